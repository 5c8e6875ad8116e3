/- Proved: errors.As at a target of the type *api.Errno, and api.Code: the number at the end of a chain of faults; no condition but what the memory holds. After the kit's worked text ToyasAs. -/
import Derived.Test.YtlhjjjpldmekdaaDoorProg
import Derived.WalkKit
import Derived.LaidEql
import Derived.Stop.Asserts
import Derived.RowKitTokens
import Derived.Below
import Derived.Deep.LoopGhost
import Derived.OwnWalk
import Derived.Test.YtlhjjjpldmekdaaDoorWWords
namespace Go.Proofs.YtlhjjjpldmekdaaDoor.Err
open Go.RowKit Go.Extern.Stop Go.Stop Go.Extern Go.Proofs.YtlhjjjpldmekdaaDoorW.PrintWords

/-- An error that is there: a number, or a fault round another one. -/
inductive Er where
  | num (n : Int)
  | fault (wh : ByteArray) (at_ : Int) (e : Er)
def Er.code : Er → Int
  | .num n => n
  | .fault _ _ e => e.code
def Er.place : Er → Int
  | .num _ => 0
  | .fault _ a _ => a
def Er.depth : Er → Nat
  | .num _ => 0
  | .fault _ _ e => e.depth + 1
/-- What a value is as an error. -/
def IsErr (w : World) : Er → Value → Prop
  | .num n, v => v = .iface 113 (.int .i64 n)
  | .fault wh a e, v => ∃ (b : Nat) (v' : Value), v = .iface 128 (.pointer (some ⟨b, 0, none⟩)) ∧ w.heap[b]? = some (.cells #[.string wh, .int .i64 a, v'] 139 (0, 0)) ∧ IsErr w e v'
theorem IsErr.step {w w' : World} (h : ∀ (b : Nat) (cs : Array Value), w.heap[b]? = some (.cells cs 139 (0, 0)) → w'.heap[b]? = some (.cells cs 139 (0, 0))) : ∀ {x : Er} {v : Value}, IsErr w x v → IsErr w' x v
  | .num _, _, hx => hx
  | .fault _ _ _, _, ⟨b, v', e1, e2, e3⟩ => ⟨b, v', e1, h b _ e2, IsErr.step h e3⟩
theorem IsErr.below {w w' : World} {n : Nat} (hb : Below n w w') (hn : w.heap.size ≤ n) {x : Er} {v : Value} (hx : IsErr w x v) : IsErr w' x v :=
  hx.step fun b cs h => by
    have hlt := (Array.getElem?_eq_some_iff.1 h).1
    rw [hb.block b (by omega)]; exact h
/-- nil, or an error. -/
def IsErr? (w : World) : Option Er → Value → Prop
  | none, v => v = .nilIface
  | some x, v => IsErr w x v
theorem IsErr?.below {w w' : World} {n : Nat} (hb : Below n w w') (hn : w.heap.size ≤ n) : ∀ {x : Option Er} {v : Value}, IsErr? w x v → IsErr? w' x v
  | none, _, h => h
  | some _, _, h => IsErr.below hb hn h

/-! ### closed facts on the model's entries for internal/reflectlite -/
theorem valueOfP (t : Addr) (w : World) : (ReflectliteValue.unpack (.iface 161 (.pointer (some t)))).run Tryd.prog w
    = .ok (.agg #[.pointer (some ⟨1, 161, none⟩), .pointer (some ⟨w.heap.size, 0, none⟩), .int .u64 150]) (w.alloc (.cells #[.pointer (some t)] 161)) := by kernel_rfl
theorem typeP (a : Addr) (w : World) : (ReflectliteValue.methodAny (ReflectliteValue.valueError "reflectlite.Value.Type" 0) (fun t _ _ _ => ReflectliteType.toType t) #[.agg #[.pointer (some ⟨1, 161, none⟩), .pointer (some a), .int .u64 150]]).run Tryd.prog w
    = .ok (.iface 184 (.agg #[.pointer (some ⟨1, 161, none⟩)])) w := by kernel_rfl
theorem methodKind (h : Value) (w : World) : (Go.method 331 184 (.agg #[h]) "Kind").run Tryd.prog w = .ok (135, h) w := by kernel_rfl
theorem kindP (w : World) : ((ReflectliteType.abiMethod fun t => (fun a : Nat => Value.int IntKind.u8 (a : Int)) <$> Rtype.kind t) #[.pointer (some ⟨1, 161, none⟩)]).run Tryd.prog w = .ok (.int .u8 22) w := by kernel_rfl
theorem kindE (w : World) : ((ReflectliteType.abiMethod fun t => (fun a : Nat => Value.int IntKind.u8 (a : Int)) <$> Rtype.kind t) #[.pointer (some ⟨1, 113, none⟩)]).run Tryd.prog w = .ok (.int .u8 2) w := by kernel_rfl
theorem rlm (z : Sem Value) (f : TypeId → Addr → Nat → Nat → Sem Value) (v : Value) :
    ReflectliteValue.method z f #[v] = (do match ← ReflectliteValue.parts v with | none => z | some (t, a, fl) => f t a fl (fl % 32)) := rfl
theorem partsP (a : Addr) (w : World) : (ReflectliteValue.parts (.agg #[.pointer (some ⟨1, 161, none⟩), .pointer (some a), .int .u64 150])).run Tryd.prog w = .ok (some (161, a, 150)) w := by kernel_rfl
theorem isNilP (a p : Addr) (W : World) (ha : W.cell? a = some (.pointer (some p))) :
    (ReflectliteValue.method (ReflectliteValue.valueError "reflectlite.Value.IsNil" 0) ReflectliteValue.isNil #[.agg #[.pointer (some ⟨1, 161, none⟩), .pointer (some a), .int .u64 150]]).run Tryd.prog W = .ok (.bool false) W := by
  rw [rlm]
  simp only [Sem.run_bind, partsP, Result.andThen]
  simp [ReflectliteValue.isNil, loadVar, isAgg, underlying, Tryd.underlying161, ha, Result.andThen]
theorem methodElem (h : Value) (w : World) : (Go.method 331 184 (.agg #[h]) "Elem").run Tryd.prog w = .ok (148, .agg #[h]) w := by kernel_rfl
theorem methodImplements (h : Value) (w : World) : (Go.method 331 184 (.agg #[h]) "Implements").run Tryd.prog w = .ok (149, .agg #[h]) w := by kernel_rfl
theorem methodAssignableTo (h : Value) (w : World) : (Go.method 331 184 (.agg #[h]) "AssignableTo").run Tryd.prog w = .ok (146, .agg #[h]) w := by kernel_rfl
theorem elemP (w : World) : (ReflectliteType.method ReflectliteType.elem #[.agg #[.pointer (some ⟨1, 161, none⟩)]]).run Tryd.prog w = .ok (.iface 184 (.agg #[.pointer (some ⟨1, 113, none⟩)])) w := by kernel_rfl
theorem implementsE (w : World) : (ReflectliteType.relation "Implements" ReflectliteType.implements_ #[.agg #[.pointer (some ⟨1, 113, none⟩)], .iface 184 (.agg #[.pointer (some ⟨1, 25, none⟩)])]).run Tryd.prog w = .ok (.bool true) w := by kernel_rfl
theorem typeOfE (v : Value) (w : World) : (ReflectliteType.typeOf #[.iface 113 v]).run Tryd.prog w = .ok (.iface 184 (.agg #[.pointer (some ⟨1, 113, none⟩)])) w := by kernel_rfl
theorem typeOfF (v : Value) (w : World) : (ReflectliteType.typeOf #[.iface 128 v]).run Tryd.prog w = .ok (.iface 184 (.agg #[.pointer (some ⟨1, 128, none⟩)])) w := by kernel_rfl
theorem assignableE (w : World) : (ReflectliteType.relation "AssignableTo" ReflectliteType.assignableTo #[.agg #[.pointer (some ⟨1, 113, none⟩)], .iface 184 (.agg #[.pointer (some ⟨1, 113, none⟩)])]).run Tryd.prog w = .ok (.bool true) w := by kernel_rfl
theorem assignableF (w : World) : (ReflectliteType.relation "AssignableTo" ReflectliteType.assignableTo #[.agg #[.pointer (some ⟨1, 128, none⟩)], .iface 184 (.agg #[.pointer (some ⟨1, 113, none⟩)])]).run Tryd.prog w = .ok (.bool false) w := by kernel_rfl
theorem valueOfE (n : Int) (w : World) : (ReflectliteValue.unpack (.iface 113 (.int .i64 n))).run Tryd.prog w
    = .ok (.agg #[.pointer (some ⟨1, 113, none⟩), .pointer (some ⟨w.heap.size, 0, none⟩), .int .u64 130]) (w.alloc (.cells #[.int .i64 n] 113)) := by kernel_rfl
theorem elemOfP (w : World) : (Rtype.elem? 161).run Tryd.prog w = .ok (some 113) w := by kernel_rfl
theorem mkE (p : Addr) (w : World) : (ReflectliteValue.mk 113 p ReflectliteValue.flagAddr).run Tryd.prog w = .ok (.agg #[.pointer (some ⟨1, 113, none⟩), .pointer (some p), .int .u64 386]) w := by kernel_rfl
theorem elemVP (a p : Addr) (W : World) (ha : W.cell? a = some (.pointer (some p))) :
    (ReflectliteValue.method (ReflectliteValue.valueError "reflectlite.Value.Elem" 0) ReflectliteValue.elem #[.agg #[.pointer (some ⟨1, 161, none⟩), .pointer (some a), .int .u64 150]]).run Tryd.prog W
      = .ok (.agg #[.pointer (some ⟨1, 113, none⟩), .pointer (some p), .int .u64 386]) W := by
  rw [rlm]
  simp only [Sem.run_bind, partsP, Result.andThen]
  simp [ReflectliteValue.elem, loadVar, isAgg, underlying, Tryd.underlying161, ha, Result.andThen, elemOfP, mkE]
theorem rls (v x : Value) : ReflectliteValue.set #[v, x] = (do
    let (some (dst, a, fl), some (src, b, _)) := (← ReflectliteValue.parts v, ← ReflectliteValue.parts x)
      | unsupported (.noEntry "extern/(internal/reflectlite.Value).Set.zeroValue")
    if fl / ReflectliteValue.flagAddr % 2 == 0 then unsupported (.noEntry "extern/(internal/reflectlite.Value).Set.unaddressable")
    let val ← loadVar src b
    if ← Rtype.directlyAssignable dst src then storeVar dst a val
    else if ← Rtype.implements dst src then
      if (← Rtype.kind src) == 20 then
        match val with
        | .nilIface => unsupported (.noEntry "extern/reflectlite: a nil value of one interface type handed on as a value of another")
        | _ => storeVar dst a val
      else storeVar dst a (.iface src val)
    else panicString ("reflectlite.Set: value of type " ++ (← Rtype.spelt src) ++ " is not assignable to type " ++ (← Rtype.spelt dst))
    pure (.tuple #[])) := rfl
theorem partsEa (a : Addr) (w : World) : (ReflectliteValue.parts (.agg #[.pointer (some ⟨1, 113, none⟩), .pointer (some a), .int .u64 386])).run Tryd.prog w = .ok (some (113, a, 386)) w := by kernel_rfl
theorem partsE (a : Addr) (w : World) : (ReflectliteValue.parts (.agg #[.pointer (some ⟨1, 113, none⟩), .pointer (some a), .int .u64 130])).run Tryd.prog w = .ok (some (113, a, 130)) w := by kernel_rfl
theorem directE (w : World) : (Rtype.directlyAssignable 113 113).run Tryd.prog w = .ok true w := by kernel_rfl
theorem setE (ta b : Addr) (n : Int) (old : Value) (W : World) (hb : W.cell? b = some (.int .i64 n)) (ht : W.cell? ta = some old) (hf : W.frozen? ta = false) :
    (ReflectliteValue.set #[.agg #[.pointer (some ⟨1, 113, none⟩), .pointer (some ta), .int .u64 386], .agg #[.pointer (some ⟨1, 113, none⟩), .pointer (some b), .int .u64 130]]).run Tryd.prog W
      = .ok (.tuple #[]) (W.setCell ta (.int .i64 n)) := by
  rw [rls]
  simp only [Sem.run_bind, partsEa, partsE, Result.andThen]
  simp [ReflectliteValue.flagAddr, loadVar, isAgg, underlying, Tryd.underlying113, hb, Result.andThen, directE, storeVar, Value.cells, storeCells, Addr.add]
  rw [run_store Tryd.prog W ta _ _ (by rfl)]
  simp [ht, hf]
theorem taAs (x : Value) (w : World) : (Instr.typeAssert (.iface 128 x) 25 189 true).run Tryd.prog w = .ok (.tuple #[.nilIface, .bool false]) w := run_typeAssert_lacksB Tryd.underlying189 (by kernel_rfl) (by kernel_rfl) x 25 w
theorem taUnwrap (x : Value) (w : World) : (Instr.typeAssert (.iface 128 x) 25 192 true).run Tryd.prog w = .ok (.tuple #[.iface 128 x, .bool true]) w := run_typeAssert_hasB Tryd.underlying192 (by kernel_rfl) x 25 w
theorem methodUnwrap (x : Value) (w : World) : (Go.method 331 128 x "Unwrap").run Tryd.prog w = .ok (141, x) w := by kernel_rfl

/-! ### errors.as -/
theorem IsErr.ne_nil {w : World} : ∀ {x : Er} {v : Value}, IsErr w x v → ∃ t u, v = .iface t u
  | .num _, _, h => ⟨_, _, h⟩
  | .fault _ _ _, _, ⟨_, _, h, _, _⟩ => ⟨_, _, h⟩
theorem IsErr.typed {w : World} : ∀ {x : Er} {v : Value}, IsErr w x v → ∃ t u, v = .iface t u ∧ (t = 113 ∨ t = 128)
  | .num _, _, h => ⟨_, _, h, .inl rfl⟩
  | .fault _ _ _, _, ⟨_, _, h, _, _⟩ => ⟨_, _, h, .inr rfl⟩
theorem blk_cell {w : World} {b : Nat} {cs : Array Value} {t : TypeId} (h : w.heap[b]? = some (.cells cs t (0, 0))) (j : Nat) (u : Value) (hj : cs[j]? = some u) : w.cell? ⟨b, j, none⟩ = some u := by
  simp [World.cell?, h, hj]
theorem unwrap_calls (w : World) (b : Nat) (c0 c1 v : Value) (h : w.heap[b]? = some (.cells #[c0, c1, v] 139 (0, 0))) :
    Calls Tryd.prog 141 #[.pointer (some ⟨b, 0, none⟩)] w fun e w' => e = .returned v ∧ w = w' := by
  have hc := blk_cell h 2 v rfl
  go_enter Tryd.func141, Tryd.ntmps141
  go_wp2
  go_ret
  exact ⟨rfl, rfl⟩

set_option maxHeartbeats 4000000 in
set_option maxRecDepth 100000 in
theorem as_calls (x : Er) (v : Value) (t a0 : Addr) (old : Value) (w : World) (hx : IsErr w x v) (hlt : a0.block < w.heap.size) (hA : w.cell? a0 = some (.pointer (some t))) (ht0 : w.cell? t = some old) (hf0 : w.frozen? t = false) :
    Calls Tryd.prog 108 #[v, .iface 161 (.pointer (some t)), .agg #[.pointer (some ⟨1, 161, none⟩), .pointer (some a0), .int .u64 150], .iface 184 (.agg #[.pointer (some ⟨1, 113, none⟩)])] w
      fun e w' => e = .returned (.bool true) ∧ w' = ((w.alloc (.cells #[.pointer (some ⟨1, 161, none⟩), .pointer (some a0), .int .u64 150] 166)).alloc (.cells #[.int .i64 x.code] 113)).setCell t (.int .i64 x.code) := by
  have hT := @run_callFunc_extern Tryd.prog 117 _ ReflectliteType.typeOf Tryd.func117 (by kernel_rfl) (by kernel_rfl) (by kernel_rfl) (by kernel_rfl)
  have hAs := @run_callFunc_extern Tryd.prog 146 _ (ReflectliteType.relation "AssignableTo" ReflectliteType.assignableTo) Tryd.func146 (by kernel_rfl) (by kernel_rfl) (by kernel_rfl) (by kernel_rfl)
  have hE := @run_callFunc_extern Tryd.prog 118 _ (ReflectliteValue.method (ReflectliteValue.valueError "reflectlite.Value.Elem" 0) ReflectliteValue.elem) Tryd.func118 (by kernel_rfl) (by kernel_rfl) (by kernel_rfl) (by kernel_rfl)
  have hV := @run_callFunc_extern Tryd.prog 105 _ (fun args => ReflectliteValue.unpack (args.getD 0 (.tuple #[]))) Tryd.func105 (by kernel_rfl) (by kernel_rfl) (by kernel_rfl) (by kernel_rfl)
  have hS := @run_callFunc_extern Tryd.prog 119 _ ReflectliteValue.set Tryd.func119 (by kernel_rfl) (by kernel_rfl) (by kernel_rfl) (by kernel_rfl)
  have tE := typeOfE
  have tF := typeOfF
  have mA := methodAssignableTo
  have mU := methodUnwrap
  have aE := assignableE
  have aF := assignableF
  have vE := valueOfE
  have htl : t.block < w.heap.size := by
    rcases Nat.lt_or_ge t.block w.heap.size with h | h
    · exact h
    · simp [World.cell?, Array.getElem?_eq_none h] at ht0
  have tA1 := taAs
  have tU := taUnwrap
  go_enter Tryd.func108, Tryd.ntmps108
  go_wp2
  go_loopg [0] (x.depth) (fun k v0 wr => wr = w.alloc (.cells #[.pointer (some ⟨1, 161, none⟩), .pointer (some a0), .int .u64 150] 166) ∧ ∃ y, IsErr w y v0 ∧ Aside0 (y.code = x.code) ∧ y.depth ≤ k)
  case atStart => exact ⟨rfl, x, hx, ⟨rfl⟩, Nat.le_refl _⟩
  case round =>
    obtain ⟨rfl, y, hy, hc, hd⟩ := hrel
    cases y with
    | num n =>
      obtain rfl := hy
      have el := elemVP a0 t (w.alloc (.cells #[.pointer (some ⟨1, 161, none⟩), .pointer (some a0), .int .u64 150] 166)) (by rw [World.cell?_alloc_lt _ _ a0 hlt]; exact hA)
      have st := setE t ⟨w.heap.size + 1, 0, none⟩ n old ((w.alloc (.cells #[.pointer (some ⟨1, 161, none⟩), .pointer (some a0), .int .u64 150] 166)).alloc (.cells #[.int .i64 n] 113))
        (by rw [World.cell?_alloc_at _ _ _ _ (by simp)]; rfl)
        (by rw [World.cell?_alloc_lt _ _ t (by simp; omega), World.cell?_alloc_lt _ _ t htl]; exact ht0)
        (by rw [World.frozen?_alloc_old _ _ t (by simp; omega), World.frozen?_alloc_old _ _ t (Nat.ne_of_lt htl)]; exact hf0)
      go_wp2
      go_ret
      exact ⟨rfl, by rw [← hc.out]; rfl⟩
    | fault wh a e =>
      obtain ⟨b, v', rfl, hb, he⟩ := hy
      obtain ⟨tt, uu, rfl⟩ := he.ne_nil
      have hlb := (Array.getElem?_eq_some_iff.1 hb).1
      have hb2 : (w.alloc (.cells #[.pointer (some ⟨1, 161, none⟩), .pointer (some a0), .int .u64 150] 166)).heap[b]? = some (.cells #[.string wh, .int .i64 a, .iface tt uu] 139 (0, 0)) := by
        rw [← hb]; exact Below.heap_alloc w _ b hlb
      have Hb2 := Aside0.mk hb2
      clear hb2
      go_wp2_with (first | (go_at_call 141; refine (unwrap_calls _ b _ _ _ Hb2.out).mono ?_; rintro e w' ⟨rfl, rfl⟩))
      go_roundg (gk - 1)
      case measure => simp only [Er.depth] at hd; omega
      case rel => exact ⟨rfl, e, he, ⟨hc.out⟩, by simp only [Er.depth] at hd; omega⟩

end Go.Proofs.YtlhjjjpldmekdaaDoor.Err
