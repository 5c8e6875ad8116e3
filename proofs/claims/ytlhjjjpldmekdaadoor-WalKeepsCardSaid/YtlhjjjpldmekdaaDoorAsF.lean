/- Proved: errors.As at a target of the type **api.Fault, of a fault: it is found at once; no condition but what the memory holds. -/
import Derived.Test.YtlhjjjpldmekdaaDoorCode
namespace Go.Proofs.YtlhjjjpldmekdaaDoor.Err
open Go.RowKit Go.Extern.Stop Go.Stop Go.Extern Go.Proofs.YtlhjjjpldmekdaaDoorW.PrintWords

theorem valueOfQ (t : Addr) (w : World) : (ReflectliteValue.unpack (.iface 130 (.pointer (some t)))).run Tryd.prog w
    = .ok (.agg #[.pointer (some ⟨1, 130, none⟩), .pointer (some ⟨w.heap.size, 0, none⟩), .int .u64 150]) (w.alloc (.cells #[.pointer (some t)] 130)) := by kernel_rfl
theorem typeQ (a : Addr) (w : World) : (ReflectliteValue.methodAny (ReflectliteValue.valueError "reflectlite.Value.Type" 0) (fun t _ _ _ => ReflectliteType.toType t) #[.agg #[.pointer (some ⟨1, 130, none⟩), .pointer (some a), .int .u64 150]]).run Tryd.prog w
    = .ok (.iface 184 (.agg #[.pointer (some ⟨1, 130, none⟩)])) w := by kernel_rfl
theorem kindQ (w : World) : ((ReflectliteType.abiMethod fun t => (fun a : Nat => Value.int IntKind.u8 (a : Int)) <$> Rtype.kind t) #[.pointer (some ⟨1, 130, none⟩)]).run Tryd.prog w = .ok (.int .u8 22) w := by kernel_rfl
theorem kindF (w : World) : ((ReflectliteType.abiMethod fun t => (fun a : Nat => Value.int IntKind.u8 (a : Int)) <$> Rtype.kind t) #[.pointer (some ⟨1, 128, none⟩)]).run Tryd.prog w = .ok (.int .u8 22) w := by kernel_rfl
theorem partsQ (a : Addr) (w : World) : (ReflectliteValue.parts (.agg #[.pointer (some ⟨1, 130, none⟩), .pointer (some a), .int .u64 150])).run Tryd.prog w = .ok (some (130, a, 150)) w := by kernel_rfl
theorem isNilQ (a p : Addr) (W : World) (ha : W.cell? a = some (.pointer (some p))) :
    (ReflectliteValue.method (ReflectliteValue.valueError "reflectlite.Value.IsNil" 0) ReflectliteValue.isNil #[.agg #[.pointer (some ⟨1, 130, none⟩), .pointer (some a), .int .u64 150]]).run Tryd.prog W = .ok (.bool false) W := by
  rw [rlm]
  simp only [Sem.run_bind, partsQ, Result.andThen]
  simp [ReflectliteValue.isNil, loadVar, isAgg, underlying, Tryd.underlying130, ha, Result.andThen]
theorem elemQ (w : World) : (ReflectliteType.method ReflectliteType.elem #[.agg #[.pointer (some ⟨1, 130, none⟩)]]).run Tryd.prog w = .ok (.iface 184 (.agg #[.pointer (some ⟨1, 128, none⟩)])) w := by kernel_rfl
theorem implementsF (w : World) : (ReflectliteType.relation "Implements" ReflectliteType.implements_ #[.agg #[.pointer (some ⟨1, 128, none⟩)], .iface 184 (.agg #[.pointer (some ⟨1, 25, none⟩)])]).run Tryd.prog w = .ok (.bool true) w := by kernel_rfl
theorem assignableFF (w : World) : (ReflectliteType.relation "AssignableTo" ReflectliteType.assignableTo #[.agg #[.pointer (some ⟨1, 128, none⟩)], .iface 184 (.agg #[.pointer (some ⟨1, 128, none⟩)])]).run Tryd.prog w = .ok (.bool true) w := by kernel_rfl
theorem valueOfFF (p : Addr) (w : World) : (ReflectliteValue.unpack (.iface 128 (.pointer (some p)))).run Tryd.prog w
    = .ok (.agg #[.pointer (some ⟨1, 128, none⟩), .pointer (some ⟨w.heap.size, 0, none⟩), .int .u64 150]) (w.alloc (.cells #[.pointer (some p)] 128)) := by kernel_rfl
theorem elemOfQ (w : World) : (Rtype.elem? 130).run Tryd.prog w = .ok (some 128) w := by kernel_rfl
theorem mkF (p : Addr) (w : World) : (ReflectliteValue.mk 128 p ReflectliteValue.flagAddr).run Tryd.prog w = .ok (.agg #[.pointer (some ⟨1, 128, none⟩), .pointer (some p), .int .u64 406]) w := by kernel_rfl
theorem elemVQ (a p : Addr) (W : World) (ha : W.cell? a = some (.pointer (some p))) :
    (ReflectliteValue.method (ReflectliteValue.valueError "reflectlite.Value.Elem" 0) ReflectliteValue.elem #[.agg #[.pointer (some ⟨1, 130, none⟩), .pointer (some a), .int .u64 150]]).run Tryd.prog W
      = .ok (.agg #[.pointer (some ⟨1, 128, none⟩), .pointer (some p), .int .u64 406]) W := by
  rw [rlm]
  simp only [Sem.run_bind, partsQ, Result.andThen]
  simp [ReflectliteValue.elem, loadVar, isAgg, underlying, Tryd.underlying130, ha, Result.andThen, elemOfQ, mkF]
theorem partsFa (a : Addr) (w : World) : (ReflectliteValue.parts (.agg #[.pointer (some ⟨1, 128, none⟩), .pointer (some a), .int .u64 406])).run Tryd.prog w = .ok (some (128, a, 406)) w := by kernel_rfl
theorem partsF (a : Addr) (w : World) : (ReflectliteValue.parts (.agg #[.pointer (some ⟨1, 128, none⟩), .pointer (some a), .int .u64 150])).run Tryd.prog w = .ok (some (128, a, 150)) w := by kernel_rfl
theorem directF (w : World) : (Rtype.directlyAssignable 128 128).run Tryd.prog w = .ok true w := by kernel_rfl
theorem setF (ta b p : Addr) (old : Value) (W : World) (hb : W.cell? b = some (.pointer (some p))) (ht : W.cell? ta = some old) (hf : W.frozen? ta = false) :
    (ReflectliteValue.set #[.agg #[.pointer (some ⟨1, 128, none⟩), .pointer (some ta), .int .u64 406], .agg #[.pointer (some ⟨1, 128, none⟩), .pointer (some b), .int .u64 150]]).run Tryd.prog W
      = .ok (.tuple #[]) (W.setCell ta (.pointer (some p))) := by
  rw [rls]
  simp only [Sem.run_bind, partsFa, partsF, Result.andThen]
  simp [ReflectliteValue.flagAddr, loadVar, isAgg, underlying, Tryd.underlying128, hb, Result.andThen, directF, storeVar, Value.cells, storeCells, Addr.add]
  rw [run_store Tryd.prog W ta _ _ (by rfl)]
  simp [ht, hf]
set_option maxHeartbeats 4000000 in
set_option maxRecDepth 100000 in
theorem asF_calls (b : Nat) (t a0 : Addr) (old : Value) (w : World) (hlt : a0.block < w.heap.size) (hA : w.cell? a0 = some (.pointer (some t))) (ht0 : w.cell? t = some old) (hf0 : w.frozen? t = false) :
    Calls Tryd.prog 108 #[.iface 128 (.pointer (some ⟨b, 0, none⟩)), .iface 130 (.pointer (some t)), .agg #[.pointer (some ⟨1, 130, none⟩), .pointer (some a0), .int .u64 150], .iface 184 (.agg #[.pointer (some ⟨1, 128, none⟩)])] w
      fun e w' => e = .returned (.bool true) ∧ w' = ((w.alloc (.cells #[.pointer (some ⟨1, 130, none⟩), .pointer (some a0), .int .u64 150] 166)).alloc (.cells #[.pointer (some ⟨b, 0, none⟩)] 128)).setCell t (.pointer (some ⟨b, 0, none⟩)) := by
  have hT := @run_callFunc_extern Tryd.prog 117 _ ReflectliteType.typeOf Tryd.func117 (by kernel_rfl) (by kernel_rfl) (by kernel_rfl) (by kernel_rfl)
  have hAs := @run_callFunc_extern Tryd.prog 146 _ (ReflectliteType.relation "AssignableTo" ReflectliteType.assignableTo) Tryd.func146 (by kernel_rfl) (by kernel_rfl) (by kernel_rfl) (by kernel_rfl)
  have hE := @run_callFunc_extern Tryd.prog 118 _ (ReflectliteValue.method (ReflectliteValue.valueError "reflectlite.Value.Elem" 0) ReflectliteValue.elem) Tryd.func118 (by kernel_rfl) (by kernel_rfl) (by kernel_rfl) (by kernel_rfl)
  have hV := @run_callFunc_extern Tryd.prog 105 _ (fun args => ReflectliteValue.unpack (args.getD 0 (.tuple #[]))) Tryd.func105 (by kernel_rfl) (by kernel_rfl) (by kernel_rfl) (by kernel_rfl)
  have hS := @run_callFunc_extern Tryd.prog 119 _ ReflectliteValue.set Tryd.func119 (by kernel_rfl) (by kernel_rfl) (by kernel_rfl) (by kernel_rfl)
  have tF := typeOfF
  have mA := methodAssignableTo
  have aF := assignableFF
  have vF := valueOfFF
  have htl : t.block < w.heap.size := by
    rcases Nat.lt_or_ge t.block w.heap.size with h | h
    · exact h
    · simp [World.cell?, Array.getElem?_eq_none h] at ht0
  go_enter Tryd.func108, Tryd.ntmps108
  go_wp2
  go_loopg [0] 1 (fun k v0 wr => wr = w.alloc (.cells #[.pointer (some ⟨1, 130, none⟩), .pointer (some a0), .int .u64 150] 166) ∧ v0 = .iface 128 (.pointer (some ⟨b, 0, none⟩)))
  case atStart => exact ⟨rfl, rfl⟩
  case round =>
    obtain ⟨rfl, rfl⟩ := hrel
    have el := elemVQ a0 t (w.alloc (.cells #[.pointer (some ⟨1, 130, none⟩), .pointer (some a0), .int .u64 150] 166)) (by rw [World.cell?_alloc_lt _ _ a0 hlt]; exact hA)
    have st := setF t ⟨w.heap.size + 1, 0, none⟩ ⟨b, 0, none⟩ old ((w.alloc (.cells #[.pointer (some ⟨1, 130, none⟩), .pointer (some a0), .int .u64 150] 166)).alloc (.cells #[.pointer (some ⟨b, 0, none⟩)] 128))
      (by rw [World.cell?_alloc_at _ _ _ _ (by simp)]; rfl)
      (by rw [World.cell?_alloc_lt _ _ t (by simp; omega), World.cell?_alloc_lt _ _ t htl]; exact ht0)
      (by rw [World.frozen?_alloc_old _ _ t (by simp; omega), World.frozen?_alloc_old _ _ t (Nat.ne_of_lt htl)]; exact hf0)
    go_wp2
    go_ret
    exact ⟨rfl, rfl⟩
set_option maxHeartbeats 4000000 in
set_option maxRecDepth 100000 in
/-- errors.As(err, &f), f a *api.Fault, err a fault. -/
theorem AsF_calls (b : Nat) (t : Addr) (old : Value) (w : World) (hg : Laid w) (ht0 : w.cell? t = some old) (hf0 : w.frozen? t = false) :
    Calls Tryd.prog 81 #[.iface 128 (.pointer (some ⟨b, 0, none⟩)), .iface 130 (.pointer (some t))] w
      fun e w' => e = .returned (.bool true) ∧ ∃ w1, Below w.heap.size w w1 ∧ w' = w1.setCell t (.pointer (some ⟨b, 0, none⟩)) := by
  have hV := @run_callFunc_extern Tryd.prog 105 _ (fun args => ReflectliteValue.unpack (args.getD 0 (.tuple #[]))) Tryd.func105 (by kernel_rfl) (by kernel_rfl) (by kernel_rfl) (by kernel_rfl)
  have hTy := @run_callFunc_extern Tryd.prog 106 _ (ReflectliteValue.methodAny (ReflectliteValue.valueError "reflectlite.Value.Type" 0) (fun t _ _ _ => ReflectliteType.toType t)) Tryd.func106 (by kernel_rfl) (by kernel_rfl) (by kernel_rfl) (by kernel_rfl)
  have hN := @run_callFunc_extern Tryd.prog 107 _ (ReflectliteValue.method (ReflectliteValue.valueError "reflectlite.Value.IsNil" 0) ReflectliteValue.isNil) Tryd.func107 (by kernel_rfl) (by kernel_rfl) (by kernel_rfl) (by kernel_rfl)
  have hK := @run_callFunc_extern Tryd.prog 135 _ (ReflectliteType.abiMethod fun t => do pure (.int .u8 (← Rtype.kind t))) Tryd.func135 (by kernel_rfl) (by kernel_rfl) (by kernel_rfl) (by kernel_rfl)
  have hEl := @run_callFunc_extern Tryd.prog 148 _ (ReflectliteType.method ReflectliteType.elem) Tryd.func148 (by kernel_rfl) (by kernel_rfl) (by kernel_rfl) (by kernel_rfl)
  have hIm := @run_callFunc_extern Tryd.prog 149 _ (ReflectliteType.relation "Implements" ReflectliteType.implements_) Tryd.func149 (by kernel_rfl) (by kernel_rfl) (by kernel_rfl) (by kernel_rfl)
  have vP := valueOfQ
  have tP := typeQ
  have mK := methodKind
  have mE := methodElem
  have mI := methodImplements
  have kP := kindQ
  have kE := kindF
  have eP := elemQ
  have iE := implementsF
  have n8 := isNilQ ⟨w.heap.size, 0, none⟩ t ((w.alloc (.cells #[.pointer (some t)] 130)).alloc (.cells #[.pointer (some ⟨1, 130, none⟩), .pointer (some ⟨w.heap.size, 0, none⟩), .int .u64 150] 166)) (by simp)
  have hlt := hg.lt
  have htl : t.block < w.heap.size := by
    rcases Nat.lt_or_ge t.block w.heap.size with h | h
    · exact h
    · simp [World.cell?, Array.getElem?_eq_none h] at ht0
  have hg2 : ((w.alloc (.cells #[.pointer (some t)] 130)).alloc (.cells #[.pointer (some ⟨1, 130, none⟩), .pointer (some ⟨w.heap.size, 0, none⟩), .int .u64 150] 166)).cell? ⟨0, 0, none⟩ = some (.iface 184 (.agg #[.pointer (some ⟨1, 25, none⟩)])) := by
    rw [World.cell?_alloc_lt _ _ ⟨0, 0, none⟩ (by simp), World.cell?_alloc_lt _ _ ⟨0, 0, none⟩ hlt]; exact hg
  have hB : Below w.heap.size w ((w.alloc (.cells #[.pointer (some t)] 130)).alloc (.cells #[.pointer (some ⟨1, 130, none⟩), .pointer (some ⟨w.heap.size, 0, none⟩), .int .u64 150] 166)) := ((Below.refl _ _).alloc (Nat.le_refl _) _).alloc (by simp) _
  have HC1 := Aside0.mk (show ((w.alloc (.cells #[.pointer (some t)] 130)).alloc (.cells #[.pointer (some ⟨1, 130, none⟩), .pointer (some ⟨w.heap.size, 0, none⟩), .int .u64 150] 166)).cell? ⟨w.heap.size, 0, none⟩ = some (.pointer (some t)) by
    rw [World.cell?_alloc_lt _ _ ⟨w.heap.size, 0, none⟩ (by simp)]; simp)
  have HC2 := Aside0.mk (show ((w.alloc (.cells #[.pointer (some t)] 130)).alloc (.cells #[.pointer (some ⟨1, 130, none⟩), .pointer (some ⟨w.heap.size, 0, none⟩), .int .u64 150] 166)).cell? t = some old by
    rw [World.cell?_alloc_lt _ _ t (by simp; omega), World.cell?_alloc_lt _ _ t htl]; exact ht0)
  have HC3 := Aside0.mk (show ((w.alloc (.cells #[.pointer (some t)] 130)).alloc (.cells #[.pointer (some ⟨1, 130, none⟩), .pointer (some ⟨w.heap.size, 0, none⟩), .int .u64 150] 166)).frozen? t = false by
    rw [World.frozen?_alloc_old _ _ t (by simp; omega), World.frozen?_alloc_old _ _ t (Nat.ne_of_lt htl)]; exact hf0)
  have HB := Aside0.mk hB
  clear hg ht0 hf0 hB
  go_enter Tryd.func81, Tryd.ntmps81
  go_wp2_with (first | (go_at_call 108; refine (asF_calls b t ⟨w.heap.size, 0, none⟩ old _ (by simp; omega) HC1.out HC2.out HC3.out).mono ?_; rintro e w' ⟨rfl, rfl⟩))
  go_ret
  exact ⟨rfl, _, ((HB.out.alloc (by simp; omega) _).alloc (by simp; omega) _), rfl⟩
theorem AsF_nil (t : Addr) (w : World) : Calls Tryd.prog 81 #[.nilIface, .iface 130 (.pointer (some t))] w fun e w' => e = .returned (.bool false) ∧ w = w' := by
  go_enter Tryd.func81, Tryd.ntmps81
  go_wp2
  go_ret
  exact ⟨rfl, rfl⟩
end Go.Proofs.YtlhjjjpldmekdaaDoor.Err
