/- Proved: errors.As at a target of the type *api.Errno; api.Code: 0 of nil, else the number at the end of the chain of faults; condition: the library's variable errors.errorType holds what start-up lays. -/
import Derived.Test.YtlhjjjpldmekdaaDoorAs
import Derived.OwnWalk
namespace Go.Proofs.YtlhjjjpldmekdaaDoor.Err
open Go.RowKit Go.Extern.Stop Go.Stop Go.Extern Go.Proofs.YtlhjjjpldmekdaaDoorW.PrintWords

/-- The library's variable holds the handle of the type 'error'. -/
def Laid (w : World) : Prop := w.cell? ⟨0, 0, none⟩ = some (.iface 184 (.agg #[.pointer (some ⟨1, 25, none⟩)]))
theorem Laid.lt {w : World} (h : Laid w) : 0 < w.heap.size := by
  rcases Nat.eq_zero_or_pos w.heap.size with h0 | h1
  · unfold Laid at h; simp [World.cell?, h0] at h
  · exact h1
theorem Laid.below {w w' : World} {n : Nat} (h : Laid w) (hb : Below n w w') (hn : w.heap.size ≤ n) : Laid w' := by
  have := hb.cell (p := ⟨0, 0, none⟩) (Nat.lt_of_lt_of_le h.lt hn)
  unfold Laid at h ⊢
  rw [this]; exact h

set_option maxHeartbeats 4000000 in
set_option maxRecDepth 100000 in
theorem As_calls (x : Er) (v : Value) (t : Addr) (old : Value) (w : World) (hx : IsErr w x v) (hg : Laid w) (ht0 : w.cell? t = some old) (hf0 : w.frozen? t = false) :
    Calls Tryd.prog 81 #[v, .iface 161 (.pointer (some t))] w
      fun e w' => e = .returned (.bool true) ∧ ∃ w1, Below w.heap.size w w1 ∧ w' = w1.setCell t (.int .i64 x.code) := by
  have hV := @run_callFunc_extern Tryd.prog 105 _ (fun args => ReflectliteValue.unpack (args.getD 0 (.tuple #[]))) Tryd.func105 (by kernel_rfl) (by kernel_rfl) (by kernel_rfl) (by kernel_rfl)
  have hTy := @run_callFunc_extern Tryd.prog 106 _ (ReflectliteValue.methodAny (ReflectliteValue.valueError "reflectlite.Value.Type" 0) (fun t _ _ _ => ReflectliteType.toType t)) Tryd.func106 (by kernel_rfl) (by kernel_rfl) (by kernel_rfl) (by kernel_rfl)
  have hN := @run_callFunc_extern Tryd.prog 107 _ (ReflectliteValue.method (ReflectliteValue.valueError "reflectlite.Value.IsNil" 0) ReflectliteValue.isNil) Tryd.func107 (by kernel_rfl) (by kernel_rfl) (by kernel_rfl) (by kernel_rfl)
  have hK := @run_callFunc_extern Tryd.prog 135 _ (ReflectliteType.abiMethod fun t => do pure (.int .u8 (← Rtype.kind t))) Tryd.func135 (by kernel_rfl) (by kernel_rfl) (by kernel_rfl) (by kernel_rfl)
  have hEl := @run_callFunc_extern Tryd.prog 148 _ (ReflectliteType.method ReflectliteType.elem) Tryd.func148 (by kernel_rfl) (by kernel_rfl) (by kernel_rfl) (by kernel_rfl)
  have hIm := @run_callFunc_extern Tryd.prog 149 _ (ReflectliteType.relation "Implements" ReflectliteType.implements_) Tryd.func149 (by kernel_rfl) (by kernel_rfl) (by kernel_rfl) (by kernel_rfl)
  have vP := valueOfP
  have tP := typeP
  have mK := methodKind
  have mE := methodElem
  have mI := methodImplements
  have kP := kindP
  have kE := kindE
  have eP := elemP
  have iE := implementsE
  have n8 := isNilP ⟨w.heap.size, 0, none⟩ t ((w.alloc (.cells #[.pointer (some t)] 161)).alloc (.cells #[.pointer (some ⟨1, 161, none⟩), .pointer (some ⟨w.heap.size, 0, none⟩), .int .u64 150] 166)) (by simp)
  have hlt := hg.lt
  have htl : t.block < w.heap.size := by
    rcases Nat.lt_or_ge t.block w.heap.size with h | h
    · exact h
    · simp [World.cell?, Array.getElem?_eq_none h] at ht0
  have hg2 : ((w.alloc (.cells #[.pointer (some t)] 161)).alloc (.cells #[.pointer (some ⟨1, 161, none⟩), .pointer (some ⟨w.heap.size, 0, none⟩), .int .u64 150] 166)).cell? ⟨0, 0, none⟩ = some (.iface 184 (.agg #[.pointer (some ⟨1, 25, none⟩)])) := by
    rw [World.cell?_alloc_lt _ _ ⟨0, 0, none⟩ (by simp), World.cell?_alloc_lt _ _ ⟨0, 0, none⟩ hlt]; exact hg
  have hB : Below w.heap.size w ((w.alloc (.cells #[.pointer (some t)] 161)).alloc (.cells #[.pointer (some ⟨1, 161, none⟩), .pointer (some ⟨w.heap.size, 0, none⟩), .int .u64 150] 166)) := ((Below.refl _ _).alloc (Nat.le_refl _) _).alloc (by simp) _
  have HX := Aside0.mk (hx.below hB (Nat.le_refl _))
  obtain ⟨tt, uu, rfl⟩ := hx.ne_nil
  have HC1 := Aside0.mk (show ((w.alloc (.cells #[.pointer (some t)] 161)).alloc (.cells #[.pointer (some ⟨1, 161, none⟩), .pointer (some ⟨w.heap.size, 0, none⟩), .int .u64 150] 166)).cell? ⟨w.heap.size, 0, none⟩ = some (.pointer (some t)) by
    rw [World.cell?_alloc_lt _ _ ⟨w.heap.size, 0, none⟩ (by simp)]; simp)
  have HC2 := Aside0.mk (show ((w.alloc (.cells #[.pointer (some t)] 161)).alloc (.cells #[.pointer (some ⟨1, 161, none⟩), .pointer (some ⟨w.heap.size, 0, none⟩), .int .u64 150] 166)).cell? t = some old by
    rw [World.cell?_alloc_lt _ _ t (by simp; omega), World.cell?_alloc_lt _ _ t htl]; exact ht0)
  have HC3 := Aside0.mk (show ((w.alloc (.cells #[.pointer (some t)] 161)).alloc (.cells #[.pointer (some ⟨1, 161, none⟩), .pointer (some ⟨w.heap.size, 0, none⟩), .int .u64 150] 166)).frozen? t = false by
    rw [World.frozen?_alloc_old _ _ t (by simp; omega), World.frozen?_alloc_old _ _ t (Nat.ne_of_lt htl)]; exact hf0)
  have HB := Aside0.mk hB
  clear hx hg ht0 hf0 hB
  go_enter Tryd.func81, Tryd.ntmps81
  go_wp2_with (first | (go_at_call 108; refine (as_calls x _ t ⟨w.heap.size, 0, none⟩ old _ HX.out (by simp; omega) HC1.out HC2.out HC3.out).mono ?_; rintro e w' ⟨rfl, rfl⟩))
  go_ret
  exact ⟨rfl, _, ((HB.out.alloc (by simp; omega) _).alloc (by simp; omega) _), rfl⟩

theorem code_nil (w : World) : Calls Tryd.prog 78 #[.nilIface] w fun e w' => e = .returned (.int .i64 0) ∧ Below w.heap.size w w' := by
  go_enter Tryd.func78, Tryd.ntmps78
  go_wp2
  go_ret
  exact ⟨rfl, Below.refl _ _⟩
set_option maxHeartbeats 4000000 in
theorem code_some (x : Er) (v : Value) (w : World) (hx : IsErr w x v) (hg : Laid w) : Calls Tryd.prog 78 #[v] w fun e w' => e = .returned (.int .i64 x.code) ∧ Below w.heap.size w w' := by
  have hB : Below w.heap.size w (w.alloc (.cells #[.int .i64 0] 113)) := (Below.refl _ _).alloc (Nat.le_refl _) _
  have HX := Aside0.mk (hx.below hB (Nat.le_refl _))
  have HG := Aside0.mk (hg.below hB (Nat.le_refl _))
  obtain ⟨tt, uu, rfl⟩ := hx.ne_nil
  clear hx hg
  have HB := Aside0.mk hB
  clear hB
  go_enter Tryd.func78, Tryd.ntmps78
  go_wp2_with (first | (go_at_call 81; refine (As_calls x _ ⟨w.heap.size, 0, none⟩ (.int .i64 0) _ HX.out HG.out (by simp) (by simp)).mono ?_; rintro e w' ⟨rfl, w1, hb1, rfl⟩; have hc1 := (by have := hb1.cell (p := ⟨w.heap.size, 0, none⟩) (by simp); rw [this]; simp : w1.cell? ⟨w.heap.size, 0, none⟩ = some (.int .i64 0)); have hc2 := World.cell?_setCell_same' w1 ⟨w.heap.size, 0, none⟩ (.int .i64 x.code) (by rw [hc1]; rfl); have HB1 := Aside0.mk hb1; clear hb1 hc1))
  go_ret
  refine ⟨rfl, ?_⟩
  exact ((HB.out).trans (HB1.out.mono (by simp))).setCell (p := ⟨w.heap.size, 0, none⟩) (Nat.le_refl _) _

/-- api.Code, of whatever. -/
def codeOf : Option Er → Int
  | none => 0
  | some x => x.code
def placeOf : Option Er → Int
  | none => 0
  | some x => x.place
theorem code_calls (x : Option Er) (v : Value) (w : World) (hx : IsErr? w x v) (hg : Laid w) : Calls Tryd.prog 78 #[v] w fun e w' => e = .returned (.int .i64 (codeOf x)) ∧ Below w.heap.size w w' := by
  cases x with
  | none =>
    obtain rfl : v = .nilIface := hx
    exact code_nil w
  | some x => exact code_some x v w hx hg
end Go.Proofs.YtlhjjjpldmekdaaDoor.Err
