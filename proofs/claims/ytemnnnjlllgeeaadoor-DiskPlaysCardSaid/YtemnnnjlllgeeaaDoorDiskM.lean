/- Proved: what a disk's blocks are (a map from numbers to rows of the disk's own), and how a look-up and a store go; condition: numbers that fit. -/
import Derived.Test.YtemnnnjlllgeeaaDoorDiskG
import Derived.Maps.OwnSet
import Derived.DataShut
import Derived.OpenShut
namespace Go.Proofs.YtemnnnjlllgeeaaDoor.PDsk
open Go.RowKit Go.Proofs.YtemnnnjlllgeeaaDoorW.PrintWords Go.Proofs.YtemnnnjlllgeeaaDoorW.PrintLast Go.Proofs.YtemnnnjlllgeeaaDoorW.PrintMore Go.Proofs.YtemnnnjlllgeeaaDoor.Err Go.Maps
attribute [local go_sem] max2_int min2_int max_two min_two max_three min_three max_four min_four
set_option linter.unusedVariables false
set_option linter.unusedSimpArgs false

def okI (x : Int) : Prop := -9223372036854775808 ≤ x ∧ x ≤ 9223372036854775807
theorem okI_wf {x : Int} (h : okI x) : (Lit.int .i64 x).wf = true := (Lit.wf_int_iff .i64 x).2 h
theorem keyed : Keyed Tryd.prog 3 := int_keyed Tryd.underlying3
theorem key_of {x : Int} (h : okI x) : keyOf Tryd.prog 3 (.int .i64 x) = some (.int .i64 x) := keyOf_int_mk Tryd.underlying3 (okI_wf h)
theorem zeroRow (w : World) : (zeroValue 30).run Tryd.prog w = .ok (.slice none 0 0) w := by kernel_rfl
/-- An element's value is told as it is. -/
def heldElem (v : Value) : Option (DataW Value × List MemPlace) := some (.held v, [])
def nilRow : DataW Value := .held (.slice none 0 0)
/-- The map's block Bm reads as D. -/
def Mp (w : World) (Bm n : Nat) (D : DataW Value) : Prop := w.ownsMap Tryd.prog 3 heldElem Bm n D
theorem Mp.kept {w w' : World} {Bm n : Nat} {D : DataW Value} {S : Nat → Prop} (h : Mp w Bm n D) (hf : Fr S w w') (hS : ¬ S Bm) : Mp w' Bm n D := by
  obtain ⟨es, clock, hb, F, hs, hd⟩ := h
  exact ⟨es, clock, (hf.block Bm (Array.getElem?_eq_some_iff.1 hb).1 hS).trans hb, F, hs, hd⟩
/-- A row of the disk's own. -/
def Rw (w : World) (base Bs Bm : Nat) (v : Value) (xs : List Int) : Prop := Kd.R (Kd.int .u8) 5 w base (fun b => b ≠ Bs ∧ b ≠ Bm) v xs
theorem Rw.kept {w w' : World} {base Bs Bm : Nat} {v : Value} {xs : List Int} {S : Nat → Prop} (h : Rw w base Bs Bm v xs) (hf : Fr S w w') (hS : ∀ b, S b → b = Bs ∨ b = Bm) : Rw w' base Bs Bm v xs :=
  Kd.R_step h fun k hk hlt => hf.block k hlt (fun hs => by rcases hS k hs with e | e; exact hk.1 e; exact hk.2 e)
/-- The blocks' contents: what number k holds. -/
def Holds (w : World) (base Bs Bm : Nat) (D : DataW Value) (k : Int) : Option (List Int) → Prop
  | none => Go.Maps.has D (.int .i64 k) = false ∧ D.atKey (.int .i64 k) nilRow = nilRow
  | some xs => Go.Maps.has D (.int .i64 k) = true ∧ ∃ v, D.atKey (.int .i64 k) nilRow = .held v ∧ Rw w base Bs Bm v xs
structure Cont (w : World) (base Bs Bm n : Nat) (C : Int → Option (List Int)) : Prop where
  map : ∃ D, Mp w Bm n D ∧ ∀ k, okI k → Holds w base Bs Bm D k (C k)
theorem Cont.kept {w w' : World} {base Bs Bm n : Nat} {C : Int → Option (List Int)} {S : Nat → Prop} (h : Cont w base Bs Bm n C) (hf : Fr S w w') (hS : ∀ b, S b → b = Bs) (hne : Bs ≠ Bm) : Cont w' base Bs Bm n C := by
  obtain ⟨D, hM, hk⟩ := h.map
  refine ⟨D, hM.kept hf (fun hs => hne (hS Bm hs).symm), fun k hok => ?_⟩
  have := hk k hok
  cases hc : C k with
  | none => rw [hc] at this; exact this
  | some xs =>
    rw [hc] at this
    obtain ⟨h1, v, h2, h3⟩ := this
    exact ⟨h1, v, h2, h3.kept hf (fun b hb => Or.inl (hS b hb))⟩
theorem Cont.made (w : World) (base Bs : Nat) : Cont (w.alloc (.map #[] 0)) base Bs w.heap.size 0 (fun _ => none) :=
  ⟨.map [], World.ownsMap_made _ _ _ _, fun k _ => ⟨rfl, rfl⟩⟩
/-- What is read at a place. -/
theorem Cont.look {w : World} {base Bs Bm n : Nat} {C : Int → Option (List Int)} (h : Cont w base Bs Bm n C) {k : Int} (hk : okI k) :
    ∃ v xs, (Instr.lookup 73 (.map (some Bm)) (.int .i64 k) true).run Tryd.prog w = .ok (.tuple #[v, .bool (C k).isSome]) w ∧ xs = (C k).getD [] ∧ Rw w base Bs Bm v xs := by
  obtain ⟨D, hM, hD⟩ := h.map
  obtain ⟨v, ps, hrun, hv⟩ := World.ownsMap.look_ok hM keyed Tryd.underlying73 (zeroRow w) (zd := nilRow) (zp := []) rfl (key_of hk)
  have hv' : DataW.held v = D.atKey (.int .i64 k) nilRow := by
    have := Option.some.inj hv
    exact congrArg Prod.fst this
  have := hD k hk
  cases hc : C k with
  | none =>
    rw [hc] at this
    obtain ⟨h1, h2⟩ := this
    rw [h1] at hrun
    rw [h2] at hv'
    have e : v = .slice none 0 0 := by unfold nilRow at hv'; injection hv'
    subst e
    exact ⟨_, [], hrun, rfl, Kd.R_nil _ _ _ _ _⟩
  | some xs =>
    rw [hc] at this
    obtain ⟨h1, v', h2, h3⟩ := this
    rw [h1] at hrun
    rw [h2] at hv'
    have e : v = v' := by injection hv'
    subst e
    exact ⟨v, xs, hrun, rfl, h3⟩
/-- What a store leaves. -/
theorem Cont.store {w : World} {base Bs Bm n : Nat} {C : Int → Option (List Int)} (h : Cont w base Bs Bm n C) (hn : n < maxLen) (hne : Bs ≠ Bm) {k : Int} (hk : okI k) {v : Value} {xs : List Int} (hv : Rw w base Bs Bm v xs) :
    ∃ w', (Instr.mapUpdate 73 (.map (some Bm)) (.int .i64 k) v).run Tryd.prog w = .ok () w' ∧ Cont w' base Bs Bm (n + 1) (fun j => if j = k then some xs else C j) ∧ Fr (· = Bm) w w' := by
  obtain ⟨D, hM, hD⟩ := h.map
  obtain ⟨w', hrun, hM', ht⟩ := World.ownsMap.store hM keyed Tryd.underlying73 hn (key_of hk) (d := .held v) (ps := []) rfl
  have hg := ht.grown
  have hf : Fr (· = Bm) w w' := ⟨hg.os, hg.tape, hg.output, hg.size, fun i hi hs => hg.block i hi (fun e => hs (Option.some.inj e))⟩
  have hD' : IsMap D := hM.isMap
  refine ⟨w', hrun, ⟨D.put (.int .i64 k) (.held v), hM', fun j hj => ?_⟩, hf⟩
  by_cases hjk : j = k
  · subst hjk
    rw [if_pos rfl]
    exact ⟨has_put_same hD' (show WideAt.IsKeyLit (.int .i64 j) from trivial) _, v, atKey_put_same hD' (show WideAt.IsKeyLit (.int .i64 j) from trivial) _ _, hv.kept hf (fun b hb => Or.inr hb)⟩
  · rw [if_neg hjk]
    have hne' : (Lit.int .i64 j) ≠ .int .i64 k := fun e => hjk (by injection e)
    have := hD j hj
    cases hc : C j with
    | none => rw [hc] at this; exact ⟨(has_put_other hne' _).trans this.1, (atKey_put_other hne' _ _).trans this.2⟩
    | some ys =>
      rw [hc] at this
      obtain ⟨h1, v', h2, h3⟩ := this
      exact ⟨(has_put_other hne' _).trans h1, v', (atKey_put_other hne' _ _).trans h2, h3.kept hf (fun b hb => Or.inr hb)⟩

theorem info8 : (Tryd.prog.info? 5).map (fun i => (i.zero, i.size, i.bytes)) = some (some (.int .u8 0), 1, 1) := by kernel_rfl
/-! ### New -/
set_option maxHeartbeats 8000000 in
theorem new_ok (room : Int) (w : World) (h0 : 1 ≤ room) (h1 : room ≤ 65536) : Calls Tryd.prog 13 #[.int .i64 room] w fun e w' => ∃ Bs Bm, e = .returned (.tuple #[.pointer (some ⟨Bs, 0, none⟩), .nilIface]) ∧ w.heap.size ≤ Bs ∧ w.heap.size ≤ Bm ∧ Bs ≠ Bm ∧ St w' Bs Bm ⟨room, false, 0, 0, 0⟩ ∧ Cont w' w.heap.size Bs Bm 0 (fun _ => none) ∧ Below w.heap.size w w' := by
  have c0 : decide (room < 1) = false := decide_eq_false (by omega)
  have c1 : decide (65536 < room) = false := decide_eq_false (by omega)
  have hmm := @run_makeMap Tryd.prog
  go_enter Tryd.func13, Tryd.ntmps13
  go_wp2
  go_ret2
  refine ⟨w.heap.size + 1, w.heap.size, by simp, by omega, Nat.le_refl _, by omega, ?_, ?_, ?_⟩
  · have := heap_alloc_new (w.alloc (.map #[] 0)) (Obj.cells #[.int .i64 room, .map (some w.heap.size), .bool false, .int .i64 0, .int .i64 0, .int .i64 0] 75)
    unfold St
    rwa [show (w.alloc (.map #[] 0)).heap.size = w.heap.size + 1 by simp] at this
  · refine (Cont.made w w.heap.size (w.heap.size + 1)).kept (S := fun _ => False) (Fr.of_below (below_alloc (Below.refl _ _) _)) (fun b hb => hb.elim) (by omega)
  · exact below_alloc (below_alloc (Below.refl _ _) _) _
set_option maxHeartbeats 8000000 in
theorem new_bad (room : Int) (w : World) (h : room < 1 ∨ 65536 < room) : Calls Tryd.prog 13 #[.int .i64 room] w fun e w' => ∃ v, e = .returned (.tuple #[.pointer none, v]) ∧ IsErr w' (.fault diskS 0 (.num 1)) v ∧ Below w.heap.size w w' ∧ ErrNew w.heap.size v := by
  cases c0 : decide (room < 1)
  · have c1 : decide (65536 < room) = true := decide_eq_true (by have := of_decide_eq_false c0; omega)
    go_enter Tryd.func13, Tryd.ntmps13
    go_wp2_with (first | (go_at_call 48; refine (fault_calls _ _ _).mono ?_; rintro e w' ⟨v, rfl, hE, hb, hN⟩))
    go_ret2
    exact ⟨v, rfl, hE, hb, hN⟩
  · go_enter Tryd.func13, Tryd.ntmps13
    go_wp2_with (first | (go_at_call 48; refine (fault_calls _ _ _).mono ?_; rintro e w' ⟨v, rfl, hE, hb, hN⟩))
    go_ret2
    exact ⟨v, rfl, hE, hb, hN⟩

/-! ### Read -/
theorem met_cases (s : Dk) (a n : Int) : met s a n = 0 ∨ met s a n = 1 ∨ met s a n = 2 := by
  unfold met
  by_cases h : s.down = true
  · rw [if_pos h]; exact Or.inl rfl
  · rw [if_neg h]
    by_cases h2 : a < 0 ∨ s.room ≤ a ∨ 64 < n
    · rw [if_pos h2]; exact Or.inr (Or.inl rfl)
    · rw [if_neg h2]; exact Or.inr (Or.inr rfl)
set_option maxHeartbeats 8000000 in
theorem read_bad (at_ : Int) (s : Dk) (Bs Bm : Nat) (w : World) (h : St w Bs Bm s) (hm : met s at_ 0 ≠ 2) : Calls Tryd.prog 18 #[.pointer (some ⟨Bs, 0, none⟩), .int .i64 at_] w fun e w' => ∃ v, e = .returned (.tuple #[.slice none 0 0, .bool false, v]) ∧ IsErr? w' (refE (met s at_ 0) at_) v ∧ Below w.heap.size w w' ∧ ErrNew w.heap.size v := by
  have H := Aside0.mk h
  have HM := Aside0.mk (met_cases s at_ 0)
  have HN := Aside0.mk hm
  obtain ⟨m, hmm⟩ : ∃ m, met s at_ 0 = m := ⟨_, rfl⟩
  have HMM := Aside0.mk hmm
  rw [hmm] at HM HN ⊢
  clear h hm hmm
  go_enter Tryd.func18, Tryd.ntmps18
  go_wp2_with fail
  refine (met_calls at_ 0 s Bs Bm w H.out).mono ?_
  rintro e w' ⟨rfl, rfl⟩
  rw [HMM.out]
  go_wp2_with fail
  refine (refused_calls m at_ w HM.out).mono ?_
  rintro e w1 ⟨v, rfl, hE, hb, hNw⟩
  have HE := Aside0.mk hE
  have hv : ∃ t x, v = .iface t x := by
    rcases HM.out with rfl | rfl | rfl
    · obtain ⟨b, v', hv, _⟩ := hE; exact ⟨_, _, hv⟩
    · obtain ⟨b, v', hv, _⟩ := hE; exact ⟨_, _, hv⟩
    · exact absurd rfl HN.out
  obtain ⟨t, x, rfl⟩ := hv
  clear hE
  go_wp2
  go_ret3
  exact ⟨_, rfl, HE.out, hb, hNw⟩
set_option maxHeartbeats 8000000 in
set_option maxRecDepth 100000 in
theorem read_ok (at_ : Int) (s : Dk) (base Bs Bm n : Nat) (C : Int → Option (List Int)) (w : World) (h : St w Bs Bm s) (hC : Cont w base Bs Bm n C) (hne : Bs ≠ Bm) (ha : okI at_) (hl : ∀ xs, C at_ = some xs → xs.length ≤ 1000) (hm : met s at_ 0 = 2) :
    Calls Tryd.prog 18 #[.pointer (some ⟨Bs, 0, none⟩), .int .i64 at_] w fun e w' => ∃ v, e = .returned (.tuple #[v, .bool (C at_).isSome, .nilIface]) ∧ Kd.R (Kd.int .u8) 5 w' w.heap.size (fun _ => True) v ((C at_).getD []) ∧ Below w.heap.size w w' := by
  have H := Aside0.mk h
  have HC := Aside0.mk hC
  have HMM := Aside0.mk hm
  have HA := Aside0.mk ha
  have HL : Aside0 (((C at_).getD []).length ≤ 1000) := ⟨by cases hc : C at_ with
    | none => simp
    | some xs => exact hl xs hc⟩
  clear h hC hm ha hl
  go_enter Tryd.func18, Tryd.ntmps18
  go_wp2_with fail
  refine (met_calls at_ 0 s Bs Bm w H.out).mono ?_
  rintro e w' ⟨rfl, rfl⟩
  rw [HMM.out]
  go_wp2_with fail
  refine (refused_calls 2 at_ w (by decide)).mono ?_
  rintro e w1 ⟨v, rfl, hE, hb, hNw⟩
  obtain rfl : v = .nilIface := hE
  have hf : Fr (fun _ => False) w w1 := Fr.of_below hb
  have H1 := Aside0.mk (H.out.kept hf (fun h => h.elim))
  obtain ⟨r, xs, hrun, hxs, hR⟩ := (HC.out.kept hf (fun b h => h.elim) hne).look HA.out
  have HR := Aside0.mk hR
  have HX := Aside0.mk hxs
  have HB1 := Aside0.mk hb
  obtain ⟨k0, k1, k2, k3, k4, k5⟩ := facts6 H1.out
  clear hb hNw hf hR hxs k0 k2 k3 k4 k5
  obtain ⟨A, c, rfl⟩ := Kd.R_slice HR.out
  have hlen : xs.length ≤ 1000 := by rw [HX.out]; exact HL.out
  go_wp2_with (first
    | ((with_reducible refine gate_builtin (b := .append) (xs := #[.const (.slice none 0 0), .tmp 27]) rfl ?_); at_builtin; refine Kd.R_append_rows (Kd.int .u8) (w0 := w1) w1.heap.size rfl (.const (.slice none 0 0)) (.tmp 27) 30 5 (.int .u8 0) 1 rfl Tryd.underlying30 info8 rfl (by decide) (by omega) (.slice none 0 0) ([] : List Int) xs _ _ _ (fun _ => True) (fun _ => False) rfl rfl ?aO ?aR (fun _ _ h => h) (fun _ h => h.elim) ?aF ?aB ?aS ?aL ?_; (case aR => exact (Kd.R_reads' HR.out).2.2); (case aB => exact Below.refl _ _); (case aF => exact (fun _ _ => trivial)); (case aO => exact ((Kd.R_nil _ _ _ _ (fun _ => True)))); (case aS => exact Nat.le_refl _); (case aL => simp only [List.length_nil]; omega); intro v2 w2 ho hb hg hat; have HB2 := Aside0.mk hb; have HO := Aside0.mk ho; clear ho hb hg hat))
  go_ret3
  refine ⟨v2, rfl, ?_, HB1.out.trans (HB2.out.mono HB1.out.size)⟩
  have := Kd.R_lower HO.out HB1.out.size
  rw [List.nil_append, HX.out] at this
  exact this
end Go.Proofs.YtemnnnjlllgeeaaDoor.PDsk
