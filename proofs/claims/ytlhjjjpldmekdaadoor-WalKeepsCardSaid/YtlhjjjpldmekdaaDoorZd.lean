/- Proved: a disk: its small functions, its blocks, its calls as one thing; condition: numbers that fit. -/
import Derived.Test.YtlhjjjpldmekdaaDoorCode
import Derived.Test.YtlhjjjpldmekdaaDoorWMore
import Derived.IntWalk
import Derived.Maps.OwnSet
import Derived.DataShut
import Derived.OpenShut
import Derived.Deep.RegionHeld3
namespace Go.Proofs.YtlhjjjpldmekdaaDoor.PDsk
open Go.RowKit Go.Proofs.YtlhjjjpldmekdaaDoorW.PrintWords Go.Proofs.YtlhjjjpldmekdaaDoorW.PrintLast Go.Proofs.YtlhjjjpldmekdaaDoorW.PrintMore Go.Proofs.YtlhjjjpldmekdaaDoor.Err
attribute [local go_sem] max2_int min2_int max_two min_two max_three min_three max_four min_four
set_option linter.unusedVariables false
set_option linter.unusedSimpArgs false

/-- An error's block, if it has one, is none of the elder ones. -/
def ErrNew (n : Nat) (v : Value) : Prop := ∀ (t : TypeId) (b : Nat), v = .iface t (.pointer (some ⟨b, 0, none⟩)) → n ≤ b
theorem ErrNew.nil {n : Nat} : ErrNew n .nilIface := fun _ _ h => by cases h
theorem ErrNew.le {n m : Nat} {v : Value} (h : ErrNew n v) (hm : m ≤ n) : ErrNew m v := fun t b e => Nat.le_trans hm (h t b e)
def diskS : ByteArray := ⟨#[100, 105, 115, 107]⟩
theorem fault_calls (a n : Int) (w : World) : Calls Tryd.prog 70 #[.int .i64 a, .int .i64 n] w fun e w' => ∃ v, e = .returned v ∧ IsErr w' (.fault diskS a (.num n)) v ∧ Below w.heap.size w w' ∧ ErrNew w.heap.size v := by
  go_enter Tryd.func70, Tryd.ntmps70
  go_wp2
  go_ret
  exact ⟨_, rfl, ⟨w.heap.size, _, rfl, heap_alloc_new w _, rfl⟩, (Below.refl _ _).alloc (Nat.le_refl _) _, fun _ _ h => by cases h; exact Nat.le_refl _⟩

set_option maxHeartbeats 4000000 in
theorem code_law (x : Option Er) (v : Value) (w : World) (hx : IsErr? w x v) (hg : Laid w) : Calls Tryd.prog 27 #[v] w fun e w' => e = .returned (.int .i64 (codeOf x)) ∧ Below w.heap.size w w' := by
  have HX := Aside0.mk hx
  have HG := Aside0.mk hg
  clear hx hg
  go_enter Tryd.func27, Tryd.ntmps27
  go_wp2_with (first | (go_at_call 78; refine (code_calls x _ _ HX.out HG.out).mono ?_; rintro e w' ⟨rfl, hb⟩))
  go_ret
  exact ⟨rfl, by assumption⟩
theorem ta58 (x : Value) (w : World) : (Instr.typeAssert (.iface 128 x) 25 128 true).run Tryd.prog w = .ok (.tuple #[x, .bool true]) w := by kernel_rfl
theorem ta52 (x : Value) (w : World) : (Instr.typeAssert (.iface 113 x) 25 128 true).run Tryd.prog w = .ok (.tuple #[.pointer none, .bool false]) w := by kernel_rfl
theorem tanil (w : World) : (Instr.typeAssert .nilIface 25 128 true).run Tryd.prog w = .ok (.tuple #[.pointer none, .bool false]) w := by kernel_rfl
theorem drewN_below {w w' : World} {m : Nat} (hb : Below (w.drewN m).heap.size (w.drewN m) w') : Below w.heap.size w w' := below_step (by apply pw_below_drewN; exact Below.refl _ _) hb

/-! ### what is refused -/
def refE (m at_ : Int) : Option Er := if m = 1 then some (.fault diskS at_ (.num 1)) else if m = 0 then some (.fault diskS 0 (.num 70)) else none
set_option maxHeartbeats 4000000 in
theorem refused_calls (m at_ : Int) (w : World) (hm : m = 0 ∨ m = 1 ∨ m = 2) : Calls Tryd.prog 71 #[.int .i64 m, .int .i64 at_] w fun e w' => ∃ v, e = .returned v ∧ IsErr? w' (refE m at_) v ∧ Below w.heap.size w w' ∧ ErrNew w.heap.size v := by
  rcases hm with rfl | rfl | rfl
  · go_enter Tryd.func71, Tryd.ntmps71
    go_wp2_with (first | (go_at_call 70; refine (fault_calls _ _ _).mono ?_; rintro e w' ⟨v, rfl, hE, hb, hN⟩))
    go_ret
    exact ⟨v, rfl, hE, hb, hN⟩
  · go_enter Tryd.func71, Tryd.ntmps71
    go_wp2_with (first | (go_at_call 70; refine (fault_calls _ _ _).mono ?_; rintro e w' ⟨v, rfl, hE, hb, hN⟩))
    go_ret
    exact ⟨v, rfl, hE, hb, hN⟩
  · go_enter Tryd.func71, Tryd.ntmps71
    go_wp2
    go_ret
    exact ⟨.nilIface, rfl, rfl, Below.refl _ _, ErrNew.nil⟩

/-! ### a disk's cells -/
/-- What a disk's cells say, but for the blocks' map. -/
structure Dk where
  room : Int
  down : Bool
  armed : Int
  writes : Int
  life : Int
/-- The disk's cells lie in block Bs; the map's block is Bm. -/
def St (w : World) (Bs Bm : Nat) (s : Dk) : Prop := w.heap[Bs]? = some (.cells #[.int .i64 s.room, .map (some Bm), .bool s.down, .int .i64 s.armed, .int .i64 s.writes, .int .i64 s.life] 116 (0, 0))
/-- All blocks but some are as they were. -/
structure Fr (S : Nat → Prop) (w w' : World) : Prop where
  os : w'.os = w.os
  tape : w'.tape = w.tape
  output : w'.output = w.output
  size : w.heap.size ≤ w'.heap.size
  block : ∀ k, k < w.heap.size → ¬ S k → w'.heap[k]? = w.heap[k]?
theorem Fr.refl (S : Nat → Prop) (w : World) : Fr S w w := ⟨rfl, rfl, rfl, Nat.le_refl _, fun _ _ _ => rfl⟩
theorem Fr.trans {S : Nat → Prop} {a b c : World} (h : Fr S a b) (k : Fr S b c) : Fr S a c :=
  ⟨k.os.trans h.os, k.tape.trans h.tape, k.output.trans h.output, Nat.le_trans h.size k.size, fun i hi hs => (k.block i (Nat.lt_of_lt_of_le hi h.size) hs).trans (h.block i hi hs)⟩
theorem Fr.of_below {S : Nat → Prop} {w w' : World} (h : Below w.heap.size w w') : Fr S w w' := ⟨h.os, h.tape, h.output, h.size, fun k hk _ => h.block k hk⟩
theorem Fr.mono {S T : Nat → Prop} {w w' : World} (h : Fr S w w') (hst : ∀ k, S k → T k) : Fr T w w' := ⟨h.os, h.tape, h.output, h.size, fun k hk ht => h.block k hk (fun hs => ht (hst k hs))⟩
theorem Fr.below {S : Nat → Prop} {w w' : World} {n : Nat} (h : Fr S w w') (hn : n ≤ w.heap.size) (hS : ∀ k, S k → n ≤ k) : Below n w w' := ⟨h.os, h.tape, h.output, h.size, fun k hk => h.block k (Nat.lt_of_lt_of_le hk hn) (fun hs => by have := hS k hs; omega)⟩
theorem Fr.set_ {S : Nat → Prop} {w w' : World} {b j : Nat} (h : Fr S w w') (hb : S b) (u : Value) : Fr S w (w'.setCell ⟨b, j, none⟩ u) := by
  have e := Below.setCell (Below.refl 0 w') (p := ⟨b, j, none⟩) (Nat.zero_le _) u
  exact ⟨e.os.trans h.os, e.tape.trans h.tape, e.output.trans h.output, Nat.le_trans h.size e.size, fun k hk hs => (Below.heap_setCell w' ⟨b, j, none⟩ u k (fun h2 => hs (h2 ▸ hb))).trans (h.block k hk hs)⟩
theorem facts6 {W : World} {B : Nat} {t : TypeId} {v0 v1 v2 v3 v4 v5 : Value} (h : W.heap[B]? = some (.cells #[v0, v1, v2, v3, v4, v5] t (0, 0))) :
    W.cell? ⟨B, 0, none⟩ = some v0 ∧ W.cell? ⟨B, 1, none⟩ = some v1 ∧ W.cell? ⟨B, 2, none⟩ = some v2 ∧ W.cell? ⟨B, 3, none⟩ = some v3 ∧ W.cell? ⟨B, 4, none⟩ = some v4 ∧ W.cell? ⟨B, 5, none⟩ = some v5 :=
  ⟨blk_cell h 0 _ rfl, blk_cell h 1 _ rfl, blk_cell h 2 _ rfl, blk_cell h 3 _ rfl, blk_cell h 4 _ rfl, blk_cell h 5 _ rfl⟩
theorem frozen6 {W : World} {B : Nat} {t : TypeId} {v0 v1 v2 v3 v4 v5 : Value} (h : W.heap[B]? = some (.cells #[v0, v1, v2, v3, v4, v5] t (0, 0))) :
    W.frozen? ⟨B, 0, none⟩ = false ∧ W.frozen? ⟨B, 1, none⟩ = false ∧ W.frozen? ⟨B, 2, none⟩ = false ∧ W.frozen? ⟨B, 3, none⟩ = false ∧ W.frozen? ⟨B, 4, none⟩ = false ∧ W.frozen? ⟨B, 5, none⟩ = false := by
  refine ⟨?_, ?_, ?_, ?_, ?_, ?_⟩ <;> simp [World.frozen?, h]
theorem St.set_down {w : World} {Bs Bm : Nat} {s : Dk} (h : St w Bs Bm s) (x : Bool) : St (w.setCell ⟨Bs, 2, none⟩ (.bool x)) Bs Bm { s with down := x } := by
  unfold St at h ⊢; rw [heap_setCell_same _ _ _ _ _ _ h]; simp [Array.setIfInBounds]
theorem St.set_armed {w : World} {Bs Bm : Nat} {s : Dk} (h : St w Bs Bm s) (x : Int) : St (w.setCell ⟨Bs, 3, none⟩ (.int .i64 x)) Bs Bm { s with armed := x } := by
  unfold St at h ⊢; rw [heap_setCell_same _ _ _ _ _ _ h]; simp [Array.setIfInBounds]
theorem St.set_writes {w : World} {Bs Bm : Nat} {s : Dk} (h : St w Bs Bm s) (x : Int) : St (w.setCell ⟨Bs, 4, none⟩ (.int .i64 x)) Bs Bm { s with writes := x } := by
  unfold St at h ⊢; rw [heap_setCell_same _ _ _ _ _ _ h]; simp [Array.setIfInBounds]
theorem St.set_life {w : World} {Bs Bm : Nat} {s : Dk} (h : St w Bs Bm s) (x : Int) : St (w.setCell ⟨Bs, 5, none⟩ (.int .i64 x)) Bs Bm { s with life := x } := by
  unfold St at h ⊢; rw [heap_setCell_same _ _ _ _ _ _ h]; simp [Array.setIfInBounds]
theorem St.kept {w w' : World} {Bs Bm : Nat} {s : Dk} {S : Nat → Prop} (h : St w Bs Bm s) (hf : Fr S w w') (hS : ¬ S Bs) : St w' Bs Bm s := (hf.block Bs (Array.getElem?_eq_some_iff.1 h).1 hS).trans h

/-! ### the small calls -/
def met (s : Dk) (at_ n : Int) : Int := if s.down = true then 0 else if at_ < 0 ∨ s.room ≤ at_ ∨ 64 < n then 1 else 2
set_option maxHeartbeats 8000000 in
theorem met_calls (at_ n : Int) (s : Dk) (Bs Bm : Nat) (w : World) (h : St w Bs Bm s) : Calls Tryd.prog 72 #[.pointer (some ⟨Bs, 0, none⟩), .int .i64 at_, .int .i64 n] w fun e w' => e = .returned (.int .i64 (met s at_ n)) ∧ w = w' := by
  obtain ⟨k0, k1, k2, k3, k4, k5⟩ := facts6 h
  clear k1 k3 k4 k5 h
  obtain ⟨m, hm⟩ : ∃ m, met s at_ n = m := ⟨_, rfl⟩
  rw [hm]
  unfold met at hm
  cases hd : s.down with
  | true =>
    rw [hd, if_pos rfl] at hm
    subst hm
    rw [hd] at k2
    go_enter Tryd.func72, Tryd.ntmps72
    go_wp2
    go_ret
    exact ⟨rfl, rfl⟩
  | false =>
    rw [hd, if_neg (by decide)] at hm
    rw [hd] at k2
    cases h1 : decide (at_ < 0) <;> cases h2 : decide (s.room ≤ at_) <;> cases h3 : decide (64 < n)
    all_goals
      have hm' : m = (if decide (at_ < 0) || (decide (s.room ≤ at_) || decide (64 < n)) then 1 else 2) := by
        rw [← hm]; congr 1; simp
      rw [h1, h2, h3] at hm'
      simp only [Bool.or_false, Bool.or_true, Bool.true_or, Bool.false_or, if_true, Bool.false_eq_true, if_false] at hm'
      subst hm'
      clear hm
      go_enter Tryd.func72, Tryd.ntmps72
      go_wp2
      go_ret
      exact ⟨rfl, rfl⟩
def restartS (s : Dk) : Dk := { s with down := false }
set_option maxHeartbeats 4000000 in
theorem restart_calls (s : Dk) (Bs Bm : Nat) (w : World) (h : St w Bs Bm s) : Calls Tryd.prog 31 #[.pointer (some ⟨Bs, 0, none⟩)] w fun e w' => e = .returned (.tuple #[]) ∧ St w' Bs Bm (restartS s) ∧ Fr (· = Bs) w w' := by
  have H := Aside0.mk h
  obtain ⟨k0, k1, k2, k3, k4, k5⟩ := facts6 h
  obtain ⟨z0, z1, z2, z3, z4, z5⟩ := frozen6 h
  clear h
  go_enter Tryd.func31, Tryd.ntmps31
  go_wp2
  go_end0
  exact ⟨rfl, H.out.set_down false, (Fr.refl (· = Bs) w).set_ rfl _⟩
def armS (s : Dk) (n : Int) : Dk := if s.down = true then s else { s with armed := if n < 0 then 0 else n }
set_option maxHeartbeats 4000000 in
theorem arm_calls (s : Dk) (n : Int) (Bs Bm : Nat) (w : World) (h : St w Bs Bm s) : Calls Tryd.prog 29 #[.pointer (some ⟨Bs, 0, none⟩), .int .i64 n] w fun e w' => e = .returned (.tuple #[]) ∧ St w' Bs Bm (armS s n) ∧ Fr (· = Bs) w w' := by
  have H := Aside0.mk h
  obtain ⟨k0, k1, k2, k3, k4, k5⟩ := facts6 h
  obtain ⟨z0, z1, z2, z3, z4, z5⟩ := frozen6 h
  clear h
  unfold armS
  cases hd : s.down with
  | true =>
    rw [if_pos rfl]
    rw [hd] at k2
    go_enter Tryd.func29, Tryd.ntmps29
    go_wp2
    go_end0
    exact ⟨rfl, H.out, Fr.refl _ _⟩
  | false =>
    rw [if_neg (by decide)]
    rw [hd] at k2
    by_cases hn : n < 0
    · rw [if_pos hn]
      go_enter Tryd.func29, Tryd.ntmps29
      go_wp2
      all_goals go_end0
      all_goals (first | (exfalso; omega) | (refine ⟨rfl, ?_, (Fr.refl (· = Bs) w).set_ rfl _⟩; have := H.out.set_armed 0; rw [hd] at this; exact this))
    · rw [if_neg hn]
      go_enter Tryd.func29, Tryd.ntmps29
      go_wp2
      all_goals go_end0
      all_goals (first | (exfalso; omega) | (refine ⟨rfl, ?_, (Fr.refl (· = Bs) w).set_ rfl _⟩; have := H.out.set_armed n; rw [hd] at this; exact this))
def cutS (s : Dk) : Dk := { s with down := true, armed := 0, life := if s.down = true then s.life else wrap64 (s.life + 1) }
set_option maxHeartbeats 4000000 in
theorem cut_calls (s : Dk) (Bs Bm : Nat) (w : World) (h : St w Bs Bm s) : Calls Tryd.prog 30 #[.pointer (some ⟨Bs, 0, none⟩)] w fun e w' => e = .returned (.tuple #[]) ∧ St w' Bs Bm (cutS s) ∧ Fr (· = Bs) w w' := by
  have H := Aside0.mk h
  obtain ⟨k0, k1, k2, k3, k4, k5⟩ := facts6 h
  obtain ⟨z0, z1, z2, z3, z4, z5⟩ := frozen6 h
  clear h
  cases hd : s.down with
  | true =>
    rw [hd] at k2
    go_enter Tryd.func30, Tryd.ntmps30
    go_wp2
    go_end0
    exact ⟨rfl, by have := (H.out.set_down true).set_armed 0; simpa [cutS, hd] using this, ((Fr.refl (· = Bs) w).set_ rfl _).set_ rfl _⟩
  | false =>
    rw [hd] at k2
    go_enter Tryd.func30, Tryd.ntmps30
    go_wp2
    go_end0
    exact ⟨rfl, by have := ((H.out.set_life (wrap64 (s.life + 1))).set_down true).set_armed 0; simpa [cutS, hd] using this, (((Fr.refl (· = Bs) w).set_ rfl _).set_ rfl _).set_ rfl _⟩
theorem down_calls (s : Dk) (Bs Bm : Nat) (w : World) (h : St w Bs Bm s) : Calls Tryd.prog 39 #[.pointer (some ⟨Bs, 0, none⟩)] w fun e w' => e = .returned (.bool s.down) ∧ w = w' := by
  obtain ⟨k0, k1, k2, k3, k4, k5⟩ := facts6 h
  clear h
  go_enter Tryd.func39, Tryd.ntmps39
  go_wp2
  go_ret
  exact ⟨rfl, rfl⟩
theorem room_calls (s : Dk) (Bs Bm : Nat) (w : World) (h : St w Bs Bm s) : Calls Tryd.prog 75 #[.pointer (some ⟨Bs, 0, none⟩)] w fun e w' => e = .returned (.int .i64 s.room) ∧ w = w' := by
  obtain ⟨k0, k1, k2, k3, k4, k5⟩ := facts6 h
  clear h
  go_enter Tryd.func75, Tryd.ntmps75
  go_wp2
  go_ret
  exact ⟨rfl, rfl⟩
theorem writes_calls (s : Dk) (Bs Bm : Nat) (w : World) (h : St w Bs Bm s) : Calls Tryd.prog 38 #[.pointer (some ⟨Bs, 0, none⟩)] w fun e w' => e = .returned (.int .i64 s.writes) ∧ w = w' := by
  obtain ⟨k0, k1, k2, k3, k4, k5⟩ := facts6 h
  clear h
  go_enter Tryd.func38, Tryd.ntmps38
  go_wp2
  go_ret
  exact ⟨rfl, rfl⟩
theorem life_calls (s : Dk) (Bs Bm : Nat) (w : World) (h : St w Bs Bm s) : Calls Tryd.prog 74 #[.pointer (some ⟨Bs, 0, none⟩)] w fun e w' => e = .returned (.int .i64 s.life) ∧ w = w' := by
  obtain ⟨k0, k1, k2, k3, k4, k5⟩ := facts6 h
  clear h
  go_enter Tryd.func74, Tryd.ntmps74
  go_wp2
  go_ret
  exact ⟨rfl, rfl⟩
end Go.Proofs.YtlhjjjpldmekdaaDoor.PDsk
namespace Go.Proofs.YtlhjjjpldmekdaaDoor.PDsk.K
open Go.RowKit Go.Proofs.YtlhjjjpldmekdaaDoorW.PrintWords Go.Proofs.YtlhjjjpldmekdaaDoorW.PrintLast Go.Proofs.YtlhjjjpldmekdaaDoorW.PrintMore Go.Proofs.YtlhjjjpldmekdaaDoor.Err Go.Maps
attribute [local go_sem] max2_int min2_int max_two min_two max_three min_three max_four min_four
set_option linter.unusedVariables false
set_option linter.unusedSimpArgs false

def okI (x : Int) : Prop := -9223372036854775808 ≤ x ∧ x ≤ 9223372036854775807
theorem okI_wf {x : Int} (h : okI x) : (Lit.int .i64 x).wf = true := (Lit.wf_int_iff .i64 x).2 h
theorem keyed : Keyed Tryd.prog 3 := int_keyed Tryd.underlying3
theorem key_of {x : Int} (h : okI x) : keyOf Tryd.prog 3 (.int .i64 x) = some (.int .i64 x) := keyOf_int_mk Tryd.underlying3 (okI_wf h)
theorem zeroRow (w : World) : (zeroValue 30).run Tryd.prog w = .ok (.slice none 0 0) w := by kernel_rfl
/-- An element's value is told as it is. -/
def heldElem (v : Value) : Option (DataW Value × List MemPlace) := some (.held v, [])
def nilRow : DataW Value := .held (.slice none 0 0)
/-- The map's block Bm reads as D. -/
def Mp (w : World) (Bm n : Nat) (D : DataW Value) : Prop := w.ownsMap Tryd.prog 3 heldElem Bm n D
theorem Mp.kept {w w' : World} {Bm n : Nat} {D : DataW Value} {S : Nat → Prop} (h : Mp w Bm n D) (hf : Fr S w w') (hS : ¬ S Bm) : Mp w' Bm n D := by
  obtain ⟨es, clock, hb, F, hs, hd⟩ := h
  exact ⟨es, clock, (hf.block Bm (Array.getElem?_eq_some_iff.1 hb).1 hS).trans hb, F, hs, hd⟩
/-- A row of the disk's own. -/
def Rw (w : World) (F : Nat → Prop) (v : Value) (xs : List Int) : Prop := Kd.R (Kd.int .u8) 5 w 0 F v xs
theorem Rw.kept {w w' : World} {F : Nat → Prop} {v : Value} {xs : List Int} {S : Nat → Prop} (h : Rw w F v xs) (hf : Fr S w w') (hS : ∀ b, S b → ¬ F b) : Rw w' F v xs :=
  Kd.R_step h fun k hk hlt => hf.block k hlt (fun hs => hS k hs hk)
/-- The blocks' contents: what number k holds. -/
def Holds (w : World) (F : Nat → Prop) (D : DataW Value) (k : Int) : Option (List Int) → Prop
  | none => Go.Maps.has D (.int .i64 k) = false ∧ D.atKey (.int .i64 k) nilRow = nilRow
  | some xs => Go.Maps.has D (.int .i64 k) = true ∧ ∃ v, D.atKey (.int .i64 k) nilRow = .held v ∧ Rw w F v xs
structure Cont (w : World) (F : Nat → Prop) (Bm n : Nat) (C : Int → Option (List Int)) : Prop where
  map : ∃ D, Mp w Bm n D ∧ ∀ k, okI k → Holds w F D k (C k)
theorem Cont.kept {w w' : World} {F : Nat → Prop} {Bm n : Nat} {C : Int → Option (List Int)} {S : Nat → Prop} (h : Cont w F Bm n C) (hf : Fr S w w') (hm : ¬ S Bm) (hS : ∀ b, S b → ¬ F b) : Cont w' F Bm n C := by
  obtain ⟨D, hM, hk⟩ := h.map
  refine ⟨D, hM.kept hf hm, fun k hok => ?_⟩
  have := hk k hok
  cases hc : C k with
  | none => rw [hc] at this; exact this
  | some xs =>
    rw [hc] at this
    obtain ⟨h1, v, h2, h3⟩ := this
    exact ⟨h1, v, h2, h3.kept hf hS⟩
theorem Cont.kept0 {w w' : World} {F : Nat → Prop} {Bm n : Nat} {C : Int → Option (List Int)} (h : Cont w F Bm n C) (hf : Fr (fun _ => False) w w') : Cont w' F Bm n C := h.kept hf (fun h => h) (fun _ h => h.elim)
theorem Cont.keptS {w w' : World} {F : Nat → Prop} {Bs Bm n : Nat} {C : Int → Option (List Int)} (h : Cont w F Bm n C) (hf : Fr (· = Bs) w w') (hne : Bs ≠ Bm) (hFs : ¬ F Bs) : Cont w' F Bm n C := h.kept hf (fun e => hne e.symm) (fun b e => by subst e; exact hFs)
theorem Cont.mono {w : World} {F G : Nat → Prop} {Bm n : Nat} {C : Int → Option (List Int)} (h : Cont w F Bm n C) (hG : ∀ b, F b → b < w.heap.size → G b) : Cont w G Bm n C := by
  obtain ⟨D, hM, hk⟩ := h.map
  refine ⟨D, hM, fun k hok => ?_⟩
  have := hk k hok
  cases hc : C k with
  | none => rw [hc] at this; exact this
  | some xs =>
    rw [hc] at this
    obtain ⟨h1, v, h2, h3⟩ := this
    exact ⟨h1, v, h2, Kd.R_mono (Kd.R_bound h3) (fun b hb => hG b hb.1 hb.2.2.1)⟩
theorem Cont.made (w : World) (F : Nat → Prop) : Cont (w.alloc (.map #[] 0)) F w.heap.size 0 (fun _ => none) :=
  ⟨.map [], World.ownsMap_made _ _ _ _, fun k _ => ⟨rfl, rfl⟩⟩
/-- What is read at a place. -/
theorem Cont.look {w : World} {F : Nat → Prop} {Bm n : Nat} {C : Int → Option (List Int)} (h : Cont w F Bm n C) {k : Int} (hk : okI k) :
    ∃ v xs, (Instr.lookup 114 (.map (some Bm)) (.int .i64 k) true).run Tryd.prog w = .ok (.tuple #[v, .bool (C k).isSome]) w ∧ xs = (C k).getD [] ∧ Rw w F v xs := by
  obtain ⟨D, hM, hD⟩ := h.map
  obtain ⟨v, ps, hrun, hv⟩ := World.ownsMap.look_ok hM keyed Tryd.underlying114 (zeroRow w) (zd := nilRow) (zp := []) rfl (key_of hk)
  have hv' : DataW.held v = D.atKey (.int .i64 k) nilRow := by
    have := Option.some.inj hv
    exact congrArg Prod.fst this
  have := hD k hk
  cases hc : C k with
  | none =>
    rw [hc] at this
    obtain ⟨h1, h2⟩ := this
    rw [h1] at hrun
    rw [h2] at hv'
    have e : v = .slice none 0 0 := by unfold nilRow at hv'; injection hv'
    subst e
    exact ⟨_, [], hrun, rfl, Kd.R_nil _ _ _ _ _⟩
  | some xs =>
    rw [hc] at this
    obtain ⟨h1, v', h2, h3⟩ := this
    rw [h1] at hrun
    rw [h2] at hv'
    have e : v = v' := by injection hv'
    subst e
    exact ⟨v, xs, hrun, rfl, h3⟩
/-- What a store leaves. -/
theorem Cont.store {w : World} {F : Nat → Prop} {Bm n : Nat} {C : Int → Option (List Int)} (h : Cont w F Bm n C) (hn : n < maxLen) (hFm : ¬ F Bm) {k : Int} (hk : okI k) {v : Value} {xs : List Int} (hv : Rw w F v xs) :
    ∃ w', (Instr.mapUpdate 114 (.map (some Bm)) (.int .i64 k) v).run Tryd.prog w = .ok () w' ∧ Cont w' F Bm (n + 1) (fun j => if j = k then some xs else C j) ∧ Fr (· = Bm) w w' := by
  obtain ⟨D, hM, hD⟩ := h.map
  obtain ⟨w', hrun, hM', ht⟩ := World.ownsMap.store hM keyed Tryd.underlying114 hn (key_of hk) (d := .held v) (ps := []) rfl
  have hg := ht.grown
  have hf : Fr (· = Bm) w w' := ⟨hg.os, hg.tape, hg.output, hg.size, fun i hi hs => hg.block i hi (fun e => hs (Option.some.inj e))⟩
  have hD' : IsMap D := hM.isMap
  refine ⟨w', hrun, ⟨D.put (.int .i64 k) (.held v), hM', fun j hj => ?_⟩, hf⟩
  by_cases hjk : j = k
  · subst hjk
    rw [if_pos rfl]
    exact ⟨has_put_same hD' (show WideAt.IsKeyLit (.int .i64 j) from trivial) _, v, atKey_put_same hD' (show WideAt.IsKeyLit (.int .i64 j) from trivial) _ _, hv.kept hf (fun b hb => by subst hb; exact hFm)⟩
  · rw [if_neg hjk]
    have hne' : (Lit.int .i64 j) ≠ .int .i64 k := fun e => hjk (by injection e)
    have := hD j hj
    cases hc : C j with
    | none => rw [hc] at this; exact ⟨(has_put_other hne' _).trans this.1, (atKey_put_other hne' _ _).trans this.2⟩
    | some ys =>
      rw [hc] at this
      obtain ⟨h1, v', h2, h3⟩ := this
      exact ⟨(has_put_other hne' _).trans h1, v', (atKey_put_other hne' _ _).trans h2, h3.kept hf (fun b hb => by subst hb; exact hFm)⟩

theorem info8 : (Tryd.prog.info? 5).map (fun i => (i.zero, i.size, i.bytes)) = some (some (.int .u8 0), 1, 1) := by kernel_rfl
/-! ### New -/
set_option maxHeartbeats 8000000 in
theorem new_ok (room : Int) (F : Nat → Prop) (w : World) (h0 : 1 ≤ room) (h1 : room ≤ 65536) : Calls Tryd.prog 16 #[.int .i64 room] w fun e w' => ∃ Bs Bm, e = .returned (.tuple #[.pointer (some ⟨Bs, 0, none⟩), .nilIface]) ∧ w.heap.size ≤ Bs ∧ w.heap.size ≤ Bm ∧ Bs ≠ Bm ∧ St w' Bs Bm ⟨room, false, 0, 0, 0⟩ ∧ Cont w' F Bm 0 (fun _ => none) ∧ Below w.heap.size w w' := by
  have c0 : decide (room < 1) = false := decide_eq_false (by omega)
  have c1 : decide (65536 < room) = false := decide_eq_false (by omega)
  have hmm := @run_makeMap Tryd.prog
  go_enter Tryd.func16, Tryd.ntmps16
  go_wp2
  go_ret2
  refine ⟨w.heap.size + 1, w.heap.size, by simp, by omega, Nat.le_refl _, by omega, ?_, ?_, ?_⟩
  · have := heap_alloc_new (w.alloc (.map #[] 0)) (Obj.cells #[.int .i64 room, .map (some w.heap.size), .bool false, .int .i64 0, .int .i64 0, .int .i64 0] 116)
    unfold St
    rwa [show (w.alloc (.map #[] 0)).heap.size = w.heap.size + 1 by simp] at this
  · refine (Cont.made w F).kept0 (Fr.of_below (below_alloc (Below.refl _ _) _))
  · exact below_alloc (below_alloc (Below.refl _ _) _) _
set_option maxHeartbeats 8000000 in
theorem new_bad (room : Int) (w : World) (h : room < 1 ∨ 65536 < room) : Calls Tryd.prog 16 #[.int .i64 room] w fun e w' => ∃ v, e = .returned (.tuple #[.pointer none, v]) ∧ IsErr w' (.fault diskS 0 (.num 1)) v ∧ Below w.heap.size w w' ∧ ErrNew w.heap.size v := by
  cases c0 : decide (room < 1)
  · have c1 : decide (65536 < room) = true := decide_eq_true (by have := of_decide_eq_false c0; omega)
    go_enter Tryd.func16, Tryd.ntmps16
    go_wp2_with (first | (go_at_call 70; refine (fault_calls _ _ _).mono ?_; rintro e w' ⟨v, rfl, hE, hb, hN⟩))
    go_ret2
    exact ⟨v, rfl, hE, hb, hN⟩
  · go_enter Tryd.func16, Tryd.ntmps16
    go_wp2_with (first | (go_at_call 70; refine (fault_calls _ _ _).mono ?_; rintro e w' ⟨v, rfl, hE, hb, hN⟩))
    go_ret2
    exact ⟨v, rfl, hE, hb, hN⟩

/-! ### Read -/
theorem met_cases (s : Dk) (a n : Int) : met s a n = 0 ∨ met s a n = 1 ∨ met s a n = 2 := by
  unfold met
  by_cases h : s.down = true
  · rw [if_pos h]; exact Or.inl rfl
  · rw [if_neg h]
    by_cases h2 : a < 0 ∨ s.room ≤ a ∨ 64 < n
    · rw [if_pos h2]; exact Or.inr (Or.inl rfl)
    · rw [if_neg h2]; exact Or.inr (Or.inr rfl)
set_option maxHeartbeats 8000000 in
theorem read_bad (at_ : Int) (s : Dk) (Bs Bm : Nat) (w : World) (h : St w Bs Bm s) (hm : met s at_ 0 ≠ 2) : Calls Tryd.prog 33 #[.pointer (some ⟨Bs, 0, none⟩), .int .i64 at_] w fun e w' => ∃ v, e = .returned (.tuple #[.slice none 0 0, .bool false, v]) ∧ IsErr? w' (refE (met s at_ 0) at_) v ∧ Below w.heap.size w w' ∧ ErrNew w.heap.size v := by
  have H := Aside0.mk h
  have HM := Aside0.mk (met_cases s at_ 0)
  have HN := Aside0.mk hm
  obtain ⟨m, hmm⟩ : ∃ m, met s at_ 0 = m := ⟨_, rfl⟩
  have HMM := Aside0.mk hmm
  rw [hmm] at HM HN ⊢
  clear h hm hmm
  go_enter Tryd.func33, Tryd.ntmps33
  go_wp2_with fail
  refine (met_calls at_ 0 s Bs Bm w H.out).mono ?_
  rintro e w' ⟨rfl, rfl⟩
  rw [HMM.out]
  go_wp2_with fail
  refine (refused_calls m at_ w HM.out).mono ?_
  rintro e w1 ⟨v, rfl, hE, hb, hNw⟩
  have HE := Aside0.mk hE
  have hv : ∃ t x, v = .iface t x := by
    rcases HM.out with rfl | rfl | rfl
    · obtain ⟨b, v', hv, _⟩ := hE; exact ⟨_, _, hv⟩
    · obtain ⟨b, v', hv, _⟩ := hE; exact ⟨_, _, hv⟩
    · exact absurd rfl HN.out
  obtain ⟨t, x, rfl⟩ := hv
  clear hE
  go_wp2
  go_ret3
  exact ⟨_, rfl, HE.out, hb, hNw⟩
set_option maxHeartbeats 8000000 in
set_option maxRecDepth 100000 in
theorem read_ok (at_ : Int) (s : Dk) (F : Nat → Prop) (Bs Bm n : Nat) (C : Int → Option (List Int)) (w : World) (h : St w Bs Bm s) (hC : Cont w F Bm n C) (ha : okI at_) (hl : ∀ xs, C at_ = some xs → xs.length ≤ 1000) (hm : met s at_ 0 = 2) :
    Calls Tryd.prog 33 #[.pointer (some ⟨Bs, 0, none⟩), .int .i64 at_] w fun e w' => ∃ v, e = .returned (.tuple #[v, .bool (C at_).isSome, .nilIface]) ∧ Kd.R (Kd.int .u8) 5 w' w.heap.size (fun _ => True) v ((C at_).getD []) ∧ Below w.heap.size w w' := by
  have H := Aside0.mk h
  have HC := Aside0.mk hC
  have HMM := Aside0.mk hm
  have HA := Aside0.mk ha
  have HL : Aside0 (((C at_).getD []).length ≤ 1000) := ⟨by cases hc : C at_ with
    | none => simp
    | some xs => exact hl xs hc⟩
  clear h hC hm ha hl
  go_enter Tryd.func33, Tryd.ntmps33
  go_wp2_with fail
  refine (met_calls at_ 0 s Bs Bm w H.out).mono ?_
  rintro e w' ⟨rfl, rfl⟩
  rw [HMM.out]
  go_wp2_with fail
  refine (refused_calls 2 at_ w (by decide)).mono ?_
  rintro e w1 ⟨v, rfl, hE, hb, hNw⟩
  obtain rfl : v = .nilIface := hE
  have hf : Fr (fun _ => False) w w1 := Fr.of_below hb
  have H1 := Aside0.mk (H.out.kept hf (fun h => h.elim))
  obtain ⟨r, xs, hrun, hxs, hR⟩ := (HC.out.kept0 hf).look HA.out
  have HR := Aside0.mk hR
  have HX := Aside0.mk hxs
  have HB1 := Aside0.mk hb
  obtain ⟨k0, k1, k2, k3, k4, k5⟩ := facts6 H1.out
  clear hb hNw hf hR hxs k0 k2 k3 k4 k5
  obtain ⟨A, c, rfl⟩ := Kd.R_slice HR.out
  have hlen : xs.length ≤ 1000 := by rw [HX.out]; exact HL.out
  go_wp2_with (first
    | ((with_reducible refine gate_builtin (b := .append) (xs := #[.const (.slice none 0 0), .tmp 27]) rfl ?_); at_builtin; refine Kd.R_append_rows (Kd.int .u8) (w0 := w1) w1.heap.size rfl (.const (.slice none 0 0)) (.tmp 27) 30 5 (.int .u8 0) 1 rfl Tryd.underlying30 info8 rfl (by decide) (by omega) (.slice none 0 0) ([] : List Int) xs _ _ _ (fun _ => True) (fun _ => False) rfl rfl ?aO ?aR (fun _ _ h => h) (fun _ h => h.elim) ?aF ?aB ?aS ?aL ?_; (case aR => exact (Kd.R_reads' HR.out).2.2); (case aB => exact Below.refl _ _); (case aF => exact (fun _ _ => trivial)); (case aO => exact ((Kd.R_nil _ _ _ _ (fun _ => True)))); (case aS => exact Nat.le_refl _); (case aL => simp only [List.length_nil]; omega); intro v2 w2 ho hb hg hat; have HB2 := Aside0.mk hb; have HO := Aside0.mk ho; clear ho hb hg hat))
  go_ret3
  refine ⟨v2, rfl, ?_, HB1.out.trans (HB2.out.mono HB1.out.size)⟩
  have := Kd.R_lower HO.out HB1.out.size
  rw [List.nil_append, HX.out] at this
  exact this
end Go.Proofs.YtlhjjjpldmekdaaDoor.PDsk.K
namespace Go.Proofs.YtlhjjjpldmekdaaDoor.PDsk.K
open Go.RowKit Go.Proofs.YtlhjjjpldmekdaaDoorW.PrintWords Go.Proofs.YtlhjjjpldmekdaaDoorW.PrintLast Go.Proofs.YtlhjjjpldmekdaaDoorW.PrintMore Go.Proofs.YtlhjjjpldmekdaaDoor.Err Go.Maps
attribute [local go_sem] max2_int min2_int max_two min_two max_three min_three max_four min_four
set_option linter.unusedVariables false
set_option linter.unusedSimpArgs false

section
variable {ops : Array Oper} {o : Oper} {a : Act} {Q : Exit → Act → World → Prop} {Kc : Act → World → Prop}
/-- The store, as a region's step. -/
theorem store_step (hw : Region.wanted o (yielded ops a.tmps) = true) (m x v : Operand) (ho : o.op = Op.mapUpdate 114 m x v) {W : World} {F : Nat → Prop} {Bm n : Nat} {C : Int → Option (List Int)} (hC : Cont W F Bm n C) (hn : n < maxLen) (hFm : ¬ F Bm)
    {k : Int} (hk : okI k) {u : Value} {xs : List Int} (hv : Rw W F u xs) (hm : a.eval m = .map (some Bm)) (hx : a.eval x = .int .i64 k) (hu : a.eval v = u)
    (h : ∀ w', Cont w' F Bm (n + 1) (fun j => if j = k then some xs else C j) → Fr (· = Bm) W w' → Kc (a.put o.dst undef) w') :
    if Region.wanted o (yielded ops a.tmps) = true then Oper.wp Tryd.prog o a W Kc Q else Kc (a.put o.dst undef) W := by
  rw [if_pos hw]
  obtain ⟨w', hrun, r1, r2⟩ := hC.store hn hFm hk hv
  unfold Oper.wp
  simp [execOp, ho, hm, hx, hu, hrun, Result.andThen]
  exact h w' r1 r2
end
theorem Fr.of_grown {w w' : World} (h : w.grownBy w' (Value.slice none 0 0).ownBlock) : Fr (fun _ => False) w w' := ⟨h.os, h.tape, h.output, h.size, fun k hk _ => h.block k hk (by simp [Value.ownBlock])⟩
theorem Cont.lt {w : World} {F : Nat → Prop} {Bm n : Nat} {C : Int → Option (List Int)} (h : Cont w F Bm n C) : Bm < w.heap.size := by
  obtain ⟨D, ⟨es, clock, hb, _⟩, _⟩ := h.map
  exact (Array.getElem?_eq_some_iff.1 hb).1
set_option maxHeartbeats 16000000 in
set_option maxRecDepth 100000 in
theorem write_plain (at_ : Int) (A0 : Option Addr) (c0 : Nat) (l0 : List Int) (s : Dk) (F : Nat → Prop) (Bs Bm n : Nat) (C : Int → Option (List Int)) (w : World) (h : St w Bs Bm s) (hC : Cont w F Bm n C) (hne : Bs ≠ Bm) (hFs : ¬ F Bs) (hFm : ¬ F Bm) (hFn : ∀ k, w.heap.size ≤ k → F k) (hn : n < maxLen) (ha : okI at_)
    (hr0 : ∀ W, Fr (fun b => b = Bs ∨ b = Bm) w W → Kd.C (Kd.int .u8) W A0 l0.length l0) (hc0 : l0.length ≤ c0) (hl : l0.length ≤ 1000) (hm : met s at_ l0.length = 2) (harm : s.armed ≤ 0) :
    Calls Tryd.prog 18 #[.pointer (some ⟨Bs, 0, none⟩), .int .i64 at_, .slice A0 l0.length c0] w fun e w' => e = .returned .nilIface ∧ St w' Bs Bm { s with writes := wrap64 (s.writes + 1) } ∧ Cont w' F Bm (n + 1) (fun j => if j = at_ then some l0 else C j) ∧ Fr (fun b => b = Bs ∨ b = Bm) w w' := by
  have H := Aside0.mk h
  have HC := Aside0.mk hC
  have HMM := Aside0.mk hm
  have HA := Aside0.mk ha
  have HR0 := Aside0.mk hr0
  have HN := Aside0.mk hn
  have HFN := Aside0.mk hFn
  have hD : decide (0 < s.armed) = false := decide_eq_false (by omega)
  clear h hC hm ha hr0 harm hn hFn
  go_enter Tryd.func18, Tryd.ntmps18
  go_wp2_with fail
  refine (met_calls at_ (l0.length : Int) s Bs Bm w H.out).mono ?_
  rintro e w' ⟨rfl, rfl⟩
  rw [HMM.out]
  go_wp2_with fail
  refine (refused_calls 2 at_ w (by decide)).mono ?_
  rintro e w1 ⟨v, rfl, hE, hb, hNw⟩
  obtain rfl : v = .nilIface := hE
  have hf : Fr (fun _ => False) w w1 := Fr.of_below hb
  have H1 := Aside0.mk (H.out.kept hf (fun h => h.elim))
  have HC1 := Aside0.mk (HC.out.kept0 hf)
  have HR1 := Aside0.mk (HR0.out w1 (Fr.of_below hb))
  have HF1 := Aside0.mk hf
  obtain ⟨k0, k1, k2, k3, k4, k5⟩ := facts6 H1.out
  clear hb hNw hf k0 k2 k4 k5
  go_wp2_with fail
  have L1 : Bs < w1.drew.heap.size := (Array.getElem?_eq_some_iff.1 H1.out).1
  have L2 : Bm < w1.drew.heap.size := HC1.out.lt
  have HL1 := Aside0.mk L1
  have HL2 := Aside0.mk L2
  clear L1 L2
  go_region_held3 (fun W => W.cell? ⟨Bs, 1, none⟩ = some (.map (some Bm))) (first | assumption) (first
    | (refine Kd.R_append_rows_step (Kd.int .u8) (w0 := w1) 0 (by rfl) (.const (.slice none 0 0)) (.tmp 43) 30 5 (.int .u8 0) 1 rfl Tryd.underlying30 info8 rfl (by decide) (by omega) (.slice none 0 0) ([] : List Int) l0 _ _ _ F (fun _ => False) rfl rfl ?aO ?aR (fun _ _ h => h) (fun _ h => h.elim) ?aF ?aB ?aS ?aL ?_; (case aO => exact Kd.R_nil _ _ _ _ _); (case aR => exact Kd.C_drew HR1.out); (case aF => exact fun k hk => HFN.out k (Nat.le_trans HF1.out.size hk)); (case aB => exact below_drew (Below.refl _ _)); (case aS => exact Nat.zero_le _); (case aL => simp only [List.length_nil]; omega); intro v3 w3 ho hb hg hat; have HF3 := Aside0.mk ((Fr.of_below (below_drew (Below.refl w1.heap.size w1))).trans (Fr.of_grown hg)); have HO3 := Aside0.mk ho; have k1' := (facts6 (H1.out.kept HF3.out (fun h => h.elim))).2.1; obtain ⟨w4, hrun, hC4, hF4⟩ := (HC1.out.kept0 HF3.out).store HN.out hFm HA.out (xs := l0) HO3.out; have HC4 := Aside0.mk hC4; have HF4 := Aside0.mk hF4; have H4 := Aside0.mk ((H1.out.kept HF3.out (fun h => h.elim)).kept hF4 (fun h => hne h)); have k4' := (facts6 H4.out).2.1; clear ho hb hg hat hC4 hF4))
  obtain ⟨j0, j1, j2, j3, j4, j5⟩ := facts6 H4.out
  obtain ⟨z0, z1, z2, z3, z4, z5⟩ := frozen6 H4.out
  go_wp2
  go_ret
  have f1 : Fr (fun b => b = Bs ∨ b = Bm) w w4 := ((HF1.out.mono (fun _ h => h.elim)).trans (HF3.out.mono (fun _ h => h.elim))).trans (HF4.out.mono (fun _ h => Or.inr h))
  exact ⟨rfl, H4.out.set_writes _, HC4.out.keptS ((Fr.refl (· = Bs) w4).set_ rfl _) hne hFs, f1.set_ (Or.inl rfl) _⟩
set_option maxHeartbeats 16000000 in
set_option maxRecDepth 100000 in
theorem write_dec (at_ : Int) (A0 : Option Addr) (c0 : Nat) (l0 : List Int) (s : Dk) (F : Nat → Prop) (Bs Bm n : Nat) (C : Int → Option (List Int)) (w : World) (h : St w Bs Bm s) (hC : Cont w F Bm n C) (hne : Bs ≠ Bm) (hFs : ¬ F Bs) (hFm : ¬ F Bm) (hFn : ∀ k, w.heap.size ≤ k → F k) (hn : n < maxLen) (ha : okI at_)
    (hr0 : ∀ W, Fr (fun b => b = Bs ∨ b = Bm) w W → Kd.C (Kd.int .u8) W A0 l0.length l0) (hc0 : l0.length ≤ c0) (hl : l0.length ≤ 1000) (hm : met s at_ l0.length = 2) (harm : 0 < s.armed) (hz : wrap64 (s.armed - 1) ≠ 0) :
    Calls Tryd.prog 18 #[.pointer (some ⟨Bs, 0, none⟩), .int .i64 at_, .slice A0 l0.length c0] w fun e w' => e = .returned .nilIface ∧ St w' Bs Bm { s with armed := wrap64 (s.armed - 1), writes := wrap64 (s.writes + 1) } ∧ Cont w' F Bm (n + 1) (fun j => if j = at_ then some l0 else C j) ∧ Fr (fun b => b = Bs ∨ b = Bm) w w' := by
  have H := Aside0.mk h
  have HC := Aside0.mk hC
  have HMM := Aside0.mk hm
  have HA := Aside0.mk ha
  have HR0 := Aside0.mk hr0
  have HN := Aside0.mk hn
  have HFN := Aside0.mk hFn
  have hD : decide (0 < s.armed) = true := decide_eq_true harm
  have hZ : (wrap64 (s.armed - 1) == 0) = false := beq_eq_false_iff_ne.2 hz
  clear h hC hm ha hr0 harm hn hFn
  go_enter Tryd.func18, Tryd.ntmps18
  go_wp2_with fail
  refine (met_calls at_ (l0.length : Int) s Bs Bm w H.out).mono ?_
  rintro e w' ⟨rfl, rfl⟩
  rw [HMM.out]
  go_wp2_with fail
  refine (refused_calls 2 at_ w (by decide)).mono ?_
  rintro e w1 ⟨v, rfl, hE, hb, hNw⟩
  obtain rfl : v = .nilIface := hE
  have hf : Fr (fun _ => False) w w1 := Fr.of_below hb
  have H1 := Aside0.mk (H.out.kept hf (fun h => h.elim))
  have HC1 := Aside0.mk (HC.out.kept0 hf)
  have HR1 := Aside0.mk (HR0.out w1 (Fr.of_below hb))
  have HF1 := Aside0.mk hf
  obtain ⟨k0, k1, k2, k3, k4, k5⟩ := facts6 H1.out
  obtain ⟨y0, y1, y2, y3, y4, y5⟩ := frozen6 H1.out
  clear hb hNw hf k0 k2 k4 k5 y0 y1 y2 y4 y5
  have q3 : (w1.setCell ⟨Bs, 3, none⟩ (.int .i64 (wrap64 (s.armed - 1)))).cell? ⟨Bs, 3, none⟩ = some (.int .i64 (wrap64 (s.armed - 1))) := (facts6 (H1.out.set_armed (wrap64 (s.armed - 1)))).2.2.2.1
  go_wp2_with fail
  clear q3 y3 k1 k3
  have HX : Aside0 (Fr (· = Bs) w1 (w1.setCell ⟨Bs, 3, none⟩ (.int .i64 (wrap64 (s.armed - 1))))) := ⟨(Fr.refl (· = Bs) w1).set_ rfl _⟩
  have H1x := Aside0.mk (H1.out.set_armed (wrap64 (s.armed - 1)))
  have HC1x := Aside0.mk (HC1.out.keptS HX.out hne hFs)
  have HR1x : Aside0 (Kd.C (Kd.int .u8) (w1.setCell ⟨Bs, 3, none⟩ (.int .i64 (wrap64 (s.armed - 1)))) A0 l0.length l0) := ⟨HR0.out _ ((HF1.out.mono (fun _ h => h.elim)).trans (HX.out.mono (fun _ h => Or.inl h)))⟩
  have HF1x := Aside0.mk ((HF1.out.mono (T := (· = Bs)) (fun _ h => h.elim)).trans HX.out)
  clear HX H1 HC1 HR1 HF1
  generalize w1.setCell ⟨Bs, 3, none⟩ (.int .i64 (wrap64 (s.armed - 1))) = w1 at H1x HC1x HR1x HF1x ⊢
  have H1 := H1x
  have HC1 := HC1x
  have HR1 := HR1x
  have HF1 := HF1x
  clear H1x HC1x HR1x HF1x
  obtain ⟨k0, k1, k2, k3, k4, k5⟩ := facts6 H1.out
  clear k0 k2 k4 k5
  have L1 : Bs < w1.drew.heap.size := (Array.getElem?_eq_some_iff.1 H1.out).1
  have L2 : Bm < w1.drew.heap.size := HC1.out.lt
  have HL1 := Aside0.mk L1
  have HL2 := Aside0.mk L2
  clear L1 L2
  go_region_held3 (fun W => W.cell? ⟨Bs, 1, none⟩ = some (.map (some Bm))) (first | assumption) (first
    | (refine Kd.R_append_rows_step (Kd.int .u8) (w0 := w1) 0 (by rfl) (.const (.slice none 0 0)) (.tmp 43) 30 5 (.int .u8 0) 1 rfl Tryd.underlying30 info8 rfl (by decide) (by omega) (.slice none 0 0) ([] : List Int) l0 _ _ _ F (fun _ => False) rfl rfl ?aO ?aR (fun _ _ h => h) (fun _ h => h.elim) ?aF ?aB ?aS ?aL ?_; (case aO => exact Kd.R_nil _ _ _ _ _); (case aR => exact Kd.C_drew HR1.out); (case aF => exact fun k hk => HFN.out k (Nat.le_trans HF1.out.size hk)); (case aB => exact below_drew (Below.refl _ _)); (case aS => exact Nat.zero_le _); (case aL => simp only [List.length_nil]; omega); intro v3 w3 ho hb hg hat; have HF3 := Aside0.mk ((Fr.of_below (below_drew (Below.refl w1.heap.size w1))).trans (Fr.of_grown hg)); have HO3 := Aside0.mk ho; have k1' := (facts6 (H1.out.kept HF3.out (fun h => h.elim))).2.1; obtain ⟨w4, hrun, hC4, hF4⟩ := (HC1.out.kept0 HF3.out).store HN.out hFm HA.out (xs := l0) HO3.out; have HC4 := Aside0.mk hC4; have HF4 := Aside0.mk hF4; have H4 := Aside0.mk ((H1.out.kept HF3.out (fun h => h.elim)).kept hF4 (fun h => hne h)); have k4' := (facts6 H4.out).2.1; clear ho hb hg hat hC4 hF4))
  obtain ⟨j0, j1, j2, j3, j4, j5⟩ := facts6 H4.out
  obtain ⟨z0, z1, z2, z3, z4, z5⟩ := frozen6 H4.out
  go_wp2
  go_ret
  have f1 : Fr (fun b => b = Bs ∨ b = Bm) w w4 := ((HF1.out.mono (fun _ h => Or.inl h)).trans (HF3.out.mono (fun _ h => h.elim))).trans (HF4.out.mono (fun _ h => Or.inr h))
  exact ⟨rfl, H4.out.set_writes _, HC4.out.keptS ((Fr.refl (· = Bs) w4).set_ rfl _) hne hFs, f1.set_ (Or.inl rfl) _⟩
set_option maxHeartbeats 16000000 in
set_option maxRecDepth 100000 in
theorem write_cut (at_ : Int) (A0 : Option Addr) (c0 : Nat) (l0 : List Int) (s : Dk) (F : Nat → Prop) (Bs Bm n : Nat) (C : Int → Option (List Int)) (w : World) (h : St w Bs Bm s) (hC : Cont w F Bm n C) (hne : Bs ≠ Bm) (hFs : ¬ F Bs) (hFm : ¬ F Bm) (hFn : ∀ k, w.heap.size ≤ k → F k) (hn : n < maxLen) (ha : okI at_)
    (hr0 : ∀ W, Fr (fun b => b = Bs ∨ b = Bm) w W → Kd.C (Kd.int .u8) W A0 l0.length l0) (hc0 : l0.length ≤ c0) (hl : l0.length ≤ 1000) (hm : met s at_ l0.length = 2) (harm : 0 < s.armed) (hz : wrap64 (s.armed - 1) = 0) :
    Calls Tryd.prog 18 #[.pointer (some ⟨Bs, 0, none⟩), .int .i64 at_, .slice A0 l0.length c0] w fun e w' => ∃ v, e = .returned v ∧ IsErr w' (.fault diskS 0 (.num 70)) v ∧ St w' Bs Bm (cutS s) ∧ Cont w' F Bm n C ∧ Fr (fun b => b = Bs ∨ b = Bm) w w' ∧ ErrNew w.heap.size v := by
  have H := Aside0.mk h
  have HC := Aside0.mk hC
  have HMM := Aside0.mk hm
  have HA := Aside0.mk ha
  have HR0 := Aside0.mk hr0
  have HN := Aside0.mk hn
  have HFN := Aside0.mk hFn
  have hD : decide (0 < s.armed) = true := decide_eq_true harm
  have hZ : (wrap64 (s.armed - 1) == 0) = true := beq_iff_eq.2 hz
  clear h hC hm ha hr0 harm hn hFn
  go_enter Tryd.func18, Tryd.ntmps18
  go_wp2_with fail
  refine (met_calls at_ (l0.length : Int) s Bs Bm w H.out).mono ?_
  rintro e w' ⟨rfl, rfl⟩
  rw [HMM.out]
  go_wp2_with fail
  refine (refused_calls 2 at_ w (by decide)).mono ?_
  rintro e w1 ⟨v, rfl, hE, hb, hNw⟩
  obtain rfl : v = .nilIface := hE
  have hf : Fr (fun _ => False) w w1 := Fr.of_below hb
  have H1 := Aside0.mk (H.out.kept hf (fun h => h.elim))
  have HC1 := Aside0.mk (HC.out.kept0 hf)
  have HR1 := Aside0.mk (HR0.out w1 (Fr.of_below hb))
  have HF1 := Aside0.mk hf
  obtain ⟨k0, k1, k2, k3, k4, k5⟩ := facts6 H1.out
  obtain ⟨y0, y1, y2, y3, y4, y5⟩ := frozen6 H1.out
  clear hb hNw hf k0 k2 k4 k5 y0 y1 y2 y4 y5
  have q3 : (w1.setCell ⟨Bs, 3, none⟩ (.int .i64 0)).cell? ⟨Bs, 3, none⟩ = some (.int .i64 0) := (facts6 (H1.out.set_armed 0)).2.2.2.1
  go_wp2_with fail
  clear q3 y3 k1 k3
  have HX : Aside0 (Fr (· = Bs) w1 (w1.setCell ⟨Bs, 3, none⟩ (.int .i64 0))) := ⟨(Fr.refl (· = Bs) w1).set_ rfl _⟩
  have H1x := Aside0.mk (H1.out.set_armed 0)
  have HC1x := Aside0.mk (HC1.out.keptS HX.out hne hFs)
  have HR1x : Aside0 (Kd.C (Kd.int .u8) (w1.setCell ⟨Bs, 3, none⟩ (.int .i64 0)) A0 l0.length l0) := ⟨HR0.out _ ((HF1.out.mono (fun _ h => h.elim)).trans (HX.out.mono (fun _ h => Or.inl h)))⟩
  have HF1x := Aside0.mk ((HF1.out.mono (T := (· = Bs)) (fun _ h => h.elim)).trans HX.out)
  clear HX H1 HC1 HR1 HF1
  generalize w1.setCell ⟨Bs, 3, none⟩ (.int .i64 0) = w1 at H1x HC1x HR1x HF1x ⊢
  have H1 := H1x
  have HC1 := HC1x
  have HR1 := HR1x
  have HF1 := HF1x
  clear H1x HC1x HR1x HF1x
  obtain ⟨k0, k1, k2, k3, k4, k5⟩ := facts6 H1.out
  clear k0 k2 k4 k5
  refine (cut_calls _ Bs Bm w1 H1.out).mono ?_
  rintro e w5 ⟨rfl, hS, hf5⟩
  have H5 := Aside0.mk hS
  have HC5 := Aside0.mk (HC1.out.keptS hf5 hne hFs)
  have HF5 := Aside0.mk (HF1.out.trans hf5)
  clear hS hf5
  go_wp2_with fail
  refine (fault_calls 0 70 w5).mono ?_
  rintro e w6 ⟨v, rfl, hE6, hb6, hN6⟩
  have HE6 := Aside0.mk hE6
  have HN6 := Aside0.mk hN6
  have f6 : Fr (fun _ => False) w5 w6 := Fr.of_below hb6
  clear hE6 hN6 hb6
  go_wp2
  go_ret
  exact ⟨v, rfl, HE6.out, by have := H5.out.kept f6 (fun h => h.elim); simpa [cutS] using this, HC5.out.kept0 f6, (HF5.out.mono (fun _ h => Or.inl h)).trans (f6.mono (fun _ h => h.elim)), HN6.out.le HF5.out.size⟩
set_option maxHeartbeats 8000000 in
theorem write_bad (at_ : Int) (A0 : Option Addr) (c0 : Nat) (l0 : List Int) (s : Dk) (Bs Bm : Nat) (w : World) (h : St w Bs Bm s) (hm : met s at_ l0.length ≠ 2) : Calls Tryd.prog 18 #[.pointer (some ⟨Bs, 0, none⟩), .int .i64 at_, .slice A0 l0.length c0] w fun e w' => ∃ v, e = .returned v ∧ IsErr? w' (refE (met s at_ l0.length) at_) v ∧ Below w.heap.size w w' ∧ ErrNew w.heap.size v := by
  have H := Aside0.mk h
  have HM := Aside0.mk (met_cases s at_ l0.length)
  have HN := Aside0.mk hm
  obtain ⟨m, hmm⟩ : ∃ m, met s at_ l0.length = m := ⟨_, rfl⟩
  have HMM := Aside0.mk hmm
  rw [hmm] at HM HN ⊢
  clear h hm hmm
  go_enter Tryd.func18, Tryd.ntmps18
  go_wp2_with fail
  refine (met_calls at_ (l0.length : Int) s Bs Bm w H.out).mono ?_
  rintro e w' ⟨rfl, rfl⟩
  rw [HMM.out]
  go_wp2_with fail
  refine (refused_calls m at_ w HM.out).mono ?_
  rintro e w1 ⟨v, rfl, hE, hb, hNw⟩
  have HE := Aside0.mk hE
  have hv : ∃ t x, v = .iface t x := by
    rcases HM.out with rfl | rfl | rfl
    · obtain ⟨b, v', hv, _⟩ := hE; exact ⟨_, _, hv⟩
    · obtain ⟨b, v', hv, _⟩ := hE; exact ⟨_, _, hv⟩
    · exact absurd rfl HN.out
  obtain ⟨t, x, rfl⟩ := hv
  clear hE
  go_wp2
  go_ret
  exact ⟨_, rfl, HE.out, hb, hNw⟩
end Go.Proofs.YtlhjjjpldmekdaaDoor.PDsk.K
namespace Go.Proofs.YtlhjjjpldmekdaaDoor.PDsk.K
open Go.RowKit Go.Proofs.YtlhjjjpldmekdaaDoorW.PrintWords Go.Proofs.YtlhjjjpldmekdaaDoorW.PrintLast Go.Proofs.YtlhjjjpldmekdaaDoorW.PrintMore Go.Proofs.YtlhjjjpldmekdaaDoor.Err Go.Maps
set_option linter.unusedVariables false
set_option linter.unusedSimpArgs false

theorem wrap64_in (x : Int) (h : -9223372036854775808 ≤ x ∧ x ≤ 9223372036854775807) : wrap64 x = x := by unfold wrap64; omega
theorem lit_C (W : World) (B : Nat) (zs : List Int) (h : W.heap[B]? = some (.cells (zs.map (Value.int .u8)).toArray 5 (0, 0))) (hl : zs.length ≤ 9223372036854775807) : Kd.C (Kd.int .u8) W (some ⟨B, 0, none⟩) zs.length zs :=
  ⟨rfl, hl, fun _ => ⟨_, rfl, fun j p hp => ⟨[.int .u8 p], rfl, rfl, fun i u hu => by
    have hi : i = 0 := by
      have := (List.getElem?_eq_some_iff.1 hu).1
      simp at this; exact this
    subst hi
    simp at hu
    subst hu
    have : (Addr.add ⟨B, 0, none⟩ (j * (Kd.int .u8).sz + 0)) = ⟨B, j, none⟩ := by
      show Addr.add ⟨B, 0, none⟩ (j * 1 + 0) = _
      unfold Addr.add
      by_cases h0 : j = 0
      · simp [h0]
      · simp [h0]
    rw [this]
    exact blk_cell h j _ (by simp [hp])⟩⟩⟩
theorem Fr.alloc (S : Nat → Prop) (w : World) (o : Obj) : Fr S w (w.alloc o) := Fr.of_below (below_alloc (Below.refl _ _) o)
theorem St.lt {w : World} {Bs Bm : Nat} {s : Dk} (h : St w Bs Bm s) : Bs < w.heap.size := (Array.getElem?_eq_some_iff.1 h).1
theorem isErr_kept {w w' : World} {x : ByteArray} {a n : Int} {v : Value} {S : Nat → Prop} (h : IsErr w (.fault x a (.num n)) v) (hf : Fr S w w') (hS : ∀ t b, v = .iface t (.pointer (some ⟨b, 0, none⟩)) → ¬ S b) : IsErr w' (.fault x a (.num n)) v := by
  obtain ⟨b, v', rfl, hc, hi⟩ := h
  exact ⟨b, v', rfl, (hf.block b (Array.getElem?_eq_some_iff.1 hc).1 (hS _ b rfl)).trans hc, hi⟩
theorem Cont.ext {w : World} {F : Nat → Prop} {Bm n : Nat} {C C' : Int → Option (List Int)} (h : Cont w F Bm n C) (e : C = C') : Cont w F Bm n C' := e ▸ h

/-- What a write answers, what it leaves of the cells, whether the block is kept. -/
def wrS (s : Dk) (at_ n : Int) : Option Er × Dk × Bool :=
  if met s at_ n ≠ 2 then (refE (met s at_ n) at_, s, false)
  else if 0 < s.armed then
    if wrap64 (s.armed - 1) = 0 then (some (.fault diskS 0 (.num 70)), cutS s, false) else (none, { s with armed := wrap64 (s.armed - 1), writes := wrap64 (s.writes + 1) }, true)
  else (none, { s with writes := wrap64 (s.writes + 1) }, true)
def updC (C : Int → Option (List Int)) (k : Int) (xs : List Int) : Int → Option (List Int) := fun j => if j = k then some xs else C j
theorem Cont.more' {w : World} {F : Nat → Prop} {Bm n n' : Nat} {C : Int → Option (List Int)} (h : Cont w F Bm n C) (hn : n ≤ n') : Cont w F Bm n' C := by
  obtain ⟨D, hM, hk⟩ := h.map
  exact ⟨D, hM.mono hn, hk⟩
theorem write_calls (at_ : Int) (A0 : Option Addr) (c0 : Nat) (l0 : List Int) (s : Dk) (F : Nat → Prop) (Bs Bm n : Nat) (C : Int → Option (List Int)) (w : World) (h : St w Bs Bm s) (hC : Cont w F Bm n C) (hne : Bs ≠ Bm) (hFs : ¬ F Bs) (hFm : ¬ F Bm) (hFn : ∀ k, w.heap.size ≤ k → F k) (hn : n < maxLen) (ha : okI at_)
    (hr0 : ∀ W, Fr (fun b => b = Bs ∨ b = Bm) w W → Kd.C (Kd.int .u8) W A0 l0.length l0) (hc0 : l0.length ≤ c0) (hl : l0.length ≤ 1000) :
    Calls Tryd.prog 18 #[.pointer (some ⟨Bs, 0, none⟩), .int .i64 at_, .slice A0 l0.length c0] w fun e w' => ∃ v, e = .returned v ∧ IsErr? w' (wrS s at_ l0.length).1 v ∧ St w' Bs Bm (wrS s at_ l0.length).2.1 ∧ Cont w' F Bm (n + 1) (if (wrS s at_ l0.length).2.2 = true then updC C at_ l0 else C) ∧ Fr (fun b => b = Bs ∨ b = Bm) w w' ∧ ErrNew w.heap.size v := by
  unfold wrS
  by_cases hm : met s at_ l0.length ≠ 2
  · rw [if_pos hm]
    refine (write_bad at_ A0 c0 l0 s Bs Bm w h hm).mono ?_
    rintro e w' ⟨v, rfl, hE, hb, hN⟩
    have f := Fr.of_below (S := fun _ => False) hb
    exact ⟨v, rfl, hE, h.kept f (fun h => h.elim), (hC.kept0 f).more' (Nat.le_succ n), f.mono (fun _ h => h.elim), hN⟩
  · have hm2 : met s at_ l0.length = 2 := Classical.not_not.1 hm
    rw [if_neg hm]
    by_cases harm : 0 < s.armed
    · rw [if_pos harm]
      by_cases hz : wrap64 (s.armed - 1) = 0
      · rw [if_pos hz]
        refine (write_cut at_ A0 c0 l0 s F Bs Bm n C w h hC hne hFs hFm hFn hn ha hr0 hc0 hl hm2 harm hz).mono ?_
        rintro e w' ⟨v, rfl, hE, hS, hC', f, hN⟩
        exact ⟨v, rfl, hE, hS, hC'.more' (Nat.le_succ n), f, hN⟩
      · rw [if_neg hz]
        refine (write_dec at_ A0 c0 l0 s F Bs Bm n C w h hC hne hFs hFm hFn hn ha hr0 hc0 hl hm2 harm hz).mono ?_
        rintro e w' ⟨rfl, hS, hC', f⟩
        exact ⟨.nilIface, rfl, rfl, hS, hC', f, ErrNew.nil⟩
    · rw [if_neg harm]
      refine (write_plain at_ A0 c0 l0 s F Bs Bm n C w h hC hne hFs hFm hFn hn ha hr0 hc0 hl hm2 (by omega)).mono ?_
      rintro e w' ⟨rfl, hS, hC', f⟩
      exact ⟨.nilIface, rfl, rfl, hS, hC', f, ErrNew.nil⟩
/-- What a read answers: the bytes, whether there are some, the error. -/
def rdS (s : Dk) (C : Int → Option (List Int)) (at_ : Int) : List Int × Bool × Option Er := if met s at_ 0 ≠ 2 then ([], false, refE (met s at_ 0) at_) else ((C at_).getD [], (C at_).isSome, none)
theorem read_calls (at_ : Int) (s : Dk) (F : Nat → Prop) (Bs Bm n : Nat) (C : Int → Option (List Int)) (w : World) (h : St w Bs Bm s) (hC : Cont w F Bm n C) (ha : okI at_) (hl : ∀ xs, C at_ = some xs → xs.length ≤ 1000) :
    Calls Tryd.prog 33 #[.pointer (some ⟨Bs, 0, none⟩), .int .i64 at_] w fun e w' => ∃ v ev, e = .returned (.tuple #[v, .bool (rdS s C at_).2.1, ev]) ∧ Kd.R (Kd.int .u8) 5 w' w.heap.size (fun _ => True) v (rdS s C at_).1 ∧ IsErr? w' (rdS s C at_).2.2 ev ∧ Below w.heap.size w w' ∧ ErrNew w.heap.size ev := by
  unfold rdS
  by_cases hm : met s at_ 0 ≠ 2
  · rw [if_pos hm]
    refine (read_bad at_ s Bs Bm w h hm).mono ?_
    rintro e w' ⟨v, rfl, hE, hb, hN⟩
    exact ⟨_, v, rfl, Kd.R_nil _ _ _ _ _, hE, hb, hN⟩
  · rw [if_neg hm]
    refine (read_ok at_ s F Bs Bm n C w h hC ha hl (Classical.not_not.1 hm)).mono ?_
    rintro e w' ⟨v, rfl, hR, hb⟩
    exact ⟨v, .nilIface, rfl, hR, rfl, hb, ErrNew.nil⟩
end Go.Proofs.YtlhjjjpldmekdaaDoor.PDsk.K
namespace Go.Proofs.YtlhjjjpldmekdaaDoor.PDsk.K
open Go.RowKit Go.Proofs.YtlhjjjpldmekdaaDoorW.PrintWords Go.Proofs.YtlhjjjpldmekdaaDoorW.PrintLast Go.Proofs.YtlhjjjpldmekdaaDoorW.PrintMore Go.Proofs.YtlhjjjpldmekdaaDoor.Err Go.Maps
set_option linter.unusedVariables false
set_option linter.unusedSimpArgs false

/-- A block that holds no byte. -/
def NoB (w : World) (b : Nat) : Prop := (∀ cells, w.heap[b]? ≠ some (.cells cells 5 (0, 0))) ∧ ∀ o s x, w.cell? ⟨b, o, s⟩ ≠ some (.int .u8 x)
theorem disk_noB {w : World} {F : Nat → Prop} {Bs Bm n : Nat} {s : Dk} {C : Int → Option (List Int)} (h : St w Bs Bm s) (hC : Cont w F Bm n C) : ∀ b, b = Bs ∨ b = Bm → NoB w b := by
  intro b hb
  rcases hb with rfl | rfl
  · unfold St at h
    refine ⟨fun cells e => ?_, fun o sp x e => ?_⟩
    · rw [h] at e; injection e with e; injection e with _ e; exact absurd e (by decide)
    · simp only [World.cell?, h] at e
      split at e
      · cases e
      · rcases o with _ | _ | _ | _ | _ | _ | o <;> simp at e
  · obtain ⟨D, ⟨es, clock, hb, _⟩, _⟩ := hC.map
    refine ⟨fun cells e => ?_, fun o sp x e => ?_⟩
    · rw [hb] at e; injection e with e; cases e
    · simp [World.cell?, hb] at e
theorem Rw.far {w w' : World} {F : Nat → Prop} {v : Value} {xs : List Int} {S : Nat → Prop} (h : Rw w F v xs) (hf : Fr S w w') (hS : ∀ b, S b → F b → NoB w b) : Rw w' F v xs :=
  Kd.R_mono (Kd.R_move (Kd.R_bound h) (fun k hk => hf.block k hk.2.2.1 (fun hs => by
    obtain ⟨hF, _, _, q, hq, cells, hc⟩ := hk
    obtain rfl : q = 5 := by simpa [Kd.int, Kd.scalar] using hq
    exact (hS k hs hF).1 cells hc))) (fun _ hk => hk.1)
/-- Bytes that are read stay, whatever blocks without bytes are turned. -/
theorem C_fr {w W : World} {A : Option Addr} {n : Nat} {l : List Int} {S : Nat → Prop} (h : (Kd.int .u8).C w A n l) (hf : Fr S w W) (hS : ∀ b, S b → NoB w b) : (Kd.int .u8).C W A n l := by
  obtain ⟨h1, h2, h3⟩ := h
  refine ⟨h1, h2, fun hn => ?_⟩
  obtain ⟨ad, e, hc⟩ := h3 hn
  refine ⟨ad, e, fun j p hj => ?_⟩
  obtain ⟨c, k1, k2, k3⟩ := hc j p hj
  refine ⟨c, k1, k2, fun i u hu => ?_⟩
  have hcell := k3 i u hu
  have hu' : u = .int .u8 p := by
    have k2' : c = [Value.int .u8 p] := k2
    subst k2'
    rcases i with _ | i
    · simp at hu; exact hu.symm
    · simp at hu
  subst hu'
  obtain ⟨q, hq⟩ : ∃ q, ad.add (j * (Kd.int .u8).sz + i) = q := ⟨_, rfl⟩
  rw [hq] at hcell ⊢
  have hlt : q.block < w.heap.size := by
    by_cases h : q.block < w.heap.size
    · exact h
    · simp [World.cell?, Array.getElem?_eq_none (Nat.le_of_not_lt h)] at hcell
  have hns : ¬ S q.block := fun hs => (hS _ hs).2 q.off q.spot p hcell
  have := hf.block q.block hlt hns
  simp only [World.cell?] at hcell ⊢
  rw [this]; exact hcell

theorem Cont.far {w w' : World} {F : Nat → Prop} {Bm n : Nat} {C : Int → Option (List Int)} {S : Nat → Prop} (h : Cont w F Bm n C) (hf : Fr S w w') (hm : ¬ S Bm) (hS : ∀ b, S b → F b → NoB w b) : Cont w' F Bm n C := by
  obtain ⟨D, hM, hk⟩ := h.map
  refine ⟨D, hM.kept hf hm, fun k hok => ?_⟩
  have := hk k hok
  cases hc : C k with
  | none => rw [hc] at this; exact this
  | some xs =>
    rw [hc] at this
    obtain ⟨h1, v, h2, h3⟩ := this
    exact ⟨h1, v, h2, Rw.far h3 hf hS⟩
/-- A disk: its cells, its blocks; its rows are among F. -/
structure Dx (w : World) (F : Nat → Prop) (a1 a2 : Nat) (s : Dk) (n : Nat) (C : Int → Option (List Int)) : Prop where
  st : St w a1 a2 s
  cont : Cont w F a2 n C
  ne : a1 ≠ a2
  n1 : ¬ F a1
  n2 : ¬ F a2
section
variable {w w' : World} {F : Nat → Prop} {a1 a2 n : Nat} {s : Dk} {C : Int → Option (List Int)} {S : Nat → Prop}
theorem Dx.kept (h : Dx w F a1 a2 s n C) (hf : Fr S w w') (h1 : ¬ S a1) (h2 : ¬ S a2) (hS : ∀ b, S b → F b → NoB w b) : Dx w' F a1 a2 s n C := ⟨h.st.kept hf h1, h.cont.far hf h2 hS, h.ne, h.n1, h.n2⟩
theorem Dx.kept0 (h : Dx w F a1 a2 s n C) (hf : Fr (fun _ => False) w w') : Dx w' F a1 a2 s n C := h.kept hf (fun h => h) (fun h => h) (fun _ h => h.elim)
theorem Dx.below (h : Dx w F a1 a2 s n C) (hb : Below w.heap.size w w') : Dx w' F a1 a2 s n C := h.kept0 (Fr.of_below hb)
theorem Dx.more {m : Nat} (h : Dx w F a1 a2 s n C) (hm : n ≤ m) : Dx w F a1 a2 s m C := ⟨h.st, h.cont.more' hm, h.ne, h.n1, h.n2⟩
theorem Dx.noB (h : Dx w F a1 a2 s n C) : ∀ b, b = a1 ∨ b = a2 → NoB w b := disk_noB h.st h.cont
theorem Dx.lt (h : Dx w F a1 a2 s n C) : a1 < w.heap.size ∧ a2 < w.heap.size := ⟨St.lt h.st, h.cont.lt⟩
theorem Dx.ext {s' : Dk} {C' : Int → Option (List Int)} (h : Dx w F a1 a2 s n C) (e1 : s = s') (e2 : C = C') : Dx w F a1 a2 s' n C' := by subst e1 e2; exact h
theorem Dx.mono {G : Nat → Prop} (h : Dx w F a1 a2 s n C) (hG : ∀ b, F b → b < w.heap.size → G b) (h1 : ¬ G a1) (h2 : ¬ G a2) : Dx w G a1 a2 s n C := ⟨h.st, h.cont.mono hG, h.ne, h1, h2⟩
/-- Another disk's call leaves this one. -/
theorem Dx.other {b1 b2 m : Nat} {G : Nat → Prop} {r : Dk} {D : Int → Option (List Int)} (h : Dx w F b1 b2 s n C) (g : Dx w G a1 a2 r m D) (hf : Fr (fun b => b = a1 ∨ b = a2) w w') (h1 : b1 ≠ a1 ∧ b1 ≠ a2) (h2 : b2 ≠ a1 ∧ b2 ≠ a2) : Dx w' F b1 b2 s n C :=
  h.kept hf (fun e => e.elim h1.1 h1.2) (fun e => e.elim h2.1 h2.2) (fun b hb _ => g.noB b hb)
/-- Bytes stay at a disk's call. -/
theorem Dx.bytes {m : Nat} {A : Option Addr} {l : List Int} (g : Dx w F a1 a2 s n C) (hf : Fr (fun b => b = a1 ∨ b = a2) w w') (h : (Kd.int .u8).C w A m l) : (Kd.int .u8).C w' A m l := C_fr h hf g.noB
end
theorem new_dx (room : Int) (w : World) (h0 : 1 ≤ room) (h1 : room ≤ 65536) : Calls Tryd.prog 16 #[.int .i64 room] w fun e w' => ∃ a1 a2, e = .returned (.tuple #[.pointer (some ⟨a1, 0, none⟩), .nilIface]) ∧ Dx w' (fun b => b ≠ a1 ∧ b ≠ a2) a1 a2 ⟨room, false, 0, 0, 0⟩ 0 (fun _ => none) ∧ (w.heap.size ≤ a1 ∧ w.heap.size ≤ a2) ∧ Below w.heap.size w w' := by
  refine (new_ok room (fun _ => True) w h0 h1).mono ?_
  rintro e w' ⟨a1, a2, rfl, u1, u2, hne, hS, hC, hb⟩
  refine ⟨a1, a2, rfl, ⟨hS, ?_, hne, fun h => h.1 rfl, fun h => h.2 rfl⟩, ⟨u1, u2⟩, hb⟩
  obtain ⟨D, hM, hk⟩ := hC.map
  exact ⟨D, hM, fun k hok => hk k hok⟩
section
variable {w : World} {F : Nat → Prop} {a1 a2 n : Nat} {s : Dk} {C : Int → Option (List Int)}
theorem arm_dx (h : Dx w F a1 a2 s n C) (k : Int) : Calls Tryd.prog 29 #[.pointer (some ⟨a1, 0, none⟩), .int .i64 k] w fun e w' => e = .returned (.tuple #[]) ∧ Dx w' F a1 a2 (armS s k) n C ∧ Fr (fun b => b = a1 ∨ b = a2) w w' := by
  obtain ⟨hs, hc, hne, g1, g2⟩ := h
  refine (arm_calls s k a1 a2 w hs).mono ?_
  rintro e w' ⟨rfl, hS, f⟩
  exact ⟨rfl, ⟨hS, hc.keptS f hne g1, hne, g1, g2⟩, f.mono (fun _ h => Or.inl h)⟩
theorem cut_dx (h : Dx w F a1 a2 s n C) : Calls Tryd.prog 30 #[.pointer (some ⟨a1, 0, none⟩)] w fun e w' => e = .returned (.tuple #[]) ∧ Dx w' F a1 a2 (cutS s) n C ∧ Fr (fun b => b = a1 ∨ b = a2) w w' := by
  obtain ⟨hs, hc, hne, g1, g2⟩ := h
  refine (cut_calls s a1 a2 w hs).mono ?_
  rintro e w' ⟨rfl, hS, f⟩
  exact ⟨rfl, ⟨hS, hc.keptS f hne g1, hne, g1, g2⟩, f.mono (fun _ h => Or.inl h)⟩
theorem restart_dx (h : Dx w F a1 a2 s n C) : Calls Tryd.prog 31 #[.pointer (some ⟨a1, 0, none⟩)] w fun e w' => e = .returned (.tuple #[]) ∧ Dx w' F a1 a2 (restartS s) n C ∧ Fr (fun b => b = a1 ∨ b = a2) w w' := by
  obtain ⟨hs, hc, hne, g1, g2⟩ := h
  refine (restart_calls s a1 a2 w hs).mono ?_
  rintro e w' ⟨rfl, hS, f⟩
  exact ⟨rfl, ⟨hS, hc.keptS f hne g1, hne, g1, g2⟩, f.mono (fun _ h => Or.inl h)⟩
theorem down_dx (h : Dx w F a1 a2 s n C) : Calls Tryd.prog 39 #[.pointer (some ⟨a1, 0, none⟩)] w fun e w' => e = .returned (.bool s.down) ∧ w = w' := by
  obtain ⟨hs, _⟩ := h
  exact down_calls s a1 a2 w hs
theorem room_dx (h : Dx w F a1 a2 s n C) : Calls Tryd.prog 75 #[.pointer (some ⟨a1, 0, none⟩)] w fun e w' => e = .returned (.int .i64 s.room) ∧ w = w' := by
  obtain ⟨hs, _⟩ := h
  exact room_calls s a1 a2 w hs
theorem writes_dx (h : Dx w F a1 a2 s n C) : Calls Tryd.prog 38 #[.pointer (some ⟨a1, 0, none⟩)] w fun e w' => e = .returned (.int .i64 s.writes) ∧ w = w' := by
  obtain ⟨hs, _⟩ := h
  exact writes_calls s a1 a2 w hs
theorem life_dx (h : Dx w F a1 a2 s n C) : Calls Tryd.prog 74 #[.pointer (some ⟨a1, 0, none⟩)] w fun e w' => e = .returned (.int .i64 s.life) ∧ w = w' := by
  obtain ⟨hs, _⟩ := h
  exact life_calls s a1 a2 w hs
theorem write_dx (h : Dx w F a1 a2 s n C) (at_ : Int) (A : Option Addr) (c m : Nat) (l : List Int) (hFn : ∀ k, w.heap.size ≤ k → F k) (hn : n < maxLen) (ha : okI at_) (hm : l.length = m) (hl : (Kd.int .u8).C w A m l) (hc : m ≤ c) (hm1 : m ≤ 1000) :
    Calls Tryd.prog 18 #[.pointer (some ⟨a1, 0, none⟩), .int .i64 at_, .slice A m c] w fun e w' => ∃ v, e = .returned v ∧ IsErr? w' (wrS s at_ m).1 v ∧ Dx w' F a1 a2 (wrS s at_ m).2.1 (n + 1) (if (wrS s at_ m).2.2 = true then updC C at_ l else C) ∧ Fr (fun b => b = a1 ∨ b = a2) w w' ∧ ErrNew w.heap.size v := by
  subst hm
  have hq := h.noB
  obtain ⟨hs, hC, hne, g1, g2⟩ := h
  refine (write_calls at_ A c l s F a1 a2 n C w hs hC hne g1 g2 hFn hn ha (fun W hf => C_fr hl hf hq) hc hm1).mono ?_
  rintro e w' ⟨v, rfl, hE, hS, hC', f, hN⟩
  exact ⟨v, rfl, hE, ⟨hS, hC', hne, g1, g2⟩, f, hN⟩
theorem read_dx (h : Dx w F a1 a2 s n C) (at_ : Int) (ha : okI at_) (hl : ∀ xs, C at_ = some xs → xs.length ≤ 1000) :
    Calls Tryd.prog 33 #[.pointer (some ⟨a1, 0, none⟩), .int .i64 at_] w fun e w' => ∃ v ev, e = .returned (.tuple #[v, .bool (rdS s C at_).2.1, ev]) ∧ Kd.R (Kd.int .u8) 5 w' w.heap.size (fun _ => True) v (rdS s C at_).1 ∧ IsErr? w' (rdS s C at_).2.2 ev ∧ Below w.heap.size w w' ∧ ErrNew w.heap.size ev := by
  obtain ⟨hs, hC, hne, g1, g2⟩ := h
  exact read_calls at_ s F a1 a2 n C w hs hC ha hl
end
/-! ### what a write does -/
theorem wrS_cases (s : Dk) (a n : Int) : ((wrS s a n).1 = none ∧ (wrS s a n).2.2 = true ∧ (0 ≤ a ∧ a < s.room ∧ n ≤ 64) ∧ (wrS s a n).2.1.writes = wrap64 (s.writes + 1) ∧ (wrS s a n).2.1.room = s.room ∧ s.down = false) ∨
    ((∃ x, (wrS s a n).1 = some x) ∧ (wrS s a n).2.2 = false ∧ (wrS s a n).2.1.writes = s.writes ∧ (wrS s a n).2.1.room = s.room) := by
  unfold wrS
  by_cases hm : met s a n ≠ 2
  · rw [if_pos hm]
    right
    refine ⟨?_, rfl, rfl, rfl⟩
    rcases met_cases s a n with h | h | h
    · exact ⟨_, by unfold refE; rw [h]; rfl⟩
    · exact ⟨_, by unfold refE; rw [h]; rfl⟩
    · exact absurd h hm
  · rw [if_neg hm]
    have hm2 : met s a n = 2 := Classical.not_not.1 hm
    have hb : s.down = false ∧ 0 ≤ a ∧ a < s.room ∧ n ≤ 64 := by
      unfold met at hm2
      by_cases hd : s.down = true
      · rw [if_pos hd] at hm2; exact absurd hm2 (by decide)
      · rw [if_neg hd] at hm2
        by_cases hx : a < 0 ∨ s.room ≤ a ∨ 64 < n
        · rw [if_pos hx] at hm2; exact absurd hm2 (by decide)
        · exact ⟨by simpa using hd, by omega, by omega, by omega⟩
    by_cases harm : 0 < s.armed
    · rw [if_pos harm]
      by_cases hz : wrap64 (s.armed - 1) = 0
      · rw [if_pos hz]; right; exact ⟨⟨_, rfl⟩, rfl, rfl, rfl⟩
      · rw [if_neg hz]; left; exact ⟨rfl, rfl, hb.2, rfl, rfl, hb.1⟩
    · rw [if_neg harm]; left; exact ⟨rfl, rfl, hb.2, rfl, rfl, hb.1⟩
theorem strOf_bytesOf (t : ByteArray) : strOfNums (bytesOf t) = t := by
  unfold strOfNums bytesOf
  have : (t.data.toList.map fun b => (b.toNat : Int)).map (fun n => UInt8.ofNat n.toNat) = t.data.toList := by
    rw [List.map_map]
    conv => rhs; rw [← List.map_id t.data.toList]
    apply List.map_congr_left
    intro b _
    simp
  rw [this]
end Go.Proofs.YtlhjjjpldmekdaaDoor.PDsk.K
