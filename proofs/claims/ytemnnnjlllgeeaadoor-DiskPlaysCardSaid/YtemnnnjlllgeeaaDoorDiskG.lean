/- Proved: the contracts of disk's small functions (New's fault, refused, met, Arm, Cut, Restart, Down, Room, Writes, Life), over a disk whose cells lie in one block; condition: the disk's cells. -/
import Derived.Test.YtemnnnjlllgeeaaDoorCode
import Derived.Test.YtemnnnjlllgeeaaDoorWMore
import Derived.IntWalk
namespace Go.Proofs.YtemnnnjlllgeeaaDoor.PDsk
open Go.RowKit Go.Proofs.YtemnnnjlllgeeaaDoorW.PrintWords Go.Proofs.YtemnnnjlllgeeaaDoorW.PrintLast Go.Proofs.YtemnnnjlllgeeaaDoorW.PrintMore Go.Proofs.YtemnnnjlllgeeaaDoor.Err
attribute [local go_sem] max2_int min2_int max_two min_two max_three min_three max_four min_four
set_option linter.unusedVariables false
set_option linter.unusedSimpArgs false

/-- An error's block, if it has one, is none of the elder ones. -/
def ErrNew (n : Nat) (v : Value) : Prop := ∀ (t : TypeId) (b : Nat), v = .iface t (.pointer (some ⟨b, 0, none⟩)) → n ≤ b
theorem ErrNew.nil {n : Nat} : ErrNew n .nilIface := fun _ _ h => by cases h
theorem ErrNew.le {n m : Nat} {v : Value} (h : ErrNew n v) (hm : m ≤ n) : ErrNew m v := fun t b e => Nat.le_trans hm (h t b e)
def diskS : ByteArray := ⟨#[100, 105, 115, 107]⟩
theorem fault_calls (a n : Int) (w : World) : Calls Tryd.prog 48 #[.int .i64 a, .int .i64 n] w fun e w' => ∃ v, e = .returned v ∧ IsErr w' (.fault diskS a (.num n)) v ∧ Below w.heap.size w w' ∧ ErrNew w.heap.size v := by
  go_enter Tryd.func48, Tryd.ntmps48
  go_wp2
  go_ret
  exact ⟨_, rfl, ⟨w.heap.size, _, rfl, heap_alloc_new w _, rfl⟩, (Below.refl _ _).alloc (Nat.le_refl _) _, fun _ _ h => by cases h; exact Nat.le_refl _⟩

set_option maxHeartbeats 4000000 in
theorem code_law (x : Option Er) (v : Value) (w : World) (hx : IsErr? w x v) (hg : Laid w) : Calls Tryd.prog 24 #[v] w fun e w' => e = .returned (.int .i64 (codeOf x)) ∧ Below w.heap.size w w' := by
  have HX := Aside0.mk hx
  have HG := Aside0.mk hg
  clear hx hg
  go_enter Tryd.func24, Tryd.ntmps24
  go_wp2_with (first | (go_at_call 51; refine (code_calls x _ _ HX.out HG.out).mono ?_; rintro e w' ⟨rfl, hb⟩))
  go_ret
  exact ⟨rfl, by assumption⟩
theorem ta58 (x : Value) (w : World) : (Instr.typeAssert (.iface 80 x) 25 80 true).run Tryd.prog w = .ok (.tuple #[x, .bool true]) w := by kernel_rfl
theorem ta52 (x : Value) (w : World) : (Instr.typeAssert (.iface 72 x) 25 80 true).run Tryd.prog w = .ok (.tuple #[.pointer none, .bool false]) w := by kernel_rfl
theorem tanil (w : World) : (Instr.typeAssert .nilIface 25 80 true).run Tryd.prog w = .ok (.tuple #[.pointer none, .bool false]) w := by kernel_rfl
set_option maxHeartbeats 4000000 in
theorem at_law (x : Option Er) (v : Value) (w : World) (hx : IsErr? w x v) : Calls Tryd.prog 27 #[v] w fun e w' => e = .returned (.int .i64 (placeOf x)) ∧ w = w' := by
  have t1 := ta58
  have t2 := ta52
  have t3 := tanil
  match x, hx with
  | none, hx =>
    obtain rfl : v = .nilIface := hx
    go_enter Tryd.func27, Tryd.ntmps27
    go_wp2
    go_ret
    exact ⟨rfl, rfl⟩
  | some (.num n), hx =>
    obtain rfl : v = _ := hx
    go_enter Tryd.func27, Tryd.ntmps27
    go_wp2
    go_ret
    exact ⟨rfl, rfl⟩
  | some (.fault wh a e), hx =>
    obtain ⟨b, v', rfl, hb, he⟩ := hx
    have hc := blk_cell hb 1 _ rfl
    clear he hb
    go_enter Tryd.func27, Tryd.ntmps27
    go_wp2
    go_ret
    exact ⟨rfl, rfl⟩
theorem drewN_below {w w' : World} {m : Nat} (hb : Below (w.drewN m).heap.size (w.drewN m) w') : Below w.heap.size w w' := below_step (by apply pw_below_drewN; exact Below.refl _ _) hb

/-! ### what is refused -/
def refE (m at_ : Int) : Option Er := if m = 1 then some (.fault diskS at_ (.num 1)) else if m = 0 then some (.fault diskS 0 (.num 70)) else none
set_option maxHeartbeats 4000000 in
theorem refused_calls (m at_ : Int) (w : World) (hm : m = 0 ∨ m = 1 ∨ m = 2) : Calls Tryd.prog 49 #[.int .i64 m, .int .i64 at_] w fun e w' => ∃ v, e = .returned v ∧ IsErr? w' (refE m at_) v ∧ Below w.heap.size w w' ∧ ErrNew w.heap.size v := by
  rcases hm with rfl | rfl | rfl
  · go_enter Tryd.func49, Tryd.ntmps49
    go_wp2_with (first | (go_at_call 48; refine (fault_calls _ _ _).mono ?_; rintro e w' ⟨v, rfl, hE, hb, hN⟩))
    go_ret
    exact ⟨v, rfl, hE, hb, hN⟩
  · go_enter Tryd.func49, Tryd.ntmps49
    go_wp2_with (first | (go_at_call 48; refine (fault_calls _ _ _).mono ?_; rintro e w' ⟨v, rfl, hE, hb, hN⟩))
    go_ret
    exact ⟨v, rfl, hE, hb, hN⟩
  · go_enter Tryd.func49, Tryd.ntmps49
    go_wp2
    go_ret
    exact ⟨.nilIface, rfl, rfl, Below.refl _ _, ErrNew.nil⟩

/-! ### a disk's cells -/
/-- What a disk's cells say, but for the blocks' map. -/
structure Dk where
  room : Int
  down : Bool
  armed : Int
  writes : Int
  life : Int
/-- The disk's cells lie in block Bs; the map's block is Bm. -/
def St (w : World) (Bs Bm : Nat) (s : Dk) : Prop := w.heap[Bs]? = some (.cells #[.int .i64 s.room, .map (some Bm), .bool s.down, .int .i64 s.armed, .int .i64 s.writes, .int .i64 s.life] 75 (0, 0))
/-- All blocks but some are as they were. -/
structure Fr (S : Nat → Prop) (w w' : World) : Prop where
  os : w'.os = w.os
  tape : w'.tape = w.tape
  output : w'.output = w.output
  size : w.heap.size ≤ w'.heap.size
  block : ∀ k, k < w.heap.size → ¬ S k → w'.heap[k]? = w.heap[k]?
theorem Fr.refl (S : Nat → Prop) (w : World) : Fr S w w := ⟨rfl, rfl, rfl, Nat.le_refl _, fun _ _ _ => rfl⟩
theorem Fr.trans {S : Nat → Prop} {a b c : World} (h : Fr S a b) (k : Fr S b c) : Fr S a c :=
  ⟨k.os.trans h.os, k.tape.trans h.tape, k.output.trans h.output, Nat.le_trans h.size k.size, fun i hi hs => (k.block i (Nat.lt_of_lt_of_le hi h.size) hs).trans (h.block i hi hs)⟩
theorem Fr.of_below {S : Nat → Prop} {w w' : World} (h : Below w.heap.size w w') : Fr S w w' := ⟨h.os, h.tape, h.output, h.size, fun k hk _ => h.block k hk⟩
theorem Fr.mono {S T : Nat → Prop} {w w' : World} (h : Fr S w w') (hst : ∀ k, S k → T k) : Fr T w w' := ⟨h.os, h.tape, h.output, h.size, fun k hk ht => h.block k hk (fun hs => ht (hst k hs))⟩
theorem Fr.below {S : Nat → Prop} {w w' : World} {n : Nat} (h : Fr S w w') (hn : n ≤ w.heap.size) (hS : ∀ k, S k → n ≤ k) : Below n w w' := ⟨h.os, h.tape, h.output, h.size, fun k hk => h.block k (Nat.lt_of_lt_of_le hk hn) (fun hs => by have := hS k hs; omega)⟩
theorem Fr.set_ {S : Nat → Prop} {w w' : World} {b j : Nat} (h : Fr S w w') (hb : S b) (u : Value) : Fr S w (w'.setCell ⟨b, j, none⟩ u) := by
  have e := Below.setCell (Below.refl 0 w') (p := ⟨b, j, none⟩) (Nat.zero_le _) u
  exact ⟨e.os.trans h.os, e.tape.trans h.tape, e.output.trans h.output, Nat.le_trans h.size e.size, fun k hk hs => (Below.heap_setCell w' ⟨b, j, none⟩ u k (fun h2 => hs (h2 ▸ hb))).trans (h.block k hk hs)⟩
theorem facts6 {W : World} {B : Nat} {t : TypeId} {v0 v1 v2 v3 v4 v5 : Value} (h : W.heap[B]? = some (.cells #[v0, v1, v2, v3, v4, v5] t (0, 0))) :
    W.cell? ⟨B, 0, none⟩ = some v0 ∧ W.cell? ⟨B, 1, none⟩ = some v1 ∧ W.cell? ⟨B, 2, none⟩ = some v2 ∧ W.cell? ⟨B, 3, none⟩ = some v3 ∧ W.cell? ⟨B, 4, none⟩ = some v4 ∧ W.cell? ⟨B, 5, none⟩ = some v5 :=
  ⟨blk_cell h 0 _ rfl, blk_cell h 1 _ rfl, blk_cell h 2 _ rfl, blk_cell h 3 _ rfl, blk_cell h 4 _ rfl, blk_cell h 5 _ rfl⟩
theorem frozen6 {W : World} {B : Nat} {t : TypeId} {v0 v1 v2 v3 v4 v5 : Value} (h : W.heap[B]? = some (.cells #[v0, v1, v2, v3, v4, v5] t (0, 0))) :
    W.frozen? ⟨B, 0, none⟩ = false ∧ W.frozen? ⟨B, 1, none⟩ = false ∧ W.frozen? ⟨B, 2, none⟩ = false ∧ W.frozen? ⟨B, 3, none⟩ = false ∧ W.frozen? ⟨B, 4, none⟩ = false ∧ W.frozen? ⟨B, 5, none⟩ = false := by
  refine ⟨?_, ?_, ?_, ?_, ?_, ?_⟩ <;> simp [World.frozen?, h]
theorem St.set_down {w : World} {Bs Bm : Nat} {s : Dk} (h : St w Bs Bm s) (x : Bool) : St (w.setCell ⟨Bs, 2, none⟩ (.bool x)) Bs Bm { s with down := x } := by
  unfold St at h ⊢; rw [heap_setCell_same _ _ _ _ _ _ h]; simp [Array.setIfInBounds]
theorem St.set_armed {w : World} {Bs Bm : Nat} {s : Dk} (h : St w Bs Bm s) (x : Int) : St (w.setCell ⟨Bs, 3, none⟩ (.int .i64 x)) Bs Bm { s with armed := x } := by
  unfold St at h ⊢; rw [heap_setCell_same _ _ _ _ _ _ h]; simp [Array.setIfInBounds]
theorem St.set_writes {w : World} {Bs Bm : Nat} {s : Dk} (h : St w Bs Bm s) (x : Int) : St (w.setCell ⟨Bs, 4, none⟩ (.int .i64 x)) Bs Bm { s with writes := x } := by
  unfold St at h ⊢; rw [heap_setCell_same _ _ _ _ _ _ h]; simp [Array.setIfInBounds]
theorem St.set_life {w : World} {Bs Bm : Nat} {s : Dk} (h : St w Bs Bm s) (x : Int) : St (w.setCell ⟨Bs, 5, none⟩ (.int .i64 x)) Bs Bm { s with life := x } := by
  unfold St at h ⊢; rw [heap_setCell_same _ _ _ _ _ _ h]; simp [Array.setIfInBounds]
theorem St.kept {w w' : World} {Bs Bm : Nat} {s : Dk} {S : Nat → Prop} (h : St w Bs Bm s) (hf : Fr S w w') (hS : ¬ S Bs) : St w' Bs Bm s := (hf.block Bs (Array.getElem?_eq_some_iff.1 h).1 hS).trans h

/-! ### the small calls -/
def met (s : Dk) (at_ n : Int) : Int := if s.down = true then 0 else if at_ < 0 ∨ s.room ≤ at_ ∨ 64 < n then 1 else 2
set_option maxHeartbeats 8000000 in
theorem met_calls (at_ n : Int) (s : Dk) (Bs Bm : Nat) (w : World) (h : St w Bs Bm s) : Calls Tryd.prog 50 #[.pointer (some ⟨Bs, 0, none⟩), .int .i64 at_, .int .i64 n] w fun e w' => e = .returned (.int .i64 (met s at_ n)) ∧ w = w' := by
  obtain ⟨k0, k1, k2, k3, k4, k5⟩ := facts6 h
  clear k1 k3 k4 k5 h
  obtain ⟨m, hm⟩ : ∃ m, met s at_ n = m := ⟨_, rfl⟩
  rw [hm]
  unfold met at hm
  cases hd : s.down with
  | true =>
    rw [hd, if_pos rfl] at hm
    subst hm
    rw [hd] at k2
    go_enter Tryd.func50, Tryd.ntmps50
    go_wp2
    go_ret
    exact ⟨rfl, rfl⟩
  | false =>
    rw [hd, if_neg (by decide)] at hm
    rw [hd] at k2
    cases h1 : decide (at_ < 0) <;> cases h2 : decide (s.room ≤ at_) <;> cases h3 : decide (64 < n)
    all_goals
      have hm' : m = (if decide (at_ < 0) || (decide (s.room ≤ at_) || decide (64 < n)) then 1 else 2) := by
        rw [← hm]; congr 1; simp
      rw [h1, h2, h3] at hm'
      simp only [Bool.or_false, Bool.or_true, Bool.true_or, Bool.false_or, if_true, Bool.false_eq_true, if_false] at hm'
      subst hm'
      clear hm
      go_enter Tryd.func50, Tryd.ntmps50
      go_wp2
      go_ret
      exact ⟨rfl, rfl⟩
def restartS (s : Dk) : Dk := { s with down := false }
set_option maxHeartbeats 4000000 in
theorem restart_calls (s : Dk) (Bs Bm : Nat) (w : World) (h : St w Bs Bm s) : Calls Tryd.prog 17 #[.pointer (some ⟨Bs, 0, none⟩)] w fun e w' => e = .returned (.tuple #[]) ∧ St w' Bs Bm (restartS s) ∧ Fr (· = Bs) w w' := by
  have H := Aside0.mk h
  obtain ⟨k0, k1, k2, k3, k4, k5⟩ := facts6 h
  obtain ⟨z0, z1, z2, z3, z4, z5⟩ := frozen6 h
  clear h
  go_enter Tryd.func17, Tryd.ntmps17
  go_wp2
  go_end0
  exact ⟨rfl, H.out.set_down false, (Fr.refl (· = Bs) w).set_ rfl _⟩
def armS (s : Dk) (n : Int) : Dk := if s.down = true then s else { s with armed := if n < 0 then 0 else n }
set_option maxHeartbeats 4000000 in
theorem arm_calls (s : Dk) (n : Int) (Bs Bm : Nat) (w : World) (h : St w Bs Bm s) : Calls Tryd.prog 15 #[.pointer (some ⟨Bs, 0, none⟩), .int .i64 n] w fun e w' => e = .returned (.tuple #[]) ∧ St w' Bs Bm (armS s n) ∧ Fr (· = Bs) w w' := by
  have H := Aside0.mk h
  obtain ⟨k0, k1, k2, k3, k4, k5⟩ := facts6 h
  obtain ⟨z0, z1, z2, z3, z4, z5⟩ := frozen6 h
  clear h
  unfold armS
  cases hd : s.down with
  | true =>
    rw [if_pos rfl]
    rw [hd] at k2
    go_enter Tryd.func15, Tryd.ntmps15
    go_wp2
    go_end0
    exact ⟨rfl, H.out, Fr.refl _ _⟩
  | false =>
    rw [if_neg (by decide)]
    rw [hd] at k2
    by_cases hn : n < 0
    · rw [if_pos hn]
      go_enter Tryd.func15, Tryd.ntmps15
      go_wp2
      all_goals go_end0
      all_goals (first | (exfalso; omega) | (refine ⟨rfl, ?_, (Fr.refl (· = Bs) w).set_ rfl _⟩; have := H.out.set_armed 0; rw [hd] at this; exact this))
    · rw [if_neg hn]
      go_enter Tryd.func15, Tryd.ntmps15
      go_wp2
      all_goals go_end0
      all_goals (first | (exfalso; omega) | (refine ⟨rfl, ?_, (Fr.refl (· = Bs) w).set_ rfl _⟩; have := H.out.set_armed n; rw [hd] at this; exact this))
def cutS (s : Dk) : Dk := { s with down := true, armed := 0, life := if s.down = true then s.life else wrap64 (s.life + 1) }
set_option maxHeartbeats 4000000 in
theorem cut_calls (s : Dk) (Bs Bm : Nat) (w : World) (h : St w Bs Bm s) : Calls Tryd.prog 16 #[.pointer (some ⟨Bs, 0, none⟩)] w fun e w' => e = .returned (.tuple #[]) ∧ St w' Bs Bm (cutS s) ∧ Fr (· = Bs) w w' := by
  have H := Aside0.mk h
  obtain ⟨k0, k1, k2, k3, k4, k5⟩ := facts6 h
  obtain ⟨z0, z1, z2, z3, z4, z5⟩ := frozen6 h
  clear h
  cases hd : s.down with
  | true =>
    rw [hd] at k2
    go_enter Tryd.func16, Tryd.ntmps16
    go_wp2
    go_end0
    exact ⟨rfl, by have := (H.out.set_down true).set_armed 0; simpa [cutS, hd] using this, ((Fr.refl (· = Bs) w).set_ rfl _).set_ rfl _⟩
  | false =>
    rw [hd] at k2
    go_enter Tryd.func16, Tryd.ntmps16
    go_wp2
    go_end0
    exact ⟨rfl, by have := ((H.out.set_life (wrap64 (s.life + 1))).set_down true).set_armed 0; simpa [cutS, hd] using this, (((Fr.refl (· = Bs) w).set_ rfl _).set_ rfl _).set_ rfl _⟩
theorem down_calls (s : Dk) (Bs Bm : Nat) (w : World) (h : St w Bs Bm s) : Calls Tryd.prog 21 #[.pointer (some ⟨Bs, 0, none⟩)] w fun e w' => e = .returned (.bool s.down) ∧ w = w' := by
  obtain ⟨k0, k1, k2, k3, k4, k5⟩ := facts6 h
  clear h
  go_enter Tryd.func21, Tryd.ntmps21
  go_wp2
  go_ret
  exact ⟨rfl, rfl⟩
theorem room_calls (s : Dk) (Bs Bm : Nat) (w : World) (h : St w Bs Bm s) : Calls Tryd.prog 32 #[.pointer (some ⟨Bs, 0, none⟩)] w fun e w' => e = .returned (.int .i64 s.room) ∧ w = w' := by
  obtain ⟨k0, k1, k2, k3, k4, k5⟩ := facts6 h
  clear h
  go_enter Tryd.func32, Tryd.ntmps32
  go_wp2
  go_ret
  exact ⟨rfl, rfl⟩
theorem writes_calls (s : Dk) (Bs Bm : Nat) (w : World) (h : St w Bs Bm s) : Calls Tryd.prog 20 #[.pointer (some ⟨Bs, 0, none⟩)] w fun e w' => e = .returned (.int .i64 s.writes) ∧ w = w' := by
  obtain ⟨k0, k1, k2, k3, k4, k5⟩ := facts6 h
  clear h
  go_enter Tryd.func20, Tryd.ntmps20
  go_wp2
  go_ret
  exact ⟨rfl, rfl⟩
theorem life_calls (s : Dk) (Bs Bm : Nat) (w : World) (h : St w Bs Bm s) : Calls Tryd.prog 22 #[.pointer (some ⟨Bs, 0, none⟩)] w fun e w' => e = .returned (.int .i64 s.life) ∧ w = w' := by
  obtain ⟨k0, k1, k2, k3, k4, k5⟩ := facts6 h
  clear h
  go_enter Tryd.func22, Tryd.ntmps22
  go_wp2
  go_ret
  exact ⟨rfl, rfl⟩
end Go.Proofs.YtemnnnjlllgeeaaDoor.PDsk
