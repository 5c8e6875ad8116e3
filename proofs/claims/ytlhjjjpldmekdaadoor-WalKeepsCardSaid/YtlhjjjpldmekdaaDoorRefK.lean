/- Proved: the contracts of the document's own disk (New, Write, Read, Arm, Cut, Restart), in the words of the program's; condition: a room of 1 to 65536, bytes that fit. -/
import Derived.Test.YtlhjjjpldmekdaaDoorZd
import Derived.Deep.RegionHeld3
import Derived.Deep.QuietTactic
import Derived.BigQuiet
namespace Go.Proofs.YtlhjjjpldmekdaaDoor.PDsk.K
open Go.RowKit Go.Proofs.YtlhjjjpldmekdaaDoorW.PrintWords Go.Proofs.YtlhjjjpldmekdaaDoorW.PrintLast Go.Proofs.YtlhjjjpldmekdaaDoorW.PrintMore Go.Proofs.YtlhjjjpldmekdaaDoor.Err Go.Maps
attribute [local go_sem] max2_int min2_int max_two min_two max_three min_three max_four min_four
set_option linter.unusedVariables false
set_option linter.unusedSimpArgs false

def wroteV (n : Nat) (C : Int → Option (List Int)) : List Value := (List.range n).map fun (k : Nat) => .bool (C (k : Int)).isSome
theorem wroteV_get (n : Nat) (C : Int → Option (List Int)) (k : Nat) (hk : k < n) : (wroteV n C).toArray[k]? = some (.bool (C (k : Int)).isSome) := by simp [wroteV, hk]
theorem wroteV_upd (n : Nat) (C : Int → Option (List Int)) (k : Nat) (xs : List Int) : (wroteV n C).toArray.setIfInBounds k (.bool true) = (wroteV n (updC C (k : Int) xs)).toArray := by
  rw [List.setIfInBounds_toArray]
  congr 1
  apply List.ext_getElem
  · simp [wroteV]
  · intro j h1 h2
    rw [List.getElem_set]
    have hj : j < n := by simpa [wroteV] using h2
    simp only [wroteV, List.getElem_map, List.getElem_range, updC]
    by_cases e : k = j
    · subst e; simp
    · rw [if_neg e, if_neg (by omega)]
/-- A slice that reads as a row of bytes. -/
def Rd (w : World) (v : Value) (xs : List Int) : Prop := ∃ A c, v = .slice A xs.length c ∧ xs.length ≤ c ∧ (Kd.int .u8).C w A xs.length xs
theorem Rd.fr {w W : World} {v : Value} {xs : List Int} {S : Nat → Prop} (h : Rd w v xs) (hf : Fr S w W) (hS : ∀ b, S b → NoB w b) : Rd W v xs := by
  obtain ⟨A, c, e, hc, hC⟩ := h
  exact ⟨A, c, e, hc, C_fr hC hf hS⟩
theorem Rd.below {w W : World} {v : Value} {xs : List Int} (h : Rd w v xs) (hb : Below w.heap.size w W) : Rd W v xs := h.fr (S := fun _ => False) (Fr.of_below hb) (fun _ h => h.elim)
theorem Rd.of_R {w : World} {e base : Nat} {ok : Nat → Prop} {v : Value} {xs : List Int} (h : (Kd.int .u8).R e w base ok v xs) : Rd w v xs := by
  obtain ⟨A, c, rfl⟩ := Kd.R_slice h
  have := Kd.R_reads' h
  exact ⟨A, c, rfl, this.2.1, this.2.2⟩
theorem Rd.nil (w : World) : Rd w (.slice none 0 0) [] := ⟨none, 0, rfl, Nat.le_refl _, rfl, by simp, fun h => absurd h (Nat.lt_irrefl 0)⟩
/-- The document's disk: the struct's block, the rows' block, the marks' block. -/
structure RDx (w : World) (F : Nat → Prop) (B0 B1 B2 : Nat) (s : Dk) (C : Int → Option (List Int)) (n : Nat) (vs : List Value) : Prop where
  room : s.room = (n : Int)
  pos : 1 ≤ n ∧ n ≤ 65536
  len : vs.length = n
  b0 : w.heap[B0]? = some (.cells #[.slice (some ⟨B1, 0, none⟩) n n, .slice (some ⟨B2, 0, none⟩) n n, .bool s.down, .int .i64 s.armed, .int .i64 s.writes, .int .i64 s.life] 60 (0, 0))
  b1 : w.heap[B1]? = some (.cells vs.toArray 30 (0, 0))
  b2 : w.heap[B2]? = some (.cells (wroteV n C).toArray 4 (0, 0))
  rows : ∀ (k : Nat) v, vs[k]? = some v → Rw w F v ((C (k : Int)).getD [])
  f0 : ¬ F B0
  f1 : ¬ F B1
  f2 : ¬ F B2
def RD (w : World) (F : Nat → Prop) (B0 B1 B2 : Nat) (s : Dk) (C : Int → Option (List Int)) : Prop := ∃ n vs, RDx w F B0 B1 B2 s C n vs
theorem noB_cells {w : World} {b : Nat} {cs : Array Value} {q : TypeId} (h : w.heap[b]? = some (.cells cs q (0, 0))) (hq : q ≠ 5) (hc : ∀ (o : Nat) x, cs[o]? ≠ some (.int .u8 x)) : NoB w b := by
  refine ⟨fun cells e => ?_, fun o s x e => ?_⟩
  · rw [h] at e; injection e with e; injection e with _ e; exact hq e
  · simp only [World.cell?, h] at e
    split at e
    · cases e
    · exact hc o x e
theorem RDx.noB {w : World} {F : Nat → Prop} {B0 B1 B2 n : Nat} {s : Dk} {C : Int → Option (List Int)} {vs : List Value} (h : RDx w F B0 B1 B2 s C n vs) : ∀ b, b = B0 ∨ b = B1 ∨ b = B2 → NoB w b := by
  rintro b (rfl | rfl | rfl)
  · exact noB_cells h.b0 (by decide) (fun o x e => by rcases o with _ | _ | _ | _ | _ | _ | o <;> simp at e)
  · refine noB_cells h.b1 (by decide) (fun o x e => ?_)
    rw [List.getElem?_toArray] at e
    obtain ⟨A, c, e2, _⟩ := Rd.of_R (h.rows o _ e)
    cases e2
  · refine noB_cells h.b2 (by decide) (fun o x e => ?_)
    rw [List.getElem?_toArray] at e
    simp only [wroteV, List.getElem?_map] at e
    cases h : (List.range n)[o]? <;> rw [h] at e <;> cases e
theorem RDx.lt {w : World} {F : Nat → Prop} {B0 B1 B2 n : Nat} {s : Dk} {C : Int → Option (List Int)} {vs : List Value} (h : RDx w F B0 B1 B2 s C n vs) : B0 < w.heap.size ∧ B1 < w.heap.size ∧ B2 < w.heap.size :=
  ⟨(Array.getElem?_eq_some_iff.1 h.b0).1, (Array.getElem?_eq_some_iff.1 h.b1).1, (Array.getElem?_eq_some_iff.1 h.b2).1⟩
theorem RDx.ne {w : World} {F : Nat → Prop} {B0 B1 B2 n : Nat} {s : Dk} {C : Int → Option (List Int)} {vs : List Value} (h : RDx w F B0 B1 B2 s C n vs) : B0 ≠ B1 ∧ B0 ≠ B2 ∧ B1 ≠ B2 :=
  ⟨blk_ne h.b0 h.b1 (by decide), blk_ne h.b0 h.b2 (by decide), blk_ne h.b1 h.b2 (by decide)⟩
theorem RD.noB {w : World} {F : Nat → Prop} {B0 B1 B2 : Nat} {s : Dk} {C : Int → Option (List Int)} (h : RD w F B0 B1 B2 s C) : ∀ b, b = B0 ∨ b = B1 ∨ b = B2 → NoB w b := by
  obtain ⟨n, vs, h⟩ := h; exact h.noB
theorem RD.lt {w : World} {F : Nat → Prop} {B0 B1 B2 : Nat} {s : Dk} {C : Int → Option (List Int)} (h : RD w F B0 B1 B2 s C) : B0 < w.heap.size ∧ B1 < w.heap.size ∧ B2 < w.heap.size := by
  obtain ⟨n, vs, h⟩ := h; exact h.lt
theorem RD.kept {w w' : World} {F : Nat → Prop} {B0 B1 B2 : Nat} {s : Dk} {C : Int → Option (List Int)} {S : Nat → Prop} (h : RD w F B0 B1 B2 s C) (hf : Fr S w w') (h0 : ¬ S B0) (h1 : ¬ S B1) (h2 : ¬ S B2) (hS : ∀ b, S b → F b → NoB w b) : RD w' F B0 B1 B2 s C := by
  obtain ⟨n, vs, h⟩ := h
  exact ⟨n, vs, h.room, h.pos, h.len, (hf.block B0 h.lt.1 h0).trans h.b0, (hf.block B1 h.lt.2.1 h1).trans h.b1, (hf.block B2 h.lt.2.2 h2).trans h.b2, fun k v hv => (h.rows k v hv).far hf hS, h.f0, h.f1, h.f2⟩
theorem RD.below {w w' : World} {F : Nat → Prop} {B0 B1 B2 : Nat} {s : Dk} {C : Int → Option (List Int)} (h : RD w F B0 B1 B2 s C) (hb : Below w.heap.size w w') : RD w' F B0 B1 B2 s C := h.kept (S := fun _ => False) (Fr.of_below hb) (fun h => h) (fun h => h) (fun h => h) (fun _ h => h.elim)
theorem RD.mono {w : World} {F G : Nat → Prop} {B0 B1 B2 : Nat} {s : Dk} {C : Int → Option (List Int)} (h : RD w F B0 B1 B2 s C) (hG : ∀ b, F b → b < w.heap.size → G b) (h0 : ¬ G B0) (h1 : ¬ G B1) (h2 : ¬ G B2) : RD w G B0 B1 B2 s C := by
  obtain ⟨n, vs, h⟩ := h
  exact ⟨n, vs, h.room, h.pos, h.len, h.b0, h.b1, h.b2, fun k v hv => Kd.R_mono (Kd.R_bound (h.rows k v hv)) (fun b hb => hG b hb.1 hb.2.2.1), h0, h1, h2⟩
theorem RD.ext {w : World} {F : Nat → Prop} {B0 B1 B2 : Nat} {s s' : Dk} {C C' : Int → Option (List Int)} (h : RD w F B0 B1 B2 s C) (e1 : s = s') (e2 : C = C') : RD w F B0 B1 B2 s' C' := by subst e1 e2; exact h
theorem info30 : (Tryd.prog.info? 30).map (fun i => (i.zero, i.size, i.bytes)) = some (some (.slice none 0 0), 1, 24) := by kernel_rfl
theorem infoB : (Tryd.prog.info? 4).map (fun i => (i.zero, i.size, i.bytes)) = some (some (.bool false), 1, 1) := by kernel_rfl
theorem madeL (z : Value) (n : Nat) : madeCells #[z] n = (List.replicate n z).toArray := by
  apply Array.ext
  · simp [madeCells]
  · intro i h1 h2
    simp [madeCells, Nat.mod_one]
theorem wroteV_none (n : Nat) : (wroteV n (fun _ => none)) = List.replicate n (.bool false) := by
  apply List.ext_getElem
  · simp [wroteV]
  · intro i h1 h2
    simp [wroteV]
theorem rd_made {W : World} {F : Nat → Prop} {B0 B1 B2 n : Nat} (hp : 1 ≤ n ∧ n ≤ 65536) (q0 : ¬ F B0) (q1 : ¬ F B1) (q2 : ¬ F B2) (h0 : W.heap[B0]? = some (.cells #[.slice (some ⟨B1, 0, none⟩) n n, .slice (some ⟨B2, 0, none⟩) n n, .bool false, .int .i64 0, .int .i64 0, .int .i64 0] 60 (0, 0)))
    (h1 : W.heap[B1]? = some (.cells (Array.replicate n (.slice none 0 0)) 30 (0, 0))) (h2 : W.heap[B2]? = some (.cells (Array.replicate n (.bool false)) 4 (0, 0))) : RD W F B0 B1 B2 ⟨n, false, 0, 0, 0⟩ (fun _ => none) :=
  ⟨n, List.replicate n (.slice none 0 0), rfl, hp, by simp, h0, by rw [List.toArray_replicate]; exact h1, by rw [wroteV_none, List.toArray_replicate]; exact h2, fun k v hv => by
    obtain rfl : v = .slice none 0 0 := by
      have := List.mem_of_getElem? hv
      exact List.eq_of_mem_replicate this
    exact Kd.R_nil _ _ _ _ _, q0, q1, q2⟩
set_option maxHeartbeats 8000000 in
theorem rnew (n : Nat) (h1 : 1 ≤ n) (h2 : n ≤ 65536) (w : World) : Calls Tryd.prog 17 #[.int .i64 (n : Int)] w fun e w' => ∃ B0 B1 B2, e = .returned (.pointer (some ⟨B0, 0, none⟩)) ∧ RD w' (fun b => b ≠ B0 ∧ b ≠ B1 ∧ b ≠ B2) B0 B1 B2 ⟨n, false, 0, 0, 0⟩ (fun _ => none) ∧ (w.heap.size ≤ B0 ∧ w.heap.size ≤ B1 ∧ w.heap.size ≤ B2) ∧ Below w.heap.size w w' := by
  have hm1 := print_make_of (P := Tryd.prog) 22 30 (.slice none 0 0) 24 Tryd.underlying22 info30 rfl (by decide) n (by omega)
  have hm2 := print_make_of (P := Tryd.prog) 54 4 (.bool false) 1 Tryd.underlying54 infoB rfl (by decide) n (by omega)
  rw [madeL] at hm1 hm2
  go_enter Tryd.func17, Tryd.ntmps17
  go_wp2_with fail
  go_region
  all_goals
    go_wp2
    go_ret
  · refine ⟨w.heap.size + 1 + 1, w.heap.size, w.heap.size + 1, rfl, rd_made ⟨h1, h2⟩ (fun h => h.1 rfl) (fun h => h.2.1 rfl) (fun h => h.2.2 rfl) ?_ ?_ ?_, by omega, below_drew (below_alloc (below_alloc (below_alloc (Below.refl _ _) _) _) _)⟩
    · have := blk_new ((w.alloc (Obj.cells (Array.replicate n (Value.slice none 0 0)) 30)).alloc (Obj.cells (Array.replicate n (Value.bool false)) 4)) (Obj.cells #[.slice (some ⟨w.heap.size, 0, none⟩) n n, .slice (some ⟨w.heap.size + 1, 0, none⟩) n n, .bool false, .int .i64 0, .int .i64 0, .int .i64 0] 60)
      rw [World.size_alloc, World.size_alloc] at this
      exact this
    · exact blk_alloc (blk_alloc (blk_new w _) _) _
    · have := blk_alloc (blk_new (w.alloc (Obj.cells (Array.replicate n (Value.slice none 0 0)) 30)) (Obj.cells (Array.replicate n (Value.bool false)) 4)) (Obj.cells #[.slice (some ⟨w.heap.size, 0, none⟩) n n, .slice (some ⟨w.heap.size + 1, 0, none⟩) n n, .bool false, .int .i64 0, .int .i64 0, .int .i64 0] 60)
      rw [World.size_alloc] at this
      exact this
  · refine ⟨w.heap.size + 1 + 1, w.heap.size + 1, w.heap.size, rfl, rd_made ⟨h1, h2⟩ (fun h => h.1 rfl) (fun h => h.2.1 rfl) (fun h => h.2.2 rfl) ?_ ?_ ?_, by omega, below_drew (below_alloc (below_alloc (below_alloc (Below.refl _ _) _) _) _)⟩
    · have := blk_new ((w.alloc (Obj.cells (Array.replicate n (Value.bool false)) 4)).alloc (Obj.cells (Array.replicate n (Value.slice none 0 0)) 30)) (Obj.cells #[.slice (some ⟨w.heap.size + 1, 0, none⟩) n n, .slice (some ⟨w.heap.size, 0, none⟩) n n, .bool false, .int .i64 0, .int .i64 0, .int .i64 0] 60)
      rw [World.size_alloc, World.size_alloc] at this
      exact this
    · have := blk_alloc (blk_new (w.alloc (Obj.cells (Array.replicate n (Value.bool false)) 4)) (Obj.cells (Array.replicate n (Value.slice none 0 0)) 30)) (Obj.cells #[.slice (some ⟨w.heap.size + 1, 0, none⟩) n n, .slice (some ⟨w.heap.size, 0, none⟩) n n, .bool false, .int .i64 0, .int .i64 0, .int .i64 0] 60)
      rw [World.size_alloc] at this
      exact this
    · exact blk_alloc (blk_alloc (blk_new w _) _) _
section
variable {w : World} {F : Nat → Prop} {B0 B1 B2 : Nat} {s : Dk} {C : Int → Option (List Int)}
theorem RDx.set_down {n : Nat} {vs : List Value} (h : RDx w F B0 B1 B2 s C n vs) (x : Bool) : RDx (w.setCell ⟨B0, 2, none⟩ (.bool x)) F B0 B1 B2 { s with down := x } C n vs := by
  have hq := h.noB
  have hne := h.ne
  have f : Fr (· = B0) w (w.setCell ⟨B0, 2, none⟩ (.bool x)) := (Fr.refl (· = B0) w).set_ rfl _
  refine ⟨h.room, h.pos, h.len, ?_, (f.block B1 h.lt.2.1 (fun e => hne.1 e.symm)).trans h.b1, (f.block B2 h.lt.2.2 (fun e => hne.2.1 e.symm)).trans h.b2, fun k v hv => (h.rows k v hv).far f (fun b hb _ => hq b (Or.inl hb)), h.f0, h.f1, h.f2⟩
  rw [Go.heap_setCell_same w B0 2 _ _ (.bool x) h.b0]; simp [Array.setIfInBounds]
theorem RDx.set_num {n : Nat} {vs : List Value} {s' : Dk} (h : RDx w F B0 B1 B2 s C n vs) (j : Nat) (x : Int) (hj : (j = 3 ∧ s' = { s with armed := x }) ∨ (j = 4 ∧ s' = { s with writes := x }) ∨ (j = 5 ∧ s' = { s with life := x })) : RDx (w.setCell ⟨B0, j, none⟩ (.int .i64 x)) F B0 B1 B2 s' C n vs := by
  have hq := h.noB
  have hne := h.ne
  have f : Fr (· = B0) w (w.setCell ⟨B0, j, none⟩ (.int .i64 x)) := (Fr.refl (· = B0) w).set_ rfl _
  have hr : s'.room = s.room := by rcases hj with ⟨_, rfl⟩ | ⟨_, rfl⟩ | ⟨_, rfl⟩ <;> rfl
  refine ⟨hr.trans h.room, h.pos, h.len, ?_, (f.block B1 h.lt.2.1 (fun e => hne.1 e.symm)).trans h.b1, (f.block B2 h.lt.2.2 (fun e => hne.2.1 e.symm)).trans h.b2, fun k v hv => (h.rows k v hv).far f (fun b hb _ => hq b (Or.inl hb)), h.f0, h.f1, h.f2⟩
  rw [Go.heap_setCell_same w B0 j _ _ (.int .i64 x) h.b0]
  rcases hj with ⟨rfl, rfl⟩ | ⟨rfl, rfl⟩ | ⟨rfl, rfl⟩ <;> simp [Array.setIfInBounds]
theorem fr0 {w' : World} (j : Nat) (v : Value) (h : Fr (fun b => b = B0 ∨ b = B1 ∨ b = B2) w w') : Fr (fun b => b = B0 ∨ b = B1 ∨ b = B2) w (w'.setCell ⟨B0, j, none⟩ v) := h.set_ (Or.inl rfl) v
set_option maxHeartbeats 8000000 in
theorem rrestart (h : RD w F B0 B1 B2 s C) : Calls Tryd.prog 36 #[.pointer (some ⟨B0, 0, none⟩)] w fun e w' => e = .returned (.tuple #[]) ∧ RD w' F B0 B1 B2 (restartS s) C ∧ Fr (fun b => b = B0 ∨ b = B1 ∨ b = B2) w w' := by
  obtain ⟨n, vs, h⟩ := h
  have H := Aside0.mk h
  obtain ⟨k0, k1, k2, k3, k4, k5⟩ := facts6 h.b0
  obtain ⟨z0, z1, z2, z3, z4, z5⟩ := frozen6 h.b0
  clear h
  go_enter Tryd.func36, Tryd.ntmps36
  go_wp2
  go_end0
  exact ⟨rfl, ⟨n, vs, H.out.set_down false⟩, fr0 _ _ (Fr.refl _ w)⟩
set_option maxHeartbeats 8000000 in
theorem rarm (h : RD w F B0 B1 B2 s C) (x : Int) : Calls Tryd.prog 34 #[.pointer (some ⟨B0, 0, none⟩), .int .i64 x] w fun e w' => e = .returned (.tuple #[]) ∧ RD w' F B0 B1 B2 (armS s x) C ∧ Fr (fun b => b = B0 ∨ b = B1 ∨ b = B2) w w' := by
  obtain ⟨n, vs, h⟩ := h
  have H := Aside0.mk h
  obtain ⟨k0, k1, k2, k3, k4, k5⟩ := facts6 h.b0
  obtain ⟨z0, z1, z2, z3, z4, z5⟩ := frozen6 h.b0
  clear h
  unfold armS
  cases hd : s.down with
  | true =>
    rw [if_pos rfl]
    rw [hd] at k2
    go_enter Tryd.func34, Tryd.ntmps34
    go_wp2
    go_end0
    exact ⟨rfl, ⟨n, vs, H.out⟩, Fr.refl _ _⟩
  | false =>
    rw [if_neg (by decide)]
    rw [hd] at k2
    by_cases hn : x < 0
    · rw [if_pos hn]
      go_enter Tryd.func34, Tryd.ntmps34
      go_wp2
      all_goals go_end0
      all_goals (first | (exfalso; omega) | (refine ⟨rfl, ⟨n, vs, ?_⟩, fr0 _ _ (Fr.refl _ w)⟩; have := H.out.set_num 3 0 (Or.inl ⟨rfl, rfl⟩); rw [hd] at this; exact this))
    · rw [if_neg hn]
      go_enter Tryd.func34, Tryd.ntmps34
      go_wp2
      all_goals go_end0
      all_goals (first | (exfalso; omega) | (refine ⟨rfl, ⟨n, vs, ?_⟩, fr0 _ _ (Fr.refl _ w)⟩; have := H.out.set_num 3 x (Or.inl ⟨rfl, rfl⟩); rw [hd] at this; exact this))
set_option maxHeartbeats 8000000 in
theorem rcut (h : RD w F B0 B1 B2 s C) : Calls Tryd.prog 35 #[.pointer (some ⟨B0, 0, none⟩)] w fun e w' => e = .returned (.tuple #[]) ∧ RD w' F B0 B1 B2 (cutS s) C ∧ Fr (fun b => b = B0 ∨ b = B1 ∨ b = B2) w w' := by
  obtain ⟨n, vs, h⟩ := h
  have H := Aside0.mk h
  obtain ⟨k0, k1, k2, k3, k4, k5⟩ := facts6 h.b0
  obtain ⟨z0, z1, z2, z3, z4, z5⟩ := frozen6 h.b0
  clear h
  cases hd : s.down with
  | true =>
    rw [hd] at k2
    go_enter Tryd.func35, Tryd.ntmps35
    go_wp2
    go_end0
    exact ⟨rfl, ⟨n, vs, by have := (H.out.set_down true).set_num 3 0 (Or.inl ⟨rfl, rfl⟩); simpa [cutS, hd] using this⟩, fr0 _ _ (fr0 _ _ (Fr.refl _ w))⟩
  | false =>
    rw [hd] at k2
    go_enter Tryd.func35, Tryd.ntmps35
    go_wp2
    go_end0
    exact ⟨rfl, ⟨n, vs, by have := ((H.out.set_num 5 (wrap64 (s.life + 1)) (Or.inr (Or.inr ⟨rfl, rfl⟩))).set_down true).set_num 3 0 (Or.inl ⟨rfl, rfl⟩); simpa [cutS, hd] using this⟩, fr0 _ _ (fr0 _ _ (fr0 _ _ (Fr.refl _ w)))⟩
/-- What is stored: a row, its mark. -/
theorem RDx.put {n k : Nat} {vs : List Value} (h : RDx w F B0 B1 B2 s C n vs) (hk : k < n) {v : Value} {xs : List Int} (hv : Rw w F v xs) : RDx ((w.setCell ⟨B1, k, none⟩ v).setCell ⟨B2, k, none⟩ (.bool true)) F B0 B1 B2 s (updC C (k : Int) xs) n (vs.set k v) := by
  have hq := h.noB
  have hne := h.ne
  have f : Fr (fun b => b = B0 ∨ b = B1 ∨ b = B2) w ((w.setCell ⟨B1, k, none⟩ v).setCell ⟨B2, k, none⟩ (.bool true)) := ((Fr.refl _ w).set_ (Or.inr (Or.inl rfl)) _).set_ (Or.inr (Or.inr rfl)) _
  have e1 := Go.heap_setCell_same w B1 k _ _ v h.b1
  have e2 := (Below.heap_setCell (w.setCell ⟨B1, k, none⟩ v) ⟨B2, k, none⟩ (.bool true) B1 hne.2.2).trans e1
  have i2 := (Below.heap_setCell w ⟨B1, k, none⟩ v B2 (fun e => hne.2.2 e.symm)).trans h.b2
  have e3 := Go.heap_setCell_same _ B2 k _ _ (.bool true) i2
  rw [wroteV_upd n C k xs] at e3
  rw [List.setIfInBounds_toArray] at e2
  refine ⟨h.room, h.pos, by rw [List.length_set]; exact h.len, (Below.heap_setCell _ ⟨B2, k, none⟩ (.bool true) B0 hne.2.1).trans ((Below.heap_setCell w ⟨B1, k, none⟩ v B0 hne.1).trans h.b0), e2, e3, fun j u hu => ?_, h.f0, h.f1, h.f2⟩
  by_cases hj : k = j
  · subst hj
    rw [List.getElem?_set_self (by rw [h.len]; exact hk)] at hu
    obtain rfl := Option.some.inj hu
    unfold updC
    rw [if_pos rfl]
    exact hv.far f (fun b hb _ => hq b hb)
  · rw [List.getElem?_set_ne hj] at hu
    unfold updC
    rw [if_neg (by omega)]
    exact (h.rows j u hu).far f (fun b hb _ => hq b hb)
theorem RDx.old {n k : Nat} {vs : List Value} (h : RDx w F B0 B1 B2 s C n vs) (hk : k < n) : ∃ v, vs.toArray[k]? = some v := ⟨vs[k]'(by rw [h.len]; exact hk), by simp [h.len, hk]⟩
theorem RDx.below {w' : World} {n : Nat} {vs : List Value} (h : RDx w F B0 B1 B2 s C n vs) (hb : Below w.heap.size w w') : RDx w' F B0 B1 B2 s C n vs :=
  ⟨h.room, h.pos, h.len, (hb.block B0 h.lt.1).trans h.b0, (hb.block B1 h.lt.2.1).trans h.b1, (hb.block B2 h.lt.2.2).trans h.b2, fun k v hv => Kd.R_below (h.rows k v hv) hb, h.f0, h.f1, h.f2⟩
theorem met_dec (a m : Int) (n : Nat) (hn : s.room = (n : Int)) (hd : s.down = false) : met s a m = if decide (a < 0) || (decide ((n : Int) ≤ a) || decide (64 < m)) then 1 else 2 := by
  unfold met
  rw [hd, if_neg (by decide), hn]
  congr 1
  simp
set_option maxHeartbeats 16000000 in
theorem rwrite_bad (h : RD w F B0 B1 B2 s C) (at_ : Int) (A : Option Addr) (m c : Nat) (hm : met s at_ m ≠ 2) : Calls Tryd.prog 19 #[.pointer (some ⟨B0, 0, none⟩), .int .i64 at_, .slice A m c] w fun e w' => e = .returned (.int .i64 (codeOf (refE (met s at_ m) at_))) ∧ w = w' := by
  obtain ⟨n, vs, h⟩ := h
  obtain ⟨k0, k1, k2, k3, k4, k5⟩ := facts6 h.b0
  have hroom := h.room
  clear h
  cases hd : s.down with
  | true =>
    rw [hd] at k2
    have : met s at_ m = 0 := by unfold met; rw [if_pos hd]
    rw [this]
    go_enter Tryd.func19, Tryd.ntmps19
    go_wp2
    go_ret
    exact ⟨rfl, rfl⟩
  | false =>
    rw [hd] at k2
    rw [met_dec at_ m n hroom hd] at hm ⊢
    cases h1 : decide (at_ < 0) <;> cases h2 : decide ((n : Int) ≤ at_) <;> cases h3 : decide (64 < (m : Int))
    all_goals
      simp only [h1, h2, h3] at hm
      simp only [Bool.or_false, Bool.or_true, Bool.true_or, Bool.false_or, if_true, Bool.false_eq_true, if_false] at hm ⊢
      first
      | exact (hm rfl).elim
      | clear hm
        go_enter Tryd.func19, Tryd.ntmps19
        go_wp2
        go_ret
        exact ⟨rfl, rfl⟩
set_option maxHeartbeats 16000000 in
set_option maxRecDepth 100000 in
theorem rwrite_plain (h : RD w F B0 B1 B2 s C) (k : Nat) (A : Option Addr) (c : Nat) (l : List Int) (hl : (Kd.int .u8).C w A l.length l) (hc : l.length ≤ c) (hl1 : l.length ≤ 1000) (hFn : ∀ k, w.heap.size ≤ k → F k) (hm : met s (k : Int) l.length = 2) (harm : s.armed ≤ 0) : Calls Tryd.prog 19 #[.pointer (some ⟨B0, 0, none⟩), .int .i64 (k : Int), .slice A l.length c] w fun e w' => e = .returned (.int .i64 0) ∧ RD w' F B0 B1 B2 { s with writes := wrap64 (s.writes + 1) } (updC C (k : Int) l) ∧ Fr (fun b => b = B0 ∨ b = B1 ∨ b = B2) w w' := by
  obtain ⟨n, vs, h⟩ := h
  have H := Aside0.mk h
  obtain ⟨k0, k1, k2, k3, k4, k5⟩ := facts6 h.b0
  obtain ⟨z0, z1, z2, z3, z4, z5⟩ := frozen6 h.b0
  have hroom := h.room
  have hd : s.down = false := by
    cases hd : s.down with
    | true => exfalso; unfold met at hm; rw [if_pos hd] at hm; exact absurd hm (by decide)
    | false => rfl
  rw [hd] at k2
  rw [met_dec _ _ n hroom hd] at hm
  have g1 : decide ((k : Int) < 0) = false := decide_eq_false (by omega)
  have g2 : decide ((n : Int) ≤ (k : Int)) = false := by
    cases h2 : decide ((n : Int) ≤ (k : Int)) with
    | true => rw [h2] at hm; simp at hm
    | false => rfl
  have g3 : decide (64 < (l.length : Int)) = false := by
    cases h2 : decide (64 < (l.length : Int)) with
    | true => rw [h2] at hm; simp at hm
    | false => rfl
  have hkn : k < n := by have := of_decide_eq_false g2; omega
  have g2n : decide (n ≤ k) = false := decide_eq_false (by omega)
  have g3n : decide (64 < l.length) = false := decide_eq_false (by have := of_decide_eq_false g3; omega)
  have HL := Aside0.mk hl
  have HFN := Aside0.mk hFn
  have hD : decide (0 < s.armed) = false := decide_eq_false (by omega)
  clear h hm hl hroom harm hFn
  skip
  go_enter Tryd.func19, Tryd.ntmps19
  go_wp2_with fail
  have H1 := H
  have HL1 := HL
  obtain ⟨w1, hw1⟩ : ∃ w1, w = w1 := ⟨w, rfl⟩
  have F1 : Aside0 (Fr (fun b => b = B0 ∨ b = B1 ∨ b = B2) w w1) := ⟨hw1 ▸ Fr.refl _ w⟩
  rw [hw1] at H1 HL1 k0 k1 k2 k3 k4 k5 z0 z1 z2 z3 z4 z5 ⊢
  have p0 : (0 : Int) ≤ (k : Int) := by omega
  have p1 : (k : Int) < (n : Int) := by omega
  go_region_held3 (fun W => W.cell? ⟨B0, 0, none⟩ = some (.slice (some ⟨B1, 0, none⟩) n n)) (first | assumption) (first
    | (refine Kd.R_append_rows_step (Kd.int .u8) (w0 := w1) 0 (by rfl) (.tmp 62) (.tmp 63) 30 5 (.int .u8 0) 1 rfl Tryd.underlying30 info8 rfl (by decide) (by omega) (.slice none 0 0) ([] : List Int) l _ _ _ F (fun _ => False) rfl rfl ?aO ?aR (fun _ _ h => h) (fun _ h => h.elim) ?aF ?aB ?aS ?aL ?_; (case aO => exact Kd.R_nil _ _ _ _ _); (case aR => exact Kd.C_drew HL1.out); (case aF => exact fun k hk => HFN.out k (Nat.le_trans F1.out.size hk)); (case aB => exact below_drew (Below.refl _ _)); (case aS => exact Nat.zero_le _); (case aL => (simp only [List.length_nil]; try omega)); intro v3 w3 ho hb hg hat; obtain ⟨A3, c3, rfl⟩ := Kd.R_slice ho; have HB3 : Aside0 (Below w1.heap.size w1 w3) := ⟨(below_drew (Below.refl w1.heap.size w1)).trans ((Fr.of_grown hg).below (n := w1.drew.heap.size) (Nat.le_refl _) (fun _ h => h.elim))⟩; have HV3 := Aside0.mk ho; have H3 := Aside0.mk (H1.out.below HB3.out); have k0' := (facts6 H3.out.b0).1; obtain ⟨old, hold⟩ := H3.out.old hkn; have m1 := Err.blk_cell H3.out.b1 k _ hold; have k0s := (facts6 ((Below.heap_setCell w3 ⟨B1, k, none⟩ (.slice A3 l.length c3) B0 H3.out.ne.1).trans H3.out.b0)).1; have m3 := blk_frozen H3.out.b1 k; clear ho hb hg hat))
  rw [List.nil_append] at HV3
  have hne := H3.out.ne
  have hP := H3.out.put hkn HV3.out
  have e2 := (Below.heap_setCell w3 ⟨B1, k, none⟩ (.slice A3 l.length c3) B2 (fun e => hne.2.2 e.symm)).trans H3.out.b2
  have e0 := (Below.heap_setCell w3 ⟨B1, k, none⟩ (.slice A3 l.length c3) B0 hne.1).trans H3.out.b0
  have q1 := (facts6 e0).2.1
  have m2 := Err.blk_cell e2 k _ (wroteV_get n C k hkn)
  have m4 := blk_frozen e2 k
  obtain ⟨y0, y1, y2, y3, y4, y5⟩ := facts6 hP.b0
  obtain ⟨x0, x1, x2, x3, x4, x5⟩ := frozen6 hP.b0
  have HP := Aside0.mk hP
  have nn : ¬ B1 = B0 ∧ ¬ B2 = B0 ∧ ¬ B0 = B1 ∧ ¬ B0 = B2 := by omega
  obtain ⟨n1, n2, n3, n4⟩ := nn
  clear hP e2 e0 hne
  go_wp2
  go_ret
  have f3 : Fr (fun b => b = B0 ∨ b = B1 ∨ b = B2) w w3 := F1.out.trans ((Fr.of_below HB3.out).mono (T := fun b => b = B0 ∨ b = B1 ∨ b = B2) (fun _ h => h))
  exact ⟨rfl, ⟨n, _, HP.out.set_num 4 (wrap64 (s.writes + 1)) (Or.inr (Or.inl ⟨rfl, rfl⟩))⟩, fr0 _ _ ((f3.set_ (Or.inr (Or.inl rfl)) _).set_ (Or.inr (Or.inr rfl)) _)⟩
set_option maxHeartbeats 16000000 in
set_option maxRecDepth 100000 in
theorem rwrite_dec (h : RD w F B0 B1 B2 s C) (k : Nat) (A : Option Addr) (c : Nat) (l : List Int) (hl : (Kd.int .u8).C w A l.length l) (hc : l.length ≤ c) (hl1 : l.length ≤ 1000) (hFn : ∀ k, w.heap.size ≤ k → F k) (hm : met s (k : Int) l.length = 2) (harm : 0 < s.armed) (hz : wrap64 (s.armed - 1) ≠ 0) : Calls Tryd.prog 19 #[.pointer (some ⟨B0, 0, none⟩), .int .i64 (k : Int), .slice A l.length c] w fun e w' => e = .returned (.int .i64 0) ∧ RD w' F B0 B1 B2 { s with armed := wrap64 (s.armed - 1), writes := wrap64 (s.writes + 1) } (updC C (k : Int) l) ∧ Fr (fun b => b = B0 ∨ b = B1 ∨ b = B2) w w' := by
  obtain ⟨n, vs, h⟩ := h
  have H := Aside0.mk h
  obtain ⟨k0, k1, k2, k3, k4, k5⟩ := facts6 h.b0
  obtain ⟨z0, z1, z2, z3, z4, z5⟩ := frozen6 h.b0
  have hroom := h.room
  have hd : s.down = false := by
    cases hd : s.down with
    | true => exfalso; unfold met at hm; rw [if_pos hd] at hm; exact absurd hm (by decide)
    | false => rfl
  rw [hd] at k2
  rw [met_dec _ _ n hroom hd] at hm
  have g1 : decide ((k : Int) < 0) = false := decide_eq_false (by omega)
  have g2 : decide ((n : Int) ≤ (k : Int)) = false := by
    cases h2 : decide ((n : Int) ≤ (k : Int)) with
    | true => rw [h2] at hm; simp at hm
    | false => rfl
  have g3 : decide (64 < (l.length : Int)) = false := by
    cases h2 : decide (64 < (l.length : Int)) with
    | true => rw [h2] at hm; simp at hm
    | false => rfl
  have hkn : k < n := by have := of_decide_eq_false g2; omega
  have g2n : decide (n ≤ k) = false := decide_eq_false (by omega)
  have g3n : decide (64 < l.length) = false := decide_eq_false (by have := of_decide_eq_false g3; omega)
  have HL := Aside0.mk hl
  have HFN := Aside0.mk hFn
  have hD : decide (0 < s.armed) = true := decide_eq_true harm
  have hZ : (wrap64 (s.armed - 1) == 0) = false := beq_eq_false_iff_ne.2 hz
  have q3 : (w.setCell ⟨B0, 3, none⟩ (.int .i64 (wrap64 (s.armed - 1)))).cell? ⟨B0, 3, none⟩ = some (.int .i64 (wrap64 (s.armed - 1))) := (facts6 (h.set_num 3 (wrap64 (s.armed - 1)) (Or.inl ⟨rfl, rfl⟩)).b0).2.2.2.1
  have q3n : (0 : Int) < s.armed := harm
  clear h hm hl hroom harm hFn
  clear hz
  go_enter Tryd.func19, Tryd.ntmps19
  go_wp2_with fail
  clear q3 q3n k0 k1 k2 k3 k4 k5 z0 z1 z2 z3 z4 z5
  have FX : Aside0 (Fr (· = B0) w (w.setCell ⟨B0, 3, none⟩ (.int .i64 (wrap64 (s.armed - 1))))) := ⟨(Fr.refl (· = B0) w).set_ rfl _⟩
  have H1x := Aside0.mk (H.out.set_num 3 (wrap64 (s.armed - 1)) (Or.inl ⟨rfl, rfl⟩))
  have HL1x := Aside0.mk (C_fr HL.out FX.out (fun b hb => H.out.noB b (Or.inl hb)))
  have F1x : Aside0 (Fr (fun b => b = B0 ∨ b = B1 ∨ b = B2) w (w.setCell ⟨B0, 3, none⟩ (.int .i64 (wrap64 (s.armed - 1))))) := ⟨FX.out.mono (fun _ h => Or.inl h)⟩
  clear FX
  generalize w.setCell ⟨B0, 3, none⟩ (.int .i64 (wrap64 (s.armed - 1))) = w1 at H1x HL1x F1x ⊢
  have H1 := H1x
  have HL1 := HL1x
  have F1 := F1x
  clear H1x HL1x F1x
  obtain ⟨k0, k1, k2, k3, k4, k5⟩ := facts6 H1.out.b0
  obtain ⟨z0, z1, z2, z3, z4, z5⟩ := frozen6 H1.out.b0
  try rw [hd] at k2
  have p0 : (0 : Int) ≤ (k : Int) := by omega
  have p1 : (k : Int) < (n : Int) := by omega
  go_region_held3 (fun W => W.cell? ⟨B0, 0, none⟩ = some (.slice (some ⟨B1, 0, none⟩) n n)) (first | assumption) (first
    | (refine Kd.R_append_rows_step (Kd.int .u8) (w0 := w1) 0 (by rfl) (.tmp 62) (.tmp 63) 30 5 (.int .u8 0) 1 rfl Tryd.underlying30 info8 rfl (by decide) (by omega) (.slice none 0 0) ([] : List Int) l _ _ _ F (fun _ => False) rfl rfl ?aO ?aR (fun _ _ h => h) (fun _ h => h.elim) ?aF ?aB ?aS ?aL ?_; (case aO => exact Kd.R_nil _ _ _ _ _); (case aR => exact Kd.C_drew HL1.out); (case aF => exact fun k hk => HFN.out k (Nat.le_trans F1.out.size hk)); (case aB => exact below_drew (Below.refl _ _)); (case aS => exact Nat.zero_le _); (case aL => (simp only [List.length_nil]; try omega)); intro v3 w3 ho hb hg hat; obtain ⟨A3, c3, rfl⟩ := Kd.R_slice ho; have HB3 : Aside0 (Below w1.heap.size w1 w3) := ⟨(below_drew (Below.refl w1.heap.size w1)).trans ((Fr.of_grown hg).below (n := w1.drew.heap.size) (Nat.le_refl _) (fun _ h => h.elim))⟩; have HV3 := Aside0.mk ho; have H3 := Aside0.mk (H1.out.below HB3.out); have k0' := (facts6 H3.out.b0).1; obtain ⟨old, hold⟩ := H3.out.old hkn; have m1 := Err.blk_cell H3.out.b1 k _ hold; have k0s := (facts6 ((Below.heap_setCell w3 ⟨B1, k, none⟩ (.slice A3 l.length c3) B0 H3.out.ne.1).trans H3.out.b0)).1; have m3 := blk_frozen H3.out.b1 k; clear ho hb hg hat))
  rw [List.nil_append] at HV3
  have hne := H3.out.ne
  have hP := H3.out.put hkn HV3.out
  have e2 := (Below.heap_setCell w3 ⟨B1, k, none⟩ (.slice A3 l.length c3) B2 (fun e => hne.2.2 e.symm)).trans H3.out.b2
  have e0 := (Below.heap_setCell w3 ⟨B1, k, none⟩ (.slice A3 l.length c3) B0 hne.1).trans H3.out.b0
  have q1 := (facts6 e0).2.1
  have m2 := Err.blk_cell e2 k _ (wroteV_get n C k hkn)
  have m4 := blk_frozen e2 k
  obtain ⟨y0, y1, y2, y3, y4, y5⟩ := facts6 hP.b0
  obtain ⟨x0, x1, x2, x3, x4, x5⟩ := frozen6 hP.b0
  have HP := Aside0.mk hP
  have nn : ¬ B1 = B0 ∧ ¬ B2 = B0 ∧ ¬ B0 = B1 ∧ ¬ B0 = B2 := by omega
  obtain ⟨n1, n2, n3, n4⟩ := nn
  clear hP e2 e0 hne
  go_wp2
  go_ret
  have f3 : Fr (fun b => b = B0 ∨ b = B1 ∨ b = B2) w w3 := F1.out.trans ((Fr.of_below HB3.out).mono (T := fun b => b = B0 ∨ b = B1 ∨ b = B2) (fun _ h => h))
  exact ⟨rfl, ⟨n, _, by have hq := HP.out.set_num 4 (wrap64 (s.writes + 1)) (Or.inr (Or.inl ⟨rfl, rfl⟩)); simp only [hd] at hq; exact hq⟩, fr0 _ _ ((f3.set_ (Or.inr (Or.inl rfl)) _).set_ (Or.inr (Or.inr rfl)) _)⟩
set_option maxHeartbeats 16000000 in
set_option maxRecDepth 100000 in
theorem rwrite_cut (h : RD w F B0 B1 B2 s C) (k : Nat) (A : Option Addr) (c : Nat) (l : List Int) (hl : (Kd.int .u8).C w A l.length l) (hc : l.length ≤ c) (hl1 : l.length ≤ 1000) (hFn : ∀ k, w.heap.size ≤ k → F k) (hm : met s (k : Int) l.length = 2) (harm : 0 < s.armed) (hz : wrap64 (s.armed - 1) = 0) : Calls Tryd.prog 19 #[.pointer (some ⟨B0, 0, none⟩), .int .i64 (k : Int), .slice A l.length c] w fun e w' => e = .returned (.int .i64 70) ∧ RD w' F B0 B1 B2 (cutS s) C ∧ Fr (fun b => b = B0 ∨ b = B1 ∨ b = B2) w w' := by
  obtain ⟨n, vs, h⟩ := h
  have H := Aside0.mk h
  obtain ⟨k0, k1, k2, k3, k4, k5⟩ := facts6 h.b0
  obtain ⟨z0, z1, z2, z3, z4, z5⟩ := frozen6 h.b0
  have hroom := h.room
  have hd : s.down = false := by
    cases hd : s.down with
    | true => exfalso; unfold met at hm; rw [if_pos hd] at hm; exact absurd hm (by decide)
    | false => rfl
  rw [hd] at k2
  rw [met_dec _ _ n hroom hd] at hm
  have g1 : decide ((k : Int) < 0) = false := decide_eq_false (by omega)
  have g2 : decide ((n : Int) ≤ (k : Int)) = false := by
    cases h2 : decide ((n : Int) ≤ (k : Int)) with
    | true => rw [h2] at hm; simp at hm
    | false => rfl
  have g3 : decide (64 < (l.length : Int)) = false := by
    cases h2 : decide (64 < (l.length : Int)) with
    | true => rw [h2] at hm; simp at hm
    | false => rfl
  have hkn : k < n := by have := of_decide_eq_false g2; omega
  have g2n : decide (n ≤ k) = false := decide_eq_false (by omega)
  have g3n : decide (64 < l.length) = false := decide_eq_false (by have := of_decide_eq_false g3; omega)
  have HL := Aside0.mk hl
  have HFN := Aside0.mk hFn
  have hD : decide (0 < s.armed) = true := decide_eq_true harm
  have hZ : (wrap64 (s.armed - 1) == 0) = true := beq_iff_eq.2 hz
  have q3 : (w.setCell ⟨B0, 3, none⟩ (.int .i64 0)).cell? ⟨B0, 3, none⟩ = some (.int .i64 0) := (facts6 (h.set_num 3 0 (Or.inl ⟨rfl, rfl⟩)).b0).2.2.2.1
  have q3n : (0 : Int) < s.armed := harm
  clear h hm hl hroom harm hFn
  have HZ := Aside0.mk hz
  go_enter Tryd.func19, Tryd.ntmps19
  go_wp2_with fail
  go_ret
  have hz' : wrap64 (s.armed - 1) = 0 := HZ.out
  refine ⟨rfl, ⟨n, vs, ?_⟩, ?_⟩
  · have := ((H.out.set_num 3 0 (Or.inl ⟨rfl, rfl⟩)).set_down true).set_num 5 (wrap64 (s.life + 1)) (Or.inr (Or.inr ⟨rfl, rfl⟩))
    simpa [cutS, hd] using this
  · exact fr0 _ _ (fr0 _ _ (fr0 _ _ (Fr.refl _ w)))
/-- The document's write, told whole: as the program's. -/
theorem rwrite (h : RD w F B0 B1 B2 s C) (at_ : Int) (A : Option Addr) (c m : Nat) (l : List Int) (hlm : l.length = m) (hl : (Kd.int .u8).C w A m l) (hc : m ≤ c) (hl1 : m ≤ 1000) (hFn : ∀ k, w.heap.size ≤ k → F k) : Calls Tryd.prog 19 #[.pointer (some ⟨B0, 0, none⟩), .int .i64 at_, .slice A m c] w fun e w' => e = .returned (.int .i64 (codeOf (wrS s at_ m).1)) ∧ RD w' F B0 B1 B2 (wrS s at_ m).2.1 (if (wrS s at_ m).2.2 = true then updC C at_ l else C) ∧ Fr (fun b => b = B0 ∨ b = B1 ∨ b = B2) w w' := by
  subst hlm
  unfold wrS
  by_cases hm : met s at_ l.length ≠ 2
  · rw [if_pos hm]
    refine (rwrite_bad h at_ A l.length c hm).mono ?_
    rintro e w' ⟨rfl, rfl⟩
    exact ⟨rfl, h, Fr.refl _ _⟩
  · rw [if_neg hm]
    have hm2 : met s at_ l.length = 2 := Classical.not_not.1 hm
    have h0 : 0 ≤ at_ := by
      unfold met at hm2
      by_cases hd : s.down = true
      · rw [if_pos hd] at hm2; exact absurd hm2 (by decide)
      · rw [if_neg hd] at hm2
        by_cases hx : at_ < 0 ∨ s.room ≤ at_ ∨ 64 < (l.length : Int)
        · rw [if_pos hx] at hm2; exact absurd hm2 (by decide)
        · omega
    obtain ⟨k, rfl⟩ : ∃ k : Nat, at_ = (k : Int) := ⟨at_.toNat, by omega⟩
    by_cases harm : 0 < s.armed
    · rw [if_pos harm]
      by_cases hz : wrap64 (s.armed - 1) = 0
      · rw [if_pos hz]
        refine (rwrite_cut h k A c l hl hc hl1 hFn hm2 harm hz).mono ?_
        rintro e w' ⟨rfl, hR, f⟩
        exact ⟨rfl, hR, f⟩
      · rw [if_neg hz]
        refine (rwrite_dec h k A c l hl hc hl1 hFn hm2 harm hz).mono ?_
        rintro e w' ⟨rfl, hR, f⟩
        exact ⟨rfl, hR, f⟩
    · rw [if_neg harm]
      refine (rwrite_plain h k A c l hl hc hl1 hFn hm2 (by omega)).mono ?_
      rintro e w' ⟨rfl, hR, f⟩
      exact ⟨rfl, hR, f⟩
end
end Go.Proofs.YtlhjjjpldmekdaaDoor.PDsk.K
