/- Proved: the law DiskPlays returns true for all acts that fit: the walk. -/
import Derived.Test.YtemnnnjlllgeeaaDoorRefK
import Derived.Test.YtemnnnjlllgeeaaDoorDiskT
import Derived.Test.YtemnnnjlllgeeaaDoorRegInv
import Derived.Test.YtemnnnjlllgeeaaDoorPDspx0
namespace Go.Proofs.YtemnnnjlllgeeaaDoor.PDsk.K
open Go.RowKit Go.Proofs.YtemnnnjlllgeeaaDoorW.PrintWords Go.Proofs.YtemnnnjlllgeeaaDoorW.PrintLast Go.Proofs.YtemnnnjlllgeeaaDoorW.PrintMore Go.Proofs.YtemnnnjlllgeeaaDoor.Err Go.Proofs.YtemnnnjlllgeeaaDoor.PDsp Go.Maps
attribute [local go_sem] max2_int min2_int max_two min_two max_three min_three max_four min_four
set_option linter.unusedVariables false
set_option linter.unusedSimpArgs false

theorem q_same {P : Program} {f : FuncId} {args : Array Value} {w : World} {n : Nat} {v : Value} (h : Calls P f args (w.drewN n) fun e w' => e = .returned v ∧ w.drewN n = w') : Calls P f args (w.drewN n) fun e w'' => e = .returned v ∧ ∃ m, w'' = w.drewN m :=
  h.mono fun _ _ ⟨he, hm⟩ => ⟨he, n, hm.symm⟩
abbrev ActT := S32
theorem cell_keep {w W : World} {p : Addr} {v : Value} (hb : Below w.heap.size w W) (h : w.cell? p = some v) : W.cell? p = some v := by
  have hlt : p.block < w.heap.size := by
    by_cases h2 : p.block < w.heap.size
    · exact h2
    · simp [World.cell?, Array.getElem?_eq_none (Nat.le_of_not_lt h2)] at h
  have := hb.block p.block hlt
  simp only [World.cell?] at h ⊢
  rw [this]; exact h
theorem facts3 {W : World} {B : Nat} {t : TypeId} {v0 v1 v2 : Value} (h : W.heap[B]? = some (.cells #[v0, v1, v2] t (0, 0))) :
    W.cell? ⟨B, 0, none⟩ = some v0 ∧ W.cell? ⟨B, 1, none⟩ = some v1 ∧ W.cell? ⟨B, 2, none⟩ = some v2 := ⟨Err.blk_cell h 0 _ rfl, Err.blk_cell h 1 _ rfl, Err.blk_cell h 2 _ rfl⟩
def okAll (l : List ActT) : Prop := ∀ x ∈ l, okI x.f1
theorem rd_ok {l : List ActT} (h : okAll l) (i : Nat) (hi : i < l.length) : okI (rd_T32 l (i : Int)).f1 := by
  unfold rd_T32
  rw [Int.toNat_natCast, List.getD_eq_getElem?_getD, List.getElem?_eq_getElem hi]
  exact h _ (List.getElem_mem hi)
/-- A row of one's own that is not empty has a block. -/
theorem R_block {w : World} {base n c : Nat} {ok : Nat → Prop} {A : Option Addr} {xs : List Int} (h : (Kd.int .u8).R 5 w base ok (.slice A n c) xs) (hn : 0 < n) : ∃ g, A = some ⟨g, 0, none⟩ ∧ base ≤ g ∧ ok g ∧ g < w.heap.size ∧ ∃ cur, w.heap[g]? = some (.cells cur 5 (0, 0)) ∧ n ≤ cur.size := by
  obtain ⟨h0, inner, ⟨h1, h2⟩, hr⟩ := h
  rcases h2 with ⟨e, _⟩ | ⟨g, cap, cur, e, hg, hh, r⟩
  · injection e with e1 e2 e3; omega
  · injection e with e1 e2 e3
    subst e1
    have hok := h0 g (by simp [Value.ownBlock])
    refine ⟨g, rfl, hg, hok, (Array.getElem?_eq_some_iff.1 hh).1, cur, hh, ?_⟩
    have h3 := r.1
    have h4 := r.2.2.1
    have h5 : cur.size = cap * 1 := h4
    omega
/-- An error as a disk tells it. -/
def DE : Option Er → Prop
  | none => True
  | some x => ∃ p q, x = .fault diskS p (.num q)
theorem refE_DE (m a : Int) : DE (refE m a) := by
  unfold refE
  split
  · exact ⟨_, _, rfl⟩
  · split
    · exact ⟨_, _, rfl⟩
    · trivial
theorem wrS_DE (s : Dk) (a n : Int) : DE (wrS s a n).1 := by
  unfold wrS
  split
  · exact refE_DE _ _
  · split
    · split
      · exact ⟨_, _, rfl⟩
      · trivial
    · trivial
theorem rdS_DE (s : Dk) (C : Int → Option (List Int)) (a : Int) : DE (rdS s C a).2.2 := by
  unfold rdS
  split
  · exact refE_DE _ _
  · trivial
theorem refE_place (m a : Int) (h : codeOf (refE m a) = 1) : placeOf (refE m a) = a := by
  unfold refE at h ⊢
  split
  · rfl
  · rename_i h1
    rw [if_neg h1] at h
    split
    · rename_i h2; rw [if_pos h2] at h; exact absurd h (by decide)
    · rename_i h2; rw [if_neg h2] at h; exact absurd h (by decide)
theorem wrS_place (s : Dk) (a n : Int) (h : codeOf (wrS s a n).1 = 1) : placeOf (wrS s a n).1 = a := by
  unfold wrS at h ⊢
  split
  · rename_i h1; rw [if_pos h1] at h; exact refE_place _ _ h
  · rename_i h1
    rw [if_neg h1] at h
    split
    · rename_i h2
      rw [if_pos h2] at h
      split
      · rename_i h3; rw [if_pos h3] at h; exact absurd (show (70 : Int) = 1 from h) (by decide)
      · rename_i h3; rw [if_neg h3] at h; exact absurd (show (0 : Int) = 1 from h) (by decide)
    · rename_i h2; rw [if_neg h2] at h; exact absurd (show (0 : Int) = 1 from h) (by decide)
theorem rdS_place (s : Dk) (C : Int → Option (List Int)) (a : Int) (h : codeOf (rdS s C a).2.2 = 1) : placeOf (rdS s C a).2.2 = a := by
  unfold rdS at h ⊢
  split
  · rename_i h1; rw [if_pos h1] at h; exact refE_place _ _ h
  · rename_i h1; rw [if_neg h1] at h; exact absurd (show (0 : Int) = 1 from h) (by decide)
theorem refE_code (m a : Int) : codeOf (refE m a) = 0 ∨ codeOf (refE m a) = 1 ∨ codeOf (refE m a) = 70 := by
  unfold refE
  split
  · exact Or.inr (Or.inl rfl)
  · split
    · exact Or.inr (Or.inr rfl)
    · exact Or.inl rfl
theorem wrS_code (s : Dk) (a n : Int) : codeOf (wrS s a n).1 = 0 ∨ codeOf (wrS s a n).1 = 1 ∨ codeOf (wrS s a n).1 = 70 := by
  unfold wrS
  split
  · exact refE_code _ _
  · split
    · split
      · exact Or.inr (Or.inr rfl)
      · exact Or.inl rfl
    · exact Or.inl rfl
theorem rdS_code (s : Dk) (C : Int → Option (List Int)) (a : Int) : codeOf (rdS s C a).2.2 = 0 ∨ codeOf (rdS s C a).2.2 = 1 ∨ codeOf (rdS s C a).2.2 = 70 := by
  unfold rdS
  split
  · exact refE_code _ _
  · exact Or.inl rfl
theorem DE.kept {w w' : World} {x : Option Er} {v : Value} {S : Nat → Prop} (h : IsErr? w x v) (hd : DE x) (hf : Fr S w w') (hS : ∀ t b, v = .iface t (.pointer (some ⟨b, 0, none⟩)) → ¬ S b) : IsErr? w' x v := by
  cases x with
  | none => exact h
  | some x =>
    obtain ⟨p, q, rfl⟩ := hd
    exact isErr_kept h hf hS
theorem cut_cap {P : Program} (t e : TypeId) (kh : IntKind) {i : TypeInfo} (ht : P.underlying t = some (.slice e)) (hi : P.info? e = some i) (A : Option Addr) (n c : Nat) (j : Int) (h0 : 0 ≤ j) (hc : j ≤ c) :
    ∀ W : World, (Instr.slice t (.slice A n c) none (some (.int kh j)) none).run P W = .ok (.slice A j.toNat c) W := by
  intro W
  have hel : P.elem t = e := by simp [Program.elem, ht]
  have hu : P.underlying t = some (.slice (P.elem t)) := by rw [hel]; exact ht
  have ha : (A.map fun x => x.add 0) = A := by cases A <;> simp [Addr.add]
  rw [run_slice_h W t A n c hu kh j h0 hc, hel]
  simp [sizeOf, typeInfo, hi, sliced, Result.andThen, ha]
theorem strOf_append (xs ys : List Int) : strOfNums xs ++ strOfNums ys = strOfNums (xs ++ ys) := by
  unfold strOfNums
  apply ByteArray.ext
  simp
/-- The law's state: both disks hold the same. -/
structure Pl (w0 w : World) (a1 a2 B0 B1 B2 n : Nat) (s : Dk) (C : Int → Option (List Int)) : Prop where
  fr : Fr (fun b => w0.heap.size ≤ b) w0 w
  d : Dx w (fun b => b ≠ a1 ∧ b ≠ a2) a1 a2 s n C
  r : RD w (fun b => b ≠ B0 ∧ b ≠ B1 ∧ b ≠ B2) B0 B1 B2 s C
  short : ∀ k xs, C k = some xs → xs.length ≤ 64
  ne : (B0 ≠ a1 ∧ B0 ≠ a2 ∧ B1 ≠ a1 ∧ B1 ≠ a2 ∧ B2 ≠ a1 ∧ B2 ≠ a2) ∧ (w0.heap.size ≤ a1 ∧ w0.heap.size ≤ a2 ∧ w0.heap.size ≤ B0 ∧ w0.heap.size ≤ B1 ∧ w0.heap.size ≤ B2)
theorem Pl.of {w0 w : World} {a1 a2 B0 B1 B2 n Bb : Nat} {s : Dk} {C : Int → Option (List Int)} (fr : Fr (fun b => w0.heap.size ≤ b) w0 w) (d : Dx w (fun b => b ≠ a1 ∧ b ≠ a2 ∧ b ≠ Bb) a1 a2 s n C) (r : RD w (fun b => b ≠ B0 ∧ b ≠ B1 ∧ b ≠ B2 ∧ b ≠ Bb) B0 B1 B2 s C) (hs : ∀ k xs, C k = some xs → xs.length ≤ 64)
    (ne : (B0 ≠ a1 ∧ B0 ≠ a2 ∧ B1 ≠ a1 ∧ B1 ≠ a2 ∧ B2 ≠ a1 ∧ B2 ≠ a2) ∧ (w0.heap.size ≤ a1 ∧ w0.heap.size ≤ a2 ∧ w0.heap.size ≤ B0 ∧ w0.heap.size ≤ B1 ∧ w0.heap.size ≤ B2)) : Pl w0 w a1 a2 B0 B1 B2 n s C :=
  ⟨fr, d.mono (fun b hb _ => ⟨hb.1, hb.2.1⟩) (fun h => h.1 rfl) (fun h => h.2 rfl), r.mono (fun b hb _ => ⟨hb.1, hb.2.1, hb.2.2.1⟩) (fun h => h.1 rfl) (fun h => h.2.1 rfl) (fun h => h.2.2 rfl), hs, ne⟩
section
variable {w0 w w' : World} {a1 a2 B0 B1 B2 n : Nat} {s s' : Dk} {C C' : Int → Option (List Int)}
theorem Pl.below (h : Pl w0 w a1 a2 B0 B1 B2 n s C) (hb : Below w.heap.size w w') : Pl w0 w' a1 a2 B0 B1 B2 n s C := ⟨h.fr.trans (Fr.of_below hb), h.d.below hb, h.r.below hb, h.short, h.ne⟩
theorem Pl.more {m : Nat} (h : Pl w0 w a1 a2 B0 B1 B2 n s C) (hm : n ≤ m) : Pl w0 w a1 a2 B0 B1 B2 m s C := ⟨h.fr, h.d.more hm, h.r, h.short, h.ne⟩
/-- Both disks' calls, one behind the other. -/
theorem Pl.both {w1 w2 : World} {m : Nat} (h : Pl w0 w a1 a2 B0 B1 B2 n s C) (hd : Dx w1 (fun b => b ≠ a1 ∧ b ≠ a2) a1 a2 s' m C') (f1 : Fr (fun b => b = a1 ∨ b = a2) w w1) (hr : RD w2 (fun b => b ≠ B0 ∧ b ≠ B1 ∧ b ≠ B2) B0 B1 B2 s' C') (f2 : Fr (fun b => b = B0 ∨ b = B1 ∨ b = B2) w1 w2) (hb : ∀ b, b = B0 ∨ b = B1 ∨ b = B2 → NoB w1 b) (hs : ∀ k xs, C' k = some xs → xs.length ≤ 64) : Pl w0 w2 a1 a2 B0 B1 B2 m s' C' := by
  obtain ⟨⟨n1, n2, n3, n4, n5, n6⟩, n7, n8, n9, n10, n11⟩ := h.ne
  refine ⟨h.fr.trans ((f1.mono (fun b hb => by rcases hb with rfl | rfl; exact n7; exact n8)).trans (f2.mono (fun b hb => by rcases hb with rfl | rfl | rfl; exact n9; exact n10; exact n11))), hd.kept f2 (by omega) (by omega) (fun b hb' _ => hb b hb'), hr, hs, h.ne⟩
theorem Pl.rkept (h : Pl w0 w a1 a2 B0 B1 B2 n s C) (f1 : Fr (fun b => b = a1 ∨ b = a2) w w') : RD w' (fun b => b ≠ B0 ∧ b ≠ B1 ∧ b ≠ B2) B0 B1 B2 s C := by
  obtain ⟨⟨n1, n2, n3, n4, n5, n6⟩, _⟩ := h.ne
  exact h.r.kept f1 (by omega) (by omega) (by omega) (fun b hb _ => h.d.noB b hb)
end
set_option maxHeartbeats 16000000 in
set_option maxRecDepth 100000 in
theorem diskPlays_law (room : Int) (A0 : Option Addr) (c0 : Nat) (l0 : List ActT) (w : World) (hr0 : Kd.C k32 w A0 l0.length l0) (hc0 : l0.length ≤ c0) (hL : Laid w) (ok0 : okAll l0) :
    Calls Tryd.prog 6 #[.int .i64 room, .slice A0 l0.length c0] w fun e w' => e = .returned (.bool true) ∧ Below w.heap.size w w' := by
  have HL := Aside0.mk hL
  have R0 := Aside0.mk hr0
  have K0 := Aside0.mk ok0
  clear hL hr0 ok0
  by_cases hroom : room < 1 ∨ 65536 < room
  · have HQ := Aside0.mk hroom
    cases m1 : decide (room < 1)
    case' false => have m2 : decide (65536 < room) = true := decide_eq_true (by have := of_decide_eq_false m1; have := HQ.out; omega)
    case' true => skip
    all_goals
      clear hroom
      go_enter Tryd.func6, Tryd.ntmps6
      go_wp2_with fail
      refine (new_bad room w HQ.out).mono ?_
      rintro e w1 ⟨v, rfl, hE, hb, hN⟩
      have E1 := Aside0.mk (show IsErr? w1 (some (.fault diskS 0 (.num 1))) v from hE)
      have L1 := Aside0.mk (HL.out.below hb (Nat.le_refl _))
      have B1 := Aside0.mk hb
      obtain ⟨_, _, rfl, _⟩ := hE
      clear hb hN
      go_wp2_with (first
        | (go_at_call 24; refine (code_law _ _ _ E1.out L1.out).mono ?_; rintro e w2 ⟨rfl, hb⟩; have L2 := Aside0.mk (L1.out.below hb (Nat.le_refl _)); have B2 := Aside0.mk (B1.out.trans (hb.mono B1.out.size)); clear hb; rw [show codeOf (some (.fault diskS 0 (.num 1))) = 1 from rfl])
        | (go_at_call 19; refine (PDsk.told_law w2 L2.out).mono ?_; rintro e w3 ⟨rfl, hb⟩; have B3 := Aside0.mk (B2.out.trans (hb.mono B2.out.size)); clear hb))
      go_ret
      exact ⟨rfl, B3.out⟩
  · have m1 : decide (room < 1) = false := decide_eq_false (by omega)
    have m2 : decide (65536 < room) = false := decide_eq_false (by omega)
    have hr1 : 1 ≤ room ∧ room ≤ 65536 := by omega
    have HR1 := Aside0.mk hr1
    clear hroom hr1
    go_enter Tryd.func6, Tryd.ntmps6
    go_wp2_with fail
    refine (new_dx room w HR1.out.1 HR1.out.2).mono ?_
    rintro e w1 ⟨a1, a2, rfl, hD, hu, hb⟩
    have D1 := Aside0.mk hD
    have U1 := Aside0.mk hu
    have B1 := Aside0.mk hb
    clear hD hu hb
    go_upto_if 44 with fail
    go_cut [0, 5, 6] (fun v0 v5 v6 wc => ∃ (n a1 a2 : Nat), v0 = .int .i64 (n : Int) ∧ v5 = .pointer (some ⟨a1, 0, none⟩) ∧ v6 = .nilIface ∧ Aside0 ((1 ≤ n ∧ n ≤ 64) ∧ Dx wc (fun b => b ≠ a1 ∧ b ≠ a2) a1 a2 ⟨n, false, 0, 0, 0⟩ 0 (fun _ => none) ∧ (w.heap.size ≤ a1 ∧ w.heap.size ≤ a2) ∧ Below w.heap.size w wc))
    case first =>
      by_cases h64 : 64 < room
      · go_wp2_with fail
        refine (new_dx 64 w1 (by decide) (by decide)).mono ?_
        rintro e w2 ⟨c1, c2, rfl, hD, hu, hb⟩
        have P2 : Aside0 ((1 ≤ 64 ∧ 64 ≤ 64) ∧ Dx w2 (fun b => b ≠ c1 ∧ b ≠ c2) c1 c2 ⟨(64 : Nat), false, 0, 0, 0⟩ 0 (fun _ => none) ∧ (w.heap.size ≤ c1 ∧ w.heap.size ≤ c2) ∧ Below w.heap.size w w2) := ⟨by decide, hD, by have := B1.out.size; omega, B1.out.trans (hb.mono B1.out.size)⟩
        clear hD hu hb D1 U1
        go_wp2_with fail
        go_meet
        case rel => exact ⟨64, c1, c2, rfl, rfl, rfl, P2⟩
      · obtain ⟨n, rfl⟩ : ∃ n : Nat, room = (n : Int) := ⟨room.toNat, by have := HR1.out; omega⟩
        have P2 : Aside0 ((1 ≤ n ∧ n ≤ 64) ∧ Dx w1 (fun b => b ≠ a1 ∧ b ≠ a2) a1 a2 ⟨n, false, 0, 0, 0⟩ 0 (fun _ => none) ∧ (w.heap.size ≤ a1 ∧ w.heap.size ≤ a2) ∧ Below w.heap.size w w1) := ⟨by have := HR1.out; omega, D1.out, U1.out, B1.out⟩
        clear D1 U1
        go_wp2_with fail
        go_meet
        case rel => exact ⟨n, a1, a2, rfl, rfl, rfl, P2⟩
    case rest =>
      obtain ⟨n, c1, c2, rfl, rfl, rfl, P⟩ := hcut
      clear D1 U1 B1 HR1 m1 m2
      go_wp2_with fail
      refine (rnew n P.out.1.1 (by have := P.out.1.2; omega) wc).mono ?_
      rintro e w3 ⟨B0, B1, B2, rfl, hR, hu, hb⟩
      have P3 : Aside0 (Pl w w3 c1 c2 B0 B1 B2 0 ⟨n, false, 0, 0, 0⟩ (fun _ => none)) := ⟨by
        obtain ⟨⟨p1, p2⟩, p3, p4, p5⟩ := P.out
        have := p3.lt
        have := p5.size
        exact ⟨Fr.of_below (p5.trans (hb.mono p5.size)), p3.below hb, hR, fun _ _ h => (by cases h), by omega⟩⟩
      have RM0 : Aside0 (1 ≤ n ∧ n ≤ 64) := ⟨P.out.1⟩
      clear hR hu hb P
      go_wp2
      go_loopg [8] 100 (fun kq v8 wr => ∃ (i : Nat) (s : Dk) (C : Int → Option (List Int)), v8 = .int .i64 (i : Int) ∧ i ≤ 100 ∧ 100 - i ≤ kq ∧ Aside0 (Pl w wr c1 c2 B0 B1 B2 i s C ∧ s.room = (n : Int)))
      case atStart => exact ⟨0, _, _, rfl, by omega, by omega, ⟨P3.out, rfl⟩⟩
      case round =>
        obtain ⟨i, s, C, rfl, hi, hk, K⟩ := hrel
        clear P3
        by_cases hlt : i < l0.length ∧ i < 100
        · have q1 : decide ((i : Int) < (l0.length : Int)) = true := decide_eq_true (by omega)
          have q2 : decide ((i : Int) < 100) = true := decide_eq_true (by omega)
          have ok0 := rd_ok K0.out i hlt.1
          obtain ⟨ad, A2, c2', e0, g0, g1, g2, gl, gC⟩ := at_T32 R0.out (i : Int) (by omega) (by omega)
          subst e0
          rw [Int.toNat_natCast] at g0 g1 g2
          obtain ⟨x, hx⟩ : ∃ x, rd_T32 l0 (i : Int) = x := ⟨_, rfl⟩
          rw [hx] at g0 g1 g2 gl gC ok0
          clear hx
          have hbw := K.out.1.fr.below (n := w.heap.size) (Nat.le_refl _) (fun _ h => h)
          have x0 := cell_keep hbw g0
          have x1 := cell_keep hbw g1
          have x2 := cell_keep hbw g2
          have GL := Aside0.mk gl
          have GC := Aside0.mk (Kd.C_below gC hbw)
          have GK := Aside0.mk ok0
          clear g0 g1 g2 gl gC ok0 hbw
          have X := Aside0.mk (heap_alloc_new wr (Obj.cells #[.int .i64 x.f0, .int .i64 x.f1, .slice A2 x.f2.length c2'] 32))
          obtain ⟨y0, y1, y2⟩ := facts3 X.out
          go_upto_block 2 with fail
          go_cut [9, 10, 11, 12, 13, 14, 15, 16, 17, 18, 19, 20, 21] from 58 to 243 (fun s9 s10 s11 s12 s13 s14 s15 s16 s17 s18 s19 s20 s21 wc => ∃ (s' : Dk) (C' : Int → Option (List Int)), Aside0 (Pl w wc c1 c2 B0 B1 B2 (i + 1) s' C' ∧ s'.room = (n : Int)))
          case rest =>
            obtain ⟨s', C', PY⟩ := hcut
            have PX := Aside0.mk PY.out.1
            clear x0 x1 x2 y0 y1 y2 X GL GC GK K
            as_aux_lemma =>
            have PF := PX.out.r
            obtain ⟨nn, vvs, hrd⟩ := PF
            obtain ⟨j0, j1, j2, j3, j4, j5⟩ := facts6 hrd.b0
            clear hrd
            obtain ⟨dn, hdn⟩ : ∃ dn, s'.down = dn := ⟨_, rfl⟩
            obtain ⟨wn, hwn⟩ : ∃ wn, s'.writes = wn := ⟨_, rfl⟩
            obtain ⟨ln, hln⟩ : ∃ ln, s'.life = ln := ⟨_, rfl⟩
            have RM : Aside0 (s'.room = (n : Int)) := ⟨PY.out.2⟩
            have QD := fun q => q_same (n := q) (down_dx (PX.out.d.below (pw_below_drewN (Below.refl _ _) q)))
            have QW := fun q => q_same (n := q) (writes_dx (PX.out.d.below (pw_below_drewN (Below.refl _ _) q)))
            have QL := fun q => q_same (n := q) (life_dx (PX.out.d.below (pw_below_drewN (Below.refl _ _) q)))
            have QR := fun q => q_same (n := q) (room_dx (PX.out.d.below (pw_below_drewN (Below.refl _ _) q)))
            rw [hdn] at QD j2
            rw [hwn] at QW j4
            rw [hln] at QL j5
            rw [RM.out] at QR
            have HQD := Aside0.mk QD
            have HQW := Aside0.mk QW
            have HQL := Aside0.mk QL
            have HQR := Aside0.mk QR
            clear QD QW QL QR hdn hwn hln
            go_wp2_with fail
            go_quiet (first | (go_at_call 21; exact HQD.out _) | (go_at_call 20; exact HQW.out _) | (go_at_call 22; exact HQL.out _) | (go_at_call 32; exact HQR.out _))
            go_wp2
            go_roundg (gk - 1)
            case measure => omega
            case rel => exact ⟨i + 1, s', C', by go_num, by omega, by omega, ⟨PX.out.below (pw_below_drewN (Below.refl _ _) _), RM.out⟩⟩
          case first =>
            by_cases h0 : x.f0 = 0
            · rw [h0] at y0 X ⊢
              have hgl := GL.out
              obtain ⟨lt, hlt⟩ : ∃ lt, x.f2.take 80 = lt := ⟨_, rfl⟩
              have hltl : lt.length = min 80 x.f2.length := by rw [← hlt, List.length_take]
              have HLT : Aside0 (lt.length ≤ 80) := ⟨by omega⟩
              have hmn2 : min (x.f2.length : Int) 80 = (lt.length : Int) := by omega
              have hmn3 : (if (80 : Int) < (x.f2.length : Int) then (80 : Int) else (x.f2.length : Int)) = (lt.length : Int) := by split <;> omega
              have hmn4 : (if (x.f2.length : Int) < 80 then (x.f2.length : Int) else (80 : Int)) = (lt.length : Int) := by split <;> omega
              have hct1 := cut_to (P := Tryd.prog) 30 5 .i64 Tryd.underlying30 (info_parts info8).choose_spec.1 A2 x.f2.length c2' (lt.length : Int) (by omega) (by omega) hgl
              rw [Int.toNat_natCast] at hct1
              have hlc : lt.length ≤ c2' := by omega
              have hC2 := Kd.C_take (m := lt.length) GC.out (by omega)
              rw [show x.f2.take lt.length = lt from by rw [← hlt, List.length_take]; by_cases h8 : 80 ≤ x.f2.length; rw [Nat.min_eq_left h8]; rw [Nat.min_eq_right (by omega), List.take_length, List.take_of_length_le (by omega)]] at hC2
              have C2 := Aside0.mk hC2
              have HLC := Aside0.mk hlc
              have hWA : Aside0 (Below wr.heap.size wr (wr.alloc (Obj.cells #[.int .i64 0, .int .i64 x.f1, .slice A2 x.f2.length c2'] 32))) := ⟨below_alloc (Below.refl _ _) _⟩
              clear hgl hlt hltl hlc hC2 h0
              have HCT1 := Aside0.mk hct1
              go_wp2_with (first
                | ((with_reducible refine gate_builtin (b := .append) (xs := #[.tmp 128, .tmp 135]) rfl ?_); at_builtin; refine Kd.R_append_rows (Kd.int .u8) (w0 := wr) wr.heap.size rfl (.tmp 128) (.tmp 135) 30 5 (.int .u8 0) 1 rfl Tryd.underlying30 info8 rfl (by decide) (by omega) (.slice none 0 0) ([] : List Int) lt _ _ _ (fun _ => True) (fun _ => False) rfl rfl ?aO ?aR (fun _ _ h => h) (fun _ h => h.elim) ?aF ?aB ?aS ?aL ?_; (case aR => exact Kd.C_below C2.out hWA.out); (case aB => exact hWA.out); (case aF => exact (fun _ _ => trivial)); (case aO => exact ((Kd.R_nil _ _ _ _ (fun _ => True)))); (case aS => exact hWA.out.size); (case aL => have := HLT.out; simp only [List.length_nil]; omega); intro v3 w3' ho hb hg hat; rw [List.nil_append] at ho; have X3 : Aside0 (w3'.heap[wr.heap.size]? = _) := ⟨(hg.block wr.heap.size (Array.getElem?_eq_some_iff.1 X.out).1 (by simp [Value.ownBlock])).trans X.out⟩; obtain ⟨A3, c3, rfl⟩ := Kd.R_slice ho; have R3 := Aside0.mk ho; have W3 := Aside0.mk hb; clear ho hb hg hat)
                | ((with_reducible refine gate_builtin (b := .append) (xs := #[.tmp 139, .tmp 140]) rfl ?_); at_builtin; refine Kd.R_append_rows (Kd.int .u8) (w0 := wr) wr.heap.size rfl (.tmp 139) (.tmp 140) 30 5 (.int .u8 0) 1 rfl Tryd.underlying30 info8 rfl (by decide) (by omega) (.slice A3 lt.length c3) lt [77, 78] _ _ _ (fun _ => True) (fun _ => False) rfl rfl ?bO ?bR (fun _ _ h => h) (fun _ h => h.elim) ?bF ?bB ?bS ?bL ?_; (case bR => exact lit_C _ _ [77, 78] (heap_alloc_new _ _) (by decide)); (case bB => exact below_alloc W3.out _); (case bF => exact (fun _ _ => trivial)); (case bO => exact Kd.R_below R3.out (below_alloc (Below.refl _ _) _)); (case bS => exact Nat.le_trans W3.out.size (below_alloc (Below.refl _ _) _).size); (case bL => have := HLT.out; omega); intro v4 w4 ho hb hg hat))
              have X4 : Aside0 (w4.heap[wr.heap.size]? = _) := ⟨(hg.block wr.heap.size (blk_lt (blk_alloc X3.out _)) (own_ne R3.out.2.choose_spec.1 X3.out (by decide))).trans (blk_alloc X3.out _)⟩
              obtain ⟨l2, hl2⟩ : ∃ l2, lt ++ [77, 78] = l2 := ⟨_, rfl⟩
              have HL2 : Aside0 (l2.length = lt.length + 2 ∧ l2.take lt.length = lt ∧ strOfNums lt ++ ⟨#[77, 78]⟩ = strOfNums l2) := ⟨by rw [← hl2]; exact ⟨by simp, by simp, by rw [← strOf_append]; rfl⟩⟩
              rw [hl2] at ho
              clear hl2
              obtain ⟨A4, c4, rfl⟩ := Kd.R_slice ho
              have R4 := Aside0.mk ho
              have W4 := Aside0.mk hb
              have HC4 : Aside0 (l2.length ≤ c4) := ⟨(Kd.R_reads' ho).2.1⟩
              have hct2 := cut_cap (P := Tryd.prog) 30 5 .i64 Tryd.underlying30 (info_parts info8).choose_spec.1 A4 l2.length c4 (lt.length : Int) (by omega) (by have := HC4.out; have := HL2.out.1; omega)
              rw [Int.toNat_natCast] at hct2
              obtain ⟨z0, z1, z2⟩ := facts3 X4.out
              clear ho hb hg hat
              rw [hct2 w4]
              go_simp
              go_wp2_with fail
              obtain ⟨Bb, eA4, hBb1, _, hBb2, hCur⟩ := R_block R4.out (by have := HL2.out.1; omega)
              subst eA4
              have UB : Aside0 (wr.heap.size ≤ Bb ∧ Bb ≠ wr.heap.size ∧ Bb < w4.heap.size ∧ c1 < wr.heap.size ∧ c2 < wr.heap.size ∧ B0 < wr.heap.size ∧ B1 < wr.heap.size ∧ B2 < wr.heap.size ∧ w.heap.size ≤ wr.heap.size ∧ w.heap.size ≤ Bb) := ⟨by
                have h1 := K.out.1.d.lt
                have h2 := K.out.1.r.lt
                have h3 := K.out.1.fr.size
                obtain ⟨cur, hc, _⟩ := hCur
                have h4 := blk_ne hc X4.out (by decide)
                omega⟩
              have HCU4 := Aside0.mk hCur
              have PNE := Aside0.mk K.out.1.ne
              have D4 : Aside0 (Dx w4 (fun b => b ≠ c1 ∧ b ≠ c2 ∧ b ≠ Bb) c1 c2 s i C) := ⟨(K.out.1.d.mono (G := fun b => b ≠ c1 ∧ b ≠ c2 ∧ b ≠ Bb) (fun b hb hlt => ⟨hb.1, hb.2, fun e => by have := UB.out; omega⟩) (fun h => h.1 rfl) (fun h => h.2.1 rfl)).below W4.out⟩
              have HW := Aside0.mk (write_dx D4.out x.f1 (some ⟨Bb, 0, none⟩) c4 lt.length lt (fun k hk => by have := UB.out; exact ⟨by omega, by omega, by omega⟩) (by unfold maxLen; omega) GK.out rfl (by have h9 := Kd.C_take (m := lt.length) (Kd.R_reads' R4.out).2.2 (by have := HL2.out.1; omega); rw [HL2.out.2.1] at h9; exact h9) (by have := HL2.out.1; have := HC4.out; omega) (by have := HLT.out; omega))
              have hcs := wrS_cases s x.f1 (lt.length : Int)
              have hDE := wrS_DE s x.f1 (lt.length : Int)
              have hPL := wrS_place s x.f1 (lt.length : Int)
              have hCO := wrS_code s x.f1 (lt.length : Int)
              have HRW := Aside0.mk (fun W (h : RD W (fun b => b ≠ B0 ∧ b ≠ B1 ∧ b ≠ B2 ∧ b ≠ Bb) B0 B1 B2 s C) => rwrite h x.f1 (some ⟨Bb, 0, none⟩) c4 lt.length lt rfl)
              obtain ⟨r, hr⟩ : ∃ r, wrS s x.f1 (lt.length : Int) = r := ⟨_, rfl⟩
              rw [hr] at HW HRW hcs hDE hPL hCO
              have HDE := Aside0.mk hDE
              have HPL := Aside0.mk hPL
              have HCO := Aside0.mk hCO
              obtain ⟨CW, hCW⟩ : ∃ CW, (if r.2.2 = true then updC C x.f1 lt else C) = CW := ⟨_, rfl⟩
              rw [hCW] at HW HRW
              have SH6 : Aside0 (∀ k xs, CW k = some xs → xs.length ≤ 64) := ⟨by
                intro k xs hk
                rw [← hCW] at hk
                rcases hcs with ⟨_, e2, e3, _⟩ | ⟨_, e2, _⟩
                · rw [e2, if_pos rfl] at hk
                  unfold updC at hk
                  by_cases hj : k = x.f1
                  · rw [if_pos hj] at hk
                    have := Option.some.inj hk
                    rw [← this]; omega
                  · rw [if_neg hj] at hk; exact K.out.1.short k xs hk
                · rw [e2, if_neg (by decide)] at hk; exact K.out.1.short k xs hk⟩
              have RM6 : Aside0 (r.2.1.room = (n : Int)) := ⟨by rcases hcs with h | h; exact h.2.2.2.2.1.trans K.out.2; exact h.2.2.2.trans K.out.2⟩
              clear hr hDE hPL hCO hcs hCW
              go_wp2_with fail
              refine HW.out.mono ?_
              rintro e w5 ⟨fv, rfl, hE, hD, f5, hN⟩
              have D5 := Aside0.mk hD
              have F5 := Aside0.mk f5
              have E5 := Aside0.mk hE
              have N5 := Aside0.mk hN
              have X5 : Aside0 (w5.heap[wr.heap.size]? = _) := ⟨(f5.block wr.heap.size (Array.getElem?_eq_some_iff.1 X4.out).1 (fun h => by have := UB.out; omega)).trans X4.out⟩
              have R5 : Aside0 (RD w5 (fun b => b ≠ B0 ∧ b ≠ B1 ∧ b ≠ B2 ∧ b ≠ Bb) B0 B1 B2 s C) := ⟨((K.out.1.r.mono (G := fun b => b ≠ B0 ∧ b ≠ B1 ∧ b ≠ B2 ∧ b ≠ Bb) (fun b hb hlt => ⟨hb.1, hb.2.1, hb.2.2, fun e => by have := UB.out; omega⟩) (fun h => h.1 rfl) (fun h => h.2.1 rfl) (fun h => h.2.2.1 rfl)).below W4.out).kept f5 (by have := UB.out; have := PNE.out; omega) (by have := UB.out; have := PNE.out; omega) (by have := UB.out; have := PNE.out; omega) (fun b hb _ => D4.out.noB b hb)⟩
              have C5 : Aside0 ((Kd.int .u8).C w5 (some ⟨Bb, 0, none⟩) l2.length l2) := ⟨D4.out.bytes f5 (Kd.R_reads' R4.out).2.2⟩
              have HCU5 : Aside0 (∃ cur, w5.heap[Bb]? = some (.cells cur 5 (0, 0)) ∧ l2.length ≤ cur.size) := ⟨by
                obtain ⟨cur, h1, h2⟩ := HCU4.out
                exact ⟨cur, (f5.block Bb (Array.getElem?_eq_some_iff.1 h1).1 (fun h => by have := UB.out; omega)).trans h1, h2⟩⟩
              obtain ⟨v0, v1, v2⟩ := facts3 X5.out
              clear hD f5 hE hN HW z0 z1 z2
              go_wp2_with fail
              refine (HRW.out w5 R5.out (by have h9 := Kd.C_take (m := lt.length) C5.out (by have := HL2.out.1; omega); rw [HL2.out.2.1] at h9; exact h9) (by have := HL2.out.1; have := HC4.out; omega) (by have := HLT.out; omega) (fun k hk => by have := UB.out; have := F5.out.size; exact ⟨by omega, by omega, by omega, by omega⟩)).mono ?_
              rintro e w6 ⟨rfl, hR6, f6⟩
              have R6 := Aside0.mk hR6
              have FW6 : Aside0 (Fr (fun b => b = c1 ∨ b = c2 ∨ b = B0 ∨ b = B1 ∨ b = B2) w4 w6) := ⟨(F5.out.mono (fun b h => by rcases h with h | h; exact Or.inl h; exact Or.inr (Or.inl h))).trans (f6.mono (fun b h => Or.inr (Or.inr h)))⟩
              have D6 : Aside0 (Dx w6 (fun b => b ≠ c1 ∧ b ≠ c2 ∧ b ≠ Bb) c1 c2 r.2.1 (i + 1) CW) := ⟨D5.out.kept f6 (by have := PNE.out; omega) (by have := PNE.out; omega) (fun b hb _ => R5.out.noB b hb)⟩
              have C6 : Aside0 ((Kd.int .u8).C w6 (some ⟨Bb, 0, none⟩) l2.length l2) := ⟨C_fr C5.out f6 R5.out.noB⟩
              have X6 : Aside0 (w6.heap[wr.heap.size]? = _) := ⟨(f6.block wr.heap.size (Array.getElem?_eq_some_iff.1 X5.out).1 (fun h => by have := UB.out; omega)).trans X5.out⟩
              have HCUR : Aside0 (∃ cur, w6.heap[Bb]? = some (.cells cur 5 (0, 0)) ∧ lt.length ≤ cur.size) := ⟨by
                obtain ⟨cur, h1, h2⟩ := HCU5.out
                exact ⟨cur, (f6.block Bb (Array.getElem?_eq_some_iff.1 h1).1 (fun h => by have := UB.out; omega)).trans h1, by have := HL2.out.1; omega⟩⟩
              have E6 := Aside0.mk (DE.kept E5.out HDE.out f6 (fun t b e h => by have h1 := N5.out t b e; have := UB.out; have := W4.out.size; omega))
              have F6 : Aside0 (Fr (fun b => w.heap.size ≤ b) w w6) := ⟨(K.out.1.fr.trans (Fr.of_below W4.out)).trans (FW6.out.mono (fun b h => by have := PNE.out; omega))⟩
              have GC6 : Aside0 ((Kd.int .u8).C w6 A2 x.f2.length x.f2) := ⟨C_fr (C_fr (Kd.C_below GC.out W4.out) F5.out D4.out.noB) f6 R5.out.noB⟩
              have C26 : Aside0 ((Kd.int .u8).C w6 A2 lt.length lt) := ⟨C_fr (C_fr (Kd.C_below C2.out W4.out) F5.out D4.out.noB) f6 R5.out.noB⟩
              have LW := Aside0.mk (HL.out.below (F6.out.below (n := w.heap.size) (Nat.le_refl _) (fun _ h => h)) (Nat.le_refl _))
              have HCT : Aside0 ((∀ W, (Instr.slice 30 (.slice A2 x.f2.length c2') none (some (.int .i64 (lt.length : Int))) none).run Tryd.prog W = .ok (.slice A2 lt.length c2') W) ∧ (∀ W, (Instr.slice 30 (.slice (some ⟨Bb, 0, none⟩) lt.length c4) none (some (.int .i64 (l2.length : Int))) none).run Tryd.prog W = .ok (.slice (some ⟨Bb, 0, none⟩) l2.length c4) W)) := ⟨HCT1.out, fun W => by
                have hq := cut_cap (P := Tryd.prog) 30 5 .i64 Tryd.underlying30 (info_parts info8).choose_spec.1 (some ⟨Bb, 0, none⟩) lt.length c4 (l2.length : Int) (by omega) (by have := HC4.out; omega) W
                rw [Int.toNat_natCast] at hq
                exact hq⟩
              obtain ⟨sL, hsL⟩ : ∃ sL, strOfNums lt = sL := ⟨_, rfl⟩
              obtain ⟨sM, hsM⟩ : ∃ sM, strOfNums l2 = sM := ⟨_, rfl⟩
              have HSL : Aside0 (sL.size ≤ 9223372036854775805) := ⟨by rw [← hsL, strOfNums_size]; have := HLT.out; omega⟩
              have HADD : Aside0 (sL ++ ⟨#[77, 78]⟩ = sM) := ⟨by rw [← hsL, ← hsM]; exact HL2.out.2.2⟩
              have ST1 : Aside0 (∀ W, Below w6.heap.size w6 W → (convert 30 9 (.slice (some ⟨Bb, 0, none⟩) l2.length c4)).run Tryd.prog W = .ok (.string sM) W ∧ (convert 30 9 (.slice A2 lt.length c2')).run Tryd.prog W = .ok (.string sL) W) := ⟨fun W hb => by
                have h1 := Kd.C_string (P := Tryd.prog) (c := c4) Tryd.underlying30 Tryd.underlying5 Tryd.underlying9 (Kd.C_below C6.out hb)
                have h2 := Kd.C_string (P := Tryd.prog) (c := c2') Tryd.underlying30 Tryd.underlying5 Tryd.underlying9 (Kd.C_below C26.out hb)
                rw [hsM] at h1
                rw [hsL] at h2
                exact ⟨h1, h2⟩⟩
              obtain ⟨y0, y1, y2⟩ := facts3 X6.out
              clear hsL hsM hR6 f6 R5 D5 F5 E5 N5 X5 C5 HCU5 v0 v1 v2 HRW hct1 hct2 HCT1 FW6
              obtain ⟨g, hg⟩ : ∃ g, codeOf r.1 = g := ⟨_, rfl⟩
              obtain ⟨pl, hpl⟩ : ∃ pl, placeOf r.1 = pl := ⟨_, rfl⟩
              have CD := Aside0.mk (fun W (h : IsErr? W r.1 fv) (hl : Laid W) => code_law r.1 fv W h hl)
              have AT := Aside0.mk (fun W (h : IsErr? W r.1 fv) => at_law r.1 fv W h)
              rw [hg] at CD HPL HCO ⊢
              rw [hpl] at AT HPL
              clear hg hpl hmn2 hmn3 hmn4
              rcases HCO.out with rfl | rfl | rfl
              · as_aux_lemma =>
                go_wp2_with fail
                refine Reg.region_inv (Reg.tab [(Reg.Is fv), (Reg.Is (.int .i64 0)), (Reg.Is (.int .i64 0)), (Reg.Is (.bool false)), (Reg.Is (.bool false)), (Reg.Is (.int .i64 0)), (Reg.Is (.bool false)), (Reg.Is (.bool false)), (Reg.Is undef), (Reg.Is undef), (Reg.Is undef), (Reg.Is undef), (Reg.Is undef), (Reg.Is (.bool false)), (Reg.Is (.bool false)), (Reg.Is (.bool false)), (Reg.Is (.slice (some ⟨Bb, 0, none⟩) lt.length c4)), (Reg.Is (.int .i64 (lt.length : Int))), (Reg.Is (.int .i64 (l2.length : Int))), (Reg.Is (.slice (some ⟨Bb, 0, none⟩) l2.length c4)), (Reg.Is (.string sM)), (Reg.Is (.pointer (some ⟨wr.heap.size, 2, none⟩))), (Reg.Is (.slice A2 x.f2.length c2')), (Reg.Is (.int .i64 (lt.length : Int))), (Reg.Is (.slice A2 lt.length c2')), (Reg.Is (.string sL)), (Reg.Is (.string sM)), (Reg.Is (.bool false)), (Reg.Is (.bool false))]) (by kernel_rfl) (by kernel_rfl) (Reg.tab_mono ?mono) ?steps ?fin
                case mono => exact ⟨Reg.Is.mono _, Reg.Is.mono _, Reg.Is.mono _, Reg.Is.mono _, Reg.Is.mono _, Reg.Is.mono _, Reg.Is.mono _, Reg.Is.mono _, Reg.Is.mono _, Reg.Is.mono _, Reg.Is.mono _, Reg.Is.mono _, Reg.Is.mono _, Reg.Is.mono _, Reg.Is.mono _, Reg.Is.mono _, Reg.Is.mono _, Reg.Is.mono _, Reg.Is.mono _, Reg.Is.mono _, Reg.Is.mono _, Reg.Is.mono _, Reg.Is.mono _, Reg.Is.mono _, Reg.Is.mono _, Reg.Is.mono _, Reg.Is.mono _, Reg.Is.mono _, Reg.Is.mono _, trivial⟩
                case steps =>
                  refine ⟨?_, ?_, ?_, ?_, ?_, ?_, ?_, ?_, ?_, ?_, ?_, ?_, ?_, ?_, ?_, ?_, ?_, ?_, ?_, ?_, ?_, ?_, ?_, ?_, ?_, ?_, ?_, ?_, ?_, trivial⟩
                  · intro ac w' hb hd hk   -- 0
                    replace hb := Reg.below_undrew hb
                    have e12 : ac.tmps[12]? = some fv := (hk.1 12 (by kernel_rfl)).trans rfl
                    exact Reg.step_value (Reg.wanted_free rfl) (w1 := w') (by go_simp; try rfl) (Below.refl _ _) rfl
                  · intro ac w' hb hd hk   -- 1
                    replace hb := Reg.below_undrew hb
                    obtain ⟨v154, e154, t154⟩ := hk.2 0 (by kernel_rfl)
                    replace e154 : ac.tmps[154]? = some v154 := e154
                    replace e154 : ac.tmps[154]? = some fv := e154.trans (congrArg some t154)
                    refine Reg.step_call (Reg.wanted_free rfl) (by go_simp; try rfl) ((CD.out _ (DE.kept E6.out HDE.out (S := fun _ => False) (Fr.of_below hb) (fun _ _ _ h => h)) (LW.out.below hb (Nat.le_refl _))).mono ?_)
                    rintro en w4 ⟨rfl, hb4⟩
                    exact ⟨_, rfl, rfl, hb4⟩
                  · intro ac w' hb hd hk   -- 2
                    replace hb := Reg.below_undrew hb
                    have e13 : ac.tmps[13]? = some (.int .i64 0) := (hk.1 13 (by kernel_rfl)).trans rfl
                    exact Reg.step_value (Reg.wanted_free rfl) (w1 := w') (by go_simp; try rfl) (Below.refl _ _) rfl
                  · intro ac w' hb hd hk   -- 3
                    replace hb := Reg.below_undrew hb
                    obtain ⟨v155, e155, t155⟩ := hk.2 1 (by kernel_rfl)
                    replace e155 : ac.tmps[155]? = some v155 := e155
                    replace e155 : ac.tmps[155]? = some (.int .i64 0) := e155.trans (congrArg some t155)
                    obtain ⟨v156, e156, t156⟩ := hk.2 2 (by kernel_rfl)
                    replace e156 : ac.tmps[156]? = some v156 := e156
                    replace e156 : ac.tmps[156]? = some (.int .i64 0) := e156.trans (congrArg some t156)
                    exact Reg.step_value (Reg.wanted_free rfl) (w1 := w') (by go_simp; try rfl) (Below.refl _ _) rfl
                  · intro ac w' hb hd hk   -- 4
                    replace hb := Reg.below_undrew hb
                    obtain ⟨v157, e157, t157⟩ := hk.2 3 (by kernel_rfl)
                    replace e157 : ac.tmps[157]? = some v157 := e157
                    replace e157 : ac.tmps[157]? = some (.bool false) := e157.trans (congrArg some t157)
                    exact Reg.step_value (Reg.wanted_free rfl) (w1 := w') (by go_simp; try rfl) (Below.refl _ _) rfl
                  · intro ac w' hb hd hk   -- 5
                    replace hb := Reg.below_undrew hb
                    have e13 : ac.tmps[13]? = some (.int .i64 0) := (hk.1 13 (by kernel_rfl)).trans rfl
                    obtain ⟨v158, e158, t158⟩ := hk.2 4 (by kernel_rfl)
                    replace e158 : ac.tmps[158]? = some v158 := e158
                    replace e158 : ac.tmps[158]? = some (.bool false) := e158.trans (congrArg some t158)
                    exact Reg.step_value ((Reg.wanted_is rfl rfl e158).trans rfl) (w1 := w') (by go_simp; try rfl) (Below.refl _ _) rfl
                  · intro ac w' hb hd hk   -- 6
                    replace hb := Reg.below_undrew hb
                    obtain ⟨v159, e159, t159⟩ := hk.2 5 (by kernel_rfl)
                    replace e159 : ac.tmps[159]? = some v159 := e159
                    replace e159 : ac.tmps[159]? = some (.int .i64 0) := e159.trans (congrArg some t159)
                    obtain ⟨v158, e158, t158⟩ := hk.2 4 (by kernel_rfl)
                    replace e158 : ac.tmps[158]? = some v158 := e158
                    replace e158 : ac.tmps[158]? = some (.bool false) := e158.trans (congrArg some t158)
                    exact Reg.step_value ((Reg.wanted_is rfl rfl e158).trans rfl) (w1 := w') (by go_simp; try rfl) (Below.refl _ _) rfl
                  · intro ac w' hb hd hk   -- 7
                    replace hb := Reg.below_undrew hb
                    obtain ⟨v160, e160, t160⟩ := hk.2 6 (by kernel_rfl)
                    replace e160 : ac.tmps[160]? = some v160 := e160
                    replace e160 : ac.tmps[160]? = some (.bool false) := e160.trans (congrArg some t160)
                    obtain ⟨v158, e158, t158⟩ := hk.2 4 (by kernel_rfl)
                    replace e158 : ac.tmps[158]? = some v158 := e158
                    replace e158 : ac.tmps[158]? = some (.bool false) := e158.trans (congrArg some t158)
                    exact Reg.step_value ((Reg.wanted_is rfl rfl e158).trans rfl) (w1 := w') (by go_simp; try rfl) (Below.refl _ _) rfl
                  · intro ac w' hb hd hk   -- 8
                    replace hb := Reg.below_undrew hb
                    obtain ⟨v161, e161, t161⟩ := hk.2 7 (by kernel_rfl)
                    replace e161 : ac.tmps[161]? = some v161 := e161
                    replace e161 : ac.tmps[161]? = some (.bool false) := e161.trans (congrArg some t161)
                    exact Reg.step_off ((Reg.wanted_is rfl rfl e161).trans rfl) rfl
                  · intro ac w' hb hd hk   -- 9
                    replace hb := Reg.below_undrew hb
                    obtain ⟨v161, e161, t161⟩ := hk.2 7 (by kernel_rfl)
                    replace e161 : ac.tmps[161]? = some v161 := e161
                    replace e161 : ac.tmps[161]? = some (.bool false) := e161.trans (congrArg some t161)
                    exact Reg.step_off ((Reg.wanted_is rfl rfl e161).trans rfl) rfl
                  · intro ac w' hb hd hk   -- 10
                    replace hb := Reg.below_undrew hb
                    obtain ⟨v161, e161, t161⟩ := hk.2 7 (by kernel_rfl)
                    replace e161 : ac.tmps[161]? = some v161 := e161
                    replace e161 : ac.tmps[161]? = some (.bool false) := e161.trans (congrArg some t161)
                    exact Reg.step_off ((Reg.wanted_is rfl rfl e161).trans rfl) rfl
                  · intro ac w' hb hd hk   -- 11
                    replace hb := Reg.below_undrew hb
                    obtain ⟨v161, e161, t161⟩ := hk.2 7 (by kernel_rfl)
                    replace e161 : ac.tmps[161]? = some v161 := e161
                    replace e161 : ac.tmps[161]? = some (.bool false) := e161.trans (congrArg some t161)
                    exact Reg.step_off ((Reg.wanted_is rfl rfl e161).trans rfl) rfl
                  · intro ac w' hb hd hk   -- 12
                    replace hb := Reg.below_undrew hb
                    obtain ⟨v161, e161, t161⟩ := hk.2 7 (by kernel_rfl)
                    replace e161 : ac.tmps[161]? = some v161 := e161
                    replace e161 : ac.tmps[161]? = some (.bool false) := e161.trans (congrArg some t161)
                    exact Reg.step_off ((Reg.wanted_is rfl rfl e161).trans rfl) rfl
                  · intro ac w' hb hd hk   -- 13
                    replace hb := Reg.below_undrew hb
                    obtain ⟨v161, e161, t161⟩ := hk.2 7 (by kernel_rfl)
                    replace e161 : ac.tmps[161]? = some v161 := e161
                    replace e161 : ac.tmps[161]? = some (.bool false) := e161.trans (congrArg some t161)
                    obtain ⟨v166, e166, t166⟩ := hk.2 12 (by kernel_rfl)
                    replace e166 : ac.tmps[166]? = some v166 := e166
                    replace e166 : ac.tmps[166]? = some undef := e166.trans (congrArg some t166)
                    obtain ⟨v158, e158, t158⟩ := hk.2 4 (by kernel_rfl)
                    replace e158 : ac.tmps[158]? = some v158 := e158
                    replace e158 : ac.tmps[158]? = some (.bool false) := e158.trans (congrArg some t158)
                    exact Reg.step_value ((Reg.wanted_is rfl rfl e158).trans rfl) (w1 := w') (by go_simp; try rfl) (Below.refl _ _) rfl
                  · intro ac w' hb hd hk   -- 14
                    replace hb := Reg.below_undrew hb
                    obtain ⟨v158, e158, t158⟩ := hk.2 4 (by kernel_rfl)
                    replace e158 : ac.tmps[158]? = some v158 := e158
                    replace e158 : ac.tmps[158]? = some (.bool false) := e158.trans (congrArg some t158)
                    obtain ⟨v167, e167, t167⟩ := hk.2 13 (by kernel_rfl)
                    replace e167 : ac.tmps[167]? = some v167 := e167
                    replace e167 : ac.tmps[167]? = some (.bool false) := e167.trans (congrArg some t167)
                    exact Reg.step_value (Reg.wanted_free rfl) (w1 := w') (by go_simp; try rfl) (Below.refl _ _) rfl
                  · intro ac w' hb hd hk   -- 15
                    replace hb := Reg.below_undrew hb
                    obtain ⟨v168, e168, t168⟩ := hk.2 14 (by kernel_rfl)
                    replace e168 : ac.tmps[168]? = some v168 := e168
                    replace e168 : ac.tmps[168]? = some (.bool false) := e168.trans (congrArg some t168)
                    exact Reg.step_value (Reg.wanted_free rfl) (w1 := w') (by go_simp; try rfl) (Below.refl _ _) rfl
                  · intro ac w' hb hd hk   -- 16
                    replace hb := Reg.below_undrew hb
                    have e10 : ac.tmps[10]? = some (.slice (some ⟨Bb, 0, none⟩) lt.length c4) := (hk.1 10 (by kernel_rfl)).trans rfl
                    obtain ⟨v169, e169, t169⟩ := hk.2 15 (by kernel_rfl)
                    replace e169 : ac.tmps[169]? = some v169 := e169
                    replace e169 : ac.tmps[169]? = some (.bool false) := e169.trans (congrArg some t169)
                    exact Reg.step_value ((Reg.wanted_is rfl rfl e169).trans rfl) (w1 := w') (by go_simp; try rfl) (Below.refl _ _) rfl
                  · intro ac w' hb hd hk   -- 17
                    replace hb := Reg.below_undrew hb
                    have e11 : ac.tmps[11]? = some (.int .i64 (lt.length : Int)) := (hk.1 11 (by kernel_rfl)).trans rfl
                    obtain ⟨v169, e169, t169⟩ := hk.2 15 (by kernel_rfl)
                    replace e169 : ac.tmps[169]? = some v169 := e169
                    replace e169 : ac.tmps[169]? = some (.bool false) := e169.trans (congrArg some t169)
                    exact Reg.step_value ((Reg.wanted_is rfl rfl e169).trans rfl) (w1 := w') (by go_simp; try rfl) (Below.refl _ _) rfl
                  · intro ac w' hb hd hk   -- 18
                    replace hb := Reg.below_undrew hb
                    obtain ⟨v171, e171, t171⟩ := hk.2 17 (by kernel_rfl)
                    replace e171 : ac.tmps[171]? = some v171 := e171
                    replace e171 : ac.tmps[171]? = some (.int .i64 (lt.length : Int)) := e171.trans (congrArg some t171)
                    obtain ⟨v169, e169, t169⟩ := hk.2 15 (by kernel_rfl)
                    replace e169 : ac.tmps[169]? = some v169 := e169
                    replace e169 : ac.tmps[169]? = some (.bool false) := e169.trans (congrArg some t169)
                    have hl2n : (lt.length : Int) + 2 = (l2.length : Int) := by have := HL2.out.1; omega
                    have hl2b : l2.length ≤ 82 := by have := HL2.out.1; have := HLT.out; omega
                    have hl2w : IntKind.i64.wrap (l2.length : Int) = (l2.length : Int) := IntWalk.i64_in _ (by omega)
                    exact Reg.step_value ((Reg.wanted_is rfl rfl e169).trans rfl) (w1 := w') (by go_simp; try rfl) (Below.refl _ _) rfl
                  · intro ac w' hb hd hk   -- 19
                    replace hb := Reg.below_undrew hb
                    obtain ⟨v170, e170, t170⟩ := hk.2 16 (by kernel_rfl)
                    replace e170 : ac.tmps[170]? = some v170 := e170
                    replace e170 : ac.tmps[170]? = some (.slice (some ⟨Bb, 0, none⟩) lt.length c4) := e170.trans (congrArg some t170)
                    obtain ⟨v172, e172, t172⟩ := hk.2 18 (by kernel_rfl)
                    replace e172 : ac.tmps[172]? = some v172 := e172
                    replace e172 : ac.tmps[172]? = some (.int .i64 (l2.length : Int)) := e172.trans (congrArg some t172)
                    obtain ⟨v169, e169, t169⟩ := hk.2 15 (by kernel_rfl)
                    replace e169 : ac.tmps[169]? = some v169 := e169
                    replace e169 : ac.tmps[169]? = some (.bool false) := e169.trans (congrArg some t169)
                    have hct := HCT.out.2 w'
                    exact Reg.step_value ((Reg.wanted_is rfl rfl e169).trans rfl) (w1 := w') (by go_simp; try rfl) (Below.refl _ _) rfl
                  · intro ac w' hb hd hk   -- 20
                    replace hb := Reg.below_undrew hb
                    obtain ⟨v173, e173, t173⟩ := hk.2 19 (by kernel_rfl)
                    replace e173 : ac.tmps[173]? = some v173 := e173
                    replace e173 : ac.tmps[173]? = some (.slice (some ⟨Bb, 0, none⟩) l2.length c4) := e173.trans (congrArg some t173)
                    obtain ⟨v169, e169, t169⟩ := hk.2 15 (by kernel_rfl)
                    replace e169 : ac.tmps[169]? = some v169 := e169
                    replace e169 : ac.tmps[169]? = some (.bool false) := e169.trans (congrArg some t169)
                    have hcv := (ST1.out w' hb).1
                    exact Reg.step_value ((Reg.wanted_is rfl rfl e169).trans rfl) (w1 := w') (by go_simp; try rfl) (Below.refl _ _) rfl
                  · intro ac w' hb hd hk   -- 21
                    replace hb := Reg.below_undrew hb
                    have e9 : ac.tmps[9]? = some (.pointer (some ⟨wr.heap.size, 0, none⟩)) := (hk.1 9 (by kernel_rfl)).trans rfl
                    obtain ⟨v169, e169, t169⟩ := hk.2 15 (by kernel_rfl)
                    replace e169 : ac.tmps[169]? = some v169 := e169
                    replace e169 : ac.tmps[169]? = some (.bool false) := e169.trans (congrArg some t169)
                    exact Reg.step_value ((Reg.wanted_is rfl rfl e169).trans rfl) (w1 := w') (by go_simp; try rfl) (Below.refl _ _) rfl
                  · intro ac w' hb hd hk   -- 22
                    replace hb := Reg.below_undrew hb
                    obtain ⟨v175, e175, t175⟩ := hk.2 21 (by kernel_rfl)
                    replace e175 : ac.tmps[175]? = some v175 := e175
                    replace e175 : ac.tmps[175]? = some (.pointer (some ⟨wr.heap.size, 2, none⟩)) := e175.trans (congrArg some t175)
                    obtain ⟨v169, e169, t169⟩ := hk.2 15 (by kernel_rfl)
                    replace e169 : ac.tmps[169]? = some v169 := e169
                    replace e169 : ac.tmps[169]? = some (.bool false) := e169.trans (congrArg some t169)
                    obtain ⟨k0, k1, k2⟩ := facts3 ((hb.block wr.heap.size (Array.getElem?_eq_some_iff.1 X6.out).1).trans X6.out)
                    exact Reg.step_value ((Reg.wanted_is rfl rfl e169).trans rfl) (w1 := w') (by go_simp; try rfl) (Below.refl _ _) rfl
                  · intro ac w' hb hd hk   -- 23
                    replace hb := Reg.below_undrew hb
                    have e11 : ac.tmps[11]? = some (.int .i64 (lt.length : Int)) := (hk.1 11 (by kernel_rfl)).trans rfl
                    obtain ⟨v169, e169, t169⟩ := hk.2 15 (by kernel_rfl)
                    replace e169 : ac.tmps[169]? = some v169 := e169
                    replace e169 : ac.tmps[169]? = some (.bool false) := e169.trans (congrArg some t169)
                    exact Reg.step_value ((Reg.wanted_is rfl rfl e169).trans rfl) (w1 := w') (by go_simp; try rfl) (Below.refl _ _) rfl
                  · intro ac w' hb hd hk   -- 24
                    replace hb := Reg.below_undrew hb
                    obtain ⟨v176, e176, t176⟩ := hk.2 22 (by kernel_rfl)
                    replace e176 : ac.tmps[176]? = some v176 := e176
                    replace e176 : ac.tmps[176]? = some (.slice A2 x.f2.length c2') := e176.trans (congrArg some t176)
                    obtain ⟨v177, e177, t177⟩ := hk.2 23 (by kernel_rfl)
                    replace e177 : ac.tmps[177]? = some v177 := e177
                    replace e177 : ac.tmps[177]? = some (.int .i64 (lt.length : Int)) := e177.trans (congrArg some t177)
                    obtain ⟨v169, e169, t169⟩ := hk.2 15 (by kernel_rfl)
                    replace e169 : ac.tmps[169]? = some v169 := e169
                    replace e169 : ac.tmps[169]? = some (.bool false) := e169.trans (congrArg some t169)
                    have hct := HCT.out.1 w'
                    exact Reg.step_value ((Reg.wanted_is rfl rfl e169).trans rfl) (w1 := w') (by go_simp; try rfl) (Below.refl _ _) rfl
                  · intro ac w' hb hd hk   -- 25
                    replace hb := Reg.below_undrew hb
                    obtain ⟨v178, e178, t178⟩ := hk.2 24 (by kernel_rfl)
                    replace e178 : ac.tmps[178]? = some v178 := e178
                    replace e178 : ac.tmps[178]? = some (.slice A2 lt.length c2') := e178.trans (congrArg some t178)
                    obtain ⟨v169, e169, t169⟩ := hk.2 15 (by kernel_rfl)
                    replace e169 : ac.tmps[169]? = some v169 := e169
                    replace e169 : ac.tmps[169]? = some (.bool false) := e169.trans (congrArg some t169)
                    have hcv := (ST1.out w' hb).2
                    exact Reg.step_value ((Reg.wanted_is rfl rfl e169).trans rfl) (w1 := w') (by go_simp; try rfl) (Below.refl _ _) rfl
                  · intro ac w' hb hd hk   -- 26
                    replace hb := Reg.below_undrew hb
                    obtain ⟨v179, e179, t179⟩ := hk.2 25 (by kernel_rfl)
                    replace e179 : ac.tmps[179]? = some v179 := e179
                    replace e179 : ac.tmps[179]? = some (.string sL) := e179.trans (congrArg some t179)
                    obtain ⟨v169, e169, t169⟩ := hk.2 15 (by kernel_rfl)
                    replace e169 : ac.tmps[169]? = some v169 := e169
                    replace e169 : ac.tmps[169]? = some (.bool false) := e169.trans (congrArg some t169)
                    have hadd := HADD.out
                    have hsz := HSL.out
                    exact Reg.step_value ((Reg.wanted_is rfl rfl e169).trans rfl) (w1 := w') (by go_simp; try rfl) (Below.refl _ _) rfl
                  · intro ac w' hb hd hk   -- 27
                    replace hb := Reg.below_undrew hb
                    obtain ⟨v174, e174, t174⟩ := hk.2 20 (by kernel_rfl)
                    replace e174 : ac.tmps[174]? = some v174 := e174
                    replace e174 : ac.tmps[174]? = some (.string sM) := e174.trans (congrArg some t174)
                    obtain ⟨v180, e180, t180⟩ := hk.2 26 (by kernel_rfl)
                    replace e180 : ac.tmps[180]? = some v180 := e180
                    replace e180 : ac.tmps[180]? = some (.string sM) := e180.trans (congrArg some t180)
                    obtain ⟨v169, e169, t169⟩ := hk.2 15 (by kernel_rfl)
                    replace e169 : ac.tmps[169]? = some v169 := e169
                    replace e169 : ac.tmps[169]? = some (.bool false) := e169.trans (congrArg some t169)
                    exact Reg.step_value ((Reg.wanted_is rfl rfl e169).trans rfl) (w1 := w') (by go_simp; try rfl) (Below.refl _ _) rfl
                  · intro ac w' hb hd hk   -- 28
                    replace hb := Reg.below_undrew hb
                    obtain ⟨v169, e169, t169⟩ := hk.2 15 (by kernel_rfl)
                    replace e169 : ac.tmps[169]? = some v169 := e169
                    replace e169 : ac.tmps[169]? = some (.bool false) := e169.trans (congrArg some t169)
                    obtain ⟨v181, e181, t181⟩ := hk.2 27 (by kernel_rfl)
                    replace e181 : ac.tmps[181]? = some v181 := e181
                    replace e181 : ac.tmps[181]? = some (.bool false) := e181.trans (congrArg some t181)
                    exact Reg.step_value (Reg.wanted_free rfl) (w1 := w') (by go_simp; try rfl) (Below.refl _ _) rfl
                case fin =>
                  intro w' hb
                  replace hb := Reg.below_undrew hb
                  rintro _ rfl
                  rintro _ rfl
                  rintro _ rfl
                  rintro _ rfl
                  rintro _ rfl
                  rintro _ rfl
                  rintro _ rfl
                  rintro _ rfl
                  rintro _ rfl
                  rintro _ rfl
                  rintro _ rfl
                  rintro _ rfl
                  rintro _ rfl
                  rintro _ rfl
                  rintro _ rfl
                  rintro _ rfl
                  rintro _ rfl
                  rintro _ rfl
                  rintro _ rfl
                  rintro _ rfl
                  rintro _ rfl
                  rintro _ rfl
                  rintro _ rfl
                  rintro _ rfl
                  rintro _ rfl
                  rintro _ rfl
                  rintro _ rfl
                  rintro _ rfl
                  rintro _ rfl
                  refine Reg.done_nil ?_
                  simp only [Act.put, List.setIfInBounds_toArray, List.set_cons_zero, List.set_cons_succ]
                  go_wp2
                  have F7 : Aside0 (Below w6.heap.size w6 w') := ⟨hb⟩
                  have HC7 : Aside0 (∃ cur, w'.heap[Bb]? = some (.cells cur 5 (0, 0)) ∧ lt.length ≤ cur.size) := ⟨by
                    obtain ⟨cur, h1, h2⟩ := HCUR.out
                    exact ⟨cur, (hb.block Bb (Array.getElem?_eq_some_iff.1 h1).1).trans h1, h2⟩⟩
                  clear hb
                  obtain ⟨w7, hw7⟩ : ∃ w7, w' = w7 := ⟨_, rfl⟩
                  rw [hw7] at F7 HC7 ⊢
                  clear hw7
                  go_loopg [14] lt.length (fun kq v14 wq => ∃ j : Nat, v14 = .int .i64 (j : Int) ∧ j ≤ lt.length ∧ lt.length - j ≤ kq ∧ Aside0 (Fr (· = Bb) w7 wq ∧ ∃ cur, wq.heap[Bb]? = some (.cells cur 5 (0, 0)) ∧ lt.length ≤ cur.size))
                  case atStart => exact ⟨0, rfl, by omega, by omega, ⟨Fr.refl _ _, HC7.out⟩⟩
                  case round =>
                    obtain ⟨j, rfl, hj, hkj, L⟩ := hrel
                    have HYL : lt.length ≤ 80 := HLT.out
                    clear HC7 HCUR E6 X6 LW CD AT ST1 HCT HADD
                    by_cases hjl : j < lt.length
                    · obtain ⟨cur, hcur, hsz⟩ := L.out.2
                      have q3 : decide ((j : Int) < (lt.length : Int)) = true := decide_eq_true (by omega)
                      have m1 := Err.blk_cell hcur j _ (Array.getElem?_eq_getElem (show j < cur.size by omega))
                      have m3 := blk_frozen hcur j
                      have p0 : (0 : Int) ≤ (j : Int) := by omega
                      have p1 : (j : Int) < (lt.length : Int) := by omega
                      have HC := Aside0.mk hcur
                      clear hcur
                      go_wp2
                      go_roundg (gk - 1)
                      case measure => omega
                      case rel => exact ⟨j + 1, by go_num, by omega, by omega, ⟨L.out.1.set_ rfl _, _, Go.heap_setCell_same _ Bb j _ _ _ HC.out, by simpa using hsz⟩⟩
                    · have q3 : decide ((j : Int) < (lt.length : Int)) = false := decide_eq_false (by omega)
                      have PX : Aside0 (Pl w wr c1 c2 B0 B1 B2 (i + 1) r.2.1 CW ∧ r.2.1.room = (n : Int)) := ⟨by
                        have u := UB.out
                        obtain ⟨⟨n1, n2, n3, n4, n5, n6⟩, n7, n8, n9, n10, n11⟩ := PNE.out
                        refine ⟨Pl.of (Bb := Bb) ((F6.out.trans (Fr.of_below F7.out)).trans (L.out.1.mono (fun b hb => by subst hb; omega))) ((D6.out.below F7.out).kept L.out.1 (by omega) (by omega) (fun b hb hG => absurd hb hG.2.2)) ((R6.out.below F7.out).kept L.out.1 (by omega) (by omega) (by omega) (fun b hb hG => absurd hb hG.2.2.2)) SH6.out PNE.out, RM6.out⟩⟩
                      go_wp2_with fail
                      go_meet
                      case rel => exact ⟨_, _, PX⟩
              · as_aux_lemma =>
                have hpl1 : pl = x.f1 := HPL.out rfl
                rw [hpl1] at AT
                clear hpl1
                go_wp2_with fail
                refine Reg.region_inv (Reg.tab [(Reg.Is fv), (Reg.Is (.int .i64 1)), (Reg.Is (.int .i64 1)), (Reg.Is (.bool false)), (Reg.Is (.bool false)), (Reg.Is (.int .i64 1)), (Reg.Is (.bool true)), (Reg.Is (.bool true)), (Reg.Is fv), (Reg.Is (.int .i64 x.f1)), (Reg.Is (.pointer (some ⟨wr.heap.size, 1, none⟩))), (Reg.Is (.int .i64 x.f1)), (Reg.Is (.bool false)), (Reg.Is (.bool false)), (Reg.Is (.bool false)), (Reg.Is (.bool false)), (Reg.Is (.slice (some ⟨Bb, 0, none⟩) lt.length c4)), (Reg.Is (.int .i64 (lt.length : Int))), (Reg.Is (.int .i64 (l2.length : Int))), (Reg.Is (.slice (some ⟨Bb, 0, none⟩) l2.length c4)), (Reg.Is (.string sM)), (Reg.Is (.pointer (some ⟨wr.heap.size, 2, none⟩))), (Reg.Is (.slice A2 x.f2.length c2')), (Reg.Is (.int .i64 (lt.length : Int))), (Reg.Is (.slice A2 lt.length c2')), (Reg.Is (.string sL)), (Reg.Is (.string sM)), (Reg.Is (.bool false)), (Reg.Is (.bool false))]) (by kernel_rfl) (by kernel_rfl) (Reg.tab_mono ?mono) ?steps ?fin
                case mono => exact ⟨Reg.Is.mono _, Reg.Is.mono _, Reg.Is.mono _, Reg.Is.mono _, Reg.Is.mono _, Reg.Is.mono _, Reg.Is.mono _, Reg.Is.mono _, Reg.Is.mono _, Reg.Is.mono _, Reg.Is.mono _, Reg.Is.mono _, Reg.Is.mono _, Reg.Is.mono _, Reg.Is.mono _, Reg.Is.mono _, Reg.Is.mono _, Reg.Is.mono _, Reg.Is.mono _, Reg.Is.mono _, Reg.Is.mono _, Reg.Is.mono _, Reg.Is.mono _, Reg.Is.mono _, Reg.Is.mono _, Reg.Is.mono _, Reg.Is.mono _, Reg.Is.mono _, Reg.Is.mono _, trivial⟩
                case steps =>
                  refine ⟨?_, ?_, ?_, ?_, ?_, ?_, ?_, ?_, ?_, ?_, ?_, ?_, ?_, ?_, ?_, ?_, ?_, ?_, ?_, ?_, ?_, ?_, ?_, ?_, ?_, ?_, ?_, ?_, ?_, trivial⟩
                  · intro ac w' hb hd hk   -- 0
                    replace hb := Reg.below_undrew hb
                    have e12 : ac.tmps[12]? = some fv := (hk.1 12 (by kernel_rfl)).trans rfl
                    exact Reg.step_value (Reg.wanted_free rfl) (w1 := w') (by go_simp; try rfl) (Below.refl _ _) rfl
                  · intro ac w' hb hd hk   -- 1
                    replace hb := Reg.below_undrew hb
                    obtain ⟨v154, e154, t154⟩ := hk.2 0 (by kernel_rfl)
                    replace e154 : ac.tmps[154]? = some v154 := e154
                    replace e154 : ac.tmps[154]? = some fv := e154.trans (congrArg some t154)
                    refine Reg.step_call (Reg.wanted_free rfl) (by go_simp; try rfl) ((CD.out _ (DE.kept E6.out HDE.out (S := fun _ => False) (Fr.of_below hb) (fun _ _ _ h => h)) (LW.out.below hb (Nat.le_refl _))).mono ?_)
                    rintro en w4 ⟨rfl, hb4⟩
                    exact ⟨_, rfl, rfl, hb4⟩
                  · intro ac w' hb hd hk   -- 2
                    replace hb := Reg.below_undrew hb
                    have e13 : ac.tmps[13]? = some (.int .i64 1) := (hk.1 13 (by kernel_rfl)).trans rfl
                    exact Reg.step_value (Reg.wanted_free rfl) (w1 := w') (by go_simp; try rfl) (Below.refl _ _) rfl
                  · intro ac w' hb hd hk   -- 3
                    replace hb := Reg.below_undrew hb
                    obtain ⟨v155, e155, t155⟩ := hk.2 1 (by kernel_rfl)
                    replace e155 : ac.tmps[155]? = some v155 := e155
                    replace e155 : ac.tmps[155]? = some (.int .i64 1) := e155.trans (congrArg some t155)
                    obtain ⟨v156, e156, t156⟩ := hk.2 2 (by kernel_rfl)
                    replace e156 : ac.tmps[156]? = some v156 := e156
                    replace e156 : ac.tmps[156]? = some (.int .i64 1) := e156.trans (congrArg some t156)
                    exact Reg.step_value (Reg.wanted_free rfl) (w1 := w') (by go_simp; try rfl) (Below.refl _ _) rfl
                  · intro ac w' hb hd hk   -- 4
                    replace hb := Reg.below_undrew hb
                    obtain ⟨v157, e157, t157⟩ := hk.2 3 (by kernel_rfl)
                    replace e157 : ac.tmps[157]? = some v157 := e157
                    replace e157 : ac.tmps[157]? = some (.bool false) := e157.trans (congrArg some t157)
                    exact Reg.step_value (Reg.wanted_free rfl) (w1 := w') (by go_simp; try rfl) (Below.refl _ _) rfl
                  · intro ac w' hb hd hk   -- 5
                    replace hb := Reg.below_undrew hb
                    have e13 : ac.tmps[13]? = some (.int .i64 1) := (hk.1 13 (by kernel_rfl)).trans rfl
                    obtain ⟨v158, e158, t158⟩ := hk.2 4 (by kernel_rfl)
                    replace e158 : ac.tmps[158]? = some v158 := e158
                    replace e158 : ac.tmps[158]? = some (.bool false) := e158.trans (congrArg some t158)
                    exact Reg.step_value ((Reg.wanted_is rfl rfl e158).trans rfl) (w1 := w') (by go_simp; try rfl) (Below.refl _ _) rfl
                  · intro ac w' hb hd hk   -- 6
                    replace hb := Reg.below_undrew hb
                    obtain ⟨v159, e159, t159⟩ := hk.2 5 (by kernel_rfl)
                    replace e159 : ac.tmps[159]? = some v159 := e159
                    replace e159 : ac.tmps[159]? = some (.int .i64 1) := e159.trans (congrArg some t159)
                    obtain ⟨v158, e158, t158⟩ := hk.2 4 (by kernel_rfl)
                    replace e158 : ac.tmps[158]? = some v158 := e158
                    replace e158 : ac.tmps[158]? = some (.bool false) := e158.trans (congrArg some t158)
                    exact Reg.step_value ((Reg.wanted_is rfl rfl e158).trans rfl) (w1 := w') (by go_simp; try rfl) (Below.refl _ _) rfl
                  · intro ac w' hb hd hk   -- 7
                    replace hb := Reg.below_undrew hb
                    obtain ⟨v160, e160, t160⟩ := hk.2 6 (by kernel_rfl)
                    replace e160 : ac.tmps[160]? = some v160 := e160
                    replace e160 : ac.tmps[160]? = some (.bool true) := e160.trans (congrArg some t160)
                    obtain ⟨v158, e158, t158⟩ := hk.2 4 (by kernel_rfl)
                    replace e158 : ac.tmps[158]? = some v158 := e158
                    replace e158 : ac.tmps[158]? = some (.bool false) := e158.trans (congrArg some t158)
                    exact Reg.step_value ((Reg.wanted_is rfl rfl e158).trans rfl) (w1 := w') (by go_simp; try rfl) (Below.refl _ _) rfl
                  · intro ac w' hb hd hk   -- 8
                    replace hb := Reg.below_undrew hb
                    have e12 : ac.tmps[12]? = some fv := (hk.1 12 (by kernel_rfl)).trans rfl
                    obtain ⟨v161, e161, t161⟩ := hk.2 7 (by kernel_rfl)
                    replace e161 : ac.tmps[161]? = some v161 := e161
                    replace e161 : ac.tmps[161]? = some (.bool true) := e161.trans (congrArg some t161)
                    exact Reg.step_value ((Reg.wanted_is rfl rfl e161).trans rfl) (w1 := w') (by go_simp; try rfl) (Below.refl _ _) rfl
                  · intro ac w' hb hd hk   -- 9
                    replace hb := Reg.below_undrew hb
                    obtain ⟨v162, e162, t162⟩ := hk.2 8 (by kernel_rfl)
                    replace e162 : ac.tmps[162]? = some v162 := e162
                    replace e162 : ac.tmps[162]? = some fv := e162.trans (congrArg some t162)
                    obtain ⟨v161, e161, t161⟩ := hk.2 7 (by kernel_rfl)
                    replace e161 : ac.tmps[161]? = some v161 := e161
                    replace e161 : ac.tmps[161]? = some (.bool true) := e161.trans (congrArg some t161)
                    refine Reg.step_call ((Reg.wanted_is rfl rfl e161).trans rfl) (by go_simp; try rfl) ((AT.out _ (DE.kept E6.out HDE.out (S := fun _ => False) (Fr.of_below hb) (fun _ _ _ h => h))).mono ?_)
                    rintro en w4 ⟨rfl, rfl⟩
                    exact ⟨_, rfl, rfl, Below.refl _ _⟩
                  · intro ac w' hb hd hk   -- 10
                    replace hb := Reg.below_undrew hb
                    have e9 : ac.tmps[9]? = some (.pointer (some ⟨wr.heap.size, 0, none⟩)) := (hk.1 9 (by kernel_rfl)).trans rfl
                    obtain ⟨v161, e161, t161⟩ := hk.2 7 (by kernel_rfl)
                    replace e161 : ac.tmps[161]? = some v161 := e161
                    replace e161 : ac.tmps[161]? = some (.bool true) := e161.trans (congrArg some t161)
                    exact Reg.step_value ((Reg.wanted_is rfl rfl e161).trans rfl) (w1 := w') (by go_simp; try rfl) (Below.refl _ _) rfl
                  · intro ac w' hb hd hk   -- 11
                    replace hb := Reg.below_undrew hb
                    obtain ⟨v164, e164, t164⟩ := hk.2 10 (by kernel_rfl)
                    replace e164 : ac.tmps[164]? = some v164 := e164
                    replace e164 : ac.tmps[164]? = some (.pointer (some ⟨wr.heap.size, 1, none⟩)) := e164.trans (congrArg some t164)
                    obtain ⟨v161, e161, t161⟩ := hk.2 7 (by kernel_rfl)
                    replace e161 : ac.tmps[161]? = some v161 := e161
                    replace e161 : ac.tmps[161]? = some (.bool true) := e161.trans (congrArg some t161)
                    obtain ⟨k0, k1, k2⟩ := facts3 ((hb.block wr.heap.size (Array.getElem?_eq_some_iff.1 X6.out).1).trans X6.out)
                    exact Reg.step_value ((Reg.wanted_is rfl rfl e161).trans rfl) (w1 := w') (by go_simp; try rfl) (Below.refl _ _) rfl
                  · intro ac w' hb hd hk   -- 12
                    replace hb := Reg.below_undrew hb
                    obtain ⟨v163, e163, t163⟩ := hk.2 9 (by kernel_rfl)
                    replace e163 : ac.tmps[163]? = some v163 := e163
                    replace e163 : ac.tmps[163]? = some (.int .i64 x.f1) := e163.trans (congrArg some t163)
                    obtain ⟨v165, e165, t165⟩ := hk.2 11 (by kernel_rfl)
                    replace e165 : ac.tmps[165]? = some v165 := e165
                    replace e165 : ac.tmps[165]? = some (.int .i64 x.f1) := e165.trans (congrArg some t165)
                    obtain ⟨v161, e161, t161⟩ := hk.2 7 (by kernel_rfl)
                    replace e161 : ac.tmps[161]? = some v161 := e161
                    replace e161 : ac.tmps[161]? = some (.bool true) := e161.trans (congrArg some t161)
                    exact Reg.step_value ((Reg.wanted_is rfl rfl e161).trans rfl) (w1 := w') (by go_simp; try rfl) (Below.refl _ _) rfl
                  · intro ac w' hb hd hk   -- 13
                    replace hb := Reg.below_undrew hb
                    obtain ⟨v161, e161, t161⟩ := hk.2 7 (by kernel_rfl)
                    replace e161 : ac.tmps[161]? = some v161 := e161
                    replace e161 : ac.tmps[161]? = some (.bool true) := e161.trans (congrArg some t161)
                    obtain ⟨v166, e166, t166⟩ := hk.2 12 (by kernel_rfl)
                    replace e166 : ac.tmps[166]? = some v166 := e166
                    replace e166 : ac.tmps[166]? = some (.bool false) := e166.trans (congrArg some t166)
                    obtain ⟨v158, e158, t158⟩ := hk.2 4 (by kernel_rfl)
                    replace e158 : ac.tmps[158]? = some v158 := e158
                    replace e158 : ac.tmps[158]? = some (.bool false) := e158.trans (congrArg some t158)
                    exact Reg.step_value ((Reg.wanted_is rfl rfl e158).trans rfl) (w1 := w') (by go_simp; try rfl) (Below.refl _ _) rfl
                  · intro ac w' hb hd hk   -- 14
                    replace hb := Reg.below_undrew hb
                    obtain ⟨v158, e158, t158⟩ := hk.2 4 (by kernel_rfl)
                    replace e158 : ac.tmps[158]? = some v158 := e158
                    replace e158 : ac.tmps[158]? = some (.bool false) := e158.trans (congrArg some t158)
                    obtain ⟨v167, e167, t167⟩ := hk.2 13 (by kernel_rfl)
                    replace e167 : ac.tmps[167]? = some v167 := e167
                    replace e167 : ac.tmps[167]? = some (.bool false) := e167.trans (congrArg some t167)
                    exact Reg.step_value (Reg.wanted_free rfl) (w1 := w') (by go_simp; try rfl) (Below.refl _ _) rfl
                  · intro ac w' hb hd hk   -- 15
                    replace hb := Reg.below_undrew hb
                    obtain ⟨v168, e168, t168⟩ := hk.2 14 (by kernel_rfl)
                    replace e168 : ac.tmps[168]? = some v168 := e168
                    replace e168 : ac.tmps[168]? = some (.bool false) := e168.trans (congrArg some t168)
                    exact Reg.step_value (Reg.wanted_free rfl) (w1 := w') (by go_simp; try rfl) (Below.refl _ _) rfl
                  · intro ac w' hb hd hk   -- 16
                    replace hb := Reg.below_undrew hb
                    have e10 : ac.tmps[10]? = some (.slice (some ⟨Bb, 0, none⟩) lt.length c4) := (hk.1 10 (by kernel_rfl)).trans rfl
                    obtain ⟨v169, e169, t169⟩ := hk.2 15 (by kernel_rfl)
                    replace e169 : ac.tmps[169]? = some v169 := e169
                    replace e169 : ac.tmps[169]? = some (.bool false) := e169.trans (congrArg some t169)
                    exact Reg.step_value ((Reg.wanted_is rfl rfl e169).trans rfl) (w1 := w') (by go_simp; try rfl) (Below.refl _ _) rfl
                  · intro ac w' hb hd hk   -- 17
                    replace hb := Reg.below_undrew hb
                    have e11 : ac.tmps[11]? = some (.int .i64 (lt.length : Int)) := (hk.1 11 (by kernel_rfl)).trans rfl
                    obtain ⟨v169, e169, t169⟩ := hk.2 15 (by kernel_rfl)
                    replace e169 : ac.tmps[169]? = some v169 := e169
                    replace e169 : ac.tmps[169]? = some (.bool false) := e169.trans (congrArg some t169)
                    exact Reg.step_value ((Reg.wanted_is rfl rfl e169).trans rfl) (w1 := w') (by go_simp; try rfl) (Below.refl _ _) rfl
                  · intro ac w' hb hd hk   -- 18
                    replace hb := Reg.below_undrew hb
                    obtain ⟨v171, e171, t171⟩ := hk.2 17 (by kernel_rfl)
                    replace e171 : ac.tmps[171]? = some v171 := e171
                    replace e171 : ac.tmps[171]? = some (.int .i64 (lt.length : Int)) := e171.trans (congrArg some t171)
                    obtain ⟨v169, e169, t169⟩ := hk.2 15 (by kernel_rfl)
                    replace e169 : ac.tmps[169]? = some v169 := e169
                    replace e169 : ac.tmps[169]? = some (.bool false) := e169.trans (congrArg some t169)
                    have hl2n : (lt.length : Int) + 2 = (l2.length : Int) := by have := HL2.out.1; omega
                    have hl2b : l2.length ≤ 82 := by have := HL2.out.1; have := HLT.out; omega
                    have hl2w : IntKind.i64.wrap (l2.length : Int) = (l2.length : Int) := IntWalk.i64_in _ (by omega)
                    exact Reg.step_value ((Reg.wanted_is rfl rfl e169).trans rfl) (w1 := w') (by go_simp; try rfl) (Below.refl _ _) rfl
                  · intro ac w' hb hd hk   -- 19
                    replace hb := Reg.below_undrew hb
                    obtain ⟨v170, e170, t170⟩ := hk.2 16 (by kernel_rfl)
                    replace e170 : ac.tmps[170]? = some v170 := e170
                    replace e170 : ac.tmps[170]? = some (.slice (some ⟨Bb, 0, none⟩) lt.length c4) := e170.trans (congrArg some t170)
                    obtain ⟨v172, e172, t172⟩ := hk.2 18 (by kernel_rfl)
                    replace e172 : ac.tmps[172]? = some v172 := e172
                    replace e172 : ac.tmps[172]? = some (.int .i64 (l2.length : Int)) := e172.trans (congrArg some t172)
                    obtain ⟨v169, e169, t169⟩ := hk.2 15 (by kernel_rfl)
                    replace e169 : ac.tmps[169]? = some v169 := e169
                    replace e169 : ac.tmps[169]? = some (.bool false) := e169.trans (congrArg some t169)
                    have hct := HCT.out.2 w'
                    exact Reg.step_value ((Reg.wanted_is rfl rfl e169).trans rfl) (w1 := w') (by go_simp; try rfl) (Below.refl _ _) rfl
                  · intro ac w' hb hd hk   -- 20
                    replace hb := Reg.below_undrew hb
                    obtain ⟨v173, e173, t173⟩ := hk.2 19 (by kernel_rfl)
                    replace e173 : ac.tmps[173]? = some v173 := e173
                    replace e173 : ac.tmps[173]? = some (.slice (some ⟨Bb, 0, none⟩) l2.length c4) := e173.trans (congrArg some t173)
                    obtain ⟨v169, e169, t169⟩ := hk.2 15 (by kernel_rfl)
                    replace e169 : ac.tmps[169]? = some v169 := e169
                    replace e169 : ac.tmps[169]? = some (.bool false) := e169.trans (congrArg some t169)
                    have hcv := (ST1.out w' hb).1
                    exact Reg.step_value ((Reg.wanted_is rfl rfl e169).trans rfl) (w1 := w') (by go_simp; try rfl) (Below.refl _ _) rfl
                  · intro ac w' hb hd hk   -- 21
                    replace hb := Reg.below_undrew hb
                    have e9 : ac.tmps[9]? = some (.pointer (some ⟨wr.heap.size, 0, none⟩)) := (hk.1 9 (by kernel_rfl)).trans rfl
                    obtain ⟨v169, e169, t169⟩ := hk.2 15 (by kernel_rfl)
                    replace e169 : ac.tmps[169]? = some v169 := e169
                    replace e169 : ac.tmps[169]? = some (.bool false) := e169.trans (congrArg some t169)
                    exact Reg.step_value ((Reg.wanted_is rfl rfl e169).trans rfl) (w1 := w') (by go_simp; try rfl) (Below.refl _ _) rfl
                  · intro ac w' hb hd hk   -- 22
                    replace hb := Reg.below_undrew hb
                    obtain ⟨v175, e175, t175⟩ := hk.2 21 (by kernel_rfl)
                    replace e175 : ac.tmps[175]? = some v175 := e175
                    replace e175 : ac.tmps[175]? = some (.pointer (some ⟨wr.heap.size, 2, none⟩)) := e175.trans (congrArg some t175)
                    obtain ⟨v169, e169, t169⟩ := hk.2 15 (by kernel_rfl)
                    replace e169 : ac.tmps[169]? = some v169 := e169
                    replace e169 : ac.tmps[169]? = some (.bool false) := e169.trans (congrArg some t169)
                    obtain ⟨k0, k1, k2⟩ := facts3 ((hb.block wr.heap.size (Array.getElem?_eq_some_iff.1 X6.out).1).trans X6.out)
                    exact Reg.step_value ((Reg.wanted_is rfl rfl e169).trans rfl) (w1 := w') (by go_simp; try rfl) (Below.refl _ _) rfl
                  · intro ac w' hb hd hk   -- 23
                    replace hb := Reg.below_undrew hb
                    have e11 : ac.tmps[11]? = some (.int .i64 (lt.length : Int)) := (hk.1 11 (by kernel_rfl)).trans rfl
                    obtain ⟨v169, e169, t169⟩ := hk.2 15 (by kernel_rfl)
                    replace e169 : ac.tmps[169]? = some v169 := e169
                    replace e169 : ac.tmps[169]? = some (.bool false) := e169.trans (congrArg some t169)
                    exact Reg.step_value ((Reg.wanted_is rfl rfl e169).trans rfl) (w1 := w') (by go_simp; try rfl) (Below.refl _ _) rfl
                  · intro ac w' hb hd hk   -- 24
                    replace hb := Reg.below_undrew hb
                    obtain ⟨v176, e176, t176⟩ := hk.2 22 (by kernel_rfl)
                    replace e176 : ac.tmps[176]? = some v176 := e176
                    replace e176 : ac.tmps[176]? = some (.slice A2 x.f2.length c2') := e176.trans (congrArg some t176)
                    obtain ⟨v177, e177, t177⟩ := hk.2 23 (by kernel_rfl)
                    replace e177 : ac.tmps[177]? = some v177 := e177
                    replace e177 : ac.tmps[177]? = some (.int .i64 (lt.length : Int)) := e177.trans (congrArg some t177)
                    obtain ⟨v169, e169, t169⟩ := hk.2 15 (by kernel_rfl)
                    replace e169 : ac.tmps[169]? = some v169 := e169
                    replace e169 : ac.tmps[169]? = some (.bool false) := e169.trans (congrArg some t169)
                    have hct := HCT.out.1 w'
                    exact Reg.step_value ((Reg.wanted_is rfl rfl e169).trans rfl) (w1 := w') (by go_simp; try rfl) (Below.refl _ _) rfl
                  · intro ac w' hb hd hk   -- 25
                    replace hb := Reg.below_undrew hb
                    obtain ⟨v178, e178, t178⟩ := hk.2 24 (by kernel_rfl)
                    replace e178 : ac.tmps[178]? = some v178 := e178
                    replace e178 : ac.tmps[178]? = some (.slice A2 lt.length c2') := e178.trans (congrArg some t178)
                    obtain ⟨v169, e169, t169⟩ := hk.2 15 (by kernel_rfl)
                    replace e169 : ac.tmps[169]? = some v169 := e169
                    replace e169 : ac.tmps[169]? = some (.bool false) := e169.trans (congrArg some t169)
                    have hcv := (ST1.out w' hb).2
                    exact Reg.step_value ((Reg.wanted_is rfl rfl e169).trans rfl) (w1 := w') (by go_simp; try rfl) (Below.refl _ _) rfl
                  · intro ac w' hb hd hk   -- 26
                    replace hb := Reg.below_undrew hb
                    obtain ⟨v179, e179, t179⟩ := hk.2 25 (by kernel_rfl)
                    replace e179 : ac.tmps[179]? = some v179 := e179
                    replace e179 : ac.tmps[179]? = some (.string sL) := e179.trans (congrArg some t179)
                    obtain ⟨v169, e169, t169⟩ := hk.2 15 (by kernel_rfl)
                    replace e169 : ac.tmps[169]? = some v169 := e169
                    replace e169 : ac.tmps[169]? = some (.bool false) := e169.trans (congrArg some t169)
                    have hadd := HADD.out
                    have hsz := HSL.out
                    exact Reg.step_value ((Reg.wanted_is rfl rfl e169).trans rfl) (w1 := w') (by go_simp; try rfl) (Below.refl _ _) rfl
                  · intro ac w' hb hd hk   -- 27
                    replace hb := Reg.below_undrew hb
                    obtain ⟨v174, e174, t174⟩ := hk.2 20 (by kernel_rfl)
                    replace e174 : ac.tmps[174]? = some v174 := e174
                    replace e174 : ac.tmps[174]? = some (.string sM) := e174.trans (congrArg some t174)
                    obtain ⟨v180, e180, t180⟩ := hk.2 26 (by kernel_rfl)
                    replace e180 : ac.tmps[180]? = some v180 := e180
                    replace e180 : ac.tmps[180]? = some (.string sM) := e180.trans (congrArg some t180)
                    obtain ⟨v169, e169, t169⟩ := hk.2 15 (by kernel_rfl)
                    replace e169 : ac.tmps[169]? = some v169 := e169
                    replace e169 : ac.tmps[169]? = some (.bool false) := e169.trans (congrArg some t169)
                    exact Reg.step_value ((Reg.wanted_is rfl rfl e169).trans rfl) (w1 := w') (by go_simp; try rfl) (Below.refl _ _) rfl
                  · intro ac w' hb hd hk   -- 28
                    replace hb := Reg.below_undrew hb
                    obtain ⟨v169, e169, t169⟩ := hk.2 15 (by kernel_rfl)
                    replace e169 : ac.tmps[169]? = some v169 := e169
                    replace e169 : ac.tmps[169]? = some (.bool false) := e169.trans (congrArg some t169)
                    obtain ⟨v181, e181, t181⟩ := hk.2 27 (by kernel_rfl)
                    replace e181 : ac.tmps[181]? = some v181 := e181
                    replace e181 : ac.tmps[181]? = some (.bool false) := e181.trans (congrArg some t181)
                    exact Reg.step_value (Reg.wanted_free rfl) (w1 := w') (by go_simp; try rfl) (Below.refl _ _) rfl
                case fin =>
                  intro w' hb
                  replace hb := Reg.below_undrew hb
                  rintro _ rfl
                  rintro _ rfl
                  rintro _ rfl
                  rintro _ rfl
                  rintro _ rfl
                  rintro _ rfl
                  rintro _ rfl
                  rintro _ rfl
                  rintro _ rfl
                  rintro _ rfl
                  rintro _ rfl
                  rintro _ rfl
                  rintro _ rfl
                  rintro _ rfl
                  rintro _ rfl
                  rintro _ rfl
                  rintro _ rfl
                  rintro _ rfl
                  rintro _ rfl
                  rintro _ rfl
                  rintro _ rfl
                  rintro _ rfl
                  rintro _ rfl
                  rintro _ rfl
                  rintro _ rfl
                  rintro _ rfl
                  rintro _ rfl
                  rintro _ rfl
                  rintro _ rfl
                  refine Reg.done_nil ?_
                  simp only [Act.put, List.setIfInBounds_toArray, List.set_cons_zero, List.set_cons_succ]
                  go_wp2
                  have F7 : Aside0 (Below w6.heap.size w6 w') := ⟨hb⟩
                  have HC7 : Aside0 (∃ cur, w'.heap[Bb]? = some (.cells cur 5 (0, 0)) ∧ lt.length ≤ cur.size) := ⟨by
                    obtain ⟨cur, h1, h2⟩ := HCUR.out
                    exact ⟨cur, (hb.block Bb (Array.getElem?_eq_some_iff.1 h1).1).trans h1, h2⟩⟩
                  clear hb
                  obtain ⟨w7, hw7⟩ : ∃ w7, w' = w7 := ⟨_, rfl⟩
                  rw [hw7] at F7 HC7 ⊢
                  clear hw7
                  go_loopg [14] lt.length (fun kq v14 wq => ∃ j : Nat, v14 = .int .i64 (j : Int) ∧ j ≤ lt.length ∧ lt.length - j ≤ kq ∧ Aside0 (Fr (· = Bb) w7 wq ∧ ∃ cur, wq.heap[Bb]? = some (.cells cur 5 (0, 0)) ∧ lt.length ≤ cur.size))
                  case atStart => exact ⟨0, rfl, by omega, by omega, ⟨Fr.refl _ _, HC7.out⟩⟩
                  case round =>
                    obtain ⟨j, rfl, hj, hkj, L⟩ := hrel
                    have HYL : lt.length ≤ 80 := HLT.out
                    clear HC7 HCUR E6 X6 LW CD AT ST1 HCT HADD
                    by_cases hjl : j < lt.length
                    · obtain ⟨cur, hcur, hsz⟩ := L.out.2
                      have q3 : decide ((j : Int) < (lt.length : Int)) = true := decide_eq_true (by omega)
                      have m1 := Err.blk_cell hcur j _ (Array.getElem?_eq_getElem (show j < cur.size by omega))
                      have m3 := blk_frozen hcur j
                      have p0 : (0 : Int) ≤ (j : Int) := by omega
                      have p1 : (j : Int) < (lt.length : Int) := by omega
                      have HC := Aside0.mk hcur
                      clear hcur
                      go_wp2
                      go_roundg (gk - 1)
                      case measure => omega
                      case rel => exact ⟨j + 1, by go_num, by omega, by omega, ⟨L.out.1.set_ rfl _, _, Go.heap_setCell_same _ Bb j _ _ _ HC.out, by simpa using hsz⟩⟩
                    · have q3 : decide ((j : Int) < (lt.length : Int)) = false := decide_eq_false (by omega)
                      have PX : Aside0 (Pl w wr c1 c2 B0 B1 B2 (i + 1) r.2.1 CW ∧ r.2.1.room = (n : Int)) := ⟨by
                        have u := UB.out
                        obtain ⟨⟨n1, n2, n3, n4, n5, n6⟩, n7, n8, n9, n10, n11⟩ := PNE.out
                        refine ⟨Pl.of (Bb := Bb) ((F6.out.trans (Fr.of_below F7.out)).trans (L.out.1.mono (fun b hb => by subst hb; omega))) ((D6.out.below F7.out).kept L.out.1 (by omega) (by omega) (fun b hb hG => absurd hb hG.2.2)) ((R6.out.below F7.out).kept L.out.1 (by omega) (by omega) (by omega) (fun b hb hG => absurd hb hG.2.2.2)) SH6.out PNE.out, RM6.out⟩⟩
                      go_wp2_with fail
                      go_meet
                      case rel => exact ⟨_, _, PX⟩
              · as_aux_lemma =>
                go_wp2_with fail
                refine Reg.region_inv (Reg.tab [(Reg.Is fv), (Reg.Is (.int .i64 70)), (Reg.Is (.int .i64 70)), (Reg.Is (.bool false)), (Reg.Is (.bool false)), (Reg.Is (.int .i64 70)), (Reg.Is (.bool false)), (Reg.Is (.bool false)), (Reg.Is undef), (Reg.Is undef), (Reg.Is undef), (Reg.Is undef), (Reg.Is undef), (Reg.Is (.bool false)), (Reg.Is (.bool false)), (Reg.Is (.bool false)), (Reg.Is (.slice (some ⟨Bb, 0, none⟩) lt.length c4)), (Reg.Is (.int .i64 (lt.length : Int))), (Reg.Is (.int .i64 (l2.length : Int))), (Reg.Is (.slice (some ⟨Bb, 0, none⟩) l2.length c4)), (Reg.Is (.string sM)), (Reg.Is (.pointer (some ⟨wr.heap.size, 2, none⟩))), (Reg.Is (.slice A2 x.f2.length c2')), (Reg.Is (.int .i64 (lt.length : Int))), (Reg.Is (.slice A2 lt.length c2')), (Reg.Is (.string sL)), (Reg.Is (.string sM)), (Reg.Is (.bool false)), (Reg.Is (.bool false))]) (by kernel_rfl) (by kernel_rfl) (Reg.tab_mono ?mono) ?steps ?fin
                case mono => exact ⟨Reg.Is.mono _, Reg.Is.mono _, Reg.Is.mono _, Reg.Is.mono _, Reg.Is.mono _, Reg.Is.mono _, Reg.Is.mono _, Reg.Is.mono _, Reg.Is.mono _, Reg.Is.mono _, Reg.Is.mono _, Reg.Is.mono _, Reg.Is.mono _, Reg.Is.mono _, Reg.Is.mono _, Reg.Is.mono _, Reg.Is.mono _, Reg.Is.mono _, Reg.Is.mono _, Reg.Is.mono _, Reg.Is.mono _, Reg.Is.mono _, Reg.Is.mono _, Reg.Is.mono _, Reg.Is.mono _, Reg.Is.mono _, Reg.Is.mono _, Reg.Is.mono _, Reg.Is.mono _, trivial⟩
                case steps =>
                  refine ⟨?_, ?_, ?_, ?_, ?_, ?_, ?_, ?_, ?_, ?_, ?_, ?_, ?_, ?_, ?_, ?_, ?_, ?_, ?_, ?_, ?_, ?_, ?_, ?_, ?_, ?_, ?_, ?_, ?_, trivial⟩
                  · intro ac w' hb hd hk   -- 0
                    replace hb := Reg.below_undrew hb
                    have e12 : ac.tmps[12]? = some fv := (hk.1 12 (by kernel_rfl)).trans rfl
                    exact Reg.step_value (Reg.wanted_free rfl) (w1 := w') (by go_simp; try rfl) (Below.refl _ _) rfl
                  · intro ac w' hb hd hk   -- 1
                    replace hb := Reg.below_undrew hb
                    obtain ⟨v154, e154, t154⟩ := hk.2 0 (by kernel_rfl)
                    replace e154 : ac.tmps[154]? = some v154 := e154
                    replace e154 : ac.tmps[154]? = some fv := e154.trans (congrArg some t154)
                    refine Reg.step_call (Reg.wanted_free rfl) (by go_simp; try rfl) ((CD.out _ (DE.kept E6.out HDE.out (S := fun _ => False) (Fr.of_below hb) (fun _ _ _ h => h)) (LW.out.below hb (Nat.le_refl _))).mono ?_)
                    rintro en w4 ⟨rfl, hb4⟩
                    exact ⟨_, rfl, rfl, hb4⟩
                  · intro ac w' hb hd hk   -- 2
                    replace hb := Reg.below_undrew hb
                    have e13 : ac.tmps[13]? = some (.int .i64 70) := (hk.1 13 (by kernel_rfl)).trans rfl
                    exact Reg.step_value (Reg.wanted_free rfl) (w1 := w') (by go_simp; try rfl) (Below.refl _ _) rfl
                  · intro ac w' hb hd hk   -- 3
                    replace hb := Reg.below_undrew hb
                    obtain ⟨v155, e155, t155⟩ := hk.2 1 (by kernel_rfl)
                    replace e155 : ac.tmps[155]? = some v155 := e155
                    replace e155 : ac.tmps[155]? = some (.int .i64 70) := e155.trans (congrArg some t155)
                    obtain ⟨v156, e156, t156⟩ := hk.2 2 (by kernel_rfl)
                    replace e156 : ac.tmps[156]? = some v156 := e156
                    replace e156 : ac.tmps[156]? = some (.int .i64 70) := e156.trans (congrArg some t156)
                    exact Reg.step_value (Reg.wanted_free rfl) (w1 := w') (by go_simp; try rfl) (Below.refl _ _) rfl
                  · intro ac w' hb hd hk   -- 4
                    replace hb := Reg.below_undrew hb
                    obtain ⟨v157, e157, t157⟩ := hk.2 3 (by kernel_rfl)
                    replace e157 : ac.tmps[157]? = some v157 := e157
                    replace e157 : ac.tmps[157]? = some (.bool false) := e157.trans (congrArg some t157)
                    exact Reg.step_value (Reg.wanted_free rfl) (w1 := w') (by go_simp; try rfl) (Below.refl _ _) rfl
                  · intro ac w' hb hd hk   -- 5
                    replace hb := Reg.below_undrew hb
                    have e13 : ac.tmps[13]? = some (.int .i64 70) := (hk.1 13 (by kernel_rfl)).trans rfl
                    obtain ⟨v158, e158, t158⟩ := hk.2 4 (by kernel_rfl)
                    replace e158 : ac.tmps[158]? = some v158 := e158
                    replace e158 : ac.tmps[158]? = some (.bool false) := e158.trans (congrArg some t158)
                    exact Reg.step_value ((Reg.wanted_is rfl rfl e158).trans rfl) (w1 := w') (by go_simp; try rfl) (Below.refl _ _) rfl
                  · intro ac w' hb hd hk   -- 6
                    replace hb := Reg.below_undrew hb
                    obtain ⟨v159, e159, t159⟩ := hk.2 5 (by kernel_rfl)
                    replace e159 : ac.tmps[159]? = some v159 := e159
                    replace e159 : ac.tmps[159]? = some (.int .i64 70) := e159.trans (congrArg some t159)
                    obtain ⟨v158, e158, t158⟩ := hk.2 4 (by kernel_rfl)
                    replace e158 : ac.tmps[158]? = some v158 := e158
                    replace e158 : ac.tmps[158]? = some (.bool false) := e158.trans (congrArg some t158)
                    exact Reg.step_value ((Reg.wanted_is rfl rfl e158).trans rfl) (w1 := w') (by go_simp; try rfl) (Below.refl _ _) rfl
                  · intro ac w' hb hd hk   -- 7
                    replace hb := Reg.below_undrew hb
                    obtain ⟨v160, e160, t160⟩ := hk.2 6 (by kernel_rfl)
                    replace e160 : ac.tmps[160]? = some v160 := e160
                    replace e160 : ac.tmps[160]? = some (.bool false) := e160.trans (congrArg some t160)
                    obtain ⟨v158, e158, t158⟩ := hk.2 4 (by kernel_rfl)
                    replace e158 : ac.tmps[158]? = some v158 := e158
                    replace e158 : ac.tmps[158]? = some (.bool false) := e158.trans (congrArg some t158)
                    exact Reg.step_value ((Reg.wanted_is rfl rfl e158).trans rfl) (w1 := w') (by go_simp; try rfl) (Below.refl _ _) rfl
                  · intro ac w' hb hd hk   -- 8
                    replace hb := Reg.below_undrew hb
                    obtain ⟨v161, e161, t161⟩ := hk.2 7 (by kernel_rfl)
                    replace e161 : ac.tmps[161]? = some v161 := e161
                    replace e161 : ac.tmps[161]? = some (.bool false) := e161.trans (congrArg some t161)
                    exact Reg.step_off ((Reg.wanted_is rfl rfl e161).trans rfl) rfl
                  · intro ac w' hb hd hk   -- 9
                    replace hb := Reg.below_undrew hb
                    obtain ⟨v161, e161, t161⟩ := hk.2 7 (by kernel_rfl)
                    replace e161 : ac.tmps[161]? = some v161 := e161
                    replace e161 : ac.tmps[161]? = some (.bool false) := e161.trans (congrArg some t161)
                    exact Reg.step_off ((Reg.wanted_is rfl rfl e161).trans rfl) rfl
                  · intro ac w' hb hd hk   -- 10
                    replace hb := Reg.below_undrew hb
                    obtain ⟨v161, e161, t161⟩ := hk.2 7 (by kernel_rfl)
                    replace e161 : ac.tmps[161]? = some v161 := e161
                    replace e161 : ac.tmps[161]? = some (.bool false) := e161.trans (congrArg some t161)
                    exact Reg.step_off ((Reg.wanted_is rfl rfl e161).trans rfl) rfl
                  · intro ac w' hb hd hk   -- 11
                    replace hb := Reg.below_undrew hb
                    obtain ⟨v161, e161, t161⟩ := hk.2 7 (by kernel_rfl)
                    replace e161 : ac.tmps[161]? = some v161 := e161
                    replace e161 : ac.tmps[161]? = some (.bool false) := e161.trans (congrArg some t161)
                    exact Reg.step_off ((Reg.wanted_is rfl rfl e161).trans rfl) rfl
                  · intro ac w' hb hd hk   -- 12
                    replace hb := Reg.below_undrew hb
                    obtain ⟨v161, e161, t161⟩ := hk.2 7 (by kernel_rfl)
                    replace e161 : ac.tmps[161]? = some v161 := e161
                    replace e161 : ac.tmps[161]? = some (.bool false) := e161.trans (congrArg some t161)
                    exact Reg.step_off ((Reg.wanted_is rfl rfl e161).trans rfl) rfl
                  · intro ac w' hb hd hk   -- 13
                    replace hb := Reg.below_undrew hb
                    obtain ⟨v161, e161, t161⟩ := hk.2 7 (by kernel_rfl)
                    replace e161 : ac.tmps[161]? = some v161 := e161
                    replace e161 : ac.tmps[161]? = some (.bool false) := e161.trans (congrArg some t161)
                    obtain ⟨v166, e166, t166⟩ := hk.2 12 (by kernel_rfl)
                    replace e166 : ac.tmps[166]? = some v166 := e166
                    replace e166 : ac.tmps[166]? = some undef := e166.trans (congrArg some t166)
                    obtain ⟨v158, e158, t158⟩ := hk.2 4 (by kernel_rfl)
                    replace e158 : ac.tmps[158]? = some v158 := e158
                    replace e158 : ac.tmps[158]? = some (.bool false) := e158.trans (congrArg some t158)
                    exact Reg.step_value ((Reg.wanted_is rfl rfl e158).trans rfl) (w1 := w') (by go_simp; try rfl) (Below.refl _ _) rfl
                  · intro ac w' hb hd hk   -- 14
                    replace hb := Reg.below_undrew hb
                    obtain ⟨v158, e158, t158⟩ := hk.2 4 (by kernel_rfl)
                    replace e158 : ac.tmps[158]? = some v158 := e158
                    replace e158 : ac.tmps[158]? = some (.bool false) := e158.trans (congrArg some t158)
                    obtain ⟨v167, e167, t167⟩ := hk.2 13 (by kernel_rfl)
                    replace e167 : ac.tmps[167]? = some v167 := e167
                    replace e167 : ac.tmps[167]? = some (.bool false) := e167.trans (congrArg some t167)
                    exact Reg.step_value (Reg.wanted_free rfl) (w1 := w') (by go_simp; try rfl) (Below.refl _ _) rfl
                  · intro ac w' hb hd hk   -- 15
                    replace hb := Reg.below_undrew hb
                    obtain ⟨v168, e168, t168⟩ := hk.2 14 (by kernel_rfl)
                    replace e168 : ac.tmps[168]? = some v168 := e168
                    replace e168 : ac.tmps[168]? = some (.bool false) := e168.trans (congrArg some t168)
                    exact Reg.step_value (Reg.wanted_free rfl) (w1 := w') (by go_simp; try rfl) (Below.refl _ _) rfl
                  · intro ac w' hb hd hk   -- 16
                    replace hb := Reg.below_undrew hb
                    have e10 : ac.tmps[10]? = some (.slice (some ⟨Bb, 0, none⟩) lt.length c4) := (hk.1 10 (by kernel_rfl)).trans rfl
                    obtain ⟨v169, e169, t169⟩ := hk.2 15 (by kernel_rfl)
                    replace e169 : ac.tmps[169]? = some v169 := e169
                    replace e169 : ac.tmps[169]? = some (.bool false) := e169.trans (congrArg some t169)
                    exact Reg.step_value ((Reg.wanted_is rfl rfl e169).trans rfl) (w1 := w') (by go_simp; try rfl) (Below.refl _ _) rfl
                  · intro ac w' hb hd hk   -- 17
                    replace hb := Reg.below_undrew hb
                    have e11 : ac.tmps[11]? = some (.int .i64 (lt.length : Int)) := (hk.1 11 (by kernel_rfl)).trans rfl
                    obtain ⟨v169, e169, t169⟩ := hk.2 15 (by kernel_rfl)
                    replace e169 : ac.tmps[169]? = some v169 := e169
                    replace e169 : ac.tmps[169]? = some (.bool false) := e169.trans (congrArg some t169)
                    exact Reg.step_value ((Reg.wanted_is rfl rfl e169).trans rfl) (w1 := w') (by go_simp; try rfl) (Below.refl _ _) rfl
                  · intro ac w' hb hd hk   -- 18
                    replace hb := Reg.below_undrew hb
                    obtain ⟨v171, e171, t171⟩ := hk.2 17 (by kernel_rfl)
                    replace e171 : ac.tmps[171]? = some v171 := e171
                    replace e171 : ac.tmps[171]? = some (.int .i64 (lt.length : Int)) := e171.trans (congrArg some t171)
                    obtain ⟨v169, e169, t169⟩ := hk.2 15 (by kernel_rfl)
                    replace e169 : ac.tmps[169]? = some v169 := e169
                    replace e169 : ac.tmps[169]? = some (.bool false) := e169.trans (congrArg some t169)
                    have hl2n : (lt.length : Int) + 2 = (l2.length : Int) := by have := HL2.out.1; omega
                    have hl2b : l2.length ≤ 82 := by have := HL2.out.1; have := HLT.out; omega
                    have hl2w : IntKind.i64.wrap (l2.length : Int) = (l2.length : Int) := IntWalk.i64_in _ (by omega)
                    exact Reg.step_value ((Reg.wanted_is rfl rfl e169).trans rfl) (w1 := w') (by go_simp; try rfl) (Below.refl _ _) rfl
                  · intro ac w' hb hd hk   -- 19
                    replace hb := Reg.below_undrew hb
                    obtain ⟨v170, e170, t170⟩ := hk.2 16 (by kernel_rfl)
                    replace e170 : ac.tmps[170]? = some v170 := e170
                    replace e170 : ac.tmps[170]? = some (.slice (some ⟨Bb, 0, none⟩) lt.length c4) := e170.trans (congrArg some t170)
                    obtain ⟨v172, e172, t172⟩ := hk.2 18 (by kernel_rfl)
                    replace e172 : ac.tmps[172]? = some v172 := e172
                    replace e172 : ac.tmps[172]? = some (.int .i64 (l2.length : Int)) := e172.trans (congrArg some t172)
                    obtain ⟨v169, e169, t169⟩ := hk.2 15 (by kernel_rfl)
                    replace e169 : ac.tmps[169]? = some v169 := e169
                    replace e169 : ac.tmps[169]? = some (.bool false) := e169.trans (congrArg some t169)
                    have hct := HCT.out.2 w'
                    exact Reg.step_value ((Reg.wanted_is rfl rfl e169).trans rfl) (w1 := w') (by go_simp; try rfl) (Below.refl _ _) rfl
                  · intro ac w' hb hd hk   -- 20
                    replace hb := Reg.below_undrew hb
                    obtain ⟨v173, e173, t173⟩ := hk.2 19 (by kernel_rfl)
                    replace e173 : ac.tmps[173]? = some v173 := e173
                    replace e173 : ac.tmps[173]? = some (.slice (some ⟨Bb, 0, none⟩) l2.length c4) := e173.trans (congrArg some t173)
                    obtain ⟨v169, e169, t169⟩ := hk.2 15 (by kernel_rfl)
                    replace e169 : ac.tmps[169]? = some v169 := e169
                    replace e169 : ac.tmps[169]? = some (.bool false) := e169.trans (congrArg some t169)
                    have hcv := (ST1.out w' hb).1
                    exact Reg.step_value ((Reg.wanted_is rfl rfl e169).trans rfl) (w1 := w') (by go_simp; try rfl) (Below.refl _ _) rfl
                  · intro ac w' hb hd hk   -- 21
                    replace hb := Reg.below_undrew hb
                    have e9 : ac.tmps[9]? = some (.pointer (some ⟨wr.heap.size, 0, none⟩)) := (hk.1 9 (by kernel_rfl)).trans rfl
                    obtain ⟨v169, e169, t169⟩ := hk.2 15 (by kernel_rfl)
                    replace e169 : ac.tmps[169]? = some v169 := e169
                    replace e169 : ac.tmps[169]? = some (.bool false) := e169.trans (congrArg some t169)
                    exact Reg.step_value ((Reg.wanted_is rfl rfl e169).trans rfl) (w1 := w') (by go_simp; try rfl) (Below.refl _ _) rfl
                  · intro ac w' hb hd hk   -- 22
                    replace hb := Reg.below_undrew hb
                    obtain ⟨v175, e175, t175⟩ := hk.2 21 (by kernel_rfl)
                    replace e175 : ac.tmps[175]? = some v175 := e175
                    replace e175 : ac.tmps[175]? = some (.pointer (some ⟨wr.heap.size, 2, none⟩)) := e175.trans (congrArg some t175)
                    obtain ⟨v169, e169, t169⟩ := hk.2 15 (by kernel_rfl)
                    replace e169 : ac.tmps[169]? = some v169 := e169
                    replace e169 : ac.tmps[169]? = some (.bool false) := e169.trans (congrArg some t169)
                    obtain ⟨k0, k1, k2⟩ := facts3 ((hb.block wr.heap.size (Array.getElem?_eq_some_iff.1 X6.out).1).trans X6.out)
                    exact Reg.step_value ((Reg.wanted_is rfl rfl e169).trans rfl) (w1 := w') (by go_simp; try rfl) (Below.refl _ _) rfl
                  · intro ac w' hb hd hk   -- 23
                    replace hb := Reg.below_undrew hb
                    have e11 : ac.tmps[11]? = some (.int .i64 (lt.length : Int)) := (hk.1 11 (by kernel_rfl)).trans rfl
                    obtain ⟨v169, e169, t169⟩ := hk.2 15 (by kernel_rfl)
                    replace e169 : ac.tmps[169]? = some v169 := e169
                    replace e169 : ac.tmps[169]? = some (.bool false) := e169.trans (congrArg some t169)
                    exact Reg.step_value ((Reg.wanted_is rfl rfl e169).trans rfl) (w1 := w') (by go_simp; try rfl) (Below.refl _ _) rfl
                  · intro ac w' hb hd hk   -- 24
                    replace hb := Reg.below_undrew hb
                    obtain ⟨v176, e176, t176⟩ := hk.2 22 (by kernel_rfl)
                    replace e176 : ac.tmps[176]? = some v176 := e176
                    replace e176 : ac.tmps[176]? = some (.slice A2 x.f2.length c2') := e176.trans (congrArg some t176)
                    obtain ⟨v177, e177, t177⟩ := hk.2 23 (by kernel_rfl)
                    replace e177 : ac.tmps[177]? = some v177 := e177
                    replace e177 : ac.tmps[177]? = some (.int .i64 (lt.length : Int)) := e177.trans (congrArg some t177)
                    obtain ⟨v169, e169, t169⟩ := hk.2 15 (by kernel_rfl)
                    replace e169 : ac.tmps[169]? = some v169 := e169
                    replace e169 : ac.tmps[169]? = some (.bool false) := e169.trans (congrArg some t169)
                    have hct := HCT.out.1 w'
                    exact Reg.step_value ((Reg.wanted_is rfl rfl e169).trans rfl) (w1 := w') (by go_simp; try rfl) (Below.refl _ _) rfl
                  · intro ac w' hb hd hk   -- 25
                    replace hb := Reg.below_undrew hb
                    obtain ⟨v178, e178, t178⟩ := hk.2 24 (by kernel_rfl)
                    replace e178 : ac.tmps[178]? = some v178 := e178
                    replace e178 : ac.tmps[178]? = some (.slice A2 lt.length c2') := e178.trans (congrArg some t178)
                    obtain ⟨v169, e169, t169⟩ := hk.2 15 (by kernel_rfl)
                    replace e169 : ac.tmps[169]? = some v169 := e169
                    replace e169 : ac.tmps[169]? = some (.bool false) := e169.trans (congrArg some t169)
                    have hcv := (ST1.out w' hb).2
                    exact Reg.step_value ((Reg.wanted_is rfl rfl e169).trans rfl) (w1 := w') (by go_simp; try rfl) (Below.refl _ _) rfl
                  · intro ac w' hb hd hk   -- 26
                    replace hb := Reg.below_undrew hb
                    obtain ⟨v179, e179, t179⟩ := hk.2 25 (by kernel_rfl)
                    replace e179 : ac.tmps[179]? = some v179 := e179
                    replace e179 : ac.tmps[179]? = some (.string sL) := e179.trans (congrArg some t179)
                    obtain ⟨v169, e169, t169⟩ := hk.2 15 (by kernel_rfl)
                    replace e169 : ac.tmps[169]? = some v169 := e169
                    replace e169 : ac.tmps[169]? = some (.bool false) := e169.trans (congrArg some t169)
                    have hadd := HADD.out
                    have hsz := HSL.out
                    exact Reg.step_value ((Reg.wanted_is rfl rfl e169).trans rfl) (w1 := w') (by go_simp; try rfl) (Below.refl _ _) rfl
                  · intro ac w' hb hd hk   -- 27
                    replace hb := Reg.below_undrew hb
                    obtain ⟨v174, e174, t174⟩ := hk.2 20 (by kernel_rfl)
                    replace e174 : ac.tmps[174]? = some v174 := e174
                    replace e174 : ac.tmps[174]? = some (.string sM) := e174.trans (congrArg some t174)
                    obtain ⟨v180, e180, t180⟩ := hk.2 26 (by kernel_rfl)
                    replace e180 : ac.tmps[180]? = some v180 := e180
                    replace e180 : ac.tmps[180]? = some (.string sM) := e180.trans (congrArg some t180)
                    obtain ⟨v169, e169, t169⟩ := hk.2 15 (by kernel_rfl)
                    replace e169 : ac.tmps[169]? = some v169 := e169
                    replace e169 : ac.tmps[169]? = some (.bool false) := e169.trans (congrArg some t169)
                    exact Reg.step_value ((Reg.wanted_is rfl rfl e169).trans rfl) (w1 := w') (by go_simp; try rfl) (Below.refl _ _) rfl
                  · intro ac w' hb hd hk   -- 28
                    replace hb := Reg.below_undrew hb
                    obtain ⟨v169, e169, t169⟩ := hk.2 15 (by kernel_rfl)
                    replace e169 : ac.tmps[169]? = some v169 := e169
                    replace e169 : ac.tmps[169]? = some (.bool false) := e169.trans (congrArg some t169)
                    obtain ⟨v181, e181, t181⟩ := hk.2 27 (by kernel_rfl)
                    replace e181 : ac.tmps[181]? = some v181 := e181
                    replace e181 : ac.tmps[181]? = some (.bool false) := e181.trans (congrArg some t181)
                    exact Reg.step_value (Reg.wanted_free rfl) (w1 := w') (by go_simp; try rfl) (Below.refl _ _) rfl
                case fin =>
                  intro w' hb
                  replace hb := Reg.below_undrew hb
                  rintro _ rfl
                  rintro _ rfl
                  rintro _ rfl
                  rintro _ rfl
                  rintro _ rfl
                  rintro _ rfl
                  rintro _ rfl
                  rintro _ rfl
                  rintro _ rfl
                  rintro _ rfl
                  rintro _ rfl
                  rintro _ rfl
                  rintro _ rfl
                  rintro _ rfl
                  rintro _ rfl
                  rintro _ rfl
                  rintro _ rfl
                  rintro _ rfl
                  rintro _ rfl
                  rintro _ rfl
                  rintro _ rfl
                  rintro _ rfl
                  rintro _ rfl
                  rintro _ rfl
                  rintro _ rfl
                  rintro _ rfl
                  rintro _ rfl
                  rintro _ rfl
                  rintro _ rfl
                  refine Reg.done_nil ?_
                  simp only [Act.put, List.setIfInBounds_toArray, List.set_cons_zero, List.set_cons_succ]
                  go_wp2
                  have F7 : Aside0 (Below w6.heap.size w6 w') := ⟨hb⟩
                  have HC7 : Aside0 (∃ cur, w'.heap[Bb]? = some (.cells cur 5 (0, 0)) ∧ lt.length ≤ cur.size) := ⟨by
                    obtain ⟨cur, h1, h2⟩ := HCUR.out
                    exact ⟨cur, (hb.block Bb (Array.getElem?_eq_some_iff.1 h1).1).trans h1, h2⟩⟩
                  clear hb
                  obtain ⟨w7, hw7⟩ : ∃ w7, w' = w7 := ⟨_, rfl⟩
                  rw [hw7] at F7 HC7 ⊢
                  clear hw7
                  go_loopg [14] lt.length (fun kq v14 wq => ∃ j : Nat, v14 = .int .i64 (j : Int) ∧ j ≤ lt.length ∧ lt.length - j ≤ kq ∧ Aside0 (Fr (· = Bb) w7 wq ∧ ∃ cur, wq.heap[Bb]? = some (.cells cur 5 (0, 0)) ∧ lt.length ≤ cur.size))
                  case atStart => exact ⟨0, rfl, by omega, by omega, ⟨Fr.refl _ _, HC7.out⟩⟩
                  case round =>
                    obtain ⟨j, rfl, hj, hkj, L⟩ := hrel
                    have HYL : lt.length ≤ 80 := HLT.out
                    clear HC7 HCUR E6 X6 LW CD AT ST1 HCT HADD
                    by_cases hjl : j < lt.length
                    · obtain ⟨cur, hcur, hsz⟩ := L.out.2
                      have q3 : decide ((j : Int) < (lt.length : Int)) = true := decide_eq_true (by omega)
                      have m1 := Err.blk_cell hcur j _ (Array.getElem?_eq_getElem (show j < cur.size by omega))
                      have m3 := blk_frozen hcur j
                      have p0 : (0 : Int) ≤ (j : Int) := by omega
                      have p1 : (j : Int) < (lt.length : Int) := by omega
                      have HC := Aside0.mk hcur
                      clear hcur
                      go_wp2
                      go_roundg (gk - 1)
                      case measure => omega
                      case rel => exact ⟨j + 1, by go_num, by omega, by omega, ⟨L.out.1.set_ rfl _, _, Go.heap_setCell_same _ Bb j _ _ _ HC.out, by simpa using hsz⟩⟩
                    · have q3 : decide ((j : Int) < (lt.length : Int)) = false := decide_eq_false (by omega)
                      have PX : Aside0 (Pl w wr c1 c2 B0 B1 B2 (i + 1) r.2.1 CW ∧ r.2.1.room = (n : Int)) := ⟨by
                        have u := UB.out
                        obtain ⟨⟨n1, n2, n3, n4, n5, n6⟩, n7, n8, n9, n10, n11⟩ := PNE.out
                        refine ⟨Pl.of (Bb := Bb) ((F6.out.trans (Fr.of_below F7.out)).trans (L.out.1.mono (fun b hb => by subst hb; omega))) ((D6.out.below F7.out).kept L.out.1 (by omega) (by omega) (fun b hb hG => absurd hb hG.2.2)) ((R6.out.below F7.out).kept L.out.1 (by omega) (by omega) (by omega) (fun b hb hG => absurd hb hG.2.2.2)) SH6.out PNE.out, RM6.out⟩⟩
                      go_wp2_with fail
                      go_meet
                      case rel => exact ⟨_, _, PX⟩
            · have k0 : (x.f0 == 0) = false := beq_eq_false_iff_ne.2 h0
              by_cases h2 : x.f0 = 2
              · rw [h2] at y0 X ⊢
                clear k0 h0 h2
                as_aux_lemma =>
                go_wp2_with fail
                refine (arm_dx (K.out.1.d.below (below_alloc (Below.refl _ _) _)) x.f1).mono ?_
                rintro e w5 ⟨rfl, hD, f5⟩
                have D5 := Aside0.mk hD
                have F5 := Aside0.mk f5
                have R5 := Aside0.mk ((K.out.1.below (below_alloc (Below.refl _ _) _)).rkept f5)
                have X5 : Aside0 (w5.heap[wr.heap.size]? = _) := ⟨(f5.block wr.heap.size (Array.getElem?_eq_some_iff.1 X.out).1 (fun h => by have := K.out.1.d.lt; rcases h with h | h <;> omega)).trans X.out⟩
                obtain ⟨z0, z1, z2⟩ := facts3 X5.out
                clear hD f5 y0 y1 y2
                go_wp2_with fail
                refine (rarm R5.out x.f1).mono ?_
                rintro e w6 ⟨rfl, hR, f6⟩
                have PX : Aside0 (Pl w w6 c1 c2 B0 B1 B2 (i + 1) (armS s x.f1) C ∧ (armS s x.f1).room = (n : Int)) := ⟨((K.out.1.below (below_alloc (Below.refl _ _) _)).both D5.out F5.out hR f6 R5.out.noB K.out.1.short).more (Nat.le_succ i), by unfold armS; split <;> exact K.out.2⟩
                clear hR f6 z0 z1 z2 D5 F5 R5 X5
                go_wp2_with fail
                go_meet
                case rel => exact ⟨_, _, PX⟩
              · have k2 : (x.f0 == 2) = false := beq_eq_false_iff_ne.2 h2
                by_cases h3 : x.f0 = 3
                · rw [h3] at y0 X ⊢
                  clear k0 k2 h0 h2 h3
                  as_aux_lemma =>
                  go_wp2_with fail
                  refine (cut_dx (K.out.1.d.below (below_alloc (Below.refl _ _) _))).mono ?_
                  rintro e w5 ⟨rfl, hD, f5⟩
                  have D5 := Aside0.mk hD
                  have F5 := Aside0.mk f5
                  have R5 := Aside0.mk ((K.out.1.below (below_alloc (Below.refl _ _) _)).rkept f5)
                  have X5 : Aside0 (w5.heap[wr.heap.size]? = _) := ⟨(f5.block wr.heap.size (Array.getElem?_eq_some_iff.1 X.out).1 (fun h => by have := K.out.1.d.lt; rcases h with h | h <;> omega)).trans X.out⟩
                  obtain ⟨z0, z1, z2⟩ := facts3 X5.out
                  clear hD f5 y0 y1 y2
                  go_wp2_with fail
                  refine (rcut R5.out).mono ?_
                  rintro e w6 ⟨rfl, hR, f6⟩
                  have PX : Aside0 (Pl w w6 c1 c2 B0 B1 B2 (i + 1) (cutS s) C ∧ (cutS s).room = (n : Int)) := ⟨((K.out.1.below (below_alloc (Below.refl _ _) _)).both D5.out F5.out hR f6 R5.out.noB K.out.1.short).more (Nat.le_succ i), K.out.2⟩
                  clear hR f6 z0 z1 z2 D5 F5 R5 X5
                  go_wp2_with fail
                  go_meet
                  case rel => exact ⟨_, _, PX⟩
                · have k3 : (x.f0 == 3) = false := beq_eq_false_iff_ne.2 h3
                  by_cases h4 : x.f0 = 4
                  · rw [h4] at y0 X ⊢
                    clear k0 k2 k3 h0 h2 h3 h4
                    as_aux_lemma =>
                    go_wp2_with fail
                    refine (restart_dx (K.out.1.d.below (below_alloc (Below.refl _ _) _))).mono ?_
                    rintro e w5 ⟨rfl, hD, f5⟩
                    have D5 := Aside0.mk hD
                    have F5 := Aside0.mk f5
                    have R5 := Aside0.mk ((K.out.1.below (below_alloc (Below.refl _ _) _)).rkept f5)
                    have X5 : Aside0 (w5.heap[wr.heap.size]? = _) := ⟨(f5.block wr.heap.size (Array.getElem?_eq_some_iff.1 X.out).1 (fun h => by have := K.out.1.d.lt; rcases h with h | h <;> omega)).trans X.out⟩
                    obtain ⟨z0, z1, z2⟩ := facts3 X5.out
                    clear hD f5 y0 y1 y2
                    go_wp2_with fail
                    refine (rrestart R5.out).mono ?_
                    rintro e w6 ⟨rfl, hR, f6⟩
                    have PX : Aside0 (Pl w w6 c1 c2 B0 B1 B2 (i + 1) (restartS s) C ∧ (restartS s).room = (n : Int)) := ⟨((K.out.1.below (below_alloc (Below.refl _ _) _)).both D5.out F5.out hR f6 R5.out.noB K.out.1.short).more (Nat.le_succ i), K.out.2⟩
                    clear hR f6 z0 z1 z2 D5 F5 R5 X5
                    go_wp2_with fail
                    go_meet
                    case rel => exact ⟨_, _, PX⟩
                  · have k4 : (x.f0 == 4) = false := beq_eq_false_iff_ne.2 h4
                    clear h0 h2 h3 h4
                    have HRD := Aside0.mk (read_dx (K.out.1.d.below (below_alloc (Below.refl _ _) (Obj.cells #[.int .i64 x.f0, .int .i64 x.f1, .slice A2 x.f2.length c2'] 32))) x.f1 GK.out (fun xs hx => by have := K.out.1.short _ _ hx; omega))
                    have HRR := Aside0.mk (fun W (h : RD W (fun b => b ≠ B0 ∧ b ≠ B1 ∧ b ≠ B2) B0 B1 B2 s C) => rread h x.f1)
                    have hDE := rdS_DE s C x.f1
                    have hPL := rdS_place s C x.f1
                    have hCO := rdS_code s C x.f1
                    obtain ⟨r, hr⟩ : ∃ r, rdS s C x.f1 = r := ⟨_, rfl⟩
                    rw [hr] at HRD HRR hDE hPL hCO
                    obtain ⟨ys, bb, er⟩ := r
                    have HDE := Aside0.mk hDE
                    have HPL := Aside0.mk hPL
                    have HCO := Aside0.mk hCO
                    have b1 : (bb != bb) = false := by cases bb <;> rfl
                    clear hr hDE hPL hCO
                    go_wp2_with fail
                    refine HRD.out.mono ?_
                    rintro e w5 ⟨v, ev, rfl, hR, hE, hb, hN⟩
                    have BW : Aside0 (Below wr.heap.size wr w5) := ⟨(below_alloc (Below.refl _ _) _).trans (hb.mono (by simp))⟩
                    have X5 : Aside0 (w5.heap[wr.heap.size]? = _) := ⟨(hb.block wr.heap.size (by simp)).trans X.out⟩
                    have R5 := Aside0.mk (Kd.R_lower hR (show wr.heap.size ≤ _ by simp))
                    have E5 := Aside0.mk hE
                    obtain ⟨A5, c5, rfl⟩ := Kd.R_slice hR
                    simp only [] at *
                    clear hR hE hb hN HRD y0 y1 y2
                    obtain ⟨v0, v1, v2⟩ := facts3 X5.out
                    go_wp2_with fail
                    refine (HRR.out _ (K.out.1.below BW.out).r).mono ?_
                    rintro e w6 ⟨v6, rfl, hR6, hb6⟩
                    obtain ⟨A6, c6, rfl, _, hC6⟩ := hR6
                    have BW6 : Aside0 (Below wr.heap.size wr w6) := ⟨BW.out.trans (hb6.mono BW.out.size)⟩
                    have R6 := Aside0.mk (Kd.R_below R5.out hb6)
                    have C6 := Aside0.mk hC6
                    have E6 := Aside0.mk (DE.kept E5.out HDE.out (S := fun _ => False) (Fr.of_below hb6) (fun _ _ _ h => h))
                    have X6 : Aside0 (w6.heap[wr.heap.size]? = _) := ⟨(hb6.block wr.heap.size (Array.getElem?_eq_some_iff.1 X5.out).1).trans X5.out⟩
                    obtain ⟨y0, y1, y2⟩ := facts3 X6.out
                    have LW := Aside0.mk (HL.out.below ((K.out.1.below BW6.out).fr.below (Nat.le_refl _) (fun _ h => h)) (Nat.le_refl _))
                    clear hC6 hb6 HRR R5 E5 X5 BW v0 v1 v2
                    obtain ⟨g, hg⟩ : ∃ g, codeOf er = g := ⟨_, rfl⟩
                    obtain ⟨pl, hpl⟩ : ∃ pl, placeOf er = pl := ⟨_, rfl⟩
                    have CD := Aside0.mk (fun W (h : IsErr? W er ev) (hl : Laid W) => code_law er ev W h hl)
                    have AT := Aside0.mk (fun W (h : IsErr? W er ev) => at_law er ev W h)
                    rw [hg] at CD HPL HCO ⊢
                    rw [hpl] at AT HPL
                    clear hg hpl
                    obtain ⟨sy, hsy⟩ : ∃ sy, strOfNums ys = sy := ⟨_, rfl⟩
                    have ST1 : Aside0 (∀ W, Below w6.heap.size w6 W → (convert 30 9 (.slice A5 ys.length c5)).run Tryd.prog W = .ok (.string sy) W ∧ (convert 30 9 (.slice A6 ys.length c6)).run Tryd.prog W = .ok (.string sy) W) := ⟨fun W hb => by
                      have h1 := Kd.C_string (P := Tryd.prog) (c := c5) Tryd.underlying30 Tryd.underlying5 Tryd.underlying9 (Kd.R_reads' (Kd.R_below R6.out hb)).2.2
                      have h2 := Kd.C_string (P := Tryd.prog) (c := c6) Tryd.underlying30 Tryd.underlying5 Tryd.underlying9 (Kd.C_below C6.out hb)
                      rw [hsy] at h1 h2
                      exact ⟨h1, h2⟩⟩
                    clear hsy
                    rcases HCO.out with rfl | rfl | rfl
                    · as_aux_lemma =>
                      go_wp2_with fail
                      refine Reg.region_inv (Reg.tab [(Reg.Is ev), (Reg.Is (.int .i64 0)), (Reg.Is (.int .i64 0)), (Reg.Is (.bool false)), (Reg.Is (.bool false)), (Reg.Is (.bool bb)), (Reg.Is (.bool bb)), (Reg.Is (.bool false)), (Reg.Is (.bool false)), (Reg.Is (.bool false)), (Reg.Is (.slice A5 ys.length c5)), (Reg.Is (.string sy)), (Reg.Is (.slice A6 ys.length c6)), (Reg.Is (.string sy)), (Reg.Is (.bool false)), (Reg.Is (.bool false)), (Reg.Is (.bool false)), (Reg.Is (.int .i64 0)), (Reg.Is (.bool false)), (Reg.Is (.bool false)), (Reg.Is undef), (Reg.Is undef), (Reg.Is undef), (Reg.Is undef), (Reg.Is undef), (Reg.Is (.bool false)), (Reg.Is (.bool false))]) (by kernel_rfl) (by kernel_rfl) (Reg.tab_mono ?mono) ?steps ?fin
                      case mono => exact ⟨Reg.Is.mono _, Reg.Is.mono _, Reg.Is.mono _, Reg.Is.mono _, Reg.Is.mono _, Reg.Is.mono _, Reg.Is.mono _, Reg.Is.mono _, Reg.Is.mono _, Reg.Is.mono _, Reg.Is.mono _, Reg.Is.mono _, Reg.Is.mono _, Reg.Is.mono _, Reg.Is.mono _, Reg.Is.mono _, Reg.Is.mono _, Reg.Is.mono _, Reg.Is.mono _, Reg.Is.mono _, Reg.Is.mono _, Reg.Is.mono _, Reg.Is.mono _, Reg.Is.mono _, Reg.Is.mono _, Reg.Is.mono _, Reg.Is.mono _, trivial⟩
                      case steps =>
                        refine ⟨?_, ?_, ?_, ?_, ?_, ?_, ?_, ?_, ?_, ?_, ?_, ?_, ?_, ?_, ?_, ?_, ?_, ?_, ?_, ?_, ?_, ?_, ?_, ?_, ?_, ?_, ?_, trivial⟩
                        · intro ac w' hb hd hk   -- 0
                          replace hb := Reg.below_undrew hb
                          have e17 : ac.tmps[17]? = some ev := (hk.1 17 (by kernel_rfl)).trans rfl
                          exact Reg.step_value (Reg.wanted_free rfl) (w1 := w') (by go_simp; try rfl) (Below.refl _ _) rfl
                        · intro ac w' hb hd hk   -- 1
                          replace hb := Reg.below_undrew hb
                          obtain ⟨v90, e90, t90⟩ := hk.2 0 (by kernel_rfl)
                          replace e90 : ac.tmps[90]? = some v90 := e90
                          replace e90 : ac.tmps[90]? = some ev := e90.trans (congrArg some t90)
                          refine Reg.step_call (Reg.wanted_free rfl) (by go_simp; try rfl) ((CD.out _ (DE.kept E6.out HDE.out (S := fun _ => False) (Fr.of_below hb) (fun _ _ _ h => h)) (LW.out.below hb (Nat.le_refl _))).mono ?_)
                          rintro en w4 ⟨rfl, hb4⟩
                          exact ⟨_, rfl, rfl, hb4⟩
                        · intro ac w' hb hd hk   -- 2
                          replace hb := Reg.below_undrew hb
                          have e20 : ac.tmps[20]? = some (.int .i64 0) := (hk.1 20 (by kernel_rfl)).trans rfl
                          exact Reg.step_value (Reg.wanted_free rfl) (w1 := w') (by go_simp; try rfl) (Below.refl _ _) rfl
                        · intro ac w' hb hd hk   -- 3
                          replace hb := Reg.below_undrew hb
                          obtain ⟨v91, e91, t91⟩ := hk.2 1 (by kernel_rfl)
                          replace e91 : ac.tmps[91]? = some v91 := e91
                          replace e91 : ac.tmps[91]? = some (.int .i64 0) := e91.trans (congrArg some t91)
                          obtain ⟨v92, e92, t92⟩ := hk.2 2 (by kernel_rfl)
                          replace e92 : ac.tmps[92]? = some v92 := e92
                          replace e92 : ac.tmps[92]? = some (.int .i64 0) := e92.trans (congrArg some t92)
                          exact Reg.step_value (Reg.wanted_free rfl) (w1 := w') (by go_simp; try rfl) (Below.refl _ _) rfl
                        · intro ac w' hb hd hk   -- 4
                          replace hb := Reg.below_undrew hb
                          obtain ⟨v93, e93, t93⟩ := hk.2 3 (by kernel_rfl)
                          replace e93 : ac.tmps[93]? = some v93 := e93
                          replace e93 : ac.tmps[93]? = some (.bool false) := e93.trans (congrArg some t93)
                          exact Reg.step_value (Reg.wanted_free rfl) (w1 := w') (by go_simp; try rfl) (Below.refl _ _) rfl
                        · intro ac w' hb hd hk   -- 5
                          replace hb := Reg.below_undrew hb
                          have e16 : ac.tmps[16]? = some (.bool bb) := (hk.1 16 (by kernel_rfl)).trans rfl
                          obtain ⟨v94, e94, t94⟩ := hk.2 4 (by kernel_rfl)
                          replace e94 : ac.tmps[94]? = some v94 := e94
                          replace e94 : ac.tmps[94]? = some (.bool false) := e94.trans (congrArg some t94)
                          exact Reg.step_value ((Reg.wanted_is rfl rfl e94).trans rfl) (w1 := w') (by go_simp; try rfl) (Below.refl _ _) rfl
                        · intro ac w' hb hd hk   -- 6
                          replace hb := Reg.below_undrew hb
                          have e19 : ac.tmps[19]? = some (.bool bb) := (hk.1 19 (by kernel_rfl)).trans rfl
                          obtain ⟨v94, e94, t94⟩ := hk.2 4 (by kernel_rfl)
                          replace e94 : ac.tmps[94]? = some v94 := e94
                          replace e94 : ac.tmps[94]? = some (.bool false) := e94.trans (congrArg some t94)
                          exact Reg.step_value ((Reg.wanted_is rfl rfl e94).trans rfl) (w1 := w') (by go_simp; try rfl) (Below.refl _ _) rfl
                        · intro ac w' hb hd hk   -- 7
                          replace hb := Reg.below_undrew hb
                          obtain ⟨v95, e95, t95⟩ := hk.2 5 (by kernel_rfl)
                          replace e95 : ac.tmps[95]? = some v95 := e95
                          replace e95 : ac.tmps[95]? = some (.bool bb) := e95.trans (congrArg some t95)
                          obtain ⟨v96, e96, t96⟩ := hk.2 6 (by kernel_rfl)
                          replace e96 : ac.tmps[96]? = some v96 := e96
                          replace e96 : ac.tmps[96]? = some (.bool bb) := e96.trans (congrArg some t96)
                          obtain ⟨v94, e94, t94⟩ := hk.2 4 (by kernel_rfl)
                          replace e94 : ac.tmps[94]? = some v94 := e94
                          replace e94 : ac.tmps[94]? = some (.bool false) := e94.trans (congrArg some t94)
                          exact Reg.step_value ((Reg.wanted_is rfl rfl e94).trans rfl) (w1 := w') (by go_simp; try rfl) (Below.refl _ _) rfl
                        · intro ac w' hb hd hk   -- 8
                          replace hb := Reg.below_undrew hb
                          obtain ⟨v94, e94, t94⟩ := hk.2 4 (by kernel_rfl)
                          replace e94 : ac.tmps[94]? = some v94 := e94
                          replace e94 : ac.tmps[94]? = some (.bool false) := e94.trans (congrArg some t94)
                          obtain ⟨v97, e97, t97⟩ := hk.2 7 (by kernel_rfl)
                          replace e97 : ac.tmps[97]? = some v97 := e97
                          replace e97 : ac.tmps[97]? = some (.bool false) := e97.trans (congrArg some t97)
                          exact Reg.step_value (Reg.wanted_free rfl) (w1 := w') (by go_simp; try rfl) (Below.refl _ _) rfl
                        · intro ac w' hb hd hk   -- 9
                          replace hb := Reg.below_undrew hb
                          obtain ⟨v98, e98, t98⟩ := hk.2 8 (by kernel_rfl)
                          replace e98 : ac.tmps[98]? = some v98 := e98
                          replace e98 : ac.tmps[98]? = some (.bool false) := e98.trans (congrArg some t98)
                          exact Reg.step_value (Reg.wanted_free rfl) (w1 := w') (by go_simp; try rfl) (Below.refl _ _) rfl
                        · intro ac w' hb hd hk   -- 10
                          replace hb := Reg.below_undrew hb
                          have e15 : ac.tmps[15]? = some (.slice A5 ys.length c5) := (hk.1 15 (by kernel_rfl)).trans rfl
                          obtain ⟨v99, e99, t99⟩ := hk.2 9 (by kernel_rfl)
                          replace e99 : ac.tmps[99]? = some v99 := e99
                          replace e99 : ac.tmps[99]? = some (.bool false) := e99.trans (congrArg some t99)
                          exact Reg.step_value ((Reg.wanted_is rfl rfl e99).trans rfl) (w1 := w') (by go_simp; try rfl) (Below.refl _ _) rfl
                        · intro ac w' hb hd hk   -- 11
                          replace hb := Reg.below_undrew hb
                          obtain ⟨v100, e100, t100⟩ := hk.2 10 (by kernel_rfl)
                          replace e100 : ac.tmps[100]? = some v100 := e100
                          replace e100 : ac.tmps[100]? = some (.slice A5 ys.length c5) := e100.trans (congrArg some t100)
                          obtain ⟨v99, e99, t99⟩ := hk.2 9 (by kernel_rfl)
                          replace e99 : ac.tmps[99]? = some v99 := e99
                          replace e99 : ac.tmps[99]? = some (.bool false) := e99.trans (congrArg some t99)
                          have hcv := (ST1.out w' hb).1
                          exact Reg.step_value ((Reg.wanted_is rfl rfl e99).trans rfl) (w1 := w') (by go_simp; try rfl) (Below.refl _ _) rfl
                        · intro ac w' hb hd hk   -- 12
                          replace hb := Reg.below_undrew hb
                          have e18 : ac.tmps[18]? = some (.slice A6 ys.length c6) := (hk.1 18 (by kernel_rfl)).trans rfl
                          obtain ⟨v99, e99, t99⟩ := hk.2 9 (by kernel_rfl)
                          replace e99 : ac.tmps[99]? = some v99 := e99
                          replace e99 : ac.tmps[99]? = some (.bool false) := e99.trans (congrArg some t99)
                          exact Reg.step_value ((Reg.wanted_is rfl rfl e99).trans rfl) (w1 := w') (by go_simp; try rfl) (Below.refl _ _) rfl
                        · intro ac w' hb hd hk   -- 13
                          replace hb := Reg.below_undrew hb
                          obtain ⟨v102, e102, t102⟩ := hk.2 12 (by kernel_rfl)
                          replace e102 : ac.tmps[102]? = some v102 := e102
                          replace e102 : ac.tmps[102]? = some (.slice A6 ys.length c6) := e102.trans (congrArg some t102)
                          obtain ⟨v99, e99, t99⟩ := hk.2 9 (by kernel_rfl)
                          replace e99 : ac.tmps[99]? = some v99 := e99
                          replace e99 : ac.tmps[99]? = some (.bool false) := e99.trans (congrArg some t99)
                          have hcv := (ST1.out w' hb).2
                          exact Reg.step_value ((Reg.wanted_is rfl rfl e99).trans rfl) (w1 := w') (by go_simp; try rfl) (Below.refl _ _) rfl
                        · intro ac w' hb hd hk   -- 14
                          replace hb := Reg.below_undrew hb
                          obtain ⟨v101, e101, t101⟩ := hk.2 11 (by kernel_rfl)
                          replace e101 : ac.tmps[101]? = some v101 := e101
                          replace e101 : ac.tmps[101]? = some (.string sy) := e101.trans (congrArg some t101)
                          obtain ⟨v103, e103, t103⟩ := hk.2 13 (by kernel_rfl)
                          replace e103 : ac.tmps[103]? = some v103 := e103
                          replace e103 : ac.tmps[103]? = some (.string sy) := e103.trans (congrArg some t103)
                          obtain ⟨v99, e99, t99⟩ := hk.2 9 (by kernel_rfl)
                          replace e99 : ac.tmps[99]? = some v99 := e99
                          replace e99 : ac.tmps[99]? = some (.bool false) := e99.trans (congrArg some t99)
                          exact Reg.step_value ((Reg.wanted_is rfl rfl e99).trans rfl) (w1 := w') (by go_simp; try rfl) (Below.refl _ _) rfl
                        · intro ac w' hb hd hk   -- 15
                          replace hb := Reg.below_undrew hb
                          obtain ⟨v99, e99, t99⟩ := hk.2 9 (by kernel_rfl)
                          replace e99 : ac.tmps[99]? = some v99 := e99
                          replace e99 : ac.tmps[99]? = some (.bool false) := e99.trans (congrArg some t99)
                          obtain ⟨v104, e104, t104⟩ := hk.2 14 (by kernel_rfl)
                          replace e104 : ac.tmps[104]? = some v104 := e104
                          replace e104 : ac.tmps[104]? = some (.bool false) := e104.trans (congrArg some t104)
                          exact Reg.step_value (Reg.wanted_free rfl) (w1 := w') (by go_simp; try rfl) (Below.refl _ _) rfl
                        · intro ac w' hb hd hk   -- 16
                          replace hb := Reg.below_undrew hb
                          obtain ⟨v105, e105, t105⟩ := hk.2 15 (by kernel_rfl)
                          replace e105 : ac.tmps[105]? = some v105 := e105
                          replace e105 : ac.tmps[105]? = some (.bool false) := e105.trans (congrArg some t105)
                          exact Reg.step_value (Reg.wanted_free rfl) (w1 := w') (by go_simp; try rfl) (Below.refl _ _) rfl
                        · intro ac w' hb hd hk   -- 17
                          replace hb := Reg.below_undrew hb
                          have e20 : ac.tmps[20]? = some (.int .i64 0) := (hk.1 20 (by kernel_rfl)).trans rfl
                          obtain ⟨v106, e106, t106⟩ := hk.2 16 (by kernel_rfl)
                          replace e106 : ac.tmps[106]? = some v106 := e106
                          replace e106 : ac.tmps[106]? = some (.bool false) := e106.trans (congrArg some t106)
                          exact Reg.step_value ((Reg.wanted_is rfl rfl e106).trans rfl) (w1 := w') (by go_simp; try rfl) (Below.refl _ _) rfl
                        · intro ac w' hb hd hk   -- 18
                          replace hb := Reg.below_undrew hb
                          obtain ⟨v107, e107, t107⟩ := hk.2 17 (by kernel_rfl)
                          replace e107 : ac.tmps[107]? = some v107 := e107
                          replace e107 : ac.tmps[107]? = some (.int .i64 0) := e107.trans (congrArg some t107)
                          obtain ⟨v106, e106, t106⟩ := hk.2 16 (by kernel_rfl)
                          replace e106 : ac.tmps[106]? = some v106 := e106
                          replace e106 : ac.tmps[106]? = some (.bool false) := e106.trans (congrArg some t106)
                          exact Reg.step_value ((Reg.wanted_is rfl rfl e106).trans rfl) (w1 := w') (by go_simp; try rfl) (Below.refl _ _) rfl
                        · intro ac w' hb hd hk   -- 19
                          replace hb := Reg.below_undrew hb
                          obtain ⟨v108, e108, t108⟩ := hk.2 18 (by kernel_rfl)
                          replace e108 : ac.tmps[108]? = some v108 := e108
                          replace e108 : ac.tmps[108]? = some (.bool false) := e108.trans (congrArg some t108)
                          obtain ⟨v106, e106, t106⟩ := hk.2 16 (by kernel_rfl)
                          replace e106 : ac.tmps[106]? = some v106 := e106
                          replace e106 : ac.tmps[106]? = some (.bool false) := e106.trans (congrArg some t106)
                          exact Reg.step_value ((Reg.wanted_is rfl rfl e106).trans rfl) (w1 := w') (by go_simp; try rfl) (Below.refl _ _) rfl
                        · intro ac w' hb hd hk   -- 20
                          replace hb := Reg.below_undrew hb
                          obtain ⟨v109, e109, t109⟩ := hk.2 19 (by kernel_rfl)
                          replace e109 : ac.tmps[109]? = some v109 := e109
                          replace e109 : ac.tmps[109]? = some (.bool false) := e109.trans (congrArg some t109)
                          exact Reg.step_off ((Reg.wanted_is rfl rfl e109).trans rfl) rfl
                        · intro ac w' hb hd hk   -- 21
                          replace hb := Reg.below_undrew hb
                          obtain ⟨v109, e109, t109⟩ := hk.2 19 (by kernel_rfl)
                          replace e109 : ac.tmps[109]? = some v109 := e109
                          replace e109 : ac.tmps[109]? = some (.bool false) := e109.trans (congrArg some t109)
                          exact Reg.step_off ((Reg.wanted_is rfl rfl e109).trans rfl) rfl
                        · intro ac w' hb hd hk   -- 22
                          replace hb := Reg.below_undrew hb
                          obtain ⟨v109, e109, t109⟩ := hk.2 19 (by kernel_rfl)
                          replace e109 : ac.tmps[109]? = some v109 := e109
                          replace e109 : ac.tmps[109]? = some (.bool false) := e109.trans (congrArg some t109)
                          exact Reg.step_off ((Reg.wanted_is rfl rfl e109).trans rfl) rfl
                        · intro ac w' hb hd hk   -- 23
                          replace hb := Reg.below_undrew hb
                          obtain ⟨v109, e109, t109⟩ := hk.2 19 (by kernel_rfl)
                          replace e109 : ac.tmps[109]? = some v109 := e109
                          replace e109 : ac.tmps[109]? = some (.bool false) := e109.trans (congrArg some t109)
                          exact Reg.step_off ((Reg.wanted_is rfl rfl e109).trans rfl) rfl
                        · intro ac w' hb hd hk   -- 24
                          replace hb := Reg.below_undrew hb
                          obtain ⟨v109, e109, t109⟩ := hk.2 19 (by kernel_rfl)
                          replace e109 : ac.tmps[109]? = some v109 := e109
                          replace e109 : ac.tmps[109]? = some (.bool false) := e109.trans (congrArg some t109)
                          exact Reg.step_off ((Reg.wanted_is rfl rfl e109).trans rfl) rfl
                        · intro ac w' hb hd hk   -- 25
                          replace hb := Reg.below_undrew hb
                          obtain ⟨v109, e109, t109⟩ := hk.2 19 (by kernel_rfl)
                          replace e109 : ac.tmps[109]? = some v109 := e109
                          replace e109 : ac.tmps[109]? = some (.bool false) := e109.trans (congrArg some t109)
                          obtain ⟨v114, e114, t114⟩ := hk.2 24 (by kernel_rfl)
                          replace e114 : ac.tmps[114]? = some v114 := e114
                          replace e114 : ac.tmps[114]? = some undef := e114.trans (congrArg some t114)
                          obtain ⟨v106, e106, t106⟩ := hk.2 16 (by kernel_rfl)
                          replace e106 : ac.tmps[106]? = some v106 := e106
                          replace e106 : ac.tmps[106]? = some (.bool false) := e106.trans (congrArg some t106)
                          exact Reg.step_value ((Reg.wanted_is rfl rfl e106).trans rfl) (w1 := w') (by go_simp; try rfl) (Below.refl _ _) rfl
                        · intro ac w' hb hd hk   -- 26
                          replace hb := Reg.below_undrew hb
                          obtain ⟨v106, e106, t106⟩ := hk.2 16 (by kernel_rfl)
                          replace e106 : ac.tmps[106]? = some v106 := e106
                          replace e106 : ac.tmps[106]? = some (.bool false) := e106.trans (congrArg some t106)
                          obtain ⟨v115, e115, t115⟩ := hk.2 25 (by kernel_rfl)
                          replace e115 : ac.tmps[115]? = some v115 := e115
                          replace e115 : ac.tmps[115]? = some (.bool false) := e115.trans (congrArg some t115)
                          exact Reg.step_value (Reg.wanted_free rfl) (w1 := w') (by go_simp; try rfl) (Below.refl _ _) rfl
                      case fin =>
                        intro w' hb
                        replace hb := Reg.below_undrew hb
                        rintro _ rfl
                        rintro _ rfl
                        rintro _ rfl
                        rintro _ rfl
                        rintro _ rfl
                        rintro _ rfl
                        rintro _ rfl
                        rintro _ rfl
                        rintro _ rfl
                        rintro _ rfl
                        rintro _ rfl
                        rintro _ rfl
                        rintro _ rfl
                        rintro _ rfl
                        rintro _ rfl
                        rintro _ rfl
                        rintro _ rfl
                        rintro _ rfl
                        rintro _ rfl
                        rintro _ rfl
                        rintro _ rfl
                        rintro _ rfl
                        rintro _ rfl
                        rintro _ rfl
                        rintro _ rfl
                        rintro _ rfl
                        rintro _ rfl
                        refine Reg.done_nil ?_
                        simp only [Act.put, List.setIfInBounds_toArray, List.set_cons_zero, List.set_cons_succ]
                        go_wp2
                        have BW7 : Aside0 (Below wr.heap.size wr w') := ⟨BW6.out.trans (hb.mono BW6.out.size)⟩
                        have RB7 : Aside0 (0 < ys.length → ∃ g cur, A5 = some ⟨g, 0, none⟩ ∧ wr.heap.size ≤ g ∧ w'.heap[g]? = some (.cells cur 5 (0, 0)) ∧ ys.length ≤ cur.size) := ⟨fun hp => by
                          obtain ⟨g, e, h1, _, _, cur, h2, h3⟩ := R_block (Kd.R_below R6.out hb) hp
                          exact ⟨g, cur, e, h1, h2, h3⟩⟩
                        clear hb
                        go_loopg [21] ys.length (fun kq v21 wq => ∃ j : Nat, v21 = .int .i64 (j : Int) ∧ j ≤ ys.length ∧ ys.length - j ≤ kq ∧ Aside0 (Below wr.heap.size wr wq ∧ (0 < ys.length → ∃ g cur, A5 = some ⟨g, 0, none⟩ ∧ wr.heap.size ≤ g ∧ wq.heap[g]? = some (.cells cur 5 (0, 0)) ∧ ys.length ≤ cur.size)))
                        case atStart => exact ⟨0, rfl, by omega, by omega, ⟨BW7.out, RB7.out⟩⟩
                        case round =>
                          obtain ⟨j, rfl, hj, hkj, L⟩ := hrel
                          have HYL : ys.length ≤ 9223372036854775807 := C6.out.2.1
                          clear BW7 RB7 R6 C6 E6 X6 LW CD AT ST1 y0 y1 y2
                          by_cases hjl : j < ys.length
                          · obtain ⟨g, cur, eA, hg1, hcur, hsz⟩ := L.out.2 (by omega)
                            subst eA
                            have q3 : decide ((j : Int) < (ys.length : Int)) = true := decide_eq_true (by omega)
                            have m1 := Err.blk_cell hcur j _ (Array.getElem?_eq_getElem (show j < cur.size by omega))
                            have m3 := blk_frozen hcur j
                            have p0 : (0 : Int) ≤ (j : Int) := by omega
                            have p1 : (j : Int) < (ys.length : Int) := by omega
                            have HC := Aside0.mk hcur
                            clear hcur
                            go_wp2
                            go_roundg (gk - 1)
                            case measure => omega
                            case rel => exact ⟨j + 1, by go_num, by omega, by omega, ⟨L.out.1.setCell (p := ⟨g, j, none⟩) hg1 _, fun _ => ⟨g, _, rfl, hg1, Go.heap_setCell_same _ g j _ _ _ HC.out, by simpa using hsz⟩⟩⟩
                          · have q3 : decide ((j : Int) < (ys.length : Int)) = false := decide_eq_false (by omega)
                            have PX : Aside0 (Pl w wr c1 c2 B0 B1 B2 (i + 1) s C) := ⟨(K.out.1.below L.out.1).more (Nat.le_succ i)⟩
                            go_wp2_with fail
                            go_meet
                            case rel => exact ⟨s, C, ⟨PX.out, K.out.2⟩⟩
                    · as_aux_lemma =>
                      have hpl1 : pl = x.f1 := HPL.out rfl
                      rw [hpl1] at AT
                      clear hpl1
                      go_wp2_with fail
                      refine Reg.region_inv (Reg.tab [(Reg.Is ev), (Reg.Is (.int .i64 1)), (Reg.Is (.int .i64 1)), (Reg.Is (.bool false)), (Reg.Is (.bool false)), (Reg.Is (.bool bb)), (Reg.Is (.bool bb)), (Reg.Is (.bool false)), (Reg.Is (.bool false)), (Reg.Is (.bool false)), (Reg.Is (.slice A5 ys.length c5)), (Reg.Is (.string sy)), (Reg.Is (.slice A6 ys.length c6)), (Reg.Is (.string sy)), (Reg.Is (.bool false)), (Reg.Is (.bool false)), (Reg.Is (.bool false)), (Reg.Is (.int .i64 1)), (Reg.Is (.bool true)), (Reg.Is (.bool true)), (Reg.Is ev), (Reg.Is (.int .i64 x.f1)), (Reg.Is (.pointer (some ⟨wr.heap.size, 1, none⟩))), (Reg.Is (.int .i64 x.f1)), (Reg.Is (.bool false)), (Reg.Is (.bool false)), (Reg.Is (.bool false))]) (by kernel_rfl) (by kernel_rfl) (Reg.tab_mono ?mono) ?steps ?fin
                      case mono => exact ⟨Reg.Is.mono _, Reg.Is.mono _, Reg.Is.mono _, Reg.Is.mono _, Reg.Is.mono _, Reg.Is.mono _, Reg.Is.mono _, Reg.Is.mono _, Reg.Is.mono _, Reg.Is.mono _, Reg.Is.mono _, Reg.Is.mono _, Reg.Is.mono _, Reg.Is.mono _, Reg.Is.mono _, Reg.Is.mono _, Reg.Is.mono _, Reg.Is.mono _, Reg.Is.mono _, Reg.Is.mono _, Reg.Is.mono _, Reg.Is.mono _, Reg.Is.mono _, Reg.Is.mono _, Reg.Is.mono _, Reg.Is.mono _, Reg.Is.mono _, trivial⟩
                      case steps =>
                        refine ⟨?_, ?_, ?_, ?_, ?_, ?_, ?_, ?_, ?_, ?_, ?_, ?_, ?_, ?_, ?_, ?_, ?_, ?_, ?_, ?_, ?_, ?_, ?_, ?_, ?_, ?_, ?_, trivial⟩
                        · intro ac w' hb hd hk   -- 0
                          replace hb := Reg.below_undrew hb
                          have e17 : ac.tmps[17]? = some ev := (hk.1 17 (by kernel_rfl)).trans rfl
                          exact Reg.step_value (Reg.wanted_free rfl) (w1 := w') (by go_simp; try rfl) (Below.refl _ _) rfl
                        · intro ac w' hb hd hk   -- 1
                          replace hb := Reg.below_undrew hb
                          obtain ⟨v90, e90, t90⟩ := hk.2 0 (by kernel_rfl)
                          replace e90 : ac.tmps[90]? = some v90 := e90
                          replace e90 : ac.tmps[90]? = some ev := e90.trans (congrArg some t90)
                          refine Reg.step_call (Reg.wanted_free rfl) (by go_simp; try rfl) ((CD.out _ (DE.kept E6.out HDE.out (S := fun _ => False) (Fr.of_below hb) (fun _ _ _ h => h)) (LW.out.below hb (Nat.le_refl _))).mono ?_)
                          rintro en w4 ⟨rfl, hb4⟩
                          exact ⟨_, rfl, rfl, hb4⟩
                        · intro ac w' hb hd hk   -- 2
                          replace hb := Reg.below_undrew hb
                          have e20 : ac.tmps[20]? = some (.int .i64 1) := (hk.1 20 (by kernel_rfl)).trans rfl
                          exact Reg.step_value (Reg.wanted_free rfl) (w1 := w') (by go_simp; try rfl) (Below.refl _ _) rfl
                        · intro ac w' hb hd hk   -- 3
                          replace hb := Reg.below_undrew hb
                          obtain ⟨v91, e91, t91⟩ := hk.2 1 (by kernel_rfl)
                          replace e91 : ac.tmps[91]? = some v91 := e91
                          replace e91 : ac.tmps[91]? = some (.int .i64 1) := e91.trans (congrArg some t91)
                          obtain ⟨v92, e92, t92⟩ := hk.2 2 (by kernel_rfl)
                          replace e92 : ac.tmps[92]? = some v92 := e92
                          replace e92 : ac.tmps[92]? = some (.int .i64 1) := e92.trans (congrArg some t92)
                          exact Reg.step_value (Reg.wanted_free rfl) (w1 := w') (by go_simp; try rfl) (Below.refl _ _) rfl
                        · intro ac w' hb hd hk   -- 4
                          replace hb := Reg.below_undrew hb
                          obtain ⟨v93, e93, t93⟩ := hk.2 3 (by kernel_rfl)
                          replace e93 : ac.tmps[93]? = some v93 := e93
                          replace e93 : ac.tmps[93]? = some (.bool false) := e93.trans (congrArg some t93)
                          exact Reg.step_value (Reg.wanted_free rfl) (w1 := w') (by go_simp; try rfl) (Below.refl _ _) rfl
                        · intro ac w' hb hd hk   -- 5
                          replace hb := Reg.below_undrew hb
                          have e16 : ac.tmps[16]? = some (.bool bb) := (hk.1 16 (by kernel_rfl)).trans rfl
                          obtain ⟨v94, e94, t94⟩ := hk.2 4 (by kernel_rfl)
                          replace e94 : ac.tmps[94]? = some v94 := e94
                          replace e94 : ac.tmps[94]? = some (.bool false) := e94.trans (congrArg some t94)
                          exact Reg.step_value ((Reg.wanted_is rfl rfl e94).trans rfl) (w1 := w') (by go_simp; try rfl) (Below.refl _ _) rfl
                        · intro ac w' hb hd hk   -- 6
                          replace hb := Reg.below_undrew hb
                          have e19 : ac.tmps[19]? = some (.bool bb) := (hk.1 19 (by kernel_rfl)).trans rfl
                          obtain ⟨v94, e94, t94⟩ := hk.2 4 (by kernel_rfl)
                          replace e94 : ac.tmps[94]? = some v94 := e94
                          replace e94 : ac.tmps[94]? = some (.bool false) := e94.trans (congrArg some t94)
                          exact Reg.step_value ((Reg.wanted_is rfl rfl e94).trans rfl) (w1 := w') (by go_simp; try rfl) (Below.refl _ _) rfl
                        · intro ac w' hb hd hk   -- 7
                          replace hb := Reg.below_undrew hb
                          obtain ⟨v95, e95, t95⟩ := hk.2 5 (by kernel_rfl)
                          replace e95 : ac.tmps[95]? = some v95 := e95
                          replace e95 : ac.tmps[95]? = some (.bool bb) := e95.trans (congrArg some t95)
                          obtain ⟨v96, e96, t96⟩ := hk.2 6 (by kernel_rfl)
                          replace e96 : ac.tmps[96]? = some v96 := e96
                          replace e96 : ac.tmps[96]? = some (.bool bb) := e96.trans (congrArg some t96)
                          obtain ⟨v94, e94, t94⟩ := hk.2 4 (by kernel_rfl)
                          replace e94 : ac.tmps[94]? = some v94 := e94
                          replace e94 : ac.tmps[94]? = some (.bool false) := e94.trans (congrArg some t94)
                          exact Reg.step_value ((Reg.wanted_is rfl rfl e94).trans rfl) (w1 := w') (by go_simp; try rfl) (Below.refl _ _) rfl
                        · intro ac w' hb hd hk   -- 8
                          replace hb := Reg.below_undrew hb
                          obtain ⟨v94, e94, t94⟩ := hk.2 4 (by kernel_rfl)
                          replace e94 : ac.tmps[94]? = some v94 := e94
                          replace e94 : ac.tmps[94]? = some (.bool false) := e94.trans (congrArg some t94)
                          obtain ⟨v97, e97, t97⟩ := hk.2 7 (by kernel_rfl)
                          replace e97 : ac.tmps[97]? = some v97 := e97
                          replace e97 : ac.tmps[97]? = some (.bool false) := e97.trans (congrArg some t97)
                          exact Reg.step_value (Reg.wanted_free rfl) (w1 := w') (by go_simp; try rfl) (Below.refl _ _) rfl
                        · intro ac w' hb hd hk   -- 9
                          replace hb := Reg.below_undrew hb
                          obtain ⟨v98, e98, t98⟩ := hk.2 8 (by kernel_rfl)
                          replace e98 : ac.tmps[98]? = some v98 := e98
                          replace e98 : ac.tmps[98]? = some (.bool false) := e98.trans (congrArg some t98)
                          exact Reg.step_value (Reg.wanted_free rfl) (w1 := w') (by go_simp; try rfl) (Below.refl _ _) rfl
                        · intro ac w' hb hd hk   -- 10
                          replace hb := Reg.below_undrew hb
                          have e15 : ac.tmps[15]? = some (.slice A5 ys.length c5) := (hk.1 15 (by kernel_rfl)).trans rfl
                          obtain ⟨v99, e99, t99⟩ := hk.2 9 (by kernel_rfl)
                          replace e99 : ac.tmps[99]? = some v99 := e99
                          replace e99 : ac.tmps[99]? = some (.bool false) := e99.trans (congrArg some t99)
                          exact Reg.step_value ((Reg.wanted_is rfl rfl e99).trans rfl) (w1 := w') (by go_simp; try rfl) (Below.refl _ _) rfl
                        · intro ac w' hb hd hk   -- 11
                          replace hb := Reg.below_undrew hb
                          obtain ⟨v100, e100, t100⟩ := hk.2 10 (by kernel_rfl)
                          replace e100 : ac.tmps[100]? = some v100 := e100
                          replace e100 : ac.tmps[100]? = some (.slice A5 ys.length c5) := e100.trans (congrArg some t100)
                          obtain ⟨v99, e99, t99⟩ := hk.2 9 (by kernel_rfl)
                          replace e99 : ac.tmps[99]? = some v99 := e99
                          replace e99 : ac.tmps[99]? = some (.bool false) := e99.trans (congrArg some t99)
                          have hcv := (ST1.out w' hb).1
                          exact Reg.step_value ((Reg.wanted_is rfl rfl e99).trans rfl) (w1 := w') (by go_simp; try rfl) (Below.refl _ _) rfl
                        · intro ac w' hb hd hk   -- 12
                          replace hb := Reg.below_undrew hb
                          have e18 : ac.tmps[18]? = some (.slice A6 ys.length c6) := (hk.1 18 (by kernel_rfl)).trans rfl
                          obtain ⟨v99, e99, t99⟩ := hk.2 9 (by kernel_rfl)
                          replace e99 : ac.tmps[99]? = some v99 := e99
                          replace e99 : ac.tmps[99]? = some (.bool false) := e99.trans (congrArg some t99)
                          exact Reg.step_value ((Reg.wanted_is rfl rfl e99).trans rfl) (w1 := w') (by go_simp; try rfl) (Below.refl _ _) rfl
                        · intro ac w' hb hd hk   -- 13
                          replace hb := Reg.below_undrew hb
                          obtain ⟨v102, e102, t102⟩ := hk.2 12 (by kernel_rfl)
                          replace e102 : ac.tmps[102]? = some v102 := e102
                          replace e102 : ac.tmps[102]? = some (.slice A6 ys.length c6) := e102.trans (congrArg some t102)
                          obtain ⟨v99, e99, t99⟩ := hk.2 9 (by kernel_rfl)
                          replace e99 : ac.tmps[99]? = some v99 := e99
                          replace e99 : ac.tmps[99]? = some (.bool false) := e99.trans (congrArg some t99)
                          have hcv := (ST1.out w' hb).2
                          exact Reg.step_value ((Reg.wanted_is rfl rfl e99).trans rfl) (w1 := w') (by go_simp; try rfl) (Below.refl _ _) rfl
                        · intro ac w' hb hd hk   -- 14
                          replace hb := Reg.below_undrew hb
                          obtain ⟨v101, e101, t101⟩ := hk.2 11 (by kernel_rfl)
                          replace e101 : ac.tmps[101]? = some v101 := e101
                          replace e101 : ac.tmps[101]? = some (.string sy) := e101.trans (congrArg some t101)
                          obtain ⟨v103, e103, t103⟩ := hk.2 13 (by kernel_rfl)
                          replace e103 : ac.tmps[103]? = some v103 := e103
                          replace e103 : ac.tmps[103]? = some (.string sy) := e103.trans (congrArg some t103)
                          obtain ⟨v99, e99, t99⟩ := hk.2 9 (by kernel_rfl)
                          replace e99 : ac.tmps[99]? = some v99 := e99
                          replace e99 : ac.tmps[99]? = some (.bool false) := e99.trans (congrArg some t99)
                          exact Reg.step_value ((Reg.wanted_is rfl rfl e99).trans rfl) (w1 := w') (by go_simp; try rfl) (Below.refl _ _) rfl
                        · intro ac w' hb hd hk   -- 15
                          replace hb := Reg.below_undrew hb
                          obtain ⟨v99, e99, t99⟩ := hk.2 9 (by kernel_rfl)
                          replace e99 : ac.tmps[99]? = some v99 := e99
                          replace e99 : ac.tmps[99]? = some (.bool false) := e99.trans (congrArg some t99)
                          obtain ⟨v104, e104, t104⟩ := hk.2 14 (by kernel_rfl)
                          replace e104 : ac.tmps[104]? = some v104 := e104
                          replace e104 : ac.tmps[104]? = some (.bool false) := e104.trans (congrArg some t104)
                          exact Reg.step_value (Reg.wanted_free rfl) (w1 := w') (by go_simp; try rfl) (Below.refl _ _) rfl
                        · intro ac w' hb hd hk   -- 16
                          replace hb := Reg.below_undrew hb
                          obtain ⟨v105, e105, t105⟩ := hk.2 15 (by kernel_rfl)
                          replace e105 : ac.tmps[105]? = some v105 := e105
                          replace e105 : ac.tmps[105]? = some (.bool false) := e105.trans (congrArg some t105)
                          exact Reg.step_value (Reg.wanted_free rfl) (w1 := w') (by go_simp; try rfl) (Below.refl _ _) rfl
                        · intro ac w' hb hd hk   -- 17
                          replace hb := Reg.below_undrew hb
                          have e20 : ac.tmps[20]? = some (.int .i64 1) := (hk.1 20 (by kernel_rfl)).trans rfl
                          obtain ⟨v106, e106, t106⟩ := hk.2 16 (by kernel_rfl)
                          replace e106 : ac.tmps[106]? = some v106 := e106
                          replace e106 : ac.tmps[106]? = some (.bool false) := e106.trans (congrArg some t106)
                          exact Reg.step_value ((Reg.wanted_is rfl rfl e106).trans rfl) (w1 := w') (by go_simp; try rfl) (Below.refl _ _) rfl
                        · intro ac w' hb hd hk   -- 18
                          replace hb := Reg.below_undrew hb
                          obtain ⟨v107, e107, t107⟩ := hk.2 17 (by kernel_rfl)
                          replace e107 : ac.tmps[107]? = some v107 := e107
                          replace e107 : ac.tmps[107]? = some (.int .i64 1) := e107.trans (congrArg some t107)
                          obtain ⟨v106, e106, t106⟩ := hk.2 16 (by kernel_rfl)
                          replace e106 : ac.tmps[106]? = some v106 := e106
                          replace e106 : ac.tmps[106]? = some (.bool false) := e106.trans (congrArg some t106)
                          exact Reg.step_value ((Reg.wanted_is rfl rfl e106).trans rfl) (w1 := w') (by go_simp; try rfl) (Below.refl _ _) rfl
                        · intro ac w' hb hd hk   -- 19
                          replace hb := Reg.below_undrew hb
                          obtain ⟨v108, e108, t108⟩ := hk.2 18 (by kernel_rfl)
                          replace e108 : ac.tmps[108]? = some v108 := e108
                          replace e108 : ac.tmps[108]? = some (.bool true) := e108.trans (congrArg some t108)
                          obtain ⟨v106, e106, t106⟩ := hk.2 16 (by kernel_rfl)
                          replace e106 : ac.tmps[106]? = some v106 := e106
                          replace e106 : ac.tmps[106]? = some (.bool false) := e106.trans (congrArg some t106)
                          exact Reg.step_value ((Reg.wanted_is rfl rfl e106).trans rfl) (w1 := w') (by go_simp; try rfl) (Below.refl _ _) rfl
                        · intro ac w' hb hd hk   -- 20
                          replace hb := Reg.below_undrew hb
                          have e17 : ac.tmps[17]? = some ev := (hk.1 17 (by kernel_rfl)).trans rfl
                          obtain ⟨v109, e109, t109⟩ := hk.2 19 (by kernel_rfl)
                          replace e109 : ac.tmps[109]? = some v109 := e109
                          replace e109 : ac.tmps[109]? = some (.bool true) := e109.trans (congrArg some t109)
                          exact Reg.step_value ((Reg.wanted_is rfl rfl e109).trans rfl) (w1 := w') (by go_simp; try rfl) (Below.refl _ _) rfl
                        · intro ac w' hb hd hk   -- 21
                          replace hb := Reg.below_undrew hb
                          obtain ⟨v110, e110, t110⟩ := hk.2 20 (by kernel_rfl)
                          replace e110 : ac.tmps[110]? = some v110 := e110
                          replace e110 : ac.tmps[110]? = some ev := e110.trans (congrArg some t110)
                          obtain ⟨v109, e109, t109⟩ := hk.2 19 (by kernel_rfl)
                          replace e109 : ac.tmps[109]? = some v109 := e109
                          replace e109 : ac.tmps[109]? = some (.bool true) := e109.trans (congrArg some t109)
                          refine Reg.step_call ((Reg.wanted_is rfl rfl e109).trans rfl) (by go_simp; try rfl) ((AT.out _ (DE.kept E6.out HDE.out (S := fun _ => False) (Fr.of_below hb) (fun _ _ _ h => h))).mono ?_)
                          rintro en w4 ⟨rfl, rfl⟩
                          exact ⟨_, rfl, rfl, Below.refl _ _⟩
                        · intro ac w' hb hd hk   -- 22
                          replace hb := Reg.below_undrew hb
                          have e9 : ac.tmps[9]? = some (.pointer (some ⟨wr.heap.size, 0, none⟩)) := (hk.1 9 (by kernel_rfl)).trans rfl
                          obtain ⟨v109, e109, t109⟩ := hk.2 19 (by kernel_rfl)
                          replace e109 : ac.tmps[109]? = some v109 := e109
                          replace e109 : ac.tmps[109]? = some (.bool true) := e109.trans (congrArg some t109)
                          exact Reg.step_value ((Reg.wanted_is rfl rfl e109).trans rfl) (w1 := w') (by go_simp; try rfl) (Below.refl _ _) rfl
                        · intro ac w' hb hd hk   -- 23
                          replace hb := Reg.below_undrew hb
                          obtain ⟨v112, e112, t112⟩ := hk.2 22 (by kernel_rfl)
                          replace e112 : ac.tmps[112]? = some v112 := e112
                          replace e112 : ac.tmps[112]? = some (.pointer (some ⟨wr.heap.size, 1, none⟩)) := e112.trans (congrArg some t112)
                          obtain ⟨v109, e109, t109⟩ := hk.2 19 (by kernel_rfl)
                          replace e109 : ac.tmps[109]? = some v109 := e109
                          replace e109 : ac.tmps[109]? = some (.bool true) := e109.trans (congrArg some t109)
                          obtain ⟨k0, k1, k2⟩ := facts3 ((hb.block wr.heap.size (Array.getElem?_eq_some_iff.1 X6.out).1).trans X6.out)
                          exact Reg.step_value ((Reg.wanted_is rfl rfl e109).trans rfl) (w1 := w') (by go_simp; try rfl) (Below.refl _ _) rfl
                        · intro ac w' hb hd hk   -- 24
                          replace hb := Reg.below_undrew hb
                          obtain ⟨v111, e111, t111⟩ := hk.2 21 (by kernel_rfl)
                          replace e111 : ac.tmps[111]? = some v111 := e111
                          replace e111 : ac.tmps[111]? = some (.int .i64 x.f1) := e111.trans (congrArg some t111)
                          obtain ⟨v113, e113, t113⟩ := hk.2 23 (by kernel_rfl)
                          replace e113 : ac.tmps[113]? = some v113 := e113
                          replace e113 : ac.tmps[113]? = some (.int .i64 x.f1) := e113.trans (congrArg some t113)
                          obtain ⟨v109, e109, t109⟩ := hk.2 19 (by kernel_rfl)
                          replace e109 : ac.tmps[109]? = some v109 := e109
                          replace e109 : ac.tmps[109]? = some (.bool true) := e109.trans (congrArg some t109)
                          exact Reg.step_value ((Reg.wanted_is rfl rfl e109).trans rfl) (w1 := w') (by go_simp; try rfl) (Below.refl _ _) rfl
                        · intro ac w' hb hd hk   -- 25
                          replace hb := Reg.below_undrew hb
                          obtain ⟨v109, e109, t109⟩ := hk.2 19 (by kernel_rfl)
                          replace e109 : ac.tmps[109]? = some v109 := e109
                          replace e109 : ac.tmps[109]? = some (.bool true) := e109.trans (congrArg some t109)
                          obtain ⟨v114, e114, t114⟩ := hk.2 24 (by kernel_rfl)
                          replace e114 : ac.tmps[114]? = some v114 := e114
                          replace e114 : ac.tmps[114]? = some (.bool false) := e114.trans (congrArg some t114)
                          obtain ⟨v106, e106, t106⟩ := hk.2 16 (by kernel_rfl)
                          replace e106 : ac.tmps[106]? = some v106 := e106
                          replace e106 : ac.tmps[106]? = some (.bool false) := e106.trans (congrArg some t106)
                          exact Reg.step_value ((Reg.wanted_is rfl rfl e106).trans rfl) (w1 := w') (by go_simp; try rfl) (Below.refl _ _) rfl
                        · intro ac w' hb hd hk   -- 26
                          replace hb := Reg.below_undrew hb
                          obtain ⟨v106, e106, t106⟩ := hk.2 16 (by kernel_rfl)
                          replace e106 : ac.tmps[106]? = some v106 := e106
                          replace e106 : ac.tmps[106]? = some (.bool false) := e106.trans (congrArg some t106)
                          obtain ⟨v115, e115, t115⟩ := hk.2 25 (by kernel_rfl)
                          replace e115 : ac.tmps[115]? = some v115 := e115
                          replace e115 : ac.tmps[115]? = some (.bool false) := e115.trans (congrArg some t115)
                          exact Reg.step_value (Reg.wanted_free rfl) (w1 := w') (by go_simp; try rfl) (Below.refl _ _) rfl
                      case fin =>
                        intro w' hb
                        replace hb := Reg.below_undrew hb
                        rintro _ rfl
                        rintro _ rfl
                        rintro _ rfl
                        rintro _ rfl
                        rintro _ rfl
                        rintro _ rfl
                        rintro _ rfl
                        rintro _ rfl
                        rintro _ rfl
                        rintro _ rfl
                        rintro _ rfl
                        rintro _ rfl
                        rintro _ rfl
                        rintro _ rfl
                        rintro _ rfl
                        rintro _ rfl
                        rintro _ rfl
                        rintro _ rfl
                        rintro _ rfl
                        rintro _ rfl
                        rintro _ rfl
                        rintro _ rfl
                        rintro _ rfl
                        rintro _ rfl
                        rintro _ rfl
                        rintro _ rfl
                        rintro _ rfl
                        refine Reg.done_nil ?_
                        simp only [Act.put, List.setIfInBounds_toArray, List.set_cons_zero, List.set_cons_succ]
                        go_wp2
                        have BW7 : Aside0 (Below wr.heap.size wr w') := ⟨BW6.out.trans (hb.mono BW6.out.size)⟩
                        have RB7 : Aside0 (0 < ys.length → ∃ g cur, A5 = some ⟨g, 0, none⟩ ∧ wr.heap.size ≤ g ∧ w'.heap[g]? = some (.cells cur 5 (0, 0)) ∧ ys.length ≤ cur.size) := ⟨fun hp => by
                          obtain ⟨g, e, h1, _, _, cur, h2, h3⟩ := R_block (Kd.R_below R6.out hb) hp
                          exact ⟨g, cur, e, h1, h2, h3⟩⟩
                        clear hb
                        go_loopg [21] ys.length (fun kq v21 wq => ∃ j : Nat, v21 = .int .i64 (j : Int) ∧ j ≤ ys.length ∧ ys.length - j ≤ kq ∧ Aside0 (Below wr.heap.size wr wq ∧ (0 < ys.length → ∃ g cur, A5 = some ⟨g, 0, none⟩ ∧ wr.heap.size ≤ g ∧ wq.heap[g]? = some (.cells cur 5 (0, 0)) ∧ ys.length ≤ cur.size)))
                        case atStart => exact ⟨0, rfl, by omega, by omega, ⟨BW7.out, RB7.out⟩⟩
                        case round =>
                          obtain ⟨j, rfl, hj, hkj, L⟩ := hrel
                          have HYL : ys.length ≤ 9223372036854775807 := C6.out.2.1
                          clear BW7 RB7 R6 C6 E6 X6 LW CD AT ST1 y0 y1 y2
                          by_cases hjl : j < ys.length
                          · obtain ⟨g, cur, eA, hg1, hcur, hsz⟩ := L.out.2 (by omega)
                            subst eA
                            have q3 : decide ((j : Int) < (ys.length : Int)) = true := decide_eq_true (by omega)
                            have m1 := Err.blk_cell hcur j _ (Array.getElem?_eq_getElem (show j < cur.size by omega))
                            have m3 := blk_frozen hcur j
                            have p0 : (0 : Int) ≤ (j : Int) := by omega
                            have p1 : (j : Int) < (ys.length : Int) := by omega
                            have HC := Aside0.mk hcur
                            clear hcur
                            go_wp2
                            go_roundg (gk - 1)
                            case measure => omega
                            case rel => exact ⟨j + 1, by go_num, by omega, by omega, ⟨L.out.1.setCell (p := ⟨g, j, none⟩) hg1 _, fun _ => ⟨g, _, rfl, hg1, Go.heap_setCell_same _ g j _ _ _ HC.out, by simpa using hsz⟩⟩⟩
                          · have q3 : decide ((j : Int) < (ys.length : Int)) = false := decide_eq_false (by omega)
                            have PX : Aside0 (Pl w wr c1 c2 B0 B1 B2 (i + 1) s C) := ⟨(K.out.1.below L.out.1).more (Nat.le_succ i)⟩
                            go_wp2_with fail
                            go_meet
                            case rel => exact ⟨s, C, ⟨PX.out, K.out.2⟩⟩
                    · as_aux_lemma =>
                      go_wp2_with fail
                      refine Reg.region_inv (Reg.tab [(Reg.Is ev), (Reg.Is (.int .i64 70)), (Reg.Is (.int .i64 70)), (Reg.Is (.bool false)), (Reg.Is (.bool false)), (Reg.Is (.bool bb)), (Reg.Is (.bool bb)), (Reg.Is (.bool false)), (Reg.Is (.bool false)), (Reg.Is (.bool false)), (Reg.Is (.slice A5 ys.length c5)), (Reg.Is (.string sy)), (Reg.Is (.slice A6 ys.length c6)), (Reg.Is (.string sy)), (Reg.Is (.bool false)), (Reg.Is (.bool false)), (Reg.Is (.bool false)), (Reg.Is (.int .i64 70)), (Reg.Is (.bool false)), (Reg.Is (.bool false)), (Reg.Is undef), (Reg.Is undef), (Reg.Is undef), (Reg.Is undef), (Reg.Is undef), (Reg.Is (.bool false)), (Reg.Is (.bool false))]) (by kernel_rfl) (by kernel_rfl) (Reg.tab_mono ?mono) ?steps ?fin
                      case mono => exact ⟨Reg.Is.mono _, Reg.Is.mono _, Reg.Is.mono _, Reg.Is.mono _, Reg.Is.mono _, Reg.Is.mono _, Reg.Is.mono _, Reg.Is.mono _, Reg.Is.mono _, Reg.Is.mono _, Reg.Is.mono _, Reg.Is.mono _, Reg.Is.mono _, Reg.Is.mono _, Reg.Is.mono _, Reg.Is.mono _, Reg.Is.mono _, Reg.Is.mono _, Reg.Is.mono _, Reg.Is.mono _, Reg.Is.mono _, Reg.Is.mono _, Reg.Is.mono _, Reg.Is.mono _, Reg.Is.mono _, Reg.Is.mono _, Reg.Is.mono _, trivial⟩
                      case steps =>
                        refine ⟨?_, ?_, ?_, ?_, ?_, ?_, ?_, ?_, ?_, ?_, ?_, ?_, ?_, ?_, ?_, ?_, ?_, ?_, ?_, ?_, ?_, ?_, ?_, ?_, ?_, ?_, ?_, trivial⟩
                        · intro ac w' hb hd hk   -- 0
                          replace hb := Reg.below_undrew hb
                          have e17 : ac.tmps[17]? = some ev := (hk.1 17 (by kernel_rfl)).trans rfl
                          exact Reg.step_value (Reg.wanted_free rfl) (w1 := w') (by go_simp; try rfl) (Below.refl _ _) rfl
                        · intro ac w' hb hd hk   -- 1
                          replace hb := Reg.below_undrew hb
                          obtain ⟨v90, e90, t90⟩ := hk.2 0 (by kernel_rfl)
                          replace e90 : ac.tmps[90]? = some v90 := e90
                          replace e90 : ac.tmps[90]? = some ev := e90.trans (congrArg some t90)
                          refine Reg.step_call (Reg.wanted_free rfl) (by go_simp; try rfl) ((CD.out _ (DE.kept E6.out HDE.out (S := fun _ => False) (Fr.of_below hb) (fun _ _ _ h => h)) (LW.out.below hb (Nat.le_refl _))).mono ?_)
                          rintro en w4 ⟨rfl, hb4⟩
                          exact ⟨_, rfl, rfl, hb4⟩
                        · intro ac w' hb hd hk   -- 2
                          replace hb := Reg.below_undrew hb
                          have e20 : ac.tmps[20]? = some (.int .i64 70) := (hk.1 20 (by kernel_rfl)).trans rfl
                          exact Reg.step_value (Reg.wanted_free rfl) (w1 := w') (by go_simp; try rfl) (Below.refl _ _) rfl
                        · intro ac w' hb hd hk   -- 3
                          replace hb := Reg.below_undrew hb
                          obtain ⟨v91, e91, t91⟩ := hk.2 1 (by kernel_rfl)
                          replace e91 : ac.tmps[91]? = some v91 := e91
                          replace e91 : ac.tmps[91]? = some (.int .i64 70) := e91.trans (congrArg some t91)
                          obtain ⟨v92, e92, t92⟩ := hk.2 2 (by kernel_rfl)
                          replace e92 : ac.tmps[92]? = some v92 := e92
                          replace e92 : ac.tmps[92]? = some (.int .i64 70) := e92.trans (congrArg some t92)
                          exact Reg.step_value (Reg.wanted_free rfl) (w1 := w') (by go_simp; try rfl) (Below.refl _ _) rfl
                        · intro ac w' hb hd hk   -- 4
                          replace hb := Reg.below_undrew hb
                          obtain ⟨v93, e93, t93⟩ := hk.2 3 (by kernel_rfl)
                          replace e93 : ac.tmps[93]? = some v93 := e93
                          replace e93 : ac.tmps[93]? = some (.bool false) := e93.trans (congrArg some t93)
                          exact Reg.step_value (Reg.wanted_free rfl) (w1 := w') (by go_simp; try rfl) (Below.refl _ _) rfl
                        · intro ac w' hb hd hk   -- 5
                          replace hb := Reg.below_undrew hb
                          have e16 : ac.tmps[16]? = some (.bool bb) := (hk.1 16 (by kernel_rfl)).trans rfl
                          obtain ⟨v94, e94, t94⟩ := hk.2 4 (by kernel_rfl)
                          replace e94 : ac.tmps[94]? = some v94 := e94
                          replace e94 : ac.tmps[94]? = some (.bool false) := e94.trans (congrArg some t94)
                          exact Reg.step_value ((Reg.wanted_is rfl rfl e94).trans rfl) (w1 := w') (by go_simp; try rfl) (Below.refl _ _) rfl
                        · intro ac w' hb hd hk   -- 6
                          replace hb := Reg.below_undrew hb
                          have e19 : ac.tmps[19]? = some (.bool bb) := (hk.1 19 (by kernel_rfl)).trans rfl
                          obtain ⟨v94, e94, t94⟩ := hk.2 4 (by kernel_rfl)
                          replace e94 : ac.tmps[94]? = some v94 := e94
                          replace e94 : ac.tmps[94]? = some (.bool false) := e94.trans (congrArg some t94)
                          exact Reg.step_value ((Reg.wanted_is rfl rfl e94).trans rfl) (w1 := w') (by go_simp; try rfl) (Below.refl _ _) rfl
                        · intro ac w' hb hd hk   -- 7
                          replace hb := Reg.below_undrew hb
                          obtain ⟨v95, e95, t95⟩ := hk.2 5 (by kernel_rfl)
                          replace e95 : ac.tmps[95]? = some v95 := e95
                          replace e95 : ac.tmps[95]? = some (.bool bb) := e95.trans (congrArg some t95)
                          obtain ⟨v96, e96, t96⟩ := hk.2 6 (by kernel_rfl)
                          replace e96 : ac.tmps[96]? = some v96 := e96
                          replace e96 : ac.tmps[96]? = some (.bool bb) := e96.trans (congrArg some t96)
                          obtain ⟨v94, e94, t94⟩ := hk.2 4 (by kernel_rfl)
                          replace e94 : ac.tmps[94]? = some v94 := e94
                          replace e94 : ac.tmps[94]? = some (.bool false) := e94.trans (congrArg some t94)
                          exact Reg.step_value ((Reg.wanted_is rfl rfl e94).trans rfl) (w1 := w') (by go_simp; try rfl) (Below.refl _ _) rfl
                        · intro ac w' hb hd hk   -- 8
                          replace hb := Reg.below_undrew hb
                          obtain ⟨v94, e94, t94⟩ := hk.2 4 (by kernel_rfl)
                          replace e94 : ac.tmps[94]? = some v94 := e94
                          replace e94 : ac.tmps[94]? = some (.bool false) := e94.trans (congrArg some t94)
                          obtain ⟨v97, e97, t97⟩ := hk.2 7 (by kernel_rfl)
                          replace e97 : ac.tmps[97]? = some v97 := e97
                          replace e97 : ac.tmps[97]? = some (.bool false) := e97.trans (congrArg some t97)
                          exact Reg.step_value (Reg.wanted_free rfl) (w1 := w') (by go_simp; try rfl) (Below.refl _ _) rfl
                        · intro ac w' hb hd hk   -- 9
                          replace hb := Reg.below_undrew hb
                          obtain ⟨v98, e98, t98⟩ := hk.2 8 (by kernel_rfl)
                          replace e98 : ac.tmps[98]? = some v98 := e98
                          replace e98 : ac.tmps[98]? = some (.bool false) := e98.trans (congrArg some t98)
                          exact Reg.step_value (Reg.wanted_free rfl) (w1 := w') (by go_simp; try rfl) (Below.refl _ _) rfl
                        · intro ac w' hb hd hk   -- 10
                          replace hb := Reg.below_undrew hb
                          have e15 : ac.tmps[15]? = some (.slice A5 ys.length c5) := (hk.1 15 (by kernel_rfl)).trans rfl
                          obtain ⟨v99, e99, t99⟩ := hk.2 9 (by kernel_rfl)
                          replace e99 : ac.tmps[99]? = some v99 := e99
                          replace e99 : ac.tmps[99]? = some (.bool false) := e99.trans (congrArg some t99)
                          exact Reg.step_value ((Reg.wanted_is rfl rfl e99).trans rfl) (w1 := w') (by go_simp; try rfl) (Below.refl _ _) rfl
                        · intro ac w' hb hd hk   -- 11
                          replace hb := Reg.below_undrew hb
                          obtain ⟨v100, e100, t100⟩ := hk.2 10 (by kernel_rfl)
                          replace e100 : ac.tmps[100]? = some v100 := e100
                          replace e100 : ac.tmps[100]? = some (.slice A5 ys.length c5) := e100.trans (congrArg some t100)
                          obtain ⟨v99, e99, t99⟩ := hk.2 9 (by kernel_rfl)
                          replace e99 : ac.tmps[99]? = some v99 := e99
                          replace e99 : ac.tmps[99]? = some (.bool false) := e99.trans (congrArg some t99)
                          have hcv := (ST1.out w' hb).1
                          exact Reg.step_value ((Reg.wanted_is rfl rfl e99).trans rfl) (w1 := w') (by go_simp; try rfl) (Below.refl _ _) rfl
                        · intro ac w' hb hd hk   -- 12
                          replace hb := Reg.below_undrew hb
                          have e18 : ac.tmps[18]? = some (.slice A6 ys.length c6) := (hk.1 18 (by kernel_rfl)).trans rfl
                          obtain ⟨v99, e99, t99⟩ := hk.2 9 (by kernel_rfl)
                          replace e99 : ac.tmps[99]? = some v99 := e99
                          replace e99 : ac.tmps[99]? = some (.bool false) := e99.trans (congrArg some t99)
                          exact Reg.step_value ((Reg.wanted_is rfl rfl e99).trans rfl) (w1 := w') (by go_simp; try rfl) (Below.refl _ _) rfl
                        · intro ac w' hb hd hk   -- 13
                          replace hb := Reg.below_undrew hb
                          obtain ⟨v102, e102, t102⟩ := hk.2 12 (by kernel_rfl)
                          replace e102 : ac.tmps[102]? = some v102 := e102
                          replace e102 : ac.tmps[102]? = some (.slice A6 ys.length c6) := e102.trans (congrArg some t102)
                          obtain ⟨v99, e99, t99⟩ := hk.2 9 (by kernel_rfl)
                          replace e99 : ac.tmps[99]? = some v99 := e99
                          replace e99 : ac.tmps[99]? = some (.bool false) := e99.trans (congrArg some t99)
                          have hcv := (ST1.out w' hb).2
                          exact Reg.step_value ((Reg.wanted_is rfl rfl e99).trans rfl) (w1 := w') (by go_simp; try rfl) (Below.refl _ _) rfl
                        · intro ac w' hb hd hk   -- 14
                          replace hb := Reg.below_undrew hb
                          obtain ⟨v101, e101, t101⟩ := hk.2 11 (by kernel_rfl)
                          replace e101 : ac.tmps[101]? = some v101 := e101
                          replace e101 : ac.tmps[101]? = some (.string sy) := e101.trans (congrArg some t101)
                          obtain ⟨v103, e103, t103⟩ := hk.2 13 (by kernel_rfl)
                          replace e103 : ac.tmps[103]? = some v103 := e103
                          replace e103 : ac.tmps[103]? = some (.string sy) := e103.trans (congrArg some t103)
                          obtain ⟨v99, e99, t99⟩ := hk.2 9 (by kernel_rfl)
                          replace e99 : ac.tmps[99]? = some v99 := e99
                          replace e99 : ac.tmps[99]? = some (.bool false) := e99.trans (congrArg some t99)
                          exact Reg.step_value ((Reg.wanted_is rfl rfl e99).trans rfl) (w1 := w') (by go_simp; try rfl) (Below.refl _ _) rfl
                        · intro ac w' hb hd hk   -- 15
                          replace hb := Reg.below_undrew hb
                          obtain ⟨v99, e99, t99⟩ := hk.2 9 (by kernel_rfl)
                          replace e99 : ac.tmps[99]? = some v99 := e99
                          replace e99 : ac.tmps[99]? = some (.bool false) := e99.trans (congrArg some t99)
                          obtain ⟨v104, e104, t104⟩ := hk.2 14 (by kernel_rfl)
                          replace e104 : ac.tmps[104]? = some v104 := e104
                          replace e104 : ac.tmps[104]? = some (.bool false) := e104.trans (congrArg some t104)
                          exact Reg.step_value (Reg.wanted_free rfl) (w1 := w') (by go_simp; try rfl) (Below.refl _ _) rfl
                        · intro ac w' hb hd hk   -- 16
                          replace hb := Reg.below_undrew hb
                          obtain ⟨v105, e105, t105⟩ := hk.2 15 (by kernel_rfl)
                          replace e105 : ac.tmps[105]? = some v105 := e105
                          replace e105 : ac.tmps[105]? = some (.bool false) := e105.trans (congrArg some t105)
                          exact Reg.step_value (Reg.wanted_free rfl) (w1 := w') (by go_simp; try rfl) (Below.refl _ _) rfl
                        · intro ac w' hb hd hk   -- 17
                          replace hb := Reg.below_undrew hb
                          have e20 : ac.tmps[20]? = some (.int .i64 70) := (hk.1 20 (by kernel_rfl)).trans rfl
                          obtain ⟨v106, e106, t106⟩ := hk.2 16 (by kernel_rfl)
                          replace e106 : ac.tmps[106]? = some v106 := e106
                          replace e106 : ac.tmps[106]? = some (.bool false) := e106.trans (congrArg some t106)
                          exact Reg.step_value ((Reg.wanted_is rfl rfl e106).trans rfl) (w1 := w') (by go_simp; try rfl) (Below.refl _ _) rfl
                        · intro ac w' hb hd hk   -- 18
                          replace hb := Reg.below_undrew hb
                          obtain ⟨v107, e107, t107⟩ := hk.2 17 (by kernel_rfl)
                          replace e107 : ac.tmps[107]? = some v107 := e107
                          replace e107 : ac.tmps[107]? = some (.int .i64 70) := e107.trans (congrArg some t107)
                          obtain ⟨v106, e106, t106⟩ := hk.2 16 (by kernel_rfl)
                          replace e106 : ac.tmps[106]? = some v106 := e106
                          replace e106 : ac.tmps[106]? = some (.bool false) := e106.trans (congrArg some t106)
                          exact Reg.step_value ((Reg.wanted_is rfl rfl e106).trans rfl) (w1 := w') (by go_simp; try rfl) (Below.refl _ _) rfl
                        · intro ac w' hb hd hk   -- 19
                          replace hb := Reg.below_undrew hb
                          obtain ⟨v108, e108, t108⟩ := hk.2 18 (by kernel_rfl)
                          replace e108 : ac.tmps[108]? = some v108 := e108
                          replace e108 : ac.tmps[108]? = some (.bool false) := e108.trans (congrArg some t108)
                          obtain ⟨v106, e106, t106⟩ := hk.2 16 (by kernel_rfl)
                          replace e106 : ac.tmps[106]? = some v106 := e106
                          replace e106 : ac.tmps[106]? = some (.bool false) := e106.trans (congrArg some t106)
                          exact Reg.step_value ((Reg.wanted_is rfl rfl e106).trans rfl) (w1 := w') (by go_simp; try rfl) (Below.refl _ _) rfl
                        · intro ac w' hb hd hk   -- 20
                          replace hb := Reg.below_undrew hb
                          obtain ⟨v109, e109, t109⟩ := hk.2 19 (by kernel_rfl)
                          replace e109 : ac.tmps[109]? = some v109 := e109
                          replace e109 : ac.tmps[109]? = some (.bool false) := e109.trans (congrArg some t109)
                          exact Reg.step_off ((Reg.wanted_is rfl rfl e109).trans rfl) rfl
                        · intro ac w' hb hd hk   -- 21
                          replace hb := Reg.below_undrew hb
                          obtain ⟨v109, e109, t109⟩ := hk.2 19 (by kernel_rfl)
                          replace e109 : ac.tmps[109]? = some v109 := e109
                          replace e109 : ac.tmps[109]? = some (.bool false) := e109.trans (congrArg some t109)
                          exact Reg.step_off ((Reg.wanted_is rfl rfl e109).trans rfl) rfl
                        · intro ac w' hb hd hk   -- 22
                          replace hb := Reg.below_undrew hb
                          obtain ⟨v109, e109, t109⟩ := hk.2 19 (by kernel_rfl)
                          replace e109 : ac.tmps[109]? = some v109 := e109
                          replace e109 : ac.tmps[109]? = some (.bool false) := e109.trans (congrArg some t109)
                          exact Reg.step_off ((Reg.wanted_is rfl rfl e109).trans rfl) rfl
                        · intro ac w' hb hd hk   -- 23
                          replace hb := Reg.below_undrew hb
                          obtain ⟨v109, e109, t109⟩ := hk.2 19 (by kernel_rfl)
                          replace e109 : ac.tmps[109]? = some v109 := e109
                          replace e109 : ac.tmps[109]? = some (.bool false) := e109.trans (congrArg some t109)
                          exact Reg.step_off ((Reg.wanted_is rfl rfl e109).trans rfl) rfl
                        · intro ac w' hb hd hk   -- 24
                          replace hb := Reg.below_undrew hb
                          obtain ⟨v109, e109, t109⟩ := hk.2 19 (by kernel_rfl)
                          replace e109 : ac.tmps[109]? = some v109 := e109
                          replace e109 : ac.tmps[109]? = some (.bool false) := e109.trans (congrArg some t109)
                          exact Reg.step_off ((Reg.wanted_is rfl rfl e109).trans rfl) rfl
                        · intro ac w' hb hd hk   -- 25
                          replace hb := Reg.below_undrew hb
                          obtain ⟨v109, e109, t109⟩ := hk.2 19 (by kernel_rfl)
                          replace e109 : ac.tmps[109]? = some v109 := e109
                          replace e109 : ac.tmps[109]? = some (.bool false) := e109.trans (congrArg some t109)
                          obtain ⟨v114, e114, t114⟩ := hk.2 24 (by kernel_rfl)
                          replace e114 : ac.tmps[114]? = some v114 := e114
                          replace e114 : ac.tmps[114]? = some undef := e114.trans (congrArg some t114)
                          obtain ⟨v106, e106, t106⟩ := hk.2 16 (by kernel_rfl)
                          replace e106 : ac.tmps[106]? = some v106 := e106
                          replace e106 : ac.tmps[106]? = some (.bool false) := e106.trans (congrArg some t106)
                          exact Reg.step_value ((Reg.wanted_is rfl rfl e106).trans rfl) (w1 := w') (by go_simp; try rfl) (Below.refl _ _) rfl
                        · intro ac w' hb hd hk   -- 26
                          replace hb := Reg.below_undrew hb
                          obtain ⟨v106, e106, t106⟩ := hk.2 16 (by kernel_rfl)
                          replace e106 : ac.tmps[106]? = some v106 := e106
                          replace e106 : ac.tmps[106]? = some (.bool false) := e106.trans (congrArg some t106)
                          obtain ⟨v115, e115, t115⟩ := hk.2 25 (by kernel_rfl)
                          replace e115 : ac.tmps[115]? = some v115 := e115
                          replace e115 : ac.tmps[115]? = some (.bool false) := e115.trans (congrArg some t115)
                          exact Reg.step_value (Reg.wanted_free rfl) (w1 := w') (by go_simp; try rfl) (Below.refl _ _) rfl
                      case fin =>
                        intro w' hb
                        replace hb := Reg.below_undrew hb
                        rintro _ rfl
                        rintro _ rfl
                        rintro _ rfl
                        rintro _ rfl
                        rintro _ rfl
                        rintro _ rfl
                        rintro _ rfl
                        rintro _ rfl
                        rintro _ rfl
                        rintro _ rfl
                        rintro _ rfl
                        rintro _ rfl
                        rintro _ rfl
                        rintro _ rfl
                        rintro _ rfl
                        rintro _ rfl
                        rintro _ rfl
                        rintro _ rfl
                        rintro _ rfl
                        rintro _ rfl
                        rintro _ rfl
                        rintro _ rfl
                        rintro _ rfl
                        rintro _ rfl
                        rintro _ rfl
                        rintro _ rfl
                        rintro _ rfl
                        refine Reg.done_nil ?_
                        simp only [Act.put, List.setIfInBounds_toArray, List.set_cons_zero, List.set_cons_succ]
                        go_wp2
                        have BW7 : Aside0 (Below wr.heap.size wr w') := ⟨BW6.out.trans (hb.mono BW6.out.size)⟩
                        have RB7 : Aside0 (0 < ys.length → ∃ g cur, A5 = some ⟨g, 0, none⟩ ∧ wr.heap.size ≤ g ∧ w'.heap[g]? = some (.cells cur 5 (0, 0)) ∧ ys.length ≤ cur.size) := ⟨fun hp => by
                          obtain ⟨g, e, h1, _, _, cur, h2, h3⟩ := R_block (Kd.R_below R6.out hb) hp
                          exact ⟨g, cur, e, h1, h2, h3⟩⟩
                        clear hb
                        go_loopg [21] ys.length (fun kq v21 wq => ∃ j : Nat, v21 = .int .i64 (j : Int) ∧ j ≤ ys.length ∧ ys.length - j ≤ kq ∧ Aside0 (Below wr.heap.size wr wq ∧ (0 < ys.length → ∃ g cur, A5 = some ⟨g, 0, none⟩ ∧ wr.heap.size ≤ g ∧ wq.heap[g]? = some (.cells cur 5 (0, 0)) ∧ ys.length ≤ cur.size)))
                        case atStart => exact ⟨0, rfl, by omega, by omega, ⟨BW7.out, RB7.out⟩⟩
                        case round =>
                          obtain ⟨j, rfl, hj, hkj, L⟩ := hrel
                          have HYL : ys.length ≤ 9223372036854775807 := C6.out.2.1
                          clear BW7 RB7 R6 C6 E6 X6 LW CD AT ST1 y0 y1 y2
                          by_cases hjl : j < ys.length
                          · obtain ⟨g, cur, eA, hg1, hcur, hsz⟩ := L.out.2 (by omega)
                            subst eA
                            have q3 : decide ((j : Int) < (ys.length : Int)) = true := decide_eq_true (by omega)
                            have m1 := Err.blk_cell hcur j _ (Array.getElem?_eq_getElem (show j < cur.size by omega))
                            have m3 := blk_frozen hcur j
                            have p0 : (0 : Int) ≤ (j : Int) := by omega
                            have p1 : (j : Int) < (ys.length : Int) := by omega
                            have HC := Aside0.mk hcur
                            clear hcur
                            go_wp2
                            go_roundg (gk - 1)
                            case measure => omega
                            case rel => exact ⟨j + 1, by go_num, by omega, by omega, ⟨L.out.1.setCell (p := ⟨g, j, none⟩) hg1 _, fun _ => ⟨g, _, rfl, hg1, Go.heap_setCell_same _ g j _ _ _ HC.out, by simpa using hsz⟩⟩⟩
                          · have q3 : decide ((j : Int) < (ys.length : Int)) = false := decide_eq_false (by omega)
                            have PX : Aside0 (Pl w wr c1 c2 B0 B1 B2 (i + 1) s C) := ⟨(K.out.1.below L.out.1).more (Nat.le_succ i)⟩
                            go_wp2_with fail
                            go_meet
                            case rel => exact ⟨s, C, ⟨PX.out, K.out.2⟩⟩
        · have KF := Aside0.mk K.out.1
          clear K
          by_cases h1 : i < l0.length
          · have q1 : decide ((i : Int) < (l0.length : Int)) = true := decide_eq_true (by omega)
            have q2 : decide ((i : Int) < 100) = false := decide_eq_false (by omega)
            as_aux_lemma =>
            go_wp2_with (first
              | (go_at_call 19; refine (PDsk.told_law wr (HL.out.below (KF.out.fr.below (Nat.le_refl _) (fun _ h => h)) (Nat.le_refl _))).mono ?_; rintro e w10 ⟨rfl, hb⟩; have K6 := Aside0.mk (KF.out.below hb); clear hb))
            go_ret
            exact ⟨rfl, K6.out.fr.below (Nat.le_refl _) (fun _ h => h)⟩
          · have q1 : decide ((i : Int) < (l0.length : Int)) = false := decide_eq_false (by omega)
            as_aux_lemma =>
            go_wp2_with (first
              | (go_at_call 19; refine (PDsk.told_law wr (HL.out.below (KF.out.fr.below (Nat.le_refl _) (fun _ h => h)) (Nat.le_refl _))).mono ?_; rintro e w10 ⟨rfl, hb⟩; have K6 := Aside0.mk (KF.out.below hb); clear hb))
            go_ret
            exact ⟨rfl, K6.out.fr.below (Nat.le_refl _) (fun _ h => h)⟩
end Go.Proofs.YtemnnnjlllgeeaaDoor.PDsk.K
namespace Go.Proofs.YtemnnnjlllgeeaaDoor.PDsp
open Go.RowKit Go.Proofs.YtemnnnjlllgeeaaDoorW.PrintWords Go.Proofs.YtemnnnjlllgeeaaDoorW.PrintLast Go.Proofs.YtemnnnjlllgeeaaDoorW.PrintMore Go.Proofs.YtemnnnjlllgeeaaDoor.Err Go.Maps
open Classical in
noncomputable def tributarylaw7_DiskPlays.f (_ : Int) (l0 : List S32) : Option Bool := if PDsk.K.okAll l0 then some true else none
theorem tributarylaw7_DiskPlays.calls (a0 : Int) (A0 : Option Addr) (c0 : Nat) (l0 : List S32) (r : Bool) (w : World) (hr0 : Kd.C k32 w A0 l0.length l0) (hc0 : l0.length ≤ c0) (hL : Laid w) (h : tributarylaw7_DiskPlays.f a0 l0 = some r) :
    Calls Tryd.prog 6 #[.int .i64 a0, .slice A0 l0.length c0] w fun e w' => e = .returned (.bool r) ∧ Below w.heap.size w w' := by
  unfold tributarylaw7_DiskPlays.f at h
  by_cases hk : PDsk.K.okAll l0
  · rw [if_pos hk] at h
    obtain rfl := Option.some.inj h
    exact PDsk.K.diskPlays_law a0 A0 c0 l0 w hr0 hc0 hL hk
  · rw [if_neg hk] at h; cases h
end Go.Proofs.YtemnnnjlllgeeaaDoor.PDsp
