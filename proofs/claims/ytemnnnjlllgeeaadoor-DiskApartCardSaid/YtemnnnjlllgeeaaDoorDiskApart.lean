/- Proved: the law DiskApart returns true for all acts that fit: the walk. -/
import Derived.Test.YtemnnnjlllgeeaaDoorDiskDo2
import Derived.Test.YtemnnnjlllgeeaaDoorPDsqx0
import Derived.Deep.RegionHeld3
namespace Go.Proofs.YtemnnnjlllgeeaaDoor.PDsk
open Go.RowKit Go.Proofs.YtemnnnjlllgeeaaDoorW.PrintWords Go.Proofs.YtemnnnjlllgeeaaDoorW.PrintLast Go.Proofs.YtemnnnjlllgeeaaDoorW.PrintMore Go.Proofs.YtemnnnjlllgeeaaDoor.Err Go.Maps
theorem Rw.far {w w' : World} {base Bs Bm : Nat} {v : Value} {xs : List Int} {S : Nat → Prop} (h : Rw w base Bs Bm v xs) (hf : Fr S w w') (hS : ∀ b, S b → ∀ cells, w.heap[b]? ≠ some (.cells cells 5 (0, 0))) : Rw w' base Bs Bm v xs :=
  Kd.R_mono (Kd.R_move (Kd.R_bound h) (fun k hk => hf.block k hk.2.2.1 (fun hs => by
    obtain ⟨_, _, _, q, hq, cells, hc⟩ := hk
    obtain rfl : q = 5 := by simpa [Kd.int, Kd.scalar] using hq
    exact hS k hs cells hc))) (fun _ hk => hk.1)
/-- Blocks that hold no bytes may change: another disk's. -/
theorem Cont.far {w w' : World} {base Bs Bm n : Nat} {C : Int → Option (List Int)} {S : Nat → Prop} (h : Cont w base Bs Bm n C) (hf : Fr S w w') (hm : ¬ S Bm) (hS : ∀ b, S b → ∀ cells, w.heap[b]? ≠ some (.cells cells 5 (0, 0))) : Cont w' base Bs Bm n C := by
  obtain ⟨D, hM, hk⟩ := h.map
  refine ⟨D, hM.kept hf hm, fun k hok => ?_⟩
  have := hk k hok
  cases hc : C k with
  | none => rw [hc] at this; exact this
  | some xs =>
    rw [hc] at this
    obtain ⟨h1, v, h2, h3⟩ := this
    exact ⟨h1, v, h2, h3.far hf hS⟩
/-- A disk's two blocks hold no bytes. -/
theorem disk_far {w : World} {base Bs Bm n : Nat} {s : Dk} {C : Int → Option (List Int)} (h : St w Bs Bm s) (hC : Cont w base Bs Bm n C) : ∀ b, b = Bs ∨ b = Bm → ∀ cells, w.heap[b]? ≠ some (.cells cells 5 (0, 0)) := by
  intro b hb cells e
  rcases hb with rfl | rfl
  · unfold St at h; rw [h] at e; injection e with e; injection e with _ e; exact absurd e (by decide)
  · obtain ⟨D, ⟨es, clock, hb, _⟩, _⟩ := hC.map
    rw [hb] at e; injection e with e; cases e
end Go.Proofs.YtemnnnjlllgeeaaDoor.PDsk
namespace Go.Proofs.YtemnnnjlllgeeaaDoor.PDsq
open Go.RowKit Go.Proofs.YtemnnnjlllgeeaaDoorW.PrintWords Go.Proofs.YtemnnnjlllgeeaaDoorW.PrintLast Go.Proofs.YtemnnnjlllgeeaaDoorW.PrintMore Go.Proofs.YtemnnnjlllgeeaaDoor.Err Go.Proofs.YtemnnnjlllgeeaaDoor.PDsk Go.Maps
attribute [local go_sem] max2_int min2_int max_two min_two max_three min_three max_four min_four
set_option linter.unusedVariables false
set_option linter.unusedSimpArgs false

abbrev ActT := S32
theorem Fr.not {S : Nat → Prop} {w w' : World} (h : Fr (fun _ => False) w w') : Fr S w w' := h.mono (fun _ h => h.elim)
theorem cell_keep {w W : World} {p : Addr} {v : Value} (hb : Below w.heap.size w W) (h : w.cell? p = some v) : W.cell? p = some v := by
  have hlt : p.block < w.heap.size := by
    by_cases h2 : p.block < w.heap.size
    · exact h2
    · simp [World.cell?, Array.getElem?_eq_none (Nat.le_of_not_lt h2)] at h
  have := hb.block p.block hlt
  simp only [World.cell?] at h ⊢
  rw [this]; exact h
theorem short_none : Short (fun _ => none) := fun _ _ h => by cases h

/-- A disk: its cells, its blocks. -/
def Dx (w : World) (a1 a2 : Nat) (s : Dk) (n : Nat) (C : Int → Option (List Int)) : Prop := ∃ x, St w a1 a2 s ∧ Cont w x a1 a2 n C ∧ x ≤ w.heap.size ∧ a1 ≠ a2
theorem Dx.kept {w w' : World} {a1 a2 n : Nat} {s : Dk} {C : Int → Option (List Int)} {S : Nat → Prop} (h : Dx w a1 a2 s n C) (hf : Fr S w w') (h1 : ¬ S a1) (h2 : ¬ S a2) (hS : ∀ b, S b → ∀ cells, w.heap[b]? ≠ some (.cells cells 5 (0, 0))) : Dx w' a1 a2 s n C := by
  obtain ⟨x, hs, hc, hx, hne⟩ := h
  exact ⟨x, hs.kept hf h1, hc.far hf h2 hS, Nat.le_trans hx hf.size, hne⟩
theorem Dx.kept0 {w w' : World} {a1 a2 n : Nat} {s : Dk} {C : Int → Option (List Int)} (h : Dx w a1 a2 s n C) (hf : Fr (fun _ => False) w w') : Dx w' a1 a2 s n C := h.kept hf (fun h => h) (fun h => h) (fun _ h => h.elim)
theorem Dx.more {w : World} {a1 a2 n m : Nat} {s : Dk} {C : Int → Option (List Int)} (h : Dx w a1 a2 s n C) (hm : n ≤ m) : Dx w a1 a2 s m C := by
  obtain ⟨x, hs, hc, r⟩ := h
  exact ⟨x, hs, hc.more' hm, r⟩
theorem Dx.far {w : World} {a1 a2 n : Nat} {s : Dk} {C : Int → Option (List Int)} (h : Dx w a1 a2 s n C) : ∀ b, b = a1 ∨ b = a2 → ∀ cells, w.heap[b]? ≠ some (.cells cells 5 (0, 0)) := by
  obtain ⟨x, hs, hc, r⟩ := h
  exact disk_far hs hc
/-- Another disk's call leaves this one. -/
theorem Dx.other {w w' : World} {a1 a2 b1 b2 n m : Nat} {s r : Dk} {C D : Int → Option (List Int)} (h : Dx w b1 b2 s n C) (g : Dx w a1 a2 r m D) (hf : Fr (fun b => b = a1 ∨ b = a2) w w') (h1 : b1 ≠ a1 ∧ b1 ≠ a2) (h2 : b2 ≠ a1 ∧ b2 ≠ a2) : Dx w' b1 b2 s n C :=
  h.kept hf (fun e => e.elim h1.1 h1.2) (fun e => e.elim h2.1 h2.2) g.far
theorem do_at (x : ActT) (A : Option Addr) (c n a1 a2 : Nat) (s : Dk) (C : Int → Option (List Int)) (w0 W : World) (h : Dx W a1 a2 s n C) (hs : Short C) (hn : n < maxLen) (hx : okI x.f1) (hB : Fr (fun b => w0.heap.size ≤ b) w0 W) (hq : w0.heap.size ≤ a1 ∧ w0.heap.size ≤ a2) (hC : Kd.C (Kd.int .u8) w0 A x.f2.length x.f2) (hl : x.f2.length ≤ c) (hL : Laid w0) :
    Calls Tryd.prog 23 #[.pointer (some ⟨a1, 0, none⟩), .agg #[.int .i64 x.f0, .int .i64 x.f1, .slice A x.f2.length c]] W fun e w' => e = .returned (.int .i64 (doS s C x.f0 x.f1 x.f2).1) ∧ Dx w' a1 a2 (doS s C x.f0 x.f1 x.f2).2.1 (n + 1) (doS s C x.f0 x.f1 x.f2).2.2 ∧ Fr (fun b => b = a1 ∨ b = a2) W w' := by
  obtain ⟨y, h1, h2, h3, h4⟩ := h
  have hb : ∀ W', Fr (fun b => b = a1 ∨ b = a2) W W' → Below w0.heap.size w0 W' := fun W' hf => (hB.trans (hf.mono (fun b hb => by rcases hb with rfl | rfl; exact hq.1; exact hq.2))).below (Nat.le_refl _) (fun _ h => h)
  refine (do_calls x.f0 x.f1 A c x.f2 s y a1 a2 n C W h1 h2 h4 h3 hn hx hs (fun W' hf => Kd.C_below hC (hb W' hf)) hl (fun W' hf => hL.below (hb W' hf) (Nat.le_refl _))).mono ?_
  rintro e w' ⟨rfl, k1, k2, k3⟩
  exact ⟨rfl, ⟨y, k1, k2, Nat.le_trans h3 k3.size, h4⟩, k3⟩
/-- Three disks, of which two hold the same. -/
structure Three (w0 w : World) (a1 a2 b1 b2 c1 c2 i : Nat) : Prop where
  fr : Fr (fun b => w0.heap.size ≤ b) w0 w
  ab : ∃ s C, Dx w a1 a2 s i C ∧ Dx w b1 b2 s i C ∧ Short C
  c : ∃ s C, Dx w c1 c2 s i C ∧ Short C
def okAll (l : List ActT) : Prop := ∀ x ∈ l, okI x.f1
theorem rd_ok {l : List ActT} (h : okAll l) (i : Nat) (hi : i < l.length) : okI (rd_T32 l (i : Int)).f1 := by
  unfold rd_T32
  rw [Int.toNat_natCast, List.getD_eq_getElem?_getD, List.getElem?_eq_getElem hi]
  exact h _ (List.getElem_mem hi)
set_option maxHeartbeats 16000000 in
set_option maxRecDepth 100000 in
theorem diskApart_law (A0 : Option Addr) (c0 : Nat) (l0 : List ActT) (A1 : Option Addr) (c1 : Nat) (l1 : List ActT) (w : World) (hr0 : Kd.C k32 w A0 l0.length l0) (hc0 : l0.length ≤ c0) (hr1 : Kd.C k32 w A1 l1.length l1) (hc1 : l1.length ≤ c1) (hL : Laid w) (ok0 : okAll l0) (ok1 : okAll l1) :
    Calls Tryd.prog 5 #[.slice A0 l0.length c0, .slice A1 l1.length c1] w fun e w' => e = .returned (.bool true) ∧ Below w.heap.size w w' := by
  have HL := Aside0.mk hL
  have R0 := Aside0.mk hr0
  have R1 := Aside0.mk hr1
  have K0 := Aside0.mk ok0
  have K1 := Aside0.mk ok1
  clear hL hr0 hr1 ok0 ok1
  go_enter Tryd.func5, Tryd.ntmps5
  go_wp2_with fail
  refine (new_ok 16 w (by decide) (by decide)).mono ?_
  rintro e w1 ⟨a1, a2, rfl, u1, u2, hne1, hS1, hC1, hb1⟩
  have FA : Aside0 (Fr (fun _ => False) w w1) := ⟨Fr.of_below hb1⟩
  have DA : Aside0 (Dx w1 a1 a2 _ 0 _) := ⟨⟨_, hS1, hC1, FA.out.size, hne1⟩⟩
  have UA := Aside0.mk (⟨u1, u2, hS1.lt, hC1.lt⟩ : w.heap.size ≤ a1 ∧ w.heap.size ≤ a2 ∧ a1 < w1.heap.size ∧ a2 < w1.heap.size)
  clear u1 u2 hne1 hS1 hC1 hb1
  go_wp2_with fail
  refine (new_ok 16 w1 (by decide) (by decide)).mono ?_
  rintro e w2 ⟨b1, b2, rfl, u1, u2, hne1, hS1, hC1, hb1⟩
  have fb : Fr (fun _ => False) w1 w2 := Fr.of_below hb1
  have DB : Aside0 (Dx w2 b1 b2 _ 0 _) := ⟨⟨_, hS1, hC1, fb.size, hne1⟩⟩
  have UB := Aside0.mk (⟨u1, u2, hS1.lt, hC1.lt⟩ : w1.heap.size ≤ b1 ∧ w1.heap.size ≤ b2 ∧ b1 < w2.heap.size ∧ b2 < w2.heap.size)
  have DA2 := Aside0.mk (DA.out.kept0 fb)
  have FB := Aside0.mk (FA.out.trans fb)
  clear u1 u2 hne1 hS1 hC1 hb1 fb DA
  go_wp2_with fail
  refine (new_ok 16 w2 (by decide) (by decide)).mono ?_
  rintro e w3 ⟨d1, d2, rfl, u1, u2, hne1, hS1, hC1, hb1⟩
  have fb : Fr (fun _ => False) w2 w3 := Fr.of_below hb1
  have U : Aside0 (w.heap.size ≤ a1 ∧ w.heap.size ≤ a2 ∧ w.heap.size ≤ b1 ∧ w.heap.size ≤ b2 ∧ w.heap.size ≤ d1 ∧ w.heap.size ≤ d2 ∧ (b1 ≠ a1 ∧ b1 ≠ a2) ∧ (b2 ≠ a1 ∧ b2 ≠ a2) ∧ (d1 ≠ a1 ∧ d1 ≠ a2) ∧ (d2 ≠ a1 ∧ d2 ≠ a2) ∧ (d1 ≠ b1 ∧ d1 ≠ b2) ∧ (d2 ≠ b1 ∧ d2 ≠ b2)) := ⟨by
    have := FA.out.size; have := FB.out.size; have := UA.out; have := UB.out; omega⟩
  have T3 : Aside0 (Three w w3 a1 a2 b1 b2 d1 d2 0) := ⟨⟨Fr.not (FB.out.trans fb), ⟨_, _, DA2.out.kept0 fb, DB.out.kept0 fb, short_none⟩, ⟨_, _, ⟨_, hS1, hC1, fb.size, hne1⟩, short_none⟩⟩⟩
  clear u1 u2 hne1 hS1 hC1 hb1 fb DA2 DB FB FA UA UB
  go_wp2
  go_loopg [11] 60 (fun kq v11 wr => ∃ i : Nat, v11 = .int .i64 (i : Int) ∧ i ≤ 60 ∧ 60 - i ≤ kq ∧ Aside0 (Three w wr a1 a2 b1 b2 d1 d2 i))
  case atStart => exact ⟨0, rfl, by omega, by omega, T3⟩
  case round =>
    obtain ⟨i, rfl, hi, hk, T⟩ := hrel
    clear T3
    by_cases hlt : i < l0.length ∧ i < 60
    · have q1 : decide ((i : Int) < (l0.length : Int)) = true := decide_eq_true (by omega)
      have q2 : decide ((i : Int) < 60) = true := decide_eq_true (by omega)
      have ok0 := rd_ok K0.out i hlt.1
      obtain ⟨ad, A2, c2, e0, g0, g1, g2, gl, gC⟩ := at_T32 R0.out (i : Int) (by omega) (by omega)
      subst e0
      rw [Int.toNat_natCast] at g0 g1 g2
      obtain ⟨x, hx⟩ : ∃ x, rd_T32 l0 (i : Int) = x := ⟨_, rfl⟩
      rw [hx] at g0 g1 g2 gl gC ok0
      clear hx
      have G := Aside0.mk (⟨g0, g1, g2⟩ : w.cell? (ad.add (i * 3)) = _ ∧ w.cell? ⟨(ad.add (i * 3)).block, (ad.add (i * 3)).off + 1, none⟩ = _ ∧ w.cell? ⟨(ad.add (i * 3)).block, (ad.add (i * 3)).off + 2, none⟩ = _)
      have GL := Aside0.mk gl
      have GC := Aside0.mk gC
      have GK := Aside0.mk ok0
      clear g0 g1 g2 gl gC ok0
      by_cases h3 : i < l1.length
      · have q3 : decide ((i : Int) < (l1.length : Int)) = true := decide_eq_true (by omega)
        have ok0 := rd_ok K1.out i h3
        obtain ⟨bd, B2, e2, e0, g0, g1, g2, gl, gC⟩ := at_T32 R1.out (i : Int) (by omega) (by omega)
        subst e0
        rw [Int.toNat_natCast] at g0 g1 g2
        obtain ⟨y, hy⟩ : ∃ y, rd_T32 l1 (i : Int) = y := ⟨_, rfl⟩
        rw [hy] at g0 g1 g2 gl gC ok0
        clear hy
        have hbw := T.out.fr.below (n := w.heap.size) (Nat.le_refl _) (fun _ h => h)
        have x0 := cell_keep hbw g0
        have x1 := cell_keep hbw g1
        have x2 := cell_keep hbw g2
        obtain ⟨sc, Cc, dc, hsc⟩ := T.out.c
        have HD := Aside0.mk (do_at y B2 e2 i d1 d2 sc Cc w wr dc hsc (by unfold maxLen; omega) ok0 T.out.fr ⟨U.out.2.2.2.2.1, U.out.2.2.2.2.2.1⟩ gC gl HL.out)
        have DC := Aside0.mk dc
        have SC := Aside0.mk hsc
        clear g0 g1 g2 hbw gl gC ok0 dc hsc
        go_wp2_with fail
        refine HD.out.mono ?_
        rintro e w4 ⟨rfl, hD4, f4⟩
        have M : Aside0 (Fr (fun b => w.heap.size ≤ b) w w4 ∧ (∃ s C, Dx w4 a1 a2 s i C ∧ Dx w4 b1 b2 s i C ∧ Short C) ∧ ∃ s C, Dx w4 d1 d2 s (i + 1) C ∧ Short C) := ⟨by
          have u := U.out
          obtain ⟨s, C, ha, hb, hs⟩ := T.out.ab
          exact ⟨T.out.fr.trans (f4.mono (fun b hb => by rcases hb with rfl | rfl; exact u.2.2.2.2.1; exact u.2.2.2.2.2.1)), ⟨s, C, ha.other DC.out f4 (by omega) (by omega), hb.other DC.out f4 (by omega) (by omega), hs⟩, ⟨_, _, hD4, doS_short (s := sc) SC.out _ _ _⟩⟩⟩
        clear hD4 f4 HD DC SC T x0 x1 x2
        have hbw := M.out.1.below (n := w.heap.size) (Nat.le_refl _) (fun _ h => h)
        have x0 := cell_keep hbw G.out.1
        have x1 := cell_keep hbw G.out.2.1
        have x2 := cell_keep hbw G.out.2.2
        clear hbw
        obtain ⟨sab, Cab, da, db, hsh⟩ := M.out.2.1
        have DA := Aside0.mk da
        have DB := Aside0.mk db
        have SH := Aside0.mk hsh
        have MF := Aside0.mk M.out.1
        have MC := Aside0.mk M.out.2.2
        clear da db hsh M
        have HA : Aside0 (∀ W, Fr (fun _ => False) w4 W → Calls Tryd.prog 23 #[.pointer (some ⟨a1, 0, none⟩), .agg #[.int .i64 x.f0, .int .i64 x.f1, .slice A2 x.f2.length c2]] W fun e w' => e = .returned (.int .i64 (doS sab Cab x.f0 x.f1 x.f2).1) ∧ Dx w' a1 a2 (doS sab Cab x.f0 x.f1 x.f2).2.1 (i + 1) (doS sab Cab x.f0 x.f1 x.f2).2.2 ∧ Fr (fun b => b = a1 ∨ b = a2) W w') := ⟨fun W hf => do_at x A2 c2 i a1 a2 sab Cab w W (DA.out.kept0 hf) SH.out (by unfold maxLen; omega) GK.out (MF.out.trans (hf.mono (fun _ h => h.elim))) ⟨U.out.1, U.out.2.1⟩ GC.out GL.out HL.out⟩
        have HB : Aside0 (∀ W, Dx W b1 b2 sab i Cab → Fr (fun b => w.heap.size ≤ b) w W → Calls Tryd.prog 23 #[.pointer (some ⟨b1, 0, none⟩), .agg #[.int .i64 x.f0, .int .i64 x.f1, .slice A2 x.f2.length c2]] W fun e w' => e = .returned (.int .i64 (doS sab Cab x.f0 x.f1 x.f2).1) ∧ Dx w' b1 b2 (doS sab Cab x.f0 x.f1 x.f2).2.1 (i + 1) (doS sab Cab x.f0 x.f1 x.f2).2.2 ∧ Fr (fun b => b = b1 ∨ b = b2) W w') := ⟨fun W hd hf => do_at x A2 c2 i b1 b2 sab Cab w W hd SH.out (by unfold maxLen; omega) GK.out hf ⟨U.out.2.2.1, U.out.2.2.2.1⟩ GC.out GL.out HL.out⟩
        have HS := Aside0.mk (doS_short (s := sab) SH.out x.f0 x.f1 x.f2)
        obtain ⟨r, hr⟩ : ∃ r, doS sab Cab x.f0 x.f1 x.f2 = r := ⟨_, rfl⟩
        rw [hr] at HA HB HS
        clear hr
        go_wp2_with fail
        go_region_held3 (fun W => W.cell? (ad.add (i * 3)) = some (.int .i64 x.f0) ∧ W.cell? ⟨(ad.add (i * 3)).block, (ad.add (i * 3)).off + 1, none⟩ = some (.int .i64 x.f1) ∧ W.cell? ⟨(ad.add (i * 3)).block, (ad.add (i * 3)).off + 2, none⟩ = some (.slice A2 x.f2.length c2)) (first | exact ⟨x0, x1, x2⟩ | exact ⟨y0, y1, y2⟩ | exact ⟨z0, z1, z2⟩) (first
          | (go_at_call 23; (with_reducible refine (HA.out _ (Fr.of_below (by first | exact below_drew (Below.refl _ _) | exact Below.refl _ _))).mono ?_); rintro e w5 ⟨rfl, hD, hf⟩; have D5 := Aside0.mk hD; have G5 : Aside0 (Fr (fun b => b = a1 ∨ b = a2) w4 w5) := ⟨((Fr.of_below (below_drew (Below.refl _ _))).trans hf)⟩; have F5 : Aside0 (Fr (fun b => w.heap.size ≤ b) w w5) := ⟨MF.out.trans (G5.out.mono (fun b hb => by have u := U.out; rcases hb with rfl | rfl; exact u.1; exact u.2.1))⟩; have E5 := Aside0.mk (DB.out.other DA.out G5.out (by have u := U.out; omega) (by have u := U.out; omega)); have hbw := F5.out.below (n := w.heap.size) (Nat.le_refl _) (fun _ h => h); have y0 := cell_keep hbw G.out.1; have y1 := cell_keep hbw G.out.2.1; have y2 := cell_keep hbw G.out.2.2; clear hbw hD hf)
          | (go_at_call 23; (with_reducible refine (HB.out w5 E5.out F5.out).mono ?_); rintro e w6 ⟨rfl, hD, hf⟩; have D6 := Aside0.mk hD; have G6 := Aside0.mk hf; have F6 : Aside0 (Fr (fun b => w.heap.size ≤ b) w w6) := ⟨F5.out.trans (hf.mono (fun b hb => by have u := U.out; rcases hb with rfl | rfl; exact u.2.2.1; exact u.2.2.2.1))⟩; have hbw := F6.out.below (n := w.heap.size) (Nat.le_refl _) (fun _ h => h); have z0 := cell_keep hbw G.out.1; have z1 := cell_keep hbw G.out.2.1; have z2 := cell_keep hbw G.out.2.2; clear hbw hD hf))
        go_wp2
        go_roundg (gk - 1)
        case measure => omega
        case rel => exact ⟨i + 1, by go_num, by omega, by omega, ⟨⟨F6.out, ⟨_, _, D5.out.other E5.out G6.out (by have u := U.out; omega) (by have u := U.out; omega), D6.out, HS.out⟩, by
          obtain ⟨s, C, hc, hs⟩ := MC.out
          have u := U.out
          exact ⟨s, C, (hc.other DA.out G5.out (by omega) (by omega)).other E5.out G6.out (by omega) (by omega), hs⟩⟩⟩⟩
      · have q3 : decide ((i : Int) < (l1.length : Int)) = false := decide_eq_false (by omega)
        have M : Aside0 (Fr (fun b => w.heap.size ≤ b) w wr ∧ (∃ s C, Dx wr a1 a2 s i C ∧ Dx wr b1 b2 s i C ∧ Short C) ∧ ∃ s C, Dx wr d1 d2 s (i + 1) C ∧ Short C) := ⟨by
          obtain ⟨s, C, hc, hs⟩ := T.out.c
          exact ⟨T.out.fr, T.out.ab, ⟨s, C, hc.more (Nat.le_succ i), hs⟩⟩⟩
        clear T
        have hbw := M.out.1.below (n := w.heap.size) (Nat.le_refl _) (fun _ h => h)
        have x0 := cell_keep hbw G.out.1
        have x1 := cell_keep hbw G.out.2.1
        have x2 := cell_keep hbw G.out.2.2
        clear hbw
        obtain ⟨sab, Cab, da, db, hsh⟩ := M.out.2.1
        have DA := Aside0.mk da
        have DB := Aside0.mk db
        have SH := Aside0.mk hsh
        have MF := Aside0.mk M.out.1
        have MC := Aside0.mk M.out.2.2
        clear da db hsh M
        have HA : Aside0 (∀ W, Fr (fun _ => False) wr W → Calls Tryd.prog 23 #[.pointer (some ⟨a1, 0, none⟩), .agg #[.int .i64 x.f0, .int .i64 x.f1, .slice A2 x.f2.length c2]] W fun e w' => e = .returned (.int .i64 (doS sab Cab x.f0 x.f1 x.f2).1) ∧ Dx w' a1 a2 (doS sab Cab x.f0 x.f1 x.f2).2.1 (i + 1) (doS sab Cab x.f0 x.f1 x.f2).2.2 ∧ Fr (fun b => b = a1 ∨ b = a2) W w') := ⟨fun W hf => do_at x A2 c2 i a1 a2 sab Cab w W (DA.out.kept0 hf) SH.out (by unfold maxLen; omega) GK.out (MF.out.trans (hf.mono (fun _ h => h.elim))) ⟨U.out.1, U.out.2.1⟩ GC.out GL.out HL.out⟩
        have HB : Aside0 (∀ W, Dx W b1 b2 sab i Cab → Fr (fun b => w.heap.size ≤ b) w W → Calls Tryd.prog 23 #[.pointer (some ⟨b1, 0, none⟩), .agg #[.int .i64 x.f0, .int .i64 x.f1, .slice A2 x.f2.length c2]] W fun e w' => e = .returned (.int .i64 (doS sab Cab x.f0 x.f1 x.f2).1) ∧ Dx w' b1 b2 (doS sab Cab x.f0 x.f1 x.f2).2.1 (i + 1) (doS sab Cab x.f0 x.f1 x.f2).2.2 ∧ Fr (fun b => b = b1 ∨ b = b2) W w') := ⟨fun W hd hf => do_at x A2 c2 i b1 b2 sab Cab w W hd SH.out (by unfold maxLen; omega) GK.out hf ⟨U.out.2.2.1, U.out.2.2.2.1⟩ GC.out GL.out HL.out⟩
        have HS := Aside0.mk (doS_short (s := sab) SH.out x.f0 x.f1 x.f2)
        obtain ⟨r, hr⟩ : ∃ r, doS sab Cab x.f0 x.f1 x.f2 = r := ⟨_, rfl⟩
        rw [hr] at HA HB HS
        clear hr
        go_wp2_with fail
        go_region_held3 (fun W => W.cell? (ad.add (i * 3)) = some (.int .i64 x.f0) ∧ W.cell? ⟨(ad.add (i * 3)).block, (ad.add (i * 3)).off + 1, none⟩ = some (.int .i64 x.f1) ∧ W.cell? ⟨(ad.add (i * 3)).block, (ad.add (i * 3)).off + 2, none⟩ = some (.slice A2 x.f2.length c2)) (first | exact ⟨x0, x1, x2⟩ | exact ⟨y0, y1, y2⟩ | exact ⟨z0, z1, z2⟩) (first
          | (go_at_call 23; (with_reducible refine (HA.out _ (Fr.of_below (by first | exact below_drew (Below.refl _ _) | exact Below.refl _ _))).mono ?_); rintro e w5 ⟨rfl, hD, hf⟩; have D5 := Aside0.mk hD; have G5 : Aside0 (Fr (fun b => b = a1 ∨ b = a2) wr w5) := ⟨((Fr.of_below (below_drew (Below.refl _ _))).trans hf)⟩; have F5 : Aside0 (Fr (fun b => w.heap.size ≤ b) w w5) := ⟨MF.out.trans (G5.out.mono (fun b hb => by have u := U.out; rcases hb with rfl | rfl; exact u.1; exact u.2.1))⟩; have E5 := Aside0.mk (DB.out.other DA.out G5.out (by have u := U.out; omega) (by have u := U.out; omega)); have hbw := F5.out.below (n := w.heap.size) (Nat.le_refl _) (fun _ h => h); have y0 := cell_keep hbw G.out.1; have y1 := cell_keep hbw G.out.2.1; have y2 := cell_keep hbw G.out.2.2; clear hbw hD hf)
          | (go_at_call 23; (with_reducible refine (HB.out w5 E5.out F5.out).mono ?_); rintro e w6 ⟨rfl, hD, hf⟩; have D6 := Aside0.mk hD; have G6 := Aside0.mk hf; have F6 : Aside0 (Fr (fun b => w.heap.size ≤ b) w w6) := ⟨F5.out.trans (hf.mono (fun b hb => by have u := U.out; rcases hb with rfl | rfl; exact u.2.2.1; exact u.2.2.2.1))⟩; have hbw := F6.out.below (n := w.heap.size) (Nat.le_refl _) (fun _ h => h); have z0 := cell_keep hbw G.out.1; have z1 := cell_keep hbw G.out.2.1; have z2 := cell_keep hbw G.out.2.2; clear hbw hD hf))
        go_wp2
        go_roundg (gk - 1)
        case measure => omega
        case rel => exact ⟨i + 1, by go_num, by omega, by omega, ⟨⟨F6.out, ⟨_, _, D5.out.other E5.out G6.out (by have u := U.out; omega) (by have u := U.out; omega), D6.out, HS.out⟩, by
          obtain ⟨s, C, hc, hs⟩ := MC.out
          have u := U.out
          exact ⟨s, C, (hc.other DA.out G5.out (by omega) (by omega)).other E5.out G6.out (by omega) (by omega), hs⟩⟩⟩⟩
    · obtain ⟨s, C, sa, sb, hsh⟩ := T.out.ab
      have FT := Aside0.mk T.out.fr
      obtain ⟨_, ta, _⟩ := sa
      obtain ⟨_, tb, _⟩ := sb
      have SA := Aside0.mk ta
      have SB := Aside0.mk tb
      clear ta tb hsh T
      by_cases h1 : i < l0.length
      · have q1 : decide ((i : Int) < (l0.length : Int)) = true := decide_eq_true (by omega)
        have q2 : decide ((i : Int) < 60) = false := decide_eq_false (by omega)
        go_wp2_with (first
          | (go_at_call 19; refine (told_law wr (HL.out.below (FT.out.below (Nat.le_refl _) (fun _ h => h)) (Nat.le_refl _))).mono ?_; rintro e w10 ⟨rfl, hb⟩; have f : Fr (fun _ => False) wr w10 := Fr.of_below hb; have S6 := Aside0.mk (SA.out.kept f (fun h => h)); have S7 := Aside0.mk (SB.out.kept f (fun h => h)); have F6 := Aside0.mk (FT.out.trans (Fr.not f)); clear f hb)
          | (go_at_call 20; first | (refine (writes_calls s a1 a2 w10 S6.out).mono ?_; rintro e w11 ⟨rfl, rfl⟩) | (refine (writes_calls s b1 b2 w10 S7.out).mono ?_; rintro e w11 ⟨rfl, rfl⟩))
          | (go_at_call 21; first | (refine (down_calls s a1 a2 w10 S6.out).mono ?_; rintro e w11 ⟨rfl, rfl⟩) | (refine (down_calls s b1 b2 w10 S7.out).mono ?_; rintro e w11 ⟨rfl, rfl⟩))
          | (go_at_call 22; first | (refine (life_calls s a1 a2 w10 S6.out).mono ?_; rintro e w11 ⟨rfl, rfl⟩) | (refine (life_calls s b1 b2 w10 S7.out).mono ?_; rintro e w11 ⟨rfl, rfl⟩)))
        go_ret
        exact ⟨rfl, F6.out.below (Nat.le_refl _) (fun _ h => h)⟩
      · have q1 : decide ((i : Int) < (l0.length : Int)) = false := decide_eq_false (by omega)
        go_wp2_with (first
          | (go_at_call 19; refine (told_law wr (HL.out.below (FT.out.below (Nat.le_refl _) (fun _ h => h)) (Nat.le_refl _))).mono ?_; rintro e w10 ⟨rfl, hb⟩; have f : Fr (fun _ => False) wr w10 := Fr.of_below hb; have S6 := Aside0.mk (SA.out.kept f (fun h => h)); have S7 := Aside0.mk (SB.out.kept f (fun h => h)); have F6 := Aside0.mk (FT.out.trans (Fr.not f)); clear f hb)
          | (go_at_call 20; first | (refine (writes_calls s a1 a2 w10 S6.out).mono ?_; rintro e w11 ⟨rfl, rfl⟩) | (refine (writes_calls s b1 b2 w10 S7.out).mono ?_; rintro e w11 ⟨rfl, rfl⟩))
          | (go_at_call 21; first | (refine (down_calls s a1 a2 w10 S6.out).mono ?_; rintro e w11 ⟨rfl, rfl⟩) | (refine (down_calls s b1 b2 w10 S7.out).mono ?_; rintro e w11 ⟨rfl, rfl⟩))
          | (go_at_call 22; first | (refine (life_calls s a1 a2 w10 S6.out).mono ?_; rintro e w11 ⟨rfl, rfl⟩) | (refine (life_calls s b1 b2 w10 S7.out).mono ?_; rintro e w11 ⟨rfl, rfl⟩)))
        go_ret
        exact ⟨rfl, F6.out.below (Nat.le_refl _) (fun _ h => h)⟩
open Classical in
noncomputable def tributarylaw7_DiskApart.f (l0 l1 : List ActT) : Option Bool := if okAll l0 ∧ okAll l1 then some true else none
theorem tributarylaw7_DiskApart.calls (A0 : Option Addr) (c0 : Nat) (l0 : List ActT) (A1 : Option Addr) (c1 : Nat) (l1 : List ActT) (r : Bool) (w : World) (hr0 : Kd.C k32 w A0 l0.length l0) (hc0 : l0.length ≤ c0) (hr1 : Kd.C k32 w A1 l1.length l1) (hc1 : l1.length ≤ c1) (hL : Laid w) (h : tributarylaw7_DiskApart.f l0 l1 = some r) :
    Calls Tryd.prog 5 #[.slice A0 l0.length c0, .slice A1 l1.length c1] w fun e w' => e = .returned (.bool r) ∧ Below w.heap.size w w' := by
  unfold tributarylaw7_DiskApart.f at h
  by_cases hk : okAll l0 ∧ okAll l1
  · rw [if_pos hk] at h
    obtain rfl := Option.some.inj h
    exact diskApart_law A0 c0 l0 A1 c1 l1 w hr0 hc0 hr1 hc1 hL hk.1 hk.2
  · rw [if_neg hk] at h; cases h
end Go.Proofs.YtemnnnjlllgeeaaDoor.PDsq
