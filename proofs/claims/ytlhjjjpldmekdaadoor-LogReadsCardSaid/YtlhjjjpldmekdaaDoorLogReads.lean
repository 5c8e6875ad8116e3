/- Proved: the law LogReads returns true for all blocks that fit: the walk. -/
import Derived.Test.YtlhjjjpldmekdaaDoorLogP
import Derived.Deep.RegionHeld3
import Derived.Deep.QuietTactic
import Derived.BigQuiet
namespace Go.Proofs.YtlhjjjpldmekdaaDoor.PLg
open Go.RowKit Go.Proofs.YtlhjjjpldmekdaaDoorW.PrintWords Go.Proofs.YtlhjjjpldmekdaaDoorW.PrintLast Go.Proofs.YtlhjjjpldmekdaaDoorW.PrintMore Go.Proofs.YtlhjjjpldmekdaaDoor.Err Go.Maps Go.Proofs.YtlhjjjpldmekdaaDoor.PLog Go.Proofs.YtlhjjjpldmekdaaDoor.PDsk Go.Proofs.YtlhjjjpldmekdaaDoor.PDsk.K
attribute [local go_sem] max2_int min2_int max_two min_two max_three min_three max_four min_four
set_option linter.unusedVariables false
set_option linter.unusedSimpArgs false
namespace Reads
def okRecs (l : List (List Int)) : Prop := ∀ x ∈ l, ∀ y ∈ x, 0 ≤ y ∧ y ≤ 255
theorem okRecs.get {l : List (List Int)} (h : okRecs l) (i : Nat) (hi : i < l.length) : ∀ y ∈ l.getD i [], 0 ≤ y ∧ y ≤ 255 := by
  rw [List.getD_eq_getElem?_getD, List.getElem?_eq_getElem hi]
  exact h _ (List.getElem_mem hi)
theorem openGo_bd' (C : CT) (d : Nat) : ∀ (p : Nat) (out : List (List Int)) (row : List Int) (k next : Nat), out.length ≤ next → next ≤ p → (openGo C d p out row k next).1.length ≤ (openGo C d p out row k next).2 ∧ (openGo C d p out row k next).2 ≤ p + d := by
  induction d with
  | zero => intro p out row k next h1 h2; exact ⟨h1, h2⟩
  | succ d ih =>
    intro p out row k next h1 h2
    rw [openGo_succ]
    cases hc : C (p : Int) with
    | none => exact ⟨h1, by show next ≤ _; omega⟩
    | some raw =>
      simp only
      cases hp : parse raw ((out.length : Int) + 1) (k : Int) with
      | none => exact ⟨h1, by show next ≤ _; omega⟩
      | some y =>
        obtain ⟨data, last⟩ := y
        cases last with
        | true =>
          simp only [if_true]
          have := ih (p + 1) (out ++ [row ++ data]) [] 0 (p + 1) (by simp; omega) (Nat.le_refl _)
          exact ⟨this.1, by omega⟩
        | false =>
          simp only [Bool.false_eq_true, if_false]
          have := ih (p + 1) out (row ++ data) (k + 1) next h1 (by omega)
          exact ⟨this.1, by omega⟩
theorem opened_bd' {C : CT} {R : Nat} {out : List (List Int)} {next : Nat} (h : opened C R = (out, next)) : out.length ≤ next ∧ next ≤ R := by
  have := openGo_bd' C R 0 [] [] 0 0 (Nat.le_refl _) (Nat.le_refl _)
  unfold opened at h
  rw [h] at this
  simpa using this
/-- What writing into rows of one's own turns: rows of bytes that were made between b1 and b2. -/
structure WI (b1 b2 : Nat) (W wr : World) : Prop where
  fr : Fr (fun (b : Nat) => b1 ≤ b ∧ b < b2 ∧ ∃ cur, W.heap[b]? = some (.cells cur 5 (0, 0))) W wr
  sz : ∀ (b : Nat) (cur : Array Value), W.heap[b]? = some (.cells cur 5 (0, 0)) → ∃ cur' : Array Value, wr.heap[b]? = some (.cells cur' 5 (0, 0)) ∧ cur'.size = cur.size
theorem WI.refl (b1 b2 : Nat) (W : World) : WI b1 b2 W W := ⟨Fr.refl _ _, fun b cur h => ⟨cur, h, rfl⟩⟩
theorem WI.elem {b1 b2 : Nat} {W wr : World} {A : Option Addr} {c : Nat} {out : List (List Int)} (h : WI b1 b2 W wr) (g : Rs W b1 (fun k => k < b2) (.slice A out.length c) out) (i : Nat) (hi : i < out.length) :
    ∃ (G : Nat) (A9 : Option Addr) (c9 : Nat), A = some ⟨G, 0, none⟩ ∧ wr.cell? ⟨G, i, none⟩ = some (.slice A9 (out.getD i []).length c9) ∧ ∀ k, k < (out.getD i []).length → ∃ (q : Nat) (old : Value), A9 = some ⟨q, 0, none⟩ ∧ wr.cell? ⟨q, k, none⟩ = some old ∧ wr.frozen? ⟨q, k, none⟩ = false ∧ ∀ u, WI b1 b2 W (wr.setCell ⟨q, k, none⟩ u) := by
  obtain ⟨G, cap, hv, hG1, hG2, cells, hG3⟩ := Kd.R_form g (by omega)
  injection hv with hA _ _
  subst hA
  obtain ⟨cl, hcl, hM, hcell, _⟩ := Kd.R_elem g [] (i : Int) (by omega) (by omega)
  rw [Int.toNat_natCast] at hM hcell
  obtain ⟨v, rfl, hR⟩ := hM
  obtain ⟨A9, c9, rfl⟩ := Kd.R_slice hR
  have hc := hcell 0 _ rfl
  rw [show i * KR.sz + 0 = i from Nat.mul_one i] at hc
  have hnG : ¬ (b1 ≤ G ∧ G < b2 ∧ ∃ cur, W.heap[G]? = some (.cells cur 5 (0, 0))) := by
    rintro ⟨_, _, cur, e⟩
    rw [hG3] at e
    injection e with e
    injection e with _ e
    exact absurd e (by decide)
  refine ⟨G, A9, c9, rfl, ?_, fun k hk => ?_⟩
  · have := h.fr.block G hG2 hnG
    simp only [World.cell?] at hc ⊢
    rw [this]; exact hc
  · obtain ⟨q, cap2, hv2, hq1, hq2, cells2, hq3⟩ := Kd.R_form hR (by omega)
    injection hv2 with hA2 _ hc2
    subst hA2
    have hqok : q < b2 := (hR.1 q (by simp [Value.ownBlock])).1
    obtain ⟨_, inner, hown, _⟩ := hR
    have hsz : (out.getD i []).length ≤ cells2.size := by
      rcases hown.2 with ⟨e, h0⟩ | ⟨q', cap', cur, e, _, hh, r⟩
      · omega
      · injection e with e1 e2 e3
        injection e1 with e1
        injection e1 with e1 _ _
        subst e1
        rw [hq3] at hh
        injection hh with hh
        injection hh with hh _
        subst hh
        have h3 := r.1
        have h4 : cells2.size = cap' * 1 := r.2.2.1
        omega
    obtain ⟨cur', hq4, hcs⟩ := h.sz q cells2 hq3
    have hlt : k < cur'.size := by omega
    refine ⟨q, cur'[k], rfl, Err.blk_cell hq4 k _ (by simp [hlt]), blk_frozen hq4 k, fun u => ⟨h.fr.set_ ⟨hq1, hqok, cells2, hq3⟩ u, fun b cur hb => ?_⟩⟩
    obtain ⟨c', h1, h2⟩ := h.sz b cur hb
    by_cases e : b = q
    · subst e
      have := Go.heap_setCell_same wr b k _ _ u h1
      exact ⟨_, this, by simp [h2]⟩
    · exact ⟨c', (Below.heap_setCell wr ⟨q, k, none⟩ u b e).trans h1, h2⟩
theorem rec_len {w : World} {base : Nat} {ok : Nat → Prop} {A : Option Addr} {c : Nat} {out : List (List Int)} (g : Rs w base ok (.slice A out.length c) out) (i : Nat) (hi : i < out.length) : (out.getD i []).length ≤ 9223372036854775807 := by
  obtain ⟨ad, A0, c0, _, _, _, h⟩ := at_B (Kd.R_reads' g).2.2 i hi
  exact h.2.1
theorem WI.rows {b1 b2 : Nat} {W wr : World} {ok : Nat → Prop} {v : Value} {xs : List (List Int)} (h : WI b1 b2 W wr) (g : Rs W b2 ok v xs) : Rs wr b2 ok v xs :=
  Kd.R_mono (Kd.R_step (Kd.R_bound g) (fun k hk hlt => h.fr.block k hlt (fun hs => by have := hk.2.1; omega))) (fun _ hk => hk.1)
/-- What is at hand in the loop of blocks. -/
structure RdI (w0 w : World) (a1 a2 B0 B1 B2 n : Nat) (s : Dk) (C : CT) : Prop where
  p : PlB w0 w a1 a2 B0 B1 B2 n s C 40
  st : s.down = false ∧ s.life = 0 ∧ s.armed = 0
theorem okC.upd' {C : CT} (h : okC C) (kept : Bool) (k : Int) (l : List Int) (hl : l.length ≤ 64) (hb : ∀ x ∈ l, 0 ≤ x ∧ x ≤ 255) : okC (if kept = true then updC C k l else C) := by
  cases kept with
  | true => exact h.upd k l hl hb
  | false => exact h
set_option maxHeartbeats 32000000 in
set_option maxRecDepth 100000 in
theorem logReads_law (A0 : Option Addr) (c0 : Nat) (l0 : List (List Int)) (w : World) (hr0 : KR.C w A0 l0.length l0) (hc0 : l0.length ≤ c0) (hL : Laid w) (ok0 : okRecs l0) :
    Calls Tryd.prog 3 #[.slice A0 l0.length c0] w fun e w' => e = .returned (.bool true) ∧ Below w.heap.size w w' := by
  have HL := Aside0.mk hL
  have R0 := Aside0.mk hr0
  have K0 := Aside0.mk ok0
  clear hL hr0 ok0
  go_enter Tryd.func3, Tryd.ntmps3
  go_wp2_with fail
  refine (new_dx ((40 : Nat) : Int) w (by decide) (by decide)).mono ?_
  rintro e w1 ⟨a1, a2, rfl, hD, hu, hb⟩
  have D1 := Aside0.mk hD
  have U1 := Aside0.mk hu
  have B1' := Aside0.mk hb
  clear hD hu hb
  go_wp2_with fail
  refine (rnew 40 (by decide) (by decide) w1).mono ?_
  rintro e w2 ⟨B0, B1, B2, rfl, hR, hu, hb⟩
  have I0 : Aside0 (RdI w w2 a1 a2 B0 B1 B2 0 ⟨((40 : Nat) : Int), false, 0, 0, 0⟩ (fun _ => none)) := ⟨⟨by
    have h1 := U1.out
    have h2 := D1.out.lt
    have h3 := B1'.out.size
    exact ⟨Fr.of_below (B1'.out.trans (hb.mono B1'.out.size)), D1.out.below hb, hR, rfl, okC.none, by omega⟩, rfl, rfl, rfl⟩⟩
  clear hR hu hb D1 U1 B1'
  go_wp2
  go_loopg [6] 40 (fun kq v6 wr => ∃ (i : Nat) (s : Dk) (C : CT), v6 = .int .i64 (i : Int) ∧ i ≤ 40 ∧ 40 - i ≤ kq ∧ Aside0 (RdI w wr a1 a2 B0 B1 B2 i s C))
  case atStart => exact ⟨0, _, _, rfl, by omega, by omega, I0⟩
  case round =>
    obtain ⟨i, s, C, rfl, hi, hk, K⟩ := hrel
    clear I0
    by_cases hlt : i < l0.length ∧ i < 40
    · have q1 : decide ((i : Int) < (l0.length : Int)) = true := decide_eq_true (by omega)
      have q2 : decide ((i : Int) < 40) = true := decide_eq_true (by omega)
      have hbw := K.out.p.fr.below (n := w.heap.size) (Nat.le_refl _) (fun _ h => h)
      have hxx := K0.out.get i hlt.1
      obtain ⟨ad, A5, c5, rfl, m0, t0, r0⟩ := at_B R0.out i hlt.1
      obtain ⟨x, hx⟩ : ∃ x, l0.getD i [] = x := ⟨_, rfl⟩
      rw [hx] at m0 t0 r0 hxx
      have x0 := cell_keep hbw m0
      obtain ⟨t, ht, ht3, hte, htl, hm1, hm2, hm3, hcut⟩ := take_n 64 64 rfl A5 c5 x t0
      have hC3 := Kd.C_take (m := t) r0 htl
      have hbb : ∀ y ∈ x.take 64, 0 ≤ y ∧ y ≤ 255 := fun y hy => hxx y (List.mem_of_mem_take hy)
      rw [hte] at hC3
      obtain ⟨b, hb⟩ : ∃ b, x.take 64 = b := ⟨_, rfl⟩
      rw [hb] at ht hC3 hbb
      subst ht
      have HC3 := Aside0.mk hC3
      have HBB := Aside0.mk hbb
      have HBC : Aside0 (b.length ≤ c5) := ⟨by omega⟩
      have H3 := Aside0.mk ht3
      have p0 : (0 : Int) ≤ (i : Int) := by omega
      have p1 : (i : Int) < (l0.length : Int) := by omega
      clear hC3 hbb hte hb htl ht3 hx m0 t0 r0 hxx hbw
      go_wp2_with fail
      go_quiet (fail)
      have K1 : Aside0 (RdI w (wr.drewN nq) a1 a2 B0 B1 B2 i s C) := ⟨⟨K.out.p.below (pw_below_drewN (Below.refl wr.heap.size wr) nq), K.out.st⟩⟩
      obtain ⟨w5, hw5⟩ : ∃ w5, wr.drewN nq = w5 := ⟨_, rfl⟩
      rw [hw5] at K1 ⊢
      clear hw5
      have CX := Aside0.mk (Kd.C_below HC3.out (K1.out.p.fr.below (n := w.heap.size) (Nat.le_refl _) (fun _ h => h)))
      have QA := Aside0.mk (write_dx K1.out.p.d (i : Int) A5 c5 b.length b K1.out.p.freshD (by unfold maxLen; omega) (by unfold okI; omega) rfl CX.out HBC.out (by have := H3.out; omega))
      have QB := Aside0.mk (fun (W : World) (hd : RD W (fun b => b ≠ B0 ∧ b ≠ B1 ∧ b ≠ B2) B0 B1 B2 s C) (hC : (Kd.int .u8).C W A5 b.length b) => rwrite hd (i : Int) A5 c5 b.length b rfl hC HBC.out (by have := H3.out; omega) (fun k hk => by have := hd.lt; omega))
      have hw := wrS_on (s := s) (a := (i : Int)) (n := (b.length : Int)) K1.out.st.1 (by omega) (by rw [K1.out.p.room]; omega) (by have := H3.out; omega) (by rw [K1.out.st.2.2]; omega)
      have hrm := wrS_room s (i : Int) (b.length : Int)
      have hlf := wrS_life s (i : Int) (b.length : Int)
      obtain ⟨⟨er, s2, kp⟩, hr⟩ : ∃ r, wrS s (i : Int) (b.length : Int) = r := ⟨_, rfl⟩
      rw [hr] at QA QB hw hrm hlf
      have hst : er = none ∧ s2.down = false ∧ s2.life = 0 ∧ s2.armed = 0 := by
        rcases hw with ⟨h1, _⟩ | ⟨h1, h2, h3, h4, h5⟩
        · rw [K1.out.st.2.2] at h1; exact absurd h1 (by decide)
        · exact ⟨h2, h3, (hlf h2).1.trans K1.out.st.2.1, h4.trans (by rw [K1.out.st.2.2]; rfl)⟩
      obtain ⟨rfl, hst⟩ := hst
      have HST := Aside0.mk hst
      have HRM := Aside0.mk (show s2.room = s.room from hrm)
      clear hr hw hrm hlf hst hcut hm1 hm2 hm3 x0 p0 p1 K
      go_wp2_with fail
      refine QA.out.mono ?_
      rintro e w6 ⟨v6, rfl, hE, hD, hf, hN⟩
      have HD := Aside0.mk hD
      have HF := Aside0.mk hf
      have RK := Aside0.mk (K1.out.p.rkept hf)
      have C6 := Aside0.mk (K1.out.p.d.bytes hf CX.out)
      clear hE hD hf hN QA
      go_wp2_with fail
      refine (QB.out w6 RK.out C6.out).mono ?_
      rintro e w7 ⟨rfl, hR, hf2⟩
      have K2 := Aside0.mk (K1.out.p.both HD.out HF.out hR hf2 HRM.out (okC.upd' K1.out.p.okc kp (i : Int) b H3.out HBB.out))
      clear hR hf2 QB HD HF RK C6 CX K1
      go_wp2
      go_roundg (gk - 1)
      case measure => omega
      case rel => exact ⟨i + 1, s2, _, by go_num, by omega, by omega, ⟨⟨K2.out, HST.out⟩⟩⟩
    · have q : (i < l0.length ∧ decide ((i : Int) < (l0.length : Int)) = true ∧ decide ((i : Int) < 40) = false) ∨ (¬ i < l0.length ∧ decide ((i : Int) < (l0.length : Int)) = false) := by
        by_cases h1 : i < l0.length
        · exact Or.inl ⟨h1, decide_eq_true (by omega), decide_eq_false (by omega)⟩
        · exact Or.inr ⟨h1, decide_eq_false (by omega)⟩
      have PB := Aside0.mk K.out.p
      have DN := Aside0.mk K.out.st.1
      clear K
      obtain ⟨s1, hs1⟩ : ∃ s1, wr.heap.size = s1 := ⟨_, rfl⟩
      have D1 : Aside0 (Dx wr (fun b => (b ≠ a1 ∧ b ≠ a2) ∧ b < s1) a1 a2 s i C) := ⟨PB.out.d.mono (fun b hb hlt => ⟨hb, by omega⟩) (fun h => h.1.1 rfl) (fun h => h.1.2 rfl)⟩
      have A1' : Aside0 (a1 < s1 ∧ a2 < s1 ∧ w.heap.size ≤ s1) := ⟨by have := PB.out.d.lt; have := PB.out.fr.size; omega⟩
      have HS1 := Aside0.mk hs1
      have QO := Aside0.mk (open_ok (fun b => (b ≠ a1 ∧ b ≠ a2) ∧ b < s1) a1 a2 i 40 s C wr D1.out DN.out PB.out.room (by decide) PB.out.okc)
      clear hs1
      rcases q with ⟨h1, q1, q2⟩ | ⟨h1, q1⟩
      all_goals
        go_wp2_with fail
        refine QO.out.mono ?_
        rintro e w5 ⟨Bl, vo, out, next, rfl, ho, hLx, hge, hR, hb⟩
        rw [HS1.out] at hR
        obtain ⟨s2, hs2⟩ : ∃ s2, w5.heap.size = s2 := ⟨_, rfl⟩
        have HO := Aside0.mk ho
        have HBD := Aside0.mk (opened_bd' ho)
        have LX := Aside0.mk hLx
        have P5 := Aside0.mk (PB.out.below hb)
        have D5 := Aside0.mk (D1.out.below hb)
        have RO : Aside0 (Rs w5 s1 (fun k => k < s2) vo out) := ⟨Kd.R_mono (Kd.R_bound hR) (fun k hk => by have := hk.2.2.1; omega)⟩
        obtain ⟨A6, c6, rfl⟩ := Kd.R_slice hR
        clear ho hLx hge hR hb D1 PB QO
        have QO := Aside0.mk (open8_ok (fun b => b ≠ B0 ∧ b ≠ B1 ∧ b ≠ B2) B0 B1 B2 40 s C w5 P5.out.r DN.out P5.out.room (by decide) P5.out.okc)
        go_wp2_with fail
        refine QO.out.mono ?_
        rintro e w6 ⟨Bm, vo, out2, next2, rfl, ho, hLr, hge, hR, hb⟩
        rw [HO.out] at ho
        obtain ⟨rfl, rfl⟩ := Prod.mk.inj ho
        have P6 := Aside0.mk (P5.out.below hb)
        have D6 := Aside0.mk (D5.out.below hb)
        have L6 := Aside0.mk (LX.out.below hb)
        have R6 := Aside0.mk (Kd.R_below RO.out hb)
        have LR := Aside0.mk hLr
        rw [hs2] at hR
        have RP := Aside0.mk hR
        obtain ⟨A7, c7, rfl⟩ := Kd.R_slice hR
        obtain ⟨l0', l1', l2', l3'⟩ := facts4 hLr
        have QS := q_some (fun q => same_q A6 A7 c6 c7 out (w6.drewN q) (Kd.R_reads' R6.out).2.2 (Kd.R_reads' RP.out).2.2 (Kd.R_reads' R6.out).2.1 (Kd.R_reads' RP.out).2.1 (by have := HBD.out; omega))
        have QN := fun q => q_same (n := q) (len_calls (L6.out.below (pw_below_drewN (Below.refl _ _) q)))
        have QF := q_some (fun q => left_calls (L6.out.below (pw_below_drewN (Below.refl _ _) q)) (D6.out.below (pw_below_drewN (Below.refl _ _) q)))
        have QE := q_some (fun q => left8 (LR.out.below (pw_below_drewN (Below.refl _ _) q)) (P6.out.r.below (pw_below_drewN (Below.refl _ _) q)))
        obtain ⟨lf, hlf⟩ : ∃ lf, wrap64 (s.room - ((next : Nat) : Int)) = lf := ⟨_, rfl⟩
        rw [hlf] at QF QE
        have HQS := Aside0.mk QS
        have HQN := Aside0.mk QN
        have HQF := Aside0.mk QF
        have HQE := Aside0.mk QE
        clear ho hLr hge hR hb hs2 QO QS QN QF QE hlf l0' l1' l3' P5 D5 LX RO L6 LR
        go_wp2_with fail
        go_quiet (first | (go_at_call 22; exact HQS.out _) | (go_at_call 23; exact HQN.out _) | (go_at_call 24; exact HQF.out _) | (go_at_call 25; exact HQE.out _))
        have b7 := pw_below_drewN (Below.refl w6.heap.size w6) nq
        have P7 := Aside0.mk (P6.out.below b7)
        have D7 := Aside0.mk (D6.out.below b7)
        have R7 := Aside0.mk (Kd.R_below R6.out b7)
        have RP7 := Aside0.mk (Kd.R_below RP.out b7)
        obtain ⟨w7, hw7⟩ : ∃ w7, w6.drewN nq = w7 := ⟨_, rfl⟩
        rw [hw7] at P7 D7 R7 RP7 ⊢
        clear hw7 b7 P6 D6 R6 RP HQS HQN HQF HQE l2'
        have W0 := Aside0.mk (WI.refl s1 s2 w7)
        go_wp2
        go_loopg [14] (out.length + 1) (fun kq v14 wr => ∃ (j : Nat), v14 = .int .i64 (j : Int) ∧ j ≤ out.length ∧ out.length - j ≤ kq ∧ Aside0 (WI s1 s2 w7 wr))
        case atStart => exact ⟨0, rfl, by omega, by omega, W0⟩
        case round =>
          obtain ⟨j, rfl, hj, hk2, K⟩ := hrel
          clear W0
          obtain ⟨hob, hob2⟩ := HBD.out
          by_cases hlt2 : j < out.length
          · have q3 : decide ((j : Int) < (out.length : Int)) = true := decide_eq_true (by omega)
            obtain ⟨gO, hgO⟩ : ∃ gO, gO = gk := ⟨_, rfl⟩
            have HG := Aside0.mk hgO
            clear hgO
            obtain ⟨G, A9, c9, rfl, _, _⟩ := K.out.elem R7.out j hlt2
            go_wp2
            go_loopg [15] ((out.getD j []).length + 1) (fun kq v15 wr => ∃ (k : Nat), v15 = .int .i64 (k : Int) ∧ k ≤ (out.getD j []).length ∧ (out.getD j []).length - k ≤ kq ∧ Aside0 (WI s1 s2 w7 wr))
            case atStart => exact ⟨0, rfl, by omega, by omega, K⟩
            case round =>
              clear K
              obtain ⟨k, rfl, hk3, hk4, K⟩ := hrel
              obtain ⟨G', A9', c9', hG, hcell, hput⟩ := K.out.elem R7.out j hlt2
              injection hG with hG
              injection hG with hG _ _
              subst hG
              have HP := Aside0.mk hput
              obtain ⟨nl, hnl⟩ : ∃ nl, (out.getD j []).length = nl := ⟨_, rfl⟩
              rw [hnl] at hk3 hk4 hcell HP
              have HNL := Aside0.mk hnl
              have hnb := rec_len R7.out j hlt2
              rw [hnl] at hnb
              have p0 : (0 : Int) ≤ (j : Int) := by omega
              have p1 : (j : Int) < (out.length : Int) := by omega
              clear hput hnl
              by_cases hlt3 : k < nl
              · have q4 : decide ((k : Int) < (nl : Int)) = true := decide_eq_true (by omega)
                obtain ⟨q, old, rfl, hold, hfz, hset⟩ := HP.out k hlt3
                have HS := Aside0.mk hset
                have p2 : (0 : Int) ≤ (k : Int) := by omega
                have p3 : (k : Int) < (nl : Int) := by omega
                clear hset HP
                go_wp2
                go_roundg (gk - 1)
                case measure => omega
                case rel => exact ⟨k + 1, by go_num, by rw [HNL.out]; omega, by rw [HNL.out]; omega, ⟨HS.out _⟩⟩
              · have q4 : decide ((k : Int) < (nl : Int)) = false := decide_eq_false (by omega)
                clear HP
                go_wp2
                go_roundg (gO - 1)
                case measure => have := HG.out; omega
                case rel => exact ⟨j + 1, by go_num, by omega, by have := HG.out; omega, K⟩
          · have q3 : decide ((j : Int) < (out.length : Int)) = false := decide_eq_false (by omega)
            have D8 := Aside0.mk (D7.out.kept K.out.fr (fun h => by have := A1'.out; omega) (fun h => by have := A1'.out; omega) (fun b hb hF => by have := hF.2; have := hb.1; omega))
            have RP8 := Aside0.mk (K.out.rows RP7.out)
            have F8 : Aside0 (Fr (fun b => w.heap.size ≤ b) w wr) := ⟨P7.out.fr.trans (K.out.fr.mono (fun b hb => by have := A1'.out; have := hb.1; omega))⟩
            have L8 := Aside0.mk (laid_fr HL.out F8.out (fun h0 => by have := HL.out.lt; omega))
            have QO := Aside0.mk (open_ok (fun b => (b ≠ a1 ∧ b ≠ a2) ∧ b < s1) a1 a2 i 40 s C wr D8.out DN.out P7.out.room (by decide) P7.out.okc)
            clear D7 R7 RP7 K
            go_wp2_with fail
            refine QO.out.mono ?_
            rintro e wa ⟨Bn, vo, out2, next2, rfl, ho, hLx, hge, hR, hb⟩
            rw [HO.out] at ho
            obtain ⟨rfl, rfl⟩ := Prod.mk.inj ho
            have RPa := Aside0.mk (Kd.R_below RP8.out hb)
            have Fa := Aside0.mk (F8.out.trans (Fr.of_below hb))
            have La := Aside0.mk (L8.out.below hb (Nat.le_refl _))
            have ROa := Aside0.mk hR
            obtain ⟨A8, c8, rfl⟩ := Kd.R_slice hR
            clear ho hLx hge hR hb QO D8 RP8 F8 L8
            go_wp2_with fail
            refine (open_nil wa).mono ?_
            rintro e wb ⟨ve, rfl, hE, hb⟩
            have RPb := Aside0.mk (Kd.R_below RPa.out hb)
            have ROb := Aside0.mk (Kd.R_below ROa.out hb)
            have Fb := Aside0.mk (Fa.out.trans (Fr.of_below hb))
            have Lb := Aside0.mk (La.out.below hb (Nat.le_refl _))
            have Eb := Aside0.mk hE
            clear hE hb RPa ROa Fa La
            go_wp2_with fail
            refine (told_law wb Lb.out).mono ?_
            rintro e wc ⟨rfl, hb⟩
            have RPc := Kd.R_below RPb.out hb
            have ROc := Kd.R_below ROb.out hb
            have Fc := Aside0.mk (Fb.out.trans (Fr.of_below hb))
            have Lc := Aside0.mk (Lb.out.below hb (Nat.le_refl _))
            have Ec := Aside0.mk (IsErr.below hb (Nat.le_refl _) Eb.out)
            have S3 := Aside0.mk (same_eq A8 A7 c8 c7 out wc (Kd.R_reads' ROc).2.2 (Kd.R_reads' RPc).2.2 (Kd.R_reads' ROc).2.1 (Kd.R_reads' RPc).2.1 (by have := HBD.out; omega))
            clear hb RPc ROc RPb ROb Fb Lb Eb
            go_wp2_with fail
            refine S3.out.mono ?_
            rintro e wd ⟨rfl, hb⟩
            have Fd := Aside0.mk (Fc.out.trans (Fr.of_below hb))
            have CL := Aside0.mk (code_law (some (.fault logS 0 (.num 1))) ve wd (IsErr.below hb (Nat.le_refl _) Ec.out) (Lc.out.below hb (Nat.le_refl _)))
            clear hb S3 Fc Ec Lc
            go_wp2_with fail
            refine CL.out.mono ?_
            rintro e we ⟨rfl, hb⟩
            rw [show codeOf (some (Er.fault logS 0 (Er.num 1))) = 1 from rfl]
            have Fe := Aside0.mk (Fd.out.trans (Fr.of_below hb))
            clear hb CL Fd
            go_wp2
            go_ret
            exact ⟨rfl, Fe.out.below (Nat.le_refl _) (fun _ h => h)⟩
end Reads
open Classical in
noncomputable def tributarylaw8_LogReads.f (l0 : List (List Int)) : Option Bool := if Reads.okRecs l0 then some true else none
theorem tributarylaw8_LogReads.calls (A0 : Option Addr) (c0 : Nat) (l0 : List (List Int)) (r : Bool) (w : World) (hr0 : KR.C w A0 l0.length l0) (hc0 : l0.length ≤ c0) (hL : Laid w) (h : tributarylaw8_LogReads.f l0 = some r) :
    Calls Tryd.prog 3 #[.slice A0 l0.length c0] w fun e w' => e = .returned (.bool r) ∧ Below w.heap.size w w' := by
  unfold tributarylaw8_LogReads.f at h
  by_cases hk : Reads.okRecs l0
  · rw [if_pos hk] at h
    obtain rfl := Option.some.inj h
    exact Reads.logReads_law A0 c0 l0 w hr0 hc0 hL hk
  · rw [if_neg hk] at h; cases h
end Go.Proofs.YtlhjjjpldmekdaaDoor.PLg
