/- Proved: the law LogEach returns true for all records that fit: the walk. -/
import Derived.Test.YtlhjjjpldmekdaaDoorLogV
import Derived.Deep.RegionHeld3
import Derived.Deep.QuietTactic
import Derived.BigQuiet
namespace Go.Proofs.YtlhjjjpldmekdaaDoor.PLg
open Go.RowKit Go.Proofs.YtlhjjjpldmekdaaDoorW.PrintWords Go.Proofs.YtlhjjjpldmekdaaDoorW.PrintLast Go.Proofs.YtlhjjjpldmekdaaDoorW.PrintMore Go.Proofs.YtlhjjjpldmekdaaDoor.Err Go.Maps Go.Proofs.YtlhjjjpldmekdaaDoor.PLog Go.Proofs.YtlhjjjpldmekdaaDoor.PDsk Go.Proofs.YtlhjjjpldmekdaaDoor.PDsk.K
open Go.Proofs.YtlhjjjpldmekdaaDoor.PFn (log_Blocks.calls log_Blocks_f)
attribute [local go_sem] max2_int min2_int max_two min_two max_three min_three max_four min_four
set_option linter.unusedVariables false
set_option linter.unusedSimpArgs false

def okRecs (l : List (List Int)) : Prop := ∀ x ∈ l, ∀ y ∈ x, 0 ≤ y ∧ y ≤ 255
theorem okRecs.get {l : List (List Int)} (h : okRecs l) (i : Nat) (hi : i < l.length) : ∀ y ∈ l.getD i [], 0 ≤ y ∧ y ≤ 255 := by
  rw [List.getD_eq_getElem?_getD, List.getElem?_eq_getElem hi]
  exact h _ (List.getElem_mem hi)
/-- The law's state: i records have come, of Bk blocks in all. -/
structure EvI (w0 w : World) (a1 a2 Bl n i Bk m : Nat) (s : Dk) (C : CT) (v : Value) (l : List (List Int)) : Prop where
  lg : LgB w0 w a1 a2 Bl n s C 0 l 200
  row : RsF w0 w w0.heap.size (fun _ => True) v l
  len : l.length ≤ i
  num : n ≤ 6 * i
  bk : Bk ≤ 6 * i
  nd : need l ≤ Bk
  on : (m = 0 ∨ Bk < m) → s.down = false ∧ s.life = 0 ∧ s.armed = (if m = 0 then 0 else (m : Int) - (Bk : Int))
  off : ¬ (m = 0 ∨ Bk < m) → s.down = true
theorem EvI.next {w0 w : World} {a1 a2 Bl n i Bk m : Nat} {s : Dk} {C : CT} {v : Value} {l : List (List Int)} {b : List Int} (h : EvI w0 w a1 a2 Bl n i Bk m s C v l) (hb : b.length ≤ 300) (hbb : ∀ x ∈ b, 0 ≤ x ∧ x ≤ 255) (hm : m ≤ 63) (hi : i < 12) :
    ((appS s C 0 l.length (need l) b).1 = none ↔ (m = 0 ∨ Bk + nB b.length < m)) ∧ ∀ (w' : World) (v' : Value), LgB w0 w' a1 a2 Bl (n + nB b.length) (appS s C 0 l.length (need l) b).2.1 (appS s C 0 l.length (need l) b).2.2 0 (nxt (appS s C 0 l.length (need l) b).1 l b) 200 → RsF w0 w' w0.heap.size (fun _ => True) v' (nxt (appS s C 0 l.length (need l) b).1 l b) → EvI w0 w' a1 a2 Bl (n + nB b.length) (i + 1) (Bk + nB b.length) m (appS s C 0 l.length (need l) b).2.1 (appS s C 0 l.length (need l) b).2.2 v' (nxt (appS s C 0 l.length (need l) b).1 l b) := by
  have h6 := nB_300 b.length hb
  have hpos := nB_pos b.length
  have hroom := h.lg.d.room
  have h1 := h.len; have h2 := h.num; have h3 := h.bk; have h4 := h.nd
  have hfacts := appS_facts s C 0 l.length (need l) b (by omega) (by omega) hbb h.lg.d.okc
  by_cases hon : m = 0 ∨ Bk < m
  · obtain ⟨d1, d2, d3⟩ := h.on hon
    have harm := appS_armed (s := s) (C := C) (life := 0) (recs := l.length) (next := need l) (b := b) d1 d2 (by omega) (by omega) (by rw [hroom]; omega) (by rw [d3]; split <;> omega)
    by_cases hon2 : m = 0 ∨ Bk + nB b.length < m
    · obtain ⟨q1, q2, q3⟩ := harm.1 (by rw [d3]; split <;> omega)
      refine ⟨⟨fun _ => hon2, fun _ => q1⟩, fun w' v' hlg hrow => ⟨hlg, hrow, ?_, by omega, by omega, ?_, fun _ => ⟨q2, (hfacts.2.1 q1).trans d2, ?_⟩, fun hn => absurd hon2 hn⟩⟩
      · rw [q1]; show (l ++ [b]).length ≤ i + 1; simp; omega
      · rw [q1]; show need (l ++ [b]) ≤ _; rw [need_snoc]; omega
      · rw [q3, d3]; split <;> split <;> omega
    · obtain ⟨⟨x, q1⟩, q2⟩ := harm.2 (by rw [d3]; split <;> omega)
      refine ⟨⟨(fun hc => by rw [q1] at hc; cases hc), fun hc => absurd hc hon2⟩, fun w' v' hlg hrow => ⟨hlg, hrow, ?_, by omega, by omega, ?_, fun hc => absurd hc hon2, fun _ => q2⟩⟩
      · rw [q1]; show l.length ≤ i + 1; omega
      · rw [q1]; show need l ≤ _; omega
  · have hd := h.off hon
    have e := appS_down (s := s) (C := C) (life := 0) (recs := l.length) (next := need l) (b := b) hd
    rw [e]
    refine ⟨⟨(fun hc => by cases hc), fun hc => absurd hc (by omega)⟩, fun w' v' hlg hrow => ⟨hlg, hrow, ?_, by omega, by omega, ?_, fun hc => absurd hc (by omega), fun _ => hd⟩⟩
    · show l.length ≤ i + 1; omega
    · show need l ≤ _; omega
set_option maxHeartbeats 16000000 in
set_option maxRecDepth 100000 in
theorem logEach_law (A0 : Option Addr) (c0 : Nat) (l0 : List (List Int)) (a1_ : Int) (A2 : Option Addr) (c2 : Nat) (l2 : List Int) (w : World) (hr0 : KR.C w A0 l0.length l0) (hc0 : l0.length ≤ c0) (hr2 : (Kd.int .u8).C w A2 l2.length l2) (hc2 : l2.length ≤ c2) (hL : Laid w) (ok0 : okRecs l0) (ok2 : ∀ y ∈ l2, 0 ≤ y ∧ y ≤ 255) :
    Calls Tryd.prog 5 #[.slice A0 l0.length c0, .int .i64 a1_, .slice A2 l2.length c2] w fun e w' => e = .returned (.bool true) ∧ Below w.heap.size w w' := by
  have HL := Aside0.mk hL
  have R0 := Aside0.mk hr0
  have R2 := Aside0.mk hr2
  have K0 := Aside0.mk ok0
  have K2 := Aside0.mk ok2
  obtain ⟨m, hm, hm63⟩ : ∃ m : Nat, Go.bits .and .i64 a1_ 63 = (m : Int) ∧ m ≤ 63 := ⟨(a1_ % 64).toNat, by rw [i64_and63]; omega, by omega⟩
  clear hL hr0 ok0 hr2 ok2
  go_enter Tryd.func5, Tryd.ntmps5
  go_wp2_with fail
  refine (new_dx ((200 : Nat) : Int) w (by decide) (by decide)).mono ?_
  rintro e w1 ⟨a1, a2, rfl, hD, hu, hb⟩
  have D1 := Aside0.mk (DkB.new hD hu hb (by decide))
  clear hD hu hb
  go_wp2_with fail
  refine (D1.out.open rfl).mono ?_
  rintro e w2 ⟨Bl, vout, rfl, hR, hb, K⟩
  have L2 := Aside0.mk K
  obtain ⟨A4, c4, rfl⟩ := Kd.R_slice hR
  clear hR hb K D1
  go_wp2_with fail
  refine (arm_dx L2.out.d.dx (m : Int)).mono ?_
  rintro e w3 ⟨rfl, hD, hf⟩
  have I0 : Aside0 (EvI w w3 a1 a2 Bl 0 0 0 m (armS ⟨((200 : Nat) : Int), false, 0, 0, 0⟩ (m : Int)) (fun _ => none) (.slice none 0 0) []) := ⟨L2.out.call hD hf rfl, Kd.R_nil _ _ _ _ _, by simp, by simp, by simp, by simp [need], fun _ => ⟨rfl, rfl, by
    show (if (m : Int) < 0 then (0 : Int) else (m : Int)) = _
    split <;> split <;> omega⟩, fun h => absurd h (by omega)⟩
  clear hD hf L2 hm
  go_wp2
  go_loopg [12, 13, 14] 12 (fun kq v12 v13 v14 wr => ∃ (i Bk n : Nat) (s : Dk) (C : CT) (l : List (List Int)) (A12 : Option Addr) (c12 : Nat), v12 = .slice A12 l.length c12 ∧ v13 = .int .i64 (Bk : Int) ∧ v14 = .int .i64 (i : Int) ∧ i ≤ 12 ∧ 12 - i ≤ kq ∧ Aside0 (EvI w wr a1 a2 Bl n i Bk m s C (.slice A12 l.length c12) l))
  case atStart => exact ⟨0, 0, 0, _, _, [], none, 0, rfl, rfl, rfl, by omega, by omega, I0⟩
  case round =>
    obtain ⟨i, Bk, n, s, C, l, A12, c12, rfl, rfl, rfl, hi, hk, K⟩ := hrel
    clear I0
    by_cases hlt : i < l0.length ∧ i < 12
    · have q1 : decide ((i : Int) < (l0.length : Int)) = true := decide_eq_true (by omega)
      have q2 : decide ((i : Int) < 12) = true := decide_eq_true (by omega)
      have hbw := K.out.lg.d.fr.below (n := w.heap.size) (Nat.le_refl _) (fun _ h => h)
      have hxx := K0.out.get i hlt.1
      obtain ⟨ad, A5, c5, rfl, m0, t0, r0⟩ := at_B R0.out i hlt.1
      obtain ⟨x, hx⟩ : ∃ x, l0.getD i [] = x := ⟨_, rfl⟩
      rw [hx] at m0 t0 r0 hxx
      have x0 := cell_keep hbw m0
      obtain ⟨t, ht, ht3, hte, htl, hm1, hm2, hm3, hcut⟩ := take_n 300 300 rfl A5 c5 x t0
      have hC3 := Kd.C_take (m := t) r0 htl
      have hbb : ∀ y ∈ x.take 300, 0 ≤ y ∧ y ≤ 255 := fun y hy => hxx y (List.mem_of_mem_take hy)
      rw [hte] at hC3
      obtain ⟨b, hb⟩ : ∃ b, x.take 300 = b := ⟨_, rfl⟩
      rw [hb] at ht hC3 hbb
      subst ht
      have HC3 := Aside0.mk hC3
      have HBB := Aside0.mk hbb
      have HBC : Aside0 (b.length ≤ c5) := ⟨by omega⟩
      have H3 := Aside0.mk ht3
      have h6 := nB_300 b.length ht3
      have hbk := K.out.bk
      obtain ⟨nb, hnb⟩ : ∃ nb, nB b.length = nb := ⟨_, rfl⟩
      have HNB := Aside0.mk hnb
      have QB := Aside0.mk (fun W => log_Blocks.calls (b.length : Int) (nb : Int) W (by rw [log_Blocks_f _ (by omega), hnb]))
      rw [hnb] at h6
      have p0 : (0 : Int) ≤ (i : Int) := by omega
      have p1 : (i : Int) < (l0.length : Int) := by omega
      clear hC3 hbb hte hb htl ht3 hnb hx m0 t0 r0 hxx hbw
      go_wp2_with fail
      go_quiet (fail)
      go_wp2_with fail
      refine (QB.out _).mono ?_
      rintro e w4 ⟨rfl, hb⟩
      have B4 := below_step (pw_below_drewN (Below.refl wr.heap.size wr) _) hb
      have LX := Aside0.mk (K.out.lg.below B4)
      have RX := Aside0.mk (Kd.R_below K.out.row B4)
      have CX := Aside0.mk (Kd.C_below HC3.out (LX.out.d.fr.below (n := w.heap.size) (Nat.le_refl _) (fun _ h => h)))
      have NX := Aside0.mk (K.out.next H3.out HBB.out hm63 hlt.2)
      have QA := Aside0.mk (LX.out.app HL.out A5 c5 b CX.out HBC.out (by have := H3.out; omega) HBB.out (by have := K.out.len; omega) (by have := K.out.num; omega))
      have hln := K.out.len
      rw [HNB.out] at NX QA
      clear hb B4 K
      obtain ⟨⟨er, s2, C2⟩, hr⟩ : ∃ r, appS s C 0 l.length (need l) b = r := ⟨_, rfl⟩
      rw [hr] at QA NX
      clear hr
      go_wp2_with fail
      refine QA.out.mono ?_
      rintro e w5 ⟨v5, rfl, hE, hf, K5⟩
      have L5 := Aside0.mk K5
      have R5 := Aside0.mk (RsF.log RX.out LX.out hf)
      have E5 := Aside0.mk hE
      clear K5 hf QA hcut hm1 hm2 hm3 x0 p0 p1 hE
      cases er with
      | none =>
        obtain rfl : v5 = .nilIface := E5.out
        have hon := NX.out.1.1 rfl
        obtain ⟨ld, hld⟩ : ∃ ld, nxt none l b = ld := ⟨_, rfl⟩
        have HLD := Aside0.mk (show l ++ [b] = ld from hld)
        rw [show nxt ((none, s2, C2) : Option Er × Dk × CT).1 l b = ld from hld] at L5 NX
        clear hld
        by_cases hm0 : m = 0
        · subst hm0
          clear hon
          go_wp2_with (first
            | ((with_reducible refine gate_builtin (b := .append) (xs := #[.tmp 80, .tmp 82]) rfl ?_); at_builtin; refine Kd.R_append (Kd.fixed KR w) (w0 := w) w.heap.size rfl (.tmp 80) (.tmp 82) 22 30 (.slice none 0 0) 24 rfl Tryd.underlying22 info30r rfl (show 0 < 1 from Nat.one_pos) (by omega) (.slice A12 l.length c12) l b [.slice A5 b.length c5] (fun _ => True) (fun k => False) rfl rfl ?bP ?bK (fun _ _ => trivial) ?bO ?bB ?bS ?bL ?_; (case bP => exact fix_M (KR_K HC3.out HBC.out)); (case bK => exact fun k hk => hk.elim); (case bO => exact R5.out); (case bB => exact L5.out.d.fr.below (Nat.le_refl _) (fun _ h => h)); (case bS => exact L5.out.d.fr.size); (case bL => omega); intro v6 w6 ho hb hg hat; have L6 := Aside0.mk (L5.out.grownO (Kd.R_own R5.out).choose_spec hg (Nat.le_refl _)); rw [HLD.out] at ho; have R6 := Aside0.mk ho; obtain ⟨A6, c6, rfl⟩ := Kd.R_slice ho; clear ho hb hg hat))
          go_roundg (gk - 1)
          case measure => omega
          case rel => exact ⟨i + 1, Bk + nb, n + nb, s2, C2, ld, A6, c6, rfl, by go_num, by go_num, by omega, by omega, ⟨NX.out.2 _ _ L6.out R6.out⟩⟩
        · have e0 : ((m : Int) == 0) = false := beq_eq_false_iff_ne.2 (by omega)
          have e1 : decide ((Bk : Int) + (nb : Int) < (m : Int)) = true := decide_eq_true (by omega)
          clear hon
          go_wp2_with (first
            | ((with_reducible refine gate_builtin (b := .append) (xs := #[.tmp 80, .tmp 82]) rfl ?_); at_builtin; refine Kd.R_append (Kd.fixed KR w) (w0 := w) w.heap.size rfl (.tmp 80) (.tmp 82) 22 30 (.slice none 0 0) 24 rfl Tryd.underlying22 info30r rfl (show 0 < 1 from Nat.one_pos) (by omega) (.slice A12 l.length c12) l b [.slice A5 b.length c5] (fun _ => True) (fun k => False) rfl rfl ?bP ?bK (fun _ _ => trivial) ?bO ?bB ?bS ?bL ?_; (case bP => exact fix_M (KR_K HC3.out HBC.out)); (case bK => exact fun k hk => hk.elim); (case bO => exact R5.out); (case bB => exact L5.out.d.fr.below (Nat.le_refl _) (fun _ h => h)); (case bS => exact L5.out.d.fr.size); (case bL => omega); intro v6 w6 ho hb hg hat; have L6 := Aside0.mk (L5.out.grownO (Kd.R_own R5.out).choose_spec hg (Nat.le_refl _)); rw [HLD.out] at ho; have R6 := Aside0.mk ho; obtain ⟨A6, c6, rfl⟩ := Kd.R_slice ho; clear ho hb hg hat))
          go_roundg (gk - 1)
          case measure => omega
          case rel => exact ⟨i + 1, Bk + nb, n + nb, s2, C2, ld, A6, c6, rfl, by go_num, by go_num, by omega, by omega, ⟨NX.out.2 _ _ L6.out R6.out⟩⟩
      | some er =>
        obtain ⟨tt, uu, rfl⟩ := IsErr.ne_nil E5.out
        have hoff : ¬ (m = 0 ∨ Bk + nb < m) := fun h => by have := NX.out.1.2 h; cases this
        have e0 : ((m : Int) == 0) = false := beq_eq_false_iff_ne.2 (by omega)
        have e1 : decide ((Bk : Int) + (nb : Int) < (m : Int)) = false := decide_eq_false (by omega)
        clear E5 hoff
        go_wp2
        go_roundg (gk - 1)
        case measure => omega
        case rel => exact ⟨i + 1, Bk + nb, n + nb, s2, C2, l, A12, c12, rfl, by go_num, by go_num, by omega, by omega, ⟨NX.out.2 _ _ L5.out R5.out⟩⟩
    · have q : (i < l0.length ∧ decide ((i : Int) < (l0.length : Int)) = true ∧ decide ((i : Int) < 12) = false) ∨ (¬ i < l0.length ∧ decide ((i : Int) < (l0.length : Int)) = false) := by
        by_cases h1 : i < l0.length
        · exact Or.inl ⟨h1, decide_eq_true (by omega), decide_eq_false (by omega)⟩
        · exact Or.inr ⟨h1, decide_eq_false (by omega)⟩
      obtain ⟨t, ht, ht3, hte, htl, hm1, hm2, hm3, hcut⟩ := take_n 300 300 rfl A2 c2 l2 hc2
      have hC3 := Kd.C_take (m := t) R2.out htl
      have hbb : ∀ y ∈ l2.take 300, 0 ≤ y ∧ y ≤ 255 := fun y hy => K2.out y (List.mem_of_mem_take hy)
      rw [hte] at hC3
      obtain ⟨b, hb⟩ : ∃ b, l2.take 300 = b := ⟨_, rfl⟩
      rw [hb] at ht hC3 hbb
      subst ht
      have HC3 := Aside0.mk hC3
      have HBB := Aside0.mk hbb
      have HBC : Aside0 (b.length ≤ c2) := ⟨by omega⟩
      have H3 := Aside0.mk ht3
      have hLn := K.out.len
      have hNm := K.out.num
      have hNd : need l ≤ 72 := by have := K.out.nd; have := K.out.bk; omega
      have LX := Aside0.mk K.out.lg
      have RX := Aside0.mk K.out.row
      clear K hC3 hbb hte hb htl ht3
      rcases q with ⟨h1, q1, q2⟩ | ⟨h1, q1⟩
      all_goals
        go_wp2_with fail
        refine (restart_dx LX.out.d.dx).mono ?_
        rintro e w5 ⟨rfl, hD, hf⟩
        have L5 := Aside0.mk (LX.out.call hD hf rfl)
        have R5 := Aside0.mk (RsF.log RX.out LX.out (hf.mono (fun _ h => Or.inr h)))
        clear hD hf
        go_wp2_with fail
        refine (L5.out.d.open rfl).mono ?_
        rintro e w6 ⟨Bm, vo, rfl, hR, hb, K⟩
        have L6 := Aside0.mk K
        have R6 := Aside0.mk (Kd.R_below R5.out hb)
        obtain ⟨A6, c6, rfl⟩ := Kd.R_slice hR
        have RR := RsF.reads R6.out (L6.out.d.fr.below (n := w.heap.size) (Nat.le_refl _) (fun _ h => h))
        have S6 := Aside0.mk (same_eq A6 A12 c6 c12 l w6 (Kd.R_reads' hR).2.2 RR.2.2 (Kd.R_reads' hR).2.1 RR.2.1 (by omega))
        clear hR hb K RR
        obtain ⟨sr, hsr⟩ : ∃ sr, restartS s = sr := ⟨_, rfl⟩
        have HDN := Aside0.mk (show sr.down = false from by rw [← hsr]; rfl)
        rw [hsr] at L6
        clear hsr
        go_wp2_with (first
          | (go_at_call 22; refine S6.out.mono ?_; rintro e w7 ⟨rfl, hb⟩; have L7 := Aside0.mk (L6.out.below hb); have R7 := Aside0.mk (Kd.R_below R6.out hb); clear hb))
        refine (arm_dx L7.out.d.dx 0).mono ?_
        rintro e w8 ⟨rfl, hD, hf⟩
        have ea : armS sr 0 = { sr with armed := 0 } := by unfold armS; rw [HDN.out, if_neg (by decide), if_neg (by decide)]
        have L8 := Aside0.mk (L7.out.call hD hf (by rw [ea]))
        have R8 := Aside0.mk (RsF.log R7.out L7.out (hf.mono (fun _ h => Or.inr h)))
        have CX := Aside0.mk (Kd.C_below HC3.out (L8.out.d.fr.below (n := w.heap.size) (Nat.le_refl _) (fun _ h => h)))
        have QA := L8.out.app HL.out A2 c2 b CX.out HBC.out (by have := H3.out; omega) HBB.out (by omega) (by omega)
        rw [ea] at QA
        have hroom := L6.out.d.room
        have harm := (appS_armed (s := { sr with armed := 0 }) (C := C) (life := sr.life) (recs := l.length) (next := need l) (b := b) HDN.out rfl (by omega) (by have := H3.out; omega) (by show _ ≤ sr.room; rw [hroom]; have := nB_300 b.length H3.out; omega) ⟨Int.le_refl _, by show (0 : Int) ≤ _; omega⟩).1 (Or.inl rfl)
        obtain ⟨⟨er, s2, C2⟩, hr⟩ : ∃ r, appS { sr with armed := 0 } C sr.life l.length (need l) b = r := ⟨_, rfl⟩
        rw [hr] at QA harm
        obtain ⟨rfl, hd2, _⟩ := harm
        have HD2 := Aside0.mk (show s2.down = false from hd2)
        have HQ := Aside0.mk QA
        clear hr QA ea hD hf hroom hd2
        go_wp2_with fail
        refine HQ.out.mono ?_
        rintro e w9 ⟨v9, rfl, hE, hf, K9⟩
        obtain rfl : v9 = .nilIface := hE
        obtain ⟨ld, hld⟩ : ∃ ld, nxt none l b = ld := ⟨_, rfl⟩
        have HLD := Aside0.mk (show l ++ [b] = ld from hld)
        have HLL : Aside0 (ld.length ≤ 13) := ⟨by rw [← HLD.out]; simp; omega⟩
        have L9 : Aside0 (LgB w w9 a1 a2 Bm _ s2 C2 sr.life ld 200) := ⟨hld ▸ K9⟩
        have R9 := Aside0.mk (RsF.log R8.out L8.out hf)
        clear K9 hf HQ hld
        go_wp2_with fail
        refine (L9.out.d.open HD2.out).mono ?_
        rintro e wa ⟨Bn, vo, rfl, hR, hb, K⟩
        have La := Aside0.mk K
        have Ra := Aside0.mk (Kd.R_below R9.out hb)
        have Oa := Aside0.mk hR
        obtain ⟨A7, c7, rfl⟩ := Kd.R_slice hR
        clear hR hb K
        go_wp2_with (first
          | (go_at_call 26; refine (told_law wa (La.out.d.laid HL.out)).mono ?_; rintro e wb ⟨rfl, hb⟩; have Lb := Aside0.mk (La.out.below hb); have Ob := Aside0.mk (Kd.R_below Oa.out hb); have Rb := Aside0.mk (Kd.R_below Ra.out hb); clear hb)
          | ((with_reducible refine gate_builtin (b := .append) (xs := #[.tmp 128, .tmp 130]) rfl ?_); refine gate_guard (by rfl) ?_; dsimp only; at_builtin; refine Kd.R_append (Kd.fixed KR w) (w0 := w) w.heap.size rfl (.tmp 128) (.tmp 130) 22 30 (.slice none 0 0) 24 rfl Tryd.underlying22 info30r rfl (show 0 < 1 from Nat.one_pos) (by omega) (.slice A12 l.length c12) l b [.slice A2 b.length c2] (fun _ => True) (fun k => False) rfl rfl ?bP ?bK (fun _ _ => trivial) ?bO ?bB ?bS ?bL ?_; (case bP => exact fix_M (KR_K HC3.out HBC.out)); (case bK => exact fun k hk => hk.elim); (case bO => exact Rb.out); (case bB => exact Lb.out.d.fr.below (Nat.le_refl _) (fun _ h => h)); (case bS => exact Lb.out.d.fr.size); (case bL => omega); intro v6 wc ho hb hg hat; have Lc := Aside0.mk (Lb.out.grownO (Kd.R_own Rb.out).choose_spec hg (Nat.le_refl _)); rw [HLD.out] at ho; have Rc := Aside0.mk ho; obtain ⟨A8, c8, rfl⟩ := Kd.R_slice ho; have Oc := Aside0.mk (own_grown Ob.out (fun k hk => own_lt (Kd.R_own R9.out).choose_spec k hk) hg); clear ho hb hg hat)
          | (go_at_call 22; have RR := RsF.reads Rc.out (Lc.out.d.fr.below (n := w.heap.size) (Nat.le_refl _) (fun _ h => h)); refine (same_eq A7 A8 c7 c8 ld wc (Kd.R_reads' Oc.out).2.2 RR.2.2 (Kd.R_reads' Oc.out).2.1 RR.2.1 (by have := HLL.out; omega)).mono ?_; rintro e wd ⟨rfl, hb⟩; have Ld := Aside0.mk (Lc.out.below hb); clear hb RR))
        go_ret
        exact ⟨rfl, Ld.out.d.fr.below (Nat.le_refl _) (fun _ h => h)⟩
open Classical in
noncomputable def tributarylaw8_LogEach.f (l0 : List (List Int)) (a1 : Int) (l2 : List Int) : Option Bool := if okRecs l0 ∧ ∀ y ∈ l2, 0 ≤ y ∧ y ≤ 255 then some true else none
theorem tributarylaw8_LogEach.calls (A0 : Option Addr) (c0 : Nat) (l0 : List (List Int)) (a1 : Int) (A2 : Option Addr) (c2 : Nat) (l2 : List Int) (r : Bool) (w : World) (hr0 : KR.C w A0 l0.length l0) (hc0 : l0.length ≤ c0) (hr2 : (Kd.int .u8).C w A2 l2.length l2) (hc2 : l2.length ≤ c2) (hL : Laid w) (h : tributarylaw8_LogEach.f l0 a1 l2 = some r) :
    Calls Tryd.prog 5 #[.slice A0 l0.length c0, .int .i64 a1, .slice A2 l2.length c2] w fun e w' => e = .returned (.bool r) ∧ Below w.heap.size w w' := by
  unfold tributarylaw8_LogEach.f at h
  by_cases hk : okRecs l0 ∧ ∀ y ∈ l2, 0 ≤ y ∧ y ≤ 255
  · rw [if_pos hk] at h
    obtain rfl := Option.some.inj h
    exact logEach_law A0 c0 l0 a1 A2 c2 l2 w hr0 hc0 hr2 hc2 hL hk.1 hk.2
  · rw [if_neg hk] at h; cases h
end Go.Proofs.YtlhjjjpldmekdaaDoor.PLg
