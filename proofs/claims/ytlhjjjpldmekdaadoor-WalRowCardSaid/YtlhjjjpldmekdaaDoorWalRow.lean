/- Proved: the law WalRow returns true for all rows that fit: the walk. -/
import Derived.Test.YtlhjjjpldmekdaaDoorWalL
import Derived.Test.YtlhjjjpldmekdaaDoorZv
import Derived.Test.YtlhjjjpldmekdaaDoorLogV
import Derived.Test.YtlhjjjpldmekdaaDoorPWgx0
import Derived.Deep.RegionHeld3
import Derived.Deep.QuietTactic
import Derived.BigQuiet
namespace Go.Proofs.YtlhjjjpldmekdaaDoor.PWg
open Go.RowKit Go.Proofs.YtlhjjjpldmekdaaDoorW.PrintWords Go.Proofs.YtlhjjjpldmekdaaDoorW.PrintLast Go.Proofs.YtlhjjjpldmekdaaDoorW.PrintMore Go.Proofs.YtlhjjjpldmekdaaDoor.Err Go.Maps Go.Proofs.YtlhjjjpldmekdaaDoor.PLog Go.Proofs.YtlhjjjpldmekdaaDoor.PDsk Go.Proofs.YtlhjjjpldmekdaaDoor.PDsk.K Go.Proofs.YtlhjjjpldmekdaaDoor.PWal
open Go.Proofs.YtlhjjjpldmekdaaDoor.PFn (RowT k109 encI encR okRow)
attribute [local go_sem] max2_int min2_int max_two min_two max_three min_three max_four min_four
set_option linter.unusedVariables false
set_option linter.unusedSimpArgs false
namespace Row
def okBs (l : List (List RowT)) : Prop := ∀ x ∈ l, ∀ r ∈ x, okRow r
/-- The law's state behind i blocks. -/
structure RwI (w0 w : World) (a1 a2 Bl Bw n i : Nat) (s : Dk) (C : CT) (l : List (List Int)) (Z : Nat) (OK : Nat → Prop) (t : Wl) (bs : List (List RowT)) : Prop where
  j : JwB w0 w a1 a2 Bl n s C 0 l 600 Z OK Bw t
  st : s.down = false ∧ s.life = 0 ∧ s.armed = 0
  bl : t.bl = (bs.take i).map (·.take 16)
  ma : t.ma = 0
  cu : t.cu.length ≤ i
  len : l.length ≤ 2 * i
  nd : need l ≤ 14 * i
  num : n ≤ 14 * i
theorem nB_350 (n : Nat) (h : n ≤ 350) : nB n ≤ 7 := by unfold nB; omega
/-- On this disk each record is laid. -/
theorem laid_all {w0 w : World} {a1 a2 Bl Bw n : Nat} {s : Dk} {C : CT} {l : List (List Int)} {Z : Nat} {OK : Nat → Prop} {t : Wl} (h : JwB w0 w a1 a2 Bl n s C 0 l 600 Z OK Bw t) (hs : s.down = false ∧ s.life = 0 ∧ s.armed = 0) (b : List Int) (hb : b.length ≤ 350) (hbb : ∀ x ∈ b, 0 ≤ x ∧ x ≤ 255) (hl : l.length ≤ 1000) (hn : need l + 7 ≤ 600) :
    ∃ (s2 : Dk) (C2 : CT), appS s C 0 l.length (need l) b = (none, s2, C2) ∧ s2.down = false ∧ s2.life = 0 ∧ s2.armed = 0 := by
  have hnb := nB_350 b.length hb
  have harm := (appS_armed (s := s) (C := C) (life := 0) (recs := l.length) (next := need l) (b := b) hs.1 hs.2.1 (by omega) (by omega) (by rw [h.lg.d.room]; omega) (by rw [hs.2.2]; omega)).1 (Or.inl hs.2.2)
  have hlife := (appS_facts s C 0 l.length (need l) b (by omega) (by omega) hbb h.lg.d.okc).2.1
  obtain ⟨⟨er, s2, C2⟩, hr⟩ : ∃ r, appS s C 0 l.length (need l) b = r := ⟨_, rfl⟩
  rw [hr] at harm hlife
  obtain ⟨h1, h2, h3⟩ := harm
  simp only at h1 h2 h3 hlife
  subst h1
  rw [if_pos hs.2.2] at h3
  exact ⟨s2, C2, hr, h2, (hlife rfl).trans hs.2.1, h3⟩
/-- The first 16 rows. -/
theorem take_16 (A2 : Option Addr) (c2 : Nat) (l : List RowT) (hc : l.length ≤ c2) : ∃ q : Nat, q = (l.take 16).length ∧ q ≤ 16 ∧ l.take q = l.take 16 ∧ q ≤ l.length ∧ min (l.length : Int) 16 = (q : Int) ∧ (if (16 : Int) < (l.length : Int) then (16 : Int) else (l.length : Int)) = (q : Int) ∧ (if (l.length : Int) < 16 then (l.length : Int) else (16 : Int)) = (q : Int) ∧
    ∀ W : World, (Instr.slice 76 (.slice A2 l.length c2) none (some (.int .i64 (q : Int))) none).run Tryd.prog W = .ok (.slice A2 q c2) W := by
  refine ⟨(l.take 16).length, rfl, by rw [List.length_take]; omega, by rw [List.length_take]; rcases Nat.le_total 16 l.length with h | h; rw [Nat.min_eq_left h]; rw [Nat.min_eq_right h, List.take_of_length_le (Nat.le_refl _), List.take_of_length_le h], by rw [List.length_take]; omega, by rw [List.length_take]; omega, by rw [List.length_take]; split <;> omega, by rw [List.length_take]; split <;> omega, ?_⟩
  have hcut := cut_to (P := Tryd.prog) 76 109 .i64 Tryd.underlying76 (info_parts infoRow).choose_spec.1 A2 l.length c2 ((l.take 16).length : Int) (by omega) (by rw [List.length_take]; omega) hc
  rw [Int.toNat_natCast] at hcut
  exact hcut
set_option maxHeartbeats 16000000 in
set_option maxRecDepth 100000 in
theorem walRow_law (A0 : Option Addr) (c0 : Nat) (l0 : List (List RowT)) (A1 : Option Addr) (c1 : Nat) (l1 : List Int) (w : World) (hr0 : KW.C w A0 l0.length l0) (hc0 : l0.length ≤ c0) (hr1 : KI.C w A1 l1.length l1) (hc1 : l1.length ≤ c1) (hL : Laid w) (ok0 : okBs l0) :
    Calls Tryd.prog 10 #[.slice A0 l0.length c0, .slice A1 l1.length c1] w fun e w' => e = .returned (.bool true) ∧ Below w.heap.size w w' := by
  have HL := Aside0.mk hL
  have R0 := Aside0.mk hr0
  have R1 := Aside0.mk hr1
  have K0 := Aside0.mk ok0
  clear hL hr0 hr1 ok0
  go_enter Tryd.func10, Tryd.ntmps10
  go_wp2_with fail
  refine (new_dx ((600 : Nat) : Int) w (by decide) (by decide)).mono ?_
  rintro e w1 ⟨a1, a2, rfl, hD, hu, hb⟩
  have K1 := Aside0.mk (DkB.new hD hu hb (by decide))
  clear hD hu hb
  go_wp2_with fail
  refine (K1.out.openW rfl (by decide) W0 rfl).mono ?_
  rintro e w2 ⟨Bl0, Bw0, OK0, rfl, hb, hJ⟩
  have K2 : Aside0 (RwI w w2 a1 a2 Bl0 Bw0 0 0 ⟨((600 : Nat) : Int), false, 0, 0, 0⟩ (fun _ => none) [] w1.heap.size OK0 W0 l0) := ⟨hJ, ⟨rfl, rfl, rfl⟩, rfl, rfl, Nat.le_refl _, Nat.le_refl _, Nat.le_refl _, Nat.le_refl _⟩
  clear hb hJ K1
  go_wp2
  go_loopg [7, 9, 10, 11] 30 (fun kq v7 v9 v10 v11 wr => ∃ (i Bl Bw n : Nat) (s : Dk) (C : CT) (l : List (List Int)) (Z : Nat) (OK : Nat → Prop) (t : Wl), v7 = .pointer (some ⟨Bw, 0, none⟩) ∧ v9 = .int .i64 (t.cu.length : Int) ∧ v10 = .int .i64 (loB t (t.cu.length + 1) : Int) ∧ v11 = .int .i64 (i : Int) ∧ i ≤ 30 ∧ 30 - i ≤ kq ∧ Aside0 (RwI w wr a1 a2 Bl Bw n i s C l Z OK t l0))
  case atStart => exact ⟨0, Bl0, Bw0, 0, _, _, [], _, OK0, W0, rfl, rfl, rfl, rfl, by omega, by omega, K2⟩
  case round =>
    obtain ⟨i, Bl, Bw, n, s, C, l, Z, OK, t, rfl, rfl, rfl, rfl, hi, hk, K⟩ := hrel
    clear K2
    by_cases hlt : i < l0.length ∧ i < 30
    · have q1 : decide ((i : Int) < (l0.length : Int)) = true := decide_eq_true (by omega)
      have q2 : decide ((i : Int) < 30) = true := decide_eq_true (by omega)
      have p0 : (0 : Int) ≤ (i : Int) := by omega
      have p1 : (i : Int) < (l0.length : Int) := by omega
      have hbw := K.out.j.lg.d.fr.below (n := w.heap.size) (Nat.le_refl _) (fun _ h => h)
      obtain ⟨ad, A2, c2, e0, m0, t0, r0⟩ := at_rows R0.out i hlt.1
      subst e0
      have x0 := cell_keep hbw m0
      have HM0 := Aside0.mk m0
      have HO : Aside0 (∀ r ∈ (l0.getD i []), okRow r) := ⟨by rw [List.getD_eq_getElem?_getD, List.getElem?_eq_getElem hlt.1]; exact K0.out _ (List.getElem_mem hlt.1)⟩
      obtain ⟨x, hx⟩ : ∃ x, l0.getD i [] = x := ⟨_, rfl⟩
      have HXX := Aside0.mk hx
      rw [hx] at x0 t0 r0 HO HM0
      obtain ⟨q, hq, hq16, hqe, hql, hm1, hm2, hm3, hcut⟩ := take_16 A2 c2 x t0
      have hC3 := Kd.C_take (m := q) r0 hql
      rw [hqe] at hC3
      obtain ⟨b, hb⟩ : ∃ b, x.take 16 = b := ⟨_, rfl⟩
      have HBX := Aside0.mk hb
      rw [hb] at hq hC3
      have HOb : Aside0 (∀ r ∈ b, okRow r) := ⟨fun r hr => HO.out r (by rw [← hb] at hr; exact List.mem_of_mem_take hr)⟩
      subst hq
      have HC3 := Aside0.mk hC3
      have hcu := K.out.cu
      have hln := K.out.len
      have hnd := K.out.nd
      have hnm := K.out.num
      have hbl : t.bl.length ≤ i := by rw [K.out.bl, List.length_map, List.length_take]; omega
      have hbl2 : t.bl.length = i := by rw [K.out.bl, List.length_map, List.length_take]; omega
      obtain ⟨s2, C2, hr, hst2⟩ := laid_all K.out.j K.out.st (encB b) (by have := encB_len b hq16; omega) (encB_bytes HOb.out (by omega)) (by omega) (by omega)
      have hnb := nB_350 (encB b).length (by have := encB_len b hq16; omega)
      have HNB := Aside0.mk hnb
      have HS2 := Aside0.mk hst2
      have HQ16 := Aside0.mk hq16
      have QB := Aside0.mk (fun (W : World) (hW : Below wr.heap.size wr W) => Block_yes (K.out.j.below hW) HL.out A2 c2 b (fun W' hf => Kd.C_below HC3.out ((K.out.j.lg.d.fr.trans ((Fr.of_below hW).trans (hf.mono (fun k hk => K.out.j.ge k (.inr hk))))).below (Nat.le_refl _) (fun _ h => h))) (by omega) hq16 HOb.out (by omega) (by omega) (by omega) _ hr)
      simp only [numO, hbl2] at QB
      clear hr hC3 hq16 hst2 hqe hb hx m0 t0 r0 hbw hbl hnb
      go_wp2_with fail
      go_region_held3 (fun W => W.cell? (ad.add i) = some (.slice A2 x.length c2)) (first | exact x0 | exact x5) (first
        | (go_at_call 49; refine (QB.out _ (below_drew (Below.refl _ _))).mono ?_; rintro e w5 ⟨v5, rfl, hP⟩; have P5 := Aside0.mk (hP.lift (below_drew (Below.refl _ _))); have B5 : Aside0 (Below w.heap.size w w5) := ⟨by obtain ⟨_, _, _, _, hf⟩ := P5.out; exact (K.out.j.lg.d.fr.trans (hf.mono (fun k hk => K.out.j.ge k hk))).below (Nat.le_refl _) (fun _ h => h)⟩; have x5 := cell_keep B5.out HM0.out; clear hP))
      obtain ⟨OK5, hE5, hJ5, _, _⟩ := P5.out
      obtain rfl : v5 = .nilIface := hE5
      obtain ⟨ld, hld⟩ : ∃ ld, l ++ [encB b] = ld := ⟨_, rfl⟩
      have J5 : Aside0 (JwB w w5 a1 a2 Bl (n + nB (encB b).length) s2 C2 0 ld 600 Z OK5 Bw { t with bl := t.bl ++ [b] }) := ⟨by rw [← hld]; exact hJ5⟩
      have HLD : Aside0 (ld.length = l.length + 1 ∧ need ld = need l + nB (encB b).length) := ⟨by rw [← hld, need_snoc]; simp⟩
      have HB5 : Aside0 (t.bl ++ [b] = (l0.take (i + 1)).map (·.take 16)) := ⟨by
        have e : l0[i]? = some x := by rw [← HXX.out, List.getD_eq_getElem?_getD, List.getElem?_eq_getElem hlt.1]; rfl
        rw [K.out.bl, List.take_add_one, e, List.map_append, ← HBX.out]
        rfl⟩
      have HMA := Aside0.mk K.out.ma
      clear hJ5 QB P5 x0 x5 hcut hm1 hm2 hm3 hld p0 p1 hbl2 K
      by_cases hc : i < l1.length
      · have q3 : decide ((l1.length : Int) ≤ (i : Int)) = false := decide_eq_false (by omega)
        have p2 : (0 : Int) ≤ (i : Int) := by omega
        have p3 : (i : Int) < (l1.length : Int) := by omega
        obtain ⟨ad1, rfl, m1⟩ := at_int R1.out i hc
        have M1 := Aside0.mk m1
        have y5 := cell_keep B5.out m1
        obtain ⟨cv, hcv⟩ : ∃ cv, l1.getD i 0 = cv := ⟨_, rfl⟩
        rw [hcv] at y5 M1
        obtain ⟨z1, hz1⟩ : ∃ z1, Go.bits .and .i64 cv 1 = z1 := ⟨_, rfl⟩
        obtain ⟨z6, hz6⟩ : ∃ z6, Go.bits .and .i64 cv 6 = z6 := ⟨_, rfl⟩
        clear m1 hcv
        by_cases g1 : z1 = 1
        · subst g1
          have h1 := HLD.out
          have h2 := HNB.out
          obtain ⟨s3, C3, hr3, hst3⟩ := laid_all J5.out HS2.out encC (by have := encC_len; omega) encC_bytes (by omega) (by omega)
          have hnb3 := nB_350 encC.length (by have := encC_len; omega)
          have QC := Aside0.mk (Cut_yes J5.out HL.out (by show t.cu.length < 60; omega) (by omega) (by omega) _ hr3)
          simp only [numO] at QC
          have HS3 := Aside0.mk hst3
          clear hr3 hst3
          go_wp2_with fail
          refine QC.out.mono ?_
          rintro e w7 ⟨v7, rfl, OK7, hE7, hJ7, _, hf7⟩
          obtain rfl : v7 = .nilIface := hE7
          obtain ⟨le, hle⟩ : ∃ le, ld ++ [encC] = le := ⟨_, rfl⟩
          have HLE : Aside0 (le.length = ld.length + 1 ∧ need le = need ld + nB encC.length) := ⟨by rw [← hle, need_snoc]; simp⟩
          obtain ⟨t7, ht7⟩ : ∃ t7 : Wl, t7 = { bl := t.bl ++ [b], cu := t.cu ++ [((t.bl ++ [b]).length : Int)], ma := t.ma } := ⟨_, rfl⟩
          have J7 : Aside0 (JwB w w7 a1 a2 Bl (n + nB (encB b).length + nB encC.length) s3 C3 0 le 600 Z OK7 Bw t7) := ⟨by rw [← hle, ht7]; exact hJ7⟩
          have HT7 : Aside0 (t7.bl = (l0.take (i + 1)).map (·.take 16) ∧ t7.ma = 0 ∧ t7.cu.length = t.cu.length + 1 ∧ loB t7 (t7.cu.length + 1) = i + 1) := ⟨by
            have hbl3 : (t.bl ++ [b]).length = i + 1 := by rw [HB5.out, List.length_map, List.length_take]; omega
            rw [ht7]
            refine ⟨HB5.out, HMA.out, by simp, ?_⟩
            unfold loB
            rw [if_pos (by simp)]
            simp only [List.length_append, List.length_singleton]
            rw [show t.cu.length + 1 + 1 - 2 = t.cu.length from by omega, List.getD_eq_getElem?_getD, List.getElem?_append_right (Nat.le_refl _), Nat.sub_self]
            have : t.bl.length + 1 = i + 1 := by rw [← hbl3]; simp
            simp
            omega⟩
          have y7 : w7.cell? (ad1.add i) = some (.int .i64 cv) := cell_keep ((J7.out.lg.d.fr).below (n := w.heap.size) (Nat.le_refl _) (fun _ h => h)) M1.out
          clear hJ7 QC hf7 hle ht7 y5
          by_cases g6 : z6 = 6
          · subst g6
            go_wp2_with fail
            refine (J7.out.lg.d.openW HS3.out.1 (by decide) _ J7.out.run).mono ?_
            rintro e w6 ⟨Bl6, Bw6, OK6, rfl, hb6, hJ6⟩
            rw [HS3.out.2.1] at hJ6
            have J6 := Aside0.mk hJ6
            clear hb6 hJ6
            go_wp2
            go_roundg (gk - 1)
            case measure => omega
            case rel =>
              have h3 := HLE.out
              have h4 := HT7.out
              exact ⟨i + 1, Bl6, Bw6, _, s3, C3, le, _, OK6, t7, rfl, by rw [h4.2.2.1]; go_num, by rw [h4.2.2.2]; go_num, by go_num, by omega, by omega, ⟨J6.out, HS3.out, h4.1, h4.2.1, by omega, by omega, by omega, by omega⟩⟩
          · have q6 : (z6 == 6) = false := beq_eq_false_iff_ne.2 g6
            clear g6
            go_wp2
            go_roundg (gk - 1)
            case measure => omega
            case rel =>
              have h3 := HLE.out
              have h4 := HT7.out
              exact ⟨i + 1, Bl, Bw, _, s3, C3, le, Z, OK7, t7, rfl, by rw [h4.2.2.1]; go_num, by rw [h4.2.2.2]; go_num, by go_num, by omega, by omega, ⟨J7.out, HS3.out, h4.1, h4.2.1, by omega, by omega, by omega, by omega⟩⟩
        · have q4 : (z1 == 1) = false := beq_eq_false_iff_ne.2 g1
          by_cases g6 : z6 = 6
          · subst g6
            clear g1
            go_wp2_with fail
            refine (J5.out.lg.d.openW HS2.out.1 (by decide) _ J5.out.run).mono ?_
            rintro e w6 ⟨Bl6, Bw6, OK6, rfl, hb6, hJ6⟩
            rw [HS2.out.2.1] at hJ6
            have J6 := Aside0.mk hJ6
            clear hb6 hJ6
            go_wp2
            go_roundg (gk - 1)
            case measure => omega
            case rel =>
              have h1 := HLD.out
              have h2 := HNB.out
              exact ⟨i + 1, Bl6, Bw6, _, s2, C2, ld, _, OK6, { t with bl := t.bl ++ [b] }, rfl, rfl, rfl, by go_num, by omega, by omega, ⟨J6.out, HS2.out, HB5.out, HMA.out, by show t.cu.length ≤ _; omega, by omega, by omega, by omega⟩⟩
          · have q6 : (z6 == 6) = false := beq_eq_false_iff_ne.2 g6
            clear g1 g6
            go_wp2
            go_roundg (gk - 1)
            case measure => omega
            case rel =>
              have h1 := HLD.out
              have h2 := HNB.out
              exact ⟨i + 1, Bl, Bw, _, s2, C2, ld, Z, OK5, { t with bl := t.bl ++ [b] }, rfl, rfl, rfl, by go_num, by omega, by omega, ⟨J5.out, HS2.out, HB5.out, HMA.out, by show t.cu.length ≤ _; omega, by omega, by omega, by omega⟩⟩
      · have q3 : decide ((l1.length : Int) ≤ (i : Int)) = true := decide_eq_true (by omega)
        go_wp2
        go_roundg (gk - 1)
        case measure => omega
        case rel =>
          have h1 := HLD.out
          have h2 := HNB.out
          exact ⟨i + 1, Bl, Bw, _, s2, C2, ld, Z, OK5, { t with bl := t.bl ++ [b] }, rfl, rfl, rfl, by go_num, by omega, by omega, ⟨J5.out, HS2.out, HB5.out, HMA.out, by show t.cu.length ≤ _; omega, by omega, by omega, by omega⟩⟩
    · have hcase : (decide ((i : Int) < (l0.length : Int)) = false ∧ ¬ i < l0.length) ∨ (decide ((i : Int) < (l0.length : Int)) = true ∧ decide ((i : Int) < 30) = false ∧ i < l0.length ∧ i = 30) := by
        by_cases h : i < l0.length
        · exact .inr ⟨decide_eq_true (by omega), decide_eq_false (by omega), h, by omega⟩
        · exact .inl ⟨decide_eq_false (by omega), h⟩
      have HWB := Aside0.mk K.out.j.wb
      have hcu := K.out.cu
      have hcl : t.cu.length ≤ 30 := by omega
      clear hlt
      rcases hcase with ⟨q1, hge⟩ | ⟨q1, q2, hlt, h30⟩
      all_goals
        go_wp2_with fail
        refine (All_wal K.out.j.wx HWB.out).mono ?_
        rintro e w3 ⟨v3, rfl, hR3, hb3⟩
        obtain ⟨A16, c16, rfl⟩ := Kd.R_slice hR3
        have hal : (allF t).length = t.cu.length := by unfold allF; simp
        rw [hal]
        have R3 := Aside0.mk (show KWW.C w3 (some ⟨0, 0, none⟩) 0 [] ∨ True from .inr trivial)
        have C3 := Aside0.mk (Kd.R_reads' hR3).2
        rw [hal] at C3
        have J3 := Aside0.mk (K.out.j.below hb3)
        clear hR3 hb3 hal R3
        have M0 : Aside0 (Below w3.heap.size w3 w3) := ⟨Below.refl _ _⟩
        go_wp2
        go_loopg [17, 18] (t.cu.length + 1) (fun kq v17 v18 wq => ∃ (y : Nat), v17 = .int .i64 (loB t (y + 1) : Int) ∧ v18 = .int .i64 (y : Int) ∧ y ≤ t.cu.length ∧ t.cu.length - y ≤ kq ∧ Aside0 (Below w3.heap.size w3 wq))
        case atStart => exact ⟨0, rfl, rfl, by omega, by omega, M0⟩
        case round =>
          obtain ⟨y, rfl, rfl, hy, hk2, M⟩ := hrel
          clear M0
          by_cases hlt2 : y < t.cu.length
          · have q5 : decide ((y : Int) < (t.cu.length : Int)) = true := decide_eq_true (by omega)
            obtain ⟨_, _, hlh, hhb⟩ := bat_bd HWB.out (n := y + 1) (by omega) (by omega)
            have hend := end_bd HWB.out
            have hhi := hend.2.1 (y + 1) (by omega) (by omega)
            have hls := hend.1
            obtain ⟨adA, A2, c2, e2, m2, t2, r2⟩ := at_bs C3.out.2 y hlt2
            rw [all_at hlt2] at m2 t2 r2
            have hbl2 := bat_len HWB.out (n := y + 1) (by omega) (by omega)
            have HAT := Aside0.mk (fun (j : Nat) (hj : loB t (y + 1) + j < hiB t (y + 1)) => bat_at (s := t) hj)
            have HOF := Aside0.mk (fun (k : Nat) (h3 : loB t (y + 1) ≤ k) (h4 : k < hiB t (y + 1)) => of_in HWB.out (n := y + 1) (k := k) (by omega) (by omega) h3 h4)
            obtain ⟨BT, hBT⟩ : ∃ BT, batF t (y + 1) = BT := ⟨_, rfl⟩
            rw [hBT] at m2 t2 r2 hbl2 HAT
            have RB := Aside0.mk r2
            have MA2 := Aside0.mk m2
            have p4 : (0 : Int) ≤ (y : Int) := by omega
            have p5 : (y : Int) < (t.cu.length : Int) := by omega
            have x2 := cell_keep M.out m2
            subst e2
            have hbK := K.out.bl
            have hblk : t.bl.length = min i l0.length := by rw [hbK, List.length_map, List.length_take]
            have HB16 : Aside0 (∀ k, k < t.bl.length → t.bl.getD k [] = (l0.getD k []).take 16) := ⟨fun k hk => by
              rw [hbK, List.getD_eq_getElem?_getD, List.getElem?_map, List.getElem?_take, if_pos (by omega), List.getD_eq_getElem?_getD, List.getElem?_eq_getElem (by omega : k < l0.length)]
              rfl⟩
            obtain ⟨la, hla⟩ : ∃ la, loB t (t.cu.length + 1) = la := ⟨_, rfl⟩
            obtain ⟨lo, hlo⟩ : ∃ lo, loB t (y + 1) = lo := ⟨_, rfl⟩
            obtain ⟨hh, hhe⟩ : ∃ hh, hiB t (y + 1) = hh := ⟨_, rfl⟩
            have HLA := Aside0.mk hla
            have HNX : Aside0 (loB t (y + 1 + 1) = hh) := ⟨by rw [lo_succ (by omega), hhe]⟩
            rw [hlo, hhe] at hbl2 hlh HAT HOF
            rw [hhe] at hhi hhb
            rw [hla] at hhi hls
            rw [hlo, hla]
            clear hBT r2 m2 hend hla hlo hhe hbK
            obtain ⟨gO, hgO⟩ : ∃ gO, gO = gk := ⟨_, rfl⟩
            have HGO := Aside0.mk hgO
            clear hgO
            go_wp2
            go_loopg [17, 19] (BT.length + 1) (fun kq v17 v19 wr2 => ∃ (j : Nat), v17 = .int .i64 ((lo + j : Nat) : Int) ∧ v19 = .int .i64 (j : Int) ∧ j ≤ BT.length ∧ BT.length - j ≤ kq ∧ Aside0 (Below w3.heap.size w3 wr2))
            case atStart => exact ⟨0, rfl, rfl, by omega, by omega, M⟩
            case round =>
              clear M x2
              obtain ⟨j, rfl, rfl, hj, hk3, M2⟩ := hrel
              have x2 := cell_keep M2.out MA2.out
              by_cases hlt3 : j < BT.length
              · have q6 : decide ((j : Int) < (BT.length : Int)) = true := decide_eq_true (by omega)
                have J4 := Aside0.mk (J3.out.below M2.out)
                have hbw := J4.out.lg.d.fr.below (n := w.heap.size) (Nat.le_refl _) (fun _ h => h)
                obtain ⟨ad3, A3, c3, e3, m3, t3, r3⟩ := at_rows RB.out j hlt3
                subst e3
                rw [HAT.out j (by omega), HB16.out _ (by omega)] at m3 t3 r3
                obtain ⟨ad4, A4, c4, e4, m4, t4, r4⟩ := at_rows R0.out (lo + j) (by omega)
                subst e4
                have hof := HOF.out (lo + j) (by omega) (by omega)
                rw [show ((y + 1 : Nat) : Int) = (y : Int) + 1 from by omega] at hof
                obtain ⟨kk, hkk⟩ : ∃ kk, lo + j = kk := ⟨_, rfl⟩
                obtain ⟨x, hx⟩ : ∃ x, l0.getD (lo + j) [] = x := ⟨_, rfl⟩
                rw [hx] at m3 t3 r3 m4 t4 r4
                obtain ⟨q, hq, hq16, hqe, hql, hm1, hm2, hm3, hcut⟩ := take_16 A4 c4 x t4
                have hC4 := Kd.C_take (m := q) r4 hql
                rw [hqe] at hC4
                obtain ⟨b, hb⟩ : ∃ b, x.take 16 = b := ⟨_, rfl⟩
                rw [hb] at hq hC4 m3 t3 r3
                subst hq
                rw [hkk] at m4 hof ⊢
                have x3 := cell_keep M2.out m3
                have x4 := cell_keep hbw m4
                have p6 : (0 : Int) ≤ (j : Int) := by omega
                have p7 : (j : Int) < (BT.length : Int) := by omega
                have p8 : (0 : Int) ≤ (kk : Int) := by omega
                have p9 : (kk : Int) < (l0.length : Int) := by omega
                have q7 : decide ((la : Int) ≤ (kk : Int)) = false := decide_eq_false (by omega)
                have q7n : decide (la ≤ kk) = false := decide_eq_false (by omega)
                have HQS := Aside0.mk (q_any (fun q => same_rows A3 A4 c3 c4 b (wr.drewN q) (Kd.C_drewN (Kd.C_below r3 M2.out) q) t3 (Kd.C_drewN (Kd.C_below hC4 hbw) q) (by omega) (by omega)))
                have HQO := Aside0.mk (fun q => q_same (n := q) (by have := Of_wal ((J4.out.below (pw_below_drewN (Below.refl _ wr) q)).wx) (by omega) ((kk : Int) + 1); rw [hof] at this; exact this.mono fun _ _ h => ⟨h.1, h.2.symm⟩))
                clear r3 hC4 hbw hqe hb hx m3 m4 r4 hof J4
                go_wp2_with fail
                go_quiet (first | (go_at_call 55; exact HQS.out _) | (go_at_call 53; exact HQO.out _))
                go_wp2
                go_roundg (gk - 1)
                case measure => omega
                case rel => exact ⟨j + 1, by rw [show lo + (j + 1) = kk + 1 from by omega]; go_num, by go_num, by omega, by omega, ⟨pw_below_drewN M2.out nq⟩⟩
              · obtain rfl : j = BT.length := by omega
                have q6 : decide ((BT.length : Int) < (BT.length : Int)) = false := decide_eq_false (by omega)
                have hLA := HLA.out
                subst hLA
                go_wp2
                have hgO := HGO.out
                go_roundg (gO - 1)
                case measure => omega
                case rel => exact ⟨y + 1, congrArg (fun z : Nat => Value.int .i64 (z : Int)) HNX.out.symm, by go_num, by omega, by omega, M2⟩
          · obtain rfl : y = t.cu.length := by omega
            have q5 : decide ((t.cu.length : Int) < (t.cu.length : Int)) = false := decide_eq_false (by omega)
            have J4 := Aside0.mk (J3.out.below M.out)
            have hend := end_bd HWB.out
            have hout : ofF t ((loB t (t.cu.length + 1) : Int) + 1) = 0 := of_out HWB.out hend.2.2
            have hlo : loB t (t.cu.length + 1) ≤ 400 := Nat.le_trans hend.1 HWB.out.bl
            clear hend
            obtain ⟨la, hla⟩ : ∃ la, loB t (t.cu.length + 1) = la := ⟨_, rfl⟩
            rw [hla] at hout hlo ⊢
            go_wp2_with fail
            refine (told_wl wr (J4.out.lg.d.laid HL.out)).mono ?_
            rintro e w9 ⟨rfl, hb9⟩
            have J9 := Aside0.mk (J4.out.below hb9)
            clear hb9
            have QO := Aside0.mk (Of_wal J9.out.wx (by omega) ((la : Int) + 1))
            rw [hout] at QO
            have QB := Aside0.mk (Batches_wal J9.out.wx)
            clear hout
            go_wp2_with (first
              | (go_at_call 53; refine QO.out.mono ?_; rintro e w' ⟨rfl, rfl⟩)
              | (go_at_call 52; refine QB.out.mono ?_; rintro e w' ⟨rfl, rfl⟩))
            go_ret
            exact ⟨rfl, J9.out.lg.d.fr.below (Nat.le_refl _) (fun _ h => h)⟩
end Row
open Classical in
noncomputable def tributarylaw9_WalRow.f (l0 : List (List RowT)) (l1 : List Int) : Option Bool := if Row.okBs l0 then some true else none
theorem tributarylaw9_WalRow.calls (A0 : Option Addr) (c0 : Nat) (l0 : List (List RowT)) (A1 : Option Addr) (c1 : Nat) (l1 : List Int) (r : Bool) (w : World) (hr0 : KW.C w A0 l0.length l0) (hc0 : l0.length ≤ c0) (hr1 : KI.C w A1 l1.length l1) (hc1 : l1.length ≤ c1) (hL : Laid w) (h : tributarylaw9_WalRow.f l0 l1 = some r) :
    Calls Tryd.prog 10 #[.slice A0 l0.length c0, .slice A1 l1.length c1] w fun e w' => e = .returned (.bool r) ∧ Below w.heap.size w w' := by
  unfold tributarylaw9_WalRow.f at h
  by_cases hk : Row.okBs l0
  · rw [if_pos hk] at h
    obtain rfl := Option.some.inj h
    exact Row.walRow_law A0 c0 l0 A1 c1 l1 w hr0 hc0 hr1 hc1 hL hk
  · rw [if_neg hk] at h; cases h
end Go.Proofs.YtlhjjjpldmekdaaDoor.PWg
