/- Proved: the law LogAgain returns true for all records that fit: the walk. -/
import Derived.Test.YtlhjjjpldmekdaaDoorLogV
import Derived.Deep.RegionHeld3
import Derived.Deep.QuietTactic
import Derived.BigQuiet
namespace Go.Proofs.YtlhjjjpldmekdaaDoor.PLg
open Go.RowKit Go.Proofs.YtlhjjjpldmekdaaDoorW.PrintWords Go.Proofs.YtlhjjjpldmekdaaDoorW.PrintLast Go.Proofs.YtlhjjjpldmekdaaDoorW.PrintMore Go.Proofs.YtlhjjjpldmekdaaDoor.Err Go.Maps Go.Proofs.YtlhjjjpldmekdaaDoor.PLog Go.Proofs.YtlhjjjpldmekdaaDoor.PDsk Go.Proofs.YtlhjjjpldmekdaaDoor.PDsk.K
open Go.Proofs.YtlhjjjpldmekdaaDoor.PFn (log_Blocks.calls log_Blocks_f)
attribute [local go_sem] max2_int min2_int max_two min_two max_three min_three max_four min_four
set_option linter.unusedVariables false
set_option linter.unusedSimpArgs false

namespace Again
def okRecs (l : List (List Int)) : Prop := ∀ x ∈ l, ∀ y ∈ x, 0 ≤ y ∧ y ≤ 255
theorem okRecs.get {l : List (List Int)} (h : okRecs l) (i : Nat) (hi : i < l.length) : ∀ y ∈ l.getD i [], 0 ≤ y ∧ y ≤ 255 := by
  rw [List.getD_eq_getElem?_getD, List.getElem?_eq_getElem hi]
  exact h _ (List.getElem_mem hi)
theorem at_b {w : World} {A : Option Addr} {n : Nat} {xs : List Bool} (h : Kd.bool.C w A n xs) (i : Nat) (hi : i < n) : ∃ ad, A = some ad ∧ w.cell? (ad.add i) = some (.bool (xs.getD i false)) := by
  obtain ⟨ad, c, rfl, hl, hK, hc⟩ := Kd.C_get h false (i : Int) (by omega) (by omega)
  rw [Int.toNat_natCast] at hK hc
  have hK' : c = [Value.bool (xs.getD i false)] := hK
  subst hK'
  refine ⟨ad, rfl, ?_⟩
  have := hc 0 _ rfl
  rwa [show i * Kd.bool.sz + 0 = i from Nat.mul_one i] at this
/-- Another log's call leaves this one. -/
theorem other {w0 w w' : World} {a1 a2 Bl b1 b2 Bm n m R R2 : Nat} {s r : Dk} {C D : CT} {life life2 : Int} {l k : List (List Int)} (h : LgB w0 w b1 b2 Bm n s C life l R) (g : LgB w0 w a1 a2 Bl m r D life2 k R2) (hf : Fr (LB Bl a1 a2) w w') (hne : b1 ≠ a1 ∧ b1 ≠ a2 ∧ b2 ≠ a1 ∧ b2 ≠ a2) (hB : Bm ≠ Bl) : LgB w0 w' b1 b2 Bm n s C life l R := by
  have h1 := h.lx.apart g.d.dx
  have h2 := g.lx.apart h.d.dx
  have q1 : ¬ LB Bl a1 a2 b1 := by rintro (e | e | e); exact h2 (Or.inl e.symm); exact hne.1 e; exact hne.2.1 e
  have q2 : ¬ LB Bl a1 a2 b2 := by rintro (e | e | e); exact h2 (Or.inr e.symm); exact hne.2.2.1 e; exact hne.2.2.2 e
  have q3 : ¬ LB Bl a1 a2 Bm := by rintro (e | e); exact hB e; exact h1 e
  exact ⟨⟨h.d.fr.trans (hf.mono (fun b hb => by rcases hb with rfl | rfl | rfl; exact g.ge; exact g.d.ge.1; exact g.d.ge.2)), h.d.dx.kept hf q1 q2 (fun b hb _ => g.noB b hb), h.d.room, h.d.log, h.d.okc, h.d.ge⟩, h.lx.kept hf q3, h.ge⟩
theorem open2 {w0 w : World} {a1 a2 n R : Nat} {s : Dk} {C : CT} {l : List (List Int)} (h : DkB w0 w a1 a2 n s C l R) (hdn : s.down = false) :
    Calls Tryd.prog 20 #[.pointer (some ⟨a1, 0, none⟩)] w fun e w' => ∃ (Bl : Nat) (A : Option Addr) (c : Nat), e = .returned (.tuple #[.pointer (some ⟨Bl, 0, none⟩), .slice A l.length c, .nilIface]) ∧ w.heap.size ≤ Bl ∧ Below w.heap.size w w' ∧ LgB w0 w' a1 a2 Bl n s C s.life l R := by
  refine (open_ok (fun b => b ≠ a1 ∧ b ≠ a2) a1 a2 n R s C w h.dx hdn h.room h.log.fits.2.1 h.okc).mono ?_
  rintro e w' ⟨Bl, vout, out, next, rfl, ho, hl, hge, hR, hb⟩
  rw [h.log.opened] at ho
  obtain ⟨rfl, rfl⟩ := Prod.mk.inj ho
  obtain ⟨A, c, rfl⟩ := Kd.R_slice hR
  exact ⟨Bl, A, c, rfl, hge, hb, ⟨h.below hb, hl, Nat.le_trans h.fr.size hge⟩⟩
/-- Both disks hold the same i records. -/
structure AgI (w0 w : World) (a1 a2 Bl b1 b2 Bm n i : Nat) (s : Dk) (C : CT) (l : List (List Int)) : Prop where
  one : LgB w0 w a1 a2 Bl n s C 0 l 120
  two : LgB w0 w b1 b2 Bm n s C 0 l 120
  ne : b1 ≠ a1 ∧ b1 ≠ a2 ∧ b2 ≠ a1 ∧ b2 ≠ a2
  nB : Bm ≠ Bl
  len : l.length = i
  num : n ≤ 6 * i
  nd : need l ≤ 6 * i
  st : s.down = false ∧ s.life = 0 ∧ s.armed = 0
theorem AgI.below {w0 w w' : World} {a1 a2 Bl b1 b2 Bm n i : Nat} {s : Dk} {C : CT} {l : List (List Int)} (h : AgI w0 w a1 a2 Bl b1 b2 Bm n i s C l) (hb : Below w.heap.size w w') : AgI w0 w' a1 a2 Bl b1 b2 Bm n i s C l := ⟨h.one.below hb, h.two.below hb, h.ne, h.nB, h.len, h.num, h.nd, h.st⟩
/-- What is told of a log's room. -/
theorem left_of {w0 w : World} {a1 a2 Bl n : Nat} {s : Dk} {C : CT} {l : List (List Int)} (h : LgB w0 w a1 a2 Bl n s C 0 l 120) (z : Nat) (hz : need l + z = 120) : Calls Tryd.prog 24 #[.pointer (some ⟨Bl, 0, none⟩)] w fun e w' => e = .returned (.int .i64 (z : Int)) ∧ Below w.heap.size w w' := by
  have := left_calls h.lx h.d.dx
  rw [h.d.room, wrap64_in _ (by omega), show ((120 : Nat) : Int) - ((need l : Nat) : Int) = (z : Int) from by omega] at this
  exact this.mono (fun e w' ⟨he, m, hm⟩ => ⟨he, by rw [hm]; exact pw_below_drewN (Below.refl _ _) m⟩)
theorem read_of {w0 w : World} {a1 a2 n : Nat} {s : Dk} {C : CT} {l : List (List Int)} (h : DkB w0 w a1 a2 n s C l 120) (hd : s.down = false) (j : Nat) (hj : j < 120) : Calls Tryd.prog 33 #[.pointer (some ⟨a1, 0, none⟩), .int .i64 (j : Int)] w fun e w' => ∃ A c, e = .returned (.tuple #[.slice A ((C (j : Int)).getD []).length c, .bool (C (j : Int)).isSome, .nilIface]) ∧ (Kd.int .u8).C w' A ((C (j : Int)).getD []).length ((C (j : Int)).getD []) ∧ Below w.heap.size w w' := by
  refine (read_dx h.dx (j : Int) (by unfold okI; omega) (h.okc.long _)).mono ?_
  have hm : met s (j : Int) 0 = 2 := by
    unfold met
    rw [hd, if_neg (by decide), if_neg (by have := h.room; omega)]
  rw [show rdS s C (j : Int) = ((C (j : Int)).getD [], (C (j : Int)).isSome, none) from by unfold rdS; rw [if_neg (by rw [hm]; decide)]]
  rintro e w' ⟨v, ev, rfl, hR, hE, hb, hN⟩
  obtain rfl : ev = .nilIface := hE
  obtain ⟨A, c, rfl⟩ := Kd.R_slice hR
  exact ⟨A, c, rfl, (Kd.R_reads' hR).2.2, hb⟩
set_option maxHeartbeats 16000000 in
set_option maxRecDepth 100000 in
theorem logAgain_law (A0 : Option Addr) (c0 : Nat) (l0 : List (List Int)) (A1 : Option Addr) (c1 : Nat) (l1 : List Bool) (w : World) (hr0 : KR.C w A0 l0.length l0) (hc0 : l0.length ≤ c0) (hr1 : Kd.bool.C w A1 l1.length l1) (hc1 : l1.length ≤ c1) (hL : Laid w) (ok0 : okRecs l0) :
    Calls Tryd.prog 6 #[.slice A0 l0.length c0, .slice A1 l1.length c1] w fun e w' => e = .returned (.bool true) ∧ Below w.heap.size w w' := by
  have HL := Aside0.mk hL
  have R0 := Aside0.mk hr0
  have R1 := Aside0.mk hr1
  have K0 := Aside0.mk ok0
  clear hL hr0 ok0 hr1
  go_enter Tryd.func6, Tryd.ntmps6
  go_wp2_with fail
  refine (new_dx ((120 : Nat) : Int) w (by decide) (by decide)).mono ?_
  rintro e w1 ⟨a1, a2, rfl, hD, hu, hb⟩
  have D1 := Aside0.mk (DkB.new hD hu hb (by decide))
  have B1 := Aside0.mk hb
  clear hD hu hb
  go_wp2_with fail
  refine (new_dx ((120 : Nat) : Int) w1 (by decide) (by decide)).mono ?_
  rintro e w2 ⟨b1, b2, rfl, hD, hu, hb⟩
  have D2 := Aside0.mk (D1.out.below hb)
  have NE : Aside0 (b1 ≠ a1 ∧ b1 ≠ a2 ∧ b2 ≠ a1 ∧ b2 ≠ a2) := ⟨by have := D1.out.dx.lt; omega⟩
  have E2 : Aside0 (DkB w w2 b1 b2 0 ⟨((120 : Nat) : Int), false, 0, 0, 0⟩ (fun _ => none) [] 120) := ⟨by
    have := B1.out.size
    exact ⟨D2.out.fr, hD, rfl, Log3.empty (by decide) (fun _ => rfl), okC.none, by omega⟩⟩
  clear hD hu hb D1
  go_wp2_with fail
  refine (open2 D2.out rfl).mono ?_
  rintro e w3 ⟨Bl, A4, c4, rfl, hge, hb, K⟩
  have L3 := Aside0.mk K
  have E3 := Aside0.mk (E2.out.below hb)
  clear hb K D2 E2 hge
  go_wp2_with fail
  refine (open2 E3.out rfl).mono ?_
  rintro e w4 ⟨Bm, A5, c5, rfl, hge, hb, K⟩
  have HBm : Aside0 (Bm ≠ Bl) := ⟨by
    have h1 := L3.out.lx.lt
    omega⟩
  have I0 : Aside0 (AgI w w4 a1 a2 Bl b1 b2 Bm 0 0 ⟨((120 : Nat) : Int), false, 0, 0, 0⟩ (fun _ => none) []) := ⟨L3.out.below hb, K, NE.out, HBm.out, rfl, by simp, by simp [need], rfl, rfl, rfl⟩
  clear hb K L3 E3 HBm NE B1 hge
  go_wp2
  go_loopg [9, 15, 16] 15 (fun kq v9 v15 v16 wr => ∃ (i Bl n z : Nat) (s : Dk) (C : CT) (l : List (List Int)), v9 = .pointer (some ⟨Bl, 0, none⟩) ∧ v15 = .int .i64 (z : Int) ∧ v16 = .int .i64 (i : Int) ∧ i ≤ 15 ∧ 15 - i ≤ kq ∧ Aside0 (AgI w wr a1 a2 Bl b1 b2 Bm n i s C l ∧ need l + z = 120))
  case atStart => exact ⟨0, Bl, 0, 120, _, _, [], rfl, rfl, rfl, by omega, by omega, ⟨I0.out, rfl⟩⟩
  case round =>
    obtain ⟨i, Bl, n, z, s, C, l, rfl, rfl, rfl, hi, hk, K⟩ := hrel
    clear I0
    by_cases hlt : i < l0.length ∧ i < 15
    · have q1 : decide ((i : Int) < (l0.length : Int)) = true := decide_eq_true (by omega)
      have q2 : decide ((i : Int) < 15) = true := decide_eq_true (by omega)
      have hbw := K.out.1.one.d.fr.below (n := w.heap.size) (Nat.le_refl _) (fun _ h => h)
      have hxx := K0.out.get i hlt.1
      obtain ⟨ad, A6, c6, rfl, m0, t0, r0⟩ := at_B R0.out i hlt.1
      obtain ⟨x, hx⟩ : ∃ x, l0.getD i [] = x := ⟨_, rfl⟩
      rw [hx] at m0 t0 r0 hxx
      have x0 := cell_keep hbw m0
      obtain ⟨t, ht, ht3, hte, htl, hm1, hm2, hm3, hcut⟩ := take_n 300 300 rfl A6 c6 x t0
      have hC3 := Kd.C_take (m := t) r0 htl
      have hbb : ∀ y ∈ x.take 300, 0 ≤ y ∧ y ≤ 255 := fun y hy => hxx y (List.mem_of_mem_take hy)
      rw [hte] at hC3
      obtain ⟨b, hb⟩ : ∃ b, x.take 300 = b := ⟨_, rfl⟩
      rw [hb] at ht hC3 hbb
      subst ht
      have HC3 := Aside0.mk hC3
      have HBB := Aside0.mk hbb
      have HBC : Aside0 (b.length ≤ c6) := ⟨by omega⟩
      have H3 := Aside0.mk ht3
      have h6 := nB_300 b.length ht3
      obtain ⟨nb, hnb⟩ : ∃ nb, nB b.length = nb := ⟨_, rfl⟩
      have HNB := Aside0.mk hnb
      have QB := Aside0.mk (fun W => log_Blocks.calls (b.length : Int) (nb : Int) W (by rw [log_Blocks_f _ (by omega), hnb]))
      rw [hnb] at h6
      have p0 : (0 : Int) ≤ (i : Int) := by omega
      have p1 : (i : Int) < (l0.length : Int) := by omega
      have h7 := K.out.1.len; have h8 := K.out.1.num; have h9 := K.out.1.nd
      clear hC3 hbb hte hb htl ht3 hnb hx m0 t0 r0 hxx hbw
      go_wp2_with fail
      go_quiet (fail)
      have K1 := Aside0.mk (K.out.1.below (pw_below_drewN (Below.refl wr.heap.size wr) nq))
      obtain ⟨w5, hw5⟩ : ∃ w5, wr.drewN nq = w5 := ⟨_, rfl⟩
      rw [hw5] at K1 ⊢
      clear hw5
      have HKZ := Aside0.mk K.out.2
      have CX := Aside0.mk (Kd.C_below HC3.out (K1.out.one.d.fr.below (n := w.heap.size) (Nat.le_refl _) (fun _ h => h)))
      have QA := Aside0.mk (K1.out.one.app HL.out A6 c6 b CX.out HBC.out (by have := H3.out; omega) HBB.out (by omega) (by omega))
      have harm := (appS_armed (s := s) (C := C) (life := 0) (recs := l.length) (next := need l) (b := b) K1.out.st.1 K1.out.st.2.1 (by omega) (by have := H3.out; omega) (by rw [K1.out.one.d.room, HNB.out]; omega) (by rw [K1.out.st.2.2]; omega)).1 (Or.inl K1.out.st.2.2)
      have hlife := (appS_facts s C 0 l.length (need l) b (by omega) (by have := H3.out; omega) HBB.out K1.out.one.d.okc).2.1
      rw [K1.out.st.2.2, if_pos rfl] at harm
      have QA2 := Aside0.mk (fun (W : World) (hW : LgB w W b1 b2 Bm n s C 0 l 120) (hCW : (Kd.int .u8).C W A6 b.length b) => hW.app HL.out A6 c6 b hCW HBC.out (by have := H3.out; omega) HBB.out (by omega) (by omega))
      rw [HNB.out] at QA QA2
      obtain ⟨⟨er, s2, C2⟩, hr⟩ : ∃ r, appS s C 0 l.length (need l) b = r := ⟨_, rfl⟩
      rw [hr] at QA QA2 harm hlife
      obtain ⟨rfl, hd2, ha2⟩ := harm
      have HS : Aside0 (s2.down = false ∧ s2.life = 0 ∧ s2.armed = 0) := ⟨hd2, (hlife rfl).trans K1.out.st.2.1, ha2⟩
      obtain ⟨ld, hld⟩ : ∃ ld, l ++ [b] = ld := ⟨_, rfl⟩
      have HLL : Aside0 (ld.length = i + 1) := ⟨by rw [← hld]; simp; omega⟩
      have HND : Aside0 (need ld = need l + nb) := ⟨by rw [← hld, need_snoc, HNB.out]⟩
      obtain ⟨z2, hz2⟩ : ∃ z2, z2 + nb = z := ⟨z - nb, by have := HKZ.out; omega⟩
      have hz3 : (z : Int) - (nb : Int) = (z2 : Int) := by omega
      have HZ : Aside0 (need ld + z2 = 120) := ⟨by have := HKZ.out; have := HND.out; omega⟩
      have hzb : z2 ≤ 120 := by have := HZ.out; omega
      have NQ : Aside0 (∀ W, LgB w W a1 a2 Bl (n + nb) s2 C2 0 ld 120 → LgB w W b1 b2 Bm (n + nb) s2 C2 0 ld 120 → AgI w W a1 a2 Bl b1 b2 Bm (n + nb) (i + 1) s2 C2 ld) := ⟨fun W h1 h2 => ⟨h1, h2, K1.out.ne, K1.out.nB, HLL.out, by omega, by rw [HND.out]; omega, HS.out⟩⟩
      have HLD : Aside0 (nxt ((none, s2, C2) : Option Er × Dk × CT).1 l b = ld) := ⟨hld⟩
      rw [HLD.out] at QA QA2
      clear hr hd2 ha2 hlife K hld HC3 x0 p0 p1 hcut hm1 hm2 hm3 h7 hz2
      go_wp2_with fail
      refine QA.out.mono ?_
      rintro e w6 ⟨v6, rfl, hE, hf, K6⟩
      obtain rfl : v6 = .nilIface := hE
      have L6 := Aside0.mk K6
      have M6 := Aside0.mk (other K1.out.two K1.out.one hf K1.out.ne K1.out.nB)
      have C6 := Aside0.mk (C_fr CX.out hf K1.out.one.noB)
      clear hf K6 QA CX
      go_wp2_with fail
      refine (QA2.out _ M6.out C6.out).mono ?_
      rintro e w7 ⟨v7, rfl, hE, hf, K7⟩
      obtain rfl : v7 = .nilIface := hE
      have hne := K1.out.ne
      have K8 := Aside0.mk (NQ.out w7 (other L6.out M6.out hf (by omega) (fun e => K1.out.nB e.symm)) K7)
      clear hf K7 QA2 C6 M6 L6 NQ K1 hne
      go_wp2_with fail
      refine (QB.out _).mono ?_
      rintro e w8 ⟨rfl, hb⟩
      have K9 := Aside0.mk (K8.out.below hb)
      have bB := Aside0.mk (K9.out.one.d.fr.below (n := w.heap.size) (Nat.le_refl _) (fun _ h => h))
      clear hb K8 QB
      by_cases hi1 : i < l1.length
      · have r1 : decide ((i : Int) < (l1.length : Int)) = true := decide_eq_true (by omega)
        obtain ⟨bd, rfl, m1⟩ := at_b R1.out i hi1
        have y0 := cell_keep bB.out m1
        have p0 : (0 : Int) ≤ (i : Int) := by omega
        have p1 : (i : Int) < (l1.length : Int) := by omega
        clear m1
        cases hz : l1.getD i false with
        | true =>
          rw [hz] at y0
          clear hz
          go_wp2_with fail
          refine (open2 K9.out.one.d HS.out.1).mono ?_
          rintro e wa ⟨Bn, A7, c7, rfl, hge, hb, K⟩
          have hlt9 := K9.out.two.lx.lt
          rw [HS.out.2.1] at K
          have Ka : Aside0 (AgI w wa a1 a2 Bn b1 b2 Bm (n + nb) (i + 1) s2 C2 ld) := ⟨K, K9.out.two.below hb, K9.out.ne, by omega, K9.out.len, K9.out.num, K9.out.nd, K9.out.st⟩
          have hll : ((ld.length : Nat) : Int) = (i : Int) + 1 := by have := HLL.out; omega
          clear hb K hge hlt9
          go_wp2_with fail
          refine (left_of Ka.out.one z2 HZ.out).mono ?_
          rintro e wx ⟨rfl, hb⟩
          have Lx := Aside0.mk (Ka.out.below hb)
          clear hb
          go_wp2_with fail
          refine (left_of Lx.out.two z2 HZ.out).mono ?_
          rintro e wy ⟨rfl, hb⟩
          have Ly := Aside0.mk (Lx.out.below hb)
          clear hb
          go_wp2_with fail
          refine (len_calls Ly.out.one.lx).mono ?_
          rintro e wz ⟨rfl, rfl⟩
          rw [show ((ld.length : Nat) : Int) = (i : Int) + 1 from by have := HLL.out; omega]
          go_wp2
          go_roundg (gk - 1)
          case measure => omega
          case rel => exact ⟨i + 1, Bn, n + nb, z2, s2, C2, ld, rfl, rfl, by go_num, by omega, by omega, ⟨Ly.out, HZ.out⟩⟩
        | false =>
          rw [hz] at y0
          clear hz
          go_wp2_with fail
          refine (left_of K9.out.one z2 HZ.out).mono ?_
          rintro e wx ⟨rfl, hb⟩
          have Lx := Aside0.mk (K9.out.below hb)
          clear hb
          go_wp2_with fail
          refine (left_of Lx.out.two z2 HZ.out).mono ?_
          rintro e wy ⟨rfl, hb⟩
          have Ly := Aside0.mk (Lx.out.below hb)
          clear hb
          go_wp2_with fail
          refine (len_calls Ly.out.one.lx).mono ?_
          rintro e wz ⟨rfl, rfl⟩
          rw [show ((ld.length : Nat) : Int) = (i : Int) + 1 from by have := HLL.out; omega]
          go_wp2
          go_roundg (gk - 1)
          case measure => omega
          case rel => exact ⟨i + 1, Bl, n + nb, z2, s2, C2, ld, rfl, rfl, by go_num, by omega, by omega, ⟨Ly.out, HZ.out⟩⟩
      · have r1 : decide ((i : Int) < (l1.length : Int)) = false := decide_eq_false (by omega)
        · go_wp2_with fail
          refine (left_of K9.out.one z2 HZ.out).mono ?_
          rintro e wx ⟨rfl, hb⟩
          have Lx := Aside0.mk (K9.out.below hb)
          clear hb
          go_wp2_with fail
          refine (left_of Lx.out.two z2 HZ.out).mono ?_
          rintro e wy ⟨rfl, hb⟩
          have Ly := Aside0.mk (Lx.out.below hb)
          clear hb
          go_wp2_with fail
          refine (len_calls Ly.out.one.lx).mono ?_
          rintro e wz ⟨rfl, rfl⟩
          rw [show ((ld.length : Nat) : Int) = (i : Int) + 1 from by have := HLL.out; omega]
          go_wp2
          go_roundg (gk - 1)
          case measure => omega
          case rel => exact ⟨i + 1, Bl, n + nb, z2, s2, C2, ld, rfl, rfl, by go_num, by omega, by omega, ⟨Ly.out, HZ.out⟩⟩
    · have q : (i < l0.length ∧ decide ((i : Int) < (l0.length : Int)) = true ∧ decide ((i : Int) < 15) = false) ∨ (¬ i < l0.length ∧ decide ((i : Int) < (l0.length : Int)) = false) := by
        by_cases h1 : i < l0.length
        · exact Or.inl ⟨h1, decide_eq_true (by omega), decide_eq_false (by omega)⟩
        · exact Or.inr ⟨h1, decide_eq_false (by omega)⟩
      have I1 := Aside0.mk K.out.1
      clear K
      rcases q with ⟨h1, q1, q2⟩ | ⟨h1, q1⟩
      all_goals
        go_wp2
        go_loopg [21] 120 (fun kq v21 wr => ∃ (jj : Nat), v21 = .int .i64 (jj : Int) ∧ jj ≤ 120 ∧ 120 - jj ≤ kq ∧ Aside0 (AgI w wr a1 a2 Bl b1 b2 Bm n i s C l))
        case atStart => exact ⟨0, rfl, by omega, by omega, I1⟩
        case round =>
          obtain ⟨j, rfl, hj, hk2, K⟩ := hrel
          clear I1
          by_cases hlt2 : j < 120
          · have q3 : decide ((j : Int) < 120) = true := decide_eq_true (by omega)
            have Q1 := Aside0.mk (read_of K.out.one.d K.out.st.1 j hlt2)
            have Q2 := Aside0.mk (fun W (hW : DkB w W b1 b2 n s C l 120) => read_of hW K.out.st.1 j hlt2)
            obtain ⟨ys, hys⟩ : ∃ ys, (C (j : Int)).getD [] = ys := ⟨_, rfl⟩
            obtain ⟨bb, hbb⟩ : ∃ bb, (C (j : Int)).isSome = bb := ⟨_, rfl⟩
            rw [hys, hbb] at Q1 Q2
            clear hys hbb
            go_wp2_with fail
            refine Q1.out.mono ?_
            rintro e w5 ⟨A5', c5', rfl, hC1, hb⟩
            have K5 := Aside0.mk (K.out.below hb)
            have C5 := Aside0.mk hC1
            clear hb hC1 Q1
            go_wp2_with fail
            refine (Q2.out _ K5.out.two.d).mono ?_
            rintro e w6 ⟨A6', c6', rfl, hC2, hb⟩
            have K6 := Aside0.mk (K5.out.below hb)
            have hcv1 := Kd.C_string (P := Tryd.prog) (c := c5') Tryd.underlying30 Tryd.underlying5 Tryd.underlying9 (Kd.C_below C5.out hb)
            have hcv2 := Kd.C_string (P := Tryd.prog) (c := c6') Tryd.underlying30 Tryd.underlying5 Tryd.underlying9 hC2
            obtain ⟨sy, hsy⟩ : ∃ sy, strOfNums ys = sy := ⟨_, rfl⟩
            rw [hsy] at hcv1 hcv2
            have e1 : (bb != bb) = false := by cases bb <;> rfl
            clear hb hC2 Q2 K5 C5 hsy
            go_wp2
            go_roundg (gk - 1)
            case measure => omega
            case rel => exact ⟨j + 1, by go_num, by omega, by omega, K6⟩
          · have q3 : decide ((j : Int) < 120) = false := decide_eq_false (by omega)
            go_wp2_with fail
            refine (told_law wr (K.out.one.d.laid HL.out)).mono ?_
            rintro e w10 ⟨rfl, hb⟩
            have K6 := Aside0.mk (K.out.below hb)
            clear hb
            go_wp2
            go_ret
            exact ⟨rfl, K6.out.one.d.fr.below (Nat.le_refl _) (fun _ h => h)⟩
end Again
open Classical in
noncomputable def tributarylaw8_LogAgain.f (l0 : List (List Int)) (l1 : List Bool) : Option Bool := if Again.okRecs l0 then some true else none
theorem tributarylaw8_LogAgain.calls (A0 : Option Addr) (c0 : Nat) (l0 : List (List Int)) (A1 : Option Addr) (c1 : Nat) (l1 : List Bool) (r : Bool) (w : World) (hr0 : KR.C w A0 l0.length l0) (hc0 : l0.length ≤ c0) (hr1 : Kd.bool.C w A1 l1.length l1) (hc1 : l1.length ≤ c1) (hL : Laid w) (h : tributarylaw8_LogAgain.f l0 l1 = some r) :
    Calls Tryd.prog 6 #[.slice A0 l0.length c0, .slice A1 l1.length c1] w fun e w' => e = .returned (.bool r) ∧ Below w.heap.size w w' := by
  unfold tributarylaw8_LogAgain.f at h
  by_cases hk : Again.okRecs l0
  · rw [if_pos hk] at h
    obtain rfl := Option.some.inj h
    exact Again.logAgain_law A0 c0 l0 A1 c1 l1 w hr0 hc0 hr1 hc1 hL hk
  · rw [if_neg hk] at h; cases h
end Go.Proofs.YtlhjjjpldmekdaaDoor.PLg
