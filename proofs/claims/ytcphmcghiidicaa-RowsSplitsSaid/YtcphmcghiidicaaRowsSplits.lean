/- Proved: the law RowsSplits, walked by hand; no condition but that numbers fit. -/
import Derived.Test.YtcphmcghiidicaaRwLaw
import Derived.Test.YtcphmcghiidicaaRegInv
namespace Go.Proofs.Ytcphmcghiidicaa.PRw
open Go.RowKit Go.Proofs.YtcphmcghiidicaaW.PrintWords Go.Proofs.YtcphmcghiidicaaW.PrintLast Go.Proofs.YtcphmcghiidicaaW.PrintMore
open Go.Proofs.Ytcphmcghiidicaa.Pure (splitOf inPart)
set_option linter.unusedVariables false
set_option linter.unusedSimpArgs false
theorem split_app (X Y : List S35) (n : Int) (i : Nat) (h : i < n.toNat) : rd_L2 (splitOf (X ++ Y) n) (i : Int) = rd_L2 (splitOf X n) (i : Int) ++ rd_L2 (splitOf Y n) (i : Int) := by
  have e : ∀ l : List S35, rd_L2 (splitOf l n) (i : Int) = inPart l n i := fun l => by
    have hl : i < (splitOf l n).length := by rw [Pure.splitOf_length]; exact h
    rw [Pure.rdL_nat _ i hl, Pure.splitOf_get]
  rw [e, e, e]
  unfold inPart
  exact List.filter_append ..
theorem split_each (l : List S35) (n : Int) (i : Nat) (h : i < n.toNat) : (rd_L2 (splitOf l n) (i : Int)).length ≤ l.length := by
  have hl : i < (splitOf l n).length := by rw [Pure.splitOf_length]; exact h
  rw [Pure.rdL_nat _ i hl, Pure.splitOf_get]
  exact List.length_filter_le _ _
set_option maxHeartbeats 8000000 in
set_option maxRecDepth 100000 in
theorem splits_law (A0 : Option Addr) (c0 : Nat) (l0 : List S35) (A1 : Option Addr) (c1 : Nat) (l1 : List S35) (a2 : Int) (w : World) (hr0 : Kd.C k35 w A0 l0.length l0) (hc0 : l0.length ≤ c0) (hr1 : Kd.C k35 w A1 l1.length l1) (hc1 : l1.length ≤ c1) (hl0 : l0.length ≤ 9223372036854775807) (hl1 : l1.length ≤ 9223372036854775807) :
    Calls Try.prog 3 #[.slice A0 l0.length c0, .slice A1 l1.length c1, .int .i64 a2] w fun e w' => e = .returned (.bool true) ∧ Below w.heap.size w w' := by
  obtain ⟨X, hX⟩ : ∃ X, l0.take 80 = X := ⟨_, rfl⟩
  obtain ⟨Y, hY⟩ : ∃ Y, l1.take 80 = Y := ⟨_, rfl⟩
  have lX : X.length ≤ 80 := by rw [← hX, List.length_take]; omega
  have lY : Y.length ≤ 80 := by rw [← hY, List.length_take]; omega
  have N1 := Aside0.mk (show tributarylaw2_few.f l0 80 = some X by rw [Pure.few_f l0 80 (by omega) (by omega) hl0, ← hX]; rfl)
  have N2 := Aside0.mk (show tributarylaw2_few.f l1 80 = some Y by rw [Pure.few_f l1 80 (by omega) (by omega) hl1, ← hY]; rfl)
  have lZ : (X ++ Y).length ≤ 160 := by rw [List.length_append]; omega
  obtain ⟨of, ho1, ho4, eo, eo'⟩ := and3 a2
  have HR0 := Aside0.mk hr0
  have HR1 := Aside0.mk hr1
  have LXY := Aside0.mk (And.intro lX lY)
  have EO := Aside0.mk eo
  have EO' := Aside0.mk eo'
  clear hr0 hr1 hX hY eo eo' hl0 hl1
  go_enter Try.func3, Try.ntmps3
  go_wp2_with (first
    | (go_at_call 5; (with_reducible refine (tributarylaw2_few.calls A0 c0 l0 80 X w HR0.out hc0 N1.out).mono ?_); rintro e w1 ⟨v7, rfl, ho1_, hb1⟩; have HB1 := Aside0.mk hb1; have HO1 := Aside0.mk ho1_; have HR1' := Aside0.mk (Kd.C_below HR1.out hb1); clear hb1 ho1_)
    | (go_at_call 5; (with_reducible refine (tributarylaw2_few.calls A1 c1 l1 80 Y w1 HR1'.out hc1 N2.out).mono ?_); rintro e w2 ⟨v8, rfl, ho2_, hb2⟩; have HB2 := Aside0.mk (HB1.out.trans (hb2.mono HB1.out.size)); have HO7 := Aside0.mk (Kd.R_below HO1.out hb2); have HO8 := Aside0.mk (Kd.R_lower ho2_ HB1.out.size); clear hb2 ho2_ HO1 HR1'; obtain ⟨A7, c7, e7⟩ := Kd.R_slice HO7.out; subst e7; obtain ⟨A8, c8, e8⟩ := Kd.R_slice HO8.out; subst e8; obtain ⟨v22, w3, hrA, hRA, _, hgA, hatA⟩ := app_keeps (W := w2) w2.heap.size (fun _ => True) 22 (.slice none 0 0) [] X A7 X.length c7 (Kd.R_nil _ _ _ _ _) (Kd.R_reads' HO7.out).2.2 (Nat.le_refl _) (fun _ _ => trivial) (by have := LXY.out; simp only [List.length_nil]; omega); rw [List.nil_append] at hRA; have hbA : Below w2.heap.size w2 w3 := (Below.refl _ _).grown hgA (Nat.le_refl _) (fun k hk => by simp [Value.ownBlock] at hk); have hY3 := Kd.C_below (Kd.R_reads' HO8.out).2.2 hbA; obtain ⟨v24, w4, hrB, hRB, _, hgB, hatB⟩ := app_keeps (W := w3) w2.heap.size (fun _ => True) 22 v22 X Y A8 Y.length c8 hRA hY3 hbA.size (fun _ _ => trivial) (by have := LXY.out; omega); have hbB : Below w2.heap.size w2 w4 := hbA.grown hgB hbA.size (fun k hk => by obtain ⟨inner, ho⟩ := Kd.R_own hRA; exact (ho.lt k hk).1); have HBB := Aside0.mk hbB; have HO9 := Aside0.mk hRB; clear hRA hRB hgA hgB hatA hatB hY3 hbA hbB)
    | (at_builtin; refine wpList_run rfl (.const (.slice none 0 0)) (.tmp 21) 22 rfl (.slice none 0 0) (.slice A7 X.length c7) v22 w3 rfl rfl hrA ?_)
    | (at_builtin; refine wpList_run rfl (.tmp 22) (.tmp 23) 22 rfl v22 (.slice A8 Y.length c8) v24 w4 rfl rfl hrB ?_))
  rw [EO.out]
  obtain ⟨ZZ, hZZ⟩ : ∃ ZZ, X ++ Y = ZZ := ⟨_, rfl⟩
  rw [hZZ] at HO9 lZ
  obtain ⟨A9, c9, e9⟩ := Kd.R_slice HO9.out
  subst e9
  have hlP := Pure.splitOf_length X (of : Int)
  have hlQ := Pure.splitOf_length Y (of : Int)
  have hlR := Pure.splitOf_length ZZ (of : Int)
  rw [Int.toNat_natCast] at hlP hlQ hlR
  obtain ⟨K1, s1⟩ := Pure.split_ev X (of : Int) (by omega) (by omega) (by omega)
  obtain ⟨K2, s2⟩ := Pure.split_ev Y (of : Int) (by omega) (by omega) (by omega)
  obtain ⟨K3, s3⟩ := Pure.split_ev ZZ (of : Int) (by omega) (by omega) (by omega)
  have S1 := Aside0.mk (s1 K1 (Nat.le_refl _))
  have S2 := Aside0.mk (s2 K2 (Nat.le_refl _))
  have S3 := Aside0.mk (s3 K3 (Nat.le_refl _))
  have SA := Aside0.mk (fun i (h : i < of) => split_app X Y (of : Int) i (by rw [Int.toNat_natCast]; exact h))
  have SE := Aside0.mk (And.intro (fun i (h : i < of) => split_each X (of : Int) i (by rw [Int.toNat_natCast]; exact h)) (fun i (h : i < of) => split_each Y (of : Int) i (by rw [Int.toNat_natCast]; exact h)))
  rw [hZZ] at SA
  obtain ⟨P, hP⟩ : ∃ P, splitOf X (of : Int) = P := ⟨_, rfl⟩
  obtain ⟨Q, hQ⟩ : ∃ Q, splitOf Y (of : Int) = Q := ⟨_, rfl⟩
  obtain ⟨R, hR⟩ : ∃ R, splitOf ZZ (of : Int) = R := ⟨_, rfl⟩
  rw [hP] at S1 SA SE hlP
  rw [hQ] at S2 SA SE hlQ
  rw [hR] at S3 SA hlR
  have LZ := Aside0.mk lZ
  have HZZ := Aside0.mk hZZ
  clear s1 s2 s3 hP hQ hR lX lY lZ hZZ
  have HB4 := Aside0.mk (HB2.out.trans (HBB.out.mono HB2.out.size))
  have H7 := Aside0.mk (Kd.R_below HO7.out HBB.out)
  have H8 := Aside0.mk (Kd.R_below HO8.out HBB.out)
  obtain ⟨Z3, hZ3⟩ : ∃ Z3, w4.heap.size = Z3 := ⟨_, rfl⟩
  have H9 : Aside0 (Kd.R k35 35 w4 0 (fun k => k < Z3) (.slice A9 ZZ.length c9) ZZ) := ⟨Kd.R_lower (Kd.R_mono (Kd.R_bound HO9.out) (fun k hk => by rw [← hZ3]; exact hk.2.2.1)) (Nat.zero_le _)⟩
  have HZ3 := Aside0.mk hZ3
  clear hZ3 HO7 HO8 HO9 HBB HB2 HB1 HR0 HR1 N1 N2
  (with_reducible refine (rows_Split.calls K1 A7 c7 X (of : Int) P w4 (Kd.R_reads' H7.out).2.2 (Kd.R_reads' H7.out).2.1 S1.out).mono ?_)
  rintro e w5 ⟨vp, rfl, hS, hb⟩
  have HB5 := Aside0.mk (HB4.out.trans (hb.mono HB4.out.size))
  have H8' := Aside0.mk (Kd.R_below H8.out hb)
  have H9' := Aside0.mk (Kd.R_below H9.out hb)
  have hZw : w.heap.size ≤ Z3 := by rw [← HZ3.out]; exact HB4.out.size
  obtain ⟨Z4, hZ4⟩ : ∃ Z4, w5.heap.size = Z4 := ⟨_, rfl⟩
  have hZ34 : Z3 ≤ Z4 := by rw [← HZ3.out, ← hZ4]; exact hb.size
  have HP : Aside0 (Kd.S KS 22 w5 Z3 (fun k => k < Z4) vp P) := ⟨Kd.S_mono (Kd.S_bound (by have := hS; rw [HZ3.out] at this; exact this)) (fun k hk => by rw [← hZ4]; exact hk.2.2.1)⟩
  have HZ4 := Aside0.mk hZ4
  clear hS hb H7 H8 H9 HB4 hZ4
  go_wp2_with fail
  (with_reducible refine (rows_Split.calls K2 A8 c8 Y (of : Int) Q w5 (Kd.R_reads' H8'.out).2.2 (Kd.R_reads' H8'.out).2.1 S2.out).mono ?_)
  rintro e w6 ⟨vq, rfl, hS, hb⟩
  have HB6 := Aside0.mk (HB5.out.trans (hb.mono HB5.out.size))
  have HP6 := Aside0.mk (Kd.S_below HP.out hb)
  have H96 := Aside0.mk (Kd.R_below H9'.out hb)
  have HQ : Aside0 (Kd.S KS 22 w6 Z4 (fun k => Z4 ≤ k) vq Q) := ⟨Kd.S_mono (Kd.S_bound (by have := hS; rw [HZ4.out] at this; exact this)) (fun k hk => hk.2.1)⟩
  have hZ46 : Z4 ≤ w6.heap.size := by rw [← HZ4.out]; exact hb.size
  clear hS hb H8' H9' HB5 HP
  go_wp2_with fail
  (with_reducible refine (rows_Split.calls K3 A9 c9 ZZ (of : Int) R w6 (Kd.R_reads' H96.out).2.2 (Kd.R_reads' H96.out).2.1 S3.out).mono ?_)
  rintro e w7 ⟨vr, rfl, hS, hb⟩
  have HB7 := Aside0.mk (HB6.out.trans (hb.mono HB6.out.size))
  have HP7 := Aside0.mk (Kd.S_below HP6.out hb)
  have HQ7 := Aside0.mk (Kd.S_below HQ.out hb)
  have H97 := Aside0.mk (Kd.R_below H96.out hb)
  have HR7 : Aside0 (Kd.S KS 22 w7 Z4 (fun k => Z4 ≤ k) vr R) := ⟨Kd.S_lower (Kd.S_mono (Kd.S_bound hS) (fun k hk => Nat.le_trans hZ46 hk.2.1)) hZ46⟩
  have HZB := Aside0.mk (Nat.le_trans hZ46 hb.size)
  clear hS hb HP6 HQ H96 HB6 hZ46 S1 S2 S3
  obtain ⟨Ap, cp, ep⟩ := Kd.S_slice HP7.out
  obtain ⟨Aq, cq, eq_⟩ := Kd.S_slice HQ7.out
  obtain ⟨Ar, cr, er⟩ := Kd.S_slice HR7.out
  subst ep eq_ er
  rw [hlP] at HP7
  rw [hlQ] at HQ7
  rw [hlR] at HR7
  rw [hlP, hlQ, hlR]
  clear hrA hrB
  go_wp2_with fail
  go_loopg [13] (of + 1) (fun kq v13 wr => ∃ i : Nat, v13 = .int .i64 (i : Int) ∧ i ≤ of ∧ of - i < kq ∧ Aside0 (Kd.S KS 22 wr Z3 (fun k => k < Z4) (.slice (Ap) of cp) P) ∧ Aside0 (Kd.S KS 22 wr Z4 (fun k => Z4 ≤ k) (.slice Aq of cq) Q) ∧ Aside0 (Kd.S KS 22 wr Z4 (fun k => Z4 ≤ k) (.slice Ar of cr) R) ∧ Aside0 (Kd.R k35 35 wr 0 (fun k => k < Z3) (.slice A9 ZZ.length c9) ZZ) ∧ Aside0 (Below w.heap.size w wr ∧ Z4 ≤ wr.heap.size))
  case atStart => exact ⟨0, rfl, by omega, by omega, HP7, HQ7, HR7, H97, ⟨HB7.out, HZB.out⟩⟩
  case round =>
    clear HP7 HQ7 HR7 H97 HB7
    obtain ⟨i, rfl, hi, hik, HP, HQ, HR, H9, HB⟩ := hrel
    by_cases hlt : i < of
    · have q1 : decide ((i : Int) < (of : Int)) = true := decide_eq_true (by omega)
      have hPl : 0 < P.length := by omega
      have hQl : 0 < Q.length := by omega
      have hRl : 0 < R.length := by omega
      obtain ⟨gp, cp', ep, _, _, _⟩ := Kd.S_form HP.out hPl
      obtain ⟨gq, cq', eq_, hgq, _, _⟩ := Kd.S_form HQ.out hQl
      obtain ⟨gr, cr', er, hgr, _, _⟩ := Kd.S_form HR.out hRl
      injection ep with ep1 ep2 ep3
      injection eq_ with eq1 eq2 eq3
      injection er with er1 er2 er3
      subst ep1 eq1 er1
      clear ep2 ep3 eq2 eq3 er2 er3
      have HPd := Kd.S_drew HP.out
      have HQd := Kd.S_drew HQ.out
      have HRd := Kd.S_drew HR.out
      obtain ⟨oki, c, hcl, hM, hcp, hoki, hback⟩ := Kd.S_borrow HPd [] (i : Int) (by omega) (by omega)
      obtain ⟨adq, Aq0, cq0, e1, hcq, hlq, hCq⟩ := at_L2 (Kd.S_reads' HQd).2.2 (i : Int) (by omega) (by omega)
      obtain ⟨adr, Ar0, cr0, e2, hcr, hlr, hCr⟩ := at_L2 (Kd.S_reads' HRd).2.2 (i : Int) (by omega) (by omega)
      obtain rfl := Option.some.inj e1
      obtain rfl := Option.some.inj e2
      rw [Int.toNat_natCast] at hcq hcr hcp hM hback
      obtain ⟨vi, rfl, hRi⟩ := hM
      have eP : P.getD i [] = rd_L2 P (i : Int) := by unfold rd_L2; rw [Int.toNat_natCast]
      rw [eP] at hRi
      have hsa := SA.out i hlt
      have hse1 := SE.out.1 i hlt
      have hse2 := SE.out.2 i hlt
      obtain ⟨Pi, hPi⟩ : ∃ Pi, rd_L2 P (i : Int) = Pi := ⟨_, rfl⟩
      obtain ⟨Qi, hQi⟩ : ∃ Qi, rd_L2 Q (i : Int) = Qi := ⟨_, rfl⟩
      obtain ⟨Ri, hRi'⟩ : ∃ Ri, rd_L2 R (i : Int) = Ri := ⟨_, rfl⟩
      rw [hPi] at hRi hsa hse1 eP
      rw [hQi] at hcq hlq hCq hsa hse2
      rw [hRi'] at hcr hlr hCr hsa
      have hpl := LXY.out
      obtain ⟨Ai, ci, ei⟩ := Kd.R_slice hRi
      subst ei
      have hcpi : wr.drew.cell? (Addr.add ⟨gp, 0, none⟩ (i * 1 + 0)) = some (.slice Ai Pi.length ci) := hcp 0 _ rfl
      rw [Nat.mul_one, Nat.add_zero, add_plain] at hcpi
      rw [add_plain] at hcq hcr
      obtain ⟨v1, w8, hrun, hR1, hOld, hg, hat⟩ := app_keeps (W := wr.drew) Z3 (fun k => oki k ∨ wr.heap.size ≤ k) 22 (.slice Ai Pi.length ci) Pi Qi Aq0 Qi.length cq0 (Kd.R_mono hRi (fun k hk => .inl hk)) hCq (Nat.le_trans hZ34 HB.out.2) (fun k hk => .inr hk) (by omega)
      rw [← hsa] at hR1
      have hrow : ∀ k, (Value.slice Ai Pi.length ci).ownBlock = some k → oki k ∧ Z3 ≤ k ∧ k < Z4 := fun k hk => by
        obtain ⟨inner, ho⟩ := Kd.R_own hRi
        exact ⟨hRi.1 k hk, (ho.lt k hk).1, (hoki k (hRi.1 k hk)).1⟩
      have hP8 := hback hg (fun k hk => (hrow k hk).1) (x' := Pi) ⟨_, rfl, Kd.R_mono (Kd.R_tight rfl hOld) (fun k hk => (hrow k hk.symm).1)⟩
      have eSet : P.set i Pi = P := by
        rw [← eP, List.getD_eq_getElem?_getD, List.getElem?_eq_getElem (by omega), Option.getD_some, List.set_getElem_self]
      rw [eSet] at hP8
      have hQ8 := Kd.S_grown HQd hg (fun k hk e => by have := (hrow k e.symm).2.2; omega)
      have hR8 := Kd.S_grown HRd hg (fun k hk e => by have := (hrow k e.symm).2.2; omega)
      have h98 := Kd.R_grown (Kd.R_drew H9.out) hg (fun k hk e => by have := (hrow k e.symm).2.1; omega)
      have hB8 : Below w.heap.size w w8 := (below_drew HB.out.1).grown hg HB.out.1.size (fun k hk => Nat.le_trans hZw (hrow k hk).2.1)
      have hz8 : Z4 ≤ w8.heap.size := Nat.le_trans HB.out.2 hg.size
      have hcr8 := World.grownBy.cell hg hcr (fun e => by have := (hrow gr e.symm).2.2; omega)
      obtain ⟨adr', Ar1, cr1, e2', hcr1, hlr1, hCr1⟩ := at_L2 (Kd.S_reads' hR8).2.2 (i : Int) (by omega) (by omega)
      obtain rfl := Option.some.inj e2'
      rw [hRi', Int.toNat_natCast, add_plain] at hcr1
      rw [hRi'] at hlr1 hCr1
      have hee := hcr8.symm.trans hcr1
      injection hee with hee
      injection hee with hee1 hee2 hee3
      subst hee1 hee3
      obtain ⟨A1, c1', ev1⟩ := Kd.R_slice hR1
      subst ev1
      obtain ⟨K5, s5⟩ := Pure.same_ev Ri Ri (by rw [hsa, List.length_append]; omega)
      have h5 := s5 K5 (Nat.le_refl _)
      rw [decide_eq_true rfl] at h5
      have HS := Aside0.mk (tributaryref2_Same.calls K5 Ar0 cr0 Ri A1 c1' Ri true w8 hCr1 hlr1 (Kd.R_reads' hR1).2.2 (Kd.R_reads' hR1).2.1 h5)
      have HP8 := Aside0.mk hP8
      have HQ8 := Aside0.mk hQ8
      have HR8 := Aside0.mk hR8
      have H98 := Aside0.mk h98
      have HB8 := Aside0.mk hB8
      have p0 : (0 : Int) ≤ (i : Int) := by omega
      have p1 : (i : Int) < (of : Int) := by omega
      have x1 : wr.cell? ⟨gp, i, none⟩ = some (.slice Ai Pi.length ci) := hcpi
      have x2 : wr.cell? ⟨gq, i, none⟩ = some (.slice Aq0 Qi.length cq0) := hcq
      have x3 : wr.cell? ⟨gr, i, none⟩ = some (.slice Ar0 Ri.length cr0) := hcr
      clear hP8 hQ8 hR8 h98 hB8 HPd HQd HRd hback hcp hcq hcr hcr1 hcpi hCq hCr hCr1 hRi hR1 hOld hg hat hrow hoki eSet eP hsa hse1 hse2 hPi hQi hRi' h5 s5 hpl hlq hlr hlr1 hcl
      go_wp2_with fail
      go_region_law (first
        | (refine law_append (by rfl) (.tmp 62) (.tmp 66) 22 rfl (.slice Ai Pi.length ci) (.slice Aq0 Qi.length cq0) (.slice A1 Ri.length c1') w8 rfl rfl hrun ?_)
        | (refine law_call (by rfl) (by go_simp; try rfl) (HS.out.mono ?_); rintro e w9 ⟨rfl, ⟨nd, rfl⟩⟩; refine ⟨_, rfl, ?_⟩))
      all_goals go_wp2
      all_goals go_roundg (gk - 1)
      all_goals first
        | (case measure => omega)
        | (case rel => exact ⟨i + 1, (by first | rfl | go_num), by omega, by omega, ⟨Kd.S_drewN HP8.out nd⟩, ⟨Kd.S_drewN HQ8.out nd⟩, ⟨Kd.S_drewN HR8.out nd⟩, ⟨Kd.R_drewN H98.out nd⟩, ⟨⟨pw_below_drewN HB8.out nd, by have := hz8; simpa using this⟩⟩⟩)
    · obtain rfl : i = of := by omega
      have q1 : decide ((i : Int) < (i : Int)) = false := decide_eq_false (by omega)
      clear HP HQ HR
      go_wp2_with fail
      have HK := Aside0.mk (tributarylaw2_told.calls 2 true wr Pure.told_f)
      have lz := LZ.out
      obtain ⟨TT, hTT⟩ : ∃ TT, ZZ.take 64 = TT := ⟨_, rfl⟩
      have lT : TT.length ≤ 64 := by rw [← hTT, List.length_take]; omega
      have C1 := Aside0.mk (show rows_Cut.f ZZ = some TT by rw [Pure.cut_f ZZ (by omega), hTT])
      have C2 := Aside0.mk (show rows_Cut.f TT = some TT by rw [Pure.cut_f TT (by omega), List.take_of_length_le lT])
      obtain ⟨K5, s5⟩ := Pure.same_ev TT TT (by omega)
      have h5 := s5 K5 (Nat.le_refl _)
      rw [decide_eq_true rfl] at h5
      have HS := Aside0.mk h5
      have hmn : (if (64 : Int) < (ZZ.length : Int) then (64 : Int) else (ZZ.length : Int)) = (TT.length : Int) := by rw [← hTT, List.length_take]; split <;> omega
      have htl : TT.length ≤ ZZ.length := by rw [← hTT, List.length_take]; omega
      have hzc := (Kd.R_reads' H9.out).2.1
      have hcut := Reg.cut_cap (P := Try.prog) 22 35 .i64 Try.underlying22 (info_parts info35).choose_spec.1 A9 ZZ.length c9 (TT.length : Int) (by omega) (by omega)
      rw [Int.toNat_natCast] at hcut
      have HTT := Aside0.mk hTT
      clear hTT s5 h5
      refine Reg.region_inv (Reg.tab [(Reg.Is (.bool true)), (Reg.Is (.bool true)), (Reg.Is (.slice A9 ZZ.length c9)), (fun v w_ => Kd.R k35 35 w_ 0 (fun _ => True) v TT), (fun v w_ => Kd.R k35 35 w_ 0 (fun _ => True) v TT), (Reg.Is (.slice A9 ZZ.length c9)), (Reg.Is (.slice A9 ZZ.length c9)), (Reg.Is (.int .i64 (ZZ.length : Int))), (Reg.Is (.int .i64 (TT.length : Int))), (Reg.Is (.slice A9 TT.length c9)), (Reg.Is (.bool true)), (Reg.Is (.bool true)), (Reg.Is (.bool true))]) (by kernel_rfl) (by kernel_rfl) (Reg.tab_mono ?mono) ?steps ?fin
      case mono => exact ⟨Reg.Is.mono _, Reg.Is.mono _, Reg.Is.mono _, (fun _ _ _ hb h => Kd.R_below h hb), (fun _ _ _ hb h => Kd.R_below h hb), Reg.Is.mono _, Reg.Is.mono _, Reg.Is.mono _, Reg.Is.mono _, Reg.Is.mono _, Reg.Is.mono _, Reg.Is.mono _, Reg.Is.mono _, trivial⟩
      case steps =>
        refine ⟨?_, ?_, ?_, ?_, ?_, ?_, ?_, ?_, ?_, ?_, ?_, ?_, ?_, trivial⟩
        · intro ac w' hb hd hk   -- 0
          replace hb := Reg.below_undrew hb
          refine Reg.step_call (Reg.wanted_free rfl) (by go_simp; try rfl) ((tributarylaw2_told.calls 2 true _ Pure.told_f).mono ?_)
          rintro en w4 ⟨rfl, hb4⟩
          exact ⟨_, rfl, rfl, hb4⟩
        · intro ac w' hb hd hk   -- 1
          replace hb := Reg.below_undrew hb
          obtain ⟨v70, e70, t70⟩ := hk.2 0 (by kernel_rfl)
          replace e70 : ac.tmps[70]? = some v70 := e70
          replace e70 : ac.tmps[70]? = some (.bool true) := e70.trans (congrArg some t70)
          exact Reg.step_value (Reg.wanted_free rfl) (w1 := w') (by go_simp; try rfl) (Below.refl _ _) rfl
        · intro ac w' hb hd hk   -- 2
          replace hb := Reg.below_undrew hb
          have e9 : ac.tmps[9]? = some (.slice A9 ZZ.length c9) := (hk.1 9 (by kernel_rfl)).trans rfl
          obtain ⟨v71, e71, t71⟩ := hk.2 1 (by kernel_rfl)
          replace e71 : ac.tmps[71]? = some v71 := e71
          replace e71 : ac.tmps[71]? = some (.bool true) := e71.trans (congrArg some t71)
          exact Reg.step_value ((Reg.wanted_is rfl rfl e71).trans rfl) (w1 := w') (by go_simp; try rfl) (Below.refl _ _) rfl
        · intro ac w' hb hd hk   -- 3
          replace hb := Reg.below_undrew hb
          obtain ⟨v72, e72, t72⟩ := hk.2 2 (by kernel_rfl)
          replace e72 : ac.tmps[72]? = some v72 := e72
          replace e72 : ac.tmps[72]? = some (.slice A9 ZZ.length c9) := e72.trans (congrArg some t72)
          obtain ⟨v71, e71, t71⟩ := hk.2 1 (by kernel_rfl)
          replace e71 : ac.tmps[71]? = some v71 := e71
          replace e71 : ac.tmps[71]? = some (.bool true) := e71.trans (congrArg some t71)
          have h1_ := Kd.R_below H9.out hb
          refine Reg.step_call ((Reg.wanted_is rfl rfl e71).trans rfl) (by go_simp; try rfl) ((rows_Cut.calls _ _ ZZ TT _ (Kd.R_reads' h1_).2.2 (Kd.R_reads' h1_).2.1 C1.out).mono ?_)
          rintro en w4 ⟨v0, rfl, ho, hb4⟩
          exact ⟨_, rfl, Kd.R_lower (Kd.R_mono ho (fun _ _ => trivial)) (Nat.zero_le _), hb4⟩
        · intro ac w' hb hd hk   -- 4
          replace hb := Reg.below_undrew hb
          obtain ⟨v73, e73, t73⟩ := hk.2 3 (by kernel_rfl)
          replace e73 : ac.tmps[73]? = some v73 := e73
          replace t73 : (fun v w_ => Kd.R k35 35 w_ 0 (fun _ => True) v TT) v73 w' := t73
          obtain ⟨v71, e71, t71⟩ := hk.2 1 (by kernel_rfl)
          replace e71 : ac.tmps[71]? = some v71 := e71
          replace e71 : ac.tmps[71]? = some (.bool true) := e71.trans (congrArg some t71)
          obtain ⟨A_, c_, e_⟩ := Kd.R_slice t73
          subst e_
          refine Reg.step_call ((Reg.wanted_is rfl rfl e71).trans rfl) (by go_simp; try rfl) ((rows_Cut.calls _ _ TT TT _ (Kd.R_reads' t73).2.2 (Kd.R_reads' t73).2.1 C2.out).mono ?_)
          rintro en w4 ⟨v0, rfl, ho, hb4⟩
          exact ⟨_, rfl, Kd.R_lower (Kd.R_mono ho (fun _ _ => trivial)) (Nat.zero_le _), hb4⟩
        · intro ac w' hb hd hk   -- 5
          replace hb := Reg.below_undrew hb
          have e9 : ac.tmps[9]? = some (.slice A9 ZZ.length c9) := (hk.1 9 (by kernel_rfl)).trans rfl
          obtain ⟨v71, e71, t71⟩ := hk.2 1 (by kernel_rfl)
          replace e71 : ac.tmps[71]? = some v71 := e71
          replace e71 : ac.tmps[71]? = some (.bool true) := e71.trans (congrArg some t71)
          exact Reg.step_value ((Reg.wanted_is rfl rfl e71).trans rfl) (w1 := w') (by go_simp; try rfl) (Below.refl _ _) rfl
        · intro ac w' hb hd hk   -- 6
          replace hb := Reg.below_undrew hb
          have e9 : ac.tmps[9]? = some (.slice A9 ZZ.length c9) := (hk.1 9 (by kernel_rfl)).trans rfl
          obtain ⟨v71, e71, t71⟩ := hk.2 1 (by kernel_rfl)
          replace e71 : ac.tmps[71]? = some v71 := e71
          replace e71 : ac.tmps[71]? = some (.bool true) := e71.trans (congrArg some t71)
          exact Reg.step_value ((Reg.wanted_is rfl rfl e71).trans rfl) (w1 := w') (by go_simp; try rfl) (Below.refl _ _) rfl
        · intro ac w' hb hd hk   -- 7
          replace hb := Reg.below_undrew hb
          obtain ⟨v76, e76, t76⟩ := hk.2 6 (by kernel_rfl)
          replace e76 : ac.tmps[76]? = some v76 := e76
          replace e76 : ac.tmps[76]? = some (.slice A9 ZZ.length c9) := e76.trans (congrArg some t76)
          obtain ⟨v71, e71, t71⟩ := hk.2 1 (by kernel_rfl)
          replace e71 : ac.tmps[71]? = some v71 := e71
          replace e71 : ac.tmps[71]? = some (.bool true) := e71.trans (congrArg some t71)
          exact Reg.step_value ((Reg.wanted_is rfl rfl e71).trans rfl) (w1 := w') (by go_simp; try rfl) (Below.refl _ _) rfl
        · intro ac w' hb hd hk   -- 8
          replace hb := Reg.below_undrew hb
          obtain ⟨v77, e77, t77⟩ := hk.2 7 (by kernel_rfl)
          replace e77 : ac.tmps[77]? = some v77 := e77
          replace e77 : ac.tmps[77]? = some (.int .i64 (ZZ.length : Int)) := e77.trans (congrArg some t77)
          obtain ⟨v71, e71, t71⟩ := hk.2 1 (by kernel_rfl)
          replace e71 : ac.tmps[71]? = some v71 := e71
          replace e71 : ac.tmps[71]? = some (.bool true) := e71.trans (congrArg some t71)
          exact Reg.step_value ((Reg.wanted_is rfl rfl e71).trans rfl) (w1 := w') (by go_simp; first | done | rfl | (rw [hmn]; rfl) | (simp [hmn]; done)) (Below.refl _ _) rfl
        · intro ac w' hb hd hk   -- 9
          replace hb := Reg.below_undrew hb
          obtain ⟨v75, e75, t75⟩ := hk.2 5 (by kernel_rfl)
          replace e75 : ac.tmps[75]? = some v75 := e75
          replace e75 : ac.tmps[75]? = some (.slice A9 ZZ.length c9) := e75.trans (congrArg some t75)
          obtain ⟨v78, e78, t78⟩ := hk.2 8 (by kernel_rfl)
          replace e78 : ac.tmps[78]? = some v78 := e78
          replace e78 : ac.tmps[78]? = some (.int .i64 (TT.length : Int)) := e78.trans (congrArg some t78)
          obtain ⟨v71, e71, t71⟩ := hk.2 1 (by kernel_rfl)
          replace e71 : ac.tmps[71]? = some v71 := e71
          replace e71 : ac.tmps[71]? = some (.bool true) := e71.trans (congrArg some t71)
          exact Reg.step_value ((Reg.wanted_is rfl rfl e71).trans rfl) (w1 := w') (by go_simp; first | done | rfl) (Below.refl _ _) rfl
        · intro ac w' hb hd hk   -- 10
          replace hb := Reg.below_undrew hb
          obtain ⟨v74, e74, t74⟩ := hk.2 4 (by kernel_rfl)
          replace e74 : ac.tmps[74]? = some v74 := e74
          replace t74 : (fun v w_ => Kd.R k35 35 w_ 0 (fun _ => True) v TT) v74 w' := t74
          obtain ⟨v79, e79, t79⟩ := hk.2 9 (by kernel_rfl)
          replace e79 : ac.tmps[79]? = some v79 := e79
          replace e79 : ac.tmps[79]? = some (.slice A9 TT.length c9) := e79.trans (congrArg some t79)
          obtain ⟨v71, e71, t71⟩ := hk.2 1 (by kernel_rfl)
          replace e71 : ac.tmps[71]? = some v71 := e71
          replace e71 : ac.tmps[71]? = some (.bool true) := e71.trans (congrArg some t71)
          obtain ⟨A_, c_, e_⟩ := Kd.R_slice t74
          subst e_
          have h1_ := Kd.R_below H9.out hb
          have h2_ : Kd.C k35 w' A9 (ZZ.take 64).length (ZZ.take 64) := by
            by_cases h64 : 64 ≤ ZZ.length
            · exact Kd.C_take (Kd.R_reads' h1_).2.2 h64
            · rw [List.take_of_length_le (by omega)]; exact (Kd.R_reads' h1_).2.2
          rw [HTT.out] at h2_
          refine Reg.step_call ((Reg.wanted_is rfl rfl e71).trans rfl) (by go_simp; try rfl) ((tributaryref2_Same.calls K5 _ _ TT _ _ TT true _ (Kd.R_reads' t74).2.2 (Kd.R_reads' t74).2.1 h2_ (by omega) HS.out).mono ?_)
          rintro en w4 ⟨rfl, ⟨nd, rfl⟩⟩
          exact ⟨_, rfl, rfl, by apply pw_below_drewN; exact Below.refl _ _⟩
        · intro ac w' hb hd hk   -- 11
          replace hb := Reg.below_undrew hb
          obtain ⟨v71, e71, t71⟩ := hk.2 1 (by kernel_rfl)
          replace e71 : ac.tmps[71]? = some v71 := e71
          replace e71 : ac.tmps[71]? = some (.bool true) := e71.trans (congrArg some t71)
          obtain ⟨v80, e80, t80⟩ := hk.2 10 (by kernel_rfl)
          replace e80 : ac.tmps[80]? = some v80 := e80
          replace e80 : ac.tmps[80]? = some (.bool true) := e80.trans (congrArg some t80)
          exact Reg.step_value (Reg.wanted_free rfl) (w1 := w') (by go_simp; try rfl) (Below.refl _ _) rfl
        · intro ac w' hb hd hk   -- 12
          replace hb := Reg.below_undrew hb
          obtain ⟨v81, e81, t81⟩ := hk.2 11 (by kernel_rfl)
          replace e81 : ac.tmps[81]? = some v81 := e81
          replace e81 : ac.tmps[81]? = some (.bool true) := e81.trans (congrArg some t81)
          exact Reg.step_value (Reg.wanted_free rfl) (w1 := w') (by go_simp; try rfl) (Below.refl _ _) rfl
      case fin =>
        intro w' hb
        replace hb := Reg.below_undrew hb
        rintro _ rfl
        rintro _ rfl
        rintro _ rfl
        intro v3 h3
        intro v4 h4
        rintro _ rfl
        rintro _ rfl
        rintro _ rfl
        rintro _ rfl
        rintro _ rfl
        rintro _ rfl
        rintro _ rfl
        rintro _ rfl
        refine Reg.done_nil ?_
        simp only [Act.put, List.setIfInBounds_toArray, List.set_cons_zero, List.set_cons_succ]
        go_wp2
        go_ret
        exact ⟨rfl, HB.out.1.trans (hb.mono HB.out.1.size)⟩
def tributarylaw2_RowsSplits.f (l0 l1 : List S35) (a2 : Int) : Option Bool := if l0.length ≤ 9223372036854775807 ∧ l1.length ≤ 9223372036854775807 then some true else none
theorem tributarylaw2_RowsSplits.calls (A0 : Option Addr) (c0 : Nat) (l0 : List S35) (A1 : Option Addr) (c1 : Nat) (l1 : List S35) (a2 : Int) (r : Bool) (w : World) (hr0 : Kd.C k35 w A0 l0.length l0) (hc0 : l0.length ≤ c0) (hr1 : Kd.C k35 w A1 l1.length l1) (hc1 : l1.length ≤ c1) (h : tributarylaw2_RowsSplits.f l0 l1 a2 = some r) :
    Calls Try.prog 3 #[.slice A0 l0.length c0, .slice A1 l1.length c1, .int .i64 a2] w fun e w' => e = .returned (.bool r) ∧ Below w.heap.size w w' := by
  unfold tributarylaw2_RowsSplits.f at h
  by_cases hf : l0.length ≤ 9223372036854775807 ∧ l1.length ≤ 9223372036854775807
  · rw [if_pos hf] at h
    obtain rfl := Option.some.inj h
    exact splits_law A0 c0 l0 A1 c1 l1 a2 w hr0 hc0 hr1 hc1 hf.1 hf.2
  · rw [if_neg hf] at h; cases h
end Go.Proofs.Ytcphmcghiidicaa.PRw
