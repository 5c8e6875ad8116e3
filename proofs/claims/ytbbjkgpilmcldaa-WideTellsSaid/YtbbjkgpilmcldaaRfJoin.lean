/- Proved: what the document's Join hands back; condition: a function from 0 to 3, at most 1000 rows of numbers that fit on each side. -/
import Derived.Test.YtbbjkgpilmcldaaZra
namespace Go.Proofs.Ytbbjkgpilmcldaa.Seq
open Go.RowKit Go.Maps Go.ChangeShapes Go.Shelf
open Go.Proofs.YtbbjkgpilmcldaaW.PrintWords Go.Proofs.YtbbjkgpilmcldaaW.PrintLast Go.Proofs.YtbbjkgpilmcldaaW.PrintMore
attribute [local go_sem] Oper.semAt_some store_func
set_option linter.unusedVariables false
set_option linter.unusedSimpArgs false
def jV (f : Nat) (lb : List RowT) (g : GrpP) : List RowT := g.2.flatMap fun v => pairsV f g.1 v (valsOf lb g.1)
def jX (f : Nat) (lb : List RowT) (gs : List GrpP) : List RowT := gs.flatMap (jV f lb)
theorem jX_join (f : Nat) (la lb : List RowT) : (jX f lb (groupsOf la)).take 64 = joinF f la lb := by
  unfold jX joinF pairsA groupsOf
  rw [List.flatMap_map]
  rfl
theorem cut_full {X R : List RowT} (h : ¬ (X.take 64).length < 64) : (X ++ R).take 64 = X.take 64 := by
  rw [List.length_take] at h
  rw [List.take_append_of_le_length (by omega)]
theorem cut_more {X : List RowT} {r : RowT} (h : (X.take 64).length < 64) : (X ++ [r]).take 64 = X.take 64 ++ [r] := by
  rw [List.length_take] at h
  rw [List.take_of_length_le (l := X) (by omega), List.take_of_length_le (by rw [List.length_append, List.length_singleton]; omega)]
structure JS (w : World) (vG : Value) (gs : List GrpP) (es : List (Int × Value)) (wr : World) (v : Value) (X : List RowT) : Prop where
  rows : RowsAt wr w.heap.size v (X.take 64)
  grp : GAx wr w.heap.size vG gs es
  bel : Below w.heap.size w wr
theorem JS.drewN {w wr : World} {vG v : Value} {gs : List GrpP} {es : List (Int × Value)} {X : List RowT} (h : JS w vG gs es wr v X) (n : Nat) : JS w vG gs es (wr.drewN n) v X :=
  ⟨Kd.R_drewN h.rows n, h.grp.below (pw_below_drewN (Below.refl _ wr) n), pw_below_drewN h.bel n⟩
theorem JS.full {w wr : World} {vG v : Value} {gs : List GrpP} {es : List (Int × Value)} {X Y R : List RowT} (h : JS w vG gs es wr v X) (hf : ¬ (X.take 64).length < 64) (e : Y = X ++ R) : JS w vG gs es wr v Y := by
  subst e
  exact ⟨by rw [cut_full hf]; exact h.rows, h.grp, h.bel⟩
theorem flat_take {α β : Type} (g : α → List β) (l : List α) (i : Nat) (h : i < l.length) : (l.take (i + 1)).flatMap g = (l.take i).flatMap g ++ g l[i] := by
  rw [List.take_succ_eq_append_getElem h, List.flatMap_append]
  simp
theorem flat_pre {α β : Type} (g : α → List β) (l : List α) (i : Nat) : ∃ R, l.flatMap g = (l.take i).flatMap g ++ R :=
  ⟨(l.drop i).flatMap g, by rw [← List.flatMap_append, List.take_append_drop]⟩
set_option maxHeartbeats 8000000 in
set_option maxRecDepth 100000 in
theorem join8_calls (f : Nat) (hf : f ≤ 3) (A0 : Option Addr) (c0 : Nat) (A1 : Option Addr) (c1 : Nat) (la lb : List RowT) (w : World) (hC0 : kRow.C w A0 la.length la) (hC1 : kRow.C w A1 lb.length lb) (hla : la.length ≤ 1000) (hlb : lb.length ≤ 1000) (hok : ∀ r ∈ la, okRow r) :
    Calls Try.prog 33 #[.int .i64 (f : Int), .slice A0 la.length c0, .slice A1 lb.length c1] w fun e w' => ∃ v, e = .returned v ∧ RowsAt w' w.heap.size v (joinF f la lb) ∧ Below w.heap.size w w' := by
  have HG := Aside0.mk (grp_calls A0 c0 la w hC0 hla hok)
  have HJ := Aside0.mk (jX_join f la lb)
  have HC1 := Aside0.mk hC1
  have hgl := groups_len la
  have HGV := Aside0.mk (groups_vals la)
  obtain ⟨gs, hgs⟩ : ∃ gs, groupsOf la = gs := ⟨_, rfl⟩
  rw [hgs] at HG HJ hgl HGV
  clear hC0 hC1 hok hgs
  have q1 : decide ((f : Int) < 0) = false := decide_eq_false (by omega)
  have q2 : decide ((f : Int) > 3) = false := decide_eq_false (by omega)
  have q2' : decide ((3 : Int) < (f : Int)) = false := decide_eq_false (by omega)
  go_enter Try.func33, Try.ntmps33
  go_wp2_with fail
  refine HG.out.mono ?_
  rintro e w1 ⟨v, es, rfl, hG, hb1⟩
  obtain ⟨A8, c8, rfl⟩ := own_slice' hG.own
  have HG1 := Aside0.mk (JS.mk (v := .slice none 0 0) (X := []) (RowsAt.nil _ _) hG hb1)
  clear hG hb1 HG
  go_wp2_with fail
  go_loopg [7, 9] (gs.length + 1) (fun kq v7 v9 wr => ∃ (i : Nat), v9 = .int .i64 (i : Int) ∧ i ≤ gs.length ∧ gs.length - i < kq ∧ Aside0 (JS w (.slice A8 gs.length c8) gs es wr v7 (jX f lb (gs.take i))))
  case atStart => exact ⟨0, rfl, by omega, by omega, HG1⟩
  case round =>
    obtain ⟨i, rfl, hi, hik, H⟩ := hrel
    obtain ⟨A5, c5, e5⟩ := Kd.R_slice H.out.rows
    obtain ⟨n, hn⟩ : ∃ n, ((jX f lb (gs.take i)).take 64).length = n := ⟨_, rfl⟩
    rw [hn] at e5
    subst e5
    have hn64 : n ≤ 64 := by rw [← hn, List.length_take]; omega
    by_cases hlt : i < gs.length
    · have q3 : decide ((i : Int) < (gs.length : Int)) = true := decide_eq_true (by omega)
      by_cases h64 : n < 64
      · have q4 : decide ((n : Int) < 64) = true := decide_eq_true (by omega)
        have p0 : (0 : Int) ≤ (i : Int) := by omega
        have p1 : (i : Int) < (gs.length : Int) := by omega
        have HXi := Aside0.mk (show jX f lb (gs.take (i + 1)) = jX f lb (gs.take i) ++ jV f lb gs[i] from flat_take _ _ _ hlt)
        have hvl := HGV.out gs[i] (List.getElem_mem hlt)
        have HKV : Aside0 (∀ W v X, JS w (.slice A8 gs.length c8) gs es W v X → ∃ g A2 c2, A8 = some ⟨g, 0, none⟩ ∧ W.cell? ⟨g, i * 2, none⟩ = some (.int .i64 gs[i].1) ∧ W.cell? ⟨g, i * 2 + 1, none⟩ = some (.slice A2 gs[i].2.length c2) ∧ ∀ j y, gs[i].2[j]? = some y → ∃ ad, A2 = some ad ∧ W.cell? (ad.add j) = some (.int .i64 y)) := ⟨fun W v X h => by
          obtain ⟨g, e1, xk⟩ := h.grp.key i hlt
          obtain ⟨g', A2, c2, e2, xv, hvs⟩ := h.grp.vals i hlt
          subst e1
          obtain rfl : g = g' := by injection e2 with e2; injection e2
          exact ⟨g, A2, c2, rfl, xk, xv, hvs⟩⟩
        obtain ⟨P, hP⟩ : ∃ P, jX f lb (gs.take i) = P := ⟨_, rfl⟩
        obtain ⟨K, vs, hKV⟩ : ∃ K vs, gs[i] = (K, vs) := ⟨_, _, rfl⟩
        rw [hKV] at HKV HXi hvl
        rw [hP] at HXi H hn
        have HJV : Aside0 (jV f lb (K, vs) = vs.flatMap fun v => pairsV f K v (valsOf lb K)) := ⟨rfl⟩
        simp only at HKV hvl
        clear hP hKV
        obtain ⟨gO, hgO⟩ : ∃ gO, gO = gk := ⟨_, rfl⟩
        rw [← hgO] at hik
        have HgO := Aside0.mk hgO
        clear hgO hn
        go_wp2_with fail
        go_loopg [7, 10] (vs.length + 1) (fun kq v7 v10 ws => ∃ (j : Nat), v10 = .int .i64 (j : Int) ∧ j ≤ vs.length ∧ vs.length - j < kq ∧ Aside0 (JS w (.slice A8 gs.length c8) gs es ws v7 (P ++ (vs.take j).flatMap fun v => pairsV f K v (valsOf lb K))))
        case atStart => exact ⟨0, rfl, by omega, by omega, ⟨by simpa using H.out⟩⟩
        case round =>
          obtain ⟨j, rfl, hj, hjk, H2⟩ := hrel
          obtain ⟨g, A2, c2, eA, xk, xv, hvs⟩ := HKV.out _ _ _ H2.out
          subst eA
          have HVS := Aside0.mk hvs
          clear hvs
          obtain ⟨A5, c5, e5⟩ := Kd.R_slice H2.out.rows
          obtain ⟨n, hn⟩ : ∃ n, ((P ++ (vs.take j).flatMap fun v => pairsV f K v (valsOf lb K)).take 64).length = n := ⟨_, rfl⟩
          rw [hn] at e5
          subst e5
          have hn64 : n ≤ 64 := by rw [← hn, List.length_take]; omega
          by_cases hjl : j < vs.length
          · have q5 : decide ((j : Int) < (vs.length : Int)) = true := decide_eq_true (by omega)
            by_cases h64 : n < 64
            · have q6 : decide ((n : Int) < 64) = true := decide_eq_true (by omega)
              have HT := Aside0.mk (flat_take (fun v => pairsV f K v (valsOf lb K)) vs j hjl)
              obtain ⟨y, hy⟩ : ∃ y, vs[j] = y := ⟨_, rfl⟩
              have HY := Aside0.mk (show vs[j]? = some y by rw [List.getElem?_eq_getElem hjl, hy])
              rw [hy] at HT
              obtain ⟨X, hX⟩ : ∃ X, P ++ (vs.take j).flatMap (fun v => pairsV f K v (valsOf lb K)) = X := ⟨_, rfl⟩
              have HXj : Aside0 (P ++ (vs.take (j + 1)).flatMap (fun v => pairsV f K v (valsOf lb K)) = X ++ pairsV f K y (valsOf lb K)) := ⟨by rw [HT.out, ← hX, List.append_assoc]⟩
              rw [hX] at H2 hn
              obtain ⟨gM, hgM⟩ : ∃ gM, gM = gk := ⟨_, rfl⟩
              rw [← hgM] at hjk
              have HgM := Aside0.mk hgM
              clear hgM hn hX hy HT
              go_wp2_with fail
              go_loopg [7, 11] (lb.length + 1) (fun kq v7 v11 wt => ∃ (k : Nat), v11 = .int .i64 (k : Int) ∧ k ≤ lb.length ∧ lb.length - k < kq ∧ Aside0 (JS w (.slice (some ⟨g, 0, none⟩) gs.length c8) gs es wt v7 (X ++ pairsV f K y (valsOf (lb.take k) K))))
              case atStart => exact ⟨0, rfl, by omega, by omega, ⟨by simpa [valsOf, pairsV] using H2.out⟩⟩
              case round =>
                obtain ⟨k, rfl, hk, hkk, H3⟩ := hrel
                obtain ⟨A5, c5, e5⟩ := Kd.R_slice H3.out.rows
                obtain ⟨n, hn⟩ : ∃ n, ((X ++ pairsV f K y (valsOf (lb.take k) K)).take 64).length = n := ⟨_, rfl⟩
                rw [hn] at e5
                subst e5
                have hn64 : n ≤ 64 := by rw [← hn, List.length_take]; omega
                by_cases hkl : k < lb.length
                · have q7 : decide ((k : Int) < (lb.length : Int)) = true := decide_eq_true (by omega)
                  by_cases h64 : n < 64
                  · have q8 : decide ((n : Int) < 64) = true := decide_eq_true (by omega)
                    have p2 : (0 : Int) ≤ (k : Int) := by omega
                    have p3 : (k : Int) < (lb.length : Int) := by omega
                    obtain ⟨ad, e0, g0, g1⟩ := PFn.at_T30 (Kd.C_below HC1.out H3.out.bel) (k : Int) p2 p3
                    subst e0
                    rw [Int.toNat_natCast] at g0 g1
                    have erd : PFn.rd_T30 lb (k : Int) = lb[k] := by
                      unfold PFn.rd_T30
                      rw [Int.toNat_natCast, List.getD_eq_getElem?_getD, List.getElem?_eq_getElem hkl]; rfl
                    rw [erd] at g0 g1
                    have hvk : valsOf (lb.take (k + 1)) K = if lb[k].f0 = K then valsOf (lb.take k) K ++ [lb[k].f1] else valsOf (lb.take k) K := by
                      rw [List.take_succ_eq_append_getElem hkl, valsOf_snoc]
                    obtain ⟨r, hr⟩ : ∃ r, lb[k] = r := ⟨_, rfl⟩
                    rw [hr] at g0 g1 hvk
                    obtain ⟨ga, A2', c2', eA, xk, xv, hvs⟩ := HKV.out _ _ _ H3.out
                    obtain rfl : g = ga := by injection eA with eA; injection eA
                    obtain ⟨ad2, e2, xy⟩ := hvs j y HY.out
                    subst e2
                    clear hr erd eA hvs
                    by_cases hK : r.f0 = K
                    · have q9 : decide (r.f0 = K) = true := decide_eq_true hK
                      have q9b : (r.f0 == K) = true := by rw [beq_iff_eq]; exact hK
                      rw [if_pos hK] at hvk
                      have HBC := Aside0.mk (fun W => both_calls f hf y r.f1 W)
                      have HAP := Aside0.mk (fun m : Nat => put_row H3.out.rows H3.out.bel ⟨K, tellJ f y r.f1⟩ (n := n) (by omega) m)
                      have HNX : Aside0 ((X ++ pairsV f K y (valsOf (lb.take (k + 1)) K)).take 64 = (X ++ pairsV f K y (valsOf (lb.take k) K)).take 64 ++ [⟨K, tellJ f y r.f1⟩]) := ⟨by
                        rw [hvk, ← cut_more (by rw [hn]; exact h64)]
                        unfold pairsV
                        rw [List.map_append, List.append_assoc]
                        rfl⟩
                      clear hvk hn hK
                      obtain ⟨tj, htj⟩ : ∃ tj, tellJ f y r.f1 = tj := ⟨_, rfl⟩
                      rw [htj] at HBC HAP HNX
                      clear htj
                      go_wp2_with fail
                      go_quiet (fail)
                      obtain ⟨A9, c9, w8, r8, o8, b8, g8⟩ := HAP.out (nq + 1)
                      have O8 := Aside0.mk o8
                      have B8 := Aside0.mk b8
                      have G8 := Aside0.mk g8
                      clear o8 b8 g8
                      go_wp2_with fail
                      go_region_law (first
                        | (refine law_appendG (by rfl) (.tmp 68) (.tmp 90) 22 rfl (.slice A5 n c5) (.slice (some ⟨wr.heap.size, 0, none⟩) 1 1) _ w8 rfl rfl r8 ?_)
                        | (refine law_callG (by rfl) (by go_simp; try rfl) ((HBC.out _).mono ?_); rintro e w9 ⟨rfl, rfl⟩; refine ⟨_, rfl, ?_⟩))
                      all_goals go_wp2
                      all_goals go_roundg (gk - 1)
                      all_goals first
                        | (case measure => omega)
                        | (case rel => exact ⟨k + 1, (by first | rfl | go_num), by omega, by omega, ⟨by rw [HNX.out]; exact O8.out, (H3.out.grp.below (below_alloc (pw_below_drewN (Below.refl _ wr) _) _)).grownT G8.out (row_typed H3.out.rows), B8.out⟩⟩)
                    · have q9 : decide (r.f0 = K) = false := decide_eq_false hK
                      have q9b : (r.f0 == K) = false := by rw [beq_eq_false_iff_ne]; exact hK
                      rw [if_neg hK] at hvk
                      have HF := H3
                      rw [← hvk] at HF
                      clear hvk hn hK
                      go_wp2_with fail
                      go_quiet (fail)
                      go_wp2
                      go_roundg (gk - 1)
                      case measure => omega
                      case rel => exact ⟨k + 1, (by first | rfl | go_num), by omega, by omega, ⟨by first | exact HF.out.drewN _ | (simpa using HF.out.drewN _)⟩⟩
                  · have q8 : decide ((n : Int) < 64) = false := decide_eq_false (by omega)
                    have HF : Aside0 (JS w (.slice (some ⟨g, 0, none⟩) gs.length c8) gs es wr (.slice A5 n c5) (P ++ (vs.take (j + 1)).flatMap fun v => pairsV f K v (valsOf lb K))) := ⟨by
                      refine H3.out.full (R := pairsV f K y (valsOf (lb.drop k) K)) (by rw [hn]; exact h64) ?_
                      rw [HXj.out, List.append_assoc]
                      congr 1
                      have e : lb = lb.take k ++ lb.drop k := (List.take_append_drop k lb).symm
                      conv => lhs; rw [e, valsOf_append]
                      unfold pairsV
                      rw [List.map_append]⟩
                    clear hn
                    go_wp2_with fail
                    go_roundg (gM - 1)
                    case measure => have := HgM.out; omega
                    case rel => exact ⟨j + 1, (by first | rfl | go_num), by omega, by omega, HF⟩
                · obtain rfl : k = lb.length := by omega
                  have q7 : decide ((lb.length : Int) < (lb.length : Int)) = false := decide_eq_false (by omega)
                  have HF : Aside0 (JS w (.slice (some ⟨g, 0, none⟩) gs.length c8) gs es wr (.slice A5 n c5) (P ++ (vs.take (j + 1)).flatMap fun v => pairsV f K v (valsOf lb K))) := ⟨by
                    have := H3.out
                    rw [List.take_length, ← HXj.out] at this
                    exact this⟩
                  clear hn
                  go_wp2_with fail
                  go_roundg (gM - 1)
                  case measure => have := HgM.out; omega
                  case rel => exact ⟨j + 1, (by first | rfl | go_num), by omega, by omega, HF⟩
            · have q6 : decide ((n : Int) < 64) = false := decide_eq_false (by omega)
              have HF : Aside0 (JS w (.slice (some ⟨g, 0, none⟩) gs.length c8) gs es wr (.slice A5 n c5) (jX f lb (gs.take (i + 1)))) := ⟨by
                obtain ⟨R, hR⟩ := flat_pre (fun v => pairsV f K v (valsOf lb K)) vs j
                exact H2.out.full (R := R) (by rw [hn]; exact h64) (by rw [HXi.out, HJV.out, hR, List.append_assoc])⟩
              clear hn
              go_wp2_with fail
              go_roundg (gO - 1)
              case measure => have := HgO.out; omega
              case rel => exact ⟨i + 1, (by first | rfl | go_num), by omega, by omega, HF⟩
          · obtain rfl : j = vs.length := by omega
            have q5 : decide ((vs.length : Int) < (vs.length : Int)) = false := decide_eq_false (by omega)
            have HF : Aside0 (JS w (.slice (some ⟨g, 0, none⟩) gs.length c8) gs es wr (.slice A5 n c5) (jX f lb (gs.take (i + 1)))) := ⟨by
              have := H2.out
              rw [List.take_length, ← HJV.out, ← HXi.out] at this
              exact this⟩
            clear hn
            go_wp2_with fail
            go_roundg (gO - 1)
            case measure => have := HgO.out; omega
            case rel => exact ⟨i + 1, (by first | rfl | go_num), by omega, by omega, HF⟩
      · have q4 : decide ((n : Int) < 64) = false := decide_eq_false (by omega)
        have HF : Aside0 (RowsAt wr w.heap.size (.slice A5 n c5) (joinF f la lb) ∧ Below w.heap.size w wr) := ⟨by
          obtain ⟨R, hR⟩ := flat_pre (jV f lb) gs i
          have := H.out.full (R := R) (by rw [hn]; exact h64) hR
          exact ⟨by rw [← HJ.out]; exact this.rows, this.bel⟩⟩
        clear hn
        go_wp2_with fail
        go_ret
        exact ⟨_, rfl, HF.out.1, HF.out.2⟩
    · obtain rfl : i = gs.length := by omega
      have q3 : decide ((gs.length : Int) < (gs.length : Int)) = false := decide_eq_false (by omega)
      have HF : Aside0 (RowsAt wr w.heap.size (.slice A5 n c5) (joinF f la lb) ∧ Below w.heap.size w wr) := ⟨by
        have := H.out
        rw [List.take_length] at this
        exact ⟨by rw [← HJ.out]; exact this.rows, this.bel⟩⟩
      clear hn
      go_wp2_with fail
      go_ret
      exact ⟨_, rfl, HF.out.1, HF.out.2⟩
end Go.Proofs.Ytbbjkgpilmcldaa.Seq
