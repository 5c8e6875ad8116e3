/- Proved: the law LogKeeps returns true for all acts that fit: the walk. -/
import Derived.Test.YtlhjjjpldmekdaaDoorLogT
import Derived.Deep.RegionHeld3
import Derived.Deep.QuietTactic
import Derived.BigQuiet
namespace Go.Proofs.YtlhjjjpldmekdaaDoor.PLg
open Go.RowKit Go.Proofs.YtlhjjjpldmekdaaDoorW.PrintWords Go.Proofs.YtlhjjjpldmekdaaDoorW.PrintLast Go.Proofs.YtlhjjjpldmekdaaDoorW.PrintMore Go.Proofs.YtlhjjjpldmekdaaDoor.Err Go.Maps Go.Proofs.YtlhjjjpldmekdaaDoor.PLog Go.Proofs.YtlhjjjpldmekdaaDoor.PDsk Go.Proofs.YtlhjjjpldmekdaaDoor.PDsk.K
attribute [local go_sem] max2_int min2_int max_two min_two max_three min_three max_four min_four
set_option linter.unusedVariables false
set_option linter.unusedSimpArgs false

abbrev ActT := S48
def okAll (l : List ActT) : Prop := ∀ x ∈ l, ∀ y ∈ x.f2, 0 ≤ y ∧ y ≤ 255
theorem rd_ok {l : List ActT} (h : okAll l) (i : Nat) (hi : i < l.length) : ∀ y ∈ (rd_T48 l (i : Int)).f2, 0 ≤ y ∧ y ≤ 255 := by
  unfold rd_T48
  rw [Int.toNat_natCast, List.getD_eq_getElem?_getD, List.getElem?_eq_getElem hi]
  exact h _ (List.getElem_mem hi)
/-- The law's state. -/
structure KpI (w0 w : World) (a1 a2 Bl n i : Nat) (s : Dk) (C : CT) (life : Int) (v : Value) (l : List (List Int)) : Prop where
  lg : LgB w0 w a1 a2 Bl n s C life l 40
  row : Rs w w0.heap.size (fun _ => True) v l
  len : l.length ≤ i
  num : n ≤ 6 * i
theorem take_300 (A2 : Option Addr) (c2 : Nat) (l : List Int) (hc : l.length ≤ c2) : ∃ t : Nat, t = (l.take 300).length ∧ t ≤ 300 ∧ l.take t = l.take 300 ∧ t ≤ l.length ∧ min (l.length : Int) 300 = (t : Int) ∧ (if (300 : Int) < (l.length : Int) then (300 : Int) else (l.length : Int)) = (t : Int) ∧ (if (l.length : Int) < 300 then (l.length : Int) else (300 : Int)) = (t : Int) ∧
    ∀ W : World, (Instr.slice 30 (.slice A2 l.length c2) none (some (.int .i64 (t : Int))) none).run Tryd.prog W = .ok (.slice A2 t c2) W := by
  refine ⟨(l.take 300).length, rfl, by rw [List.length_take]; omega, by rw [List.length_take]; rcases Nat.le_total 300 l.length with h | h; rw [Nat.min_eq_left h]; rw [Nat.min_eq_right h, List.take_of_length_le (Nat.le_refl _), List.take_of_length_le h], by rw [List.length_take]; omega, by rw [List.length_take]; omega, by rw [List.length_take]; split <;> omega, by rw [List.length_take]; split <;> omega, ?_⟩
  have hcut := cut_to (P := Tryd.prog) 30 5 .i64 Tryd.underlying30 (info_parts info8).choose_spec.1 A2 l.length c2 ((l.take 300).length : Int) (by omega) (by rw [List.length_take]; omega) hc
  rw [Int.toNat_natCast] at hcut
  exact hcut
set_option maxHeartbeats 16000000 in
set_option maxRecDepth 100000 in
theorem logKeeps_law (A0 : Option Addr) (c0 : Nat) (l0 : List ActT) (w : World) (hr0 : Kd.C k48 w A0 l0.length l0) (hc0 : l0.length ≤ c0) (hL : Laid w) (ok0 : okAll l0) :
    Calls Tryd.prog 4 #[.slice A0 l0.length c0] w fun e w' => e = .returned (.bool true) ∧ Below w.heap.size w w' := by
  have HL := Aside0.mk hL
  have R0 := Aside0.mk hr0
  have K0 := Aside0.mk ok0
  clear hL hr0 ok0
  go_enter Tryd.func4, Tryd.ntmps4
  go_wp2_with fail
  refine (new_dx ((40 : Nat) : Int) w (by decide) (by decide)).mono ?_
  rintro e w1 ⟨a1, a2, rfl, hD, hu, hb⟩
  have K1 := Aside0.mk (DkB.new hD hu hb (by decide))
  clear hD hu hb
  go_wp2_with fail
  refine (K1.out.open rfl).mono ?_
  rintro e w2 ⟨Bl0, vout, rfl, hR, hb, K⟩
  have K2 : Aside0 (KpI w w2 a1 a2 Bl0 0 0 ⟨((40 : Nat) : Int), false, 0, 0, 0⟩ (fun _ => none) 0 (.slice none 0 0) []) := ⟨K, Kd.R_nil _ _ _ _ _, by simp, by simp⟩
  obtain ⟨A4, c4, rfl⟩ := Kd.R_slice hR
  clear hR hb K K1
  go_wp2
  go_loopg [5, 8, 9] 60 (fun kq v5 v8 v9 wr => ∃ (i Bl n : Nat) (s : Dk) (C : CT) (life : Int) (l : List (List Int)) (A8 : Option Addr) (c8 : Nat), v5 = .pointer (some ⟨Bl, 0, none⟩) ∧ v8 = .slice A8 l.length c8 ∧ v9 = .int .i64 (i : Int) ∧ i ≤ 60 ∧ 60 - i ≤ kq ∧ Aside0 (KpI w wr a1 a2 Bl n i s C life (.slice A8 l.length c8) l))
  case atStart => exact ⟨0, Bl0, 0, _, _, 0, [], none, 0, rfl, rfl, rfl, by omega, by omega, K2⟩
  case round =>
    obtain ⟨i, Bl, n, s, C, life, l, A8, c8, rfl, rfl, rfl, hi, hk, K⟩ := hrel
    clear K2
    by_cases hlt : i < l0.length ∧ i < 60
    · have q1 : decide ((i : Int) < (l0.length : Int)) = true := decide_eq_true (by omega)
      have q2 : decide ((i : Int) < 60) = true := decide_eq_true (by omega)
      have ok0 := rd_ok K0.out i hlt.1
      obtain ⟨ad, A2, c2, e0, g0, g1, g2, gl, gC⟩ := at_T48 R0.out (i : Int) (by omega) (by omega)
      subst e0
      rw [Int.toNat_natCast] at g0 g1 g2
      obtain ⟨x, hx⟩ : ∃ x, rd_T48 l0 (i : Int) = x := ⟨_, rfl⟩
      rw [hx] at g0 g1 g2 gl gC ok0
      clear hx
      have hbw := K.out.lg.d.fr.below (n := w.heap.size) (Nat.le_refl _) (fun _ h => h)
      have x0 := cell_keep hbw g0
      have x1 := cell_keep hbw g1
      have x2 := cell_keep hbw g2
      have GL := Aside0.mk gl
      have GC := Aside0.mk (Kd.C_below gC hbw)
      have GK := Aside0.mk ok0
      clear g0 g1 g2 gl gC ok0 hbw
      by_cases h0 : x.f0 = 0
      · rw [h0] at x0
        have X := Aside0.mk (heap_alloc_new wr (Obj.cells #[.int .i64 0, .int .i64 x.f1, .slice A2 x.f2.length c2] 48))
        obtain ⟨y0, y1, y2⟩ := facts3 X.out
        have BX : Aside0 (Below wr.heap.size wr (wr.alloc (Obj.cells #[.int .i64 0, .int .i64 x.f1, .slice A2 x.f2.length c2] 48))) := ⟨below_alloc (Below.refl _ _) _⟩
        obtain ⟨t, ht, ht3, hte, htl, hm1, hm2, hm3, hcut⟩ := take_300 A2 c2 x.f2 GL.out
        have hC3 := Kd.C_take (m := t) (Kd.C_below GC.out BX.out) htl
        have hbb : ∀ y ∈ x.f2.take 300, 0 ≤ y ∧ y ≤ 255 := fun y hy => GK.out y (List.mem_of_mem_take hy)
        rw [hte] at hC3
        obtain ⟨b, hb⟩ : ∃ b, x.f2.take 300 = b := ⟨_, rfl⟩
        rw [hb] at ht hC3 hbb
        subst ht
        have HC3 := Aside0.mk hC3
        have LX := Aside0.mk (K.out.lg.below BX.out)
        have RX := Aside0.mk (Kd.R_below K.out.row BX.out)
        have hN := K.out.num
        have hLn := K.out.len
        have HNB := Aside0.mk (nB_300 b.length ht3)
        have QA := Aside0.mk (LX.out.app HL.out A2 c2 b HC3.out (by have := GL.out; omega) (by omega) hbb (by omega) (by omega))
        have H3 := Aside0.mk ht3
        clear hC3 hbb hte hb htl ht3 h0 K
        obtain ⟨⟨er, s2, C2⟩, hr⟩ : ∃ r, appS s C life l.length (need l) b = r := ⟨_, rfl⟩
        rw [hr] at QA
        clear hr
        go_wp2_with fail
        refine QA.out.mono ?_
        rintro e w4 ⟨v4, rfl, hE, hf, K⟩
        have L4 := Aside0.mk K
        have R4 := Aside0.mk (Rs.log RX.out LX.out hf)
        have C4 := Aside0.mk (C_fr HC3.out hf LX.out.noB)
        cases er with
        | none =>
          obtain rfl : v4 = .nilIface := hE
          clear K hf QA hcut hm1 hm2 hm3 x0 x1 x2 y0 y1 y2
          obtain ⟨ld, hld⟩ : ∃ ld, l ++ [b] = ld := ⟨_, rfl⟩
          have HLD := Aside0.mk hld
          have HLL : Aside0 (ld.length = l.length + 1) := ⟨by rw [← hld]; simp⟩
          clear hld
          go_wp2_with (first
            | ((with_reducible refine gate_builtin (b := .append) (xs := #[.tmp 91, .tmp 92]) rfl ?_); at_builtin; refine Kd.R_append_rows (Kd.int .u8) (w0 := w) w.heap.size rfl (.tmp 91) (.tmp 92) 30 5 (.int .u8 0) 1 rfl Tryd.underlying30 info8 rfl (by decide) (by omega) (.slice none 0 0) [] b _ _ _ (fun _ => True) (fun _ => False) rfl rfl ?aO ?aR (fun _ _ h => h) (fun _ h => h.elim) ?aF ?aB ?aS ?aL ?_; (case aR => exact C4.out); (case aB => exact L4.out.d.fr.below (Nat.le_refl _) (fun _ h => h)); (case aF => exact (fun _ _ => trivial)); (case aO => exact Kd.R_nil _ _ _ _ _); (case aS => exact L4.out.d.fr.size); (case aL => have := H3.out; simp only [List.length_nil]; omega); intro v5 w5 ho hb hg hat; rw [List.nil_append] at ho; have f5 := Fr.of_grown hg; have b5 := f5.below (n := w4.heap.size) (Nat.le_refl _) (fun _ h => h.elim); have L5 := Aside0.mk (L4.out.below b5); have R5 := Aside0.mk (Kd.R_below R4.out b5); have O5 := Aside0.mk ho; obtain ⟨A5, c5, rfl⟩ := Kd.R_slice ho; clear ho hb hg hat f5 b5)
            | ((with_reducible refine gate_builtin (b := .append) (xs := #[.tmp 90, .tmp 94]) rfl ?_); at_builtin; refine Kd.R_append KR (w0 := w) w.heap.size rfl (.tmp 90) (.tmp 94) 22 30 (.slice none 0 0) 24 rfl Tryd.underlying22 info30r rfl (by decide) (by omega) (.slice A8 l.length c8) l b [.slice A5 b.length c5] (fun _ => True) (fun k => some k ≠ (Value.slice A8 l.length c8).ownBlock) rfl rfl ?bP ?bK (fun _ _ => trivial) ?bO ?bB ?bS ?bL ?_; (case bP => exact row_M O5.out R5.out); (case bK => exact fun k hk => ⟨trivial, hk⟩); (case bO => exact R5.out); (case bB => exact L5.out.d.fr.below (Nat.le_refl _) (fun _ h => h)); (case bS => exact L5.out.d.fr.size); (case bL => omega); intro v6 w6 ho hb hg hat; have L6 := Aside0.mk (L5.out.grown R5.out hg (Nat.le_refl _)); rw [HLD.out] at ho; have R6 := Aside0.mk ho; obtain ⟨A6, c6, rfl⟩ := Kd.R_slice ho; clear ho hb hg hat))
          go_roundg (gk - 1)
          case measure => omega
          case rel =>
            have h1 := HLL.out
            have h2 := HNB.out
            have L7 := L6.out
            rw [show nxt (none : Option Er) l b = ld from HLD.out] at L7
            exact ⟨i + 1, Bl, n + nB b.length, s2, C2, life, ld, A6, c6, rfl, rfl, by go_num, by omega, by omega, ⟨L7, R6.out, by omega, by omega⟩⟩
        | some er =>
          obtain ⟨tt, uu, rfl⟩ := IsErr.ne_nil hE
          clear K hf QA hcut hm1 hm2 hm3 x0 x1 x2 y0 y1 y2 hE
          go_wp2
          go_roundg (gk - 1)
          case measure => omega
          case rel =>
            have h2 := HNB.out
            exact ⟨i + 1, Bl, n + nB b.length, s2, C2, life, l, A8, c8, rfl, rfl, by go_num, by omega, by omega, ⟨L4.out, R4.out, by omega, by omega⟩⟩
      · have k0 : (x.f0 == 0) = false := beq_eq_false_iff_ne.2 h0
        by_cases h1 : x.f0 = 1
        · rw [h1] at x0
          clear k0 h0 h1
          obtain ⟨y0, y1, y2⟩ := facts3 (heap_alloc_new wr (Obj.cells #[.int .i64 1, .int .i64 x.f1, .slice A2 x.f2.length c2] 48))
          have BX : Aside0 (Below wr.heap.size wr (wr.alloc (Obj.cells #[.int .i64 1, .int .i64 x.f1, .slice A2 x.f2.length c2] 48))) := ⟨below_alloc (Below.refl _ _) _⟩
          have LX := Aside0.mk (K.out.lg.below BX.out)
          have RX := Aside0.mk (Kd.R_below K.out.row BX.out)
          have hN := K.out.num
          have hLn := K.out.len
          clear K
          go_wp2_with fail
          refine (arm_dx LX.out.d.dx x.f1).mono ?_
          rintro e w5 ⟨rfl, hD, hf⟩
          have L5 := Aside0.mk (LX.out.call hD hf (by unfold armS; split <;> rfl))
          have R5 := Aside0.mk (Rs.log RX.out LX.out (hf.mono (fun _ h => Or.inr h)))
          clear hD hf
          go_wp2
          go_roundg (gk - 1)
          case measure => omega
          case rel => exact ⟨i + 1, Bl, n, armS s x.f1, C, life, l, A8, c8, rfl, rfl, by go_num, by omega, by omega, ⟨L5.out, R5.out, by omega, by omega⟩⟩
        · have k1 : (x.f0 == 1) = false := beq_eq_false_iff_ne.2 h1
          by_cases h2 : x.f0 = 2
          · rw [h2] at x0
            clear k0 k1 h0 h1 h2
            obtain ⟨y0, y1, y2⟩ := facts3 (heap_alloc_new wr (Obj.cells #[.int .i64 2, .int .i64 x.f1, .slice A2 x.f2.length c2] 48))
            have BX : Aside0 (Below wr.heap.size wr (wr.alloc (Obj.cells #[.int .i64 2, .int .i64 x.f1, .slice A2 x.f2.length c2] 48))) := ⟨below_alloc (Below.refl _ _) _⟩
            have LX := Aside0.mk (K.out.lg.below BX.out)
            have RX := Aside0.mk (Kd.R_below K.out.row BX.out)
            have hN := K.out.num
            have hLn := K.out.len
            clear K
            go_wp2_with fail
            refine (cut_dx LX.out.d.dx).mono ?_
            rintro e w5 ⟨rfl, hD, hf⟩
            have L5 := Aside0.mk (LX.out.call hD hf rfl)
            have R5 := Aside0.mk (Rs.log RX.out LX.out (hf.mono (fun _ h => Or.inr h)))
            clear hD hf
            go_wp2
            go_roundg (gk - 1)
            case measure => omega
            case rel => exact ⟨i + 1, Bl, n, cutS s, C, life, l, A8, c8, rfl, rfl, by go_num, by omega, by omega, ⟨L5.out, R5.out, by omega, by omega⟩⟩
          · have k2 : (x.f0 == 2) = false := beq_eq_false_iff_ne.2 h2
            clear h0 h1 h2
            obtain ⟨y0, y1, y2⟩ := facts3 (heap_alloc_new wr (Obj.cells #[.int .i64 x.f0, .int .i64 x.f1, .slice A2 x.f2.length c2] 48))
            have BX : Aside0 (Below wr.heap.size wr (wr.alloc (Obj.cells #[.int .i64 x.f0, .int .i64 x.f1, .slice A2 x.f2.length c2] 48))) := ⟨below_alloc (Below.refl _ _) _⟩
            have LX := Aside0.mk (K.out.lg.below BX.out)
            have RX := Aside0.mk (Kd.R_below K.out.row BX.out)
            have hN := K.out.num
            have hLn := K.out.len
            clear K
            go_wp2_with fail
            refine (restart_dx LX.out.d.dx).mono ?_
            rintro e w5 ⟨rfl, hD, hf⟩
            have L5 := Aside0.mk (LX.out.call hD hf rfl)
            have R5 := Aside0.mk (Rs.log RX.out LX.out (hf.mono (fun _ h => Or.inr h)))
            clear hD hf
            go_wp2_with fail
            refine (L5.out.d.open rfl).mono ?_
            rintro e w6 ⟨Bm, vo, rfl, hR, hb, K⟩
            have L6 := Aside0.mk K
            have R6 := Aside0.mk (Kd.R_below R5.out hb)
            obtain ⟨A6, c6, rfl⟩ := Kd.R_slice hR
            have S6 := Aside0.mk (same_eq A6 A8 c6 c8 l w6 (Kd.R_reads' hR).2.2 (Kd.R_reads' R6.out).2.2 (Kd.R_reads' hR).2.1 (Kd.R_reads' R6.out).2.1 (by omega))
            clear hR hb K
            go_wp2_with (first
              | (go_at_call 22; refine S6.out.mono ?_; rintro e w7 ⟨rfl, hb⟩; have B7 := Aside0.mk hb; have L7 := Aside0.mk (L6.out.below hb); have R7 := Aside0.mk (Kd.R_below R6.out hb); clear hb)
              | (go_at_call 23; refine (len_calls L7.out.lx).mono ?_; rintro e w8 ⟨rfl, rfl⟩))
            go_roundg (gk - 1)
            case measure => omega
            case rel => exact ⟨i + 1, Bm, n, restartS s, C, _, l, A8, c8, rfl, rfl, by go_num, by omega, by omega, ⟨L7.out, R7.out, by omega, by omega⟩⟩
    · have q : (i < l0.length ∧ decide ((i : Int) < (l0.length : Int)) = true ∧ decide ((i : Int) < 60) = false) ∨ (¬ i < l0.length ∧ decide ((i : Int) < (l0.length : Int)) = false) := by
        by_cases h1 : i < l0.length
        · exact Or.inl ⟨h1, decide_eq_true (by omega), decide_eq_false (by omega)⟩
        · exact Or.inr ⟨h1, decide_eq_false (by omega)⟩
      rcases q with ⟨h1, q1, q2⟩ | ⟨h1, q1⟩
      all_goals
        have hLn := K.out.len
        have LX := Aside0.mk K.out.lg
        have RX := Aside0.mk K.out.row
        clear K
        go_wp2_with fail
        refine (restart_dx LX.out.d.dx).mono ?_
        rintro e w5 ⟨rfl, hD, hf⟩
        have L5 := Aside0.mk (LX.out.call hD hf rfl)
        have R5 := Aside0.mk (Rs.log RX.out LX.out (hf.mono (fun _ h => Or.inr h)))
        clear hD hf
        go_wp2_with fail
        refine (L5.out.d.open rfl).mono ?_
        rintro e w6 ⟨Bm, vo, rfl, hR, hb, K⟩
        have L6 := Aside0.mk K
        have R6 := Aside0.mk (Kd.R_below R5.out hb)
        have O6 := Aside0.mk hR
        obtain ⟨A6, c6, rfl⟩ := Kd.R_slice hR
        clear hR hb K
        go_wp2_with (first
          | (go_at_call 26; refine (told_law w6 (L6.out.d.laid HL.out)).mono ?_; rintro e w7 ⟨rfl, hb⟩; have L7 := Aside0.mk (L6.out.below hb); have O7 := Aside0.mk (Kd.R_below O6.out hb); have R7 := Aside0.mk (Kd.R_below R6.out hb); clear hb)
          | (go_at_call 22; refine (same_eq A6 A8 c6 c8 l w7 (Kd.R_reads' O7.out).2.2 (Kd.R_reads' R7.out).2.2 (Kd.R_reads' O7.out).2.1 (Kd.R_reads' R7.out).2.1 (by omega)).mono ?_; rintro e w8 ⟨rfl, hb⟩; have L8 := Aside0.mk (L7.out.below hb); clear hb))
        go_ret
        exact ⟨rfl, L8.out.d.fr.below (Nat.le_refl _) (fun _ h => h)⟩
open Classical in
noncomputable def tributarylaw8_LogKeeps.f (l0 : List ActT) : Option Bool := if okAll l0 then some true else none
theorem tributarylaw8_LogKeeps.calls (A0 : Option Addr) (c0 : Nat) (l0 : List ActT) (r : Bool) (w : World) (hr0 : Kd.C k48 w A0 l0.length l0) (hc0 : l0.length ≤ c0) (hL : Laid w) (h : tributarylaw8_LogKeeps.f l0 = some r) :
    Calls Tryd.prog 4 #[.slice A0 l0.length c0] w fun e w' => e = .returned (.bool r) ∧ Below w.heap.size w w' := by
  unfold tributarylaw8_LogKeeps.f at h
  by_cases hk : okAll l0
  · rw [if_pos hk] at h
    obtain rfl := Option.some.inj h
    exact logKeeps_law A0 c0 l0 w hr0 hc0 hL hk
  · rw [if_neg hk] at h; cases h
end Go.Proofs.YtlhjjjpldmekdaaDoor.PLg
