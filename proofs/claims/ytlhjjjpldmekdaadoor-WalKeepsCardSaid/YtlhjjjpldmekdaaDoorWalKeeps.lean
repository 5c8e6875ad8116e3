/- Proved: the law WalKeeps returns true for all acts that fit: the walk. -/
import Derived.Test.YtlhjjjpldmekdaaDoorWalL
import Derived.Test.YtlhjjjpldmekdaaDoorWalK
import Derived.Test.YtlhjjjpldmekdaaDoorLogV
import Derived.Test.YtlhjjjpldmekdaaDoorPWgx0
import Derived.Deep.RegionHeld3
import Derived.Deep.QuietTactic
import Derived.Deep.CutRange
import Derived.Deep.CutBlock
import Derived.BigQuiet
namespace Go.Proofs.YtlhjjjpldmekdaaDoor.PWg
open Go.RowKit Go.Proofs.YtlhjjjpldmekdaaDoorW.PrintWords Go.Proofs.YtlhjjjpldmekdaaDoorW.PrintLast Go.Proofs.YtlhjjjpldmekdaaDoorW.PrintMore Go.Proofs.YtlhjjjpldmekdaaDoor.Err Go.Maps Go.Proofs.YtlhjjjpldmekdaaDoor.PLog Go.Proofs.YtlhjjjpldmekdaaDoor.PDsk Go.Proofs.YtlhjjjpldmekdaaDoor.PDsk.K Go.Proofs.YtlhjjjpldmekdaaDoor.PWal
open Go.Proofs.YtlhjjjpldmekdaaDoor.PFn (RowT k109 encI encR okRow)
attribute [local go_sem] max2_int min2_int max_two min_two max_three min_three max_four min_four
set_option linter.unusedVariables false
set_option linter.unusedSimpArgs false
namespace Kp
abbrev ActT := S78
def okAll (l : List ActT) : Prop := ∀ x ∈ l, ∀ r ∈ x.f2, okRow r
theorem rd_ok {l : List ActT} (h : okAll l) (i : Nat) (hi : i < l.length) : ∀ r ∈ (rd_T78 l (i : Int)).f2, okRow r := by
  unfold rd_T78
  rw [Int.toNat_natCast, List.getD_eq_getElem?_getD, List.getElem?_eq_getElem hi]
  exact h _ (List.getElem_mem hi)
/-- The law's state behind i acts. -/
structure KeI (w0 w : World) (a1 a2 Bl Bw n i : Nat) (s : Dk) (C : CT) (life : Int) (l : List (List Int)) (Z : Nat) (OK : Nat → Prop) (t : Wl) (vK vO : Value) : Prop where
  k : KeJ w0 w a1 a2 Bl Bw n s C life l 200 Z OK t vK t.bl vO (ofL t)
  bl : t.bl.length ≤ i
  len : l.length ≤ i
  num : n ≤ 7 * i
theorem nB_350 (n : Nat) (h : n ≤ 350) : nB n ≤ 7 := by unfold nB; omega
theorem cut_len (t : Wl) : (ofL { t with cu := t.cu ++ [(t.bl.length : Int)] }).length = (ofL t).length := by rw [ofL_len, ofL_len]
set_option maxHeartbeats 16000000 in
set_option maxRecDepth 100000 in
theorem walKeeps_law (A0 : Option Addr) (c0 : Nat) (l0 : List ActT) (w : World) (hr0 : Kd.C k78 w A0 l0.length l0) (hc0 : l0.length ≤ c0) (hL : Laid w) (ok0 : okAll l0) :
    Calls Tryd.prog 9 #[.slice A0 l0.length c0] w fun e w' => e = .returned (.bool true) ∧ Below w.heap.size w w' := by
  have HL := Aside0.mk hL
  have R0 := Aside0.mk hr0
  have K0 := Aside0.mk ok0
  clear hL hr0 ok0
  go_enter Tryd.func9, Tryd.ntmps9
  go_wp2_with fail
  refine (new_dx ((200 : Nat) : Int) w (by decide) (by decide)).mono ?_
  rintro e w1 ⟨a1, a2, rfl, hD, hu, hb⟩
  have K1 := Aside0.mk (DkB.new hD hu hb (by decide))
  clear hD hu hb
  go_wp2_with fail
  refine (K1.out.openW rfl (by decide) W0 rfl).mono ?_
  rintro e w2 ⟨Bl0, Bw0, OK0, rfl, hb, hJ⟩
  have K2 : Aside0 (KeI w w2 a1 a2 Bl0 Bw0 0 0 ⟨((200 : Nat) : Int), false, 0, 0, 0⟩ (fun _ => none) 0 [] w1.heap.size OK0 W0 (.slice none 0 0) (.slice none 0 0)) := ⟨⟨hJ, Kd.R_nil _ _ _ _ _, Kd.R_nil _ _ _ _ _⟩, Nat.le_refl _, Nat.le_refl _, Nat.le_refl _⟩
  clear hb hJ K1
  go_wp2
  go_loopg [5, 7, 8, 9, 10] 80 (fun kq v5 v7 v8 v9 v10 wr => ∃ (i Bl Bw n : Nat) (s : Dk) (C : CT) (life : Int) (l : List (List Int)) (Z : Nat) (OK : Nat → Prop) (t : Wl) (A7 A8 : Option Addr) (c7 c8 : Nat), v5 = .pointer (some ⟨Bw, 0, none⟩) ∧ v7 = .slice A7 t.bl.length c7 ∧ v8 = .slice A8 t.bl.length c8 ∧ v9 = .int .i64 (t.cu.length : Int) ∧ v10 = .int .i64 (i : Int) ∧ i ≤ 80 ∧ 80 - i ≤ kq ∧ Aside0 (KeI w wr a1 a2 Bl Bw n i s C life l Z OK t (.slice A7 t.bl.length c7) (.slice A8 t.bl.length c8)))
  case atStart => exact ⟨0, Bl0, Bw0, 0, _, _, 0, [], _, OK0, W0, none, none, 0, 0, rfl, rfl, rfl, rfl, rfl, by omega, by omega, K2⟩
  case round =>
    obtain ⟨i, Bl, Bw, n, s, C, life, l, Z, OK, t, A7, A8, c7, c8, rfl, rfl, rfl, rfl, rfl, hi, hk, K⟩ := hrel
    clear K2
    by_cases hlt : i < l0.length ∧ i < 80
    · have q1 : decide ((i : Int) < (l0.length : Int)) = true := decide_eq_true (by omega)
      have q2 : decide ((i : Int) < 80) = true := decide_eq_true (by omega)
      have ok0 := rd_ok K0.out i hlt.1
      obtain ⟨ad, A2, c2, e0, g0, g1, g2, gl, gC⟩ := at_T78 R0.out (i : Int) (by omega) (by omega)
      subst e0
      rw [Int.toNat_natCast] at g0 g1 g2
      obtain ⟨x, hx⟩ : ∃ x, rd_T78 l0 (i : Int) = x := ⟨_, rfl⟩
      rw [hx] at g0 g1 g2 gl gC ok0
      clear hx
      have hbw := K.out.k.j.lg.d.fr.below (n := w.heap.size) (Nat.le_refl _) (fun _ h => h)
      have x0 := cell_keep hbw g0
      have x1 := cell_keep hbw g1
      have x2 := cell_keep hbw g2
      have GL := Aside0.mk gl
      have GC := Aside0.mk gC
      have GK := Aside0.mk ok0
      clear g0 g1 g2 gl gC ok0 hbw
      have X := Aside0.mk (heap_alloc_new wr (Obj.cells #[.int .i64 x.f0, .int .i64 x.f1, .slice A2 x.f2.length c2] 78))
      obtain ⟨y0, y1, y2⟩ := facts3 X.out
      have BX : Aside0 (Below wr.heap.size wr (wr.alloc (Obj.cells #[.int .i64 x.f0, .int .i64 x.f1, .slice A2 x.f2.length c2] 78))) := ⟨below_alloc (Below.refl _ _) _⟩
      go_upto_block 2 with fail
      go_cut [5, 7, 8, 9, 12, 13, 14, 15, 16, 17, 18, 19] from 39 to 168 (fun s5 s7 s8 s9 s12 s13 s14 s15 s16 s17 s18 s19 wc => ∃ (Bl Bw n : Nat) (s : Dk) (C : CT) (life : Int) (l : List (List Int)) (Z : Nat) (OK : Nat → Prop) (t : Wl) (A7 A8 : Option Addr) (c7 c8 : Nat), s5 = .pointer (some ⟨Bw, 0, none⟩) ∧ s7 = .slice A7 t.bl.length c7 ∧ s8 = .slice A8 t.bl.length c8 ∧ s9 = .int .i64 (t.cu.length : Int) ∧ Aside0 (KeI w wc a1 a2 Bl Bw n (i + 1) s C life l Z OK t (.slice A7 t.bl.length c7) (.slice A8 t.bl.length c8)))
      case rest =>
        obtain ⟨Bl', Bw', n', s', C', life', l', Z', OK', t', A7', A8', c7', c8', rfl, rfl, rfl, rfl, KR⟩ := hcut
        clear x0 x1 x2 y0 y1 y2 X BX GL GC GK K
        obtain ⟨gO, hgO⟩ : ∃ gO, gO = gk := ⟨_, rfl⟩
        have HGO := Aside0.mk hgO
        clear hgO
        have hbl := KR.out.bl
        have hcl := KR.out.k.j.wb.cu
        have QB := Aside0.mk (Blocks_wal KR.out.k.j.wx)
        have QN := Aside0.mk (Batches_wal KR.out.k.j.wx)
        go_wp2_with (first
          | (go_at_call 51; refine QB.out.mono ?_; rintro e w' ⟨rfl, rfl⟩)
          | (go_at_call 52; refine QN.out.mono ?_; rintro e w' ⟨rfl, rfl⟩))
        clear QB QN
        go_loopg [20] (t'.bl.length + 1) (fun kq v20 wr2 => ∃ (k : Nat), v20 = .int .i64 (k : Int) ∧ k ≤ t'.bl.length ∧ t'.bl.length - k ≤ kq ∧ Aside0 (KeI w wr2 a1 a2 Bl' Bw' n' (i + 1) s' C' life' l' Z' OK' t' (.slice A7' t'.bl.length c7') (.slice A8' t'.bl.length c8')))
        case atStart => exact ⟨0, rfl, by omega, by omega, KR⟩
        case round =>
          clear KR
          obtain ⟨k, rfl, hk1, hk2, KR⟩ := hrel
          by_cases hlk : k < t'.bl.length
          · have q3 : decide ((k : Int) < (t'.bl.length : Int)) = true := decide_eq_true (by omega)
            have p0 : (0 : Int) ≤ (k : Int) := by omega
            have p1 : (k : Int) < (t'.bl.length : Int) := by omega
            obtain ⟨ad8, e8, m8⟩ := at_int (Kd.R_reads' KR.out.k.ro).2.2 k (by rw [ofL_len]; exact hlk)
            subst e8
            rw [ofL_at hlk] at m8
            have QO := Aside0.mk (fun q => q_same (n := q) (by have := Of_wal ((KR.out.k.j.below (pw_below_drewN (Below.refl _ wr) q)).wx) (by omega) ((k : Int) + 1); exact this.mono fun _ _ h => ⟨h.1, h.2.symm⟩))
            obtain ⟨z, hz⟩ : ∃ z, ofF t' ((k : Int) + 1) = z := ⟨_, rfl⟩
            rw [hz] at m8 QO
            clear hz
            go_wp2_with fail
            go_quiet ((go_at_call 53; exact QO.out _))
            go_wp2
            go_roundg (gk - 1)
            case measure => omega
            case rel => exact ⟨k + 1, by go_num, by omega, by omega, ⟨⟨KR.out.k.below (pw_below_drewN (Below.refl _ wr) nq), KR.out.bl, KR.out.len, KR.out.num⟩⟩⟩
          · obtain rfl : k = t'.bl.length := by omega
            have q3 : decide ((t'.bl.length : Int) < (t'.bl.length : Int)) = false := decide_eq_false (by omega)
            go_wp2
            have hgO := HGO.out
            go_roundg (gO - 1)
            case measure => omega
            case rel => exact ⟨i + 1, Bl', Bw', n', s', C', life', l', Z', OK', t', A7', A8', c7', c8', rfl, rfl, rfl, rfl, by go_num, by omega, by omega, KR⟩
      case first =>
        have JX := Aside0.mk (K.out.k.below BX.out)
        have hN := K.out.num
        have hLn := K.out.len
        have hbl := K.out.bl
        by_cases h0 : x.f0 = 0
        · rw [h0] at y0 JX BX X ⊢
          clear h0
          obtain ⟨q, hq, hq16, hqe, hql, hm1, hm2, hm3, hcut⟩ := take16 A2 c2 x.f2 GL.out
          have hC3 := Kd.C_take (m := q) GC.out hql
          rw [hqe] at hC3
          have hbr : ∀ r ∈ x.f2.take 16, okRow r := fun r hr => GK.out r (List.mem_of_mem_take hr)
          obtain ⟨b, hb⟩ : ∃ b, x.f2.take 16 = b := ⟨_, rfl⟩
          rw [hb] at hq hC3 hbr
          subst hq
          have HC3 := Aside0.mk hC3
          have HQ16 := Aside0.mk hq16
          have HBC : Aside0 (b.length ≤ c2) := ⟨by have := GL.out; omega⟩
          have HNB := Aside0.mk (nB_350 (encB b).length (by have := encB_len b hq16; omega))
          have JF := Aside0.mk (fun (W : World) (hf : Fr (JB OK Bw Bl a1 a2) (wr.alloc (Obj.cells #[.int .i64 0, .int .i64 x.f1, .slice A2 x.f2.length c2] 78)) W) => Kd.C_below HC3.out ((JX.out.j.lg.d.fr.trans (hf.mono (fun k hk => JX.out.j.ge k hk))).below (n := w.heap.size) (Nat.le_refl _) (fun _ h => h)))
          obtain ⟨⟨er, s2, C2⟩, hr⟩ : ∃ r, appS s C life l.length (need l) (encB b) = r := ⟨_, rfl⟩
          have QB := Aside0.mk (Block_yes JX.out.j HL.out A2 c2 b (fun W hf => JF.out W (hf.mono (fun k hk => .inr hk))) HBC.out hq16 hbr (by omega) (by omega) (by omega) _ hr)
          obtain ⟨nz, hnz⟩ : ∃ nz, numO ((er, s2, C2) : Option Er × Dk × CT).1 ((t.bl.length : Int) + 1) = nz := ⟨_, rfl⟩
          rw [hnz] at QB
          clear hC3 hbr hqe hb hql hr hq16 K BX GC GK
          go_wp2_with fail
          refine QB.out.mono ?_
          rintro e w4 ⟨v4, rfl, hP⟩
          obtain ⟨OK4, hE4, hJ4, hf4⟩ := JX.out.app hP
          have C4 := Aside0.mk (JF.out w4 hf4)
          have X4 := (hf4.block wr.heap.size (Array.getElem?_eq_some_iff.1 X.out).1 (fun hJ => by
            rcases hJ with hW | hB
            · refine JX.out.j.wx.noRow (fun cs q e => ?_) hW
              rw [X.out] at e
              injection e with e
              injection e with _ e
              subst e
              exact ⟨by decide, by decide, by decide, by decide⟩
            · rcases JX.out.j.lg.noRow _ hB _ _ X.out with e | e
              · exact absurd e (by decide)
              · exact absurd e (by decide))).trans X.out
          obtain ⟨z0, z1, z2⟩ := facts3 X4
          clear X X4 z0 z1
          have J4 := Aside0.mk hJ4
          clear hP hJ4 hf4 QB JF
          cases er with
          | none =>
            obtain rfl : v4 = .nilIface := hE4
            obtain rfl : (t.bl.length : Int) + 1 = nz := hnz
            have HLT : Aside0 (∀ k, w4.heap.size ≤ k → ¬ WB OK4 Bw k) := ⟨fun k hk hW => by
              rcases hW with rfl | hW
              · have := J4.out.j.wx.lt; omega
              · have := (J4.out.j.wx.ok k hW).2.lt; omega⟩
            have HLN : Aside0 ((t.bl ++ [b]).length = t.bl.length + 1) := ⟨by simp⟩
            have HOF : Aside0 (ofL { t with bl := t.bl ++ [b] } = ofL t ++ [0]) := ⟨ofL_block JX.out.j.wb b⟩
            have HOL := Aside0.mk (ofL_len t)
            go_wp2_with (first
              | ((with_reducible refine gate_builtin (b := .append) (xs := #[.tmp 86, .tmp 93]) rfl ?_); at_builtin; refine Kd.R_append_rows k109 (w0 := w4) w4.heap.size rfl (.tmp 86) (.tmp 93) 76 109 (.agg #[(.int .i64 0), (.int .i64 0)]) 16 rfl Tryd.underlying76 infoRow rfl (by decide) (by omega) (.slice none 0 0) ([] : List RowT) b _ _ _ (fun _ => True) (fun _ => False) rfl rfl ?aO ?aR (fun _ _ h => h) (fun _ h => h.elim) ?aF ?aB ?aS ?aL ?_; (case aR => exact C4.out); (case aB => exact Below.refl _ _); (case aF => exact (fun _ _ => trivial)); (case aO => exact Kd.R_nil _ _ _ _ _); (case aS => exact Nat.le_refl _); (case aL => have := HQ16.out; simp only [List.length_nil]; omega); intro v5 w5 ho hb hg hat; rw [List.nil_append] at ho; have J5 := Aside0.mk (J4.out.below hb); have B5 := Aside0.mk hb; have O5 := Aside0.mk ho; obtain ⟨A5, c5, rfl⟩ := Kd.R_slice ho; clear ho hb hg hat)
              | ((with_reducible refine gate_builtin (b := .append) (xs := #[.tmp 85, .tmp 95]) rfl ?_); at_builtin; refine Kd.R_append KW (w0 := w) w.heap.size rfl (.tmp 85) (.tmp 95) 71 76 (.slice none 0 0) 24 rfl Tryd.underlying71 infoRows rfl (by decide) (by omega) (.slice A7 t.bl.length c7) t.bl b [.slice A5 b.length c5] (fun k => ¬ WB OK4 Bw k) (fun k => w4.heap.size ≤ k) rfl rfl ?bP ?bK ?bF ?bO ?bB ?bS ?bL ?_; (case bP => exact ⟨_, rfl, Kd.R_lower (Kd.R_mono (Kd.R_bound O5.out) (fun k hk => hk.2.1)) J4.out.j.lg.d.fr.size⟩); (case bK => exact fun k hk => ⟨HLT.out k hk, fun e => by have := own_size J4.out.rk k e.symm; omega⟩); (case bF => exact fun k hk => HLT.out k (Nat.le_trans B5.out.size hk)); (case bO => exact J5.out.rk); (case bB => exact J5.out.j.lg.d.fr.below (Nat.le_refl _) (fun _ h => h)); (case bS => exact J5.out.j.lg.d.fr.size); (case bL => omega); intro v6 w6 ho hb hg hat; have J6 := Aside0.mk (J5.out.growK hg ho); obtain ⟨A6, c6, he6⟩ := Kd.R_slice ho; rw [HLN.out] at he6; subst he6; have B6 := Aside0.mk (hg.size); clear ho hb hg hat)
              | ((with_reducible refine gate_builtin (b := .append) (xs := #[.tmp 97, .tmp 98]) rfl ?_); at_builtin; refine Kd.R_append KI (w0 := w) w.heap.size rfl (.tmp 97) (.tmp 98) 72 3 (.int .i64 0) 8 rfl Tryd.underlying72 infoInt rfl (by decide) (by omega) (.slice A8 t.bl.length c8) (ofL t) 0 [.int .i64 0] (fun k => ¬ WB OK4 Bw k) (fun _ => False) rfl rfl ?cP ?cK ?cF ?cO ?cB ?cS ?cL ?_; (case cP => exact rfl); (case cK => exact fun k hk => hk.elim); (case cF => exact fun k hk => HLT.out k (by have := B5.out.size; have := B6.out; omega)); (case cO => exact J6.out.ro); (case cB => exact J6.out.j.lg.d.fr.below (Nat.le_refl _) (fun _ h => h)); (case cS => exact J6.out.j.lg.d.fr.size); (case cL => have := HOL.out; omega); intro v7 w7 ho hb hg hat; have J7 := Aside0.mk (J6.out.growO hg ho); obtain ⟨A9, c9, he7⟩ := Kd.R_slice ho; rw [List.length_append, List.length_singleton, HOL.out] at he7; subst he7; clear ho hb hg hat))
            go_meet
            case rel =>
              have h2 := HNB.out
              refine ⟨Bl, Bw, n + nB (encB b).length, s2, C2, life, l ++ [encB b], Z, OK4, { t with bl := t.bl ++ [b] }, A6, A9, c6, c9, rfl, by rw [HLN.out], by rw [HLN.out], rfl, ⟨⟨?_, by rw [HLN.out]; omega, by rw [List.length_append, List.length_singleton]; omega, by omega⟩⟩⟩
              rw [HLN.out, HOF.out]
              exact J7.out
          | some er =>
            have E4 := Aside0.mk (show IsErr w4 _ v4 from hE4)
            obtain ⟨tt, uu, rfl⟩ := IsErr.ne_nil E4.out
            clear hE4
            go_wp2
            go_meet
            case rel =>
              have h2 := HNB.out
              exact ⟨Bl, Bw, _, s2, C2, life, l, Z, OK4, t, A7, A8, c7, c8, rfl, rfl, rfl, rfl, ⟨⟨J4.out, by omega, by omega, by omega⟩⟩⟩
        · have k0 : (x.f0 == 0) = false := beq_eq_false_iff_ne.2 h0
          by_cases h1 : x.f0 = 1
          · rw [h1] at y0 JX BX ⊢
            clear k0 h0 h1
            by_cases hcu : t.cu.length < 60
            · obtain ⟨⟨er, s2, C2⟩, hr⟩ : ∃ r, appS s C life l.length (need l) encC = r := ⟨_, rfl⟩
              have HNB := Aside0.mk (nB_350 encC.length (by have := encC_len; omega))
              have QC := Aside0.mk (Cut_yes JX.out.j HL.out hcu (by omega) (by omega) _ hr)
              have HWB := Aside0.mk JX.out.j.wb
              obtain ⟨nz, hnz⟩ : ∃ nz, numO ((er, s2, C2) : Option Er × Dk × CT).1 ((t.cu.length : Int) + 1) = nz := ⟨_, rfl⟩
              rw [hnz] at QC
              clear hr K X BX GC GK
              go_wp2_with fail
              refine QC.out.mono ?_
              rintro e w4 ⟨v4, rfl, hP⟩
              obtain ⟨OK4, hE4, hJ4, hf4⟩ := JX.out.app hP
              have J4 := Aside0.mk hJ4
              clear hP hJ4 hf4 QC
              cases er with
              | none =>
                obtain rfl : v4 = .nilIface := hE4
                obtain rfl : (t.cu.length : Int) + 1 = nz := hnz
                obtain ⟨t4, ht4⟩ : ∃ t4 : Wl, t4 = { t with cu := t.cu ++ [(t.bl.length : Int)] } := ⟨_, rfl⟩
                have HT4 : Aside0 (t4.bl = t.bl ∧ t4.cu.length = t.cu.length + 1 ∧ (ofL t4).length = (ofL t).length ∧ (ofL t).length = t.bl.length ∧ ∀ k, k < t.bl.length → (ofL t4).getD k 0 = if (ofL t).getD k 0 = 0 then ((t.cu.length : Int) + 1) else (ofL t).getD k 0) := ⟨by
                  subst ht4
                  exact ⟨rfl, by simp, cut_len t, ofL_len t, fun k hk => ofL_cut hk⟩⟩
                have J5 : Aside0 (KeJ w w4 a1 a2 Bl Bw (n + nB encC.length) s2 C2 life (l ++ [encC]) 200 Z OK4 t4 (.slice A7 t.bl.length c7) t.bl (.slice A8 t.bl.length c8) (mixL (ofL t4) (ofL t) 0)) := ⟨by rw [mixL_zero, ht4]; exact J4.out⟩
                clear ht4 J4
                go_wp2
                go_loopg [17] (t.bl.length + 1) (fun kq v17 wr2 => ∃ (k : Nat), v17 = .int .i64 (k : Int) ∧ k ≤ t.bl.length ∧ t.bl.length - k ≤ kq ∧ Aside0 (KeJ w wr2 a1 a2 Bl Bw (n + nB encC.length) s2 C2 life (l ++ [encC]) 200 Z OK4 t4 (.slice A7 t.bl.length c7) t.bl (.slice A8 t.bl.length c8) (mixL (ofL t4) (ofL t) k)))
                case atStart => exact ⟨0, rfl, by omega, by omega, J5⟩
                case round =>
                  clear J5
                  obtain ⟨k, rfl, hk1, hk2, J5⟩ := hrel
                  obtain ⟨_, hT2, hT3, hT4, hT5⟩ := HT4.out
                  by_cases hlk : k < t.bl.length
                  · have q3 : decide ((k : Int) < (t.bl.length : Int)) = true := decide_eq_true (by omega)
                    have p0 : (0 : Int) ≤ (k : Int) := by omega
                    have p1 : (k : Int) < (t.bl.length : Int) := by omega
                    obtain ⟨g8, e8, m8, f8, hput⟩ := J5.out.put k (by rw [mixL_len hT3 (by omega)]; omega)
                    subst e8
                    rw [mixL_at hT3 (by omega)] at m8
                    have hk5 := hT5 k hlk
                    have hst := mixL_set hT3 (k := k) (by omega)
                    have hsm := mixL_same hT3 (k := k) (by omega)
                    rw [hk5] at hst hsm
                    obtain ⟨z, hz⟩ : ∃ z, (ofL t).getD k 0 = z := ⟨_, rfl⟩
                    rw [hz] at m8 hst hsm
                    by_cases hz0 : z = 0
                    · subst hz0
                      rw [if_pos rfl] at hst
                      have J6 := Aside0.mk (hput ((t.cu.length : Int) + 1))
                      rw [hst] at J6
                      clear hsm hst hput hz hk5 hT5
                      go_wp2
                      go_roundg (gk - 1)
                      case measure => omega
                      case rel => exact ⟨k + 1, by go_num, by omega, by omega, J6⟩
                    · have qz : (z == 0) = false := beq_eq_false_iff_ne.2 hz0
                      rw [if_neg hz0] at hsm
                      have J6 : Aside0 (KeJ w wr a1 a2 Bl Bw (n + nB encC.length) s2 C2 life (l ++ [encC]) 200 Z OK4 t4 (.slice A7 t.bl.length c7) t.bl (.slice (some ⟨g8, 0, none⟩) t.bl.length c8) (mixL (ofL t4) (ofL t) (k + 1))) := ⟨by rw [← hsm rfl]; exact J5.out⟩
                      clear hsm hst hput hz hk5 hT5
                      go_wp2
                      go_roundg (gk - 1)
                      case measure => omega
                      case rel => exact ⟨k + 1, by go_num, by omega, by omega, J6⟩
                  · obtain rfl : k = t.bl.length := by omega
                    have q3 : decide ((t.bl.length : Int) < (t.bl.length : Int)) = false := decide_eq_false (by omega)
                    have J6 : Aside0 (KeJ w wr a1 a2 Bl Bw (n + nB encC.length) s2 C2 life (l ++ [encC]) 200 Z OK4 t4 (.slice A7 t.bl.length c7) t.bl (.slice A8 t.bl.length c8) (ofL t4)) := ⟨by have := J5.out; rw [← hT4, mixL_end hT3] at this; rw [← hT4]; exact this⟩
                    clear hT5 J5
                    go_wp2
                    go_meet
                    case rel =>
                      have h2 := HNB.out
                      have hb4 := HT4.out.1
                      refine ⟨Bl, Bw, n + nB encC.length, s2, C2, life, l ++ [encC], Z, OK4, t4, A7, A8, c7, c8, rfl, by rw [hb4], by rw [hb4], by rw [hT2]; go_num, ⟨⟨?_, by rw [hb4]; omega, by rw [List.length_append, List.length_singleton]; omega, by omega⟩⟩⟩
                      rw [hb4]
                      exact J6.out
              | some er =>
                have E4 := Aside0.mk (show IsErr w4 _ v4 from hE4)
                obtain ⟨tt, uu, rfl⟩ := IsErr.ne_nil E4.out
                clear hE4
                go_wp2
                go_meet
                case rel =>
                  have h2 := HNB.out
                  exact ⟨Bl, Bw, _, s2, C2, life, l, Z, OK4, t, A7, A8, c7, c8, rfl, rfl, rfl, rfl, ⟨⟨J4.out, by omega, by omega, by omega⟩⟩⟩
            · have QC := Aside0.mk (Cut_no JX.out.j (.fault walS 0 (.num 2)) (if_pos (by omega)))
              clear K X BX GC GK
              go_wp2_with fail
              refine QC.out.mono ?_
              rintro e w4 ⟨v4, rfl, hE, hb⟩
              have J4 := Aside0.mk (JX.out.below hb)
              obtain ⟨tt, uu, rfl⟩ := IsErr.ne_nil hE
              clear hE hb QC
              go_wp2
              go_meet
              case rel => exact ⟨Bl, Bw, _, s, C, life, l, Z, OK, t, A7, A8, c7, c8, rfl, rfl, rfl, rfl, ⟨⟨J4.out, by omega, by omega, by omega⟩⟩⟩
          · have k1 : (x.f0 == 1) = false := beq_eq_false_iff_ne.2 h1
            by_cases h3 : x.f0 = 3
            · rw [h3] at y0 JX ⊢
              clear k0 k1 h0 h1 h3 K X BX
              go_wp2_with fail
              refine (arm_dx JX.out.j.lg.d.dx x.f1).mono ?_
              rintro e w5 ⟨rfl, hD, hf⟩
              have J5 := Aside0.mk (JX.out.call hD hf (by unfold armS; split <;> rfl))
              clear hD hf
              go_wp2
              go_meet
              case rel => exact ⟨Bl, Bw, n, armS s x.f1, C, life, l, Z, OK, t, A7, A8, c7, c8, rfl, rfl, rfl, rfl, ⟨⟨J5.out, by omega, by omega, by omega⟩⟩⟩
            · have k3 : (x.f0 == 3) = false := beq_eq_false_iff_ne.2 h3
              by_cases h4 : x.f0 = 4
              · rw [h4] at y0 JX ⊢
                clear k0 k1 k3 h0 h1 h3 h4 K X BX
                go_wp2_with fail
                refine (cut_dx JX.out.j.lg.d.dx).mono ?_
                rintro e w5 ⟨rfl, hD, hf⟩
                have J5 := Aside0.mk (JX.out.call hD hf rfl)
                clear hD hf
                go_wp2
                go_meet
                case rel => exact ⟨Bl, Bw, n, cutS s, C, life, l, Z, OK, t, A7, A8, c7, c8, rfl, rfl, rfl, rfl, ⟨⟨J5.out, by omega, by omega, by omega⟩⟩⟩
              · have k4 : (x.f0 == 4) = false := beq_eq_false_iff_ne.2 h4
                clear h0 h1 h3 h4 K X BX
                go_wp2_with fail
                refine (restart_dx JX.out.j.lg.d.dx).mono ?_
                rintro e w5 ⟨rfl, hD, hf⟩
                have J5 := Aside0.mk (JX.out.call hD hf rfl)
                clear hD hf
                go_wp2_with fail
                refine (J5.out.j.lg.d.openW rfl (by decide) _ J5.out.j.run).mono ?_
                rintro e w6 ⟨Bl6, Bw6, OK6, rfl, hb6, hJ6⟩
                have J6 := Aside0.mk (J5.out.opened hb6 hJ6)
                clear hb6 hJ6
                go_wp2
                go_meet
                case rel => exact ⟨Bl6, Bw6, n, restartS s, C, _, l, _, OK6, t, A7, A8, c7, c8, rfl, rfl, rfl, rfl, ⟨⟨J6.out, by omega, by omega, by omega⟩⟩⟩
    · have hcase : (decide ((i : Int) < (l0.length : Int)) = false ∧ ¬ i < l0.length) ∨ (decide ((i : Int) < (l0.length : Int)) = true ∧ decide ((i : Int) < 80) = false ∧ i < l0.length ∧ i = 80) := by
        by_cases h : i < l0.length
        · exact .inr ⟨decide_eq_true (by omega), decide_eq_false (by omega), h, by omega⟩
        · exact .inl ⟨decide_eq_false (by omega), h⟩
      have J3 := Aside0.mk K.out.k
      have HWB := Aside0.mk K.out.k.j.wb
      have hbl := K.out.k.j.wb.bl
      have hcl := K.out.k.j.wb.cu
      have HOL := Aside0.mk (ofL_len t)
      clear hlt K
      obtain ⟨w3, rfl⟩ : ∃ w3, w3 = wr := ⟨_, rfl⟩
      have M0 : Aside0 (Below w3.heap.size w3 w3) := ⟨Below.refl _ _⟩
      rcases hcase with ⟨q1, hge⟩ | ⟨q1, q2, hlt, h30⟩
      all_goals
        go_wp2
        go_loopg [21, 22] (t.cu.length + 1) (fun kq v21 v22 wq => ∃ (y : Nat), v21 = .int .i64 (loB t (y + 1) : Int) ∧ v22 = .int .i64 ((y : Int) + 1) ∧ y ≤ t.cu.length ∧ t.cu.length - y ≤ kq ∧ Aside0 (Below w3.heap.size w3 wq))
        case atStart => exact ⟨0, rfl, rfl, by omega, by omega, M0⟩
        case round =>
          obtain ⟨y, rfl, rfl, hy, hk2, M⟩ := hrel
          clear M0
          by_cases hlt2 : y < t.cu.length
          · have q5 : decide ((y : Int) + 1 ≤ (t.cu.length : Int)) = true := decide_eq_true (by omega)
            obtain ⟨_, _, hlh, hhb⟩ := bat_bd HWB.out (n := y + 1) (by omega) (by omega)
            have QB := Batch_yes (J3.out.below M.out).j.wx HWB.out (y + 1) (by omega) (by omega)
            rw [show ((y + 1 : Nat) : Int) = (y : Int) + 1 from by omega] at QB
            have hbl2 := bat_len HWB.out (n := y + 1) (by omega) (by omega)
            have HAT := Aside0.mk (fun (j : Nat) (hj : loB t (y + 1) + j < hiB t (y + 1)) => bat_at (s := t) hj)
            have HOF := Aside0.mk (fun (k : Nat) (h3 : loB t (y + 1) ≤ k) (h4 : k < hiB t (y + 1)) => of_in HWB.out (n := y + 1) (k := k) (by omega) (by omega) h3 h4)
            obtain ⟨BT, hBT⟩ : ∃ BT, batF t (y + 1) = BT := ⟨_, rfl⟩
            rw [hBT] at QB hbl2 HAT
            obtain ⟨lo, hlo⟩ : ∃ lo, loB t (y + 1) = lo := ⟨_, rfl⟩
            obtain ⟨hh, hhe⟩ : ∃ hh, hiB t (y + 1) = hh := ⟨_, rfl⟩
            have HNX : Aside0 (loB t (y + 1 + 1) = hh) := ⟨by rw [lo_succ (by omega), hhe]⟩
            rw [hlo, hhe] at hbl2 hlh HAT HOF
            rw [hhe] at hhb
            rw [hlo]
            have QB' := Aside0.mk QB
            clear hBT hlo hhe QB
            obtain ⟨gO, hgO⟩ : ∃ gO, gO = gk := ⟨_, rfl⟩
            have HGO := Aside0.mk hgO
            clear hgO
            go_wp2_with fail
            refine QB'.out.mono ?_
            rintro e w8 ⟨v8, rfl, hR8, hb8⟩
            obtain ⟨A23, c23, rfl⟩ := Kd.R_slice hR8
            have RB := Aside0.mk (Kd.R_reads' hR8).2.2
            have M8 : Aside0 (Below w3.heap.size w3 w8) := ⟨M.out.trans (hb8.mono M.out.size)⟩
            clear hR8 hb8 QB' M
            have M9 : Aside0 (Below w8.heap.size w8 w8) := ⟨Below.refl _ _⟩
            go_wp2
            go_loopg [21, 25] (BT.length + 1) (fun kq v21 v25 wr2 => ∃ (j : Nat), v21 = .int .i64 ((lo + j : Nat) : Int) ∧ v25 = .int .i64 (j : Int) ∧ j ≤ BT.length ∧ BT.length - j ≤ kq ∧ Aside0 (Below w8.heap.size w8 wr2))
            case atStart => exact ⟨0, rfl, rfl, by omega, by omega, M9⟩
            case round =>
              clear M9
              obtain ⟨j, rfl, rfl, hj, hk3, M2⟩ := hrel
              by_cases hlt3 : j < BT.length
              · have q6 : decide ((j : Int) < (BT.length : Int)) = true := decide_eq_true (by omega)
                have J4 := Aside0.mk (J3.out.below (M8.out.trans (M2.out.mono M8.out.size)))
                obtain ⟨ad3, A3, c3, e3, m3, t3, r3⟩ := at_rows RB.out j hlt3
                subst e3
                rw [HAT.out j (by omega)] at m3 t3 r3
                obtain ⟨ad4, A4, c4, e4, m4, t4, r4⟩ := at_rows (Kd.R_reads' J4.out.rk).2.2 (lo + j) (by omega)
                subst e4
                obtain ⟨ad5, e5, m5⟩ := at_int (Kd.R_reads' J4.out.ro).2.2 (lo + j) (by rw [HOL.out]; omega)
                subst e5
                rw [ofL_at (by omega), HOF.out (lo + j) (by omega) (by omega), show ((y + 1 : Nat) : Int) = (y : Int) + 1 from by omega] at m5
                have hx16 := HWB.out.rows (t.bl.getD (lo + j) []) (by rw [List.getD_eq_getElem?_getD, List.getElem?_eq_getElem (by omega : lo + j < t.bl.length)]; exact List.getElem_mem _)
                obtain ⟨kk, hkk⟩ : ∃ kk, lo + j = kk := ⟨_, rfl⟩
                obtain ⟨x, hx⟩ : ∃ x, t.bl.getD (lo + j) [] = x := ⟨_, rfl⟩
                rw [hx] at m3 t3 r3 m4 t4 r4 hx16
                rw [hkk] at m4 m5 ⊢
                have x3 := cell_keep M2.out m3
                have p6 : (0 : Int) ≤ (j : Int) := by omega
                have p7 : (j : Int) < (BT.length : Int) := by omega
                have p8 : (0 : Int) ≤ (kk : Int) := by omega
                have p9 : (kk : Int) < (t.bl.length : Int) := by omega
                have q7 : decide ((t.bl.length : Int) ≤ (kk : Int)) = false := decide_eq_false (by omega)
                have q7n : decide (t.bl.length ≤ kk) = false := decide_eq_false (by omega)
                have HQS := Aside0.mk (q_any (fun q => same_rows A3 A4 c3 c4 x (wr.drewN q) (Kd.C_drewN (Kd.C_below r3 M2.out) q) t3 (Kd.C_drewN r4 q) t4 (by omega)))
                clear r3 r4 hx m3 J4
                go_wp2_with fail
                go_quiet ((go_at_call 55; exact HQS.out _))
                go_wp2
                go_roundg (gk - 1)
                case measure => omega
                case rel => exact ⟨j + 1, by rw [show lo + (j + 1) = kk + 1 from by omega]; go_num, by go_num, by omega, by omega, ⟨pw_below_drewN M2.out nq⟩⟩
              · obtain rfl : j = BT.length := by omega
                have q6 : decide ((BT.length : Int) < (BT.length : Int)) = false := decide_eq_false (by omega)
                go_wp2
                have hgO := HGO.out
                go_roundg (gO - 1)
                case measure => omega
                case rel => exact ⟨y + 1, by rw [show lo + BT.length = hh from by omega, HNX.out], by go_num, by omega, by omega, ⟨M8.out.trans (M2.out.mono M8.out.size)⟩⟩
          · obtain rfl : y = t.cu.length := by omega
            have q5 : decide ((t.cu.length : Int) + 1 ≤ (t.cu.length : Int)) = false := decide_eq_false (by omega)
            have J4 := Aside0.mk (J3.out.below M.out)
            go_wp2_with fail
            refine (told_wl wr (J4.out.j.lg.d.laid HL.out)).mono ?_
            rintro e w9 ⟨rfl, hb9⟩
            have J9 := Aside0.mk (J4.out.below hb9)
            clear hb9
            go_wp2
            go_ret
            exact ⟨rfl, J9.out.j.lg.d.fr.below (Nat.le_refl _) (fun _ h => h)⟩
end Kp
open Classical in
noncomputable def tributarylaw9_WalKeeps.f (l0 : List Kp.ActT) : Option Bool := if Kp.okAll l0 then some true else none
theorem tributarylaw9_WalKeeps.calls (A0 : Option Addr) (c0 : Nat) (l0 : List Kp.ActT) (r : Bool) (w : World) (hr0 : Kd.C k78 w A0 l0.length l0) (hc0 : l0.length ≤ c0) (hL : Laid w) (h : tributarylaw9_WalKeeps.f l0 = some r) :
    Calls Tryd.prog 9 #[.slice A0 l0.length c0] w fun e w' => e = .returned (.bool r) ∧ Below w.heap.size w w' := by
  unfold tributarylaw9_WalKeeps.f at h
  by_cases hk : Kp.okAll l0
  · rw [if_pos hk] at h
    obtain rfl := Option.some.inj h
    exact Kp.walKeeps_law A0 c0 l0 w hr0 hc0 hL hk
  · rw [if_neg hk] at h; cases h
end Go.Proofs.YtlhjjjpldmekdaaDoor.PWg
