/- Proved: the law WireInts returns true for all bytes that fit: the walk. -/
import Derived.Test.YtjcllneibeemgaaDoorWirePure3
import Derived.Test.YtjcllneibeemgaaDoorRegInv
namespace Go.Proofs.YtjcllneibeemgaaDoor.PFn
open Go.RowKit Go.Proofs.YtjcllneibeemgaaDoorW.PrintWords Go.Proofs.YtjcllneibeemgaaDoorW.PrintLast Go.Proofs.YtjcllneibeemgaaDoorW.PrintMore Go.Proofs.YtjcllneibeemgaaDoor.Err
attribute [local go_sem] max2_int min2_int max_two min_two max_three min_three max_four min_four
set_option linter.unusedVariables false
set_option linter.unusedSimpArgs false

set_option maxHeartbeats 8000000 in
set_option maxRecDepth 100000 in
theorem roomy_calls (A0 : Option Addr) (c0 : Nat) (l0 : List Int) (w : World) (hr0 : Kd.C (Kd.int .u8) w A0 l0.length l0) (hc0 : l0.length ≤ c0) (hl : l0.length < 140737488355000) :
    Calls Tryd.prog 8 #[.slice A0 l0.length c0] w fun e w' => ∃ (A : Addr) (c : Nat), e = .returned (.slice (some A) l0.length c) ∧ Kd.C (Kd.int .u8) w' (some A) (l0 ++ [77, 78]).length (l0 ++ [77, 78]) ∧ l0.length + 2 ≤ c ∧ Below w.heap.size w w' := by
  have HR0 := Aside0.mk hr0
  clear hr0
  go_enter Tryd.func8, Tryd.ntmps8
  go_wp2_with (first
    | ((with_reducible refine gate_builtin (b := .append) (xs := #[.tmp 7, .tmp 8]) rfl ?_); at_builtin; refine Kd.R_append_rows (Kd.int .u8) (w0 := w) w.heap.size rfl (.tmp 7) (.tmp 8) 22 5 (.int .u8 0) 1 rfl Tryd.underlying22 info5 rfl (by decide) (by omega) (.slice none 0 0) ([] : List Int) l0 _ _ _ (fun _ => True) (fun _ => False) rfl rfl ?aO ?aR (fun _ _ h => h) (fun _ h => h.elim) ?aF ?aB ?aS ?aL ?_; (case aR => exact HR0.out); (case aB => exact Below.refl _ _); (case aF => exact (fun _ _ => trivial)); (case aO => exact ((Kd.R_nil _ _ _ _ (fun _ => True)))); (case aS => exact Nat.le_refl _); (case aL => simp only [List.length_nil]; omega); intro v102 w6 ho hb hg hat; have HB := Aside0.mk hb; have HO103 := Aside0.mk ho; clear ho hb hg hat)
    | ((with_reducible refine gate_dst (N := 11) rfl ?_); refine Kd.R_lit (Kd.int .u8) _ 5 ?hg (N := 11) ?hd (xs := ([77, 78] : List Int)) (inner := [.int .u8 77, .int .u8 78]) (ok := fun _ => True) (okp := fun _ => True) ?hr ?hp (fun _ hk => hk) trivial (Below.refl _ _) (Nat.le_refl _) (by simp) ?_; (case hd => rfl); (case hg => rfl); (case hr => first | (go_simp; done) | (go_simp; rfl)); (case hp => exact (Reps.one (show Kd.M (Kd.int .u8) _ _ _ 77 [.int .u8 77] from rfl) (Reps.one (show Kd.M (Kd.int .u8) _ _ _ 78 [.int .u8 78] from rfl) (Reps.none _ _)))); intro v105 w7 ho8 hb hg_ hnew_; clear hg_ hnew_;
       have n0_ := Aside0.mk (Kd.R_elder' (by (with_reducible repeat (first | apply Kd.R_alloc | apply Kd.R_drewN | apply Kd.R_drew)); exact HO103.out) (Kd.R_base ho8) hb); have n1_ := Aside0.mk (Kd.R_lower (Kd.R_new' ho8 (Kd.R_lt (by (with_reducible repeat (first | apply Kd.R_alloc | apply Kd.R_drewN | apply Kd.R_drew)); exact HO103.out))) (below_size (by repeat (first | (with_reducible first | exact HB.out | apply below_alloc | apply pw_below_drewN | apply below_drew1) | exact HB.out)))); have n2_ := Aside0.mk (below_step (by repeat (first | (with_reducible first | exact HB.out | apply below_alloc | apply pw_below_drewN | apply below_drew1) | exact HB.out)) hb); clear HO103; clear HB; have HO103 := n0_; have HO106 := n1_; have HB := n2_; clear n0_ n1_ n2_; clear hb ho8; obtain ⟨Ao10, co10, eo10⟩ := Kd.R_slice HO106.out; subst eo10)
    | ((with_reducible refine gate_builtin (b := .append) (xs := #[.tmp 10, .tmp 11]) rfl ?_); at_builtin; refine Kd.R_append_rows (Kd.int .u8) (w0 := w) w.heap.size rfl (.tmp 10) (.tmp 11) 22 5 (.int .u8 0) 1 rfl Tryd.underlying22 info5 rfl (by decide) (by omega) v102 ([] ++ l0) ([77, 78] : List Int) _ _ _ (fun k_ => some k_ ≠ (.slice Ao10 ([77, 78] : List Int).length co10 : Value).ownBlock) (fun _ => False) rfl rfl ?aO ?aR (fun _ _ h => h) (fun _ h => h.elim) ?aF ?aB ?aS ?aL ?_; (case aR => repeat (first | exact (Kd.R_reads' HO106.out).2.2 | (with_reducible refine Kd.C_alloc ?_ _) | (with_reducible refine Kd.C_drewN ?_ _) | (with_reducible refine Kd.C_drew ?_))); (case aB => exact (by repeat (first | (with_reducible first | exact HB.out | apply below_alloc | apply pw_below_drewN | apply below_drew1) | exact HB.out))); (case aF => exact (fun k_ hk => Kd.fresh' (Kd.R_lt (by (with_reducible repeat (first | apply Kd.R_alloc | apply Kd.R_drewN | apply Kd.R_drew)); exact HO106.out)) k_ hk)); (case aO => exact (by (with_reducible repeat (first | apply Kd.R_alloc | apply Kd.R_drewN | apply Kd.R_drew)); exact Kd.R_mono HO103.out (fun _ hk => hk.2))); (case aS => exact (below_size (by repeat (first | (with_reducible first | exact HB.out | apply below_alloc | apply pw_below_drewN | apply below_drew1) | exact HB.out)))); (case aL => simp only [List.length_append, List.length_nil, List.length_cons]; omega); intro v108 w9 ho hb hg hat;
       have HB9 := Aside0.mk (hb); have HO109 := Aside0.mk (ho); clear ho hb hg hat;
       obtain ⟨Y, hY⟩ : ∃ Y, Y = ([] ++ l0) ++ ([77, 78] : List Int) := ⟨_, rfl⟩; rw [← hY] at HO109; have hYl : Y.length = l0.length + 2 := (by rw [hY]; simp); obtain rfl : Y = l0 ++ [77, 78] := (by rw [hY]; simp); clear hY; obtain ⟨Ao11, co11, eo11⟩ := Kd.R_slice HO109.out; subst eo11;
       have hcap := (Kd.R_reads' HO109.out).2.1; have hD1 : decide ((l0.length : Int) ≤ (co11 : Int)) = true := decide_eq_true (by omega);
       have hcut12 := cut_to (P := Tryd.prog) 22 5 .i64 Tryd.underlying22 (info_parts info5).choose_spec.1 Ao11 (l0 ++ [77, 78]).length co11 (l0.length : Int) (by omega) (by omega) hcap; rw [Int.toNat_natCast] at hcut12))
  have HC := (Kd.R_reads' HO109.out).2.2
  obtain ⟨ad, hAd⟩ : ∃ ad, Ao11 = some ad := by
    obtain ⟨ad, h, _⟩ := Kd.at_int HC 0 (by omega) (by omega)
    exact ⟨ad, h⟩
  subst hAd
  go_ret
  exact ⟨ad, co11, rfl, HC, by omega, HB9.out⟩

def room (l : List Int) : Bool := decide (l.length < 140737488355000)
instance (n : Int) : Decidable (okI n) := by unfold okI; infer_instance
def tributarylaw1_WireInts.f (n : Int) (l : List Int) (a : Int) : Option Bool := if okBytes l = true ∧ room l = true ∧ okI n then some true else none
theorem code_werr (a e : Int) : codeOf (werr a e) = e := by
  unfold werr
  split
  · rename_i h; subst h; rfl
  · rfl
theorem place_werr {a e : Int} (h : ¬e = 0) : placeOf (werr a e) = a := by unfold werr; rw [if_neg h]; rfl
theorem str_mn (l : List Int) : strOfNums (l ++ [77, 78]) = strOfNums l ++ ⟨#[77, 78]⟩ := by
  apply ByteArray.ext
  simp [strOfNums]
set_option maxHeartbeats 8000000 in
set_option maxRecDepth 100000 in
theorem wireInts_law (n : Int) (A0 : Option Addr) (c0 : Nat) (l0 : List Int) (a : Int) (w : World) (hr0 : Kd.C (Kd.int .u8) w A0 l0.length l0) (hc0 : l0.length ≤ c0) (hL : Laid w) (hok : okBytes l0 = true) (hroom : room l0 = true) (hn : okI n) :
    Calls Tryd.prog 3 #[.int .i64 n, .slice A0 l0.length c0, .int .i64 a] w fun e w' => e = .returned (.bool true) ∧ Below w.heap.size w w' := by
  have hl : l0.length < 140737488355000 := of_decide_eq_true hroom
  have HL := Aside0.mk hL
  have HR0 := Aside0.mk hr0
  have HN := Aside0.mk hn
  have HOK := Aside0.mk hok
  obtain ⟨hlen, hby⟩ := okBytes_iff.1 hok
  have HBY := Aside0.mk hby
  clear hr0 hL hn hok hroom hby
  obtain ⟨R, hR⟩ : ∃ R, R = readI l0 a := ⟨_, rfl⟩
  have HR := Aside0.mk hR
  clear hR
  go_enter Tryd.func3, Tryd.ntmps3
  go_wp2_with fail
  refine (roomy_calls A0 c0 l0 w HR0.out hc0 hl).mono ?_
  rintro e w1 ⟨ad, c, rfl, hC, hc, hb⟩
  have HC := Aside0.mk hC
  have HB1 := Aside0.mk hb
  clear hC hb
  go_wp2_with fail
  refine (readInt_calls (some ad) c l0 a _ ?c1 (by omega) hlen HBY.out).mono ?_
  case c1 => have := Kd.C_take (m := l0.length) HC.out (by simp); simpa using this
  rintro e w2 ⟨v, rfl, hE, hb, hN⟩
  have HE := Aside0.mk hE
  have HC2 := Aside0.mk (Kd.C_below HC.out hb)
  have HB2 := Aside0.mk (HB1.out.trans (hb.mono HB1.out.size))
  clear hE hb hN HC HB1
  rw [← HR.out] at HE ⊢
  go_wp2_with fail
  refine (tributaryref1_ReadInt.calls 40 A0 c0 l0 a R.1 R.2.1 R.2.2 _ (Kd.C_below HR0.out HB2.out) hc0 (by rw [ref1_ReadInt_f l0 a HOK.out 40 (by decide), HR.out])).mono ?_
  rintro e w3 ⟨rfl, ⟨nd, rfl⟩⟩
  have HE3 := Aside0.mk (HE.out.below (show Below w2.heap.size w2 (w2.drewN nd) by apply pw_below_drewN; exact Below.refl _ _) (Nat.le_refl _))
  have HC3 := Aside0.mk (Kd.C_drewN HC2.out nd)
  have HB3 := Aside0.mk (show Below w.heap.size w (w2.drewN nd) by apply pw_below_drewN; exact HB2.out)
  clear HE HC2 HB2
  generalize w2.drewN nd = w3 at HE3 HC3 HB3 ⊢
  have HL3 := Aside0.mk (HL.out.below HB3.out (Nat.le_refl _))
  clear HL
  go_wp2_with fail
  by_cases hz : R.2.2 = 0
  · refine Reg.region_inv (Reg.tab [(Reg.Is (.bool true)), (Reg.Is (.bool true)), (Reg.Is (.int .i64 n)), (fun v w => Kd.R (Kd.int .u8) 5 w w3.heap.size (fun _ => True) v (encI n)), (Reg.Is (.string (strOfNums (encI n)))), (Reg.Is (.int .i64 n)), (fun v w => Kd.R (Kd.int .u8) 5 w w3.heap.size (fun _ => True) v (encI n)), (Reg.Is (.string (strOfNums (encI n)))), (Reg.Is (.bool true)), (Reg.Is (.bool true)), (Reg.Is (.bool true)), (Reg.Is (.int .i64 R.1)), (Reg.Is (.int .i64 R.1)), (Reg.Is (.bool true)), (Reg.Is (.bool true)), (Reg.Is (.bool true)), (Reg.Is (.int .i64 R.2.1)), (Reg.Is (.int .i64 R.2.1)), (Reg.Is (.bool true)), (Reg.Is (.bool true)), (Reg.Is (.bool true)), (Reg.Is v), (Reg.Is (.int .i64 R.2.2)), (Reg.Is (.int .i64 R.2.2)), (Reg.Is (.bool true)), (Reg.Is (.bool true)), (Reg.Is (.bool true)), (Reg.Is (.int .i64 R.2.2)), (Reg.Is (.bool true)), (Reg.Is (.bool true)), (Reg.Is undef), (Reg.Is undef), (Reg.Is undef), (Reg.Is undef), (Reg.Is (.bool true)), (Reg.Is (.bool true)), (Reg.Is (.bool true)), (Reg.Is (.slice (some ad) l0.length c)), (Reg.Is (.slice A0 l0.length c0)), (Reg.Is (.int .i64 (l0.length : Int))), (Reg.Is (.int .i64 ((l0.length : Int) + 2))), (Reg.Is (.slice (some ad) (l0.length + 2) c)), (Reg.Is (.string (strOfNums (l0 ++ [77, 78])))), (Reg.Is (.slice A0 l0.length c0)), (Reg.Is (.string (strOfNums l0))), (Reg.Is (.string (strOfNums (l0 ++ [77, 78])))), (Reg.Is (.bool true)), (Reg.Is (.bool true)), (Reg.Is (.bool true))]) (by kernel_rfl) (by kernel_rfl) (Reg.tab_mono ?mono) ?steps ?fin
    case mono => exact ⟨Reg.Is.mono _, Reg.Is.mono _, Reg.Is.mono _, (fun _ _ _ hb h => Kd.R_below h hb), Reg.Is.mono _, Reg.Is.mono _, (fun _ _ _ hb h => Kd.R_below h hb), Reg.Is.mono _, Reg.Is.mono _, Reg.Is.mono _, Reg.Is.mono _, Reg.Is.mono _, Reg.Is.mono _, Reg.Is.mono _, Reg.Is.mono _, Reg.Is.mono _, Reg.Is.mono _, Reg.Is.mono _, Reg.Is.mono _, Reg.Is.mono _, Reg.Is.mono _, Reg.Is.mono _, Reg.Is.mono _, Reg.Is.mono _, Reg.Is.mono _, Reg.Is.mono _, Reg.Is.mono _, Reg.Is.mono _, Reg.Is.mono _, Reg.Is.mono _, Reg.Is.mono _, Reg.Is.mono _, Reg.Is.mono _, Reg.Is.mono _, Reg.Is.mono _, Reg.Is.mono _, Reg.Is.mono _, Reg.Is.mono _, Reg.Is.mono _, Reg.Is.mono _, Reg.Is.mono _, Reg.Is.mono _, Reg.Is.mono _, Reg.Is.mono _, Reg.Is.mono _, Reg.Is.mono _, Reg.Is.mono _, Reg.Is.mono _, Reg.Is.mono _, trivial⟩
    case steps =>
      refine ⟨?_, ?_, ?_, ?_, ?_, ?_, ?_, ?_, ?_, ?_, ?_, ?_, ?_, ?_, ?_, ?_, ?_, ?_, ?_, ?_, ?_, ?_, ?_, ?_, ?_, ?_, ?_, ?_, ?_, ?_, ?_, ?_, ?_, ?_, ?_, ?_, ?_, ?_, ?_, ?_, ?_, ?_, ?_, ?_, ?_, ?_, ?_, ?_, ?_, trivial⟩
      · intro ac w' hb hd hk   -- 0
        replace hb := Reg.below_undrew hb
        refine Reg.step_call (Reg.wanted_free rfl) (by go_simp; try rfl) ((told_law _ (HL3.out.below hb (Nat.le_refl _))).mono ?_)
        rintro e w4 ⟨rfl, hb4⟩
        exact ⟨_, rfl, rfl, hb4⟩
      · intro ac w' hb hd hk   -- 1
        replace hb := Reg.below_undrew hb
        obtain ⟨v30, e30, t30⟩ := hk.2 0 (by kernel_rfl)
        replace e30 : ac.tmps[30]? = some v30 := e30
        replace e30 : ac.tmps[30]? = some (.bool true) := e30.trans (congrArg some t30)
        exact Reg.step_value (Reg.wanted_free rfl) (w1 := w') (by go_simp; try rfl) (Below.refl _ _) rfl
      · intro ac w' hb hd hk   -- 2
        replace hb := Reg.below_undrew hb
        have e0 : ac.tmps[0]? = some (.int .i64 n) := (hk.1 0 (by kernel_rfl)).trans rfl
        obtain ⟨v31, e31, t31⟩ := hk.2 1 (by kernel_rfl)
        replace e31 : ac.tmps[31]? = some v31 := e31
        replace e31 : ac.tmps[31]? = some (.bool true) := e31.trans (congrArg some t31)
        exact Reg.step_value ((Reg.wanted_is rfl rfl e31).trans rfl) (w1 := w') (by go_simp; try rfl) (Below.refl _ _) rfl
      · intro ac w' hb hd hk   -- 3
        replace hb := Reg.below_undrew hb
        obtain ⟨v32, e32, t32⟩ := hk.2 2 (by kernel_rfl)
        replace e32 : ac.tmps[32]? = some v32 := e32
        replace e32 : ac.tmps[32]? = some (.int .i64 n) := e32.trans (congrArg some t32)
        obtain ⟨v31, e31, t31⟩ := hk.2 1 (by kernel_rfl)
        replace e31 : ac.tmps[31]? = some v31 := e31
        replace e31 : ac.tmps[31]? = some (.bool true) := e31.trans (congrArg some t31)
        refine Reg.step_call ((Reg.wanted_is rfl rfl e31).trans rfl) (by go_simp; try rfl) ((wire_Int.calls 10 n _ _ (wire_Int_f n HN.out 10 (by decide))).mono ?_)
        rintro e w4 ⟨v0, rfl, ho, hb4⟩
        exact ⟨_, rfl, Kd.R_lower ho hb.size, hb4⟩
      · intro ac w' hb hd hk   -- 4
        replace hb := Reg.below_undrew hb
        obtain ⟨v33, e33, t33⟩ := hk.2 3 (by kernel_rfl)
        replace e33 : ac.tmps[33]? = some v33 := e33
        replace t33 : (fun v w => Kd.R (Kd.int .u8) 5 w w3.heap.size (fun _ => True) v (encI n)) v33 w' := t33
        obtain ⟨v31, e31, t31⟩ := hk.2 1 (by kernel_rfl)
        replace e31 : ac.tmps[31]? = some v31 := e31
        replace e31 : ac.tmps[31]? = some (.bool true) := e31.trans (congrArg some t31)
        have hcv := own_string (P := Tryd.prog) Tryd.underlying22 Tryd.underlying5 Tryd.underlying9 (Kd.own_of_R t33)
        exact Reg.step_value ((Reg.wanted_is rfl rfl e31).trans rfl) (w1 := w') (by go_simp; try rfl) (Below.refl _ _) rfl
      · intro ac w' hb hd hk   -- 5
        replace hb := Reg.below_undrew hb
        have e0 : ac.tmps[0]? = some (.int .i64 n) := (hk.1 0 (by kernel_rfl)).trans rfl
        obtain ⟨v31, e31, t31⟩ := hk.2 1 (by kernel_rfl)
        replace e31 : ac.tmps[31]? = some v31 := e31
        replace e31 : ac.tmps[31]? = some (.bool true) := e31.trans (congrArg some t31)
        exact Reg.step_value ((Reg.wanted_is rfl rfl e31).trans rfl) (w1 := w') (by go_simp; try rfl) (Below.refl _ _) rfl
      · intro ac w' hb hd hk   -- 6
        replace hb := Reg.below_undrew hb
        obtain ⟨v35, e35, t35⟩ := hk.2 5 (by kernel_rfl)
        replace e35 : ac.tmps[35]? = some v35 := e35
        replace e35 : ac.tmps[35]? = some (.int .i64 n) := e35.trans (congrArg some t35)
        obtain ⟨v31, e31, t31⟩ := hk.2 1 (by kernel_rfl)
        replace e31 : ac.tmps[31]? = some v31 := e31
        replace e31 : ac.tmps[31]? = some (.bool true) := e31.trans (congrArg some t31)
        refine Reg.step_call ((Reg.wanted_is rfl rfl e31).trans rfl) (by go_simp; try rfl) ((tributaryref1_Int.calls 11 n _ _ (ref1_Int_f n HN.out 11 (by decide))).mono ?_)
        rintro e w4 ⟨v0, rfl, ho, hb4⟩
        exact ⟨_, rfl, Kd.R_lower ho hb.size, hb4⟩
      · intro ac w' hb hd hk   -- 7
        replace hb := Reg.below_undrew hb
        obtain ⟨v36, e36, t36⟩ := hk.2 6 (by kernel_rfl)
        replace e36 : ac.tmps[36]? = some v36 := e36
        replace t36 : (fun v w => Kd.R (Kd.int .u8) 5 w w3.heap.size (fun _ => True) v (encI n)) v36 w' := t36
        obtain ⟨v31, e31, t31⟩ := hk.2 1 (by kernel_rfl)
        replace e31 : ac.tmps[31]? = some v31 := e31
        replace e31 : ac.tmps[31]? = some (.bool true) := e31.trans (congrArg some t31)
        have hcv := own_string (P := Tryd.prog) Tryd.underlying22 Tryd.underlying5 Tryd.underlying9 (Kd.own_of_R t36)
        exact Reg.step_value ((Reg.wanted_is rfl rfl e31).trans rfl) (w1 := w') (by go_simp; try rfl) (Below.refl _ _) rfl
      · intro ac w' hb hd hk   -- 8
        replace hb := Reg.below_undrew hb
        obtain ⟨v34, e34, t34⟩ := hk.2 4 (by kernel_rfl)
        replace e34 : ac.tmps[34]? = some v34 := e34
        replace e34 : ac.tmps[34]? = some (.string (strOfNums (encI n))) := e34.trans (congrArg some t34)
        obtain ⟨v37, e37, t37⟩ := hk.2 7 (by kernel_rfl)
        replace e37 : ac.tmps[37]? = some v37 := e37
        replace e37 : ac.tmps[37]? = some (.string (strOfNums (encI n))) := e37.trans (congrArg some t37)
        obtain ⟨v31, e31, t31⟩ := hk.2 1 (by kernel_rfl)
        replace e31 : ac.tmps[31]? = some v31 := e31
        replace e31 : ac.tmps[31]? = some (.bool true) := e31.trans (congrArg some t31)
        exact Reg.step_value ((Reg.wanted_is rfl rfl e31).trans rfl) (w1 := w') (by go_simp; try rfl) (Below.refl _ _) rfl
      · intro ac w' hb hd hk   -- 9
        replace hb := Reg.below_undrew hb
        obtain ⟨v31, e31, t31⟩ := hk.2 1 (by kernel_rfl)
        replace e31 : ac.tmps[31]? = some v31 := e31
        replace e31 : ac.tmps[31]? = some (.bool true) := e31.trans (congrArg some t31)
        obtain ⟨v38, e38, t38⟩ := hk.2 8 (by kernel_rfl)
        replace e38 : ac.tmps[38]? = some v38 := e38
        replace e38 : ac.tmps[38]? = some (.bool true) := e38.trans (congrArg some t38)
        exact Reg.step_value (Reg.wanted_free rfl) (w1 := w') (by go_simp; try rfl) (Below.refl _ _) rfl
      · intro ac w' hb hd hk   -- 10
        replace hb := Reg.below_undrew hb
        obtain ⟨v39, e39, t39⟩ := hk.2 9 (by kernel_rfl)
        replace e39 : ac.tmps[39]? = some v39 := e39
        replace e39 : ac.tmps[39]? = some (.bool true) := e39.trans (congrArg some t39)
        exact Reg.step_value (Reg.wanted_free rfl) (w1 := w') (by go_simp; try rfl) (Below.refl _ _) rfl
      · intro ac w' hb hd hk   -- 11
        replace hb := Reg.below_undrew hb
        have e8 : ac.tmps[8]? = some (.int .i64 R.1) := (hk.1 8 (by kernel_rfl)).trans rfl
        obtain ⟨v40, e40, t40⟩ := hk.2 10 (by kernel_rfl)
        replace e40 : ac.tmps[40]? = some v40 := e40
        replace e40 : ac.tmps[40]? = some (.bool true) := e40.trans (congrArg some t40)
        exact Reg.step_value ((Reg.wanted_is rfl rfl e40).trans rfl) (w1 := w') (by go_simp; try rfl) (Below.refl _ _) rfl
      · intro ac w' hb hd hk   -- 12
        replace hb := Reg.below_undrew hb
        have e11 : ac.tmps[11]? = some (.int .i64 R.1) := (hk.1 11 (by kernel_rfl)).trans rfl
        obtain ⟨v40, e40, t40⟩ := hk.2 10 (by kernel_rfl)
        replace e40 : ac.tmps[40]? = some v40 := e40
        replace e40 : ac.tmps[40]? = some (.bool true) := e40.trans (congrArg some t40)
        exact Reg.step_value ((Reg.wanted_is rfl rfl e40).trans rfl) (w1 := w') (by go_simp; try rfl) (Below.refl _ _) rfl
      · intro ac w' hb hd hk   -- 13
        replace hb := Reg.below_undrew hb
        obtain ⟨v41, e41, t41⟩ := hk.2 11 (by kernel_rfl)
        replace e41 : ac.tmps[41]? = some v41 := e41
        replace e41 : ac.tmps[41]? = some (.int .i64 R.1) := e41.trans (congrArg some t41)
        obtain ⟨v42, e42, t42⟩ := hk.2 12 (by kernel_rfl)
        replace e42 : ac.tmps[42]? = some v42 := e42
        replace e42 : ac.tmps[42]? = some (.int .i64 R.1) := e42.trans (congrArg some t42)
        obtain ⟨v40, e40, t40⟩ := hk.2 10 (by kernel_rfl)
        replace e40 : ac.tmps[40]? = some v40 := e40
        replace e40 : ac.tmps[40]? = some (.bool true) := e40.trans (congrArg some t40)
        exact Reg.step_value ((Reg.wanted_is rfl rfl e40).trans rfl) (w1 := w') (by go_simp; try rfl) (Below.refl _ _) rfl
      · intro ac w' hb hd hk   -- 14
        replace hb := Reg.below_undrew hb
        obtain ⟨v40, e40, t40⟩ := hk.2 10 (by kernel_rfl)
        replace e40 : ac.tmps[40]? = some v40 := e40
        replace e40 : ac.tmps[40]? = some (.bool true) := e40.trans (congrArg some t40)
        obtain ⟨v43, e43, t43⟩ := hk.2 13 (by kernel_rfl)
        replace e43 : ac.tmps[43]? = some v43 := e43
        replace e43 : ac.tmps[43]? = some (.bool true) := e43.trans (congrArg some t43)
        exact Reg.step_value (Reg.wanted_free rfl) (w1 := w') (by go_simp; try rfl) (Below.refl _ _) rfl
      · intro ac w' hb hd hk   -- 15
        replace hb := Reg.below_undrew hb
        obtain ⟨v44, e44, t44⟩ := hk.2 14 (by kernel_rfl)
        replace e44 : ac.tmps[44]? = some v44 := e44
        replace e44 : ac.tmps[44]? = some (.bool true) := e44.trans (congrArg some t44)
        exact Reg.step_value (Reg.wanted_free rfl) (w1 := w') (by go_simp; try rfl) (Below.refl _ _) rfl
      · intro ac w' hb hd hk   -- 16
        replace hb := Reg.below_undrew hb
        have e9 : ac.tmps[9]? = some (.int .i64 R.2.1) := (hk.1 9 (by kernel_rfl)).trans rfl
        obtain ⟨v45, e45, t45⟩ := hk.2 15 (by kernel_rfl)
        replace e45 : ac.tmps[45]? = some v45 := e45
        replace e45 : ac.tmps[45]? = some (.bool true) := e45.trans (congrArg some t45)
        exact Reg.step_value ((Reg.wanted_is rfl rfl e45).trans rfl) (w1 := w') (by go_simp; try rfl) (Below.refl _ _) rfl
      · intro ac w' hb hd hk   -- 17
        replace hb := Reg.below_undrew hb
        have e12 : ac.tmps[12]? = some (.int .i64 R.2.1) := (hk.1 12 (by kernel_rfl)).trans rfl
        obtain ⟨v45, e45, t45⟩ := hk.2 15 (by kernel_rfl)
        replace e45 : ac.tmps[45]? = some v45 := e45
        replace e45 : ac.tmps[45]? = some (.bool true) := e45.trans (congrArg some t45)
        exact Reg.step_value ((Reg.wanted_is rfl rfl e45).trans rfl) (w1 := w') (by go_simp; try rfl) (Below.refl _ _) rfl
      · intro ac w' hb hd hk   -- 18
        replace hb := Reg.below_undrew hb
        obtain ⟨v46, e46, t46⟩ := hk.2 16 (by kernel_rfl)
        replace e46 : ac.tmps[46]? = some v46 := e46
        replace e46 : ac.tmps[46]? = some (.int .i64 R.2.1) := e46.trans (congrArg some t46)
        obtain ⟨v47, e47, t47⟩ := hk.2 17 (by kernel_rfl)
        replace e47 : ac.tmps[47]? = some v47 := e47
        replace e47 : ac.tmps[47]? = some (.int .i64 R.2.1) := e47.trans (congrArg some t47)
        obtain ⟨v45, e45, t45⟩ := hk.2 15 (by kernel_rfl)
        replace e45 : ac.tmps[45]? = some v45 := e45
        replace e45 : ac.tmps[45]? = some (.bool true) := e45.trans (congrArg some t45)
        exact Reg.step_value ((Reg.wanted_is rfl rfl e45).trans rfl) (w1 := w') (by go_simp; try rfl) (Below.refl _ _) rfl
      · intro ac w' hb hd hk   -- 19
        replace hb := Reg.below_undrew hb
        obtain ⟨v45, e45, t45⟩ := hk.2 15 (by kernel_rfl)
        replace e45 : ac.tmps[45]? = some v45 := e45
        replace e45 : ac.tmps[45]? = some (.bool true) := e45.trans (congrArg some t45)
        obtain ⟨v48, e48, t48⟩ := hk.2 18 (by kernel_rfl)
        replace e48 : ac.tmps[48]? = some v48 := e48
        replace e48 : ac.tmps[48]? = some (.bool true) := e48.trans (congrArg some t48)
        exact Reg.step_value (Reg.wanted_free rfl) (w1 := w') (by go_simp; try rfl) (Below.refl _ _) rfl
      · intro ac w' hb hd hk   -- 20
        replace hb := Reg.below_undrew hb
        obtain ⟨v49, e49, t49⟩ := hk.2 19 (by kernel_rfl)
        replace e49 : ac.tmps[49]? = some v49 := e49
        replace e49 : ac.tmps[49]? = some (.bool true) := e49.trans (congrArg some t49)
        exact Reg.step_value (Reg.wanted_free rfl) (w1 := w') (by go_simp; try rfl) (Below.refl _ _) rfl
      · intro ac w' hb hd hk   -- 21
        replace hb := Reg.below_undrew hb
        have e10 : ac.tmps[10]? = some v := (hk.1 10 (by kernel_rfl)).trans rfl
        obtain ⟨v50, e50, t50⟩ := hk.2 20 (by kernel_rfl)
        replace e50 : ac.tmps[50]? = some v50 := e50
        replace e50 : ac.tmps[50]? = some (.bool true) := e50.trans (congrArg some t50)
        exact Reg.step_value ((Reg.wanted_is rfl rfl e50).trans rfl) (w1 := w') (by go_simp; try rfl) (Below.refl _ _) rfl
      · intro ac w' hb hd hk   -- 22
        replace hb := Reg.below_undrew hb
        obtain ⟨v51, e51, t51⟩ := hk.2 21 (by kernel_rfl)
        replace e51 : ac.tmps[51]? = some v51 := e51
        replace e51 : ac.tmps[51]? = some v := e51.trans (congrArg some t51)
        obtain ⟨v50, e50, t50⟩ := hk.2 20 (by kernel_rfl)
        replace e50 : ac.tmps[50]? = some v50 := e50
        replace e50 : ac.tmps[50]? = some (.bool true) := e50.trans (congrArg some t50)
        refine Reg.step_call ((Reg.wanted_is rfl rfl e50).trans rfl) (by go_simp; try rfl) ((code_law (werr a R.2.2) v _ (HE3.out.below hb (Nat.le_refl _)) (HL3.out.below hb (Nat.le_refl _))).mono ?_)
        rintro e w4 ⟨rfl, hb4⟩
        exact ⟨_, rfl, by rw [code_werr]; rfl, hb4⟩
      · intro ac w' hb hd hk   -- 23
        replace hb := Reg.below_undrew hb
        have e13 : ac.tmps[13]? = some (.int .i64 R.2.2) := (hk.1 13 (by kernel_rfl)).trans rfl
        obtain ⟨v50, e50, t50⟩ := hk.2 20 (by kernel_rfl)
        replace e50 : ac.tmps[50]? = some v50 := e50
        replace e50 : ac.tmps[50]? = some (.bool true) := e50.trans (congrArg some t50)
        exact Reg.step_value ((Reg.wanted_is rfl rfl e50).trans rfl) (w1 := w') (by go_simp; try rfl) (Below.refl _ _) rfl
      · intro ac w' hb hd hk   -- 24
        replace hb := Reg.below_undrew hb
        obtain ⟨v52, e52, t52⟩ := hk.2 22 (by kernel_rfl)
        replace e52 : ac.tmps[52]? = some v52 := e52
        replace e52 : ac.tmps[52]? = some (.int .i64 R.2.2) := e52.trans (congrArg some t52)
        obtain ⟨v53, e53, t53⟩ := hk.2 23 (by kernel_rfl)
        replace e53 : ac.tmps[53]? = some v53 := e53
        replace e53 : ac.tmps[53]? = some (.int .i64 R.2.2) := e53.trans (congrArg some t53)
        obtain ⟨v50, e50, t50⟩ := hk.2 20 (by kernel_rfl)
        replace e50 : ac.tmps[50]? = some v50 := e50
        replace e50 : ac.tmps[50]? = some (.bool true) := e50.trans (congrArg some t50)
        exact Reg.step_value ((Reg.wanted_is rfl rfl e50).trans rfl) (w1 := w') (by go_simp; try rfl) (Below.refl _ _) rfl
      · intro ac w' hb hd hk   -- 25
        replace hb := Reg.below_undrew hb
        obtain ⟨v50, e50, t50⟩ := hk.2 20 (by kernel_rfl)
        replace e50 : ac.tmps[50]? = some v50 := e50
        replace e50 : ac.tmps[50]? = some (.bool true) := e50.trans (congrArg some t50)
        obtain ⟨v54, e54, t54⟩ := hk.2 24 (by kernel_rfl)
        replace e54 : ac.tmps[54]? = some v54 := e54
        replace e54 : ac.tmps[54]? = some (.bool true) := e54.trans (congrArg some t54)
        exact Reg.step_value (Reg.wanted_free rfl) (w1 := w') (by go_simp; try rfl) (Below.refl _ _) rfl
      · intro ac w' hb hd hk   -- 26
        replace hb := Reg.below_undrew hb
        obtain ⟨v55, e55, t55⟩ := hk.2 25 (by kernel_rfl)
        replace e55 : ac.tmps[55]? = some v55 := e55
        replace e55 : ac.tmps[55]? = some (.bool true) := e55.trans (congrArg some t55)
        exact Reg.step_value (Reg.wanted_free rfl) (w1 := w') (by go_simp; try rfl) (Below.refl _ _) rfl
      · intro ac w' hb hd hk   -- 27
        replace hb := Reg.below_undrew hb
        have e13 : ac.tmps[13]? = some (.int .i64 R.2.2) := (hk.1 13 (by kernel_rfl)).trans rfl
        obtain ⟨v56, e56, t56⟩ := hk.2 26 (by kernel_rfl)
        replace e56 : ac.tmps[56]? = some v56 := e56
        replace e56 : ac.tmps[56]? = some (.bool true) := e56.trans (congrArg some t56)
        exact Reg.step_value ((Reg.wanted_is rfl rfl e56).trans rfl) (w1 := w') (by go_simp; try rfl) (Below.refl _ _) rfl
      · intro ac w' hb hd hk   -- 28
        replace hb := Reg.below_undrew hb
        obtain ⟨v57, e57, t57⟩ := hk.2 27 (by kernel_rfl)
        replace e57 : ac.tmps[57]? = some v57 := e57
        replace e57 : ac.tmps[57]? = some (.int .i64 R.2.2) := e57.trans (congrArg some t57)
        obtain ⟨v56, e56, t56⟩ := hk.2 26 (by kernel_rfl)
        replace e56 : ac.tmps[56]? = some v56 := e56
        replace e56 : ac.tmps[56]? = some (.bool true) := e56.trans (congrArg some t56)
        have hzb : ((R.2.2 : Int) == 0) = true := beq_iff_eq.2 hz
        exact Reg.step_value ((Reg.wanted_is rfl rfl e56).trans rfl) (w1 := w') (by go_simp; try rfl) (Below.refl _ _) rfl
      · intro ac w' hb hd hk   -- 29
        replace hb := Reg.below_undrew hb
        obtain ⟨v58, e58, t58⟩ := hk.2 28 (by kernel_rfl)
        replace e58 : ac.tmps[58]? = some v58 := e58
        replace e58 : ac.tmps[58]? = some (.bool true) := e58.trans (congrArg some t58)
        obtain ⟨v56, e56, t56⟩ := hk.2 26 (by kernel_rfl)
        replace e56 : ac.tmps[56]? = some v56 := e56
        replace e56 : ac.tmps[56]? = some (.bool true) := e56.trans (congrArg some t56)
        exact Reg.step_value ((Reg.wanted_is rfl rfl e56).trans rfl) (w1 := w') (by go_simp; try rfl) (Below.refl _ _) rfl
      · intro ac w' hb hd hk   -- 30
        replace hb := Reg.below_undrew hb
        obtain ⟨v59, e59, t59⟩ := hk.2 29 (by kernel_rfl)
        replace e59 : ac.tmps[59]? = some v59 := e59
        replace e59 : ac.tmps[59]? = some (.bool true) := e59.trans (congrArg some t59)
        exact Reg.step_off ((Reg.wanted_is rfl rfl e59).trans rfl) rfl
      · intro ac w' hb hd hk   -- 31
        replace hb := Reg.below_undrew hb
        obtain ⟨v59, e59, t59⟩ := hk.2 29 (by kernel_rfl)
        replace e59 : ac.tmps[59]? = some v59 := e59
        replace e59 : ac.tmps[59]? = some (.bool true) := e59.trans (congrArg some t59)
        exact Reg.step_off ((Reg.wanted_is rfl rfl e59).trans rfl) rfl
      · intro ac w' hb hd hk   -- 32
        replace hb := Reg.below_undrew hb
        obtain ⟨v59, e59, t59⟩ := hk.2 29 (by kernel_rfl)
        replace e59 : ac.tmps[59]? = some v59 := e59
        replace e59 : ac.tmps[59]? = some (.bool true) := e59.trans (congrArg some t59)
        exact Reg.step_off ((Reg.wanted_is rfl rfl e59).trans rfl) rfl
      · intro ac w' hb hd hk   -- 33
        replace hb := Reg.below_undrew hb
        obtain ⟨v59, e59, t59⟩ := hk.2 29 (by kernel_rfl)
        replace e59 : ac.tmps[59]? = some v59 := e59
        replace e59 : ac.tmps[59]? = some (.bool true) := e59.trans (congrArg some t59)
        exact Reg.step_off ((Reg.wanted_is rfl rfl e59).trans rfl) rfl
      · intro ac w' hb hd hk   -- 34
        replace hb := Reg.below_undrew hb
        obtain ⟨v59, e59, t59⟩ := hk.2 29 (by kernel_rfl)
        replace e59 : ac.tmps[59]? = some v59 := e59
        replace e59 : ac.tmps[59]? = some (.bool true) := e59.trans (congrArg some t59)
        obtain ⟨v63, e63, t63⟩ := hk.2 33 (by kernel_rfl)
        replace e63 : ac.tmps[63]? = some v63 := e63
        replace e63 : ac.tmps[63]? = some undef := e63.trans (congrArg some t63)
        obtain ⟨v56, e56, t56⟩ := hk.2 26 (by kernel_rfl)
        replace e56 : ac.tmps[56]? = some v56 := e56
        replace e56 : ac.tmps[56]? = some (.bool true) := e56.trans (congrArg some t56)
        exact Reg.step_value ((Reg.wanted_is rfl rfl e56).trans rfl) (w1 := w') (by go_simp; try rfl) (Below.refl _ _) rfl
      · intro ac w' hb hd hk   -- 35
        replace hb := Reg.below_undrew hb
        obtain ⟨v56, e56, t56⟩ := hk.2 26 (by kernel_rfl)
        replace e56 : ac.tmps[56]? = some v56 := e56
        replace e56 : ac.tmps[56]? = some (.bool true) := e56.trans (congrArg some t56)
        obtain ⟨v64, e64, t64⟩ := hk.2 34 (by kernel_rfl)
        replace e64 : ac.tmps[64]? = some v64 := e64
        replace e64 : ac.tmps[64]? = some (.bool true) := e64.trans (congrArg some t64)
        exact Reg.step_value (Reg.wanted_free rfl) (w1 := w') (by go_simp; try rfl) (Below.refl _ _) rfl
      · intro ac w' hb hd hk   -- 36
        replace hb := Reg.below_undrew hb
        obtain ⟨v65, e65, t65⟩ := hk.2 35 (by kernel_rfl)
        replace e65 : ac.tmps[65]? = some v65 := e65
        replace e65 : ac.tmps[65]? = some (.bool true) := e65.trans (congrArg some t65)
        exact Reg.step_value (Reg.wanted_free rfl) (w1 := w') (by go_simp; try rfl) (Below.refl _ _) rfl
      · intro ac w' hb hd hk   -- 37
        replace hb := Reg.below_undrew hb
        have e7 : ac.tmps[7]? = some (.slice (some ad) l0.length c) := (hk.1 7 (by kernel_rfl)).trans rfl
        obtain ⟨v66, e66, t66⟩ := hk.2 36 (by kernel_rfl)
        replace e66 : ac.tmps[66]? = some v66 := e66
        replace e66 : ac.tmps[66]? = some (.bool true) := e66.trans (congrArg some t66)
        exact Reg.step_value ((Reg.wanted_is rfl rfl e66).trans rfl) (w1 := w') (by go_simp; try rfl) (Below.refl _ _) rfl
      · intro ac w' hb hd hk   -- 38
        replace hb := Reg.below_undrew hb
        have e1 : ac.tmps[1]? = some (.slice A0 l0.length c0) := (hk.1 1 (by kernel_rfl)).trans rfl
        obtain ⟨v66, e66, t66⟩ := hk.2 36 (by kernel_rfl)
        replace e66 : ac.tmps[66]? = some v66 := e66
        replace e66 : ac.tmps[66]? = some (.bool true) := e66.trans (congrArg some t66)
        exact Reg.step_value ((Reg.wanted_is rfl rfl e66).trans rfl) (w1 := w') (by go_simp; try rfl) (Below.refl _ _) rfl
      · intro ac w' hb hd hk   -- 39
        replace hb := Reg.below_undrew hb
        obtain ⟨v68, e68, t68⟩ := hk.2 38 (by kernel_rfl)
        replace e68 : ac.tmps[68]? = some v68 := e68
        replace e68 : ac.tmps[68]? = some (.slice A0 l0.length c0) := e68.trans (congrArg some t68)
        obtain ⟨v66, e66, t66⟩ := hk.2 36 (by kernel_rfl)
        replace e66 : ac.tmps[66]? = some v66 := e66
        replace e66 : ac.tmps[66]? = some (.bool true) := e66.trans (congrArg some t66)
        exact Reg.step_value ((Reg.wanted_is rfl rfl e66).trans rfl) (w1 := w') (by go_simp; try rfl) (Below.refl _ _) rfl
      · intro ac w' hb hd hk   -- 40
        replace hb := Reg.below_undrew hb
        obtain ⟨v69, e69, t69⟩ := hk.2 39 (by kernel_rfl)
        replace e69 : ac.tmps[69]? = some v69 := e69
        replace e69 : ac.tmps[69]? = some (.int .i64 (l0.length : Int)) := e69.trans (congrArg some t69)
        obtain ⟨v66, e66, t66⟩ := hk.2 36 (by kernel_rfl)
        replace e66 : ac.tmps[66]? = some v66 := e66
        replace e66 : ac.tmps[66]? = some (.bool true) := e66.trans (congrArg some t66)
        have hw : IntKind.i64.wrap ((l0.length : Int) + 2) = (l0.length : Int) + 2 := IntWalk.i64_in _ (by omega)
        exact Reg.step_value ((Reg.wanted_is rfl rfl e66).trans rfl) (w1 := w') (by go_simp; try rfl) (Below.refl _ _) rfl
      · intro ac w' hb hd hk   -- 41
        replace hb := Reg.below_undrew hb
        obtain ⟨v67, e67, t67⟩ := hk.2 37 (by kernel_rfl)
        replace e67 : ac.tmps[67]? = some v67 := e67
        replace e67 : ac.tmps[67]? = some (.slice (some ad) l0.length c) := e67.trans (congrArg some t67)
        obtain ⟨v70, e70, t70⟩ := hk.2 40 (by kernel_rfl)
        replace e70 : ac.tmps[70]? = some v70 := e70
        replace e70 : ac.tmps[70]? = some (.int .i64 ((l0.length : Int) + 2)) := e70.trans (congrArg some t70)
        obtain ⟨v66, e66, t66⟩ := hk.2 36 (by kernel_rfl)
        replace e66 : ac.tmps[66]? = some v66 := e66
        replace e66 : ac.tmps[66]? = some (.bool true) := e66.trans (congrArg some t66)
        have hcut := Reg.cut_cap (P := Tryd.prog) 22 5 .i64 Tryd.underlying22 (info_parts info5).choose_spec.1 (some ad) l0.length c ((l0.length : Int) + 2) (by omega) (by omega)
        rw [show ((l0.length : Int) + 2).toNat = l0.length + 2 by omega] at hcut
        exact Reg.step_value ((Reg.wanted_is rfl rfl e66).trans rfl) (w1 := w') (by go_simp; try rfl) (Below.refl _ _) rfl
      · intro ac w' hb hd hk   -- 42
        replace hb := Reg.below_undrew hb
        obtain ⟨v71, e71, t71⟩ := hk.2 41 (by kernel_rfl)
        replace e71 : ac.tmps[71]? = some v71 := e71
        replace e71 : ac.tmps[71]? = some (.slice (some ad) (l0.length + 2) c) := e71.trans (congrArg some t71)
        obtain ⟨v66, e66, t66⟩ := hk.2 36 (by kernel_rfl)
        replace e66 : ac.tmps[66]? = some v66 := e66
        replace e66 : ac.tmps[66]? = some (.bool true) := e66.trans (congrArg some t66)
        have hcv := Kd.C_string (P := Tryd.prog) (A := some ad) (c := c) Tryd.underlying22 Tryd.underlying5 Tryd.underlying9 (Kd.C_below HC3.out hb)
        rw [show (l0 ++ [77, 78] : List Int).length = l0.length + 2 by simp] at hcv
        exact Reg.step_value ((Reg.wanted_is rfl rfl e66).trans rfl) (w1 := w') (by go_simp; try rfl) (Below.refl _ _) rfl
      · intro ac w' hb hd hk   -- 43
        replace hb := Reg.below_undrew hb
        have e1 : ac.tmps[1]? = some (.slice A0 l0.length c0) := (hk.1 1 (by kernel_rfl)).trans rfl
        obtain ⟨v66, e66, t66⟩ := hk.2 36 (by kernel_rfl)
        replace e66 : ac.tmps[66]? = some v66 := e66
        replace e66 : ac.tmps[66]? = some (.bool true) := e66.trans (congrArg some t66)
        exact Reg.step_value ((Reg.wanted_is rfl rfl e66).trans rfl) (w1 := w') (by go_simp; try rfl) (Below.refl _ _) rfl
      · intro ac w' hb hd hk   -- 44
        replace hb := Reg.below_undrew hb
        obtain ⟨v73, e73, t73⟩ := hk.2 43 (by kernel_rfl)
        replace e73 : ac.tmps[73]? = some v73 := e73
        replace e73 : ac.tmps[73]? = some (.slice A0 l0.length c0) := e73.trans (congrArg some t73)
        obtain ⟨v66, e66, t66⟩ := hk.2 36 (by kernel_rfl)
        replace e66 : ac.tmps[66]? = some v66 := e66
        replace e66 : ac.tmps[66]? = some (.bool true) := e66.trans (congrArg some t66)
        have hcv := Kd.C_string (P := Tryd.prog) (A := A0) (c := c0) Tryd.underlying22 Tryd.underlying5 Tryd.underlying9 (Kd.C_below HR0.out (HB3.out.trans (hb.mono HB3.out.size)))
        exact Reg.step_value ((Reg.wanted_is rfl rfl e66).trans rfl) (w1 := w') (by go_simp; try rfl) (Below.refl _ _) rfl
      · intro ac w' hb hd hk   -- 45
        replace hb := Reg.below_undrew hb
        obtain ⟨v74, e74, t74⟩ := hk.2 44 (by kernel_rfl)
        replace e74 : ac.tmps[74]? = some v74 := e74
        replace e74 : ac.tmps[74]? = some (.string (strOfNums l0)) := e74.trans (congrArg some t74)
        obtain ⟨v66, e66, t66⟩ := hk.2 36 (by kernel_rfl)
        replace e66 : ac.tmps[66]? = some v66 := e66
        replace e66 : ac.tmps[66]? = some (.bool true) := e66.trans (congrArg some t66)
        have hsz : (strOfNums l0).size ≤ 9223372036854775805 := by rw [strOfNums_size]; omega
        rw [str_mn]
        exact Reg.step_value ((Reg.wanted_is rfl rfl e66).trans rfl) (w1 := w') (by go_simp; try rfl) (Below.refl _ _) rfl
      · intro ac w' hb hd hk   -- 46
        replace hb := Reg.below_undrew hb
        obtain ⟨v72, e72, t72⟩ := hk.2 42 (by kernel_rfl)
        replace e72 : ac.tmps[72]? = some v72 := e72
        replace e72 : ac.tmps[72]? = some (.string (strOfNums (l0 ++ [77, 78]))) := e72.trans (congrArg some t72)
        obtain ⟨v75, e75, t75⟩ := hk.2 45 (by kernel_rfl)
        replace e75 : ac.tmps[75]? = some v75 := e75
        replace e75 : ac.tmps[75]? = some (.string (strOfNums (l0 ++ [77, 78]))) := e75.trans (congrArg some t75)
        obtain ⟨v66, e66, t66⟩ := hk.2 36 (by kernel_rfl)
        replace e66 : ac.tmps[66]? = some v66 := e66
        replace e66 : ac.tmps[66]? = some (.bool true) := e66.trans (congrArg some t66)
        exact Reg.step_value ((Reg.wanted_is rfl rfl e66).trans rfl) (w1 := w') (by go_simp; try rfl) (Below.refl _ _) rfl
      · intro ac w' hb hd hk   -- 47
        replace hb := Reg.below_undrew hb
        obtain ⟨v66, e66, t66⟩ := hk.2 36 (by kernel_rfl)
        replace e66 : ac.tmps[66]? = some v66 := e66
        replace e66 : ac.tmps[66]? = some (.bool true) := e66.trans (congrArg some t66)
        obtain ⟨v76, e76, t76⟩ := hk.2 46 (by kernel_rfl)
        replace e76 : ac.tmps[76]? = some v76 := e76
        replace e76 : ac.tmps[76]? = some (.bool true) := e76.trans (congrArg some t76)
        exact Reg.step_value (Reg.wanted_free rfl) (w1 := w') (by go_simp; try rfl) (Below.refl _ _) rfl
      · intro ac w' hb hd hk   -- 48
        replace hb := Reg.below_undrew hb
        obtain ⟨v77, e77, t77⟩ := hk.2 47 (by kernel_rfl)
        replace e77 : ac.tmps[77]? = some v77 := e77
        replace e77 : ac.tmps[77]? = some (.bool true) := e77.trans (congrArg some t77)
        exact Reg.step_value (Reg.wanted_free rfl) (w1 := w') (by go_simp; try rfl) (Below.refl _ _) rfl
    case fin =>
      intro w' hb
      replace hb := Reg.below_undrew hb
      rintro _ rfl
      rintro _ rfl
      rintro _ rfl
      intro v3 h3
      rintro _ rfl
      rintro _ rfl
      intro v6 h6
      rintro _ rfl
      rintro _ rfl
      rintro _ rfl
      rintro _ rfl
      rintro _ rfl
      rintro _ rfl
      rintro _ rfl
      rintro _ rfl
      rintro _ rfl
      rintro _ rfl
      rintro _ rfl
      rintro _ rfl
      rintro _ rfl
      rintro _ rfl
      rintro _ rfl
      rintro _ rfl
      rintro _ rfl
      rintro _ rfl
      rintro _ rfl
      rintro _ rfl
      rintro _ rfl
      rintro _ rfl
      rintro _ rfl
      rintro _ rfl
      rintro _ rfl
      rintro _ rfl
      rintro _ rfl
      rintro _ rfl
      rintro _ rfl
      rintro _ rfl
      rintro _ rfl
      rintro _ rfl
      rintro _ rfl
      rintro _ rfl
      rintro _ rfl
      rintro _ rfl
      rintro _ rfl
      rintro _ rfl
      rintro _ rfl
      rintro _ rfl
      rintro _ rfl
      rintro _ rfl
      refine Reg.done_nil ?_
      simp only [Act.put, List.setIfInBounds_toArray, List.set_cons_zero, List.set_cons_succ]
      go_wp2
      go_ret
      exact ⟨rfl, HB3.out.trans (hb.mono HB3.out.size)⟩
  · refine Reg.region_inv (Reg.tab [(Reg.Is (.bool true)), (Reg.Is (.bool true)), (Reg.Is (.int .i64 n)), (fun v w => Kd.R (Kd.int .u8) 5 w w3.heap.size (fun _ => True) v (encI n)), (Reg.Is (.string (strOfNums (encI n)))), (Reg.Is (.int .i64 n)), (fun v w => Kd.R (Kd.int .u8) 5 w w3.heap.size (fun _ => True) v (encI n)), (Reg.Is (.string (strOfNums (encI n)))), (Reg.Is (.bool true)), (Reg.Is (.bool true)), (Reg.Is (.bool true)), (Reg.Is (.int .i64 R.1)), (Reg.Is (.int .i64 R.1)), (Reg.Is (.bool true)), (Reg.Is (.bool true)), (Reg.Is (.bool true)), (Reg.Is (.int .i64 R.2.1)), (Reg.Is (.int .i64 R.2.1)), (Reg.Is (.bool true)), (Reg.Is (.bool true)), (Reg.Is (.bool true)), (Reg.Is v), (Reg.Is (.int .i64 R.2.2)), (Reg.Is (.int .i64 R.2.2)), (Reg.Is (.bool true)), (Reg.Is (.bool true)), (Reg.Is (.bool true)), (Reg.Is (.int .i64 R.2.2)), (Reg.Is (.bool false)), (Reg.Is (.bool false)), (Reg.Is v), (Reg.Is (.int .i64 a)), (Reg.Is (.int .i64 a)), (Reg.Is (.bool true)), (Reg.Is (.bool true)), (Reg.Is (.bool true)), (Reg.Is (.bool true)), (Reg.Is (.slice (some ad) l0.length c)), (Reg.Is (.slice A0 l0.length c0)), (Reg.Is (.int .i64 (l0.length : Int))), (Reg.Is (.int .i64 ((l0.length : Int) + 2))), (Reg.Is (.slice (some ad) (l0.length + 2) c)), (Reg.Is (.string (strOfNums (l0 ++ [77, 78])))), (Reg.Is (.slice A0 l0.length c0)), (Reg.Is (.string (strOfNums l0))), (Reg.Is (.string (strOfNums (l0 ++ [77, 78])))), (Reg.Is (.bool true)), (Reg.Is (.bool true)), (Reg.Is (.bool true))]) (by kernel_rfl) (by kernel_rfl) (Reg.tab_mono ?mono) ?steps ?fin
    case mono => exact ⟨Reg.Is.mono _, Reg.Is.mono _, Reg.Is.mono _, (fun _ _ _ hb h => Kd.R_below h hb), Reg.Is.mono _, Reg.Is.mono _, (fun _ _ _ hb h => Kd.R_below h hb), Reg.Is.mono _, Reg.Is.mono _, Reg.Is.mono _, Reg.Is.mono _, Reg.Is.mono _, Reg.Is.mono _, Reg.Is.mono _, Reg.Is.mono _, Reg.Is.mono _, Reg.Is.mono _, Reg.Is.mono _, Reg.Is.mono _, Reg.Is.mono _, Reg.Is.mono _, Reg.Is.mono _, Reg.Is.mono _, Reg.Is.mono _, Reg.Is.mono _, Reg.Is.mono _, Reg.Is.mono _, Reg.Is.mono _, Reg.Is.mono _, Reg.Is.mono _, Reg.Is.mono _, Reg.Is.mono _, Reg.Is.mono _, Reg.Is.mono _, Reg.Is.mono _, Reg.Is.mono _, Reg.Is.mono _, Reg.Is.mono _, Reg.Is.mono _, Reg.Is.mono _, Reg.Is.mono _, Reg.Is.mono _, Reg.Is.mono _, Reg.Is.mono _, Reg.Is.mono _, Reg.Is.mono _, Reg.Is.mono _, Reg.Is.mono _, Reg.Is.mono _, trivial⟩
    case steps =>
      refine ⟨?_, ?_, ?_, ?_, ?_, ?_, ?_, ?_, ?_, ?_, ?_, ?_, ?_, ?_, ?_, ?_, ?_, ?_, ?_, ?_, ?_, ?_, ?_, ?_, ?_, ?_, ?_, ?_, ?_, ?_, ?_, ?_, ?_, ?_, ?_, ?_, ?_, ?_, ?_, ?_, ?_, ?_, ?_, ?_, ?_, ?_, ?_, ?_, ?_, trivial⟩
      · intro ac w' hb hd hk   -- 0
        replace hb := Reg.below_undrew hb
        refine Reg.step_call (Reg.wanted_free rfl) (by go_simp; try rfl) ((told_law _ (HL3.out.below hb (Nat.le_refl _))).mono ?_)
        rintro e w4 ⟨rfl, hb4⟩
        exact ⟨_, rfl, rfl, hb4⟩
      · intro ac w' hb hd hk   -- 1
        replace hb := Reg.below_undrew hb
        obtain ⟨v30, e30, t30⟩ := hk.2 0 (by kernel_rfl)
        replace e30 : ac.tmps[30]? = some v30 := e30
        replace e30 : ac.tmps[30]? = some (.bool true) := e30.trans (congrArg some t30)
        exact Reg.step_value (Reg.wanted_free rfl) (w1 := w') (by go_simp; try rfl) (Below.refl _ _) rfl
      · intro ac w' hb hd hk   -- 2
        replace hb := Reg.below_undrew hb
        have e0 : ac.tmps[0]? = some (.int .i64 n) := (hk.1 0 (by kernel_rfl)).trans rfl
        obtain ⟨v31, e31, t31⟩ := hk.2 1 (by kernel_rfl)
        replace e31 : ac.tmps[31]? = some v31 := e31
        replace e31 : ac.tmps[31]? = some (.bool true) := e31.trans (congrArg some t31)
        exact Reg.step_value ((Reg.wanted_is rfl rfl e31).trans rfl) (w1 := w') (by go_simp; try rfl) (Below.refl _ _) rfl
      · intro ac w' hb hd hk   -- 3
        replace hb := Reg.below_undrew hb
        obtain ⟨v32, e32, t32⟩ := hk.2 2 (by kernel_rfl)
        replace e32 : ac.tmps[32]? = some v32 := e32
        replace e32 : ac.tmps[32]? = some (.int .i64 n) := e32.trans (congrArg some t32)
        obtain ⟨v31, e31, t31⟩ := hk.2 1 (by kernel_rfl)
        replace e31 : ac.tmps[31]? = some v31 := e31
        replace e31 : ac.tmps[31]? = some (.bool true) := e31.trans (congrArg some t31)
        refine Reg.step_call ((Reg.wanted_is rfl rfl e31).trans rfl) (by go_simp; try rfl) ((wire_Int.calls 10 n _ _ (wire_Int_f n HN.out 10 (by decide))).mono ?_)
        rintro e w4 ⟨v0, rfl, ho, hb4⟩
        exact ⟨_, rfl, Kd.R_lower ho hb.size, hb4⟩
      · intro ac w' hb hd hk   -- 4
        replace hb := Reg.below_undrew hb
        obtain ⟨v33, e33, t33⟩ := hk.2 3 (by kernel_rfl)
        replace e33 : ac.tmps[33]? = some v33 := e33
        replace t33 : (fun v w => Kd.R (Kd.int .u8) 5 w w3.heap.size (fun _ => True) v (encI n)) v33 w' := t33
        obtain ⟨v31, e31, t31⟩ := hk.2 1 (by kernel_rfl)
        replace e31 : ac.tmps[31]? = some v31 := e31
        replace e31 : ac.tmps[31]? = some (.bool true) := e31.trans (congrArg some t31)
        have hcv := own_string (P := Tryd.prog) Tryd.underlying22 Tryd.underlying5 Tryd.underlying9 (Kd.own_of_R t33)
        exact Reg.step_value ((Reg.wanted_is rfl rfl e31).trans rfl) (w1 := w') (by go_simp; try rfl) (Below.refl _ _) rfl
      · intro ac w' hb hd hk   -- 5
        replace hb := Reg.below_undrew hb
        have e0 : ac.tmps[0]? = some (.int .i64 n) := (hk.1 0 (by kernel_rfl)).trans rfl
        obtain ⟨v31, e31, t31⟩ := hk.2 1 (by kernel_rfl)
        replace e31 : ac.tmps[31]? = some v31 := e31
        replace e31 : ac.tmps[31]? = some (.bool true) := e31.trans (congrArg some t31)
        exact Reg.step_value ((Reg.wanted_is rfl rfl e31).trans rfl) (w1 := w') (by go_simp; try rfl) (Below.refl _ _) rfl
      · intro ac w' hb hd hk   -- 6
        replace hb := Reg.below_undrew hb
        obtain ⟨v35, e35, t35⟩ := hk.2 5 (by kernel_rfl)
        replace e35 : ac.tmps[35]? = some v35 := e35
        replace e35 : ac.tmps[35]? = some (.int .i64 n) := e35.trans (congrArg some t35)
        obtain ⟨v31, e31, t31⟩ := hk.2 1 (by kernel_rfl)
        replace e31 : ac.tmps[31]? = some v31 := e31
        replace e31 : ac.tmps[31]? = some (.bool true) := e31.trans (congrArg some t31)
        refine Reg.step_call ((Reg.wanted_is rfl rfl e31).trans rfl) (by go_simp; try rfl) ((tributaryref1_Int.calls 11 n _ _ (ref1_Int_f n HN.out 11 (by decide))).mono ?_)
        rintro e w4 ⟨v0, rfl, ho, hb4⟩
        exact ⟨_, rfl, Kd.R_lower ho hb.size, hb4⟩
      · intro ac w' hb hd hk   -- 7
        replace hb := Reg.below_undrew hb
        obtain ⟨v36, e36, t36⟩ := hk.2 6 (by kernel_rfl)
        replace e36 : ac.tmps[36]? = some v36 := e36
        replace t36 : (fun v w => Kd.R (Kd.int .u8) 5 w w3.heap.size (fun _ => True) v (encI n)) v36 w' := t36
        obtain ⟨v31, e31, t31⟩ := hk.2 1 (by kernel_rfl)
        replace e31 : ac.tmps[31]? = some v31 := e31
        replace e31 : ac.tmps[31]? = some (.bool true) := e31.trans (congrArg some t31)
        have hcv := own_string (P := Tryd.prog) Tryd.underlying22 Tryd.underlying5 Tryd.underlying9 (Kd.own_of_R t36)
        exact Reg.step_value ((Reg.wanted_is rfl rfl e31).trans rfl) (w1 := w') (by go_simp; try rfl) (Below.refl _ _) rfl
      · intro ac w' hb hd hk   -- 8
        replace hb := Reg.below_undrew hb
        obtain ⟨v34, e34, t34⟩ := hk.2 4 (by kernel_rfl)
        replace e34 : ac.tmps[34]? = some v34 := e34
        replace e34 : ac.tmps[34]? = some (.string (strOfNums (encI n))) := e34.trans (congrArg some t34)
        obtain ⟨v37, e37, t37⟩ := hk.2 7 (by kernel_rfl)
        replace e37 : ac.tmps[37]? = some v37 := e37
        replace e37 : ac.tmps[37]? = some (.string (strOfNums (encI n))) := e37.trans (congrArg some t37)
        obtain ⟨v31, e31, t31⟩ := hk.2 1 (by kernel_rfl)
        replace e31 : ac.tmps[31]? = some v31 := e31
        replace e31 : ac.tmps[31]? = some (.bool true) := e31.trans (congrArg some t31)
        exact Reg.step_value ((Reg.wanted_is rfl rfl e31).trans rfl) (w1 := w') (by go_simp; try rfl) (Below.refl _ _) rfl
      · intro ac w' hb hd hk   -- 9
        replace hb := Reg.below_undrew hb
        obtain ⟨v31, e31, t31⟩ := hk.2 1 (by kernel_rfl)
        replace e31 : ac.tmps[31]? = some v31 := e31
        replace e31 : ac.tmps[31]? = some (.bool true) := e31.trans (congrArg some t31)
        obtain ⟨v38, e38, t38⟩ := hk.2 8 (by kernel_rfl)
        replace e38 : ac.tmps[38]? = some v38 := e38
        replace e38 : ac.tmps[38]? = some (.bool true) := e38.trans (congrArg some t38)
        exact Reg.step_value (Reg.wanted_free rfl) (w1 := w') (by go_simp; try rfl) (Below.refl _ _) rfl
      · intro ac w' hb hd hk   -- 10
        replace hb := Reg.below_undrew hb
        obtain ⟨v39, e39, t39⟩ := hk.2 9 (by kernel_rfl)
        replace e39 : ac.tmps[39]? = some v39 := e39
        replace e39 : ac.tmps[39]? = some (.bool true) := e39.trans (congrArg some t39)
        exact Reg.step_value (Reg.wanted_free rfl) (w1 := w') (by go_simp; try rfl) (Below.refl _ _) rfl
      · intro ac w' hb hd hk   -- 11
        replace hb := Reg.below_undrew hb
        have e8 : ac.tmps[8]? = some (.int .i64 R.1) := (hk.1 8 (by kernel_rfl)).trans rfl
        obtain ⟨v40, e40, t40⟩ := hk.2 10 (by kernel_rfl)
        replace e40 : ac.tmps[40]? = some v40 := e40
        replace e40 : ac.tmps[40]? = some (.bool true) := e40.trans (congrArg some t40)
        exact Reg.step_value ((Reg.wanted_is rfl rfl e40).trans rfl) (w1 := w') (by go_simp; try rfl) (Below.refl _ _) rfl
      · intro ac w' hb hd hk   -- 12
        replace hb := Reg.below_undrew hb
        have e11 : ac.tmps[11]? = some (.int .i64 R.1) := (hk.1 11 (by kernel_rfl)).trans rfl
        obtain ⟨v40, e40, t40⟩ := hk.2 10 (by kernel_rfl)
        replace e40 : ac.tmps[40]? = some v40 := e40
        replace e40 : ac.tmps[40]? = some (.bool true) := e40.trans (congrArg some t40)
        exact Reg.step_value ((Reg.wanted_is rfl rfl e40).trans rfl) (w1 := w') (by go_simp; try rfl) (Below.refl _ _) rfl
      · intro ac w' hb hd hk   -- 13
        replace hb := Reg.below_undrew hb
        obtain ⟨v41, e41, t41⟩ := hk.2 11 (by kernel_rfl)
        replace e41 : ac.tmps[41]? = some v41 := e41
        replace e41 : ac.tmps[41]? = some (.int .i64 R.1) := e41.trans (congrArg some t41)
        obtain ⟨v42, e42, t42⟩ := hk.2 12 (by kernel_rfl)
        replace e42 : ac.tmps[42]? = some v42 := e42
        replace e42 : ac.tmps[42]? = some (.int .i64 R.1) := e42.trans (congrArg some t42)
        obtain ⟨v40, e40, t40⟩ := hk.2 10 (by kernel_rfl)
        replace e40 : ac.tmps[40]? = some v40 := e40
        replace e40 : ac.tmps[40]? = some (.bool true) := e40.trans (congrArg some t40)
        exact Reg.step_value ((Reg.wanted_is rfl rfl e40).trans rfl) (w1 := w') (by go_simp; try rfl) (Below.refl _ _) rfl
      · intro ac w' hb hd hk   -- 14
        replace hb := Reg.below_undrew hb
        obtain ⟨v40, e40, t40⟩ := hk.2 10 (by kernel_rfl)
        replace e40 : ac.tmps[40]? = some v40 := e40
        replace e40 : ac.tmps[40]? = some (.bool true) := e40.trans (congrArg some t40)
        obtain ⟨v43, e43, t43⟩ := hk.2 13 (by kernel_rfl)
        replace e43 : ac.tmps[43]? = some v43 := e43
        replace e43 : ac.tmps[43]? = some (.bool true) := e43.trans (congrArg some t43)
        exact Reg.step_value (Reg.wanted_free rfl) (w1 := w') (by go_simp; try rfl) (Below.refl _ _) rfl
      · intro ac w' hb hd hk   -- 15
        replace hb := Reg.below_undrew hb
        obtain ⟨v44, e44, t44⟩ := hk.2 14 (by kernel_rfl)
        replace e44 : ac.tmps[44]? = some v44 := e44
        replace e44 : ac.tmps[44]? = some (.bool true) := e44.trans (congrArg some t44)
        exact Reg.step_value (Reg.wanted_free rfl) (w1 := w') (by go_simp; try rfl) (Below.refl _ _) rfl
      · intro ac w' hb hd hk   -- 16
        replace hb := Reg.below_undrew hb
        have e9 : ac.tmps[9]? = some (.int .i64 R.2.1) := (hk.1 9 (by kernel_rfl)).trans rfl
        obtain ⟨v45, e45, t45⟩ := hk.2 15 (by kernel_rfl)
        replace e45 : ac.tmps[45]? = some v45 := e45
        replace e45 : ac.tmps[45]? = some (.bool true) := e45.trans (congrArg some t45)
        exact Reg.step_value ((Reg.wanted_is rfl rfl e45).trans rfl) (w1 := w') (by go_simp; try rfl) (Below.refl _ _) rfl
      · intro ac w' hb hd hk   -- 17
        replace hb := Reg.below_undrew hb
        have e12 : ac.tmps[12]? = some (.int .i64 R.2.1) := (hk.1 12 (by kernel_rfl)).trans rfl
        obtain ⟨v45, e45, t45⟩ := hk.2 15 (by kernel_rfl)
        replace e45 : ac.tmps[45]? = some v45 := e45
        replace e45 : ac.tmps[45]? = some (.bool true) := e45.trans (congrArg some t45)
        exact Reg.step_value ((Reg.wanted_is rfl rfl e45).trans rfl) (w1 := w') (by go_simp; try rfl) (Below.refl _ _) rfl
      · intro ac w' hb hd hk   -- 18
        replace hb := Reg.below_undrew hb
        obtain ⟨v46, e46, t46⟩ := hk.2 16 (by kernel_rfl)
        replace e46 : ac.tmps[46]? = some v46 := e46
        replace e46 : ac.tmps[46]? = some (.int .i64 R.2.1) := e46.trans (congrArg some t46)
        obtain ⟨v47, e47, t47⟩ := hk.2 17 (by kernel_rfl)
        replace e47 : ac.tmps[47]? = some v47 := e47
        replace e47 : ac.tmps[47]? = some (.int .i64 R.2.1) := e47.trans (congrArg some t47)
        obtain ⟨v45, e45, t45⟩ := hk.2 15 (by kernel_rfl)
        replace e45 : ac.tmps[45]? = some v45 := e45
        replace e45 : ac.tmps[45]? = some (.bool true) := e45.trans (congrArg some t45)
        exact Reg.step_value ((Reg.wanted_is rfl rfl e45).trans rfl) (w1 := w') (by go_simp; try rfl) (Below.refl _ _) rfl
      · intro ac w' hb hd hk   -- 19
        replace hb := Reg.below_undrew hb
        obtain ⟨v45, e45, t45⟩ := hk.2 15 (by kernel_rfl)
        replace e45 : ac.tmps[45]? = some v45 := e45
        replace e45 : ac.tmps[45]? = some (.bool true) := e45.trans (congrArg some t45)
        obtain ⟨v48, e48, t48⟩ := hk.2 18 (by kernel_rfl)
        replace e48 : ac.tmps[48]? = some v48 := e48
        replace e48 : ac.tmps[48]? = some (.bool true) := e48.trans (congrArg some t48)
        exact Reg.step_value (Reg.wanted_free rfl) (w1 := w') (by go_simp; try rfl) (Below.refl _ _) rfl
      · intro ac w' hb hd hk   -- 20
        replace hb := Reg.below_undrew hb
        obtain ⟨v49, e49, t49⟩ := hk.2 19 (by kernel_rfl)
        replace e49 : ac.tmps[49]? = some v49 := e49
        replace e49 : ac.tmps[49]? = some (.bool true) := e49.trans (congrArg some t49)
        exact Reg.step_value (Reg.wanted_free rfl) (w1 := w') (by go_simp; try rfl) (Below.refl _ _) rfl
      · intro ac w' hb hd hk   -- 21
        replace hb := Reg.below_undrew hb
        have e10 : ac.tmps[10]? = some v := (hk.1 10 (by kernel_rfl)).trans rfl
        obtain ⟨v50, e50, t50⟩ := hk.2 20 (by kernel_rfl)
        replace e50 : ac.tmps[50]? = some v50 := e50
        replace e50 : ac.tmps[50]? = some (.bool true) := e50.trans (congrArg some t50)
        exact Reg.step_value ((Reg.wanted_is rfl rfl e50).trans rfl) (w1 := w') (by go_simp; try rfl) (Below.refl _ _) rfl
      · intro ac w' hb hd hk   -- 22
        replace hb := Reg.below_undrew hb
        obtain ⟨v51, e51, t51⟩ := hk.2 21 (by kernel_rfl)
        replace e51 : ac.tmps[51]? = some v51 := e51
        replace e51 : ac.tmps[51]? = some v := e51.trans (congrArg some t51)
        obtain ⟨v50, e50, t50⟩ := hk.2 20 (by kernel_rfl)
        replace e50 : ac.tmps[50]? = some v50 := e50
        replace e50 : ac.tmps[50]? = some (.bool true) := e50.trans (congrArg some t50)
        refine Reg.step_call ((Reg.wanted_is rfl rfl e50).trans rfl) (by go_simp; try rfl) ((code_law (werr a R.2.2) v _ (HE3.out.below hb (Nat.le_refl _)) (HL3.out.below hb (Nat.le_refl _))).mono ?_)
        rintro e w4 ⟨rfl, hb4⟩
        exact ⟨_, rfl, by rw [code_werr]; rfl, hb4⟩
      · intro ac w' hb hd hk   -- 23
        replace hb := Reg.below_undrew hb
        have e13 : ac.tmps[13]? = some (.int .i64 R.2.2) := (hk.1 13 (by kernel_rfl)).trans rfl
        obtain ⟨v50, e50, t50⟩ := hk.2 20 (by kernel_rfl)
        replace e50 : ac.tmps[50]? = some v50 := e50
        replace e50 : ac.tmps[50]? = some (.bool true) := e50.trans (congrArg some t50)
        exact Reg.step_value ((Reg.wanted_is rfl rfl e50).trans rfl) (w1 := w') (by go_simp; try rfl) (Below.refl _ _) rfl
      · intro ac w' hb hd hk   -- 24
        replace hb := Reg.below_undrew hb
        obtain ⟨v52, e52, t52⟩ := hk.2 22 (by kernel_rfl)
        replace e52 : ac.tmps[52]? = some v52 := e52
        replace e52 : ac.tmps[52]? = some (.int .i64 R.2.2) := e52.trans (congrArg some t52)
        obtain ⟨v53, e53, t53⟩ := hk.2 23 (by kernel_rfl)
        replace e53 : ac.tmps[53]? = some v53 := e53
        replace e53 : ac.tmps[53]? = some (.int .i64 R.2.2) := e53.trans (congrArg some t53)
        obtain ⟨v50, e50, t50⟩ := hk.2 20 (by kernel_rfl)
        replace e50 : ac.tmps[50]? = some v50 := e50
        replace e50 : ac.tmps[50]? = some (.bool true) := e50.trans (congrArg some t50)
        exact Reg.step_value ((Reg.wanted_is rfl rfl e50).trans rfl) (w1 := w') (by go_simp; try rfl) (Below.refl _ _) rfl
      · intro ac w' hb hd hk   -- 25
        replace hb := Reg.below_undrew hb
        obtain ⟨v50, e50, t50⟩ := hk.2 20 (by kernel_rfl)
        replace e50 : ac.tmps[50]? = some v50 := e50
        replace e50 : ac.tmps[50]? = some (.bool true) := e50.trans (congrArg some t50)
        obtain ⟨v54, e54, t54⟩ := hk.2 24 (by kernel_rfl)
        replace e54 : ac.tmps[54]? = some v54 := e54
        replace e54 : ac.tmps[54]? = some (.bool true) := e54.trans (congrArg some t54)
        exact Reg.step_value (Reg.wanted_free rfl) (w1 := w') (by go_simp; try rfl) (Below.refl _ _) rfl
      · intro ac w' hb hd hk   -- 26
        replace hb := Reg.below_undrew hb
        obtain ⟨v55, e55, t55⟩ := hk.2 25 (by kernel_rfl)
        replace e55 : ac.tmps[55]? = some v55 := e55
        replace e55 : ac.tmps[55]? = some (.bool true) := e55.trans (congrArg some t55)
        exact Reg.step_value (Reg.wanted_free rfl) (w1 := w') (by go_simp; try rfl) (Below.refl _ _) rfl
      · intro ac w' hb hd hk   -- 27
        replace hb := Reg.below_undrew hb
        have e13 : ac.tmps[13]? = some (.int .i64 R.2.2) := (hk.1 13 (by kernel_rfl)).trans rfl
        obtain ⟨v56, e56, t56⟩ := hk.2 26 (by kernel_rfl)
        replace e56 : ac.tmps[56]? = some v56 := e56
        replace e56 : ac.tmps[56]? = some (.bool true) := e56.trans (congrArg some t56)
        exact Reg.step_value ((Reg.wanted_is rfl rfl e56).trans rfl) (w1 := w') (by go_simp; try rfl) (Below.refl _ _) rfl
      · intro ac w' hb hd hk   -- 28
        replace hb := Reg.below_undrew hb
        obtain ⟨v57, e57, t57⟩ := hk.2 27 (by kernel_rfl)
        replace e57 : ac.tmps[57]? = some v57 := e57
        replace e57 : ac.tmps[57]? = some (.int .i64 R.2.2) := e57.trans (congrArg some t57)
        obtain ⟨v56, e56, t56⟩ := hk.2 26 (by kernel_rfl)
        replace e56 : ac.tmps[56]? = some v56 := e56
        replace e56 : ac.tmps[56]? = some (.bool true) := e56.trans (congrArg some t56)
        have hzb : ((R.2.2 : Int) == 0) = false := beq_eq_false_iff_ne.2 hz
        exact Reg.step_value ((Reg.wanted_is rfl rfl e56).trans rfl) (w1 := w') (by go_simp; try rfl) (Below.refl _ _) rfl
      · intro ac w' hb hd hk   -- 29
        replace hb := Reg.below_undrew hb
        obtain ⟨v58, e58, t58⟩ := hk.2 28 (by kernel_rfl)
        replace e58 : ac.tmps[58]? = some v58 := e58
        replace e58 : ac.tmps[58]? = some (.bool false) := e58.trans (congrArg some t58)
        obtain ⟨v56, e56, t56⟩ := hk.2 26 (by kernel_rfl)
        replace e56 : ac.tmps[56]? = some v56 := e56
        replace e56 : ac.tmps[56]? = some (.bool true) := e56.trans (congrArg some t56)
        exact Reg.step_value ((Reg.wanted_is rfl rfl e56).trans rfl) (w1 := w') (by go_simp; try rfl) (Below.refl _ _) rfl
      · intro ac w' hb hd hk   -- 30
        replace hb := Reg.below_undrew hb
        have e10 : ac.tmps[10]? = some v := (hk.1 10 (by kernel_rfl)).trans rfl
        obtain ⟨v59, e59, t59⟩ := hk.2 29 (by kernel_rfl)
        replace e59 : ac.tmps[59]? = some v59 := e59
        replace e59 : ac.tmps[59]? = some (.bool false) := e59.trans (congrArg some t59)
        exact Reg.step_value ((Reg.wanted_is rfl rfl e59).trans rfl) (w1 := w') (by go_simp; try rfl) (Below.refl _ _) rfl
      · intro ac w' hb hd hk   -- 31
        replace hb := Reg.below_undrew hb
        obtain ⟨v60, e60, t60⟩ := hk.2 30 (by kernel_rfl)
        replace e60 : ac.tmps[60]? = some v60 := e60
        replace e60 : ac.tmps[60]? = some v := e60.trans (congrArg some t60)
        obtain ⟨v59, e59, t59⟩ := hk.2 29 (by kernel_rfl)
        replace e59 : ac.tmps[59]? = some v59 := e59
        replace e59 : ac.tmps[59]? = some (.bool false) := e59.trans (congrArg some t59)
        refine Reg.step_call ((Reg.wanted_is rfl rfl e59).trans rfl) (by go_simp; try rfl) ((at_law (werr a R.2.2) v _ (HE3.out.below hb (Nat.le_refl _))).mono ?_)
        rintro e w4 ⟨rfl, rfl⟩
        exact ⟨_, rfl, by rw [place_werr hz]; rfl, Below.refl _ _⟩
      · intro ac w' hb hd hk   -- 32
        replace hb := Reg.below_undrew hb
        have e2 : ac.tmps[2]? = some (.int .i64 a) := (hk.1 2 (by kernel_rfl)).trans rfl
        obtain ⟨v59, e59, t59⟩ := hk.2 29 (by kernel_rfl)
        replace e59 : ac.tmps[59]? = some v59 := e59
        replace e59 : ac.tmps[59]? = some (.bool false) := e59.trans (congrArg some t59)
        exact Reg.step_value ((Reg.wanted_is rfl rfl e59).trans rfl) (w1 := w') (by go_simp; try rfl) (Below.refl _ _) rfl
      · intro ac w' hb hd hk   -- 33
        replace hb := Reg.below_undrew hb
        obtain ⟨v61, e61, t61⟩ := hk.2 31 (by kernel_rfl)
        replace e61 : ac.tmps[61]? = some v61 := e61
        replace e61 : ac.tmps[61]? = some (.int .i64 a) := e61.trans (congrArg some t61)
        obtain ⟨v62, e62, t62⟩ := hk.2 32 (by kernel_rfl)
        replace e62 : ac.tmps[62]? = some v62 := e62
        replace e62 : ac.tmps[62]? = some (.int .i64 a) := e62.trans (congrArg some t62)
        obtain ⟨v59, e59, t59⟩ := hk.2 29 (by kernel_rfl)
        replace e59 : ac.tmps[59]? = some v59 := e59
        replace e59 : ac.tmps[59]? = some (.bool false) := e59.trans (congrArg some t59)
        exact Reg.step_value ((Reg.wanted_is rfl rfl e59).trans rfl) (w1 := w') (by go_simp; try rfl) (Below.refl _ _) rfl
      · intro ac w' hb hd hk   -- 34
        replace hb := Reg.below_undrew hb
        obtain ⟨v59, e59, t59⟩ := hk.2 29 (by kernel_rfl)
        replace e59 : ac.tmps[59]? = some v59 := e59
        replace e59 : ac.tmps[59]? = some (.bool false) := e59.trans (congrArg some t59)
        obtain ⟨v63, e63, t63⟩ := hk.2 33 (by kernel_rfl)
        replace e63 : ac.tmps[63]? = some v63 := e63
        replace e63 : ac.tmps[63]? = some (.bool true) := e63.trans (congrArg some t63)
        obtain ⟨v56, e56, t56⟩ := hk.2 26 (by kernel_rfl)
        replace e56 : ac.tmps[56]? = some v56 := e56
        replace e56 : ac.tmps[56]? = some (.bool true) := e56.trans (congrArg some t56)
        exact Reg.step_value ((Reg.wanted_is rfl rfl e56).trans rfl) (w1 := w') (by go_simp; try rfl) (Below.refl _ _) rfl
      · intro ac w' hb hd hk   -- 35
        replace hb := Reg.below_undrew hb
        obtain ⟨v56, e56, t56⟩ := hk.2 26 (by kernel_rfl)
        replace e56 : ac.tmps[56]? = some v56 := e56
        replace e56 : ac.tmps[56]? = some (.bool true) := e56.trans (congrArg some t56)
        obtain ⟨v64, e64, t64⟩ := hk.2 34 (by kernel_rfl)
        replace e64 : ac.tmps[64]? = some v64 := e64
        replace e64 : ac.tmps[64]? = some (.bool true) := e64.trans (congrArg some t64)
        exact Reg.step_value (Reg.wanted_free rfl) (w1 := w') (by go_simp; try rfl) (Below.refl _ _) rfl
      · intro ac w' hb hd hk   -- 36
        replace hb := Reg.below_undrew hb
        obtain ⟨v65, e65, t65⟩ := hk.2 35 (by kernel_rfl)
        replace e65 : ac.tmps[65]? = some v65 := e65
        replace e65 : ac.tmps[65]? = some (.bool true) := e65.trans (congrArg some t65)
        exact Reg.step_value (Reg.wanted_free rfl) (w1 := w') (by go_simp; try rfl) (Below.refl _ _) rfl
      · intro ac w' hb hd hk   -- 37
        replace hb := Reg.below_undrew hb
        have e7 : ac.tmps[7]? = some (.slice (some ad) l0.length c) := (hk.1 7 (by kernel_rfl)).trans rfl
        obtain ⟨v66, e66, t66⟩ := hk.2 36 (by kernel_rfl)
        replace e66 : ac.tmps[66]? = some v66 := e66
        replace e66 : ac.tmps[66]? = some (.bool true) := e66.trans (congrArg some t66)
        exact Reg.step_value ((Reg.wanted_is rfl rfl e66).trans rfl) (w1 := w') (by go_simp; try rfl) (Below.refl _ _) rfl
      · intro ac w' hb hd hk   -- 38
        replace hb := Reg.below_undrew hb
        have e1 : ac.tmps[1]? = some (.slice A0 l0.length c0) := (hk.1 1 (by kernel_rfl)).trans rfl
        obtain ⟨v66, e66, t66⟩ := hk.2 36 (by kernel_rfl)
        replace e66 : ac.tmps[66]? = some v66 := e66
        replace e66 : ac.tmps[66]? = some (.bool true) := e66.trans (congrArg some t66)
        exact Reg.step_value ((Reg.wanted_is rfl rfl e66).trans rfl) (w1 := w') (by go_simp; try rfl) (Below.refl _ _) rfl
      · intro ac w' hb hd hk   -- 39
        replace hb := Reg.below_undrew hb
        obtain ⟨v68, e68, t68⟩ := hk.2 38 (by kernel_rfl)
        replace e68 : ac.tmps[68]? = some v68 := e68
        replace e68 : ac.tmps[68]? = some (.slice A0 l0.length c0) := e68.trans (congrArg some t68)
        obtain ⟨v66, e66, t66⟩ := hk.2 36 (by kernel_rfl)
        replace e66 : ac.tmps[66]? = some v66 := e66
        replace e66 : ac.tmps[66]? = some (.bool true) := e66.trans (congrArg some t66)
        exact Reg.step_value ((Reg.wanted_is rfl rfl e66).trans rfl) (w1 := w') (by go_simp; try rfl) (Below.refl _ _) rfl
      · intro ac w' hb hd hk   -- 40
        replace hb := Reg.below_undrew hb
        obtain ⟨v69, e69, t69⟩ := hk.2 39 (by kernel_rfl)
        replace e69 : ac.tmps[69]? = some v69 := e69
        replace e69 : ac.tmps[69]? = some (.int .i64 (l0.length : Int)) := e69.trans (congrArg some t69)
        obtain ⟨v66, e66, t66⟩ := hk.2 36 (by kernel_rfl)
        replace e66 : ac.tmps[66]? = some v66 := e66
        replace e66 : ac.tmps[66]? = some (.bool true) := e66.trans (congrArg some t66)
        have hw : IntKind.i64.wrap ((l0.length : Int) + 2) = (l0.length : Int) + 2 := IntWalk.i64_in _ (by omega)
        exact Reg.step_value ((Reg.wanted_is rfl rfl e66).trans rfl) (w1 := w') (by go_simp; try rfl) (Below.refl _ _) rfl
      · intro ac w' hb hd hk   -- 41
        replace hb := Reg.below_undrew hb
        obtain ⟨v67, e67, t67⟩ := hk.2 37 (by kernel_rfl)
        replace e67 : ac.tmps[67]? = some v67 := e67
        replace e67 : ac.tmps[67]? = some (.slice (some ad) l0.length c) := e67.trans (congrArg some t67)
        obtain ⟨v70, e70, t70⟩ := hk.2 40 (by kernel_rfl)
        replace e70 : ac.tmps[70]? = some v70 := e70
        replace e70 : ac.tmps[70]? = some (.int .i64 ((l0.length : Int) + 2)) := e70.trans (congrArg some t70)
        obtain ⟨v66, e66, t66⟩ := hk.2 36 (by kernel_rfl)
        replace e66 : ac.tmps[66]? = some v66 := e66
        replace e66 : ac.tmps[66]? = some (.bool true) := e66.trans (congrArg some t66)
        have hcut := Reg.cut_cap (P := Tryd.prog) 22 5 .i64 Tryd.underlying22 (info_parts info5).choose_spec.1 (some ad) l0.length c ((l0.length : Int) + 2) (by omega) (by omega)
        rw [show ((l0.length : Int) + 2).toNat = l0.length + 2 by omega] at hcut
        exact Reg.step_value ((Reg.wanted_is rfl rfl e66).trans rfl) (w1 := w') (by go_simp; try rfl) (Below.refl _ _) rfl
      · intro ac w' hb hd hk   -- 42
        replace hb := Reg.below_undrew hb
        obtain ⟨v71, e71, t71⟩ := hk.2 41 (by kernel_rfl)
        replace e71 : ac.tmps[71]? = some v71 := e71
        replace e71 : ac.tmps[71]? = some (.slice (some ad) (l0.length + 2) c) := e71.trans (congrArg some t71)
        obtain ⟨v66, e66, t66⟩ := hk.2 36 (by kernel_rfl)
        replace e66 : ac.tmps[66]? = some v66 := e66
        replace e66 : ac.tmps[66]? = some (.bool true) := e66.trans (congrArg some t66)
        have hcv := Kd.C_string (P := Tryd.prog) (A := some ad) (c := c) Tryd.underlying22 Tryd.underlying5 Tryd.underlying9 (Kd.C_below HC3.out hb)
        rw [show (l0 ++ [77, 78] : List Int).length = l0.length + 2 by simp] at hcv
        exact Reg.step_value ((Reg.wanted_is rfl rfl e66).trans rfl) (w1 := w') (by go_simp; try rfl) (Below.refl _ _) rfl
      · intro ac w' hb hd hk   -- 43
        replace hb := Reg.below_undrew hb
        have e1 : ac.tmps[1]? = some (.slice A0 l0.length c0) := (hk.1 1 (by kernel_rfl)).trans rfl
        obtain ⟨v66, e66, t66⟩ := hk.2 36 (by kernel_rfl)
        replace e66 : ac.tmps[66]? = some v66 := e66
        replace e66 : ac.tmps[66]? = some (.bool true) := e66.trans (congrArg some t66)
        exact Reg.step_value ((Reg.wanted_is rfl rfl e66).trans rfl) (w1 := w') (by go_simp; try rfl) (Below.refl _ _) rfl
      · intro ac w' hb hd hk   -- 44
        replace hb := Reg.below_undrew hb
        obtain ⟨v73, e73, t73⟩ := hk.2 43 (by kernel_rfl)
        replace e73 : ac.tmps[73]? = some v73 := e73
        replace e73 : ac.tmps[73]? = some (.slice A0 l0.length c0) := e73.trans (congrArg some t73)
        obtain ⟨v66, e66, t66⟩ := hk.2 36 (by kernel_rfl)
        replace e66 : ac.tmps[66]? = some v66 := e66
        replace e66 : ac.tmps[66]? = some (.bool true) := e66.trans (congrArg some t66)
        have hcv := Kd.C_string (P := Tryd.prog) (A := A0) (c := c0) Tryd.underlying22 Tryd.underlying5 Tryd.underlying9 (Kd.C_below HR0.out (HB3.out.trans (hb.mono HB3.out.size)))
        exact Reg.step_value ((Reg.wanted_is rfl rfl e66).trans rfl) (w1 := w') (by go_simp; try rfl) (Below.refl _ _) rfl
      · intro ac w' hb hd hk   -- 45
        replace hb := Reg.below_undrew hb
        obtain ⟨v74, e74, t74⟩ := hk.2 44 (by kernel_rfl)
        replace e74 : ac.tmps[74]? = some v74 := e74
        replace e74 : ac.tmps[74]? = some (.string (strOfNums l0)) := e74.trans (congrArg some t74)
        obtain ⟨v66, e66, t66⟩ := hk.2 36 (by kernel_rfl)
        replace e66 : ac.tmps[66]? = some v66 := e66
        replace e66 : ac.tmps[66]? = some (.bool true) := e66.trans (congrArg some t66)
        have hsz : (strOfNums l0).size ≤ 9223372036854775805 := by rw [strOfNums_size]; omega
        rw [str_mn]
        exact Reg.step_value ((Reg.wanted_is rfl rfl e66).trans rfl) (w1 := w') (by go_simp; try rfl) (Below.refl _ _) rfl
      · intro ac w' hb hd hk   -- 46
        replace hb := Reg.below_undrew hb
        obtain ⟨v72, e72, t72⟩ := hk.2 42 (by kernel_rfl)
        replace e72 : ac.tmps[72]? = some v72 := e72
        replace e72 : ac.tmps[72]? = some (.string (strOfNums (l0 ++ [77, 78]))) := e72.trans (congrArg some t72)
        obtain ⟨v75, e75, t75⟩ := hk.2 45 (by kernel_rfl)
        replace e75 : ac.tmps[75]? = some v75 := e75
        replace e75 : ac.tmps[75]? = some (.string (strOfNums (l0 ++ [77, 78]))) := e75.trans (congrArg some t75)
        obtain ⟨v66, e66, t66⟩ := hk.2 36 (by kernel_rfl)
        replace e66 : ac.tmps[66]? = some v66 := e66
        replace e66 : ac.tmps[66]? = some (.bool true) := e66.trans (congrArg some t66)
        exact Reg.step_value ((Reg.wanted_is rfl rfl e66).trans rfl) (w1 := w') (by go_simp; try rfl) (Below.refl _ _) rfl
      · intro ac w' hb hd hk   -- 47
        replace hb := Reg.below_undrew hb
        obtain ⟨v66, e66, t66⟩ := hk.2 36 (by kernel_rfl)
        replace e66 : ac.tmps[66]? = some v66 := e66
        replace e66 : ac.tmps[66]? = some (.bool true) := e66.trans (congrArg some t66)
        obtain ⟨v76, e76, t76⟩ := hk.2 46 (by kernel_rfl)
        replace e76 : ac.tmps[76]? = some v76 := e76
        replace e76 : ac.tmps[76]? = some (.bool true) := e76.trans (congrArg some t76)
        exact Reg.step_value (Reg.wanted_free rfl) (w1 := w') (by go_simp; try rfl) (Below.refl _ _) rfl
      · intro ac w' hb hd hk   -- 48
        replace hb := Reg.below_undrew hb
        obtain ⟨v77, e77, t77⟩ := hk.2 47 (by kernel_rfl)
        replace e77 : ac.tmps[77]? = some v77 := e77
        replace e77 : ac.tmps[77]? = some (.bool true) := e77.trans (congrArg some t77)
        exact Reg.step_value (Reg.wanted_free rfl) (w1 := w') (by go_simp; try rfl) (Below.refl _ _) rfl
    case fin =>
      intro w' hb
      replace hb := Reg.below_undrew hb
      rintro _ rfl
      rintro _ rfl
      rintro _ rfl
      intro v3 h3
      rintro _ rfl
      rintro _ rfl
      intro v6 h6
      rintro _ rfl
      rintro _ rfl
      rintro _ rfl
      rintro _ rfl
      rintro _ rfl
      rintro _ rfl
      rintro _ rfl
      rintro _ rfl
      rintro _ rfl
      rintro _ rfl
      rintro _ rfl
      rintro _ rfl
      rintro _ rfl
      rintro _ rfl
      rintro _ rfl
      rintro _ rfl
      rintro _ rfl
      rintro _ rfl
      rintro _ rfl
      rintro _ rfl
      rintro _ rfl
      rintro _ rfl
      rintro _ rfl
      rintro _ rfl
      rintro _ rfl
      rintro _ rfl
      rintro _ rfl
      rintro _ rfl
      rintro _ rfl
      rintro _ rfl
      rintro _ rfl
      rintro _ rfl
      rintro _ rfl
      rintro _ rfl
      rintro _ rfl
      rintro _ rfl
      rintro _ rfl
      rintro _ rfl
      rintro _ rfl
      rintro _ rfl
      rintro _ rfl
      rintro _ rfl
      refine Reg.done_nil ?_
      simp only [Act.put, List.setIfInBounds_toArray, List.set_cons_zero, List.set_cons_succ]
      go_wp2
      go_ret
      exact ⟨rfl, HB3.out.trans (hb.mono HB3.out.size)⟩
theorem tributarylaw1_WireInts.calls (a0 : Int) (A1 : Option Addr) (c1 : Nat) (l1 : List Int) (a2 : Int) (r : Bool) (w : World) (hr1 : Kd.C (Kd.int .u8) w A1 l1.length l1) (hc1 : l1.length ≤ c1) (hL : Laid w) (h : tributarylaw1_WireInts.f a0 l1 a2 = some r) :
    Calls Tryd.prog 3 #[.int .i64 a0, .slice A1 l1.length c1, .int .i64 a2] w fun e w' => e = .returned (.bool r) ∧ Below w.heap.size w w' := by
  unfold tributarylaw1_WireInts.f at h
  by_cases hk : okBytes l1 = true ∧ room l1 = true ∧ okI a0
  · rw [if_pos hk] at h
    obtain rfl := Option.some.inj h
    exact wireInts_law a0 A1 c1 l1 a2 w hr1 hc1 hL hk.1 hk.2.1 hk.2.2
  · rw [if_neg hk] at h; cases h
end Go.Proofs.YtjcllneibeemgaaDoor.PFn
