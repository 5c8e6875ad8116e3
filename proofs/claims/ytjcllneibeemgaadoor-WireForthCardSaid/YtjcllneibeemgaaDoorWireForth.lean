/- Proved: the law WireForth returns true for all bytes that fit: the walk. -/
import Derived.Test.YtjcllneibeemgaaDoorWirePure3
import Derived.Test.YtjcllneibeemgaaDoorRegInv
import Derived.Test.YtjcllneibeemgaaDoorWireInts
namespace Go.Proofs.YtjcllneibeemgaaDoor.PFn
open Go.RowKit Go.Proofs.YtjcllneibeemgaaDoorW.PrintWords Go.Proofs.YtjcllneibeemgaaDoorW.PrintLast Go.Proofs.YtjcllneibeemgaaDoorW.PrintMore Go.Proofs.YtjcllneibeemgaaDoor.Err
attribute [local go_sem] max2_int min2_int max_two min_two max_three min_three max_four min_four
set_option linter.unusedVariables false
set_option linter.unusedSimpArgs false

/-- What a cut from a to p holds. -/
theorem cut_is {A0 : Option Addr} {c0 : Nat} {l0 E : List Int} {a p : Int} (hc : l0.length ≤ c0) (h0 : 0 ≤ a) (hp : p ≤ l0.length) (hpe : p = a + E.length) (hE : (l0.drop a.toNat).take E.length = E) :
    ∃ (A' : Option Addr) (c' : Nat), (∀ W : World, (Instr.slice 22 (.slice A0 l0.length c0) (some (.int .i64 a)) (some (.int .i64 p)) none).run Tryd.prog W = .ok (.slice A' E.length c') W) ∧ (∀ w : World, Kd.C (Kd.int .u8) w A0 l0.length l0 → Kd.C (Kd.int .u8) w A' E.length E) := by
  have hmid : (l0.take p.toNat).drop a.toNat = E := by
    rw [List.drop_take, show p.toNat - a.toNat = E.length by omega, hE]
  refine ⟨if c0 = a.toNat then A0 else A0.map (·.add (a.toNat * 1)), c0 - a.toNat, ?_, fun w h => ?_⟩
  · have := cut_mid (P := Tryd.prog) 22 5 .i64 .i64 Tryd.underlying22 (info_parts info5).choose_spec.1 1 (info_parts info5).choose_spec.2.2.1 A0 l0.length c0 a p h0 (by omega) hp hc
    rwa [show p.toNat - a.toNat = E.length by omega] at this
  · have := Kd.C_mid (c := c0) (lo := a.toNat) (hi := p.toNat) h (by omega) (by omega) hc
    rw [hmid] at this
    exact this
def tributarylaw1_WireForth.f (l : List Int) (a : Int) : Option Bool := if okBytes l = true then some true else none
set_option maxHeartbeats 16000000 in
set_option maxRecDepth 100000 in
theorem wireForth_law (A0 : Option Addr) (c0 : Nat) (l0 : List Int) (a : Int) (w : World) (hr0 : Kd.C (Kd.int .u8) w A0 l0.length l0) (hc0 : l0.length ≤ c0) (hL : Laid w) (hok : okBytes l0 = true) :
    Calls Tryd.prog 7 #[.slice A0 l0.length c0, .int .i64 a] w fun e w' => e = .returned (.bool true) ∧ Below w.heap.size w w' := by
  have HL := Aside0.mk hL
  have HR0 := Aside0.mk hr0
  obtain ⟨hlen, hby⟩ := okBytes_iff.1 hok
  have HBY := Aside0.mk hby
  clear hr0 hL hok hby
  go_enter Tryd.func7, Tryd.ntmps7
  go_wp2_with fail
  obtain ⟨n, p, e, hR⟩ : ∃ n p e, readI l0 a = (n, p, e) := ⟨_, _, _, rfl⟩
  refine (readInt_calls A0 c0 l0 a _ HR0.out hc0 hlen HBY.out).mono ?_
  rintro en w1 ⟨ve, rfl, hE, hb, hN⟩
  rw [hR] at hE ⊢
  have HE := Aside0.mk hE
  have HB1 := Aside0.mk hb
  have HBX := Aside0.mk hb
  have HR := Aside0.mk hR
  clear hE hb hN hR
  go_wp2_with fail
  rename_i K hK
  have next2 : ∀ (w2 : World), Below w.heap.size w w2 → ∀ x5 x6 x7 x10 x11 x12 x13 x14 x15 x16 x17 x18 x19 x20 x21 x22 x23 x24 x25 x26 x27 x28 x29 x30 x31 x32 x33 x34 x35 x36 x37 x38 x39 x40 x41 x42 x43 : Value, K ⟨#[(.slice A0 l0.length c0), (.int .i64 a), undef, undef, (.bool false), x5, x6, x7, undef, undef, x10, x11, x12, x13, x14, x15, x16, x17, x18, x19, x20, x21, x22, x23, x24, x25, x26, x27, x28, x29, x30, x31, x32, x33, x34, x35, x36, x37, x38, x39, x40, x41, x42, x43, (.bool false), undef, undef, undef, undef, undef, undef, undef, undef, undef, undef, undef, undef, undef, undef, undef, undef, undef, undef, undef, undef, undef, undef, undef, undef, undef, undef, undef, undef, undef, undef, undef, undef, undef, undef, undef, undef, undef, undef, undef, undef, undef, undef, undef, undef, undef, undef, undef, undef, undef, undef, undef, undef, undef, undef, undef, undef, undef, undef, undef, undef, undef, undef, undef, undef, undef, undef, undef, undef, undef, undef, undef, undef, undef], []⟩ w2 := by
    clear HE HB1 HBX HR
    intro w2 hb2
    intro x5 x6 x7 x10 x11 x12 x13 x14 x15 x16 x17 x18 x19 x20 x21 x22 x23 x24 x25 x26 x27 x28 x29 x30 x31 x32 x33 x34 x35 x36 x37 x38 x39 x40 x41 x42 x43
    refine hK _ _ ?_
    have HB2 := Aside0.mk hb2
    clear hb2 hK
    go_wp2_with fail
    obtain ⟨rs, p, e, g, hR⟩ : ∃ rs p e g, readRows l0 a = (rs, p, e, g) := ⟨_, _, _, _, rfl⟩
    refine (readRows_calls A0 c0 l0 a _ (Kd.C_below HR0.out HB2.out) hc0 hlen HBY.out _ hR).mono ?_
    rintro en w3 ⟨vr, ve, rfl, hRr, hE, hb, hN⟩
    have HRR := Aside0.mk hRr
    obtain ⟨Ar, cr, rfl⟩ := Kd.R_slice HRR.out
    have HE := Aside0.mk hE
    have HBX := Aside0.mk (HB2.out.trans (hb.mono HB2.out.size))
    have HR := Aside0.mk hR
    clear hE hb hN hR hRr HB2
    go_wp2_with fail
    rename_i K5 hK5
    have next5 : ∀ (w4 : World), Below w.heap.size w w4 → ∀ x5 x6 x7 x8 x10 x11 x12 x13 x14 x15 x16 x17 x18 x19 x20 x21 x22 x23 x24 x25 x26 x27 x28 x29 x30 x31 x32 x33 x34 x35 x36 x37 x38 x39 x40 x41 x42 x43 x44 x45 x46 x47 x48 x49 x50 x51 x52 x53 x54 x55 x56 x57 x58 x59 x60 x61 x62 x63 x64 x65 x66 x67 x68 x69 x70 x71 x72 x73 x74 x75 x76 x77 x78 : Value, K5 ⟨#[(.slice A0 l0.length c0), (.int .i64 a), undef, undef, (.bool false), x5, x6, x7, x8, undef, x10, x11, x12, x13, x14, x15, x16, x17, x18, x19, x20, x21, x22, x23, x24, x25, x26, x27, x28, x29, x30, x31, x32, x33, x34, x35, x36, x37, x38, x39, x40, x41, x42, x43, x44, x45, x46, x47, x48, x49, x50, x51, x52, x53, x54, x55, x56, x57, x58, x59, x60, x61, x62, x63, x64, x65, x66, x67, x68, x69, x70, x71, x72, x73, x74, x75, x76, x77, x78, (.bool false), undef, undef, undef, undef, undef, undef, undef, undef, undef, undef, undef, undef, undef, undef, undef, undef, undef, undef, undef, undef, undef, undef, undef, undef, undef, undef, undef, undef, undef, undef, undef, undef, undef, undef, undef, undef, undef, undef], []⟩ w4 := by
      clear HE HBX HR HRR
      intro w4 hb4
      intro x5 x6 x7 x8 x10 x11 x12 x13 x14 x15 x16 x17 x18 x19 x20 x21 x22 x23 x24 x25 x26 x27 x28 x29 x30 x31 x32 x33 x34 x35 x36 x37 x38 x39 x40 x41 x42 x43 x44 x45 x46 x47 x48 x49 x50 x51 x52 x53 x54 x55 x56 x57 x58 x59 x60 x61 x62 x63 x64 x65 x66 x67 x68 x69 x70 x71 x72 x73 x74 x75 x76 x77 x78
      refine hK5 _ _ ?_
      have HB4 := Aside0.mk hb4
      clear hb4 hK5
      go_wp2_with fail
      obtain ⟨q0, q1, q2, p, e, g, hR⟩ : ∃ q0 q1 q2 p e g, readID l0 a = (q0, q1, q2, p, e, g) := ⟨_, _, _, _, _, _, rfl⟩
      refine (readID_calls A0 c0 l0 a _ (Kd.C_below HR0.out HB4.out) hc0 hlen HBY.out _ hR).mono ?_
      rintro en w5 ⟨ve, rfl, hE, hb, hN⟩
      have HB5 := Aside0.mk (HB4.out.trans (hb.mono HB4.out.size))
      have HR := Aside0.mk hR
      have HE5 := Aside0.mk hE
      clear hb hN hR HB4 hE
      go_wp2_with fail
      have X9 := Aside0.mk (heap_alloc_new w5 (Obj.cells #[Value.int IntKind.i64 q0, Value.int IntKind.i64 q1, Value.int IntKind.i64 q2] 41))
      have HBX := Aside0.mk (HB5.out.alloc HB5.out.size (Obj.cells #[Value.int IntKind.i64 q0, Value.int IntKind.i64 q1, Value.int IntKind.i64 q2] 41))
      obtain ⟨B9, hB9⟩ : ∃ b, b = w5.heap.size := ⟨_, rfl⟩
      rw [← hB9] at X9
      rw [show (⟨w5.heap.size, 0, none⟩ : Addr) = ⟨B9, 0, none⟩ by rw [hB9]]
      clear hB9 HB5
      have HZ : Aside0 (e = 0 → ve = .nilIface) := ⟨fun h => by subst h; exact werr_no HE5.out rfl⟩
      have HZ2 : Aside0 (e ≠ 0 → ∃ tt uu, ve = .iface tt uu) := ⟨fun h => (werr_yes HE5.out h).ne_nil⟩
      clear HE5
      generalize w5.alloc (Obj.cells #[Value.int IntKind.i64 q0, Value.int IntKind.i64 q1, Value.int IntKind.i64 q2] 41) = w6 at X9 HBX ⊢
      have HLX := Aside0.mk (HL.out.below HBX.out (Nat.le_refl _))
      by_cases hz : e = 0
      · subst hz
        obtain ⟨ho1, ho2, ho3, ha0, hap, hpl, hpe, ht⟩ := readID_back HBY.out HR.out
        obtain rfl := HZ.out rfl
        have hcut := cut_is (A0 := A0) hc0 ha0 hpl hpe ht
        clear ht hpe
        obtain ⟨A', c', hsl, hsc⟩ := hcut
        refine Reg.region_inv (Reg.tab [(Reg.Is (.bool true)), (Reg.Is (.bool true)), (Reg.Is .nilIface), (Reg.Is (.bool false)), (Reg.Is (.bool false)), (Reg.Is (.int .i64 a)), (Reg.Is (.bool true)), (Reg.Is (.bool true)), (Reg.Is (.int .i64 p)), (Reg.Is (.slice A0 l0.length c0)), (Reg.Is (.int .i64 (l0.length : Int))), (Reg.Is (.bool true)), (Reg.Is (.bool true)), (Reg.Is (.bool true)), (Reg.Is (.int .i64 p)), (Reg.Is (.int .i64 a)), (Reg.Is (.bool true)), (Reg.Is (.bool true)), (Reg.Is (.bool true)), (Reg.Is (.agg #[.int .i64 q0, .int .i64 q1, .int .i64 q2])), (fun v w' => Kd.R (Kd.int .u8) 5 w' w6.heap.size (fun _ => True) v (encD q0 q1 q2)), (Reg.Is (.string (strOfNums (encD q0 q1 q2)))), (Reg.Is (.slice A0 l0.length c0)), (Reg.Is (.int .i64 a)), (Reg.Is (.int .i64 p)), (Reg.Is (.slice A' (encD q0 q1 q2).length c')), (Reg.Is (.string (strOfNums (encD q0 q1 q2)))), (Reg.Is (.bool true)), (Reg.Is (.bool true)), (Reg.Is (.bool true)), (Reg.Is (.bool true)), (Reg.Is (.bool true))]) (by kernel_rfl) (by kernel_rfl) (Reg.tab_mono ?mono) ?steps ?fin
        case mono => exact ⟨Reg.Is.mono _, Reg.Is.mono _, Reg.Is.mono _, Reg.Is.mono _, Reg.Is.mono _, Reg.Is.mono _, Reg.Is.mono _, Reg.Is.mono _, Reg.Is.mono _, Reg.Is.mono _, Reg.Is.mono _, Reg.Is.mono _, Reg.Is.mono _, Reg.Is.mono _, Reg.Is.mono _, Reg.Is.mono _, Reg.Is.mono _, Reg.Is.mono _, Reg.Is.mono _, Reg.Is.mono _, (fun _ _ _ hb h => Kd.R_below h hb), Reg.Is.mono _, Reg.Is.mono _, Reg.Is.mono _, Reg.Is.mono _, Reg.Is.mono _, Reg.Is.mono _, Reg.Is.mono _, Reg.Is.mono _, Reg.Is.mono _, Reg.Is.mono _, Reg.Is.mono _, trivial⟩
        case steps =>
          refine ⟨?_, ?_, ?_, ?_, ?_, ?_, ?_, ?_, ?_, ?_, ?_, ?_, ?_, ?_, ?_, ?_, ?_, ?_, ?_, ?_, ?_, ?_, ?_, ?_, ?_, ?_, ?_, ?_, ?_, ?_, ?_, ?_, trivial⟩
          · intro ac w' hb hd hk   -- 0
            replace hb := Reg.below_undrew hb
            refine Reg.step_call (Reg.wanted_free rfl) (by go_simp; try rfl) ((told_law _ (HLX.out.below hb (Nat.le_refl _))).mono ?_)
            rintro en w4 ⟨rfl, hb4⟩
            exact ⟨_, rfl, rfl, hb4⟩
          · intro ac w' hb hd hk   -- 1
            replace hb := Reg.below_undrew hb
            obtain ⟨v87, e87, t87⟩ := hk.2 0 (by kernel_rfl)
            replace e87 : ac.tmps[87]? = some v87 := e87
            replace e87 : ac.tmps[87]? = some (.bool true) := e87.trans (congrArg some t87)
            exact Reg.step_value (Reg.wanted_free rfl) (w1 := w') (by go_simp; try rfl) (Below.refl _ _) rfl
          · intro ac w' hb hd hk   -- 2
            replace hb := Reg.below_undrew hb
            have e7 : ac.tmps[7]? = some .nilIface := (hk.1 7 (by kernel_rfl)).trans rfl
            obtain ⟨v88, e88, t88⟩ := hk.2 1 (by kernel_rfl)
            replace e88 : ac.tmps[88]? = some v88 := e88
            replace e88 : ac.tmps[88]? = some (.bool true) := e88.trans (congrArg some t88)
            exact Reg.step_value ((Reg.wanted_is rfl rfl e88).trans rfl) (w1 := w') (by go_simp; try rfl) (Below.refl _ _) rfl
          · intro ac w' hb hd hk   -- 3
            replace hb := Reg.below_undrew hb
            obtain ⟨v89, e89, t89⟩ := hk.2 2 (by kernel_rfl)
            replace e89 : ac.tmps[89]? = some v89 := e89
            replace e89 : ac.tmps[89]? = some .nilIface := e89.trans (congrArg some t89)
            obtain ⟨v88, e88, t88⟩ := hk.2 1 (by kernel_rfl)
            replace e88 : ac.tmps[88]? = some v88 := e88
            replace e88 : ac.tmps[88]? = some (.bool true) := e88.trans (congrArg some t88)
            exact Reg.step_value ((Reg.wanted_is rfl rfl e88).trans rfl) (w1 := w') (by go_simp; try rfl) (Below.refl _ _) rfl
          · intro ac w' hb hd hk   -- 4
            replace hb := Reg.below_undrew hb
            obtain ⟨v90, e90, t90⟩ := hk.2 3 (by kernel_rfl)
            replace e90 : ac.tmps[90]? = some v90 := e90
            replace e90 : ac.tmps[90]? = some (.bool false) := e90.trans (congrArg some t90)
            obtain ⟨v88, e88, t88⟩ := hk.2 1 (by kernel_rfl)
            replace e88 : ac.tmps[88]? = some v88 := e88
            replace e88 : ac.tmps[88]? = some (.bool true) := e88.trans (congrArg some t88)
            exact Reg.step_value ((Reg.wanted_is rfl rfl e88).trans rfl) (w1 := w') (by go_simp; try rfl) (Below.refl _ _) rfl
          · intro ac w' hb hd hk   -- 5
            replace hb := Reg.below_undrew hb
            have e1 : ac.tmps[1]? = some (.int .i64 a) := (hk.1 1 (by kernel_rfl)).trans rfl
            obtain ⟨v91, e91, t91⟩ := hk.2 4 (by kernel_rfl)
            replace e91 : ac.tmps[91]? = some v91 := e91
            replace e91 : ac.tmps[91]? = some (.bool false) := e91.trans (congrArg some t91)
            exact Reg.step_value ((Reg.wanted_is rfl rfl e91).trans rfl) (w1 := w') (by go_simp; try rfl) (Below.refl _ _) rfl
          · intro ac w' hb hd hk   -- 6
            replace hb := Reg.below_undrew hb
            obtain ⟨v92, e92, t92⟩ := hk.2 5 (by kernel_rfl)
            replace e92 : ac.tmps[92]? = some v92 := e92
            replace e92 : ac.tmps[92]? = some (.int .i64 a) := e92.trans (congrArg some t92)
            obtain ⟨v91, e91, t91⟩ := hk.2 4 (by kernel_rfl)
            replace e91 : ac.tmps[91]? = some v91 := e91
            replace e91 : ac.tmps[91]? = some (.bool false) := e91.trans (congrArg some t91)
            have hx : decide (0 ≤ a) = true := decide_eq_true (by omega)
            exact Reg.step_value ((Reg.wanted_is rfl rfl e91).trans rfl) (w1 := w') (by go_simp; try rfl) (Below.refl _ _) rfl
          · intro ac w' hb hd hk   -- 7
            replace hb := Reg.below_undrew hb
            obtain ⟨v93, e93, t93⟩ := hk.2 6 (by kernel_rfl)
            replace e93 : ac.tmps[93]? = some v93 := e93
            replace e93 : ac.tmps[93]? = some (.bool true) := e93.trans (congrArg some t93)
            obtain ⟨v91, e91, t91⟩ := hk.2 4 (by kernel_rfl)
            replace e91 : ac.tmps[91]? = some v91 := e91
            replace e91 : ac.tmps[91]? = some (.bool false) := e91.trans (congrArg some t91)
            exact Reg.step_value ((Reg.wanted_is rfl rfl e91).trans rfl) (w1 := w') (by go_simp; try rfl) (Below.refl _ _) rfl
          · intro ac w' hb hd hk   -- 8
            replace hb := Reg.below_undrew hb
            have e6 : ac.tmps[6]? = some (.int .i64 p) := (hk.1 6 (by kernel_rfl)).trans rfl
            obtain ⟨v94, e94, t94⟩ := hk.2 7 (by kernel_rfl)
            replace e94 : ac.tmps[94]? = some v94 := e94
            replace e94 : ac.tmps[94]? = some (.bool true) := e94.trans (congrArg some t94)
            exact Reg.step_value ((Reg.wanted_is rfl rfl e94).trans rfl) (w1 := w') (by go_simp; try rfl) (Below.refl _ _) rfl
          · intro ac w' hb hd hk   -- 9
            replace hb := Reg.below_undrew hb
            have e0 : ac.tmps[0]? = some (.slice A0 l0.length c0) := (hk.1 0 (by kernel_rfl)).trans rfl
            obtain ⟨v94, e94, t94⟩ := hk.2 7 (by kernel_rfl)
            replace e94 : ac.tmps[94]? = some v94 := e94
            replace e94 : ac.tmps[94]? = some (.bool true) := e94.trans (congrArg some t94)
            exact Reg.step_value ((Reg.wanted_is rfl rfl e94).trans rfl) (w1 := w') (by go_simp; try rfl) (Below.refl _ _) rfl
          · intro ac w' hb hd hk   -- 10
            replace hb := Reg.below_undrew hb
            obtain ⟨v96, e96, t96⟩ := hk.2 9 (by kernel_rfl)
            replace e96 : ac.tmps[96]? = some v96 := e96
            replace e96 : ac.tmps[96]? = some (.slice A0 l0.length c0) := e96.trans (congrArg some t96)
            obtain ⟨v94, e94, t94⟩ := hk.2 7 (by kernel_rfl)
            replace e94 : ac.tmps[94]? = some v94 := e94
            replace e94 : ac.tmps[94]? = some (.bool true) := e94.trans (congrArg some t94)
            exact Reg.step_value ((Reg.wanted_is rfl rfl e94).trans rfl) (w1 := w') (by go_simp; try rfl) (Below.refl _ _) rfl
          · intro ac w' hb hd hk   -- 11
            replace hb := Reg.below_undrew hb
            obtain ⟨v95, e95, t95⟩ := hk.2 8 (by kernel_rfl)
            replace e95 : ac.tmps[95]? = some v95 := e95
            replace e95 : ac.tmps[95]? = some (.int .i64 p) := e95.trans (congrArg some t95)
            obtain ⟨v97, e97, t97⟩ := hk.2 10 (by kernel_rfl)
            replace e97 : ac.tmps[97]? = some v97 := e97
            replace e97 : ac.tmps[97]? = some (.int .i64 (l0.length : Int)) := e97.trans (congrArg some t97)
            obtain ⟨v94, e94, t94⟩ := hk.2 7 (by kernel_rfl)
            replace e94 : ac.tmps[94]? = some v94 := e94
            replace e94 : ac.tmps[94]? = some (.bool true) := e94.trans (congrArg some t94)
            have hx : decide (p ≤ (l0.length : Int)) = true := decide_eq_true (by omega)
            exact Reg.step_value ((Reg.wanted_is rfl rfl e94).trans rfl) (w1 := w') (by go_simp; try rfl) (Below.refl _ _) rfl
          · intro ac w' hb hd hk   -- 12
            replace hb := Reg.below_undrew hb
            obtain ⟨v94, e94, t94⟩ := hk.2 7 (by kernel_rfl)
            replace e94 : ac.tmps[94]? = some v94 := e94
            replace e94 : ac.tmps[94]? = some (.bool true) := e94.trans (congrArg some t94)
            obtain ⟨v98, e98, t98⟩ := hk.2 11 (by kernel_rfl)
            replace e98 : ac.tmps[98]? = some v98 := e98
            replace e98 : ac.tmps[98]? = some (.bool true) := e98.trans (congrArg some t98)
            obtain ⟨v91, e91, t91⟩ := hk.2 4 (by kernel_rfl)
            replace e91 : ac.tmps[91]? = some v91 := e91
            replace e91 : ac.tmps[91]? = some (.bool false) := e91.trans (congrArg some t91)
            exact Reg.step_value ((Reg.wanted_is rfl rfl e91).trans rfl) (w1 := w') (by go_simp; try rfl) (Below.refl _ _) rfl
          · intro ac w' hb hd hk   -- 13
            replace hb := Reg.below_undrew hb
            obtain ⟨v99, e99, t99⟩ := hk.2 12 (by kernel_rfl)
            replace e99 : ac.tmps[99]? = some v99 := e99
            replace e99 : ac.tmps[99]? = some (.bool true) := e99.trans (congrArg some t99)
            obtain ⟨v91, e91, t91⟩ := hk.2 4 (by kernel_rfl)
            replace e91 : ac.tmps[91]? = some v91 := e91
            replace e91 : ac.tmps[91]? = some (.bool false) := e91.trans (congrArg some t91)
            exact Reg.step_value ((Reg.wanted_is rfl rfl e91).trans rfl) (w1 := w') (by go_simp; try rfl) (Below.refl _ _) rfl
          · intro ac w' hb hd hk   -- 14
            replace hb := Reg.below_undrew hb
            have e6 : ac.tmps[6]? = some (.int .i64 p) := (hk.1 6 (by kernel_rfl)).trans rfl
            obtain ⟨v100, e100, t100⟩ := hk.2 13 (by kernel_rfl)
            replace e100 : ac.tmps[100]? = some v100 := e100
            replace e100 : ac.tmps[100]? = some (.bool true) := e100.trans (congrArg some t100)
            exact Reg.step_value ((Reg.wanted_is rfl rfl e100).trans rfl) (w1 := w') (by go_simp; try rfl) (Below.refl _ _) rfl
          · intro ac w' hb hd hk   -- 15
            replace hb := Reg.below_undrew hb
            have e1 : ac.tmps[1]? = some (.int .i64 a) := (hk.1 1 (by kernel_rfl)).trans rfl
            obtain ⟨v100, e100, t100⟩ := hk.2 13 (by kernel_rfl)
            replace e100 : ac.tmps[100]? = some v100 := e100
            replace e100 : ac.tmps[100]? = some (.bool true) := e100.trans (congrArg some t100)
            exact Reg.step_value ((Reg.wanted_is rfl rfl e100).trans rfl) (w1 := w') (by go_simp; try rfl) (Below.refl _ _) rfl
          · intro ac w' hb hd hk   -- 16
            replace hb := Reg.below_undrew hb
            obtain ⟨v101, e101, t101⟩ := hk.2 14 (by kernel_rfl)
            replace e101 : ac.tmps[101]? = some v101 := e101
            replace e101 : ac.tmps[101]? = some (.int .i64 p) := e101.trans (congrArg some t101)
            obtain ⟨v102, e102, t102⟩ := hk.2 15 (by kernel_rfl)
            replace e102 : ac.tmps[102]? = some v102 := e102
            replace e102 : ac.tmps[102]? = some (.int .i64 a) := e102.trans (congrArg some t102)
            obtain ⟨v100, e100, t100⟩ := hk.2 13 (by kernel_rfl)
            replace e100 : ac.tmps[100]? = some v100 := e100
            replace e100 : ac.tmps[100]? = some (.bool true) := e100.trans (congrArg some t100)
            have hx : decide (a < p) = true := decide_eq_true (by omega)
            exact Reg.step_value ((Reg.wanted_is rfl rfl e100).trans rfl) (w1 := w') (by go_simp; try rfl) (Below.refl _ _) rfl
          · intro ac w' hb hd hk   -- 17
            replace hb := Reg.below_undrew hb
            obtain ⟨v100, e100, t100⟩ := hk.2 13 (by kernel_rfl)
            replace e100 : ac.tmps[100]? = some v100 := e100
            replace e100 : ac.tmps[100]? = some (.bool true) := e100.trans (congrArg some t100)
            obtain ⟨v103, e103, t103⟩ := hk.2 16 (by kernel_rfl)
            replace e103 : ac.tmps[103]? = some v103 := e103
            replace e103 : ac.tmps[103]? = some (.bool true) := e103.trans (congrArg some t103)
            obtain ⟨v91, e91, t91⟩ := hk.2 4 (by kernel_rfl)
            replace e91 : ac.tmps[91]? = some v91 := e91
            replace e91 : ac.tmps[91]? = some (.bool false) := e91.trans (congrArg some t91)
            exact Reg.step_value ((Reg.wanted_is rfl rfl e91).trans rfl) (w1 := w') (by go_simp; try rfl) (Below.refl _ _) rfl
          · intro ac w' hb hd hk   -- 18
            replace hb := Reg.below_undrew hb
            obtain ⟨v104, e104, t104⟩ := hk.2 17 (by kernel_rfl)
            replace e104 : ac.tmps[104]? = some v104 := e104
            replace e104 : ac.tmps[104]? = some (.bool true) := e104.trans (congrArg some t104)
            obtain ⟨v91, e91, t91⟩ := hk.2 4 (by kernel_rfl)
            replace e91 : ac.tmps[91]? = some v91 := e91
            replace e91 : ac.tmps[91]? = some (.bool false) := e91.trans (congrArg some t91)
            exact Reg.step_value ((Reg.wanted_is rfl rfl e91).trans rfl) (w1 := w') (by go_simp; try rfl) (Below.refl _ _) rfl
          · intro ac w' hb hd hk   -- 19
            replace hb := Reg.below_undrew hb
            have e9 : ac.tmps[9]? = some (.pointer (some ⟨B9, 0, none⟩)) := (hk.1 9 (by kernel_rfl)).trans rfl
            obtain ⟨v105, e105, t105⟩ := hk.2 18 (by kernel_rfl)
            replace e105 : ac.tmps[105]? = some v105 := e105
            replace e105 : ac.tmps[105]? = some (.bool true) := e105.trans (congrArg some t105)
            obtain ⟨k0, k1, k2, f0, f1, f2, zB⟩ := facts3 (heap_same hb (Array.getElem?_eq_some_iff.1 X9.out).1 X9.out)
            exact Reg.step_value ((Reg.wanted_is rfl rfl e105).trans rfl) (w1 := w') (by go_simp; try rfl) (Below.refl _ _) rfl
          · intro ac w' hb hd hk   -- 20
            replace hb := Reg.below_undrew hb
            obtain ⟨v106, e106, t106⟩ := hk.2 19 (by kernel_rfl)
            replace e106 : ac.tmps[106]? = some v106 := e106
            replace e106 : ac.tmps[106]? = some (.agg #[.int .i64 q0, .int .i64 q1, .int .i64 q2]) := e106.trans (congrArg some t106)
            obtain ⟨v105, e105, t105⟩ := hk.2 18 (by kernel_rfl)
            replace e105 : ac.tmps[105]? = some v105 := e105
            replace e105 : ac.tmps[105]? = some (.bool true) := e105.trans (congrArg some t105)
            refine Reg.step_call ((Reg.wanted_is rfl rfl e105).trans rfl) (by go_simp; try rfl) ((wire_ID.calls 20 q0 q1 q2 _ _ (wire_ID_f _ _ _ ho1 ho2 ho3 20 (by decide))).mono ?_)
            rintro en w4 ⟨v0, rfl, ho, hb4⟩
            exact ⟨_, rfl, Kd.R_lower ho hb.size, hb4⟩
          · intro ac w' hb hd hk   -- 21
            replace hb := Reg.below_undrew hb
            obtain ⟨v107, e107, t107⟩ := hk.2 20 (by kernel_rfl)
            replace e107 : ac.tmps[107]? = some v107 := e107
            replace t107 : (fun v w' => Kd.R (Kd.int .u8) 5 w' w6.heap.size (fun _ => True) v (encD q0 q1 q2)) v107 w' := t107
            obtain ⟨v105, e105, t105⟩ := hk.2 18 (by kernel_rfl)
            replace e105 : ac.tmps[105]? = some v105 := e105
            replace e105 : ac.tmps[105]? = some (.bool true) := e105.trans (congrArg some t105)
            have hcv := own_string (P := Tryd.prog) Tryd.underlying22 Tryd.underlying5 Tryd.underlying9 (Kd.own_of_R t107)
            exact Reg.step_value ((Reg.wanted_is rfl rfl e105).trans rfl) (w1 := w') (by go_simp; try rfl) (Below.refl _ _) rfl
          · intro ac w' hb hd hk   -- 22
            replace hb := Reg.below_undrew hb
            have e0 : ac.tmps[0]? = some (.slice A0 l0.length c0) := (hk.1 0 (by kernel_rfl)).trans rfl
            obtain ⟨v105, e105, t105⟩ := hk.2 18 (by kernel_rfl)
            replace e105 : ac.tmps[105]? = some v105 := e105
            replace e105 : ac.tmps[105]? = some (.bool true) := e105.trans (congrArg some t105)
            exact Reg.step_value ((Reg.wanted_is rfl rfl e105).trans rfl) (w1 := w') (by go_simp; try rfl) (Below.refl _ _) rfl
          · intro ac w' hb hd hk   -- 23
            replace hb := Reg.below_undrew hb
            have e1 : ac.tmps[1]? = some (.int .i64 a) := (hk.1 1 (by kernel_rfl)).trans rfl
            obtain ⟨v105, e105, t105⟩ := hk.2 18 (by kernel_rfl)
            replace e105 : ac.tmps[105]? = some v105 := e105
            replace e105 : ac.tmps[105]? = some (.bool true) := e105.trans (congrArg some t105)
            exact Reg.step_value ((Reg.wanted_is rfl rfl e105).trans rfl) (w1 := w') (by go_simp; try rfl) (Below.refl _ _) rfl
          · intro ac w' hb hd hk   -- 24
            replace hb := Reg.below_undrew hb
            have e6 : ac.tmps[6]? = some (.int .i64 p) := (hk.1 6 (by kernel_rfl)).trans rfl
            obtain ⟨v105, e105, t105⟩ := hk.2 18 (by kernel_rfl)
            replace e105 : ac.tmps[105]? = some v105 := e105
            replace e105 : ac.tmps[105]? = some (.bool true) := e105.trans (congrArg some t105)
            exact Reg.step_value ((Reg.wanted_is rfl rfl e105).trans rfl) (w1 := w') (by go_simp; try rfl) (Below.refl _ _) rfl
          · intro ac w' hb hd hk   -- 25
            replace hb := Reg.below_undrew hb
            obtain ⟨v109, e109, t109⟩ := hk.2 22 (by kernel_rfl)
            replace e109 : ac.tmps[109]? = some v109 := e109
            replace e109 : ac.tmps[109]? = some (.slice A0 l0.length c0) := e109.trans (congrArg some t109)
            obtain ⟨v110, e110, t110⟩ := hk.2 23 (by kernel_rfl)
            replace e110 : ac.tmps[110]? = some v110 := e110
            replace e110 : ac.tmps[110]? = some (.int .i64 a) := e110.trans (congrArg some t110)
            obtain ⟨v111, e111, t111⟩ := hk.2 24 (by kernel_rfl)
            replace e111 : ac.tmps[111]? = some v111 := e111
            replace e111 : ac.tmps[111]? = some (.int .i64 p) := e111.trans (congrArg some t111)
            obtain ⟨v105, e105, t105⟩ := hk.2 18 (by kernel_rfl)
            replace e105 : ac.tmps[105]? = some v105 := e105
            replace e105 : ac.tmps[105]? = some (.bool true) := e105.trans (congrArg some t105)
            have hx := hsl
            exact Reg.step_value ((Reg.wanted_is rfl rfl e105).trans rfl) (w1 := w') (by go_simp; try rfl) (Below.refl _ _) rfl
          · intro ac w' hb hd hk   -- 26
            replace hb := Reg.below_undrew hb
            obtain ⟨v112, e112, t112⟩ := hk.2 25 (by kernel_rfl)
            replace e112 : ac.tmps[112]? = some v112 := e112
            replace e112 : ac.tmps[112]? = some (.slice A' (encD q0 q1 q2).length c') := e112.trans (congrArg some t112)
            obtain ⟨v105, e105, t105⟩ := hk.2 18 (by kernel_rfl)
            replace e105 : ac.tmps[105]? = some v105 := e105
            replace e105 : ac.tmps[105]? = some (.bool true) := e105.trans (congrArg some t105)
            have hcv := Kd.C_string (P := Tryd.prog) (A := A') (c := c') Tryd.underlying22 Tryd.underlying5 Tryd.underlying9 (hsc _ (Kd.C_below HR0.out (HBX.out.trans (hb.mono HBX.out.size))))
            exact Reg.step_value ((Reg.wanted_is rfl rfl e105).trans rfl) (w1 := w') (by go_simp; try rfl) (Below.refl _ _) rfl
          · intro ac w' hb hd hk   -- 27
            replace hb := Reg.below_undrew hb
            obtain ⟨v108, e108, t108⟩ := hk.2 21 (by kernel_rfl)
            replace e108 : ac.tmps[108]? = some v108 := e108
            replace e108 : ac.tmps[108]? = some (.string (strOfNums (encD q0 q1 q2))) := e108.trans (congrArg some t108)
            obtain ⟨v113, e113, t113⟩ := hk.2 26 (by kernel_rfl)
            replace e113 : ac.tmps[113]? = some v113 := e113
            replace e113 : ac.tmps[113]? = some (.string (strOfNums (encD q0 q1 q2))) := e113.trans (congrArg some t113)
            obtain ⟨v105, e105, t105⟩ := hk.2 18 (by kernel_rfl)
            replace e105 : ac.tmps[105]? = some v105 := e105
            replace e105 : ac.tmps[105]? = some (.bool true) := e105.trans (congrArg some t105)
            exact Reg.step_value ((Reg.wanted_is rfl rfl e105).trans rfl) (w1 := w') (by go_simp; try rfl) (Below.refl _ _) rfl
          · intro ac w' hb hd hk   -- 28
            replace hb := Reg.below_undrew hb
            obtain ⟨v105, e105, t105⟩ := hk.2 18 (by kernel_rfl)
            replace e105 : ac.tmps[105]? = some v105 := e105
            replace e105 : ac.tmps[105]? = some (.bool true) := e105.trans (congrArg some t105)
            obtain ⟨v114, e114, t114⟩ := hk.2 27 (by kernel_rfl)
            replace e114 : ac.tmps[114]? = some v114 := e114
            replace e114 : ac.tmps[114]? = some (.bool true) := e114.trans (congrArg some t114)
            obtain ⟨v91, e91, t91⟩ := hk.2 4 (by kernel_rfl)
            replace e91 : ac.tmps[91]? = some v91 := e91
            replace e91 : ac.tmps[91]? = some (.bool false) := e91.trans (congrArg some t91)
            exact Reg.step_value ((Reg.wanted_is rfl rfl e91).trans rfl) (w1 := w') (by go_simp; try rfl) (Below.refl _ _) rfl
          · intro ac w' hb hd hk   -- 29
            replace hb := Reg.below_undrew hb
            obtain ⟨v91, e91, t91⟩ := hk.2 4 (by kernel_rfl)
            replace e91 : ac.tmps[91]? = some v91 := e91
            replace e91 : ac.tmps[91]? = some (.bool false) := e91.trans (congrArg some t91)
            obtain ⟨v115, e115, t115⟩ := hk.2 28 (by kernel_rfl)
            replace e115 : ac.tmps[115]? = some v115 := e115
            replace e115 : ac.tmps[115]? = some (.bool true) := e115.trans (congrArg some t115)
            obtain ⟨v88, e88, t88⟩ := hk.2 1 (by kernel_rfl)
            replace e88 : ac.tmps[88]? = some v88 := e88
            replace e88 : ac.tmps[88]? = some (.bool true) := e88.trans (congrArg some t88)
            exact Reg.step_value ((Reg.wanted_is rfl rfl e88).trans rfl) (w1 := w') (by go_simp; try rfl) (Below.refl _ _) rfl
          · intro ac w' hb hd hk   -- 30
            replace hb := Reg.below_undrew hb
            obtain ⟨v88, e88, t88⟩ := hk.2 1 (by kernel_rfl)
            replace e88 : ac.tmps[88]? = some v88 := e88
            replace e88 : ac.tmps[88]? = some (.bool true) := e88.trans (congrArg some t88)
            obtain ⟨v116, e116, t116⟩ := hk.2 29 (by kernel_rfl)
            replace e116 : ac.tmps[116]? = some v116 := e116
            replace e116 : ac.tmps[116]? = some (.bool true) := e116.trans (congrArg some t116)
            exact Reg.step_value (Reg.wanted_free rfl) (w1 := w') (by go_simp; try rfl) (Below.refl _ _) rfl
          · intro ac w' hb hd hk   -- 31
            replace hb := Reg.below_undrew hb
            obtain ⟨v117, e117, t117⟩ := hk.2 30 (by kernel_rfl)
            replace e117 : ac.tmps[117]? = some v117 := e117
            replace e117 : ac.tmps[117]? = some (.bool true) := e117.trans (congrArg some t117)
            exact Reg.step_value (Reg.wanted_free rfl) (w1 := w') (by go_simp; try rfl) (Below.refl _ _) rfl
        case fin =>
          intro w' hb
          replace hb := Reg.below_undrew hb
          rintro _ rfl
          rintro _ rfl
          rintro _ rfl
          rintro _ rfl
          rintro _ rfl
          rintro _ rfl
          rintro _ rfl
          rintro _ rfl
          rintro _ rfl
          rintro _ rfl
          rintro _ rfl
          rintro _ rfl
          rintro _ rfl
          rintro _ rfl
          rintro _ rfl
          rintro _ rfl
          rintro _ rfl
          rintro _ rfl
          rintro _ rfl
          rintro _ rfl
          intro v20 h20
          rintro _ rfl
          rintro _ rfl
          rintro _ rfl
          rintro _ rfl
          rintro _ rfl
          rintro _ rfl
          rintro _ rfl
          rintro _ rfl
          rintro _ rfl
          rintro _ rfl
          rintro _ rfl
          refine Reg.done_nil ?_
          simp only [Act.put, List.setIfInBounds_toArray, List.set_cons_zero, List.set_cons_succ]
          go_wp2
          go_ret
          exact ⟨rfl, HBX.out.trans (hb.mono HBX.out.size)⟩
      · obtain ⟨tt, uu, hve⟩ := HZ2.out hz
        subst hve
        refine Reg.region_inv (Reg.tab [(Reg.Is (.bool true)), (Reg.Is (.bool true)), (Reg.Is (.iface tt uu)), (Reg.Is (.bool true)), (Reg.Is (.bool true)), (Reg.Is undef), (Reg.Is undef), (Reg.Is undef), (Reg.Is undef), (Reg.Is undef), (Reg.Is undef), (Reg.Is undef), (Reg.Is undef), (Reg.Is undef), (Reg.Is undef), (Reg.Is undef), (Reg.Is undef), (Reg.Is undef), (Reg.Is undef), (Reg.Is undef), (Reg.Is undef), (Reg.Is undef), (Reg.Is undef), (Reg.Is undef), (Reg.Is undef), (Reg.Is undef), (Reg.Is undef), (Reg.Is undef), (Reg.Is undef), (Reg.Is (.bool true)), (Reg.Is (.bool true)), (Reg.Is (.bool true))]) (by kernel_rfl) (by kernel_rfl) (Reg.tab_mono ?mono) ?steps ?fin
        case mono => exact ⟨Reg.Is.mono _, Reg.Is.mono _, Reg.Is.mono _, Reg.Is.mono _, Reg.Is.mono _, Reg.Is.mono _, Reg.Is.mono _, Reg.Is.mono _, Reg.Is.mono _, Reg.Is.mono _, Reg.Is.mono _, Reg.Is.mono _, Reg.Is.mono _, Reg.Is.mono _, Reg.Is.mono _, Reg.Is.mono _, Reg.Is.mono _, Reg.Is.mono _, Reg.Is.mono _, Reg.Is.mono _, Reg.Is.mono _, Reg.Is.mono _, Reg.Is.mono _, Reg.Is.mono _, Reg.Is.mono _, Reg.Is.mono _, Reg.Is.mono _, Reg.Is.mono _, Reg.Is.mono _, Reg.Is.mono _, Reg.Is.mono _, Reg.Is.mono _, trivial⟩
        case steps =>
          refine ⟨?_, ?_, ?_, ?_, ?_, ?_, ?_, ?_, ?_, ?_, ?_, ?_, ?_, ?_, ?_, ?_, ?_, ?_, ?_, ?_, ?_, ?_, ?_, ?_, ?_, ?_, ?_, ?_, ?_, ?_, ?_, ?_, trivial⟩
          · intro ac w' hb hd hk   -- 0
            replace hb := Reg.below_undrew hb
            refine Reg.step_call (Reg.wanted_free rfl) (by go_simp; try rfl) ((told_law _ (HLX.out.below hb (Nat.le_refl _))).mono ?_)
            rintro en w4 ⟨rfl, hb4⟩
            exact ⟨_, rfl, rfl, hb4⟩
          · intro ac w' hb hd hk   -- 1
            replace hb := Reg.below_undrew hb
            obtain ⟨v87, e87, t87⟩ := hk.2 0 (by kernel_rfl)
            replace e87 : ac.tmps[87]? = some v87 := e87
            replace e87 : ac.tmps[87]? = some (.bool true) := e87.trans (congrArg some t87)
            exact Reg.step_value (Reg.wanted_free rfl) (w1 := w') (by go_simp; try rfl) (Below.refl _ _) rfl
          · intro ac w' hb hd hk   -- 2
            replace hb := Reg.below_undrew hb
            have e7 : ac.tmps[7]? = some (.iface tt uu) := (hk.1 7 (by kernel_rfl)).trans rfl
            obtain ⟨v88, e88, t88⟩ := hk.2 1 (by kernel_rfl)
            replace e88 : ac.tmps[88]? = some v88 := e88
            replace e88 : ac.tmps[88]? = some (.bool true) := e88.trans (congrArg some t88)
            exact Reg.step_value ((Reg.wanted_is rfl rfl e88).trans rfl) (w1 := w') (by go_simp; try rfl) (Below.refl _ _) rfl
          · intro ac w' hb hd hk   -- 3
            replace hb := Reg.below_undrew hb
            obtain ⟨v89, e89, t89⟩ := hk.2 2 (by kernel_rfl)
            replace e89 : ac.tmps[89]? = some v89 := e89
            replace e89 : ac.tmps[89]? = some (.iface tt uu) := e89.trans (congrArg some t89)
            obtain ⟨v88, e88, t88⟩ := hk.2 1 (by kernel_rfl)
            replace e88 : ac.tmps[88]? = some v88 := e88
            replace e88 : ac.tmps[88]? = some (.bool true) := e88.trans (congrArg some t88)
            exact Reg.step_value ((Reg.wanted_is rfl rfl e88).trans rfl) (w1 := w') (by go_simp; try rfl) (Below.refl _ _) rfl
          · intro ac w' hb hd hk   -- 4
            replace hb := Reg.below_undrew hb
            obtain ⟨v90, e90, t90⟩ := hk.2 3 (by kernel_rfl)
            replace e90 : ac.tmps[90]? = some v90 := e90
            replace e90 : ac.tmps[90]? = some (.bool true) := e90.trans (congrArg some t90)
            obtain ⟨v88, e88, t88⟩ := hk.2 1 (by kernel_rfl)
            replace e88 : ac.tmps[88]? = some v88 := e88
            replace e88 : ac.tmps[88]? = some (.bool true) := e88.trans (congrArg some t88)
            exact Reg.step_value ((Reg.wanted_is rfl rfl e88).trans rfl) (w1 := w') (by go_simp; try rfl) (Below.refl _ _) rfl
          · intro ac w' hb hd hk   -- 5
            replace hb := Reg.below_undrew hb
            obtain ⟨v91, e91, t91⟩ := hk.2 4 (by kernel_rfl)
            replace e91 : ac.tmps[91]? = some v91 := e91
            replace e91 : ac.tmps[91]? = some (.bool true) := e91.trans (congrArg some t91)
            exact Reg.step_off ((Reg.wanted_is rfl rfl e91).trans rfl) rfl
          · intro ac w' hb hd hk   -- 6
            replace hb := Reg.below_undrew hb
            obtain ⟨v91, e91, t91⟩ := hk.2 4 (by kernel_rfl)
            replace e91 : ac.tmps[91]? = some v91 := e91
            replace e91 : ac.tmps[91]? = some (.bool true) := e91.trans (congrArg some t91)
            exact Reg.step_off ((Reg.wanted_is rfl rfl e91).trans rfl) rfl
          · intro ac w' hb hd hk   -- 7
            replace hb := Reg.below_undrew hb
            obtain ⟨v91, e91, t91⟩ := hk.2 4 (by kernel_rfl)
            replace e91 : ac.tmps[91]? = some v91 := e91
            replace e91 : ac.tmps[91]? = some (.bool true) := e91.trans (congrArg some t91)
            exact Reg.step_off ((Reg.wanted_is rfl rfl e91).trans rfl) rfl
          · intro ac w' hb hd hk   -- 8
            replace hb := Reg.below_undrew hb
            obtain ⟨v94, e94, t94⟩ := hk.2 7 (by kernel_rfl)
            replace e94 : ac.tmps[94]? = some v94 := e94
            replace e94 : ac.tmps[94]? = some undef := e94.trans (congrArg some t94)
            exact Reg.step_off (Reg.wanted_undef rfl rfl e94) rfl
          · intro ac w' hb hd hk   -- 9
            replace hb := Reg.below_undrew hb
            obtain ⟨v94, e94, t94⟩ := hk.2 7 (by kernel_rfl)
            replace e94 : ac.tmps[94]? = some v94 := e94
            replace e94 : ac.tmps[94]? = some undef := e94.trans (congrArg some t94)
            exact Reg.step_off (Reg.wanted_undef rfl rfl e94) rfl
          · intro ac w' hb hd hk   -- 10
            replace hb := Reg.below_undrew hb
            obtain ⟨v94, e94, t94⟩ := hk.2 7 (by kernel_rfl)
            replace e94 : ac.tmps[94]? = some v94 := e94
            replace e94 : ac.tmps[94]? = some undef := e94.trans (congrArg some t94)
            exact Reg.step_off (Reg.wanted_undef rfl rfl e94) rfl
          · intro ac w' hb hd hk   -- 11
            replace hb := Reg.below_undrew hb
            obtain ⟨v94, e94, t94⟩ := hk.2 7 (by kernel_rfl)
            replace e94 : ac.tmps[94]? = some v94 := e94
            replace e94 : ac.tmps[94]? = some undef := e94.trans (congrArg some t94)
            exact Reg.step_off (Reg.wanted_undef rfl rfl e94) rfl
          · intro ac w' hb hd hk   -- 12
            replace hb := Reg.below_undrew hb
            obtain ⟨v91, e91, t91⟩ := hk.2 4 (by kernel_rfl)
            replace e91 : ac.tmps[91]? = some v91 := e91
            replace e91 : ac.tmps[91]? = some (.bool true) := e91.trans (congrArg some t91)
            exact Reg.step_off ((Reg.wanted_is rfl rfl e91).trans rfl) rfl
          · intro ac w' hb hd hk   -- 13
            replace hb := Reg.below_undrew hb
            obtain ⟨v91, e91, t91⟩ := hk.2 4 (by kernel_rfl)
            replace e91 : ac.tmps[91]? = some v91 := e91
            replace e91 : ac.tmps[91]? = some (.bool true) := e91.trans (congrArg some t91)
            exact Reg.step_off ((Reg.wanted_is rfl rfl e91).trans rfl) rfl
          · intro ac w' hb hd hk   -- 14
            replace hb := Reg.below_undrew hb
            obtain ⟨v100, e100, t100⟩ := hk.2 13 (by kernel_rfl)
            replace e100 : ac.tmps[100]? = some v100 := e100
            replace e100 : ac.tmps[100]? = some undef := e100.trans (congrArg some t100)
            exact Reg.step_off (Reg.wanted_undef rfl rfl e100) rfl
          · intro ac w' hb hd hk   -- 15
            replace hb := Reg.below_undrew hb
            obtain ⟨v100, e100, t100⟩ := hk.2 13 (by kernel_rfl)
            replace e100 : ac.tmps[100]? = some v100 := e100
            replace e100 : ac.tmps[100]? = some undef := e100.trans (congrArg some t100)
            exact Reg.step_off (Reg.wanted_undef rfl rfl e100) rfl
          · intro ac w' hb hd hk   -- 16
            replace hb := Reg.below_undrew hb
            obtain ⟨v100, e100, t100⟩ := hk.2 13 (by kernel_rfl)
            replace e100 : ac.tmps[100]? = some v100 := e100
            replace e100 : ac.tmps[100]? = some undef := e100.trans (congrArg some t100)
            exact Reg.step_off (Reg.wanted_undef rfl rfl e100) rfl
          · intro ac w' hb hd hk   -- 17
            replace hb := Reg.below_undrew hb
            obtain ⟨v91, e91, t91⟩ := hk.2 4 (by kernel_rfl)
            replace e91 : ac.tmps[91]? = some v91 := e91
            replace e91 : ac.tmps[91]? = some (.bool true) := e91.trans (congrArg some t91)
            exact Reg.step_off ((Reg.wanted_is rfl rfl e91).trans rfl) rfl
          · intro ac w' hb hd hk   -- 18
            replace hb := Reg.below_undrew hb
            obtain ⟨v91, e91, t91⟩ := hk.2 4 (by kernel_rfl)
            replace e91 : ac.tmps[91]? = some v91 := e91
            replace e91 : ac.tmps[91]? = some (.bool true) := e91.trans (congrArg some t91)
            exact Reg.step_off ((Reg.wanted_is rfl rfl e91).trans rfl) rfl
          · intro ac w' hb hd hk   -- 19
            replace hb := Reg.below_undrew hb
            obtain ⟨v105, e105, t105⟩ := hk.2 18 (by kernel_rfl)
            replace e105 : ac.tmps[105]? = some v105 := e105
            replace e105 : ac.tmps[105]? = some undef := e105.trans (congrArg some t105)
            exact Reg.step_off (Reg.wanted_undef rfl rfl e105) rfl
          · intro ac w' hb hd hk   -- 20
            replace hb := Reg.below_undrew hb
            obtain ⟨v105, e105, t105⟩ := hk.2 18 (by kernel_rfl)
            replace e105 : ac.tmps[105]? = some v105 := e105
            replace e105 : ac.tmps[105]? = some undef := e105.trans (congrArg some t105)
            exact Reg.step_off (Reg.wanted_undef rfl rfl e105) rfl
          · intro ac w' hb hd hk   -- 21
            replace hb := Reg.below_undrew hb
            obtain ⟨v105, e105, t105⟩ := hk.2 18 (by kernel_rfl)
            replace e105 : ac.tmps[105]? = some v105 := e105
            replace e105 : ac.tmps[105]? = some undef := e105.trans (congrArg some t105)
            exact Reg.step_off (Reg.wanted_undef rfl rfl e105) rfl
          · intro ac w' hb hd hk   -- 22
            replace hb := Reg.below_undrew hb
            obtain ⟨v105, e105, t105⟩ := hk.2 18 (by kernel_rfl)
            replace e105 : ac.tmps[105]? = some v105 := e105
            replace e105 : ac.tmps[105]? = some undef := e105.trans (congrArg some t105)
            exact Reg.step_off (Reg.wanted_undef rfl rfl e105) rfl
          · intro ac w' hb hd hk   -- 23
            replace hb := Reg.below_undrew hb
            obtain ⟨v105, e105, t105⟩ := hk.2 18 (by kernel_rfl)
            replace e105 : ac.tmps[105]? = some v105 := e105
            replace e105 : ac.tmps[105]? = some undef := e105.trans (congrArg some t105)
            exact Reg.step_off (Reg.wanted_undef rfl rfl e105) rfl
          · intro ac w' hb hd hk   -- 24
            replace hb := Reg.below_undrew hb
            obtain ⟨v105, e105, t105⟩ := hk.2 18 (by kernel_rfl)
            replace e105 : ac.tmps[105]? = some v105 := e105
            replace e105 : ac.tmps[105]? = some undef := e105.trans (congrArg some t105)
            exact Reg.step_off (Reg.wanted_undef rfl rfl e105) rfl
          · intro ac w' hb hd hk   -- 25
            replace hb := Reg.below_undrew hb
            obtain ⟨v105, e105, t105⟩ := hk.2 18 (by kernel_rfl)
            replace e105 : ac.tmps[105]? = some v105 := e105
            replace e105 : ac.tmps[105]? = some undef := e105.trans (congrArg some t105)
            exact Reg.step_off (Reg.wanted_undef rfl rfl e105) rfl
          · intro ac w' hb hd hk   -- 26
            replace hb := Reg.below_undrew hb
            obtain ⟨v105, e105, t105⟩ := hk.2 18 (by kernel_rfl)
            replace e105 : ac.tmps[105]? = some v105 := e105
            replace e105 : ac.tmps[105]? = some undef := e105.trans (congrArg some t105)
            exact Reg.step_off (Reg.wanted_undef rfl rfl e105) rfl
          · intro ac w' hb hd hk   -- 27
            replace hb := Reg.below_undrew hb
            obtain ⟨v105, e105, t105⟩ := hk.2 18 (by kernel_rfl)
            replace e105 : ac.tmps[105]? = some v105 := e105
            replace e105 : ac.tmps[105]? = some undef := e105.trans (congrArg some t105)
            exact Reg.step_off (Reg.wanted_undef rfl rfl e105) rfl
          · intro ac w' hb hd hk   -- 28
            replace hb := Reg.below_undrew hb
            obtain ⟨v91, e91, t91⟩ := hk.2 4 (by kernel_rfl)
            replace e91 : ac.tmps[91]? = some v91 := e91
            replace e91 : ac.tmps[91]? = some (.bool true) := e91.trans (congrArg some t91)
            exact Reg.step_off ((Reg.wanted_is rfl rfl e91).trans rfl) rfl
          · intro ac w' hb hd hk   -- 29
            replace hb := Reg.below_undrew hb
            obtain ⟨v91, e91, t91⟩ := hk.2 4 (by kernel_rfl)
            replace e91 : ac.tmps[91]? = some v91 := e91
            replace e91 : ac.tmps[91]? = some (.bool true) := e91.trans (congrArg some t91)
            obtain ⟨v115, e115, t115⟩ := hk.2 28 (by kernel_rfl)
            replace e115 : ac.tmps[115]? = some v115 := e115
            replace e115 : ac.tmps[115]? = some undef := e115.trans (congrArg some t115)
            obtain ⟨v88, e88, t88⟩ := hk.2 1 (by kernel_rfl)
            replace e88 : ac.tmps[88]? = some v88 := e88
            replace e88 : ac.tmps[88]? = some (.bool true) := e88.trans (congrArg some t88)
            exact Reg.step_value ((Reg.wanted_is rfl rfl e88).trans rfl) (w1 := w') (by go_simp; try rfl) (Below.refl _ _) rfl
          · intro ac w' hb hd hk   -- 30
            replace hb := Reg.below_undrew hb
            obtain ⟨v88, e88, t88⟩ := hk.2 1 (by kernel_rfl)
            replace e88 : ac.tmps[88]? = some v88 := e88
            replace e88 : ac.tmps[88]? = some (.bool true) := e88.trans (congrArg some t88)
            obtain ⟨v116, e116, t116⟩ := hk.2 29 (by kernel_rfl)
            replace e116 : ac.tmps[116]? = some v116 := e116
            replace e116 : ac.tmps[116]? = some (.bool true) := e116.trans (congrArg some t116)
            exact Reg.step_value (Reg.wanted_free rfl) (w1 := w') (by go_simp; try rfl) (Below.refl _ _) rfl
          · intro ac w' hb hd hk   -- 31
            replace hb := Reg.below_undrew hb
            obtain ⟨v117, e117, t117⟩ := hk.2 30 (by kernel_rfl)
            replace e117 : ac.tmps[117]? = some v117 := e117
            replace e117 : ac.tmps[117]? = some (.bool true) := e117.trans (congrArg some t117)
            exact Reg.step_value (Reg.wanted_free rfl) (w1 := w') (by go_simp; try rfl) (Below.refl _ _) rfl
        case fin =>
          intro w' hb
          replace hb := Reg.below_undrew hb
          rintro _ rfl
          rintro _ rfl
          rintro _ rfl
          rintro _ rfl
          rintro _ rfl
          rintro _ rfl
          rintro _ rfl
          rintro _ rfl
          rintro _ rfl
          rintro _ rfl
          rintro _ rfl
          rintro _ rfl
          rintro _ rfl
          rintro _ rfl
          rintro _ rfl
          rintro _ rfl
          rintro _ rfl
          rintro _ rfl
          rintro _ rfl
          rintro _ rfl
          rintro _ rfl
          rintro _ rfl
          rintro _ rfl
          rintro _ rfl
          rintro _ rfl
          rintro _ rfl
          rintro _ rfl
          rintro _ rfl
          rintro _ rfl
          rintro _ rfl
          rintro _ rfl
          rintro _ rfl
          refine Reg.done_nil ?_
          simp only [Act.put, List.setIfInBounds_toArray, List.set_cons_zero, List.set_cons_succ]
          go_wp2
          go_ret
          exact ⟨rfl, HBX.out.trans (hb.mono HBX.out.size)⟩
    by_cases hz : e = 0
    · subst hz
      obtain ⟨ho2, ho1, ha0, hap, hpl, hpe, ht⟩ := readRows_back HBY.out HR.out
      obtain rfl := werr_no HE.out rfl
      have hcut := cut_is (A0 := A0) hc0 ha0 hpl hpe ht
      clear ht hpe
      obtain ⟨A', c', hsl, hsc⟩ := hcut
      refine Reg.region_inv (Reg.tab [(Reg.Is .nilIface), (Reg.Is (.bool true)), (Reg.Is (.bool true)), (Reg.Is (.int .i64 a)), (Reg.Is (.bool false)), (Reg.Is (.bool false)), (Reg.Is (.int .i64 p)), (Reg.Is (.slice A0 l0.length c0)), (Reg.Is (.int .i64 (l0.length : Int))), (Reg.Is (.bool false)), (Reg.Is (.bool false)), (Reg.Is (.bool false)), (Reg.Is (.int .i64 p)), (Reg.Is (.int .i64 a)), (Reg.Is (.bool false)), (Reg.Is (.bool false)), (Reg.Is (.bool false)), (Reg.Is (.slice Ar rs.length cr)), (fun v w' => Kd.R (Kd.int .u8) 5 w' w3.heap.size (fun _ => True) v (encR rs)), (Reg.Is (.string (strOfNums (encR rs)))), (Reg.Is (.slice A0 l0.length c0)), (Reg.Is (.int .i64 a)), (Reg.Is (.int .i64 p)), (Reg.Is (.slice A' (encR rs).length c')), (Reg.Is (.string (strOfNums (encR rs)))), (Reg.Is (.bool false)), (Reg.Is (.bool false)), (Reg.Is (.bool false))]) (by kernel_rfl) (by kernel_rfl) (Reg.tab_mono ?mono) ?steps ?fin
      case mono => exact ⟨Reg.Is.mono _, Reg.Is.mono _, Reg.Is.mono _, Reg.Is.mono _, Reg.Is.mono _, Reg.Is.mono _, Reg.Is.mono _, Reg.Is.mono _, Reg.Is.mono _, Reg.Is.mono _, Reg.Is.mono _, Reg.Is.mono _, Reg.Is.mono _, Reg.Is.mono _, Reg.Is.mono _, Reg.Is.mono _, Reg.Is.mono _, Reg.Is.mono _, (fun _ _ _ hb h => Kd.R_below h hb), Reg.Is.mono _, Reg.Is.mono _, Reg.Is.mono _, Reg.Is.mono _, Reg.Is.mono _, Reg.Is.mono _, Reg.Is.mono _, Reg.Is.mono _, Reg.Is.mono _, trivial⟩
      case steps =>
        refine ⟨?_, ?_, ?_, ?_, ?_, ?_, ?_, ?_, ?_, ?_, ?_, ?_, ?_, ?_, ?_, ?_, ?_, ?_, ?_, ?_, ?_, ?_, ?_, ?_, ?_, ?_, ?_, ?_, trivial⟩
        · intro ac w' hb hd hk   -- 0
          replace hb := Reg.below_undrew hb
          have e7 : ac.tmps[7]? = some .nilIface := (hk.1 7 (by kernel_rfl)).trans rfl
          exact Reg.step_value (Reg.wanted_free rfl) (w1 := w') (by go_simp; try rfl) (Below.refl _ _) rfl
        · intro ac w' hb hd hk   -- 1
          replace hb := Reg.below_undrew hb
          obtain ⟨v52, e52, t52⟩ := hk.2 0 (by kernel_rfl)
          replace e52 : ac.tmps[52]? = some v52 := e52
          replace e52 : ac.tmps[52]? = some .nilIface := e52.trans (congrArg some t52)
          exact Reg.step_value (Reg.wanted_free rfl) (w1 := w') (by go_simp; try rfl) (Below.refl _ _) rfl
        · intro ac w' hb hd hk   -- 2
          replace hb := Reg.below_undrew hb
          obtain ⟨v53, e53, t53⟩ := hk.2 1 (by kernel_rfl)
          replace e53 : ac.tmps[53]? = some v53 := e53
          replace e53 : ac.tmps[53]? = some (.bool true) := e53.trans (congrArg some t53)
          exact Reg.step_value (Reg.wanted_free rfl) (w1 := w') (by go_simp; try rfl) (Below.refl _ _) rfl
        · intro ac w' hb hd hk   -- 3
          replace hb := Reg.below_undrew hb
          have e1 : ac.tmps[1]? = some (.int .i64 a) := (hk.1 1 (by kernel_rfl)).trans rfl
          obtain ⟨v54, e54, t54⟩ := hk.2 2 (by kernel_rfl)
          replace e54 : ac.tmps[54]? = some v54 := e54
          replace e54 : ac.tmps[54]? = some (.bool true) := e54.trans (congrArg some t54)
          exact Reg.step_value ((Reg.wanted_is rfl rfl e54).trans rfl) (w1 := w') (by go_simp; try rfl) (Below.refl _ _) rfl
        · intro ac w' hb hd hk   -- 4
          replace hb := Reg.below_undrew hb
          obtain ⟨v55, e55, t55⟩ := hk.2 3 (by kernel_rfl)
          replace e55 : ac.tmps[55]? = some v55 := e55
          replace e55 : ac.tmps[55]? = some (.int .i64 a) := e55.trans (congrArg some t55)
          obtain ⟨v54, e54, t54⟩ := hk.2 2 (by kernel_rfl)
          replace e54 : ac.tmps[54]? = some v54 := e54
          replace e54 : ac.tmps[54]? = some (.bool true) := e54.trans (congrArg some t54)
          have hx : decide (a < 0) = false := decide_eq_false (by omega)
          exact Reg.step_value ((Reg.wanted_is rfl rfl e54).trans rfl) (w1 := w') (by go_simp; try rfl) (Below.refl _ _) rfl
        · intro ac w' hb hd hk   -- 5
          replace hb := Reg.below_undrew hb
          obtain ⟨v56, e56, t56⟩ := hk.2 4 (by kernel_rfl)
          replace e56 : ac.tmps[56]? = some v56 := e56
          replace e56 : ac.tmps[56]? = some (.bool false) := e56.trans (congrArg some t56)
          obtain ⟨v54, e54, t54⟩ := hk.2 2 (by kernel_rfl)
          replace e54 : ac.tmps[54]? = some v54 := e54
          replace e54 : ac.tmps[54]? = some (.bool true) := e54.trans (congrArg some t54)
          exact Reg.step_value ((Reg.wanted_is rfl rfl e54).trans rfl) (w1 := w') (by go_simp; try rfl) (Below.refl _ _) rfl
        · intro ac w' hb hd hk   -- 6
          replace hb := Reg.below_undrew hb
          have e6 : ac.tmps[6]? = some (.int .i64 p) := (hk.1 6 (by kernel_rfl)).trans rfl
          obtain ⟨v57, e57, t57⟩ := hk.2 5 (by kernel_rfl)
          replace e57 : ac.tmps[57]? = some v57 := e57
          replace e57 : ac.tmps[57]? = some (.bool false) := e57.trans (congrArg some t57)
          exact Reg.step_value ((Reg.wanted_is rfl rfl e57).trans rfl) (w1 := w') (by go_simp; try rfl) (Below.refl _ _) rfl
        · intro ac w' hb hd hk   -- 7
          replace hb := Reg.below_undrew hb
          have e0 : ac.tmps[0]? = some (.slice A0 l0.length c0) := (hk.1 0 (by kernel_rfl)).trans rfl
          obtain ⟨v57, e57, t57⟩ := hk.2 5 (by kernel_rfl)
          replace e57 : ac.tmps[57]? = some v57 := e57
          replace e57 : ac.tmps[57]? = some (.bool false) := e57.trans (congrArg some t57)
          exact Reg.step_value ((Reg.wanted_is rfl rfl e57).trans rfl) (w1 := w') (by go_simp; try rfl) (Below.refl _ _) rfl
        · intro ac w' hb hd hk   -- 8
          replace hb := Reg.below_undrew hb
          obtain ⟨v59, e59, t59⟩ := hk.2 7 (by kernel_rfl)
          replace e59 : ac.tmps[59]? = some v59 := e59
          replace e59 : ac.tmps[59]? = some (.slice A0 l0.length c0) := e59.trans (congrArg some t59)
          obtain ⟨v57, e57, t57⟩ := hk.2 5 (by kernel_rfl)
          replace e57 : ac.tmps[57]? = some v57 := e57
          replace e57 : ac.tmps[57]? = some (.bool false) := e57.trans (congrArg some t57)
          exact Reg.step_value ((Reg.wanted_is rfl rfl e57).trans rfl) (w1 := w') (by go_simp; try rfl) (Below.refl _ _) rfl
        · intro ac w' hb hd hk   -- 9
          replace hb := Reg.below_undrew hb
          obtain ⟨v58, e58, t58⟩ := hk.2 6 (by kernel_rfl)
          replace e58 : ac.tmps[58]? = some v58 := e58
          replace e58 : ac.tmps[58]? = some (.int .i64 p) := e58.trans (congrArg some t58)
          obtain ⟨v60, e60, t60⟩ := hk.2 8 (by kernel_rfl)
          replace e60 : ac.tmps[60]? = some v60 := e60
          replace e60 : ac.tmps[60]? = some (.int .i64 (l0.length : Int)) := e60.trans (congrArg some t60)
          obtain ⟨v57, e57, t57⟩ := hk.2 5 (by kernel_rfl)
          replace e57 : ac.tmps[57]? = some v57 := e57
          replace e57 : ac.tmps[57]? = some (.bool false) := e57.trans (congrArg some t57)
          have hx : decide ((l0.length : Int) < p) = false := decide_eq_false (by omega)
          exact Reg.step_value ((Reg.wanted_is rfl rfl e57).trans rfl) (w1 := w') (by go_simp; try rfl) (Below.refl _ _) rfl
        · intro ac w' hb hd hk   -- 10
          replace hb := Reg.below_undrew hb
          obtain ⟨v57, e57, t57⟩ := hk.2 5 (by kernel_rfl)
          replace e57 : ac.tmps[57]? = some v57 := e57
          replace e57 : ac.tmps[57]? = some (.bool false) := e57.trans (congrArg some t57)
          obtain ⟨v61, e61, t61⟩ := hk.2 9 (by kernel_rfl)
          replace e61 : ac.tmps[61]? = some v61 := e61
          replace e61 : ac.tmps[61]? = some (.bool false) := e61.trans (congrArg some t61)
          obtain ⟨v54, e54, t54⟩ := hk.2 2 (by kernel_rfl)
          replace e54 : ac.tmps[54]? = some v54 := e54
          replace e54 : ac.tmps[54]? = some (.bool true) := e54.trans (congrArg some t54)
          exact Reg.step_value ((Reg.wanted_is rfl rfl e54).trans rfl) (w1 := w') (by go_simp; try rfl) (Below.refl _ _) rfl
        · intro ac w' hb hd hk   -- 11
          replace hb := Reg.below_undrew hb
          obtain ⟨v62, e62, t62⟩ := hk.2 10 (by kernel_rfl)
          replace e62 : ac.tmps[62]? = some v62 := e62
          replace e62 : ac.tmps[62]? = some (.bool false) := e62.trans (congrArg some t62)
          obtain ⟨v54, e54, t54⟩ := hk.2 2 (by kernel_rfl)
          replace e54 : ac.tmps[54]? = some v54 := e54
          replace e54 : ac.tmps[54]? = some (.bool true) := e54.trans (congrArg some t54)
          exact Reg.step_value ((Reg.wanted_is rfl rfl e54).trans rfl) (w1 := w') (by go_simp; try rfl) (Below.refl _ _) rfl
        · intro ac w' hb hd hk   -- 12
          replace hb := Reg.below_undrew hb
          have e6 : ac.tmps[6]? = some (.int .i64 p) := (hk.1 6 (by kernel_rfl)).trans rfl
          obtain ⟨v63, e63, t63⟩ := hk.2 11 (by kernel_rfl)
          replace e63 : ac.tmps[63]? = some v63 := e63
          replace e63 : ac.tmps[63]? = some (.bool false) := e63.trans (congrArg some t63)
          exact Reg.step_value ((Reg.wanted_is rfl rfl e63).trans rfl) (w1 := w') (by go_simp; try rfl) (Below.refl _ _) rfl
        · intro ac w' hb hd hk   -- 13
          replace hb := Reg.below_undrew hb
          have e1 : ac.tmps[1]? = some (.int .i64 a) := (hk.1 1 (by kernel_rfl)).trans rfl
          obtain ⟨v63, e63, t63⟩ := hk.2 11 (by kernel_rfl)
          replace e63 : ac.tmps[63]? = some v63 := e63
          replace e63 : ac.tmps[63]? = some (.bool false) := e63.trans (congrArg some t63)
          exact Reg.step_value ((Reg.wanted_is rfl rfl e63).trans rfl) (w1 := w') (by go_simp; try rfl) (Below.refl _ _) rfl
        · intro ac w' hb hd hk   -- 14
          replace hb := Reg.below_undrew hb
          obtain ⟨v64, e64, t64⟩ := hk.2 12 (by kernel_rfl)
          replace e64 : ac.tmps[64]? = some v64 := e64
          replace e64 : ac.tmps[64]? = some (.int .i64 p) := e64.trans (congrArg some t64)
          obtain ⟨v65, e65, t65⟩ := hk.2 13 (by kernel_rfl)
          replace e65 : ac.tmps[65]? = some v65 := e65
          replace e65 : ac.tmps[65]? = some (.int .i64 a) := e65.trans (congrArg some t65)
          obtain ⟨v63, e63, t63⟩ := hk.2 11 (by kernel_rfl)
          replace e63 : ac.tmps[63]? = some v63 := e63
          replace e63 : ac.tmps[63]? = some (.bool false) := e63.trans (congrArg some t63)
          have hx : decide (p ≤ a) = false := decide_eq_false (by omega)
          exact Reg.step_value ((Reg.wanted_is rfl rfl e63).trans rfl) (w1 := w') (by go_simp; try rfl) (Below.refl _ _) rfl
        · intro ac w' hb hd hk   -- 15
          replace hb := Reg.below_undrew hb
          obtain ⟨v63, e63, t63⟩ := hk.2 11 (by kernel_rfl)
          replace e63 : ac.tmps[63]? = some v63 := e63
          replace e63 : ac.tmps[63]? = some (.bool false) := e63.trans (congrArg some t63)
          obtain ⟨v66, e66, t66⟩ := hk.2 14 (by kernel_rfl)
          replace e66 : ac.tmps[66]? = some v66 := e66
          replace e66 : ac.tmps[66]? = some (.bool false) := e66.trans (congrArg some t66)
          obtain ⟨v54, e54, t54⟩ := hk.2 2 (by kernel_rfl)
          replace e54 : ac.tmps[54]? = some v54 := e54
          replace e54 : ac.tmps[54]? = some (.bool true) := e54.trans (congrArg some t54)
          exact Reg.step_value ((Reg.wanted_is rfl rfl e54).trans rfl) (w1 := w') (by go_simp; try rfl) (Below.refl _ _) rfl
        · intro ac w' hb hd hk   -- 16
          replace hb := Reg.below_undrew hb
          obtain ⟨v67, e67, t67⟩ := hk.2 15 (by kernel_rfl)
          replace e67 : ac.tmps[67]? = some v67 := e67
          replace e67 : ac.tmps[67]? = some (.bool false) := e67.trans (congrArg some t67)
          obtain ⟨v54, e54, t54⟩ := hk.2 2 (by kernel_rfl)
          replace e54 : ac.tmps[54]? = some v54 := e54
          replace e54 : ac.tmps[54]? = some (.bool true) := e54.trans (congrArg some t54)
          exact Reg.step_value ((Reg.wanted_is rfl rfl e54).trans rfl) (w1 := w') (by go_simp; try rfl) (Below.refl _ _) rfl
        · intro ac w' hb hd hk   -- 17
          replace hb := Reg.below_undrew hb
          have e8 : ac.tmps[8]? = some (.slice Ar rs.length cr) := (hk.1 8 (by kernel_rfl)).trans rfl
          obtain ⟨v68, e68, t68⟩ := hk.2 16 (by kernel_rfl)
          replace e68 : ac.tmps[68]? = some v68 := e68
          replace e68 : ac.tmps[68]? = some (.bool false) := e68.trans (congrArg some t68)
          exact Reg.step_value ((Reg.wanted_is rfl rfl e68).trans rfl) (w1 := w') (by go_simp; try rfl) (Below.refl _ _) rfl
        · intro ac w' hb hd hk   -- 18
          replace hb := Reg.below_undrew hb
          obtain ⟨v69, e69, t69⟩ := hk.2 17 (by kernel_rfl)
          replace e69 : ac.tmps[69]? = some v69 := e69
          replace e69 : ac.tmps[69]? = some (.slice Ar rs.length cr) := e69.trans (congrArg some t69)
          obtain ⟨v68, e68, t68⟩ := hk.2 16 (by kernel_rfl)
          replace e68 : ac.tmps[68]? = some v68 := e68
          replace e68 : ac.tmps[68]? = some (.bool false) := e68.trans (congrArg some t68)
          refine Reg.step_call ((Reg.wanted_is rfl rfl e68).trans rfl) (by go_simp; try rfl) ((wire_Rows.calls 80 Ar cr rs _ _ (Kd.R_reads' (Kd.R_below HRR.out hb)).2.2 (Kd.R_reads' HRR.out).2.1 (wire_Rows_f rs ho1 ho2 80 (by decide))).mono ?_)
          rintro en w4 ⟨v0, rfl, ho, hb4⟩
          exact ⟨_, rfl, Kd.R_lower ho hb.size, hb4⟩
        · intro ac w' hb hd hk   -- 19
          replace hb := Reg.below_undrew hb
          obtain ⟨v70, e70, t70⟩ := hk.2 18 (by kernel_rfl)
          replace e70 : ac.tmps[70]? = some v70 := e70
          replace t70 : (fun v w' => Kd.R (Kd.int .u8) 5 w' w3.heap.size (fun _ => True) v (encR rs)) v70 w' := t70
          obtain ⟨v68, e68, t68⟩ := hk.2 16 (by kernel_rfl)
          replace e68 : ac.tmps[68]? = some v68 := e68
          replace e68 : ac.tmps[68]? = some (.bool false) := e68.trans (congrArg some t68)
          have hcv := own_string (P := Tryd.prog) Tryd.underlying22 Tryd.underlying5 Tryd.underlying9 (Kd.own_of_R t70)
          exact Reg.step_value ((Reg.wanted_is rfl rfl e68).trans rfl) (w1 := w') (by go_simp; try rfl) (Below.refl _ _) rfl
        · intro ac w' hb hd hk   -- 20
          replace hb := Reg.below_undrew hb
          have e0 : ac.tmps[0]? = some (.slice A0 l0.length c0) := (hk.1 0 (by kernel_rfl)).trans rfl
          obtain ⟨v68, e68, t68⟩ := hk.2 16 (by kernel_rfl)
          replace e68 : ac.tmps[68]? = some v68 := e68
          replace e68 : ac.tmps[68]? = some (.bool false) := e68.trans (congrArg some t68)
          exact Reg.step_value ((Reg.wanted_is rfl rfl e68).trans rfl) (w1 := w') (by go_simp; try rfl) (Below.refl _ _) rfl
        · intro ac w' hb hd hk   -- 21
          replace hb := Reg.below_undrew hb
          have e1 : ac.tmps[1]? = some (.int .i64 a) := (hk.1 1 (by kernel_rfl)).trans rfl
          obtain ⟨v68, e68, t68⟩ := hk.2 16 (by kernel_rfl)
          replace e68 : ac.tmps[68]? = some v68 := e68
          replace e68 : ac.tmps[68]? = some (.bool false) := e68.trans (congrArg some t68)
          exact Reg.step_value ((Reg.wanted_is rfl rfl e68).trans rfl) (w1 := w') (by go_simp; try rfl) (Below.refl _ _) rfl
        · intro ac w' hb hd hk   -- 22
          replace hb := Reg.below_undrew hb
          have e6 : ac.tmps[6]? = some (.int .i64 p) := (hk.1 6 (by kernel_rfl)).trans rfl
          obtain ⟨v68, e68, t68⟩ := hk.2 16 (by kernel_rfl)
          replace e68 : ac.tmps[68]? = some v68 := e68
          replace e68 : ac.tmps[68]? = some (.bool false) := e68.trans (congrArg some t68)
          exact Reg.step_value ((Reg.wanted_is rfl rfl e68).trans rfl) (w1 := w') (by go_simp; try rfl) (Below.refl _ _) rfl
        · intro ac w' hb hd hk   -- 23
          replace hb := Reg.below_undrew hb
          obtain ⟨v72, e72, t72⟩ := hk.2 20 (by kernel_rfl)
          replace e72 : ac.tmps[72]? = some v72 := e72
          replace e72 : ac.tmps[72]? = some (.slice A0 l0.length c0) := e72.trans (congrArg some t72)
          obtain ⟨v73, e73, t73⟩ := hk.2 21 (by kernel_rfl)
          replace e73 : ac.tmps[73]? = some v73 := e73
          replace e73 : ac.tmps[73]? = some (.int .i64 a) := e73.trans (congrArg some t73)
          obtain ⟨v74, e74, t74⟩ := hk.2 22 (by kernel_rfl)
          replace e74 : ac.tmps[74]? = some v74 := e74
          replace e74 : ac.tmps[74]? = some (.int .i64 p) := e74.trans (congrArg some t74)
          obtain ⟨v68, e68, t68⟩ := hk.2 16 (by kernel_rfl)
          replace e68 : ac.tmps[68]? = some v68 := e68
          replace e68 : ac.tmps[68]? = some (.bool false) := e68.trans (congrArg some t68)
          have hx := hsl
          exact Reg.step_value ((Reg.wanted_is rfl rfl e68).trans rfl) (w1 := w') (by go_simp; try rfl) (Below.refl _ _) rfl
        · intro ac w' hb hd hk   -- 24
          replace hb := Reg.below_undrew hb
          obtain ⟨v75, e75, t75⟩ := hk.2 23 (by kernel_rfl)
          replace e75 : ac.tmps[75]? = some v75 := e75
          replace e75 : ac.tmps[75]? = some (.slice A' (encR rs).length c') := e75.trans (congrArg some t75)
          obtain ⟨v68, e68, t68⟩ := hk.2 16 (by kernel_rfl)
          replace e68 : ac.tmps[68]? = some v68 := e68
          replace e68 : ac.tmps[68]? = some (.bool false) := e68.trans (congrArg some t68)
          have hcv := Kd.C_string (P := Tryd.prog) (A := A') (c := c') Tryd.underlying22 Tryd.underlying5 Tryd.underlying9 (hsc _ (Kd.C_below HR0.out (HBX.out.trans (hb.mono HBX.out.size))))
          exact Reg.step_value ((Reg.wanted_is rfl rfl e68).trans rfl) (w1 := w') (by go_simp; try rfl) (Below.refl _ _) rfl
        · intro ac w' hb hd hk   -- 25
          replace hb := Reg.below_undrew hb
          obtain ⟨v71, e71, t71⟩ := hk.2 19 (by kernel_rfl)
          replace e71 : ac.tmps[71]? = some v71 := e71
          replace e71 : ac.tmps[71]? = some (.string (strOfNums (encR rs))) := e71.trans (congrArg some t71)
          obtain ⟨v76, e76, t76⟩ := hk.2 24 (by kernel_rfl)
          replace e76 : ac.tmps[76]? = some v76 := e76
          replace e76 : ac.tmps[76]? = some (.string (strOfNums (encR rs))) := e76.trans (congrArg some t76)
          obtain ⟨v68, e68, t68⟩ := hk.2 16 (by kernel_rfl)
          replace e68 : ac.tmps[68]? = some v68 := e68
          replace e68 : ac.tmps[68]? = some (.bool false) := e68.trans (congrArg some t68)
          exact Reg.step_value ((Reg.wanted_is rfl rfl e68).trans rfl) (w1 := w') (by go_simp; try rfl) (Below.refl _ _) rfl
        · intro ac w' hb hd hk   -- 26
          replace hb := Reg.below_undrew hb
          obtain ⟨v68, e68, t68⟩ := hk.2 16 (by kernel_rfl)
          replace e68 : ac.tmps[68]? = some v68 := e68
          replace e68 : ac.tmps[68]? = some (.bool false) := e68.trans (congrArg some t68)
          obtain ⟨v77, e77, t77⟩ := hk.2 25 (by kernel_rfl)
          replace e77 : ac.tmps[77]? = some v77 := e77
          replace e77 : ac.tmps[77]? = some (.bool false) := e77.trans (congrArg some t77)
          obtain ⟨v54, e54, t54⟩ := hk.2 2 (by kernel_rfl)
          replace e54 : ac.tmps[54]? = some v54 := e54
          replace e54 : ac.tmps[54]? = some (.bool true) := e54.trans (congrArg some t54)
          exact Reg.step_value ((Reg.wanted_is rfl rfl e54).trans rfl) (w1 := w') (by go_simp; try rfl) (Below.refl _ _) rfl
        · intro ac w' hb hd hk   -- 27
          replace hb := Reg.below_undrew hb
          obtain ⟨v54, e54, t54⟩ := hk.2 2 (by kernel_rfl)
          replace e54 : ac.tmps[54]? = some v54 := e54
          replace e54 : ac.tmps[54]? = some (.bool true) := e54.trans (congrArg some t54)
          obtain ⟨v78, e78, t78⟩ := hk.2 26 (by kernel_rfl)
          replace e78 : ac.tmps[78]? = some v78 := e78
          replace e78 : ac.tmps[78]? = some (.bool false) := e78.trans (congrArg some t78)
          exact Reg.step_value (Reg.wanted_free rfl) (w1 := w') (by go_simp; try rfl) (Below.refl _ _) rfl
      case fin =>
        intro w' hb
        replace hb := Reg.below_undrew hb
        rintro _ rfl
        rintro _ rfl
        rintro _ rfl
        rintro _ rfl
        rintro _ rfl
        rintro _ rfl
        rintro _ rfl
        rintro _ rfl
        rintro _ rfl
        rintro _ rfl
        rintro _ rfl
        rintro _ rfl
        rintro _ rfl
        rintro _ rfl
        rintro _ rfl
        rintro _ rfl
        rintro _ rfl
        rintro _ rfl
        intro v18 h18
        rintro _ rfl
        rintro _ rfl
        rintro _ rfl
        rintro _ rfl
        rintro _ rfl
        rintro _ rfl
        rintro _ rfl
        rintro _ rfl
        rintro _ rfl
        refine Reg.done_nil ?_
        simp only [Act.put, List.setIfInBounds_toArray, List.set_cons_zero, List.set_cons_succ]
        exact next5 w' (HBX.out.trans (hb.mono HBX.out.size)) _ _ _ _ _ _ _ _ _ _ _ _ _ _ _ _ _ _ _ _ _ _ _ _ _ _ _ _ _ _ _ _ _ _ _ _ _ _ _ _ _ _ _ _ _ _ _ _ _ _ _ _ _ _ _ _ _ _ _ _ _ _ _ _ _ _ _ _ _ _ _ _ _
    · obtain ⟨tt, uu, hve⟩ := (werr_yes HE.out hz).ne_nil
      subst hve
      refine Reg.region_inv (Reg.tab [(Reg.Is (.iface tt uu)), (Reg.Is (.bool false)), (Reg.Is (.bool false)), (Reg.Is undef), (Reg.Is undef), (Reg.Is undef), (Reg.Is undef), (Reg.Is undef), (Reg.Is undef), (Reg.Is undef), (Reg.Is undef), (Reg.Is undef), (Reg.Is undef), (Reg.Is undef), (Reg.Is undef), (Reg.Is undef), (Reg.Is undef), (Reg.Is undef), (Reg.Is undef), (Reg.Is undef), (Reg.Is undef), (Reg.Is undef), (Reg.Is undef), (Reg.Is undef), (Reg.Is undef), (Reg.Is undef), (Reg.Is undef), (Reg.Is (.bool false))]) (by kernel_rfl) (by kernel_rfl) (Reg.tab_mono ?mono) ?steps ?fin
      case mono => exact ⟨Reg.Is.mono _, Reg.Is.mono _, Reg.Is.mono _, Reg.Is.mono _, Reg.Is.mono _, Reg.Is.mono _, Reg.Is.mono _, Reg.Is.mono _, Reg.Is.mono _, Reg.Is.mono _, Reg.Is.mono _, Reg.Is.mono _, Reg.Is.mono _, Reg.Is.mono _, Reg.Is.mono _, Reg.Is.mono _, Reg.Is.mono _, Reg.Is.mono _, Reg.Is.mono _, Reg.Is.mono _, Reg.Is.mono _, Reg.Is.mono _, Reg.Is.mono _, Reg.Is.mono _, Reg.Is.mono _, Reg.Is.mono _, Reg.Is.mono _, Reg.Is.mono _, trivial⟩
      case steps =>
        refine ⟨?_, ?_, ?_, ?_, ?_, ?_, ?_, ?_, ?_, ?_, ?_, ?_, ?_, ?_, ?_, ?_, ?_, ?_, ?_, ?_, ?_, ?_, ?_, ?_, ?_, ?_, ?_, ?_, trivial⟩
        · intro ac w' hb hd hk   -- 0
          replace hb := Reg.below_undrew hb
          have e7 : ac.tmps[7]? = some (.iface tt uu) := (hk.1 7 (by kernel_rfl)).trans rfl
          exact Reg.step_value (Reg.wanted_free rfl) (w1 := w') (by go_simp; try rfl) (Below.refl _ _) rfl
        · intro ac w' hb hd hk   -- 1
          replace hb := Reg.below_undrew hb
          obtain ⟨v52, e52, t52⟩ := hk.2 0 (by kernel_rfl)
          replace e52 : ac.tmps[52]? = some v52 := e52
          replace e52 : ac.tmps[52]? = some (.iface tt uu) := e52.trans (congrArg some t52)
          exact Reg.step_value (Reg.wanted_free rfl) (w1 := w') (by go_simp; try rfl) (Below.refl _ _) rfl
        · intro ac w' hb hd hk   -- 2
          replace hb := Reg.below_undrew hb
          obtain ⟨v53, e53, t53⟩ := hk.2 1 (by kernel_rfl)
          replace e53 : ac.tmps[53]? = some v53 := e53
          replace e53 : ac.tmps[53]? = some (.bool false) := e53.trans (congrArg some t53)
          exact Reg.step_value (Reg.wanted_free rfl) (w1 := w') (by go_simp; try rfl) (Below.refl _ _) rfl
        · intro ac w' hb hd hk   -- 3
          replace hb := Reg.below_undrew hb
          obtain ⟨v54, e54, t54⟩ := hk.2 2 (by kernel_rfl)
          replace e54 : ac.tmps[54]? = some v54 := e54
          replace e54 : ac.tmps[54]? = some (.bool false) := e54.trans (congrArg some t54)
          exact Reg.step_off ((Reg.wanted_is rfl rfl e54).trans rfl) rfl
        · intro ac w' hb hd hk   -- 4
          replace hb := Reg.below_undrew hb
          obtain ⟨v54, e54, t54⟩ := hk.2 2 (by kernel_rfl)
          replace e54 : ac.tmps[54]? = some v54 := e54
          replace e54 : ac.tmps[54]? = some (.bool false) := e54.trans (congrArg some t54)
          exact Reg.step_off ((Reg.wanted_is rfl rfl e54).trans rfl) rfl
        · intro ac w' hb hd hk   -- 5
          replace hb := Reg.below_undrew hb
          obtain ⟨v54, e54, t54⟩ := hk.2 2 (by kernel_rfl)
          replace e54 : ac.tmps[54]? = some v54 := e54
          replace e54 : ac.tmps[54]? = some (.bool false) := e54.trans (congrArg some t54)
          exact Reg.step_off ((Reg.wanted_is rfl rfl e54).trans rfl) rfl
        · intro ac w' hb hd hk   -- 6
          replace hb := Reg.below_undrew hb
          obtain ⟨v57, e57, t57⟩ := hk.2 5 (by kernel_rfl)
          replace e57 : ac.tmps[57]? = some v57 := e57
          replace e57 : ac.tmps[57]? = some undef := e57.trans (congrArg some t57)
          exact Reg.step_off (Reg.wanted_undef rfl rfl e57) rfl
        · intro ac w' hb hd hk   -- 7
          replace hb := Reg.below_undrew hb
          obtain ⟨v57, e57, t57⟩ := hk.2 5 (by kernel_rfl)
          replace e57 : ac.tmps[57]? = some v57 := e57
          replace e57 : ac.tmps[57]? = some undef := e57.trans (congrArg some t57)
          exact Reg.step_off (Reg.wanted_undef rfl rfl e57) rfl
        · intro ac w' hb hd hk   -- 8
          replace hb := Reg.below_undrew hb
          obtain ⟨v57, e57, t57⟩ := hk.2 5 (by kernel_rfl)
          replace e57 : ac.tmps[57]? = some v57 := e57
          replace e57 : ac.tmps[57]? = some undef := e57.trans (congrArg some t57)
          exact Reg.step_off (Reg.wanted_undef rfl rfl e57) rfl
        · intro ac w' hb hd hk   -- 9
          replace hb := Reg.below_undrew hb
          obtain ⟨v57, e57, t57⟩ := hk.2 5 (by kernel_rfl)
          replace e57 : ac.tmps[57]? = some v57 := e57
          replace e57 : ac.tmps[57]? = some undef := e57.trans (congrArg some t57)
          exact Reg.step_off (Reg.wanted_undef rfl rfl e57) rfl
        · intro ac w' hb hd hk   -- 10
          replace hb := Reg.below_undrew hb
          obtain ⟨v54, e54, t54⟩ := hk.2 2 (by kernel_rfl)
          replace e54 : ac.tmps[54]? = some v54 := e54
          replace e54 : ac.tmps[54]? = some (.bool false) := e54.trans (congrArg some t54)
          exact Reg.step_off ((Reg.wanted_is rfl rfl e54).trans rfl) rfl
        · intro ac w' hb hd hk   -- 11
          replace hb := Reg.below_undrew hb
          obtain ⟨v54, e54, t54⟩ := hk.2 2 (by kernel_rfl)
          replace e54 : ac.tmps[54]? = some v54 := e54
          replace e54 : ac.tmps[54]? = some (.bool false) := e54.trans (congrArg some t54)
          exact Reg.step_off ((Reg.wanted_is rfl rfl e54).trans rfl) rfl
        · intro ac w' hb hd hk   -- 12
          replace hb := Reg.below_undrew hb
          obtain ⟨v63, e63, t63⟩ := hk.2 11 (by kernel_rfl)
          replace e63 : ac.tmps[63]? = some v63 := e63
          replace e63 : ac.tmps[63]? = some undef := e63.trans (congrArg some t63)
          exact Reg.step_off (Reg.wanted_undef rfl rfl e63) rfl
        · intro ac w' hb hd hk   -- 13
          replace hb := Reg.below_undrew hb
          obtain ⟨v63, e63, t63⟩ := hk.2 11 (by kernel_rfl)
          replace e63 : ac.tmps[63]? = some v63 := e63
          replace e63 : ac.tmps[63]? = some undef := e63.trans (congrArg some t63)
          exact Reg.step_off (Reg.wanted_undef rfl rfl e63) rfl
        · intro ac w' hb hd hk   -- 14
          replace hb := Reg.below_undrew hb
          obtain ⟨v63, e63, t63⟩ := hk.2 11 (by kernel_rfl)
          replace e63 : ac.tmps[63]? = some v63 := e63
          replace e63 : ac.tmps[63]? = some undef := e63.trans (congrArg some t63)
          exact Reg.step_off (Reg.wanted_undef rfl rfl e63) rfl
        · intro ac w' hb hd hk   -- 15
          replace hb := Reg.below_undrew hb
          obtain ⟨v54, e54, t54⟩ := hk.2 2 (by kernel_rfl)
          replace e54 : ac.tmps[54]? = some v54 := e54
          replace e54 : ac.tmps[54]? = some (.bool false) := e54.trans (congrArg some t54)
          exact Reg.step_off ((Reg.wanted_is rfl rfl e54).trans rfl) rfl
        · intro ac w' hb hd hk   -- 16
          replace hb := Reg.below_undrew hb
          obtain ⟨v54, e54, t54⟩ := hk.2 2 (by kernel_rfl)
          replace e54 : ac.tmps[54]? = some v54 := e54
          replace e54 : ac.tmps[54]? = some (.bool false) := e54.trans (congrArg some t54)
          exact Reg.step_off ((Reg.wanted_is rfl rfl e54).trans rfl) rfl
        · intro ac w' hb hd hk   -- 17
          replace hb := Reg.below_undrew hb
          obtain ⟨v68, e68, t68⟩ := hk.2 16 (by kernel_rfl)
          replace e68 : ac.tmps[68]? = some v68 := e68
          replace e68 : ac.tmps[68]? = some undef := e68.trans (congrArg some t68)
          exact Reg.step_off (Reg.wanted_undef rfl rfl e68) rfl
        · intro ac w' hb hd hk   -- 18
          replace hb := Reg.below_undrew hb
          obtain ⟨v68, e68, t68⟩ := hk.2 16 (by kernel_rfl)
          replace e68 : ac.tmps[68]? = some v68 := e68
          replace e68 : ac.tmps[68]? = some undef := e68.trans (congrArg some t68)
          exact Reg.step_off (Reg.wanted_undef rfl rfl e68) rfl
        · intro ac w' hb hd hk   -- 19
          replace hb := Reg.below_undrew hb
          obtain ⟨v68, e68, t68⟩ := hk.2 16 (by kernel_rfl)
          replace e68 : ac.tmps[68]? = some v68 := e68
          replace e68 : ac.tmps[68]? = some undef := e68.trans (congrArg some t68)
          exact Reg.step_off (Reg.wanted_undef rfl rfl e68) rfl
        · intro ac w' hb hd hk   -- 20
          replace hb := Reg.below_undrew hb
          obtain ⟨v68, e68, t68⟩ := hk.2 16 (by kernel_rfl)
          replace e68 : ac.tmps[68]? = some v68 := e68
          replace e68 : ac.tmps[68]? = some undef := e68.trans (congrArg some t68)
          exact Reg.step_off (Reg.wanted_undef rfl rfl e68) rfl
        · intro ac w' hb hd hk   -- 21
          replace hb := Reg.below_undrew hb
          obtain ⟨v68, e68, t68⟩ := hk.2 16 (by kernel_rfl)
          replace e68 : ac.tmps[68]? = some v68 := e68
          replace e68 : ac.tmps[68]? = some undef := e68.trans (congrArg some t68)
          exact Reg.step_off (Reg.wanted_undef rfl rfl e68) rfl
        · intro ac w' hb hd hk   -- 22
          replace hb := Reg.below_undrew hb
          obtain ⟨v68, e68, t68⟩ := hk.2 16 (by kernel_rfl)
          replace e68 : ac.tmps[68]? = some v68 := e68
          replace e68 : ac.tmps[68]? = some undef := e68.trans (congrArg some t68)
          exact Reg.step_off (Reg.wanted_undef rfl rfl e68) rfl
        · intro ac w' hb hd hk   -- 23
          replace hb := Reg.below_undrew hb
          obtain ⟨v68, e68, t68⟩ := hk.2 16 (by kernel_rfl)
          replace e68 : ac.tmps[68]? = some v68 := e68
          replace e68 : ac.tmps[68]? = some undef := e68.trans (congrArg some t68)
          exact Reg.step_off (Reg.wanted_undef rfl rfl e68) rfl
        · intro ac w' hb hd hk   -- 24
          replace hb := Reg.below_undrew hb
          obtain ⟨v68, e68, t68⟩ := hk.2 16 (by kernel_rfl)
          replace e68 : ac.tmps[68]? = some v68 := e68
          replace e68 : ac.tmps[68]? = some undef := e68.trans (congrArg some t68)
          exact Reg.step_off (Reg.wanted_undef rfl rfl e68) rfl
        · intro ac w' hb hd hk   -- 25
          replace hb := Reg.below_undrew hb
          obtain ⟨v68, e68, t68⟩ := hk.2 16 (by kernel_rfl)
          replace e68 : ac.tmps[68]? = some v68 := e68
          replace e68 : ac.tmps[68]? = some undef := e68.trans (congrArg some t68)
          exact Reg.step_off (Reg.wanted_undef rfl rfl e68) rfl
        · intro ac w' hb hd hk   -- 26
          replace hb := Reg.below_undrew hb
          obtain ⟨v54, e54, t54⟩ := hk.2 2 (by kernel_rfl)
          replace e54 : ac.tmps[54]? = some v54 := e54
          replace e54 : ac.tmps[54]? = some (.bool false) := e54.trans (congrArg some t54)
          exact Reg.step_off ((Reg.wanted_is rfl rfl e54).trans rfl) rfl
        · intro ac w' hb hd hk   -- 27
          replace hb := Reg.below_undrew hb
          obtain ⟨v54, e54, t54⟩ := hk.2 2 (by kernel_rfl)
          replace e54 : ac.tmps[54]? = some v54 := e54
          replace e54 : ac.tmps[54]? = some (.bool false) := e54.trans (congrArg some t54)
          obtain ⟨v78, e78, t78⟩ := hk.2 26 (by kernel_rfl)
          replace e78 : ac.tmps[78]? = some v78 := e78
          replace e78 : ac.tmps[78]? = some undef := e78.trans (congrArg some t78)
          exact Reg.step_value (Reg.wanted_free rfl) (w1 := w') (by go_simp; try rfl) (Below.refl _ _) rfl
      case fin =>
        intro w' hb
        replace hb := Reg.below_undrew hb
        rintro _ rfl
        rintro _ rfl
        rintro _ rfl
        rintro _ rfl
        rintro _ rfl
        rintro _ rfl
        rintro _ rfl
        rintro _ rfl
        rintro _ rfl
        rintro _ rfl
        rintro _ rfl
        rintro _ rfl
        rintro _ rfl
        rintro _ rfl
        rintro _ rfl
        rintro _ rfl
        rintro _ rfl
        rintro _ rfl
        rintro _ rfl
        rintro _ rfl
        rintro _ rfl
        rintro _ rfl
        rintro _ rfl
        rintro _ rfl
        rintro _ rfl
        rintro _ rfl
        rintro _ rfl
        rintro _ rfl
        refine Reg.done_nil ?_
        simp only [Act.put, List.setIfInBounds_toArray, List.set_cons_zero, List.set_cons_succ]
        exact next5 w' (HBX.out.trans (hb.mono HBX.out.size)) _ _ _ _ _ _ _ _ _ _ _ _ _ _ _ _ _ _ _ _ _ _ _ _ _ _ _ _ _ _ _ _ _ _ _ _ _ _ _ _ _ _ _ _ _ _ _ _ _ _ _ _ _ _ _ _ _ _ _ _ _ _ _ _ _ _ _ _ _ _ _ _ _
  by_cases hz : e = 0
  · subst hz
    obtain ⟨ho1, ha0, hap, hpl, hpe, ht⟩ := readI_back HBY.out HR.out
    obtain rfl := werr_no HE.out rfl
    have hcut := cut_is (A0 := A0) hc0 ha0 hpl hpe ht
    clear ht hpe
    obtain ⟨A', c', hsl, hsc⟩ := hcut
    refine Reg.region_inv (Reg.tab [(Reg.Is .nilIface), (Reg.Is (.bool true)), (Reg.Is (.bool true)), (Reg.Is (.int .i64 a)), (Reg.Is (.bool false)), (Reg.Is (.bool false)), (Reg.Is (.int .i64 p)), (Reg.Is (.slice A0 l0.length c0)), (Reg.Is (.int .i64 (l0.length : Int))), (Reg.Is (.bool false)), (Reg.Is (.bool false)), (Reg.Is (.bool false)), (Reg.Is (.int .i64 p)), (Reg.Is (.int .i64 a)), (Reg.Is (.bool false)), (Reg.Is (.bool false)), (Reg.Is (.bool false)), (Reg.Is (.int .i64 n)), (fun v w' => Kd.R (Kd.int .u8) 5 w' w1.heap.size (fun _ => True) v (encI n)), (Reg.Is (.string (strOfNums (encI n)))), (Reg.Is (.slice A0 l0.length c0)), (Reg.Is (.int .i64 a)), (Reg.Is (.int .i64 p)), (Reg.Is (.slice A' (encI n).length c')), (Reg.Is (.string (strOfNums (encI n)))), (Reg.Is (.bool false)), (Reg.Is (.bool false)), (Reg.Is (.bool false))]) (by kernel_rfl) (by kernel_rfl) (Reg.tab_mono ?mono) ?steps ?fin
    case mono => exact ⟨Reg.Is.mono _, Reg.Is.mono _, Reg.Is.mono _, Reg.Is.mono _, Reg.Is.mono _, Reg.Is.mono _, Reg.Is.mono _, Reg.Is.mono _, Reg.Is.mono _, Reg.Is.mono _, Reg.Is.mono _, Reg.Is.mono _, Reg.Is.mono _, Reg.Is.mono _, Reg.Is.mono _, Reg.Is.mono _, Reg.Is.mono _, Reg.Is.mono _, (fun _ _ _ hb h => Kd.R_below h hb), Reg.Is.mono _, Reg.Is.mono _, Reg.Is.mono _, Reg.Is.mono _, Reg.Is.mono _, Reg.Is.mono _, Reg.Is.mono _, Reg.Is.mono _, Reg.Is.mono _, trivial⟩
    case steps =>
      refine ⟨?_, ?_, ?_, ?_, ?_, ?_, ?_, ?_, ?_, ?_, ?_, ?_, ?_, ?_, ?_, ?_, ?_, ?_, ?_, ?_, ?_, ?_, ?_, ?_, ?_, ?_, ?_, ?_, trivial⟩
      · intro ac w' hb hd hk   -- 0
        replace hb := Reg.below_undrew hb
        have e7 : ac.tmps[7]? = some .nilIface := (hk.1 7 (by kernel_rfl)).trans rfl
        exact Reg.step_value (Reg.wanted_free rfl) (w1 := w') (by go_simp; try rfl) (Below.refl _ _) rfl
      · intro ac w' hb hd hk   -- 1
        replace hb := Reg.below_undrew hb
        obtain ⟨v17, e17, t17⟩ := hk.2 0 (by kernel_rfl)
        replace e17 : ac.tmps[17]? = some v17 := e17
        replace e17 : ac.tmps[17]? = some .nilIface := e17.trans (congrArg some t17)
        exact Reg.step_value (Reg.wanted_free rfl) (w1 := w') (by go_simp; try rfl) (Below.refl _ _) rfl
      · intro ac w' hb hd hk   -- 2
        replace hb := Reg.below_undrew hb
        obtain ⟨v18, e18, t18⟩ := hk.2 1 (by kernel_rfl)
        replace e18 : ac.tmps[18]? = some v18 := e18
        replace e18 : ac.tmps[18]? = some (.bool true) := e18.trans (congrArg some t18)
        exact Reg.step_value (Reg.wanted_free rfl) (w1 := w') (by go_simp; try rfl) (Below.refl _ _) rfl
      · intro ac w' hb hd hk   -- 3
        replace hb := Reg.below_undrew hb
        have e1 : ac.tmps[1]? = some (.int .i64 a) := (hk.1 1 (by kernel_rfl)).trans rfl
        obtain ⟨v19, e19, t19⟩ := hk.2 2 (by kernel_rfl)
        replace e19 : ac.tmps[19]? = some v19 := e19
        replace e19 : ac.tmps[19]? = some (.bool true) := e19.trans (congrArg some t19)
        exact Reg.step_value ((Reg.wanted_is rfl rfl e19).trans rfl) (w1 := w') (by go_simp; try rfl) (Below.refl _ _) rfl
      · intro ac w' hb hd hk   -- 4
        replace hb := Reg.below_undrew hb
        obtain ⟨v20, e20, t20⟩ := hk.2 3 (by kernel_rfl)
        replace e20 : ac.tmps[20]? = some v20 := e20
        replace e20 : ac.tmps[20]? = some (.int .i64 a) := e20.trans (congrArg some t20)
        obtain ⟨v19, e19, t19⟩ := hk.2 2 (by kernel_rfl)
        replace e19 : ac.tmps[19]? = some v19 := e19
        replace e19 : ac.tmps[19]? = some (.bool true) := e19.trans (congrArg some t19)
        have hx : decide (a < 0) = false := decide_eq_false (by omega)
        exact Reg.step_value ((Reg.wanted_is rfl rfl e19).trans rfl) (w1 := w') (by go_simp; try rfl) (Below.refl _ _) rfl
      · intro ac w' hb hd hk   -- 5
        replace hb := Reg.below_undrew hb
        obtain ⟨v21, e21, t21⟩ := hk.2 4 (by kernel_rfl)
        replace e21 : ac.tmps[21]? = some v21 := e21
        replace e21 : ac.tmps[21]? = some (.bool false) := e21.trans (congrArg some t21)
        obtain ⟨v19, e19, t19⟩ := hk.2 2 (by kernel_rfl)
        replace e19 : ac.tmps[19]? = some v19 := e19
        replace e19 : ac.tmps[19]? = some (.bool true) := e19.trans (congrArg some t19)
        exact Reg.step_value ((Reg.wanted_is rfl rfl e19).trans rfl) (w1 := w') (by go_simp; try rfl) (Below.refl _ _) rfl
      · intro ac w' hb hd hk   -- 6
        replace hb := Reg.below_undrew hb
        have e6 : ac.tmps[6]? = some (.int .i64 p) := (hk.1 6 (by kernel_rfl)).trans rfl
        obtain ⟨v22, e22, t22⟩ := hk.2 5 (by kernel_rfl)
        replace e22 : ac.tmps[22]? = some v22 := e22
        replace e22 : ac.tmps[22]? = some (.bool false) := e22.trans (congrArg some t22)
        exact Reg.step_value ((Reg.wanted_is rfl rfl e22).trans rfl) (w1 := w') (by go_simp; try rfl) (Below.refl _ _) rfl
      · intro ac w' hb hd hk   -- 7
        replace hb := Reg.below_undrew hb
        have e0 : ac.tmps[0]? = some (.slice A0 l0.length c0) := (hk.1 0 (by kernel_rfl)).trans rfl
        obtain ⟨v22, e22, t22⟩ := hk.2 5 (by kernel_rfl)
        replace e22 : ac.tmps[22]? = some v22 := e22
        replace e22 : ac.tmps[22]? = some (.bool false) := e22.trans (congrArg some t22)
        exact Reg.step_value ((Reg.wanted_is rfl rfl e22).trans rfl) (w1 := w') (by go_simp; try rfl) (Below.refl _ _) rfl
      · intro ac w' hb hd hk   -- 8
        replace hb := Reg.below_undrew hb
        obtain ⟨v24, e24, t24⟩ := hk.2 7 (by kernel_rfl)
        replace e24 : ac.tmps[24]? = some v24 := e24
        replace e24 : ac.tmps[24]? = some (.slice A0 l0.length c0) := e24.trans (congrArg some t24)
        obtain ⟨v22, e22, t22⟩ := hk.2 5 (by kernel_rfl)
        replace e22 : ac.tmps[22]? = some v22 := e22
        replace e22 : ac.tmps[22]? = some (.bool false) := e22.trans (congrArg some t22)
        exact Reg.step_value ((Reg.wanted_is rfl rfl e22).trans rfl) (w1 := w') (by go_simp; try rfl) (Below.refl _ _) rfl
      · intro ac w' hb hd hk   -- 9
        replace hb := Reg.below_undrew hb
        obtain ⟨v23, e23, t23⟩ := hk.2 6 (by kernel_rfl)
        replace e23 : ac.tmps[23]? = some v23 := e23
        replace e23 : ac.tmps[23]? = some (.int .i64 p) := e23.trans (congrArg some t23)
        obtain ⟨v25, e25, t25⟩ := hk.2 8 (by kernel_rfl)
        replace e25 : ac.tmps[25]? = some v25 := e25
        replace e25 : ac.tmps[25]? = some (.int .i64 (l0.length : Int)) := e25.trans (congrArg some t25)
        obtain ⟨v22, e22, t22⟩ := hk.2 5 (by kernel_rfl)
        replace e22 : ac.tmps[22]? = some v22 := e22
        replace e22 : ac.tmps[22]? = some (.bool false) := e22.trans (congrArg some t22)
        have hx : decide ((l0.length : Int) < p) = false := decide_eq_false (by omega)
        exact Reg.step_value ((Reg.wanted_is rfl rfl e22).trans rfl) (w1 := w') (by go_simp; try rfl) (Below.refl _ _) rfl
      · intro ac w' hb hd hk   -- 10
        replace hb := Reg.below_undrew hb
        obtain ⟨v22, e22, t22⟩ := hk.2 5 (by kernel_rfl)
        replace e22 : ac.tmps[22]? = some v22 := e22
        replace e22 : ac.tmps[22]? = some (.bool false) := e22.trans (congrArg some t22)
        obtain ⟨v26, e26, t26⟩ := hk.2 9 (by kernel_rfl)
        replace e26 : ac.tmps[26]? = some v26 := e26
        replace e26 : ac.tmps[26]? = some (.bool false) := e26.trans (congrArg some t26)
        obtain ⟨v19, e19, t19⟩ := hk.2 2 (by kernel_rfl)
        replace e19 : ac.tmps[19]? = some v19 := e19
        replace e19 : ac.tmps[19]? = some (.bool true) := e19.trans (congrArg some t19)
        exact Reg.step_value ((Reg.wanted_is rfl rfl e19).trans rfl) (w1 := w') (by go_simp; try rfl) (Below.refl _ _) rfl
      · intro ac w' hb hd hk   -- 11
        replace hb := Reg.below_undrew hb
        obtain ⟨v27, e27, t27⟩ := hk.2 10 (by kernel_rfl)
        replace e27 : ac.tmps[27]? = some v27 := e27
        replace e27 : ac.tmps[27]? = some (.bool false) := e27.trans (congrArg some t27)
        obtain ⟨v19, e19, t19⟩ := hk.2 2 (by kernel_rfl)
        replace e19 : ac.tmps[19]? = some v19 := e19
        replace e19 : ac.tmps[19]? = some (.bool true) := e19.trans (congrArg some t19)
        exact Reg.step_value ((Reg.wanted_is rfl rfl e19).trans rfl) (w1 := w') (by go_simp; try rfl) (Below.refl _ _) rfl
      · intro ac w' hb hd hk   -- 12
        replace hb := Reg.below_undrew hb
        have e6 : ac.tmps[6]? = some (.int .i64 p) := (hk.1 6 (by kernel_rfl)).trans rfl
        obtain ⟨v28, e28, t28⟩ := hk.2 11 (by kernel_rfl)
        replace e28 : ac.tmps[28]? = some v28 := e28
        replace e28 : ac.tmps[28]? = some (.bool false) := e28.trans (congrArg some t28)
        exact Reg.step_value ((Reg.wanted_is rfl rfl e28).trans rfl) (w1 := w') (by go_simp; try rfl) (Below.refl _ _) rfl
      · intro ac w' hb hd hk   -- 13
        replace hb := Reg.below_undrew hb
        have e1 : ac.tmps[1]? = some (.int .i64 a) := (hk.1 1 (by kernel_rfl)).trans rfl
        obtain ⟨v28, e28, t28⟩ := hk.2 11 (by kernel_rfl)
        replace e28 : ac.tmps[28]? = some v28 := e28
        replace e28 : ac.tmps[28]? = some (.bool false) := e28.trans (congrArg some t28)
        exact Reg.step_value ((Reg.wanted_is rfl rfl e28).trans rfl) (w1 := w') (by go_simp; try rfl) (Below.refl _ _) rfl
      · intro ac w' hb hd hk   -- 14
        replace hb := Reg.below_undrew hb
        obtain ⟨v29, e29, t29⟩ := hk.2 12 (by kernel_rfl)
        replace e29 : ac.tmps[29]? = some v29 := e29
        replace e29 : ac.tmps[29]? = some (.int .i64 p) := e29.trans (congrArg some t29)
        obtain ⟨v30, e30, t30⟩ := hk.2 13 (by kernel_rfl)
        replace e30 : ac.tmps[30]? = some v30 := e30
        replace e30 : ac.tmps[30]? = some (.int .i64 a) := e30.trans (congrArg some t30)
        obtain ⟨v28, e28, t28⟩ := hk.2 11 (by kernel_rfl)
        replace e28 : ac.tmps[28]? = some v28 := e28
        replace e28 : ac.tmps[28]? = some (.bool false) := e28.trans (congrArg some t28)
        have hx : decide (p ≤ a) = false := decide_eq_false (by omega)
        exact Reg.step_value ((Reg.wanted_is rfl rfl e28).trans rfl) (w1 := w') (by go_simp; try rfl) (Below.refl _ _) rfl
      · intro ac w' hb hd hk   -- 15
        replace hb := Reg.below_undrew hb
        obtain ⟨v28, e28, t28⟩ := hk.2 11 (by kernel_rfl)
        replace e28 : ac.tmps[28]? = some v28 := e28
        replace e28 : ac.tmps[28]? = some (.bool false) := e28.trans (congrArg some t28)
        obtain ⟨v31, e31, t31⟩ := hk.2 14 (by kernel_rfl)
        replace e31 : ac.tmps[31]? = some v31 := e31
        replace e31 : ac.tmps[31]? = some (.bool false) := e31.trans (congrArg some t31)
        obtain ⟨v19, e19, t19⟩ := hk.2 2 (by kernel_rfl)
        replace e19 : ac.tmps[19]? = some v19 := e19
        replace e19 : ac.tmps[19]? = some (.bool true) := e19.trans (congrArg some t19)
        exact Reg.step_value ((Reg.wanted_is rfl rfl e19).trans rfl) (w1 := w') (by go_simp; try rfl) (Below.refl _ _) rfl
      · intro ac w' hb hd hk   -- 16
        replace hb := Reg.below_undrew hb
        obtain ⟨v32, e32, t32⟩ := hk.2 15 (by kernel_rfl)
        replace e32 : ac.tmps[32]? = some v32 := e32
        replace e32 : ac.tmps[32]? = some (.bool false) := e32.trans (congrArg some t32)
        obtain ⟨v19, e19, t19⟩ := hk.2 2 (by kernel_rfl)
        replace e19 : ac.tmps[19]? = some v19 := e19
        replace e19 : ac.tmps[19]? = some (.bool true) := e19.trans (congrArg some t19)
        exact Reg.step_value ((Reg.wanted_is rfl rfl e19).trans rfl) (w1 := w') (by go_simp; try rfl) (Below.refl _ _) rfl
      · intro ac w' hb hd hk   -- 17
        replace hb := Reg.below_undrew hb
        have e5 : ac.tmps[5]? = some (.int .i64 n) := (hk.1 5 (by kernel_rfl)).trans rfl
        obtain ⟨v33, e33, t33⟩ := hk.2 16 (by kernel_rfl)
        replace e33 : ac.tmps[33]? = some v33 := e33
        replace e33 : ac.tmps[33]? = some (.bool false) := e33.trans (congrArg some t33)
        exact Reg.step_value ((Reg.wanted_is rfl rfl e33).trans rfl) (w1 := w') (by go_simp; try rfl) (Below.refl _ _) rfl
      · intro ac w' hb hd hk   -- 18
        replace hb := Reg.below_undrew hb
        obtain ⟨v34, e34, t34⟩ := hk.2 17 (by kernel_rfl)
        replace e34 : ac.tmps[34]? = some v34 := e34
        replace e34 : ac.tmps[34]? = some (.int .i64 n) := e34.trans (congrArg some t34)
        obtain ⟨v33, e33, t33⟩ := hk.2 16 (by kernel_rfl)
        replace e33 : ac.tmps[33]? = some v33 := e33
        replace e33 : ac.tmps[33]? = some (.bool false) := e33.trans (congrArg some t33)
        refine Reg.step_call ((Reg.wanted_is rfl rfl e33).trans rfl) (by go_simp; try rfl) ((wire_Int.calls 10 n _ _ (wire_Int_f n ho1 10 (by decide))).mono ?_)
        rintro en w4 ⟨v0, rfl, ho, hb4⟩
        exact ⟨_, rfl, Kd.R_lower ho hb.size, hb4⟩
      · intro ac w' hb hd hk   -- 19
        replace hb := Reg.below_undrew hb
        obtain ⟨v35, e35, t35⟩ := hk.2 18 (by kernel_rfl)
        replace e35 : ac.tmps[35]? = some v35 := e35
        replace t35 : (fun v w' => Kd.R (Kd.int .u8) 5 w' w1.heap.size (fun _ => True) v (encI n)) v35 w' := t35
        obtain ⟨v33, e33, t33⟩ := hk.2 16 (by kernel_rfl)
        replace e33 : ac.tmps[33]? = some v33 := e33
        replace e33 : ac.tmps[33]? = some (.bool false) := e33.trans (congrArg some t33)
        have hcv := own_string (P := Tryd.prog) Tryd.underlying22 Tryd.underlying5 Tryd.underlying9 (Kd.own_of_R t35)
        exact Reg.step_value ((Reg.wanted_is rfl rfl e33).trans rfl) (w1 := w') (by go_simp; try rfl) (Below.refl _ _) rfl
      · intro ac w' hb hd hk   -- 20
        replace hb := Reg.below_undrew hb
        have e0 : ac.tmps[0]? = some (.slice A0 l0.length c0) := (hk.1 0 (by kernel_rfl)).trans rfl
        obtain ⟨v33, e33, t33⟩ := hk.2 16 (by kernel_rfl)
        replace e33 : ac.tmps[33]? = some v33 := e33
        replace e33 : ac.tmps[33]? = some (.bool false) := e33.trans (congrArg some t33)
        exact Reg.step_value ((Reg.wanted_is rfl rfl e33).trans rfl) (w1 := w') (by go_simp; try rfl) (Below.refl _ _) rfl
      · intro ac w' hb hd hk   -- 21
        replace hb := Reg.below_undrew hb
        have e1 : ac.tmps[1]? = some (.int .i64 a) := (hk.1 1 (by kernel_rfl)).trans rfl
        obtain ⟨v33, e33, t33⟩ := hk.2 16 (by kernel_rfl)
        replace e33 : ac.tmps[33]? = some v33 := e33
        replace e33 : ac.tmps[33]? = some (.bool false) := e33.trans (congrArg some t33)
        exact Reg.step_value ((Reg.wanted_is rfl rfl e33).trans rfl) (w1 := w') (by go_simp; try rfl) (Below.refl _ _) rfl
      · intro ac w' hb hd hk   -- 22
        replace hb := Reg.below_undrew hb
        have e6 : ac.tmps[6]? = some (.int .i64 p) := (hk.1 6 (by kernel_rfl)).trans rfl
        obtain ⟨v33, e33, t33⟩ := hk.2 16 (by kernel_rfl)
        replace e33 : ac.tmps[33]? = some v33 := e33
        replace e33 : ac.tmps[33]? = some (.bool false) := e33.trans (congrArg some t33)
        exact Reg.step_value ((Reg.wanted_is rfl rfl e33).trans rfl) (w1 := w') (by go_simp; try rfl) (Below.refl _ _) rfl
      · intro ac w' hb hd hk   -- 23
        replace hb := Reg.below_undrew hb
        obtain ⟨v37, e37, t37⟩ := hk.2 20 (by kernel_rfl)
        replace e37 : ac.tmps[37]? = some v37 := e37
        replace e37 : ac.tmps[37]? = some (.slice A0 l0.length c0) := e37.trans (congrArg some t37)
        obtain ⟨v38, e38, t38⟩ := hk.2 21 (by kernel_rfl)
        replace e38 : ac.tmps[38]? = some v38 := e38
        replace e38 : ac.tmps[38]? = some (.int .i64 a) := e38.trans (congrArg some t38)
        obtain ⟨v39, e39, t39⟩ := hk.2 22 (by kernel_rfl)
        replace e39 : ac.tmps[39]? = some v39 := e39
        replace e39 : ac.tmps[39]? = some (.int .i64 p) := e39.trans (congrArg some t39)
        obtain ⟨v33, e33, t33⟩ := hk.2 16 (by kernel_rfl)
        replace e33 : ac.tmps[33]? = some v33 := e33
        replace e33 : ac.tmps[33]? = some (.bool false) := e33.trans (congrArg some t33)
        have hx := hsl
        exact Reg.step_value ((Reg.wanted_is rfl rfl e33).trans rfl) (w1 := w') (by go_simp; try rfl) (Below.refl _ _) rfl
      · intro ac w' hb hd hk   -- 24
        replace hb := Reg.below_undrew hb
        obtain ⟨v40, e40, t40⟩ := hk.2 23 (by kernel_rfl)
        replace e40 : ac.tmps[40]? = some v40 := e40
        replace e40 : ac.tmps[40]? = some (.slice A' (encI n).length c') := e40.trans (congrArg some t40)
        obtain ⟨v33, e33, t33⟩ := hk.2 16 (by kernel_rfl)
        replace e33 : ac.tmps[33]? = some v33 := e33
        replace e33 : ac.tmps[33]? = some (.bool false) := e33.trans (congrArg some t33)
        have hcv := Kd.C_string (P := Tryd.prog) (A := A') (c := c') Tryd.underlying22 Tryd.underlying5 Tryd.underlying9 (hsc _ (Kd.C_below HR0.out (HBX.out.trans (hb.mono HBX.out.size))))
        exact Reg.step_value ((Reg.wanted_is rfl rfl e33).trans rfl) (w1 := w') (by go_simp; try rfl) (Below.refl _ _) rfl
      · intro ac w' hb hd hk   -- 25
        replace hb := Reg.below_undrew hb
        obtain ⟨v36, e36, t36⟩ := hk.2 19 (by kernel_rfl)
        replace e36 : ac.tmps[36]? = some v36 := e36
        replace e36 : ac.tmps[36]? = some (.string (strOfNums (encI n))) := e36.trans (congrArg some t36)
        obtain ⟨v41, e41, t41⟩ := hk.2 24 (by kernel_rfl)
        replace e41 : ac.tmps[41]? = some v41 := e41
        replace e41 : ac.tmps[41]? = some (.string (strOfNums (encI n))) := e41.trans (congrArg some t41)
        obtain ⟨v33, e33, t33⟩ := hk.2 16 (by kernel_rfl)
        replace e33 : ac.tmps[33]? = some v33 := e33
        replace e33 : ac.tmps[33]? = some (.bool false) := e33.trans (congrArg some t33)
        exact Reg.step_value ((Reg.wanted_is rfl rfl e33).trans rfl) (w1 := w') (by go_simp; try rfl) (Below.refl _ _) rfl
      · intro ac w' hb hd hk   -- 26
        replace hb := Reg.below_undrew hb
        obtain ⟨v33, e33, t33⟩ := hk.2 16 (by kernel_rfl)
        replace e33 : ac.tmps[33]? = some v33 := e33
        replace e33 : ac.tmps[33]? = some (.bool false) := e33.trans (congrArg some t33)
        obtain ⟨v42, e42, t42⟩ := hk.2 25 (by kernel_rfl)
        replace e42 : ac.tmps[42]? = some v42 := e42
        replace e42 : ac.tmps[42]? = some (.bool false) := e42.trans (congrArg some t42)
        obtain ⟨v19, e19, t19⟩ := hk.2 2 (by kernel_rfl)
        replace e19 : ac.tmps[19]? = some v19 := e19
        replace e19 : ac.tmps[19]? = some (.bool true) := e19.trans (congrArg some t19)
        exact Reg.step_value ((Reg.wanted_is rfl rfl e19).trans rfl) (w1 := w') (by go_simp; try rfl) (Below.refl _ _) rfl
      · intro ac w' hb hd hk   -- 27
        replace hb := Reg.below_undrew hb
        obtain ⟨v19, e19, t19⟩ := hk.2 2 (by kernel_rfl)
        replace e19 : ac.tmps[19]? = some v19 := e19
        replace e19 : ac.tmps[19]? = some (.bool true) := e19.trans (congrArg some t19)
        obtain ⟨v43, e43, t43⟩ := hk.2 26 (by kernel_rfl)
        replace e43 : ac.tmps[43]? = some v43 := e43
        replace e43 : ac.tmps[43]? = some (.bool false) := e43.trans (congrArg some t43)
        exact Reg.step_value (Reg.wanted_free rfl) (w1 := w') (by go_simp; try rfl) (Below.refl _ _) rfl
    case fin =>
      intro w' hb
      replace hb := Reg.below_undrew hb
      rintro _ rfl
      rintro _ rfl
      rintro _ rfl
      rintro _ rfl
      rintro _ rfl
      rintro _ rfl
      rintro _ rfl
      rintro _ rfl
      rintro _ rfl
      rintro _ rfl
      rintro _ rfl
      rintro _ rfl
      rintro _ rfl
      rintro _ rfl
      rintro _ rfl
      rintro _ rfl
      rintro _ rfl
      rintro _ rfl
      intro v18 h18
      rintro _ rfl
      rintro _ rfl
      rintro _ rfl
      rintro _ rfl
      rintro _ rfl
      rintro _ rfl
      rintro _ rfl
      rintro _ rfl
      rintro _ rfl
      refine Reg.done_nil ?_
      simp only [Act.put, List.setIfInBounds_toArray, List.set_cons_zero, List.set_cons_succ]
      exact next2 w' (HB1.out.trans (hb.mono HB1.out.size)) _ _ _ _ _ _ _ _ _ _ _ _ _ _ _ _ _ _ _ _ _ _ _ _ _ _ _ _ _ _ _ _ _ _ _ _ _
  · obtain ⟨tt, uu, hve⟩ := (werr_yes HE.out hz).ne_nil
    subst hve
    refine Reg.region_inv (Reg.tab [(Reg.Is (.iface tt uu)), (Reg.Is (.bool false)), (Reg.Is (.bool false)), (Reg.Is undef), (Reg.Is undef), (Reg.Is undef), (Reg.Is undef), (Reg.Is undef), (Reg.Is undef), (Reg.Is undef), (Reg.Is undef), (Reg.Is undef), (Reg.Is undef), (Reg.Is undef), (Reg.Is undef), (Reg.Is undef), (Reg.Is undef), (Reg.Is undef), (Reg.Is undef), (Reg.Is undef), (Reg.Is undef), (Reg.Is undef), (Reg.Is undef), (Reg.Is undef), (Reg.Is undef), (Reg.Is undef), (Reg.Is undef), (Reg.Is (.bool false))]) (by kernel_rfl) (by kernel_rfl) (Reg.tab_mono ?mono) ?steps ?fin
    case mono => exact ⟨Reg.Is.mono _, Reg.Is.mono _, Reg.Is.mono _, Reg.Is.mono _, Reg.Is.mono _, Reg.Is.mono _, Reg.Is.mono _, Reg.Is.mono _, Reg.Is.mono _, Reg.Is.mono _, Reg.Is.mono _, Reg.Is.mono _, Reg.Is.mono _, Reg.Is.mono _, Reg.Is.mono _, Reg.Is.mono _, Reg.Is.mono _, Reg.Is.mono _, Reg.Is.mono _, Reg.Is.mono _, Reg.Is.mono _, Reg.Is.mono _, Reg.Is.mono _, Reg.Is.mono _, Reg.Is.mono _, Reg.Is.mono _, Reg.Is.mono _, Reg.Is.mono _, trivial⟩
    case steps =>
      refine ⟨?_, ?_, ?_, ?_, ?_, ?_, ?_, ?_, ?_, ?_, ?_, ?_, ?_, ?_, ?_, ?_, ?_, ?_, ?_, ?_, ?_, ?_, ?_, ?_, ?_, ?_, ?_, ?_, trivial⟩
      · intro ac w' hb hd hk   -- 0
        replace hb := Reg.below_undrew hb
        have e7 : ac.tmps[7]? = some (.iface tt uu) := (hk.1 7 (by kernel_rfl)).trans rfl
        exact Reg.step_value (Reg.wanted_free rfl) (w1 := w') (by go_simp; try rfl) (Below.refl _ _) rfl
      · intro ac w' hb hd hk   -- 1
        replace hb := Reg.below_undrew hb
        obtain ⟨v17, e17, t17⟩ := hk.2 0 (by kernel_rfl)
        replace e17 : ac.tmps[17]? = some v17 := e17
        replace e17 : ac.tmps[17]? = some (.iface tt uu) := e17.trans (congrArg some t17)
        exact Reg.step_value (Reg.wanted_free rfl) (w1 := w') (by go_simp; try rfl) (Below.refl _ _) rfl
      · intro ac w' hb hd hk   -- 2
        replace hb := Reg.below_undrew hb
        obtain ⟨v18, e18, t18⟩ := hk.2 1 (by kernel_rfl)
        replace e18 : ac.tmps[18]? = some v18 := e18
        replace e18 : ac.tmps[18]? = some (.bool false) := e18.trans (congrArg some t18)
        exact Reg.step_value (Reg.wanted_free rfl) (w1 := w') (by go_simp; try rfl) (Below.refl _ _) rfl
      · intro ac w' hb hd hk   -- 3
        replace hb := Reg.below_undrew hb
        obtain ⟨v19, e19, t19⟩ := hk.2 2 (by kernel_rfl)
        replace e19 : ac.tmps[19]? = some v19 := e19
        replace e19 : ac.tmps[19]? = some (.bool false) := e19.trans (congrArg some t19)
        exact Reg.step_off ((Reg.wanted_is rfl rfl e19).trans rfl) rfl
      · intro ac w' hb hd hk   -- 4
        replace hb := Reg.below_undrew hb
        obtain ⟨v19, e19, t19⟩ := hk.2 2 (by kernel_rfl)
        replace e19 : ac.tmps[19]? = some v19 := e19
        replace e19 : ac.tmps[19]? = some (.bool false) := e19.trans (congrArg some t19)
        exact Reg.step_off ((Reg.wanted_is rfl rfl e19).trans rfl) rfl
      · intro ac w' hb hd hk   -- 5
        replace hb := Reg.below_undrew hb
        obtain ⟨v19, e19, t19⟩ := hk.2 2 (by kernel_rfl)
        replace e19 : ac.tmps[19]? = some v19 := e19
        replace e19 : ac.tmps[19]? = some (.bool false) := e19.trans (congrArg some t19)
        exact Reg.step_off ((Reg.wanted_is rfl rfl e19).trans rfl) rfl
      · intro ac w' hb hd hk   -- 6
        replace hb := Reg.below_undrew hb
        obtain ⟨v22, e22, t22⟩ := hk.2 5 (by kernel_rfl)
        replace e22 : ac.tmps[22]? = some v22 := e22
        replace e22 : ac.tmps[22]? = some undef := e22.trans (congrArg some t22)
        exact Reg.step_off (Reg.wanted_undef rfl rfl e22) rfl
      · intro ac w' hb hd hk   -- 7
        replace hb := Reg.below_undrew hb
        obtain ⟨v22, e22, t22⟩ := hk.2 5 (by kernel_rfl)
        replace e22 : ac.tmps[22]? = some v22 := e22
        replace e22 : ac.tmps[22]? = some undef := e22.trans (congrArg some t22)
        exact Reg.step_off (Reg.wanted_undef rfl rfl e22) rfl
      · intro ac w' hb hd hk   -- 8
        replace hb := Reg.below_undrew hb
        obtain ⟨v22, e22, t22⟩ := hk.2 5 (by kernel_rfl)
        replace e22 : ac.tmps[22]? = some v22 := e22
        replace e22 : ac.tmps[22]? = some undef := e22.trans (congrArg some t22)
        exact Reg.step_off (Reg.wanted_undef rfl rfl e22) rfl
      · intro ac w' hb hd hk   -- 9
        replace hb := Reg.below_undrew hb
        obtain ⟨v22, e22, t22⟩ := hk.2 5 (by kernel_rfl)
        replace e22 : ac.tmps[22]? = some v22 := e22
        replace e22 : ac.tmps[22]? = some undef := e22.trans (congrArg some t22)
        exact Reg.step_off (Reg.wanted_undef rfl rfl e22) rfl
      · intro ac w' hb hd hk   -- 10
        replace hb := Reg.below_undrew hb
        obtain ⟨v19, e19, t19⟩ := hk.2 2 (by kernel_rfl)
        replace e19 : ac.tmps[19]? = some v19 := e19
        replace e19 : ac.tmps[19]? = some (.bool false) := e19.trans (congrArg some t19)
        exact Reg.step_off ((Reg.wanted_is rfl rfl e19).trans rfl) rfl
      · intro ac w' hb hd hk   -- 11
        replace hb := Reg.below_undrew hb
        obtain ⟨v19, e19, t19⟩ := hk.2 2 (by kernel_rfl)
        replace e19 : ac.tmps[19]? = some v19 := e19
        replace e19 : ac.tmps[19]? = some (.bool false) := e19.trans (congrArg some t19)
        exact Reg.step_off ((Reg.wanted_is rfl rfl e19).trans rfl) rfl
      · intro ac w' hb hd hk   -- 12
        replace hb := Reg.below_undrew hb
        obtain ⟨v28, e28, t28⟩ := hk.2 11 (by kernel_rfl)
        replace e28 : ac.tmps[28]? = some v28 := e28
        replace e28 : ac.tmps[28]? = some undef := e28.trans (congrArg some t28)
        exact Reg.step_off (Reg.wanted_undef rfl rfl e28) rfl
      · intro ac w' hb hd hk   -- 13
        replace hb := Reg.below_undrew hb
        obtain ⟨v28, e28, t28⟩ := hk.2 11 (by kernel_rfl)
        replace e28 : ac.tmps[28]? = some v28 := e28
        replace e28 : ac.tmps[28]? = some undef := e28.trans (congrArg some t28)
        exact Reg.step_off (Reg.wanted_undef rfl rfl e28) rfl
      · intro ac w' hb hd hk   -- 14
        replace hb := Reg.below_undrew hb
        obtain ⟨v28, e28, t28⟩ := hk.2 11 (by kernel_rfl)
        replace e28 : ac.tmps[28]? = some v28 := e28
        replace e28 : ac.tmps[28]? = some undef := e28.trans (congrArg some t28)
        exact Reg.step_off (Reg.wanted_undef rfl rfl e28) rfl
      · intro ac w' hb hd hk   -- 15
        replace hb := Reg.below_undrew hb
        obtain ⟨v19, e19, t19⟩ := hk.2 2 (by kernel_rfl)
        replace e19 : ac.tmps[19]? = some v19 := e19
        replace e19 : ac.tmps[19]? = some (.bool false) := e19.trans (congrArg some t19)
        exact Reg.step_off ((Reg.wanted_is rfl rfl e19).trans rfl) rfl
      · intro ac w' hb hd hk   -- 16
        replace hb := Reg.below_undrew hb
        obtain ⟨v19, e19, t19⟩ := hk.2 2 (by kernel_rfl)
        replace e19 : ac.tmps[19]? = some v19 := e19
        replace e19 : ac.tmps[19]? = some (.bool false) := e19.trans (congrArg some t19)
        exact Reg.step_off ((Reg.wanted_is rfl rfl e19).trans rfl) rfl
      · intro ac w' hb hd hk   -- 17
        replace hb := Reg.below_undrew hb
        obtain ⟨v33, e33, t33⟩ := hk.2 16 (by kernel_rfl)
        replace e33 : ac.tmps[33]? = some v33 := e33
        replace e33 : ac.tmps[33]? = some undef := e33.trans (congrArg some t33)
        exact Reg.step_off (Reg.wanted_undef rfl rfl e33) rfl
      · intro ac w' hb hd hk   -- 18
        replace hb := Reg.below_undrew hb
        obtain ⟨v33, e33, t33⟩ := hk.2 16 (by kernel_rfl)
        replace e33 : ac.tmps[33]? = some v33 := e33
        replace e33 : ac.tmps[33]? = some undef := e33.trans (congrArg some t33)
        exact Reg.step_off (Reg.wanted_undef rfl rfl e33) rfl
      · intro ac w' hb hd hk   -- 19
        replace hb := Reg.below_undrew hb
        obtain ⟨v33, e33, t33⟩ := hk.2 16 (by kernel_rfl)
        replace e33 : ac.tmps[33]? = some v33 := e33
        replace e33 : ac.tmps[33]? = some undef := e33.trans (congrArg some t33)
        exact Reg.step_off (Reg.wanted_undef rfl rfl e33) rfl
      · intro ac w' hb hd hk   -- 20
        replace hb := Reg.below_undrew hb
        obtain ⟨v33, e33, t33⟩ := hk.2 16 (by kernel_rfl)
        replace e33 : ac.tmps[33]? = some v33 := e33
        replace e33 : ac.tmps[33]? = some undef := e33.trans (congrArg some t33)
        exact Reg.step_off (Reg.wanted_undef rfl rfl e33) rfl
      · intro ac w' hb hd hk   -- 21
        replace hb := Reg.below_undrew hb
        obtain ⟨v33, e33, t33⟩ := hk.2 16 (by kernel_rfl)
        replace e33 : ac.tmps[33]? = some v33 := e33
        replace e33 : ac.tmps[33]? = some undef := e33.trans (congrArg some t33)
        exact Reg.step_off (Reg.wanted_undef rfl rfl e33) rfl
      · intro ac w' hb hd hk   -- 22
        replace hb := Reg.below_undrew hb
        obtain ⟨v33, e33, t33⟩ := hk.2 16 (by kernel_rfl)
        replace e33 : ac.tmps[33]? = some v33 := e33
        replace e33 : ac.tmps[33]? = some undef := e33.trans (congrArg some t33)
        exact Reg.step_off (Reg.wanted_undef rfl rfl e33) rfl
      · intro ac w' hb hd hk   -- 23
        replace hb := Reg.below_undrew hb
        obtain ⟨v33, e33, t33⟩ := hk.2 16 (by kernel_rfl)
        replace e33 : ac.tmps[33]? = some v33 := e33
        replace e33 : ac.tmps[33]? = some undef := e33.trans (congrArg some t33)
        exact Reg.step_off (Reg.wanted_undef rfl rfl e33) rfl
      · intro ac w' hb hd hk   -- 24
        replace hb := Reg.below_undrew hb
        obtain ⟨v33, e33, t33⟩ := hk.2 16 (by kernel_rfl)
        replace e33 : ac.tmps[33]? = some v33 := e33
        replace e33 : ac.tmps[33]? = some undef := e33.trans (congrArg some t33)
        exact Reg.step_off (Reg.wanted_undef rfl rfl e33) rfl
      · intro ac w' hb hd hk   -- 25
        replace hb := Reg.below_undrew hb
        obtain ⟨v33, e33, t33⟩ := hk.2 16 (by kernel_rfl)
        replace e33 : ac.tmps[33]? = some v33 := e33
        replace e33 : ac.tmps[33]? = some undef := e33.trans (congrArg some t33)
        exact Reg.step_off (Reg.wanted_undef rfl rfl e33) rfl
      · intro ac w' hb hd hk   -- 26
        replace hb := Reg.below_undrew hb
        obtain ⟨v19, e19, t19⟩ := hk.2 2 (by kernel_rfl)
        replace e19 : ac.tmps[19]? = some v19 := e19
        replace e19 : ac.tmps[19]? = some (.bool false) := e19.trans (congrArg some t19)
        exact Reg.step_off ((Reg.wanted_is rfl rfl e19).trans rfl) rfl
      · intro ac w' hb hd hk   -- 27
        replace hb := Reg.below_undrew hb
        obtain ⟨v19, e19, t19⟩ := hk.2 2 (by kernel_rfl)
        replace e19 : ac.tmps[19]? = some v19 := e19
        replace e19 : ac.tmps[19]? = some (.bool false) := e19.trans (congrArg some t19)
        obtain ⟨v43, e43, t43⟩ := hk.2 26 (by kernel_rfl)
        replace e43 : ac.tmps[43]? = some v43 := e43
        replace e43 : ac.tmps[43]? = some undef := e43.trans (congrArg some t43)
        exact Reg.step_value (Reg.wanted_free rfl) (w1 := w') (by go_simp; try rfl) (Below.refl _ _) rfl
    case fin =>
      intro w' hb
      replace hb := Reg.below_undrew hb
      rintro _ rfl
      rintro _ rfl
      rintro _ rfl
      rintro _ rfl
      rintro _ rfl
      rintro _ rfl
      rintro _ rfl
      rintro _ rfl
      rintro _ rfl
      rintro _ rfl
      rintro _ rfl
      rintro _ rfl
      rintro _ rfl
      rintro _ rfl
      rintro _ rfl
      rintro _ rfl
      rintro _ rfl
      rintro _ rfl
      rintro _ rfl
      rintro _ rfl
      rintro _ rfl
      rintro _ rfl
      rintro _ rfl
      rintro _ rfl
      rintro _ rfl
      rintro _ rfl
      rintro _ rfl
      rintro _ rfl
      refine Reg.done_nil ?_
      simp only [Act.put, List.setIfInBounds_toArray, List.set_cons_zero, List.set_cons_succ]
      exact next2 w' (HB1.out.trans (hb.mono HB1.out.size)) _ _ _ _ _ _ _ _ _ _ _ _ _ _ _ _ _ _ _ _ _ _ _ _ _ _ _ _ _ _ _ _ _ _ _ _ _
theorem tributarylaw1_WireForth.calls (A0 : Option Addr) (c0 : Nat) (l0 : List Int) (a1 : Int) (r : Bool) (w : World) (hr0 : Kd.C (Kd.int .u8) w A0 l0.length l0) (hc0 : l0.length ≤ c0) (hL : Laid w) (h : tributarylaw1_WireForth.f l0 a1 = some r) :
    Calls Tryd.prog 7 #[.slice A0 l0.length c0, .int .i64 a1] w fun e w' => e = .returned (.bool r) ∧ Below w.heap.size w w' := by
  unfold tributarylaw1_WireForth.f at h
  by_cases hk : okBytes l0 = true
  · rw [if_pos hk] at h
    obtain rfl := Option.some.inj h
    exact wireForth_law A0 c0 l0 a1 w hr0 hc0 hL hk
  · rw [if_neg hk] at h; cases h
end Go.Proofs.YtjcllneibeemgaaDoor.PFn
