/- Proved: the law WireShort returns true: the walk. -/
import Derived.Test.YtjcllneibeemgaaDoorWirePure3
import Derived.Test.YtjcllneibeemgaaDoorRegInv
import Derived.Test.YtjcllneibeemgaaDoorWireInts
namespace Go.Proofs.YtjcllneibeemgaaDoor.PFn
open Go.RowKit Go.Proofs.YtjcllneibeemgaaDoorW.PrintWords Go.Proofs.YtjcllneibeemgaaDoorW.PrintLast Go.Proofs.YtjcllneibeemgaaDoorW.PrintMore Go.Proofs.YtjcllneibeemgaaDoor.Err
attribute [local go_sem] max2_int min2_int max_two min_two max_three min_three max_four min_four
set_option linter.unusedVariables false
set_option linter.unusedSimpArgs false

theorem strOfNums_inj : ∀ {x y : List Int}, (∀ a ∈ x, 0 ≤ a ∧ a ≤ 255) → (∀ a ∈ y, 0 ≤ a ∧ a ≤ 255) → strOfNums x = strOfNums y → x = y := by
  intro x y hx hy h
  have h2 : x.map (fun n => UInt8.ofNat n.toNat) = y.map (fun n => UInt8.ofNat n.toNat) := by
    have := congrArg (fun b : ByteArray => b.data.toList) h
    simpa [strOfNums] using this
  clear h
  induction x generalizing y with
  | nil => cases y with
    | nil => rfl
    | cons b y => simp at h2
  | cons a x ih =>
    cases y with
    | nil => simp at h2
    | cons b y =>
      simp only [List.map_cons, List.cons.injEq] at h2
      have ha := hx a (List.mem_cons_self ..)
      have hb := hy b (List.mem_cons_self ..)
      have e : a.toNat = b.toNat := by
        have := congrArg UInt8.toNat h2.1
        simp only [UInt8.toNat_ofNat'] at this
        omega
      rw [ih (fun c hc => hx c (List.mem_cons_of_mem _ hc)) (fun c hc => hy c (List.mem_cons_of_mem _ hc)) h2.2, show a = b by omega]
theorem encI_ne {n m : Int} (hn : okI n) (hm : okI m) (h : n ≠ m) : ¬ strOfNums ((encI m).take (encI n).length) = strOfNums (encI n) := by
  intro he
  have e := strOfNums_inj (fun a ha => encI_bytes hm a (List.mem_of_mem_take ha)) (encI_bytes hn) he
  have e2 : encI m = encI n ++ (encI m).drop (encI n).length := by
    conv => lhs; rw [← List.take_append_drop (encI n).length (encI m), e]
  have r1 := readI_enc [] [] m hm
  have r2 := readI_enc [] ((encI m).drop (encI n).length) n hn
  rw [List.append_nil] at r1
  rw [← e2] at r2
  rw [r1] at r2
  exact h (Prod.ext_iff.1 r2).1.symm
theorem encI_ne2 {n m : Int} (hn : okI n) (hm : okI m) (h : n ≠ m) : ¬ (strOfNums ((encI m).take (encI n).length)).toList = (strOfNums (encI n)).toList := by
  intro he
  refine encI_ne hn hm h (ByteArray.ext ?_)
  rw [ByteArray.toList_eq, ByteArray.toList_eq] at he
  exact Array.toList_inj.1 he
theorem okBytes_enc {l : List Int} (h : ∀ x ∈ l, 0 ≤ x ∧ x ≤ 255) (hl : l.length ≤ 10000) : l.length ≤ 4611686018427387904 ∧ ∀ x ∈ l, 0 ≤ x ∧ x ≤ 255 := ⟨by omega, h⟩
theorem encR_len (l : List RowT) (h : l.length ≤ 64) : 1 ≤ (encR l).length ∧ (encR l).length ≤ 1300 := by
  have h1 := encI_len (l.length : Int)
  have h2 := rowsE_len l
  unfold encR
  simp only [List.length_append]
  omega
theorem encR_bytes {l : List RowT} (h : ∀ r ∈ l, okRow r) (hl : l.length ≤ 64) : ∀ x ∈ encR l, 0 ≤ x ∧ x ≤ 255 := by
  intro x hx
  rcases List.mem_append.1 hx with hx | hx
  · exact encI_bytes (okI_nat (by omega)) x hx
  · exact rowsE_bytes h x hx

theorem i64_and15 (n : Int) : Go.bits .and .i64 n 15 = n % 16 := by
  have h127 : (BitVec.ofInt 64 15).toNat = 2 ^ 4 - 1 := by decide
  have key : (BitVec.ofInt 64 n &&& BitVec.ofInt 64 15).toNat = (n % ((2 ^ 64 : Nat) : Int)).toNat % 2 ^ 4 := by
    rw [BitVec.toNat_and, BitVec.toNat_ofInt, h127, Nat.and_two_pow_sub_one_eq_mod]
  show IntKind.i64.wrap ((BitVec.ofInt 64 n &&& BitVec.ofInt 64 15).toNat : Nat) = n % 16
  rw [key, IntKind.wrap_i64]
  omega
theorem i64_and40 (n : Int) : Go.bits .and .i64 n 1099511627775 = n % 1099511627776 := by
  have h127 : (BitVec.ofInt 64 1099511627775).toNat = 2 ^ 40 - 1 := by decide
  have key : (BitVec.ofInt 64 n &&& BitVec.ofInt 64 1099511627775).toNat = (n % ((2 ^ 64 : Nat) : Int)).toNat % 2 ^ 40 := by
    rw [BitVec.toNat_and, BitVec.toNat_ofInt, h127, Nat.and_two_pow_sub_one_eq_mod]
  show IntKind.i64.wrap ((BitVec.ofInt 64 n &&& BitVec.ofInt 64 1099511627775).toNat : Nat) = n % 1099511627776
  rw [key, IntKind.wrap_i64]
  omega
theorem tmod_in {a : Int} {n : Nat} (h : 0 ≤ a) (hn : 0 < n) : ∃ j : Nat, Int.tmod a n = (j : Int) ∧ j < n := by
  have h1 := Int.tmod_nonneg (n : Int) h
  have h2 := Int.tmod_lt_of_pos a (show (0 : Int) < n by omega)
  exact ⟨(Int.tmod a n).toNat, by omega, by omega⟩
def okRows (l : List RowT) : Bool := decide (l.length ≤ 8796093022208) && l.all fun r => decide (okI r.f0) && decide (okI r.f1)
theorem okRows_iff {l : List RowT} : okRows l = true ↔ l.length ≤ 8796093022208 ∧ ∀ r ∈ l, okRow r := by
  unfold okRows okRow; simp
def tributarylaw1_WireShort.f (n m : Int) (l : List RowT) (cut : Int) : Option Bool := if okI n ∧ okI m ∧ okRows l = true ∧ okI cut then some true else none
set_option maxHeartbeats 16000000 in
set_option maxRecDepth 100000 in
theorem wireShort_law (n m : Int) (A2 : Option Addr) (c2 : Nat) (l2 : List RowT) (cut : Int) (w : World) (hr2 : Kd.C k56 w A2 l2.length l2) (hc2 : l2.length ≤ c2) (hL : Laid w) (hn : okI n) (hm : okI m) (hl2 : okRows l2 = true) (hcut : okI cut) :
    Calls Tryd.prog 4 #[.int .i64 n, .int .i64 m, .slice A2 l2.length c2, .int .i64 cut] w fun e w' => e = .returned (.bool true) ∧ Below w.heap.size w w' := by
  have HL := Aside0.mk hL
  have HN := Aside0.mk hn
  have HM := Aside0.mk hm
  obtain ⟨hlen, hrows⟩ := okRows_iff.1 hl2
  obtain ⟨q, hq⟩ : ∃ q, q = min l2.length 64 := ⟨_, rfl⟩
  obtain ⟨l, hl⟩ : ∃ l, l = l2.take q := ⟨_, rfl⟩
  have hlq : l.length = q := by rw [hl, List.length_take]; omega
  have HROWS := Aside0.mk (show ∀ r ∈ l, okRow r by rw [hl]; exact fun r hr => hrows r (List.mem_of_mem_take hr))
  have HR2 := Aside0.mk (show Kd.C k56 w A2 l.length l by rw [hl]; exact Kd.C_take hr2 (by omega))
  have hl64 : l.length ≤ 64 := by omega
  have hq2 : l.length ≤ c2 := by omega
  have hmin : (min (l2.length : Int) 64) = (l.length : Int) := by omega
  have hmin2 : (if (64 : Int) < (l2.length : Int) then 64 else (l2.length : Int)) = (l.length : Int) := by split <;> omega
  have hle : (l.length : Int) ≤ (l2.length : Int) := by omega
  have hcutL := cut_to (P := Tryd.prog) 34 56 .i64 Tryd.underlying34 (info_parts info56r).choose_spec.1 A2 l2.length c2 (l.length : Int) (by omega) (by omega) hc2
  rw [Int.toNat_natCast] at hcutL
  clear hL hn hm hl2 hrows hr2 hl hlq hq hcut
  go_enter Tryd.func4, Tryd.ntmps4
  go_wp2_with fail
  refine Reg.region_inv (Reg.tab [(Reg.Is (.int .i64 n)), (fun v w' => Kd.R (Kd.int .u8) 5 w' w.heap.size (fun _ => True) v (encI n)), (Reg.Is (.int .i64 m)), (fun v w' => Kd.R (Kd.int .u8) 5 w' w.heap.size (fun _ => True) v (encI m)), (Reg.Is (.slice A2 l2.length c2)), (Reg.Is (.slice A2 l2.length c2)), (Reg.Is (.int .i64 (l2.length : Int))), (Reg.Is (.int .i64 (l.length : Int))), (Reg.Is (.slice A2 l.length c2)), (fun v w' => Kd.R (Kd.int .u8) 5 w' w.heap.size (fun _ => True) v (encR l)), (fun v w' => Kd.R (Kd.int .u8) 5 w' w.heap.size (fun _ => True) v (encI n)), (fun v w' => Kd.R (Kd.int .u8) 5 w' w.heap.size (fun _ => True) v (encI m)), (fun v w' => Kd.R (Kd.int .u8) 5 w' w.heap.size (fun _ => True) v (encR l))]) (by kernel_rfl) (by kernel_rfl) (Reg.tab_mono ?mono) ?steps ?fin
  case mono => exact ⟨Reg.Is.mono _, (fun _ _ _ hb h => Kd.R_below h hb), Reg.Is.mono _, (fun _ _ _ hb h => Kd.R_below h hb), Reg.Is.mono _, Reg.Is.mono _, Reg.Is.mono _, Reg.Is.mono _, Reg.Is.mono _, (fun _ _ _ hb h => Kd.R_below h hb), (fun _ _ _ hb h => Kd.R_below h hb), (fun _ _ _ hb h => Kd.R_below h hb), (fun _ _ _ hb h => Kd.R_below h hb), trivial⟩
  case steps =>
    refine ⟨?_, ?_, ?_, ?_, ?_, ?_, ?_, ?_, ?_, ?_, ?_, ?_, ?_, trivial⟩
    · intro ac w' hb hd hk   -- 0
      replace hb := Reg.below_undrew hb
      have e0 : ac.tmps[0]? = some (.int .i64 n) := (hk.1 0 (by kernel_rfl)).trans rfl
      exact Reg.step_value (Reg.wanted_free rfl) (w1 := w') (by go_simp; try rfl) (Below.refl _ _) rfl
    · intro ac w' hb hd hk   -- 1
      replace hb := Reg.below_undrew hb
      obtain ⟨v18, e18, t18⟩ := hk.2 0 (by kernel_rfl)
      replace e18 : ac.tmps[18]? = some v18 := e18
      replace e18 : ac.tmps[18]? = some (.int .i64 n) := e18.trans (congrArg some t18)
      refine Reg.step_call (Reg.wanted_free rfl) (by go_simp; try rfl) ((wire_Int.calls 10 n _ _ (wire_Int_f n HN.out 10 (by decide))).mono ?_)
      rintro e w4 ⟨v0, rfl, ho, hb4⟩
      exact ⟨_, rfl, Kd.R_lower ho hb.size, hb4⟩
    · intro ac w' hb hd hk   -- 2
      replace hb := Reg.below_undrew hb
      have e1 : ac.tmps[1]? = some (.int .i64 m) := (hk.1 1 (by kernel_rfl)).trans rfl
      exact Reg.step_value (Reg.wanted_free rfl) (w1 := w') (by go_simp; try rfl) (Below.refl _ _) rfl
    · intro ac w' hb hd hk   -- 3
      replace hb := Reg.below_undrew hb
      obtain ⟨v20, e20, t20⟩ := hk.2 2 (by kernel_rfl)
      replace e20 : ac.tmps[20]? = some v20 := e20
      replace e20 : ac.tmps[20]? = some (.int .i64 m) := e20.trans (congrArg some t20)
      refine Reg.step_call (Reg.wanted_free rfl) (by go_simp; try rfl) ((wire_Int.calls 10 m _ _ (wire_Int_f m HM.out 10 (by decide))).mono ?_)
      rintro e w4 ⟨v0, rfl, ho, hb4⟩
      exact ⟨_, rfl, Kd.R_lower ho hb.size, hb4⟩
    · intro ac w' hb hd hk   -- 4
      replace hb := Reg.below_undrew hb
      have e2 : ac.tmps[2]? = some (.slice A2 l2.length c2) := (hk.1 2 (by kernel_rfl)).trans rfl
      exact Reg.step_value (Reg.wanted_free rfl) (w1 := w') (by go_simp; try rfl) (Below.refl _ _) rfl
    · intro ac w' hb hd hk   -- 5
      replace hb := Reg.below_undrew hb
      have e2 : ac.tmps[2]? = some (.slice A2 l2.length c2) := (hk.1 2 (by kernel_rfl)).trans rfl
      exact Reg.step_value (Reg.wanted_free rfl) (w1 := w') (by go_simp; try rfl) (Below.refl _ _) rfl
    · intro ac w' hb hd hk   -- 6
      replace hb := Reg.below_undrew hb
      obtain ⟨v23, e23, t23⟩ := hk.2 5 (by kernel_rfl)
      replace e23 : ac.tmps[23]? = some v23 := e23
      replace e23 : ac.tmps[23]? = some (.slice A2 l2.length c2) := e23.trans (congrArg some t23)
      exact Reg.step_value (Reg.wanted_free rfl) (w1 := w') (by go_simp; try rfl) (Below.refl _ _) rfl
    · intro ac w' hb hd hk   -- 7
      replace hb := Reg.below_undrew hb
      obtain ⟨v24, e24, t24⟩ := hk.2 6 (by kernel_rfl)
      replace e24 : ac.tmps[24]? = some v24 := e24
      replace e24 : ac.tmps[24]? = some (.int .i64 (l2.length : Int)) := e24.trans (congrArg some t24)
      have hx := hmin2
      exact Reg.step_value (Reg.wanted_free rfl) (w1 := w') (by go_simp; try rfl) (Below.refl _ _) rfl
    · intro ac w' hb hd hk   -- 8
      replace hb := Reg.below_undrew hb
      obtain ⟨v22, e22, t22⟩ := hk.2 4 (by kernel_rfl)
      replace e22 : ac.tmps[22]? = some v22 := e22
      replace e22 : ac.tmps[22]? = some (.slice A2 l2.length c2) := e22.trans (congrArg some t22)
      obtain ⟨v25, e25, t25⟩ := hk.2 7 (by kernel_rfl)
      replace e25 : ac.tmps[25]? = some v25 := e25
      replace e25 : ac.tmps[25]? = some (.int .i64 (l.length : Int)) := e25.trans (congrArg some t25)
      have hx := hcutL
      exact Reg.step_value (Reg.wanted_free rfl) (w1 := w') (by go_simp; try rfl) (Below.refl _ _) rfl
    · intro ac w' hb hd hk   -- 9
      replace hb := Reg.below_undrew hb
      obtain ⟨v26, e26, t26⟩ := hk.2 8 (by kernel_rfl)
      replace e26 : ac.tmps[26]? = some v26 := e26
      replace e26 : ac.tmps[26]? = some (.slice A2 l.length c2) := e26.trans (congrArg some t26)
      refine Reg.step_call (Reg.wanted_free rfl) (by go_simp; try rfl) ((wire_Rows.calls 80 A2 c2 l _ _ (Kd.C_below HR2.out hb) hq2 (wire_Rows_f l HROWS.out hl64 80 (by decide))).mono ?_)
      rintro e w4 ⟨v0, rfl, ho, hb4⟩
      exact ⟨_, rfl, Kd.R_lower ho hb.size, hb4⟩
    · intro ac w' hb hd hk   -- 10
      replace hb := Reg.below_undrew hb
      obtain ⟨v19, e19, t19⟩ := hk.2 1 (by kernel_rfl)
      replace e19 : ac.tmps[19]? = some v19 := e19
      replace t19 : (fun v w' => Kd.R (Kd.int .u8) 5 w' w.heap.size (fun _ => True) v (encI n)) v19 w' := t19
      exact Reg.step_value (Reg.wanted_free rfl) (w1 := w') (by go_simp; try rfl) (Below.refl _ _) t19
    · intro ac w' hb hd hk   -- 11
      replace hb := Reg.below_undrew hb
      obtain ⟨v21, e21, t21⟩ := hk.2 3 (by kernel_rfl)
      replace e21 : ac.tmps[21]? = some v21 := e21
      replace t21 : (fun v w' => Kd.R (Kd.int .u8) 5 w' w.heap.size (fun _ => True) v (encI m)) v21 w' := t21
      exact Reg.step_value (Reg.wanted_free rfl) (w1 := w') (by go_simp; try rfl) (Below.refl _ _) t21
    · intro ac w' hb hd hk   -- 12
      replace hb := Reg.below_undrew hb
      obtain ⟨v27, e27, t27⟩ := hk.2 9 (by kernel_rfl)
      replace e27 : ac.tmps[27]? = some v27 := e27
      replace t27 : (fun v w' => Kd.R (Kd.int .u8) 5 w' w.heap.size (fun _ => True) v (encR l)) v27 w' := t27
      exact Reg.step_value (Reg.wanted_free rfl) (w1 := w') (by go_simp; try rfl) (Below.refl _ _) t27
  case fin =>
    intro w' hb
    replace hb := Reg.below_undrew hb
    rintro _ rfl
    intro v1 h1
    rintro _ rfl
    intro v3 h3
    rintro _ rfl
    rintro _ rfl
    rintro _ rfl
    rintro _ rfl
    rintro _ rfl
    intro v9 h9
    intro v10 h10
    intro v11 h11
    intro v12 h12
    refine Reg.done_nil ?_
    simp only [Act.put, List.setIfInBounds_toArray, List.set_cons_zero, List.set_cons_succ]
    have HRa := Aside0.mk (show Kd.R (Kd.int .u8) 5 w' w.heap.size (fun _ => True) v10 (encI n) from h10)
    have HRb := Aside0.mk (show Kd.R (Kd.int .u8) 5 w' w.heap.size (fun _ => True) v11 (encI m) from h11)
    have HRc := Aside0.mk (show Kd.R (Kd.int .u8) 5 w' w.heap.size (fun _ => True) v12 (encR l) from h12)
    clear h1 h3 h9 h10 h11 h12
    have HB1 := Aside0.mk hb
    have HL1 := Aside0.mk (HL.out.below hb (Nat.le_refl _))
    clear hb HL HR2 hcutL
    obtain ⟨Aa, ca, rfl⟩ := Kd.R_slice HRa.out
    obtain ⟨Ab, cb, rfl⟩ := Kd.R_slice HRb.out
    obtain ⟨Ac, cc, rfl⟩ := Kd.R_slice HRc.out
    have hla := encI_len n
    have hlb := encI_len m
    have hlc := encR_len l hl64
    have za : (((encI n).length : Int) == 0) = false := beq_eq_false_iff_ne.2 (by omega)
    have zb : (((encI m).length : Int) == 0) = false := beq_eq_false_iff_ne.2 (by omega)
    have zc : (((encR l).length : Int) == 0) = false := beq_eq_false_iff_ne.2 (by omega)
    have HL3 : Aside0 (1 ≤ (encI n).length ∧ 1 ≤ (encI m).length ∧ 1 ≤ (encR l).length) := ⟨hla.1, hlb.1, hlc.1⟩
    obtain ⟨j, hj, hjl⟩ := tmod_in (a := Go.bits .and .i64 cut 15) (n := (encI n).length) (by rw [i64_and15]; omega) hla.1
    obtain ⟨i, hi, hil⟩ := tmod_in (a := Go.bits .and .i64 (cut / 16) 1099511627775) (n := (encR l).length) (by rw [i64_and40]; omega) hlc.1
    have na : ¬ ((encI n).length : Int) = 0 := by omega
    have nc : ¬ ((encR l).length : Int) = 0 := by omega
    have na2 : ¬ (encI n).length = 0 := by omega
    have nc2 : ¬ (encR l).length = 0 := by omega
    obtain ⟨L, hLd⟩ : ∃ L, L = (encI n).take j := ⟨_, rfl⟩
    have hLl : L.length = j := by rw [hLd, List.length_take]; omega
    obtain ⟨K, hKd⟩ : ∃ K, K = (encR l).take i := ⟨_, rfl⟩
    have hKl : K.length = i := by rw [hKd, List.length_take]; omega
    have hcutJ := cut_to (P := Tryd.prog) 22 5 .i64 Tryd.underlying22 (info_parts info5).choose_spec.1 Aa (encI n).length ca (j : Int) (by omega) (by omega) (Kd.R_reads' HRa.out).2.1
    rw [Int.toNat_natCast, ← hLl] at hcutJ
    have hcutI := cut_to (P := Tryd.prog) 22 5 .i64 Tryd.underlying22 (info_parts info5).choose_spec.1 Ac (encR l).length cc (i : Int) (by omega) (by omega) (Kd.R_reads' HRc.out).2.1
    rw [Int.toNat_natCast, ← hKl] at hcutI
    have hcj : L.length ≤ ca := by have := (Kd.R_reads' HRa.out).2.1; omega
    have hci : K.length ≤ cc := by have := (Kd.R_reads' HRc.out).2.1; omega
    rw [← hLl] at hj
    rw [← hKl] at hi
    have HLd := Aside0.mk hLd
    have HKd := Aside0.mk hKd
    have HLl := Aside0.mk hLl
    have HKl := Aside0.mk hKl
    have HJ := Aside0.mk (And.intro hjl hil)
    clear hLd hKd hLl hKl hjl hil hla hlb hlc
    go_wp2_with (first | (go_at_call 11; refine (told_law _ HL1.out).mono ?_; rintro e w2 ⟨rfl, hb⟩; have HB2 := Aside0.mk (HB1.out.trans (hb.mono HB1.out.size)); have HL2 := Aside0.mk (HL1.out.below hb (Nat.le_refl _)); have HRa2 := Aside0.mk (Kd.R_below HRa.out hb); have HRb2 := Aside0.mk (Kd.R_below HRb.out hb); have HRc2 := Aside0.mk (Kd.R_below HRc.out hb); clear hb HB1 HL1 HRa HRb HRc))
    obtain ⟨hLk, hLb⟩ : L.length ≤ 4611686018427387904 ∧ ∀ x ∈ L, 0 ≤ x ∧ x ≤ 255 := by
      have := encI_len n
      rw [HLd.out]
      exact ⟨by rw [List.length_take]; omega, fun x hx => encI_bytes HN.out x (List.mem_of_mem_take hx)⟩
    obtain ⟨hKk, hKb⟩ : K.length ≤ 4611686018427387904 ∧ ∀ x ∈ K, 0 ≤ x ∧ x ≤ 255 := by
      have := encR_len l hl64
      rw [HKd.out]
      exact ⟨by rw [List.length_take]; omega, fun x hx => encR_bytes HROWS.out hl64 x (List.mem_of_mem_take hx)⟩
    have HLK := Aside0.mk hLk
    have HLB := Aside0.mk hLb
    have HKK := Aside0.mk hKk
    have HKB := Aside0.mk hKb
    clear hLk hLb hKk hKb
    have hRL : readI L 0 = (0, 0, 10) := by rw [HLd.out]; exact readI_short [] HN.out j HJ.out.1
    refine (readInt_calls Aa ca L 0 _ ?c1 hcj HLK.out HLB.out).mono ?_
    case c1 => have := Kd.C_take (m := j) (Kd.R_reads' HRa2.out).2.2 (by have := HJ.out.1; omega); rw [← HLd.out] at this; exact this
    rintro e w3 ⟨ve, rfl, hE, hb, hN⟩
    rw [hRL] at hE ⊢
    have HEe := Aside0.mk hE
    have HB3 := Aside0.mk (HB2.out.trans (hb.mono HB2.out.size))
    have HL3' := Aside0.mk (HL2.out.below hb (Nat.le_refl _))
    have HRa3 := Aside0.mk (Kd.R_below HRa2.out hb)
    have HRb3 := Aside0.mk (Kd.R_below HRb2.out hb)
    have HRc3 := Aside0.mk (Kd.R_below HRc2.out hb)
    clear hE hb hN HB2 HL2 HRa2 HRb2 HRc2 hRL
    go_wp2_with fail
    obtain ⟨R, hR⟩ : ∃ R, R = readRows K 0 := ⟨_, rfl⟩
    have hR10 : R.2.2.1 = 10 := by rw [hR, HKd.out]; exact readRows_short [] l HROWS.out hl64 i HJ.out.2
    refine (readRows_calls Ac cc K 0 _ ?c2 hci HKK.out HKB.out R hR.symm).mono ?_
    case c2 => have := Kd.C_take (m := i) (Kd.R_reads' HRc3.out).2.2 (by have := HJ.out.2; omega); rw [← HKd.out] at this; exact this
    rintro e w4 ⟨vr, vf, rfl, hRr, hE, hb, hN⟩
    rw [hR10] at hE
    obtain ⟨g, hg⟩ : ∃ g, g = R.2.2.2 := ⟨_, rfl⟩
    rw [← hg] at hE
    have HEf := Aside0.mk hE
    have HEe6 := Aside0.mk (HEe.out.below hb (Nat.le_refl _))
    have HB6 := Aside0.mk (HB3.out.trans (hb.mono HB3.out.size))
    have HL6 := Aside0.mk (HL3'.out.below hb (Nat.le_refl _))
    have HRa := Aside0.mk (Kd.R_below HRa3.out hb)
    have HRb := Aside0.mk (Kd.R_below HRb3.out hb)
    clear hE hb hN HB3 HL3' HRa3 HRb3 HRc3 hRr HEe hg hR10 hR
    go_wp2_with fail
    by_cases hnm : n = m
    · refine Reg.region_inv (Reg.tab [(Reg.Is ve), (Reg.Is (.int .i64 10)), (Reg.Is (.bool true)), (Reg.Is (.bool true)), (Reg.Is vf), (Reg.Is (.int .i64 10)), (Reg.Is (.bool true)), (Reg.Is (.bool true)), (Reg.Is (.bool true)), (Reg.Is (.int .i64 n)), (Reg.Is (.int .i64 m)), (Reg.Is (.bool true)), (Reg.Is (.bool true)), (Reg.Is undef), (Reg.Is undef), (Reg.Is undef), (Reg.Is undef), (Reg.Is undef), (Reg.Is (.bool true)), (Reg.Is (.bool true)), (Reg.Is undef), (Reg.Is undef), (Reg.Is undef), (Reg.Is undef), (Reg.Is undef), (Reg.Is undef), (Reg.Is undef), (Reg.Is undef), (Reg.Is (.bool true)), (Reg.Is (.bool true)), (Reg.Is (.bool true))]) (by kernel_rfl) (by kernel_rfl) (Reg.tab_mono ?mono) ?steps ?fin
      case mono => exact ⟨Reg.Is.mono _, Reg.Is.mono _, Reg.Is.mono _, Reg.Is.mono _, Reg.Is.mono _, Reg.Is.mono _, Reg.Is.mono _, Reg.Is.mono _, Reg.Is.mono _, Reg.Is.mono _, Reg.Is.mono _, Reg.Is.mono _, Reg.Is.mono _, Reg.Is.mono _, Reg.Is.mono _, Reg.Is.mono _, Reg.Is.mono _, Reg.Is.mono _, Reg.Is.mono _, Reg.Is.mono _, Reg.Is.mono _, Reg.Is.mono _, Reg.Is.mono _, Reg.Is.mono _, Reg.Is.mono _, Reg.Is.mono _, Reg.Is.mono _, Reg.Is.mono _, Reg.Is.mono _, Reg.Is.mono _, Reg.Is.mono _, trivial⟩
      case steps =>
        refine ⟨?_, ?_, ?_, ?_, ?_, ?_, ?_, ?_, ?_, ?_, ?_, ?_, ?_, ?_, ?_, ?_, ?_, ?_, ?_, ?_, ?_, ?_, ?_, ?_, ?_, ?_, ?_, ?_, ?_, ?_, ?_, trivial⟩
        · intro ac w' hb hd hk   -- 0
          replace hb := Reg.below_undrew hb
          have e14 : ac.tmps[14]? = some ve := (hk.1 14 (by kernel_rfl)).trans rfl
          exact Reg.step_value (Reg.wanted_free rfl) (w1 := w') (by go_simp; try rfl) (Below.refl _ _) rfl
        · intro ac w' hb hd hk   -- 1
          replace hb := Reg.below_undrew hb
          obtain ⟨v70, e70, t70⟩ := hk.2 0 (by kernel_rfl)
          replace e70 : ac.tmps[70]? = some v70 := e70
          replace e70 : ac.tmps[70]? = some ve := e70.trans (congrArg some t70)
          refine Reg.step_call (Reg.wanted_free rfl) (by go_simp; try rfl) ((code_law (werr 0 10) ve _ (HEe6.out.below hb (Nat.le_refl _)) (HL6.out.below hb (Nat.le_refl _))).mono ?_)
          rintro e w4 ⟨rfl, hb4⟩
          exact ⟨_, rfl, by rw [code_werr]; rfl, hb4⟩
        · intro ac w' hb hd hk   -- 2
          replace hb := Reg.below_undrew hb
          obtain ⟨v71, e71, t71⟩ := hk.2 1 (by kernel_rfl)
          replace e71 : ac.tmps[71]? = some v71 := e71
          replace e71 : ac.tmps[71]? = some (.int .i64 10) := e71.trans (congrArg some t71)
          exact Reg.step_value (Reg.wanted_free rfl) (w1 := w') (by go_simp; try rfl) (Below.refl _ _) rfl
        · intro ac w' hb hd hk   -- 3
          replace hb := Reg.below_undrew hb
          obtain ⟨v72, e72, t72⟩ := hk.2 2 (by kernel_rfl)
          replace e72 : ac.tmps[72]? = some v72 := e72
          replace e72 : ac.tmps[72]? = some (.bool true) := e72.trans (congrArg some t72)
          exact Reg.step_value (Reg.wanted_free rfl) (w1 := w') (by go_simp; try rfl) (Below.refl _ _) rfl
        · intro ac w' hb hd hk   -- 4
          replace hb := Reg.below_undrew hb
          have e17 : ac.tmps[17]? = some vf := (hk.1 17 (by kernel_rfl)).trans rfl
          obtain ⟨v73, e73, t73⟩ := hk.2 3 (by kernel_rfl)
          replace e73 : ac.tmps[73]? = some v73 := e73
          replace e73 : ac.tmps[73]? = some (.bool true) := e73.trans (congrArg some t73)
          exact Reg.step_value ((Reg.wanted_is rfl rfl e73).trans rfl) (w1 := w') (by go_simp; try rfl) (Below.refl _ _) rfl
        · intro ac w' hb hd hk   -- 5
          replace hb := Reg.below_undrew hb
          obtain ⟨v74, e74, t74⟩ := hk.2 4 (by kernel_rfl)
          replace e74 : ac.tmps[74]? = some v74 := e74
          replace e74 : ac.tmps[74]? = some vf := e74.trans (congrArg some t74)
          obtain ⟨v73, e73, t73⟩ := hk.2 3 (by kernel_rfl)
          replace e73 : ac.tmps[73]? = some v73 := e73
          replace e73 : ac.tmps[73]? = some (.bool true) := e73.trans (congrArg some t73)
          refine Reg.step_call ((Reg.wanted_is rfl rfl e73).trans rfl) (by go_simp; try rfl) ((code_law (werr g 10) vf _ (HEf.out.below hb (Nat.le_refl _)) (HL6.out.below hb (Nat.le_refl _))).mono ?_)
          rintro e w4 ⟨rfl, hb4⟩
          exact ⟨_, rfl, by rw [code_werr]; rfl, hb4⟩
        · intro ac w' hb hd hk   -- 6
          replace hb := Reg.below_undrew hb
          obtain ⟨v75, e75, t75⟩ := hk.2 5 (by kernel_rfl)
          replace e75 : ac.tmps[75]? = some v75 := e75
          replace e75 : ac.tmps[75]? = some (.int .i64 10) := e75.trans (congrArg some t75)
          obtain ⟨v73, e73, t73⟩ := hk.2 3 (by kernel_rfl)
          replace e73 : ac.tmps[73]? = some v73 := e73
          replace e73 : ac.tmps[73]? = some (.bool true) := e73.trans (congrArg some t73)
          exact Reg.step_value ((Reg.wanted_is rfl rfl e73).trans rfl) (w1 := w') (by go_simp; try rfl) (Below.refl _ _) rfl
        · intro ac w' hb hd hk   -- 7
          replace hb := Reg.below_undrew hb
          obtain ⟨v73, e73, t73⟩ := hk.2 3 (by kernel_rfl)
          replace e73 : ac.tmps[73]? = some v73 := e73
          replace e73 : ac.tmps[73]? = some (.bool true) := e73.trans (congrArg some t73)
          obtain ⟨v76, e76, t76⟩ := hk.2 6 (by kernel_rfl)
          replace e76 : ac.tmps[76]? = some v76 := e76
          replace e76 : ac.tmps[76]? = some (.bool true) := e76.trans (congrArg some t76)
          exact Reg.step_value (Reg.wanted_free rfl) (w1 := w') (by go_simp; try rfl) (Below.refl _ _) rfl
        · intro ac w' hb hd hk   -- 8
          replace hb := Reg.below_undrew hb
          obtain ⟨v77, e77, t77⟩ := hk.2 7 (by kernel_rfl)
          replace e77 : ac.tmps[77]? = some v77 := e77
          replace e77 : ac.tmps[77]? = some (.bool true) := e77.trans (congrArg some t77)
          exact Reg.step_value (Reg.wanted_free rfl) (w1 := w') (by go_simp; try rfl) (Below.refl _ _) rfl
        · intro ac w' hb hd hk   -- 9
          replace hb := Reg.below_undrew hb
          have e0 : ac.tmps[0]? = some (.int .i64 n) := (hk.1 0 (by kernel_rfl)).trans rfl
          obtain ⟨v78, e78, t78⟩ := hk.2 8 (by kernel_rfl)
          replace e78 : ac.tmps[78]? = some v78 := e78
          replace e78 : ac.tmps[78]? = some (.bool true) := e78.trans (congrArg some t78)
          exact Reg.step_value ((Reg.wanted_is rfl rfl e78).trans rfl) (w1 := w') (by go_simp; try rfl) (Below.refl _ _) rfl
        · intro ac w' hb hd hk   -- 10
          replace hb := Reg.below_undrew hb
          have e1 : ac.tmps[1]? = some (.int .i64 m) := (hk.1 1 (by kernel_rfl)).trans rfl
          obtain ⟨v78, e78, t78⟩ := hk.2 8 (by kernel_rfl)
          replace e78 : ac.tmps[78]? = some v78 := e78
          replace e78 : ac.tmps[78]? = some (.bool true) := e78.trans (congrArg some t78)
          exact Reg.step_value ((Reg.wanted_is rfl rfl e78).trans rfl) (w1 := w') (by go_simp; try rfl) (Below.refl _ _) rfl
        · intro ac w' hb hd hk   -- 11
          replace hb := Reg.below_undrew hb
          obtain ⟨v79, e79, t79⟩ := hk.2 9 (by kernel_rfl)
          replace e79 : ac.tmps[79]? = some v79 := e79
          replace e79 : ac.tmps[79]? = some (.int .i64 n) := e79.trans (congrArg some t79)
          obtain ⟨v80, e80, t80⟩ := hk.2 10 (by kernel_rfl)
          replace e80 : ac.tmps[80]? = some v80 := e80
          replace e80 : ac.tmps[80]? = some (.int .i64 m) := e80.trans (congrArg some t80)
          obtain ⟨v78, e78, t78⟩ := hk.2 8 (by kernel_rfl)
          replace e78 : ac.tmps[78]? = some v78 := e78
          replace e78 : ac.tmps[78]? = some (.bool true) := e78.trans (congrArg some t78)
          have hx : ((n : Int) == m) = true := beq_iff_eq.2 hnm
          exact Reg.step_value ((Reg.wanted_is rfl rfl e78).trans rfl) (w1 := w') (by go_simp; try rfl) (Below.refl _ _) rfl
        · intro ac w' hb hd hk   -- 12
          replace hb := Reg.below_undrew hb
          obtain ⟨v81, e81, t81⟩ := hk.2 11 (by kernel_rfl)
          replace e81 : ac.tmps[81]? = some v81 := e81
          replace e81 : ac.tmps[81]? = some (.bool true) := e81.trans (congrArg some t81)
          obtain ⟨v78, e78, t78⟩ := hk.2 8 (by kernel_rfl)
          replace e78 : ac.tmps[78]? = some v78 := e78
          replace e78 : ac.tmps[78]? = some (.bool true) := e78.trans (congrArg some t78)
          exact Reg.step_value ((Reg.wanted_is rfl rfl e78).trans rfl) (w1 := w') (by go_simp; try rfl) (Below.refl _ _) rfl
        · intro ac w' hb hd hk   -- 13
          replace hb := Reg.below_undrew hb
          obtain ⟨v82, e82, t82⟩ := hk.2 12 (by kernel_rfl)
          replace e82 : ac.tmps[82]? = some v82 := e82
          replace e82 : ac.tmps[82]? = some (.bool true) := e82.trans (congrArg some t82)
          exact Reg.step_off ((Reg.wanted_is rfl rfl e82).trans rfl) rfl
        · intro ac w' hb hd hk   -- 14
          replace hb := Reg.below_undrew hb
          obtain ⟨v82, e82, t82⟩ := hk.2 12 (by kernel_rfl)
          replace e82 : ac.tmps[82]? = some v82 := e82
          replace e82 : ac.tmps[82]? = some (.bool true) := e82.trans (congrArg some t82)
          exact Reg.step_off ((Reg.wanted_is rfl rfl e82).trans rfl) rfl
        · intro ac w' hb hd hk   -- 15
          replace hb := Reg.below_undrew hb
          obtain ⟨v82, e82, t82⟩ := hk.2 12 (by kernel_rfl)
          replace e82 : ac.tmps[82]? = some v82 := e82
          replace e82 : ac.tmps[82]? = some (.bool true) := e82.trans (congrArg some t82)
          exact Reg.step_off ((Reg.wanted_is rfl rfl e82).trans rfl) rfl
        · intro ac w' hb hd hk   -- 16
          replace hb := Reg.below_undrew hb
          obtain ⟨v82, e82, t82⟩ := hk.2 12 (by kernel_rfl)
          replace e82 : ac.tmps[82]? = some v82 := e82
          replace e82 : ac.tmps[82]? = some (.bool true) := e82.trans (congrArg some t82)
          exact Reg.step_off ((Reg.wanted_is rfl rfl e82).trans rfl) rfl
        · intro ac w' hb hd hk   -- 17
          replace hb := Reg.below_undrew hb
          obtain ⟨v82, e82, t82⟩ := hk.2 12 (by kernel_rfl)
          replace e82 : ac.tmps[82]? = some v82 := e82
          replace e82 : ac.tmps[82]? = some (.bool true) := e82.trans (congrArg some t82)
          exact Reg.step_off ((Reg.wanted_is rfl rfl e82).trans rfl) rfl
        · intro ac w' hb hd hk   -- 18
          replace hb := Reg.below_undrew hb
          obtain ⟨v82, e82, t82⟩ := hk.2 12 (by kernel_rfl)
          replace e82 : ac.tmps[82]? = some v82 := e82
          replace e82 : ac.tmps[82]? = some (.bool true) := e82.trans (congrArg some t82)
          obtain ⟨v87, e87, t87⟩ := hk.2 17 (by kernel_rfl)
          replace e87 : ac.tmps[87]? = some v87 := e87
          replace e87 : ac.tmps[87]? = some undef := e87.trans (congrArg some t87)
          obtain ⟨v78, e78, t78⟩ := hk.2 8 (by kernel_rfl)
          replace e78 : ac.tmps[78]? = some v78 := e78
          replace e78 : ac.tmps[78]? = some (.bool true) := e78.trans (congrArg some t78)
          exact Reg.step_value ((Reg.wanted_is rfl rfl e78).trans rfl) (w1 := w') (by go_simp; try rfl) (Below.refl _ _) rfl
        · intro ac w' hb hd hk   -- 19
          replace hb := Reg.below_undrew hb
          obtain ⟨v88, e88, t88⟩ := hk.2 18 (by kernel_rfl)
          replace e88 : ac.tmps[88]? = some v88 := e88
          replace e88 : ac.tmps[88]? = some (.bool true) := e88.trans (congrArg some t88)
          obtain ⟨v78, e78, t78⟩ := hk.2 8 (by kernel_rfl)
          replace e78 : ac.tmps[78]? = some v78 := e78
          replace e78 : ac.tmps[78]? = some (.bool true) := e78.trans (congrArg some t78)
          exact Reg.step_value ((Reg.wanted_is rfl rfl e78).trans rfl) (w1 := w') (by go_simp; try rfl) (Below.refl _ _) rfl
        · intro ac w' hb hd hk   -- 20
          replace hb := Reg.below_undrew hb
          obtain ⟨v89, e89, t89⟩ := hk.2 19 (by kernel_rfl)
          replace e89 : ac.tmps[89]? = some v89 := e89
          replace e89 : ac.tmps[89]? = some (.bool true) := e89.trans (congrArg some t89)
          exact Reg.step_off ((Reg.wanted_is rfl rfl e89).trans rfl) rfl
        · intro ac w' hb hd hk   -- 21
          replace hb := Reg.below_undrew hb
          obtain ⟨v89, e89, t89⟩ := hk.2 19 (by kernel_rfl)
          replace e89 : ac.tmps[89]? = some v89 := e89
          replace e89 : ac.tmps[89]? = some (.bool true) := e89.trans (congrArg some t89)
          exact Reg.step_off ((Reg.wanted_is rfl rfl e89).trans rfl) rfl
        · intro ac w' hb hd hk   -- 22
          replace hb := Reg.below_undrew hb
          obtain ⟨v89, e89, t89⟩ := hk.2 19 (by kernel_rfl)
          replace e89 : ac.tmps[89]? = some v89 := e89
          replace e89 : ac.tmps[89]? = some (.bool true) := e89.trans (congrArg some t89)
          exact Reg.step_off ((Reg.wanted_is rfl rfl e89).trans rfl) rfl
        · intro ac w' hb hd hk   -- 23
          replace hb := Reg.below_undrew hb
          obtain ⟨v89, e89, t89⟩ := hk.2 19 (by kernel_rfl)
          replace e89 : ac.tmps[89]? = some v89 := e89
          replace e89 : ac.tmps[89]? = some (.bool true) := e89.trans (congrArg some t89)
          exact Reg.step_off ((Reg.wanted_is rfl rfl e89).trans rfl) rfl
        · intro ac w' hb hd hk   -- 24
          replace hb := Reg.below_undrew hb
          obtain ⟨v89, e89, t89⟩ := hk.2 19 (by kernel_rfl)
          replace e89 : ac.tmps[89]? = some v89 := e89
          replace e89 : ac.tmps[89]? = some (.bool true) := e89.trans (congrArg some t89)
          exact Reg.step_off ((Reg.wanted_is rfl rfl e89).trans rfl) rfl
        · intro ac w' hb hd hk   -- 25
          replace hb := Reg.below_undrew hb
          obtain ⟨v89, e89, t89⟩ := hk.2 19 (by kernel_rfl)
          replace e89 : ac.tmps[89]? = some v89 := e89
          replace e89 : ac.tmps[89]? = some (.bool true) := e89.trans (congrArg some t89)
          exact Reg.step_off ((Reg.wanted_is rfl rfl e89).trans rfl) rfl
        · intro ac w' hb hd hk   -- 26
          replace hb := Reg.below_undrew hb
          obtain ⟨v89, e89, t89⟩ := hk.2 19 (by kernel_rfl)
          replace e89 : ac.tmps[89]? = some v89 := e89
          replace e89 : ac.tmps[89]? = some (.bool true) := e89.trans (congrArg some t89)
          exact Reg.step_off ((Reg.wanted_is rfl rfl e89).trans rfl) rfl
        · intro ac w' hb hd hk   -- 27
          replace hb := Reg.below_undrew hb
          obtain ⟨v89, e89, t89⟩ := hk.2 19 (by kernel_rfl)
          replace e89 : ac.tmps[89]? = some v89 := e89
          replace e89 : ac.tmps[89]? = some (.bool true) := e89.trans (congrArg some t89)
          exact Reg.step_off ((Reg.wanted_is rfl rfl e89).trans rfl) rfl
        · intro ac w' hb hd hk   -- 28
          replace hb := Reg.below_undrew hb
          obtain ⟨v89, e89, t89⟩ := hk.2 19 (by kernel_rfl)
          replace e89 : ac.tmps[89]? = some v89 := e89
          replace e89 : ac.tmps[89]? = some (.bool true) := e89.trans (congrArg some t89)
          obtain ⟨v97, e97, t97⟩ := hk.2 27 (by kernel_rfl)
          replace e97 : ac.tmps[97]? = some v97 := e97
          replace e97 : ac.tmps[97]? = some undef := e97.trans (congrArg some t97)
          obtain ⟨v78, e78, t78⟩ := hk.2 8 (by kernel_rfl)
          replace e78 : ac.tmps[78]? = some v78 := e78
          replace e78 : ac.tmps[78]? = some (.bool true) := e78.trans (congrArg some t78)
          exact Reg.step_value ((Reg.wanted_is rfl rfl e78).trans rfl) (w1 := w') (by go_simp; try rfl) (Below.refl _ _) rfl
        · intro ac w' hb hd hk   -- 29
          replace hb := Reg.below_undrew hb
          obtain ⟨v78, e78, t78⟩ := hk.2 8 (by kernel_rfl)
          replace e78 : ac.tmps[78]? = some v78 := e78
          replace e78 : ac.tmps[78]? = some (.bool true) := e78.trans (congrArg some t78)
          obtain ⟨v98, e98, t98⟩ := hk.2 28 (by kernel_rfl)
          replace e98 : ac.tmps[98]? = some v98 := e98
          replace e98 : ac.tmps[98]? = some (.bool true) := e98.trans (congrArg some t98)
          exact Reg.step_value (Reg.wanted_free rfl) (w1 := w') (by go_simp; try rfl) (Below.refl _ _) rfl
        · intro ac w' hb hd hk   -- 30
          replace hb := Reg.below_undrew hb
          obtain ⟨v99, e99, t99⟩ := hk.2 29 (by kernel_rfl)
          replace e99 : ac.tmps[99]? = some v99 := e99
          replace e99 : ac.tmps[99]? = some (.bool true) := e99.trans (congrArg some t99)
          exact Reg.step_value (Reg.wanted_free rfl) (w1 := w') (by go_simp; try rfl) (Below.refl _ _) rfl
      case fin =>
        intro w' hb
        replace hb := Reg.below_undrew hb
        rintro _ rfl
        rintro _ rfl
        rintro _ rfl
        rintro _ rfl
        rintro _ rfl
        rintro _ rfl
        rintro _ rfl
        rintro _ rfl
        rintro _ rfl
        rintro _ rfl
        rintro _ rfl
        rintro _ rfl
        rintro _ rfl
        rintro _ rfl
        rintro _ rfl
        rintro _ rfl
        rintro _ rfl
        rintro _ rfl
        rintro _ rfl
        rintro _ rfl
        rintro _ rfl
        rintro _ rfl
        rintro _ rfl
        rintro _ rfl
        rintro _ rfl
        rintro _ rfl
        rintro _ rfl
        rintro _ rfl
        rintro _ rfl
        rintro _ rfl
        rintro _ rfl
        refine Reg.done_nil ?_
        simp only [Act.put, List.setIfInBounds_toArray, List.set_cons_zero, List.set_cons_succ]
        go_wp2
        go_ret
        exact ⟨rfl, HB6.out.trans (hb.mono HB6.out.size)⟩
    by_cases hgt : (encI m).length < (encI n).length
    · refine Reg.region_inv (Reg.tab [(Reg.Is ve), (Reg.Is (.int .i64 10)), (Reg.Is (.bool true)), (Reg.Is (.bool true)), (Reg.Is vf), (Reg.Is (.int .i64 10)), (Reg.Is (.bool true)), (Reg.Is (.bool true)), (Reg.Is (.bool true)), (Reg.Is (.int .i64 n)), (Reg.Is (.int .i64 m)), (Reg.Is (.bool false)), (Reg.Is (.bool false)), (Reg.Is (.slice Aa (encI n).length ca)), (Reg.Is (.int .i64 ((encI n).length : Int))), (Reg.Is (.slice Ab (encI m).length cb)), (Reg.Is (.int .i64 ((encI m).length : Int))), (Reg.Is (.bool true)), (Reg.Is (.bool true)), (Reg.Is (.bool true)), (Reg.Is undef), (Reg.Is undef), (Reg.Is undef), (Reg.Is undef), (Reg.Is undef), (Reg.Is undef), (Reg.Is undef), (Reg.Is undef), (Reg.Is (.bool true)), (Reg.Is (.bool true)), (Reg.Is (.bool true))]) (by kernel_rfl) (by kernel_rfl) (Reg.tab_mono ?mono) ?steps ?fin
      case mono => exact ⟨Reg.Is.mono _, Reg.Is.mono _, Reg.Is.mono _, Reg.Is.mono _, Reg.Is.mono _, Reg.Is.mono _, Reg.Is.mono _, Reg.Is.mono _, Reg.Is.mono _, Reg.Is.mono _, Reg.Is.mono _, Reg.Is.mono _, Reg.Is.mono _, Reg.Is.mono _, Reg.Is.mono _, Reg.Is.mono _, Reg.Is.mono _, Reg.Is.mono _, Reg.Is.mono _, Reg.Is.mono _, Reg.Is.mono _, Reg.Is.mono _, Reg.Is.mono _, Reg.Is.mono _, Reg.Is.mono _, Reg.Is.mono _, Reg.Is.mono _, Reg.Is.mono _, Reg.Is.mono _, Reg.Is.mono _, Reg.Is.mono _, trivial⟩
      case steps =>
        refine ⟨?_, ?_, ?_, ?_, ?_, ?_, ?_, ?_, ?_, ?_, ?_, ?_, ?_, ?_, ?_, ?_, ?_, ?_, ?_, ?_, ?_, ?_, ?_, ?_, ?_, ?_, ?_, ?_, ?_, ?_, ?_, trivial⟩
        · intro ac w' hb hd hk   -- 0
          replace hb := Reg.below_undrew hb
          have e14 : ac.tmps[14]? = some ve := (hk.1 14 (by kernel_rfl)).trans rfl
          exact Reg.step_value (Reg.wanted_free rfl) (w1 := w') (by go_simp; try rfl) (Below.refl _ _) rfl
        · intro ac w' hb hd hk   -- 1
          replace hb := Reg.below_undrew hb
          obtain ⟨v70, e70, t70⟩ := hk.2 0 (by kernel_rfl)
          replace e70 : ac.tmps[70]? = some v70 := e70
          replace e70 : ac.tmps[70]? = some ve := e70.trans (congrArg some t70)
          refine Reg.step_call (Reg.wanted_free rfl) (by go_simp; try rfl) ((code_law (werr 0 10) ve _ (HEe6.out.below hb (Nat.le_refl _)) (HL6.out.below hb (Nat.le_refl _))).mono ?_)
          rintro e w4 ⟨rfl, hb4⟩
          exact ⟨_, rfl, by rw [code_werr]; rfl, hb4⟩
        · intro ac w' hb hd hk   -- 2
          replace hb := Reg.below_undrew hb
          obtain ⟨v71, e71, t71⟩ := hk.2 1 (by kernel_rfl)
          replace e71 : ac.tmps[71]? = some v71 := e71
          replace e71 : ac.tmps[71]? = some (.int .i64 10) := e71.trans (congrArg some t71)
          exact Reg.step_value (Reg.wanted_free rfl) (w1 := w') (by go_simp; try rfl) (Below.refl _ _) rfl
        · intro ac w' hb hd hk   -- 3
          replace hb := Reg.below_undrew hb
          obtain ⟨v72, e72, t72⟩ := hk.2 2 (by kernel_rfl)
          replace e72 : ac.tmps[72]? = some v72 := e72
          replace e72 : ac.tmps[72]? = some (.bool true) := e72.trans (congrArg some t72)
          exact Reg.step_value (Reg.wanted_free rfl) (w1 := w') (by go_simp; try rfl) (Below.refl _ _) rfl
        · intro ac w' hb hd hk   -- 4
          replace hb := Reg.below_undrew hb
          have e17 : ac.tmps[17]? = some vf := (hk.1 17 (by kernel_rfl)).trans rfl
          obtain ⟨v73, e73, t73⟩ := hk.2 3 (by kernel_rfl)
          replace e73 : ac.tmps[73]? = some v73 := e73
          replace e73 : ac.tmps[73]? = some (.bool true) := e73.trans (congrArg some t73)
          exact Reg.step_value ((Reg.wanted_is rfl rfl e73).trans rfl) (w1 := w') (by go_simp; try rfl) (Below.refl _ _) rfl
        · intro ac w' hb hd hk   -- 5
          replace hb := Reg.below_undrew hb
          obtain ⟨v74, e74, t74⟩ := hk.2 4 (by kernel_rfl)
          replace e74 : ac.tmps[74]? = some v74 := e74
          replace e74 : ac.tmps[74]? = some vf := e74.trans (congrArg some t74)
          obtain ⟨v73, e73, t73⟩ := hk.2 3 (by kernel_rfl)
          replace e73 : ac.tmps[73]? = some v73 := e73
          replace e73 : ac.tmps[73]? = some (.bool true) := e73.trans (congrArg some t73)
          refine Reg.step_call ((Reg.wanted_is rfl rfl e73).trans rfl) (by go_simp; try rfl) ((code_law (werr g 10) vf _ (HEf.out.below hb (Nat.le_refl _)) (HL6.out.below hb (Nat.le_refl _))).mono ?_)
          rintro e w4 ⟨rfl, hb4⟩
          exact ⟨_, rfl, by rw [code_werr]; rfl, hb4⟩
        · intro ac w' hb hd hk   -- 6
          replace hb := Reg.below_undrew hb
          obtain ⟨v75, e75, t75⟩ := hk.2 5 (by kernel_rfl)
          replace e75 : ac.tmps[75]? = some v75 := e75
          replace e75 : ac.tmps[75]? = some (.int .i64 10) := e75.trans (congrArg some t75)
          obtain ⟨v73, e73, t73⟩ := hk.2 3 (by kernel_rfl)
          replace e73 : ac.tmps[73]? = some v73 := e73
          replace e73 : ac.tmps[73]? = some (.bool true) := e73.trans (congrArg some t73)
          exact Reg.step_value ((Reg.wanted_is rfl rfl e73).trans rfl) (w1 := w') (by go_simp; try rfl) (Below.refl _ _) rfl
        · intro ac w' hb hd hk   -- 7
          replace hb := Reg.below_undrew hb
          obtain ⟨v73, e73, t73⟩ := hk.2 3 (by kernel_rfl)
          replace e73 : ac.tmps[73]? = some v73 := e73
          replace e73 : ac.tmps[73]? = some (.bool true) := e73.trans (congrArg some t73)
          obtain ⟨v76, e76, t76⟩ := hk.2 6 (by kernel_rfl)
          replace e76 : ac.tmps[76]? = some v76 := e76
          replace e76 : ac.tmps[76]? = some (.bool true) := e76.trans (congrArg some t76)
          exact Reg.step_value (Reg.wanted_free rfl) (w1 := w') (by go_simp; try rfl) (Below.refl _ _) rfl
        · intro ac w' hb hd hk   -- 8
          replace hb := Reg.below_undrew hb
          obtain ⟨v77, e77, t77⟩ := hk.2 7 (by kernel_rfl)
          replace e77 : ac.tmps[77]? = some v77 := e77
          replace e77 : ac.tmps[77]? = some (.bool true) := e77.trans (congrArg some t77)
          exact Reg.step_value (Reg.wanted_free rfl) (w1 := w') (by go_simp; try rfl) (Below.refl _ _) rfl
        · intro ac w' hb hd hk   -- 9
          replace hb := Reg.below_undrew hb
          have e0 : ac.tmps[0]? = some (.int .i64 n) := (hk.1 0 (by kernel_rfl)).trans rfl
          obtain ⟨v78, e78, t78⟩ := hk.2 8 (by kernel_rfl)
          replace e78 : ac.tmps[78]? = some v78 := e78
          replace e78 : ac.tmps[78]? = some (.bool true) := e78.trans (congrArg some t78)
          exact Reg.step_value ((Reg.wanted_is rfl rfl e78).trans rfl) (w1 := w') (by go_simp; try rfl) (Below.refl _ _) rfl
        · intro ac w' hb hd hk   -- 10
          replace hb := Reg.below_undrew hb
          have e1 : ac.tmps[1]? = some (.int .i64 m) := (hk.1 1 (by kernel_rfl)).trans rfl
          obtain ⟨v78, e78, t78⟩ := hk.2 8 (by kernel_rfl)
          replace e78 : ac.tmps[78]? = some v78 := e78
          replace e78 : ac.tmps[78]? = some (.bool true) := e78.trans (congrArg some t78)
          exact Reg.step_value ((Reg.wanted_is rfl rfl e78).trans rfl) (w1 := w') (by go_simp; try rfl) (Below.refl _ _) rfl
        · intro ac w' hb hd hk   -- 11
          replace hb := Reg.below_undrew hb
          obtain ⟨v79, e79, t79⟩ := hk.2 9 (by kernel_rfl)
          replace e79 : ac.tmps[79]? = some v79 := e79
          replace e79 : ac.tmps[79]? = some (.int .i64 n) := e79.trans (congrArg some t79)
          obtain ⟨v80, e80, t80⟩ := hk.2 10 (by kernel_rfl)
          replace e80 : ac.tmps[80]? = some v80 := e80
          replace e80 : ac.tmps[80]? = some (.int .i64 m) := e80.trans (congrArg some t80)
          obtain ⟨v78, e78, t78⟩ := hk.2 8 (by kernel_rfl)
          replace e78 : ac.tmps[78]? = some v78 := e78
          replace e78 : ac.tmps[78]? = some (.bool true) := e78.trans (congrArg some t78)
          have hx : ((n : Int) == m) = false := beq_eq_false_iff_ne.2 hnm
          exact Reg.step_value ((Reg.wanted_is rfl rfl e78).trans rfl) (w1 := w') (by go_simp; try rfl) (Below.refl _ _) rfl
        · intro ac w' hb hd hk   -- 12
          replace hb := Reg.below_undrew hb
          obtain ⟨v81, e81, t81⟩ := hk.2 11 (by kernel_rfl)
          replace e81 : ac.tmps[81]? = some v81 := e81
          replace e81 : ac.tmps[81]? = some (.bool false) := e81.trans (congrArg some t81)
          obtain ⟨v78, e78, t78⟩ := hk.2 8 (by kernel_rfl)
          replace e78 : ac.tmps[78]? = some v78 := e78
          replace e78 : ac.tmps[78]? = some (.bool true) := e78.trans (congrArg some t78)
          exact Reg.step_value ((Reg.wanted_is rfl rfl e78).trans rfl) (w1 := w') (by go_simp; try rfl) (Below.refl _ _) rfl
        · intro ac w' hb hd hk   -- 13
          replace hb := Reg.below_undrew hb
          have e9 : ac.tmps[9]? = some (.slice Aa (encI n).length ca) := (hk.1 9 (by kernel_rfl)).trans rfl
          obtain ⟨v82, e82, t82⟩ := hk.2 12 (by kernel_rfl)
          replace e82 : ac.tmps[82]? = some v82 := e82
          replace e82 : ac.tmps[82]? = some (.bool false) := e82.trans (congrArg some t82)
          exact Reg.step_value ((Reg.wanted_is rfl rfl e82).trans rfl) (w1 := w') (by go_simp; try rfl) (Below.refl _ _) rfl
        · intro ac w' hb hd hk   -- 14
          replace hb := Reg.below_undrew hb
          obtain ⟨v83, e83, t83⟩ := hk.2 13 (by kernel_rfl)
          replace e83 : ac.tmps[83]? = some v83 := e83
          replace e83 : ac.tmps[83]? = some (.slice Aa (encI n).length ca) := e83.trans (congrArg some t83)
          obtain ⟨v82, e82, t82⟩ := hk.2 12 (by kernel_rfl)
          replace e82 : ac.tmps[82]? = some v82 := e82
          replace e82 : ac.tmps[82]? = some (.bool false) := e82.trans (congrArg some t82)
          exact Reg.step_value ((Reg.wanted_is rfl rfl e82).trans rfl) (w1 := w') (by go_simp; try rfl) (Below.refl _ _) rfl
        · intro ac w' hb hd hk   -- 15
          replace hb := Reg.below_undrew hb
          have e10 : ac.tmps[10]? = some (.slice Ab (encI m).length cb) := (hk.1 10 (by kernel_rfl)).trans rfl
          obtain ⟨v82, e82, t82⟩ := hk.2 12 (by kernel_rfl)
          replace e82 : ac.tmps[82]? = some v82 := e82
          replace e82 : ac.tmps[82]? = some (.bool false) := e82.trans (congrArg some t82)
          exact Reg.step_value ((Reg.wanted_is rfl rfl e82).trans rfl) (w1 := w') (by go_simp; try rfl) (Below.refl _ _) rfl
        · intro ac w' hb hd hk   -- 16
          replace hb := Reg.below_undrew hb
          obtain ⟨v85, e85, t85⟩ := hk.2 15 (by kernel_rfl)
          replace e85 : ac.tmps[85]? = some v85 := e85
          replace e85 : ac.tmps[85]? = some (.slice Ab (encI m).length cb) := e85.trans (congrArg some t85)
          obtain ⟨v82, e82, t82⟩ := hk.2 12 (by kernel_rfl)
          replace e82 : ac.tmps[82]? = some v82 := e82
          replace e82 : ac.tmps[82]? = some (.bool false) := e82.trans (congrArg some t82)
          exact Reg.step_value ((Reg.wanted_is rfl rfl e82).trans rfl) (w1 := w') (by go_simp; try rfl) (Below.refl _ _) rfl
        · intro ac w' hb hd hk   -- 17
          replace hb := Reg.below_undrew hb
          obtain ⟨v84, e84, t84⟩ := hk.2 14 (by kernel_rfl)
          replace e84 : ac.tmps[84]? = some v84 := e84
          replace e84 : ac.tmps[84]? = some (.int .i64 ((encI n).length : Int)) := e84.trans (congrArg some t84)
          obtain ⟨v86, e86, t86⟩ := hk.2 16 (by kernel_rfl)
          replace e86 : ac.tmps[86]? = some v86 := e86
          replace e86 : ac.tmps[86]? = some (.int .i64 ((encI m).length : Int)) := e86.trans (congrArg some t86)
          obtain ⟨v82, e82, t82⟩ := hk.2 12 (by kernel_rfl)
          replace e82 : ac.tmps[82]? = some v82 := e82
          replace e82 : ac.tmps[82]? = some (.bool false) := e82.trans (congrArg some t82)
          have hx : decide ((encI m).length < (encI n).length) = true := decide_eq_true hgt
          exact Reg.step_value ((Reg.wanted_is rfl rfl e82).trans rfl) (w1 := w') (by go_simp; try rfl) (Below.refl _ _) rfl
        · intro ac w' hb hd hk   -- 18
          replace hb := Reg.below_undrew hb
          obtain ⟨v82, e82, t82⟩ := hk.2 12 (by kernel_rfl)
          replace e82 : ac.tmps[82]? = some v82 := e82
          replace e82 : ac.tmps[82]? = some (.bool false) := e82.trans (congrArg some t82)
          obtain ⟨v87, e87, t87⟩ := hk.2 17 (by kernel_rfl)
          replace e87 : ac.tmps[87]? = some v87 := e87
          replace e87 : ac.tmps[87]? = some (.bool true) := e87.trans (congrArg some t87)
          obtain ⟨v78, e78, t78⟩ := hk.2 8 (by kernel_rfl)
          replace e78 : ac.tmps[78]? = some v78 := e78
          replace e78 : ac.tmps[78]? = some (.bool true) := e78.trans (congrArg some t78)
          exact Reg.step_value ((Reg.wanted_is rfl rfl e78).trans rfl) (w1 := w') (by go_simp; try rfl) (Below.refl _ _) rfl
        · intro ac w' hb hd hk   -- 19
          replace hb := Reg.below_undrew hb
          obtain ⟨v88, e88, t88⟩ := hk.2 18 (by kernel_rfl)
          replace e88 : ac.tmps[88]? = some v88 := e88
          replace e88 : ac.tmps[88]? = some (.bool true) := e88.trans (congrArg some t88)
          obtain ⟨v78, e78, t78⟩ := hk.2 8 (by kernel_rfl)
          replace e78 : ac.tmps[78]? = some v78 := e78
          replace e78 : ac.tmps[78]? = some (.bool true) := e78.trans (congrArg some t78)
          exact Reg.step_value ((Reg.wanted_is rfl rfl e78).trans rfl) (w1 := w') (by go_simp; try rfl) (Below.refl _ _) rfl
        · intro ac w' hb hd hk   -- 20
          replace hb := Reg.below_undrew hb
          obtain ⟨v89, e89, t89⟩ := hk.2 19 (by kernel_rfl)
          replace e89 : ac.tmps[89]? = some v89 := e89
          replace e89 : ac.tmps[89]? = some (.bool true) := e89.trans (congrArg some t89)
          exact Reg.step_off ((Reg.wanted_is rfl rfl e89).trans rfl) rfl
        · intro ac w' hb hd hk   -- 21
          replace hb := Reg.below_undrew hb
          obtain ⟨v89, e89, t89⟩ := hk.2 19 (by kernel_rfl)
          replace e89 : ac.tmps[89]? = some v89 := e89
          replace e89 : ac.tmps[89]? = some (.bool true) := e89.trans (congrArg some t89)
          exact Reg.step_off ((Reg.wanted_is rfl rfl e89).trans rfl) rfl
        · intro ac w' hb hd hk   -- 22
          replace hb := Reg.below_undrew hb
          obtain ⟨v89, e89, t89⟩ := hk.2 19 (by kernel_rfl)
          replace e89 : ac.tmps[89]? = some v89 := e89
          replace e89 : ac.tmps[89]? = some (.bool true) := e89.trans (congrArg some t89)
          exact Reg.step_off ((Reg.wanted_is rfl rfl e89).trans rfl) rfl
        · intro ac w' hb hd hk   -- 23
          replace hb := Reg.below_undrew hb
          obtain ⟨v89, e89, t89⟩ := hk.2 19 (by kernel_rfl)
          replace e89 : ac.tmps[89]? = some v89 := e89
          replace e89 : ac.tmps[89]? = some (.bool true) := e89.trans (congrArg some t89)
          exact Reg.step_off ((Reg.wanted_is rfl rfl e89).trans rfl) rfl
        · intro ac w' hb hd hk   -- 24
          replace hb := Reg.below_undrew hb
          obtain ⟨v89, e89, t89⟩ := hk.2 19 (by kernel_rfl)
          replace e89 : ac.tmps[89]? = some v89 := e89
          replace e89 : ac.tmps[89]? = some (.bool true) := e89.trans (congrArg some t89)
          exact Reg.step_off ((Reg.wanted_is rfl rfl e89).trans rfl) rfl
        · intro ac w' hb hd hk   -- 25
          replace hb := Reg.below_undrew hb
          obtain ⟨v89, e89, t89⟩ := hk.2 19 (by kernel_rfl)
          replace e89 : ac.tmps[89]? = some v89 := e89
          replace e89 : ac.tmps[89]? = some (.bool true) := e89.trans (congrArg some t89)
          exact Reg.step_off ((Reg.wanted_is rfl rfl e89).trans rfl) rfl
        · intro ac w' hb hd hk   -- 26
          replace hb := Reg.below_undrew hb
          obtain ⟨v89, e89, t89⟩ := hk.2 19 (by kernel_rfl)
          replace e89 : ac.tmps[89]? = some v89 := e89
          replace e89 : ac.tmps[89]? = some (.bool true) := e89.trans (congrArg some t89)
          exact Reg.step_off ((Reg.wanted_is rfl rfl e89).trans rfl) rfl
        · intro ac w' hb hd hk   -- 27
          replace hb := Reg.below_undrew hb
          obtain ⟨v89, e89, t89⟩ := hk.2 19 (by kernel_rfl)
          replace e89 : ac.tmps[89]? = some v89 := e89
          replace e89 : ac.tmps[89]? = some (.bool true) := e89.trans (congrArg some t89)
          exact Reg.step_off ((Reg.wanted_is rfl rfl e89).trans rfl) rfl
        · intro ac w' hb hd hk   -- 28
          replace hb := Reg.below_undrew hb
          obtain ⟨v89, e89, t89⟩ := hk.2 19 (by kernel_rfl)
          replace e89 : ac.tmps[89]? = some v89 := e89
          replace e89 : ac.tmps[89]? = some (.bool true) := e89.trans (congrArg some t89)
          obtain ⟨v97, e97, t97⟩ := hk.2 27 (by kernel_rfl)
          replace e97 : ac.tmps[97]? = some v97 := e97
          replace e97 : ac.tmps[97]? = some undef := e97.trans (congrArg some t97)
          obtain ⟨v78, e78, t78⟩ := hk.2 8 (by kernel_rfl)
          replace e78 : ac.tmps[78]? = some v78 := e78
          replace e78 : ac.tmps[78]? = some (.bool true) := e78.trans (congrArg some t78)
          exact Reg.step_value ((Reg.wanted_is rfl rfl e78).trans rfl) (w1 := w') (by go_simp; try rfl) (Below.refl _ _) rfl
        · intro ac w' hb hd hk   -- 29
          replace hb := Reg.below_undrew hb
          obtain ⟨v78, e78, t78⟩ := hk.2 8 (by kernel_rfl)
          replace e78 : ac.tmps[78]? = some v78 := e78
          replace e78 : ac.tmps[78]? = some (.bool true) := e78.trans (congrArg some t78)
          obtain ⟨v98, e98, t98⟩ := hk.2 28 (by kernel_rfl)
          replace e98 : ac.tmps[98]? = some v98 := e98
          replace e98 : ac.tmps[98]? = some (.bool true) := e98.trans (congrArg some t98)
          exact Reg.step_value (Reg.wanted_free rfl) (w1 := w') (by go_simp; try rfl) (Below.refl _ _) rfl
        · intro ac w' hb hd hk   -- 30
          replace hb := Reg.below_undrew hb
          obtain ⟨v99, e99, t99⟩ := hk.2 29 (by kernel_rfl)
          replace e99 : ac.tmps[99]? = some v99 := e99
          replace e99 : ac.tmps[99]? = some (.bool true) := e99.trans (congrArg some t99)
          exact Reg.step_value (Reg.wanted_free rfl) (w1 := w') (by go_simp; try rfl) (Below.refl _ _) rfl
      case fin =>
        intro w' hb
        replace hb := Reg.below_undrew hb
        rintro _ rfl
        rintro _ rfl
        rintro _ rfl
        rintro _ rfl
        rintro _ rfl
        rintro _ rfl
        rintro _ rfl
        rintro _ rfl
        rintro _ rfl
        rintro _ rfl
        rintro _ rfl
        rintro _ rfl
        rintro _ rfl
        rintro _ rfl
        rintro _ rfl
        rintro _ rfl
        rintro _ rfl
        rintro _ rfl
        rintro _ rfl
        rintro _ rfl
        rintro _ rfl
        rintro _ rfl
        rintro _ rfl
        rintro _ rfl
        rintro _ rfl
        rintro _ rfl
        rintro _ rfl
        rintro _ rfl
        rintro _ rfl
        rintro _ rfl
        rintro _ rfl
        refine Reg.done_nil ?_
        simp only [Act.put, List.setIfInBounds_toArray, List.set_cons_zero, List.set_cons_succ]
        go_wp2
        go_ret
        exact ⟨rfl, HB6.out.trans (hb.mono HB6.out.size)⟩
    · have hcutB := cut_to (P := Tryd.prog) 22 5 .i64 Tryd.underlying22 (info_parts info5).choose_spec.1 Ab (encI m).length cb ((encI n).length : Int) (by omega) (by omega) (Kd.R_reads' HRb.out).2.1
      rw [Int.toNat_natCast] at hcutB
      have htk : ((encI m).take (encI n).length).length = (encI n).length := by rw [List.length_take]; omega
      refine Reg.region_inv (Reg.tab [(Reg.Is ve), (Reg.Is (.int .i64 10)), (Reg.Is (.bool true)), (Reg.Is (.bool true)), (Reg.Is vf), (Reg.Is (.int .i64 10)), (Reg.Is (.bool true)), (Reg.Is (.bool true)), (Reg.Is (.bool true)), (Reg.Is (.int .i64 n)), (Reg.Is (.int .i64 m)), (Reg.Is (.bool false)), (Reg.Is (.bool false)), (Reg.Is (.slice Aa (encI n).length ca)), (Reg.Is (.int .i64 ((encI n).length : Int))), (Reg.Is (.slice Ab (encI m).length cb)), (Reg.Is (.int .i64 ((encI m).length : Int))), (Reg.Is (.bool false)), (Reg.Is (.bool false)), (Reg.Is (.bool false)), (Reg.Is (.slice Ab (encI m).length cb)), (Reg.Is (.slice Aa (encI n).length ca)), (Reg.Is (.int .i64 ((encI n).length : Int))), (Reg.Is (.slice Ab (encI n).length cb)), (Reg.Is (.string (strOfNums ((encI m).take (encI n).length)))), (Reg.Is (.slice Aa (encI n).length ca)), (Reg.Is (.string (strOfNums (encI n)))), (Reg.Is (.bool true)), (Reg.Is (.bool true)), (Reg.Is (.bool true)), (Reg.Is (.bool true))]) (by kernel_rfl) (by kernel_rfl) (Reg.tab_mono ?mono) ?steps ?fin
      case mono => exact ⟨Reg.Is.mono _, Reg.Is.mono _, Reg.Is.mono _, Reg.Is.mono _, Reg.Is.mono _, Reg.Is.mono _, Reg.Is.mono _, Reg.Is.mono _, Reg.Is.mono _, Reg.Is.mono _, Reg.Is.mono _, Reg.Is.mono _, Reg.Is.mono _, Reg.Is.mono _, Reg.Is.mono _, Reg.Is.mono _, Reg.Is.mono _, Reg.Is.mono _, Reg.Is.mono _, Reg.Is.mono _, Reg.Is.mono _, Reg.Is.mono _, Reg.Is.mono _, Reg.Is.mono _, Reg.Is.mono _, Reg.Is.mono _, Reg.Is.mono _, Reg.Is.mono _, Reg.Is.mono _, Reg.Is.mono _, Reg.Is.mono _, trivial⟩
      case steps =>
        refine ⟨?_, ?_, ?_, ?_, ?_, ?_, ?_, ?_, ?_, ?_, ?_, ?_, ?_, ?_, ?_, ?_, ?_, ?_, ?_, ?_, ?_, ?_, ?_, ?_, ?_, ?_, ?_, ?_, ?_, ?_, ?_, trivial⟩
        · intro ac w' hb hd hk   -- 0
          replace hb := Reg.below_undrew hb
          have e14 : ac.tmps[14]? = some ve := (hk.1 14 (by kernel_rfl)).trans rfl
          exact Reg.step_value (Reg.wanted_free rfl) (w1 := w') (by go_simp; try rfl) (Below.refl _ _) rfl
        · intro ac w' hb hd hk   -- 1
          replace hb := Reg.below_undrew hb
          obtain ⟨v70, e70, t70⟩ := hk.2 0 (by kernel_rfl)
          replace e70 : ac.tmps[70]? = some v70 := e70
          replace e70 : ac.tmps[70]? = some ve := e70.trans (congrArg some t70)
          refine Reg.step_call (Reg.wanted_free rfl) (by go_simp; try rfl) ((code_law (werr 0 10) ve _ (HEe6.out.below hb (Nat.le_refl _)) (HL6.out.below hb (Nat.le_refl _))).mono ?_)
          rintro e w4 ⟨rfl, hb4⟩
          exact ⟨_, rfl, by rw [code_werr]; rfl, hb4⟩
        · intro ac w' hb hd hk   -- 2
          replace hb := Reg.below_undrew hb
          obtain ⟨v71, e71, t71⟩ := hk.2 1 (by kernel_rfl)
          replace e71 : ac.tmps[71]? = some v71 := e71
          replace e71 : ac.tmps[71]? = some (.int .i64 10) := e71.trans (congrArg some t71)
          exact Reg.step_value (Reg.wanted_free rfl) (w1 := w') (by go_simp; try rfl) (Below.refl _ _) rfl
        · intro ac w' hb hd hk   -- 3
          replace hb := Reg.below_undrew hb
          obtain ⟨v72, e72, t72⟩ := hk.2 2 (by kernel_rfl)
          replace e72 : ac.tmps[72]? = some v72 := e72
          replace e72 : ac.tmps[72]? = some (.bool true) := e72.trans (congrArg some t72)
          exact Reg.step_value (Reg.wanted_free rfl) (w1 := w') (by go_simp; try rfl) (Below.refl _ _) rfl
        · intro ac w' hb hd hk   -- 4
          replace hb := Reg.below_undrew hb
          have e17 : ac.tmps[17]? = some vf := (hk.1 17 (by kernel_rfl)).trans rfl
          obtain ⟨v73, e73, t73⟩ := hk.2 3 (by kernel_rfl)
          replace e73 : ac.tmps[73]? = some v73 := e73
          replace e73 : ac.tmps[73]? = some (.bool true) := e73.trans (congrArg some t73)
          exact Reg.step_value ((Reg.wanted_is rfl rfl e73).trans rfl) (w1 := w') (by go_simp; try rfl) (Below.refl _ _) rfl
        · intro ac w' hb hd hk   -- 5
          replace hb := Reg.below_undrew hb
          obtain ⟨v74, e74, t74⟩ := hk.2 4 (by kernel_rfl)
          replace e74 : ac.tmps[74]? = some v74 := e74
          replace e74 : ac.tmps[74]? = some vf := e74.trans (congrArg some t74)
          obtain ⟨v73, e73, t73⟩ := hk.2 3 (by kernel_rfl)
          replace e73 : ac.tmps[73]? = some v73 := e73
          replace e73 : ac.tmps[73]? = some (.bool true) := e73.trans (congrArg some t73)
          refine Reg.step_call ((Reg.wanted_is rfl rfl e73).trans rfl) (by go_simp; try rfl) ((code_law (werr g 10) vf _ (HEf.out.below hb (Nat.le_refl _)) (HL6.out.below hb (Nat.le_refl _))).mono ?_)
          rintro e w4 ⟨rfl, hb4⟩
          exact ⟨_, rfl, by rw [code_werr]; rfl, hb4⟩
        · intro ac w' hb hd hk   -- 6
          replace hb := Reg.below_undrew hb
          obtain ⟨v75, e75, t75⟩ := hk.2 5 (by kernel_rfl)
          replace e75 : ac.tmps[75]? = some v75 := e75
          replace e75 : ac.tmps[75]? = some (.int .i64 10) := e75.trans (congrArg some t75)
          obtain ⟨v73, e73, t73⟩ := hk.2 3 (by kernel_rfl)
          replace e73 : ac.tmps[73]? = some v73 := e73
          replace e73 : ac.tmps[73]? = some (.bool true) := e73.trans (congrArg some t73)
          exact Reg.step_value ((Reg.wanted_is rfl rfl e73).trans rfl) (w1 := w') (by go_simp; try rfl) (Below.refl _ _) rfl
        · intro ac w' hb hd hk   -- 7
          replace hb := Reg.below_undrew hb
          obtain ⟨v73, e73, t73⟩ := hk.2 3 (by kernel_rfl)
          replace e73 : ac.tmps[73]? = some v73 := e73
          replace e73 : ac.tmps[73]? = some (.bool true) := e73.trans (congrArg some t73)
          obtain ⟨v76, e76, t76⟩ := hk.2 6 (by kernel_rfl)
          replace e76 : ac.tmps[76]? = some v76 := e76
          replace e76 : ac.tmps[76]? = some (.bool true) := e76.trans (congrArg some t76)
          exact Reg.step_value (Reg.wanted_free rfl) (w1 := w') (by go_simp; try rfl) (Below.refl _ _) rfl
        · intro ac w' hb hd hk   -- 8
          replace hb := Reg.below_undrew hb
          obtain ⟨v77, e77, t77⟩ := hk.2 7 (by kernel_rfl)
          replace e77 : ac.tmps[77]? = some v77 := e77
          replace e77 : ac.tmps[77]? = some (.bool true) := e77.trans (congrArg some t77)
          exact Reg.step_value (Reg.wanted_free rfl) (w1 := w') (by go_simp; try rfl) (Below.refl _ _) rfl
        · intro ac w' hb hd hk   -- 9
          replace hb := Reg.below_undrew hb
          have e0 : ac.tmps[0]? = some (.int .i64 n) := (hk.1 0 (by kernel_rfl)).trans rfl
          obtain ⟨v78, e78, t78⟩ := hk.2 8 (by kernel_rfl)
          replace e78 : ac.tmps[78]? = some v78 := e78
          replace e78 : ac.tmps[78]? = some (.bool true) := e78.trans (congrArg some t78)
          exact Reg.step_value ((Reg.wanted_is rfl rfl e78).trans rfl) (w1 := w') (by go_simp; try rfl) (Below.refl _ _) rfl
        · intro ac w' hb hd hk   -- 10
          replace hb := Reg.below_undrew hb
          have e1 : ac.tmps[1]? = some (.int .i64 m) := (hk.1 1 (by kernel_rfl)).trans rfl
          obtain ⟨v78, e78, t78⟩ := hk.2 8 (by kernel_rfl)
          replace e78 : ac.tmps[78]? = some v78 := e78
          replace e78 : ac.tmps[78]? = some (.bool true) := e78.trans (congrArg some t78)
          exact Reg.step_value ((Reg.wanted_is rfl rfl e78).trans rfl) (w1 := w') (by go_simp; try rfl) (Below.refl _ _) rfl
        · intro ac w' hb hd hk   -- 11
          replace hb := Reg.below_undrew hb
          obtain ⟨v79, e79, t79⟩ := hk.2 9 (by kernel_rfl)
          replace e79 : ac.tmps[79]? = some v79 := e79
          replace e79 : ac.tmps[79]? = some (.int .i64 n) := e79.trans (congrArg some t79)
          obtain ⟨v80, e80, t80⟩ := hk.2 10 (by kernel_rfl)
          replace e80 : ac.tmps[80]? = some v80 := e80
          replace e80 : ac.tmps[80]? = some (.int .i64 m) := e80.trans (congrArg some t80)
          obtain ⟨v78, e78, t78⟩ := hk.2 8 (by kernel_rfl)
          replace e78 : ac.tmps[78]? = some v78 := e78
          replace e78 : ac.tmps[78]? = some (.bool true) := e78.trans (congrArg some t78)
          have hx : ((n : Int) == m) = false := beq_eq_false_iff_ne.2 hnm
          exact Reg.step_value ((Reg.wanted_is rfl rfl e78).trans rfl) (w1 := w') (by go_simp; try rfl) (Below.refl _ _) rfl
        · intro ac w' hb hd hk   -- 12
          replace hb := Reg.below_undrew hb
          obtain ⟨v81, e81, t81⟩ := hk.2 11 (by kernel_rfl)
          replace e81 : ac.tmps[81]? = some v81 := e81
          replace e81 : ac.tmps[81]? = some (.bool false) := e81.trans (congrArg some t81)
          obtain ⟨v78, e78, t78⟩ := hk.2 8 (by kernel_rfl)
          replace e78 : ac.tmps[78]? = some v78 := e78
          replace e78 : ac.tmps[78]? = some (.bool true) := e78.trans (congrArg some t78)
          exact Reg.step_value ((Reg.wanted_is rfl rfl e78).trans rfl) (w1 := w') (by go_simp; try rfl) (Below.refl _ _) rfl
        · intro ac w' hb hd hk   -- 13
          replace hb := Reg.below_undrew hb
          have e9 : ac.tmps[9]? = some (.slice Aa (encI n).length ca) := (hk.1 9 (by kernel_rfl)).trans rfl
          obtain ⟨v82, e82, t82⟩ := hk.2 12 (by kernel_rfl)
          replace e82 : ac.tmps[82]? = some v82 := e82
          replace e82 : ac.tmps[82]? = some (.bool false) := e82.trans (congrArg some t82)
          exact Reg.step_value ((Reg.wanted_is rfl rfl e82).trans rfl) (w1 := w') (by go_simp; try rfl) (Below.refl _ _) rfl
        · intro ac w' hb hd hk   -- 14
          replace hb := Reg.below_undrew hb
          obtain ⟨v83, e83, t83⟩ := hk.2 13 (by kernel_rfl)
          replace e83 : ac.tmps[83]? = some v83 := e83
          replace e83 : ac.tmps[83]? = some (.slice Aa (encI n).length ca) := e83.trans (congrArg some t83)
          obtain ⟨v82, e82, t82⟩ := hk.2 12 (by kernel_rfl)
          replace e82 : ac.tmps[82]? = some v82 := e82
          replace e82 : ac.tmps[82]? = some (.bool false) := e82.trans (congrArg some t82)
          exact Reg.step_value ((Reg.wanted_is rfl rfl e82).trans rfl) (w1 := w') (by go_simp; try rfl) (Below.refl _ _) rfl
        · intro ac w' hb hd hk   -- 15
          replace hb := Reg.below_undrew hb
          have e10 : ac.tmps[10]? = some (.slice Ab (encI m).length cb) := (hk.1 10 (by kernel_rfl)).trans rfl
          obtain ⟨v82, e82, t82⟩ := hk.2 12 (by kernel_rfl)
          replace e82 : ac.tmps[82]? = some v82 := e82
          replace e82 : ac.tmps[82]? = some (.bool false) := e82.trans (congrArg some t82)
          exact Reg.step_value ((Reg.wanted_is rfl rfl e82).trans rfl) (w1 := w') (by go_simp; try rfl) (Below.refl _ _) rfl
        · intro ac w' hb hd hk   -- 16
          replace hb := Reg.below_undrew hb
          obtain ⟨v85, e85, t85⟩ := hk.2 15 (by kernel_rfl)
          replace e85 : ac.tmps[85]? = some v85 := e85
          replace e85 : ac.tmps[85]? = some (.slice Ab (encI m).length cb) := e85.trans (congrArg some t85)
          obtain ⟨v82, e82, t82⟩ := hk.2 12 (by kernel_rfl)
          replace e82 : ac.tmps[82]? = some v82 := e82
          replace e82 : ac.tmps[82]? = some (.bool false) := e82.trans (congrArg some t82)
          exact Reg.step_value ((Reg.wanted_is rfl rfl e82).trans rfl) (w1 := w') (by go_simp; try rfl) (Below.refl _ _) rfl
        · intro ac w' hb hd hk   -- 17
          replace hb := Reg.below_undrew hb
          obtain ⟨v84, e84, t84⟩ := hk.2 14 (by kernel_rfl)
          replace e84 : ac.tmps[84]? = some v84 := e84
          replace e84 : ac.tmps[84]? = some (.int .i64 ((encI n).length : Int)) := e84.trans (congrArg some t84)
          obtain ⟨v86, e86, t86⟩ := hk.2 16 (by kernel_rfl)
          replace e86 : ac.tmps[86]? = some v86 := e86
          replace e86 : ac.tmps[86]? = some (.int .i64 ((encI m).length : Int)) := e86.trans (congrArg some t86)
          obtain ⟨v82, e82, t82⟩ := hk.2 12 (by kernel_rfl)
          replace e82 : ac.tmps[82]? = some v82 := e82
          replace e82 : ac.tmps[82]? = some (.bool false) := e82.trans (congrArg some t82)
          have hx : decide ((encI m).length < (encI n).length) = false := decide_eq_false hgt
          exact Reg.step_value ((Reg.wanted_is rfl rfl e82).trans rfl) (w1 := w') (by go_simp; try rfl) (Below.refl _ _) rfl
        · intro ac w' hb hd hk   -- 18
          replace hb := Reg.below_undrew hb
          obtain ⟨v82, e82, t82⟩ := hk.2 12 (by kernel_rfl)
          replace e82 : ac.tmps[82]? = some v82 := e82
          replace e82 : ac.tmps[82]? = some (.bool false) := e82.trans (congrArg some t82)
          obtain ⟨v87, e87, t87⟩ := hk.2 17 (by kernel_rfl)
          replace e87 : ac.tmps[87]? = some v87 := e87
          replace e87 : ac.tmps[87]? = some (.bool false) := e87.trans (congrArg some t87)
          obtain ⟨v78, e78, t78⟩ := hk.2 8 (by kernel_rfl)
          replace e78 : ac.tmps[78]? = some v78 := e78
          replace e78 : ac.tmps[78]? = some (.bool true) := e78.trans (congrArg some t78)
          exact Reg.step_value ((Reg.wanted_is rfl rfl e78).trans rfl) (w1 := w') (by go_simp; try rfl) (Below.refl _ _) rfl
        · intro ac w' hb hd hk   -- 19
          replace hb := Reg.below_undrew hb
          obtain ⟨v88, e88, t88⟩ := hk.2 18 (by kernel_rfl)
          replace e88 : ac.tmps[88]? = some v88 := e88
          replace e88 : ac.tmps[88]? = some (.bool false) := e88.trans (congrArg some t88)
          obtain ⟨v78, e78, t78⟩ := hk.2 8 (by kernel_rfl)
          replace e78 : ac.tmps[78]? = some v78 := e78
          replace e78 : ac.tmps[78]? = some (.bool true) := e78.trans (congrArg some t78)
          exact Reg.step_value ((Reg.wanted_is rfl rfl e78).trans rfl) (w1 := w') (by go_simp; try rfl) (Below.refl _ _) rfl
        · intro ac w' hb hd hk   -- 20
          replace hb := Reg.below_undrew hb
          have e10 : ac.tmps[10]? = some (.slice Ab (encI m).length cb) := (hk.1 10 (by kernel_rfl)).trans rfl
          obtain ⟨v89, e89, t89⟩ := hk.2 19 (by kernel_rfl)
          replace e89 : ac.tmps[89]? = some v89 := e89
          replace e89 : ac.tmps[89]? = some (.bool false) := e89.trans (congrArg some t89)
          exact Reg.step_value ((Reg.wanted_is rfl rfl e89).trans rfl) (w1 := w') (by go_simp; try rfl) (Below.refl _ _) rfl
        · intro ac w' hb hd hk   -- 21
          replace hb := Reg.below_undrew hb
          have e9 : ac.tmps[9]? = some (.slice Aa (encI n).length ca) := (hk.1 9 (by kernel_rfl)).trans rfl
          obtain ⟨v89, e89, t89⟩ := hk.2 19 (by kernel_rfl)
          replace e89 : ac.tmps[89]? = some v89 := e89
          replace e89 : ac.tmps[89]? = some (.bool false) := e89.trans (congrArg some t89)
          exact Reg.step_value ((Reg.wanted_is rfl rfl e89).trans rfl) (w1 := w') (by go_simp; try rfl) (Below.refl _ _) rfl
        · intro ac w' hb hd hk   -- 22
          replace hb := Reg.below_undrew hb
          obtain ⟨v91, e91, t91⟩ := hk.2 21 (by kernel_rfl)
          replace e91 : ac.tmps[91]? = some v91 := e91
          replace e91 : ac.tmps[91]? = some (.slice Aa (encI n).length ca) := e91.trans (congrArg some t91)
          obtain ⟨v89, e89, t89⟩ := hk.2 19 (by kernel_rfl)
          replace e89 : ac.tmps[89]? = some v89 := e89
          replace e89 : ac.tmps[89]? = some (.bool false) := e89.trans (congrArg some t89)
          exact Reg.step_value ((Reg.wanted_is rfl rfl e89).trans rfl) (w1 := w') (by go_simp; try rfl) (Below.refl _ _) rfl
        · intro ac w' hb hd hk   -- 23
          replace hb := Reg.below_undrew hb
          obtain ⟨v90, e90, t90⟩ := hk.2 20 (by kernel_rfl)
          replace e90 : ac.tmps[90]? = some v90 := e90
          replace e90 : ac.tmps[90]? = some (.slice Ab (encI m).length cb) := e90.trans (congrArg some t90)
          obtain ⟨v92, e92, t92⟩ := hk.2 22 (by kernel_rfl)
          replace e92 : ac.tmps[92]? = some v92 := e92
          replace e92 : ac.tmps[92]? = some (.int .i64 ((encI n).length : Int)) := e92.trans (congrArg some t92)
          obtain ⟨v89, e89, t89⟩ := hk.2 19 (by kernel_rfl)
          replace e89 : ac.tmps[89]? = some v89 := e89
          replace e89 : ac.tmps[89]? = some (.bool false) := e89.trans (congrArg some t89)
          have hx := hcutB
          exact Reg.step_value ((Reg.wanted_is rfl rfl e89).trans rfl) (w1 := w') (by go_simp; try rfl) (Below.refl _ _) rfl
        · intro ac w' hb hd hk   -- 24
          replace hb := Reg.below_undrew hb
          obtain ⟨v93, e93, t93⟩ := hk.2 23 (by kernel_rfl)
          replace e93 : ac.tmps[93]? = some v93 := e93
          replace e93 : ac.tmps[93]? = some (.slice Ab (encI n).length cb) := e93.trans (congrArg some t93)
          obtain ⟨v89, e89, t89⟩ := hk.2 19 (by kernel_rfl)
          replace e89 : ac.tmps[89]? = some v89 := e89
          replace e89 : ac.tmps[89]? = some (.bool false) := e89.trans (congrArg some t89)
          have hcv := Kd.C_string (P := Tryd.prog) (A := Ab) (c := cb) Tryd.underlying22 Tryd.underlying5 Tryd.underlying9 (Kd.C_take (m := (encI n).length) (Kd.R_reads' (Kd.R_below HRb.out hb)).2.2 (by omega))
          rw [htk] at hcv
          exact Reg.step_value ((Reg.wanted_is rfl rfl e89).trans rfl) (w1 := w') (by go_simp; try rfl) (Below.refl _ _) rfl
        · intro ac w' hb hd hk   -- 25
          replace hb := Reg.below_undrew hb
          have e9 : ac.tmps[9]? = some (.slice Aa (encI n).length ca) := (hk.1 9 (by kernel_rfl)).trans rfl
          obtain ⟨v89, e89, t89⟩ := hk.2 19 (by kernel_rfl)
          replace e89 : ac.tmps[89]? = some v89 := e89
          replace e89 : ac.tmps[89]? = some (.bool false) := e89.trans (congrArg some t89)
          exact Reg.step_value ((Reg.wanted_is rfl rfl e89).trans rfl) (w1 := w') (by go_simp; try rfl) (Below.refl _ _) rfl
        · intro ac w' hb hd hk   -- 26
          replace hb := Reg.below_undrew hb
          obtain ⟨v95, e95, t95⟩ := hk.2 25 (by kernel_rfl)
          replace e95 : ac.tmps[95]? = some v95 := e95
          replace e95 : ac.tmps[95]? = some (.slice Aa (encI n).length ca) := e95.trans (congrArg some t95)
          obtain ⟨v89, e89, t89⟩ := hk.2 19 (by kernel_rfl)
          replace e89 : ac.tmps[89]? = some v89 := e89
          replace e89 : ac.tmps[89]? = some (.bool false) := e89.trans (congrArg some t89)
          have hcv := Kd.C_string (P := Tryd.prog) (A := Aa) (c := ca) Tryd.underlying22 Tryd.underlying5 Tryd.underlying9 (Kd.R_reads' (Kd.R_below HRa.out hb)).2.2
          exact Reg.step_value ((Reg.wanted_is rfl rfl e89).trans rfl) (w1 := w') (by go_simp; try rfl) (Below.refl _ _) rfl
        · intro ac w' hb hd hk   -- 27
          replace hb := Reg.below_undrew hb
          obtain ⟨v94, e94, t94⟩ := hk.2 24 (by kernel_rfl)
          replace e94 : ac.tmps[94]? = some v94 := e94
          replace e94 : ac.tmps[94]? = some (.string (strOfNums ((encI m).take (encI n).length))) := e94.trans (congrArg some t94)
          obtain ⟨v96, e96, t96⟩ := hk.2 26 (by kernel_rfl)
          replace e96 : ac.tmps[96]? = some v96 := e96
          replace e96 : ac.tmps[96]? = some (.string (strOfNums (encI n))) := e96.trans (congrArg some t96)
          obtain ⟨v89, e89, t89⟩ := hk.2 19 (by kernel_rfl)
          replace e89 : ac.tmps[89]? = some v89 := e89
          replace e89 : ac.tmps[89]? = some (.bool false) := e89.trans (congrArg some t89)
          have hx := encI_ne2 HN.out HM.out hnm
          exact Reg.step_value ((Reg.wanted_is rfl rfl e89).trans rfl) (w1 := w') (by go_simp; try rfl) (Below.refl _ _) rfl
        · intro ac w' hb hd hk   -- 28
          replace hb := Reg.below_undrew hb
          obtain ⟨v89, e89, t89⟩ := hk.2 19 (by kernel_rfl)
          replace e89 : ac.tmps[89]? = some v89 := e89
          replace e89 : ac.tmps[89]? = some (.bool false) := e89.trans (congrArg some t89)
          obtain ⟨v97, e97, t97⟩ := hk.2 27 (by kernel_rfl)
          replace e97 : ac.tmps[97]? = some v97 := e97
          replace e97 : ac.tmps[97]? = some (.bool true) := e97.trans (congrArg some t97)
          obtain ⟨v78, e78, t78⟩ := hk.2 8 (by kernel_rfl)
          replace e78 : ac.tmps[78]? = some v78 := e78
          replace e78 : ac.tmps[78]? = some (.bool true) := e78.trans (congrArg some t78)
          exact Reg.step_value ((Reg.wanted_is rfl rfl e78).trans rfl) (w1 := w') (by go_simp; try rfl) (Below.refl _ _) rfl
        · intro ac w' hb hd hk   -- 29
          replace hb := Reg.below_undrew hb
          obtain ⟨v78, e78, t78⟩ := hk.2 8 (by kernel_rfl)
          replace e78 : ac.tmps[78]? = some v78 := e78
          replace e78 : ac.tmps[78]? = some (.bool true) := e78.trans (congrArg some t78)
          obtain ⟨v98, e98, t98⟩ := hk.2 28 (by kernel_rfl)
          replace e98 : ac.tmps[98]? = some v98 := e98
          replace e98 : ac.tmps[98]? = some (.bool true) := e98.trans (congrArg some t98)
          exact Reg.step_value (Reg.wanted_free rfl) (w1 := w') (by go_simp; try rfl) (Below.refl _ _) rfl
        · intro ac w' hb hd hk   -- 30
          replace hb := Reg.below_undrew hb
          obtain ⟨v99, e99, t99⟩ := hk.2 29 (by kernel_rfl)
          replace e99 : ac.tmps[99]? = some v99 := e99
          replace e99 : ac.tmps[99]? = some (.bool true) := e99.trans (congrArg some t99)
          exact Reg.step_value (Reg.wanted_free rfl) (w1 := w') (by go_simp; try rfl) (Below.refl _ _) rfl
      case fin =>
        intro w' hb
        replace hb := Reg.below_undrew hb
        rintro _ rfl
        rintro _ rfl
        rintro _ rfl
        rintro _ rfl
        rintro _ rfl
        rintro _ rfl
        rintro _ rfl
        rintro _ rfl
        rintro _ rfl
        rintro _ rfl
        rintro _ rfl
        rintro _ rfl
        rintro _ rfl
        rintro _ rfl
        rintro _ rfl
        rintro _ rfl
        rintro _ rfl
        rintro _ rfl
        rintro _ rfl
        rintro _ rfl
        rintro _ rfl
        rintro _ rfl
        rintro _ rfl
        rintro _ rfl
        rintro _ rfl
        rintro _ rfl
        rintro _ rfl
        rintro _ rfl
        rintro _ rfl
        rintro _ rfl
        rintro _ rfl
        refine Reg.done_nil ?_
        simp only [Act.put, List.setIfInBounds_toArray, List.set_cons_zero, List.set_cons_succ]
        go_wp2
        go_ret
        exact ⟨rfl, HB6.out.trans (hb.mono HB6.out.size)⟩
theorem tributarylaw1_WireShort.calls (a0 a1 : Int) (A2 : Option Addr) (c2 : Nat) (l2 : List RowT) (a3 : Int) (r : Bool) (w : World) (hr2 : Kd.C k56 w A2 l2.length l2) (hc2 : l2.length ≤ c2) (hL : Laid w) (h : tributarylaw1_WireShort.f a0 a1 l2 a3 = some r) :
    Calls Tryd.prog 4 #[.int .i64 a0, .int .i64 a1, .slice A2 l2.length c2, .int .i64 a3] w fun e w' => e = .returned (.bool r) ∧ Below w.heap.size w w' := by
  unfold tributarylaw1_WireShort.f at h
  by_cases hk : okI a0 ∧ okI a1 ∧ okRows l2 = true ∧ okI a3
  · rw [if_pos hk] at h
    obtain rfl := Option.some.inj h
    exact wireShort_law _ _ A2 c2 l2 a3 w hr2 hc2 hL hk.1 hk.2.1 hk.2.2.1 hk.2.2.2
  · rw [if_neg hk] at h; cases h
end Go.Proofs.YtjcllneibeemgaaDoor.PFn
