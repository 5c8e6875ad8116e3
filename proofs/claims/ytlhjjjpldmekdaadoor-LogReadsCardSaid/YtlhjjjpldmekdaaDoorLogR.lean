/- Proved: the contracts of the document's own log (read, Dead, Left, Open, Append), in the words of the program's; condition: bytes, numbers that fit. -/
import Derived.Test.YtlhjjjpldmekdaaDoorLogT
namespace Go.Proofs.YtlhjjjpldmekdaaDoor.PDsk.K
open Go.RowKit Go.Proofs.YtlhjjjpldmekdaaDoorW.PrintWords Go.Proofs.YtlhjjjpldmekdaaDoorW.PrintLast Go.Proofs.YtlhjjjpldmekdaaDoorW.PrintMore Go.Proofs.YtlhjjjpldmekdaaDoor.Err Go.Maps Go.Proofs.YtlhjjjpldmekdaaDoor.PLog
open Go.Proofs.YtlhjjjpldmekdaaDoor.PFn (readI okBytes okBytes_iff ref1_ReadInt_f tributaryref1_ReadInt.calls tributaryref8_Blocks.calls tributaryref8_Block.calls ref8_Blocks_f ref8_Block_f)
attribute [local go_sem] max2_int min2_int max_two min_two max_three min_three max_four min_four
set_option linter.unusedVariables false
set_option linter.unusedSimpArgs false

set_option maxHeartbeats 16000000 in
set_option maxRecDepth 100000 in
theorem read8 (A : Option Addr) (c : Nat) (raw : List Int) (r k : Int) (hc : raw.length ≤ c) (hl : raw.length ≤ 1000) (hb : ∀ x ∈ raw, 0 ≤ x ∧ x ≤ 255) (hkr : 0 ≤ k) :
    ∃ (A' : Option Addr) (c' : Nat) (d : List Int) (last ok : Bool), (d.length ≤ c' ∧ d.length ≤ raw.length) ∧ (ok = true → parse raw r k = some (d, last)) ∧ (ok = false → parse raw r k = none) ∧
      ∀ w : World, (Kd.int .u8).C w A raw.length raw → (Calls Tryd.prog 77 #[.slice A raw.length c, .int .i64 r, .int .i64 k] w fun e w' => e = .returned (.tuple #[.slice A' d.length c', .bool last, .bool ok]) ∧ ∃ m, w' = w.drewN m) ∧ (Kd.int .u8).C w A' d.length d := by
  have RQ := Aside0.mk (fun (a r1 r2 r3 : Int) (W : World) (hC : (Kd.int .u8).C W A raw.length raw) (h : readI raw a = (r1, r2, r3)) => tributaryref1_ReadInt.calls 40 A c raw a r1 r2 r3 W hC hc (by rw [ref1_ReadInt_f raw a (okBytes_iff.2 ⟨by omega, hb⟩) 40 (Nat.le_refl _), h]))
  have BAD : Aside0 ((EI raw 0 ≠ 0 ∨ EI raw 1 ≠ 0 ∨ EI raw 2 ≠ 0 ∨ ¬ (NI raw 0 = r ∧ NI raw 1 = k ∧ (NI raw 2 = 0 ∧ (raw.drop (PI raw 3).toNat).length = 56 ∨ NI raw 2 = 1 ∧ ((raw.drop (PI raw 3).toNat).length ≤ 56 ∧ (0 < (raw.drop (PI raw 3).toNat).length ∨ k = 0))))) → parse raw r k = none) := ⟨fun h => by
    by_cases h0 : EI raw 0 = 0
    · by_cases h1 : EI raw 1 = 0
      · by_cases h2 : EI raw 2 = 0
        · have hall : ∀ i, i < 3 → EI raw i = 0 := fun i hi => by rcases (show i = 0 ∨ i = 1 ∨ i = 2 by omega) with rfl | rfl | rfl <;> assumption
          rw [parse_yes hall, if_neg]
          rcases h with h | h | h | h
          · exact absurd h0 h
          · exact absurd h1 h
          · exact absurd h2 h
          · exact h
        · exact parse_no (by decide) h2 r k
      · exact parse_no (by decide) h1 r k
    · exact parse_no (by decide) h0 r k⟩
  have H0 : Aside0 (readI raw 0 = (NI raw 0, PI raw 1, EI raw 0)) := ⟨rfl⟩
  have H1 : Aside0 (readI raw (PI raw 1) = (NI raw 1, PI raw 2, EI raw 1)) := ⟨rfl⟩
  have H2 : Aside0 (readI raw (PI raw 2) = (NI raw 2, PI raw 3, EI raw 2)) := ⟨rfl⟩
  have GOOD : Aside0 ((EI raw 0 = 0 ∧ EI raw 1 = 0 ∧ EI raw 2 = 0) → ∀ last : Bool, (NI raw 0 = r ∧ NI raw 1 = k ∧ (NI raw 2 = 0 ∧ (raw.drop (PI raw 3).toNat).length = 56 ∨ NI raw 2 = 1 ∧ ((raw.drop (PI raw 3).toNat).length ≤ 56 ∧ (0 < (raw.drop (PI raw 3).toNat).length ∨ k = 0)))) → last = decide (NI raw 2 = 1) → parse raw r k = some (raw.drop (PI raw 3).toNat, last)) := ⟨fun h last hg hlast => by
    have hall : ∀ i, i < 3 → EI raw i = 0 := fun i hi => by rcases (show i = 0 ∨ i = 1 ∨ i = 2 by omega) with rfl | rfl | rfl; exact h.1; exact h.2.1; exact h.2.2
    rw [parse_yes hall, if_pos hg, hlast]⟩
  have HLE : Aside0 ((EI raw 0 = 0 ∧ EI raw 1 = 0 ∧ EI raw 2 = 0) → 0 ≤ PI raw 3 ∧ PI raw 3 ≤ raw.length) := ⟨fun h => PI_le hb 3 (fun j hj => by rcases (show j = 0 ∨ j = 1 ∨ j = 2 by omega) with rfl | rfl | rfl; exact h.1; exact h.2.1; exact h.2.2)⟩
  have CUT := Aside0.mk (fun (hle : 0 ≤ PI raw 3 ∧ PI raw 3 ≤ raw.length) => cut_from (P := Tryd.prog) 30 5 .i64 Tryd.underlying30 (info_parts info8).choose_spec.1 1 (info_parts info8).choose_spec.2.2.1 A raw.length c (PI raw 3) hle.1 hle.2)
  obtain ⟨n0, hn0⟩ : ∃ x, NI raw 0 = x := ⟨_, rfl⟩
  obtain ⟨n1, hn1⟩ : ∃ x, NI raw 1 = x := ⟨_, rfl⟩
  obtain ⟨n2, hn2⟩ : ∃ x, NI raw 2 = x := ⟨_, rfl⟩
  obtain ⟨e0, he0⟩ : ∃ x, EI raw 0 = x := ⟨_, rfl⟩
  obtain ⟨e1, he1⟩ : ∃ x, EI raw 1 = x := ⟨_, rfl⟩
  obtain ⟨e2, he2⟩ : ∃ x, EI raw 2 = x := ⟨_, rfl⟩
  obtain ⟨p1, hp1⟩ : ∃ x, PI raw 1 = x := ⟨_, rfl⟩
  obtain ⟨p2, hp2⟩ : ∃ x, PI raw 2 = x := ⟨_, rfl⟩
  obtain ⟨p3, hp3⟩ : ∃ x, PI raw 3 = x := ⟨_, rfl⟩
  rw [hn0, hn1, hn2, he0, he1, he2, hp3] at BAD GOOD
  rw [hn0, hp1, he0] at H0
  rw [hp1, hn1, hp2, he1] at H1
  rw [hp2, hn2, hp3, he2] at H2
  rw [he0, he1, he2, hp3] at HLE
  rw [hp3] at CUT
  clear hn0 hn1 hn2 he0 he1 he2 hp1 hp2 hp3 hb
  cases q0 : (e0 != 0) with
  | true =>
    refine ⟨none, 0, [], false, false, ⟨Nat.le_refl _, Nat.zero_le _⟩, (fun h => by cases h), (fun _ => BAD.out (Or.inl (by simpa using q0))), fun w hC => ⟨?_, ⟨rfl, by simp, fun h => absurd h (Nat.lt_irrefl 0)⟩⟩⟩
    clear BAD
    go_enter Tryd.func77, Tryd.ntmps77
    go_wp2_with fail
    refine (RQ.out 0 n0 p1 e0 _ hC H0.out).mono ?_
    rintro e w1 ⟨rfl, ⟨m1, rfl⟩⟩
    go_wp2_with fail
    refine (RQ.out p1 n1 p2 e1 (w.drewN m1) hC H1.out).mono ?_
    rintro e w2 ⟨rfl, ⟨m2, rfl⟩⟩
    go_wp2_with fail
    refine (RQ.out p2 _ _ e2 (w.drewN (m1 + m2)) hC H2.out).mono ?_
    rintro e w3 ⟨rfl, ⟨m3, rfl⟩⟩
    go_wp2
    go_ret3
    exact ⟨rfl, _, rfl⟩
  | false =>
    cases q1 : (e1 != 0) with
    | true =>
      refine ⟨none, 0, [], false, false, ⟨Nat.le_refl _, Nat.zero_le _⟩, (fun h => by cases h), (fun _ => BAD.out (Or.inr (Or.inl (by simpa using q1)))), fun w hC => ⟨?_, ⟨rfl, by simp, fun h => absurd h (Nat.lt_irrefl 0)⟩⟩⟩
      clear BAD
      go_enter Tryd.func77, Tryd.ntmps77
      go_wp2_with fail
      refine (RQ.out 0 n0 p1 e0 _ hC H0.out).mono ?_
      rintro e w1 ⟨rfl, ⟨m1, rfl⟩⟩
      go_wp2_with fail
      refine (RQ.out p1 n1 p2 e1 (w.drewN m1) hC H1.out).mono ?_
      rintro e w2 ⟨rfl, ⟨m2, rfl⟩⟩
      go_wp2_with fail
      refine (RQ.out p2 _ _ e2 (w.drewN (m1 + m2)) hC H2.out).mono ?_
      rintro e w3 ⟨rfl, ⟨m3, rfl⟩⟩
      go_wp2
      go_ret3
      exact ⟨rfl, _, rfl⟩
    | false =>
      cases q2 : (e2 != 0) with
      | true =>
        refine ⟨none, 0, [], false, false, ⟨Nat.le_refl _, Nat.zero_le _⟩, (fun h => by cases h), (fun _ => BAD.out (Or.inr (Or.inr (Or.inl (by simpa using q2))))), fun w hC => ⟨?_, ⟨rfl, by simp, fun h => absurd h (Nat.lt_irrefl 0)⟩⟩⟩
        clear BAD
        go_enter Tryd.func77, Tryd.ntmps77
        go_wp2_with fail
        refine (RQ.out 0 n0 p1 e0 _ hC H0.out).mono ?_
        rintro e w1 ⟨rfl, ⟨m1, rfl⟩⟩
        go_wp2_with fail
        refine (RQ.out p1 n1 p2 e1 (w.drewN m1) hC H1.out).mono ?_
        rintro e w2 ⟨rfl, ⟨m2, rfl⟩⟩
        go_wp2_with fail
        refine (RQ.out p2 _ _ e2 (w.drewN (m1 + m2)) hC H2.out).mono ?_
        rintro e w3 ⟨rfl, ⟨m3, rfl⟩⟩
        go_wp2
        go_ret3
        exact ⟨rfl, _, rfl⟩
      | false =>
        cases q3 : (n0 != r) with
        | true =>
          refine ⟨none, 0, [], false, false, ⟨Nat.le_refl _, Nat.zero_le _⟩, (fun h => by cases h), (fun _ => BAD.out (Or.inr (Or.inr (Or.inr (fun h => by have := h.1; simp [this] at q3))))), fun w hC => ⟨?_, ⟨rfl, by simp, fun h => absurd h (Nat.lt_irrefl 0)⟩⟩⟩
          clear BAD
          go_enter Tryd.func77, Tryd.ntmps77
          go_wp2_with fail
          refine (RQ.out 0 n0 p1 e0 _ hC H0.out).mono ?_
          rintro e w1 ⟨rfl, ⟨m1, rfl⟩⟩
          go_wp2_with fail
          refine (RQ.out p1 n1 p2 e1 (w.drewN m1) hC H1.out).mono ?_
          rintro e w2 ⟨rfl, ⟨m2, rfl⟩⟩
          go_wp2_with fail
          refine (RQ.out p2 _ _ e2 (w.drewN (m1 + m2)) hC H2.out).mono ?_
          rintro e w3 ⟨rfl, ⟨m3, rfl⟩⟩
          go_wp2
          go_ret3
          exact ⟨rfl, _, rfl⟩
        | false =>
          cases q4 : (n1 != k) with
          | true =>
            refine ⟨none, 0, [], false, false, ⟨Nat.le_refl _, Nat.zero_le _⟩, (fun h => by cases h), (fun _ => BAD.out (Or.inr (Or.inr (Or.inr (fun h => by have := h.2.1; simp [this] at q4))))), fun w hC => ⟨?_, ⟨rfl, by simp, fun h => absurd h (Nat.lt_irrefl 0)⟩⟩⟩
            clear BAD
            go_enter Tryd.func77, Tryd.ntmps77
            go_wp2_with fail
            refine (RQ.out 0 n0 p1 e0 _ hC H0.out).mono ?_
            rintro e w1 ⟨rfl, ⟨m1, rfl⟩⟩
            go_wp2_with fail
            refine (RQ.out p1 n1 p2 e1 (w.drewN m1) hC H1.out).mono ?_
            rintro e w2 ⟨rfl, ⟨m2, rfl⟩⟩
            go_wp2_with fail
            refine (RQ.out p2 _ _ e2 (w.drewN (m1 + m2)) hC H2.out).mono ?_
            rintro e w3 ⟨rfl, ⟨m3, rfl⟩⟩
            go_wp2
            go_ret3
            exact ⟨rfl, _, rfl⟩
          | false =>
            cases q5 : decide (n2 < 0) with
            | true =>
              refine ⟨none, 0, [], false, false, ⟨Nat.le_refl _, Nat.zero_le _⟩, (fun h => by cases h), (fun _ => BAD.out (Or.inr (Or.inr (Or.inr (fun h => by have := of_decide_eq_true q5; omega))))), fun w hC => ⟨?_, ⟨rfl, by simp, fun h => absurd h (Nat.lt_irrefl 0)⟩⟩⟩
              clear BAD
              go_enter Tryd.func77, Tryd.ntmps77
              go_wp2_with fail
              refine (RQ.out 0 n0 p1 e0 _ hC H0.out).mono ?_
              rintro e w1 ⟨rfl, ⟨m1, rfl⟩⟩
              go_wp2_with fail
              refine (RQ.out p1 n1 p2 e1 (w.drewN m1) hC H1.out).mono ?_
              rintro e w2 ⟨rfl, ⟨m2, rfl⟩⟩
              go_wp2_with fail
              refine (RQ.out p2 _ _ e2 (w.drewN (m1 + m2)) hC H2.out).mono ?_
              rintro e w3 ⟨rfl, ⟨m3, rfl⟩⟩
              go_wp2
              go_ret3
              exact ⟨rfl, _, rfl⟩
            | false =>
              cases q6 : decide (1 < n2) with
              | true =>
                refine ⟨none, 0, [], false, false, ⟨Nat.le_refl _, Nat.zero_le _⟩, (fun h => by cases h), (fun _ => BAD.out (Or.inr (Or.inr (Or.inr (fun h => by have := of_decide_eq_true q6; omega))))), fun w hC => ⟨?_, ⟨rfl, by simp, fun h => absurd h (Nat.lt_irrefl 0)⟩⟩⟩
                clear BAD
                go_enter Tryd.func77, Tryd.ntmps77
                go_wp2_with fail
                refine (RQ.out 0 n0 p1 e0 _ hC H0.out).mono ?_
                rintro e w1 ⟨rfl, ⟨m1, rfl⟩⟩
                go_wp2_with fail
                refine (RQ.out p1 n1 p2 e1 (w.drewN m1) hC H1.out).mono ?_
                rintro e w2 ⟨rfl, ⟨m2, rfl⟩⟩
                go_wp2_with fail
                refine (RQ.out p2 _ _ e2 (w.drewN (m1 + m2)) hC H2.out).mono ?_
                rintro e w3 ⟨rfl, ⟨m3, rfl⟩⟩
                go_wp2
                go_ret3
                exact ⟨rfl, _, rfl⟩
              | false =>
                have hz : e0 = 0 ∧ e1 = 0 ∧ e2 = 0 := ⟨by simpa using q0, by simpa using q1, by simpa using q2⟩
                have hle := HLE.out hz
                obtain ⟨P3, rfl⟩ : ∃ P3 : Nat, p3 = (P3 : Int) := ⟨p3.toNat, by omega⟩
                have hcut := CUT.out hle
                rw [Int.toNat_natCast, Nat.mul_one] at hcut
                obtain ⟨A', hA'⟩ : ∃ A', (if c = P3 then A else A.map (fun x => x.add P3)) = A' := ⟨_, rfl⟩
                obtain ⟨M, hM⟩ : ∃ M, raw.length - P3 = M := ⟨_, rfl⟩
                obtain ⟨c', hc'⟩ : ∃ x, c - P3 = x := ⟨_, rfl⟩
                have HMD : Aside0 ((raw.drop P3).length = M) := ⟨by rw [List.length_drop, hM]⟩
                have CD : Aside0 (∀ w, (Kd.int .u8).C w A raw.length raw → (Kd.int .u8).C w A' (raw.drop P3).length (raw.drop P3)) := ⟨fun w hC => by
                  have := Kd.C_drop (m := P3) (c := c) hC (by omega) hc
                  rw [show P3 * (Kd.int IntKind.u8).sz = P3 from Nat.mul_one P3, hA'] at this
                  exact this⟩
                have HCC : Aside0 ((raw.drop P3).length ≤ c') := ⟨by rw [HMD.out]; omega⟩
                have hnM : (raw.length : Int) - (P3 : Int) = (M : Int) := by omega
                rw [hA', hM, hc'] at hcut
                rw [Int.toNat_natCast, HMD.out] at BAD GOOD
                have HP3 : Aside0 (P3 + M = raw.length) := ⟨by omega⟩
                have GD := Aside0.mk (GOOD.out hz)
                clear hA' hM hc' hz HLE CUT GOOD
                rcases (show n2 = 0 ∨ n2 = 1 by have := of_decide_eq_false q5; have := of_decide_eq_false q6; omega) with h2 | h2
                · subst h2
                  by_cases h56 : M = 56
                  · subst h56
                    refine ⟨A', c', raw.drop P3, false, true, ⟨HCC.out, by rw [List.length_drop]; omega⟩, (fun _ => GD.out false ⟨by simpa using q3, by simpa using q4, by omega⟩ (by decide)), (fun h => by cases h), fun w hC => ⟨?_, CD.out w hC⟩⟩
                    rw [HMD.out]
                    clear BAD
                    go_enter Tryd.func77, Tryd.ntmps77
                    go_wp2_with fail
                    refine (RQ.out 0 n0 p1 e0 _ hC H0.out).mono ?_
                    rintro e w1 ⟨rfl, ⟨m1, rfl⟩⟩
                    go_wp2_with fail
                    refine (RQ.out p1 n1 p2 e1 (w.drewN m1) hC H1.out).mono ?_
                    rintro e w2 ⟨rfl, ⟨m2, rfl⟩⟩
                    go_wp2_with fail
                    refine (RQ.out p2 _ _ e2 (w.drewN (m1 + m2)) hC H2.out).mono ?_
                    rintro e w3 ⟨rfl, ⟨m3, rfl⟩⟩
                    go_wp2
                    go_ret3
                    exact ⟨rfl, _, rfl⟩
                  · have q7 : ((M : Int) != 56) = true := by simpa using (show (M : Int) ≠ 56 by omega)
                    have q8 : ((M : Int) == 56) = false := beq_eq_false_iff_ne.2 (by omega)
                    refine ⟨none, 0, [], false, false, ⟨Nat.le_refl _, Nat.zero_le _⟩, (fun h => by cases h), (fun _ => BAD.out (Or.inr (Or.inr (Or.inr (fun h => by omega))))), fun w hC => ⟨?_, ⟨rfl, by simp, fun h => absurd h (Nat.lt_irrefl 0)⟩⟩⟩
                    clear BAD
                    go_enter Tryd.func77, Tryd.ntmps77
                    go_wp2_with fail
                    refine (RQ.out 0 n0 p1 e0 _ hC H0.out).mono ?_
                    rintro e w1 ⟨rfl, ⟨m1, rfl⟩⟩
                    go_wp2_with fail
                    refine (RQ.out p1 n1 p2 e1 (w.drewN m1) hC H1.out).mono ?_
                    rintro e w2 ⟨rfl, ⟨m2, rfl⟩⟩
                    go_wp2_with fail
                    refine (RQ.out p2 _ _ e2 (w.drewN (m1 + m2)) hC H2.out).mono ?_
                    rintro e w3 ⟨rfl, ⟨m3, rfl⟩⟩
                    go_wp2
                    go_ret3
                    exact ⟨rfl, _, rfl⟩
                · subst h2
                  by_cases h56 : 56 < M
                  · have q7 : decide (56 < (M : Int)) = true := decide_eq_true (by omega)
                    refine ⟨none, 0, [], false, false, ⟨Nat.le_refl _, Nat.zero_le _⟩, (fun h => by cases h), (fun _ => BAD.out (Or.inr (Or.inr (Or.inr (fun h => by omega))))), fun w hC => ⟨?_, ⟨rfl, by simp, fun h => absurd h (Nat.lt_irrefl 0)⟩⟩⟩
                    clear BAD
                    go_enter Tryd.func77, Tryd.ntmps77
                    go_wp2_with fail
                    refine (RQ.out 0 n0 p1 e0 _ hC H0.out).mono ?_
                    rintro e w1 ⟨rfl, ⟨m1, rfl⟩⟩
                    go_wp2_with fail
                    refine (RQ.out p1 n1 p2 e1 (w.drewN m1) hC H1.out).mono ?_
                    rintro e w2 ⟨rfl, ⟨m2, rfl⟩⟩
                    go_wp2_with fail
                    refine (RQ.out p2 _ _ e2 (w.drewN (m1 + m2)) hC H2.out).mono ?_
                    rintro e w3 ⟨rfl, ⟨m3, rfl⟩⟩
                    go_wp2
                    go_ret3
                    exact ⟨rfl, _, rfl⟩
                  · have q7 : decide (56 < (M : Int)) = false := decide_eq_false (by omega)
                    by_cases hM0 : M = 0
                    · subst hM0
                      by_cases hk : 0 < k
                      · have q8 : decide (0 < k) = true := decide_eq_true hk
                        refine ⟨none, 0, [], false, false, ⟨Nat.le_refl _, Nat.zero_le _⟩, (fun h => by cases h), (fun _ => BAD.out (Or.inr (Or.inr (Or.inr (fun h => by omega))))), fun w hC => ⟨?_, ⟨rfl, by simp, fun h => absurd h (Nat.lt_irrefl 0)⟩⟩⟩
                        clear BAD
                        go_enter Tryd.func77, Tryd.ntmps77
                        go_wp2_with fail
                        refine (RQ.out 0 n0 p1 e0 _ hC H0.out).mono ?_
                        rintro e w1 ⟨rfl, ⟨m1, rfl⟩⟩
                        go_wp2_with fail
                        refine (RQ.out p1 n1 p2 e1 (w.drewN m1) hC H1.out).mono ?_
                        rintro e w2 ⟨rfl, ⟨m2, rfl⟩⟩
                        go_wp2_with fail
                        refine (RQ.out p2 _ _ e2 (w.drewN (m1 + m2)) hC H2.out).mono ?_
                        rintro e w3 ⟨rfl, ⟨m3, rfl⟩⟩
                        go_wp2
                        go_ret3
                        exact ⟨rfl, _, rfl⟩
                      · have q8 : decide (0 < k) = false := decide_eq_false hk
                        obtain rfl : k = 0 := by omega
                        refine ⟨A', c', raw.drop P3, true, true, ⟨HCC.out, by rw [List.length_drop]; omega⟩, (fun _ => GD.out true ⟨by simpa using q3, by simpa using q4, by omega⟩ (by decide)), (fun h => by cases h), fun w hC => ⟨?_, CD.out w hC⟩⟩
                        rw [HMD.out]
                        clear BAD
                        go_enter Tryd.func77, Tryd.ntmps77
                        go_wp2_with fail
                        refine (RQ.out 0 n0 p1 e0 _ hC H0.out).mono ?_
                        rintro e w1 ⟨rfl, ⟨m1, rfl⟩⟩
                        go_wp2_with fail
                        refine (RQ.out p1 n1 p2 e1 (w.drewN m1) hC H1.out).mono ?_
                        rintro e w2 ⟨rfl, ⟨m2, rfl⟩⟩
                        go_wp2_with fail
                        refine (RQ.out p2 _ _ e2 (w.drewN (m1 + m2)) hC H2.out).mono ?_
                        rintro e w3 ⟨rfl, ⟨m3, rfl⟩⟩
                        go_wp2
                        go_ret3
                        exact ⟨rfl, _, rfl⟩
                    · have q8 : ((M : Int) == 0) = false := beq_eq_false_iff_ne.2 (by omega)
                      refine ⟨A', c', raw.drop P3, true, true, ⟨HCC.out, by rw [List.length_drop]; omega⟩, (fun _ => GD.out true ⟨by simpa using q3, by simpa using q4, by omega⟩ (by decide)), (fun h => by cases h), fun w hC => ⟨?_, CD.out w hC⟩⟩
                      rw [HMD.out]
                      clear BAD
                      go_enter Tryd.func77, Tryd.ntmps77
                      go_wp2_with fail
                      refine (RQ.out 0 n0 p1 e0 _ hC H0.out).mono ?_
                      rintro e w1 ⟨rfl, ⟨m1, rfl⟩⟩
                      go_wp2_with fail
                      refine (RQ.out p1 n1 p2 e1 (w.drewN m1) hC H1.out).mono ?_
                      rintro e w2 ⟨rfl, ⟨m2, rfl⟩⟩
                      go_wp2_with fail
                      refine (RQ.out p2 _ _ e2 (w.drewN (m1 + m2)) hC H2.out).mono ?_
                      rintro e w3 ⟨rfl, ⟨m3, rfl⟩⟩
                      go_wp2
                      go_ret3
                      exact ⟨rfl, _, rfl⟩
end Go.Proofs.YtlhjjjpldmekdaaDoor.PDsk.K
