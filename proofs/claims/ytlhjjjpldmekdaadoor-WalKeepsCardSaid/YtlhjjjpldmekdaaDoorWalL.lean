/- Proved: a journal opened on a disk with records; the laws' code and told; condition: numbers that fit. -/
import Derived.Test.YtlhjjjpldmekdaaDoorZv
namespace Go.Proofs.YtlhjjjpldmekdaaDoor.PDsk.K
open Go.RowKit Go.Proofs.YtlhjjjpldmekdaaDoorW.PrintWords Go.Proofs.YtlhjjjpldmekdaaDoorW.PrintLast Go.Proofs.YtlhjjjpldmekdaaDoorW.PrintMore Go.Proofs.YtlhjjjpldmekdaaDoor.Err Go.Maps Go.Proofs.YtlhjjjpldmekdaaDoor.PLog Go.Proofs.YtlhjjjpldmekdaaDoor.PWal
open Go.Proofs.YtlhjjjpldmekdaaDoor.PFn (RowT k109 k109_mk encI encR okRow)
set_option linter.unusedVariables false
set_option linter.unusedSimpArgs false
theorem DkB.openW {w0 w : World} {a1 a2 n : Nat} {s : Dk} {C : CT} {l : List (List Int)} {R : Nat} (h : DkB w0 w a1 a2 n s C l R) (hdn : s.down = false) (hR1 : R ≤ 1000) (t : Wl) (hrun : PWal.run W0 l = some t) :
    Calls Tryd.prog 40 #[.pointer (some ⟨a1, 0, none⟩)] w fun e w' => ∃ (Bl Bw : Nat) (OK : Nat → Prop), e = .returned (.tuple #[.pointer (some ⟨Bw, 0, none⟩), .nilIface]) ∧ Below w.heap.size w w' ∧ JwB w0 w' a1 a2 Bl n s C s.life l R w.heap.size OK Bw t := by
  refine (open_wal (fun b => b ≠ a1 ∧ b ≠ a2) a1 a2 n R s C w h.dx hdn h.room hR1 h.okc).mono ?_
  rintro e w' ⟨Bl, out, next, ho, hl, hge, hb, hE⟩
  rw [h.log.opened] at ho
  obtain ⟨rfl, rfl⟩ := Prod.mk.inj ho
  rcases hE with ⟨Bw, t', OK, hr, rfl, hx⟩ | ⟨i, t', v, hi, hr, hst, rfl, _⟩
  · rw [hr] at hrun
    obtain rfl := Option.some.inj hrun
    exact ⟨Bl, Bw, OK, rfl, hb, ⟨h.below hb, hl, Nat.le_trans h.fr.size hge⟩, hx, h.fr.size, hb.size, hr⟩
  · exfalso
    have key : ∀ (l : List (List Int)) (i : Nat) (s u : Wl), i < l.length → PWal.run s (l.take i) = some u → PWal.step u (l.getD i []) = none → PWal.run s l = none := by
      intro l
      induction l with
      | nil => intro i s u hi; simp at hi
      | cons b l ih =>
        intro i s u hi hr hst
        cases i with
        | zero =>
          have e : s = u := Option.some.inj hr
          subst e
          rw [PWal.run, show PWal.step s b = none from hst]
          rfl
        | succ i =>
          rw [List.take_succ_cons, PWal.run] at hr
          rw [PWal.run]
          cases hs : PWal.step s b with
          | none => rfl
          | some q =>
            rw [hs] at hr
            exact ih i q u (by simpa using hi) hr (by simpa using hst)
    rw [key l i W0 t' hi hr hst] at hrun
    cases hrun
theorem code_wl (x : Option Er) (v : Value) (w : World) (hx : IsErr? w x v) (hg : Laid w) : Calls Tryd.prog 42 #[v] w fun e w' => e = .returned (.int .i64 (codeOf x)) ∧ Below w.heap.size w w' := by
  have HX := Aside0.mk hx
  have HG := Aside0.mk hg
  clear hx hg
  go_enter Tryd.func42, Tryd.ntmps42
  go_wp2_with (first | (go_at_call 78; refine (code_calls x _ _ HX.out HG.out).mono ?_; rintro e w' ⟨rfl, hb⟩))
  go_ret
  exact ⟨rfl, by assumption⟩
def rw1 : List RowT := [⟨1, 2⟩]
theorem rw1_C {W : World} {B : Nat} (h : W.heap[B]? = some (.cells #[.int .i64 1, .int .i64 2] 109 (0, 0))) : k109.C W (some ⟨B, 0, none⟩) rw1.length rw1 := by
  refine ⟨rfl, by decide, fun _ => ⟨_, rfl, fun j p hj => ?_⟩⟩
  have hj0 : j = 0 := by
    rcases Nat.eq_zero_or_pos j with h | h
    · exact h
    · rw [show rw1[j]? = none from by simp [rw1]; omega] at hj; cases hj
  subst hj0
  obtain rfl : (⟨1, 2⟩ : RowT) = p := Option.some.inj hj
  refine ⟨_, rfl, k109_mk W _, fun i u hu => ?_⟩
  have := Err.blk_cell h i u (by simpa using hu)
  cases i with
  | zero => simpa [Addr.add] using this
  | succ i => simpa [Addr.add] using this
theorem rw1_ok : ∀ r ∈ rw1, okRow r := fun r hr => by
  rw [List.mem_singleton.1 hr]
  exact ⟨⟨by decide, by decide⟩, ⟨by decide, by decide⟩⟩
theorem t1 : ∃ C', appS ⟨((20 : Nat) : Int), false, 0, 0, 0⟩ (fun _ => none) 0 ([] : List (List Int)).length (need []) (encB rw1) = (none, ⟨((20 : Nat) : Int), false, 0, 1, 0⟩, C') := ⟨(appS ⟨((20 : Nat) : Int), false, 0, 0, 0⟩ (fun _ => none) 0 ([] : List (List Int)).length (need []) (encB rw1)).2.2, by kernel_rfl⟩
theorem t2 (C : CT) : ∃ C', appS ⟨((20 : Nat) : Int), false, 0, 1, 0⟩ C 0 [encB rw1].length (need [encB rw1]) encC = (none, ⟨((20 : Nat) : Int), false, 0, 2, 0⟩, C') := ⟨(appS ⟨((20 : Nat) : Int), false, 0, 1, 0⟩ C 0 [encB rw1].length (need [encB rw1]) encC).2.2, by kernel_rfl⟩
theorem t3 (C : CT) : ∃ C', appS ⟨((20 : Nat) : Int), false, 0, 2, 0⟩ C 0 [encB rw1, encC].length (need [encB rw1, encC]) (encM 1) = (none, ⟨((20 : Nat) : Int), false, 0, 3, 0⟩, C') := ⟨(appS ⟨((20 : Nat) : Int), false, 0, 2, 0⟩ C 0 [encB rw1, encC].length (need [encB rw1, encC]) (encM 1)).2.2, by kernel_rfl⟩
set_option maxHeartbeats 32000000 in
set_option maxRecDepth 100000 in
theorem told_wl (w : World) (hL : Laid w) : Calls Tryd.prog 44 #[] w fun e w' => e = .returned (.bool true) ∧ Below w.heap.size w w' := by
  have HL := Aside0.mk hL
  clear hL
  go_enter Tryd.func44, Tryd.ntmps44
  go_wp2_with fail
  refine (new_dx ((20 : Nat) : Int) w (by decide) (by decide)).mono ?_
  rintro e w1 ⟨a1, a2, rfl, hD, hu, hb⟩
  have K1 := Aside0.mk (DkB.new hD hu hb (by decide))
  clear hD hu hb
  go_wp2_with fail
  refine (K1.out.openW rfl (by decide) W0 rfl).mono ?_
  rintro e w2 ⟨Bl, Bw, OK, rfl, hb, hJ⟩
  have J2 := Aside0.mk hJ
  clear hb hJ K1
  obtain ⟨C1, e1⟩ := t1
  have X3 := Aside0.mk (heap_alloc_new w2 (Obj.cells #[.int .i64 1, .int .i64 2] 109))
  have J3 := Aside0.mk (J2.out.below (below_alloc (Below.refl _ _) (Obj.cells #[.int .i64 1, .int .i64 2] 109)))
  have Q3 := Aside0.mk (Block_yes J3.out HL.out (some ⟨w2.heap.size, 0, none⟩) 1 rw1 (fun W hf => rw1_C ((hf.block w2.heap.size (by simp) (by
      rintro (h | h | h)
      · have := J2.out.lg.lx.lt; omega
      · have := J2.out.lg.d.dx.lt; omega
      · have := J2.out.lg.d.dx.lt; omega)).trans X3.out)) (by decide) (by decide) rw1_ok (by decide) (by decide) (by decide) _ e1)
  clear J2 e1
  go_wp2_with fail
  refine Q3.out.mono ?_
  rintro e w4 ⟨v4, rfl, OK4, hE, hJ, _, _⟩
  obtain rfl : v4 = .nilIface := hE
  have J4 : Aside0 (JwB w w4 a1 a2 Bl 1 ⟨((20 : Nat) : Int), false, 0, 1, 0⟩ C1 0 [encB rw1] 20 w1.heap.size OK4 Bw ⟨[rw1], [], 0⟩) := ⟨hJ⟩
  clear hJ Q3 J3 X3
  obtain ⟨C2, e2⟩ := t2 C1
  have Q4 := Aside0.mk (Cut_yes J4.out HL.out (by decide) (by decide) (by decide) _ e2)
  clear e2
  go_wp2_with fail
  refine Q4.out.mono ?_
  rintro e w5 ⟨v5, rfl, OK5, hE, hJ, _, _⟩
  obtain rfl : v5 = .nilIface := hE
  have J5 : Aside0 (JwB w w5 a1 a2 Bl 2 ⟨((20 : Nat) : Int), false, 0, 2, 0⟩ C2 0 [encB rw1, encC] 20 w1.heap.size OK5 Bw ⟨[rw1], [1], 0⟩) := ⟨hJ⟩
  clear hJ Q4 J4
  obtain ⟨C3, e3⟩ := t3 C2
  have Q5 := Aside0.mk (Mark_yes J5.out HL.out 1 (by unfold PDsk.K.okI; omega) (by decide) (by decide) (by decide) (by decide) _ e3)
  clear e3
  go_wp2_with fail
  refine Q5.out.mono ?_
  rintro e w6 ⟨v6, rfl, OK6, hE, hJ, _, _⟩
  obtain rfl : v6 = .nilIface := hE
  have J6 : Aside0 (JwB w w6 a1 a2 Bl 3 ⟨((20 : Nat) : Int), false, 0, 3, 0⟩ C3 0 [encB rw1, encC, encM 1] 20 w1.heap.size OK6 Bw ⟨[rw1], [1], 1⟩) := ⟨hJ⟩
  clear hJ Q5 J5
  have Q6 := Aside0.mk (Batch_yes J6.out.wx J6.out.wb 1 (by decide) (by decide))
  go_wp2_with fail
  refine Q6.out.mono ?_
  rintro e w7 ⟨v7, rfl, hR, hb⟩
  have J7 := Aside0.mk (J6.out.below hb)
  have R7 := Aside0.mk (show KW.R 76 w7 w6.heap.size (fun _ => True) v7 [rw1] from hR)
  obtain ⟨A7, c7, rfl⟩ := Kd.R_slice R7.out
  obtain ⟨ad, A8, c8, rfl, m8, _, _⟩ := at_rows (Kd.R_reads' R7.out).2.2 0 (by decide)
  have m8' : w7.cell? ad = some (.slice A8 1 c8) := by simpa [rw1, Addr.add] using m8
  have LW := Aside0.mk (J7.out.lg.d.laid HL.out)
  clear hR hb Q6 J6 m8
  have QM := Aside0.mk (Marked_wal J7.out.wx)
  have QO := Aside0.mk (Of_wal J7.out.wx (by decide) 1)
  have QN := Aside0.mk (Mark_no J7.out 1 (.fault walS 1 (.num 1)) rfl)
  go_wp2_with (first
    | (go_at_call 48; refine QM.out.mono ?_; rintro e w' ⟨rfl, rfl⟩)
    | (go_at_call 53; refine QO.out.mono ?_; rintro e w' ⟨he, rfl⟩; obtain rfl := he.trans (show _ = Ending.returned (.int .i64 1) from rfl))
    | (go_at_call 88; refine QN.out.mono ?_; rintro e w8 ⟨v8, rfl, hE, hb⟩; have E8 := Aside0.mk hE; have B8 := Aside0.mk hb; clear hE hb)
    | (go_at_call 42; refine (code_wl (some (.fault walS 1 (.num 1))) _ w8 E8.out (LW.out.below B8.out (Nat.le_refl _))).mono ?_; rintro e w9 ⟨rfl, hb⟩; rw [show codeOf (some (Er.fault walS 1 (Er.num 1))) = 1 from rfl]; have B9 := Aside0.mk (B8.out.trans (hb.mono B8.out.size)); clear hb))
  go_ret
  exact ⟨rfl, (J7.out.lg.d.fr.trans (Fr.of_below B9.out)).below (Nat.le_refl _) (fun _ h => h)⟩
end Go.Proofs.YtlhjjjpldmekdaaDoor.PDsk.K
