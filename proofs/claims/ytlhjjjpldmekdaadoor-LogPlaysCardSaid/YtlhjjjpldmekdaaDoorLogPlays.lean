/- Proved: the law LogPlays returns true for all acts that fit: the walk. -/
import Derived.Test.YtlhjjjpldmekdaaDoorLogP
import Derived.Deep.RegionHeld3
import Derived.Deep.QuietTactic
import Derived.BigQuiet
namespace Go.Proofs.YtlhjjjpldmekdaaDoor.PDsk.K
open Go.RowKit Go.Proofs.YtlhjjjpldmekdaaDoorW.PrintWords Go.Proofs.YtlhjjjpldmekdaaDoorW.PrintLast Go.Proofs.YtlhjjjpldmekdaaDoorW.PrintMore Go.Proofs.YtlhjjjpldmekdaaDoor.Err Go.Maps Go.Proofs.YtlhjjjpldmekdaaDoor.PLog
set_option linter.unusedVariables false
set_option linter.unusedSimpArgs false
theorem openGo_bd (C : CT) (d : Nat) : ∀ (p : Nat) (out : List (List Int)) (row : List Int) (k next : Nat), out.length ≤ next → next ≤ p → (openGo C d p out row k next).1.length ≤ (openGo C d p out row k next).2 ∧ (openGo C d p out row k next).2 ≤ p + d := by
  induction d with
  | zero => intro p out row k next h1 h2; exact ⟨h1, h2⟩
  | succ d ih =>
    intro p out row k next h1 h2
    rw [openGo_succ]
    cases hc : C (p : Int) with
    | none => exact ⟨h1, by show next ≤ _; omega⟩
    | some raw =>
      simp only
      cases hp : parse raw ((out.length : Int) + 1) (k : Int) with
      | none => exact ⟨h1, by show next ≤ _; omega⟩
      | some y =>
        obtain ⟨data, last⟩ := y
        cases last with
        | true =>
          simp only [if_true]
          have := ih (p + 1) (out ++ [row ++ data]) [] 0 (p + 1) (by simp; omega) (Nat.le_refl _)
          exact ⟨this.1, by omega⟩
        | false =>
          simp only [Bool.false_eq_true, if_false]
          have := ih (p + 1) out (row ++ data) (k + 1) next h1 (by omega)
          exact ⟨this.1, by omega⟩
theorem opened_bd {C : CT} {R : Nat} {out : List (List Int)} {next : Nat} (h : opened C R = (out, next)) : out.length ≤ next ∧ next ≤ R := by
  have := openGo_bd C R 0 [] [] 0 0 (Nat.le_refl _) (Nat.le_refl _)
  unfold opened at h
  rw [h] at this
  simpa using this
theorem appS_none {s : Dk} {C : CT} {life : Int} {recs next : Nat} {b : List Int} (h : (appS s C life recs next b).1 = none) : ((next + nB b.length : Nat) : Int) ≤ s.room := by
  unfold appS at h
  split at h
  · cases h
  · split at h
    · cases h
    · omega
theorem codeOf_map (r : Option Er) : codeOf (r.map (.fault logS 0)) = codeOf r := by cases r <;> rfl
theorem AppP.frame {r : Option Er × Dk × CT} {F : Nat → Prop} {Bl a1 a2 n nb recs next : Nat} {life : Int} {w w' : World} {e : Ending} (h : AppP r F Bl a1 a2 n nb recs next life w e w') : Fr (LB Bl a1 a2) w w' := by
  obtain ⟨_, _, _, _, _, hf⟩ := h
  exact hf
theorem AppP.below {r : Option Er × Dk × CT} {F : Nat → Prop} {Bl a1 a2 n nb recs next : Nat} {life : Int} {w w' w2 : World} {e : Ending} (h : AppP r F Bl a1 a2 n nb recs next life w e w') (hb : Below w'.heap.size w' w2) : AppP r F Bl a1 a2 n nb recs next life w e w2 := by
  obtain ⟨v, rfl, hE, hD, ⟨x, y, h1, h2, hl⟩, hf⟩ := h
  exact ⟨v, rfl, hE.below hb (Nat.le_refl _), hD.below hb, ⟨x, y, h1, h2, hl.below hb⟩, hf.trans (Fr.of_below hb)⟩
theorem LgP.noB {w0 w : World} {a1 a2 B0 B1 B2 n Bl Bm : Nat} {s : Dk} {C : CT} {life : Int} {recs next R : Nat} (h : LgP w0 w a1 a2 B0 B1 B2 n Bl Bm s C life recs next R) : ∀ b, LB Bl a1 a2 b → NoB w b := by
  rintro b (rfl | hb)
  · exact h.lx.noB
  · exact h.p.d.noB b hb
theorem LgP.zero {w0 w : World} {a1 a2 B0 B1 B2 n Bl Bm : Nat} {s : Dk} {C : CT} {life : Int} {recs next R : Nat} (h : LgP w0 w a1 a2 B0 B1 B2 n Bl Bm s C life recs next R) (hL : Laid w) : ¬ LB Bl a1 a2 0 := by
  rintro (e | hb)
  · exact laid_lx hL h.lx e.symm
  · exact laid_dx hL h.p.d hb
/-- At the end: the program's disk has power again. -/
structure EndI (w0 w : World) (a1 a2 B0 B1 B2 n : Nat) (s : Dk) (C : CT) : Prop where
  fr : Fr (fun b => w0.heap.size ≤ b) w0 w
  d : Dx w (fun b => b ≠ a1 ∧ b ≠ a2) a1 a2 (restartS s) n C
  r : RD w (fun b => b ≠ B0 ∧ b ≠ B1 ∧ b ≠ B2) B0 B1 B2 s C
theorem EndI.below {w0 w w' : World} {a1 a2 B0 B1 B2 n : Nat} {s : Dk} {C : CT} (h : EndI w0 w a1 a2 B0 B1 B2 n s C) (hb : Below w.heap.size w w') : EndI w0 w' a1 a2 B0 B1 B2 n s C := ⟨h.fr.trans (Fr.of_below hb), h.d.below hb, h.r.below hb⟩
/-- A block is read of the one, and lies in the other. -/
theorem end_read {w0 w : World} {a1 a2 B0 B1 B2 n R : Nat} {s : Dk} {C : CT} (h : EndI w0 w a1 a2 B0 B1 B2 n s C) (hR : s.room = (R : Int)) (hC : okC C) (hR64 : R ≤ 65536) (j : Nat) (hj : j < R) : Calls Tryd.prog 33 #[.pointer (some ⟨a1, 0, none⟩), .int .i64 (j : Int)] w fun e w' => ∃ (A : Option Addr) (c : Nat) (A7 : Option Addr) (c7 : Nat), e = .returned (.tuple #[.slice A ((C (j : Int)).getD []).length c, .bool (C (j : Int)).isSome, .nilIface]) ∧ (Kd.int .u8).C w' A ((C (j : Int)).getD []).length ((C (j : Int)).getD []) ∧
    w'.cell? ⟨B0, 0, none⟩ = some (.slice (some ⟨B1, 0, none⟩) R R) ∧ w'.cell? ⟨B0, 1, none⟩ = some (.slice (some ⟨B2, 0, none⟩) R R) ∧ w'.cell? ⟨B1, j, none⟩ = some (.slice A7 ((C (j : Int)).getD []).length c7) ∧ w'.cell? ⟨B2, j, none⟩ = some (.bool (C (j : Int)).isSome) ∧ (Kd.int .u8).C w' A7 ((C (j : Int)).getD []).length ((C (j : Int)).getD []) ∧ EndI w0 w' a1 a2 B0 B1 B2 n s C := by
  refine (read_dx h.d (j : Int) (by unfold okI; omega) (hC.long _)).mono ?_
  have hm : met (restartS s) (j : Int) 0 = 2 := by
    unfold met
    rw [show (restartS s).down = false from rfl, if_neg (by decide), show (restartS s).room = s.room from rfl, if_neg (by omega)]
  rw [show rdS (restartS s) C (j : Int) = ((C (j : Int)).getD [], (C (j : Int)).isSome, none) from by unfold rdS; rw [if_neg (by rw [hm]; decide)]]
  rintro e w' ⟨v, ev, rfl, hRv, hE, hb, hN⟩
  obtain rfl : ev = .nilIface := hE
  obtain ⟨A, c, rfl⟩ := Kd.R_slice hRv
  have h' := h.below hb
  obtain ⟨nn, vs, hr⟩ := h'.r
  obtain rfl : nn = R := by have := hr.room; omega
  obtain ⟨j0, j1, j2, j3, j4, j5⟩ := facts6 hr.b0
  obtain ⟨v, hv⟩ : ∃ v, vs[j]? = some v := ⟨_, List.getElem?_eq_getElem (by rw [hr.len]; exact hj)⟩
  have m1 := Err.blk_cell hr.b1 j v (by rw [List.getElem?_toArray]; exact hv)
  have m2 := Err.blk_cell hr.b2 j _ (wroteV_get nn C j hj)
  obtain ⟨A7, c7, rfl, hc7, hC7⟩ := Rd.of_R (hr.rows j v hv)
  exact ⟨A, c, A7, c7, rfl, (Kd.R_reads' hRv).2.2, j0, j1, m1, m2, hC7, h'⟩
theorem C_none (w : World) : KR.C w none 0 [] := ⟨rfl, by simp, fun h => absurd h (Nat.lt_irrefl 0)⟩
end Go.Proofs.YtlhjjjpldmekdaaDoor.PDsk.K
namespace Go.Proofs.YtlhjjjpldmekdaaDoor.PLg
open Go.RowKit Go.Proofs.YtlhjjjpldmekdaaDoorW.PrintWords Go.Proofs.YtlhjjjpldmekdaaDoorW.PrintLast Go.Proofs.YtlhjjjpldmekdaaDoorW.PrintMore Go.Proofs.YtlhjjjpldmekdaaDoor.Err Go.Maps Go.Proofs.YtlhjjjpldmekdaaDoor.PLog Go.Proofs.YtlhjjjpldmekdaaDoor.PDsk Go.Proofs.YtlhjjjpldmekdaaDoor.PDsk.K
attribute [local go_sem] max2_int min2_int max_two min_two max_three min_three max_four min_four
set_option linter.unusedVariables false
set_option linter.unusedSimpArgs false
namespace Plays
abbrev ActT := S48
def okAll (l : List ActT) : Prop := ∀ x ∈ l, ∀ y ∈ x.f2, 0 ≤ y ∧ y ≤ 255
theorem rd_ok {l : List ActT} (h : okAll l) (i : Nat) (hi : i < l.length) : ∀ y ∈ (rd_T48 l (i : Int)).f2, 0 ≤ y ∧ y ≤ 255 := by
  unfold rd_T48
  rw [Int.toNat_natCast, List.getD_eq_getElem?_getD, List.getElem?_eq_getElem hi]
  exact h _ (List.getElem_mem hi)
set_option maxHeartbeats 32000000 in
set_option maxRecDepth 100000 in
theorem logPlays_law (a0 : Int) (A0 : Option Addr) (c0 : Nat) (l0 : List ActT) (w : World) (hr0 : Kd.C k48 w A0 l0.length l0) (hc0 : l0.length ≤ c0) (hL : Laid w) (ok0 : okAll l0) :
    Calls Tryd.prog 7 #[.int .i64 a0, .slice A0 l0.length c0] w fun e w' => e = .returned (.bool true) ∧ Below w.heap.size w w' := by
  have HL := Aside0.mk hL
  have R0 := Aside0.mk hr0
  have K0 := Aside0.mk ok0
  obtain ⟨m, hm, hm63⟩ : ∃ m : Nat, Go.bits .and .i64 a0 63 = (m : Int) ∧ m ≤ 63 := ⟨(a0 % 64).toNat, by rw [i64_and63]; omega, by omega⟩
  obtain ⟨R, hR, hR1, hR64⟩ : ∃ R : Nat, (m : Int) + 1 = (R : Int) ∧ 1 ≤ R ∧ R ≤ 65536 := ⟨m + 1, by omega, by omega, by omega⟩
  clear hL hr0 ok0
  go_enter Tryd.func7, Tryd.ntmps7
  go_wp2_with fail
  refine (new_dx (R : Int) w (by omega) (by omega)).mono ?_
  rintro e w1 ⟨a1, a2, rfl, hD, hu, hb⟩
  have D1 := Aside0.mk hD
  have U1 := Aside0.mk hu
  have B1' := Aside0.mk hb
  clear hD hu hb hm hR
  go_wp2_with fail
  refine (rnew R hR1 hR64 w1).mono ?_
  rintro e w2 ⟨B0, B1, B2, rfl, hR, hu, hb⟩
  have P2 : Aside0 (PlB w w2 a1 a2 B0 B1 B2 0 ⟨(R : Int), false, 0, 0, 0⟩ (fun _ => none) R) := ⟨by
    have h1 := U1.out
    have h2 := D1.out.lt
    have h3 := B1'.out.size
    exact ⟨Fr.of_below (B1'.out.trans (hb.mono B1'.out.size)), D1.out.below hb, hR, rfl, okC.none, by omega⟩⟩
  clear hR hu hb D1 U1 B1'
  have QO := Aside0.mk (open_ok (fun b => b ≠ a1 ∧ b ≠ a2) a1 a2 0 R _ _ _ P2.out.d rfl P2.out.room hR64 P2.out.okc)
  go_wp2_with fail
  refine QO.out.mono ?_
  rintro e w3 ⟨Bl, vo, ro, no, rfl, ho, hLx, hge, hR, hb⟩
  have HO := Aside0.mk ho
  have LX := Aside0.mk hLx
  have P3 := Aside0.mk (P2.out.below hb)
  have GE := Aside0.mk (Nat.le_trans P2.out.fr.size hge)
  obtain ⟨A4, c4, rfl⟩ := Kd.R_slice hR
  clear ho hLx hge hR hb QO P2
  have QO := Aside0.mk (open8_ok (fun b => b ≠ B0 ∧ b ≠ B1 ∧ b ≠ B2) B0 B1 B2 R _ _ _ P3.out.r rfl P3.out.room hR64 P3.out.okc)
  go_wp2_with fail
  refine QO.out.mono ?_
  rintro e w4 ⟨Bm, vo, ro2, no2, rfl, ho, hLr, hge, hR, hb⟩
  rw [HO.out] at ho
  obtain ⟨rfl, rfl⟩ := Prod.mk.inj ho
  have hbd := opened_bd HO.out
  have I0 : Aside0 (LgP w w4 a1 a2 B0 B1 B2 0 Bl Bm ⟨(R : Int), false, 0, 0, 0⟩ (fun _ => none) 0 ro.length no R ∧ (ro.length ≤ no ∧ no ≤ R ∧ 0 ≤ 6 * 0)) := ⟨⟨P3.out.below hb, LX.out.below hb, hLr, GE.out, Nat.le_trans P3.out.fr.size hge⟩, by omega⟩
  obtain ⟨A5, c5, rfl⟩ := Kd.R_slice hR
  clear ho hLr hge hR hb QO LX P3 GE hbd HO
  go_wp2
  go_loopg [8, 11, 14] 60 (fun kq v8 v11 v14 wr => ∃ (i Bl Bm n : Nat) (s : Dk) (C : CT) (life : Int) (recs next : Nat), v8 = .pointer (some ⟨Bl, 0, none⟩) ∧ v11 = .pointer (some ⟨Bm, 0, none⟩) ∧ v14 = .int .i64 (i : Int) ∧ i ≤ 60 ∧ 60 - i ≤ kq ∧ Aside0 (LgP w wr a1 a2 B0 B1 B2 n Bl Bm s C life recs next R ∧ (recs ≤ next ∧ next ≤ R ∧ n ≤ 6 * i)))
  case atStart => exact ⟨0, Bl, Bm, 0, _, _, 0, ro.length, no, rfl, rfl, rfl, by omega, by omega, I0⟩
  case round =>
    obtain ⟨i, Bl, Bm, n, s, C, life, recs, next, rfl, rfl, rfl, hi, hk, K⟩ := hrel
    clear I0
    by_cases hlt : i < l0.length ∧ i < 60
    · have q1 : decide ((i : Int) < (l0.length : Int)) = true := decide_eq_true (by omega)
      have q2 : decide ((i : Int) < 60) = true := decide_eq_true (by omega)
      have ok0 := rd_ok K0.out i hlt.1
      obtain ⟨ad, A2, c2, e0, g0, g1, g2, gl, gC⟩ := at_T48 R0.out (i : Int) (by omega) (by omega)
      subst e0
      rw [Int.toNat_natCast] at g0 g1 g2
      obtain ⟨x, hx⟩ : ∃ x, rd_T48 l0 (i : Int) = x := ⟨_, rfl⟩
      rw [hx] at g0 g1 g2 gl gC ok0
      clear hx
      have hbw := K.out.1.p.fr.below (n := w.heap.size) (Nat.le_refl _) (fun _ h => h)
      have x0 := cell_keep hbw g0
      have x1 := cell_keep hbw g1
      have x2 := cell_keep hbw g2
      have GL := Aside0.mk gl
      have GC := Aside0.mk (Kd.C_below gC hbw)
      have GK := Aside0.mk ok0
      clear g0 g1 g2 gl gC ok0 hbw
      by_cases h0 : x.f0 = 0
      · rw [h0] at x0
        clear h0
        have XB0 := Aside0.mk (heap_alloc_new wr (Obj.cells #[.int .i64 0, .int .i64 x.f1, .slice A2 x.f2.length c2] 48))
        obtain ⟨y0, y1, y2⟩ := facts3 XB0.out
        have LT : Aside0 ((a1 < wr.heap.size ∧ a2 < wr.heap.size) ∧ B0 < wr.heap.size ∧ B1 < wr.heap.size ∧ B2 < wr.heap.size) := ⟨⟨K.out.1.p.d.lt, K.out.1.p.r.lt⟩⟩
        have BX : Aside0 (Below wr.heap.size wr (wr.alloc (Obj.cells #[.int .i64 0, .int .i64 x.f1, .slice A2 x.f2.length c2] 48))) := ⟨below_alloc (Below.refl _ _) _⟩
        have X0 := Aside0.mk (K.out.1.below BX.out)
        have BD := Aside0.mk K.out.2
        clear K
        obtain ⟨t, ht, ht3, hte, htl, hm1, hm2, hm3, hcut⟩ := take_n 300 300 rfl A2 c2 x.f2 GL.out
        have hC3 := Kd.C_take (m := t) (Kd.C_below GC.out BX.out) htl
        have hbb : ∀ y ∈ x.f2.take 300, 0 ≤ y ∧ y ≤ 255 := fun y hy => GK.out y (List.mem_of_mem_take hy)
        rw [hte] at hC3
        obtain ⟨b, hb⟩ : ∃ b, x.f2.take 300 = b := ⟨_, rfl⟩
        rw [hb] at ht hC3 hbb
        subst ht
        have hbd := BD.out
        have h6 := nB_300 b.length ht3
        have HBB := Aside0.mk hbb
        have HNB := Aside0.mk h6
        have HB3 : Aside0 (b.length ≤ 100000 ∧ b.length ≤ c2) := ⟨by have := GL.out; omega⟩
        have AF := Aside0.mk (appS_facts s C life recs next b (by omega) HB3.out.1 hbb X0.out.p.okc)
        have AN := Aside0.mk (appS_none (s := s) (C := C) (life := life) (recs := recs) (next := next) (b := b))
        have QA := Aside0.mk (append_calls (fun b => b ≠ a1 ∧ b ≠ a2) Bl a1 a2 n R recs next life s C A2 c2 b _ X0.out.p.d X0.out.lx X0.out.p.room (by omega) X0.out.p.freshD (by omega) hC3 HB3.out.2 HB3.out.1 (X0.out.p.laid HL.out))
        have HC3 := Aside0.mk hC3
        have QB := Aside0.mk (fun (W : World) (hd : RD W (fun b => b ≠ B0 ∧ b ≠ B1 ∧ b ≠ B2) B0 B1 B2 s C) (hl : Lr W Bm B0 (next : Int) (recs : Int) life) (hC : (Kd.int .u8).C W A2 b.length b) => append8_calls (fun b => b ≠ B0 ∧ b ≠ B1 ∧ b ≠ B2) Bm B0 B1 B2 R recs next life s C A2 c2 b W hd hl X0.out.p.room (by omega) (fun k hk => by have := hd.lt; omega) hC HB3.out.2 HB3.out.1)
        clear hC3 hbb hte hb htl hbd ht3 h6
        obtain ⟨⟨er, s2, C2⟩, hr⟩ : ∃ r, appS s C life recs next b = r := ⟨_, rfl⟩
        rw [hr] at QA QB AF AN
        clear hr
        go_wp2_with fail
        refine QA.out.mono ?_
        rintro e w4 hA
        have HA := Aside0.mk hA
        obtain ⟨v4, rfl, hE, _⟩ := hA
        have LW := Aside0.mk (laid_fr (X0.out.p.laid HL.out) HA.out.frame (fun h => X0.out.zero (X0.out.p.laid HL.out) h))
        have CL := Aside0.mk (code_law _ _ w4 hE LW.out)
        rw [codeOf_map] at CL
        obtain ⟨ec, hec⟩ : ∃ ec, codeOf er = ec := ⟨_, rfl⟩
        have HEC := Aside0.mk hec
        rw [show codeOf ((er, s2, C2) : Option Er × Dk × CT).1 = ec from hec] at CL
        clear hE QA hec hcut hm1 hm2 hm3 x0 x1 x2 y0 y1 y2
        go_wp2_with fail
        refine CL.out.mono ?_
        rintro e w5 ⟨rfl, hb⟩
        have HA5 := Aside0.mk (HA.out.below hb)
        have RK := Aside0.mk (X0.out.rkept HA5.out.frame)
        have QB5 := Aside0.mk (QB.out w5 RK.out.1 RK.out.2 (C_fr HC3.out HA5.out.frame X0.out.noB))
        clear hb HA CL LW QB
        go_wp2_with fail
        refine QB5.out.mono ?_
        rintro e w6 h8
        obtain ⟨recs', next', hrn, hK⟩ := X0.out.apps HA5.out h8 AF.out.1 AF.out.2.2
        have K6 := Aside0.mk hK
        have HRN : Aside0 (recs' ≤ next' ∧ next' ≤ R) := ⟨by
          have h1 := BD.out
          rcases hrn with ⟨e1, e2, e3⟩ | ⟨e1, e2⟩
          · have h2 := AN.out e3
            rw [X0.out.p.room] at h2
            have := nB_pos b.length
            omega
          · omega⟩
        obtain ⟨rfl, _⟩ := h8
        rw [show codeOf ((er, s2, C2) : Option Er × Dk × CT).1 = ec from HEC.out]
        clear hrn hK QB5 RK HA5 X0
        obtain ⟨nn', vvs, hrd⟩ := K6.out.p.r
        obtain ⟨j0, j1, j2, j3, j4, j5⟩ := facts6 hrd.b0
        obtain ⟨l0', l1', l2', l3'⟩ := facts4 K6.out.lr
        clear hrd
        obtain ⟨dn, hdn⟩ : ∃ dn, (s2).down = dn := ⟨_, rfl⟩
        obtain ⟨wn, hwn⟩ : ∃ wn, (s2).writes = wn := ⟨_, rfl⟩
        have QD := fun q => q_same (n := q) (down_dx (K6.out.p.d.below (pw_below_drewN (Below.refl _ _) q)))
        have QW := fun q => q_same (n := q) (writes_dx (K6.out.p.d.below (pw_below_drewN (Below.refl _ _) q)))
        have QN := fun q => q_same (n := q) (len_calls (K6.out.lx.below (pw_below_drewN (Below.refl _ _) q)))
        have QF := q_some (fun q => left_calls (K6.out.lx.below (pw_below_drewN (Below.refl _ _) q)) (K6.out.p.d.below (pw_below_drewN (Below.refl _ _) q)))
        have QE := q_some (fun q => left8 (K6.out.lr.below (pw_below_drewN (Below.refl _ _) q)) (K6.out.p.r.below (pw_below_drewN (Below.refl _ _) q)))
        rw [K6.out.p.room] at QF QE
        obtain ⟨lf, hlf⟩ : ∃ lf, wrap64 ((R : Int) - ((next' : Nat) : Int)) = lf := ⟨_, rfl⟩
        rw [hlf] at QF QE
        rw [hdn] at QD j2
        rw [hwn] at QW j4
        have HQD := Aside0.mk QD
        have HQW := Aside0.mk QW
        have HQN := Aside0.mk QN
        have HQF := Aside0.mk QF
        have HQE := Aside0.mk QE
        clear QD QW QN QF QE hdn hwn hlf j0 j1 j3 j5 l0' l1' l3'
        go_wp2_with fail
        go_quiet (first | (go_at_call 23; exact HQN.out _) | (go_at_call 24; exact HQF.out _) | (go_at_call 25; exact HQE.out _) | (go_at_call 38; exact HQW.out _) | (go_at_call 39; exact HQD.out _))
        go_wp2
        go_roundg (gk - 1)
        case measure => omega
        case rel => exact ⟨i + 1, Bl, Bm, n + nB b.length, s2, C2, _, recs', next', rfl, rfl, by go_num, by omega, by omega, ⟨K6.out.below (pw_below_drewN (Below.refl _ _) _), by have := HRN.out; have := HNB.out; have := BD.out; omega⟩⟩
      · have k0 : (x.f0 == 0) = false := beq_eq_false_iff_ne.2 h0
        by_cases h1 : x.f0 = 1
        · rw [h1] at x0
          clear k0 h0 h1
          have XB0 := Aside0.mk (heap_alloc_new wr (Obj.cells #[.int .i64 1, .int .i64 x.f1, .slice A2 x.f2.length c2] 48))
          obtain ⟨y0, y1, y2⟩ := facts3 XB0.out
          have LT : Aside0 ((a1 < wr.heap.size ∧ a2 < wr.heap.size) ∧ B0 < wr.heap.size ∧ B1 < wr.heap.size ∧ B2 < wr.heap.size) := ⟨⟨K.out.1.p.d.lt, K.out.1.p.r.lt⟩⟩
          have BX : Aside0 (Below wr.heap.size wr (wr.alloc (Obj.cells #[.int .i64 1, .int .i64 x.f1, .slice A2 x.f2.length c2] 48))) := ⟨below_alloc (Below.refl _ _) _⟩
          have X0 := Aside0.mk (K.out.1.below BX.out)
          have BD := Aside0.mk K.out.2
          clear K
          go_wp2_with fail
          refine (arm_dx X0.out.p.d x.f1).mono ?_
          rintro e wa0 ⟨rfl, hD, hf⟩
          have HD0 := Aside0.mk hD
          have HF0 := Aside0.mk hf
          have HK0 := Aside0.mk (X0.out.p.rkept hf)
          have XA0 := Aside0.mk ((hf.block wr.heap.size (Array.getElem?_eq_some_iff.1 XB0.out).1 (fun e => by have := LT.out; omega)).trans XB0.out)
          clear y0 y1 y2
          obtain ⟨y0, y1, y2⟩ := facts3 XA0.out
          clear hD hf
          go_wp2_with fail
          refine (rarm HK0.out x.f1).mono ?_
          rintro e wb0 ⟨rfl, hR, hf2⟩
          have X1 := Aside0.mk (X0.out.both HD0.out HF0.out hR hf2 (by unfold armS; split <;> rfl) X0.out.p.okc)
          have XB1 := Aside0.mk ((hf2.block wr.heap.size (Array.getElem?_eq_some_iff.1 XA0.out).1 (fun e => by have := LT.out; omega)).trans XA0.out)
          clear y0 y1 y2
          obtain ⟨y0, y1, y2⟩ := facts3 XB1.out
          clear hR hf2
          obtain ⟨nn', vvs, hrd⟩ := X1.out.p.r
          obtain ⟨j0, j1, j2, j3, j4, j5⟩ := facts6 hrd.b0
          obtain ⟨l0', l1', l2', l3'⟩ := facts4 X1.out.lr
          clear hrd
          obtain ⟨dn, hdn⟩ : ∃ dn, (armS s x.f1).down = dn := ⟨_, rfl⟩
          obtain ⟨wn, hwn⟩ : ∃ wn, (armS s x.f1).writes = wn := ⟨_, rfl⟩
          have QD := fun q => q_same (n := q) (down_dx (X1.out.p.d.below (pw_below_drewN (Below.refl _ _) q)))
          have QW := fun q => q_same (n := q) (writes_dx (X1.out.p.d.below (pw_below_drewN (Below.refl _ _) q)))
          have QN := fun q => q_same (n := q) (len_calls (X1.out.lx.below (pw_below_drewN (Below.refl _ _) q)))
          have QF := q_some (fun q => left_calls (X1.out.lx.below (pw_below_drewN (Below.refl _ _) q)) (X1.out.p.d.below (pw_below_drewN (Below.refl _ _) q)))
          have QE := q_some (fun q => left8 (X1.out.lr.below (pw_below_drewN (Below.refl _ _) q)) (X1.out.p.r.below (pw_below_drewN (Below.refl _ _) q)))
          rw [X1.out.p.room] at QF QE
          obtain ⟨lf, hlf⟩ : ∃ lf, wrap64 ((R : Int) - ((next : Nat) : Int)) = lf := ⟨_, rfl⟩
          rw [hlf] at QF QE
          rw [hdn] at QD j2
          rw [hwn] at QW j4
          have HQD := Aside0.mk QD
          have HQW := Aside0.mk QW
          have HQN := Aside0.mk QN
          have HQF := Aside0.mk QF
          have HQE := Aside0.mk QE
          clear QD QW QN QF QE hdn hwn hlf j0 j1 j3 j5 l0' l1' l3'
          go_wp2_with fail
          go_quiet (first | (go_at_call 23; exact HQN.out _) | (go_at_call 24; exact HQF.out _) | (go_at_call 25; exact HQE.out _) | (go_at_call 38; exact HQW.out _) | (go_at_call 39; exact HQD.out _))
          go_wp2
          go_roundg (gk - 1)
          case measure => omega
          case rel => exact ⟨i + 1, Bl, Bm, n, armS s x.f1, C, _, recs, next, rfl, rfl, by go_num, by omega, by omega, ⟨X1.out.below (pw_below_drewN (Below.refl _ _) _), by have := BD.out; omega⟩⟩
        · have k1 : (x.f0 == 1) = false := beq_eq_false_iff_ne.2 h1
          by_cases h2 : x.f0 = 2
          · rw [h2] at x0
            clear k0 h0 h1 k1 h2
            have XB0 := Aside0.mk (heap_alloc_new wr (Obj.cells #[.int .i64 2, .int .i64 x.f1, .slice A2 x.f2.length c2] 48))
            obtain ⟨y0, y1, y2⟩ := facts3 XB0.out
            have LT : Aside0 ((a1 < wr.heap.size ∧ a2 < wr.heap.size) ∧ B0 < wr.heap.size ∧ B1 < wr.heap.size ∧ B2 < wr.heap.size) := ⟨⟨K.out.1.p.d.lt, K.out.1.p.r.lt⟩⟩
            have BX : Aside0 (Below wr.heap.size wr (wr.alloc (Obj.cells #[.int .i64 2, .int .i64 x.f1, .slice A2 x.f2.length c2] 48))) := ⟨below_alloc (Below.refl _ _) _⟩
            have X0 := Aside0.mk (K.out.1.below BX.out)
            have BD := Aside0.mk K.out.2
            clear K
            go_wp2_with fail
            refine (cut_dx X0.out.p.d).mono ?_
            rintro e wa0 ⟨rfl, hD, hf⟩
            have HD0 := Aside0.mk hD
            have HF0 := Aside0.mk hf
            have HK0 := Aside0.mk (X0.out.p.rkept hf)
            have XA0 := Aside0.mk ((hf.block wr.heap.size (Array.getElem?_eq_some_iff.1 XB0.out).1 (fun e => by have := LT.out; omega)).trans XB0.out)
            clear y0 y1 y2
            obtain ⟨y0, y1, y2⟩ := facts3 XA0.out
            clear hD hf
            go_wp2_with fail
            refine (rcut HK0.out).mono ?_
            rintro e wb0 ⟨rfl, hR, hf2⟩
            have X1 := Aside0.mk (X0.out.both HD0.out HF0.out hR hf2 rfl X0.out.p.okc)
            have XB1 := Aside0.mk ((hf2.block wr.heap.size (Array.getElem?_eq_some_iff.1 XA0.out).1 (fun e => by have := LT.out; omega)).trans XA0.out)
            clear y0 y1 y2
            obtain ⟨y0, y1, y2⟩ := facts3 XB1.out
            clear hR hf2
            obtain ⟨nn', vvs, hrd⟩ := X1.out.p.r
            obtain ⟨j0, j1, j2, j3, j4, j5⟩ := facts6 hrd.b0
            obtain ⟨l0', l1', l2', l3'⟩ := facts4 X1.out.lr
            clear hrd
            obtain ⟨dn, hdn⟩ : ∃ dn, (cutS s).down = dn := ⟨_, rfl⟩
            obtain ⟨wn, hwn⟩ : ∃ wn, (cutS s).writes = wn := ⟨_, rfl⟩
            have QD := fun q => q_same (n := q) (down_dx (X1.out.p.d.below (pw_below_drewN (Below.refl _ _) q)))
            have QW := fun q => q_same (n := q) (writes_dx (X1.out.p.d.below (pw_below_drewN (Below.refl _ _) q)))
            have QN := fun q => q_same (n := q) (len_calls (X1.out.lx.below (pw_below_drewN (Below.refl _ _) q)))
            have QF := q_some (fun q => left_calls (X1.out.lx.below (pw_below_drewN (Below.refl _ _) q)) (X1.out.p.d.below (pw_below_drewN (Below.refl _ _) q)))
            have QE := q_some (fun q => left8 (X1.out.lr.below (pw_below_drewN (Below.refl _ _) q)) (X1.out.p.r.below (pw_below_drewN (Below.refl _ _) q)))
            rw [X1.out.p.room] at QF QE
            obtain ⟨lf, hlf⟩ : ∃ lf, wrap64 ((R : Int) - ((next : Nat) : Int)) = lf := ⟨_, rfl⟩
            rw [hlf] at QF QE
            rw [hdn] at QD j2
            rw [hwn] at QW j4
            have HQD := Aside0.mk QD
            have HQW := Aside0.mk QW
            have HQN := Aside0.mk QN
            have HQF := Aside0.mk QF
            have HQE := Aside0.mk QE
            clear QD QW QN QF QE hdn hwn hlf j0 j1 j3 j5 l0' l1' l3'
            go_wp2_with fail
            go_quiet (first | (go_at_call 23; exact HQN.out _) | (go_at_call 24; exact HQF.out _) | (go_at_call 25; exact HQE.out _) | (go_at_call 38; exact HQW.out _) | (go_at_call 39; exact HQD.out _))
            go_wp2
            go_roundg (gk - 1)
            case measure => omega
            case rel => exact ⟨i + 1, Bl, Bm, n, cutS s, C, _, recs, next, rfl, rfl, by go_num, by omega, by omega, ⟨X1.out.below (pw_below_drewN (Below.refl _ _) _), by have := BD.out; omega⟩⟩
          · have k2 : (x.f0 == 2) = false := beq_eq_false_iff_ne.2 h2
            by_cases h3 : x.f0 = 3
            · rw [h3] at x0
              clear k0 h0 h1 k1 h2 k2 h3
              have XB0 := Aside0.mk (heap_alloc_new wr (Obj.cells #[.int .i64 3, .int .i64 x.f1, .slice A2 x.f2.length c2] 48))
              obtain ⟨y0, y1, y2⟩ := facts3 XB0.out
              have LT : Aside0 ((a1 < wr.heap.size ∧ a2 < wr.heap.size) ∧ B0 < wr.heap.size ∧ B1 < wr.heap.size ∧ B2 < wr.heap.size) := ⟨⟨K.out.1.p.d.lt, K.out.1.p.r.lt⟩⟩
              have BX : Aside0 (Below wr.heap.size wr (wr.alloc (Obj.cells #[.int .i64 3, .int .i64 x.f1, .slice A2 x.f2.length c2] 48))) := ⟨below_alloc (Below.refl _ _) _⟩
              have X0 := Aside0.mk (K.out.1.below BX.out)
              have BD := Aside0.mk K.out.2
              clear K
              go_wp2_with fail
              refine (restart_dx X0.out.p.d).mono ?_
              rintro e wa0 ⟨rfl, hD, hf⟩
              have HD0 := Aside0.mk hD
              have HF0 := Aside0.mk hf
              have HK0 := Aside0.mk (X0.out.p.rkept hf)
              have XA0 := Aside0.mk ((hf.block wr.heap.size (Array.getElem?_eq_some_iff.1 XB0.out).1 (fun e => by have := LT.out; omega)).trans XB0.out)
              clear y0 y1 y2
              obtain ⟨y0, y1, y2⟩ := facts3 XA0.out
              clear hD hf
              go_wp2_with fail
              refine (rrestart HK0.out).mono ?_
              rintro e wb0 ⟨rfl, hR, hf2⟩
              have X1 := Aside0.mk (X0.out.both HD0.out HF0.out hR hf2 rfl X0.out.p.okc)
              have XB1 := Aside0.mk ((hf2.block wr.heap.size (Array.getElem?_eq_some_iff.1 XA0.out).1 (fun e => by have := LT.out; omega)).trans XA0.out)
              clear y0 y1 y2
              obtain ⟨y0, y1, y2⟩ := facts3 XB1.out
              clear hR hf2
              obtain ⟨nn', vvs, hrd⟩ := X1.out.p.r
              obtain ⟨j0, j1, j2, j3, j4, j5⟩ := facts6 hrd.b0
              obtain ⟨l0', l1', l2', l3'⟩ := facts4 X1.out.lr
              clear hrd
              obtain ⟨dn, hdn⟩ : ∃ dn, (restartS s).down = dn := ⟨_, rfl⟩
              obtain ⟨wn, hwn⟩ : ∃ wn, (restartS s).writes = wn := ⟨_, rfl⟩
              have QD := fun q => q_same (n := q) (down_dx (X1.out.p.d.below (pw_below_drewN (Below.refl _ _) q)))
              have QW := fun q => q_same (n := q) (writes_dx (X1.out.p.d.below (pw_below_drewN (Below.refl _ _) q)))
              have QN := fun q => q_same (n := q) (len_calls (X1.out.lx.below (pw_below_drewN (Below.refl _ _) q)))
              have QF := q_some (fun q => left_calls (X1.out.lx.below (pw_below_drewN (Below.refl _ _) q)) (X1.out.p.d.below (pw_below_drewN (Below.refl _ _) q)))
              have QE := q_some (fun q => left8 (X1.out.lr.below (pw_below_drewN (Below.refl _ _) q)) (X1.out.p.r.below (pw_below_drewN (Below.refl _ _) q)))
              rw [X1.out.p.room] at QF QE
              obtain ⟨lf, hlf⟩ : ∃ lf, wrap64 ((R : Int) - ((next : Nat) : Int)) = lf := ⟨_, rfl⟩
              rw [hlf] at QF QE
              rw [hdn] at QD j2
              rw [hwn] at QW j4
              have HQD := Aside0.mk QD
              have HQW := Aside0.mk QW
              have HQN := Aside0.mk QN
              have HQF := Aside0.mk QF
              have HQE := Aside0.mk QE
              clear QD QW QN QF QE hdn hwn hlf j0 j1 j3 j5 l0' l1' l3'
              go_wp2_with fail
              go_quiet (first | (go_at_call 23; exact HQN.out _) | (go_at_call 24; exact HQF.out _) | (go_at_call 25; exact HQE.out _) | (go_at_call 38; exact HQW.out _) | (go_at_call 39; exact HQD.out _))
              go_wp2
              go_roundg (gk - 1)
              case measure => omega
              case rel => exact ⟨i + 1, Bl, Bm, n, restartS s, C, _, recs, next, rfl, rfl, by go_num, by omega, by omega, ⟨X1.out.below (pw_below_drewN (Below.refl _ _) _), by have := BD.out; omega⟩⟩
            · have k3 : (x.f0 == 3) = false := beq_eq_false_iff_ne.2 h3
              by_cases h5 : x.f0 = 5
              · rw [h5] at x0
                clear k0 h0 h1 k1 h2 k2 h3 k3 h5
                have XB0 := Aside0.mk (heap_alloc_new wr (Obj.cells #[.int .i64 5, .int .i64 x.f1, .slice A2 x.f2.length c2] 48))
                obtain ⟨y0, y1, y2⟩ := facts3 XB0.out
                have LT : Aside0 ((a1 < wr.heap.size ∧ a2 < wr.heap.size) ∧ B0 < wr.heap.size ∧ B1 < wr.heap.size ∧ B2 < wr.heap.size) := ⟨⟨K.out.1.p.d.lt, K.out.1.p.r.lt⟩⟩
                have BX : Aside0 (Below wr.heap.size wr (wr.alloc (Obj.cells #[.int .i64 5, .int .i64 x.f1, .slice A2 x.f2.length c2] 48))) := ⟨below_alloc (Below.refl _ _) _⟩
                have X0 := Aside0.mk (K.out.1.below BX.out)
                have BD := Aside0.mk K.out.2
                clear K
                go_wp2_with fail
                refine (cut_dx X0.out.p.d).mono ?_
                rintro e wa0 ⟨rfl, hD, hf⟩
                have HD0 := Aside0.mk hD
                have HF0 := Aside0.mk hf
                have HK0 := Aside0.mk (X0.out.p.rkept hf)
                have XA0 := Aside0.mk ((hf.block wr.heap.size (Array.getElem?_eq_some_iff.1 XB0.out).1 (fun e => by have := LT.out; omega)).trans XB0.out)
                clear y0 y1 y2
                obtain ⟨y0, y1, y2⟩ := facts3 XA0.out
                clear hD hf
                go_wp2_with fail
                refine (rcut HK0.out).mono ?_
                rintro e wb0 ⟨rfl, hR, hf2⟩
                have X1 := Aside0.mk (X0.out.both HD0.out HF0.out hR hf2 rfl X0.out.p.okc)
                have XB1 := Aside0.mk ((hf2.block wr.heap.size (Array.getElem?_eq_some_iff.1 XA0.out).1 (fun e => by have := LT.out; omega)).trans XA0.out)
                clear y0 y1 y2
                obtain ⟨y0, y1, y2⟩ := facts3 XB1.out
                clear hR hf2
                go_wp2_with fail
                refine (restart_dx X1.out.p.d).mono ?_
                rintro e wa1 ⟨rfl, hD, hf⟩
                have HD1 := Aside0.mk hD
                have HF1 := Aside0.mk hf
                have HK1 := Aside0.mk (X1.out.p.rkept hf)
                have XA1 := Aside0.mk ((hf.block wr.heap.size (Array.getElem?_eq_some_iff.1 XB1.out).1 (fun e => by have := LT.out; omega)).trans XB1.out)
                clear y0 y1 y2
                obtain ⟨y0, y1, y2⟩ := facts3 XA1.out
                clear hD hf
                go_wp2_with fail
                refine (rrestart HK1.out).mono ?_
                rintro e wb1 ⟨rfl, hR, hf2⟩
                have X2 := Aside0.mk (X1.out.both HD1.out HF1.out hR hf2 rfl X1.out.p.okc)
                have XB2 := Aside0.mk ((hf2.block wr.heap.size (Array.getElem?_eq_some_iff.1 XA1.out).1 (fun e => by have := LT.out; omega)).trans XA1.out)
                clear y0 y1 y2
                obtain ⟨y0, y1, y2⟩ := facts3 XB2.out
                clear hR hf2
                have QO := Aside0.mk (open_ok (fun b => b ≠ a1 ∧ b ≠ a2) a1 a2 n R (restartS (cutS s)) C _ X2.out.p.d rfl X2.out.p.room hR64 X2.out.p.okc)
                go_wp2_with fail
                refine QO.out.mono ?_
                rintro e wc ⟨Bl', vo, ro, no, rfl, ho, hLx, hge, hR, hb⟩
                have HO := Aside0.mk ho
                have LX2 := Aside0.mk hLx
                have Y := Aside0.mk (X2.out.below hb)
                have GE := Aside0.mk (Nat.le_trans X2.out.p.fr.size hge)
                have RO := Aside0.mk hR
                obtain ⟨A6, c6, rfl⟩ := Kd.R_slice hR
                clear ho hLx hge hR hb QO
                have QO := Aside0.mk (open8_ok (fun b => b ≠ B0 ∧ b ≠ B1 ∧ b ≠ B2) B0 B1 B2 R (restartS (cutS s)) C _ Y.out.p.r rfl X2.out.p.room hR64 X2.out.p.okc)
                go_wp2_with fail
                refine QO.out.mono ?_
                rintro e wd ⟨Bm', vo, ro2, no2, rfl, ho, hLr, hge, hR, hb⟩
                rw [HO.out] at ho
                obtain ⟨rfl, rfl⟩ := Prod.mk.inj ho
                have hbd := opened_bd (C := C) (R := R) HO.out
                have Z : Aside0 (LgP w wd a1 a2 B0 B1 B2 n Bl' Bm' (restartS (cutS s)) C (restartS (cutS s)).life ro.length no R) := ⟨(Y.out.below hb).p, LX2.out.below hb, hLr, GE.out, Nat.le_trans Y.out.p.fr.size hge⟩
                have RO2 := Aside0.mk (Kd.R_below RO.out hb)
                have RP := Aside0.mk hR
                obtain ⟨A7, c7, rfl⟩ := Kd.R_slice hR
                have HBD := Aside0.mk hbd
                clear ho hLr hge hR hb QO Y hbd
                go_wp2_with fail
                refine (code_law none _ wd rfl (Z.out.p.laid HL.out)).mono ?_
                rintro e we ⟨rfl, hb⟩
                rw [show codeOf none = 0 from rfl]
                have Z2 := Aside0.mk (Z.out.below hb)
                have S2 := Aside0.mk (same_eq A6 A7 c6 c7 ro we (Kd.C_below (Kd.R_reads' RO2.out).2.2 hb) (Kd.C_below (Kd.R_reads' RP.out).2.2 hb) (Kd.R_reads' RO2.out).2.1 (Kd.R_reads' RP.out).2.1 (by have := HBD.out; omega))
                clear hb Z
                go_wp2_with fail
                refine S2.out.mono ?_
                rintro e wf ⟨rfl, hb⟩
                have Z3 := Aside0.mk (Z2.out.below hb)
                clear hb Z2 S2 RO2 RP RO
                obtain ⟨nn', vvs, hrd⟩ := Z3.out.p.r
                obtain ⟨j0, j1, j2, j3, j4, j5⟩ := facts6 hrd.b0
                obtain ⟨l0', l1', l2', l3'⟩ := facts4 Z3.out.lr
                clear hrd
                obtain ⟨dn, hdn⟩ : ∃ dn, (restartS (cutS s)).down = dn := ⟨_, rfl⟩
                obtain ⟨wn, hwn⟩ : ∃ wn, (restartS (cutS s)).writes = wn := ⟨_, rfl⟩
                have QD := fun q => q_same (n := q) (down_dx (Z3.out.p.d.below (pw_below_drewN (Below.refl _ _) q)))
                have QW := fun q => q_same (n := q) (writes_dx (Z3.out.p.d.below (pw_below_drewN (Below.refl _ _) q)))
                have QN := fun q => q_same (n := q) (len_calls (Z3.out.lx.below (pw_below_drewN (Below.refl _ _) q)))
                have QF := q_some (fun q => left_calls (Z3.out.lx.below (pw_below_drewN (Below.refl _ _) q)) (Z3.out.p.d.below (pw_below_drewN (Below.refl _ _) q)))
                have QE := q_some (fun q => left8 (Z3.out.lr.below (pw_below_drewN (Below.refl _ _) q)) (Z3.out.p.r.below (pw_below_drewN (Below.refl _ _) q)))
                rw [Z3.out.p.room] at QF QE
                obtain ⟨lf, hlf⟩ : ∃ lf, wrap64 ((R : Int) - ((no : Nat) : Int)) = lf := ⟨_, rfl⟩
                rw [hlf] at QF QE
                rw [hdn] at QD j2
                rw [hwn] at QW j4
                have HQD := Aside0.mk QD
                have HQW := Aside0.mk QW
                have HQN := Aside0.mk QN
                have HQF := Aside0.mk QF
                have HQE := Aside0.mk QE
                clear QD QW QN QF QE hdn hwn hlf j0 j1 j3 j5 l0' l1' l3'
                go_wp2_with fail
                go_quiet (first | (go_at_call 23; exact HQN.out _) | (go_at_call 24; exact HQF.out _) | (go_at_call 25; exact HQE.out _) | (go_at_call 38; exact HQW.out _) | (go_at_call 39; exact HQD.out _))
                go_wp2
                go_roundg (gk - 1)
                case measure => omega
                case rel => exact ⟨i + 1, Bl', Bm', n, restartS (cutS s), C, _, ro.length, no, rfl, rfl, by go_num, by omega, by omega, ⟨Z3.out.below (pw_below_drewN (Below.refl _ _) _), by have := HBD.out; have := BD.out; omega⟩⟩
              · have k5 : (x.f0 == 5) = false := beq_eq_false_iff_ne.2 h5
                by_cases h4 : 4 ≤ x.f0
                · have k4 : decide (4 ≤ x.f0) = true := decide_eq_true h4
                  clear h0 h1 h2 h3 h5
                  have XB0 := Aside0.mk (heap_alloc_new wr (Obj.cells #[.int .i64 x.f0, .int .i64 x.f1, .slice A2 x.f2.length c2] 48))
                  obtain ⟨y0, y1, y2⟩ := facts3 XB0.out
                  have LT : Aside0 ((a1 < wr.heap.size ∧ a2 < wr.heap.size) ∧ B0 < wr.heap.size ∧ B1 < wr.heap.size ∧ B2 < wr.heap.size) := ⟨⟨K.out.1.p.d.lt, K.out.1.p.r.lt⟩⟩
                  have BX : Aside0 (Below wr.heap.size wr (wr.alloc (Obj.cells #[.int .i64 x.f0, .int .i64 x.f1, .slice A2 x.f2.length c2] 48))) := ⟨below_alloc (Below.refl _ _) _⟩
                  have X0 := Aside0.mk (K.out.1.below BX.out)
                  have BD := Aside0.mk K.out.2
                  clear K
                  cases hdn : s.down with
                  | false =>
                    have HDN := Aside0.mk hdn
                    clear hdn
                    have QO := Aside0.mk (open_ok (fun b => b ≠ a1 ∧ b ≠ a2) a1 a2 n R (s) C _ X0.out.p.d HDN.out X0.out.p.room hR64 X0.out.p.okc)
                    go_wp2_with fail
                    refine QO.out.mono ?_
                    rintro e wc ⟨Bl', vo, ro, no, rfl, ho, hLx, hge, hR, hb⟩
                    have HO := Aside0.mk ho
                    have LX2 := Aside0.mk hLx
                    have Y := Aside0.mk (X0.out.below hb)
                    have GE := Aside0.mk (Nat.le_trans X0.out.p.fr.size hge)
                    have RO := Aside0.mk hR
                    obtain ⟨A6, c6, rfl⟩ := Kd.R_slice hR
                    clear ho hLx hge hR hb QO
                    have QO := Aside0.mk (open8_ok (fun b => b ≠ B0 ∧ b ≠ B1 ∧ b ≠ B2) B0 B1 B2 R (s) C _ Y.out.p.r HDN.out X0.out.p.room hR64 X0.out.p.okc)
                    go_wp2_with fail
                    refine QO.out.mono ?_
                    rintro e wd ⟨Bm', vo, ro2, no2, rfl, ho, hLr, hge, hR, hb⟩
                    rw [HO.out] at ho
                    obtain ⟨rfl, rfl⟩ := Prod.mk.inj ho
                    have hbd := opened_bd (C := C) (R := R) HO.out
                    have Z : Aside0 (LgP w wd a1 a2 B0 B1 B2 n Bl' Bm' (s) C (s).life ro.length no R) := ⟨(Y.out.below hb).p, LX2.out.below hb, hLr, GE.out, Nat.le_trans Y.out.p.fr.size hge⟩
                    have RO2 := Aside0.mk (Kd.R_below RO.out hb)
                    have RP := Aside0.mk hR
                    obtain ⟨A7, c7, rfl⟩ := Kd.R_slice hR
                    have HBD := Aside0.mk hbd
                    clear ho hLr hge hR hb QO Y hbd
                    go_wp2_with fail
                    refine (code_law none _ wd rfl (Z.out.p.laid HL.out)).mono ?_
                    rintro e we ⟨rfl, hb⟩
                    rw [show codeOf none = 0 from rfl]
                    have Z2 := Aside0.mk (Z.out.below hb)
                    have S2 := Aside0.mk (same_eq A6 A7 c6 c7 ro we (Kd.C_below (Kd.R_reads' RO2.out).2.2 hb) (Kd.C_below (Kd.R_reads' RP.out).2.2 hb) (Kd.R_reads' RO2.out).2.1 (Kd.R_reads' RP.out).2.1 (by have := HBD.out; omega))
                    clear hb Z
                    go_wp2_with fail
                    refine S2.out.mono ?_
                    rintro e wf ⟨rfl, hb⟩
                    have Z3 := Aside0.mk (Z2.out.below hb)
                    clear hb Z2 S2 RO2 RP RO
                    obtain ⟨nn', vvs, hrd⟩ := Z3.out.p.r
                    obtain ⟨j0, j1, j2, j3, j4, j5⟩ := facts6 hrd.b0
                    obtain ⟨l0', l1', l2', l3'⟩ := facts4 Z3.out.lr
                    clear hrd
                    obtain ⟨dn, hdn⟩ : ∃ dn, (s).down = dn := ⟨_, rfl⟩
                    obtain ⟨wn, hwn⟩ : ∃ wn, (s).writes = wn := ⟨_, rfl⟩
                    have QD := fun q => q_same (n := q) (down_dx (Z3.out.p.d.below (pw_below_drewN (Below.refl _ _) q)))
                    have QW := fun q => q_same (n := q) (writes_dx (Z3.out.p.d.below (pw_below_drewN (Below.refl _ _) q)))
                    have QN := fun q => q_same (n := q) (len_calls (Z3.out.lx.below (pw_below_drewN (Below.refl _ _) q)))
                    have QF := q_some (fun q => left_calls (Z3.out.lx.below (pw_below_drewN (Below.refl _ _) q)) (Z3.out.p.d.below (pw_below_drewN (Below.refl _ _) q)))
                    have QE := q_some (fun q => left8 (Z3.out.lr.below (pw_below_drewN (Below.refl _ _) q)) (Z3.out.p.r.below (pw_below_drewN (Below.refl _ _) q)))
                    rw [Z3.out.p.room] at QF QE
                    obtain ⟨lf, hlf⟩ : ∃ lf, wrap64 ((R : Int) - ((no : Nat) : Int)) = lf := ⟨_, rfl⟩
                    rw [hlf] at QF QE
                    rw [hdn] at QD j2
                    rw [hwn] at QW j4
                    have HQD := Aside0.mk QD
                    have HQW := Aside0.mk QW
                    have HQN := Aside0.mk QN
                    have HQF := Aside0.mk QF
                    have HQE := Aside0.mk QE
                    clear QD QW QN QF QE hdn hwn hlf j0 j1 j3 j5 l0' l1' l3'
                    go_wp2_with fail
                    go_quiet (first | (go_at_call 23; exact HQN.out _) | (go_at_call 24; exact HQF.out _) | (go_at_call 25; exact HQE.out _) | (go_at_call 38; exact HQW.out _) | (go_at_call 39; exact HQD.out _))
                    go_wp2
                    go_roundg (gk - 1)
                    case measure => omega
                    case rel => exact ⟨i + 1, Bl', Bm', n, s, C, _, ro.length, no, rfl, rfl, by go_num, by omega, by omega, ⟨Z3.out.below (pw_below_drewN (Below.refl _ _) _), by have := HBD.out; have := BD.out; omega⟩⟩
                  | true =>
                    have HDN := Aside0.mk hdn
                    clear hdn
                    have QO := Aside0.mk (open_down (fun b => b ≠ a1 ∧ b ≠ a2) a1 a2 n s C _ X0.out.p.d HDN.out)
                    go_wp2_with fail
                    refine QO.out.mono ?_
                    rintro e wc ⟨v4, rfl, hE, hb⟩
                    have Y := Aside0.mk (X0.out.below hb)
                    have E4 := Aside0.mk hE
                    clear hE hb QO
                    go_wp2_with fail
                    refine (open8_down (fun b => b ≠ B0 ∧ b ≠ B1 ∧ b ≠ B2) B0 B1 B2 s C wc Y.out.p.r HDN.out).mono ?_
                    rintro e wd ⟨rfl, hb⟩
                    have Z := Aside0.mk (Y.out.below hb)
                    have E5 := Aside0.mk (IsErr.below hb (Nat.le_refl _) E4.out)
                    clear hb Y E4
                    go_wp2_with fail
                    refine (code_law (some (.fault logS 0 (.num 70))) _ wd E5.out (Z.out.p.laid HL.out)).mono ?_
                    rintro e we ⟨rfl, hb⟩
                    rw [show codeOf (some (Er.fault logS 0 (Er.num 70))) = 70 from rfl]
                    have Z2 := Aside0.mk (Z.out.below hb)
                    clear hb Z
                    go_wp2_with fail
                    refine (same_eq none none 0 0 [] we (C_none _) (C_none _) (Nat.le_refl _) (Nat.le_refl _) (by decide)).mono ?_
                    rintro e wf ⟨rfl, hb⟩
                    have Z3 := Aside0.mk (Z2.out.below hb)
                    clear hb Z2 E5
                    obtain ⟨nn', vvs, hrd⟩ := Z3.out.p.r
                    obtain ⟨j0, j1, j2, j3, j4, j5⟩ := facts6 hrd.b0
                    obtain ⟨l0', l1', l2', l3'⟩ := facts4 Z3.out.lr
                    clear hrd
                    obtain ⟨dn, hdn⟩ : ∃ dn, (s).down = dn := ⟨_, rfl⟩
                    obtain ⟨wn, hwn⟩ : ∃ wn, (s).writes = wn := ⟨_, rfl⟩
                    have QD := fun q => q_same (n := q) (down_dx (Z3.out.p.d.below (pw_below_drewN (Below.refl _ _) q)))
                    have QW := fun q => q_same (n := q) (writes_dx (Z3.out.p.d.below (pw_below_drewN (Below.refl _ _) q)))
                    have QN := fun q => q_same (n := q) (len_calls (Z3.out.lx.below (pw_below_drewN (Below.refl _ _) q)))
                    have QF := q_some (fun q => left_calls (Z3.out.lx.below (pw_below_drewN (Below.refl _ _) q)) (Z3.out.p.d.below (pw_below_drewN (Below.refl _ _) q)))
                    have QE := q_some (fun q => left8 (Z3.out.lr.below (pw_below_drewN (Below.refl _ _) q)) (Z3.out.p.r.below (pw_below_drewN (Below.refl _ _) q)))
                    rw [Z3.out.p.room] at QF QE
                    obtain ⟨lf, hlf⟩ : ∃ lf, wrap64 ((R : Int) - ((next : Nat) : Int)) = lf := ⟨_, rfl⟩
                    rw [hlf] at QF QE
                    rw [hdn] at QD j2
                    rw [hwn] at QW j4
                    have HQD := Aside0.mk QD
                    have HQW := Aside0.mk QW
                    have HQN := Aside0.mk QN
                    have HQF := Aside0.mk QF
                    have HQE := Aside0.mk QE
                    clear QD QW QN QF QE hdn hwn hlf j0 j1 j3 j5 l0' l1' l3'
                    go_wp2_with fail
                    go_quiet (first | (go_at_call 23; exact HQN.out _) | (go_at_call 24; exact HQF.out _) | (go_at_call 25; exact HQE.out _) | (go_at_call 38; exact HQW.out _) | (go_at_call 39; exact HQD.out _))
                    go_wp2
                    go_roundg (gk - 1)
                    case measure => omega
                    case rel => exact ⟨i + 1, Bl, Bm, n, s, C, _, recs, next, rfl, rfl, by go_num, by omega, by omega, ⟨Z3.out.below (pw_below_drewN (Below.refl _ _) _), by have := BD.out; omega⟩⟩
                · have k4 : decide (4 ≤ x.f0) = false := decide_eq_false h4
                  clear h0 h1 h2 h3 h5
                  have XB0 := Aside0.mk (heap_alloc_new wr (Obj.cells #[.int .i64 x.f0, .int .i64 x.f1, .slice A2 x.f2.length c2] 48))
                  obtain ⟨y0, y1, y2⟩ := facts3 XB0.out
                  have LT : Aside0 ((a1 < wr.heap.size ∧ a2 < wr.heap.size) ∧ B0 < wr.heap.size ∧ B1 < wr.heap.size ∧ B2 < wr.heap.size) := ⟨⟨K.out.1.p.d.lt, K.out.1.p.r.lt⟩⟩
                  have BX : Aside0 (Below wr.heap.size wr (wr.alloc (Obj.cells #[.int .i64 x.f0, .int .i64 x.f1, .slice A2 x.f2.length c2] 48))) := ⟨below_alloc (Below.refl _ _) _⟩
                  have X0 := Aside0.mk (K.out.1.below BX.out)
                  have BD := Aside0.mk K.out.2
                  clear K
                  obtain ⟨nn', vvs, hrd⟩ := X0.out.p.r
                  obtain ⟨j0, j1, j2, j3, j4, j5⟩ := facts6 hrd.b0
                  obtain ⟨l0', l1', l2', l3'⟩ := facts4 X0.out.lr
                  clear hrd
                  obtain ⟨dn, hdn⟩ : ∃ dn, (s).down = dn := ⟨_, rfl⟩
                  obtain ⟨wn, hwn⟩ : ∃ wn, (s).writes = wn := ⟨_, rfl⟩
                  have QD := fun q => q_same (n := q) (down_dx (X0.out.p.d.below (pw_below_drewN (Below.refl _ _) q)))
                  have QW := fun q => q_same (n := q) (writes_dx (X0.out.p.d.below (pw_below_drewN (Below.refl _ _) q)))
                  have QN := fun q => q_same (n := q) (len_calls (X0.out.lx.below (pw_below_drewN (Below.refl _ _) q)))
                  have QF := q_some (fun q => left_calls (X0.out.lx.below (pw_below_drewN (Below.refl _ _) q)) (X0.out.p.d.below (pw_below_drewN (Below.refl _ _) q)))
                  have QE := q_some (fun q => left8 (X0.out.lr.below (pw_below_drewN (Below.refl _ _) q)) (X0.out.p.r.below (pw_below_drewN (Below.refl _ _) q)))
                  rw [X0.out.p.room] at QF QE
                  obtain ⟨lf, hlf⟩ : ∃ lf, wrap64 ((R : Int) - ((next : Nat) : Int)) = lf := ⟨_, rfl⟩
                  rw [hlf] at QF QE
                  rw [hdn] at QD j2
                  rw [hwn] at QW j4
                  have HQD := Aside0.mk QD
                  have HQW := Aside0.mk QW
                  have HQN := Aside0.mk QN
                  have HQF := Aside0.mk QF
                  have HQE := Aside0.mk QE
                  clear QD QW QN QF QE hdn hwn hlf j0 j1 j3 j5 l0' l1' l3'
                  go_wp2_with fail
                  go_quiet (first | (go_at_call 23; exact HQN.out _) | (go_at_call 24; exact HQF.out _) | (go_at_call 25; exact HQE.out _) | (go_at_call 38; exact HQW.out _) | (go_at_call 39; exact HQD.out _))
                  go_wp2
                  go_roundg (gk - 1)
                  case measure => omega
                  case rel => exact ⟨i + 1, Bl, Bm, n, s, C, _, recs, next, rfl, rfl, by go_num, by omega, by omega, ⟨X0.out.below (pw_below_drewN (Below.refl _ _) _), by have := BD.out; omega⟩⟩
    · have q : (i < l0.length ∧ decide ((i : Int) < (l0.length : Int)) = true ∧ decide ((i : Int) < 60) = false) ∨ (¬ i < l0.length ∧ decide ((i : Int) < (l0.length : Int)) = false) := by
        by_cases h1 : i < l0.length
        · exact Or.inl ⟨h1, decide_eq_true (by omega), decide_eq_false (by omega)⟩
        · exact Or.inr ⟨h1, decide_eq_false (by omega)⟩
      have KP := Aside0.mk K.out.1.p
      clear K
      rcases q with ⟨h1, q1, q2⟩ | ⟨h1, q1⟩
      all_goals
        go_wp2_with fail
        refine (restart_dx KP.out.d).mono ?_
        rintro e w5 ⟨rfl, hD, hf⟩
        have E0 : Aside0 (EndI w w5 a1 a2 B0 B1 B2 n s C) := ⟨⟨KP.out.fr.trans (hf.mono (fun b hb => by rcases hb with rfl | rfl; exact KP.out.ne.2.1; exact KP.out.ne.2.2.1)), hD, KP.out.rkept hf⟩⟩
        have HRM := Aside0.mk KP.out.room
        have HOC := Aside0.mk KP.out.okc
        clear hD hf KP
        go_wp2
        go_loopg [23] (R + 1) (fun kq v23 wr => ∃ (jj : Nat), v23 = .int .i64 (jj : Int) ∧ jj ≤ R ∧ R - jj ≤ kq ∧ Aside0 (EndI w wr a1 a2 B0 B1 B2 n s C))
        case atStart => exact ⟨0, rfl, by omega, by omega, E0⟩
        case round =>
          obtain ⟨j, rfl, hj, hk2, K⟩ := hrel
          clear E0
          by_cases hlt2 : j < R
          · have q3 : decide ((j : Int) < (R : Int)) = true := decide_eq_true (by omega)
            have Q1 := Aside0.mk (end_read K.out HRM.out HOC.out hR64 j hlt2)
            obtain ⟨ys, hys⟩ : ∃ ys, (C (j : Int)).getD [] = ys := ⟨_, rfl⟩
            obtain ⟨bb, hbb⟩ : ∃ bb, (C (j : Int)).isSome = bb := ⟨_, rfl⟩
            rw [hys, hbb] at Q1
            clear hys hbb
            go_wp2_with fail
            refine Q1.out.mono ?_
            rintro e w6 ⟨A6, c6, A7, c7, rfl, hC6, j0, j1, m1, m2, hC7, hE⟩
            have K6 := Aside0.mk hE
            have hv0 := fun n => Kd.C_string (P := Tryd.prog) (c := c6) Tryd.underlying30 Tryd.underlying5 Tryd.underlying9 (show (Kd.int .u8).C (w6.drewN n) A6 _ _ from hC6)
            have hv1 := fun n => Kd.C_string (P := Tryd.prog) (c := c7) Tryd.underlying30 Tryd.underlying5 Tryd.underlying9 (show (Kd.int .u8).C (w6.drewN n) A7 _ _ from hC7)
            obtain ⟨sy, hsy⟩ : ∃ sy, strOfNums ys = sy := ⟨_, rfl⟩
            rw [hsy] at hv0 hv1
            have p0 : (0 : Int) ≤ (j : Int) := by omega
            have p1 : (j : Int) < (R : Int) := by omega
            have b1 : (bb != bb) = false := by cases bb <;> rfl
            clear hsy hC6 hC7 hE Q1 K
            go_wp2_with fail
            go_quiet (fail)
            go_wp2
            go_roundg (gk - 1)
            case measure => omega
            case rel => exact ⟨j + 1, by go_num, by omega, by omega, ⟨K6.out.below (pw_below_drewN (Below.refl _ _) _)⟩⟩
          · obtain rfl : j = R := by omega
            have q3 : decide ((j : Int) < (j : Int)) = false := decide_eq_false (by omega)
            go_wp2_with fail
            refine (told_law wr (laid_fr HL.out K.out.fr (fun h0 => by have := HL.out.lt; omega))).mono ?_
            rintro e w10 ⟨rfl, hb⟩
            have K6 := Aside0.mk (K.out.below hb)
            clear hb
            go_wp2
            go_ret
            exact ⟨rfl, K6.out.fr.below (Nat.le_refl _) (fun _ h => h)⟩
end Plays
open Classical in
noncomputable def tributarylaw8_LogPlays.f (a0 : Int) (l1 : List Plays.ActT) : Option Bool := if Plays.okAll l1 then some true else none
theorem tributarylaw8_LogPlays.calls (a0 : Int) (A1 : Option Addr) (c1 : Nat) (l1 : List Plays.ActT) (r : Bool) (w : World) (hr1 : Kd.C k48 w A1 l1.length l1) (hc1 : l1.length ≤ c1) (hL : Laid w) (h : tributarylaw8_LogPlays.f a0 l1 = some r) :
    Calls Tryd.prog 7 #[.int .i64 a0, .slice A1 l1.length c1] w fun e w' => e = .returned (.bool r) ∧ Below w.heap.size w w' := by
  unfold tributarylaw8_LogPlays.f at h
  by_cases hk : Plays.okAll l1
  · rw [if_pos hk] at h
    obtain rfl := Option.some.inj h
    exact Plays.logPlays_law a0 A1 c1 l1 w hr1 hc1 hL hk
  · rw [if_neg hk] at h; cases h
end Go.Proofs.YtlhjjjpldmekdaaDoor.PLg
