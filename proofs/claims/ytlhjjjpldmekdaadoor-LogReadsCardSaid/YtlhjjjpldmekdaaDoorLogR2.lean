/- Proved: the contracts of the document's own log (Dead, Left, Open, Append), in the words of the program's; condition: bytes, numbers that fit. -/
import Derived.Test.YtlhjjjpldmekdaaDoorLogR
import Derived.Deep.RegionHeld3
import Derived.Deep.QuietTactic
import Derived.BigQuiet
namespace Go.Proofs.YtlhjjjpldmekdaaDoor.PDsk.K
open Go.RowKit Go.Proofs.YtlhjjjpldmekdaaDoorW.PrintWords Go.Proofs.YtlhjjjpldmekdaaDoorW.PrintLast Go.Proofs.YtlhjjjpldmekdaaDoorW.PrintMore Go.Proofs.YtlhjjjpldmekdaaDoor.Err Go.Maps Go.Proofs.YtlhjjjpldmekdaaDoor.PLog
open Go.Proofs.YtlhjjjpldmekdaaDoor.PFn (tributaryref8_Blocks.calls tributaryref8_Block.calls ref8_Blocks_f ref8_Block_f)
attribute [local go_sem] max2_int min2_int max_two min_two max_three min_three max_four min_four
set_option linter.unusedVariables false
set_option linter.unusedSimpArgs false

/-- The document's log: its cells. -/
def Lr (w : World) (Bl B0 : Nat) (next recs life : Int) : Prop := w.heap[Bl]? = some (.cells #[.pointer (some ⟨B0, 0, none⟩), .int .i64 next, .int .i64 recs, .int .i64 life] 42 (0, 0))
section
variable {w w' : World} {Bl B0 B1 B2 n : Nat} {life recs next : Int} {F : Nat → Prop} {s : Dk} {C : CT}
theorem Lr.lt (h : Lr w Bl B0 next recs life) : Bl < w.heap.size := (Array.getElem?_eq_some_iff.1 h).1
theorem Lr.kept {S : Nat → Prop} (h : Lr w Bl B0 next recs life) (hf : Fr S w w') (hS : ¬ S Bl) : Lr w' Bl B0 next recs life := (hf.block Bl h.lt hS).trans h
theorem Lr.below (h : Lr w Bl B0 next recs life) (hb : Below w.heap.size w w') : Lr w' Bl B0 next recs life := (hb.block Bl h.lt).trans h
theorem Lr.noB (h : Lr w Bl B0 next recs life) : NoB w Bl := noB_cells h (by decide) (fun o x e => by rcases o with _ | _ | _ | _ | o <;> simp at e)
theorem Lr.set_next (h : Lr w Bl B0 next recs life) (x : Int) : Lr (w.setCell ⟨Bl, 1, none⟩ (.int .i64 x)) Bl B0 x recs life := by
  unfold Lr at h ⊢; rw [Go.heap_setCell_same _ _ _ _ _ _ h]; simp [Array.setIfInBounds]
theorem Lr.set_recs (h : Lr w Bl B0 next recs life) (x : Int) : Lr (w.setCell ⟨Bl, 2, none⟩ (.int .i64 x)) Bl B0 next x life := by
  unfold Lr at h ⊢; rw [Go.heap_setCell_same _ _ _ _ _ _ h]; simp [Array.setIfInBounds]
/-- Which blocks the document's disk has. -/
def RB (B0 B1 B2 : Nat) : Nat → Prop := fun b => b = B0 ∨ b = B1 ∨ b = B2
theorem RD.noLr (h : RD w F B0 B1 B2 s C) : ∀ b, RB B0 B1 B2 b → ∀ cs q, w.heap[b]? = some (.cells cs q (0, 0)) → q = 60 ∨ q = 30 ∨ q = 4 := by
  obtain ⟨n, vs, h⟩ := h
  rintro b (rfl | rfl | rfl) cs q e
  · rw [h.b0] at e; injection e with e; injection e with _ e; exact Or.inl e.symm
  · rw [h.b1] at e; injection e with e; injection e with _ e; exact Or.inr (Or.inl e.symm)
  · rw [h.b2] at e; injection e with e; injection e with _ e; exact Or.inr (Or.inr e.symm)
theorem Lr.apart (h : Lr w Bl B0 next recs life) {b0 : Nat} (hr : RD w F b0 B1 B2 s C) : ¬ RB b0 B1 B2 Bl := fun hb => by
  rcases hr.noLr Bl hb _ _ h with e | e | e
  · exact absurd e (by decide)
  · exact absurd e (by decide)
  · exact absurd e (by decide)
set_option maxHeartbeats 8000000 in
theorem dead8 (h : Lr w Bl B0 next recs life) (hr : RD w F B0 B1 B2 s C) : Calls Tryd.prog 82 #[.pointer (some ⟨Bl, 0, none⟩)] w fun e w' => e = .returned (.bool (goneB s life)) ∧ Below w.heap.size w w' := by
  obtain ⟨k0, k1, k2, k3⟩ := facts4 h
  obtain ⟨nn, vs, hr⟩ := hr
  obtain ⟨j0, j1, j2, j3, j4, j5⟩ := facts6 hr.b0
  clear h hr
  unfold goneB
  cases hdn : s.down with
  | true =>
    rw [hdn] at j2
    simp only [Bool.true_or]
    go_enter Tryd.func82, Tryd.ntmps82
    go_wp2_with fail
    go_quiet (fail)
    go_wp2
    go_ret
    exact ⟨rfl, pw_below_drewN (Below.refl _ _) _⟩
  | false =>
    rw [hdn] at j2
    simp only [Bool.false_or]
    go_enter Tryd.func82, Tryd.ntmps82
    go_wp2_with fail
    go_quiet (fail)
    go_wp2
    go_ret
    exact ⟨rfl, pw_below_drewN (Below.refl _ _) _⟩
set_option maxHeartbeats 8000000 in
theorem left8 (h : Lr w Bl B0 next recs life) (hr : RD w F B0 B1 B2 s C) : Calls Tryd.prog 25 #[.pointer (some ⟨Bl, 0, none⟩)] w fun e w' => e = .returned (.int .i64 (wrap64 (s.room - next))) ∧ ∃ m, w' = w.drewN m := by
  obtain ⟨k0, k1, k2, k3⟩ := facts4 h
  obtain ⟨nn, vs, hr⟩ := hr
  have hroom := hr.room
  have hpos := hr.pos
  obtain ⟨j0, j1, j2, j3, j4, j5⟩ := facts6 hr.b0
  rw [hroom]
  clear h hr hroom
  go_enter Tryd.func25, Tryd.ntmps25
  go_wp2_with fail
  go_quiet (fail)
  go_wp2
  go_ret
  exact ⟨rfl, _, rfl⟩
end
/-- Open's state at a round's head. -/
structure OpR (w wr : World) (Bl B0 : Nat) (life : Int) (vout vrec : Value) (out : List (List Int)) (row : List Int) (next : Int) : Prop where
  below : Below w.heap.size w wr
  lx : Lr wr Bl B0 next (out.length : Nat) life
  ge : w.heap.size ≤ Bl
  out : Rs wr w.heap.size (fun k => some k ≠ vrec.ownBlock) vout out
  row : (Kd.int .u8).R 5 wr w.heap.size (fun _ => True) vrec row
section
variable {w wr wr' : World} {Bl B0 : Nat} {life next : Int} {vout vrec : Value} {out : List (List Int)} {row : List Int}
theorem OpR.step (h : OpR w wr Bl B0 life vout vrec out row next) (hb : Below wr.heap.size wr wr') : OpR w wr' Bl B0 life vout vrec out row next :=
  ⟨h.below.trans (hb.mono h.below.size), h.lx.below hb, h.ge, Kd.R_below h.out hb, Kd.R_below h.row hb⟩
theorem OpR.recApp {v1 : Value} {data : List Int} (h : OpR w wr Bl B0 life vout vrec out row next) (ho : (Kd.int .u8).R 5 wr' w.heap.size (fun _ => True) v1 (row ++ data)) (hb : Below w.heap.size w wr') (hg : wr.grownBy wr' vrec.ownBlock) (hat : v1.ownBlock = vrec.ownBlock ∨ ∃ b, v1.ownBlock = some b ∧ wr.heap.size ≤ b) : OpR w wr' Bl B0 life vout v1 out (row ++ data) next := by
  obtain ⟨inner, hown⟩ := Kd.R_own h.row
  refine ⟨hb, (hg.block Bl h.lx.lt (own_ne hown h.lx (show 5 ≠ 42 from by decide))).trans h.lx, h.ge, ?_, ho⟩
  have h2 := Kd.R_move (w1 := wr') (Kd.R_bound h.out) (fun k hk => hg.block k hk.2.2.1 hk.1)
  refine Kd.R_mono h2 (fun k hk => ?_)
  rcases hat with hat | ⟨b, hb1, hb2⟩
  · rw [hat]; exact hk.1
  · rw [hb1]; intro e; injection e with e; have := hk.2.2.1; omega
/-- A record is laid behind the others; the two cells are set. -/
theorem OpR.outApp {v1 : Value} (h : OpR w wr Bl B0 life vout vrec out row next) (ho : Rs wr' w.heap.size (fun _ => True) v1 (out ++ [row])) (hb : Below w.heap.size w wr') (hg : wr.grownBy wr' vout.ownBlock) : Lr wr' Bl B0 next (out.length : Nat) life ∧ ∀ x : Int, OpR w ((wr'.setCell ⟨Bl, 2, none⟩ (.int .i64 ((out.length : Int) + 1))).setCell ⟨Bl, 1, none⟩ (.int .i64 x)) Bl B0 life v1 (.slice none 0 0) (out ++ [row]) [] x := by
  obtain ⟨inner, hown⟩ := Kd.R_own h.out
  have hl : Lr wr' Bl B0 next (out.length : Nat) life := (hg.block Bl h.lx.lt (own_ne hown h.lx (show 30 ≠ 42 from by decide))).trans h.lx
  refine ⟨hl, fun x => ?_⟩
  have hl2 := (hl.set_recs ((out.length : Int) + 1)).set_next x
  have hr1 : Rs (wr'.setCell ⟨Bl, 2, none⟩ (.int .i64 ((out.length : Int) + 1))) w.heap.size (fun _ => True) v1 (out ++ [row]) := Kd.R_set ho hl (by decide) _ _
  have hr2 : Rs ((wr'.setCell ⟨Bl, 2, none⟩ (.int .i64 ((out.length : Int) + 1))).setCell ⟨Bl, 1, none⟩ (.int .i64 x)) w.heap.size (fun _ => True) v1 (out ++ [row]) := Kd.R_set hr1 (hl.set_recs _) (by decide) _ _
  exact ⟨(hb.setCell (p := ⟨Bl, 2, none⟩) h.ge _).setCell (p := ⟨Bl, 1, none⟩) h.ge _, by rw [show ((out ++ [row]).length : Int) = (out.length : Int) + 1 from by simp]; exact hl2, h.ge, Kd.R_mono hr2 (fun k _ => by simp [Value.ownBlock]), Kd.R_nil _ _ _ _ _⟩
theorem OpR.recM (h : OpR w wr Bl B0 life vout vrec out row next) : KR.M wr w.heap.size (fun k => some k ≠ vout.ownBlock) row [vrec] := row_M h.row h.out
end
/-- What Open leaves. -/
def Open8P (w : World) (B0 : Nat) (life : Int) (C : CT) (room : Nat) (e : Ending) (w' : World) : Prop :=
  ∃ (Bl : Nat) (vout : Value) (out : List (List Int)) (next : Nat), e = .returned (.tuple #[.pointer (some ⟨Bl, 0, none⟩), vout, .int .i64 0]) ∧ opened C room = (out, next) ∧ Lr w' Bl B0 (next : Int) out.length life ∧ w.heap.size ≤ Bl ∧ Rs w' w.heap.size (fun _ => True) vout out ∧ Below w.heap.size w w'
set_option maxHeartbeats 8000000 in
theorem open8_down (F : Nat → Prop) (B0 B1 B2 : Nat) (s : Dk) (C : CT) (w : World) (hd : RD w F B0 B1 B2 s C) (hdn : s.down = true) :
    Calls Tryd.prog 21 #[.pointer (some ⟨B0, 0, none⟩)] w fun e w' => e = .returned (.tuple #[.pointer none, .slice none 0 0, .int .i64 70]) ∧ Below w.heap.size w w' := by
  obtain ⟨nn, vs, hr⟩ := hd
  obtain ⟨j0, j1, j2, j3, j4, j5⟩ := facts6 hr.b0
  rw [hdn] at j2
  clear hr
  go_enter Tryd.func21, Tryd.ntmps21
  go_wp2
  go_ret3
  exact ⟨rfl, Below.refl _ _⟩
set_option maxHeartbeats 16000000 in
set_option maxRecDepth 100000 in
theorem open8_ok (F : Nat → Prop) (B0 B1 B2 R : Nat) (s : Dk) (C : CT) (w : World) (hd : RD w F B0 B1 B2 s C) (hdn : s.down = false) (hR : s.room = (R : Int)) (hR1 : R ≤ 65536) (hC : okC C) :
    Calls Tryd.prog 21 #[.pointer (some ⟨B0, 0, none⟩)] w (Open8P w B0 s.life C R) := by
  have HD := Aside0.mk hd
  have HC := Aside0.mk hC
  obtain ⟨nn, vs, hr⟩ := hd
  obtain rfl : nn = R := by have := hr.room; omega
  obtain ⟨j0, j1, j2, j3, j4, j5⟩ := facts6 hr.b0
  have HRX := Aside0.mk hr
  rw [hdn] at j2
  clear hC hR hdn hr
  go_enter Tryd.func21, Tryd.ntmps21
  go_wp2
  have X0 := heap_alloc_new w (Obj.cells #[.pointer (some ⟨B0, 0, none⟩), .int .i64 0, .int .i64 0, .int .i64 s.life] 42)
  have P0 : Aside0 (OpR w (w.alloc (Obj.cells #[.pointer (some ⟨B0, 0, none⟩), .int .i64 0, .int .i64 0, .int .i64 s.life] 42)) w.heap.size B0 s.life (.slice none 0 0) (.slice none 0 0) [] [] 0) :=
    ⟨below_alloc (Below.refl _ _) _, X0, Nat.le_refl _, Kd.R_nil _ _ _ _ _, Kd.R_nil _ _ _ _ _⟩
  clear X0 j0 j1 j2 j3 j4 j5
  go_loopg [6, 7, 8, 9] (nn + 1) (fun kq v6 v7 v8 v9 wr => ∃ (p k next : Nat) (out : List (List Int)) (row : List Int) (A6 A7 : Option Addr) (c6 c7 : Nat), v6 = .slice A6 out.length c6 ∧ v7 = .slice A7 row.length c7 ∧ v8 = .int .i64 (k : Int) ∧ v9 = .int .i64 (p : Int) ∧ p ≤ nn ∧ nn - p ≤ kq ∧ k ≤ p ∧ out.length ≤ p ∧ row.length ≤ 64 * p ∧ Aside0 (OpR w wr w.heap.size B0 s.life (.slice A6 out.length c6) (.slice A7 row.length c7) out row (next : Int) ∧ openGo C (nn - p) p out row k next = opened C nn))
  case atStart => exact ⟨0, 0, 0, [], [], none, none, 0, 0, rfl, rfl, rfl, rfl, by omega, by omega, by omega, by simp, by simp, ⟨P0.out, rfl⟩⟩
  case round =>
    obtain ⟨p, k, next, out, row, A6, A7, c6, c7, rfl, rfl, rfl, rfl, hp, hk, hkp, hout, hrow, K⟩ := hrel
    clear P0
    have b0 := (K.out.1.below.block B0 HRX.out.lt.1).trans HRX.out.b0
    obtain ⟨j0, j1, j2, j3, j4, j5⟩ := facts6 b0
    clear b0 j2 j3 j4 j5
    by_cases hlt : p < nn
    · have q1 : decide ((p : Int) < (nn : Int)) = true := decide_eq_true (by omega)
      have p0 : (0 : Int) ≤ (p : Int) := by omega
      have p1 : (p : Int) < (nn : Int) := by omega
      have m2 := Err.blk_cell ((K.out.1.below.block B2 HRX.out.lt.2.2).trans HRX.out.b2) p _ (wroteV_get nn C p hlt)
      have HQ : Aside0 ((C (p : Int)).isSome = true → C (p : Int) = some ((C (p : Int)).getD [])) := ⟨fun h => by cases hc : C (p : Int) with
        | none => rw [hc] at h; cases h
        | some x => rfl⟩
      have HQ2 : Aside0 ((C (p : Int)).isSome = false → C (p : Int) = none) := ⟨fun h => by cases hc : C (p : Int) with
        | none => rfl
        | some x => rw [hc] at h; cases h⟩
      have HRB : Aside0 (((C (p : Int)).getD []).length ≤ 64 ∧ ∀ x ∈ (C (p : Int)).getD [], 0 ≤ x ∧ x ≤ 255) := ⟨by cases hc : C (p : Int) with
        | none => simp
        | some x => exact HC.out _ _ hc⟩
      obtain ⟨v, hv⟩ : ∃ v, vs[p]? = some v := ⟨_, List.getElem?_eq_getElem (by rw [HRX.out.len]; exact hlt)⟩
      have m1 := Err.blk_cell ((K.out.1.below.block B1 HRX.out.lt.2.1).trans HRX.out.b1) p v (by rw [List.getElem?_toArray]; exact hv)
      obtain ⟨A10, c10, rfl, hc10, hC10⟩ := Rd.below (Rd.of_R (HRX.out.rows p v hv)) K.out.1.below
      have hC11 := Aside0.mk hC10
      clear hC10 hv
      obtain ⟨raw, hraw⟩ : ∃ raw, (C (p : Int)).getD [] = raw := ⟨_, rfl⟩
      obtain ⟨th, hth⟩ : ∃ th, (C (p : Int)).isSome = th := ⟨_, rfl⟩
      rw [hraw] at HQ HRB m1 hC11 hc10
      rw [hth] at HQ HQ2 m2
      clear hraw hth
      obtain ⟨l0, l1, l2, l3⟩ := facts4 K.out.1.lx
      cases th with
      | false =>
        go_wp2
        go_ret3
        exact ⟨_, _, out, next, rfl, by rw [← K.out.2]; exact openGo_none hlt (HQ2.out (by trivial)), K.out.1.lx, Nat.le_refl _, Kd.R_mono K.out.1.out (fun _ _ => trivial), K.out.1.below⟩
      | true =>
        obtain ⟨A', c', d, last, ok, hdc, hyes, hno, hW⟩ := read8 A10 c10 raw ((out.length : Int) + 1) (k : Int) hc10 (by have := HRB.out.1; omega) HRB.out.2 (by omega)
        have QR : Aside0 (∀ q, Calls Tryd.prog 77 #[.slice A10 raw.length c10, .int .i64 ((out.length : Int) + 1), .int .i64 (k : Int)] (wr.drewN q) fun e w' => e = .returned (.tuple #[.slice A' d.length c', .bool last, .bool ok]) ∧ ∃ m, w' = wr.drewN m) := ⟨fun q => (hW (wr.drewN q) hC11.out).1.mono (fun e w' ⟨he, m, hm⟩ => ⟨he, q + m, by rw [hm, World.drewN_drewN]⟩)⟩
        have hs1 : IntKind.i64.wrap ((out.length : Int) + 1) = (out.length : Int) + 1 := IntWalk.i64_in _ (by omega)
        have HDL := Aside0.mk (show d.length ≤ 64 from by have := HRB.out.1; omega)
        have HY := Aside0.mk hyes
        have HNO := Aside0.mk hno
        have HDD := Aside0.mk (hW wr hC11.out).2
        clear hdc hyes hno hW
        go_wp2_with fail
        go_quiet ((go_at_call 77; exact QR.out _))
        have K3 := Aside0.mk (K.out.1.step (pw_below_drewN (Below.refl wr.heap.size wr) nq))
        have HDC := Aside0.mk (Kd.C_below HDD.out (pw_below_drewN (Below.refl wr.heap.size wr) nq))
        clear hs1 QR m1 m2 j0 j1 l0 l1 l2 l3 p0 p1
        obtain ⟨w3, hw3⟩ : ∃ w3, wr.drewN nq = w3 := ⟨_, rfl⟩
        rw [hw3] at K3 HDC ⊢
        clear hw3
        cases ok with
        | false =>
          go_wp2
          go_ret3
          exact ⟨_, _, out, next, rfl, by rw [← K.out.2]; exact openGo_no hlt (HQ.out (by trivial)) (HNO.out (by trivial)), K3.out.lx, Nat.le_refl _, Kd.R_mono K3.out.out (fun _ _ => trivial), K3.out.below⟩
        | true =>
          obtain ⟨rd, hrd⟩ : ∃ rd, row ++ d = rd := ⟨_, rfl⟩
          have HRD := Aside0.mk hrd
          have HRL : Aside0 (rd.length ≤ 64 * (p + 1)) := ⟨by have := HDL.out; rw [← hrd, List.length_append]; omega⟩
          clear hrd
          cases last with
          | false =>
            go_wp2_with (first
              | ((with_reducible refine gate_builtin (b := .append) (xs := #[.tmp 62, .tmp 63]) rfl ?_); at_builtin; refine Kd.R_append_rows (Kd.int .u8) (w0 := w) w.heap.size rfl (.tmp 62) (.tmp 63) 30 5 (.int .u8 0) 1 rfl Tryd.underlying30 info8 rfl (by decide) (by omega) (.slice A7 row.length c7) row d _ _ _ (fun _ => True) (fun _ => False) rfl rfl ?aO ?aR (fun _ _ h => h) (fun _ h => h.elim) ?aF ?aB ?aS ?aL ?_; (case aR => exact HDC.out); (case aB => exact K3.out.below); (case aF => exact (fun _ _ => trivial)); (case aO => exact K3.out.row); (case aS => exact K3.out.below.size); (case aL => have := HDL.out; omega); intro v4 w4 ho hb hg hat; have K4 := Aside0.mk (K3.out.recApp ho hb hg hat); rw [HRD.out] at ho K4; obtain ⟨A7', c7', rfl⟩ := Kd.R_slice ho; clear ho hb hg hat K3))
            go_roundg (gk - 1)
            case measure => omega
            case rel =>
              refine ⟨p + 1, k + 1, next, out, rd, A6, A7', c6, c7', rfl, rfl, by go_num, by go_num, by omega, by omega, by omega, by omega, HRL.out, ⟨K4.out, ?_⟩⟩
              rw [← K.out.2, ← HRD.out]; exact openGo_mid hlt (HQ.out (by trivial)) (HY.out (by trivial))
          | true =>
            obtain ⟨od, hod⟩ : ∃ od, out ++ [rd] = od := ⟨_, rfl⟩
            have HOD := Aside0.mk hod
            have HOL : Aside0 (od.length ≤ p + 1) := ⟨by rw [← hod, List.length_append]; simp; omega⟩
            clear hod
            go_wp2_with (first
              | ((with_reducible refine gate_builtin (b := .append) (xs := #[.tmp 62, .tmp 63]) rfl ?_); at_builtin; refine Kd.R_append_rows (Kd.int .u8) (w0 := w) w.heap.size rfl (.tmp 62) (.tmp 63) 30 5 (.int .u8 0) 1 rfl Tryd.underlying30 info8 rfl (by decide) (by omega) (.slice A7 row.length c7) row d _ _ _ (fun _ => True) (fun _ => False) rfl rfl ?aO ?aR (fun _ _ h => h) (fun _ h => h.elim) ?aF ?aB ?aS ?aL ?_; (case aR => exact HDC.out); (case aB => exact K3.out.below); (case aF => exact (fun _ _ => trivial)); (case aO => exact K3.out.row); (case aS => exact K3.out.below.size); (case aL => have := HDL.out; omega); intro v4 w4 ho hb hg hat; have K4 := Aside0.mk (K3.out.recApp ho hb hg hat); rw [HRD.out] at ho K4; obtain ⟨A7', c7', rfl⟩ := Kd.R_slice ho; clear ho hb hg hat K3)
              | ((with_reducible refine gate_builtin (b := .append) (xs := #[.tmp 68, .tmp 70]) rfl ?_); at_builtin; refine Kd.R_append KR (w0 := w) w.heap.size rfl (.tmp 68) (.tmp 70) 22 30 (.slice none 0 0) 24 rfl Tryd.underlying22 info30r rfl (by decide) (by omega) (.slice A6 out.length c6) out rd [.slice A7' rd.length c7'] (fun _ => True) (fun k => some k ≠ (Value.slice A6 out.length c6).ownBlock) rfl rfl ?bP ?bK (fun _ _ => trivial) ?bO ?bB ?bS ?bL ?_; (case bP => exact K4.out.recM); (case bK => exact fun k hk => ⟨trivial, hk⟩); (case bO => exact Kd.R_mono K4.out.out (fun _ _ => trivial)); (case bB => exact K4.out.below); (case bS => exact K4.out.below.size); (case bL => omega); intro v5 w5 ho hb hg hat; obtain ⟨hl5, hK5⟩ := K4.out.outApp ho hb hg; rw [HOD.out] at ho hK5; obtain ⟨A6', c6', rfl⟩ := Kd.R_slice ho; have K5 := Aside0.mk hK5; obtain ⟨k0, k1, k2, k3⟩ := facts4 hl5; have z1 := blk_frozen hl5 1; have z2 := blk_frozen hl5 2; have z1' := blk_frozen (hl5.set_recs ((out.length : Int) + 1)) 1; clear ho hb hg hat hl5 hK5))
            go_roundg (gk - 1)
            case measure => omega
            case rel =>
              refine ⟨p + 1, 0, p + 1, od, [], A6', none, c6', 0, rfl, rfl, rfl, by go_num, by omega, by omega, by omega, HOL.out, by simp, ⟨K5.out _, ?_⟩⟩
              rw [← K.out.2, ← HOD.out, ← HRD.out]; exact openGo_last hlt (HQ.out (by trivial)) (HY.out (by trivial))
    · obtain rfl : p = nn := by omega
      have q1 : decide ((p : Int) < (p : Int)) = false := decide_eq_false (by omega)
      go_wp2
      go_ret3
      exact ⟨_, _, out, next, rfl, by rw [← K.out.2, Nat.sub_self]; rfl, K.out.1.lx, Nat.le_refl _, Kd.R_mono K.out.1.out (fun _ _ => trivial), K.out.1.below⟩
end Go.Proofs.YtlhjjjpldmekdaaDoor.PDsk.K
