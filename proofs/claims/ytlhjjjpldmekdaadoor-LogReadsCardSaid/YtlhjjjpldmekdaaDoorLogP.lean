/- Proved: the program's disk and log beside the document's, both holding the same: their calls, one behind the other, leave them so; condition: numbers that fit. -/
import Derived.Test.YtlhjjjpldmekdaaDoorLogR3
import Derived.Test.YtlhjjjpldmekdaaDoorLogV
namespace Go.Proofs.YtlhjjjpldmekdaaDoor.PDsk.K
open Go.RowKit Go.Proofs.YtlhjjjpldmekdaaDoorW.PrintWords Go.Proofs.YtlhjjjpldmekdaaDoorW.PrintLast Go.Proofs.YtlhjjjpldmekdaaDoorW.PrintMore Go.Proofs.YtlhjjjpldmekdaaDoor.Err Go.Maps Go.Proofs.YtlhjjjpldmekdaaDoor.PLog
attribute [local go_sem] max2_int min2_int max_two min_two max_three min_three max_four min_four
set_option linter.unusedVariables false
set_option linter.unusedSimpArgs false

/-- Both disks hold the same. -/
structure PlB (w0 w : World) (a1 a2 B0 B1 B2 n : Nat) (s : Dk) (C : CT) (R : Nat) : Prop where
  fr : Fr (fun b => w0.heap.size ≤ b) w0 w
  d : Dx w (fun b => b ≠ a1 ∧ b ≠ a2) a1 a2 s n C
  r : RD w (fun b => b ≠ B0 ∧ b ≠ B1 ∧ b ≠ B2) B0 B1 B2 s C
  room : s.room = (R : Int)
  okc : okC C
  ne : (B0 ≠ a1 ∧ B0 ≠ a2 ∧ B1 ≠ a1 ∧ B1 ≠ a2 ∧ B2 ≠ a1 ∧ B2 ≠ a2) ∧ (w0.heap.size ≤ a1 ∧ w0.heap.size ≤ a2 ∧ w0.heap.size ≤ B0 ∧ w0.heap.size ≤ B1 ∧ w0.heap.size ≤ B2)
/-- .. and both logs say the same. -/
structure LgP (w0 w : World) (a1 a2 B0 B1 B2 n Bl Bm : Nat) (s : Dk) (C : CT) (life : Int) (recs next : Nat) (R : Nat) : Prop where
  p : PlB w0 w a1 a2 B0 B1 B2 n s C R
  lx : Lx w Bl a1 life (recs : Int) (next : Int)
  lr : Lr w Bm B0 (next : Int) (recs : Int) life
  ge : w0.heap.size ≤ Bl ∧ w0.heap.size ≤ Bm
section
variable {w0 w w' w1 w2 : World} {a1 a2 B0 B1 B2 n m Bl Bm : Nat} {s s' : Dk} {C C' : CT} {life : Int} {recs next R : Nat}
theorem lx_RB {F : Nat → Prop} {b1 : Nat} {x y : Int} (hl : Lx w Bl b1 life x y) (hr : RD w F B0 B1 B2 s C) : ¬ RB B0 B1 B2 Bl := fun hb => by
  rcases hr.noLr Bl hb _ _ hl with e | e | e
  · exact absurd e (by decide)
  · exact absurd e (by decide)
  · exact absurd e (by decide)
theorem lr_dx {F : Nat → Prop} {b0 : Nat} {x y : Int} (hl : Lr w Bm b0 x y life) (hd : Dx w F a1 a2 s n C) : ¬ (Bm = a1 ∨ Bm = a2) := by
  rintro (e | e)
  · exact blk_ne hl hd.st (show 42 ≠ 116 from by decide) e
  · subst e
    obtain ⟨D, ⟨es, clock, hb, _⟩, _⟩ := hd.cont.map
    unfold Lr at hl
    rw [hb] at hl
    injection hl with hl
    cases hl
theorem PlB.below (h : PlB w0 w a1 a2 B0 B1 B2 n s C R) (hb : Below w.heap.size w w') : PlB w0 w' a1 a2 B0 B1 B2 n s C R := ⟨h.fr.trans (Fr.of_below hb), h.d.below hb, h.r.below hb, h.room, h.okc, h.ne⟩
theorem PlB.more (h : PlB w0 w a1 a2 B0 B1 B2 n s C R) (hm : n ≤ m) : PlB w0 w a1 a2 B0 B1 B2 m s C R := ⟨h.fr, h.d.more hm, h.r, h.room, h.okc, h.ne⟩
theorem PlB.freshD (h : PlB w0 w a1 a2 B0 B1 B2 n s C R) : ∀ k, w.heap.size ≤ k → k ≠ a1 ∧ k ≠ a2 := fun k hk => by have := h.d.lt; omega
theorem PlB.freshR (h : PlB w0 w a1 a2 B0 B1 B2 n s C R) : ∀ k, w.heap.size ≤ k → k ≠ B0 ∧ k ≠ B1 ∧ k ≠ B2 := fun k hk => by have := h.r.lt; omega
theorem PlB.laid (h : PlB w0 w a1 a2 B0 B1 B2 n s C R) (hL : Laid w0) : Laid w := laid_fr hL h.fr (fun h0 => by have := hL.lt; omega)
/-- Behind the program's disk's call the document's is as it was. -/
theorem PlB.rkept (h : PlB w0 w a1 a2 B0 B1 B2 n s C R) (f1 : Fr (fun b => b = a1 ∨ b = a2) w w1) : RD w1 (fun b => b ≠ B0 ∧ b ≠ B1 ∧ b ≠ B2) B0 B1 B2 s C := by
  obtain ⟨⟨n1, n2, n3, n4, n5, n6⟩, _⟩ := h.ne
  exact h.r.kept f1 (by omega) (by omega) (by omega) (fun b hb _ => h.d.noB b hb)
/-- Both disks' calls, one behind the other. -/
theorem PlB.both (h : PlB w0 w a1 a2 B0 B1 B2 n s C R) (hd : Dx w1 (fun b => b ≠ a1 ∧ b ≠ a2) a1 a2 s' m C') (f1 : Fr (fun b => b = a1 ∨ b = a2) w w1) (hr : RD w2 (fun b => b ≠ B0 ∧ b ≠ B1 ∧ b ≠ B2) B0 B1 B2 s' C') (f2 : Fr (RB B0 B1 B2) w1 w2) (hroom : s'.room = s.room) (hC : okC C') : PlB w0 w2 a1 a2 B0 B1 B2 m s' C' R := by
  have hk := h.rkept f1
  obtain ⟨⟨n1, n2, n3, n4, n5, n6⟩, n7, n8, n9, n10, n11⟩ := h.ne
  exact ⟨h.fr.trans ((f1.mono (fun b hb => by rcases hb with rfl | rfl; exact n7; exact n8)).trans (f2.mono (fun b hb => by rcases hb with rfl | rfl | rfl; exact n9; exact n10; exact n11))),
    hd.kept f2 (fun hb => by rcases hb with e | e | e; exact n1 e.symm; exact n3 e.symm; exact n5 e.symm) (fun hb => by rcases hb with e | e | e; exact n2 e.symm; exact n4 e.symm; exact n6 e.symm) (fun b hb _ => hk.noB b hb), hr, hroom.trans h.room, hC, h.ne⟩
theorem LgP.below (h : LgP w0 w a1 a2 B0 B1 B2 n Bl Bm s C life recs next R) (hb : Below w.heap.size w w') : LgP w0 w' a1 a2 B0 B1 B2 n Bl Bm s C life recs next R := ⟨h.p.below hb, h.lx.below hb, h.lr.below hb, h.ge⟩
theorem LgP.more (h : LgP w0 w a1 a2 B0 B1 B2 n Bl Bm s C life recs next R) (hm : n ≤ m) : LgP w0 w a1 a2 B0 B1 B2 m Bl Bm s C life recs next R := ⟨h.p.more hm, h.lx, h.lr, h.ge⟩
theorem LgP.both (h : LgP w0 w a1 a2 B0 B1 B2 n Bl Bm s C life recs next R) (hd : Dx w1 (fun b => b ≠ a1 ∧ b ≠ a2) a1 a2 s' m C') (f1 : Fr (fun b => b = a1 ∨ b = a2) w w1) (hr : RD w2 (fun b => b ≠ B0 ∧ b ≠ B1 ∧ b ≠ B2) B0 B1 B2 s' C') (f2 : Fr (RB B0 B1 B2) w1 w2) (hroom : s'.room = s.room) (hC : okC C') : LgP w0 w2 a1 a2 B0 B1 B2 m Bl Bm s' C' life recs next R :=
  ⟨h.p.both hd f1 hr f2 hroom hC, (h.lx.kept f1 (h.lx.apart h.p.d)).kept f2 (lx_RB h.lx h.p.r), (h.lr.kept f1 (lr_dx h.lr h.p.d)).kept f2 (h.lr.apart h.p.r), h.ge⟩
/-- Behind the program's log's call: the document's disk and log are as they were. -/
theorem LgP.rkept (h : LgP w0 w a1 a2 B0 B1 B2 n Bl Bm s C life recs next R) (f1 : Fr (LB Bl a1 a2) w w1) : RD w1 (fun b => b ≠ B0 ∧ b ≠ B1 ∧ b ≠ B2) B0 B1 B2 s C ∧ Lr w1 Bm B0 (next : Int) (recs : Int) life := by
  obtain ⟨⟨n1, n2, n3, n4, n5, n6⟩, _⟩ := h.p.ne
  have hb := lx_RB h.lx h.p.r
  have hno : ∀ b, LB Bl a1 a2 b → NoB w b := by
    rintro b (rfl | hb)
    · exact h.lx.noB
    · exact h.p.d.noB b hb
  refine ⟨h.p.r.kept f1 (fun e => ?_) (fun e => ?_) (fun e => ?_) (fun b hb _ => hno b hb), h.lr.kept f1 (fun e => ?_)⟩
  · rcases e with e | e | e; exact hb (Or.inl e.symm); exact n1 e; exact n2 e
  · rcases e with e | e | e; exact hb (Or.inr (Or.inl e.symm)); exact n3 e; exact n4 e
  · rcases e with e | e | e; exact hb (Or.inr (Or.inr e.symm)); exact n5 e; exact n6 e
  · rcases e with e | e
    · exact blk_ne h.lr h.lx (show 42 ≠ 123 from by decide) e
    · exact lr_dx h.lr h.p.d e
/-- Both Appends, one behind the other. -/
theorem LgP.apps {nb : Nat} {e1 e2 : Ending} {r : Option Er × Dk × CT} (h : LgP w0 w a1 a2 B0 B1 B2 n Bl Bm s C life recs next R) (hA : AppP r (fun b => b ≠ a1 ∧ b ≠ a2) Bl a1 a2 n nb recs next life w e1 w1) (h8 : App8P r (fun b => b ≠ B0 ∧ b ≠ B1 ∧ b ≠ B2) Bm B0 B1 B2 nb recs next life w1 e2 w2) (hroom : r.2.1.room = s.room) (hC : okC r.2.2) :
    ∃ recs' next' : Nat, ((recs' = recs + 1 ∧ next' = next + nb ∧ r.1 = none) ∨ (recs' = recs ∧ next' = next)) ∧ LgP w0 w2 a1 a2 B0 B1 B2 (n + nb) Bl Bm r.2.1 r.2.2 life recs' next' R := by
  obtain ⟨v, _, _, hD, ⟨rc, nx, x1, x2, hLx⟩, f1⟩ := hA
  obtain ⟨_, hR, ⟨rc2, nx2, y1, y2, hLr⟩, f2⟩ := h8
  obtain ⟨hk, hl⟩ := h.rkept f1
  obtain ⟨⟨n1, n2, n3, n4, n5, n6⟩, n7, n8, n9, n10, n11⟩ := h.p.ne
  have hlw : Lx w1 Bl a1 life (rc : Int) (nx : Int) := hLx
  have q1 : ¬ (Bm = a1 ∨ Bm = a2) := lr_dx hl hD
  have q2 := lx_RB hLx hk
  have q3 : Bl ≠ Bm := blk_ne hLx hl (show 123 ≠ 42 from by decide)
  have hno : ∀ b, (b = Bm ∨ RB B0 B1 B2 b) → NoB w1 b := by
    rintro b (rfl | hb)
    · exact hl.noB
    · exact hk.noB b hb
  have hDx : Dx w2 (fun b => b ≠ a1 ∧ b ≠ a2) a1 a2 r.2.1 (n + nb) r.2.2 := hD.kept f2 (fun e => by rcases e with e | e | e | e; exact q1 (Or.inl e.symm); exact n1 e.symm; exact n3 e.symm; exact n5 e.symm) (fun e => by rcases e with e | e | e | e; exact q1 (Or.inr e.symm); exact n2 e.symm; exact n4 e.symm; exact n6 e.symm) (fun b hb _ => hno b hb)
  have hL2 : Lx w2 Bl a1 life (rc : Int) (nx : Int) := hLx.kept f2 (fun e => by rcases e with e | e; exact q3 e; exact q2 e)
  have hfr : Fr (fun b => w0.heap.size ≤ b) w0 w2 := h.p.fr.trans ((f1.mono (fun b hb => by rcases hb with rfl | rfl | rfl; exact h.ge.1; exact n7; exact n8)).trans (f2.mono (fun b hb => by rcases hb with rfl | rfl | rfl | rfl; exact h.ge.2; exact n9; exact n10; exact n11)))
  cases he : r.1 with
  | none =>
    obtain ⟨rfl, rfl⟩ := x1 he
    obtain ⟨rfl, rfl⟩ := y1 he
    exact ⟨_, _, Or.inl ⟨rfl, rfl, rfl⟩, ⟨hfr, hDx, hR, hroom.trans h.p.room, hC, h.p.ne⟩, hL2, hLr, h.ge⟩
  | some x =>
    obtain ⟨rfl, rfl⟩ := x2 ⟨x, he⟩
    obtain ⟨rfl, rfl⟩ := y2 ⟨x, he⟩
    exact ⟨_, _, Or.inr ⟨rfl, rfl⟩, ⟨hfr, hDx, hR, hroom.trans h.p.room, hC, h.p.ne⟩, hL2, hLr, h.ge⟩
end
set_option maxHeartbeats 8000000 in
set_option maxRecDepth 100000 in
/-- Like records, quietly. -/
theorem same_q (A0 A1 : Option Addr) (c0 c1 : Nat) (l : List (List Int)) (w : World) (h0 : KR.C w A0 l.length l) (h1 : KR.C w A1 l.length l) (hc0 : l.length ≤ c0) (hc1 : l.length ≤ c1) (hl : l.length ≤ 1000000) :
    Calls Tryd.prog 22 #[.slice A0 l.length c0, .slice A1 l.length c1] w fun e w' => e = .returned (.bool true) ∧ ∃ m, w' = w.drewN m := by
  have H0 := Aside0.mk h0
  have H1 := Aside0.mk h1
  clear h0 h1
  go_enter Tryd.func22, Tryd.ntmps22
  go_wp2
  go_loopg [5] (l.length + 1) (fun kq v5 wr => ∃ (i : Nat), v5 = .int .i64 (i : Int) ∧ i ≤ l.length ∧ l.length - i ≤ kq ∧ Aside0 (∃ m, wr = w.drewN m))
  case atStart => exact ⟨0, rfl, by omega, by omega, ⟨0, rfl⟩⟩
  case round =>
    obtain ⟨i, rfl, hi, hk, ⟨⟨m, rfl⟩⟩⟩ := hrel
    by_cases hlt : i < l.length
    · have q1 : decide ((i : Int) < (l.length : Int)) = true := decide_eq_true (by omega)
      obtain ⟨ad0, B0, d0, rfl, m0, t0, r0⟩ := at_B H0.out i hlt
      obtain ⟨ad1, B1, d1, rfl, m1, t1, r1⟩ := at_B H1.out i hlt
      obtain ⟨x, hx⟩ : ∃ x, l.getD i [] = x := ⟨_, rfl⟩
      rw [hx] at m0 t0 r0 m1 t1 r1
      have hv0 := fun n => Kd.C_string (P := Tryd.prog) (c := d0) Tryd.underlying30 Tryd.underlying5 Tryd.underlying9 (show (Kd.int .u8).C (w.drewN n) B0 _ _ from r0)
      have hv1 := fun n => Kd.C_string (P := Tryd.prog) (c := d1) Tryd.underlying30 Tryd.underlying5 Tryd.underlying9 (show (Kd.int .u8).C (w.drewN n) B1 _ _ from r1)
      obtain ⟨sx, hsx⟩ : ∃ sx, strOfNums x = sx := ⟨_, rfl⟩
      rw [hsx] at hv0 hv1
      have p0 : (0 : Int) ≤ (i : Int) := by omega
      have p1 : (i : Int) < (l.length : Int) := by omega
      clear hx hsx r0 r1 t0 t1
      go_wp2_with fail
      go_quiet (fail)
      go_wp2
      go_roundg (gk - 1)
      case measure => omega
      case rel => exact ⟨i + 1, by go_num, by omega, by omega, ⟨_, rfl⟩⟩
    · have q1 : decide ((i : Int) < (l.length : Int)) = false := decide_eq_false (by omega)
      go_wp2
      go_ret
      exact ⟨rfl, _, rfl⟩
theorem q_some {P : Program} {f : FuncId} {args : Array Value} {w : World} {v : Value} (h : ∀ n, Calls P f args (w.drewN n) fun e w' => e = .returned v ∧ ∃ m, w' = (w.drewN n).drewN m) (n : Nat) : Calls P f args (w.drewN n) fun e w'' => e = .returned v ∧ ∃ m, w'' = w.drewN m :=
  (h n).mono fun _ _ ⟨he, m, hm⟩ => ⟨he, n + m, by rw [hm, World.drewN_drewN]⟩
end Go.Proofs.YtlhjjjpldmekdaaDoor.PDsk.K
