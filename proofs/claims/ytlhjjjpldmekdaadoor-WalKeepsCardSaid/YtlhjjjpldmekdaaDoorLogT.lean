/- Proved: a disk with a log's records as one thing for the laws (its calls, what is left of it), and the law's told; condition: numbers that fit. -/
import Derived.Test.YtlhjjjpldmekdaaDoorZl
import Derived.Test.YtlhjjjpldmekdaaDoorPLgx0
namespace Go.Proofs.YtlhjjjpldmekdaaDoor.PDsk.K
open Go.RowKit Go.Proofs.YtlhjjjpldmekdaaDoorW.PrintWords Go.Proofs.YtlhjjjpldmekdaaDoorW.PrintLast Go.Proofs.YtlhjjjpldmekdaaDoorW.PrintMore Go.Proofs.YtlhjjjpldmekdaaDoor.Err Go.Maps Go.Proofs.YtlhjjjpldmekdaaDoor.PLog
open Go.Proofs.YtlhjjjpldmekdaaDoor.PFn (log_Blocks.calls log_Blocks_f)
attribute [local go_sem] max2_int min2_int max_two min_two max_three min_three max_four min_four
set_option linter.unusedVariables false
set_option linter.unusedSimpArgs false

/-- A disk of a law's, with the records that a log finds on it. -/
structure DkB (w0 w : World) (a1 a2 n : Nat) (s : Dk) (C : CT) (l : List (List Int)) (R : Nat) : Prop where
  fr : Fr (fun b => w0.heap.size ≤ b) w0 w
  dx : Dx w (fun b => b ≠ a1 ∧ b ≠ a2) a1 a2 s n C
  room : s.room = (R : Int)
  log : Log3 C R l
  okc : okC C
  ge : w0.heap.size ≤ a1 ∧ w0.heap.size ≤ a2
/-- .. and a log that was opened on it. -/
structure LgB (w0 w : World) (a1 a2 Bl n : Nat) (s : Dk) (C : CT) (life : Int) (l : List (List Int)) (R : Nat) : Prop where
  d : DkB w0 w a1 a2 n s C l R
  lx : Lx w Bl a1 life (l.length : Nat) (need l : Nat)
  ge : w0.heap.size ≤ Bl
section
variable {w0 w w' : World} {a1 a2 Bl n : Nat} {s s' : Dk} {C C' : CT} {life : Int} {l : List (List Int)} {R : Nat}
theorem DkB.below (h : DkB w0 w a1 a2 n s C l R) (hb : Below w.heap.size w w') : DkB w0 w' a1 a2 n s C l R := ⟨h.fr.trans (Fr.of_below hb), h.dx.below hb, h.room, h.log, h.okc, h.ge⟩
theorem DkB.more {m : Nat} (h : DkB w0 w a1 a2 n s C l R) (hm : n ≤ m) : DkB w0 w a1 a2 m s C l R := ⟨h.fr, h.dx.more hm, h.room, h.log, h.okc, h.ge⟩
theorem DkB.call (h : DkB w0 w a1 a2 n s C l R) (hd : Dx w' (fun b => b ≠ a1 ∧ b ≠ a2) a1 a2 s' n C) (hf : Fr (fun b => b = a1 ∨ b = a2) w w') (hr : s'.room = s.room) : DkB w0 w' a1 a2 n s' C l R :=
  ⟨h.fr.trans (hf.mono (fun b hb => by rcases hb with rfl | rfl; exact h.ge.1; exact h.ge.2)), hd, hr.trans h.room, h.log, h.okc, h.ge⟩
theorem DkB.laid (h : DkB w0 w a1 a2 n s C l R) (hL : Laid w0) : Laid w := laid_fr hL h.fr (fun h0 => by have := hL.lt; omega)
theorem DkB.fresh (h : DkB w0 w a1 a2 n s C l R) : ∀ k, w.heap.size ≤ k → k ≠ a1 ∧ k ≠ a2 := fun k hk => by have := h.dx.lt; omega
theorem LgB.below (h : LgB w0 w a1 a2 Bl n s C life l R) (hb : Below w.heap.size w w') : LgB w0 w' a1 a2 Bl n s C life l R := ⟨h.d.below hb, h.lx.below hb, h.ge⟩
theorem LgB.more {m : Nat} (h : LgB w0 w a1 a2 Bl n s C life l R) (hm : n ≤ m) : LgB w0 w a1 a2 Bl m s C life l R := ⟨h.d.more hm, h.lx, h.ge⟩
theorem LgB.call (h : LgB w0 w a1 a2 Bl n s C life l R) (hd : Dx w' (fun b => b ≠ a1 ∧ b ≠ a2) a1 a2 s' n C) (hf : Fr (fun b => b = a1 ∨ b = a2) w w') (hr : s'.room = s.room) : LgB w0 w' a1 a2 Bl n s' C life l R :=
  ⟨h.d.call hd hf hr, h.lx.kept hf (h.lx.apart h.d.dx), h.ge⟩
/-- Which blocks a log's calls turn. -/
def LB (Bl a1 a2 : Nat) : Nat → Prop := fun b => b = Bl ∨ b = a1 ∨ b = a2
theorem LgB.noB (h : LgB w0 w a1 a2 Bl n s C life l R) : ∀ b, LB Bl a1 a2 b → NoB w b := by
  rintro b (rfl | hb)
  · exact h.lx.noB
  · exact h.d.dx.noB b hb
theorem LgB.noErr (h : LgB w0 w a1 a2 Bl n s C life l R) : ∀ b, LB Bl a1 a2 b → ∀ cs, w.heap[b]? ≠ some (.cells cs 139 (0, 0)) := by
  rintro b (rfl | hb) cs e
  · have := h.lx
    unfold Lx at this
    rw [e] at this
    injection this with this
    injection this with _ this
    exact absurd this (by decide)
  · exact h.d.dx.noErr b hb cs e
theorem DkB.noRow (h : DkB w0 w a1 a2 n s C l R) : ∀ b, (b = a1 ∨ b = a2) → ∀ cs q, w.heap[b]? = some (.cells cs q (0, 0)) → q = 116 := by
  rintro b (rfl | rfl) cs q e
  · have := h.dx.st
    unfold St at this
    rw [e] at this
    injection this with this
    injection this with _ this
  · obtain ⟨D, ⟨es, clock, hb, _⟩, _⟩ := h.dx.cont.map
    rw [hb] at e
    injection e with e
    cases e
theorem LgB.noRow (h : LgB w0 w a1 a2 Bl n s C life l R) : ∀ b, LB Bl a1 a2 b → ∀ cs q, w.heap[b]? = some (.cells cs q (0, 0)) → q = 123 ∨ q = 116 := by
  rintro b (rfl | hb) cs q e
  · have := h.lx
    unfold Lx at this
    rw [e] at this
    injection this with this
    injection this with _ this
    exact Or.inl this
  · exact Or.inr (h.d.noRow b hb cs q e)
/-- A row of one's own stays, whatever blocks of other types are turned. -/
theorem own_fr {α : Type} {d : Kd α} {e base : Nat} {ok : Nat → Prop} {v : Value} {xs : List α} {S : Nat → Prop} (h : d.R e w base ok v xs) (hf : Fr S w w') (hS : ∀ b, S b → ∀ cs q, w.heap[b]? = some (.cells cs q (0, 0)) → q ∉ e :: d.E) : d.R e w' base ok v xs :=
  Kd.R_mono (Kd.R_move (Kd.R_bound h) (fun k hk => hf.block k hk.2.2.1 (fun hs => by obtain ⟨_, _, _, q, hq, cells, hc⟩ := hk; exact hS k hs cells q hc hq))) (fun _ hk => hk.1)
theorem Rs.log {w1 : World} {base : Nat} {ok : Nat → Prop} {v : Value} {xs : List (List Int)} (g : Rs w base ok v xs) (h : LgB w0 w a1 a2 Bl n s C life l R) (hf : Fr (LB Bl a1 a2) w w1) : Rs w1 base ok v xs :=
  own_fr g hf (fun b hb cs q e hq => by
    have hq' : q = 30 ∨ q = 5 := by simpa [KB, Kd.slice, Kd.int, Kd.scalar] using hq
    rcases h.noRow b hb cs q e with rfl | rfl
    · exact absurd hq' (by decide)
    · exact absurd hq' (by decide))
/-- The records behind an Append. -/
def nxt (o : Option Er) (l : List (List Int)) (b : List Int) : List (List Int) := match o with
  | none => l ++ [b]
  | some _ => l
theorem LgB.app (h : LgB w0 w a1 a2 Bl n s C life l R) (hL : Laid w0) (A : Option Addr) (c : Nat) (b : List Int) (hC : (Kd.int .u8).C w A b.length b) (hc : b.length ≤ c) (hb : b.length ≤ 100000) (hbb : ∀ x ∈ b, 0 ≤ x ∧ x ≤ 255) (hl : l.length + 1 ≤ 65536) (hn : n ≤ 1000000000) :
    Calls Tryd.prog 28 #[.pointer (some ⟨Bl, 0, none⟩), .slice A b.length c] w fun e w' => ∃ v, e = .returned v ∧ IsErr? w' ((appS s C life l.length (need l) b).1.map (.fault logS 0)) v ∧ Fr (LB Bl a1 a2) w w' ∧
      LgB w0 w' a1 a2 Bl (n + nB b.length) (appS s C life l.length (need l) b).2.1 (appS s C life l.length (need l) b).2.2 life (nxt (appS s C life l.length (need l) b).1 l b) R := by
  have hfit := h.d.log.fits
  refine (append_calls (fun b => b ≠ a1 ∧ b ≠ a2) Bl a1 a2 n R l.length (need l) life s C A c b w h.d.dx h.lx h.d.room (by omega) h.d.fresh hn hC hc hb (h.d.laid hL)).mono ?_
  rintro e w' ⟨v, rfl, hE, hD, ⟨recs', next', h1, h2, hLx⟩, hf⟩
  have f1 := appS_facts s C life l.length (need l) b (by omega) hb hbb h.d.okc
  have f2 := appS_log3 (b := b) (s := s) (life := life) h.d.log h.d.room hl
  refine ⟨v, rfl, hE, hf, ⟨?_, ?_, h.ge⟩⟩
  · refine ⟨h.d.fr.trans (hf.mono (fun b hb => by rcases hb with rfl | rfl | rfl; exact h.ge; exact h.d.ge.1; exact h.d.ge.2)), hD, f1.1.trans h.d.room, ?_, f1.2.2, h.d.ge⟩
    cases he : (appS s C life l.length (need l) b).1 with
    | none => exact f2.1 he
    | some x => exact f2.2 x he
  · cases he : (appS s C life l.length (need l) b).1 with
    | none =>
      obtain ⟨rfl, rfl⟩ := h1 he
      show Lx w' Bl a1 life (((l ++ [b]).length : Nat) : Int) ((need (l ++ [b]) : Nat) : Int)
      rw [need_snoc, show (l ++ [b]).length = l.length + 1 from by simp]
      exact hLx
    | some x =>
      obtain ⟨rfl, rfl⟩ := h2 ⟨x, he⟩
      exact hLx
theorem DkB.open (h : DkB w0 w a1 a2 n s C l R) (hdn : s.down = false) :
    Calls Tryd.prog 20 #[.pointer (some ⟨a1, 0, none⟩)] w fun e w' => ∃ (Bl : Nat) (vout : Value), e = .returned (.tuple #[.pointer (some ⟨Bl, 0, none⟩), vout, .nilIface]) ∧ Rs w' w.heap.size (fun _ => True) vout l ∧ Below w.heap.size w w' ∧ LgB w0 w' a1 a2 Bl n s C s.life l R := by
  refine (open_ok (fun b => b ≠ a1 ∧ b ≠ a2) a1 a2 n R s C w h.dx hdn h.room h.log.fits.2.1 h.okc).mono ?_
  rintro e w' ⟨Bl, vout, out, next, rfl, ho, hl, hge, hR, hb⟩
  rw [h.log.opened] at ho
  obtain ⟨rfl, rfl⟩ := Prod.mk.inj ho
  exact ⟨Bl, vout, rfl, hR, hb, ⟨h.below hb, hl, Nat.le_trans h.fr.size hge⟩⟩
theorem DkB.new (hd : Dx w' (fun b => b ≠ a1 ∧ b ≠ a2) a1 a2 ⟨(R : Int), false, 0, 0, 0⟩ 0 (fun _ => none)) (hge : w.heap.size ≤ a1 ∧ w.heap.size ≤ a2) (hb : Below w.heap.size w w') (hR : R ≤ 65536) : DkB w w' a1 a2 0 ⟨(R : Int), false, 0, 0, 0⟩ (fun _ => none) [] R :=
  ⟨Fr.of_below hb, hd, rfl, Log3.empty hR (fun _ => rfl), okC.none, hge⟩
/-! ### rows of other types are turned -/
/-- No row of bytes. -/
def NoU (w : World) (b : Nat) : Prop := ∀ cells, w.heap[b]? ≠ some (.cells cells 5 (0, 0))
theorem Rw.farU {F : Nat → Prop} {v : Value} {xs : List Int} {S : Nat → Prop} (h : Rw w F v xs) (hf : Fr S w w') (hS : ∀ b, S b → NoU w b) : Rw w' F v xs :=
  Kd.R_mono (Kd.R_move (Kd.R_bound h) (fun k hk => hf.block k hk.2.2.1 (fun hs => by
    obtain ⟨hF, _, _, q, hq, cells, hc⟩ := hk
    obtain rfl : q = 5 := by simpa [Kd.int, Kd.scalar] using hq
    exact hS k hs cells hc))) (fun _ hk => hk.1)
theorem Cont.farU {F : Nat → Prop} {Bm n : Nat} {S : Nat → Prop} (h : Cont w F Bm n C) (hf : Fr S w w') (hm : ¬ S Bm) (hS : ∀ b, S b → NoU w b) : Cont w' F Bm n C := by
  obtain ⟨D, hM, hk⟩ := h.map
  refine ⟨D, hM.kept hf hm, fun k hok => ?_⟩
  have := hk k hok
  cases hc : C k with
  | none => rw [hc] at this; exact this
  | some xs =>
    rw [hc] at this
    obtain ⟨h1, v, h2, h3⟩ := this
    exact ⟨h1, v, h2, Rw.farU h3 hf hS⟩
theorem Dx.keptU {F : Nat → Prop} {S : Nat → Prop} (h : Dx w F a1 a2 s n C) (hf : Fr S w w') (h1 : ¬ S a1) (h2 : ¬ S a2) (hS : ∀ b, S b → NoU w b) : Dx w' F a1 a2 s n C := ⟨h.st.kept hf h1, h.cont.farU hf h2 hS, h.ne, h.n1, h.n2⟩
theorem LgB.keptU {S : Nat → Prop} (h : LgB w0 w a1 a2 Bl n s C life l R) (hf : Fr S w w') (h1 : ¬ S a1) (h2 : ¬ S a2) (h3 : ¬ S Bl) (hS : ∀ b, S b → NoU w b) (hge : ∀ b, S b → w0.heap.size ≤ b) : LgB w0 w' a1 a2 Bl n s C life l R :=
  ⟨⟨h.d.fr.trans (hf.mono hge), h.d.dx.keptU hf h1 h2 hS, h.d.room, h.d.log, h.d.okc, h.d.ge⟩, h.lx.kept hf h3, h.ge⟩
theorem LgB.grown {base : Nat} {ok : Nat → Prop} {v : Value} {xs : List (List Int)} (h : LgB w0 w a1 a2 Bl n s C life l R) (g : Rs w base ok v xs) (hg : w.grownBy w' v.ownBlock) (hbase : w0.heap.size ≤ base) : LgB w0 w' a1 a2 Bl n s C life l R := by
  obtain ⟨inner, hown⟩ := Kd.R_own g
  have hf : Fr (fun k => some k = v.ownBlock) w w' := ⟨hg.os, hg.tape, hg.output, hg.size, fun k hk hs => hg.block k hk hs⟩
  have hty : ∀ b, some b = v.ownBlock → ∃ cells, w.heap[b]? = some (.cells cells 30 (0, 0)) := fun b hb => own_typed hown b hb.symm
  have hno : ∀ b, LB Bl a1 a2 b → some b ≠ v.ownBlock := fun b hb e => by
    obtain ⟨cells, hc⟩ := hty b e
    rcases h.noRow b hb cells _ hc with h1 | h1
    · exact absurd h1 (by decide)
    · exact absurd h1 (by decide)
  refine h.keptU hf (hno a1 (Or.inr (Or.inl rfl))) (hno a2 (Or.inr (Or.inr rfl))) (hno Bl (Or.inl rfl)) (fun b hb cells hc => ?_) (fun b hb => Nat.le_trans hbase (own_base hown b hb.symm))
  obtain ⟨cells2, hc2⟩ := hty b hb
  rw [hc] at hc2
  injection hc2 with hc2
  injection hc2 with _ hc2
  exact absurd hc2 (by decide)
/-- A row of bytes of one's own may be laid into a row of records. -/
theorem row_M {base : Nat} {ok ok2 : Nat → Prop} {v vout : Value} {xs : List Int} {out : List (List Int)} (h : (Kd.int .u8).R 5 w base ok v xs) (g : Rs w base ok2 vout out) : KR.M w base (fun k => some k ≠ vout.ownBlock) xs [v] := by
  obtain ⟨inner, hown⟩ := Kd.R_own g
  refine ⟨v, rfl, Kd.R_mono (Kd.R_bound h) (fun k hk e => ?_)⟩
  obtain ⟨_, _, _, q, hq, cells, hc⟩ := hk
  obtain rfl : q = 5 := by simpa [Kd.int, Kd.scalar] using hq
  obtain ⟨c2, hc2⟩ := own_typed hown k e.symm
  rw [hc] at hc2
  injection hc2 with hc2
  injection hc2 with _ hc2
  exact absurd hc2 (by decide)
theorem errQ_fr {x : Option Er} {v : Value} {S : Nat → Prop} (h : IsErr? w x v) (hf : Fr S w w') (hS : ∀ b, S b → ∀ cs, w.heap[b]? ≠ some (.cells cs 139 (0, 0))) : IsErr? w' x v := by
  cases x with
  | none => exact h
  | some x => exact isErr_fr h hf hS
end
theorem cell_keep {w W : World} {p : Addr} {v : Value} (hb : Below w.heap.size w W) (h : w.cell? p = some v) : W.cell? p = some v := by
  have hlt : p.block < w.heap.size := by
    by_cases h2 : p.block < w.heap.size
    · exact h2
    · simp [World.cell?, Array.getElem?_eq_none (Nat.le_of_not_lt h2)] at h
  have := hb.block p.block hlt
  simp only [World.cell?] at h ⊢
  rw [this]; exact h
theorem nB_300 (n : Nat) (h : n ≤ 300) : nB n ≤ 6 := by unfold nB; omega
theorem facts3 {W : World} {B : Nat} {t : TypeId} {v0 v1 v2 : Value} (h : W.heap[B]? = some (.cells #[v0, v1, v2] t (0, 0))) :
    W.cell? ⟨B, 0, none⟩ = some v0 ∧ W.cell? ⟨B, 1, none⟩ = some v1 ∧ W.cell? ⟨B, 2, none⟩ = some v2 := ⟨Err.blk_cell h 0 _ rfl, Err.blk_cell h 1 _ rfl, Err.blk_cell h 2 _ rfl⟩
def z60 : List Int := List.replicate 60 0
theorem z60_bytes : ∀ x ∈ z60, 0 ≤ x ∧ x ≤ 255 := by
  intro x hx
  have := List.eq_of_mem_replicate hx
  omega
theorem made60 (W : World) : (Kd.int .u8).C (W.alloc (Obj.cells (Array.replicate 60 (Value.int .u8 0)) 5)) (some ⟨W.heap.size, 0, none⟩) 60 z60 := by
  have h := heap_alloc_new W (Obj.cells (Array.replicate 60 (Value.int .u8 0)) 5)
  have := lit_C _ W.heap.size z60 (by rw [h]; rfl) (by decide)
  exact this
theorem told1 : ∃ C', appS ⟨((4 : Nat) : Int), false, 0, 0, 0⟩ (fun _ => none) 0 ([] : List (List Int)).length (need []) z60 = (none, ⟨((4 : Nat) : Int), false, 0, 2, 0⟩, C') := ⟨(appS ⟨((4 : Nat) : Int), false, 0, 0, 0⟩ (fun _ => none) 0 ([] : List (List Int)).length (need []) z60).2.2, by kernel_rfl⟩
theorem told2 (C : CT) : ∃ C', appS (armS ⟨((4 : Nat) : Int), false, 0, 2, 0⟩ 2) C 0 [z60].length (need [z60]) z60 = (some (.fault diskS 0 (.num 70)), ⟨((4 : Nat) : Int), true, 0, 3, 1⟩, C') := ⟨(appS (armS ⟨((4 : Nat) : Int), false, 0, 2, 0⟩ 2) C 0 [z60].length (need [z60]) z60).2.2, by kernel_rfl⟩
theorem told3 (C : CT) : appS (restartS ⟨((4 : Nat) : Int), true, 0, 3, 1⟩) C 0 [z60].length (need [z60]) [] = (some (.num 70), ⟨((4 : Nat) : Int), false, 0, 3, 1⟩, C) := by kernel_rfl
set_option maxHeartbeats 16000000 in
set_option maxRecDepth 100000 in
theorem told_law (w : World) (hL : Laid w) : Calls Tryd.prog 26 #[] w fun e w' => e = .returned (.bool true) ∧ Below w.heap.size w w' := by
  have HL := Aside0.mk hL
  clear hL
  have hm1 := print_make_of (P := Tryd.prog) 30 5 (.int .u8 0) 1 Tryd.underlying30 info8 rfl (by decide) 60 (by omega)
  rw [madeL] at hm1
  have hm2 : ∀ W : World, (Instr.makeSlice 30 (.int .i64 60) (.int .i64 60)).run Tryd.prog W = .ok (.slice (some ⟨W.heap.size, 0, none⟩) 60 60) (W.alloc (Obj.cells (Array.replicate 60 (Value.int .u8 0)) 5)) := fun W => by
    have := hm1 W
    rw [List.toArray_replicate] at this
    exact this
  clear hm1
  go_enter Tryd.func26, Tryd.ntmps26
  go_wp2_with fail
  refine (new_dx ((4 : Nat) : Int) w (by decide) (by decide)).mono ?_
  rintro e w1 ⟨a1, a2, rfl, hD, hu, hb⟩
  have K1 := Aside0.mk (DkB.new hD hu hb (by decide))
  clear hD hu hb
  go_wp2_with fail
  refine (K1.out.open rfl).mono ?_
  rintro e w2 ⟨Bl, vout, rfl, hR, hb, K⟩
  have K2 := Aside0.mk K
  obtain ⟨A4, c4, rfl⟩ := Kd.R_slice hR
  clear hR hb K K1
  obtain ⟨C1, t1⟩ := told1
  have M3 := made60 w2
  have K3 := Aside0.mk (K2.out.below (below_alloc (Below.refl _ _) (Obj.cells (Array.replicate 60 (Value.int .u8 0)) 5)))
  have Q3 := Aside0.mk (K3.out.app HL.out _ 60 z60 M3 (by decide) (by decide) z60_bytes (by decide) (by decide))
  rw [t1] at Q3
  clear M3 K2 t1
  go_wp2_with fail
  refine Q3.out.mono ?_
  rintro e w4 ⟨v4, rfl, hE, hf, K⟩
  obtain rfl : v4 = .nilIface := hE
  have K4 : Aside0 (LgB w w4 a1 a2 Bl 2 ⟨((4 : Nat) : Int), false, 0, 2, 0⟩ C1 0 [z60] 4) := ⟨K⟩
  clear hf K Q3 K3
  go_wp2_with fail
  refine (arm_dx K4.out.d.dx 2).mono ?_
  rintro e w5 ⟨rfl, hD, hf⟩
  have K5 := Aside0.mk (K4.out.call hD hf rfl)
  clear hD hf K4
  obtain ⟨C2, t2⟩ := told2 C1
  have M6 := made60 w5
  have K6 := Aside0.mk (K5.out.below (below_alloc (Below.refl _ _) (Obj.cells (Array.replicate 60 (Value.int .u8 0)) 5)))
  have Q6 := Aside0.mk (K6.out.app HL.out _ 60 z60 M6 (by decide) (by decide) z60_bytes (by decide) (by decide))
  rw [t2] at Q6
  clear M6 K5 t2
  go_wp2_with fail
  refine Q6.out.mono ?_
  rintro e w7 ⟨v7, rfl, hE, hf, K⟩
  have K7 : Aside0 (LgB w w7 a1 a2 Bl 4 ⟨((4 : Nat) : Int), true, 0, 3, 1⟩ C2 0 [z60] 4) := ⟨K⟩
  have E7 := Aside0.mk (show IsErr? w7 (some (.fault logS 0 (.fault diskS 0 (.num 70)))) v7 from hE)
  clear hE hf K Q6 K6
  go_wp2_with fail
  refine (restart_dx K7.out.d.dx).mono ?_
  rintro e w8 ⟨rfl, hD, hf⟩
  have K8 := Aside0.mk (K7.out.call hD hf rfl)
  have E8 := Aside0.mk (errQ_fr E7.out hf K7.out.d.dx.noErr)
  clear hD hf K7 E7
  have Q9 := Aside0.mk (K8.out.app HL.out none 0 [] (⟨rfl, by simp, fun h => absurd h (Nat.lt_irrefl 0)⟩) (Nat.le_refl _) (by decide) (fun x hx => by cases hx) (by decide) (by decide))
  rw [told3 C2] at Q9
  go_wp2_with fail
  refine Q9.out.mono ?_
  rintro e w9 ⟨v9, rfl, hE, hf, K⟩
  have K9 : Aside0 (LgB w w9 a1 a2 Bl 5 ⟨((4 : Nat) : Int), false, 0, 3, 1⟩ C2 0 [z60] 4) := ⟨K⟩
  have E9 := Aside0.mk (show IsErr? w9 (some (.fault logS 0 (.num 70))) v9 from hE)
  have E9b := Aside0.mk (errQ_fr E8.out hf K8.out.noErr)
  clear hE hf K Q9 K8 E8
  go_wp2_with fail
  refine (K9.out.d.open rfl).mono ?_
  rintro e wa ⟨Bm, vo, rfl, hR, hb, K⟩
  have Ka := Aside0.mk K
  have Kb := Aside0.mk (K9.out.below hb)
  have Ea := Aside0.mk (E9.out.below hb (Nat.le_refl _))
  have Eb := Aside0.mk (E9b.out.below hb (Nat.le_refl _))
  obtain ⟨A5, c5, rfl⟩ := Kd.R_slice hR
  obtain ⟨ad, A0, c0, rfl, m0, t0, r0⟩ := at_B (Kd.R_reads' hR).2.2 0 (by decide)
  rw [show ad.add 0 = ad from by simp [Addr.add], show ([z60].getD 0 []).length = 60 from rfl] at m0
  clear hR hb K E9 E9b K9 t0 r0
  have LW := Aside0.mk (Ka.out.d.laid HL.out)
  go_wp2_with (first
    | (go_at_call 27; refine (code_law _ _ wa Eb.out LW.out).mono ?_; rintro e wb ⟨rfl, hb⟩; rw [show codeOf (some (Er.fault logS 0 (Er.fault diskS 0 (Er.num 70)))) = 70 from rfl]; have Bb := Aside0.mk hb; have Ec := Aside0.mk (Ea.out.below hb (Nat.le_refl _)); clear hb)
    | (go_at_call 27; refine (code_law _ _ wb Ec.out (LW.out.below Bb.out (Nat.le_refl _))).mono ?_; rintro e wc ⟨rfl, hb⟩; rw [show codeOf (some (Er.fault logS 0 (Er.num 70))) = 70 from rfl]; have Bc := Aside0.mk (Bb.out.trans (hb.mono Bb.out.size)); have mc := cell_keep Bc.out m0; have Kc := Aside0.mk (Ka.out.below Bc.out); have Kd' := Aside0.mk (Kb.out.below Bc.out); clear hb)
    | (go_at_call 24; refine (left_calls Kc.out.lx Kc.out.d.dx).mono ?_; rintro e wd ⟨he, ⟨md, rfl⟩⟩; obtain rfl := he.trans (show _ = Ending.returned (.int .i64 2) from by kernel_rfl))
    | (go_at_call 32; refine (log_Blocks.calls ((57 : Nat) : Int) ((nB 57 : Nat) : Int) _ (log_Blocks_f 57 (by decide))).mono ?_; rintro e we ⟨he, hb⟩; obtain rfl := he.trans (show _ = Ending.returned (.int .i64 2) from by kernel_rfl); have Be := Aside0.mk (below_step (pw_below_drewN Bc.out _) hb); clear hb)
    | (go_at_call 23; refine (len_calls (Kb.out.below Be.out).lx).mono ?_; rintro e wf ⟨he, rfl⟩; obtain rfl := he.trans (show _ = Ending.returned (.int .i64 1) from by kernel_rfl)))
  go_ret
  exact ⟨rfl, (Ka.out.d.fr.trans (Fr.of_below Be.out)).below (Nat.le_refl _) (fun _ h => h)⟩
end Go.Proofs.YtlhjjjpldmekdaaDoor.PDsk.K
