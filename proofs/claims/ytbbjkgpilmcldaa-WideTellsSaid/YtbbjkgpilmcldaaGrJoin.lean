/- Proved: what wide.joined hands back, what its functions tell, and what wide.Join hands back; condition: a function from 0 to 3, at most 100000 rows of numbers that fit on each side. -/
import Derived.Test.YtbbjkgpilmcldaaGrFold
namespace Go.Proofs.Ytbbjkgpilmcldaa.Seq
open Go.RowKit Go.Maps Go.ChangeShapes Go.Shelf
open Go.Proofs.YtbbjkgpilmcldaaW.PrintWords Go.Proofs.YtbbjkgpilmcldaaW.PrintLast Go.Proofs.YtbbjkgpilmcldaaW.PrintMore
attribute [local go_sem] Oper.semAt_some store_func
set_option linter.unusedVariables false
set_option linter.unusedSimpArgs false
def fnJ : Nat → Nat
  | 0 => 62
  | 1 => 63
  | 2 => 64
  | _ => 65
def tellJ (f : Nat) (v w : Int) : Int := match f with
  | 0 => wrap64 (v + w)
  | 1 => wrap64 (v * w)
  | 2 => v
  | _ => w
theorem tellJ_ok {f : Nat} {v w : Int} (hv : okI v) (hw : okI w) : okI (tellJ f v w) := by
  unfold tellJ
  split
  · exact wrap64_ok _
  · exact wrap64_ok _
  · exact hv
  · exact hw
def joiners : Array Value := #[.func (.func 62) #[] #[], .func (.func 63) #[] #[], .func (.func 64) #[] #[], .func (.func 65) #[] #[]]
set_option maxHeartbeats 2000000 in
set_option maxRecDepth 100000 in
theorem joined_calls (f : Nat) (hf : f ≤ 3) (w : World) : Calls Try.prog 43 #[.int .i64 (f : Int)] w fun e w' => e = .returned (.tuple #[.func (.func (fnJ f)) #[] #[], .bool true]) ∧ Below w.heap.size w w' := by
  have h : f = 0 ∨ f = 1 ∨ f = 2 ∨ f = 3 := by omega
  clear hf
  have hA : (w.alloc (.cells joiners 47)).heap[w.heap.size]? = some (.cells joiners 47 (0, 0)) := World.alloc_heap_new w _
  have c0 := blk_c hA 0
  have c1 := blk_c hA 1
  have c2 := blk_c hA 2
  have c3 := blk_c hA 3
  unfold joiners at c0 c1 c2 c3
  clear hA
  rcases h with rfl | rfl | rfl | rfl
  all_goals
    go_enter Try.func43, Try.ntmps43
    go_wp2
    go_ret2
    exact ⟨rfl, (Below.refl _ w).alloc (Nat.le_refl _) _⟩
theorem j1_calls (x v : Int) (w : World) : Calls Try.prog 62 #[.int .i64 x, .int .i64 v] w fun e w' => e = .returned (.int .i64 (wrap64 (x + v))) ∧ w' = w := by
  go_enter Try.func62, Try.ntmps62
  go_wp2
  go_ret
  exact ⟨rfl, rfl⟩
theorem j2_calls (x v : Int) (w : World) : Calls Try.prog 63 #[.int .i64 x, .int .i64 v] w fun e w' => e = .returned (.int .i64 (wrap64 (x * v))) ∧ w' = w := by
  go_enter Try.func63, Try.ntmps63
  go_wp2
  go_ret
  exact ⟨rfl, rfl⟩
theorem j3_calls (x v : Int) (w : World) : Calls Try.prog 64 #[.int .i64 x, .int .i64 v] w fun e w' => e = .returned (.int .i64 x) ∧ w' = w := by
  go_enter Try.func64, Try.ntmps64
  go_wp2
  go_ret
  exact ⟨rfl, rfl⟩
theorem j4_calls (x v : Int) (w : World) : Calls Try.prog 65 #[.int .i64 x, .int .i64 v] w fun e w' => e = .returned (.int .i64 v) ∧ w' = w := by
  go_enter Try.func65, Try.ntmps65
  go_wp2
  go_ret
  exact ⟨rfl, rfl⟩
theorem tellJ_calls (f : Nat) (hf : f ≤ 3) (x v : Int) (w : World) : Calls Try.prog (fnJ f) #[.int .i64 x, .int .i64 v] w fun e w' => e = .returned (.int .i64 (tellJ f x v)) ∧ w' = w := by
  have h : f = 0 ∨ f = 1 ∨ f = 2 ∨ f = 3 := by omega
  rcases h with rfl | rfl | rfl | rfl
  · exact j1_calls x v w
  · exact j2_calls x v w
  · exact j3_calls x v w
  · exact j4_calls x v w
theorem tellJ_enter (f : Nat) (hf : f ≤ 3) : ∀ args w, (callFunc (fnJ f) args).run Try.prog w = .ok (.enter (fnJ f) args) w := by
  have h : f = 0 ∨ f = 1 ∨ f = 2 ∨ f = 3 := by omega
  rcases h with rfl | rfl | rfl | rfl
  · exact enters_of Try.func62 (by kernel_rfl) rfl
  · exact enters_of Try.func63 (by kernel_rfl) rfl
  · exact enters_of Try.func64 (by kernel_rfl) rfl
  · exact enters_of Try.func65 (by kernel_rfl) rfl
/-! ### what Join tells -/
def pairsV (f : Nat) (k v : Int) (ws : List Int) : List RowT := ws.map fun u => ⟨k, tellJ f v u⟩
def pairsK (f : Nat) (a b : List RowT) (k : Int) : List RowT := (valsOf a k).flatMap fun v => pairsV f k v (valsOf b k)
def pairsA (f : Nat) (a b : List RowT) (ks : List Int) : List RowT := ks.flatMap (pairsK f a b)
def joinF (f : Nat) (a b : List RowT) : List RowT := (pairsA f a b (keysS a)).take 64
/-- Operations of a drawn region: a call. -/
theorem op_callI {P : Program} {ops : Array Oper} {Q : Exit → Act → World → Prop} {F : Fence} {n : Nat} {i : Nat} {o : Oper} {K : Act → World → Prop} {a : Act} {w w1 : World} {g : FuncId} {args : Array Value} (hi : ops[i]? = some o) (hg : o.guard = none) (hF : ∀ f, F.fn f) (hd : F.depth = none) (hrun : (o.semAt F.round a.eval).run P w = .ok (.enter g args) w1)
    (h : CallsIn F (n - 1) P g args w1 fun e w'' => ∃ v, e = .returned v ∧ K (a.put o.dst v) w'') : wpOpIn F n P ops Q i K a w := by
  unfold wpOpIn
  rw [hi]
  simp only
  rw [if_pos (Reg.wanted_free hg)]
  unfold Oper.wpIn
  rw [hrun]
  refine ⟨fun f _ => hF f, fun hh => (by rw [hd] at hh; cases hh), CallsIn.mono h (fun e w'' he => ?_)⟩
  obtain ⟨v, rfl, hk⟩ := he
  exact hk
theorem Fr.row' {S : Nat → Prop} {w A B : World} {row : Option Nat} (h : Fr S w A) (hg : A.grownBy B row) (hr : ∀ r, row = some r → S r ∨ w.heap.size ≤ r) : Fr S w B :=
  ⟨hg.os.trans h.os, hg.tape.trans h.tape, hg.output.trans h.output, Nat.le_trans h.size hg.size, fun k hk hs => (hg.block k (Nat.lt_of_lt_of_le hk h.size) (fun e => (hr k e.symm).elim hs (fun h => by omega))).trans (h.block k hk hs)⟩
theorem op_skipI {P : Program} {ops : Array Oper} {Q : Exit → Act → World → Prop} {F : Fence} {n : Nat} {i : Nat} {o : Oper} {K : Act → World → Prop} {a : Act} {w w1 : World} (hi : ops[i]? = some o) (hg : o.guard = none) (hF : ∀ f, F.fn f) (hrun : (o.semAt F.round a.eval).run P w = .ok .skip w1) (h : K (a.put o.dst undef) w1) : wpOpIn F n P ops Q i K a w := by
  unfold wpOpIn
  rw [hi]
  simp only
  rw [if_pos (Reg.wanted_free hg)]
  unfold Oper.wpIn
  rw [hrun]
  exact ⟨fun f _ => hF f, h⟩
theorem results_cell1 {fn : Func} {p : Tmp} {ty e : TypeId} (h : fn.results = #[.cell p ty]) (tmps : Array Value) (P : Program) (w : World) (g : Nat) (v : Value) (hp : tmps.getD p undef = .pointer (some ⟨g, 0, none⟩)) (hu : P.underlying ty = some (.slice e)) (hc : w.cell? ⟨g, 0, none⟩ = some v) : (results fn tmps).run P w = .ok v w := by
  simp only [results, h]
  rw [Array.getD_eq_getD_getElem?] at hp
  simp [Sem.run_bind, Result.andThen, hp, loadVar, isAgg, run_underlying hu, hc, go_sem]
theorem leavesC {F : Fence} {n : Nat} {P : Program} {fn : Func} {tmps : Array Value} {t : Tmp} {ty e : TypeId} {R : Ending → World → Prop} {w We : World} {D1 D2 Br : Nat} {T : TypeId} {L : List RowT} {v : Value} (hres : fn.results = #[.cell t ty]) (hv : tmps.getD t undef = .pointer (some ⟨Br, 0, none⟩)) (hu : P.underlying ty = some (.slice e))
    (hc : We.heap[Br]? = some (.cells #[v] T (0, 0))) (h2 : We.heap[D2]? = some (.deferred (some []))) (h1 : We.heap[D1]? = some (.deferred (some []))) (hne : D1 ≠ D2) (hb1 : Br ≠ D1) (hb2 : Br ≠ D2) (hl1 : w.heap.size ≤ D1) (hl2 : w.heap.size ≤ D2) (hR : RowsAt We w.heap.size v L) (hb : Below w.heap.size w We)
    (hRt : ∀ W', RowsAt W' w.heap.size v L → Below w.heap.size w W' → R (.returned v) W') :
    LeavesInM F n P fn tmps R [{ target := .collected D2, args := #[] }, { target := .collected D1, args := #[] }] .returning We := by
  have h1' : (We.putObj D2 (.deferred none)).heap[D1]? = some (.deferred (some [])) := (World.putObj_heap_other hne).trans h1
  refine ⟨by simp, .inl ⟨D2, _, rfl, run_takeDeferred h2, by simp, .inl ⟨D1, _, rfl, run_takeDeferred h1', v, ?_, hRt _ ((hR.put h2 rfl).put h1' rfl) ?_⟩⟩⟩
  · exact results_cell1 hres tmps P _ Br v hv hu (blk_c ((World.putObj_heap_other hb1).trans ((World.putObj_heap_other hb2).trans hc)) 0)
  · have e : ∀ (X : World) (D : Nat), w.heap.size ≤ D → Below w.heap.size w X → Below w.heap.size w (X.putObj D (.deferred none)) := fun X D hD hX => hX.grown (grownBy_putObj' X D _) hX.size (fun j hj => by cases hj; exact hD)
    exact e _ _ hl1 (e _ _ hl2 hb)
theorem ints_read {W : World} {base : Nat} {v : Value} {zs : List Int} (h : W.ownsInts base 3 .i64 v zs) : ∃ A c, v = .slice A zs.length c ∧ ∀ j y, zs[j]? = some y → ∃ ad, A = some ad ∧ W.cell? (ad.add j) = some (.int .i64 y) := by
  obtain ⟨g, hI, _⟩ := ints_of_own (by simpa using h.1)
  rcases hI with ⟨rfl, rfl⟩ | ⟨c, rfl, hc⟩
  · exact ⟨none, 0, rfl, fun j y hj => by simp at hj⟩
  · refine ⟨_, c, rfl, fun j y hj => ⟨_, rfl, ?_⟩⟩
    have hjl := (List.getElem?_eq_some_iff.1 hj).1
    rw [add_plain, hc j hjl, List.getD_eq_getElem?_getD, hj]
    rfl
set_option maxRecDepth 100000 in
theorem VsAt.look2 {w : World} {lo b n : Nat} {ks : List Int} {l : List RowT} (h : VsAt w lo b n ks l) {k : Int} (hk : okI k) :
    ∃ v, w.ownsInts lo 3 .i64 v (if k ∈ ks then valsOf l k else []) ∧ ∀ w' : World, w'.heap[b]? = w.heap[b]? → (Instr.lookup 57 (.map (some b)) (.int .i64 k) false).run Try.prog w' = .ok v w' := by
  obtain ⟨D, hM, hD⟩ := h.map
  obtain ⟨v', h1, h2⟩ := hD k hk
  refine ⟨v', h2, fun w' hw => ?_⟩
  obtain ⟨es, clock, hb, F, hs, hd⟩ := hM
  have hM' : w'.ownsMap Try.prog 3 heldElem b n D := ⟨es, clock, hw.trans hb, F, hs, hd⟩
  obtain ⟨v, ps, hrun, hv⟩ := World.ownsMap.lookup hM' lawI Try.underlying57 (zeroS w') (zd := nilRow) (zp := []) rfl (key_of hk)
  have e : DataW.held v = D.atKey (.int .i64 k) nilRow := congrArg Prod.fst (Option.some.inj hv)
  rw [h1] at e
  injection e with e
  subst e
  exact hrun
/-- Where the pairs of a key are being laid. -/
structure LS (f Bo N : Nat) (X X' W : World) (v : Value) (out : List RowT) : Prop where
  fr : Fr (fun k => k = Bo ∨ (N ≤ k ∧ k < X.heap.size)) X' W
  box : W.heap[Bo]? = some (.cells #[v] 22 (0, 0))
  rows : RowsAt W N v out
  at_ : ∀ k, v.ownBlock = some k → (N ≤ k ∧ k < X.heap.size) ∨ X'.heap.size ≤ k
  len : out.length ≤ 64
/-- What stands in memory while a pair is laid, in which order ever. -/
structure JH (X XL W10 W11 Z : World) (b0 b2 b5 b6 b7 b8 b9 : Bool) : Prop where
  d0 : b0 = false → b8 = false
  d2 : b2 = false → b5 = false
  d5 : b5 = false → b6 = false
  d6 : b6 = false → b7 = false
  d7 : b7 = false → b8 = false
  d8 : b8 = false → b9 = false
  pa : b7 = false → Z = X.drew
  pb : b7 = true → b8 = false → Z = XL
  pc : b8 = true → b9 = false → Z = W10
  pd : b9 = true → Z = W11
/-- What Join holds: the function, and the box of what it hands back. -/
structure JA (f Br Bt : Nat) (W : World) : Prop where
  tel : W.heap[Bt]? = some (.cells #[.func (.func (fnJ f)) #[] #[]] 47 (0, 0))
  res : ∃ v, W.heap[Br]? = some (.cells #[v] 22 (0, 0))
theorem JA.kept {f Br Bt : Nat} {W W' : World} {S : Nat → Prop} (h : JA f Br Bt W) (hf : Fr S W W') (h1 : ¬ S Br) (h2 : ¬ S Bt) : JA f Br Bt W' := by
  obtain ⟨v, hv⟩ := h.res
  exact ⟨(hf.block _ (Array.getElem?_eq_some_iff.1 h.tel).1 h2).trans h.tel, v, (hf.block _ (Array.getElem?_eq_some_iff.1 hv).1 h1).trans hv⟩
set_option maxHeartbeats 4000000 in
set_option maxRecDepth 100000 in
theorem join_calls (f : Nat) (hf : f ≤ 3) (A0 : Option Addr) (c0 : Nat) (A1 : Option Addr) (c1 : Nat) (la lb : List RowT) (w : World) (hC0 : kRow.C w A0 la.length la) (hC1 : kRow.C w A1 lb.length lb) (hla : la.length ≤ 100000) (hlb : lb.length ≤ 100000) (hok0 : ∀ r ∈ la, okRow r) (hok1 : ∀ r ∈ lb, okRow r) :
    Calls Try.prog 24 #[.int .i64 (f : Int), .slice A0 la.length c0, .slice A1 lb.length c1] w fun e w' => ∃ v, e = .returned v ∧ RowsAt w' w.heap.size v (joinF f la lb) ∧ Below w.heap.size w w' := by
  have HC0 := Aside0.mk hC0
  have HC1 := Aside0.mk hC1
  have HOK0 := Aside0.mk hok0
  have HOK1 := Aside0.mk hok1
  have hmm := @run_makeMap Try.prog
  clear hC0 hC1 hok0 hok1
  have ht43 : Fence.wide.fn 43 := trivial
  have ht17 : Fence.wide.fn 17 := trivial
  obtain ⟨Br, hBr⟩ : ∃ Br, w.heap.size = Br := ⟨_, rfl⟩
  obtain ⟨W0, hW0⟩ : ∃ W0, w.alloc (.cells #[.slice none 0 0] 22) = W0 := ⟨_, rfl⟩
  have hb0 : Below w.heap.size w W0 := by rw [← hW0]; exact (Below.refl _ w).alloc (Nat.le_refl _) _
  have hs0 : W0.heap.size = Br + 1 := by rw [← hW0, ← hBr]; simp
  have hr0 : W0.heap[Br]? = some (.cells #[.slice none 0 0] 22 (0, 0)) := by rw [← hW0, ← hBr]; exact World.alloc_heap_new w _
  have HJ := Aside0.mk (joined_calls f hf W0)
  refine (callsIn_wide (n := 6)).1 ?_
  refine callsIn_of_wp_marks Try.func24 rfl trivial ?_ rfl
  simp only [Try.ntmps24, List.size_toArray, List.length_cons, List.length_nil, Nat.reduceAdd, Nat.reduceSub, Array.replicate_succ, Array.replicate_zero, List.push_toArray, List.append_toArray, List.nil_append, List.cons_append]
  gi_wp2_with (first
    | (gi_at_call 43; refine (callsIn_wide.2 HJ.out).mono ?_; rintro e' W1 ⟨rfl, hb1⟩))
  obtain ⟨Bt, hBt⟩ : ∃ Bt, W1.heap.size = Bt := ⟨_, rfl⟩
  have hBrt : Br + 1 ≤ Bt := by rw [← hBt, ← hs0]; exact hb1.size
  obtain ⟨W3, hW3⟩ : ∃ W3, (((W1.alloc (.cells #[.func (.func (fnJ f)) #[] #[]] 47)).alloc (.map #[] 0)).alloc (.cells #[.map (some (Bt + 1))] 57)) = W3 := ⟨_, rfl⟩
  have hb3 : Below W1.heap.size W1 W3 := by rw [← hW3]; exact (((Below.refl _ W1).alloc (Nat.le_refl _) _).alloc (by simp) _).alloc (by simp; omega) _
  have hs3 : W3.heap.size = Bt + 3 := by rw [← hW3, ← hBt]; simp
  have JA3 : JA f Br Bt W3 := by
    refine ⟨?_, _, (hb3.block _ (by omega)).trans ((hb1.block _ (by omega)).trans hr0)⟩
    rw [← hW3, ← hBt]
    exact (Below.heap_alloc _ _ _ (by simp; omega)).trans ((Below.heap_alloc _ _ _ (by simp)).trans (World.alloc_heap_new W1 _))
  have hvb : W3.heap[Bt + 1 + 1]? = some (.cells #[.map (some (Bt + 1))] 57 (0, 0)) := by
    rw [← hW3, ← hBt]
    have := World.alloc_heap_new ((W1.alloc (.cells #[.func (.func (fnJ f)) #[] #[]] 47)).alloc (.map #[] 0)) (.cells #[.map (some (W1.heap.size + 1))] 57)
    rwa [World.size_alloc, World.size_alloc] at this
  have hvs : VsAt W3 (Bt + 3) (Bt + 1) 0 [] lb := by
    have := VsAt.made (W1.alloc (.cells #[.func (.func (fnJ f)) #[] #[]] 47)) (Bt + 3) lb (by simp; omega)
    rw [World.size_alloc, hBt] at this
    rw [← hW3]
    exact this.kept (S := fun _ => False) ((Fr.refl _ _).alloc _) (fun h => h) (fun _ _ _ h => h)
  have hbw3 : Below w.heap.size w W3 := hb0.trans (((hb1.trans (hb3.mono hb1.size))).mono hb0.size)
  have HG1 := Aside0.mk (groups_calls A1 c1 lb W3 (Kd.C_below HC1.out hbw3) hlb HOK1.out)
  gi_wp2_with (first
    | (gi_at_call 17; rw [hBt, hW3]; refine (callsIn_wide.2 HG1.out).mono ?_; rintro e' W7 ⟨Bm, b, D, rfl, hb0', hbB, hBm, hG, hb7⟩))
  have hs7 : Bt + 3 ≤ W7.heap.size := by rw [← hs3]; exact hb7.size
  rw [hs3] at hb0'
  have hseq := groups_V (· = Bt + 1) Bm b W7.heap.size D lb W7 (GrpF.new hG hbB hBm) hlb HOK1.out (fun k e => by omega) (fun k h1 h2 e => by omega)
  have JA7 : Aside0 (JA f Br Bt W7) := ⟨JA3.kept (S := fun _ => False) (Fr.of_below hb7) (fun h => h) (fun h => h)⟩
  have HV7 : Aside0 (VsAt W7 (Bt + 3) (Bt + 1) 0 [] lb) := ⟨hvs.kept (Fr.of_below hb7) (fun h => h) (fun _ _ _ h => h)⟩
  have HX7 : Aside0 (W7.heap[Bt + 1 + 1]? = some (.cells #[.map (some (Bt + 1))] 57 (0, 0))) := ⟨(hb7.block _ (by omega)).trans hvb⟩
  have HBW7 : Aside0 (Below w.heap.size w W7) := ⟨hbw3.trans (hb7.mono hbw3.size)⟩
  clear JA3 hvs hvb hbw3
  refine range_V (gf := 36) (lb := #[.pointer (some ⟨Bm, 0, none⟩)]) rfl (enters_of Try.func36 (by kernel_rfl) rfl) hseq (fun k e => by omega) (fun x _ _ r o o' h h0 h1 ho => RdG.put h h0 h1 ho) (Below.refl _ _) (fun _ => rfl)
    (fun N pre W => Fr (· = Bt + 1) W7 W ∧ VsAt W (Bt + 3) (Bt + 1) pre.length (pre.map (·.k)) lb)
    (fun _ _ _ _ => False) ?hI ?hIx ?h0 ?a1 ?assign ?body ?done ?stop
  case hI =>
    rintro N pre X X' row ⟨h1, h2⟩ hg hr
    exact ⟨h1.row hg (fun r e => (hr r e).1), h2.grown hg (fun r e => ⟨by have := (hr r e).1; omega, (hr r e).2⟩)⟩
  case hIx => exact fun _ _ _ _ _ _ h => h.elim
  case h0 => exact fun N => ⟨Fr.refl _ _, HV7.out⟩
  case assign =>
    intro lr x Z Kc hK
    gi_wp2
    exact hK
  case stop => rintro D' N c pre Z hD hpre h; exact h.elim
  case body =>
    rintro lr N pre x X X' hN1 hN2 hSp ⟨hfX, hvX⟩ hgr ⟨hk, hx⟩
    have hszX := hfX.size
    have hpl : pre.length ≤ 100000 := by
      have h1 := hSp.length_le
      rw [List.length_map, List.length_append] at h1
      have h2 := keysS_len lb
      have h3 := dk_len lb
      omega
    have hcx : X'.cell? ⟨Bt + 1 + 1, 0, none⟩ = some (.map (some (Bt + 1))) := blk_c (blk_new ((hfX.block _ (by omega) (by omega)).trans HX7.out) hgr) 0
    obtain ⟨W8, hrun, hv8, hf8⟩ := (hvX.grown hgr (fun r e => by cases e)).store (by unfold maxLen; omega) hk (ints_lower hx (by omega))
    have K8 : Aside0 (Fr (fun k => k = Bt + 1 ∨ N ≤ k) X' W8 ∧ Fr (· = Bt + 1) W7 W8 ∧ VsAt W8 (Bt + 3) (Bt + 1) (pre ++ [x]).length ((pre ++ [x]).map (·.k)) lb) := by
      refine ⟨hf8.mono (fun _ h => .inl h), (hfX.trans (Fr.of_grown hgr (by simp))).trans hf8, ?_⟩
      rw [List.length_append, List.map_append]
      exact hv8
    clear hv8 hf8
    gi_wp2
    exact K8.out
  case done =>
    rintro D' N xs Z hD hxs ⟨hfZ, hvZ⟩ hKD
    have hszZ := hfZ.size
    obtain ⟨Bo, hBo⟩ : ∃ Bo, Z.heap.size = Bo := ⟨_, rfl⟩
    obtain ⟨Zo, hZo⟩ : ∃ Zo, Z.alloc (.cells #[.slice none 0 0] 22) = Zo := ⟨_, rfl⟩
    have hbo : Below Z.heap.size Z Zo := by rw [← hZo]; exact (Below.refl _ _).alloc (Nat.le_refl _) _
    have hso : Zo.heap.size = Bo + 1 := by rw [← hZo, ← hBo]; simp
    have hob : Zo.heap[Bo]? = some (.cells #[.slice none 0 0] 22 (0, 0)) := by rw [← hZo, ← hBo]; exact World.alloc_heap_new Z _
    have HBWo : Aside0 (Below w.heap.size w Zo) := ⟨(HBW7.out.trans (hfZ.below HBW7.out.size (fun k e => by omega))).trans (hbo.mono (by have := HBW7.out.size; omega))⟩
    have HG2 := Aside0.mk (groups_calls A0 c0 la Zo (Kd.C_below HC0.out HBWo.out) hla HOK0.out)
    have JAo : Aside0 (JA f Br Bt Zo) := ⟨(JA7.out.kept hfZ (fun e => by omega) (fun e => by omega)).kept (S := fun _ => False) (Fr.of_below hbo) (fun h => h) (fun h => h)⟩
    have VSo : Aside0 (VsAt Zo (Bt + 3) (Bt + 1) xs.length (xs.map (·.k)) lb) := ⟨hvZ.kept (Fr.of_below hbo) (fun h => h) (fun _ _ _ h => h)⟩
    have HXo : Aside0 (Zo.heap[Bt + 1 + 1]? = some (.cells #[.map (some (Bt + 1))] 57 (0, 0))) := ⟨(hbo.block _ (by omega)).trans ((hfZ.block _ (by omega) (by omega)).trans HX7.out)⟩
    have HXS := Aside0.mk hxs
    clear hvZ hbo JA7 HX7 HBW7 hxs
    gi_wp2_with (first
      | (gi_at_call 17; refine (callsIn_wide.2 HG2.out).mono ?_; rintro e' W9 ⟨Bm2, b2, D2, rfl, hb02, hbB2, hBm2, hG2, hb9⟩))
    have hs9 : Bo + 1 ≤ W9.heap.size := by rw [← hso]; exact hb9.size
    rw [hso] at hb02
    have hseq2 := groups_V (fun k => k = Bo ∨ k = Br) Bm2 b2 W9.heap.size D2 la W9 (GrpF.new hG2 hbB2 hBm2) hla HOK0.out (fun k e => by omega) (fun k h1 h2 e => by omega)
    have JA9 : Aside0 (JA f Br Bt W9) := ⟨JAo.out.kept (S := fun _ => False) (Fr.of_below hb9) (fun h => h) (fun h => h)⟩
    have VS9 : Aside0 (VsAt W9 (Bt + 3) (Bt + 1) xs.length (xs.map (·.k)) lb) := ⟨VSo.out.kept (Fr.of_below hb9) (fun h => h) (fun _ _ _ h => h)⟩
    have HX9 : Aside0 (W9.heap[Bt + 1 + 1]? = some (.cells #[.map (some (Bt + 1))] 57 (0, 0))) := ⟨(hb9.block _ (by omega)).trans HXo.out⟩
    have HO9 : Aside0 (W9.heap[Bo]? = some (.cells #[.slice none 0 0] 22 (0, 0))) := ⟨(hb9.block _ (by omega)).trans hob⟩
    have HBW9 : Aside0 (Below w.heap.size w W9) := ⟨HBWo.out.trans (hb9.mono HBWo.out.size)⟩
    have hDW : D' < Bo := by rw [← hBo]; exact (Array.getElem?_eq_some_iff.1 hKD).1
    have HK9 : Aside0 (W9.heap[D']? = some (.deferred (some []))) := ⟨(hb9.block _ (by omega)).trans (by rw [← hZo]; exact (Below.heap_alloc _ _ _ (by omega)).trans hKD)⟩
    clear JAo VSo HXo hob HBWo hKD
    refine range_V (gf := 36) (lb := #[.pointer (some ⟨Bm2, 0, none⟩)]) rfl (enters_of Try.func36 (by kernel_rfl) rfl) hseq2 (fun k e => by omega) (fun x _ _ r o o' h h0 h1 ho => RdG.put h h0 h1 ho) (Below.refl _ _) (fun _ => rfl)
      (fun N pre W => Fr (· = Bo) W9 W ∧ (pairsA f la lb (pre.map (·.k))).length ≤ 64 ∧ ∃ v, W.heap[Bo]? = some (.cells #[v] 22 (0, 0)) ∧ RowsAt W N v (pairsA f la lb (pre.map (·.k))) ∧ RowsAt W W9.heap.size v (pairsA f la lb (pre.map (·.k))))
      (fun c N pre W => c = .ret ∧ Fr (fun k => k = Bo ∨ k = Br) W9 W ∧ ∃ v, W.heap[Br]? = some (.cells #[v] 22 (0, 0)) ∧ RowsAt W W9.heap.size v (joinF f la lb)) ?hI ?hIx ?h0 ?a2 ?assign ?body ?done ?stop
    case hI =>
      rintro N pre X X' row ⟨h1, h2, v, h3, h4, h5⟩ hg hr
      exact ⟨h1.row hg (fun r e => (hr r e).1), h2, v, (hg.block _ (Array.getElem?_eq_some_iff.1 h3).1 (fun e => by have := (hr Bo e.symm).1; omega)).trans h3, h4.grown hg (fun r e => (hr r e).2), h5.grown hg (fun r e => (hr r e).2)⟩
    case hIx =>
      rintro c N pre X X' row ⟨h0, h1, v, h3, h4⟩ hg hr
      exact ⟨h0, h1.row hg (fun r e => (hr r e).1), v, (hg.block _ (Array.getElem?_eq_some_iff.1 h3).1 (fun e => by have := (hr Br e.symm).1; omega)).trans h3, h4.grown hg (fun r e => (hr r e).2)⟩
    case h0 => exact fun N => ⟨Fr.refl _ _, by simp [pairsA], _, HO9.out, RowsAt.nil _ _, RowsAt.nil _ _⟩
    case assign =>
      intro lr x Z Kc hK
      gi_wp2
      exact hK
    case stop =>
      rintro D'' N c pre Z2 hD2 hpre ⟨rfl, hf2, v, hvb, hR⟩ hK2
      have hbz2 : Below w.heap.size w Z2 := HBW9.out.trans (hf2.below HBW9.out.size (fun k e => by omega))
      have hK1 : Z2.heap[D']? = some (.deferred (some [])) := (hf2.block _ (by omega) (by omega)).trans HK9.out
      gi_wp2
      exact leavesC (L := joinF f la lb) rfl rfl Try.underlying22 hvb hK2 hK1 (by omega) (by omega) (by omega) (by omega) (by omega) (Kd.R_lower hR HBW9.out.size) hbz2 (fun W' h1 h2 => by rw [hBr] at h1 h2; exact ⟨v, rfl, h1, h2⟩)
    case done =>
      rintro D'' N ys Z2 hD2 hys ⟨hf2, hl2, v, hvb, hR', hR⟩ hK2
      obtain ⟨A2, c2, rfl⟩ := Kd.R_slice hR
      obtain ⟨m, hm⟩ : ∃ m, (pairsA f la lb (ys.map (·.k))).length = m := ⟨_, rfl⟩
      rw [hm] at hvb hR
      obtain ⟨rv0, hres⟩ := (JA9.out.kept hf2 (fun e => by omega) (fun e => by omega)).res
      have hD2b := (Array.getElem?_eq_some_iff.1 hK2).1
      have cbo : Z2.cell? ⟨Bo, 0, none⟩ = some (.slice A2 m c2) := blk_c hvb 0
      have mF : Z2.frozen? ⟨Br, 0, none⟩ = false := blk_frozen hres 0
      have mB : Z2.cell? ⟨Br, 0, none⟩ = some rv0 := blk_c hres 0
      have hvr := blk_set hres 0 (.slice A2 m c2)
      have hfs : Fr (· = Br) Z2 (Z2.setCell ⟨Br, 0, none⟩ (.slice A2 m c2)) := (Fr.refl (· = Br) _).set rfl (.slice A2 m c2)
      have hbz2 : Below w.heap.size w (Z2.setCell ⟨Br, 0, none⟩ (.slice A2 m c2)) := (HBW9.out.trans (hf2.below HBW9.out.size (fun k e => by omega))).trans (hfs.below (by have := HBW9.out.size; have := hf2.size; omega) (fun k e => by omega))
      have hK1 : (Z2.setCell ⟨Br, 0, none⟩ (.slice A2 m c2)).heap[D']? = some (.deferred (some [])) := (hfs.block _ (by have := hf2.size; omega) (by omega)).trans ((hf2.block _ (by omega) (by omega)).trans HK9.out)
      have hK3 := (hfs.block _ hD2b (by omega)).trans hK2
      have hRr : RowsAt (Z2.setCell ⟨Br, 0, none⟩ (.slice A2 m c2)) W9.heap.size (.slice A2 m c2) (joinF f la lb) := by
        have e : joinF f la lb = pairsA f la lb (ys.map (·.k)) := by
          unfold joinF
          rw [show ys.map (·.k) = keysS la from hys] at hl2 ⊢
          exact List.take_of_length_le hl2
        rw [e]
        exact hR.kept hfs (fun k h1 h2 e => by omega)
      gi_wp2
      exact leavesC (L := joinF f la lb) rfl rfl Try.underlying22 hvr hK3 hK1 (by omega) (by omega) (by omega) (by omega) (by omega) (Kd.R_lower hRr HBW9.out.size) hbz2 (fun W' h1 h2 => by rw [hBr] at h1 h2; exact ⟨_, rfl, h1, h2⟩)
    case body =>
      rintro lr N pre x X X' hN1 hN2 hSp ⟨hfX, hl64, v, hvb, hR, hR9⟩ hgr ⟨hk, hx⟩
      have hszX := hfX.size
      have hszX' := hgr.size
      have hen := tellJ_enter f hf
      have HTL : Aside0 (∀ z y W, Calls Try.prog (fnJ f) #[.int .i64 z, .int .i64 y] W fun e w' => e = .returned (.int .i64 (tellJ f z y)) ∧ w' = W) := ⟨fun z y W => tellJ_calls f hf z y W⟩
      have hww : Fence.wide.fn (fnJ f) := trivial
      -- what stands where
      have FRW : Aside0 (∀ W, Fr (fun k => k = Bo ∨ (N ≤ k ∧ k < X.heap.size)) X' W → Fr (· = Bo) W9 W) := ⟨fun W hW => Fr.old (N := N) (((hfX.mono (fun _ h => .inl h)).trans (Fr.of_grown hgr (by simp))).trans (hW.mono (fun k h => h.imp_right (·.1)))) (by omega)⟩
      obtain ⟨ww, hoiW, hlook⟩ := VS9.out.look2 hk
      rw [vals_all HXS.out] at hoiW
      obtain ⟨ws, hws⟩ : ∃ ws, valsOf lb x.k = ws := ⟨_, rfl⟩
      obtain ⟨vs, hvs⟩ : ∃ vs, valsOf la x.k = vs := ⟨_, rfl⟩
      have hwl : ws.length ≤ 100000 := by rw [← hws]; have := valsOf_len lb x.k; omega
      have hvl : vs.length ≤ 100000 := by rw [← hvs]; have := valsOf_len la x.k; omega
      have HPK : Aside0 (pairsK f la lb x.k = vs.flatMap fun y => pairsV f x.k y ws) := ⟨by unfold pairsK; rw [hws, hvs]⟩
      rw [hws] at hoiW
      rw [hvs] at hx
      obtain ⟨Aw, cw, rfl, _⟩ := ints_read hoiW
      obtain ⟨xk, xv⟩ := x
      obtain ⟨Av, cv, hxv, _⟩ := ints_read hx
      dsimp only at hxv hk hx hlook HPK hws hvs hSp
      subst hxv
      have HWr : Aside0 (∀ W, Fr (· = Bo) W9 W → ∀ i u, ws[i]? = some u → ∃ ad, Aw = some ad ∧ W.cell? (ad.add i) = some (.int .i64 u)) := ⟨fun W hW i u hi => by
        obtain ⟨A, c, e, h⟩ := ints_read (ints_move hoiW (fun g hg => hW.block g (hoiW.1.lt g hg).2 (fun e => by
          obtain ⟨cs, hc⟩ := own_typed hoiW.1 g hg
          subst e
          rw [HO9.out] at hc
          cases hc)))
        injection e with e1 e2 e3
        rw [e1]
        exact h i u hi⟩
      have HVr : Aside0 (∀ W, Fr (fun k => k = Bo ∨ (N ≤ k ∧ k < X.heap.size)) X' W → ∀ i u, vs[i]? = some u → ∃ ad, Av = some ad ∧ W.cell? (ad.add i) = some (.int .i64 u)) := ⟨fun W hW i u hi => by
        obtain ⟨A, c, e, h⟩ := ints_read (ints_move hx (fun g hg => hW.block g (hx.1.lt g hg).2 (fun e => by
          have := (hx.1.lt g hg).1
          rcases e with e | e <;> omega)))
        injection e with e1 e2 e3
        rw [e1]
        exact h i u hi⟩
      have LS0 : Aside0 (∃ v, LS f Bo N X X' X' v (pairsA f la lb (pre.map (·.k)))) := ⟨⟨v, Fr.refl _ _, blk_new hvb hgr, hR.kept (Fr.of_grown hgr (S := fun _ => False) (by simp)) (fun _ _ _ h => h), fun k e => by
        obtain ⟨inner, ho⟩ := Kd.R_own hR
        exact .inl ⟨(ho.lt k e).1, (ho.lt k e).2⟩, hl64⟩⟩
      obtain ⟨P0, hP0⟩ : ∃ P0, pairsA f la lb (pre.map (·.k)) = P0 := ⟨_, rfl⟩
      rw [hP0] at LS0
      -- what is left to show at the ends
      have hPA : pairsA f la lb ((pre ++ [(⟨xk, .slice Av vs.length cv⟩ : Gx)]).map (fun x => x.k)) = P0 ++ vs.flatMap fun y => pairsV f xk y ws := by
        rw [List.map_append]
        unfold pairsA at hP0 ⊢
        rw [List.flatMap_append, hP0]
        simp [HPK.out]
      have HPA := Aside0.mk hPA
      have HPRE : Aside0 (P0 ++ (vs.flatMap fun y => pairsV f xk y ws) <+: pairsA f la lb (keysS la)) := ⟨by
        rw [← hPA]
        obtain ⟨t, ht⟩ := hSp
        rw [← ht]
        unfold pairsA
        rw [List.flatMap_append]
        exact List.prefix_append _ _⟩
      have HLK := Aside0.mk hlook
      have HFX := Aside0.mk hfX
      have HGR := Aside0.mk hgr
      clear hPA hP0 hR hR9 hoiW hx hlook hvb hSp
      gi_wp2
      gi_loopg [40] (vs.length + 1) (fun kq v40 wr => ∃ (j : Nat), v40 = .int .i64 (j : Int) ∧ j ≤ vs.length ∧ vs.length - j ≤ kq ∧ Aside0 (∃ v, LS f Bo N X X' wr v (P0 ++ (vs.take j).flatMap fun y => pairsV f xk y ws)))
      case atStart => exact ⟨0, rfl, by omega, by omega, ⟨by simpa using LS0.out⟩⟩
      case round =>
        obtain ⟨j, rfl, hj, hjq, K⟩ := hrel
        obtain ⟨gO, hgO⟩ : ∃ gO, gO = gk := ⟨_, rfl⟩
        by_cases hjl : j < vs.length
        · have q1 : decide ((j : Int) < (vs.length : Int)) = true := decide_eq_true (by omega)
          obtain ⟨y, hy⟩ : ∃ y, vs[j]? = some y := ⟨_, List.getElem?_eq_getElem hjl⟩
          obtain ⟨v1, L1⟩ := K.out
          obtain ⟨ad, e0, g0⟩ := HVr.out wr L1.fr j y hy
          subst e0
          have p0' : (0 : Int) ≤ (j : Int) := by omega
          have p1' : (j : Int) < (vs.length : Int) := by omega
          have F9 := FRW.out wr L1.fr
          have cvb : wr.cell? ⟨Bt + 1 + 1, 0, none⟩ = some (.map (some (Bt + 1))) := blk_c ((F9.block _ (by omega) (by omega)).trans HX9.out) 0
          have hl2 := HLK.out wr (F9.block _ (by omega) (by omega))
          have HT : Aside0 ((vs.take (j + 1)).flatMap (fun y => pairsV f xk y ws) = (vs.take j).flatMap (fun y => pairsV f xk y ws) ++ pairsV f xk y ws) := ⟨by rw [List.take_add_one, hy, List.flatMap_append]; simp⟩
          have HPO : Aside0 ((P0 ++ (vs.take j).flatMap fun y => pairsV f xk y ws) ++ pairsV f xk y ws <+: pairsA f la lb (keysS la)) := ⟨by
            refine List.IsPrefix.trans ?_ HPRE.out
            rw [List.append_assoc, ← HT.out]
            refine List.prefix_append_right_inj _ |>.2 ?_
            conv => rhs; rw [← List.take_append_drop (j + 1) vs]
            rw [List.flatMap_append]
            exact List.prefix_append _ _⟩
          have K1 : Aside0 (∃ v, LS f Bo N X X' wr v (P0 ++ (vs.take j).flatMap fun y => pairsV f xk y ws)) := ⟨v1, L1⟩
          clear hy K L1 F9
          gi_wp2
          gi_loopg [48] (ws.length + 1) (fun kq v48 wi => ∃ (i : Nat), v48 = .int .i64 (i : Int) ∧ i ≤ ws.length ∧ ws.length - i ≤ kq ∧ Aside0 (∃ v, LS f Bo N X X' wi v ((P0 ++ (vs.take j).flatMap fun y => pairsV f xk y ws) ++ (pairsV f xk y ws).take i)))
          case atStart => exact ⟨0, rfl, by omega, by omega, ⟨by simpa using K1.out⟩⟩
          case round =>
            obtain ⟨i, rfl, hi, hiq, K⟩ := hrel
            by_cases hil : i < ws.length
            · have q2 : decide ((i : Int) < (ws.length : Int)) = true := decide_eq_true (by omega)
              obtain ⟨u, hu⟩ : ∃ u, ws[i]? = some u := ⟨_, List.getElem?_eq_getElem hil⟩
              obtain ⟨v2, L2⟩ := K.out
              have F9 := FRW.out wr L2.fr
              obtain ⟨ad2, e0, g2⟩ := HWr.out wr F9 i u hu
              subst e0
              have p2' : (0 : Int) ≤ (i : Int) := by omega
              have p3' : (i : Int) < (ws.length : Int) := by omega
              obtain ⟨A2, c2, e2⟩ := Kd.R_slice L2.rows
              obtain ⟨o, ho⟩ : ∃ o, (P0 ++ (vs.take j).flatMap fun y => pairsV f xk y ws) ++ (pairsV f xk y ws).take i = o := ⟨_, rfl⟩
              have HT2 : Aside0 ((P0 ++ (vs.take j).flatMap fun y => pairsV f xk y ws) ++ (pairsV f xk y ws).take (i + 1) = o ++ [⟨xk, tellJ f y u⟩]) := ⟨by
                rw [← ho, List.take_add_one, show (pairsV f xk y ws)[i]? = some ⟨xk, tellJ f y u⟩ by unfold pairsV; rw [List.getElem?_map, hu]; rfl, List.append_assoc, List.append_assoc, List.append_assoc]; rfl⟩
              rw [ho] at L2 e2
              obtain ⟨m, hm⟩ : ∃ m, o.length = m := ⟨_, rfl⟩
              rw [hm] at e2
              subst e2
              have hm64 : m ≤ 64 := by rw [← hm]; exact L2.len
              have cbo : wr.cell? ⟨Bo, 0, none⟩ = some (.slice A2 m c2) := blk_c L2.box 0
              have L2' := Aside0.mk L2
              have HM := Aside0.mk hm
              clear L2 K hu hm
              by_cases h64 : m = 64
              · subst h64
                have q3 : decide (((64 : Nat) : Int) = 64) = true := by decide
                obtain ⟨rv0, hres⟩ := (JA9.out.kept F9 (fun e => by omega) (fun e => by omega)).res
                have mF : wr.frozen? ⟨Br, 0, none⟩ = false := blk_frozen hres 0
                have mB : wr.cell? ⟨Br, 0, none⟩ = some rv0 := blk_c hres 0
                have hvr := blk_set hres 0 (.slice A2 64 c2)
                have hfs : Fr (· = Br) wr (wr.setCell ⟨Br, 0, none⟩ (.slice A2 64 c2)) := (Fr.refl (· = Br) _).set rfl _
                have KF : Aside0 (Fr (fun k => (k = Bo ∨ k = Br) ∨ N ≤ k) X' (wr.setCell ⟨Br, 0, none⟩ (.slice A2 64 c2)) ∧ Fr (fun k => k = Bo ∨ k = Br) W9 (wr.setCell ⟨Br, 0, none⟩ (.slice A2 64 c2)) ∧ ∃ v, (wr.setCell ⟨Br, 0, none⟩ (.slice A2 64 c2)).heap[Br]? = some (.cells #[v] 22 (0, 0)) ∧ RowsAt (wr.setCell ⟨Br, 0, none⟩ (.slice A2 64 c2)) W9.heap.size v (joinF f la lb)) := by
                  have L := L2'.out
                  refine ⟨(L.fr.mono (fun k h => h.elim (fun e => .inl (.inl e)) (fun e => .inr e.1))).trans (hfs.mono (fun k e => .inl (.inr e))), (F9.mono (fun k e => .inl e)).trans (hfs.mono (fun k e => .inr e)), _, hvr, ?_⟩
                  have e : joinF f la lb = o := by
                    have hp : o <+: pairsA f la lb (keysS la) := by
                      rw [← ho]
                      exact List.IsPrefix.trans (List.prefix_append_right_inj _ |>.2 (List.take_prefix _ _)) HPO.out
                    have h := List.prefix_iff_eq_take.1 hp
                    rw [HM.out] at h
                    exact h.symm
                  rw [e]
                  exact RowsAt.kept (Kd.R_lower L.rows (by omega)) hfs (fun k h1 h2 e => by omega)
                clear hvr hfs hres F9
                gi_wp2
                obtain ⟨k1, k2, k3⟩ := KF.out
                exact ⟨k1, rfl, k2, k3⟩
              · have q3 : decide ((m : Int) = 64) = false := decide_eq_false (by omega)
                obtain ⟨rv, hrv⟩ : ∃ rv, tellJ f y u = rv := ⟨_, rfl⟩
                rw [hrv] at HT2
                have ctl : wr.cell? ⟨Bt, 0, none⟩ = some (.func (.func (fnJ f)) #[] #[]) := blk_c (JA9.out.kept F9 (fun e => by omega) (fun e => by omega)).tel 0
                obtain ⟨XL, hXL⟩ : ∃ XL, wr.drew.alloc (.cells #[.int .i64 xk, .int .i64 rv] 30) = XL := ⟨_, rfl⟩
                have L := L2'.out
                have hfd : Fr (fun _ => False) wr wr.drew := (Fr.refl _ _).drew
                have hbl : Fr (fun _ => False) wr XL := by rw [← hXL]; exact hfd.alloc _
                have hsl : XL.heap.size = wr.heap.size + 1 := by rw [← hXL]; simp
                have hCr : Kd.C kRow XL (some ⟨wr.heap.size, 0, none⟩) 1 [⟨xk, rv⟩] := by rw [← hXL]; exact row_C wr.drew ⟨xk, rv⟩
                have hszL := L.fr.size
                have hRL : RowsAt XL N (.slice A2 m c2) o := L.rows.kept hbl (fun _ _ _ h => h)
                have hvl : XL.heap[Bo]? = some (.cells #[.slice A2 m c2] 22 (0, 0)) := (hbl.block _ (by omega) (fun h => h)).trans L.box
                have cbL : XL.cell? ⟨Bo, 0, none⟩ = some (.slice A2 m c2) := blk_c hvl 0
                obtain ⟨v10, W10, hr10, hR10, hg10, hat10⟩ := app_run (W := XL) N 22 (.slice A2 m c2) o [⟨xk, rv⟩] (some ⟨wr.heap.size, 0, none⟩) 1 1 hRL hCr (by omega) (by have := HM.out; omega)
                have hrow : ∀ k, Value.ownBlock (.slice A2 m c2) = some k → N ≤ k := fun k e => by
                  obtain ⟨inner, ho⟩ := Kd.R_own hRL
                  exact (ho.lt k e).1
                have hs10 := hg10.size
                have hv10 : W10.heap[Bo]? = some (.cells #[.slice A2 m c2] 22 (0, 0)) := (hg10.block _ (by omega) (fun e => by have := hrow Bo e.symm; omega)).trans hvl
                obtain ⟨A10, c10, e10⟩ := Kd.R_slice hR10
                rw [List.length_append, List.length_singleton, HM.out] at e10
                subst e10
                have mB : W10.cell? ⟨Bo, 0, none⟩ = some (.slice A2 m c2) := blk_c hv10 0
                have mF : W10.frozen? ⟨Bo, 0, none⟩ = false := blk_frozen hv10 0
                have hv11 := blk_set hv10 0 (.slice A10 (m + 1) c10)
                have K11 : Aside0 (∃ v, LS f Bo N X X' (W10.setCell ⟨Bo, 0, none⟩ (.slice A10 (m + 1) c10)) v ((P0 ++ (vs.take j).flatMap fun y => pairsV f xk y ws) ++ (pairsV f xk y ws).take (i + 1))) := by
                  rw [HT2.out]
                  refine ⟨_, ⟨(((L.fr.trans (hbl.mono (fun _ h => h.elim))).row' hg10 (fun k e => (L.at_ k e).imp .inr id)).set (.inl rfl) _), hv11, hR10.kept ((Fr.refl (· = Bo) _).set rfl _) (fun k h1 h2 e => by omega), ?_, by rw [List.length_append, List.length_singleton, HM.out]; omega⟩⟩
                  intro k e
                  rcases hat10 with h | ⟨b', h, hle⟩
                  · exact L.at_ k (h ▸ e)
                  · rw [h] at e
                    injection e with e
                    exact .inr (by omega)
                have hXLr : wr.drew.alloc (.cells #[.int .i64 xk, .int .i64 rv] 30) = XL := hXL
                clear hv10 hv11 hvl hR10 hRL hCr hat10 hg10 hrow hbl hfd L F9 ho
                gi_wp2
                refine Reg.region_JI (fun listed a Z => ∃ (b0 b1 b2 b3 b4 b5 b6 b7 b8 b9 : Bool), listed = #[b0, b1, b2, b3, b4, b5, b6, b7, b8, b9] ∧ a = { tmps := #[.int .i64 (f : Int), .slice A0 la.length c0, .slice A1 lb.length c1, undef, undef, undef, .pointer (some ⟨Br, 0, none⟩), .pointer (some ⟨Bt, 0, none⟩), .bool true, .pointer (some ⟨Bt + 1 + 1, 0, none⟩), undef, undef, .pointer (some ⟨Bo, 0, none⟩), .int .i64 xk, .slice (some ad) vs.length cv, undef, .int .i64 y, undef, .int .i64 u, .tuple #[.func (.func (fnJ f)) #[] #[], .bool true], .int .i64 (f : Int), .tuple #[.func (.func (fnJ f)) #[] #[], .bool true], .func (.func (fnJ f)) #[] #[], .bool true, .bool true, .bool false, .map (some (Bt + 1)), .slice A1 lb.length c1, .func (.func 36) #[] #[.pointer (some ⟨Bm, 0, none⟩)], undef, undef, undef, undef, undef, .slice A0 la.length c0, .func (.func 36) #[] #[.pointer (some ⟨Bm2, 0, none⟩)], .int .i64 xk, .slice (some ad) vs.length cv, .slice (some ad) vs.length cv, .int .i64 (vs.length : Int), .int .i64 (j : Int), .bool true, .pointer (some (ad.add j)), .int .i64 y, .map (some (Bt + 1)), .int .i64 xk, .slice (some ad2) ws.length cw, .int .i64 (ws.length : Int), .int .i64 (i : Int), .bool true, .pointer (some (ad2.add i)), .int .i64 u, .slice A2 m c2, .int .i64 (m : Int), .bool ((m : Int) == 64), u55, bif b0 then .slice A2 m c2 else u56, bif b1 then .int .i64 xk else u57, bif b2 then .func (.func (fnJ f)) #[] #[] else u58, bif b3 then .int .i64 y else u59, bif b4 then .int .i64 u else u60, bif b5 then .int .i64 rv else u61, bif b6 then .agg #[.int .i64 xk, .int .i64 rv] else u62, bif b7 then .slice (some ⟨wr.heap.size, 0, none⟩) 1 1 else u63, bif b8 then .slice A10 (m + 1) c10 else u64, u65, u66, undef], defers := [] } ∧ JH wr XL W10 (W10.setCell ⟨Bo, 0, none⟩ (.slice A10 (m + 1) c10)) Z b0 b2 b5 b6 b7 b8 b9) (by kernel_rfl) (by kernel_rfl) ?sz ?start ?step ?fin
                case sz => rintro listed a Z ⟨b0, b1, b2, b3, b4, b5, b6, b7, b8, b9, rfl, _⟩; rfl
                case start => exact ⟨false, false, false, false, false, false, false, false, false, false, rfl, rfl, ⟨fun _ => rfl, fun _ => rfl, fun _ => rfl, fun _ => rfl, fun _ => rfl, fun _ => rfl, fun _ => rfl, fun h => (by cases h), fun h => (by cases h), fun h => (by cases h)⟩⟩
                case fin =>
                  rintro listed a Z ⟨b0, b1, b2, b3, b4, b5, b6, b7, b8, b9, rfl, rfl, H⟩ hall
                  obtain rfl : b0 = true := by simpa using hall 0 (by decide)
                  obtain rfl : b1 = true := by simpa using hall 1 (by decide)
                  obtain rfl : b2 = true := by simpa using hall 2 (by decide)
                  obtain rfl : b3 = true := by simpa using hall 3 (by decide)
                  obtain rfl : b4 = true := by simpa using hall 4 (by decide)
                  obtain rfl : b5 = true := by simpa using hall 5 (by decide)
                  obtain rfl : b6 = true := by simpa using hall 6 (by decide)
                  obtain rfl : b7 = true := by simpa using hall 7 (by decide)
                  obtain rfl : b8 = true := by simpa using hall 8 (by decide)
                  obtain rfl : b9 = true := by simpa using hall 9 (by decide)
                  obtain rfl : Z = _ := H.pd rfl
                  clear H hall
                  simp only [cond_true]
                  gi_wp2
                  gi_roundg (gk - 1)
                  case measure => omega
                  case rel => exact ⟨i + 1, by go_num, by omega, by omega, K11⟩
                case step =>
                   rintro listed a Z ⟨b0, b1, b2, b3, b4, b5, b6, b7, b8, b9, rfl, rfl, H⟩ i' hi'
                   obtain ⟨hlt10, hun, hw⟩ := Reg.ready_spec hi'
                   have h10 : i' = 0 ∨ i' = 1 ∨ i' = 2 ∨ i' = 3 ∨ i' = 4 ∨ i' = 5 ∨ i' = 6 ∨ i' = 7 ∨ i' = 8 ∨ i' = 9 := by
                     have : i' < 10 := hlt10
                     omega
                   clear hi' hlt10
                   rcases h10 with rfl | rfl | rfl | rfl | rfl | rfl | rfl | rfl | rfl | rfl
                   · -- 0
                     obtain rfl : b0 = false := by simpa using hun
                     have h8 := H.d0 rfl
                     have c0' : Z.cell? ⟨Bo, 0, none⟩ = some (.slice A2 m c2) := by
                       cases b7 with
                       | false => rw [H.pa rfl]; exact cbo
                       | true => rw [H.pb rfl h8]; exact cbL
                     exact Reg.op_valueI (w1 := Z) rfl rfl (fun _ => trivial) (by go_simp; try rfl) ⟨true, _, _, _, _, _, _, _, _, _, rfl, rfl, ⟨fun h => (by cases h), H.d2, H.d5, H.d6, H.d7, H.d8, H.pa, H.pb, H.pc, H.pd⟩⟩
                   · -- 1
                     obtain rfl : b1 = false := by simpa using hun
                     exact Reg.op_valueI (w1 := Z) rfl rfl (fun _ => trivial) (by go_simp; try rfl) ⟨_, true, _, _, _, _, _, _, _, _, rfl, rfl, H⟩
                   · -- 2
                     obtain rfl : b2 = false := by simpa using hun
                     have c0' : Z.cell? ⟨Bt, 0, none⟩ = some (.func (.func (fnJ f)) #[] #[]) := by rw [H.pa (H.d6 (H.d5 (H.d2 rfl)))]; exact ctl
                     exact Reg.op_valueI (w1 := Z) rfl rfl (fun _ => trivial) (by go_simp; try rfl) ⟨_, _, true, _, _, _, _, _, _, _, rfl, rfl, ⟨H.d0, fun h => (by cases h), H.d5, H.d6, H.d7, H.d8, H.pa, H.pb, H.pc, H.pd⟩⟩
                   · -- 3
                     obtain rfl : b3 = false := by simpa using hun
                     exact Reg.op_valueI (w1 := Z) rfl rfl (fun _ => trivial) (by go_simp; try rfl) ⟨_, _, _, true, _, _, _, _, _, _, rfl, rfl, H⟩
                   · -- 4
                     obtain rfl : b4 = false := by simpa using hun
                     exact Reg.op_valueI (w1 := Z) rfl rfl (fun _ => trivial) (by go_simp; try rfl) ⟨_, _, _, _, true, _, _, _, _, _, rfl, rfl, H⟩
                   · -- 5
                     obtain rfl : b2 = true := by simpa using hw 2 (by kernel_rfl)
                     obtain rfl : b3 = true := by simpa using hw 3 (by kernel_rfl)
                     obtain rfl : b4 = true := by simpa using hw 4 (by kernel_rfl)
                     obtain rfl : b5 = false := by simpa using hun
                     refine op_callI (w1 := Z) (g := fnJ f) (args := #[.int .i64 y, .int .i64 u]) rfl rfl (fun _ => trivial) rfl (by go_simp; try exact hen _ _) ((CallsIn.inRound lr (callsIn_wide.2 (HTL.out y u Z))).mono ?_)
                     rintro e' Z' ⟨rfl, rfl⟩
                     rw [hrv]
                     exact ⟨_, rfl, ⟨_, _, _, _, _, true, _, _, _, _, rfl, rfl, ⟨H.d0, fun h => (by cases h), fun h => (by cases h), H.d6, H.d7, H.d8, H.pa, H.pb, H.pc, H.pd⟩⟩⟩
                   · -- 6
                     obtain rfl : b1 = true := by simpa using hw 1 (by kernel_rfl)
                     obtain rfl : b5 = true := by simpa using hw 5 (by kernel_rfl)
                     obtain rfl : b6 = false := by simpa using hun
                     exact Reg.op_valueI (w1 := Z) rfl rfl (fun _ => trivial) (by go_simp; try rfl) ⟨_, _, _, _, _, _, true, _, _, _, rfl, rfl, ⟨H.d0, H.d2, fun h => (by cases h), fun h => (by cases h), H.d7, H.d8, H.pa, H.pb, H.pc, H.pd⟩⟩
                   · -- 7
                     obtain rfl : b6 = true := by simpa using hw 6 (by kernel_rfl)
                     obtain rfl : b7 = false := by simpa using hun
                     obtain rfl : b8 = false := H.d7 rfl
                     obtain rfl : b9 = false := H.d8 rfl
                     obtain rfl : Z = wr.drew := H.pa rfl
                     exact Reg.op_valueI (w1 := XL) rfl rfl (fun _ => trivial) (by go_simp; try exact hXLr) ⟨_, _, _, _, _, _, _, true, _, _, rfl, rfl, ⟨H.d0, H.d2, H.d5, fun h => (by cases h), fun h => (by cases h), H.d8, fun h => (by cases h), fun _ _ => rfl, fun h => (by cases h), fun h => (by cases h)⟩⟩
                   · -- 8
                     obtain rfl : b0 = true := by simpa using hw 0 (by kernel_rfl)
                     obtain rfl : b7 = true := by simpa using hw 7 (by kernel_rfl)
                     obtain rfl : b8 = false := by simpa using hun
                     obtain rfl : b9 = false := H.d8 rfl
                     obtain rfl : Z = XL := H.pb rfl rfl
                     refine Reg.op_listI rfl rfl ?_
                     refine wpListIn_run rfl (.tmp 56) (.tmp 63) 22 rfl (.slice A2 m c2) (.slice (some ⟨wr.heap.size, 0, none⟩) 1 1) (.slice A10 (m + 1) c10) W10 rfl rfl hr10 ?_
                     exact Reg.nil_listI ⟨_, _, _, _, _, _, _, _, true, _, rfl, rfl, ⟨fun h => (by cases h), H.d2, H.d5, H.d6, fun h => (by cases h), fun h => (by cases h), fun h => (by cases h), fun _ h => (by cases h), fun _ _ => rfl, fun h => (by cases h)⟩⟩
                   · -- 9
                     obtain rfl : b8 = true := by simpa using hw 8 (by kernel_rfl)
                     obtain rfl : b9 = false := by simpa using hun
                     obtain rfl : Z = W10 := H.pc rfl rfl
                     exact op_skipI (w1 := Z.setCell ⟨Bo, 0, none⟩ (.slice A10 (m + 1) c10)) rfl rfl (fun _ => trivial) (by go_simp; try rfl) ⟨_, _, _, _, _, _, _, _, _, true, rfl, rfl, ⟨H.d0, H.d2, H.d5, H.d6, H.d7, fun h => (by cases h), fun h => (by have := H.d7 h; cases this), fun _ h => (by cases h), fun _ h => (by cases h), fun _ => rfl⟩⟩
            · obtain rfl : i = ws.length := by omega
              have q2 : decide ((ws.length : Int) < (ws.length : Int)) = false := decide_eq_false (by omega)
              have K2 : Aside0 (∃ v, LS f Bo N X X' wr v (P0 ++ (vs.take (j + 1)).flatMap fun y => pairsV f xk y ws)) := ⟨by
                have h := K.out
                rw [List.take_of_length_le (l := pairsV f xk y ws) (by unfold pairsV; rw [List.length_map]; exact Nat.le_refl _), List.append_assoc, ← HT.out] at h
                exact h⟩
              clear K
              gi_wp2
              gi_roundg (gO - 1)
              case measure => omega
              case rel => exact ⟨j + 1, by go_num, by omega, by omega, K2⟩
        · obtain rfl : j = vs.length := by omega
          have q1 : decide ((vs.length : Int) < (vs.length : Int)) = false := decide_eq_false (by omega)
          have K2 : Aside0 (∃ v, LS f Bo N X X' wr v (pairsA f la lb ((pre ++ [(⟨xk, .slice Av vs.length cv⟩ : Gx)]).map (fun x => x.k)))) := ⟨by
            have h := K.out
            rw [List.take_length, ← HPA.out] at h
            exact h⟩
          clear K
          gi_wp2
          obtain ⟨v3, L3⟩ := K2.out
          exact ⟨L3.fr.mono (fun k h => h.elim (fun e => .inl (.inl e)) (fun e => .inr e.1)), FRW.out wr L3.fr, L3.len, v3, L3.box, L3.rows, Kd.R_lower L3.rows (by omega)⟩
end Go.Proofs.Ytbbjkgpilmcldaa.Seq
