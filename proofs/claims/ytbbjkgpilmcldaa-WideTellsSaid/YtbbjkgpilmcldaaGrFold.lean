/- Proved: what wide.Fold hands back; condition: a function from 0 to 5, at most 100000 rows of numbers that fit. -/
import Derived.Test.YtbbjkgpilmcldaaGrMaps
import Derived.Test.YtbbjkgpilmcldaaPFnx2
import Derived.Sort.LoopGhostIn
namespace Go.Proofs.Ytbbjkgpilmcldaa.Seq
open Go.RowKit Go.Maps Go.ChangeShapes Go.Shelf
open Go.Proofs.YtbbjkgpilmcldaaW.PrintWords Go.Proofs.YtbbjkgpilmcldaaW.PrintLast Go.Proofs.YtbbjkgpilmcldaaW.PrintMore
attribute [local go_sem] Oper.semAt_some store_func
set_option linter.unusedVariables false
set_option linter.unusedSimpArgs false
theorem wpListIn_run {F : Fence} {nF : Nat} {P : Program} {w : World} {ops : Array Oper} {rest : List Oper} {o : Oper} {a : Act} {Q : Exit → Act → World → Prop} (hgd : o.guard = none) (s x : Operand) (t : TypeId)
    (ho : o.op = .call { callee := .builtin .append, args := #[s, x], argTypes := #[t, t] }) (v u v1 : Value) (w1 : World) (hs : a.eval s = v) (hx : a.eval x = u) (hr : (Builtin.append_ #[t, t] o.type #[v, u]).run P w = .ok v1 w1)
    (h : wpListIn F nF P ops Q rest (a.put o.dst v1) w1) : wpListIn F nF P ops Q (o :: rest) a w := by
  refine wpListIn_plain hgd fun K hK => ?_
  unfold Oper.wpIn
  refine ⟨by simp [Oper.about, ho, resolve, Target.leads, Sem.run_pure], ?_⟩
  rw [Oper.semAt_plain F _ _ (by rw [ho]; intro c hc'; cases hc')]
  simp [execOp, ho, resolve, invoke, builtin, hs, hx, hr, Result.andThen]
  exact hK _ _ h
theorem Fr.row {S : Nat → Prop} {w A B : World} {row : Option Nat} (h : Fr S w A) (hg : A.grownBy B row) (hr : ∀ r, row = some r → w.heap.size ≤ r) : Fr S w B :=
  ⟨hg.os.trans h.os, hg.tape.trans h.tape, hg.output.trans h.output, Nat.le_trans h.size hg.size, fun k hk hs => (hg.block k (Nat.lt_of_lt_of_le hk h.size) (fun e => by have := hr k e.symm; omega)).trans (h.block k hk hs)⟩
theorem ints_lower {W : World} {lo lo' : Nat} {v : Value} {zs : List Int} (h : W.ownsInts lo 3 .i64 v zs) (hl : lo' ≤ lo) : W.ownsInts lo' 3 .i64 v zs := ⟨own_weaken h.1 hl, h.2⟩
theorem Fr.old {S : Nat → Prop} {w w' : World} {N : Nat} (h : Fr (fun k => S k ∨ N ≤ k) w w') (hN : w.heap.size ≤ N) : Fr S w w' :=
  ⟨h.os, h.tape, h.output, h.size, fun k hk hs => h.block k hk (fun e => e.elim hs (fun e => by omega))⟩
theorem cut_f (L : List RowT) (h : L.length ≤ 64) : PFn.rows_Cut.f L = some L := by
  have e : mn (L.length : Int) 64 = (L.length : Int) := by unfold mn; split <;> omega
  unfold PFn.rows_Cut.f
  rw [e, if_pos (by omega), if_pos (Int.le_refl _), Option.bind_some, Int.toNat_natCast, List.take_length, if_pos (by simp only [List.length_nil]; omega)]
  rfl
theorem RowsAt.put {W : World} {lo : Nat} {v : Value} {xs : List RowT} (h : RowsAt W lo v xs) {r : Nat} {o o' : Obj} (hr : W.heap[r]? = some o) (ho : o.isCells = false) : RowsAt (W.putObj r o') lo v xs :=
  h.grown (grownBy_putObj' W r o') (fun k e => by cases e; exact ⟨o, hr, ho⟩)
theorem leaves2 {F : Fence} {n : Nat} {P : Program} {fn : Func} {tmps : Array Value} {t : Tmp} {R : Ending → World → Prop} {w We : World} {D1 D2 : Nat} {L : List RowT} {v : Value} (hres : fn.results = #[.tmp t]) (hv : tmps.getD t undef = v)
    (h2 : We.heap[D2]? = some (.deferred (some []))) (h1 : We.heap[D1]? = some (.deferred (some []))) (hne : D1 ≠ D2) (hl1 : w.heap.size ≤ D1) (hl2 : w.heap.size ≤ D2) (hR : RowsAt We w.heap.size v L) (hb : Below w.heap.size w We)
    (hRt : ∀ W', RowsAt W' w.heap.size v L → Below w.heap.size w W' → R (.returned v) W') :
    LeavesInM F n P fn tmps R [{ target := .collected D2, args := #[] }, { target := .collected D1, args := #[] }] .returning We := by
  have h1' : (We.putObj D2 (.deferred none)).heap[D1]? = some (.deferred (some [])) := (World.putObj_heap_other hne).trans h1
  refine ⟨by simp, .inl ⟨D2, _, rfl, run_takeDeferred h2, by simp, .inl ⟨D1, _, rfl, run_takeDeferred h1', v, ?_, hRt _ ((hR.put h2 rfl).put h1' rfl) ?_⟩⟩⟩
  · rw [results_tmp hres, hv]
  · have e : ∀ (X : World) (D : Nat), w.heap.size ≤ D → Below w.heap.size w X → Below w.heap.size w (X.putObj D (.deferred none)) := fun X D hD hX => hX.grown (grownBy_putObj' X D _) hX.size (fun j hj => by cases hj; exact hD)
    exact e _ _ hl1 (e _ _ hl2 hb)
theorem VsAt.keptT {w w' : World} {lo b n : Nat} {ks : List Int} {l : List RowT} {S : Nat → Prop} (h : VsAt w lo b n ks l) (hf : Fr S w w') (hb : ¬ S b) (hS : ∀ k cs, S k → w.heap[k]? ≠ some (.cells cs 3 (0, 0))) : VsAt w' lo b n ks l := by
  obtain ⟨D, h1, h2⟩ := h.map
  refine ⟨h.low, D, ownsMap_kept h1 hf hb, fun k hk => ?_⟩
  obtain ⟨v, h3, h4⟩ := h2 k hk
  exact ⟨v, h3, ints_move h4 (fun g hg => hf.block g (h4.1.lt g hg).2 (fun e => by
    obtain ⟨cs, hc⟩ := own_typed h4.1 g hg
    exact hS g cs e hc))⟩
theorem vals_all {l : List RowT} {k : Int} {ks : List Int} (h : ks = keysS l) : (if k ∈ ks then valsOf l k else []) = valsOf l k := by
  subst h
  split
  · rfl
  · next h => exact (valsOf_nil.2 (by
      cases e : hasK l k with
      | false => rfl
      | true => exact absurd ((List.mergeSort_perm _ _).mem_iff.2 ((mem_dk l k).2 e)) h)).symm
theorem row_C (W : World) (x : RowT) : Kd.C kRow (W.alloc (.cells #[.int .i64 x.f0, .int .i64 x.f1] 30)) (some ⟨W.heap.size, 0, none⟩) 1 [x] := by
  refine ⟨rfl, by decide, fun _ => ⟨_, rfl, fun j p hp => ?_⟩⟩
  cases j with
  | succ j => simp at hp
  | zero =>
    obtain rfl : x = p := by simpa using hp
    refine ⟨_, rfl, PFn.k30_mk _ x, fun i u hu => ?_⟩
    have h := blk_c (World.alloc_heap_new W (.cells #[.int .i64 x.f0, .int .i64 x.f1] 30)) i
    have e : (Addr.add ⟨W.heap.size, 0, none⟩ (0 * 2 + i)) = ⟨W.heap.size, i, none⟩ := by rw [add_plain, Nat.zero_mul, Nat.zero_add]
    show World.cell? _ (Addr.add ⟨W.heap.size, 0, none⟩ (0 * 2 + i)) = some u
    rw [e, h, ← hu, List.getElem?_toArray]
/-- What Fold holds: the functions, and the state that was. -/
structure FA (f B n : Nat) (bf : List RowT) (W : World) : Prop where
  tel : W.heap[B]? = some (.cells #[.func (.func (fn1 f)) #[] #[], .func (.func (fn2 f)) #[] #[]] 69 (0, 0))
  box : W.heap[B + 1 + 1]? = some (.cells #[.map (some (B + 1))] 72 (0, 0))
  st : StAt W (B + 1) n bf
theorem FA.kept {f B n : Nat} {bf : List RowT} {W W' : World} {S : Nat → Prop} (h : FA f B n bf W) (hf : Fr S W W') (hS : ∀ k, B ≤ k → k < B + 3 → ¬ S k) : FA f B n bf W' :=
  ⟨(hf.block _ (Array.getElem?_eq_some_iff.1 h.tel).1 (hS _ (by omega) (by omega))).trans h.tel, (hf.block _ (Array.getElem?_eq_some_iff.1 h.box).1 (hS _ (by omega) (by omega))).trans h.box, h.st.kept hf (hS _ (by omega) (by omega))⟩
set_option maxHeartbeats 4000000 in
set_option maxRecDepth 100000 in
theorem fold_calls (f : Nat) (hf : f ≤ 5) (A0 : Option Addr) (c0 : Nat) (A1 : Option Addr) (c1 : Nat) (bf l : List RowT) (w : World) (hC0 : kRow.C w A0 bf.length bf) (hC1 : kRow.C w A1 l.length l) (hlen : bf.length + l.length ≤ 100000) (hok0 : ∀ r ∈ bf, okRow r) (hok1 : ∀ r ∈ l, okRow r) :
    Calls Try.prog 19 #[.int .i64 (f : Int), .slice A0 bf.length c0, .slice A1 l.length c1] w fun e w' => ∃ v, e = .returned v ∧ RowsAt w' w.heap.size v (foldF f bf l) ∧ Below w.heap.size w w' := by
  have HC0 := Aside0.mk hC0
  have HC1 := Aside0.mk hC1
  have HOK0 := Aside0.mk hok0
  have HOK1 := Aside0.mk hok1
  have hmm := @run_makeMap Try.prog
  clear hC0 hC1 hok0 hok1
  have ht41 : Fence.wide.fn 41 := trivial
  have ht17 : Fence.wide.fn 17 := trivial
  have ht42 : Fence.wide.fn 42 := trivial
  refine (callsIn_wide (n := 6)).1 ?_
  refine callsIn_of_wp_marks Try.func19 rfl trivial ?_ rfl
  simp only [Try.ntmps19, List.size_toArray, List.length_cons, List.length_nil, Nat.reduceAdd, Nat.reduceSub, Array.replicate_succ, Array.replicate_zero, List.push_toArray, List.append_toArray, List.nil_append, List.cons_append]
  gi_wp2_with (first
    | (gi_at_call 41; refine (callsIn_wide.2 (told_calls f hf w)).mono ?_; rintro e' W1 ⟨rfl, hb1⟩))
  obtain ⟨B, hB⟩ : ∃ B, W1.heap.size = B := ⟨_, rfl⟩
  rw [hB]
  obtain ⟨W3, hW3⟩ : ∃ W3, (((W1.alloc (.cells #[.func (.func (fn1 f)) #[] #[], .func (.func (fn2 f)) #[] #[]] 69)).alloc (.map #[] 0)).alloc (.cells #[.map (some (B + 1))] 72)) = W3 := ⟨_, rfl⟩
  have hb3 : Below w.heap.size w W3 := by
    rw [← hW3]
    have h1 := hb1.size
    exact ((hb1.alloc h1 _).alloc (by simp; omega) _).alloc (by simp; omega) _
  have hs3 : W3.heap.size = B + 3 := by rw [← hW3, ← hB]; simp
  have htel : W3.heap[B]? = some (.cells #[.func (.func (fn1 f)) #[] #[], .func (.func (fn2 f)) #[] #[]] 69 (0, 0)) := by
    rw [← hW3, ← hB]
    exact (Below.heap_alloc _ _ _ (by simp; omega)).trans ((Below.heap_alloc _ _ _ (by simp)).trans (World.alloc_heap_new W1 _))
  have hbox : W3.heap[B + 1 + 1]? = some (.cells #[.map (some (B + 1))] 72 (0, 0)) := by
    rw [← hW3, ← hB]
    have := World.alloc_heap_new ((W1.alloc (.cells #[.func (.func (fn1 f)) #[] #[], .func (.func (fn2 f)) #[] #[]] 69)).alloc (.map #[] 0)) (.cells #[.map (some (W1.heap.size + 1))] 72)
    rwa [World.size_alloc, World.size_alloc] at this
  have hst : StAt W3 (B + 1) 0 [] := by
    have := StAt.made (W1.alloc (.cells #[.func (.func (fn1 f)) #[] #[], .func (.func (fn2 f)) #[] #[]] 69))
    rw [World.size_alloc, hB] at this
    rw [← hW3]
    exact this.kept (S := fun _ => False) ((Fr.refl _ _).alloc _) (fun h => h)
  have hBw : w.heap.size ≤ B := by rw [← hB]; exact hb1.size
  gi_loopg [32] (bf.length + 1) (fun kq v32 wr => ∃ (k : Nat), v32 = .int .i64 (k : Int) ∧ k ≤ bf.length ∧ bf.length - k ≤ kq ∧ Aside0 (Fr (· = B + 1) W3 wr ∧ StAt wr (B + 1) k (bf.take k)))
  case atStart =>
    refine ⟨0, rfl, by omega, by omega, ⟨?_, ?_⟩⟩
    · rw [hW3]; exact Fr.refl _ _
    · rw [hW3]; exact hst
  case round =>
    obtain ⟨k, rfl, hk, hkq, K⟩ := hrel
    have HF := Aside0.mk K.out.1
    have hszr : B + 3 ≤ wr.heap.size := by rw [← hs3]; exact HF.out.size
    have hbr : Below w.heap.size w wr := hb3.trans (HF.out.below (by omega) (fun k hk => by omega))
    have HBR := Aside0.mk hbr
    clear hbr
    by_cases hlt : k < bf.length
    · have q1 : decide ((k : Int) < (bf.length : Int)) = true := decide_eq_true (by omega)
      obtain ⟨ad, e0, g0, g1⟩ := PFn.at_T30 HC0.out (k : Int) (by omega) (by omega)
      subst e0
      rw [Int.toNat_natCast] at g0 g1
      obtain ⟨x, hx⟩ : ∃ x, PFn.rd_T30 bf (k : Int) = x := ⟨_, rfl⟩
      rw [hx] at g0 g1
      have x0 := cell_keepS HBR.out g0
      have x1 := cell_keepS HBR.out g1
      have p0 : (0 : Int) ≤ (k : Int) := by omega
      have p1 : (k : Int) < (bf.length : Int) := by omega
      have hxe : bf[k]? = some x := by
        rw [← hx]
        unfold PFn.rd_T30
        rw [Int.toNat_natCast, List.getD_eq_getElem?_getD, List.getElem?_eq_getElem hlt]
        rfl
      have hokx := HOK0.out x (List.mem_of_getElem? hxe)
      have hlp : bf.take k ++ [x] = bf.take (k + 1) := by
        rw [List.take_add_one, hxe]; rfl
      have HFa : Aside0 (Fr (fun _ => False) wr (wr.alloc (.cells #[.int .i64 x.f0, .int .i64 x.f1] 30))) := ⟨(Fr.refl _ _).alloc _⟩
      have cbx : (wr.alloc (.cells #[.int .i64 x.f0, .int .i64 x.f1] 30)).cell? ⟨B + 1 + 1, 0, none⟩ = some (.map (some (B + 1))) := blk_c ((HFa.out.block _ (by omega) (fun h => h)).trans ((HF.out.block _ (by omega) (by omega)).trans hbox)) 0
      obtain ⟨W5, hrun, hst5, hf5⟩ := (K.out.2.kept HFa.out (fun h => h)).store (by unfold maxLen; omega) hokx
      rw [hlp] at hst5
      have K5 : Aside0 (Fr (· = B + 1) W3 W5 ∧ StAt W5 (B + 1) (k + 1) (bf.take (k + 1))) := ⟨HF.out.trans ((HFa.out.mono (fun _ h => h.elim)).trans hf5), hst5⟩
      clear hst5 hf5 g0 g1 hx K hxe
      gi_wp2
      gi_roundg (gk - 1)
      case measure => omega
      case rel => exact ⟨k + 1, by go_num, by omega, by omega, K5⟩
    · obtain rfl : k = bf.length := by omega
      have q1 : decide ((bf.length : Int) < (bf.length : Int)) = false := decide_eq_false (by omega)
      rw [List.take_length] at K
      have FA0 : FA f B bf.length bf wr := ⟨(HF.out.block _ (by omega) (by omega)).trans htel, (HF.out.block _ (by omega) (by omega)).trans hbox, K.out.2⟩
      obtain ⟨v4, w4, hr4, hR4, hg4, hat4⟩ := app_run (W := wr) wr.heap.size 22 (.slice none 0 0) [] bf A0 bf.length c0 (RowsAt.nil _ _) (Kd.C_below HC0.out HBR.out) (Nat.le_refl _) (by simp only [List.length_nil]; omega)
      rw [List.nil_append] at hR4
      have hb4 : Below wr.heap.size wr w4 := (Fr.of_grown hg4 (S := fun _ => False) (fun k e => by simp [Value.ownBlock] at e)).below (Nat.le_refl _) (fun _ h => h.elim)
      obtain ⟨v5, w5, hr5, hR5, hg5, hat5⟩ := app_run (W := w4) wr.heap.size 22 v4 bf l A1 l.length c1 hR4 (Kd.C_below (Kd.C_below HC1.out HBR.out) hb4) hb4.size (by omega)
      have hb5 : Below wr.heap.size wr w5 := hb4.trans ((Fr.of_grown hg5 (S := fun k => wr.heap.size ≤ k) (fun k e => by
        obtain ⟨inner, ho⟩ := Kd.R_own hR4
        exact (ho.lt k e).1)).below hb4.size (fun _ h => h))
      obtain ⟨A5, c5, rfl⟩ := Kd.R_slice hR5
      have HC5 : Aside0 (Kd.C kRow w5 A5 (bf ++ l).length (bf ++ l)) := ⟨(Kd.R_reads' hR5).2.2⟩
      have HB5 := Aside0.mk hb5
      have FA5 : Aside0 (FA f B bf.length bf w5) := ⟨FA0.kept (Fr.of_below hb5) (fun _ _ _ h => h)⟩
      clear hR4 hR5 hg4 hg5 hat4 hat5 hb4 hb5 FA0 hst K
      obtain ⟨V, hV⟩ : ∃ V, w5.heap.size = V := ⟨_, rfl⟩
      have hVr : wr.heap.size ≤ V := by rw [← hV]; exact HB5.out.size
      obtain ⟨W6, hW6⟩ : ∃ W6, (w5.alloc (.map #[] 0)).alloc (.cells #[.map (some V)] 57) = W6 := ⟨_, rfl⟩
      have hb6 : Below w5.heap.size w5 W6 := by rw [← hW6]; exact ((Below.refl _ w5).alloc (Nat.le_refl _) _).alloc (by simp) _
      have hs6 : W6.heap.size = V + 2 := by rw [← hW6, ← hV]; simp
      have hvb : W6.heap[V + 1]? = some (.cells #[.map (some V)] 57 (0, 0)) := by
        rw [← hW6, ← hV]
        have := World.alloc_heap_new (w5.alloc (.map #[] 0)) (.cells #[.map (some w5.heap.size)] 57)
        rwa [World.size_alloc] at this
      have hvs : VsAt W6 (V + 2) V 0 [] l := by
        have := VsAt.made w5 (V + 2) l (by omega)
        rw [hV] at this
        rw [← hW6]
        exact this.kept (S := fun _ => False) ((Fr.refl _ _).alloc _) (fun h => h) (fun _ _ _ h => h)
      have hbw6 : Below w.heap.size w W6 := HBR.out.trans ((HB5.out.trans (hb6.mono HB5.out.size)).mono HBR.out.size)
      have HGc := Aside0.mk (groups_calls A1 c1 l W6 (Kd.C_below HC1.out hbw6) (by omega) HOK1.out)
      have FA6 : Aside0 (FA f B bf.length bf W6) := ⟨FA5.out.kept (Fr.of_below hb6) (fun _ _ _ h => h)⟩
      have HB56 := Aside0.mk hb6
      have HV6 := Aside0.mk hvs
      have HX6 := Aside0.mk hvb
      have HBW6 := Aside0.mk hbw6
      clear hvs hvb hbw6 FA5 hb6 HB5
      gi_wp2_with (first
        | (gi_at_builtin; refine wpListIn_run rfl (.tmp 42) (.tmp 43) 22 rfl (.slice none 0 0) (.slice A0 bf.length c0) v4 w4 rfl rfl hr4 ?_)
        | (gi_at_builtin; refine wpListIn_run rfl (.tmp 44) (.tmp 45) 22 rfl v4 (.slice A1 l.length c1) _ w5 rfl rfl hr5 ?_)
        | (gi_at_call 17; refine (callsIn_wide.2 HGc.out).mono ?_; rintro e' W7 ⟨Bm, b, D, rfl, hb0, hbB, hBm, hG, hb7⟩))
      have hs7 : V + 2 ≤ W7.heap.size := by rw [← hs6]; exact hb7.size
      rw [hs6] at hb0
      have hseq := groups_V (· = V) Bm b W7.heap.size D l W7 (GrpF.new hG hbB hBm) (by omega) HOK1.out (fun k e => by omega) (fun k h1 h2 e => by omega)
      have FA7 : Aside0 (FA f B bf.length bf W7) := ⟨FA6.out.kept (Fr.of_below hb7) (fun _ _ _ h => h)⟩
      have HB57 : Aside0 (Below w5.heap.size w5 W7) := ⟨HB56.out.trans (hb7.mono HB56.out.size)⟩
      have HV7 : Aside0 (VsAt W7 (V + 2) V 0 [] l) := ⟨HV6.out.kept (Fr.of_below hb7) (fun h => h) (fun _ _ _ h => h)⟩
      have HX7 : Aside0 (W7.heap[V + 1]? = some (.cells #[.map (some V)] 57 (0, 0))) := ⟨(hb7.block _ (by omega)).trans HX6.out⟩
      have HBW7 : Aside0 (Below w.heap.size w W7) := ⟨HBW6.out.trans (hb7.mono HBW6.out.size)⟩
      clear FA6 HB56 HV6 HX6 HBW6
      refine range_V (gf := 36) (lb := #[.pointer (some ⟨Bm, 0, none⟩)]) rfl (enters_of Try.func36 (by kernel_rfl) rfl) hseq (fun k e => by omega) (fun x _ _ r o o' h h0 h1 ho => RdG.put h h0 h1 ho) (Below.refl _ _) (fun _ => rfl)
        (fun N pre W => Fr (· = V) W7 W ∧ VsAt W (V + 2) V pre.length (pre.map (·.k)) l)
        (fun _ _ _ _ => False) ?hI ?hIx ?h0 ?a1 ?assign ?body ?done ?stop
      case hI =>
        rintro N pre X X' row ⟨h1, h2⟩ hg hr
        exact ⟨h1.row hg (fun r e => (hr r e).1), h2.grown hg (fun r e => ⟨by have := (hr r e).1; omega, (hr r e).2⟩)⟩
      case hIx => exact fun _ _ _ _ _ _ h => h.elim
      case h0 => exact fun N => ⟨Fr.refl _ _, HV7.out⟩
      case assign =>
        intro lr x Z Kc hK
        gi_wp2
        exact hK
      case stop => rintro D' N c pre Z hD hpre h; exact h.elim
      case body =>
        rintro lr N pre x X X' hN1 hN2 hSp ⟨hfX, hvX⟩ hgr ⟨hk, hx⟩
        have hszX := hfX.size
        have hpl : pre.length ≤ 100000 := by
          have h1 := hSp.length_le
          rw [List.length_map, List.length_append] at h1
          have h2 := keysS_len l
          have h3 := dk_len l
          omega
        have hcx : X'.cell? ⟨V + 1, 0, none⟩ = some (.map (some V)) := blk_c (blk_new ((hfX.block _ (by omega) (by omega)).trans HX7.out) hgr) 0
        obtain ⟨W8, hrun, hv8, hf8⟩ := (hvX.grown hgr (fun r e => by cases e)).store (by unfold maxLen; omega) hk (ints_lower hx (by omega))
        have K8 : Aside0 (Fr (fun k => k = V ∨ N ≤ k) X' W8 ∧ Fr (· = V) W7 W8 ∧ VsAt W8 (V + 2) V (pre ++ [x]).length ((pre ++ [x]).map (·.k)) l) := by
          refine ⟨hf8.mono (fun _ h => .inl h), (hfX.trans (Fr.of_grown hgr (by simp))).trans hf8, ?_⟩
          rw [List.length_append, List.map_append]
          exact hv8
        clear hv8 hf8
        gi_wp2
        exact K8.out
      case done =>
        rintro D' N xs Z hD hxs ⟨hfZ, hvZ⟩ hKD
        have hszZ := hfZ.size
        have hbZ : Below w5.heap.size w5 Z := HB57.out.trans (hfZ.below HB57.out.size (fun k e => by omega))
        obtain ⟨Bo, hBo⟩ : ∃ Bo, Z.heap.size = Bo := ⟨_, rfl⟩
        obtain ⟨Zo, hZo⟩ : ∃ Zo, Z.alloc (.cells #[.slice none 0 0] 22) = Zo := ⟨_, rfl⟩
        have hbo : Below Z.heap.size Z Zo := by rw [← hZo]; exact (Below.refl _ _).alloc (Nat.le_refl _) _
        have hso : Zo.heap.size = Bo + 1 := by rw [← hZo, ← hBo]; simp
        have hob : Zo.heap[Bo]? = some (.cells #[.slice none 0 0] 22 (0, 0)) := by rw [← hZo, ← hBo]; exact World.alloc_heap_new Z _
        have hbll : (bf ++ l).length ≤ 100000 := by rw [List.length_append]; exact hlen
        have hokb : ∀ r ∈ bf ++ l, okRow r := fun r hr => (List.mem_append.1 hr).elim (HOK0.out r) (HOK1.out r)
        have HG2 := Aside0.mk (groups_calls A5 c5 (bf ++ l) Zo (Kd.C_below (Kd.C_below HC5.out hbZ) hbo) hbll hokb)
        rw [List.length_append] at HG2
        have FAo : Aside0 (FA f B bf.length bf Zo) := ⟨(FA7.out.kept hfZ (fun k h1 h2 e => by omega)).kept (Fr.of_below hbo) (fun _ _ _ h => h)⟩
        have VSo : Aside0 (VsAt Zo (V + 2) V xs.length (xs.map (·.k)) l) := ⟨hvZ.kept (Fr.of_below hbo) (fun h => h) (fun _ _ _ h => h)⟩
        have HXo : Aside0 (Zo.heap[V + 1]? = some (.cells #[.map (some V)] 57 (0, 0))) := ⟨(hbo.block _ (by omega)).trans ((hfZ.block _ (by omega) (by omega)).trans HX7.out)⟩
        have HBWo : Aside0 (Below w.heap.size w Zo) := ⟨(HBW7.out.trans (hfZ.below HBW7.out.size (fun k e => by have := HBR.out.size; omega))).trans (hbo.mono (by have := HBW7.out.size; omega))⟩
        have HXS := Aside0.mk hxs
        clear hvZ hbZ hbo FA7 HX7 HBW7 hxs HB57 HC5
        gi_wp2_with (first
          | (gi_at_call 17; refine (callsIn_wide.2 HG2.out).mono ?_; rintro e' W9 ⟨Bm2, b2, D2, rfl, hb02, hbB2, hBm2, hG2, hb9⟩))
        have hs9 : Bo + 1 ≤ W9.heap.size := by rw [← hso]; exact hb9.size
        rw [hso] at hb02
        have hseq2 := groups_V (· = Bo) Bm2 b2 W9.heap.size D2 (bf ++ l) W9 (GrpF.new hG2 hbB2 hBm2) hbll hokb (fun k e => by omega) (fun k h1 h2 e => by omega)
        have FA9 : Aside0 (FA f B bf.length bf W9) := ⟨FAo.out.kept (Fr.of_below hb9) (fun _ _ _ h => h)⟩
        have VS9 : Aside0 (VsAt W9 (V + 2) V xs.length (xs.map (·.k)) l) := ⟨VSo.out.kept (Fr.of_below hb9) (fun h => h) (fun _ _ _ h => h)⟩
        have HX9 : Aside0 (W9.heap[V + 1]? = some (.cells #[.map (some V)] 57 (0, 0))) := ⟨(hb9.block _ (by omega)).trans HXo.out⟩
        have HO9 : Aside0 (W9.heap[Bo]? = some (.cells #[.slice none 0 0] 22 (0, 0))) := ⟨(hb9.block _ (by omega)).trans hob⟩
        have HBW9 : Aside0 (Below w.heap.size w W9) := ⟨HBWo.out.trans (hb9.mono HBWo.out.size)⟩
        have HbW : w.heap.size ≤ Bo := by have := HBWo.out.size; have := HBR.out.size; omega
        clear FAo VSo HXo hob HBWo
        refine range_V (gf := 36) (lb := #[.pointer (some ⟨Bm2, 0, none⟩)]) rfl (enters_of Try.func36 (by kernel_rfl) rfl) hseq2 (fun k e => by omega) (fun x _ _ r o o' h h0 h1 ho => RdG.put h h0 h1 ho) (Below.refl _ _) (fun _ => rfl)
          (fun N pre W => Fr (· = Bo) W9 W ∧ pre.length < 64 ∧ ∃ v, W.heap[Bo]? = some (.cells #[v] 22 (0, 0)) ∧ RowsAt W N v (pre.map (fun x => resF f bf l x.k)))
          (fun c N pre W => c = .exit 4 ∧ Fr (· = Bo) W9 W ∧ pre.length = 64 ∧ ∃ v, W.heap[Bo]? = some (.cells #[v] 22 (0, 0)) ∧ RowsAt W N v (pre.map (fun x => resF f bf l x.k))) ?hI ?hIx ?h0 ?a2 ?assign ?body ?done ?stop
        case hI =>
          rintro N pre X X' row ⟨h1, h2, v, h3, h4⟩ hg hr
          exact ⟨h1.row hg (fun r e => (hr r e).1), h2, v, (hg.block _ (Array.getElem?_eq_some_iff.1 h3).1 (fun e => by have := (hr Bo e.symm).1; omega)).trans h3, h4.grown hg (fun r e => (hr r e).2)⟩
        case hIx =>
          rintro c N pre X X' row ⟨h0, h1, h2, v, h3, h4⟩ hg hr
          exact ⟨h0, h1.row hg (fun r e => (hr r e).1), h2, v, (hg.block _ (Array.getElem?_eq_some_iff.1 h3).1 (fun e => by have := (hr Bo e.symm).1; omega)).trans h3, h4.grown hg (fun r e => (hr r e).2)⟩
        case h0 => exact fun N => ⟨Fr.refl _ _, by simp, _, HO9.out, RowsAt.nil _ _⟩
        case assign =>
          intro lr x Z Kc hK
          gi_wp2
          exact hK
        case stop =>
          rintro D'' N c pre Z2 hD2 hpre ⟨rfl, hf2, hl2, v, hvb, hR⟩ hK2
          obtain ⟨A2, c2, rfl⟩ := Kd.R_slice hR
          have cbo : Z2.cell? ⟨Bo, 0, none⟩ = some (.slice A2 (pre.map (fun x => resF f bf l x.k)).length c2) := blk_c hvb 0
          have HCu := Aside0.mk (PFn.rows_Cut.calls A2 c2 _ _ Z2 (Kd.R_reads' hR).2.2 (Kd.R_reads' hR).2.1 (cut_f _ (by rw [List.length_map]; omega)))
          rw [List.length_map, hl2] at cbo HCu
          have hbz2 : Below w.heap.size w Z2 := HBW9.out.trans (hf2.below HBW9.out.size (fun k e => by omega))
          have hDW : D' < Bo := by rw [← hBo]; exact (Array.getElem?_eq_some_iff.1 hKD).1
          have hK1 : Z2.heap[D']? = some (.deferred (some [])) := (hf2.block _ (by omega) (by omega)).trans ((hb9.block _ (by omega)).trans (by rw [← hZo]; exact (Below.heap_alloc _ _ _ (by omega)).trans hKD))
          have e : pre.map (fun x => resF f bf l x.k) = foldF f bf l := by
            unfold foldF
            rw [show (keysS (bf ++ l)).take 64 = pre.map (·.k) by have h := List.prefix_iff_eq_take.1 hpre; rw [List.length_map, hl2] at h; exact h.symm, List.map_map]; rfl
          rw [e] at HCu
          gi_wp2_with (first
            | (gi_at_call 42; refine (callsIn_wide.2 HCu.out).mono ?_; rintro e' We ⟨vr, rfl, hRr, hbr⟩))
          exact leaves2 (L := foldF f bf l) rfl rfl ((hbr.block _ (Array.getElem?_eq_some_iff.1 hK2).1).trans hK2) ((hbr.block _ (Array.getElem?_eq_some_iff.1 hK1).1).trans hK1) (by omega) (by have := HBR.out.size; omega) (by omega) (Kd.R_lower hRr hbz2.size) (hbz2.trans (hbr.mono hbz2.size)) (fun W' h1 h2 => ⟨vr, rfl, h1, h2⟩)
        case done =>
          rintro D'' N ys Z2 hD2 hys ⟨hf2, hl2, v, hvb, hR⟩ hK2
          obtain ⟨A2, c2, rfl⟩ := Kd.R_slice hR
          have cbo : Z2.cell? ⟨Bo, 0, none⟩ = some (.slice A2 (ys.map (fun x => resF f bf l x.k)).length c2) := blk_c hvb 0
          have HCu := Aside0.mk (PFn.rows_Cut.calls A2 c2 _ _ Z2 (Kd.R_reads' hR).2.2 (Kd.R_reads' hR).2.1 (cut_f _ (by rw [List.length_map]; omega)))
          rw [List.length_map] at cbo HCu
          have hbz2 : Below w.heap.size w Z2 := HBW9.out.trans (hf2.below HBW9.out.size (fun k e => by omega))
          have hDW : D' < Bo := by rw [← hBo]; exact (Array.getElem?_eq_some_iff.1 hKD).1
          have hK1 : Z2.heap[D']? = some (.deferred (some [])) := (hf2.block _ (by omega) (by omega)).trans ((hb9.block _ (by omega)).trans (by rw [← hZo]; exact (Below.heap_alloc _ _ _ (by omega)).trans hKD))
          have e : ys.map (fun x => resF f bf l x.k) = foldF f bf l := by
            unfold foldF
            rw [← show ys.map (·.k) = keysS (bf ++ l) from hys, List.take_of_length_le (by rw [List.length_map]; omega), List.map_map]; rfl
          rw [e] at HCu
          gi_wp2_with (first
            | (gi_at_call 42; refine (callsIn_wide.2 HCu.out).mono ?_; rintro e' We ⟨vr, rfl, hRr, hbr⟩))
          exact leaves2 (L := foldF f bf l) rfl rfl ((hbr.block _ (Array.getElem?_eq_some_iff.1 hK2).1).trans hK2) ((hbr.block _ (Array.getElem?_eq_some_iff.1 hK1).1).trans hK1) (by omega) (by have := HBR.out.size; omega) (by omega) (Kd.R_lower hRr hbz2.size) (hbz2.trans (hbr.mono hbz2.size)) (fun W' h1 h2 => ⟨vr, rfl, h1, h2⟩)
        case body =>
          rintro lr N pre x X X' hN1 hN2 hSp ⟨hfX, hl64, v, hvb, hR⟩ hgr ⟨hk, hx⟩
          have hszX := hfX.size
          have hszX' := hgr.size
          have FAx := (FA9.out.kept hfX (fun k h1 h2 e => by omega)).kept (Fr.of_grown hgr (S := fun _ => False) (by simp)) (fun _ _ _ h => h)
          have cst : X'.cell? ⟨B + 1 + 1, 0, none⟩ = some (.map (some (B + 1))) := blk_c FAx.box 0
          have ct0 : X'.cell? ⟨B, 0, none⟩ = some (.func (.func (fn1 f)) #[] #[]) := blk_c FAx.tel 0
          have ct1 : X'.cell? ⟨B, 1, none⟩ = some (.func (.func (fn2 f)) #[] #[]) := blk_c FAx.tel 1
          have hl1 := FAx.st.look hk
          have VSx := ((VS9.out.keptT hfX (fun e => by omega) (fun k cs e h => by subst e; rw [HO9.out] at h; cases h)).kept (Fr.of_grown hgr (S := fun _ => False) (by simp)) (fun h => h) (fun _ _ _ h => h))
          have cvb : X'.cell? ⟨V + 1, 0, none⟩ = some (.map (some V)) := blk_c (blk_new ((hfX.block _ (by omega) (by omega)).trans HX9.out) hgr) 0
          obtain ⟨vv, hl2, hoi⟩ := VSx.look hk
          rw [vals_all HXS.out] at hoi
          obtain ⟨zs, hzs⟩ : ∃ zs, valsOf l x.k = zs := ⟨_, rfl⟩
          have hzl : zs.length ≤ 100000 := by rw [← hzs]; have := valsOf_len l x.k; omega
          obtain ⟨p0, hp0⟩ : ∃ p, (lastV bf x.k, hasK bf x.k) = p := ⟨_, rfl⟩
          have HRES : Aside0 (resF f bf l x.k = ⟨x.k, (runV f p0 zs).1⟩) := ⟨by unfold resF; rw [hp0, hzs]⟩
          rw [hzs] at hoi
          have hp1 : lastV bf x.k = p0.1 := by rw [← hp0]
          have hp2 : hasK bf x.k = p0.2 := by rw [← hp0]
          rw [hp1, hp2] at hl1
          clear hp0 hp1 hp2 hzs
          obtain ⟨g, hI, hgb⟩ := ints_of_own (by simpa using hoi.1)
          obtain ⟨Az, cz, rfl⟩ : ∃ A c, vv = .slice A zs.length c := by
            obtain ⟨A, c, e⟩ := own_slice' hoi.1
            exact ⟨A, c, e⟩
          have hIr : ∀ j y, zs[j]? = some y → ∃ ad, Az = some ad ∧ X'.cell? (ad.add j) = some (.int .i64 y) := by
            intro j y hj
            have hjl := (List.getElem?_eq_some_iff.1 hj).1
            rcases hI with ⟨_, rfl⟩ | ⟨c, e, hc⟩
            · simp at hj
            · injection e with e1 e2 e3
              refine ⟨⟨g, 0, none⟩, e1, ?_⟩
              rw [add_plain, hc j hjl, List.getD_eq_getElem?_getD, hj]
              rfl
          have HIr := Aside0.mk hIr
          have HOI := Aside0.mk hoi
          clear hIr hI hgb hoi
          have HR := Aside0.mk hR
          have HF1 : Aside0 (∀ y W, Calls Try.prog (fn1 f) #[.int .i64 y] W fun e w' => e = .returned (.int .i64 (firstV f y)) ∧ w' = W) := ⟨fun y W => first_calls f hf y W⟩
          have HF2 : Aside0 (∀ z y W, Calls Try.prog (fn2 f) #[.int .i64 z, .int .i64 y] W fun e w' => e = .returned (.int .i64 (nextV f z y)) ∧ w' = W) := ⟨fun z y W => next_calls f hf z y W⟩
          have en1 := first_enter f hf
          have en2 := next_enter f hf
          have hw1 : Fence.wide.fn (fn1 f) := trivial
          have hw2 : Fence.wide.fn (fn2 f) := trivial
          clear hR
          gi_wp2
          gi_loopg [18, 19, 69] (zs.length + 1) (fun kq v18 v19 v69 ws => ∃ (j : Nat), v69 = .int .i64 (j : Int) ∧ j ≤ zs.length ∧ zs.length - j ≤ kq ∧ X' = ws ∧ v18 = .int .i64 (runV f p0 (zs.take j)).1 ∧ v19 = .bool (runV f p0 (zs.take j)).2)
          case atStart => exact ⟨0, rfl, by omega, by omega, rfl, rfl, rfl⟩
          case round =>
            obtain ⟨j, rfl, hj, hjq, rfl, rfl, rfl⟩ := hrel
            by_cases hjl : j < zs.length
            · have q1 : decide ((j : Int) < (zs.length : Int)) = true := decide_eq_true (by omega)
              obtain ⟨y, hy⟩ : ∃ y, zs[j]? = some y := ⟨_, List.getElem?_eq_getElem hjl⟩
              obtain ⟨ad, e0, g0⟩ := HIr.out j y hy
              subst e0
              have hT : zs.take (j + 1) = zs.take j ++ [y] := by rw [List.take_add_one, hy]; rfl
              have hstep : runV f p0 (zs.take (j + 1)) = stepV f (runV f p0 (zs.take j)) y := by rw [hT, runV_snoc]
              have HST := Aside0.mk hstep
              clear hT hstep hy
              obtain ⟨⟨q1v, q2v⟩, hq⟩ : ∃ q, runV f p0 (zs.take j) = q := ⟨_, rfl⟩
              rw [hq] at HST ⊢
              have p0' : (0 : Int) ≤ (j : Int) := by omega
              have p1' : (j : Int) < (zs.length : Int) := by omega
              cases q2v with
              | false =>
                gi_wp2_with (first
                  | (refine ⟨rfl, ?_⟩; gi_at_fn (fn1 f); refine (CallsIn.inRound lr (callsIn_wide.2 (HF1.out y X'))).mono ?_; rintro e' W2 ⟨rfl, rfl⟩))
                gi_roundg (gk - 1)
                case measure => omega
                case rel => exact ⟨j + 1, by go_num, by omega, by omega, rfl, by rw [HST.out]; rfl, by rw [HST.out]; rfl⟩
              | true =>
                gi_wp2_with (first
                  | (refine ⟨rfl, ?_⟩; gi_at_fn (fn2 f); refine (CallsIn.inRound lr (callsIn_wide.2 (HF2.out q1v y X'))).mono ?_; rintro e' W2 ⟨rfl, rfl⟩))
                gi_roundg (gk - 1)
                case measure => omega
                case rel => exact ⟨j + 1, by go_num, by omega, by omega, rfl, by rw [HST.out]; rfl, by rw [HST.out]; rfl⟩
            · obtain rfl : j = zs.length := by omega
              have q1 : decide ((zs.length : Int) < (zs.length : Int)) = false := decide_eq_false (by omega)
              rw [List.take_length]
              obtain ⟨rv, hrv⟩ : ∃ rv, (runV f p0 zs).1 = rv := ⟨_, rfl⟩
              obtain ⟨rb, hrb⟩ : ∃ rb, (runV f p0 zs).2 = rb := ⟨_, rfl⟩
              rw [hrv, hrb]
              rw [hrv] at HRES
              clear hrv hrb
              obtain ⟨XL, hXL⟩ : ∃ XL, X'.alloc (.cells #[.int .i64 x.k, .int .i64 rv] 30) = XL := ⟨_, rfl⟩
              have hbl : Fr (fun _ => False) X' XL := by rw [← hXL]; exact (Fr.refl _ _).alloc _
              have hsl : XL.heap.size = X'.heap.size + 1 := by rw [← hXL]; simp
              have hCr : Kd.C kRow XL (some ⟨X'.heap.size, 0, none⟩) 1 [⟨x.k, rv⟩] := by rw [← hXL]; exact row_C X' ⟨x.k, rv⟩
              have hRL : RowsAt XL N v (pre.map (fun x => resF f bf l x.k)) := (HR.out.kept (Fr.of_grown hgr (S := fun _ => False) (by simp)) (fun _ _ _ h => h)).kept hbl (fun _ _ _ h => h)
              have hvl : XL.heap[Bo]? = some (.cells #[v] 22 (0, 0)) := (hbl.block _ (by omega) (fun h => h)).trans (blk_new hvb hgr)
              obtain ⟨v10, W10, hr10, hR10, hg10, hat10⟩ := app_run (W := XL) N 22 v _ [⟨x.k, rv⟩] (some ⟨X'.heap.size, 0, none⟩) 1 1 hRL hCr (by omega) (by rw [List.length_map]; omega)
              have hrow : ∀ k, v.ownBlock = some k → N ≤ k := fun k e => by
                obtain ⟨inner, ho⟩ := Kd.R_own hRL
                exact (ho.lt k e).1
              have hs10 := hg10.size
              have hv10 : W10.heap[Bo]? = some (.cells #[v] 22 (0, 0)) := (hg10.block _ (by omega) (fun e => by have := hrow Bo e.symm; omega)).trans hvl
              obtain ⟨A10, c10, e10⟩ := Kd.R_slice hR10
              obtain ⟨m, hm⟩ : ∃ m : Nat, pre.length + 1 = m := ⟨_, rfl⟩
              rw [List.length_append, List.length_map, List.length_singleton, hm] at e10
              subst e10
              have mB : W10.cell? ⟨Bo, 0, none⟩ = some v := blk_c hv10 0
              have mF : W10.frozen? ⟨Bo, 0, none⟩ = false := blk_frozen hv10 0
              have hv11 := blk_set hv10 0 (.slice A10 m c10)
              have mC : (W10.setCell ⟨Bo, 0, none⟩ (.slice A10 m c10)).cell? ⟨Bo, 0, none⟩ = some (.slice A10 m c10) := blk_c hv11 0
              have mD : XL.cell? ⟨Bo, 0, none⟩ = some v := blk_c hvl 0
              have mX : X'.cell? ⟨Bo, 0, none⟩ = some v := blk_c (blk_new hvb hgr) 0
              have hF10 : Fr (fun k => k = Bo ∨ N ≤ k) X' W10 := (hbl.mono (fun _ h => h.elim)).trans (Fr.of_grown hg10 (fun k e => .inr (hrow k e)))
              have hF11 : Fr (fun k => k = Bo ∨ N ≤ k) X' (W10.setCell ⟨Bo, 0, none⟩ (.slice A10 m c10)) := hF10.set (.inl rfl) _
              have K11 : Aside0 (Fr (fun k => k = Bo ∨ N ≤ k) X' (W10.setCell ⟨Bo, 0, none⟩ (.slice A10 m c10)) ∧ Fr (· = Bo) W9 (W10.setCell ⟨Bo, 0, none⟩ (.slice A10 m c10)) ∧ (pre ++ [x]).length = m ∧ (W10.setCell ⟨Bo, 0, none⟩ (.slice A10 m c10)).heap[Bo]? = some (.cells #[.slice A10 m c10] 22 (0, 0)) ∧ RowsAt (W10.setCell ⟨Bo, 0, none⟩ (.slice A10 m c10)) N (.slice A10 m c10) ((pre ++ [x]).map (fun x => resF f bf l x.k))) := by
                refine ⟨hF11, Fr.old (N := N) (((hfX.mono (fun _ h => .inl h)).trans (Fr.of_grown hgr (by simp))).trans hF11) (by omega), by rw [List.length_append, List.length_singleton, hm], hv11, ?_⟩
                rw [List.map_append, List.map_cons, List.map_nil, HRES.out]
                exact hR10.kept ((Fr.refl (· = Bo) _).set rfl _) (fun k h1 h2 e => by omega)
              have HM : Aside0 (m ≤ 64) := ⟨by omega⟩
              clear hF10 hF11 hv10 hv11 hvl hR10 hRL hCr hat10 hg10 hrow
              by_cases h64 : m = 64
              · have q2 : decide ((m : Int) = 64) = true := decide_eq_true (by omega)
                gi_wp2_with (first
                  | (gi_at_builtin; refine wpListIn_run rfl (.tmp 85) (.tmp 89) 22 rfl v (.slice (some ⟨X'.heap.size, 0, none⟩) 1 1) _ W10 rfl rfl hr10 ?_))
                obtain ⟨k1, k2, k3, k4, k5⟩ := K11.out
                subst h64
                exact ⟨k1, rfl, k2, k3, _, k4, k5⟩
              · have q2 : decide ((m : Int) = 64) = false := decide_eq_false (by omega)
                gi_wp2_with (first
                  | (gi_at_builtin; refine wpListIn_run rfl (.tmp 85) (.tmp 89) 22 rfl v (.slice (some ⟨X'.heap.size, 0, none⟩) 1 1) _ W10 rfl rfl hr10 ?_))
                obtain ⟨k1, k2, k3, k4, k5⟩ := K11.out
                have := HM.out
                exact ⟨k1, k2, by omega, _, k4, k5⟩
end Go.Proofs.Ytbbjkgpilmcldaa.Seq
