/- Proved: what the document's tell, both, Cut and Reduce hand back; condition: at most 1000 rows of numbers that fit. -/
import Derived.Test.YtbbjkgpilmcldaaGrpW
namespace Go.Proofs.Ytbbjkgpilmcldaa.Seq
open Go.RowKit Go.Maps Go.ChangeShapes Go.Shelf
open Go.Proofs.YtbbjkgpilmcldaaW.PrintWords Go.Proofs.YtbbjkgpilmcldaaW.PrintLast Go.Proofs.YtbbjkgpilmcldaaW.PrintMore
attribute [local go_sem] Oper.semAt_some store_func
set_option linter.unusedVariables false
set_option linter.unusedSimpArgs false
def tellF (f : Nat) (vs : List Int) : Int := (runV f (0, false) vs).1
theorem runV_true (f : Nat) (vs : List Int) : ∀ p : Int × Bool, p.2 = true → (runV f p vs).2 = true := by
  induction vs with
  | nil => intro p h; exact h
  | cons v vs ih =>
    intro p h
    show (runV f (stepV f p v) vs).2 = true
    refine ih _ ?_
    unfold stepV
    rw [h]; rfl
theorem tellF_take (f : Nat) (vs : List Int) (i : Nat) (h1 : 1 ≤ i) (h2 : i < vs.length) : tellF f (vs.take (i + 1)) = nextV f (tellF f (vs.take i)) vs[i] := by
  have h : (runV f (0, false) (vs.take i)).2 = true := by
    obtain ⟨v, r, e⟩ : ∃ v r, vs.take i = v :: r := by
      cases e : vs.take i with
      | nil => have := congrArg List.length e; rw [List.length_take, List.length_nil] at this; omega
      | cons v r => exact ⟨v, r, rfl⟩
    rw [e]
    exact runV_true f r _ (by unfold stepV; rfl)
  unfold tellF
  rw [List.take_succ_eq_append_getElem h2, runV_snoc]
  unfold stepV
  rw [if_pos h]
theorem tellF_one (f : Nat) (vs : List Int) (h : 0 < vs.length) : tellF f (vs.take 1) = firstV f vs[0] := by
  match vs, h with
  | v :: r, _ => rfl
theorem okI_bd {x : Int} (h : okI x) : -9223372036854775808 ≤ x ∧ x ≤ 9223372036854775807 := by
  unfold okI at h
  simp only [Lit.wf, IntKind.min, IntKind.max, IntKind.signed, IntKind.bits, Bool.and_eq_true, decide_eq_true_eq, if_true] at h
  omega
theorem bd_okI {x : Int} (h : -9223372036854775808 ≤ x ∧ x ≤ 9223372036854775807) : okI x := by
  unfold okI
  simp only [Lit.wf, IntKind.min, IntKind.max, IntKind.signed, IntKind.bits, Bool.and_eq_true, decide_eq_true_eq, if_true]
  omega
theorem count_run (x : Int) (vs : List Int) : okI x → (runV 3 (x, true) vs).1 = wrap64 (x + vs.length) := by
  induction vs generalizing x with
  | nil =>
    intro h
    show x = _
    obtain ⟨h1, h2⟩ := okI_bd h
    unfold wrap64
    simp only [List.length_nil]
    omega
  | cons v vs ih =>
    intro h
    show (runV 3 (wrap64 (x + 1), true) vs).1 = _
    rw [ih _ (wrap64_ok _)]
    simp only [List.length_cons]
    unfold wrap64
    omega
theorem tell3 (vs : List Int) (h : 0 < vs.length) (hl : vs.length ≤ 100000) : tellF 3 vs = (vs.length : Int) := by
  match vs, h with
  | v :: r, _ =>
    show (runV 3 (1, true) r).1 = _
    rw [count_run 1 r (bd_okI (by omega))]
    simp only [List.length_cons] at hl ⊢
    unfold wrap64
    omega
set_option maxHeartbeats 2000000 in
set_option maxRecDepth 100000 in
theorem tell_calls (f : Nat) (hf : f ≤ 5) (ad : Addr) (c : Nat) (vs : List Int) (w : World) (hne : 0 < vs.length) (hl : vs.length ≤ 100000) (hr : ∀ j y, vs[j]? = some y → w.cell? (ad.add j) = some (.int .i64 y)) :
    Calls Try.prog 46 #[.int .i64 (f : Int), .slice (some ad) vs.length c] w fun e w' => e = .returned (.int .i64 (tellF f vs)) ∧ ∃ nd, w' = w.drewN nd := by
  have HR := Aside0.mk hr
  have h0 : w.cell? ad = some (.int .i64 vs[0]) := by
    have := hr 0 vs[0] (List.getElem?_eq_getElem hne)
    simpa [Addr.add] using this
  clear hr
  have p9 : (0 : Int) < (vs.length : Int) := by omega
  by_cases h3 : f = 3
  · subst h3
    have ht := tell3 vs hne hl
    go_enter Try.func46, Try.ntmps46
    go_wp2_with fail
    go_ret
    exact ⟨by rw [ht]; rfl, 0, rfl⟩
  · have q3 : decide ((f : Int) = 3) = false := decide_eq_false (by omega)
    have q3b : ((f : Int) == 3) = false := by rw [beq_eq_false_iff_ne]; omega
    have HT1 : Aside0 (vs[0] = tellF f (vs.take 1)) := ⟨by
      rw [tellF_one f vs hne]
      unfold firstV
      split <;> first | rfl | omega⟩
    go_enter Try.func46, Try.ntmps46
    go_wp2_with fail
    go_loopg [5, 6] (vs.length + 1) (fun kq v5 v6 ws => ∃ (i nd : Nat), v6 = .int .i64 (i : Int) ∧ v5 = .int .i64 (tellF f (vs.take i)) ∧ 1 ≤ i ∧ i ≤ vs.length ∧ vs.length - i < kq ∧ Aside0 (ws = w.drewN nd))
    case atStart => exact ⟨1, _, rfl, by rw [HT1.out], by omega, by omega, by omega, ⟨by first | rfl | exact (World.drewN_zero _).symm⟩⟩
    case round =>
      obtain ⟨i, nd, rfl, rfl, h1, hi, hk, HW⟩ := hrel
      obtain rfl := HW.out
      by_cases hlt : i < vs.length
      · have q1 : decide ((i : Int) < (vs.length : Int)) = true := decide_eq_true (by omega)
        have p0 : (0 : Int) ≤ (i : Int) := by omega
        have p1 : (i : Int) < (vs.length : Int) := by omega
        have x0 : (w.drewN nd).cell? (ad.add i) = some (.int .i64 vs[i]) := by
          have := HR.out i vs[i] (List.getElem?_eq_getElem hlt)
          simpa using this
        have HS := Aside0.mk (tellF_take f vs i h1 hlt)
        obtain ⟨t, ht⟩ : ∃ t, tellF f (vs.take i) = t := ⟨_, rfl⟩
        obtain ⟨y, hy⟩ : ∃ y, vs[i] = y := ⟨_, rfl⟩
        rw [ht, hy] at HS
        rw [hy] at x0
        rw [ht]
        clear ht hy
        have hc : f = 0 ∨ f = 1 ∨ f = 2 ∨ f = 4 ∨ f = 5 := by omega
        rcases hc with rfl | rfl | rfl | rfl | rfl
        all_goals
          go_wp2_with fail
          go_roundg (gk - 1)
          all_goals first
            | (case measure => omega)
            | (case rel => exact ⟨i + 1, _, (by first | rfl | go_num), by rw [HS.out]; rfl, by omega, by omega, by omega, ⟨by first | rfl | simp⟩⟩)
      · obtain rfl : i = vs.length := by omega
        have q1 : decide ((vs.length : Int) < (vs.length : Int)) = false := decide_eq_false (by omega)
        go_wp2_with fail
        go_ret
        exact ⟨rfl, _, by first | rfl | simp⟩
theorem both_calls (f : Nat) (hf : f ≤ 3) (x y : Int) (w : World) : Calls Try.prog 48 #[.int .i64 (f : Int), .int .i64 x, .int .i64 y] w fun e w' => e = .returned (.int .i64 (tellJ f x y)) ∧ w' = w := by
  have h : f = 0 ∨ f = 1 ∨ f = 2 ∨ f = 3 := by omega
  rcases h with rfl | rfl | rfl | rfl
  all_goals
    go_enter Try.func48, Try.ntmps48
    go_wp2
    go_ret
    exact ⟨rfl, rfl⟩
end Go.Proofs.Ytbbjkgpilmcldaa.Seq
namespace Go.Proofs.Ytbbjkgpilmcldaa.Seq
open Go.RowKit Go.Maps Go.ChangeShapes Go.Shelf
open Go.Proofs.YtbbjkgpilmcldaaW.PrintWords Go.Proofs.YtbbjkgpilmcldaaW.PrintLast Go.Proofs.YtbbjkgpilmcldaaW.PrintMore
attribute [local go_sem] Oper.semAt_some store_func
set_option linter.unusedVariables false
set_option linter.unusedSimpArgs false
theorem own_pre {w : World} {base e size n m : Nat} {A : Option Addr} {c : Nat} {xs : List Value} (h : w.ownsRow base e size (.slice A n c) n xs) (hm : m ≤ n) : w.ownsRow base e size (.slice A m c) m (xs.take (m * size)) := by
  have hms : m * size ≤ n * size := Nat.mul_le_mul_right _ hm
  refine ⟨by rw [List.length_take, h.1]; omega, ?_⟩
  rcases h.2 with ⟨e1, h0⟩ | ⟨g, cap, cur, e1, h1, h2, h3, h4, h5, h6⟩
  · injection e1 with e1 e2 e3
    subst e1 e3
    obtain rfl : m = 0 := by omega
    exact .inl ⟨rfl, rfl⟩
  · injection e1 with e1 e2 e3
    subst e1 e3
    exact .inr ⟨g, c, cur, rfl, h1, h2, by omega, h4, h5, by rw [← h6, List.take_take, Nat.min_eq_left hms]⟩
theorem RowsAt.pre {W : World} {lo n c : Nat} {A : Option Addr} {xs ys : List RowT} (h : RowsAt W lo (.slice A n c) xs) (hy : xs.take ys.length = ys) : RowsAt W lo (.slice A ys.length c) ys := by
  obtain ⟨hn, -, -⟩ := Kd.R_reads' h
  obtain ⟨h1, inner, ho, hr⟩ := h
  subst hn
  have hm : ys.length ≤ xs.length := by
    have := congrArg List.length hy
    rw [List.length_take] at this
    omega
  have hr2 := Kd.reps_take hr hm
  rw [hy] at hr2
  have ho2 := own_pre ho hm
  refine ⟨fun _ _ => trivial, inner.take (ys.length * kRow.sz), ho2, hr2.imp_ (fun _ _ hq => ?_)⟩
  rw [PFn.k30_openM hq]; exact PFn.k30_mkM _ _ _ _
theorem refCut_calls (A0 : Option Addr) (c0 : Nat) (X T : List RowT) (w : World) (hc0 : X.length ≤ c0) (hl : X.length ≤ 1000000) (hT : X.take 64 = T) :
    Calls Try.prog 47 #[.slice A0 X.length c0] w fun e w' => e = .returned (.slice A0 T.length c0) ∧ w' = w := by
  have hmn : (if (64 : Int) < (X.length : Int) then (64 : Int) else (X.length : Int)) = (T.length : Int) := by rw [← hT, List.length_take]; split <;> omega
  have hXl : T.length ≤ X.length := by rw [← hT, List.length_take]; omega
  have hcut1 := Reg.cut_cap (P := Try.prog) 22 30 .i64 Try.underlying22 (Option.map_eq_some_iff.1 infoRow).choose_spec.1 A0 X.length c0 (T.length : Int) (by omega) (by omega)
  rw [Int.toNat_natCast] at hcut1
  have hm2 : (min (X.length : Int) 64).toNat = T.length := by rw [← hT, List.length_take]; omega
  clear hT
  go_enter Try.func47, Try.ntmps47
  go_wp2
  go_ret
  exact ⟨rfl, rfl⟩
section
variable {P : Program} {w : World} {ops : Array Oper} {rest : List Oper} {o : Oper} {a : Act} {Q : Exit → Act → World → Prop} {K : Act → World → Prop} {E : Prop}
theorem law_callG {f : FuncId} {args : Array Value} (hw : Region.wanted o (yielded ops a.tmps) = true) (hrun : (execOp a.eval o).run P w = .ok (.enter f args) w)
    (h : Calls P f args w fun e w' => ∃ v, e = .returned v ∧ K (a.put o.dst v) w') : if Region.wanted o (yielded ops a.tmps) = true then Oper.wp P o a w K Q else E := by
  rw [if_pos hw]
  unfold Oper.wp
  rw [hrun, Oper.upon_enter]
  refine h.mono fun e w'' hh => ?_
  obtain ⟨v, rfl, hk⟩ := hh
  exact hk
end
def redG (f : Nat) (gs : List GrpP) : List RowT := gs.map fun g => ⟨g.1, tellF f g.2⟩
/-- A group's values, where they lie. -/
theorem GAx.vals {W : World} {base : Nat} {A : Option Addr} {n c : Nat} {gs : List GrpP} {es : List (Int × Value)} (h : GAx W base (.slice A n c) gs es) (k : Nat) (hk : k < gs.length) : ∃ g A2 c2, A = some ⟨g, 0, none⟩ ∧ W.cell? ⟨g, k * 2 + 1, none⟩ = some (.slice A2 gs[k].2.length c2) ∧ ∀ j y, gs[k].2[j]? = some y → ∃ ad, A2 = some ad ∧ W.cell? (ad.add j) = some (.int .i64 y) := by
  have hlen := h.len
  obtain ⟨g, e1, -⟩ := h.key k hk
  obtain ⟨A2, c2, e2, h2⟩ := ints_read (h.at_ k (by omega) hk).1
  refine ⟨g, A2, c2, e1, ?_, h2⟩
  have h1 := (gcells_get es k es[k] (List.getElem?_eq_getElem (by omega))).2
  subst e1
  have h3 := h.own.cells (g := g) (by simp [Value.ownBlock]) _ _ h1
  rw [add_plain, e2] at h3
  exact h3
theorem groups_pos (l : List RowT) : ∀ g ∈ groupsOf l, 0 < g.2.length := by
  intro g hg
  unfold groupsOf at hg
  obtain ⟨k, hk, rfl⟩ := List.mem_map.1 hg
  rcases Nat.eq_zero_or_pos (valsOf l k).length with h0 | h0
  · have h1 := valsOf_nil.1 (List.eq_nil_of_length_eq_zero h0)
    rw [mem_keysS, h1] at hk
    cases hk
  · exact h0
theorem redG_fold (f : Nat) (l : List RowT) : (redG f (groupsOf l)).take 64 = foldF f [] l := by
  rw [foldF_map, List.nil_append, List.map_take]
  unfold redG groupsOf
  rw [List.map_map]
  congr 1
theorem GAx.grownT {W w1 : World} {base : Nat} {v : Value} {gs : List GrpP} {es : List (Int × Value)} {row : Option Nat} (h : GAx W base v gs es) (hg : W.grownBy w1 row) (hr : ∀ r, row = some r → ∃ cs, W.heap[r]? = some (.cells cs 30 (0, 0))) : GAx w1 base v gs es := by
  refine ⟨h.keys, own_move h.own (fun k hk => hg.block k (h.own.lt k hk).2 (fun e => ?_)), fun p hp => ints_move (h.inner p hp) (fun b hbk => hg.block b ((h.inner p hp).1.lt b hbk).2 (fun e => ?_)), h.apart⟩
  · obtain ⟨c1, h1⟩ := hr k e.symm
    obtain ⟨c2, h2⟩ := own_typed h.own k hk
    rw [h1] at h2
    injection h2 with h2
    injection h2 with _ h2
    exact absurd h2 (by decide)
  · obtain ⟨c1, h1⟩ := hr b e.symm
    obtain ⟨c2, h2⟩ := own_typed (h.inner p hp).1 b hbk
    rw [h1] at h2
    injection h2 with h2
    injection h2 with _ h2
    exact absurd h2 (by decide)
/-- A row is put to rows, while groups stand beside. -/
theorem put_row {w wr : World} {A5 : Option Addr} {n c5 : Nat} {xs : List RowT} (HR : RowsAt wr w.heap.size (.slice A5 n c5) xs) (HB : Below w.heap.size w wr) (x : RowT) (hn : n ≤ 1000000) (m : Nat) :
    ∃ A8 c8 w8, (Builtin.append_ #[22, 22] 22 #[.slice A5 n c5, .slice (some ⟨wr.heap.size, 0, none⟩) 1 1]).run Try.prog ((wr.drewN m).alloc (.cells #[.int .i64 x.f0, .int .i64 x.f1] 30)) = .ok (.slice A8 (n + 1) c8) w8 ∧ RowsAt w8 w.heap.size (.slice A8 (n + 1) c8) (xs ++ [x]) ∧ Below w.heap.size w w8 ∧ ((wr.drewN m).alloc (.cells #[.int .i64 x.f0, .int .i64 x.f1] 30)).grownBy w8 (Value.slice A5 n c5).ownBlock := by
  obtain ⟨hn1, -, -⟩ := Kd.R_reads' HR
  subst hn1
  have ha : Below wr.heap.size wr ((wr.drewN m).alloc (.cells #[.int .i64 x.f0, .int .i64 x.f1] 30)) := below_alloc (pw_below_drewN (Below.refl _ wr) m) _
  have hX := row_C (wr.drewN m) x
  have hs : (wr.drewN m).heap.size = wr.heap.size := by simp
  rw [hs] at hX
  obtain ⟨v8, w8, r8, o8, g8, -⟩ := app_run w.heap.size 22 (.slice A5 xs.length c5) xs [x] (some ⟨wr.heap.size, 0, none⟩) 1 1 (Kd.R_below HR ha) hX (Nat.le_trans HB.size ha.size) (by omega)
  obtain ⟨A8, c8, e8⟩ := Kd.R_slice o8
  subst e8
  rw [List.length_append, List.length_singleton] at r8 o8
  obtain ⟨inner, ho⟩ := Kd.R_own HR
  exact ⟨A8, c8, w8, r8, o8, (HB.trans (ha.mono HB.size)).grown g8 (Nat.le_trans HB.size ha.size) (fun k hk => (ho.lt k hk).1), g8⟩
theorem row_typed {w : World} {lo : Nat} {v : Value} {xs : List RowT} (h : RowsAt w lo v xs) {m : Nat} {o : Obj} : ∀ r, v.ownBlock = some r → ∃ cs, ((w.drewN m).alloc o).heap[r]? = some (.cells cs 30 (0, 0)) := by
  intro r hr
  obtain ⟨inner, ho⟩ := Kd.R_own h
  obtain ⟨cs, hc⟩ := own_typed ho r hr
  refine ⟨cs, ?_⟩
  have ha : Below w.heap.size w ((w.drewN m).alloc o) := below_alloc (pw_below_drewN (Below.refl _ w) m) _
  rw [ha.block r (ho.lt r hr).2]
  exact hc
set_option maxHeartbeats 4000000 in
set_option maxRecDepth 100000 in
theorem reduce_calls (f : Nat) (hf : f ≤ 5) (A0 : Option Addr) (c0 : Nat) (l : List RowT) (w : World) (hC : kRow.C w A0 l.length l) (hlen : l.length ≤ 1000) (hok : ∀ r ∈ l, okRow r) :
    Calls Try.prog 32 #[.int .i64 (f : Int), .slice A0 l.length c0] w fun e w' => ∃ v, e = .returned v ∧ RowsAt w' w.heap.size v (foldF f [] l) ∧ Below w.heap.size w w' := by
  have HG := Aside0.mk (grp_calls A0 c0 l w hC hlen hok)
  have HRF := Aside0.mk (redG_fold f l)
  have hgl := groups_len l
  have HGP := Aside0.mk (groups_pos l)
  have HGV := Aside0.mk (groups_vals l)
  obtain ⟨gs, hgs⟩ : ∃ gs, groupsOf l = gs := ⟨_, rfl⟩
  rw [hgs] at HG HRF hgl HGP HGV
  clear hC hok hgs
  have q1 : decide ((f : Int) < 0) = false := decide_eq_false (by omega)
  have q2 : decide ((f : Int) > 5) = false := decide_eq_false (by omega)
  have q2' : decide ((5 : Int) < (f : Int)) = false := decide_eq_false (by omega)
  go_enter Try.func32, Try.ntmps32
  go_wp2_with fail
  refine HG.out.mono ?_
  rintro e w1 ⟨v, es, rfl, hG, hb1⟩
  obtain ⟨A6, c6, rfl⟩ := own_slice' hG.own
  have HGA := Aside0.mk hG
  have HB1 := Aside0.mk hb1
  clear hG hb1 HG
  go_wp2_with fail
  go_loopg [5, 7] (gs.length + 1) (fun kq v5 v7 wr => ∃ (i : Nat), v7 = .int .i64 (i : Int) ∧ i ≤ gs.length ∧ gs.length - i < kq ∧ Aside0 (RowsAt wr w.heap.size v5 (redG f (gs.take i))) ∧ Aside0 (GAx wr w.heap.size (.slice A6 gs.length c6) gs es) ∧ Aside0 (Below w.heap.size w wr))
  case atStart => exact ⟨0, rfl, by omega, by omega, ⟨RowsAt.nil _ _⟩, HGA, HB1⟩
  case round =>
    obtain ⟨i, rfl, hi, hik, HR, HGr, HB⟩ := hrel
    by_cases hlt : i < gs.length
    · have q3 : decide ((i : Int) < (gs.length : Int)) = true := decide_eq_true (by omega)
      have p0 : (0 : Int) ≤ (i : Int) := by omega
      have p1 : (i : Int) < (gs.length : Int) := by omega
      obtain ⟨g, e1, xk⟩ := HGr.out.key i hlt
      obtain ⟨g', A2, c2, e2, xv, hvs⟩ := HGr.out.vals i hlt
      subst e1
      obtain rfl : g = g' := by injection e2 with e2; injection e2
      clear e2
      have hvp := HGP.out gs[i] (List.getElem_mem hlt)
      have hvl := HGV.out gs[i] (List.getElem_mem hlt)
      have hrd : redG f (gs.take (i + 1)) = redG f (gs.take i) ++ [⟨gs[i].1, tellF f gs[i].2⟩] := by
        unfold redG
        rw [List.take_succ_eq_append_getElem hlt, List.map_append]; rfl
      obtain ⟨K, hK⟩ : ∃ K, gs[i].1 = K := ⟨_, rfl⟩
      obtain ⟨vs, hv⟩ : ∃ vs, gs[i].2 = vs := ⟨_, rfl⟩
      rw [hK] at xk hrd
      rw [hv] at xv hvs hvp hvl hrd
      obtain ⟨ad, e3, -⟩ := hvs 0 vs[0] (List.getElem?_eq_getElem hvp)
      subst e3
      have hvs' : ∀ j y, vs[j]? = some y → wr.drew.cell? (ad.add j) = some (.int .i64 y) := fun j y hj => by
        obtain ⟨ad', e, h⟩ := hvs j y hj
        obtain rfl := Option.some.inj e
        simpa using h
      have HT := Aside0.mk (fun nd => tell_calls f hf ad c2 vs (wr.drewN nd) hvp (by omega) (fun j y hj => by have := hvs' j y hj; simpa using this))
      obtain ⟨t, ht⟩ : ∃ t, tellF f vs = t := ⟨_, rfl⟩
      rw [ht] at HT hrd
      have HRD := Aside0.mk hrd
      obtain ⟨A5, c5, e5⟩ := Kd.R_slice HR.out
      have hl5 : (redG f (gs.take i)).length = i := by unfold redG; rw [List.length_map, List.length_take]; omega
      rw [hl5] at e5
      subst e5
      have HL5 := Aside0.mk hl5
      have HAP := Aside0.mk (fun nd : Nat => put_row HR.out HB.out ⟨K, t⟩ (n := i) (by omega) (1 + nd))
      clear hvs hvs' hK hv ht hrd hl5
      go_upto_region 8 with fail
      go_region_law (first
        | (refine law_callG (by rfl) (by go_simp; try rfl) ((HT.out 1).mono ?_); rintro e w9 ⟨rfl, nd, rfl⟩; refine ⟨_, rfl, ?_⟩; obtain ⟨A8, c8, w8, r8, o8, b8, g8⟩ := HAP.out nd; have O8 := Aside0.mk o8; have B8 := Aside0.mk b8; have G8 := Aside0.mk g8; clear o8 b8 g8)
        | (refine law_appendG (by rfl) (.tmp 22) (.tmp 36) 22 rfl (.slice A5 i c5) (.slice (some ⟨wr.heap.size, 0, none⟩) 1 1) _ w8 rfl rfl r8 ?_))
      all_goals go_wp2
      all_goals go_roundg (gk - 1)
      all_goals first
        | (case measure => omega)
        | (case rel => exact ⟨i + 1, (by first | rfl | go_num), by omega, by omega, ⟨by rw [HRD.out]; exact O8.out⟩, ⟨(HGr.out.below (below_alloc (pw_below_drewN (Below.refl _ wr) _) _)).grownT G8.out (row_typed HR.out)⟩, B8⟩)
    · obtain rfl : i = gs.length := by omega
      have q3 : decide ((gs.length : Int) < (gs.length : Int)) = false := decide_eq_false (by omega)
      rw [List.take_length] at HR
      obtain ⟨A5, c5, e5⟩ := Kd.R_slice HR.out
      have hl5 : (redG f gs).length = gs.length := by unfold redG; rw [List.length_map]
      rw [hl5] at e5
      subst e5
      have HCut := Aside0.mk (refCut_calls A5 c5 (redG f gs) (foldF f [] l) wr (by have := (Kd.R_reads' HR.out).2.1; omega) (by omega) HRF.out)
      have hfin : RowsAt wr w.heap.size (.slice A5 (foldF f [] l).length c5) (foldF f [] l) := HR.out.pre (by rw [← HRF.out, List.take_eq_take_iff, List.length_take]; omega)
      have HF := Aside0.mk hfin
      rw [hl5] at HCut
      clear hfin hl5
      go_wp2_with fail
      refine HCut.out.mono ?_
      rintro e w2 ⟨rfl, rfl⟩
      go_wp2_with fail
      go_ret
      exact ⟨_, rfl, HF.out, HB.out⟩
end Go.Proofs.Ytbbjkgpilmcldaa.Seq
