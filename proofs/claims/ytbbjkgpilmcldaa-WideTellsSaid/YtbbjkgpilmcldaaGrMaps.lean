/- Proved: the maps that wide.Fold and wide.Join fill (a state; values by key), and an append of rows, as facts about runs; plain facts of what Fold tells. -/
import Derived.Test.YtbbjkgpilmcldaaGrTell
import Derived.Maps.OwnSet
namespace Go.Proofs.Ytbbjkgpilmcldaa.Seq
open Go.RowKit Go.Maps Go.ChangeShapes
open Go.Proofs.YtbbjkgpilmcldaaW.PrintWords Go.Proofs.YtbbjkgpilmcldaaW.PrintLast Go.Proofs.YtbbjkgpilmcldaaW.PrintMore
set_option linter.unusedVariables false
set_option linter.unusedSimpArgs false
set_option maxRecDepth 100000
theorem zeroI (w : World) : (zeroValue 3).run Try.prog w = .ok (.int .i64 0) w := by kernel_rfl
theorem key_of {x : Int} (h : okI x) : keyOf Try.prog 3 (.int .i64 x) = some (.int .i64 x) := keyOf_int_mk Try.underlying3 h
theorem ownsMap_kept {H : Type} {R : Value → Option (DataW H × List MemPlace)} {w w' : World} {b n : Nat} {D : DataW H} {S : Nat → Prop} (h : w.ownsMap Try.prog 3 R b n D) (hf : Fr S w w') (hS : ¬ S b) : w'.ownsMap Try.prog 3 R b n D := by
  obtain ⟨es, clock, hb, F, hs, hd⟩ := h
  exact ⟨es, clock, (hf.block b (Array.getElem?_eq_some_iff.1 hb).1 hS).trans hb, F, hs, hd⟩
theorem Fr.turned {w w' : World} {b : Nat} (ht : w.mapTurned w' b) : Fr (· = b) w w' := by
  have hg := ht.grown
  exact ⟨hg.os, hg.tape, hg.output, hg.size, fun i hi hs => hg.block i hi (fun e => hs (Option.some.inj e))⟩
/-! ### a state: of each key its last value -/
def lastV (l : List RowT) (k : Int) : Int := (valsOf l k).getLast?.getD 0
theorem lastV_snoc (l : List RowT) (r : RowT) (k : Int) : lastV (l ++ [r]) k = if r.f0 = k then r.f1 else lastV l k := by
  unfold lastV
  rw [valsOf_snoc]
  by_cases h : r.f0 = k
  · rw [if_pos h, if_pos h]; simp
  · rw [if_neg h, if_neg h]
structure StAt (W : World) (b n : Nat) (l : List RowT) : Prop where
  map : ∃ D : DataW Unit, W.ownsMap Try.prog 3 (plainElem Try.prog 3) b n D ∧ ∀ k, okI k → Go.Maps.has D (.int .i64 k) = hasK l k ∧ D.atKey (.int .i64 k) (.lit (.int .i64 0)) = .lit (.int .i64 (lastV l k))
theorem StAt.made (w : World) : StAt (w.alloc (.map #[] 0)) w.heap.size 0 [] := ⟨.map [], World.ownsMap_made _ _ _ _, fun k _ => ⟨rfl, rfl⟩⟩
theorem StAt.kept {w w' : World} {b n : Nat} {l : List RowT} {S : Nat → Prop} (h : StAt w b n l) (hf : Fr S w w') (hS : ¬ S b) : StAt w' b n l := by
  obtain ⟨D, h1, h2⟩ := h.map
  exact ⟨D, ownsMap_kept h1 hf hS, h2⟩
theorem StAt.lt {w : World} {b n : Nat} {l : List RowT} (h : StAt w b n l) : b < w.heap.size := by
  obtain ⟨D, h1, _⟩ := h.map
  exact h1.lt
theorem StAt.look {w : World} {b n : Nat} {l : List RowT} (h : StAt w b n l) {k : Int} (hk : okI k) : (Instr.lookup 72 (.map (some b)) (.int .i64 k) true).run Try.prog w = .ok (.tuple #[.int .i64 (lastV l k), .bool (hasK l k)]) w := by
  obtain ⟨D, hM, hD⟩ := h.map
  obtain ⟨v, ps, hrun, hv⟩ := World.ownsMap.look_ok hM lawI Try.underlying72 (zeroI w) (zd := .lit (.int .i64 0)) (zp := []) (plainElem_int Try.underlying3 (by decide)) (key_of hk)
  obtain ⟨h1, h2⟩ := hD k hk
  obtain ⟨c, rfl, hc, _⟩ := plainElem_int_inv Try.underlying3 hv
  rw [h1] at hrun
  have e : D.atKey (.int .i64 k) (.lit (.int .i64 0)) = .lit (.int .i64 c) := congrArg Prod.fst hc
  rw [h2] at e
  injection e with e
  injection e with _ e
  rw [hrun, e]
theorem StAt.store {w : World} {b n : Nat} {l : List RowT} (h : StAt w b n l) (hn : n < maxLen) {x : RowT} (hx : okRow x) :
    ∃ w', (Instr.mapUpdate 72 (.map (some b)) (.int .i64 x.f0) (.int .i64 x.f1)).run Try.prog w = .ok () w' ∧ StAt w' b (n + 1) (l ++ [x]) ∧ Fr (· = b) w w' := by
  obtain ⟨D, hM, hD⟩ := h.map
  obtain ⟨w', hrun, hM', ht⟩ := World.ownsMap.store hM lawI Try.underlying72 hn (key_of hx.1) (d := .lit (.int .i64 x.f1)) (ps := []) (plainElem_int Try.underlying3 hx.2)
  refine ⟨w', hrun, ⟨D.put (.int .i64 x.f0) (.lit (.int .i64 x.f1)), hM', fun j hj => ?_⟩, Fr.turned ht⟩
  obtain ⟨h1, h2⟩ := hD j hj
  rw [hasK_snoc, lastV_snoc]
  by_cases e : x.f0 = j
  · subst e
    rw [if_pos rfl]
    exact ⟨by rw [has_put_same hM.isMap (isKey _ hx.1)]; simp, atKey_put_same hM.isMap (isKey _ hx.1) _ _⟩
  · rw [if_neg e]
    have hne : (Lit.int .i64 j) ≠ .int .i64 x.f0 := fun h => e (by injection h with _ h; exact h.symm)
    exact ⟨by rw [has_put_other hne, h1]; simp [e], (atKey_put_other hne _ _).trans h2⟩
theorem wrap64_ok (x : Int) : okI (wrap64 x) := by
  unfold okI
  simp only [Lit.wf, IntKind.min, IntKind.max, IntKind.signed, IntKind.bits, wrap64, Bool.and_eq_true, decide_eq_true_eq, if_true]
  omega
/-! ### values by key -/
theorem not_cells {W : World} {base : Nat} {e : TypeId} {n size : Nat} {v : Value} {xs : List Value} {row : Option Nat} (h : W.ownsRow base e size v n xs) (hr : ∀ r, row = some r → ∃ o : Obj, W.heap[r]? = some o ∧ o.isCells = false) : v.ownBlock = none ∨ v.ownBlock ≠ row := by
  cases hv : v.ownBlock with
  | none => exact .inl rfl
  | some g =>
    refine .inr (fun e => ?_)
    obtain ⟨o, h1, h2⟩ := hr g e.symm
    obtain ⟨cs, h3⟩ := own_typed h g hv
    rw [h1] at h3
    cases h3
    cases h2
def heldElem (v : Value) : Option (DataW Value × List MemPlace) := some (.held v, [])
def nilRow : DataW Value := .held (.slice none 0 0)
structure VsAt (W : World) (lo b n : Nat) (ks : List Int) (l : List RowT) : Prop where
  low : b < lo
  map : ∃ D : DataW Value, W.ownsMap Try.prog 3 heldElem b n D ∧ ∀ k, okI k → ∃ v, D.atKey (.int .i64 k) nilRow = .held v ∧ W.ownsInts lo 3 .i64 v (if k ∈ ks then valsOf l k else [])
theorem ints_nil (W : World) (lo : Nat) : W.ownsInts lo 3 .i64 (.slice none 0 0) [] := ⟨World.ownsRow_nil _ _ _ _, by simp⟩
theorem VsAt.made (w : World) (lo : Nat) (l : List RowT) (hl : w.heap.size < lo) : VsAt (w.alloc (.map #[] 0)) lo w.heap.size 0 [] l := ⟨hl, .map [], World.ownsMap_made _ _ _ _, fun k _ => ⟨_, rfl, by simpa using ints_nil _ lo⟩⟩
theorem VsAt.kept {w w' : World} {lo b n : Nat} {ks : List Int} {l : List RowT} {S : Nat → Prop} (h : VsAt w lo b n ks l) (hf : Fr S w w') (hb : ¬ S b) (hS : ∀ k, lo ≤ k → k < w.heap.size → ¬ S k) : VsAt w' lo b n ks l := by
  obtain ⟨D, h1, h2⟩ := h.map
  refine ⟨h.low, D, ownsMap_kept h1 hf hb, fun k hk => ?_⟩
  obtain ⟨v, h3, h4⟩ := h2 k hk
  exact ⟨v, h3, ints_move h4 (fun g hg => hf.block g (h4.1.lt g hg).2 (hS g (h4.1.lt g hg).1 (h4.1.lt g hg).2))⟩
/-- What is turned is no row of cells. -/
theorem VsAt.grown {A B : World} {lo b n : Nat} {ks : List Int} {l : List RowT} {row : Option Nat} (h : VsAt A lo b n ks l) (hg : A.grownBy B row) (hr : ∀ r, row = some r → r ≠ b ∧ ∃ o : Obj, A.heap[r]? = some o ∧ o.isCells = false) : VsAt B lo b n ks l := by
  obtain ⟨D, h1, h2⟩ := h.map
  refine ⟨h.low, D, h1.kept hg (fun e => (hr b e.symm).1 rfl), fun k hk => ?_⟩
  obtain ⟨v, h3, h4⟩ := h2 k hk
  exact ⟨v, h3, h4.kept hg (not_cells h4.1 (fun r e => (hr r e).2))⟩
theorem VsAt.look {w : World} {lo b n : Nat} {ks : List Int} {l : List RowT} (h : VsAt w lo b n ks l) {k : Int} (hk : okI k) :
    ∃ v, (Instr.lookup 57 (.map (some b)) (.int .i64 k) false).run Try.prog w = .ok v w ∧ w.ownsInts lo 3 .i64 v (if k ∈ ks then valsOf l k else []) := by
  obtain ⟨D, hM, hD⟩ := h.map
  obtain ⟨v, ps, hrun, hv⟩ := World.ownsMap.lookup hM lawI Try.underlying57 (zeroS w) (zd := nilRow) (zp := []) rfl (key_of hk)
  obtain ⟨v', h1, h2⟩ := hD k hk
  have e : DataW.held v = D.atKey (.int .i64 k) nilRow := congrArg Prod.fst (Option.some.inj hv)
  rw [h1] at e
  injection e with e
  subst e
  exact ⟨v, hrun, h2⟩
theorem VsAt.store {w : World} {lo b n : Nat} {ks : List Int} {l : List RowT} (h : VsAt w lo b n ks l) (hn : n < maxLen) {k : Int} {v : Value} (hk : okI k) (hv : w.ownsInts lo 3 .i64 v (valsOf l k)) :
    ∃ w', (Instr.mapUpdate 57 (.map (some b)) (.int .i64 k) v).run Try.prog w = .ok () w' ∧ VsAt w' lo b (n + 1) (ks ++ [k]) l ∧ Fr (· = b) w w' := by
  obtain ⟨D, hM, hD⟩ := h.map
  obtain ⟨w', hrun, hM', ht⟩ := World.ownsMap.store hM lawI Try.underlying57 hn (key_of hk) (d := .held v) (ps := []) rfl
  have hf := Fr.turned ht
  have hlow := h.low
  have mv : ∀ {u : Value} {zs : List Int}, w.ownsInts lo 3 .i64 u zs → w'.ownsInts lo 3 .i64 u zs := fun {u zs} ho => ints_move ho (fun g hg => hf.block g (ho.1.lt g hg).2 (by have := (ho.1.lt g hg).1; intro e; omega))
  refine ⟨w', hrun, ⟨h.low, D.put (.int .i64 k) (.held v), hM', fun j hj => ?_⟩, hf⟩
  by_cases e : k = j
  · subst e
    refine ⟨v, atKey_put_same hM.isMap (isKey _ hk) _ _, ?_⟩
    rw [if_pos (by simp)]
    exact mv hv
  · obtain ⟨u, h1, h2⟩ := hD j hj
    have hne : (Lit.int .i64 j) ≠ .int .i64 k := fun h => e (by injection h with _ h; exact h.symm)
    refine ⟨u, (atKey_put_other hne _ _).trans h1, ?_⟩
    have e2 : (j ∈ ks ++ [k]) = (j ∈ ks) := by
      refine propext ⟨fun h => ?_, fun h => List.mem_append_left _ h⟩
      rcases List.mem_append.1 h with h | h
      · exact h
      · exact absurd (List.mem_singleton.1 h).symm e
    simp only [e2]
    exact mv h2
/-! ### rows that are appended -/
theorem infoRow : (Try.prog.info? 30).map (fun i => (i.zero, i.size, i.bytes)) = some (some (.agg #[(.int .i64 0), (.int .i64 0)]), 2, 16) := by kernel_rfl
abbrev RowsAt (W : World) (lo : Nat) (v : Value) (xs : List RowT) : Prop := Kd.R kRow 30 W lo (fun _ => True) v xs
theorem RowsAt.nil (W : World) (lo : Nat) : RowsAt W lo (.slice none 0 0) [] := Kd.R_nil _ _ _ _ _
theorem RowsAt.grown {A B : World} {lo : Nat} {v : Value} {xs : List RowT} {row : Option Nat} (h : RowsAt A lo v xs) (hg : A.grownBy B row) (hr : ∀ r, row = some r → ∃ o : Obj, A.heap[r]? = some o ∧ o.isCells = false) : RowsAt B lo v xs := by
  obtain ⟨inner, ho⟩ := Kd.R_own h
  refine Kd.R_grown2 h rfl hg (fun k e1 e2 => ?_)
  obtain ⟨o, h1, h2⟩ := hr k e1
  obtain ⟨cs, h3⟩ := own_typed ho k e2.symm
  rw [h1] at h3
  cases h3
  cases h2
theorem RowsAt.kept {A B : World} {lo : Nat} {v : Value} {xs : List RowT} {S : Nat → Prop} (h : RowsAt A lo v xs) (hf : Fr S A B) (hS : ∀ k, lo ≤ k → k < A.heap.size → ¬ S k) : RowsAt B lo v xs :=
  Kd.R_mono (Kd.R_move (Kd.R_bound h) (fun k hk => hf.block k hk.2.2.1 (hS k hk.2.1 hk.2.2.1))) (fun _ _ => trivial)
/-- append(v, ys...) as a fact about a run. -/
theorem app_run {W : World} (base : Nat) (ty : TypeId) (v : Value) (xs ys : List RowT) (A : Option Addr) (m c : Nat) (HO : RowsAt W base v xs) (HR : Kd.C kRow W A m ys) (hbase : base ≤ W.heap.size) (hl : (xs.length + m) * 16 ≤ 140737488355328) :
    ∃ v1 w1, (Builtin.append_ #[22, 22] ty #[v, .slice A m c]).run Try.prog W = .ok v1 w1 ∧ RowsAt w1 base v1 (xs ++ ys) ∧ W.grownBy w1 v.ownBlock ∧ (v1.ownBlock = v.ownBlock ∨ ∃ b, v1.ownBlock = some b ∧ W.heap.size ≤ b) := by
  obtain ⟨i0, hi, hzz⟩ := Option.map_eq_some_iff.1 infoRow
  simp only [Prod.mk.injEq] at hzz
  obtain ⟨hz0, hz1, hz2⟩ := hzz
  have hm : ys.length = m := HR.1
  obtain ⟨hok, inner, hown, hr⟩ := HO
  rcases A with _ | ad
  · have h0 : m = 0 := by
      rcases Nat.eq_zero_or_pos m with h0 | h0
      · exact h0
      · obtain ⟨ad, h, _⟩ := HR.2.2 h0
        cases h
    subst h0
    obtain rfl : ys = [] := List.eq_nil_of_length_eq_zero hm
    refine ⟨v, W, ?_, by rw [List.append_nil]; exact ⟨hok, inner, hown, hr⟩, World.grownBy.refl W _, .inl rfl⟩
    rcases hown.2 with ⟨rfl, hn⟩ | ⟨g, cap, cur, rfl, _, _, hnc, _⟩
    · simp [Builtin.append_, run_underlying Try.underlying22, sizeOf, typeInfo, hi, Builtin.lenOf, Builtin.firstCells]
    · simp [Builtin.append_, run_underlying Try.underlying22, sizeOf, typeInfo, hi, Builtin.lenOf, Builtin.firstCells, hnc, storeCells]
  · obtain ⟨news, hnr, hnc⟩ := ReadsRow.inner_ HR
    have hone : ∀ u ∈ news, u.oneCell' = true := by
      intro u hu
      obtain ⟨q, hq, rfl⟩ := List.mem_iff_getElem.1 hu
      have hql : q / 2 < ys.length := by
        rw [Nat.div_lt_iff_lt_mul (by decide)]
        have := hnr.1
        exact this ▸ hq
      have hc := hnr.2 (q / 2) _ (List.getElem?_eq_getElem hql)
      refine kRow.K_one hc _ ?_
      rw [List.mem_iff_getElem?]
      refine ⟨q % 2, ?_⟩
      show (List.take 2 (List.drop (q / 2 * 2) news))[q % 2]? = _
      rw [List.getElem?_take, if_pos (Nat.mod_lt _ (by decide)), List.getElem?_drop, Nat.mul_comm, Nat.div_add_mod, List.getElem?_eq_getElem hq]
    obtain ⟨v1, w1, hrun, h2, hg, _, hat⟩ := run_append_own_at (P := Try.prog) W base 22 ty 30 i0 (.agg #[(.int .i64 0), (.int .i64 0)]) 2 16 Try.underlying22 hi hz0 hz1 hz2 rfl (by decide) v xs.length inner hown ad m c news (by rw [hnr.1, hm]; rfl) hnc hone (by simp only [maxLen]; omega) hl hbase
    have hat' : v1.ownBlock = v.ownBlock ∨ ∃ b, v1.ownBlock = some b ∧ W.heap.size ≤ b := by
      rcases hat with hat | hat
      · exact .inl hat
      · exact .inr ⟨_, hat, Nat.le_refl _⟩
    refine ⟨v1, w1, hrun, ⟨fun _ _ => trivial, inner ++ news, by rw [List.length_append, hm]; exact h2, Kd.reps_append (hr.imp_ (fun _ _ hq => ?_)) (hnr.imp_ (fun _ _ hq => ?_))⟩, hg, hat'⟩
    · rw [PFn.k30_openM hq]; exact PFn.k30_mkM _ _ _ _
    · rw [PFn.k30_open hq]; exact PFn.k30_mkM _ _ _ _
/-! ### what is told of values -/
def stepV (f : Nat) (p : Int × Bool) (v : Int) : Int × Bool := if p.2 then (nextV f p.1 v, true) else (firstV f v, true)
def runV (f : Nat) (p : Int × Bool) (zs : List Int) : Int × Bool := zs.foldl (stepV f) p
theorem runV_snoc (f : Nat) (p : Int × Bool) (zs : List Int) (z : Int) : runV f p (zs ++ [z]) = stepV f (runV f p zs) z := by simp [runV]
def resF (f : Nat) (before l : List RowT) (k : Int) : RowT := ⟨k, (runV f (lastV before k, hasK before k) (valsOf l k)).1⟩
def foldF (f : Nat) (before l : List RowT) : List RowT := ((keysS (before ++ l)).take 64).map (resF f before l)
theorem firstV_ok {f : Nat} {v : Int} (h : okI v) : okI (firstV f v) := by
  unfold firstV; split
  · show okI 1; unfold okI; decide
  · exact h
theorem nextV_ok {f : Nat} {x v : Int} (hx : okI x) (h : okI v) : okI (nextV f x v) := by
  unfold nextV
  split
  · exact wrap64_ok _
  · rcases Int.le_total x v with e | e
    · rw [Int.min_eq_left e]; exact hx
    · rw [Int.min_eq_right e]; exact h
  · rcases Int.le_total x v with e | e
    · rw [Int.max_eq_right e]; exact h
    · rw [Int.max_eq_left e]; exact hx
  · exact wrap64_ok _
  · exact hx
  · exact h
end Go.Proofs.Ytbbjkgpilmcldaa.Seq
