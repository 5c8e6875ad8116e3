/- Proved: plain facts of rows by parts: what Merge tells, rows that are alike by key, what is told part by part; no program in sight but the printed functions' answers. -/
import Derived.Test.YtbbjkgpilmcldaaWideBm
namespace Go.Proofs.Ytbbjkgpilmcldaa.Pure
open Go.RowKit Go.Proofs.Ytbbjkgpilmcldaa.PWm Go.Proofs.Ytbbjkgpilmcldaa.Seq Go.Proofs.YtbbjkgpilmcldaaW.PrintWords Go.Proofs.YtbbjkgpilmcldaaW.PrintLast Go.Proofs.YtbbjkgpilmcldaaW.PrintMore
set_option linter.unusedVariables false
set_option linter.unusedSimpArgs false
/-- A key's part. -/
def partS (k of : Int) : Int := if of < 2 then 0 else Int.tmod (wrap64 ((IntKind.u64.wrap ((IntKind.u64.wrap k) * 11400714819323198485)) / 8589934592)) of
theorem part_f (k of : Int) (h : 1 ≤ of) : rows_Part.f k of = some (partS k of) := by
  unfold rows_Part.f partS
  by_cases h2 : of < 2
  · rw [if_pos h2, if_pos h2]
  · rw [if_neg h2, if_neg h2, if_neg (by omega)]
theorem u64_nn (x : Int) : 0 ≤ IntKind.u64.wrap x ∧ IntKind.u64.wrap x < 18446744073709551616 := by
  rw [show IntKind.u64.wrap x = x % 18446744073709551616 from rfl]
  omega
theorem partS_bd (k : Int) (of : Nat) (h : 1 ≤ of) : 0 ≤ partS k (of : Int) ∧ partS k (of : Int) < (of : Int) := by
  unfold partS
  split
  · omega
  · obtain ⟨x, hx⟩ : ∃ x, IntKind.u64.wrap ((IntKind.u64.wrap k) * 11400714819323198485) = x := ⟨_, rfl⟩
    have hb := u64_nn ((IntKind.u64.wrap k) * 11400714819323198485)
    rw [hx] at hb ⊢
    have e : wrap64 (x / 8589934592) = x / 8589934592 := by unfold wrap64; omega
    rw [e, Int.tmod_eq_emod_of_nonneg (by omega)]
    have := Int.emod_nonneg (x / 8589934592) (b := (of : Int)) (by omega)
    have := Int.emod_lt_of_pos (x / 8589934592) (b := (of : Int)) (by omega)
    omega
def partN (k : Int) (of : Nat) : Nat := (partS k (of : Int)).toNat
theorem partN_lt (k : Int) {of : Nat} (h : 1 ≤ of) : partN k of < of := by
  have := partS_bd k of h
  unfold partN
  omega
theorem part_nat (k : Int) {of : Nat} (h : 1 ≤ of) : rows_Part.f k (of : Int) = some (partN k of : Int) := by
  have := partS_bd k of h
  rw [part_f k _ (by omega)]
  unfold partN
  congr 1
  omega
/-- The rows of a part. -/
def mergeP (A : List RowT) (of p : Nat) : List RowT := A.filter fun r => partN r.f0 of == p
theorem rdL_nat (l : List (List RowT)) (i : Nat) (h : i < l.length) : rd_L2 l (i : Int) = l[i] := by
  unfold rd_L2
  rw [Int.toNat_natCast, List.getD_eq_getElem?_getD, List.getElem?_eq_getElem h]; rfl
theorem merge_l1 (L : List (List RowT)) (of p : Nat) (hof : 1 ≤ of) (hL : L.length ≤ 1000) (l : List RowT) (hl : l.length ≤ 1000) (i : Nat) (hi : i < L.length) (res : List RowT) (d : Nat) :
    ∀ (j : Nat) (acc : List RowT), j + d = l.length → acc.length + d ≤ 8000000 →
      Ev (fun k => wide_Merge.l0 k (p : Int) (of : Int) (acc ++ mergeP (l.drop j) of p) L (L.length : Int) ((i + 1 : Nat) : Int)) res →
      Ev (fun k => wide_Merge.l1 k (p : Int) (of : Int) acc L (L.length : Int) (i : Int) l (l.length : Int) (j : Int)) res := by
  induction d with
  | zero =>
    intro j acc hj ha h
    rw [List.drop_eq_nil_of_le (by omega), show mergeP [] of p = [] from rfl, List.append_nil] at h
    refine Ev.step (fun k => ?_) h
    simp only [wide_Merge.l1]
    rw [if_neg (by omega), wrap_nat (n := L.length) (by omega) (by omega)]
  | succ d ih =>
    intro j acc hj ha h
    have hjl : j < l.length := by omega
    rw [List.drop_eq_getElem_cons hjl] at h
    by_cases e : partN l[j].f0 of = p
    · refine Ev.step (fun k => ?_) (ih (j + 1) (acc ++ [l[j]]) (by omega) (by rw [List.length_append, List.length_singleton]; omega) (by
        unfold mergeP at h ⊢
        rw [List.filter_cons, if_pos (by simpa using e)] at h
        rwa [List.append_assoc, List.singleton_append]))
      simp only [wide_Merge.l1]
      rw [if_pos (by omega), if_pos (by omega), if_pos (by omega), rdT_nat l j hjl, part_nat _ hof, Option.bind_some, if_pos (by omega), if_pos (by omega), wrap_nat (n := l.length) (by omega) (by omega)]
    · refine Ev.step (fun k => ?_) (ih (j + 1) acc (by omega) (by omega) (by
        unfold mergeP at h ⊢
        rwa [List.filter_cons, if_neg (by simpa using e)] at h))
      simp only [wide_Merge.l1]
      rw [if_pos (by omega), if_pos (by omega), if_pos (by omega), rdT_nat l j hjl, part_nat _ hof, Option.bind_some, if_neg (by omega), wrap_nat (n := l.length) (by omega) (by omega)]
theorem merge_l0 (L : List (List RowT)) (of p : Nat) (hof : 1 ≤ of) (hL : L.length ≤ 1000) (hl : ∀ l ∈ L, l.length ≤ 1000) (d : Nat) :
    ∀ (i : Nat) (acc : List RowT), i + d = L.length → acc.length ≤ i * 1000 →
      Ev (fun k => wide_Merge.l0 k (p : Int) (of : Int) acc L (L.length : Int) (i : Int)) (acc ++ mergeP (L.drop i).flatten of p) := by
  induction d with
  | zero =>
    intro i acc hi ha
    rw [List.drop_eq_nil_of_le (by omega)]
    refine Ev_some fun k => ?_
    simp only [wide_Merge.l0]
    rw [if_neg (by omega)]
    simp [mergeP]
  | succ d ih =>
    intro i acc hi ha
    have hil : i < L.length := by omega
    have hli := hl L[i] (List.getElem_mem hil)
    have hm : (mergeP L[i] of p).length ≤ L[i].length := List.length_filter_le _ _
    have h1 := ih (i + 1) (acc ++ mergeP L[i] of p) (by omega) (by rw [List.length_append]; omega)
    rw [List.drop_eq_getElem_cons hil, List.flatten_cons, show mergeP (L[i] ++ (L.drop (i + 1)).flatten) of p = mergeP L[i] of p ++ mergeP (L.drop (i + 1)).flatten of p from List.filter_append .., ← List.append_assoc]
    refine Ev.step (fun k => ?_) (merge_l1 L of p hof hL L[i] hli i hil _ L[i].length 0 acc (by omega) (by omega) (by rw [List.drop_zero]; exact h1))
    simp only [wide_Merge.l0]
    rw [if_pos (by omega), if_pos (by omega), if_pos (by omega), rdL_nat L i hil]
    rfl
theorem merge_ev (L : List (List RowT)) (of p : Nat) (hof : 1 ≤ of) (hL : L.length ≤ 1000) (hl : ∀ l ∈ L, l.length ≤ 1000) : Ev (fun k => wide_Merge.f k L (p : Int) (of : Int)) (mergeP L.flatten of p) := by
  have := merge_l0 L of p hof hL hl L.length 0 [] (by omega) (by simp)
  rw [List.drop_zero, List.nil_append] at this
  exact this
/-- Rows that are alike by key: each key has the same values in the same order. -/
def Alike (A B : List RowT) : Prop := ∀ k, valsOf A k = valsOf B k
theorem has_of_vals {A B : List RowT} {k : Int} (h : valsOf A k = valsOf B k) : hasK A k = hasK B k := by
  cases e : hasK B k with
  | false => rw [← valsOf_nil, h, valsOf_nil]; exact e
  | true =>
    cases e2 : hasK A k with
    | true => rfl
    | false => rw [valsOf_nil.2 e2] at h; rw [valsOf_nil.1 h.symm] at e; cases e
theorem Alike.has {A B : List RowT} (h : Alike A B) (k : Int) : hasK A k = hasK B k := has_of_vals (h k)
theorem Alike.keys {A B : List RowT} (h : Alike A B) : keysS A = keysS B := keysS_eq (keysS_lt B) (fun k => by rw [mem_keysS, h.has])
theorem lastV_eq {A B : List RowT} {k : Int} (h : valsOf A k = valsOf B k) : lastV A k = lastV B k := by unfold lastV; rw [h]
theorem Alike.fold {A B : List RowT} (h : Alike A B) (f : Nat) : foldF f [] A = foldF f [] B := by
  rw [foldF_map, foldF_map, List.nil_append, List.nil_append, h.keys]
  refine List.map_congr_left (fun k _ => ?_)
  unfold valF
  rw [h k]
theorem sum_bump1 (A : Int → Nat) (r : Int) : ∀ ks : List Int, ks.Nodup → r ∈ ks → (ks.map fun k => A k + if r = k then 1 else 0).sum = (ks.map A).sum + 1 := by
  intro ks
  have none : ∀ ks : List Int, r ∉ ks → (ks.map fun k => A k + if r = k then 1 else 0) = ks.map A := by
    intro ks h
    refine List.map_congr_left (fun k hk => ?_)
    rw [if_neg (fun (e : r = k) => h (by rw [e]; exact hk)), Nat.add_zero]
  induction ks with
  | nil => intro _ h; simp at h
  | cons a ks ih =>
    intro hn hm
    rw [List.nodup_cons] at hn
    rw [List.map_cons, List.map_cons, List.sum_cons, List.sum_cons]
    by_cases e : r = a
    · subst e
      rw [none ks hn.1, if_pos rfl]
      omega
    · rw [ih hn.2 (by rcases List.mem_cons.1 hm with h | h; exact absurd h e; exact h), if_neg e, Nat.add_zero]
      omega
theorem vals_cons1 (r : RowT) (X : List RowT) (k : Int) : (valsOf (r :: X) k).length = (valsOf X k).length + if r.f0 = k then 1 else 0 := by
  unfold valsOf
  rw [List.filter_cons]
  by_cases e : r.f0 = k
  · simp [e]
  · simp [e]
theorem sum_len (ks : List Int) (hn : ks.Nodup) : ∀ X : List RowT, (∀ x ∈ X, x.f0 ∈ ks) → (ks.map fun k => (valsOf X k).length).sum = X.length := by
  intro X
  induction X with
  | nil =>
    intro _
    have : ∀ ks : List Int, (ks.map fun k => (valsOf ([] : List RowT) k).length).sum = 0 := by
      intro ks
      induction ks with
      | nil => rfl
      | cons a ks ih => rw [List.map_cons, List.sum_cons, ih]; simp [valsOf]
    rw [this]; rfl
  | cons r X ih =>
    intro h
    simp only [vals_cons1]
    rw [sum_bump1 (fun k => (valsOf X k).length) r.f0 ks hn (h r (by simp)), ih (fun x hx => h x (by simp [hx])), List.length_cons]
theorem Alike.len {A B : List RowT} (h : Alike A B) : A.length = B.length := by
  have e : ∀ X : List RowT, ((keysS X).map fun k => (valsOf X k).length).sum = X.length := fun X => sum_len _ (keys_nodup X) X (fun x hx => (mem_keysS _ _).2 (by unfold hasK; rw [List.any_eq_true]; exact ⟨x, hx, by simp⟩))
  rw [← e A, ← e B, h.keys]
  congr 1
  exact List.map_congr_left (fun k _ => by rw [h k])
theorem valsOf_filter (A : List RowT) (g : Int → Bool) (k : Int) : valsOf (A.filter fun r => g r.f0) k = if g k = true then valsOf A k else [] := by
  unfold valsOf
  rw [List.filter_filter]
  by_cases h : g k = true
  · rw [if_pos h]
    congr 1
    refine List.filter_congr (fun r _ => ?_)
    by_cases e : r.f0 = k
    · rw [e, h]; simp
    · simp [e]
  · rw [if_neg h, List.map_eq_nil_iff, List.filter_eq_nil_iff]
    intro r _
    by_cases e : r.f0 = k
    · rw [e]; simp [h]
    · simp [e]
theorem hasK_filter (A : List RowT) (g : Int → Bool) (k : Int) : hasK (A.filter fun r => g r.f0) k = (g k && hasK A k) := by
  have h := valsOf_filter A g k
  cases hg : g k with
  | false => rw [hg] at h; rw [Bool.false_and]; exact valsOf_nil.1 (h.trans (if_neg (by simp)))
  | true => rw [hg, if_pos rfl] at h; rw [Bool.true_and]; exact has_of_vals h
theorem flatMap_none {α β : Type} (l : List α) : (l.flatMap fun _ => ([] : List β)) = [] := by
  induction l with
  | nil => rfl
  | cons a l ih => rw [List.flatMap_cons, ih]; rfl
theorem flatMap_pick {β : Type} (v : List β) (x : Nat) : ∀ n, x < n → ((List.range n).flatMap fun p => if x = p then v else []) = v := by
  intro n
  induction n with
  | zero => intro h; omega
  | succ n ih =>
    intro h
    rw [List.range_succ, List.flatMap_append, List.flatMap_singleton]
    by_cases e : x = n
    · subst e
      have h0 : ((List.range x).flatMap fun p => if x = p then v else []) = (List.range x).flatMap fun _ => [] := by
        rw [List.flatMap_def, List.flatMap_def]
        congr 1
        refine List.map_congr_left (fun p hp => ?_)
        rw [List.mem_range] at hp
        rw [if_neg (by omega)]
      rw [h0, flatMap_none, if_pos rfl, List.nil_append]
    · rw [ih (by omega), if_neg e, List.append_nil]
theorem valsOf_flatMap {α : Type} (l : List α) (g : α → List RowT) (k : Int) : valsOf (l.flatMap g) k = l.flatMap fun a => valsOf (g a) k := by
  induction l with
  | nil => rfl
  | cons a l ih => rw [List.flatMap_cons, List.flatMap_cons, valsOf_append, ih]
theorem mergeP_vals (A : List RowT) (of p : Nat) (k : Int) : valsOf (mergeP A of p) k = if partN k of = p then valsOf A k else [] := by
  have := valsOf_filter A (fun k => partN k of == p) k
  simp only [beq_iff_eq] at this
  exact this
/-- The parts, one behind the other, are alike the whole. -/
theorem merge_alike (A : List RowT) (of : Nat) (h : 1 ≤ of) : Alike ((List.range of).flatMap fun p => mergeP A of p) A := by
  intro k
  rw [valsOf_flatMap]
  simp only [mergeP_vals]
  exact flatMap_pick _ _ _ (partN_lt k h)
theorem mergeP_keys' (A : List RowT) (of p : Nat) : keysS (mergeP A of p) = (keysS A).filter fun k => partN k of == p := by
  refine keysS_eq ((keysS_lt A).filter _) (fun k => ?_)
  rw [List.mem_filter, mem_keysS]
  have := hasK_filter A (fun k => partN k of == p) k
  unfold mergeP
  rw [this, Bool.and_eq_true, And.comm]
theorem mergeP_len (A : List RowT) (of p : Nat) : (mergeP A of p).length ≤ A.length := List.length_filter_le _ _
theorem fits_mergeP {A : List RowT} (h : fits A) (of p : Nat) : fits (mergeP A of p) := ⟨Nat.le_trans (mergeP_len A of p) h.1, fun r hr => h.2 r (List.mem_filter.1 hr).1⟩
theorem bits3 (n : Int) : 0 ≤ Go.bits .and .i64 n 3 ∧ Go.bits .and .i64 n 3 < 4 := by
  have h127 : (BitVec.ofInt 64 3).toNat = 2 ^ 2 - 1 := by decide
  have key : (BitVec.ofInt 64 n &&& BitVec.ofInt 64 3).toNat = (n % ((2 ^ 64 : Nat) : Int)).toNat % 2 ^ 2 := by
    rw [BitVec.toNat_and, BitVec.toNat_ofInt, h127, Nat.and_two_pow_sub_one_eq_mod]
  have e : Go.bits .and .i64 n 3 = IntKind.i64.wrap ((BitVec.ofInt 64 n &&& BitVec.ofInt 64 3).toNat : Nat) := rfl
  rw [e, key, IntKind.wrap_i64]
  omega
/-- How many parts there are. -/
theorem pnum (n : Int) : ∃ of : Nat, 1 ≤ of ∧ of ≤ 4 ∧ wrap64 (Go.bits .and .i64 n 3 + 1) = (of : Int) := by
  have h := bits3 n
  refine ⟨(Go.bits .and .i64 n 3 + 1).toNat, by omega, by omega, ?_⟩
  unfold wrap64
  omega
theorem fnum3 (n : Int) : ∃ f : Nat, f ≤ 3 ∧ Go.bits .and .i64 n 3 = (f : Int) := by
  have h := bits3 n
  exact ⟨(Go.bits .and .i64 n 3).toNat, by omega, by omega⟩
end Go.Proofs.Ytbbjkgpilmcldaa.Pure
