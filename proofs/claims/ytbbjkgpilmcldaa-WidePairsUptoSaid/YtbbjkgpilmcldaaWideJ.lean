/- Proved: plain facts of joins: how many pairs, the pairs of a part; no program in sight. -/
import Derived.Test.YtbbjkgpilmcldaaWideM
namespace Go.Proofs.Ytbbjkgpilmcldaa.Pure
open Go.RowKit Go.Proofs.Ytbbjkgpilmcldaa.PWm Go.Proofs.Ytbbjkgpilmcldaa.Seq Go.Proofs.YtbbjkgpilmcldaaW.PrintWords Go.Proofs.YtbbjkgpilmcldaaW.PrintLast Go.Proofs.YtbbjkgpilmcldaaW.PrintMore
set_option linter.unusedVariables false
set_option linter.unusedSimpArgs false
theorem pairsK_len (f : Nat) (a b : List RowT) (k : Int) : (pairsK f a b k).length ≤ (valsOf a k).length * b.length := by
  unfold pairsK
  rw [List.length_flatMap]
  have : ((valsOf a k).map fun v => (pairsV f k v (valsOf b k)).length) = (valsOf a k).map fun _ => (valsOf b k).length := List.map_congr_left (fun v _ => by unfold pairsV; rw [List.length_map])
  rw [this, List.map_const', List.sum_replicate_nat]
  exact Nat.mul_le_mul_left _ (valsOf_len b k)
theorem pairs_le (f : Nat) (a b : List RowT) : (pairsA f a b (keysS a)).length ≤ a.length * b.length := by
  have h : ∀ ks : List Int, (pairsA f a b ks).length ≤ (ks.map fun k => (valsOf a k).length).sum * b.length := by
    intro ks
    induction ks with
    | nil => simp [pairsA]
    | cons k ks ih =>
      unfold pairsA at ih ⊢
      rw [List.flatMap_cons, List.length_append, List.map_cons, List.sum_cons, Nat.add_mul]
      have := pairsK_len f a b k
      omega
  have e := sum_len _ (keys_nodup a) a (fun x hx => (mem_keysS _ _).2 (by unfold hasK; rw [List.any_eq_true]; exact ⟨x, hx, by simp⟩))
  have := h (keysS a)
  rwa [e] at this
theorem joinF_few (f : Nat) (a b : List RowT) (h : a.length * b.length ≤ 64) : joinF f a b = pairsA f a b (keysS a) := by
  unfold joinF
  exact List.take_of_length_le (Nat.le_trans (pairs_le f a b) h)
theorem mergeP_keys (A : List RowT) (of p : Nat) : keysS (mergeP A of p) = (keysS A).filter fun k => partN k of == p := by
  refine keysS_eq ((keysS_lt A).filter _) (fun k => ?_)
  rw [List.mem_filter, mem_keysS]
  have := hasK_filter A (fun k => partN k of == p) k
  unfold mergeP
  rw [this, Bool.and_eq_true, And.comm]
theorem pairsK_key (f : Nat) (a b : List RowT) (k : Int) : ∀ r ∈ pairsK f a b k, r.f0 = k := by
  intro r hr
  unfold pairsK at hr
  obtain ⟨v, _, hr⟩ := List.mem_flatMap.1 hr
  unfold pairsV at hr
  obtain ⟨u, _, rfl⟩ := List.mem_map.1 hr
  rfl
theorem pairs_part (f : Nat) (a b : List RowT) (of p : Nat) : pairsA f (mergeP a of p) (mergeP b of p) (keysS (mergeP a of p)) = mergeP (pairsA f a b (keysS a)) of p := by
  rw [mergeP_keys]
  have h : ∀ ks : List Int, pairsA f (mergeP a of p) (mergeP b of p) (ks.filter fun k => partN k of == p) = mergeP (pairsA f a b ks) of p := by
    intro ks
    induction ks with
    | nil => rfl
    | cons k ks ih =>
      have e1 : mergeP (pairsA f a b (k :: ks)) of p = mergeP (pairsK f a b k) of p ++ mergeP (pairsA f a b ks) of p := by
        unfold pairsA mergeP
        rw [List.flatMap_cons, List.filter_append]
      rw [e1, ← ih, List.filter_cons]
      by_cases e : partN k of = p
      · rw [if_pos (by simpa using e)]
        have e2 : mergeP (pairsK f a b k) of p = pairsK f a b k := by
          unfold mergeP
          rw [List.filter_eq_self]
          intro r hr
          rw [pairsK_key f a b k r hr]
          simpa using e
        rw [e2]
        unfold pairsA
        rw [List.flatMap_cons]
        congr 1
        unfold pairsK
        rw [mergeP_vals, mergeP_vals, if_pos e, if_pos e]
      · rw [if_neg (by simpa using e)]
        have e2 : mergeP (pairsK f a b k) of p = [] := by
          unfold mergeP
          rw [List.filter_eq_nil_iff]
          intro r hr
          rw [pairsK_key f a b k r hr]
          simpa using e
        rw [e2, List.nil_append]
  exact h _
theorem join_part (f : Nat) (a b : List RowT) (of p : Nat) (h : a.length * b.length ≤ 64) : joinF f (mergeP a of p) (mergeP b of p) = mergeP (joinF f a b) of p := by
  have h2 : (mergeP a of p).length * (mergeP b of p).length ≤ 64 := Nat.le_trans (Nat.mul_le_mul (mergeP_len a of p) (mergeP_len b of p)) h
  rw [joinF_few f _ _ h2, joinF_few f a b h, pairs_part]
end Go.Proofs.Ytbbjkgpilmcldaa.Pure
