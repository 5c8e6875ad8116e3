/- Proved: rows of parts put in order by key (gathered), and what is told of parts; no condition. -/
import Derived.Test.YtbbjkgpilmcldaaWideL
namespace Go.Proofs.Ytbbjkgpilmcldaa.Pure
open Go.RowKit Go.Proofs.Ytbbjkgpilmcldaa.PWm Go.Proofs.Ytbbjkgpilmcldaa.Seq Go.Proofs.YtbbjkgpilmcldaaW.PrintWords Go.Proofs.YtbbjkgpilmcldaaW.PrintLast Go.Proofs.YtbbjkgpilmcldaaW.PrintMore
set_option linter.unusedVariables false
set_option linter.unusedSimpArgs false
/-- Where a row comes to stand, from the n-th place down. -/
def posK (acc : List RowT) (r : RowT) : Nat → Nat
  | 0 => 0
  | n + 1 => if h : n < acc.length then if acc[n].f0 > r.f0 then posK acc r n else n + 1 else n + 1
theorem posK_le (acc : List RowT) (r : RowT) : ∀ n, posK acc r n ≤ n
  | 0 => Nat.le_refl _
  | n + 1 => by
    unfold posK
    split
    · split
      · have := posK_le acc r n; omega
      · omega
    · omega
def insK (acc : List RowT) (r : RowT) : List RowT := acc.take (posK acc r acc.length) ++ [r] ++ acc.drop (posK acc r acc.length)
theorem insK_len (acc : List RowT) (r : RowT) : (insK acc r).length = acc.length + 1 := by
  have := posK_le acc r acc.length
  unfold insK
  simp only [List.length_append, List.length_take, List.length_drop, List.length_singleton]
  omega
theorem posK_above (acc : List RowT) (r : RowT) : ∀ n, n ≤ acc.length → ∀ j, posK acc r n ≤ j → (hj : j < n) → (h : j < acc.length) → acc[j].f0 > r.f0
  | 0, _, j, _, hj, _ => by omega
  | n + 1, hn, j, h1, hj, h => by
    unfold posK at h1
    rw [dif_pos (by omega)] at h1
    split at h1
    · next hc =>
      by_cases e : j = n
      · subst e; exact hc
      · exact posK_above acc r n (by omega) j h1 (by omega) h
    · omega
theorem posK_below (acc : List RowT) (r : RowT) : ∀ n, n ≤ acc.length → ∀ p, posK acc r n = p + 1 → (h : p < acc.length) → acc[p].f0 ≤ r.f0
  | 0, _, p, h1, _ => by unfold posK at h1; omega
  | n + 1, hn, p, h1, h => by
    unfold posK at h1
    rw [dif_pos (by omega)] at h1
    split at h1
    · exact posK_below acc r n (by omega) p h1 h
    · next hc =>
      obtain rfl : n = p := by omega
      omega
abbrev LeK (a b : RowT) : Prop := a.f0 ≤ b.f0
theorem insK_sorted {acc : List RowT} (h : acc.Pairwise LeK) (r : RowT) : (insK acc r).Pairwise LeK := by
  obtain ⟨p, hp⟩ : ∃ p, posK acc r acc.length = p := ⟨_, rfl⟩
  have hpl := posK_le acc r acc.length
  have hab := posK_above acc r acc.length (Nat.le_refl _)
  have hbe := posK_below acc r acc.length (Nat.le_refl _)
  unfold insK
  rw [hp] at hpl hab hbe ⊢
  have hlow : ∀ a ∈ acc.take p, a.f0 ≤ r.f0 := by
    intro a ha
    obtain ⟨j, hj, rfl⟩ := List.getElem_of_mem ha
    rw [List.length_take] at hj
    rw [List.getElem_take]
    have h1 := hbe (p - 1) (by omega) (by omega)
    by_cases e : j = p - 1
    · subst e; exact h1
    · have := List.pairwise_iff_getElem.1 h j (p - 1) (by omega) (by omega) (by omega)
      exact Int.le_trans this h1
  have hhigh : ∀ a ∈ acc.drop p, r.f0 ≤ a.f0 := by
    intro a ha
    obtain ⟨j, hj, rfl⟩ := List.getElem_of_mem ha
    rw [List.length_drop] at hj
    rw [List.getElem_drop]
    have := hab (p + j) (by omega) (by omega) (by omega)
    omega
  rw [List.pairwise_append, List.pairwise_append]
  refine ⟨⟨h.take, List.pairwise_singleton _ _, fun a ha b hb => ?_⟩, h.drop, fun a ha b hb => ?_⟩
  · rw [List.mem_singleton] at hb; subst hb; exact hlow a ha
  · rcases List.mem_append.1 ha with ha | ha
    · exact Int.le_trans (hlow a ha) (hhigh b hb)
    · rw [List.mem_singleton] at ha; subst ha; exact hhigh b hb
theorem insK_perm (acc : List RowT) (r : RowT) : (insK acc r).Perm (r :: acc) := by
  unfold insK
  rw [List.append_assoc]
  refine List.perm_middle.trans ?_
  show (r :: (acc.take (posK acc r acc.length) ++ acc.drop (posK acc r acc.length))).Perm (r :: acc)
  rw [List.take_append_drop]
def gathK (L : List RowT) (acc : List RowT) : List RowT := L.foldl insK acc
theorem gathK_sorted (L : List RowT) : ∀ acc : List RowT, acc.Pairwise LeK → (gathK L acc).Pairwise LeK := by
  induction L with
  | nil => exact fun _ h => h
  | cons r L ih => exact fun acc h => ih _ (insK_sorted h r)
theorem gathK_perm (L : List RowT) : ∀ acc : List RowT, (gathK L acc).Perm (L ++ acc) := by
  induction L with
  | nil => exact fun _ => List.Perm.refl _
  | cons r L ih =>
    intro acc
    refine (ih (insK acc r)).trans ?_
    refine ((List.Perm.append_left L (insK_perm acc r))).trans ?_
    exact List.perm_middle
/-- Rows whose keys rise strictly are found again in order. -/
theorem gathK_eq {L R : List RowT} (hp : L.Perm R) (hR : R.Pairwise (fun a b => a.f0 < b.f0)) : gathK L [] = R := by
  have h1 := gathK_perm L []
  rw [List.append_nil] at h1
  refine List.Perm.eq_of_pairwise (le := LeK) ?_ (gathK_sorted L [] List.Pairwise.nil) (hR.imp (fun h => Int.le_of_lt h)) (h1.trans hp)
  intro a b ha hb h2 h3
  have ha : a ∈ R := (h1.trans hp).mem_iff.1 ha
  have hk : a.f0 = b.f0 := Int.le_antisymm h2 h3
  obtain ⟨i, hi, rfl⟩ := List.getElem_of_mem ha
  obtain ⟨j, hj, rfl⟩ := List.getElem_of_mem hb
  rcases Nat.lt_trichotomy i j with h | h | h
  · have := List.pairwise_iff_getElem.1 hR i j hi hj h; omega
  · subst h; rfl
  · have := List.pairwise_iff_getElem.1 hR j i hj hi h; omega
theorem gath_l2 (L : List (List RowT)) (i j : Nat) (hi : i < L.length) (hL : L.length ≤ 1000) (hj : j < L[i].length) (hl : L[i].length ≤ 100000) (acc : List RowT) (ha : acc.length ≤ 1000000) (res : List RowT)
    (h : Ev (fun k => tributarylaw4_gathered.l1 k L (insK acc L[i][j]) (i : Int) ((j + 1 : Nat) : Int)) res) :
    ∀ n : Nat, n ≤ acc.length → posK acc L[i][j] n = posK acc L[i][j] acc.length → Ev (fun k => tributarylaw4_gathered.l2 k L acc (i : Int) (j : Int) (n : Int)) res := by
  have hrl : rd_L2 L (i : Int) = L[i] := rdL_nat L i hi
  have hrt : rd_T30 L[i] (j : Int) = L[i][j] := rdT_nat _ j hj
  intro n
  induction n with
  | zero =>
    intro _ hp
    have e : insK acc L[i][j] = [] ++ [L[i][j]] ++ acc := by
      unfold insK
      rw [← hp]
      rfl
    rw [e] at h
    refine Ev.step (fun k => ?_) h
    simp only [tributarylaw4_gathered.l2]
    rw [if_neg (by omega), if_pos (by omega), if_pos (by omega), Option.bind_some, show ((0 : Nat) : Int).toNat = 0 from rfl, List.take_zero, if_pos (by simp), Option.bind_some, if_pos (by omega), if_pos (by omega), if_pos (by omega), hrl, if_pos (by omega), if_pos (by simp), Option.bind_some, Option.bind_some, List.drop_zero, hrt, if_pos (by simp only [List.nil_append, List.length_append, List.length_singleton, List.length_nil]; omega), wrap_nat (n := L[i].length) (by omega) (by omega)]
    rfl
  | succ n ih =>
    intro hn hp
    have hnl : n < acc.length := by omega
    have ew : wrap64 (((n + 1 : Nat) : Int) - 1) = (n : Int) := by unfold wrap64; omega
    by_cases hc : acc[n].f0 > L[i][j].f0
    · have h2 := ih (by omega) (by
        rw [← hp]
        show _ = (if h : n < acc.length then if acc[n].f0 > L[i][j].f0 then posK acc L[i][j] n else n + 1 else n + 1)
        rw [dif_pos hnl, if_pos hc])
      refine Ev.step (fun k => ?_) h2
      simp only [tributarylaw4_gathered.l2]
      rw [if_pos (by omega), ew, if_pos (by omega), if_pos (by omega), if_pos (by omega), if_pos (by omega), if_pos (by omega), hrl, if_pos (by omega), rdT_nat acc n hnl, hrt, if_pos hc]
    · have hp2 : posK acc L[i][j] acc.length = n + 1 := by
        rw [← hp]
        show (if h : n < acc.length then if acc[n].f0 > L[i][j].f0 then posK acc L[i][j] n else n + 1 else n + 1) = _
        rw [dif_pos hnl, if_neg hc]
      have e : insK acc L[i][j] = ([] ++ acc.take (n + 1)) ++ [L[i][j]] ++ acc.drop (n + 1) := by
        unfold insK
        rw [hp2]
        rfl
      rw [e] at h
      have hlt : (acc.take (n + 1)).length = n + 1 := by rw [List.length_take]; omega
      refine Ev.step (fun k => ?_) h
      simp only [tributarylaw4_gathered.l2]
      rw [if_pos (by omega), ew, if_pos (by omega), if_pos (by omega), if_pos (by omega), if_pos (by omega), if_pos (by omega), hrl, if_pos (by omega), rdT_nat acc n hnl, hrt, if_neg hc, if_pos (by omega), if_pos (by omega), Option.bind_some, Int.toNat_natCast, if_pos (by simp only [List.length_nil]; omega), Option.bind_some, if_pos (by simp only [List.nil_append]; omega), Option.bind_some, Option.bind_some, if_pos (by simp only [List.nil_append, List.length_append, List.length_singleton, List.length_drop]; omega), wrap_nat (n := L[i].length) (by omega) (by omega)]
theorem gath_l1 (L : List (List RowT)) (i : Nat) (hi : i < L.length) (hL : L.length ≤ 1000) (hl : L[i].length ≤ 1000) (res : List RowT) (d : Nat) :
    ∀ (j : Nat) (acc : List RowT), j + d = L[i].length → acc.length + d ≤ 1000000 → Ev (fun k => tributarylaw4_gathered.l0 k L (gathK (L[i].drop j) acc) ((i + 1 : Nat) : Int)) res → Ev (fun k => tributarylaw4_gathered.l1 k L acc (i : Int) (j : Int)) res := by
  have hrl : rd_L2 L (i : Int) = L[i] := rdL_nat L i hi
  induction d with
  | zero =>
    intro j acc hj ha h
    rw [List.drop_eq_nil_of_le (by omega)] at h
    refine Ev.step (fun k => ?_) h
    simp only [tributarylaw4_gathered.l1]
    rw [if_pos (by omega), if_pos (by omega), hrl, if_neg (by omega), wrap_nat (n := L.length) (by omega) (by omega)]
    rfl
  | succ d ih =>
    intro j acc hj ha h
    have hjl : j < L[i].length := by omega
    rw [List.drop_eq_getElem_cons hjl] at h
    have h1 := ih (j + 1) (insK acc L[i][j]) (by omega) (by rw [insK_len]; omega) h
    have h2 := gath_l2 L i j hi hL hjl (by omega) acc (by omega) res h1 acc.length (Nat.le_refl _) rfl
    refine Ev.step (fun k => ?_) h2
    simp only [tributarylaw4_gathered.l1]
    rw [if_pos (by omega), if_pos (by omega), hrl, if_pos (by omega)]
theorem gath_l0 (L : List (List RowT)) (hL : L.length ≤ 1000) (hl : ∀ l ∈ L, l.length ≤ 1000) (d : Nat) :
    ∀ (i : Nat) (acc : List RowT), i + d = L.length → acc.length ≤ i * 1000 → Ev (fun k => tributarylaw4_gathered.l0 k L acc (i : Int)) (gathK (L.drop i).flatten acc) := by
  induction d with
  | zero =>
    intro i acc hi ha
    rw [List.drop_eq_nil_of_le (by omega)]
    refine Ev_some fun k => ?_
    simp only [tributarylaw4_gathered.l0]
    rw [if_neg (by omega)]
    rfl
  | succ d ih =>
    intro i acc hi ha
    have hil : i < L.length := by omega
    have hli := hl L[i] (List.getElem_mem hil)
    have hgl : (gathK L[i] acc).length = L[i].length + acc.length := by rw [(gathK_perm L[i] acc).length_eq, List.length_append]
    have h1 := ih (i + 1) (gathK L[i] acc) (by omega) (by rw [hgl]; omega)
    rw [List.drop_eq_getElem_cons hil, List.flatten_cons, show gathK (L[i] ++ (L.drop (i + 1)).flatten) acc = gathK (L.drop (i + 1)).flatten (gathK L[i] acc) from List.foldl_append ..]
    have h2 := gath_l1 L i hil hL hli _ L[i].length 0 acc (by omega) (by omega) (by rw [List.drop_zero]; exact h1)
    refine Ev.step (fun k => ?_) h2
    simp only [tributarylaw4_gathered.l0]
    rw [if_pos (by omega)]
    rfl
theorem gath_ev (L : List (List RowT)) (hL : L.length ≤ 1000) (hl : ∀ l ∈ L, l.length ≤ 1000) : Ev (fun k => tributarylaw4_gathered.f k L) (gathK L.flatten []) := by
  have := gath_l0 L hL hl L.length 0 [] (by omega) (by simp)
  rw [List.drop_zero] at this
  exact this
/-- What is told of a part is the part of what is told of all. -/
theorem fold_part (f : Nat) (bf l : List RowT) (of p : Nat) (h : bf.length + l.length ≤ 64) : foldF f (mergeP bf of p) (mergeP l of p) = mergeP (foldF f bf l) of p := by
  have h1 := mergeP_len bf of p
  have h2 := mergeP_len l of p
  rw [foldF_few f _ _ (by omega), foldF_few f bf l h]
  have hk : keysS (mergeP bf of p ++ mergeP l of p) = (keysS (bf ++ l)).filter fun k => partN k of == p := by
    rw [← mergeP_keys']
    unfold mergeP
    rw [List.filter_append]
  rw [hk]
  unfold mergeP
  rw [List.filter_map]
  refine List.map_congr_left (fun k hkm => ?_)
  rw [List.mem_filter] at hkm
  have e : partN k of = p := by simpa using hkm.2
  refine congrArg (PFn.S30.mk k) ?_
  have v1 := mergeP_vals bf of p k
  have v2 := mergeP_vals l of p k
  rw [if_pos e] at v1 v2
  unfold valF
  show (runV f (lastV (mergeP bf of p) k, hasK (mergeP bf of p) k) (valsOf (mergeP l of p) k)).1 = _
  rw [lastV_eq v1, has_of_vals v1, v2]
theorem fold_rising (f : Nat) (bf l : List RowT) : (foldF f bf l).Pairwise (fun a b => a.f0 < b.f0) := by
  rw [foldF_map, List.pairwise_map]
  exact (keysS_lt _).take
/-- The parts of rows whose keys rise, put in order, are the rows. -/
theorem gath_parts {R : List RowT} (hR : R.Pairwise (fun a b => a.f0 < b.f0)) (of : Nat) (hof : 1 ≤ of) : gathK (((List.range of).map fun p => mergeP R of p).flatten) [] = R := by
  refine gathK_eq ?_ hR
  rw [← List.flatMap_def, List.perm_iff_count]
  intro r
  have hc : ∀ p, (mergeP R of p).count r = if partN r.f0 of = p then R.count r else 0 := by
    intro p
    unfold mergeP
    by_cases e : partN r.f0 of = p
    · rw [if_pos e, List.count_filter (by simpa using e)]
    · rw [if_neg e]
      exact List.count_eq_zero.2 (fun hm => e (by simpa using (List.mem_filter.1 hm).2))
  rw [List.count_flatMap]
  have : ∀ n x (v : Nat), ((List.range n).map fun p => if x = p then v else 0).sum = if x < n then v else 0 := by
    intro n
    induction n with
    | zero => intro x v; simp
    | succ n ih =>
      intro x v
      rw [List.range_succ, List.map_append, List.sum_append, ih]
      simp only [List.map_cons, List.map_nil, List.sum_cons, List.sum_nil]
      by_cases h1 : x < n
      · rw [if_pos h1, if_neg (by omega), if_pos (by omega)]; rfl
      · rw [if_neg h1]
        by_cases h2 : x = n
        · rw [if_pos h2, if_pos (by omega)]; omega
        · rw [if_neg h2, if_neg (by omega)]; rfl
  have e : ((List.range of).map (List.count r ∘ fun p => mergeP R of p)) = (List.range of).map fun p => if partN r.f0 of = p then R.count r else 0 := List.map_congr_left (fun p _ => hc p)
  rw [e, this, if_pos (partN_lt _ hof)]
end Go.Proofs.Ytbbjkgpilmcldaa.Pure
