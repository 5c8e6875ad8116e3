/- Proved: a drawn region inside a fence, of operations that yield a value in every order and change nothing: each temporary holds its own value behind it. No condition on the fence's round. -/
import Derived.Test.YtbbjkgpilmcldaaGrReg
namespace Go.Proofs.Ytbbjkgpilmcldaa.Reg
open Go.RowKit
set_option linter.unusedSimpArgs false
set_option linter.unusedVariables false
/-- What a temporary holds when the listed operations have yielded. -/
def look (ds : List Tmp) (vs : List Value) (listed : Array Bool) (a0 : Act) (t : Tmp) : Value :=
  if listed.getD (ds.idxOf t) false = true ∧ ds.idxOf t < ds.length then vs.getD (ds.idxOf t) undef else a0.tmps.getD t undef
structure JV (ds : List Tmp) (vs : List Value) (a0 : Act) (W0 : World) (listed : Array Bool) (a : Act) (W : World) : Prop where
  world : W = W0
  size : listed.size = ds.length
  defers : a.defers = a0.defers
  tsize : a.tmps.size = a0.tmps.size
  eval : ∀ t, a.tmps.getD t undef = look ds vs listed a0 t
def putAll (a0 : Act) (ps : List (Tmp × Value)) : Act := { a0 with tmps := ps.foldl (fun t p => t.setIfInBounds p.1 p.2) a0.tmps }
theorem getD_set (t : Array Value) (d k : Nat) (v : Value) (hd : d < t.size) : (t.setIfInBounds d v).getD k undef = if d = k then v else t.getD k undef := by
  by_cases e : d = k
  · subst e
    rw [if_pos rfl]
    simp [Array.getD, hd]
  · rw [if_neg e]
    simp only [Array.getD, Array.size_setIfInBounds]
    by_cases hk : k < t.size
    · simp [hk, Array.getElem_setIfInBounds, e]
    · simp [hk]
theorem JV.put {ds : List Tmp} {vs : List Value} {a0 : Act} {W0 : World} {listed : Array Bool} {a : Act} {W : World} (h : JV ds vs a0 W0 listed a W) (hnd : ds.Nodup) (hds : ∀ d ∈ ds, d < a0.tmps.size) (i : Nat) (hi : i < ds.length) :
    JV ds vs a0 W0 (listed.setIfInBounds i true) (a.put (some ds[i]) (vs.getD i undef)) W := by
  have hd := hds _ (List.getElem_mem hi)
  refine ⟨h.world, by rw [Array.size_setIfInBounds]; exact h.size, h.defers, by show (a.tmps.setIfInBounds _ _).size = _; rw [Array.size_setIfInBounds]; exact h.tsize, fun t => ?_⟩
  show (a.tmps.setIfInBounds _ _).getD t undef = _
  rw [getD_set _ _ _ _ (by rw [h.tsize]; exact hd)]
  by_cases e : ds[i] = t
  · subst e
    rw [if_pos rfl]
    unfold look
    rw [List.Nodup.idxOf_getElem hnd i hi, if_pos ⟨by rw [show (listed.setIfInBounds i true).getD i false = true by simp [Array.getD, h.size, hi]], hi⟩]
  · rw [if_neg e, h.eval t]
    unfold look
    have hne : i ≠ ds.idxOf t ∨ ¬ ds.idxOf t < ds.length := by
      by_cases h1 : ds.idxOf t < ds.length
      · refine .inl (fun e2 => e ?_)
        subst e2
        exact List.getElem_idxOf h1
      · exact .inr h1
    rcases hne with hne | hne
    · rw [show (listed.setIfInBounds i true).getD (ds.idxOf t) false = listed.getD (ds.idxOf t) false by
        simp only [Array.getD, Array.size_setIfInBounds]
        by_cases hk : ds.idxOf t < listed.size
        · simp [hk, Array.getElem_setIfInBounds, hne]
        · simp [hk]]
    · rw [if_neg (fun h => hne h.2), if_neg (fun h => hne h.2)]
def putN (a0 : Act) (ds : List Tmp) (vs : List Value) : Nat → Act
  | 0 => a0
  | k + 1 => (putN a0 ds vs k).put ds[k]? (vs.getD k undef)
def lN (n : Nat) : Nat → Array Bool
  | 0 => Array.replicate n false
  | k + 1 => (lN n k).setIfInBounds k true
theorem JV.start (ds : List Tmp) (vs : List Value) (a0 : Act) (W : World) : JV ds vs a0 W (Array.replicate ds.length false) a0 W := by
  refine ⟨rfl, by simp, rfl, rfl, fun t => ?_⟩
  unfold look
  rw [if_neg]
  rintro ⟨h, h2⟩
  simp [Array.getD, h2] at h
theorem JV.upto {ds : List Tmp} {vs : List Value} {a0 : Act} (W : World) (hnd : ds.Nodup) (hds : ∀ d ∈ ds, d < a0.tmps.size) : ∀ k, k ≤ ds.length → JV ds vs a0 W (lN ds.length k) (putN a0 ds vs k) W
  | 0, _ => JV.start ds vs a0 W
  | k + 1, hk => by
    have h := (JV.upto (ds := ds) (vs := vs) W hnd hds k (by omega)).put hnd hds k (by omega)
    show JV ds vs a0 W _ ((putN a0 ds vs k).put ds[k]? _) W
    rw [List.getElem?_eq_getElem (by omega)]
    exact h
theorem lN_size (n k : Nat) : (lN n k).size = n := by
  induction k with
  | zero => simp [lN]
  | succ k ih => rw [lN, Array.size_setIfInBounds, ih]
theorem lN_true (n k i : Nat) (hi : i < k) (hk : k ≤ n) : (lN n k).getD i false = true := by
  induction k with
  | zero => omega
  | succ k ih =>
    rw [lN]
    have hs := lN_size n k
    by_cases e : k = i
    · subst e
      have hk' : k < n := by omega
      simp [Array.getD, hs, hk']
    · have h1 := ih (by omega) (by omega)
      have hi' : i < (lN n k).size := by omega
      rw [← h1]
      simp [Array.getD, hi', Array.getElem_setIfInBounds, e]
theorem JV.same {ds : List Tmp} {vs : List Value} {a0 : Act} {W0 W W' : World} {l l' : Array Bool} {a a' : Act} (h : JV ds vs a0 W0 l a W) (h' : JV ds vs a0 W0 l' a' W') (hl : ∀ i, i < ds.length → l.getD i false = true) (hl' : ∀ i, i < ds.length → l'.getD i false = true) : a = a' := by
  obtain ⟨t, d⟩ := a
  obtain ⟨t', d'⟩ := a'
  have e1 : d = d' := h.defers.trans h'.defers.symm
  have e2 : t = t' := by
    refine Array.ext (h.tsize.trans h'.tsize.symm) (fun i h1 h2 => ?_)
    have ha := h.eval i
    have hb := h'.eval i
    have : look ds vs l a0 i = look ds vs l' a0 i := by
      unfold look
      by_cases hi : ds.idxOf i < ds.length
      · rw [if_pos ⟨hl _ hi, hi⟩, if_pos ⟨hl' _ hi, hi⟩]
      · rw [if_neg (fun h => hi h.2), if_neg (fun h => hi h.2)]
    rw [this, ← hb] at ha
    simpa [Array.getD, h1, h2] using ha
  rw [e1, e2]
section
variable {P : Program} {ops : Array Oper} {F : Fence} {n : Nat} {Q : Exit → Act → World → Prop}
/-- **The region.** Of each operation: it has no guard, its temporary, and its value, those it waits for having yielded. -/
theorem region_val {id : Nat} {a0 : Act} {w0 : World} (ds : List Tmp) (vs : List Value) (hm : P.follows .mixedOrders = true) (hf : allBack ops = true) (hlen : ops.size = ds.length) (hF : ∀ f, F.fn f) (hnd : ds.Nodup) (hds : ∀ d ∈ ds, d < a0.tmps.size)
    (hg : ∀ (i : Nat) (o : Oper), ops[i]? = some o → o.guard = none ∧ o.dst = ds[i]?)
    (hrun : ∀ (listed : Array Bool) (a : Act), (∀ t, a.eval (.tmp t) = look ds vs listed a0 t) → ∀ (i : Nat) (o : Oper), ops[i]? = some o → (∀ j, waits ops i j = true → listed.getD j false = true) → (o.semAt F.round a.eval).run P w0.drew = .ok (.value (vs.getD i undef)) w0.drew)
    (hq : Q .normal (putN a0 ds vs ds.length) w0.drew) : (Code.region id ops true).wpIn F n P Q a0 w0 := by
  refine region_JI (JV ds vs a0 w0.drew) hm hf (fun l a w h => h.size.trans hlen.symm) (by rw [hlen]; exact JV.start ds vs a0 _) ?_ ?_
  · intro listed a w h i hi
    obtain ⟨hlt, _, hw⟩ := ready_spec hi
    have hw0 := h.world
    subst hw0
    have ho := Array.getElem?_eq_getElem hlt
    obtain ⟨h1, h2⟩ := hg i _ ho
    refine op_valueI (w1 := w0.drew) ho h1 hF (hrun listed a (fun t => h.eval t) i _ ho hw) ?_
    rw [h2, List.getElem?_eq_getElem (by omega)]
    exact h.put hnd hds i (by omega)
  · intro listed a w h hall
    have hw0 := h.world
    subst hw0
    have e := h.same (JV.upto (vs := vs) w0.drew hnd hds ds.length (Nat.le_refl _)) (fun i hi => hall i (by omega)) (fun i hi => lN_true _ _ i hi (Nat.le_refl _))
    rw [e]
    exact hq
end
end Go.Proofs.Ytbbjkgpilmcldaa.Reg
