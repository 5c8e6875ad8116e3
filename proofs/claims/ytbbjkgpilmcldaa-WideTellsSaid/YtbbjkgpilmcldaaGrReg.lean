/- Proved: a region whose order is drawn, walked by one invariant over what has been carried out; condition: each operation waits for elder ones alone. -/
import Derived.Test.YtbbjkgpilmcldaaRegInv
import Derived.OrdersIn
import Derived.TacticsIn
namespace Go.Proofs.Ytbbjkgpilmcldaa.Reg
open Go Go.RowKit
set_option linter.unusedVariables false
set_option linter.unusedSimpArgs false
section
variable {P : Program} {ops : Array Oper} {Q : Exit → Act → World → Prop}
def allBack (ops : Array Oper) : Bool := (List.range ops.size).all fun i => match ops[i]? with
  | none => true
  | some o => o.after.all fun e => !Region.binds .any e || decide (e.on < i)
theorem back_at (hf : allBack ops = true) {i : Nat} {o : Oper} (hi : ops[i]? = some o) : ∀ e ∈ o.after, Region.binds .any e = true → e.on < i := by
  have hlt : i < ops.size := (Array.getElem?_eq_some_iff.1 hi).1
  unfold allBack at hf
  rw [List.all_eq_true] at hf
  have h := hf i (List.mem_range.2 hlt)
  rw [hi] at h
  intro e he hb
  simp only [Array.all_eq_true_iff_forall_mem] at h
  have := h e he
  simp [hb] at this
  exact this
theorem none_ready' (hf : allBack ops = true) {listed : Array Bool} (hl : listed.size = ops.size) (h : Region.ready .any ops listed = []) : ∀ i, i < ops.size → listed.getD i false = true := by
  intro i
  induction i using Nat.strongRecOn with
  | ind i ih =>
    intro hi
    rcases hb : listed.getD i false with _ | _
    · exfalso
      have ho := Array.getElem?_eq_getElem hi
      have hm : i ∈ Region.ready .any ops listed := by
        unfold Region.ready
        rw [List.mem_filter, List.mem_range]
        refine ⟨hi, ?_⟩
        have e1 : listed.getD i true = false := by
          have hi' : i < listed.size := by omega
          simp [Array.getD, hi'] at hb ⊢; exact hb
        rw [e1, ho]
        simp only [Bool.not_false, Bool.true_and, Option.map_some, Option.getD_some]
        rw [Array.all_eq_true]
        intro k hk
        rcases hbd : Region.binds .any (ops[i].after[k]) with _ | _
        · rfl
        · have := back_at hf ho _ (Array.getElem_mem hk) hbd
          rw [ih _ this (by omega)]; rfl
      rw [h] at hm
      simp at hm
    · rfl
theorem count_set : ∀ (L : List Bool) (i : Nat), L[i]? = some false → ((L.set i true).filter id).length = (L.filter id).length + 1 := by
  intro L
  induction L with
  | nil => intro i h; simp at h
  | cons y L ihy =>
    intro i h
    cases i with
    | zero => simp at h; subst h; simp
    | succ i =>
      simp only [List.set_cons_succ, List.filter_cons]
      have := ihy i (by simpa using h)
      split <;> simp [this]
theorem region_J_go {J : Array Bool → Act → World → Prop} (hf : allBack ops = true) (hsz : ∀ listed a w, J listed a w → listed.size = ops.size)
    (hs : ∀ listed a w, J listed a w → ∀ i, i ∈ Region.ready .any ops listed → wpOp P ops Q i (J (listed.setIfInBounds i true)) a w)
    (hfin : ∀ listed a w, J listed a w → (∀ i, i < ops.size → listed.getD i false = true) → Q .normal a w) :
    ∀ (fuel : Nat) (listed : Array Bool) (a : Act) (w : World), ops.size ≤ fuel + (listed.toList.filter id).length → J listed a w → wpAny P .any ops Q fuel listed a w := by
  intro fuel
  induction fuel with
  | zero =>
    intro listed a w hn hI
    have hls := hsz _ _ _ hI
    have hall : ∀ i, i < ops.size → listed.getD i false = true := by
      intro i hi
      have hlen : (listed.toList.filter id).length = listed.toList.length := by
        have := List.length_filter_le id listed.toList
        have h2 : listed.toList.length = ops.size := by rw [Array.length_toList]; exact hls
        omega
      have hi' : i < listed.size := by rw [hls]; exact hi
      have := List.length_filter_eq_length_iff.1 hlen listed[i] (by rw [Array.mem_toList_iff]; exact Array.getElem_mem hi')
      simp [Array.getD, hi']; exact this
    refine ⟨?_, hfin listed a w hI hall⟩
    rcases hr : Region.ready .any ops listed with _ | ⟨x, xs⟩
    · rfl
    · have hx := ready_spec (show x ∈ Region.ready .any ops listed by rw [hr]; exact List.mem_cons_self ..)
      have h1 := hall x hx.1
      have h2 := hx.2.1
      have hx' : x < listed.size := by rw [hls]; exact hx.1
      simp [Array.getD, hx'] at h1 h2
      rw [h1] at h2; cases h2
  | succ fuel ih =>
    intro listed a w hn hI
    have hls := hsz _ _ _ hI
    refine ⟨fun h => hfin listed a w hI (none_ready' hf hls h), fun i hi => ?_⟩
    obtain ⟨hlt, hun, _⟩ := ready_spec hi
    have hstep := hs listed a w hI i hi
    have hi' : i < listed.size := by rw [hls]; exact hlt
    have hb2 : listed.toList[i]? = some false := by
      rw [Array.getElem?_toList, Array.getElem?_eq_getElem hi']
      simp [Array.getD, hi'] at hun; rw [hun]
    have hc : ops.size ≤ fuel + ((listed.setIfInBounds i true).toList.filter id).length := by
      rw [Array.toList_setIfInBounds, count_set _ _ hb2]
      omega
    unfold wpOp at hstep ⊢
    rw [Array.getElem?_eq_getElem hlt] at hstep ⊢
    by_cases hw : Region.wanted ops[i] (yielded ops a.tmps) = true
    · simp only [hw, if_true] at hstep ⊢
      exact hstep.imp_left (Oper.wp_mono (fun a' w' h => ih _ a' w' hc h))
    · simp only [hw, if_false, Bool.false_eq_true] at hstep ⊢
      exact ih _ _ _ hc hstep
theorem region_J {id : Nat} {a0 : Act} {w0 : World} (J : Array Bool → Act → World → Prop) (hm : P.follows .mixedOrders = true) (hf : allBack ops = true) (hsz : ∀ listed a w, J listed a w → listed.size = ops.size) (h0 : J (Array.replicate ops.size false) a0 w0.drew)
    (hs : ∀ listed a w, J listed a w → ∀ i, i ∈ Region.ready .any ops listed → wpOp P ops Q i (J (listed.setIfInBounds i true)) a w)
    (hfin : ∀ listed a w, J listed a w → (∀ i, i < ops.size → listed.getD i false = true) → Q .normal a w) : (Code.region id ops true).wp P Q a0 w0 :=
  wp_region_any hm (region_J_go hf hsz hs hfin _ _ _ _ (by simp) h0)
/-- One operation, by a law of the walk's list. -/
theorem op_list {i : Nat} {o : Oper} {K : Act → World → Prop} {a : Act} {w : World} (hi : ops[i]? = some o) (hg : o.guard = none)
    (h : wpList P ops (fun e a w => match e with | .normal => K a w | e => Q e a w) [o] a w) : wpOp P ops Q i K a w := by
  unfold wpOp
  rw [hi]
  simp only
  unfold wpList at h
  rw [if_pos (wanted_free hg)] at h ⊢
  refine h.imp ?_ ?_
  · intro h
    unfold Oper.wp at h ⊢
    generalize (execOp a.eval o).run P w = r at h ⊢
    cases r with
    | ok nx w' =>
      cases nx with
      | enter f args => exact Calls.mono h (fun e w'' he => by cases e <;> exact he)
      | _ => exact h
    | halt k w' => cases k <;> exact h
  · rintro ⟨h1, a', w', h2⟩
    exact ⟨h1, a', w', h2⟩
theorem nil_list {K : Act → World → Prop} {a : Act} {w : World} (h : K a w) : wpList P ops (fun e a w => match e with | .normal => K a w | e => Q e a w) [] a w := h
theorem op_value {i : Nat} {o : Oper} {K : Act → World → Prop} {a : Act} {w w1 : World} {v : Value} (hi : ops[i]? = some o) (hg : o.guard = none) (hrun : (execOp a.eval o).run P w = .ok (.value v) w1) (h : K (a.put o.dst v) w1) : wpOp P ops Q i K a w := by
  unfold wpOp
  rw [hi]
  simp only
  rw [if_pos (wanted_free hg)]
  unfold Oper.wp
  rw [hrun]
  exact .inl h
variable {F : Fence} {n : Nat}
theorem region_JI_go {J : Array Bool → Act → World → Prop} (hf : allBack ops = true) (hsz : ∀ listed a w, J listed a w → listed.size = ops.size)
    (hs : ∀ listed a w, J listed a w → ∀ i, i ∈ Region.ready .any ops listed → wpOpIn F n P ops Q i (J (listed.setIfInBounds i true)) a w)
    (hfin : ∀ listed a w, J listed a w → (∀ i, i < ops.size → listed.getD i false = true) → Q .normal a w) :
    ∀ (fuel : Nat) (listed : Array Bool) (a : Act) (w : World), ops.size ≤ fuel + (listed.toList.filter id).length → J listed a w → wpAnyIn F n P .any ops Q fuel listed a w := by
  intro fuel
  induction fuel with
  | zero =>
    intro listed a w hn hI
    have hls := hsz _ _ _ hI
    have hall : ∀ i, i < ops.size → listed.getD i false = true := by
      intro i hi
      have hlen : (listed.toList.filter id).length = listed.toList.length := by
        have := List.length_filter_le id listed.toList
        have h2 : listed.toList.length = ops.size := by rw [Array.length_toList]; exact hls
        omega
      have hi' : i < listed.size := by rw [hls]; exact hi
      have := List.length_filter_eq_length_iff.1 hlen listed[i] (by rw [Array.mem_toList_iff]; exact Array.getElem_mem hi')
      simp [Array.getD, hi']; exact this
    refine ⟨?_, hfin listed a w hI hall⟩
    rcases hr : Region.ready .any ops listed with _ | ⟨x, xs⟩
    · rfl
    · have hx := ready_spec (show x ∈ Region.ready .any ops listed by rw [hr]; exact List.mem_cons_self ..)
      have h1 := hall x hx.1
      have h2 := hx.2.1
      have hx' : x < listed.size := by rw [hls]; exact hx.1
      simp [Array.getD, hx'] at h1 h2
      rw [h1] at h2; cases h2
  | succ fuel ih =>
    intro listed a w hn hI
    have hls := hsz _ _ _ hI
    refine ⟨fun h => hfin listed a w hI (none_ready' hf hls h), fun i hi => ?_⟩
    obtain ⟨hlt, hun, _⟩ := ready_spec hi
    have hstep := hs listed a w hI i hi
    have hi' : i < listed.size := by rw [hls]; exact hlt
    have hb2 : listed.toList[i]? = some false := by
      rw [Array.getElem?_toList, Array.getElem?_eq_getElem hi']
      simp [Array.getD, hi'] at hun; rw [hun]
    have hc : ops.size ≤ fuel + ((listed.setIfInBounds i true).toList.filter id).length := by
      rw [Array.toList_setIfInBounds, count_set _ _ hb2]
      omega
    unfold wpOpIn at hstep ⊢
    rw [Array.getElem?_eq_getElem hlt] at hstep ⊢
    by_cases hw : Region.wanted ops[i] (yielded ops a.tmps) = true
    · simp only [hw, if_true] at hstep ⊢
      exact Oper.wpIn_mono (fun a' w' h => ih _ a' w' hc h) hstep
    · simp only [hw, if_false, Bool.false_eq_true] at hstep ⊢
      exact ⟨hstep.1, ih _ _ _ hc hstep.2⟩
theorem region_JI {id : Nat} {a0 : Act} {w0 : World} (J : Array Bool → Act → World → Prop) (hm : P.follows .mixedOrders = true) (hf : allBack ops = true) (hsz : ∀ listed a w, J listed a w → listed.size = ops.size) (h0 : J (Array.replicate ops.size false) a0 w0.drew)
    (hs : ∀ listed a w, J listed a w → ∀ i, i ∈ Region.ready .any ops listed → wpOpIn F n P ops Q i (J (listed.setIfInBounds i true)) a w)
    (hfin : ∀ listed a w, J listed a w → (∀ i, i < ops.size → listed.getD i false = true) → Q .normal a w) : (Code.region id ops true).wpIn F n P Q a0 w0 :=
  wpIn_region_any hm (region_JI_go hf hsz hs hfin _ _ _ _ (by simp) h0)
theorem nil_listI {K : Act → World → Prop} {a : Act} {w : World} (h : K a w) : wpListIn F n P ops (fun e a w => match e with | .normal => K a w | e => Q e a w) [] a w := h
theorem op_listI {i : Nat} {o : Oper} {K : Act → World → Prop} {a : Act} {w : World} (hi : ops[i]? = some o) (hg : o.guard = none)
    (h : wpListIn F n P ops (fun e a w => match e with | .normal => K a w | e => Q e a w) [o] a w) : wpOpIn F n P ops Q i K a w := by
  unfold wpOpIn
  rw [hi]
  simp only
  unfold wpListIn at h
  rw [if_pos (wanted_free hg)] at h ⊢
  unfold Oper.wpIn at h ⊢
  refine ⟨h.1, ?_⟩
  replace h := h.2
  generalize (o.semAt F.round a.eval).run P w = r at h ⊢
  cases r with
  | ok nx w' =>
    cases nx with
    | enter f args => exact ⟨h.1, CallsIn.mono h.2 (fun e w'' he => by cases e <;> exact he)⟩
    | round l f tmps assign body => exact ⟨h.1, RoundIn.mono h.2 (fun e w'' he => by cases e <;> exact he)⟩
    | _ => exact h
  | halt k w' => cases k <;> exact h
theorem op_valueI {i : Nat} {o : Oper} {K : Act → World → Prop} {a : Act} {w w1 : World} {v : Value} (hi : ops[i]? = some o) (hg : o.guard = none) (hF : ∀ f, F.fn f) (hrun : (o.semAt F.round a.eval).run P w = .ok (.value v) w1) (h : K (a.put o.dst v) w1) : wpOpIn F n P ops Q i K a w := by
  unfold wpOpIn
  rw [hi]
  simp only
  rw [if_pos (wanted_free hg)]
  unfold Oper.wpIn
  rw [hrun]
  exact ⟨fun f _ => hF f, h⟩
theorem op_roundI {i : Nat} {o : Oper} {K : Act → World → Prop} {a : Act} {w w1 : World} {l : Nat} {fn : FuncId} {tmps : Array Value} {assign body : Code} (hi : ops[i]? = some o) (hg : o.guard = none) (hF : ∀ f, F.fn f) (hd : F.depth = none) (hrun : (o.semAt F.round a.eval).run P w = .ok (.round l fn tmps assign body) w1)
    (h : RoundIn F (n - 1) P l fn tmps assign body w1 fun e w'' => ∃ v, e = .returned v ∧ K (a.put o.dst v) w'') : wpOpIn F n P ops Q i K a w := by
  unfold wpOpIn
  rw [hi]
  simp only
  rw [if_pos (wanted_free hg)]
  unfold Oper.wpIn
  rw [hrun]
  refine ⟨fun f _ => hF f, fun hh => (by rw [hd] at hh; cases hh), RoundIn.mono h (fun e w'' he => ?_)⟩
  obtain ⟨v, rfl, hk⟩ := he
  exact hk
end
end Go.Proofs.Ytbbjkgpilmcldaa.Reg
