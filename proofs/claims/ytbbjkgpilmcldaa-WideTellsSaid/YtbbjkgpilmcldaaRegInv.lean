/- Proved: a region whose order is drawn, walked by what each operation's own slot holds ever after it was carried out (whatever grows, stays): one small proof for each operation serves every order; condition: no operation writes into blocks that are told of, each slot is written once. -/
import Derived.Test.YtbbjkgpilmcldaaProg
import Derived.Orders
import Derived.WalkKit
import Derived.Below
import Derived.KernelRfl
namespace Go.Proofs.Ytbbjkgpilmcldaa.Reg
open Go Go.RowKit
set_option linter.unusedVariables false
set_option linter.unusedSimpArgs false

section
variable {P : Program} {ops : Array Oper} {Q : Exit → Act → World → Prop}

/-- Where an operation's value lies. -/
def dstAt (ops : Array Oper) (i : Nat) : Nat := ((ops[i]?).bind (·.dst)).getD 0
/-- The operation waits for another. -/
def waits (ops : Array Oper) (i j : Nat) : Bool := ((ops[i]?).map fun o => o.after.any fun e => Region.binds .any e && e.on == j).getD false
/-- Each operation has a slot of its own, waits for elder ones alone. -/
def fitB (ops : Array Oper) (size : Nat) : Bool :=
  (List.range ops.size).all fun i => match ops[i]? with
    | none => true
    | some o => (match o.dst with | none => false | some d => decide (d < size) && (List.range i).all fun j => dstAt ops j != d) && o.after.all fun e => !Region.binds .any e || decide (e.on < i)
/-- One operation: its value is as is wanted. -/
def StepOk (P : Program) (ops : Array Oper) (Q : Exit → Act → World → Prop) (o : Oper) (a : Act) (w : World) (R : Value → World → Prop) : Prop :=
  if Region.wanted o (yielded ops a.tmps) then o.wp P a w (fun a' w' => ∃ v, a' = a.put o.dst v ∧ R v w' ∧ Below w.heap.size w w') Q else R undef w

theorem step_value {o : Oper} {a : Act} {w w1 : World} {v : Value} {R : Value → World → Prop} (hw : Region.wanted o (yielded ops a.tmps) = true) (hrun : (execOp a.eval o).run P w = .ok (.value v) w1) (hb : Below w.heap.size w w1) (h : R v w1) : StepOk P ops Q o a w R := by
  unfold StepOk
  rw [if_pos hw]
  unfold Oper.wp
  rw [hrun]
  exact ⟨v, rfl, h, hb⟩
theorem step_call {o : Oper} {a : Act} {w : World} {R : Value → World → Prop} {f : FuncId} {args : Array Value} (hw : Region.wanted o (yielded ops a.tmps) = true) (hrun : (execOp a.eval o).run P w = .ok (.enter f args) w)
    (h : Calls P f args w fun e w' => ∃ v, e = .returned v ∧ R v w' ∧ Below w.heap.size w w') : StepOk P ops Q o a w R := by
  unfold StepOk
  rw [if_pos hw]
  unfold Oper.wp
  rw [hrun, Oper.upon_enter]
  refine h.mono fun e w'' hh => ?_
  obtain ⟨v, rfl, hk⟩ := hh
  exact ⟨v, rfl, hk⟩
theorem step_off {o : Oper} {a : Act} {w : World} {R : Value → World → Prop} (hw : Region.wanted o (yielded ops a.tmps) = false) (h : R undef w) : StepOk P ops Q o a w R := by
  unfold StepOk
  rw [if_neg (by rw [hw]; decide)]
  exact h
theorem wanted_free {o : Oper} {a : Act} (hg : o.guard = none) : Region.wanted o (yielded ops a.tmps) = true := by
  unfold Region.wanted; rw [hg]
theorem wanted_is {o : Oper} {a : Act} {j d : Nat} {b c : Bool} (hg : o.guard = some (j, b)) (hd : (ops[j]?).bind (·.dst) = some d) (hv : a.tmps[d]? = some (.bool c)) : Region.wanted o (yielded ops a.tmps) = (c == b) := by
  unfold Region.wanted yielded
  rw [hg]
  simp only [hd, Option.bind_some, hv]
  cases b <;> cases c <;> rfl

theorem wanted_undef {o : Oper} {a : Act} {j d : Nat} {b : Bool} (hg : o.guard = some (j, b)) (hd : (ops[j]?).bind (·.dst) = some d) (hv : a.tmps[d]? = some undef) : Region.wanted o (yielded ops a.tmps) = false := by
  unfold Region.wanted yielded
  rw [hg]
  simp only [hd, Option.bind_some, hv]
  cases b <;> rfl
/-- What is known of the slots when an operation is come to. -/
def Known (ops : Array Oper) (T : Nat → Value → World → Prop) (a0 a : Act) (w : World) (i : Nat) : Prop :=
  (∀ k, (List.range ops.size).all (fun j => dstAt ops j != k) = true → a.tmps[k]? = a0.tmps[k]?) ∧ (∀ j, waits ops i j = true → ∃ v, a.tmps[dstAt ops j]? = some v ∧ T j v w)
def stepsFrom (P : Program) (ops : Array Oper) (Q : Exit → Act → World → Prop) (T : Nat → Value → World → Prop) (a0 : Act) (ws : World) : Nat → List Oper → Prop
  | _, [] => True
  | i, o :: rest => (∀ a w, Below ws.heap.size ws w → a.defers = a0.defers → Known ops T a0 a w i → StepOk P ops Q o a w (T i)) ∧ stepsFrom P ops Q T a0 ws (i + 1) rest
def doneFrom (Q : Exit → Act → World → Prop) (T : Nat → Value → World → Prop) (w : World) : Nat → List Oper → Act → Prop
  | _, [], a => Q .normal a w
  | i, o :: rest, a => ∀ v, T i v w → doneFrom Q T w (i + 1) rest (a.put o.dst v)

theorem steps_get {T : Nat → Value → World → Prop} {a0 : Act} {ws : World} : ∀ (l : List Oper) (n : Nat), stepsFrom P ops Q T a0 ws n l → ∀ (i : Nat) (o : Oper), l[i]? = some o → ∀ a w, Below ws.heap.size ws w → a.defers = a0.defers → Known ops T a0 a w (n + i) → StepOk P ops Q o a w (T (n + i))
  | [], _, _, i, o, h => by simp at h
  | x :: l, n, hs, i, o, h => by
    cases i with
    | zero => simp at h; subst h; exact hs.1
    | succ i =>
      have := steps_get l (n + 1) hs.2 i o (by simpa using h)
      rw [show n + (i + 1) = n + 1 + i by omega]
      exact this

structure Inv (ops : Array Oper) (T : Nat → Value → World → Prop) (a0 : Act) (ws : World) (listed : Array Bool) (a : Act) (w : World) : Prop where
  below : Below ws.heap.size ws w
  defs : a.defers = a0.defers
  size : a.tmps.size = a0.tmps.size
  lsize : listed.size = ops.size
  old : ∀ k, (∀ i, i < ops.size → listed.getD i false = true → dstAt ops i ≠ k) → a.tmps[k]? = a0.tmps[k]?
  new : ∀ i, i < ops.size → listed.getD i false = true → ∃ v, a.tmps[dstAt ops i]? = some v ∧ T i v w

theorem fit_at {size : Nat} (hf : fitB ops size = true) {i : Nat} {o : Oper} (hi : ops[i]? = some o) :
    (∃ d, o.dst = some d ∧ d < size ∧ ∀ j, j < i → dstAt ops j ≠ d) ∧ ∀ e ∈ o.after, Region.binds .any e = true → e.on < i := by
  have hlt : i < ops.size := (Array.getElem?_eq_some_iff.1 hi).1
  unfold fitB at hf
  rw [List.all_eq_true] at hf
  have h := hf i (List.mem_range.2 hlt)
  rw [hi] at h
  simp only [Bool.and_eq_true] at h
  obtain ⟨h1, h2⟩ := h
  refine ⟨?_, fun e he hb => ?_⟩
  · cases hd : o.dst with
    | none => rw [hd] at h1; simp at h1
    | some d =>
      rw [hd] at h1
      simp only [Bool.and_eq_true, decide_eq_true_eq, List.all_eq_true, List.mem_range, bne_iff_ne] at h1
      exact ⟨d, rfl, h1.1, fun j hj => h1.2 j hj⟩
  · rw [Array.all_eq_true_iff_forall_mem] at h2
    have := h2 e he
    simp [hb] at this
    exact this
theorem dst_ne {size : Nat} (hf : fitB ops size = true) {i j : Nat} {o : Oper} {d : Nat} (hi : ops[i]? = some o) (hd : o.dst = some d) (hj : j < ops.size) (hne : j ≠ i) : dstAt ops j ≠ d := by
  obtain ⟨⟨d', hd', _, hlow⟩, _⟩ := fit_at hf hi
  rw [hd] at hd'; obtain rfl := Option.some.inj hd'
  rcases Nat.lt_or_gt_of_ne hne with h | h
  · exact hlow j h
  · obtain ⟨⟨e, he, _, hlow2⟩, _⟩ := fit_at hf (Array.getElem?_eq_getElem hj)
    have h2 := hlow2 i h
    have e1 : dstAt ops i = d := by unfold dstAt; rw [hi]; simp [hd]
    have e2 : dstAt ops j = e := by unfold dstAt; rw [Array.getElem?_eq_getElem hj]; simp [he]
    rw [e1] at h2
    rw [e2]
    exact fun hh => h2 hh.symm
theorem ready_spec {listed : Array Bool} {i : Nat} (h : i ∈ Region.ready .any ops listed) : i < ops.size ∧ listed.getD i true = false ∧ ∀ j, waits ops i j = true → listed.getD j false = true := by
  unfold Region.ready at h
  rw [List.mem_filter, List.mem_range] at h
  obtain ⟨hlt, h2⟩ := h
  simp only [Bool.and_eq_true, Bool.not_eq_true'] at h2
  refine ⟨hlt, h2.1, fun j hj => ?_⟩
  have ho := Array.getElem?_eq_getElem hlt
  unfold waits at hj
  rw [ho] at hj h2
  simp only [Option.map_some, Option.getD_some] at hj h2
  rw [Array.any_eq_true] at hj
  obtain ⟨k, hk, hk2⟩ := hj
  have := (Array.all_eq_true.1 h2.2) k hk
  simp only [Bool.and_eq_true, beq_iff_eq] at hk2
  rw [hk2.1] at this
  rw [← hk2.2]
  simpa using this
theorem none_ready {size : Nat} (hf : fitB ops size = true) {listed : Array Bool} (hl : listed.size = ops.size) (h : Region.ready .any ops listed = []) : ∀ i, i < ops.size → listed.getD i false = true := by
  intro i
  induction i using Nat.strongRecOn with
  | ind i ih =>
    intro hi
    rcases hb : listed.getD i false with _ | _
    · exfalso
      have ho := Array.getElem?_eq_getElem hi
      have hm : i ∈ Region.ready .any ops listed := by
        unfold Region.ready
        rw [List.mem_filter, List.mem_range]
        refine ⟨hi, ?_⟩
        have e1 : listed.getD i true = false := by
          have hi' : i < listed.size := by omega
          simp [Array.getD, hi'] at hb ⊢; exact hb
        rw [e1, ho]
        simp only [Bool.not_false, Bool.true_and, Option.map_some, Option.getD_some]
        rw [Array.all_eq_true]
        intro k hk
        rcases hbd : Region.binds .any (ops[i].after[k]) with _ | _
        · rfl
        · have := (fit_at hf ho).2 _ (Array.getElem_mem hk) hbd
          rw [ih _ this (by omega)]; rfl
      rw [h] at hm
      simp at hm
    · rfl

theorem below_trans' {ws w w' : World} (h : Below ws.heap.size ws w) (h2 : Below w.heap.size w w') : Below ws.heap.size ws w' := h.trans (h2.mono h.size)
theorem region_inv_go {T : Nat → Value → World → Prop} {a0 : Act} {ws : World} (hf : fitB ops a0.tmps.size = true)
    (mono : ∀ i v w w', Below w.heap.size w w' → T i v w → T i v w') (steps : stepsFrom P ops Q T a0 ws 0 ops.toList)
    (fin : ∀ listed a w, Inv ops T a0 ws listed a w → (∀ i, i < ops.size → listed.getD i false = true) → Q .normal a w) :
    ∀ (fuel : Nat) (listed : Array Bool) (a : Act) (w : World), ops.size ≤ fuel + (listed.toList.filter id).length → Inv ops T a0 ws listed a w → wpAny P .any ops Q fuel listed a w := by
  intro fuel
  induction fuel with
  | zero =>
    intro listed a w hn hI
    have hall : ∀ i, i < ops.size → listed.getD i false = true := by
      intro i hi
      have hlen : (listed.toList.filter id).length = listed.toList.length := by
        have := List.length_filter_le id listed.toList
        have h2 : listed.toList.length = ops.size := by rw [Array.length_toList]; exact hI.lsize
        omega
      have hi' : i < listed.size := by rw [hI.lsize]; exact hi
      have := List.length_filter_eq_length_iff.1 hlen listed[i] (by rw [Array.mem_toList_iff]; exact Array.getElem_mem hi')
      simp [Array.getD, hi']; exact this
    refine ⟨?_, fin listed a w hI hall⟩
    rcases hr : Region.ready .any ops listed with _ | ⟨x, xs⟩
    · rfl
    · have hx := ready_spec (show x ∈ Region.ready .any ops listed by rw [hr]; exact List.mem_cons_self ..)
      have h1 := hall x hx.1
      have h2 := hx.2.1
      have hx' : x < listed.size := by rw [hI.lsize]; exact hx.1
      simp [Array.getD, hx'] at h1 h2
      rw [h1] at h2; cases h2
  | succ fuel ih =>
    intro listed a w hn hI
    refine ⟨fun h => fin listed a w hI (none_ready hf hI.lsize h), fun i hi => ?_⟩
    obtain ⟨hlt, hun, hpre⟩ := ready_spec hi
    have ho := Array.getElem?_eq_getElem hlt
    have hun' : listed.getD i false = false := by
      have hi' : i < listed.size := by rw [hI.lsize]; exact hlt
      simp [Array.getD, hi'] at hun ⊢; exact hun
    obtain ⟨⟨d, hd, hds, _⟩, hedge⟩ := fit_at hf ho
    have hdi : dstAt ops i = d := by unfold dstAt; rw [ho]; simp [hd]
    have hK : Known ops T a0 a w i := by
      refine ⟨fun k hk => hI.old k fun j hj _ => ?_, fun j hj => ?_⟩
      · rw [List.all_eq_true] at hk
        have := hk j (List.mem_range.2 hj)
        simpa using this
      · have hjl := hpre j hj
        have hjn : j < ops.size := by
          rcases Nat.lt_or_ge j ops.size with h | h
          · exact h
          · have : ¬ j < listed.size := by rw [hI.lsize]; omega
            simp [Array.getD, this] at hjl
        exact hI.new j hjn hjl
    have hs := steps_get ops.toList 0 steps i ops[i] (by rw [Array.getElem?_toList]; exact ho) a w hI.below hI.defs (by rw [Nat.zero_add]; exact hK)
    rw [Nat.zero_add] at hs
    have next : ∀ v w', T i v w' → Below w.heap.size w w' → wpAny P .any ops Q fuel (listed.setIfInBounds i true) (a.put ops[i].dst v) w' := by
      intro v w' hT hb
      rw [hd]
      have hi' : i < listed.size := by rw [hI.lsize]; exact hlt
      have hget : ∀ j, (listed.setIfInBounds i true).getD j false = if j = i then true else listed.getD j false := by
        intro j
        rw [Array.getD_eq_getD_getElem?, Array.getD_eq_getD_getElem?, Array.getElem?_setIfInBounds]
        by_cases h : i = j
        · subst h; simp [hi']
        · rw [if_neg h, if_neg (fun hh => h hh.symm)]
      refine ih _ _ _ ?_ ?_
      · have hc : ((listed.setIfInBounds i true).toList.filter id).length = (listed.toList.filter id).length + 1 := by
          rw [Array.toList_setIfInBounds]
          have hb2 : listed.toList[i]? = some false := by
            rw [Array.getElem?_toList, Array.getElem?_eq_getElem hi']
            simp [Array.getD, hi'] at hun'; rw [hun']
          clear hget hn
          generalize listed.toList = L at hb2
          clear hi hun hpre hun' hi'
          induction L generalizing i with
          | nil => simp at hb2
          | cons x L ihL =>
            cases i with
            | zero => simp at hb2; subst hb2; simp
            | succ i =>
              simp only [List.set_cons_succ, List.filter_cons]
              have hb3 : L[i]? = some false := by simpa using hb2
              have key : ∀ (L : List Bool) (i : Nat), L[i]? = some false → ((L.set i true).filter id).length = (L.filter id).length + 1 := by
                intro L
                induction L with
                | nil => intro i h; simp at h
                | cons y L ihy =>
                  intro i h
                  cases i with
                  | zero => simp at h; subst h; simp
                  | succ i =>
                    simp only [List.set_cons_succ, List.filter_cons]
                    have := ihy i (by simpa using h)
                    split <;> simp [this]
              have := key L i hb3
              split <;> simp [this]
        omega
      · refine ⟨below_trans' hI.below hb, hI.defs, ?_, ?_, ?_, ?_⟩
        · simp [Act.put, hI.size]
        · simp [hI.lsize]
        · intro k hk
          have hkd : d ≠ k := by
            have := hk i hlt (by rw [hget, if_pos rfl])
            rwa [hdi] at this
          simp only [Act.put, Array.getElem?_setIfInBounds, if_neg hkd]
          refine hI.old k fun j hj hjl => hk j hj ?_
          rw [hget]
          by_cases hh : j = i
          · rw [if_pos hh]
          · rw [if_neg hh]; exact hjl
        · intro j hj hjl
          rw [hget] at hjl
          by_cases hji : j = i
          · subst hji
            refine ⟨v, ?_, hT⟩
            rw [hdi]
            simp [Act.put, hI.size, hds]
          · rw [if_neg hji] at hjl
            obtain ⟨u, hu, hTu⟩ := hI.new j hj hjl
            refine ⟨u, ?_, mono j u w w' hb hTu⟩
            have := dst_ne hf ho hd hj hji
            have hne2 : ¬ d = dstAt ops j := fun hh => this hh.symm
            simp only [Act.put, Array.getElem?_setIfInBounds, if_neg hne2]
            exact hu
    unfold wpOp
    rw [ho]
    unfold StepOk at hs
    by_cases hw : Region.wanted ops[i] (yielded ops a.tmps) = true
    · simp only [hw, if_true] at hs ⊢
      refine .inl (Oper.wp_mono ?_ hs)
      rintro a' w' ⟨v, rfl, hT, hb⟩
      exact next v w' hT hb
    · simp only [hw, if_false, Bool.false_eq_true] at hs ⊢
      exact next undef w hs (Below.refl _ _)

/-- What is in the end: the slots, one behind the other. -/
theorem done_all {T : Nat → Value → World → Prop} {w : World} : ∀ (l : List Oper) (n : Nat) (a : Act), doneFrom Q T w n l a → ∀ vs : Nat → Value, (∀ i, i < l.length → T (n + i) (vs (n + i)) w) → Q .normal (((List.range' n l.length).zip l).foldl (fun a p => a.put p.2.dst (vs p.1)) a) w
  | [], _, a, h, vs, _ => h
  | o :: l, n, a, h, vs, hv => by
    have h1 := h (vs n) (by simpa using hv 0 (by simp))
    have := done_all l (n + 1) _ h1 vs (fun i hi => by have := hv (i + 1) (by simp; omega); rwa [show n + (i + 1) = n + 1 + i by omega] at this)
    simpa [List.range'_succ] using this

theorem puts_get (vs : Nat → Value) : ∀ (l : List Oper) (n : Nat) (a : Act) (k : Nat), (∀ p ∈ (List.range' n l.length).zip l, ∃ d, p.2.dst = some d) →
    (((List.range' n l.length).zip l).foldl (fun a p => a.put p.2.dst (vs p.1)) a).tmps.size = a.tmps.size ∧ (((List.range' n l.length).zip l).foldl (fun a p => a.put p.2.dst (vs p.1)) a).defers = a.defers ∧
    ((∀ p ∈ (List.range' n l.length).zip l, p.2.dst ≠ some k) → (((List.range' n l.length).zip l).foldl (fun a p => a.put p.2.dst (vs p.1)) a).tmps[k]? = a.tmps[k]?)
  | [], _, a, k, _ => ⟨rfl, rfl, fun _ => rfl⟩
  | o :: l, n, a, k, h => by
    simp only [List.length_cons, List.range'_succ, List.zip_cons_cons, List.foldl_cons] at h ⊢
    obtain ⟨d, hd⟩ := h (n, o) (List.mem_cons_self ..)
    obtain ⟨i1, i2, i3⟩ := puts_get vs l (n + 1) (a.put o.dst (vs n)) k (fun p hp => h p (List.mem_cons_of_mem _ hp))
    refine ⟨by rw [i1]; simp only at hd; rw [hd]; simp [Act.put], by rw [i2]; simp only at hd; rw [hd]; rfl, fun hk => ?_⟩
    rw [i3 fun p hp => hk p (List.mem_cons_of_mem _ hp)]
    have := hk (n, o) (List.mem_cons_self ..)
    simp only at hd this
    rw [hd]
    simp only [Act.put, Array.getElem?_setIfInBounds, if_neg (fun hh : d = k => this (by rw [hd, hh]))]

theorem region_inv {id : Nat} {a0 : Act} {w0 : World} (T : Nat → Value → World → Prop) (hm : P.follows .mixedOrders = true) (hf : fitB ops a0.tmps.size = true)
    (mono : ∀ i v w w', Below w.heap.size w w' → T i v w → T i v w') (steps : stepsFrom P ops Q T a0 w0.drew 0 ops.toList)
    (done : ∀ w, Below w0.drew.heap.size w0.drew w → doneFrom Q T w 0 ops.toList a0) : (Code.region id ops true).wp P Q a0 w0 := by
  refine wp_region_any hm ?_
  refine region_inv_go hf mono steps ?_ _ _ _ _ (by simp) ⟨Below.refl _ _, rfl, rfl, by simp, fun _ _ => rfl, fun i hi h => by simp [Array.getD, hi] at h⟩
  intro listed a w hI hall
  have hv : ∀ i, ∃ v, i < ops.size → a.tmps[dstAt ops i]? = some v ∧ T i v w := by
    intro i
    by_cases hi : i < ops.size
    · obtain ⟨v, h⟩ := hI.new i hi (hall i hi)
      exact ⟨v, fun _ => h⟩
    · exact ⟨.bool false, fun h => absurd h hi⟩
  have hv' := fun i => Classical.choose_spec (hv i)
  generalize hvs : (fun i => Classical.choose (hv i)) = vs
  have hvs' : ∀ i, i < ops.size → a.tmps[dstAt ops i]? = some (vs i) ∧ T i (vs i) w := by intro i hi; rw [← hvs]; exact hv' i hi
  have hq := done_all ops.toList 0 a0 (done w hI.below) vs (fun i hi => by rw [Nat.zero_add]; exact (hvs' i (by simpa using hi)).2)
  have hdst : ∀ p ∈ (List.range' 0 ops.toList.length).zip ops.toList, ∃ d, p.2.dst = some d := by
    intro p hp
    have hm2 := (List.of_mem_zip hp).2
    obtain ⟨i, hi, he⟩ := List.getElem_of_mem hm2
    obtain ⟨⟨d, hd, _⟩, _⟩ := fit_at hf (show ops[i]? = some p.2 by rw [← Array.getElem?_toList, List.getElem?_eq_getElem hi, he])
    exact ⟨d, hd⟩
  have ha : a = ((List.range' 0 ops.toList.length).zip ops.toList).foldl (fun a p => a.put p.2.dst (vs p.1)) a0 := by
    generalize hb : ((List.range' 0 ops.toList.length).zip ops.toList).foldl (fun a p => a.put p.2.dst (vs p.1)) a0 = b
    have hbs : b.tmps.size = a0.tmps.size ∧ b.defers = a0.defers := by rw [← hb]; exact ⟨(puts_get vs ops.toList 0 a0 0 hdst).1, (puts_get vs ops.toList 0 a0 0 hdst).2.1⟩
    have ht : a.tmps = b.tmps := by
      apply Array.ext'
      apply List.ext_getElem?
      intro k
      rw [Array.getElem?_toList, Array.getElem?_toList]
      by_cases hk : ∃ i, i < ops.size ∧ dstAt ops i = k
      · obtain ⟨i, hi, rfl⟩ := hk
        rw [(hvs' i hi).1]
        rw [← hb]
        have ho := Array.getElem?_eq_getElem hi
        obtain ⟨⟨d, hd, hds, _⟩, _⟩ := fit_at hf ho
        have hdi : dstAt ops i = d := by unfold dstAt; rw [ho]; simp [hd]
        have key : ∀ (l : List Oper) (n : Nat) (c : Act), c.tmps.size = a0.tmps.size → (∀ p ∈ (List.range' n l.length).zip l, ∃ d, p.2.dst = some d) → (∀ j, j < l.length → ops[n + j]? = l[j]?) → n ≤ i → i < n + l.length →
            (((List.range' n l.length).zip l).foldl (fun a p => a.put p.2.dst (vs p.1)) c).tmps[d]? = some (vs i) := by
          intro l
          induction l with
          | nil => intro n c _ _ _ h1 h2; simp at h2; omega
          | cons o l ihl =>
            intro n c hc hdd hat h1 h2
            simp only [List.length_cons, List.range'_succ, List.zip_cons_cons, List.foldl_cons] at hdd h2 ⊢
            obtain ⟨e, he⟩ := hdd (n, o) (List.mem_cons_self ..)
            simp only at he
            by_cases hin : i = n
            · subst hin
              have ho2 : o = ops[i] := by
                have := hat 0 (by simp)
                simp only [Nat.add_zero, List.getElem?_cons_zero] at this
                rw [ho] at this; exact (Option.some.inj this).symm
              rw [ho2, hd]
              have hno : ∀ p ∈ (List.range' (i + 1) l.length).zip l, p.2.dst ≠ some d := by
                intro p hp hpd
                obtain ⟨q, hq, hqe⟩ := List.getElem_of_mem hp
                have hql : q < l.length := by simp at hq; omega
                have e1 : p.2 = l[q] := by rw [← hqe]; simp
                have e2 := hat (q + 1) (by simp; omega)
                rw [List.getElem?_cons_succ, List.getElem?_eq_getElem hql, ← e1] at e2
                have hlt2 : i + (q + 1) < ops.size := (Array.getElem?_eq_some_iff.1 e2).1
                have := dst_ne hf ho hd hlt2 (by omega)
                apply this
                unfold dstAt; rw [e2]; simp [hpd]
              have hdd2 : ∀ p ∈ (List.range' (i + 1) l.length).zip l, ∃ d, p.2.dst = some d := fun p hp => hdd p (List.mem_cons_of_mem _ hp)
              rw [(puts_get vs l (i + 1) (c.put (some d) (vs i)) d hdd2).2.2 hno]
              simp [Act.put, hc, hds]
            · refine ihl (n + 1) _ (by rw [he]; simp [Act.put, hc]) (fun p hp => hdd p (List.mem_cons_of_mem _ hp)) (fun j hj => ?_) (by omega) (by omega)
              have := hat (j + 1) (by simp; omega)
              rw [List.getElem?_cons_succ] at this
              rw [show n + 1 + j = n + (j + 1) by omega]; exact this
        rw [hdi]
        exact (key ops.toList 0 a0 rfl hdst (fun j _ => by rw [Nat.zero_add, Array.getElem?_toList]) (by omega) (by simpa using hi)).symm
      · rw [hI.old k fun i hi _ hk2 => hk ⟨i, hi, hk2⟩, ← hb]
        refine ((puts_get vs ops.toList 0 a0 k hdst).2.2 fun p hp hpd => hk ?_).symm
        have hm2 := (List.of_mem_zip hp).2
        obtain ⟨i, hi, he⟩ := List.getElem_of_mem hm2
        refine ⟨i, by simpa using hi, ?_⟩
        unfold dstAt
        rw [← Array.getElem?_toList, List.getElem?_eq_getElem hi, he]; simp [hpd]
    cases a; cases b
    simp only at ht hbs
    have := hI.defs
    simp only at this
    rw [ht, this, hbs.2]
  rw [ha]
  exact hq
theorem done_nil {T : Nat → Value → World → Prop} {w : World} {n : Nat} {a : Act} (h : Q .normal a w) : doneFrom Q T w n [] a := h
/-- What stays whatever grows. -/
def Mono (t : Value → World → Prop) : Prop := ∀ v w w', Below w.heap.size w w' → t v w → t v w'
def Is (x : Value) : Value → World → Prop := fun v _ => v = x
theorem Is.mono (x : Value) : Mono (Is x) := fun _ _ _ _ h => h
def Any : Value → World → Prop := fun _ _ => True
theorem Any.mono : Mono Any := fun _ _ _ _ h => h
def tab (l : List (Value → World → Prop)) (i : Nat) : Value → World → Prop := l.getD i Any
def AllMono : List (Value → World → Prop) → Prop
  | [] => True
  | t :: l => Mono t ∧ AllMono l
theorem AllMono.mem : ∀ {l : List (Value → World → Prop)}, AllMono l → ∀ t ∈ l, Mono t
  | [], _, _, h => by cases h
  | x :: l, h, t, ht => by
    rcases List.mem_cons.1 ht with rfl | ht
    · exact h.1
    · exact AllMono.mem h.2 t ht
theorem tab_mono {l : List (Value → World → Prop)} (h : AllMono l) : ∀ i v w w', Below w.heap.size w w' → tab l i v w → tab l i v w' := by
  intro i v w w' hb ht
  unfold tab at ht ⊢
  rw [List.getD_eq_getElem?_getD] at ht ⊢
  rcases hg : l[i]? with _ | t
  · trivial
  · rw [hg] at ht
    exact h.mem t (List.mem_of_getElem? hg) v w w' hb ht
theorem below_undrew {w w' : World} (h : Below w.drew.heap.size w.drew w') : Below w.heap.size w w' := (show Below w.heap.size w w.drew from ((Below.refl _ _).drew)).trans h
theorem cut_cap {P : Program} (t e : TypeId) (kh : IntKind) {i : TypeInfo} (ht : P.underlying t = some (.slice e)) (hi : P.info? e = some i) (A : Option Addr) (n c : Nat) (j : Int) (h0 : 0 ≤ j) (hm : j ≤ c) :
    ∀ W : World, (Instr.slice t (.slice A n c) none (some (.int kh j)) none).run P W = .ok (.slice A j.toNat c) W := by
  intro W
  have hel : P.elem t = e := by simp [Program.elem, ht]
  have hu : P.underlying t = some (.slice (P.elem t)) := by rw [hel]; exact ht
  have ha : (A.map fun x => x.add 0) = A := by cases A <;> simp [Addr.add]
  rw [run_slice_h W t A n c hu kh j h0 (by omega), hel]
  simp [sizeOf, typeInfo, hi, sliced, Result.andThen, ha]
theorem eval_of {a : Act} {k : Nat} {v : Value} (h : a.tmps[k]? = some v) : a.eval (.tmp k) = v := by
  show a.tmps.getD k undef = v
  rw [Array.getD_eq_getD_getElem?, h]; rfl
end
end Go.Proofs.Ytbbjkgpilmcldaa.Reg
