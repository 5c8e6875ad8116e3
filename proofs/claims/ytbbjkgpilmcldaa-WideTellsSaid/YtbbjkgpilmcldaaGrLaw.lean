/- Proved: a range over a function whose iterator hands over memory of its own and makes memory ahead of its rounds: the loop's body may turn blocks of its own (Mine) and whatever was laid since the rounds began (from N on); condition: none. -/
import Derived.RangeFuncNested
import Derived.RangeFuncCalls
import Derived.RangeFuncBound
namespace Go.Proofs.Ytbbjkgpilmcldaa.Seq
open Go.RowKit
variable {P : Program}
/-- A round's contract, wherever it is met, no depth being asked. -/
theorem round_at {l l₀ m m' : Nat} {fn : FuncId} {tmps : Array Value} {assign body : Code} {w : World} {R : Ending → World → Prop} (h : RoundIn Fence.wide m P l fn tmps assign body w R) : RoundIn (Fence.wide.inRound l₀) m' P l fn tmps assign body w R :=
  ⟨trivial, fun c cs _ => h.2 c cs (fun d hd => by cases hd)⟩
theorem round_any {l m m' : Nat} {fn : FuncId} {tmps : Array Value} {assign body : Code} {w : World} {R : Ending → World → Prop} (h : RoundIn Fence.wide m P l fn tmps assign body w R) : RoundIn Fence.wide m' P l fn tmps assign body w R :=
  ⟨trivial, fun c cs _ => h.2 c cs (fun d hd => by cases hd)⟩
/-- Nothing is turned but the blocks of S, and new ones. -/
structure Fr (S : Nat → Prop) (w w' : World) : Prop where
  os : w'.os = w.os
  tape : w'.tape = w.tape
  output : w'.output = w.output
  size : w.heap.size ≤ w'.heap.size
  block : ∀ k, k < w.heap.size → ¬ S k → w'.heap[k]? = w.heap[k]?
section
variable {S S' : Nat → Prop} {u w w' w'' : World}
theorem Fr.refl (S : Nat → Prop) (w : World) : Fr S w w := ⟨rfl, rfl, rfl, Nat.le_refl _, fun _ _ _ => rfl⟩
theorem Fr.trans (h : Fr S u w) (k : Fr S w w') : Fr S u w' := ⟨k.os.trans h.os, k.tape.trans h.tape, k.output.trans h.output, Nat.le_trans h.size k.size, fun i hi hs => (k.block i (Nat.lt_of_lt_of_le hi h.size) hs).trans (h.block i hi hs)⟩
theorem Fr.mono (h : Fr S w w') (hS : ∀ k, S k → S' k) : Fr S' w w' := ⟨h.os, h.tape, h.output, h.size, fun i hi hs => h.block i hi (fun hk => hs (hS i hk))⟩
theorem Fr.of_grown {row : Option Nat} (h : w.grownBy w' row) (hr : ∀ k, row = some k → S k) : Fr S w w' := ⟨h.os, h.tape, h.output, h.size, fun i hi hs => h.block i hi (fun e => hs (hr i e.symm))⟩
theorem Fr.of_below (h : Below w.heap.size w w') : Fr S w w' := ⟨h.os, h.tape, h.output, h.size, fun i hi _ => h.block i hi⟩
theorem Fr.drew (h : Fr S w w') : Fr S w w'.drew := h.trans ⟨rfl, rfl, rfl, Nat.le_refl _, fun _ _ _ => rfl⟩
theorem Fr.alloc (h : Fr S w w') (o : Obj) : Fr S w (w'.alloc o) := h.trans (Fr.of_grown (World.grownBy_alloc w' o none) (fun _ e => by cases e))
theorem Fr.put (h : Fr S w w') {l : Nat} (o : Obj) (hl : S l) : Fr S w (w'.putObj l o) := h.trans (Fr.of_grown (grownBy_putObj' w' l o) (fun _ e => by cases e; exact hl))
theorem Fr.below {n : Nat} (h : Fr S w w') (hn : n ≤ w.heap.size) (hS : ∀ k, S k → n ≤ k) : Below n w w' := ⟨h.os, h.tape, h.output, h.size, fun i hi => h.block i (by omega) (fun hs => by have := hS i hs; omega)⟩
theorem Fr.set (h : Fr S w w') {a : Addr} (ha : S a.block) (v : Value) : Fr S w (w'.setCell a v) :=
  h.trans ⟨rfl, rfl, rfl, by show w'.heap.size ≤ (w'.heap.modify _ _).size; rw [Array.size_modify]; exact Nat.le_refl _, fun k _ hs => Below.heap_setCell w' a v k (fun e => hs (by rw [e]; exact ha))⟩
end
/-- An iterator's contract: where the rounds begin with N blocks laid, J W0, a step W0 to W1 that lays new blocks alone, and Rd x W0 W1 stand at each call of yield; a round turns Mine, the record and what was laid from N on. -/
def SeqV {α : Type} (P : Program) (g : Nat) (lb : Array Value) (encs : α → Array Value) (Rd : α → World → World → Prop) (Mine : Nat → Prop) (S Sp : List α → Prop) (w : World) : Prop :=
  ∀ (l : Nat) (J Jx : Nat → List α → World → Prop) (W : World), Below w.heap.size w W → w.heap.size ≤ l → l < W.heap.size → (∀ N, OwnFrom W.heap.size (J N)) → (∀ N, OwnFrom W.heap.size (Jx N)) →
    (∀ N pre x W0 W1, W.heap.size ≤ N → N ≤ W0.heap.size → Sp (pre ++ [x]) → J N pre W0 → W0.grownBy W1 none → Rd x W0 W1 → YieldAt Fence.wide 0 P l (encs x) W1 fun e W' =>
      Fr (fun k => (Mine k ∨ k = l) ∨ N ≤ k) W1 W' ∧ ((e = .returned (.bool true) ∧ J N (pre ++ [x]) W') ∨ (e = .returned (.bool false) ∧ Jx N (pre ++ [x]) W'))) →
    (∀ N, J N [] W) →
    Calls P g (#[.func (.yield l) #[] #[]] ++ lb) W fun e W' => (∃ v, e = .returned v) ∧ ((∃ N xs, S xs ∧ J N xs W') ∨ (∃ N pre, Sp pre ∧ Jx N pre W'))
theorem SeqV.later {α : Type} {g : Nat} {lb : Array Value} {encs : α → Array Value} {Rd : α → World → World → Prop} {Mine : Nat → Prop} {S Sp : List α → Prop} {w w' : World} (h : SeqV P g lb encs Rd Mine S Sp w) (hb : Below w.heap.size w w') : SeqV P g lb encs Rd Mine S Sp w' :=
  fun l J Jx W hW hl hl2 hJ hJx hY h0 => h l J Jx W (hb.trans (hW.mono hb.size)) (Nat.le_trans hb.size hl) hl2 hJ hJx hY h0
theorem grown_put {W0 W1 : World} (h : W0.grownBy W1 none) {l : Nat} (o : Obj) (hl : l < W0.heap.size) : (W0.putObj l o).grownBy (W1.putObj l o) none := by
  refine ⟨h.os, h.tape, h.output, by simp [h.size], fun k hk _ => ?_⟩
  rw [World.putObj_size] at hk
  by_cases e : k = l
  · subst e
    rw [World.putObj_heap_same hl, World.putObj_heap_same (Nat.lt_of_lt_of_le hl h.size)]
  · rw [World.putObj_heap_other e, World.putObj_heap_other e]
    exact h.block k hk (by simp)
/-- What a loop keeps of its own: its record, and the block for deferred calls. -/
def Rec (w W : World) (r : Loop) : Prop := W.heap[w.heap.size + 1]? = some (.loop r) ∧ W.heap[w.heap.size]? = some (.deferred (some []))
theorem Rec.kept {w W W' : World} {r : Loop} {S : Nat → Prop} (h : Rec w W r) (hf : Fr S W W') (h1 : ¬ S (w.heap.size + 1)) (h2 : ¬ S w.heap.size) : Rec w W' r :=
  ⟨(hf.block _ (Array.getElem?_eq_some_iff.1 h.1).1 h1).trans h.1, (hf.block _ (Array.getElem?_eq_some_iff.1 h.2).1 h2).trans h.2⟩
theorem Rec.grown {w W W' : World} {r : Loop} {row : Option Nat} (h : Rec w W r) (hg : W.grownBy W' row) (hr : ∀ k, row = some k → w.heap.size + 2 ≤ k) : Rec w W' r :=
  h.kept (S := fun k => w.heap.size + 2 ≤ k) (Fr.of_grown hg hr) (by omega) (by omega)
theorem Rec.put {w W : World} {r r' : Loop} (h : Rec w W r) : Rec w (W.putObj (w.heap.size + 1) (.loop r')) r' :=
  ⟨World.putObj_heap_same (Array.getElem?_eq_some_iff.1 h.1).1, (World.putObj_heap_other (by omega)).trans h.2⟩
/-- How the body of a round may be left. -/
def postV {α : Type} (Mine : Nat → Prop) (N : Nat) (I : Nat → List α → World → Prop) (Ix : Code → Nat → List α → World → Prop) (xs : List α) (W : World) : Exit → Act → World → Prop
  | .normal, _, W' => Fr (fun k => Mine k ∨ N ≤ k) W W' ∧ I N xs W'
  | .ret, _, W' => Fr (fun k => Mine k ∨ N ≤ k) W W' ∧ Ix .ret N xs W'
  | .exit id, _, W' => Fr (fun k => Mine k ∨ N ≤ k) W W' ∧ Ix (.exit id) N xs W'
  | .goto t, _, W' => Fr (fun k => Mine k ∨ N ≤ k) W W' ∧ Ix (.goto t) N xs W'
  | .panic _, _, _ => False
  | .outgrown, _, _ => False
theorem range_V {α : Type} {g : Operand} {ps : Array Tmp} {assign body : Code} {Q : Exit → Act → World → Prop} {a : Act} {w : World} {n gf : Nat} {lb : Array Value}
    (hg : a.eval g = .func (.func gf) #[] lb) (eg : ∀ args w, (callFunc gf args).run P w = .ok (.enter gf args) w)
    {encs : α → Array Value} {Rd : α → World → World → Prop} {Mine : Nat → Prop} {S Sp : List α → Prop} {w0 : World} (hseq : SeqV P gf lb encs Rd Mine S Sp w0) (hM : ∀ k, Mine k → k < w.heap.size)
    (hRd : ∀ x W0 W1 l o o', Rd x W0 W1 → W0.heap[l]? = some o → W1.heap[l]? = some o → o.isCells = false → Rd x (W0.putObj l o') (W1.putObj l o'))
    (hb0 : Below w0.heap.size w0 w) (hps : ∀ x, (encs x).size = ps.size)
    (I : Nat → List α → World → Prop) (Ix : Code → Nat → List α → World → Prop) (hI : ∀ N, OwnFrom w.heap.size (I N)) (hIx : ∀ c N, OwnFrom w.heap.size (Ix c N)) (h0 : ∀ N, I N [] w) (a₁ : α → Act)
    (hassign : ∀ (l : Nat) (x : α) (W : World) (K : Act → World → Prop), K (a₁ x) W →
      assign.wpIn (Fence.wide.inRound l) 0 P (Exit.then K (fun _ _ _ => False)) { tmps := (ps.zip (encs x)).foldl (fun t (p, v) => t.setIfInBounds p v) a.tmps, defers := [] } W)
    (hbody : ∀ (l N : Nat) (pre : List α) (x : α) (W0 W : World), w.heap.size + 2 ≤ N → N ≤ W0.heap.size → Sp (pre ++ [x]) → I N pre W0 → W0.grownBy W none → Rd x W0 W → body.wpIn (Fence.wide.inRound l) 0 P (postV Mine N I Ix (pre ++ [x]) W) (a₁ x) W)
    (hdone : ∀ (D N : Nat) (xs : List α) (W : World), w.heap.size ≤ D → S xs → I N xs W → W.heap[D]? = some (.deferred (some [])) → Q .normal { a with defers := { target := .collected D, args := #[] } :: a.defers } W)
    (hstop : ∀ (D N : Nat) (c : Code) (pre : List α) (W : World), w.heap.size ≤ D → Sp pre → Ix c N pre W → W.heap[D]? = some (.deferred (some [])) → c.wpIn Fence.wide n P Q { a with defers := { target := .collected D, args := #[] } :: a.defers } W) :
    (Code.rangeFunc g ps assign body).wpIn Fence.wide n P Q a w := by
  refine wpIn_rangeFunc (fun fn hfn => ?_)
  obtain ⟨rc, hrc⟩ : ∃ rc : LoopState → Option Code → Loop, rc = fun st pe => { state := st, pending := pe, fn, tmps := a.tmps, params := ps, assign, body, defers := w.heap.size } := ⟨_, rfl⟩
  obtain ⟨W1, hW1⟩ : ∃ W1, (w.alloc (.deferred (some []))).alloc (.loop (rc .ready none)) = W1 := ⟨_, rfl⟩
  have hR1 : Rec w W1 (rc .ready none) := by
    rw [← hW1]
    refine ⟨?_, (Below.heap_alloc _ _ _ (by simp)).trans (World.alloc_heap_new w _)⟩
    have := World.alloc_heap_new (w.alloc (.deferred (some []))) (.loop (rc .ready none))
    rwa [World.size_alloc] at this
  have hs1 : W1.heap.size = w.heap.size + 2 := by rw [← hW1]; simp
  have hb1 : Below w0.heap.size w0 W1 := by rw [← hW1]; exact hb0.trans ((((Below.refl _ w).alloc (Nat.le_refl _) _).alloc (by simp) _).mono hb0.size)
  refine ⟨w.heap.size + 1, [{ target := .collected w.heap.size, args := #[] }], W1, { target := .fn (.func gf) lb, args := #[.func (.yield (w.heap.size + 1)) #[] #[]] }, W1, gf, #[.func (.yield (w.heap.size + 1)) #[] #[]] ++ lb, W1, ?_, ?_, fun _ _ => trivial, by simp [invoke, go_sem, eg], fun h => (by cases h), callsIn_wide.2 ?_⟩
  · rw [← hW1, hrc]; exact run_enterLoop_outer _ _ _ _ _
  · simp only [resolve, hg]; simp [go_sem]
  have rise : ∀ {A : World} {row : Option Nat}, (∀ r, row = some r → W1.heap.size ≤ r ∧ ∃ o : Obj, A.heap[r]? = some o ∧ o.isCells = false) → (∀ r, row = some r → w.heap.size ≤ r ∧ ∃ o : Obj, A.heap[r]? = some o ∧ o.isCells = false) := fun hr r e => ⟨by have := (hr r e).1; omega, (hr r e).2⟩
  refine (hseq (w.heap.size + 1) (fun N pre W => I N pre W ∧ Rec w W (rc .ready none)) (fun N pre W => ∃ c, Ix c N pre W ∧ Rec w W (rc .done (some c))) W1 hb1 (by have := hb0.size; omega) (by omega) ?_ ?_ ?_ (fun N => ⟨by rw [← hW1]; exact (hI N).alloc _ ((hI N).alloc _ (h0 N)), hR1⟩)).mono ?_
  · exact fun N s A B row hs hg' hr => ⟨hI N s A B row hs.1 hg' (rise hr), hs.2.grown hg' (fun k e => by have := (hr k e).1; omega)⟩
  · rintro N s A B row ⟨c, hc, hl⟩ hg' hr
    exact ⟨c, hIx c N s A B row hc hg' (rise hr), hl.grown hg' (fun k e => by have := (hr k e).1; omega)⟩
  · -- a round
    rintro N pre x W0 W hN hN0 hSp ⟨hi, hl0⟩ hgr hrd
    have hl := hl0.grown hgr (fun k e => by cases e)
    have hy := run_yield (P := P) (args := encs x) hl.1 (by rw [hrc]; exact hps x)
    rw [hrc] at hy
    obtain ⟨bs, hbs⟩ : ∃ bs : Loop, { rc .ready none with state := .busy } = bs := ⟨_, rfl⟩
    refine ⟨fn, _, assign, body, hy, roundIn_of_wpIn hfn (hassign _ x W _ ⟨_, run_beginRound hl.1 (by rw [hrc]), ?_⟩)⟩
    rw [hbs]
    have hlB : Rec w (W.putObj (w.heap.size + 1) (.loop bs)) bs := hl.put
    have fin : ∀ (jump : Option Code) (W3 : World), Fr (fun k => Mine k ∨ N ≤ k) (W.putObj (w.heap.size + 1) (.loop bs)) W3 → (Instr.endRound (w.heap.size + 1) jump).run P W3 = .ok (.bool jump.isNone) (W3.putObj (w.heap.size + 1) (.loop (rc (if jump.isNone then .ready else .done) jump))) ∧ Rec w W3 bs ∧ Rec w (W3.putObj (w.heap.size + 1) (.loop (rc (if jump.isNone then .ready else .done) jump))) (rc (if jump.isNone then .ready else .done) jump) ∧ Fr (fun k => (Mine k ∨ k = w.heap.size + 1) ∨ N ≤ k) W (W3.putObj (w.heap.size + 1) (.loop (rc (if jump.isNone then .ready else .done) jump))) := fun jump W3 hk3 => by
      have hl3 := hlB.kept hk3 (fun h => by rcases h with h | h; have := hM _ h; omega; omega) (fun h => by rcases h with h | h; have := hM _ h; omega; omega)
      have := run_endRound (P := P) jump hl3.1
      rw [← hbs, hrc] at this
      rw [hrc]
      exact ⟨this, hl3, hl3.put, (((Fr.refl _ W).put _ (.inl (.inr rfl))).trans (hk3.mono (fun k hk => hk.imp_left .inl))).put _ (.inl (.inr rfl))⟩
    refine wpIn_mono (hbody _ N pre x _ _ (by omega) (by simpa using hN0) hSp ((hI N).putObj _ hi (by omega) hl0.1 rfl) (grown_put hgr _ (Array.getElem?_eq_some_iff.1 hl0.1).1) (hRd x W0 W _ _ _ hrd hl0.1 hl.1 rfl)) ?_
    rintro e a3 W3 hp
    cases e with
    | normal =>
      obtain ⟨hk3, hi3⟩ := hp
      obtain ⟨hr, hl3, hl4, hf⟩ := fin none W3 hk3
      exact ⟨_, _, hr, hf, .inl ⟨rfl, (hI N).putObj _ hi3 (by omega) hl3.1 rfl, hl4⟩⟩
    | ret =>
      obtain ⟨hr, hl3, hl4, hf⟩ := fin (some .ret) W3 hp.1
      exact ⟨_, _, hr, hf, .inr ⟨rfl, .ret, (hIx _ N).putObj _ hp.2 (by omega) hl3.1 rfl, hl4⟩⟩
    | exit id =>
      obtain ⟨hr, hl3, hl4, hf⟩ := fin (some (.exit id)) W3 hp.1
      exact ⟨_, _, hr, hf, .inr ⟨rfl, .exit id, (hIx _ N).putObj _ hp.2 (by omega) hl3.1 rfl, hl4⟩⟩
    | goto t =>
      obtain ⟨hr, hl3, hl4, hf⟩ := fin (some (.goto t)) W3 hp.1
      exact ⟨_, _, hr, hf, .inr ⟨rfl, .goto t, (hIx _ N).putObj _ hp.2 (by omega) hl3.1 rfl, hl4⟩⟩
    | panic ch => exact hp.elim
    | outgrown => exact hp.elim
  · -- behind the iterator
    rintro e W2 ⟨⟨v, rfl⟩, (⟨N, xs, hS, hi, hl⟩ | ⟨N, pre, hSp, c, hi, hl⟩)⟩
    · have := run_endLoop (P := P) hl.1 (by rw [hrc]; simp)
      rw [hrc] at this
      exact ⟨none, _, this, hdone _ N xs _ (Nat.le_refl _) hS ((hI N).putObj _ hi (by omega) hl.1 rfl) ((World.putObj_heap_other (by omega)).trans hl.2)⟩
    · have := run_endLoop (P := P) hl.1 (by rw [hrc]; simp)
      rw [hrc] at this
      exact ⟨some c, _, this, hstop _ N c pre _ (Nat.le_refl _) hSp ((hIx c N).putObj _ hi (by omega) hl.1 rfl) ((World.putObj_heap_other (by omega)).trans hl.2)⟩
end Go.Proofs.Ytbbjkgpilmcldaa.Seq
