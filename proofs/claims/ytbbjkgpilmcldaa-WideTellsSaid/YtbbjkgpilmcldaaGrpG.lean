/- Proved: what a slice of groups is in memory (keys, and rows of values that lie apart), how a group is laid between others, and how a value is put to one; condition: sizes that fit. -/
import Derived.Test.YtbbjkgpilmcldaaGrpPure
import Derived.Test.YtbbjkgpilmcldaaGrJoin
namespace Go.Proofs.Ytbbjkgpilmcldaa.Seq
open Go.RowKit Go.Maps Go.ChangeShapes Go.Shelf
open Go.Proofs.YtbbjkgpilmcldaaW.PrintWords Go.Proofs.YtbbjkgpilmcldaaW.PrintLast Go.Proofs.YtbbjkgpilmcldaaW.PrintMore
set_option linter.unusedVariables false
set_option linter.unusedSimpArgs false
theorem infoG : (Try.prog.info? 33).map (fun i => (i.zero, i.size, i.bytes)) = some (some (.agg #[(.int .i64 0), (.slice none 0 0)]), 2, 32) := by kernel_rfl
def gcells (es : List (Int × Value)) : List Value := es.flatMap fun e => [.int .i64 e.1, e.2]
theorem gcells_len (es : List (Int × Value)) : (gcells es).length = es.length * 2 := by
  induction es with
  | nil => rfl
  | cons e es ih =>
    rw [show gcells (e :: es) = [.int .i64 e.1, e.2] ++ gcells es from rfl, List.length_append, ih]
    simp only [List.length_cons, List.length_nil]
    omega
theorem gcells_app (a b : List (Int × Value)) : gcells (a ++ b) = gcells a ++ gcells b := List.flatMap_append
theorem gcells_cons (e : Int × Value) (b : List (Int × Value)) : gcells (e :: b) = [.int .i64 e.1, e.2] ++ gcells b := rfl
theorem gcells_get (es : List (Int × Value)) (i : Nat) (e : Int × Value) (h : es[i]? = some e) : (gcells es)[i * 2]? = some (.int .i64 e.1) ∧ (gcells es)[i * 2 + 1]? = some e.2 := by
  obtain ⟨hi, he⟩ := List.getElem?_eq_some_iff.1 h
  have e1 : es = es.take i ++ e :: es.drop (i + 1) := by rw [← he, ← List.drop_eq_getElem_cons hi, List.take_append_drop]
  have hl : (gcells (es.take i)).length = i * 2 := by rw [gcells_len, List.length_take]; omega
  rw [e1, gcells_app, gcells_cons]
  constructor
  · rw [List.getElem?_append_right (by omega), hl, Nat.sub_self]; rfl
  · rw [List.getElem?_append_right (by omega), hl, show i * 2 + 1 - i * 2 = 1 by omega]; rfl
theorem gcells_take (es : List (Int × Value)) (k : Nat) : (gcells es).take (k * 2) = gcells (es.take k) := by
  by_cases hk : k ≤ es.length
  · have hl : (gcells (es.take k)).length = k * 2 := by rw [gcells_len, List.length_take]; omega
    conv => lhs; rw [← List.take_append_drop k es, gcells_app, ← hl]
    exact List.take_left
  · rw [List.take_of_length_le (by rw [gcells_len]; omega), List.take_of_length_le (by omega)]
theorem gcells_drop (es : List (Int × Value)) (k : Nat) : (gcells es).drop (k * 2) = gcells (es.drop k) := by
  by_cases hk : k ≤ es.length
  · have hl : (gcells (es.take k)).length = k * 2 := by rw [gcells_len, List.length_take]; omega
    conv => lhs; rw [← List.take_append_drop k es, gcells_app, ← hl]
    exact List.drop_left
  · rw [List.drop_eq_nil_of_le (by rw [gcells_len]; omega), List.drop_eq_nil_of_le (by omega)]; rfl
/-- Two rows of values share no block. -/
def Ap (e f : Int × Value) : Prop := ∀ b, e.2.ownBlock = some b → f.2.ownBlock ≠ some b
theorem Ap.symm {e f : Int × Value} (h : Ap e f) : Ap f e := fun b h1 h2 => h b h2 h1
structure GAx (W : World) (base : Nat) (v : Value) (gs : List GrpP) (es : List (Int × Value)) : Prop where
  keys : es.map (·.1) = gs.map (·.1)
  own : W.ownsRow base 33 2 v gs.length (gcells es)
  inner : ∀ p ∈ es.zip gs, W.ownsInts base 3 .i64 p.1.2 p.2.2
  apart : es.Pairwise Ap
theorem GAx.len {W : World} {base : Nat} {v : Value} {gs : List GrpP} {es : List (Int × Value)} (h : GAx W base v gs es) : es.length = gs.length := by
  have := congrArg List.length h.keys
  rwa [List.length_map, List.length_map] at this
theorem GAx.nil (W : World) (base : Nat) : GAx W base (.slice none 0 0) [] [] :=
  ⟨rfl, World.ownsRow_nil W base _ 2, fun p h => by simp at h, List.Pairwise.nil⟩
theorem GAx.at_ {W : World} {base : Nat} {v : Value} {gs : List GrpP} {es : List (Int × Value)} (h : GAx W base v gs es) (i : Nat) (hi : i < es.length) (hi2 : i < gs.length) : W.ownsInts base 3 .i64 es[i].2 gs[i].2 ∧ es[i].1 = gs[i].1 := by
  refine ⟨h.inner (es[i], gs[i]) ?_, ?_⟩
  · have : (es.zip gs)[i]'(by rw [List.length_zip]; omega) = (es[i], gs[i]) := List.getElem_zip ..
    rw [← this]
    exact List.getElem_mem _
  · have := h.keys
    have e1 : (es.map (·.1))[i]? = some es[i].1 := by rw [List.getElem?_map, List.getElem?_eq_getElem hi]; rfl
    have e2 : (gs.map (·.1))[i]? = some gs[i].1 := by rw [List.getElem?_map, List.getElem?_eq_getElem hi2]; rfl
    rw [this, e2] at e1
    exact (Option.some.inj e1).symm
theorem GAx.below {W W' : World} {base : Nat} {v : Value} {gs : List GrpP} {es : List (Int × Value)} (h : GAx W base v gs es) (hb : Below W.heap.size W W') : GAx W' base v gs es :=
  ⟨h.keys, own_move h.own (fun k hk => hb.block k (h.own.lt k hk).2), fun p hp => ints_move (h.inner p hp) (fun b hbk => hb.block b ((h.inner p hp).1.lt b hbk).2), h.apart⟩
theorem GAx.one {W : World} {base : Nat} {v : Value} {gs : List GrpP} {es : List (Int × Value)} (h : GAx W base v gs es) : ∀ u ∈ gcells es, u.oneCell' = true := by
  intro u hu
  unfold gcells at hu
  obtain ⟨e, he, hu⟩ := List.mem_flatMap.1 hu
  obtain ⟨i, hi, rfl⟩ := List.getElem_of_mem he
  have hlen := h.len
  have hI := (h.at_ i hi (by omega)).1
  obtain ⟨A, c, e2⟩ := own_slice' hI.1
  rcases List.mem_cons.1 hu with rfl | hu
  · rfl
  · rw [List.mem_singleton.1 hu, e2]; rfl
/-- Cells that are handed to append. -/
structure SrcAt (W : World) (A : Option Addr) (m : Nat) (news : List Value) : Prop where
  len : news.length = m * 2
  at_ : 0 < m → ∃ ad, A = some ad ∧ ∀ j u, news[j]? = some u → W.cell? (ad.add j) = some u
  one : ∀ u ∈ news, u.oneCell' = true
theorem gapp {W : World} (base : Nat) (v : Value) (n : Nat) (xs news : List Value) (A : Option Addr) (m c : Nat) (hown : W.ownsRow base 33 2 v n xs) (hs : SrcAt W A m news) (hbase : base ≤ W.heap.size) (hl : (n + m) * 32 ≤ 140737488355328) :
    ∃ v1 w1, (Builtin.append_ #[24, 24] 24 #[v, .slice A m c]).run Try.prog W = .ok v1 w1 ∧ w1.ownsRow base 33 2 v1 (n + m) (xs ++ news) ∧ W.grownBy w1 v.ownBlock ∧ (v1.ownBlock = v.ownBlock ∨ ∃ b, v1.ownBlock = some b ∧ W.heap.size ≤ b) := by
  obtain ⟨i0, hi, hzz⟩ := Option.map_eq_some_iff.1 infoG
  simp only [Prod.mk.injEq] at hzz
  obtain ⟨hz0, hz1, hz2⟩ := hzz
  rcases A with _ | ad
  · have h0 : m = 0 := by
      rcases Nat.eq_zero_or_pos m with h0 | h0
      · exact h0
      · obtain ⟨ad, h, _⟩ := hs.at_ h0
        cases h
    subst h0
    obtain rfl : news = [] := List.eq_nil_of_length_eq_zero (by have := hs.len; omega)
    refine ⟨v, W, ?_, by rw [List.append_nil]; exact hown, World.grownBy.refl W _, .inl rfl⟩
    rcases hown.2 with ⟨rfl, hn⟩ | ⟨g, cap, cur, rfl, _, _, hnc, _⟩
    · simp [Builtin.append_, run_underlying Try.underlying24, sizeOf, typeInfo, hi, Builtin.lenOf, Builtin.firstCells]
    · simp [Builtin.append_, run_underlying Try.underlying24, sizeOf, typeInfo, hi, Builtin.lenOf, Builtin.firstCells, hnc, storeCells]
  · by_cases h0 : m = 0
    · subst h0
      obtain rfl : news = [] := List.eq_nil_of_length_eq_zero (by have := hs.len; omega)
      obtain ⟨v1, w1, hrun, h2, hg, _, hat⟩ := run_append_own_at (P := Try.prog) W base 24 24 33 i0 (.agg #[(.int .i64 0), (.slice none 0 0)]) 2 32 Try.underlying24 hi hz0 hz1 hz2 rfl (by decide) v n xs hown ad 0 c [] rfl (fun j u h => by simp at h) (fun u h => by simp at h) (by simp only [maxLen]; omega) hl hbase
      exact ⟨v1, w1, hrun, h2, hg, hat.imp id (fun h => ⟨_, h, Nat.le_refl _⟩)⟩
    · obtain ⟨ad', e, hat_⟩ := hs.at_ (by omega)
      obtain rfl := Option.some.inj e
      obtain ⟨v1, w1, hrun, h2, hg, _, hat⟩ := run_append_own_at (P := Try.prog) W base 24 24 33 i0 (.agg #[(.int .i64 0), (.slice none 0 0)]) 2 32 Try.underlying24 hi hz0 hz1 hz2 rfl (by decide) v n xs hown ad m c news hs.len hat_ hs.one (by simp only [maxLen]; omega) hl hbase
      exact ⟨v1, w1, hrun, h2, hg, hat.imp id (fun h => ⟨_, h, Nat.le_refl _⟩)⟩
theorem src_below {W W' : World} {A : Option Addr} {m : Nat} {news : List Value} (h : SrcAt W A m news) (hb : Below W.heap.size W W') : SrcAt W' A m news :=
  ⟨h.len, fun hm => by
    obtain ⟨ad, e, ha⟩ := h.at_ hm
    exact ⟨ad, e, fun j u hu => cell_keepS hb (ha j u hu)⟩, h.one⟩
theorem GAx.src {W : World} {base : Nat} {A : Option Addr} {n c : Nat} {gs : List GrpP} {es : List (Int × Value)} (h : GAx W base (.slice A n c) gs es) (k : Nat) (hk : k ≤ gs.length) :
    SrcAt W A k (gcells (es.take k)) ∧ SrcAt W (if c = k then A else A.map (·.add (k * 2))) (gs.length - k) (gcells (es.drop k)) ∧ n = gs.length ∧ n ≤ c := by
  have hlen := h.len
  have hone := h.one
  obtain ⟨A', c', e⟩ := own_slice' h.own
  injection e with e1 e2 e3
  subst e1 e2 e3
  have hc : ∀ ad, A = some ad → ∀ j u, (gcells es)[j]? = some u → W.cell? (ad.add j) = some u := by
    intro ad e j u hu
    rcases h.own.2 with ⟨e', _⟩ | ⟨g, cap, cur, e', _⟩
    · injection e' with e'; rw [e] at e'; cases e'
    · injection e' with e' _ _
      rw [e] at e'
      obtain rfl := Option.some.inj e'
      exact h.own.cells (g := g) (by rw [e]; simp [Value.ownBlock]) j u hu
  have hsome : 0 < gs.length → ∃ ad, A = some ad ∧ gs.length ≤ c := fun hp => by
    rcases h.own.2 with ⟨e', h0⟩ | ⟨g, cap, cur, e', _, _, hnc, _⟩
    · omega
    · injection e' with e' _ e3
      exact ⟨_, e', by omega⟩
  have hnc : gs.length ≤ c := by
    rcases Nat.eq_zero_or_pos gs.length with h0 | h0
    · omega
    · exact (hsome h0).choose_spec.2
  refine ⟨⟨by rw [gcells_len, List.length_take]; omega, fun hp => ?_, fun u hu => hone u ?_⟩, ⟨by rw [gcells_len, List.length_drop]; omega, fun hp => ?_, fun u hu => hone u ?_⟩, rfl, hnc⟩
  · obtain ⟨ad, e, _⟩ := hsome (by omega)
    refine ⟨ad, e, fun j u hu => hc ad e j u ?_⟩
    rw [← gcells_take] at hu
    rw [List.getElem?_take] at hu
    split at hu
    · exact hu
    · cases hu
  · rw [← gcells_take] at hu; exact List.mem_of_mem_take hu
  · obtain ⟨ad, e, _⟩ := hsome (by omega)
    rw [if_neg (by omega), e]
    refine ⟨ad.add (k * 2), rfl, fun j u hu => ?_⟩
    rw [← gcells_drop, List.getElem?_drop] at hu
    have := hc ad e _ u hu
    rw [show (ad.add (k * 2)).add j = ad.add (k * 2 + j) by by_cases h1 : k * 2 = 0 <;> by_cases h2 : j = 0 <;> simp [Addr.add, h1, h2, Nat.add_assoc]]
    exact this
  · rw [← gcells_drop] at hu; exact List.mem_of_mem_drop hu
theorem own_low {w : World} {base base' e size n : Nat} {v : Value} {xs : List Value} (h : w.ownsRow base e size v n xs) (hl : base' ≤ base) : w.ownsRow base' e size v n xs := own_weaken h hl
/-- **A group is laid between others.** -/
theorem GAx.insert {W : World} {base : Nat} {A : Option Addr} {n c : Nat} {gs : List GrpP} {es : List (Int × Value)} (h : GAx W base (.slice A n c) gs es) (k : Nat) (hk : k ≤ gs.length) (key : Int) (hbase : base ≤ W.heap.size) (hl : gs.length ≤ 100000) :
    ∃ v1 w1 v2 w3 v3 w4, (Builtin.append_ #[24, 24] 24 #[.slice none 0 0, .slice A k c]).run Try.prog W = .ok v1 w1 ∧
      (Builtin.append_ #[24, 24] 24 #[v1, .slice (some ⟨w1.heap.size, 0, none⟩) 1 1]).run Try.prog (w1.alloc (.cells #[.int .i64 key, .slice none 0 0] 33)) = .ok v2 w3 ∧
      (Builtin.append_ #[24, 24] 24 #[v2, .slice (if c = k then A else A.map (·.add (k * 2))) (gs.length - k) (c - k)]).run Try.prog w3 = .ok v3 w4 ∧
      GAx w4 base v3 (gs.take k ++ (key, []) :: gs.drop k) (es.take k ++ (key, .slice none 0 0) :: es.drop k) ∧ Below W.heap.size W w4 ∧ Below W.heap.size W w1 := by
  have hlen := h.len
  obtain ⟨s1, s2, _, _⟩ := h.src k hk
  obtain ⟨v1, w1, r1, o1, g1, _⟩ := gapp (W := W) W.heap.size (.slice none 0 0) 0 [] _ A k c (World.ownsRow_nil W _ _ 2) s1 (Nat.le_refl _) (by omega)
  have b1 : Below W.heap.size W w1 := (Below.refl _ _).grown g1 (Nat.le_refl _) (fun k hk => by simp [Value.ownBlock] at hk)
  have b2 := below_alloc b1 (.cells #[.int .i64 key, .slice none 0 0] 33)
  have hblk := World.alloc_heap_new w1 (.cells #[.int .i64 key, .slice none 0 0] 33)
  have s3 : SrcAt (w1.alloc (.cells #[.int .i64 key, .slice none 0 0] 33)) (some ⟨w1.heap.size, 0, none⟩) 1 [.int .i64 key, .slice none 0 0] := ⟨rfl, fun _ => ⟨_, rfl, fun j u hu => by
    rw [add_plain, blk_c hblk j, ← hu, List.getElem?_toArray]⟩, fun u hu => by
    rcases List.mem_cons.1 hu with rfl | hu
    · rfl
    · rw [List.mem_singleton.1 hu]; rfl⟩
  obtain ⟨v2, w3, r2, o2, g2, _⟩ := gapp (W := w1.alloc (.cells #[.int .i64 key, .slice none 0 0] 33)) W.heap.size v1 _ _ _ _ 1 1 (o1.alloc _) s3 b2.size (by omega)
  have b3 : Below W.heap.size W w3 := b2.grown g2 b2.size (fun k hk => (o1.lt k hk).1)
  obtain ⟨v3, w4, r3, o3, g3, _⟩ := gapp (W := w3) W.heap.size v2 _ _ _ _ (gs.length - k) (c - k) o2 (src_below s2 b3) b3.size (by omega)
  have b4 : Below W.heap.size W w4 := b3.grown g3 b3.size (fun k hk => (o2.lt k hk).1)
  have hx := h.below b4
  refine ⟨v1, w1, v2, w3, v3, w4, r1, r2, r3, ⟨?_, ?_, ?_, ?_⟩, b4, b1⟩
  · rw [List.map_append, List.map_append, List.map_cons, List.map_cons, List.map_take, List.map_take, List.map_drop, List.map_drop, h.keys]
  · have e1 : (gs.take k ++ (key, []) :: gs.drop k).length = 0 + k + 1 + (gs.length - k) := by rw [List.length_append, List.length_cons, List.length_take, List.length_drop]; omega
    have e2 : gcells (es.take k ++ (key, .slice none 0 0) :: es.drop k) = [] ++ gcells (es.take k) ++ [.int .i64 key, .slice none 0 0] ++ gcells (es.drop k) := by
      rw [gcells_app, gcells_cons, List.nil_append, List.append_assoc]
    rw [e1, e2]
    exact own_low o3 hbase
  · intro p hp
    rw [List.zip_append (by rw [List.length_take, List.length_take, hlen]), List.zip_cons_cons] at hp
    rcases List.mem_append.1 hp with hp | hp
    · refine hx.inner p ?_
      have : es.zip gs = (es.take k).zip (gs.take k) ++ (es.drop k).zip (gs.drop k) := by rw [← List.zip_append (by rw [List.length_take, List.length_take, hlen]), List.take_append_drop, List.take_append_drop]
      rw [this]
      exact List.mem_append_left _ hp
    · rcases List.mem_cons.1 hp with rfl | hp
      · exact ⟨World.ownsRow_nil w4 base _ 1, fun z hz => by simp at hz⟩
      · refine hx.inner p ?_
        have : es.zip gs = (es.take k).zip (gs.take k) ++ (es.drop k).zip (gs.drop k) := by rw [← List.zip_append (by rw [List.length_take, List.length_take, hlen]), List.take_append_drop, List.take_append_drop]
        rw [this]
        exact List.mem_append_right _ hp
  · have hd : es.Pairwise Ap := h.apart
    rw [← List.take_append_drop k es, List.pairwise_append] at hd
    rw [List.pairwise_append, List.pairwise_cons]
    refine ⟨hd.1, ⟨fun e _ b hb => by simp [Value.ownBlock] at hb, hd.2.1⟩, fun e he f hf => ?_⟩
    rcases List.mem_cons.1 hf with rfl | hf
    · intro b _; simp [Value.ownBlock]
    · exact hd.2.2 e he f hf
theorem own_set {w : World} {base e size n g : Nat} {v : Value} {xs : List Value} (h : w.ownsRow base e size v n xs) (hg : v.ownBlock = some g) (j : Nat) (hj : j < xs.length) (u : Value) : (w.setCell ⟨g, j, none⟩ u).ownsRow base e size v n (xs.set j u) := by
  obtain ⟨h1, h2⟩ := h
  refine ⟨by rw [List.length_set]; exact h1, ?_⟩
  rcases h2 with ⟨rfl, _⟩ | ⟨g', cap, cur, rfl, hbg, hh, hnc, hcm, hcs, htake⟩
  · simp [Value.ownBlock] at hg
  · obtain rfl : g' = g := by simpa [Value.ownBlock] using hg
    refine .inr ⟨g', cap, cur.setIfInBounds j u, rfl, hbg, heap_setCell_same _ _ _ _ _ _ hh, hnc, hcm, by rw [Array.size_setIfInBounds]; exact hcs, ?_⟩
    rw [Array.toList_setIfInBounds, List.take_set, htake]
/-- **A value is put to a group.** -/
theorem GAx.push {W : World} {base : Nat} {v : Value} {gs : List GrpP} {es : List (Int × Value)} (h : GAx W base v gs es) (k : Nat) (hk : k < gs.length) (hke : k < es.length) (x : Int) (hx : okI x) (ad : Addr) (hc : W.cell? ad = some (.int .i64 x)) (hbase : base ≤ W.heap.size) (hl : gs[k].2.length ≤ 100000) :
    ∃ g s1 w1, v.ownBlock = some g ∧ W.cell? ⟨g, k * 2 + 1, none⟩ = some es[k].2 ∧ (Builtin.append_ #[31, 31] 31 #[es[k].2, .slice (some ad) 1 1]).run Try.prog W = .ok s1 w1 ∧ w1.cell? ⟨g, k * 2 + 1, none⟩ = some es[k].2 ∧ w1.frozen? ⟨g, k * 2 + 1, none⟩ = false ∧ s1.oneCell' = true ∧ W.grownBy w1 es[k].2.ownBlock ∧
      GAx (w1.setCell ⟨g, k * 2 + 1, none⟩ s1) base v (gs.set k (gs[k].1, gs[k].2 ++ [x])) (es.set k (es[k].1, s1)) := by
  have hlen := h.len
  obtain ⟨hI, hkey⟩ := h.at_ k hke hk
  obtain ⟨i0, hi, hzz⟩ := Option.map_eq_some_iff.1 PFn.info3
  simp only [Prod.mk.injEq] at hzz
  obtain ⟨hz0, hz1, hz2⟩ := hzz
  obtain ⟨s1, w1, hrun, o1, hg1, _, hat⟩ := run_append_own_at (P := Try.prog) W base 31 31 3 i0 (.int .i64 0) 1 8 Try.underlying31 hi hz0 hz1 hz2 rfl (by decide) es[k].2 gs[k].2.length _ hI.1 ad 1 1 [.int .i64 x] rfl (fun j u hu => by
    match j, hu with
    | 0, hu => rw [show ad.add 0 = ad by simp [Addr.add]]; rw [hc]; exact hu) (fun u hu => by rw [List.mem_singleton.1 hu]; rfl) (by simp only [maxLen]; omega) (by omega) hbase
  obtain ⟨g, hg⟩ : ∃ g, v.ownBlock = some g := by
    rcases h.own.2 with ⟨_, h0⟩ | ⟨g, cap, cur, rfl, _⟩
    · omega
    · exact ⟨g, by simp [Value.ownBlock]⟩
  have hgt := own_typed h.own g hg
  have hgl := h.own.lt g hg
  have hcell := (gcells_get es k es[k] (List.getElem?_eq_getElem hke)).2
  have hcg := h.own.cells hg _ _ hcell
  rw [add_plain] at hcg
  have hne : some g ≠ es[k].2.ownBlock := fun e => by
    obtain ⟨c1, h1⟩ := hgt
    obtain ⟨c2, h2⟩ := own_typed hI.1 g e.symm
    rw [h1] at h2
    injection h2 with h2
    injection h2 with _ h2
    exact absurd h2 (by decide)
  have hb1 := hg1.block g hgl.2 hne
  have hsz := hg1.size
  obtain ⟨cs, hcs⟩ := hgt
  have hone : s1.oneCell' = true := by obtain ⟨A1, c1, e⟩ := own_slice' o1; rw [e]; rfl
  have hat' : s1.ownBlock = es[k].2.ownBlock ∨ ∃ b, s1.ownBlock = some b ∧ W.heap.size ≤ b := hat.imp id (fun h => ⟨_, h, Nat.le_refl _⟩)
  have hown1 : w1.ownsRow base 33 2 v gs.length (gcells es) := own_move h.own (fun q hq => by
    have e : q = g := Option.some.inj (hq.symm.trans hg)
    rw [e]; exact hb1)
  have hs := own_set hown1 hg (k * 2 + 1) (by rw [gcells_len]; omega) s1
  have eset : (gcells es).set (k * 2 + 1) s1 = gcells (es.set k (es[k].1, s1)) := by
    have e1 : es = es.take k ++ es[k] :: es.drop (k + 1) := by rw [← List.drop_eq_getElem_cons hke, List.take_append_drop]
    have hl2 : (gcells (es.take k)).length = k * 2 := by rw [gcells_len, List.length_take]; omega
    have hl3 : (es.take k).length = k := by rw [List.length_take]; omega
    obtain ⟨e0, he0⟩ : ∃ e0, es[k] = e0 := ⟨_, rfl⟩
    rw [he0] at e1 ⊢
    conv => lhs; rw [e1, gcells_app, gcells_cons, List.set_append_right _ _ (by omega), hl2, show k * 2 + 1 - k * 2 = 1 by omega]
    conv => rhs; rw [e1, List.set_append_right _ _ (by omega), hl3, Nat.sub_self, List.set_cons_zero, gcells_app, gcells_cons]
    rfl
  refine ⟨g, s1, w1, hg, hcg, hrun, (World.cell?_of_block (a := ⟨g, k * 2 + 1, none⟩) hb1).trans hcg, ?_, hone, hg1, ⟨?_, ?_, ?_, ?_⟩⟩
  · rw [World.frozen?_of_block (a := ⟨g, k * 2 + 1, none⟩) hb1]
    simp [World.frozen?, hcs]
  · rw [List.map_set, List.map_set, h.keys, hkey]
  · rw [List.length_set, ← eset]; exact hs
  · intro p hp
    obtain ⟨i, hi, rfl⟩ := List.getElem_of_mem hp
    rw [List.length_zip, List.length_set, List.length_set] at hi
    rw [List.getElem_zip]
    by_cases e : k = i
    · subst e
      simp only [List.getElem_set_self]
      refine ⟨own_move (by rw [List.length_append, List.length_singleton, List.map_append]; exact o1) (fun q hq => ?_), fun z hz => ?_⟩
      · refine Below.heap_setCell w1 ⟨g, k * 2 + 1, none⟩ s1 q (fun e => ?_)
        have e : q = g := e
        rcases hat' with e1 | ⟨b, e1, hb⟩
        · exact hne (by rw [← e, ← e1]; exact hq.symm)
        · have e2 : q = b := Option.some.inj (hq.symm.trans e1)
          have := hgl.2
          omega
      · rcases List.mem_append.1 hz with hz | hz
        · exact hI.2 z hz
        · rw [List.mem_singleton.1 hz]; exact hx
    · simp only [List.getElem_set_ne e]
      have hJ := (h.at_ i (by omega) (by omega)).1
      refine ints_move hJ (fun q hq => ?_)
      have hq2 := hJ.1.lt q hq
      have hqg : q ≠ g := fun e => by
        subst e
        obtain ⟨c2, h2⟩ := own_typed hJ.1 q hq
        rw [hcs] at h2
        injection h2 with h2
        injection h2 with _ h2
        exact absurd h2 (by decide)
      rw [Below.heap_setCell w1 ⟨g, k * 2 + 1, none⟩ s1 q hqg]
      refine hg1.block q hq2.2 (fun e2 => ?_)
      have hap : Ap es[i] es[k] := by
        rcases Nat.lt_trichotomy i k with h3 | h3 | h3
        · exact List.pairwise_iff_getElem.1 h.apart i k (by omega) (by omega) h3
        · exact absurd h3.symm e
        · exact (List.pairwise_iff_getElem.1 h.apart k i (by omega) (by omega) h3).symm
      exact hap q hq e2.symm
  · rw [List.pairwise_iff_getElem]
    intro i j hi hj hij
    rw [List.length_set] at hi hj
    have hfar : ∀ q (hq : q < es.length), q ≠ k → Ap es[q] (es[k].1, s1) := fun q hq hqk b hb e2 => by
      have hJ := (h.at_ q hq (by omega)).1
      have hlt := hJ.1.lt b hb
      rcases hat' with e | ⟨b', e, hb'⟩
      · have hap : Ap es[q] es[k] := by
          rcases Nat.lt_trichotomy q k with h3 | h3 | h3
          · exact List.pairwise_iff_getElem.1 h.apart q k (by omega) (by omega) h3
          · exact absurd h3 hqk
          · exact (List.pairwise_iff_getElem.1 h.apart k q (by omega) (by omega) h3).symm
        exact hap b hb (by rw [← e]; exact e2)
      · rw [show (es[k].1, s1).2 = s1 from rfl, e] at e2; injection e2 with e2; omega
    by_cases e1 : k = i
    · subst e1
      rw [List.getElem_set_self, List.getElem_set_ne (by omega)]
      exact (hfar j hj (by omega)).symm
    · by_cases e2 : k = j
      · subst e2
        rw [List.getElem_set_self, List.getElem_set_ne (by omega)]
        exact hfar i hi (by omega)
      · rw [List.getElem_set_ne e1, List.getElem_set_ne e2]
        exact List.pairwise_iff_getElem.1 h.apart i j hi hj hij
end Go.Proofs.Ytbbjkgpilmcldaa.Seq
