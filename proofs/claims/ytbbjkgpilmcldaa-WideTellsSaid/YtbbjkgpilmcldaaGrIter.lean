/- Proved: the iterator that rows.Groups hands back tells each key once, rising, with its values in their order, in memory of the caller's own; condition: at most 100000 rows of numbers that fit. -/
import Derived.Test.YtbbjkgpilmcldaaGrGroups
namespace Go.Proofs.Ytbbjkgpilmcldaa.Seq
open Go.RowKit Go.Maps Go.ChangeShapes Go.Shelf
open Go.WideElems (Fit rd rg pl rd_val elemAt)
open Go.Proofs.YtbbjkgpilmcldaaW.PrintWords Go.Proofs.YtbbjkgpilmcldaaW.PrintLast Go.Proofs.YtbbjkgpilmcldaaW.PrintMore
attribute [local go_sem] Oper.semAt_some
set_option linter.unusedVariables false
set_option linter.unusedSimpArgs false
theorem ints_move {w w' : World} {base : Nat} {v : Value} {zs : List Int} (h : w.ownsInts base 3 .i64 v zs) (hb : ∀ g, v.ownBlock = some g → w'.heap[g]? = w.heap[g]?) : w'.ownsInts base 3 .i64 v zs := by
  obtain ⟨⟨h1, h2⟩, h3⟩ := h
  refine ⟨⟨h1, ?_⟩, h3⟩
  rcases h2 with h2 | ⟨g, cap, cur, rfl, a1, a2, a3⟩
  · exact .inl h2
  · exact .inr ⟨g, cap, cur, rfl, a1, (hb g rfl).trans a2, a3⟩
/-- What an iterator's map holds hangs on its own blocks alone. -/
theorem groups_move {w w' : World} {base b n : Nat} {D : DataW Unit} (h : w.ownsGroups Try.prog 3 base 3 .i64 b n D) (hb : w'.heap[b]? = w.heap[b]?) (hr : ∀ g, base ≤ g → g < w.heap.size → w'.heap[g]? = w.heap[g]?) : w'.ownsGroups Try.prog 3 base 3 .i64 b n D := by
  obtain ⟨es, clock, hb1, F, hs, rfl, hbb, hlen, hap⟩ := h
  have mv : ∀ (v : Value) (zs : List Int), w.ownsInts base 3 .i64 v zs → w'.ownsInts base 3 .i64 v zs := fun v zs ho => ints_move ho (fun g hg => hr g (ho.1.lt g hg).1 (ho.1.lt g hg).2)
  have hst : ∀ x ∈ es.toList, ∀ z, rowElem (H := Unit) w base 3 .i64 x.val = some z → rowElem w' base 3 .i64 x.val = some z := fun x hx z hz => by
    obtain ⟨zs, ho, rfl⟩ := rowElem_inv hz
    exact rowElem_mk (mv _ _ ho)
  obtain ⟨F1, hmap, _⟩ := F.stay hst
  refine ⟨es, clock, hb.trans hb1, F1, hs, by rw [hmap], hbb, fun x hx zs ho => ?_, hap⟩
  obtain ⟨y, hy⟩ := F.reads x hx
  obtain ⟨z, hz, _⟩ := rd_val hy
  obtain ⟨zs0, ho0, _⟩ := rowElem_inv hz
  rw [ho.unique (mv _ _ ho0)]
  exact hlen x hx zs0 ho0
/-- .. as long as the blocks from b to e stay. -/
structure GrpF (W : World) (Bm b e : Nat) (D : DataW Unit) (l : List RowT) : Prop where
  at_ : GrpAt W Bm b D l
  lt : b < Bm ∧ Bm < e ∧ e ≤ W.heap.size
  rows : ∀ W' : World, (∀ k, b ≤ k → k < e → W'.heap[k]? = W.heap[k]?) → GrpAt W' Bm b D l
theorem GrpF.new {W : World} {Bm b : Nat} {D : DataW Unit} {l : List RowT} (h : GrpAt W Bm b D l) (h1 : b < Bm) (h2 : Bm < W.heap.size) : GrpF W Bm b W.heap.size D l :=
  ⟨h, ⟨h1, h2, Nat.le_refl _⟩, fun W' hW => ⟨(World.cell?_of_block (a := ⟨Bm, 0, none⟩) (hW Bm (by omega) h2)).trans h.box, groups_move h.own (hW b (Nat.le_refl _) (by omega)) (fun g h3 h4 => hW g (by omega) h4), h.gd⟩⟩
theorem GrpF.kept {W W' : World} {Bm b e : Nat} {D : DataW Unit} {l : List RowT} {S : Nat → Prop} (h : GrpF W Bm b e D l) (hf : Fr S W W') (hS : ∀ k, b ≤ k → k < e → ¬ S k) : GrpF W' Bm b e D l := by
  have hm : ∀ k, b ≤ k → k < e → W'.heap[k]? = W.heap[k]? := fun k h1 h2 => hf.block k (Nat.lt_of_lt_of_le h2 h.lt.2.2) (hS k h1 h2)
  exact ⟨h.rows W' hm, ⟨h.lt.1, h.lt.2.1, Nat.le_trans h.lt.2.2 hf.size⟩, fun W2 h2 => h.rows W2 (fun k a1 a2 => (h2 k a1 a2).trans (hm k a1 a2))⟩
theorem GrpF.map {W : World} {Bm b e : Nat} {D : DataW Unit} {l : List RowT} (h : GrpF W Bm b e D l) : W.ownsMap Try.prog 3 (rowElem (H := Unit) W (b + 2) 3 .i64) b l.length D := by
  obtain ⟨es, clock, hb1, F, hs, e1, _⟩ := h.at_.own
  exact ⟨es, clock, hb1, F, hs, e1⟩
/-- What a round is handed: a key, and a slice of its values. -/
structure Gx where
  k : Int
  v : Value
def RdG (l : List RowT) (x : Gx) (W0 W1 : World) : Prop := okI x.k ∧ W1.ownsInts W0.heap.size 3 .i64 x.v (valsOf l x.k)
theorem RdG.put {l : List RowT} {x : Gx} {W0 W1 : World} {r : Nat} {o o' : Obj} (h : RdG l x W0 W1) (h0 : W0.heap[r]? = some o) (h1 : W1.heap[r]? = some o) (ho : o.isCells = false) : RdG l x (W0.putObj r o') (W1.putObj r o') := by
  refine ⟨h.1, ?_⟩
  rw [World.putObj_size]
  refine ints_move h.2 (fun g hg => World.putObj_heap_other (fun e => ?_))
  subst e
  obtain ⟨cells, hc⟩ := own_typed h.2.1 _ hg
  rw [hc] at h1
  obtain rfl := Option.some.inj h1
  cases ho
theorem grown_of_below {w W : World} (h : Below w.heap.size w W) : w.grownBy W none := ⟨h.os, h.tape, h.output, h.size, fun k hk _ => h.block k hk⟩
theorem OwnFrom.grow {β : Type} {B : Nat} {I : β → World → Prop} (h : OwnFrom B I) {s : β} {w W : World} (hs : I s w) (hg : w.grownBy W none) : I s W := h s w W none hs hg (by simp)
/-- What stands while a round of the iterator is carried out, in which order ever. -/
structure PI (X Z : World) (b : Nat) (l : List RowT) (key : Int) (b0 b2 b4 b5 b6 b7 : Bool) (v v2 : Value) (R : World → Prop) : Prop where
  d0 : b0 = false → b6 = false
  d2 : b2 = false → b4 = false
  d4 : b4 = false → b5 = false
  d5 : b5 = false → b6 = false
  d7 : b6 = false → b7 = false
  pa : b5 = false → Z = X.drew
  pv : b4 = true → X.drew.ownsInts (b + 2) 3 .i64 v (valsOf l key)
  pg : b6 = false → X.grownBy Z none
  pb : b5 = true → b6 = false → Z.ownsInts X.heap.size 3 .i64 v2 (valsOf l key)
  pc : b6 = true → R Z
theorem grown_drew (X : World) : X.grownBy X.drew none := ⟨rfl, rfl, rfl, Nat.le_refl _, fun _ _ _ => rfl⟩
theorem upto_of {W W' : World} {base : Nat} {v : Value} {zs : List Int} (h : W.ownsInts base 3 .i64 v zs) (hz : zs ≠ []) : ∃ g c, v = .slice (some ⟨g, 0, none⟩) zs.length c ∧ ∀ j u, (zs.map (Value.int .i64))[j]? = some u → W.cell? (Addr.add ⟨g, 0, none⟩ j) = some u := by
  rcases h.1.2 with ⟨_, h0⟩ | ⟨g, cap, cur, rfl, _, hb, _, _, _, ht⟩
  · exact absurd (List.eq_nil_of_length_eq_zero h0) hz
  · refine ⟨g, cap, rfl, fun j u hj => ?_⟩
    rw [add_plain, cell_of_row W g j cur 3 (0, 0) hb, ← Array.getElem?_toList, ← hj, ← ht, List.getElem?_take, if_pos]
    have := (List.getElem?_eq_some_iff.1 hj).1
    simpa using this
set_option maxHeartbeats 4000000 in
set_option maxRecDepth 100000 in
theorem groups_V (Mine : Nat → Prop) (Bm b e : Nat) (D : DataW Unit) (l : List RowT) (w : World) (hG : GrpF w Bm b e D l) (hl : l.length ≤ 100000) (hok : ∀ r ∈ l, okRow r) (hM : ∀ k, Mine k → k < w.heap.size) (hm : ∀ k, b ≤ k → k < e → ¬ Mine k) :
    SeqV Try.prog 36 #[.pointer (some ⟨Bm, 0, none⟩)] (fun x : Gx => #[.int .i64 x.k, x.v]) (RdG l) Mine (fun xs => xs.map (·.k) = keysS l) (fun pre => pre.map (·.k) <+: keysS l) w := by
  intro l₀ J Jx W hW hl1 hl2 hJ hJx hY h0
  have hGW : GrpF W Bm b e D l := hG.kept (S := fun _ => False) (Fr.of_below hW) (fun _ _ _ h => h)
  refine (callsIn_wide (n := 6)).1 ?_
  refine callsIn_of_wp_marks Try.func36 rfl trivial ?_ rfl
  simp only [Try.ntmps36, List.size_toArray, List.length_cons, List.length_nil, Nat.reduceAdd, Nat.reduceSub, Array.replicate_succ, Array.replicate_zero, List.push_toArray, List.append_toArray, List.nil_append, List.cons_append]
  obtain ⟨W1, hW1⟩ : ∃ W1, W.alloc (.cells #[.func (.yield l₀) #[] #[]] 58) = W1 := ⟨_, rfl⟩
  have hg1 : Below W.heap.size W W1 := by rw [← hW1]; exact (Below.refl _ _).alloc (Nat.le_refl _) _
  have hY1 : W1.heap[W.heap.size]? = some (.cells #[.func (.yield l₀) #[] #[]] 58 (0, 0)) := by rw [← hW1]; exact World.alloc_heap_new W _
  have hs1 : W1.heap.size = W.heap.size + 1 := by rw [← hW1]; simp
  have hG1 : GrpF W1 Bm b e D l := hGW.kept (S := fun _ => False) (Fr.of_below hg1) (fun _ _ _ h => h)
  have hbx := hG1.at_.box
  have hsz := keys_size hG1.at_.gd hG1.map
  have hdl := dk_len l
  have QR := rising_calls b l.length D _ W1 hG1.map (by unfold maxLen; omega) (by omega)
  have hf37 : Fence.wide.fn 37 := trivial
  gi_wp2_with (first
    | (gi_at_call 37; refine (callsIn_wide.2 QR).mono ?_; rintro e' W2 ⟨Bs, v, ss, rfl, hBs1, hBs2, hBc, hperm, hrow, hb2⟩))
  have hW2 : Below W.heap.size W W2 := hg1.trans (hb2.mono hg1.size)
  have hG2 : GrpF W2 Bm b e D l := hG1.kept (S := fun _ => False) (Fr.of_below hb2) (fun _ _ _ h => h)
  have hY2 : W2.heap[W.heap.size]? = some (.cells #[.func (.yield l₀) #[] #[]] 58 (0, 0)) := (hb2.block _ (by omega)).trans hY1
  have hkey := sorted_keys hG1.at_.gd hG1.map hperm
  have hks := keys_ok hG1.at_.gd hG1.map
  have hln : ss.length = (keysS l).length := by rw [← hkey]; exact (List.length_mergeSort _).symm
  rw [hkey, hln] at hrow
  obtain ⟨bb, hI, hbb⟩ := ints_of_own hrow
  have hkl : (keysS l).length ≤ 100000 := by rw [keysS_len]; omega
  have hMW : ∀ k, Mine k → k < W.heap.size := fun k hk => Nat.lt_of_lt_of_le (hM k hk) hW.size
  have hMin : ∀ k, (Mine k ∨ k = l₀) → k < W.heap.size := fun k hk => by
    rcases hk with hk | rfl
    · exact hMW k hk
    · exact hl2
  have hVal := values_V (fun k => Mine k ∨ k = l₀) Bs bb v (keysS l) W2 (by omega) hBs2 (fun h => by have := hMin _ h; omega) hBc hI (fun h => ⟨(hbb h).2, fun h' => by have := hMin _ h'; have := (hbb h).1; omega⟩)
  have hS2 : W.heap.size ≤ W2.heap.size := hW2.size
  refine range_V (gf := 69) (lb := #[.pointer (some ⟨Bs, 0, none⟩)]) rfl (enters_of Try.func69 (by kernel_rfl) rfl) hVal (fun k hk => Nat.lt_of_lt_of_le (hMin k hk) hS2) (fun x A B r o o' h h1 h2 _ => ⟨by rw [h.1], h.2⟩) (Below.refl _ _) (fun _ => rfl)
    (fun N pre Z => ∃ xs : List Gx, xs.map (·.k) = pre ∧ J N xs Z ∧ Fr (fun k => Mine k ∨ k = l₀) W2 Z)
    (fun c N pre Z => c = .ret ∧ ∃ xs : List Gx, xs.map (·.k) = pre ∧ Jx N xs Z) ?hI ?hIx ?h0 (fun x => { tmps := #[.func (.yield l₀) #[] #[], .pointer (some ⟨Bm, 0, none⟩), .pointer (some ⟨W.heap.size, 0, none⟩), .int .i64 x, .map (some b), .func (.func 69) #[] #[.pointer (some ⟨Bs, 0, none⟩)], .int .i64 x, undef, undef, undef, undef, undef, undef, undef, undef], defers := [] }) ?assign ?body ?done ?stop
  case hI =>
    rintro N pre A B row ⟨xs, e1, hj, hf⟩ hg hr
    exact ⟨xs, e1, hJ N xs A B row hj hg (fun r hh => ⟨Nat.le_trans hS2 (hr r hh).1, (hr r hh).2⟩), ⟨hg.os.trans hf.os, hg.tape.trans hf.tape, hg.output.trans hf.output, Nat.le_trans hf.size hg.size, fun k hk hs => (hg.block k (Nat.lt_of_lt_of_le hk hf.size) (fun hh => by have := (hr k hh.symm).1; omega)).trans (hf.block k hk hs)⟩⟩
  case hIx =>
    rintro c N pre A B row ⟨e0, xs, e1, hj⟩ hg hr
    exact ⟨e0, xs, e1, hJx N xs A B row hj hg (fun r hh => ⟨Nat.le_trans hS2 (hr r hh).1, (hr r hh).2⟩)⟩
  case h0 => exact fun N => ⟨[], rfl, OwnFrom.grow (hJ N) (h0 N) (grown_of_below hW2), Fr.refl _ _⟩
  case assign =>
    intro l x Z K hK
    gi_wp2
    exact hK
  case done =>
    rintro D' N ys Z hD rfl ⟨xs, e1, hj, _⟩ hK
    gi_wp2
    exact ⟨by simp, .inl ⟨_, _, rfl, run_takeDeferred hK, _, results_none rfl _ _ _, ⟨_, rfl⟩, .inl ⟨N, xs, e1, (hJ N).putObj _ hj (Nat.le_trans hS2 hD) hK rfl⟩⟩⟩
  case stop =>
    rintro D' N c pre Z hD hpre ⟨rfl, xs, e1, hj⟩ hK
    gi_wp2
    exact ⟨by simp, .inl ⟨_, _, rfl, run_takeDeferred hK, _, results_none rfl _ _ _, ⟨_, rfl⟩, .inr ⟨N, xs, by rw [e1]; exact hpre, (hJx N).putObj _ hj (Nat.le_trans hS2 hD) hK rfl⟩⟩⟩
  case body =>
    rintro lr N pre x X X' hN1 hN2 hSp ⟨xs, e1, hj, hf⟩ hgr ⟨rfl, hxm⟩
    have hxok := hks x hxm
    have hne : valsOf l x ≠ [] := fun h => by
      have h1 : x ∈ dk l := (List.mergeSort_perm _ _).mem_iff.1 hxm
      rw [mem_dk, valsOf_nil.1 h] at h1
      cases h1
    gi_wp2
    have hGX : GrpF X' Bm b e D l := hG2.kept hf (fun k h1 h2 h3 => by
      rcases h3 with h3 | rfl
      · exact hm k h1 h2 h3
      · have := hG.lt.2.2; omega)
    have hYX : X'.heap[W.heap.size]? = some (.cells #[.func (.yield l₀) #[] #[]] 58 (0, 0)) := (hf.block _ (by omega) (fun h => by have := hMin _ h; omega)).trans hY2
    obtain ⟨i0, hi0, hz0, hz1, hz2⟩ := info_parts PFn.info3
    have hvl := valsOf_len l x
    refine Reg.region_JI (fun listed a Z => ∃ (b0 b1 b2 b3 b4 b5 b6 b7 r : Bool) (v4 v2 : Value), listed = #[b0, b1, b2, b3, b4, b5, b6, b7] ∧ a = { tmps := #[.func (.yield l₀) #[] #[], .pointer (some ⟨Bm, 0, none⟩), .pointer (some ⟨W.heap.size, 0, none⟩), .int .i64 x, .map (some b), .func (.func 69) #[] #[.pointer (some ⟨Bs, 0, none⟩)], .int .i64 x, bif b0 then .func (.yield l₀) #[] #[] else undef, bif b1 then .int .i64 x else undef, bif b2 then .map (some b) else undef, bif b3 then .int .i64 x else undef, bif b4 then v4 else undef, bif b5 then v2 else undef, bif b6 then .bool r else undef, bif b7 then .bool (!r) else undef], defers := [] } ∧ PI X' Z b l x b0 b2 b4 b5 b6 b7 v4 v2 (fun Z => Fr (fun k => (Mine k ∨ k = l₀) ∨ N ≤ k) X' Z ∧ ((r = true ∧ J N (xs ++ [⟨x, v2⟩]) Z) ∨ (r = false ∧ Jx N (xs ++ [⟨x, v2⟩]) Z)))) (by kernel_rfl) (by kernel_rfl) ?sz ?start ?step ?fin
    case sz => rintro listed a Z ⟨b0, b1, b2, b3, b4, b5, b6, b7, r, v4, v2, rfl, _⟩; rfl
    case start => exact ⟨false, false, false, false, false, false, false, false, false, undef, undef, rfl, rfl, ⟨fun _ => rfl, fun _ => rfl, fun _ => rfl, fun _ => rfl, fun _ => rfl, fun _ => rfl, fun h => (by cases h), fun _ => grown_drew _, fun h => (by cases h), fun h => (by cases h)⟩⟩
    case fin =>
      rintro listed a Z ⟨b0, b1, b2, b3, b4, b5, b6, b7, r, v4, v2, rfl, rfl, H⟩ hall
      obtain rfl : b0 = true := by simpa using hall 0 (by decide)
      obtain rfl : b1 = true := by simpa using hall 1 (by decide)
      obtain rfl : b2 = true := by simpa using hall 2 (by decide)
      obtain rfl : b3 = true := by simpa using hall 3 (by decide)
      obtain rfl : b4 = true := by simpa using hall 4 (by decide)
      obtain rfl : b5 = true := by simpa using hall 5 (by decide)
      obtain rfl : b6 = true := by simpa using hall 6 (by decide)
      obtain rfl : b7 = true := by simpa using hall 7 (by decide)
      obtain ⟨hf', hres⟩ := H.pc rfl
      have hfN : Fr (fun k => Mine k ∨ k = l₀) W2 Z := by
        have h1 := hf.size
        refine ⟨hf'.os.trans hf.os, hf'.tape.trans hf.tape, hf'.output.trans hf.output, Nat.le_trans h1 hf'.size, fun k hk hs => (hf'.block k (by omega) (fun h => ?_)).trans (hf.block k hk hs)⟩
        rcases h with h | h
        · exact hs h
        · omega
      simp only [cond_true]
      rcases hres with ⟨rfl, hj'⟩ | ⟨rfl, hj'⟩
      · gi_wp2
        exact ⟨hf', _, by rw [List.map_append, e1]; rfl, hj', hfN⟩
      · gi_wp2
        exact ⟨hf', rfl, _, by rw [List.map_append, e1]; rfl, hj'⟩
    case step =>
      rintro listed a Z ⟨b0, b1, b2, b3, b4, b5, b6, b7, r, v4, v2, rfl, rfl, H⟩ i hi
      obtain ⟨hlt8, hun, hw⟩ := Reg.ready_spec hi
      have h8 : i = 0 ∨ i = 1 ∨ i = 2 ∨ i = 3 ∨ i = 4 ∨ i = 5 ∨ i = 6 ∨ i = 7 := by
        have : i < 8 := hlt8
        omega
      clear hi hlt8
      rcases h8 with rfl | rfl | rfl | rfl | rfl | rfl | rfl | rfl
      · -- 0
        obtain rfl : b0 = false := by simpa using hun
        have hb6 := H.d0 rfl
        have c0 := blk_c (blk_new hYX (H.pg hb6)) 0
        exact Reg.op_valueI (w1 := Z) rfl rfl (fun _ => trivial) (by go_simp; try rfl) ⟨true, _, _, _, _, _, _, _, r, v4, v2, rfl, rfl, ⟨fun h => (by cases h), H.d2, H.d4, H.d5, H.d7, H.pa, H.pv, H.pg, H.pb, H.pc⟩⟩
      · -- 1
        obtain rfl : b1 = false := by simpa using hun
        exact Reg.op_valueI (w1 := Z) rfl rfl (fun _ => trivial) (by go_simp; try rfl) ⟨_, true, _, _, _, _, _, _, r, v4, v2, rfl, rfl, H⟩
      · -- 2
        obtain rfl : b2 = false := by simpa using hun
        have hb6 := H.d5 (H.d4 (H.d2 rfl))
        have c0 := (World.cell?_of_block (a := ⟨Bm, 0, none⟩) ((H.pg hb6).block Bm (by have := hGX.lt; omega) (by simp))).trans hGX.at_.box
        exact Reg.op_valueI (w1 := Z) rfl rfl (fun _ => trivial) (by go_simp; try rfl) ⟨_, _, true, _, _, _, _, _, r, v4, v2, rfl, rfl, ⟨H.d0, fun h => (by cases h), H.d4, H.d5, H.d7, H.pa, H.pv, H.pg, H.pb, H.pc⟩⟩
      · -- 3
        obtain rfl : b3 = false := by simpa using hun
        exact Reg.op_valueI (w1 := Z) rfl rfl (fun _ => trivial) (by go_simp; try rfl) ⟨_, _, _, true, _, _, _, _, r, v4, v2, rfl, rfl, H⟩
      · -- 4
        obtain rfl : b2 = true := by simpa using hw 2 (by kernel_rfl)
        obtain rfl : b3 = true := by simpa using hw 3 (by kernel_rfl)
        obtain rfl : b4 = false := by simpa using hun
        obtain rfl : b5 = false := H.d4 rfl
        obtain rfl : b6 = false := H.d5 rfl
        obtain rfl : Z = X'.drew := H.pa rfl
        obtain ⟨v1, zs, hrun, hat, hoi, hzl, _⟩ := (groups_grown hGX.at_.own (grown_drew X')).at lawI Try.underlying57 (zeroS _) (by unfold maxLen; omega) (keyOf_int_mk Try.underlying3 hxok)
        have hzs := hGX.at_.gd.found hxok hat hoi
        subst hzs
        exact Reg.op_valueI (w1 := X'.drew) rfl rfl (fun _ => trivial) (by go_simp; try rfl) ⟨_, _, _, _, true, _, _, _, r, v1, v2, rfl, rfl, ⟨H.d0, fun h => (by cases h), fun h => (by cases h), H.d5, H.d7, H.pa, fun _ => hoi, H.pg, H.pb, H.pc⟩⟩
      · -- 5
        obtain rfl : b4 = true := by simpa using hw 4 (by kernel_rfl)
        obtain rfl : b5 = false := by simpa using hun
        obtain rfl : b6 = false := H.d5 rfl
        obtain rfl : Z = X'.drew := H.pa rfl
        have hoi := H.pv rfl
        obtain ⟨g, c, rfl, hcs⟩ := upto_of (W' := X') hoi hne
        refine Reg.op_listI rfl rfl ?_
        refine wpListIn_append_own_at X'.drew rfl (.const (.slice none 0 0)) (.tmp 11) 31 rfl X'.heap.size 3 i0 (.int .i64 0) 1 8 Try.underlying31 hi0 hz0 hz1 hz2 rfl (by decide) (.slice none 0 0) 0 [] rfl (World.ownsRow_nil _ _ _ _) ⟨g, 0, none⟩ (valsOf l x).length c ((valsOf l x).map (Value.int .i64)) rfl (by simp) hcs (ints_oneCell .i64 _) (by unfold maxLen; omega) (by omega) (Nat.le_refl _) ?_
        intro v3 w3 hown' hgrow hnil hloc
        refine Reg.nil_listI ⟨_, _, _, _, _, true, _, _, r, _, v3, rfl, rfl, ⟨H.d0, H.d2, fun h => (by cases h), fun h => (by cases h), H.d7, fun h => (by cases h), H.pv, fun _ => (grown_drew X').trans hgrow, fun _ _ => ⟨by simpa using hown', hoi.2⟩, fun h => (by cases h)⟩⟩
      · -- 6
        obtain rfl : b0 = true := by simpa using hw 0 (by kernel_rfl)
        obtain rfl : b1 = true := by simpa using hw 1 (by kernel_rfl)
        obtain rfl : b5 = true := by simpa using hw 5 (by kernel_rfl)
        obtain rfl : b6 = false := by simpa using hun
        obtain rfl : b7 = false := H.d7 rfl
        obtain ⟨fn, tmps, assign, body, hy, hR⟩ := hY N xs ⟨x, v2⟩ X' Z (by omega) hN2 (by rw [List.map_append, e1]; exact hSp) hj (H.pg rfl) ⟨hxok, H.pb rfl rfl⟩
        refine Reg.op_roundI rfl rfl (fun _ => trivial) rfl (by go_simp; try exact hy) (round_at (hR.mono ?_))
        rintro e' Z' ⟨hf', hres⟩
        have hf2 : Fr (fun k => (Mine k ∨ k = l₀) ∨ N ≤ k) X' Z' := (Fr.of_grown (H.pg rfl) (by simp)).trans hf'
        rcases hres with ⟨rfl, hj'⟩ | ⟨rfl, hj'⟩
        · exact ⟨_, rfl, ⟨_, _, _, _, _, _, true, _, true, v4, v2, rfl, rfl, ⟨fun h => (by cases h), H.d2, fun h => (by have := H.d4 h; cases this), fun h => (by cases h), fun h => (by cases h), fun h => (by cases h), H.pv, fun h => (by cases h), fun _ h => (by cases h), fun _ => ⟨hf2, .inl ⟨rfl, hj'⟩⟩⟩⟩⟩
        · exact ⟨_, rfl, ⟨_, _, _, _, _, _, true, _, false, v4, v2, rfl, rfl, ⟨fun h => (by cases h), H.d2, fun h => (by have := H.d4 h; cases this), fun h => (by cases h), fun h => (by cases h), fun h => (by cases h), H.pv, fun h => (by cases h), fun _ h => (by cases h), fun _ => ⟨hf2, .inr ⟨rfl, hj'⟩⟩⟩⟩⟩
      · -- 7
        obtain rfl : b6 = true := by simpa using hw 6 (by kernel_rfl)
        obtain rfl : b7 = false := by simpa using hun
        exact Reg.op_valueI (w1 := Z) rfl rfl (fun _ => trivial) (by go_simp; try rfl) ⟨_, _, _, _, _, _, _, true, r, v4, v2, rfl, rfl, ⟨H.d0, H.d2, H.d4, H.d5, fun h => (by cases h), H.pa, H.pv, H.pg, H.pb, H.pc⟩⟩
end Go.Proofs.Ytbbjkgpilmcldaa.Seq
