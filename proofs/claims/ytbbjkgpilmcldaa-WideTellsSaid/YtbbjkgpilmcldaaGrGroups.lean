/- Proved: rows.Groups hands back an iterator over a map that holds each key's values in their order; condition: at most 100000 rows of numbers that fit. -/
import Derived.Test.YtbbjkgpilmcldaaGrPure
import Derived.Test.YtbbjkgpilmcldaaGrReg
import Derived.Maps.GroupsBeside
namespace Go.Proofs.Ytbbjkgpilmcldaa.Seq
open Go.RowKit Go.Maps Go.ChangeShapes
open Go.Proofs.YtbbjkgpilmcldaaW.PrintWords Go.Proofs.YtbbjkgpilmcldaaW.PrintLast Go.Proofs.YtbbjkgpilmcldaaW.PrintMore
set_option linter.unusedVariables false
set_option linter.unusedSimpArgs false
/-- The map behind an iterator, in a box. -/
structure GrpAt (W : World) (Bm b : Nat) (D : DataW Unit) (l : List RowT) : Prop where
  box : W.cell? ⟨Bm, 0, none⟩ = some (.map (some b))
  own : W.ownsGroups Try.prog 3 (b + 2) 3 .i64 b l.length D
  gd : GD D l
theorem zeroS (w : World) : (zeroValue 31).run Try.prog w = .ok (.slice none 0 0) w := by kernel_rfl
theorem lawI : Keyed Try.prog 3 := int_keyed Try.underlying3
theorem cell_keepS {w W : World} {p : Addr} {v : Value} (hb : Below w.heap.size w W) (h : w.cell? p = some v) : W.cell? p = some v := pw_cell_below hb h
/-- What stands in memory while 'm[r.K] = append(m[r.K], r.V)' is carried out, in which order ever. -/
structure PH (w W : World) (R k : Nat) (D : DataW Unit) (lp : List RowT) (x : RowT) (b6 b9 b10 b11 : Bool) (v v' : Value) (g : Nat) : Prop where
  box : W.heap[w.heap.size + 1]? = some (.cells #[.map (some w.heap.size)] 57 (0, 0))
  row : W.heap[R]? = some (.cells #[.int .i64 x.f0, .int .i64 x.f1] 30 (0, 0))
  below : Below w.heap.size w W
  big : w.heap.size + 2 ≤ W.heap.size
  one : b9 = true → b10 = false → W.heap[g]? = some (.cells #[.int .i64 x.f1] 3 (0, 0))
  p0 : b6 = false → W.ownsGroups Try.prog 3 (w.heap.size + 2) 3 .i64 w.heap.size k D
  p1 : b6 = true → b10 = false → ∃ (zs : List Int), D.atKey (.int .i64 x.f0) .nil = rowDatum .i64 v zs ∧ W.ownsInts (w.heap.size + 2) 3 .i64 v zs ∧ zs.length ≤ k ∧ W.groupBack Try.prog 57 3 (w.heap.size + 2) 3 .i64 w.heap.size k D (.int .i64 x.f0) (.int .i64 x.f0) v
  p2 : b10 = true → b11 = false → ∃ (zs : List Int) (Wl : World), D.atKey (.int .i64 x.f0) .nil = rowDatum .i64 v zs ∧ Wl.ownsInts (w.heap.size + 2) 3 .i64 v zs ∧ zs.length ≤ k ∧ Wl.groupBack Try.prog 57 3 (w.heap.size + 2) 3 .i64 w.heap.size k D (.int .i64 x.f0) (.int .i64 x.f0) v ∧ Wl.grownBy W v.ownBlock ∧ W.ownsInts (w.heap.size + 2) 3 .i64 v' (zs ++ [x.f1]) ∧ (v'.ownBlock = v.ownBlock ∨ ∃ q, v'.ownBlock = some q ∧ Wl.heap.size ≤ q)
  p3 : b11 = true → ∃ D', W.ownsGroups Try.prog 3 (w.heap.size + 2) 3 .i64 w.heap.size (k + 1) D' ∧ GD D' (lp ++ [x])
  d6 : b6 = false → b10 = false
  d9 : b9 = false → b10 = false
  d11 : b10 = false → b11 = false
theorem grown_row {w w1 : World} (h : w.grownBy w1 none) (row : Option Nat) : w.grownBy w1 row := ⟨h.os, h.tape, h.output, h.size, fun k hk _ => h.block k hk (by simp)⟩
theorem back_grown {w w1 : World} {base b n : Nat} {D : DataW Unit} {key : Value} {kl : Lit} {v : Value} (h : w.groupBack Try.prog 57 3 base 3 .i64 b n D key kl v) (hg : w.grownBy w1 none) : w1.groupBack Try.prog 57 3 base 3 .i64 b n D key kl v :=
  fun W v' zs' h1 h2 h3 h4 => h W v' zs' ((grown_row hg _).trans h1) h2 h3 (h4.imp_right fun ⟨q, e, hq⟩ => ⟨q, e, Nat.le_trans hg.size hq⟩)
theorem groups_grown {w w1 : World} {base b n : Nat} {D : DataW Unit} (h : w.ownsGroups Try.prog 3 base 3 .i64 b n D) (hg : w.grownBy w1 none) : w1.ownsGroups Try.prog 3 base 3 .i64 b n D :=
  h.kept hg (by simp) (fun es clock _ x _ => by cases x.val.ownBlock <;> simp)
theorem ints_grown {w w1 : World} {base : Nat} {v : Value} {zs : List Int} (h : w.ownsInts base 3 .i64 v zs) (hg : w.grownBy w1 none) : w1.ownsInts base 3 .i64 v zs := h.kept hg (by cases v.ownBlock <;> simp)
theorem blk_new {w w1 : World} {g : Nat} {o : Obj} (h : w.heap[g]? = some o) (hg : w.grownBy w1 none) : w1.heap[g]? = some o := (hg.block g (Array.getElem?_eq_some_iff.1 h).1 (by simp)).trans h
theorem blk_c {w : World} {g : Nat} {t : TypeId} {cs : Array Value} (h : w.heap[g]? = some (.cells cs t (0, 0))) (i : Nat) : w.cell? ⟨g, i, none⟩ = cs[i]? := cell_of_row w g i cs t (0, 0) h
theorem Err_new (w : World) (o : Obj) : (w.alloc o).heap[w.heap.size]? = some o := World.alloc_heap_new w o
section
variable {w W W1 : World} {R k : Nat} {D : DataW Unit} {lp : List RowT} {x : RowT} {b6 b9 b10 b11 : Bool} {v v' : Value} {g : Nat}
/-- New blocks alone. -/
theorem PH.grown (h : PH w W R k D lp x b6 b9 b10 b11 v v' g) (hg : W.grownBy W1 none) : PH w W1 R k D lp x b6 b9 b10 b11 v v' g := by
  refine ⟨blk_new h.box hg, blk_new h.row hg, h.below.trans (Fr.below (S := fun _ => False) (Fr.of_grown hg (by simp)) h.below.size (fun _ hh => hh.elim)), Nat.le_trans h.big hg.size, fun h1 h2 => blk_new (h.one h1 h2) hg, fun h1 => groups_grown (h.p0 h1) hg, fun h1 h2 => ?_, fun h1 h2 => ?_, fun h1 => ?_, h.d6, h.d9, h.d11⟩
  · obtain ⟨zs, a1, a2, a3, a4⟩ := h.p1 h1 h2
    exact ⟨zs, a1, ints_grown a2 hg, a3, back_grown a4 hg⟩
  · obtain ⟨zs, Wl, a1, a2, a3, a4, a5, a6, a7⟩ := h.p2 h1 h2
    exact ⟨zs, Wl, a1, a2, a3, a4, a5.trans (grown_row hg _), ints_grown a6 hg, a7⟩
  · obtain ⟨D', a1, a2⟩ := h.p3 h1
    exact ⟨D', groups_grown a1 hg, a2⟩
end
set_option maxHeartbeats 4000000 in
set_option maxRecDepth 100000 in
theorem groups_calls (A : Option Addr) (c : Nat) (l : List RowT) (w : World) (hC : kRow.C w A l.length l) (hl : l.length ≤ 100000) (hok : ∀ r ∈ l, okRow r) :
    Calls Try.prog 17 #[.slice A l.length c] w fun e w' => ∃ (Bm b : Nat) (D : DataW Unit), e = .returned (.func (.func 36) #[] #[.pointer (some ⟨Bm, 0, none⟩)]) ∧ w.heap.size ≤ b ∧ b < Bm ∧ Bm < w'.heap.size ∧ GrpAt w' Bm b D l ∧ Below w.heap.size w w' := by
  have HC := Aside0.mk hC
  have HOK := Aside0.mk hok
  have hmm := @run_makeMap Try.prog
  obtain ⟨i0, hi, hz0, hz1, hz2⟩ := info_parts PFn.info3
  clear hC hok
  go_enter Try.func17, Try.ntmps17
  go_wp2
  go_loopg [9] (l.length + 1) (fun kq v9 wr => ∃ (k : Nat) (D : DataW Unit), v9 = .int .i64 (k : Int) ∧ k ≤ l.length ∧ l.length - k ≤ kq ∧ Aside0 (wr.heap[w.heap.size + 1]? = some (.cells #[.map (some w.heap.size)] 57 (0, 0)) ∧ wr.ownsGroups Try.prog 3 (w.heap.size + 2) 3 .i64 w.heap.size k D ∧ GD D (l.take k) ∧ Below w.heap.size w wr ∧ w.heap.size + 2 ≤ wr.heap.size))
  case atStart =>
    refine ⟨0, .map [], rfl, by omega, by omega, ⟨?_, ?_, GD.zero, ?_, by simp⟩⟩
    · have := World.alloc_heap_new (w.alloc (.map #[] 0)) (.cells #[.map (some w.heap.size)] 57)
      rwa [World.size_alloc] at this
    · exact ⟨#[], 0, (Below.heap_alloc _ _ w.heap.size (by simp)).trans (MapKept.heap_alloc w _).1, ⟨by simp, MapKept.stamped_empty 0, by simp⟩, Nat.le_refl _, rfl, by omega, by simp, by simp⟩
    · exact ((Below.refl _ w).alloc (Nat.le_refl _) _).alloc (by simp) _
  case round =>
    obtain ⟨k, D, rfl, hk, hkq, K⟩ := hrel
    by_cases hlt : k < l.length
    · have q1 : decide ((k : Int) < (l.length : Int)) = true := decide_eq_true (by omega)
      obtain ⟨ad, e0, g0, g1⟩ := PFn.at_T30 HC.out (k : Int) (by omega) (by omega)
      subst e0
      rw [Int.toNat_natCast] at g0 g1
      obtain ⟨x, hx⟩ : ∃ x, PFn.rd_T30 l (k : Int) = x := ⟨_, rfl⟩
      rw [hx] at g0 g1
      have x0 := cell_keepS K.out.2.2.2.1 g0
      have x1 := cell_keepS K.out.2.2.2.1 g1
      have p0 : (0 : Int) ≤ (k : Int) := by omega
      have p1 : (k : Int) < (l.length : Int) := by omega
      go_wp2
      have hlp : l.take k ++ [x] = l.take (k + 1) := by
        rw [List.take_add_one, List.getElem?_eq_getElem hlt, ← hx]
        unfold PFn.rd_T30
        rw [Int.toNat_natCast, List.getD_eq_getElem?_getD, List.getElem?_eq_getElem hlt]
        rfl
      have hxm : x ∈ l := by
        rw [← hx]
        unfold PFn.rd_T30
        rw [Int.toNat_natCast, List.getD_eq_getElem?_getD, List.getElem?_eq_getElem hlt]
        exact List.getElem_mem hlt
      have hokx := HOK.out x hxm
      have HPH : PH w (wr.alloc (.cells #[.int .i64 x.f0, .int .i64 x.f1] 30)).drew wr.heap.size k D (l.take k) x false false false false undef undef 0 := by
        obtain ⟨k1, k2, k3, k4, k5⟩ := K.out
        have hg : wr.grownBy (wr.alloc (.cells #[.int .i64 x.f0, .int .i64 x.f1] 30)).drew none := by
          have := World.grownBy_alloc wr (.cells #[.int .i64 x.f0, .int .i64 x.f1] 30) none
          exact ⟨this.os, this.tape, this.output, this.size, this.block⟩
        exact ⟨blk_new k1 hg, World.alloc_heap_new wr _, k4.trans (Fr.below (S := fun _ => False) (Fr.of_grown hg (by simp)) k4.size (fun _ hh => hh.elim)), Nat.le_trans k5 hg.size, fun h _ => (by cases h), fun _ => groups_grown k2 hg, fun h _ => (by cases h), fun h _ => (by cases h), fun h => (by cases h), fun _ => rfl, fun _ => rfl, fun _ => rfl⟩
      have hGD := K.out.2.2.1
      have hmD : IsMap D := by
        obtain ⟨es, clock, _, _, _, e, _⟩ := K.out.2.1
        exact ⟨_, e⟩
      refine Reg.region_J (fun listed a W => ∃ (b0 b1 b2 b3 b4 b5 b6 b7 b8 b9 b10 b11 : Bool) (v v' : Value) (g : Nat), listed = #[b0, b1, b2, b3, b4, b5, b6, b7, b8, b9, b10, b11] ∧ a = { tmps := #[.slice (some ad) l.length c, undef, .nilFunc, .pointer (some ⟨w.heap.size + 1, 0, none⟩), undef, .pointer (some ⟨wr.heap.size, 0, none⟩), .map (some w.heap.size), .slice (some ad) l.length c, .int .i64 (l.length : Int), .int .i64 (k : Int), .bool true, .pointer (some (ad.add (k * 2))), .agg #[.int .i64 x.f0, .int .i64 x.f1], bif b0 then .map (some w.heap.size) else u13, bif b1 then .pointer (some ⟨wr.heap.size, 0, none⟩) else u14, bif b2 then .int .i64 x.f0 else u15, bif b3 then .map (some w.heap.size) else u16, bif b4 then .pointer (some ⟨wr.heap.size, 0, none⟩) else u17, bif b5 then .int .i64 x.f0 else u18, bif b6 then v else u19, bif b7 then .pointer (some ⟨wr.heap.size, 1, none⟩) else u20, bif b8 then .int .i64 x.f1 else u21, bif b9 then .slice (some ⟨g, 0, none⟩) 1 1 else u22, bif b10 then v' else u23, u24, undef], defers := [] } ∧ PH w W wr.heap.size k D (l.take k) x b6 b9 b10 b11 v v' g) (by kernel_rfl) (by kernel_rfl) ?sz ?start ?step ?fin
      case sz => rintro listed a W ⟨b0, b1, b2, b3, b4, b5, b6, b7, b8, b9, b10, b11, v, v', g, rfl, _⟩; rfl
      case start => exact ⟨false, false, false, false, false, false, false, false, false, false, false, false, undef, undef, 0, rfl, rfl, HPH⟩
      case fin =>
        rintro listed a W ⟨b0, b1, b2, b3, b4, b5, b6, b7, b8, b9, b10, b11, v, v', g, rfl, rfl, H⟩ hall
        obtain rfl : b0 = true := by simpa using hall 0 (by decide)
        obtain rfl : b1 = true := by simpa using hall 1 (by decide)
        obtain rfl : b2 = true := by simpa using hall 2 (by decide)
        obtain rfl : b3 = true := by simpa using hall 3 (by decide)
        obtain rfl : b4 = true := by simpa using hall 4 (by decide)
        obtain rfl : b5 = true := by simpa using hall 5 (by decide)
        obtain rfl : b6 = true := by simpa using hall 6 (by decide)
        obtain rfl : b7 = true := by simpa using hall 7 (by decide)
        obtain rfl : b8 = true := by simpa using hall 8 (by decide)
        obtain rfl : b9 = true := by simpa using hall 9 (by decide)
        obtain rfl : b10 = true := by simpa using hall 10 (by decide)
        obtain rfl : b11 = true := by simpa using hall 11 (by decide)
        obtain ⟨D', hD', hgd'⟩ := H.p3 rfl
        rw [hlp] at hgd'
        have K2 : Aside0 (W.heap[w.heap.size + 1]? = some (.cells #[.map (some w.heap.size)] 57 (0, 0)) ∧ W.ownsGroups Try.prog 3 (w.heap.size + 2) 3 .i64 w.heap.size (k + 1) D' ∧ GD D' (l.take (k + 1)) ∧ Below w.heap.size w W ∧ w.heap.size + 2 ≤ W.heap.size) := ⟨H.box, hD', hgd', H.below, H.big⟩
        clear H hD' hgd' x0 x1 g0 g1 hx HPH K hGD hall
        simp only [cond_true]
        go_wp2
        go_roundg (gk - 1)
        case measure => omega
        case rel => exact ⟨k + 1, D', by go_num, by omega, by omega, K2⟩
      case step =>
       rintro listed a W ⟨b0, b1, b2, b3, b4, b5, b6, b7, b8, b9, b10, b11, v, v', g, rfl, rfl, H⟩ i hi
       obtain ⟨hlt12, hun, hw⟩ := Reg.ready_spec hi
       have h12 : i = 0 ∨ i = 1 ∨ i = 2 ∨ i = 3 ∨ i = 4 ∨ i = 5 ∨ i = 6 ∨ i = 7 ∨ i = 8 ∨ i = 9 ∨ i = 10 ∨ i = 11 := by
         have : i < 12 := hlt12
         omega
       clear hi hlt12
       rcases h12 with rfl | rfl | rfl | rfl | rfl | rfl | rfl | rfl | rfl | rfl | rfl | rfl
       · -- 0
         obtain rfl : b0 = false := by simpa using hun
         have c0 := blk_c H.box 0
         exact Reg.op_value (w1 := W) rfl rfl (by go_simp; try rfl) ⟨true, _, _, _, _, _, _, _, _, _, _, _, v, v', g, rfl, rfl, H⟩
       · -- 1
         obtain rfl : b1 = false := by simpa using hun
         exact Reg.op_value (w1 := W) rfl rfl (by go_simp; try rfl) ⟨_, true, _, _, _, _, _, _, _, _, _, _, v, v', g, rfl, rfl, H⟩
       · -- 2
         obtain rfl : b1 = true := by simpa using hw 1 (by kernel_rfl)
         obtain rfl : b2 = false := by simpa using hun
         have c0 := blk_c H.row 0
         exact Reg.op_value (w1 := W) rfl rfl (by go_simp; try rfl) ⟨_, _, true, _, _, _, _, _, _, _, _, _, v, v', g, rfl, rfl, H⟩
       · -- 3
         obtain rfl : b3 = false := by simpa using hun
         have c0 := blk_c H.box 0
         exact Reg.op_value (w1 := W) rfl rfl (by go_simp; try rfl) ⟨_, _, _, true, _, _, _, _, _, _, _, _, v, v', g, rfl, rfl, H⟩
       · -- 4
         obtain rfl : b4 = false := by simpa using hun
         exact Reg.op_value (w1 := W) rfl rfl (by go_simp; try rfl) ⟨_, _, _, _, true, _, _, _, _, _, _, _, v, v', g, rfl, rfl, H⟩
       · -- 5
         obtain rfl : b4 = true := by simpa using hw 4 (by kernel_rfl)
         obtain rfl : b5 = false := by simpa using hun
         have c0 := blk_c H.row 0
         exact Reg.op_value (w1 := W) rfl rfl (by go_simp; try rfl) ⟨_, _, _, _, _, true, _, _, _, _, _, _, v, v', g, rfl, rfl, H⟩
       · -- 6
         obtain rfl : b3 = true := by simpa using hw 3 (by kernel_rfl)
         obtain rfl : b5 = true := by simpa using hw 5 (by kernel_rfl)
         obtain rfl : b6 = false := by simpa using hun
         have hd10 : b10 = false := H.d6 rfl
         have hd11 : b11 = false := H.d11 hd10
         obtain ⟨v1, zs, hrun, hat, hoi, hzl, hback⟩ := (H.p0 rfl).at lawI Try.underlying57 (zeroS _) (by unfold maxLen; omega) (keyOf_int_mk Try.underlying3 hokx.1)
         exact Reg.op_value (w1 := W) rfl rfl (by go_simp; try rfl) ⟨_, _, _, _, _, _, true, _, _, _, _, _, v1, v', g, rfl, rfl, ⟨H.box, H.row, H.below, H.big, H.one, fun h => (by cases h), fun _ _ => ⟨zs, hat, hoi, hzl, hback⟩, fun h _ => (by rw [hd10] at h; cases h), fun h => (by rw [hd11] at h; cases h), fun h => (by cases h), H.d9, H.d11⟩⟩
       · -- 7
         obtain rfl : b7 = false := by simpa using hun
         exact Reg.op_value (w1 := W) rfl rfl (by go_simp; try rfl) ⟨_, _, _, _, _, _, _, true, _, _, _, _, v, v', g, rfl, rfl, H⟩
       · -- 8
         obtain rfl : b7 = true := by simpa using hw 7 (by kernel_rfl)
         obtain rfl : b8 = false := by simpa using hun
         have c0 := blk_c H.row 1
         exact Reg.op_value (w1 := W) rfl rfl (by go_simp; try rfl) ⟨_, _, _, _, _, _, _, _, true, _, _, _, v, v', g, rfl, rfl, H⟩
       · -- 9
         obtain rfl : b8 = true := by simpa using hw 8 (by kernel_rfl)
         obtain rfl : b9 = false := by simpa using hun
         have hd10 : b10 = false := H.d9 rfl
         have H2 := H.grown (World.grownBy_alloc W (.cells #[.int .i64 x.f1] 3) none)
         exact Reg.op_value (w1 := W.alloc (.cells #[.int .i64 x.f1] 3)) rfl rfl (by go_simp; try rfl) ⟨_, _, _, _, _, _, _, _, _, true, _, _, v, v', W.heap.size, rfl, rfl, ⟨H2.box, H2.row, H2.below, H2.big, fun _ _ => World.alloc_heap_new W _, H2.p0, H2.p1, H2.p2, H2.p3, H2.d6, fun h => (by cases h), H2.d11⟩⟩
       · -- 10
         obtain rfl : b6 = true := by simpa using hw 6 (by kernel_rfl)
         obtain rfl : b9 = true := by simpa using hw 9 (by kernel_rfl)
         obtain rfl : b10 = false := by simpa using hun
         have hd11 : b11 = false := H.d11 rfl
         subst hd11
         obtain ⟨zs, hat, hoi, hzl, hback⟩ := H.p1 rfl rfl
         have hone := H.one rfl rfl
         refine Reg.op_list rfl rfl ?_
         refine wpList_append_own_at W rfl (.tmp 19) (.tmp 22) 31 rfl (w.heap.size + 2) 3 i0 (.int .i64 0) 1 8 Try.underlying31 hi hz0 hz1 hz2 rfl (by decide) v zs.length (zs.map (Value.int .i64)) rfl hoi.1 ⟨g, 0, none⟩ 1 1 [.int .i64 x.f1] rfl rfl (fun j u hj => ?_) (fun u hu => by rw [List.mem_singleton.1 hu]; rfl) (by unfold maxLen; omega) (by omega) H.big ?_
         · cases j with
           | zero =>
             obtain rfl : Value.int .i64 x.f1 = u := by simpa using hj
             exact blk_c hone 0
           | succ j => simp at hj
         intro v2 w2 hown' hgrow hnil hloc
         refine Reg.nil_list ⟨_, _, _, _, _, _, _, _, _, _, true, _, v, v2, g, rfl, rfl, ⟨?_, ?_, ?_, Nat.le_trans H.big hgrow.size, fun _ h => (by cases h), fun h => (by cases h), fun _ h => (by cases h), fun _ _ => ⟨zs, W, hat, hoi, hzl, hback, hgrow, hoi.appended hown' hokx.2, hloc.imp id (fun h => ⟨_, h, Nat.le_refl _⟩)⟩, fun h => (by cases h), fun h => (by cases h), fun h => (by cases h), fun h => (by cases h)⟩⟩
         · exact (hgrow.block _ (Array.getElem?_eq_some_iff.1 H.box).1 (fun e => by have := (hoi.1.lt _ e.symm).1; omega)).trans H.box
         · refine (hgrow.block _ (Array.getElem?_eq_some_iff.1 H.row).1 (fun e => ?_)).trans H.row
           obtain ⟨cells, hc⟩ := own_typed hoi.1 _ e.symm
           rw [H.row] at hc
           injection hc with hc
           injection hc with _ hc
           exact absurd hc (by decide)
         · exact H.below.grown hgrow H.below.size (fun j hj => by have := (hoi.1.lt j hj).1; omega)
       · -- 11
         obtain rfl : b0 = true := by simpa using hw 0 (by kernel_rfl)
         obtain rfl : b2 = true := by simpa using hw 2 (by kernel_rfl)
         obtain rfl : b10 = true := by simpa using hw 10 (by kernel_rfl)
         obtain rfl : b11 = false := by simpa using hun
         obtain ⟨zs, Wl, hat, hoi, hzl, hback, hgr, hoi2, hloc⟩ := H.p2 rfl rfl
         have hzs := hGD.found hokx.1 hat hoi
         refine Reg.op_list rfl rfl ?_
         refine wpList_mapUpdate_back W rfl (.tmp 13) (.tmp 15) (.tmp 23) 57 rfl hback rfl rfl rfl hgr hoi2 (by simp; omega) hloc ?_
         intro w2 hown2 hgrow2
         refine Reg.nil_list ⟨_, _, _, _, _, _, _, _, _, _, _, true, v, v', g, rfl, rfl, ⟨?_, ?_, ?_, Nat.le_trans H.big hgrow2.size, fun _ h => (by cases h), fun h => (by have := H.d6 h; cases this), fun _ h => (by cases h), fun _ h => (by cases h), fun _ => ⟨_, hown2, ?_⟩, H.d6, H.d9, fun h => (by cases h)⟩⟩
         · exact (hgrow2.block _ (Array.getElem?_eq_some_iff.1 H.box).1 (fun e => by have := Option.some.inj e; omega)).trans H.box
         · exact (hgrow2.block _ (Array.getElem?_eq_some_iff.1 H.row).1 (fun e => by have := Option.some.inj e; have := K.out.2.2.2.2; omega)).trans H.row
         · exact H.below.grown hgrow2 H.below.size (fun j hj => by cases hj; exact Nat.le_refl _)
         · show GD (D.put (.int .i64 x.f0) (rowDatum .i64 v' (zs ++ [x.f1]))) _
           rw [hoi2.datum_pos (by simp), hzs]
           exact hGD.step hmD x hokx.1
    · obtain rfl : k = l.length := by omega
      have q1 : decide ((l.length : Int) < (l.length : Int)) = false := decide_eq_false (by omega)
      go_wp2
      go_ret
      obtain ⟨k1, k2, k3, k4, k5⟩ := K.out
      rw [List.take_length] at k3
      exact ⟨w.heap.size + 1, w.heap.size, D, rfl, Nat.le_refl _, Nat.lt_succ_self _, by omega, ⟨blk_c k1 0, k2, k3⟩, k4⟩
end Go.Proofs.Ytbbjkgpilmcldaa.Seq
