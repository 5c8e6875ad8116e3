/- Proved: rising hands back an iterator over a map's keys, sorted; the iterator over a slice of whole numbers tells them all, or a part if it is stopped; condition: a map of at most 2^40 keys. -/
import Derived.Test.YtbbjkgpilmcldaaGrLay
import Derived.Test.YtbbjkgpilmcldaaGrLaw
import Derived.RangeFuncBox
import Derived.RangeFuncLeaves
import Derived.Shelf.Abstract
import Derived.Shelf.RegionOpen
import Derived.WalkKit
import Derived.OwnWalkIn
import Derived.TacticsInMore
import Derived.LoopNIn
import Derived.LoopIn
namespace Go.Proofs.Ytbbjkgpilmcldaa.Seq
open Go.RowKit Go.Maps Go.Sort Go.Shelf Go.Proofs
attribute [local go_sem] Oper.semAt_some
set_option linter.unusedVariables false
def sorted (ss : List Int) : List Int := ss.mergeSort (fun x y => decide (x ≤ y))
set_option maxHeartbeats 1000000 in
theorem values_in (F : Fence) (n : Nat) (h5 : F.fn 51) (hro : F.round = none) (a : Option Addr) (len cap : Nat) (w : World) :
    CallsIn F n Try.prog 51 #[.slice a len cap] w fun e w' => e = .returned (.func (.func 69) #[] #[.pointer (some ⟨w.heap.size, 0, none⟩)]) ∧ w' = w.alloc (.cells #[.slice a len cap] 31) := by
  refine callsIn_of_wp Try.func51 rfl h5 ?_ hro
  simp only [Try.ntmps51, List.size_toArray, List.length_cons, List.length_nil, Nat.reduceAdd, Nat.reduceSub, Array.replicate_succ, Array.replicate_zero, List.push_toArray, List.append_toArray, List.nil_append, List.cons_append]
  gi_wp2
  go_ret
  exact ⟨rfl, rfl⟩
theorem own_slice' {w : World} {base n : Nat} {e : TypeId} {size : Nat} {v : Value} {xs : List Value} (h : w.ownsRow base e size v n xs) : ∃ A c, v = .slice A n c := by
  obtain ⟨_, h⟩ := h
  rcases h with ⟨rfl, h0⟩ | ⟨g, cap, cur, rfl, _⟩
  · exact ⟨none, 0, by rw [h0]⟩
  · exact ⟨_, _, rfl⟩
set_option maxHeartbeats 1000000 in
theorem rising_calls {H : Type} (b nn : Nat) (D0 : DataW H) (R : Value → Option (DataW H × List MemPlace)) (w : World) (hown : w.ownsMap Try.prog 3 R b nn D0) (hmax : Maps.size D0 ≤ maxLen) (hbytes : Maps.size D0 * 8 ≤ 140737488355328) :
    Calls Try.prog 37 #[.map (some b)] w fun e w' => ∃ (Bs : Nat) (v : Value) (ss : List Int), e = .returned (.func (.func 69) #[] #[.pointer (some ⟨Bs, 0, none⟩)]) ∧ w.heap.size ≤ Bs ∧ Bs < w'.heap.size ∧ w'.cell? ⟨Bs, 0, none⟩ = some v ∧ ss.Perm (intKeys D0) ∧
      w'.ownsRow w.heap.size 3 1 v ss.length ((sorted ss).map encZ) ∧ Below w.heap.size w w' := by
  refine (callsIn_wide (n := 6)).1 ?_
  have hbl := hown.lt
  have hseq : SeqGives Fence.wide 2 Try.prog 72 #[.pointer (some ⟨w.heap.size, 0, none⟩)] encZ (fun ss => ss.Perm (intKeys D0)) (Maps.size D0) (w.alloc (.cells #[.map (some b)] 57)) :=
    AnyZI.keys_gives (ρ := keysA_ren) { keysA with } Fence.wide _ trivial rfl (by omega) w.heap.size b nn D0 _ (by simp) (by simp) (by
      obtain ⟨es, clock, hb, Ft, hs, hD⟩ := hown
      exact ⟨es, clock, (Below.heap_alloc _ _ b hbl).trans hb, Ft, hs, hD⟩)
  have cK : ∀ mb W, CallsIn Fence.wide 5 Try.prog 53 #[.map mb] W fun e w' => e = .returned (.func (.func 72) #[] #[.pointer (some ⟨W.heap.size, 0, none⟩)]) ∧ w' = W.alloc (.cells #[.map mb] 57) := fun mb W => AnyZI.keys_in keysA Fence.wide 5 trivial rfl mb W
  have cS := AnyZI.sorted_in sortedA Fence.wide 5 trivial trivial trivial trivial rfl (by omega) (sortsA _) (enters_of Try.func71 (by kernel_rfl) rfl) 72 #[.pointer (some ⟨w.heap.size, 0, none⟩)] trivial (enters_of Try.func72 (by kernel_rfl) rfl) _ _ hmax hbytes _ hseq
  change CallsIn _ _ Try.prog 52 _ _ _ at cS
  have cV := fun a len cap W => values_in Fence.wide 5 trivial rfl a len cap W
  have hfK : Fence.wide.fn 53 := trivial
  have hfS : Fence.wide.fn 52 := trivial
  have hfV : Fence.wide.fn 51 := trivial
  refine callsIn_of_wp Try.func37 rfl trivial ?_ rfl
  simp only [Try.ntmps37, List.size_toArray, List.length_cons, List.length_nil, Nat.reduceAdd, Nat.reduceSub, Array.replicate_succ, Array.replicate_zero, List.push_toArray, List.append_toArray, List.nil_append, List.cons_append]
  gi_wp2_with (first
    | (gi_at_call 53; refine (cK _ _).mono ?_; rintro e w' ⟨rfl, rfl⟩)
    | (gi_at_call 52; refine cS.mono ?_; rintro e w1 ⟨v, ss, rfl, hS, hrow, hnil, hb⟩; obtain ⟨A1, c1, rfl⟩ := own_slice' hrow)
    | (gi_at_call 51; refine (cV _ _ _ _).mono ?_; rintro e w2 ⟨rfl, rfl⟩))
  go_ret
  have hle : w.heap.size ≤ w1.heap.size := by have := hb.size; simp at this; omega
  exact ⟨w1.heap.size, _, ss, rfl, hle, by simp, (Boxed.new w1 _ _).cell, hS, (ownsRow_base_a hrow (by simp)).alloc _, (((Below.refl _ w).alloc (Nat.le_refl _) _).trans (hb.mono (by simp))).alloc hle _⟩
/-- A slice value that holds whole numbers, in block b; or it is nil and there are none. -/
def IntsAt (W : World) (b : Nat) (v : Value) (zs : List Int) : Prop := (v = .slice none 0 0 ∧ zs = []) ∨ ∃ c, v = .slice (some ⟨b, 0, none⟩) zs.length c ∧ ∀ j, j < zs.length → W.cell? ⟨b, j, none⟩ = some (.int .i64 (zs.getD j 0))
theorem IntsAt.kept {W W' : World} {b : Nat} {v : Value} {zs : List Int} (h : IntsAt W b v zs) (hb : W'.heap[b]? = W.heap[b]?) : IntsAt W' b v zs := by
  rcases h with h | ⟨c, h1, h2⟩
  · exact .inl h
  · exact .inr ⟨c, h1, fun j hj => (World.cell?_of_block (a := ⟨b, j, none⟩) hb).trans (h2 j hj)⟩
theorem ints_of_own {w : World} {base : Nat} {v : Value} {zs : List Int} (h : w.ownsRow base 3 1 v zs.length (zs.map encZ)) : ∃ b, IntsAt w b v zs ∧ (v ≠ .slice none 0 0 → base ≤ b ∧ b < w.heap.size) := by
  rcases h.2 with ⟨rfl, h0⟩ | ⟨g, cap, cur, rfl, hbase, hb, h1, h2, h3, h4⟩
  · exact ⟨0, .inl ⟨rfl, List.eq_nil_of_length_eq_zero h0⟩, fun h => absurd rfl h⟩
  · refine ⟨g, .inr ⟨cap, rfl, fun j hj => ?_⟩, fun _ => ⟨hbase, (Array.getElem?_eq_some_iff.1 hb).1⟩⟩
    have e : cur.toList[j]? = (zs.map encZ)[j]? := by rw [← h4, List.getElem?_take, if_pos (by omega)]
    rw [List.getElem?_map, List.getElem?_eq_getElem hj, Array.getElem?_toList] at e
    rw [cell_of_row w g j cur 3 (0, 0) hb, e, List.getD_eq_getElem?_getD, List.getElem?_eq_getElem hj]
    rfl
set_option maxRecDepth 100000 in
set_option maxHeartbeats 2000000 in
/-- **slices.Values's iterator: all the numbers, in their order; or a part.** -/
theorem values_V (Mine : Nat → Prop) (Bs b : Nat) (v : Value) (zs : List Int) (w : World) (hreach : zs.length * 8 ≤ 140737488351232) (hBs : Bs < w.heap.size) (hmB : ¬ Mine Bs) (hc : w.cell? ⟨Bs, 0, none⟩ = some v) (hI : IntsAt w b v zs) (hmb : v ≠ .slice none 0 0 → b < w.heap.size ∧ ¬ Mine b) :
    SeqV Try.prog 69 #[.pointer (some ⟨Bs, 0, none⟩)] (fun x : Int => #[Value.int .i64 x]) (fun x W0 W1 => W1 = W0 ∧ x ∈ zs) Mine (fun ys => ys = zs) (fun pre => pre <+: zs) w := by
  intro l J Jx W hW hl hl2 hJ hJx hY h0
  obtain ⟨F, hF⟩ : ∃ F : Nat → Prop, F = fun k => (Mine k ∨ k = l) ∨ W.heap.size ≤ k := ⟨_, rfl⟩
  have hFb : ∀ k, k < w.heap.size → ¬ Mine k → ¬ F k := fun k hk hm hf => by
    rw [hF] at hf
    have := hW.size
    rcases hf with (hf | hf) | hf
    · exact hm hf
    · omega
    · omega
  have hcW : W.cell? ⟨Bs, 0, none⟩ = some v := (World.cell?_of_block (a := ⟨Bs, 0, none⟩) (hW.block Bs hBs)).trans hc
  refine (callsIn_wide (n := 6)).1 ?_
  refine callsIn_of_wp Try.func69 rfl trivial ?_ rfl
  simp only [Try.ntmps69, List.size_toArray, List.length_cons, List.length_nil, Nat.reduceAdd, Nat.reduceSub, Array.replicate_succ, Array.replicate_zero, List.push_toArray, List.append_toArray, List.nil_append, List.cons_append]
  rcases hI with ⟨rfl, rfl⟩ | ⟨c, rfl, hcs⟩
  · gi_wp2
    gi_loopw [7] (fun i wr => i = .int .i64 0 ∧ J W.heap.size [] wr) (fun _ _ => 0)
    case atStart => exact ⟨rfl, h0 _⟩
    case round =>
      obtain ⟨rfl, hJs⟩ := hrel
      gi_wp2
      go_end0
      exact ⟨⟨_, rfl⟩, .inl ⟨_, _, rfl, hJs⟩⟩
  · obtain ⟨hb, hmb⟩ := hmb (by simp)
    gi_wp2
    gi_loopw [7] (fun i wr => ∃ k : Nat, k ≤ zs.length ∧ i = .int .i64 k ∧ J W.heap.size (zs.take k) wr ∧ Fr F W wr) (fun i _ => zs.length - (intOf i).toNat)
    case atStart => exact ⟨0, Nat.zero_le _, rfl, by simpa using h0 _, Fr.refl _ _⟩
    case round =>
      obtain ⟨k, hk, rfl, hJs, hf⟩ := hrel
      by_cases hlt : k < zs.length
      · have hcx : wr.cell? ⟨b, k, none⟩ = some (.int .i64 (zs.getD k 0)) := (World.cell?_of_block (a := ⟨b, k, none⟩) ((hf.block b (Nat.lt_of_lt_of_le hb hW.size) (hFb b hb hmb)).trans (hW.block b hb))).trans (hcs k hlt)
        have hm : zs.getD k 0 ∈ zs := by rw [List.getD_eq_getElem?_getD, List.getElem?_eq_getElem hlt]; exact List.getElem_mem hlt
        have hT : zs.take k ++ [zs.getD k 0] = zs.take (k + 1) := by rw [List.take_add_one, List.getD_eq_getElem?_getD, List.getElem?_eq_getElem hlt]; rfl
        obtain ⟨fn, tmps, assign, body, hy, hR⟩ := hY W.heap.size _ (zs.getD k 0) wr wr (Nat.le_refl _) hf.size (by rw [hT]; exact List.take_prefix _ _) hJs (World.grownBy.refl _ _) ⟨rfl, hm⟩
        rw [hT] at hR
        obtain ⟨z, hzk⟩ : ∃ z, zs.getD k 0 = z := ⟨_, rfl⟩
        rw [hzk] at hcx hy
        clear hzk hT hm
        gi_wp2
        refine round_any (hR.mono ?_)
        rintro e W3 ⟨hf3, ⟨rfl, hJ3⟩ | ⟨rfl, hJx3⟩⟩
        · gi_wp2
          go_roundw
          case rel => exact ⟨k + 1, by omega, by simp, hJ3, hf.trans (by rw [hF]; exact hf3)⟩
          case measure => simp [intOf]; omega
        · gi_wp2
          refine bodyPost_ret (results_none rfl _ _ _) rfl ?_
          exact ⟨⟨_, rfl⟩, .inr ⟨_, _, List.take_prefix _ _, hJx3⟩⟩
      · obtain rfl : k = zs.length := by omega
        rw [List.take_length] at hJs
        gi_wp2
        go_end0
        exact ⟨⟨_, rfl⟩, .inl ⟨_, _, rfl, hJs⟩⟩
end Go.Proofs.Ytbbjkgpilmcldaa.Seq
