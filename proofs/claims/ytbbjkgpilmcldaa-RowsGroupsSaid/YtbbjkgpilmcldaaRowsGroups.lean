/- Proved: what the law RowsGroups hands back; condition: rows of numbers that fit. -/
import Derived.Test.YtbbjkgpilmcldaaGrpW
import Derived.Test.YtbbjkgpilmcldaaPRgx1
import Derived.Test.YtbbjkgpilmcldaaRegVal
namespace Go.Proofs.Ytbbjkgpilmcldaa.Seq
open Go.RowKit Go.Maps Go.ChangeShapes Go.Shelf
open Go.Proofs.YtbbjkgpilmcldaaW.PrintWords Go.Proofs.YtbbjkgpilmcldaaW.PrintLast Go.Proofs.YtbbjkgpilmcldaaW.PrintMore
attribute [local go_sem] Oper.semAt_some store_func
set_option linter.unusedVariables false
set_option linter.unusedSimpArgs false
theorem few2_f (l : List RowT) (m : Int) (h0 : 0 ≤ m) (hm : m ≤ 1000000) : PRg.tributarylaw2_few.f l m = some (l.take m.toNat) := by
  unfold PRg.tributarylaw2_few.f
  have e : (mn (l.length : Int) m).toNat = (l.take m.toNat).length := by
    unfold mn; rw [List.length_take]; split <;> omega
  have e1 : 0 ≤ mn (l.length : Int) m := by unfold mn; split <;> omega
  have e2 : mn (l.length : Int) m ≤ (l.length : Int) := by unfold mn; split <;> omega
  have e4 : l.take (mn (l.length : Int) m).toNat = l.take m.toNat := by
    rw [List.take_eq_take_iff, e, List.length_take]; omega
  have e5 : (l.take m.toNat).length ≤ 1000000 := by rw [List.length_take]; omega
  have e6 : mn (l.length : Int) m ≤ ((l.take m.toNat).length + 2 : Nat) := by omega
  rw [if_pos e1, if_pos e2, e4]
  simp only [Option.bind_some, List.nil_append, List.length_nil, List.length_cons, List.length_append]
  rw [if_pos (by omega), if_pos (by omega), if_pos (by omega)]
  rw [e, List.take_left]
theorem told2_f : PRg.tributarylaw2_told.f 2 = some true := by decide +kernel
theorem and31 (a : Int) : ∃ s : Nat, Go.bits .and .i64 a 31 = (s : Int) ∧ s ≤ 31 := by
  have h127 : (BitVec.ofInt 64 31).toNat = 2 ^ 5 - 1 := by decide
  have key : (BitVec.ofInt 64 a &&& BitVec.ofInt 64 31).toNat = (a % ((2 ^ 64 : Nat) : Int)).toNat % 2 ^ 5 := by
    rw [BitVec.toNat_and, BitVec.toNat_ofInt, h127, Nat.and_two_pow_sub_one_eq_mod]
  have e : Go.bits .and .i64 a 31 = IntKind.i64.wrap ((BitVec.ofInt 64 a &&& BitVec.ofInt 64 31).toNat : Nat) := rfl
  rw [e, key, IntKind.wrap_i64]
  have hl := Nat.mod_lt (a % ((2 ^ 64 : Nat) : Int)).toNat (show 0 < 2 ^ 5 by decide)
  exact ⟨(a % ((2 ^ 64 : Nat) : Int)).toNat % 2 ^ 5, by omega, by omega⟩
theorem results_cellB {fn : Func} {p : Tmp} {ty : TypeId} (h : fn.results = #[.cell p ty]) (tmps : Array Value) (P : Program) (w : World) (g : Nat) (v : Value) (hp : tmps.getD p undef = .pointer (some ⟨g, 0, none⟩)) (hu : P.underlying ty = some .bool) (hc : w.cell? ⟨g, 0, none⟩ = some v) : (results fn tmps).run P w = .ok v w := by
  simp only [results, h]
  rw [Array.getD_eq_getD_getElem?] at hp
  simp [Sem.run_bind, Result.andThen, hp, loadVar, isAgg, run_underlying hu, hc, go_sem]
theorem leavesB {F : Fence} {n : Nat} {P : Program} {fn : Func} {tmps : Array Value} {t : Tmp} {ty : TypeId} {R : Ending → World → Prop} {w We : World} {D1 D2 Br : Nat} {T : TypeId} {v : Value} (hres : fn.results = #[.cell t ty]) (hv : tmps.getD t undef = .pointer (some ⟨Br, 0, none⟩)) (hu : P.underlying ty = some .bool)
    (hc : We.heap[Br]? = some (.cells #[v] T (0, 0))) (h2 : We.heap[D2]? = some (.deferred (some []))) (h1 : We.heap[D1]? = some (.deferred (some []))) (hne : D1 ≠ D2) (hb1 : Br ≠ D1) (hb2 : Br ≠ D2) (hl1 : w.heap.size ≤ D1) (hl2 : w.heap.size ≤ D2) (hb : Below w.heap.size w We)
    (hRt : ∀ W', Below w.heap.size w W' → R (.returned v) W') :
    LeavesInM F n P fn tmps R [{ target := .collected D2, args := #[] }, { target := .collected D1, args := #[] }] .returning We := by
  have h1' : (We.putObj D2 (.deferred none)).heap[D1]? = some (.deferred (some [])) := (World.putObj_heap_other hne).trans h1
  refine ⟨by simp, .inl ⟨D2, _, rfl, run_takeDeferred h2, by simp, .inl ⟨D1, _, rfl, run_takeDeferred h1', v, ?_, hRt _ ?_⟩⟩⟩
  · exact results_cellB hres tmps P _ Br v hv hu (blk_c ((World.putObj_heap_other hb1).trans ((World.putObj_heap_other hb2).trans hc)) 0)
  · have e : ∀ (X : World) (D : Nat), w.heap.size ≤ D → Below w.heap.size w X → Below w.heap.size w (X.putObj D (.deferred none)) := fun X D hD hX => hX.grown (grownBy_putObj' X D _) hX.size (fun j hj => by cases hj; exact hD)
    exact e _ _ hl1 (e _ _ hl2 hb)
theorem GAx.kept {W W' : World} {base : Nat} {v : Value} {gs : List GrpP} {es : List (Int × Value)} {S : Nat → Prop} (h : GAx W base v gs es) (hf : Fr S W W') (hS : ∀ k, base ≤ k → k < W.heap.size → ¬ S k) : GAx W' base v gs es :=
  ⟨h.keys, own_move h.own (fun k hk => hf.block k (h.own.lt k hk).2 (hS k (h.own.lt k hk).1 (h.own.lt k hk).2)), fun p hp => ints_move (h.inner p hp) (fun b hbk => hf.block b ((h.inner p hp).1.lt b hbk).2 (hS b ((h.inner p hp).1.lt b hbk).1 ((h.inner p hp).1.lt b hbk).2)), h.apart⟩
theorem run_equalIn_func {P : Program} {ps rs : Array TypeId} {b : Bool} (w : World) (d : Nat) (t : TypeId) (f : Fn) (x y : Array Value) (h : P.underlying t = some (.func ps rs b)) : (Op.equalIn (d + 1) t (.func f x y) .nilFunc).run P w = .ok false w := by
  simp [Op.equalIn, run_underlying h]
theorem run_equal_func {P : Program} {ps rs : Array TypeId} {b : Bool} (w : World) (t : TypeId) (f : Fn) (x y : Array Value) (h : P.underlying t = some (.func ps rs b)) : (Op.equal t (.func f x y) .nilFunc).run P w = .ok false w := run_equalIn_func w 9999 t f x y h
theorem run_eql_func {P : Program} {ps rs : Array TypeId} {b : Bool} (t : TypeId) (f : Fn) (x y : Array Value) (h : P.underlying t = some (.func ps rs b)) (w : World) : (binOp .eql t (.func f x y) .nilFunc).run P w = .ok (.bool false) w := by
  simp only [binOp]
  simp [run_equal_func w t f x y h]
theorem range_mid {F : Fence} {n id : Nat} {P : Program} {c : Code} {K : Act → World → Prop} {Q : Exit → Act → World → Prop} {a : Act} {w : World} (Mid : Nat → World → Prop)
    (h : c.wpIn F n P (fun e a' W' => (e = .normal ∨ e = .exit id) ∧ ∃ D, a' = { a with defers := { target := .collected D, args := #[] } :: a.defers } ∧ Mid D W') a w)
    (hK : ∀ D W', Mid D W' → K { a with defers := { target := .collected D, args := #[] } :: a.defers } W') : c.wpIn F n P (Exit.inBlock id (Exit.then K Q)) a w := by
  refine wpIn_mono h ?_
  rintro e a' W' ⟨h1, D, rfl, h2⟩
  rcases h1 with rfl | rfl
  · exact hK D W' h2
  · show (if id = id then _ else _ : Prop)
    rw [if_pos rfl]
    exact hK D W' h2
set_option maxHeartbeats 8000000 in
set_option maxRecDepth 100000 in
theorem rg_law (A0 : Option Addr) (c0 : Nat) (l0 : List RowT) (a1 : Int) (w : World) (hC : kRow.C w A0 l0.length l0) (hc0 : l0.length ≤ c0) (hl : l0.length ≤ 9223372036854775807) (hok : ∀ r ∈ l0, okRow r) :
    Calls Try.prog 3 #[.slice A0 l0.length c0, .int .i64 a1] w fun e w' => e = .returned (.bool true) ∧ Below w.heap.size w w' := by
  obtain ⟨s, hs, hs31⟩ := and31 a1
  obtain ⟨T, hT⟩ : ∃ T, l0.take 100 = T := ⟨_, rfl⟩
  have hTl : T.length ≤ 100 := by rw [← hT, List.length_take]; omega
  have HOK : Aside0 (∀ r ∈ T, okRow r) := ⟨fun r hr => hok r (by rw [← hT] at hr; exact List.mem_of_mem_take hr)⟩
  have hfew : PRg.tributarylaw2_few.f l0 100 = some T := by rw [few2_f l0 100 (by omega) (by omega), ← hT]; rfl
  have htF : Fence.wide.fn 15 := trivial
  have htG : Fence.wide.fn 16 := trivial
  have htR : Fence.wide.fn 17 := trivial
  have htT : Fence.wide.fn 18 := trivial
  obtain ⟨Bs, hBs⟩ : ∃ Bs, w.heap.size = Bs := ⟨_, rfl⟩
  obtain ⟨W0, hW0⟩ : ∃ W0, (w.alloc (.cells #[.int .i64 a1] 3)).alloc (.cells #[.bool false] 4) = W0 := ⟨_, rfl⟩
  have hb0 : Below w.heap.size w W0 := by rw [← hW0]; exact ((Below.refl _ w).alloc (Nat.le_refl _) _).alloc (by simp) _
  have hs0 : W0.heap.size = Bs + 2 := by rw [← hW0, ← hBs]; simp
  have hr0 : W0.heap[Bs + 1]? = some (.cells #[.bool false] 4 (0, 0)) := by
    rw [← hW0, ← hBs]
    have := World.alloc_heap_new (w.alloc (.cells #[.int .i64 a1] 3)) (.cells #[.bool false] 4)
    rwa [World.size_alloc] at this
  have hst0 : W0.heap[Bs]? = some (.cells #[.int .i64 a1] 3 (0, 0)) := by
    rw [← hW0, ← hBs]
    exact (Below.heap_alloc _ _ _ (by simp)).trans (World.alloc_heap_new w _)
  have HF := Aside0.mk (PRg.tributarylaw2_few.calls A0 c0 l0 100 T W0 (Kd.C_below hC hb0) hc0 hfew)
  clear hfew hC hok hT
  refine (callsIn_wide (n := 6)).1 ?_
  refine callsIn_of_wp_marks Try.func3 rfl trivial ?_ rfl
  simp only [Try.ntmps3, List.size_toArray, List.length_cons, List.length_nil, Nat.reduceAdd, Nat.reduceSub, Array.replicate_succ, Array.replicate_zero, List.push_toArray, List.append_toArray, List.nil_append, List.cons_append]
  gi_wp2_with (first
    | (gi_at_call 15; refine (callsIn_wide.2 HF.out).mono ?_; rintro e' W1 ⟨v5, rfl, hR5, hb1⟩))
  obtain ⟨A5, c5, rfl⟩ := Kd.R_slice hR5
  have hs1 : Bs + 2 ≤ W1.heap.size := by rw [← hs0]; exact hb1.size
  have HC5 := Aside0.mk (Kd.R_reads' hR5).2.2
  have HO5 : Aside0 (∃ inner, W1.ownsRow (Bs + 2) 30 2 (.slice A5 T.length c5) T.length inner) := ⟨by rw [← hs0]; exact Kd.R_own hR5⟩
  have HG := Aside0.mk (grp_calls A5 c5 T W1 HC5.out (by omega) HOK.out)
  have HB1 := Aside0.mk (hb0.trans (hb1.mono hb0.size))
  have HR1 := Aside0.mk ((hb1.block _ (by omega)).trans hr0)
  have HS1 := Aside0.mk ((hb1.block _ (by omega)).trans hst0)
  clear hR5 hb1 hr0 hst0 hb0 HF
  gi_wp2_with (first
    | (gi_at_call 16; refine (callsIn_wide.2 HG.out).mono ?_; rintro e' W2 ⟨v6, es, rfl, hg2, hb2⟩; obtain ⟨A6, c6, rfl⟩ := own_slice' hg2.own))
  obtain ⟨B1, hB1⟩ : ∃ B1, W1.heap.size = B1 := ⟨_, rfl⟩
  obtain ⟨B2, hB2⟩ : ∃ B2, W2.heap.size = B2 := ⟨_, rfl⟩
  obtain ⟨gs, hgs⟩ : ∃ gs, groupsOf T = gs := ⟨_, rfl⟩
  rw [hgs] at hg2
  obtain ⟨W3, hW3⟩ : ∃ W3, W2.alloc (.cells #[.slice A6 gs.length c6] 24) = W3 := ⟨_, rfl⟩
  have hb3 : Below W2.heap.size W2 W3 := by rw [← hW3]; exact (Below.refl _ _).alloc (Nat.le_refl _) _
  have hs3 : W3.heap.size = B2 + 1 := by rw [← hW3, ← hB2]; simp
  have hw3 : W3.heap[B2]? = some (.cells #[.slice A6 gs.length c6] 24 (0, 0)) := by rw [← hW3, ← hB2]; exact World.alloc_heap_new W2 _
  have hb13 : Below W1.heap.size W1 W3 := hb2.trans (hb3.mono hb2.size)
  have hB12 : B1 ≤ B2 := by rw [← hB1, ← hB2]; exact hb2.size
  have HRG := Aside0.mk (groups_calls A5 c5 T W3 (Kd.C_below HC5.out hb13) (by omega) HOK.out)
  have HG3 := Aside0.mk (hg2.below hb3)
  have HB13 := Aside0.mk hb13
  have HW3 := Aside0.mk hw3
  clear hg2 hb3 hb2 hb13 hw3 HG
  rw [hgs]
  gi_wp2_with (first
    | (gi_at_call 17; rw [hW3]; refine (callsIn_wide.2 HRG.out).mono ?_; rintro e' W4 ⟨Bm, b, D, rfl, hb0', hbB, hBm, hG, hb4⟩))
  rw [hs3] at hb0'
  have hs4 : B2 + 1 ≤ W4.heap.size := by rw [← hs3]; exact hb4.size
  have hs1' := hs1
  rw [hB1] at hs1'
  have HR4 := Aside0.mk ((hb4.block _ (by omega)).trans ((HB13.out.block _ (by omega)).trans HR1.out))
  have HS4 := Aside0.mk ((hb4.block _ (by omega)).trans ((HB13.out.block _ (by omega)).trans HS1.out))
  have HW4 := Aside0.mk ((hb4.block _ (by omega)).trans HW3.out)
  have HG4 := Aside0.mk (HG3.out.below hb4)
  have HB4 := Aside0.mk (HB1.out.trans ((HB13.out.trans (hb4.mono HB13.out.size)).mono HB1.out.size))
  have hGrp := GrpF.new hG hbB hBm
  have HO4 : Aside0 (∃ inner, W4.ownsRow (Bs + 2) 30 2 (.slice A5 T.length c5) T.length inner ∧ ∀ g, (Value.slice A5 T.length c5).ownBlock = some g → g < B1) := ⟨by
    obtain ⟨inner, ho⟩ := HO5.out
    refine ⟨inner, own_move ho (fun k hk => ((hb4.block _ ?_).trans (HB13.out.block _ (ho.lt k hk).2))), fun g hg => by rw [← hB1]; exact (ho.lt g hg).2⟩
    have := (ho.lt k hk).2
    omega⟩
  have HGrp := Aside0.mk hGrp
  clear hb4 hG HR1 HS1 HW3 HG3 HB1 HB13 HO5 HC5 HRG hGrp
  gi_wp2_with fail
  gi_loopg [8] (T.length + 1) (fun kq v8 wr => ∃ (i : Nat), v8 = .int .i64 (i : Int) ∧ i ≤ T.length ∧ T.length - i ≤ kq ∧ Aside0 (∃ inner, wr.ownsRow (Bs + 2) 30 2 (.slice A5 T.length c5) T.length inner ∧ Fr (fun k => (Value.slice A5 T.length c5).ownBlock = some k) W4 wr))
  case atStart =>
    obtain ⟨inner, ho, _⟩ := HO4.out
    exact ⟨0, rfl, by omega, by omega, ⟨inner, ho, Fr.refl _ _⟩⟩
  case round =>
    obtain ⟨i, rfl, hi, hiq, K⟩ := hrel
    by_cases hil : i < T.length
    · have q1 : decide ((i : Int) < (T.length : Int)) = true := decide_eq_true (by omega)
      obtain ⟨inner, ho, hf⟩ := K.out
      obtain ⟨g, e1⟩ : ∃ g, A5 = some ⟨g, 0, none⟩ := by
        rcases ho.2 with ⟨_, h0⟩ | ⟨g, cap, cur, e, _⟩
        · omega
        · injection e with e _ _
          exact ⟨g, e⟩
      subst e1
      have hg : (Value.slice (some ⟨g, 0, none⟩) T.length c5).ownBlock = some g := by simp [Value.ownBlock]
      have hlen : inner.length = T.length * 2 := ho.1
      have x0 : (wr.cell? ⟨g, i * 2, none⟩).isSome = true := by
        have := ho.cells hg (i * 2) _ (List.getElem?_eq_getElem (by omega))
        rw [add_plain] at this
        rw [this]; rfl
      have x1 : (wr.cell? ⟨g, i * 2 + 1, none⟩).isSome = true := by
        have := ho.cells hg (i * 2 + 1) _ (List.getElem?_eq_getElem (by omega))
        rw [add_plain] at this
        rw [this]; rfl
      obtain ⟨y0, hy0⟩ := Option.isSome_iff_exists.1 x0
      obtain ⟨y1, hy1⟩ := Option.isSome_iff_exists.1 x1
      obtain ⟨cs, hcs⟩ := own_typed ho g hg
      have f0 : wr.frozen? ⟨g, i * 2, none⟩ = false := blk_frozen hcs _
      have f1 : wr.frozen? ⟨g, i * 2 + 1, none⟩ = false := blk_frozen hcs _
      have K2 : Aside0 (∃ inner, ((wr.setCell ⟨g, i * 2, none⟩ (.int .i64 5)).setCell ⟨g, i * 2 + 1, none⟩ (.int .i64 0)).ownsRow (Bs + 2) 30 2 (.slice (some ⟨g, 0, none⟩) T.length c5) T.length inner ∧ Fr (fun k => (Value.slice (some ⟨g, 0, none⟩) T.length c5).ownBlock = some k) W4 ((wr.setCell ⟨g, i * 2, none⟩ (.int .i64 5)).setCell ⟨g, i * 2 + 1, none⟩ (.int .i64 0))) :=
        ⟨_, own_set (own_set ho hg (i * 2) (by omega) _) hg (i * 2 + 1) (by rw [List.length_set]; omega) _, (hf.set hg _).set hg _⟩
      have p0 : (0 : Int) ≤ (i : Int) := by omega
      have p1 : (i : Int) < (T.length : Int) := by omega
      clear ho hf K hcs x0 x1
      gi_wp2
      gi_roundg (gk - 1)
      case measure => omega
      case rel => exact ⟨i + 1, (by first | rfl | go_num), by omega, by omega, K2⟩
    · obtain rfl : i = T.length := by omega
      have q1 : decide ((T.length : Int) < (T.length : Int)) = false := decide_eq_false (by omega)
      obtain ⟨inner, ho, hf⟩ := K.out
      have hnil := run_eql_func (P := Try.prog) 27 (.func 36) #[] #[.pointer (some ⟨Bm, 0, none⟩)] Try.underlying27 wr
      obtain ⟨Bn, hBn⟩ : ∃ Bn, wr.heap.size = Bn := ⟨_, rfl⟩
      obtain ⟨B4, hB4⟩ : ∃ B4, W4.heap.size = B4 := ⟨_, rfl⟩
      obtain ⟨W5, hW5⟩ : ∃ W5, wr.alloc (.cells #[.int .i64 0] 3) = W5 := ⟨_, rfl⟩
      have hb5 : Below wr.heap.size wr W5 := by rw [← hW5]; exact (Below.refl _ _).alloc (Nat.le_refl _) _
      have hs5 : W5.heap.size = Bn + 1 := by rw [← hW5, ← hBn]; simp
      have hBn4 : B4 ≤ Bn := by rw [← hBn, ← hB4]; exact hf.size
      rw [hB4] at hs4 hBm
      have hown : ∀ k, (Value.slice A5 T.length c5).ownBlock = some k → Bs + 2 ≤ k ∧ k < B1 := fun k hk => by
        obtain ⟨_, _, h2⟩ := HO4.out
        exact ⟨(ho.lt k hk).1, h2 k hk⟩
      have hfo : Fr (fun k => Bs + 2 ≤ k ∧ k < B1) W4 W5 := (hf.mono hown).trans (Fr.of_below hb5)
      have HN5 := Aside0.mk (show W5.heap[Bn]? = some (.cells #[.int .i64 0] 3 (0, 0)) by rw [← hW5, ← hBn]; exact World.alloc_heap_new wr _)
      have HR5 := Aside0.mk ((hfo.block _ (by omega) (by omega)).trans HR4.out)
      have HS5 := Aside0.mk ((hfo.block _ (by omega) (by omega)).trans HS4.out)
      have HW5 := Aside0.mk ((hfo.block _ (by omega) (by omega)).trans HW4.out)
      have HFO := Aside0.mk hfo
      have FR4 : Aside0 (∀ W, Fr (fun k => k = Bn) W5 W → Fr (fun k => Bs + 2 ≤ k ∧ k < B1) W4 W) := ⟨fun W hW => Fr.old (N := B4) ((hfo.mono (fun _ h => .inl h)).trans (hW.mono (fun k h => .inr (by omega)))) (by omega)⟩
      have HB5 := Aside0.mk (HB4.out.trans (hfo.below (by have := HB4.out.size; omega) (fun k h => by omega)))
      have hGrp5 := HGrp.out.kept hfo (fun k h1 h2 => by omega)
      rw [hB4] at hGrp5
      clear K ho hf hb5 HR4 HS4 HW4 HB4 HO4 HGrp hfo
      have EBn := Aside0.mk hBn
      have EW5 := Aside0.mk hW5
      clear hBn hW5
      gi_wp2
      rw [EBn.out, EW5.out]
      have hseq := groups_V (fun k => k = Bn) Bm b B4 D T W5 hGrp5 (by omega) HOK.out (fun k e => by omega) (fun k h1 h2 e => by omega)
      have HGrp5 := Aside0.mk hGrp5
      clear hGrp5
      have hgk : gs.map (·.1) = keysS T := by rw [← hgs]; exact groups_keys T
      have HGL : Aside0 (gs.length = (keysS T).length) := ⟨by rw [← hgk, List.length_map]⟩
      clear hgk
      refine range_mid (fun D W => Bn + 1 ≤ D ∧ W.heap[D]? = some (.deferred (some [])) ∧ Fr (fun k => k = Bn) W5 W ∧ W.heap[Bn]? = some (.cells #[.int .i64 ((min s gs.length : Nat) : Int)] 3 (0, 0))) ?range ?tail
      case range =>
        refine range_V (gf := 36) (lb := #[.pointer (some ⟨Bm, 0, none⟩)]) rfl (enters_of Try.func36 (by kernel_rfl) rfl) hseq (fun k e => by omega) (fun x _ _ r o o' h h0 h1 ho => RdG.put h h0 h1 ho) (Below.refl _ _) (fun _ => rfl)
          (fun N pre W => Fr (fun k => k = Bn) W5 W ∧ pre.length ≤ s ∧ W.heap[Bn]? = some (.cells #[.int .i64 (pre.length : Int)] 3 (0, 0)))
          (fun c N pre W => c = .exit 2 ∧ Fr (fun k => k = Bn) W5 W ∧ s ≤ gs.length ∧ W.heap[Bn]? = some (.cells #[.int .i64 (s : Int)] 3 (0, 0))) ?hI ?hIx ?h0 ?a1 ?assign ?body ?done ?stop
        case hI =>
          rintro N pre X X' row ⟨h1, h2, h3⟩ hg hr
          exact ⟨h1.row hg (fun r e => (hr r e).1), h2, (hg.block _ (Array.getElem?_eq_some_iff.1 h3).1 (fun e => by have := (hr Bn e.symm).1; omega)).trans h3⟩
        case hIx =>
          rintro c N pre X X' row ⟨h0, h1, h2, h3⟩ hg hr
          exact ⟨h0, h1.row hg (fun r e => (hr r e).1), h2, (hg.block _ (Array.getElem?_eq_some_iff.1 h3).1 (fun e => by have := (hr Bn e.symm).1; omega)).trans h3⟩
        case h0 => exact fun N => ⟨Fr.refl _ _, Nat.zero_le _, HN5.out⟩
        case assign =>
          intro lr x Z Kc hK
          gi_wp2
          exact hK
        case done =>
          rintro D' N xs Z hD hxs ⟨hfZ, hle, hbn⟩ hKD
          refine ⟨.inl rfl, D', rfl, by omega, hKD, hfZ, ?_⟩
          have e : xs.length = gs.length := by rw [HGL.out, ← show xs.map (·.k) = keysS T from hxs, List.length_map]
          rw [Nat.min_eq_right (by omega), ← e]
          exact hbn
        case stop =>
          rintro D' N c pre Z hD hpre ⟨rfl, hfZ, hle, hbn⟩ hKD
          have hKD' := hKD
          rw [← Nat.min_eq_left hle] at hbn
          gi_wp2
          omega
        case body =>
          rintro lr N pre x X X' hN1 hN2 hSp ⟨hfX, hle, hbn⟩ hgr ⟨hk, hx⟩
          obtain ⟨p, hp⟩ : ∃ p, pre.length = p := ⟨_, rfl⟩
          rw [hp] at hle hbn
          have FX : Fr (fun k => k = Bn) W5 X' := hfX.trans (Fr.of_grown hgr (by simp))
          obtain ⟨hpg, hkey⟩ : ∃ h : p < gs.length, gs[p] = (x.k, valsOf T x.k) := by
            have h1 : (keysS T)[p]? = some x.k := by
              obtain ⟨t, ht⟩ := hSp
              rw [← ht, List.map_append, List.append_assoc, List.getElem?_append_right (by rw [List.length_map]; omega), List.length_map, hp, Nat.sub_self]
              rfl
            have h2 := (List.getElem?_eq_some_iff.1 h1).1
            refine ⟨by have := HGL.out; omega, ?_⟩
            have h3 : gs[p]? = some (x.k, valsOf T x.k) := by
              rw [← hgs]
              unfold groupsOf
              rw [List.getElem?_map, h1]; rfl
            exact (List.getElem?_eq_some_iff.1 h3).2
          have G := HG4.out.kept (FR4.out X' FX) (fun k h1 h2 => by omega)
          have hel := G.len
          have hszX := hfX.size
          have hgz := hgr.size
          obtain ⟨g6, e6, xk⟩ := G.key p hpg
          subst e6
          have xv : X'.cell? ⟨g6, p * 2 + 1, none⟩ = some es[p].2 := by
            have := G.own.cells (g := g6) (by simp [Value.ownBlock]) _ _ (gcells_get es p es[p] (List.getElem?_eq_getElem (by omega))).2
            rwa [add_plain] at this
          obtain ⟨A7, c7, e7⟩ := own_slice' (G.at_ p (by omega) hpg).1.1
          rw [hkey] at xk e7
          obtain ⟨vs, hvs⟩ : ∃ vs, valsOf T x.k = vs := ⟨_, rfl⟩
          have hvl : vs.length ≤ 100 := by rw [← hvs]; have := valsOf_len T x.k; omega
          rw [hvs] at e7 hx
          have e7 : es[p].2 = .slice A7 vs.length c7 := e7
          rw [e7] at xv
          obtain ⟨xkk, xvv⟩ := x
          obtain ⟨Av, cv, exv⟩ := own_slice' hx.1
          have exv : xvv = .slice Av vs.length cv := exv
          subst exv
          have yn : X'.cell? ⟨Bn, 0, none⟩ = some (.int .i64 (p : Int)) := blk_c (blk_new hbn hgr) 0
          have ys : X'.cell? ⟨Bs, 0, none⟩ = some (.int .i64 a1) := blk_c ((FX.block _ (by omega) (by omega)).trans HS5.out) 0
          have yw : X'.cell? ⟨B2, 0, none⟩ = some (.slice (some ⟨g6, 0, none⟩) gs.length c6) := blk_c ((FX.block _ (by omega) (by omega)).trans HW5.out) 0
          have HX := Aside0.mk hx
          have HFX := Aside0.mk FX
          have HBN := Aside0.mk (blk_new hbn hgr)
          clear hx FX hbn hfX hgr G hkey hSp hvs
          by_cases hps : p = s
          · subst hps
            have q2 : ((p : Int) == (p : Int)) = true := beq_self_eq_true _
            gi_wp2
            exact ⟨Fr.refl _ _, rfl, HFX.out, by omega, HBN.out⟩
          · have q2 : ((p : Int) == (s : Int)) = false := by rw [beq_eq_false_iff_ne]; omega
            have q3 : decide ((p : Int) ≥ (gs.length : Int)) = false := decide_eq_false (by omega)
            have q3' : decide ((gs.length : Int) ≤ (p : Int)) = false := decide_eq_false (by omega)
            have q4 : (xkk != xkk) = false := bne_self_eq_false _
            have q5 : ((vs.length : Int) != (vs.length : Int)) = false := bne_self_eq_false _
            have p0 : (0 : Int) ≤ (p : Int) := by omega
            have p1 : (p : Int) < (gs.length : Int) := by omega
            have L0 : Aside0 (∃ zs, X'.ownsRow X.heap.size 3 1 (.slice Av vs.length cv) vs.length zs ∧ Fr (fun k => (Value.slice Av vs.length cv).ownBlock = some k) X' X') := ⟨_, HX.out.1, Fr.refl _ _⟩
            gi_wp2
            gi_loopg [12] (vs.length + 1) (fun kq v12 wr => ∃ (j : Nat), v12 = .int .i64 (j : Int) ∧ j ≤ vs.length ∧ vs.length - j ≤ kq ∧ Aside0 (∃ zs, wr.ownsRow X.heap.size 3 1 (.slice Av vs.length cv) vs.length zs ∧ Fr (fun k => (Value.slice Av vs.length cv).ownBlock = some k) X' wr))
            case atStart => exact ⟨0, rfl, by omega, by omega, L0⟩
            case round =>
              obtain ⟨j, rfl, hj, hjq, K⟩ := hrel
              obtain ⟨zs, ho, hf⟩ := K.out
              by_cases hjl : j < vs.length
              · have q6 : decide ((j : Int) < (vs.length : Int)) = true := decide_eq_true (by omega)
                obtain ⟨gv, e1⟩ : ∃ gv, Av = some ⟨gv, 0, none⟩ := by
                  rcases ho.2 with ⟨_, h0⟩ | ⟨g, cap, cur, e, _⟩
                  · omega
                  · injection e with e _ _
                    exact ⟨g, e⟩
                subst e1
                have hg : (Value.slice (some ⟨gv, 0, none⟩) vs.length cv).ownBlock = some gv := by simp [Value.ownBlock]
                have hlen : zs.length = vs.length * 1 := ho.1
                obtain ⟨y0, hy0⟩ : ∃ y0, wr.cell? ⟨gv, j, none⟩ = some y0 := by
                  have := ho.cells hg j _ (List.getElem?_eq_getElem (by omega))
                  rw [add_plain] at this
                  exact ⟨_, this⟩
                obtain ⟨cs, hcs⟩ := own_typed ho gv hg
                have f0 : wr.frozen? ⟨gv, j, none⟩ = false := blk_frozen hcs _
                have K2 : Aside0 (∃ zs, (wr.setCell ⟨gv, j, none⟩ (.int .i64 (-9))).ownsRow X.heap.size 3 1 (.slice (some ⟨gv, 0, none⟩) vs.length cv) vs.length zs ∧ Fr (fun k => (Value.slice (some ⟨gv, 0, none⟩) vs.length cv).ownBlock = some k) X' (wr.setCell ⟨gv, j, none⟩ (.int .i64 (-9)))) :=
                  ⟨_, own_set ho hg j (by omega) _, hf.set hg _⟩
                have p2 : (0 : Int) ≤ (j : Int) := by omega
                have p3 : (j : Int) < (vs.length : Int) := by omega
                clear ho hf K hcs
                gi_wp2
                gi_roundg (gk - 1)
                case measure => omega
                case rel => exact ⟨j + 1, (by first | rfl | go_num), by omega, by omega, K2⟩
              · obtain rfl : j = vs.length := by omega
                have q6 : decide ((vs.length : Int) < (vs.length : Int)) = false := decide_eq_false (by omega)
                have hfn : Fr (fun k => N ≤ k) X' wr := hf.mono (fun k hk => by have := (ho.lt k hk).1; omega)
                have hbn := (hfn.block Bn (by omega) (by omega)).trans HBN.out
                have yn : wr.cell? ⟨Bn, 0, none⟩ = some (.int .i64 (p : Int)) := blk_c hbn 0
                have fn : wr.frozen? ⟨Bn, 0, none⟩ = false := blk_frozen hbn 0
                have hbn2 := blk_set hbn 0 (.int .i64 ((p + 1 : Nat) : Int))
                have hf2 : Fr (fun k => k = Bn ∨ N ≤ k) X' (wr.setCell ⟨Bn, 0, none⟩ (.int .i64 ((p + 1 : Nat) : Int))) := (hfn.mono (fun _ h => .inr h)).set (.inl rfl) _
                have KF : Aside0 (Fr (fun k => k = Bn ∨ N ≤ k) X' (wr.setCell ⟨Bn, 0, none⟩ (.int .i64 ((p + 1 : Nat) : Int))) ∧ Fr (fun k => k = Bn) W5 (wr.setCell ⟨Bn, 0, none⟩ (.int .i64 ((p + 1 : Nat) : Int))) ∧ (wr.setCell ⟨Bn, 0, none⟩ (.int .i64 ((p + 1 : Nat) : Int))).heap[Bn]? = some (.cells #[.int .i64 ((p + 1 : Nat) : Int)] 3 (0, 0))) :=
                  ⟨hf2, Fr.old (N := N) ((HFX.out.mono (fun _ h => .inl h)).trans hf2) (by omega), hbn2⟩
                rw [Int.natCast_add, Int.natCast_one] at KF
                clear ho hf K hfn hbn hbn2 hf2
                gi_wp2
                obtain ⟨k1, k2, k3⟩ := KF.out
                refine ⟨k1, k2, by rw [List.length_append, List.length_singleton]; omega, ?_⟩
                rw [List.length_append, List.length_singleton, hp]
                exact k3
      case tail =>
        rintro D1 W6 ⟨hD1, hK1, hf6, hn6⟩
        obtain ⟨m, hm⟩ : ∃ m, min s gs.length = m := ⟨_, rfl⟩
        have hmn : (if s < gs.length then (s : Int) else (gs.length : Int)) = (m : Int) := by rw [← hm]; split <;> omega
        have hmn2 : min (s : Int) (gs.length : Int) = (m : Int) := by omega
        have hmn3 : (if (s : Int) < (gs.length : Int) then (s : Int) else (gs.length : Int)) = (m : Int) := by rw [← hm]; split <;> omega
        have hmn4 : (if (gs.length : Int) < (s : Int) then (gs.length : Int) else (s : Int)) = (m : Int) := by rw [← hm]; split <;> omega
        rw [hm] at hn6
        have hD1b := (Array.getElem?_eq_some_iff.1 hK1).1
        have yn : W6.cell? ⟨Bn, 0, none⟩ = some (.int .i64 (m : Int)) := blk_c hn6 0
        have fn : W6.frozen? ⟨Bn, 0, none⟩ = false := blk_frozen hn6 0
        have ys : W6.cell? ⟨Bs, 0, none⟩ = some (.int .i64 a1) := blk_c ((hf6.block _ (by omega) (by omega)).trans HS5.out) 0
        have yw : W6.cell? ⟨B2, 0, none⟩ = some (.slice A6 gs.length c6) := blk_c ((hf6.block _ (by omega) (by omega)).trans HW5.out) 0
        have q2 : ((m : Int) != (m : Int)) = false := bne_self_eq_false _
        have hn7 := blk_set hn6 0 (.int .i64 0)
        have hf7 : Fr (fun k => k = Bn) W5 (W6.setCell ⟨Bn, 0, none⟩ (.int .i64 0)) := hf6.set rfl _
        have hK7 : (W6.setCell ⟨Bn, 0, none⟩ (.int .i64 0)).heap[D1]? = some (.deferred (some [])) := (Below.heap_setCell W6 ⟨Bn, 0, none⟩ _ D1 (show D1 ≠ Bn by omega)).trans hK1
        have hs7 : (W6.setCell ⟨Bn, 0, none⟩ (.int .i64 0)).heap.size = W6.heap.size := by simp [World.setCell]
        obtain ⟨W7, hW7⟩ : ∃ W7, W6.setCell ⟨Bn, 0, none⟩ (.int .i64 0) = W7 := ⟨_, rfl⟩
        rw [hW7] at hn7 hf7 hK7 hs7
        have HN7 := Aside0.mk (show W7.heap[Bn]? = some (.cells #[.int .i64 0] 3 (0, 0)) from hn7)
        have HK7 := Aside0.mk hK7
        have HF7 := Aside0.mk hf7
        have HR7 := Aside0.mk ((hf7.block _ (by omega) (by omega)).trans HR5.out)
        have HW7 := Aside0.mk ((hf7.block _ (by omega) (by omega)).trans HW5.out)
        have hGrp7 := HGrp5.out.kept hf7 (fun k h1 h2 => by omega)
        have hs57 := hf7.size
        have HB7 := Aside0.mk (HB5.out.trans (hf7.below (by have := HB5.out.size; omega) (fun k h => by omega)))
        have EW7 := Aside0.mk hW7
        clear hn6 hK1 hf6 hn7 hf7 hK7 hW7
        gi_wp2
        rw [EW7.out]
        have hf7 := HF7.out
        have hseq2 := groups_V (fun k => k = Bn) Bm b B4 D T W7 hGrp7 (by omega) HOK.out (fun k e => by omega) (fun k h1 h2 e => by omega)
        refine range_V (gf := 36) (lb := #[.pointer (some ⟨Bm, 0, none⟩)]) rfl (enters_of Try.func36 (by kernel_rfl) rfl) hseq2 (fun k e => by omega) (fun x _ _ r o o' h h0 h1 ho => RdG.put h h0 h1 ho) (Below.refl _ _) (fun _ => rfl)
          (fun N pre W => Fr (fun k => k = Bn) W7 W ∧ W.heap[Bn]? = some (.cells #[.int .i64 (pre.length : Int)] 3 (0, 0)))
          (fun c N pre W => False) ?hI ?hIx ?h0 ?a2 ?assign ?body ?done ?stop
        case hI =>
          rintro N pre X X' row ⟨h1, h3⟩ hg hr
          exact ⟨h1.row hg (fun r e => (hr r e).1), (hg.block _ (Array.getElem?_eq_some_iff.1 h3).1 (fun e => by have := (hr Bn e.symm).1; omega)).trans h3⟩
        case hIx => exact fun _ _ _ _ _ _ h => h.elim
        case h0 => exact fun N => ⟨Fr.refl _ _, HN7.out⟩
        case assign =>
          intro lr x Z Kc hK
          gi_wp2
          exact hK
        case stop => rintro D' N c pre Z hD hpre h; exact h.elim
        case done =>
          rintro D' N xs Z hD hxs ⟨hfZ, hbn⟩ hKD
          have e : xs.length = gs.length := by rw [HGL.out, ← show xs.map (·.k) = keysS T from hxs, List.length_map]
          rw [e] at hbn
          have hK1 := (hfZ.block D1 (by omega) (by omega)).trans HK7.out
          have hr := (hfZ.block (Bs + 1) (by omega) (by omega)).trans HR7.out
          have hw := (hfZ.block B2 (by omega) (by omega)).trans HW7.out
          have hbZ : Below w.heap.size w Z := HB7.out.trans (hfZ.below (by have := HB7.out.size; omega) (fun k h => by omega))
          have hDb := (Array.getElem?_eq_some_iff.1 hKD).1
          have hszZ := hfZ.size
          have HTL := Aside0.mk (PRg.tributarylaw2_told.calls 2 true Z told2_f)
          have HZ : Aside0 (Z.heap[Bn]? = some (.cells #[.int .i64 (gs.length : Int)] 3 (0, 0)) ∧ Z.heap[D1]? = some (.deferred (some [])) ∧ Z.heap[D']? = some (.deferred (some [])) ∧ Z.heap[Bs + 1]? = some (.cells #[.bool false] 4 (0, 0)) ∧ Z.heap[B2]? = some (.cells #[.slice A6 gs.length c6] 24 (0, 0)) ∧ Below w.heap.size w Z) := ⟨hbn, hK1, hKD, hr, hw, hbZ⟩
          clear hbn hK1 hKD hr hw hbZ hfZ hf7
          gi_wp2_with (first
            | (gi_at_call 18
               refine (callsIn_wide.2 HTL.out).mono ?_
               rintro e' W8 ⟨rfl, hb8⟩
               have HB8 := Aside0.mk hb8
               have yn : W8.cell? ⟨Bn, 0, none⟩ = some (.int .i64 (gs.length : Int)) := blk_c ((hb8.block _ (by omega)).trans HZ.out.1) 0
               have yw : W8.cell? ⟨B2, 0, none⟩ = some (.slice A6 gs.length c6) := blk_c ((hb8.block _ (by omega)).trans HZ.out.2.2.2.2.1) 0
               have yr : W8.cell? ⟨Bs + 1, 0, none⟩ = some (.bool false) := blk_c ((hb8.block _ (by omega)).trans HZ.out.2.2.2.1) 0
               have yf : W8.frozen? ⟨Bs + 1, 0, none⟩ = false := blk_frozen ((hb8.block _ (by omega)).trans HZ.out.2.2.2.1) 0
               have q9 : ((gs.length : Int) == (gs.length : Int)) = true := beq_self_eq_true _
               clear hb8))
          obtain ⟨hbn, hK1, hKD, hr, hw, hbZ⟩ := HZ.out
          have hb8 := HB8.out
          have hr8 := (hb8.block _ (by omega)).trans hr
          have hK18 := (hb8.block _ (by omega)).trans hK1
          have hKD8 := (hb8.block _ (by omega)).trans hKD
          have hb8' := hbZ.trans (hb8.mono hbZ.size)
          have hr9 := blk_set hr8 0 (.bool true)
          have hK19 : (W8.setCell ⟨Bs + 1, 0, none⟩ (.bool true)).heap[D1]? = some (.deferred (some [])) := (Below.heap_setCell W8 ⟨Bs + 1, 0, none⟩ _ D1 (show D1 ≠ Bs + 1 by omega)).trans hK18
          have hKD9 : (W8.setCell ⟨Bs + 1, 0, none⟩ (.bool true)).heap[D']? = some (.deferred (some [])) := (Below.heap_setCell W8 ⟨Bs + 1, 0, none⟩ _ D' (show D' ≠ Bs + 1 by omega)).trans hKD8
          have hb9 : Below w.heap.size w (W8.setCell ⟨Bs + 1, 0, none⟩ (.bool true)) := hb8'.setCell (show w.heap.size ≤ Bs + 1 by omega) _
          exact leavesB rfl rfl Try.underlying4 hr9 hKD9 hK19 (by omega) (by omega) (by omega) (by omega) (by omega) hb9 (fun W' h => ⟨rfl, h⟩)
        case body =>
          rintro lr N pre x X X' hN1 hN2 hSp ⟨hfX, hbn⟩ hgr ⟨hk, hx⟩
          obtain ⟨p, hp⟩ : ∃ p, pre.length = p := ⟨_, rfl⟩
          rw [hp] at hbn
          have FX : Fr (fun k => k = Bn) W7 X' := hfX.trans (Fr.of_grown hgr (by simp))
          obtain ⟨hpg, hkey⟩ : ∃ h : p < gs.length, gs[p] = (x.k, valsOf T x.k) := by
            have h1 : (keysS T)[p]? = some x.k := by
              obtain ⟨t, ht⟩ := hSp
              rw [← ht, List.map_append, List.append_assoc, List.getElem?_append_right (by rw [List.length_map]; omega), List.length_map, hp, Nat.sub_self]
              rfl
            have h2 := (List.getElem?_eq_some_iff.1 h1).1
            refine ⟨by have := HGL.out; omega, ?_⟩
            have h3 : gs[p]? = some (x.k, valsOf T x.k) := by
              rw [← hgs]
              unfold groupsOf
              rw [List.getElem?_map, h1]; rfl
            exact (List.getElem?_eq_some_iff.1 h3).2
          have G := HG4.out.kept (FR4.out X' (hf7.trans FX)) (fun k h1 h2 => by omega)
          have hel := G.len
          have hszX := hfX.size
          have hgz := hgr.size
          obtain ⟨g6, e6, xk⟩ := G.key p hpg
          subst e6
          have hIv := (G.at_ p (by omega) hpg).1
          have xv : X'.cell? ⟨g6, p * 2 + 1, none⟩ = some es[p].2 := by
            have := G.own.cells (g := g6) (by simp [Value.ownBlock]) _ _ (gcells_get es p es[p] (List.getElem?_eq_getElem (by omega))).2
            rwa [add_plain] at this
          obtain ⟨A7, c7, e7⟩ := own_slice' (G.at_ p (by omega) hpg).1.1
          rw [hkey] at xk e7 hIv
          obtain ⟨vs, hvs⟩ : ∃ vs, valsOf T x.k = vs := ⟨_, rfl⟩
          have hvl : vs.length ≤ 100 := by rw [← hvs]; have := valsOf_len T x.k; omega
          rw [hvs] at e7 hx hIv
          have e7 : es[p].2 = .slice A7 vs.length c7 := e7
          rw [e7] at xv hIv
          obtain ⟨xkk, xvv⟩ := x
          obtain ⟨Av, cv, exv⟩ := own_slice' hx.1
          have exv : xvv = .slice Av vs.length cv := exv
          subst exv
          have yn : X'.cell? ⟨Bn, 0, none⟩ = some (.int .i64 (p : Int)) := blk_c (blk_new hbn hgr) 0
          have yw : X'.cell? ⟨B2, 0, none⟩ = some (.slice (some ⟨g6, 0, none⟩) gs.length c6) := blk_c ((FX.block _ (by omega) (by omega)).trans HW7.out) 0
          have HX := Aside0.mk hx
          have HFX := Aside0.mk FX
          have HBN := Aside0.mk (blk_new hbn hgr)
          have HIv := Aside0.mk hIv
          have HG7 := Aside0.mk (show X'.frozen? ⟨Bn, 0, none⟩ = false from blk_frozen (blk_new hbn hgr) 0)
          have Y1 := Aside0.mk yn
          have Y2 := Aside0.mk yw
          have Y3 := Aside0.mk xk
          have Y4 := Aside0.mk xv
          clear hx FX hbn hfX hgr G hkey hSp hvs hIv
          have q3 : decide ((p : Int) ≥ (gs.length : Int)) = false := decide_eq_false (by omega)
          have q3' : decide ((gs.length : Int) ≤ (p : Int)) = false := decide_eq_false (by omega)
          have q4 : (xkk != xkk) = false := bne_self_eq_false _
          have q5 : ((vs.length : Int) != (vs.length : Int)) = false := bne_self_eq_false _
          have p0 : (0 : Int) ≤ (p : Int) := by omega
          have hpb : p ≤ 1000 := by have := groups_len T; rw [hgs] at this; omega
          have p1 : (p : Int) < (gs.length : Int) := by omega
          gi_wp2
          gi_loopg [15] (vs.length + 1) (fun kq v15 wi => ∃ (j : Nat), v15 = .int .i64 (j : Int) ∧ j ≤ vs.length ∧ vs.length - j ≤ kq ∧ Aside0 (∃ nd, wi = X'.drewN nd))
          case atStart => exact ⟨0, rfl, by omega, by omega, ⟨0, rfl⟩⟩
          case round =>
            obtain ⟨j, rfl, hj, hjq, K⟩ := hrel
            obtain ⟨nd, rfl⟩ := K.out
            have hbd := pw_below_drewN (Below.refl X'.heap.size X') nd
            have zn := cell_keepS hbd Y1.out
            have zw := cell_keepS hbd Y2.out
            have zk := cell_keepS hbd Y3.out
            have zv := cell_keepS hbd Y4.out
            by_cases hjl : j < vs.length
            · have q6 : decide ((j : Int) < (vs.length : Int)) = true := decide_eq_true (by omega)
              obtain ⟨A, c, e, hr1⟩ := ints_read HX.out
              injection e with e1 e2 e3
              clear e2 e3
              subst e1
              obtain ⟨A', c', e, hr2⟩ := ints_read HIv.out
              injection e with e1 e2 e3
              clear e2 e3
              subst e1
              obtain ⟨u, hu⟩ : ∃ u, vs[j]? = some u := ⟨_, List.getElem?_eq_getElem hjl⟩
              obtain ⟨ad1, e1, z1⟩ := hr1 j u hu
              obtain ⟨ad2, e2, z2⟩ := hr2 j u hu
              subst e1 e2
              have w1 := z1
              have w2 := z2
              have z1 := cell_keepS hbd z1
              have z2 := cell_keepS hbd z2
              have q7 : (u != u) = false := bne_self_eq_false _
              have p2 : (0 : Int) ≤ (j : Int) := by omega
              have p3 : (j : Int) < (vs.length : Int) := by omega
              clear hr1 hr2 hbd K hu
              gi_wp2
              refine Reg.region_val [116, 117, 118, 119, 120, 121, 122, 123, 124, 125, 126, 127, 128] [.slice (some ad1) vs.length cv, .int .i64 (j : Int), .pointer (some (ad1.add j)), .int .i64 u, .slice (some ⟨g6, 0, none⟩) gs.length c6, .int .i64 (p : Int), .pointer (some ⟨g6, p * 2, none⟩), .pointer (some ⟨g6, p * 2 + 1, none⟩), .slice (some ad2) vs.length c7, .int .i64 (j : Int), .pointer (some (ad2.add j)), .int .i64 u, .bool false] (by kernel_rfl) (by kernel_rfl) rfl (fun _ => trivial) (by decide) (by simp) ?hg ?hrun ?hq
              case hg =>
                intro i o ho
                have hi : i < 13 := by have := (Array.getElem?_eq_some_iff.1 ho).1; simpa using this
                have h13 : i = 0 ∨ i = 1 ∨ i = 2 ∨ i = 3 ∨ i = 4 ∨ i = 5 ∨ i = 6 ∨ i = 7 ∨ i = 8 ∨ i = 9 ∨ i = 10 ∨ i = 11 ∨ i = 12 := by omega
                clear hi
                rcases h13 with rfl | rfl | rfl | rfl | rfl | rfl | rfl | rfl | rfl | rfl | rfl | rfl | rfl <;> (obtain rfl := Option.some.inj ho; exact ⟨rfl, rfl⟩)
              case hrun =>
                have hbd1 := pw_below_drewN (Below.refl X'.heap.size X') (nd + 1)
                have t1 := cell_keepS hbd1 Y1.out
                have t2 := cell_keepS hbd1 Y2.out
                have t4 := cell_keepS hbd1 Y4.out
                have t5 := cell_keepS hbd1 w1
                have t6 := cell_keepS hbd1 w2
                intro listed a hev i o ho hw
                have hi : i < 13 := by have := (Array.getElem?_eq_some_iff.1 ho).1; simpa using this
                have h13 : i = 0 ∨ i = 1 ∨ i = 2 ∨ i = 3 ∨ i = 4 ∨ i = 5 ∨ i = 6 ∨ i = 7 ∨ i = 8 ∨ i = 9 ∨ i = 10 ∨ i = 11 ∨ i = 12 := by omega
                clear hi
                rcases h13 with rfl | rfl | rfl | rfl | rfl | rfl | rfl | rfl | rfl | rfl | rfl | rfl | rfl
                · obtain rfl := Option.some.inj ho
                  have e14 : a.eval (.tmp 14) = .slice (some ad1) vs.length cv := (hev 14).trans (if_neg (fun h => absurd h.2 (by decide)))
                  have f14 : a.tmps[14]?.getD undef = .slice (some ad1) vs.length cv := by rw [← Array.getD_eq_getD_getElem?]; exact e14
                  go_simp
                  try rfl
                · obtain rfl := Option.some.inj ho
                  have e15 : a.eval (.tmp 15) = .int .i64 (j : Int) := (hev 15).trans (if_neg (fun h => absurd h.2 (by decide)))
                  have f15 : a.tmps[15]?.getD undef = .int .i64 (j : Int) := by rw [← Array.getD_eq_getD_getElem?]; exact e15
                  go_simp
                  try rfl
                · obtain rfl := Option.some.inj ho
                  have e116 : a.eval (.tmp 116) = .slice (some ad1) vs.length cv := (hev 116).trans (if_pos ⟨hw 0 (by kernel_rfl), by decide⟩)
                  have f116 : a.tmps[116]?.getD undef = .slice (some ad1) vs.length cv := by rw [← Array.getD_eq_getD_getElem?]; exact e116
                  have e117 : a.eval (.tmp 117) = .int .i64 (j : Int) := (hev 117).trans (if_pos ⟨hw 1 (by kernel_rfl), by decide⟩)
                  have f117 : a.tmps[117]?.getD undef = .int .i64 (j : Int) := by rw [← Array.getD_eq_getD_getElem?]; exact e117
                  go_simp
                  try rfl
                · obtain rfl := Option.some.inj ho
                  have e118 : a.eval (.tmp 118) = .pointer (some (ad1.add j)) := (hev 118).trans (if_pos ⟨hw 2 (by kernel_rfl), by decide⟩)
                  have f118 : a.tmps[118]?.getD undef = .pointer (some (ad1.add j)) := by rw [← Array.getD_eq_getD_getElem?]; exact e118
                  go_simp
                  try rfl
                · obtain rfl := Option.some.inj ho
                  have e6 : a.eval (.tmp 6) = .pointer (some ⟨B2, 0, none⟩) := (hev 6).trans (if_neg (fun h => absurd h.2 (by decide)))
                  have f6 : a.tmps[6]?.getD undef = .pointer (some ⟨B2, 0, none⟩) := by rw [← Array.getD_eq_getD_getElem?]; exact e6
                  go_simp
                  try rfl
                · obtain rfl := Option.some.inj ho
                  have e9 : a.eval (.tmp 9) = .pointer (some ⟨Bn, 0, none⟩) := (hev 9).trans (if_neg (fun h => absurd h.2 (by decide)))
                  have f9 : a.tmps[9]?.getD undef = .pointer (some ⟨Bn, 0, none⟩) := by rw [← Array.getD_eq_getD_getElem?]; exact e9
                  go_simp
                  try rfl
                · obtain rfl := Option.some.inj ho
                  have e120 : a.eval (.tmp 120) = .slice (some ⟨g6, 0, none⟩) gs.length c6 := (hev 120).trans (if_pos ⟨hw 4 (by kernel_rfl), by decide⟩)
                  have f120 : a.tmps[120]?.getD undef = .slice (some ⟨g6, 0, none⟩) gs.length c6 := by rw [← Array.getD_eq_getD_getElem?]; exact e120
                  have e121 : a.eval (.tmp 121) = .int .i64 (p : Int) := (hev 121).trans (if_pos ⟨hw 5 (by kernel_rfl), by decide⟩)
                  have f121 : a.tmps[121]?.getD undef = .int .i64 (p : Int) := by rw [← Array.getD_eq_getD_getElem?]; exact e121
                  go_simp
                  try rfl
                · obtain rfl := Option.some.inj ho
                  have e122 : a.eval (.tmp 122) = .pointer (some ⟨g6, p * 2, none⟩) := (hev 122).trans (if_pos ⟨hw 6 (by kernel_rfl), by decide⟩)
                  have f122 : a.tmps[122]?.getD undef = .pointer (some ⟨g6, p * 2, none⟩) := by rw [← Array.getD_eq_getD_getElem?]; exact e122
                  go_simp
                  try rfl
                · obtain rfl := Option.some.inj ho
                  have e123 : a.eval (.tmp 123) = .pointer (some ⟨g6, p * 2 + 1, none⟩) := (hev 123).trans (if_pos ⟨hw 7 (by kernel_rfl), by decide⟩)
                  have f123 : a.tmps[123]?.getD undef = .pointer (some ⟨g6, p * 2 + 1, none⟩) := by rw [← Array.getD_eq_getD_getElem?]; exact e123
                  go_simp
                  try rfl
                · obtain rfl := Option.some.inj ho
                  have e15 : a.eval (.tmp 15) = .int .i64 (j : Int) := (hev 15).trans (if_neg (fun h => absurd h.2 (by decide)))
                  have f15 : a.tmps[15]?.getD undef = .int .i64 (j : Int) := by rw [← Array.getD_eq_getD_getElem?]; exact e15
                  go_simp
                  try rfl
                · obtain rfl := Option.some.inj ho
                  have e124 : a.eval (.tmp 124) = .slice (some ad2) vs.length c7 := (hev 124).trans (if_pos ⟨hw 8 (by kernel_rfl), by decide⟩)
                  have f124 : a.tmps[124]?.getD undef = .slice (some ad2) vs.length c7 := by rw [← Array.getD_eq_getD_getElem?]; exact e124
                  have e125 : a.eval (.tmp 125) = .int .i64 (j : Int) := (hev 125).trans (if_pos ⟨hw 9 (by kernel_rfl), by decide⟩)
                  have f125 : a.tmps[125]?.getD undef = .int .i64 (j : Int) := by rw [← Array.getD_eq_getD_getElem?]; exact e125
                  go_simp
                  try rfl
                · obtain rfl := Option.some.inj ho
                  have e126 : a.eval (.tmp 126) = .pointer (some (ad2.add j)) := (hev 126).trans (if_pos ⟨hw 10 (by kernel_rfl), by decide⟩)
                  have f126 : a.tmps[126]?.getD undef = .pointer (some (ad2.add j)) := by rw [← Array.getD_eq_getD_getElem?]; exact e126
                  go_simp
                  try rfl
                · obtain rfl := Option.some.inj ho
                  have e119 : a.eval (.tmp 119) = .int .i64 u := (hev 119).trans (if_pos ⟨hw 3 (by kernel_rfl), by decide⟩)
                  have f119 : a.tmps[119]?.getD undef = .int .i64 u := by rw [← Array.getD_eq_getD_getElem?]; exact e119
                  have e127 : a.eval (.tmp 127) = .int .i64 u := (hev 127).trans (if_pos ⟨hw 11 (by kernel_rfl), by decide⟩)
                  have f127 : a.tmps[127]?.getD undef = .int .i64 u := by rw [← Array.getD_eq_getD_getElem?]; exact e127
                  go_simp
                  try rfl
              case hq =>
                simp only [List.length_cons, List.length_nil, Nat.reduceAdd, Reg.putN, List.getD_cons_succ, List.getD_cons_zero, List.getElem?_cons_succ, List.getElem?_cons_zero, Act.put, List.setIfInBounds_toArray, List.set_cons_succ, List.set_cons_zero]
                gi_wp2
                gi_roundg (gk - 1)
                case measure => omega
                case rel => exact ⟨j + 1, (by first | rfl | go_num), by omega, by omega, ⟨nd + 1, by first | rfl | simp⟩⟩
            · obtain rfl : j = vs.length := by omega
              have q6 : decide ((vs.length : Int) < (vs.length : Int)) = false := decide_eq_false (by omega)
              have hbn : (X'.drewN nd).heap[Bn]? = some (.cells #[.int .i64 (p : Int)] 3 (0, 0)) := (hbd.block Bn (by omega)).trans HBN.out
              have fn : (X'.drewN nd).frozen? ⟨Bn, 0, none⟩ = false := blk_frozen hbn 0
              have hbn2 := blk_set hbn 0 (.int .i64 ((p + 1 : Nat) : Int))
              have hf2 : Fr (fun k => k = Bn ∨ N ≤ k) X' ((X'.drewN nd).setCell ⟨Bn, 0, none⟩ (.int .i64 ((p + 1 : Nat) : Int))) := (Fr.of_below hbd).set (.inl rfl) _
              have KF : Aside0 (Fr (fun k => k = Bn ∨ N ≤ k) X' ((X'.drewN nd).setCell ⟨Bn, 0, none⟩ (.int .i64 ((p + 1 : Nat) : Int))) ∧ Fr (fun k => k = Bn) W7 ((X'.drewN nd).setCell ⟨Bn, 0, none⟩ (.int .i64 ((p + 1 : Nat) : Int))) ∧ ((X'.drewN nd).setCell ⟨Bn, 0, none⟩ (.int .i64 ((p + 1 : Nat) : Int))).heap[Bn]? = some (.cells #[.int .i64 ((p + 1 : Nat) : Int)] 3 (0, 0))) :=
                ⟨hf2, Fr.old (N := N) ((HFX.out.mono (fun _ h => .inl h)).trans hf2) (by omega), hbn2⟩
              rw [Int.natCast_add, Int.natCast_one] at KF
              clear K hbn hbn2 hf2 hbd
              gi_wp2
              obtain ⟨k1, k2, k3⟩ := KF.out
              refine ⟨k1, k2, ?_⟩
              rw [List.length_append, List.length_singleton, hp]
              exact k3
end Go.Proofs.Ytbbjkgpilmcldaa.Seq
namespace Go.Proofs.Ytbbjkgpilmcldaa.PRg
open Go.RowKit Go.Proofs.Ytbbjkgpilmcldaa.Seq
open Go.Proofs.YtbbjkgpilmcldaaW.PrintWords Go.Proofs.YtbbjkgpilmcldaaW.PrintLast Go.Proofs.YtbbjkgpilmcldaaW.PrintMore
set_option linter.unusedVariables false
def tributarylaw2_RowsGroups.f (l0 : List S30) (a1 : Int) : Option Bool := if l0.length ≤ 9223372036854775807 ∧ (∀ r ∈ l0, (Lit.int .i64 r.f0).wf = true ∧ (Lit.int .i64 r.f1).wf = true) then some true else none
theorem tributarylaw2_RowsGroups.calls (A0 : Option Addr) (c0 : Nat) (l0 : List S30) (a1 : Int) (r : Bool) (w : World) (hr0 : Kd.C k30 w A0 l0.length l0) (hc0 : l0.length ≤ c0) (h : tributarylaw2_RowsGroups.f l0 a1 = some r) :
    Calls Try.prog 3 #[.slice A0 l0.length c0, .int .i64 a1] w fun e w' => e = .returned (.bool r) ∧ Below w.heap.size w w' := by
  unfold tributarylaw2_RowsGroups.f at h
  split at h
  · rename_i hf
    obtain rfl := Option.some.inj h
    exact rg_law A0 c0 l0 a1 w hr0 hc0 hf.1 (fun r hr => hf.2 r hr)
  · cases h
end Go.Proofs.Ytbbjkgpilmcldaa.PRg
