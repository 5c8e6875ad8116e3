/- Proved: what the document's on and Fold hand back, and what is wrong with an operation; condition: at most 1000 rows of numbers that fit. -/
import Derived.Test.YtbbjkgpilmcldaaZra
import Derived.Test.YtbbjkgpilmcldaaGrMaps
import Derived.Test.YtbbjkgpilmcldaaPRfx1
import Derived.IntWalk
namespace Go.Proofs.Ytbbjkgpilmcldaa.Seq
open Go.RowKit Go.Maps Go.ChangeShapes Go.Shelf
open Go.Proofs.YtbbjkgpilmcldaaW.PrintWords Go.Proofs.YtbbjkgpilmcldaaW.PrintLast Go.Proofs.YtbbjkgpilmcldaaW.PrintMore
attribute [local go_sem] Oper.semAt_some store_func
set_option linter.unusedVariables false
set_option linter.unusedSimpArgs false
theorem app_ints {W : World} (base : Nat) (v : Value) (zs ys : List Int) (ad : Addr) (c : Nat) (h : W.ownsInts base 3 .i64 v zs) (hr : ∀ j y, ys[j]? = some y → W.cell? (ad.add j) = some (.int .i64 y)) (hok : ∀ y ∈ ys, okI y) (hb : base ≤ W.heap.size) (hl : zs.length + ys.length ≤ 100000) :
    ∃ A1 c1 w1, (Builtin.append_ #[31, 31] 31 #[v, .slice (some ad) ys.length c]).run Try.prog W = .ok (.slice A1 (zs.length + ys.length) c1) w1 ∧ w1.ownsInts base 3 .i64 (.slice A1 (zs.length + ys.length) c1) (zs ++ ys) ∧ W.grownBy w1 v.ownBlock := by
  obtain ⟨i0, hi, hzz⟩ := Option.map_eq_some_iff.1 PFn.info3
  simp only [Prod.mk.injEq] at hzz
  obtain ⟨hz0, hz1, hz2⟩ := hzz
  obtain ⟨s1, w1, hrun, o1, hg1, _, hat⟩ := run_append_own_at (P := Try.prog) W base 31 31 3 i0 (.int .i64 0) 1 8 Try.underlying31 hi hz0 hz1 hz2 rfl (by decide) v zs.length _ h.1 ad ys.length c (ys.map (Value.int .i64)) (by rw [List.length_map, Nat.mul_one]) (fun j u hu => by
    rw [List.getElem?_map] at hu
    cases hy : ys[j]? with
    | none => rw [hy] at hu; cases hu
    | some y => rw [hy] at hu; rw [hr j y hy]; exact hu) (fun u hu => by obtain ⟨y, _, rfl⟩ := List.mem_map.1 hu; rfl) (by simp only [maxLen]; omega) (by omega) hb
  obtain ⟨A1, c1, e1⟩ := own_slice' o1
  subst e1
  refine ⟨A1, c1, w1, hrun, ⟨?_, fun z hz => (List.mem_append.1 hz).elim (h.2 z) (hok z)⟩, hg1⟩
  rw [List.map_append, List.length_append]
  exact o1
theorem on_run (f : Nat) (h : f ≠ 3) (x : Int) (vs : List Int) : tellF f (x :: vs) = (runV f (x, true) vs).1 := by
  show (runV f (stepV f (0, false) x) vs).1 = _
  have : stepV f (0, false) x = (x, true) := by
    unfold stepV firstV
    simp [h]
  rw [this]
set_option maxHeartbeats 2000000 in
set_option maxRecDepth 100000 in
theorem on_calls (f : Nat) (hf : f ≤ 5) (x : Int) (hx : okI x) (ad : Addr) (c : Nat) (vs : List Int) (w : World) (hne : 0 < vs.length) (hl : vs.length ≤ 1000) (hr : ∀ j y, vs[j]? = some y → w.cell? (ad.add j) = some (.int .i64 y)) (hok : ∀ y ∈ vs, okI y) :
    Calls Try.prog 49 #[.int .i64 (f : Int), .int .i64 x, .slice (some ad) vs.length c] w fun e w' => e = .returned (.int .i64 (runV f (x, true) vs).1) ∧ Below w.heap.size w w' := by
  by_cases h3 : f = 3
  · subst h3
    have ht := count_run x vs hx
    clear hr hok
    go_enter Try.func49, Try.ntmps49
    go_wp2_with fail
    go_ret
    exact ⟨by rw [ht]; rfl, Below.refl _ _⟩
  · by_cases h4 : f = 4
    · subst h4
      have ht : (runV 4 (x, true) vs).1 = x := by
        clear hr hok hl hne
        induction vs with
        | nil => rfl
        | cons v vs ih => exact ih
      clear hr hok
      go_enter Try.func49, Try.ntmps49
      go_wp2_with fail
      go_ret
      exact ⟨by rw [ht]; rfl, Below.refl _ _⟩
    · have q3 : decide ((f : Int) = 3) = false := decide_eq_false (by omega)
      have q3b : ((f : Int) == 3) = false := by rw [beq_eq_false_iff_ne]; omega
      have q4 : decide ((f : Int) = 4) = false := decide_eq_false (by omega)
      have q4b : ((f : Int) == 4) = false := by rw [beq_eq_false_iff_ne]; omega
      have hblk := World.alloc_heap_new w (.cells #[.int .i64 x] 3)
      have ha : Below w.heap.size w (w.alloc (.cells #[.int .i64 x] 3)) := below_alloc (Below.refl _ w) _
      obtain ⟨A1, c1, w1, r1, o1, g1⟩ := app_ints w.heap.size (.slice none 0 0) [] [x] ⟨w.heap.size, 0, none⟩ 1 ⟨World.ownsRow_nil _ w.heap.size _ 1, fun z hz => by simp at hz⟩ (fun j y hj => by
        match j, hj with
        | 0, hj => obtain rfl := Option.some.inj hj; exact blk_c hblk 0) (fun y hy => by rw [List.mem_singleton.1 hy]; exact hx) ha.size (by simp)
      have b1 : Below w.heap.size w w1 := ha.grown g1 ha.size (fun k hk => by simp [Value.ownBlock] at hk)
      obtain ⟨A2, c2, w2, r2, o2, g2⟩ := app_ints w.heap.size (.slice A1 (([] : List Int).length + [x].length) c1) ([] ++ [x]) vs ad c o1 (fun j y hj => cell_keepS b1 (hr j y hj)) hok b1.size (by simp <;> omega)
      have b2 : Below w.heap.size w w2 := b1.grown g2 b1.size (fun k hk => (o1.1.lt k hk).1)
      obtain ⟨A3, c3, e3, hc3⟩ := ints_read o2
      injection e3 with e3 e4 e5
      subst e3 e5
      obtain ⟨ad3, e3, -⟩ := hc3 0 x rfl
      subst e3
      have HT := Aside0.mk (tell_calls f hf ad3 c2 ([] ++ [x] ++ vs) w2 (by simp) (by simp <;> omega) (fun j y hj => by
        obtain ⟨ad', e, h⟩ := hc3 j y hj
        obtain rfl := Option.some.inj e
        exact h))
      have HB2 := Aside0.mk b2
      have hlen : ([] ++ [x] ++ vs).length = vs.length + 1 := by simp <;> omega
      have hlen2 : ([] ++ [x] : List Int).length + vs.length = vs.length + 1 := by simp <;> omega
      rw [hlen] at HT
      rw [hlen2] at r2
      have HO := Aside0.mk (on_run f h3 x vs)
      clear hr hok hc3 o1 o2 g1 g2 b1 b2 ha hblk hlen hlen2 e4
      go_enter Try.func49, Try.ntmps49
      go_wp2_with (first
        | (at_builtin; refine wpList_runG rfl (.tmp 18) (.tmp 20) 31 rfl (.slice none 0 0) (.slice (some ⟨w.heap.size, 0, none⟩) 1 1) _ w1 rfl rfl r1 ?_)
        | (at_builtin; refine wpList_runG rfl (.tmp 23) (.tmp 24) 31 rfl (.slice A1 1 c1) (.slice (some ad) vs.length c) _ w2 rfl rfl r2 ?_)
        | fail)
      refine HT.out.mono ?_
      rintro e w3 ⟨rfl, nd, rfl⟩
      go_wp2_with fail
      go_ret
      exact ⟨by rw [← HO.out]; rfl, pw_below_drewN HB2.out nd⟩
def fdX (f : Nat) (bf l : List RowT) (gs : List GrpP) : List RowT := gs.map fun g => resF f bf l g.1
theorem fdX_fold (f : Nat) (bf l : List RowT) : (fdX f bf l (groupsOf (bf ++ l))).take 64 = foldF f bf l := by
  unfold fdX groupsOf foldF
  rw [List.map_map, List.map_take]
  rfl
theorem keyIn {l : List RowT} {g : GrpP} (h : g ∈ groupsOf l) : hasK l g.1 = true := by
  unfold groupsOf at h
  obtain ⟨k, hk, rfl⟩ := List.mem_map.1 h
  exact (mem_keysS l k).1 hk
/-- What Fold holds while it goes through the keys. -/
structure FS (w : World) (vG : Value) (gs : List GrpP) (es : List (Int × Value)) (wr : World) (v : Value) (X : List RowT) : Prop where
  rows : RowsAt wr w.heap.size v X
  grp : GAx wr w.heap.size vG gs es
  bel : Below w.heap.size w wr
theorem FS.below {w wr W : World} {vG v : Value} {gs : List GrpP} {es : List (Int × Value)} {X : List RowT} (h : FS w vG gs es wr v X) (hb : Below wr.heap.size wr W) : FS w vG gs es W v X :=
  ⟨Kd.R_below h.rows hb, h.grp.below hb, h.bel.trans (hb.mono h.bel.size)⟩
theorem FS.put {w wr : World} {vG : Value} {gs : List GrpP} {es : List (Int × Value)} {X : List RowT} {A5 : Option Addr} {n c5 : Nat} (h : FS w vG gs es wr (.slice A5 n c5) X) (x : RowT) (hn : n ≤ 1000000) :
    ∃ A8 c8 w8, (Builtin.append_ #[22, 22] 22 #[.slice A5 n c5, .slice (some ⟨wr.heap.size, 0, none⟩) 1 1]).run Try.prog (wr.alloc (.cells #[.int .i64 x.f0, .int .i64 x.f1] 30)) = .ok (.slice A8 (n + 1) c8) w8 ∧ FS w vG gs es w8 (.slice A8 (n + 1) c8) (X ++ [x]) := by
  obtain ⟨A8, c8, w8, r8, o8, b8, g8⟩ := put_row h.rows h.bel x hn 0
  have e : wr.drewN 0 = wr := by first | rfl | exact World.drewN_zero _
  have hT := row_typed h.rows (m := 0) (o := .cells #[.int .i64 x.f0, .int .i64 x.f1] 30)
  rw [e] at r8 g8 hT
  exact ⟨A8, c8, w8, r8, o8, (h.grp.below (below_alloc (Below.refl _ wr) _)).grownT g8 hT, b8⟩
set_option maxHeartbeats 8000000 in
set_option maxRecDepth 100000 in
theorem fold8_calls (f : Nat) (hf : f ≤ 5) (A0 : Option Addr) (c0 : Nat) (A1 : Option Addr) (c1 : Nat) (bf l : List RowT) (w : World) (hC0 : kRow.C w A0 bf.length bf) (hC1 : kRow.C w A1 l.length l) (hlen : bf.length + l.length ≤ 1000) (hok0 : ∀ r ∈ bf, okRow r) (hok1 : ∀ r ∈ l, okRow r) :
    Calls Try.prog 34 #[.int .i64 (f : Int), .slice A0 bf.length c0, .slice A1 l.length c1] w fun e w' => ∃ v, e = .returned v ∧ RowsAt w' w.heap.size v (foldF f bf l) ∧ Below w.heap.size w w' := by
  have HC0 := Aside0.mk hC0
  have HC1 := Aside0.mk hC1
  have HOK0 := Aside0.mk hok0
  have HOK1 := Aside0.mk hok1
  have HFX := Aside0.mk (fdX_fold f bf l)
  obtain ⟨v1, w1, r1, o1, g1, -⟩ := app_run w.heap.size 22 (.slice none 0 0) [] bf A0 bf.length c0 (RowsAt.nil w w.heap.size) hC0 (Nat.le_refl _) (by simp only [List.length_nil]; omega)
  have b1 : Below w.heap.size w w1 := (Below.refl _ w).grown g1 (Nat.le_refl _) (fun k hk => by simp [Value.ownBlock] at hk)
  obtain ⟨v2, w2, r2, o2, g2, -⟩ := app_run w.heap.size 22 v1 ([] ++ bf) l A1 l.length c1 o1 (Kd.C_below hC1 b1) b1.size (by simp only [List.length_append, List.length_nil]; omega)
  obtain ⟨in1, ow1⟩ := Kd.R_own o1
  have b2 : Below w.heap.size w w2 := b1.grown g2 b1.size (fun k hk => (ow1.lt k hk).1)
  rw [List.nil_append] at o2
  have hall : (bf ++ l).length = bf.length + l.length := List.length_append
  have hokA : ∀ r ∈ bf ++ l, okRow r := fun r hr => (List.mem_append.1 hr).elim (hok0 r) (hok1 r)
  obtain ⟨A2, c2, e2⟩ := Kd.R_slice o2
  subst e2
  have HG := Aside0.mk (grp_calls A2 c2 (bf ++ l) w2 (Kd.R_reads' o2).2.2 (by omega) hokA)
  have hgl := groups_len (bf ++ l)
  have HKO : Aside0 (∀ g ∈ groupsOf (bf ++ l), hasK (bf ++ l) g.1 = true) := ⟨fun g hg => keyIn hg⟩
  obtain ⟨gs, hgs⟩ : ∃ gs, groupsOf (bf ++ l) = gs := ⟨_, rfl⟩
  rw [hgs] at HG HFX hgl HKO
  have HB2 := Aside0.mk b2
  obtain ⟨al, hal⟩ : ∃ al, bf ++ l = al := ⟨_, rfl⟩
  rw [hal] at HG r2 hgl hall
  have hgl2 : gs.length ≤ 1000 := by omega
  clear hal hgl
  clear hC0 hC1 hok0 hok1 hgs o1 g1 b1 ow1 o2 g2 b2 hokA hall
  have q1 : decide ((f : Int) < 0) = false := decide_eq_false (by omega)
  have q2 : decide ((f : Int) > 5) = false := decide_eq_false (by omega)
  have q2' : decide ((5 : Int) < (f : Int)) = false := decide_eq_false (by omega)
  go_enter Try.func34, Try.ntmps34
  go_wp2_with (first
    | (at_builtin; refine wpList_runG rfl (.tmp 23) (.tmp 24) 22 rfl (.slice none 0 0) (.slice A0 bf.length c0) v1 w1 rfl rfl r1 ?_)
    | (at_builtin; refine wpList_runG rfl (.tmp 26) (.tmp 27) 22 rfl v1 (.slice A1 l.length c1) _ w2 rfl rfl r2 ?_)
    | fail)
  refine HG.out.mono ?_
  rintro e w3 ⟨v, es, rfl, hG, hb3⟩
  obtain ⟨A8, c8, rfl⟩ := own_slice' hG.own
  have HG1 : Aside0 (FS w (.slice A8 gs.length c8) gs es w3 (.slice none 0 0) []) := ⟨⟨RowsAt.nil _ _, ⟨hG.keys, own_low hG.own HB2.out.size, fun p hp => ints_lower (hG.inner p hp) HB2.out.size, hG.apart⟩, HB2.out.trans (hb3.mono HB2.out.size)⟩⟩
  clear hG hb3 HG
  go_wp2_with fail
  go_loopg [9, 10] (gs.length + 1) (fun kq v9 v10 wr => ∃ (i : Nat), v10 = .int .i64 (i : Int) ∧ i ≤ gs.length ∧ gs.length - i < kq ∧ Aside0 (FS w (.slice A8 gs.length c8) gs es wr v9 (fdX f bf l (gs.take i))))
  case atStart => exact ⟨0, rfl, by omega, by omega, HG1⟩
  case round =>
    obtain ⟨i, rfl, hi, hik, H⟩ := hrel
    obtain ⟨A5, c5, e5⟩ := Kd.R_slice H.out.rows
    have hl5 : (fdX f bf l (gs.take i)).length = i := by unfold fdX; rw [List.length_map, List.length_take]; omega
    rw [hl5] at e5
    subst e5
    by_cases hlt : i < gs.length
    · have q3 : decide ((i : Int) < (gs.length : Int)) = true := decide_eq_true (by omega)
      have p0 : (0 : Int) ≤ (i : Int) := by omega
      have p1 : (i : Int) < (gs.length : Int) := by omega
      obtain ⟨g, e1, xk⟩ := H.out.grp.key i hlt
      subst e1
      have hkin := HKO.out gs[i] (List.getElem_mem hlt)
      have hX : fdX f bf l (gs.take (i + 1)) = fdX f bf l (gs.take i) ++ [resF f bf l gs[i].1] := by
        unfold fdX
        rw [List.take_succ_eq_append_getElem hlt, List.map_append]; rfl
      obtain ⟨K, hK⟩ : ∃ K, gs[i].1 = K := ⟨_, rfl⟩
      rw [hK] at xk hX hkin
      have HKI := Aside0.mk hkin
      have HXi := Aside0.mk hX
      clear hK hX hkin hl5
      obtain ⟨gO, hgO⟩ : ∃ gO, gO = gk := ⟨_, rfl⟩
      rw [← hgO] at hik
      have HgO := Aside0.mk hgO
      clear hgO
      go_wp2_with fail
      go_loopg [12, 13, 14] (bf.length + 1) (fun kq v12 v13 v14 ws => ∃ (j nd : Nat), v14 = .int .i64 (j : Int) ∧ v12 = .bool (hasK (bf.take j) K) ∧ v13 = .int .i64 (lastV (bf.take j) K) ∧ j ≤ bf.length ∧ bf.length - j < kq ∧ Aside0 (ws = wr.drewN nd))
      case atStart => exact ⟨0, 0, rfl, rfl, rfl, by omega, by omega, ⟨by first | rfl | exact (World.drewN_zero _).symm⟩⟩
      case round =>
        obtain ⟨j, nd, rfl, rfl, rfl, hj, hjk, HW⟩ := hrel
        obtain rfl := HW.out
        clear HW
        by_cases hjl : j < bf.length
        · have q4 : decide ((j : Int) < (bf.length : Int)) = true := decide_eq_true (by omega)
          have p2 : (0 : Int) ≤ (j : Int) := by omega
          have p3 : (j : Int) < (bf.length : Int) := by omega
          obtain ⟨ad, e0, g0, g1⟩ := PFn.at_T30 (Kd.C_below HC0.out (pw_below_drewN H.out.bel nd)) (j : Int) p2 p3
          subst e0
          rw [Int.toNat_natCast] at g0 g1
          have erd : PFn.rd_T30 bf (j : Int) = bf[j] := by
            unfold PFn.rd_T30
            rw [Int.toNat_natCast, List.getD_eq_getElem?_getD, List.getElem?_eq_getElem hjl]; rfl
          rw [erd] at g0 g1
          have hh : hasK (bf.take (j + 1)) K = (hasK (bf.take j) K || (bf[j].f0 == K)) := by rw [List.take_succ_eq_append_getElem hjl, hasK_snoc]
          have hv : lastV (bf.take (j + 1)) K = if bf[j].f0 = K then bf[j].f1 else lastV (bf.take j) K := by rw [List.take_succ_eq_append_getElem hjl, lastV_snoc]
          obtain ⟨r, hr⟩ : ∃ r, bf[j] = r := ⟨_, rfl⟩
          rw [hr] at g0 g1 hh hv
          obtain ⟨b0, hb0⟩ : ∃ b0, hasK (bf.take j) K = b0 := ⟨_, rfl⟩
          obtain ⟨x0, hx0⟩ : ∃ x0, lastV (bf.take j) K = x0 := ⟨_, rfl⟩
          rw [hb0] at hh ⊢
          rw [hx0] at hv ⊢
          clear hr erd hb0 hx0
          by_cases hrK : r.f0 = K
          · have q5 : decide (r.f0 = K) = true := decide_eq_true hrK
            have q5b : (r.f0 == K) = true := by rw [beq_iff_eq]; exact hrK
            rw [if_pos hrK] at hv
            rw [q5b, Bool.or_true] at hh
            have HH := Aside0.mk hh
            have HV := Aside0.mk hv
            clear hrK hh hv
            go_wp2_with fail
            go_roundg (gk - 1)
            case measure => omega
            case rel => exact ⟨j + 1, _, (by first | rfl | go_num), by rw [HH.out], by rw [HV.out], by omega, by omega, ⟨by first | rfl | simp⟩⟩
          · have q5 : decide (r.f0 = K) = false := decide_eq_false hrK
            have q5b : (r.f0 == K) = false := by rw [beq_eq_false_iff_ne]; exact hrK
            rw [if_neg hrK] at hv
            rw [q5b, Bool.or_false] at hh
            have HH := Aside0.mk hh
            have HV := Aside0.mk hv
            clear hrK hh hv
            go_wp2_with fail
            go_roundg (gk - 1)
            case measure => omega
            case rel => exact ⟨j + 1, _, (by first | rfl | go_num), by rw [HH.out], by rw [HV.out], by omega, by omega, ⟨by first | rfl | simp⟩⟩
        · obtain rfl : j = bf.length := by omega
          have q4 : decide ((bf.length : Int) < (bf.length : Int)) = false := decide_eq_false (by omega)
          rw [List.take_length]
          have HS := Aside0.mk (H.out.below (pw_below_drewN (Below.refl _ wr) nd))
          obtain ⟨W0, hW0⟩ : ∃ W0, wr.drewN nd = W0 := ⟨_, rfl⟩
          rw [hW0] at HS ⊢
          clear hW0 H xk
          go_wp2_with fail
          go_loopg [15, 16] (l.length + 1) (fun kq v15 v16 wt => ∃ (j : Nat), v16 = .int .i64 (j : Int) ∧ j ≤ l.length ∧ l.length - j < kq ∧ Aside0 (wt.ownsInts W0.heap.size 3 .i64 v15 (valsOf (l.take j) K)) ∧ Aside0 (Below W0.heap.size W0 wt))
          case atStart => exact ⟨0, rfl, by omega, by omega, ⟨World.ownsRow_nil _ _ _ 1, fun z hz => by simp [valsOf] at hz⟩, ⟨Below.refl _ _⟩⟩
          case round =>
            obtain ⟨j, rfl, hj, hjk, HI, HB⟩ := hrel
            obtain ⟨A7, c7, e7, hrd7⟩ := ints_read HI.out
            subst e7
            have HR7 := Aside0.mk hrd7
            clear hrd7
            by_cases hjl : j < l.length
            · have q4 : decide ((j : Int) < (l.length : Int)) = true := decide_eq_true (by omega)
              have p2 : (0 : Int) ≤ (j : Int) := by omega
              have p3 : (j : Int) < (l.length : Int) := by omega
              obtain ⟨ad, e0, g0, g1⟩ := PFn.at_T30 (Kd.C_below HC1.out (HS.out.bel.trans (HB.out.mono HS.out.bel.size))) (j : Int) p2 p3
              subst e0
              rw [Int.toNat_natCast] at g0 g1
              have erd : PFn.rd_T30 l (j : Int) = l[j] := by
                unfold PFn.rd_T30
                rw [Int.toNat_natCast, List.getD_eq_getElem?_getD, List.getElem?_eq_getElem hjl]; rfl
              rw [erd] at g0 g1
              have hv : valsOf (l.take (j + 1)) K = if l[j].f0 = K then valsOf (l.take j) K ++ [l[j].f1] else valsOf (l.take j) K := by rw [List.take_succ_eq_append_getElem hjl, valsOf_snoc]
              have hro := (HOK1.out l[j] (List.getElem_mem hjl)).2
              have hzl : (valsOf (l.take j) K).length ≤ 1000 := by have := valsOf_len (l.take j) K; rw [List.length_take] at this; omega
              obtain ⟨r, hr⟩ : ∃ r, l[j] = r := ⟨_, rfl⟩
              rw [hr] at g0 g1 hv hro
              obtain ⟨zs, hz⟩ : ∃ zs, valsOf (l.take j) K = zs := ⟨_, rfl⟩
              rw [hz] at HI HR7 hv hzl ⊢
              clear hr erd hz
              by_cases hrK : r.f0 = K
              · have q5 : decide (r.f0 = K) = true := decide_eq_true hrK
                have q5b : (r.f0 == K) = true := by rw [beq_iff_eq]; exact hrK
                rw [if_pos hrK] at hv
                have HV := Aside0.mk hv
                have hblk := World.alloc_heap_new wr (.cells #[.int .i64 r.f1] 3)
                have ha : Below wr.heap.size wr (wr.alloc (.cells #[.int .i64 r.f1] 3)) := below_alloc (Below.refl _ wr) _
                obtain ⟨A9, c9, w9, r9, o9, g9⟩ := app_ints W0.heap.size (.slice A7 zs.length c7) zs [r.f1] ⟨wr.heap.size, 0, none⟩ 1 (ints_move HI.out (fun b hbk => ha.block b (HI.out.1.lt b hbk).2)) (fun k y hk => by
                  match k, hk with
                  | 0, hk => obtain rfl := Option.some.inj hk; exact blk_c hblk 0) (fun y hy => by rw [List.mem_singleton.1 hy]; exact hro) (Nat.le_trans HB.out.size ha.size) (by rw [List.length_singleton]; omega)
                have b9 : Below W0.heap.size W0 w9 := (HB.out.trans (ha.mono HB.out.size)).grown g9 (Nat.le_trans HB.out.size ha.size) (fun k hk => (HI.out.1.lt k hk).1)
                have O9 := Aside0.mk o9
                have B9 := Aside0.mk b9
                obtain ⟨n7, hn7⟩ : ∃ n7, zs.length = n7 := ⟨_, rfl⟩
                rw [hn7, List.length_singleton] at r9 O9
                rw [hn7]
                clear hrK hv hblk ha o9 b9 g9 hn7 hzl hro
                go_wp2_with (first
                  | (at_builtin; refine wpList_runG rfl (.tmp 73) (.tmp 79) 31 rfl (.slice A7 n7 c7) (.slice (some ⟨wr.heap.size, 0, none⟩) 1 1) _ w9 rfl rfl r9 ?_)
                  | fail)
                go_roundg (gk - 1)
                case measure => omega
                case rel => exact ⟨j + 1, (by first | rfl | go_num), by omega, by omega, ⟨by rw [HV.out]; exact O9.out⟩, B9⟩
              · have q5 : decide (r.f0 = K) = false := decide_eq_false hrK
                have q5b : (r.f0 == K) = false := by rw [beq_eq_false_iff_ne]; exact hrK
                rw [if_neg hrK] at hv
                have HV := Aside0.mk hv
                obtain ⟨n7, hn7⟩ : ∃ n7, zs.length = n7 := ⟨_, rfl⟩
                rw [hn7] at HI ⊢
                clear hrK hv hn7
                go_wp2_with fail
                go_roundg (gk - 1)
                case measure => omega
                case rel => exact ⟨j + 1, (by first | rfl | go_num), by omega, by omega, ⟨by rw [HV.out]; exact HI.out⟩, HB⟩
            · obtain rfl : j = l.length := by omega
              have q4 : decide ((l.length : Int) < (l.length : Int)) = false := decide_eq_false (by omega)
              rw [List.take_length] at HI HR7 ⊢
              have HKN : Aside0 (hasK bf K = false → 0 < (valsOf l K).length) := ⟨fun h => by
                have h1 := HKI.out
                rw [hasK_append, h, Bool.false_or] at h1
                rcases Nat.eq_zero_or_pos (valsOf l K).length with h0 | h0
                · rw [valsOf_nil.1 (List.eq_nil_of_length_eq_zero h0)] at h1; cases h1
                · exact h0⟩
              have HRES : Aside0 (resF f bf l K = ⟨K, (runV f (lastV bf K, hasK bf K) (valsOf l K)).1⟩) := ⟨rfl⟩
              have HL0 : Aside0 (hasK bf K = false → lastV bf K = 0) := ⟨fun h => lastV_none h⟩
              have hxo := lastV_ok HOK0.out K
              have hvo := valsOf_ok HOK1.out K
              have hvl : (valsOf l K).length ≤ 1000 := by have := valsOf_len l K; omega
              obtain ⟨b0, hb0⟩ : ∃ b0, hasK bf K = b0 := ⟨_, rfl⟩
              obtain ⟨x0, hx0⟩ : ∃ x0, lastV bf K = x0 := ⟨_, rfl⟩
              obtain ⟨vs, hvs⟩ : ∃ vs, valsOf l K = vs := ⟨_, rfl⟩
              rw [hb0, hx0, hvs] at HRES
              rw [hb0] at HKN HL0
              rw [hx0] at HL0 hxo
              rw [hvs] at HKN HI HR7 hvo hvl ⊢
              rw [hb0, hx0]
              have HXO := Aside0.mk hxo
              have HVO := Aside0.mk hvo
              clear hb0 hx0 hvs hxo hvo
              have HSw := Aside0.mk (HS.out.below HB.out)
              have hfin : ∀ (W : World) (X : Int), Below wr.heap.size wr W → resF f bf l K = ⟨K, X⟩ → ∃ A8' c8' w8, (Builtin.append_ #[22, 22] 22 #[.slice A5 i c5, .slice (some ⟨W.heap.size, 0, none⟩) 1 1]).run Try.prog (W.alloc (.cells #[.int .i64 K, .int .i64 X] 30)) = .ok (.slice A8' (i + 1) c8') w8 ∧ FS w (.slice (some ⟨g, 0, none⟩) gs.length c8) gs es w8 (.slice A8' (i + 1) c8') (fdX f bf l (gs.take (i + 1))) := fun W X hb hX => by
                obtain ⟨A8', c8', w8, r8, f8⟩ := (HSw.out.below hb).put ⟨K, X⟩ (by omega)
                exact ⟨A8', c8', w8, r8, by rw [HXi.out, hX]; exact f8⟩
              have HFIN := Aside0.mk hfin
              clear hfin
              cases b0 with
              | false =>
                have hne := HKN.out rfl
                obtain ⟨ad, e0, -⟩ := HR7.out 0 vs[0] (List.getElem?_eq_getElem hne)
                subst e0
                have HT := Aside0.mk (tell_calls f hf ad c7 vs wr hne (by omega) (fun k y hk => by
                  obtain ⟨ad', e, h⟩ := HR7.out k y hk
                  obtain rfl := Option.some.inj e
                  exact h))
                have hx := HL0.out rfl
                subst hx
                clear hne
                go_wp2_with fail
                refine HT.out.mono ?_
                rintro e w9 ⟨rfl, nd, hw9⟩
                obtain ⟨A8', c8', w8, r8, f8⟩ := HFIN.out w9 (tellF f vs) (by rw [hw9]; exact pw_below_drewN (Below.refl _ _) nd) (by rw [HRES.out]; rfl)
                have F8 := Aside0.mk f8
                obtain ⟨t, ht⟩ : ∃ t, tellF f vs = t := ⟨_, rfl⟩
                rw [ht] at r8 ⊢
                clear f8 hw9 ht
                go_wp2_with (first
                  | (at_builtin; refine wpList_runG rfl (.tmp 95) (.tmp 99) 22 rfl (.slice A5 i c5) (.slice (some ⟨w9.heap.size, 0, none⟩) 1 1) _ w8 rfl rfl r8 ?_)
                  | fail)
                go_roundg (gO - 1)
                case measure => have := HgO.out; omega
                case rel => exact ⟨i + 1, (by first | rfl | go_num), by omega, by omega, F8⟩
              | true =>
                by_cases hne : 0 < vs.length
                · have q6 : decide (0 < (vs.length : Int)) = true := decide_eq_true (by omega)
                  obtain ⟨ad, e0, -⟩ := HR7.out 0 vs[0] (List.getElem?_eq_getElem hne)
                  subst e0
                  have HT := Aside0.mk (on_calls f hf x0 HXO.out ad c7 vs wr hne hvl (fun k y hk => by
                    obtain ⟨ad', e, h⟩ := HR7.out k y hk
                    obtain rfl := Option.some.inj e
                    exact h) HVO.out)
                  have q7 : decide (0 < vs.length) = true := decide_eq_true hne
                  go_wp2_with fail
                  refine HT.out.mono ?_
                  rintro e w9 ⟨rfl, hb9⟩
                  obtain ⟨A8', c8', w8, r8, f8⟩ := HFIN.out w9 _ hb9 HRES.out
                  have F8 := Aside0.mk f8
                  obtain ⟨t, ht⟩ : ∃ t, (runV f (x0, true) vs).1 = t := ⟨_, rfl⟩
                  rw [ht] at r8 ⊢
                  clear f8 hb9 ht
                  go_wp2_with (first
                    | (at_builtin; refine wpList_runG rfl (.tmp 95) (.tmp 99) 22 rfl (.slice A5 i c5) (.slice (some ⟨w9.heap.size, 0, none⟩) 1 1) _ w8 rfl rfl r8 ?_)
                    | fail)
                  go_roundg (gO - 1)
                  case measure => have := HgO.out; omega
                  case rel => exact ⟨i + 1, (by first | rfl | go_num), by omega, by omega, F8⟩
                · obtain rfl : vs = [] := List.eq_nil_of_length_eq_zero (by omega)
                  obtain ⟨A8', c8', w8, r8, f8⟩ := HFIN.out wr x0 (Below.refl _ _) HRES.out
                  have F8 := Aside0.mk f8
                  clear f8 hne
                  go_wp2_with (first
                    | (at_builtin; refine wpList_runG rfl (.tmp 95) (.tmp 99) 22 rfl (.slice A5 i c5) (.slice (some ⟨wr.heap.size, 0, none⟩) 1 1) _ w8 rfl rfl r8 ?_)
                    | fail)
                  go_roundg (gO - 1)
                  case measure => have := HgO.out; omega
                  case rel => exact ⟨i + 1, (by first | rfl | go_num), by omega, by omega, F8⟩
    · obtain rfl : i = gs.length := by omega
      have q3 : decide ((gs.length : Int) < (gs.length : Int)) = false := decide_eq_false (by omega)
      rw [List.take_length] at H hl5
      have HCut := Aside0.mk (refCut_calls A5 c5 (fdX f bf l gs) (foldF f bf l) wr (by have := (Kd.R_reads' H.out.rows).2.1; omega) (by omega) HFX.out)
      have hfin : RowsAt wr w.heap.size (.slice A5 (foldF f bf l).length c5) (foldF f bf l) := H.out.rows.pre (by rw [← HFX.out, List.take_eq_take_iff, List.length_take]; omega)
      have HF := Aside0.mk hfin
      rw [hl5] at HCut
      clear hfin hl5
      go_wp2_with fail
      refine HCut.out.mono ?_
      rintro e w4 ⟨rfl, rfl⟩
      go_wp2_with fail
      go_ret
      exact ⟨_, rfl, HF.out, H.out.bel⟩
end Go.Proofs.Ytbbjkgpilmcldaa.Seq
namespace Go.Proofs.Ytbbjkgpilmcldaa.Seq
open Go.RowKit Go.Proofs.YtbbjkgpilmcldaaW.PrintWords Go.Proofs.YtbbjkgpilmcldaaW.PrintLast Go.Proofs.YtbbjkgpilmcldaaW.PrintMore
attribute [local go_sem] max2_int min2_int max_two min_two max_three min_three max_four min_four
set_option linter.unusedVariables false
set_option linter.unusedSimpArgs false
theorem fault_calls (a : Int) (w : World) : Calls Try.prog 67 #[.int .i64 a] w fun e w' => ∃ b, e = .returned (.iface 96 (.pointer (some ⟨b, 0, none⟩))) ∧ Below w.heap.size w w' := by
  go_enter Try.func67, Try.ntmps67
  go_wp2
  go_ret
  exact ⟨_, rfl, (Below.refl _ _).alloc (Nat.le_refl _) _⟩
def rV (o : Option Int) (b : Nat) : Value := match o with
  | none => .nilIface
  | some _ => .iface 96 (.pointer (some ⟨b, 0, none⟩))
/-- The least and the greatest function of a kind, and whether there is such a kind. -/
def funs (k : Int) : Int × Int × Bool := if k = 1 ∨ k = 5 then (0, 0, true) else if k = 2 ∨ k = 6 ∨ k = 8 then (0, 5, true) else if k = 3 then (0, 4, true) else if k = 4 then (1, 4, true) else if k = 7 then (0, 3, true) else (0, 0, false)
set_option maxHeartbeats 8000000 in
theorem functions_calls (k : Int) (w : World) : Calls Try.prog 66 #[.int .i64 k] w fun e w' => e = .returned (.tuple #[.int .i64 (funs k).1, .int .i64 (funs k).2.1, .bool (funs k).2.2]) ∧ w = w' := by
  have H := Aside0.mk (rfl : funs k = funs k)
  rcases (by omega : (k < 1 ∨ 8 < k) ∨ k = 1 ∨ k = 2 ∨ k = 3 ∨ k = 4 ∨ k = 5 ∨ k = 6 ∨ k = 7 ∨ k = 8) with h | rfl | rfl | rfl | rfl | rfl | rfl | rfl | rfl
  · have e : funs k = (0, 0, false) := by unfold funs; simp only [show ¬ (k = 1 ∨ k = 5) by omega, show ¬ (k = 2 ∨ k = 6 ∨ k = 8) by omega, show ¬ k = 3 by omega, show ¬ k = 4 by omega, show ¬ k = 7 by omega, if_false]
    have h1 : (k == 1) = false := beq_false_of_ne (by omega)
    have h2 : (k == 2) = false := beq_false_of_ne (by omega)
    have h3 : (k == 3) = false := beq_false_of_ne (by omega)
    have h4 : (k == 4) = false := beq_false_of_ne (by omega)
    have h5 : (k == 5) = false := beq_false_of_ne (by omega)
    have h6 : (k == 6) = false := beq_false_of_ne (by omega)
    have h7 : (k == 7) = false := beq_false_of_ne (by omega)
    have h8 : (k == 8) = false := beq_false_of_ne (by omega)
    rw [e]; clear e h H
    go_enter Try.func66, Try.ntmps66
    go_wp2
    go_ret3
    exact ⟨rfl, rfl⟩
  all_goals
    go_enter Try.func66, Try.ntmps66
    go_wp2
    go_ret3
    exact ⟨rfl, rfl⟩
/-- What is wrong with an operation: the field. -/
def wrong (k f c : Int) : Option Int := if (funs k).2.2 = false then some 0 else if f < (funs k).1 ∨ (funs k).2.1 < f then some 1 else if c < -999999999 ∨ 999999999 < c ∨ (c ≠ 0 ∧ ¬ (k = 2 ∨ k = 3 ∨ k = 4)) then some 2 else none
theorem functions_as {k lo hi : Int} {ok : Bool} (h : funs k = (lo, hi, ok)) (w : World) : Calls Try.prog 66 #[.int .i64 k] w fun e w' => e = .returned (.tuple #[.int .i64 lo, .int .i64 hi, .bool ok]) ∧ w = w' := by
  have := functions_calls k w
  rw [h] at this
  exact this
set_option maxRecDepth 20000 in
set_option maxHeartbeats 16000000 in
theorem right_calls (q0 q1 q2 q3 q4 : Int) (w : World) : Calls Try.prog 45 #[.agg #[.int .i64 q0, .int .i64 q1, .int .i64 q2, .int .i64 q3, .int .i64 q4]] w fun e w' => ∃ b, e = .returned (rV (wrong q0 q3 q4) b) ∧ Below w.heap.size w w' := by
  obtain ⟨F, hF⟩ : ∃ F, funs q0 = F := ⟨_, rfl⟩
  obtain ⟨lo, hi, ok⟩ := F
  have HF := Aside0.mk hF
  have HB0 := Aside0.mk ((Below.refl w.heap.size w).alloc (Nat.le_refl _) (Obj.cells #[.int .i64 q0, .int .i64 q1, .int .i64 q2, .int .i64 q3, .int .i64 q4] 54))
  obtain ⟨o, ho⟩ : ∃ o, wrong q0 q3 q4 = o := ⟨_, rfl⟩
  have HW := Aside0.mk ho
  rw [ho]
  unfold wrong at ho
  rw [hF] at ho
  clear hF
  cases ok
  · rw [if_pos rfl] at ho
    subst ho
    clear HW
    go_enter Try.func45, Try.ntmps45
    go_wp2_with (first | (go_at_call 66; refine (functions_as HF.out _).mono ?_; rintro e w' ⟨rfl, rfl⟩) | (go_at_call 67; refine (fault_calls _ _).mono ?_; rintro e w' ⟨b, rfl, hb⟩))
    go_ret
    exact ⟨b, rfl, HB0.out.trans (hb.mono HB0.out.size)⟩
  rw [if_neg (by simp)] at ho
  simp only [] at ho
  cases h1 : decide (q3 < lo)
  · cases h2 : decide (hi < q3)
    · cases h3 : decide (q4 < -999999999)
      · cases h4 : decide (999999999 < q4)
        · cases h5 : (q4 == 0)
          · cases h6 : (q0 == 2)
            · cases h7 : (q0 == 3)
              · cases h8 : (q0 == 4)
                · have ho' : o = some 2 := by
                    simp only [decide_eq_true_eq, decide_eq_false_iff_not, beq_iff_eq, beq_eq_false_iff_ne, ne_eq] at h1 h2 h3 h4 h5 h6 h7 h8
                    rw [if_neg (by omega), if_pos (by omega)] at ho; exact ho.symm
                  subst ho'
                  clear ho HW
                  have n5 : (q4 != 0) = !(q4 == 0) := rfl; rw [h5] at n5; simp only [Bool.not_true, Bool.not_false] at n5
                  have n6 : (q0 != 2) = !(q0 == 2) := rfl; rw [h6] at n6; simp only [Bool.not_true, Bool.not_false] at n6
                  have n7 : (q0 != 3) = !(q0 == 3) := rfl; rw [h7] at n7; simp only [Bool.not_true, Bool.not_false] at n7
                  have n8 : (q0 != 4) = !(q0 == 4) := rfl; rw [h8] at n8; simp only [Bool.not_true, Bool.not_false] at n8
                  go_enter Try.func45, Try.ntmps45
                  go_wp2_with (first | (go_at_call 66; refine (functions_as HF.out _).mono ?_; rintro e w' ⟨rfl, rfl⟩) | (go_at_call 67; refine (fault_calls _ _).mono ?_; rintro e w' ⟨b, rfl, hb⟩))
                  go_ret
                  exact ⟨b, rfl, HB0.out.trans (hb.mono HB0.out.size)⟩
                · have ho' : o = none := by
                    simp only [decide_eq_true_eq, decide_eq_false_iff_not, beq_iff_eq, beq_eq_false_iff_ne, ne_eq] at h1 h2 h3 h4 h5 h6 h7 h8
                    rw [if_neg (by omega), if_neg (by omega)] at ho; exact ho.symm
                  subst ho'
                  clear ho HW
                  have n5 : (q4 != 0) = !(q4 == 0) := rfl; rw [h5] at n5; simp only [Bool.not_true, Bool.not_false] at n5
                  have n6 : (q0 != 2) = !(q0 == 2) := rfl; rw [h6] at n6; simp only [Bool.not_true, Bool.not_false] at n6
                  have n7 : (q0 != 3) = !(q0 == 3) := rfl; rw [h7] at n7; simp only [Bool.not_true, Bool.not_false] at n7
                  have n8 : (q0 != 4) = !(q0 == 4) := rfl; rw [h8] at n8; simp only [Bool.not_true, Bool.not_false] at n8
                  go_enter Try.func45, Try.ntmps45
                  go_wp2_with (first | (go_at_call 66; refine (functions_as HF.out _).mono ?_; rintro e w' ⟨rfl, rfl⟩) | (go_at_call 67; refine (fault_calls _ _).mono ?_; rintro e w' ⟨b, rfl, hb⟩))
                  go_ret
                  exact ⟨0, rfl, HB0.out⟩
              · have ho' : o = none := by
                  simp only [decide_eq_true_eq, decide_eq_false_iff_not, beq_iff_eq, beq_eq_false_iff_ne, ne_eq] at h1 h2 h3 h4 h5 h6 h7
                  rw [if_neg (by omega), if_neg (by omega)] at ho; exact ho.symm
                subst ho'
                clear ho HW
                have n5 : (q4 != 0) = !(q4 == 0) := rfl; rw [h5] at n5; simp only [Bool.not_true, Bool.not_false] at n5
                have n6 : (q0 != 2) = !(q0 == 2) := rfl; rw [h6] at n6; simp only [Bool.not_true, Bool.not_false] at n6
                have n7 : (q0 != 3) = !(q0 == 3) := rfl; rw [h7] at n7; simp only [Bool.not_true, Bool.not_false] at n7
                go_enter Try.func45, Try.ntmps45
                go_wp2_with (first | (go_at_call 66; refine (functions_as HF.out _).mono ?_; rintro e w' ⟨rfl, rfl⟩) | (go_at_call 67; refine (fault_calls _ _).mono ?_; rintro e w' ⟨b, rfl, hb⟩))
                go_ret
                exact ⟨0, rfl, HB0.out⟩
            · have ho' : o = none := by
                simp only [decide_eq_true_eq, decide_eq_false_iff_not, beq_iff_eq, beq_eq_false_iff_ne, ne_eq] at h1 h2 h3 h4 h5 h6
                rw [if_neg (by omega), if_neg (by omega)] at ho; exact ho.symm
              subst ho'
              clear ho HW
              have n5 : (q4 != 0) = !(q4 == 0) := rfl; rw [h5] at n5; simp only [Bool.not_true, Bool.not_false] at n5
              have n6 : (q0 != 2) = !(q0 == 2) := rfl; rw [h6] at n6; simp only [Bool.not_true, Bool.not_false] at n6
              go_enter Try.func45, Try.ntmps45
              go_wp2_with (first | (go_at_call 66; refine (functions_as HF.out _).mono ?_; rintro e w' ⟨rfl, rfl⟩) | (go_at_call 67; refine (fault_calls _ _).mono ?_; rintro e w' ⟨b, rfl, hb⟩))
              go_ret
              exact ⟨0, rfl, HB0.out⟩
          · have ho' : o = none := by
              simp only [decide_eq_true_eq, decide_eq_false_iff_not, beq_iff_eq, beq_eq_false_iff_ne, ne_eq] at h1 h2 h3 h4 h5
              rw [if_neg (by omega), if_neg (by omega)] at ho; exact ho.symm
            subst ho'
            clear ho HW
            have n5 : (q4 != 0) = !(q4 == 0) := rfl; rw [h5] at n5; simp only [Bool.not_true, Bool.not_false] at n5
            go_enter Try.func45, Try.ntmps45
            go_wp2_with (first | (go_at_call 66; refine (functions_as HF.out _).mono ?_; rintro e w' ⟨rfl, rfl⟩) | (go_at_call 67; refine (fault_calls _ _).mono ?_; rintro e w' ⟨b, rfl, hb⟩))
            go_ret
            exact ⟨0, rfl, HB0.out⟩
        · have ho' : o = some 2 := by
            simp only [decide_eq_true_eq, decide_eq_false_iff_not, beq_iff_eq, beq_eq_false_iff_ne, ne_eq] at h1 h2 h3 h4
            rw [if_neg (by omega), if_pos (by omega)] at ho; exact ho.symm
          subst ho'
          clear ho HW
          go_enter Try.func45, Try.ntmps45
          go_wp2_with (first | (go_at_call 66; refine (functions_as HF.out _).mono ?_; rintro e w' ⟨rfl, rfl⟩) | (go_at_call 67; refine (fault_calls _ _).mono ?_; rintro e w' ⟨b, rfl, hb⟩))
          go_ret
          exact ⟨b, rfl, HB0.out.trans (hb.mono HB0.out.size)⟩
      · have ho' : o = some 2 := by
          simp only [decide_eq_true_eq, decide_eq_false_iff_not, beq_iff_eq, beq_eq_false_iff_ne, ne_eq] at h1 h2 h3
          rw [if_neg (by omega), if_pos (by omega)] at ho; exact ho.symm
        subst ho'
        clear ho HW
        go_enter Try.func45, Try.ntmps45
        go_wp2_with (first | (go_at_call 66; refine (functions_as HF.out _).mono ?_; rintro e w' ⟨rfl, rfl⟩) | (go_at_call 67; refine (fault_calls _ _).mono ?_; rintro e w' ⟨b, rfl, hb⟩))
        go_ret
        exact ⟨b, rfl, HB0.out.trans (hb.mono HB0.out.size)⟩
    · have ho' : o = some 1 := by
        simp only [decide_eq_true_eq, decide_eq_false_iff_not, beq_iff_eq, beq_eq_false_iff_ne, ne_eq] at h1 h2
        rw [if_pos (by omega)] at ho; exact ho.symm
      subst ho'
      clear ho HW
      go_enter Try.func45, Try.ntmps45
      go_wp2_with (first | (go_at_call 66; refine (functions_as HF.out _).mono ?_; rintro e w' ⟨rfl, rfl⟩) | (go_at_call 67; refine (fault_calls _ _).mono ?_; rintro e w' ⟨b, rfl, hb⟩))
      go_ret
      exact ⟨b, rfl, HB0.out.trans (hb.mono HB0.out.size)⟩
  · have ho' : o = some 1 := by
      simp only [decide_eq_true_eq, decide_eq_false_iff_not, beq_iff_eq, beq_eq_false_iff_ne, ne_eq] at h1
      rw [if_pos (by omega)] at ho; exact ho.symm
    subst ho'
    clear ho HW
    go_enter Try.func45, Try.ntmps45
    go_wp2_with (first | (go_at_call 66; refine (functions_as HF.out _).mono ?_; rintro e w' ⟨rfl, rfl⟩) | (go_at_call 67; refine (fault_calls _ _).mono ?_; rintro e w' ⟨b, rfl, hb⟩))
    go_ret
    exact ⟨b, rfl, HB0.out.trans (hb.mono HB0.out.size)⟩

/-! ### the document's Right -/
theorem fun3_eq (q : Int) (k : Nat) (hk : 1 ≤ k) : PRf.tributaryref3_functions.f k q = some ((funs q).1, (funs q).2.1) := by
  obtain ⟨k, rfl⟩ : ∃ e, k = e + 1 := ⟨k - 1, by omega⟩
  unfold PRf.tributaryref3_functions.f
  rcases (by omega : (q < 1 ∨ 8 < q) ∨ q = 1 ∨ q = 2 ∨ q = 3 ∨ q = 4 ∨ q = 5 ∨ q = 6 ∨ q = 7 ∨ q = 8) with h | rfl | rfl | rfl | rfl | rfl | rfl | rfl | rfl
  · have e : funs q = (0, 0, false) := by
      unfold funs
      simp only [show ¬ (q = 1 ∨ q = 5) by omega, show ¬ (q = 2 ∨ q = 6 ∨ q = 8) by omega, show ¬ q = 3 by omega, show ¬ q = 4 by omega, show ¬ q = 7 by omega, if_false]
    have h8 : (q == 8) = false := beq_false_of_ne (by omega)
    rw [if_neg (by omega), if_neg (by omega), e, h8, PRf.tributaryref3_functions.j0, if_neg (by simp), if_neg (by omega), if_neg (by omega), if_neg (by omega)]
  all_goals rfl
def wrongP (q f c : Int) : Int := (wrong q f c).getD (-1)
theorem wrong_ge {q f c p : Int} (h : wrong q f c = some p) : 0 ≤ p ∧ p ≤ 2 := by
  unfold wrong at h
  repeat' split at h
  all_goals (cases h; try decide)
theorem right2_eq (q0 q1 q2 q3 q4 : Int) (k : Nat) (hk : 10 ≤ k) : PRf.tributaryref3_Right.f k q0 q1 q2 q3 q4 = some (wrongP q0 q3 q4) := by
  obtain ⟨k, rfl⟩ : ∃ e, k = e + 10 := ⟨k - 10, by omega⟩
  unfold PRf.tributaryref3_Right.f wrongP wrong
  by_cases hq : q0 < 1 ∨ 8 < q0
  · have e : funs q0 = (0, 0, false) := by
      unfold funs
      simp only [show ¬ (q0 = 1 ∨ q0 = 5) by omega, show ¬ (q0 = 2 ∨ q0 = 6 ∨ q0 = 8) by omega, show ¬ q0 = 3 by omega, show ¬ q0 = 4 by omega, show ¬ q0 = 7 by omega, if_false]
    rw [e, if_pos rfl]
    by_cases h1 : q0 < 1
    · rw [if_pos h1, PRf.tributaryref3_Right.j0, if_pos rfl]; rfl
    · rw [if_neg h1, show decide (q0 > 8) = true from decide_eq_true (by omega), PRf.tributaryref3_Right.j0, if_pos rfl]; rfl
  have e : (funs q0).2.2 = true := by
    rcases (by omega : q0 = 1 ∨ q0 = 2 ∨ q0 = 3 ∨ q0 = 4 ∨ q0 = 5 ∨ q0 = 6 ∨ q0 = 7 ∨ q0 = 8) with rfl | rfl | rfl | rfl | rfl | rfl | rfl | rfl <;> decide
  rw [if_neg (show ¬ q0 < 1 by omega), show decide (q0 > 8) = false from decide_eq_false (by omega), PRf.tributaryref3_Right.j0, if_neg (show ¬ (false = true) by decide), fun3_eq q0 _ (by omega), e, if_neg (show ¬ (true = false) by decide)]
  simp only [Option.bind_some]
  by_cases h1 : q3 < (funs q0).1
  · rw [if_pos h1, if_pos (Or.inl h1), PRf.tributaryref3_Right.j1, if_pos rfl]; rfl
  rw [if_neg h1]
  by_cases h2 : (funs q0).2.1 < q3
  · rw [show decide (q3 > (funs q0).2.1) = true from decide_eq_true h2, if_pos (Or.inr h2), PRf.tributaryref3_Right.j1, if_pos rfl]; rfl
  rw [show decide (q3 > (funs q0).2.1) = false from decide_eq_false h2, if_neg (by omega), PRf.tributaryref3_Right.j1, if_neg (by decide)]
  by_cases h3 : q4 > 999999999
  · rw [if_pos h3, if_pos (by omega)]; rfl
  rw [if_neg h3]
  by_cases h4 : q4 < -999999999
  · rw [if_pos h4, if_pos (by omega)]; rfl
  rw [if_neg h4]
  by_cases h5 : q4 = 0
  · rw [if_pos h5, if_neg (by omega)]; rfl
  rw [if_neg h5]
  by_cases h6 : q0 = 1
  · rw [if_pos h6, if_pos (by omega)]; rfl
  rw [if_neg h6]
  by_cases h7 : q0 ≥ 5
  · rw [if_pos h7, if_pos (by omega)]; rfl
  rw [if_neg h7, if_neg (by omega)]; rfl
end Go.Proofs.Ytbbjkgpilmcldaa.Seq
