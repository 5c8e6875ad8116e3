/- Proved: what the document's Groups hands back; condition: at most 1000 rows of numbers that fit. -/
import Derived.Test.YtbbjkgpilmcldaaGrpG
import Derived.Deep.RegionLaw
namespace Go.Proofs.Ytbbjkgpilmcldaa.Seq
open Go.RowKit Go.Maps Go.ChangeShapes Go.Shelf
open Go.Proofs.YtbbjkgpilmcldaaW.PrintWords Go.Proofs.YtbbjkgpilmcldaaW.PrintLast Go.Proofs.YtbbjkgpilmcldaaW.PrintMore
attribute [local go_sem] Oper.semAt_some store_func
set_option linter.unusedVariables false
set_option linter.unusedSimpArgs false
section
variable {P : Program} {w : World} {ops : Array Oper} {rest : List Oper} {o : Oper} {a : Act} {Q : Exit → Act → World → Prop} {K : Act → World → Prop} {E : Prop}
theorem wpList_runG (hgd : o.guard = none) (s x : Operand) (t : TypeId) (ho : o.op = .call { callee := .builtin .append, args := #[s, x], argTypes := #[t, t] }) (v u v1 : Value) (w1 : World) (hs : a.eval s = v) (hx : a.eval x = u) (hr : (Builtin.append_ #[t, t] o.type #[v, u]).run P w = .ok v1 w1)
    (h : wpList P ops Q rest (a.put o.dst v1) w1) : wpList P ops Q (o :: rest) a w := by
  refine wpList_plain hgd fun K hK => ?_
  unfold Oper.wp execOp
  simp only [ho, resolve, invoke, builtin, Sem.run_bind, Sem.run_pure, Result.andThen_ok, List.map_toArray, List.map_cons, List.map_nil, hs, hx, hr]
  exact hK _ _ h
theorem law_appendG (hw : Region.wanted o (yielded ops a.tmps) = true) (s x : Operand) (t : TypeId) (ho : o.op = .call { callee := .builtin .append, args := #[s, x], argTypes := #[t, t] }) (v u v1 : Value) (w1 : World) (hs : a.eval s = v) (hx : a.eval x = u) (hr : (Builtin.append_ #[t, t] o.type #[v, u]).run P w = .ok v1 w1)
    (h : K (a.put o.dst v1) w1) : if Region.wanted o (yielded ops a.tmps) = true then Oper.wp P o a w K Q else E := by
  rw [if_pos hw]
  unfold Oper.wp execOp
  simp only [ho, resolve, invoke, builtin, Sem.run_bind, Sem.run_pure, Result.andThen_ok, List.map_toArray, List.map_cons, List.map_nil, hs, hx, hr]
  exact h
end
/-- A group's key, where it lies. -/
theorem GAx.key {W : World} {base : Nat} {A : Option Addr} {n c : Nat} {gs : List GrpP} {es : List (Int × Value)} (h : GAx W base (.slice A n c) gs es) (k : Nat) (hk : k < gs.length) : ∃ g, A = some ⟨g, 0, none⟩ ∧ W.cell? ⟨g, k * 2, none⟩ = some (.int .i64 gs[k].1) := by
  have hlen := h.len
  rcases h.own.2 with ⟨_, h0⟩ | ⟨g, cap, cur, e, _⟩
  · omega
  · injection e with e _ _
    subst e
    refine ⟨g, rfl, ?_⟩
    have h1 := (gcells_get es k es[k] (List.getElem?_eq_getElem (by omega))).1
    have h2 := h.own.cells (g := g) (by simp [Value.ownBlock]) _ _ h1
    rw [add_plain] at h2
    rw [h2, (h.at_ k (by omega) hk).2]
theorem ensure_at (gs : List GrpP) (key : Int) {n : Nat} (h : ∀ (k : Nat) (hk : k < gs.length), gs[k].2.length ≤ n) : ∃ vs, (ensureG gs key)[posI (gs.map (·.1)) key]? = some (key, vs) ∧ vs.length ≤ n := by
  have hpl := posI_le (gs.map (·.1)) key
  rw [List.length_map] at hpl
  unfold ensureG
  by_cases e : (gs.map (·.1))[posI (gs.map (·.1)) key]? = some key
  · rw [if_pos e]
    rw [List.getElem?_map] at e
    cases h1 : gs[posI (gs.map (·.1)) key]? with
    | none => rw [h1] at e; cases e
    | some g =>
      rw [h1] at e
      obtain ⟨h2, h3⟩ := List.getElem?_eq_some_iff.1 h1
      refine ⟨g.2, ?_, by rw [← h3]; exact h _ h2⟩
      rw [← (show g.1 = key from Option.some.inj e)]
  · rw [if_neg e]
    exact ⟨[], by rw [List.getElem?_append_right (by rw [List.length_take]; omega), List.length_take, Nat.min_eq_left hpl, Nat.sub_self]; rfl, Nat.zero_le _⟩
set_option maxHeartbeats 4000000 in
set_option maxRecDepth 100000 in
theorem grp_calls (A0 : Option Addr) (c0 : Nat) (l : List RowT) (w : World) (hC : kRow.C w A0 l.length l) (hlen : l.length ≤ 1000) (hok : ∀ r ∈ l, okRow r) :
    Calls Try.prog 16 #[.slice A0 l.length c0] w fun e w' => ∃ v es, e = .returned v ∧ GAx w' w.heap.size v (groupsOf l) es ∧ Below w.heap.size w w' := by
  have HC := Aside0.mk hC
  have HOK := Aside0.mk hok
  clear hC hok
  go_enter Try.func16, Try.ntmps16
  go_wp2_with fail
  go_loopg [3, 4] (l.length + 1) (fun kq v3 v4 wr => ∃ (i : Nat) (es : List (Int × Value)), v4 = .int .i64 (i : Int) ∧ i ≤ l.length ∧ l.length - i < kq ∧ Aside0 (GAx wr w.heap.size v3 (groupsOf (l.take i)) es) ∧ Aside0 (Below w.heap.size w wr))
  case atStart => exact ⟨0, [], rfl, by omega, by omega, ⟨by rw [List.take_zero, groups_nil]; exact GAx.nil _ _⟩, ⟨Below.refl _ _⟩⟩
  case round =>
    obtain ⟨i, es, rfl, hi, hik, G, HB⟩ := hrel
    by_cases hlt : i < l.length
    · have q1 : decide ((i : Int) < (l.length : Int)) = true := decide_eq_true (by omega)
      have p0 : (0 : Int) ≤ (i : Int) := by omega
      have p1 : (i : Int) < (l.length : Int) := by omega
      obtain ⟨ad, e0, g0, g1⟩ := PFn.at_T30 (Kd.C_below HC.out HB.out) (i : Int) p0 p1
      subst e0
      rw [Int.toNat_natCast] at g0 g1
      have erd : PFn.rd_T30 l (i : Int) = l[i] := by
        unfold PFn.rd_T30
        rw [Int.toNat_natCast, List.getD_eq_getElem?_getD, List.getElem?_eq_getElem hlt]; rfl
      rw [erd] at g0 g1
      have hxok := HOK.out l[i] (List.getElem_mem hlt)
      have HP := Aside0.mk (push_groups (l.take i) l[i])
      have htk : l.take (i + 1) = l.take i ++ [l[i]] := List.take_succ_eq_append_getElem hlt
      have HTK := Aside0.mk htk
      obtain ⟨gs, hgs⟩ : ∃ gs, groupsOf (l.take i) = gs := ⟨_, rfl⟩
      have hgl : gs.length ≤ 1000 := by rw [← hgs]; have := groups_len (l.take i); rw [List.length_take] at this; omega
      have hvl : ∀ (k : Nat) (hk : k < gs.length), gs[k].2.length ≤ 1000 := by
        intro k hk
        have := groups_vals (l.take i) gs[k] (by rw [hgs]; exact List.getElem_mem hk)
        rw [List.length_take] at this
        omega
      rw [hgs] at G HP
      obtain ⟨x, hx⟩ : ∃ x, l[i] = x := ⟨_, rfl⟩
      rw [hx] at g0 g1 hxok HP HTK
      have HVL := Aside0.mk hvl
      have HXO := Aside0.mk hxok
      obtain ⟨A3, c3, e3⟩ := own_slice' G.out.own
      subst e3
      clear hgs htk erd hx hvl hxok
      have X0 := Aside0.mk g0
      have X1 := Aside0.mk g1
      clear g0 g1
      go_upto_block 2 with fail
      go_cut [5] from 13 to 31 (fun v5 wc => v5 = .int .i64 ((posI (gs.map (·.1)) x.f0 : Nat) : Int) ∧ ∃ nd, Aside0 (wc = wr.drewN nd))
      case first =>
        have x0 := X0.out
        go_wp2_with fail
        go_loopg [5] (gs.length + 1) (fun kq v5 ws => ∃ (k nd : Nat), v5 = .int .i64 (k : Int) ∧ k ≤ gs.length ∧ gs.length - k < kq ∧ Aside0 (∀ (j : Nat) (hj : j < (gs.map (·.1)).length), j < k → (gs.map (·.1))[j] < x.f0) ∧ Aside0 (ws = wr.drewN nd))
        case atStart => exact ⟨0, 0, rfl, by omega, by omega, ⟨fun j _ h => by omega⟩, ⟨rfl⟩⟩
        case round =>
          obtain ⟨k, nd, rfl, hk, hkk, HK, HW⟩ := hrel
          obtain rfl := HW.out
          clear HW
          have hlenE := G.out.len
          by_cases hkn : k < gs.length
          · have q2 : decide (k < gs.length) = true := decide_eq_true hkn
            have q2' : decide ((k : Int) < (gs.length : Int)) = true := decide_eq_true (by omega)
            obtain ⟨g, e1, xk⟩ := G.out.key k hkn
            subst e1
            have p2 : (0 : Int) ≤ (k : Int) := by omega
            have p3 : (k : Int) < (gs.length : Int) := by omega
            have hkm : (gs.map (·.1))[k]'(by rw [List.length_map]; exact hkn) = gs[k].1 := List.getElem_map ..
            obtain ⟨K, hK⟩ : ∃ K, gs[k].1 = K := ⟨_, rfl⟩
            rw [hK] at xk hkm
            by_cases hlk : K < x.f0
            · have q3 : decide (K < x.f0) = true := decide_eq_true hlk
              go_wp2_with fail
              go_quiet (fail)
              go_wp2
              go_roundg (gk - 1)
              case measure => omega
              case rel =>
                refine ⟨k + 1, nd + nq, (by first | rfl | go_num), by omega, by omega, ⟨fun j hj hjk => ?_⟩, ⟨by first | rfl | simp⟩⟩
                by_cases e : j = k
                · subst e; rw [hkm]; exact hlk
                · exact HK.out j hj (by omega)
            · have q3 : decide (K < x.f0) = false := decide_eq_false hlk
              go_wp2_with fail
              go_quiet (fail)
              go_wp2
              go_meet
              case rel => exact ⟨by rw [posI_eq HK.out (by rw [List.length_map]; omega) (fun _ => by rw [hkm]; omega)], nd + nq, ⟨by first | rfl | simp⟩⟩
          · obtain rfl : k = gs.length := by omega
            have q2 : decide ((gs.length : Int) < (gs.length : Int)) = false := decide_eq_false (by omega)
            go_wp2_with fail
            go_quiet (fail)
            go_wp2
            go_meet
            case rel => exact ⟨by rw [posI_eq HK.out (by rw [List.length_map]; omega) (fun h => by rw [List.length_map] at h; omega)], nd + nq, ⟨by first | rfl | simp⟩⟩
      case rest =>
        obtain ⟨rfl, nd, HW⟩ := hcut
        obtain rfl := HW.out
        clear HW
        have hpl := posI_le (gs.map (·.1)) x.f0
        rw [List.length_map] at hpl
        have hEN : ensureG gs x.f0 = if (gs.map (·.1))[posI (gs.map (·.1)) x.f0]? = some x.f0 then gs else gs.take (posI (gs.map (·.1)) x.f0) ++ (x.f0, []) :: gs.drop (posI (gs.map (·.1)) x.f0) := rfl
        have HPU : Aside0 (pushG gs x.f0 x.f1 = (ensureG gs x.f0).set (posI (gs.map (·.1)) x.f0) (x.f0, (((ensureG gs x.f0)[posI (gs.map (·.1)) x.f0]?).getD (x.f0, [])).2 ++ [x.f1])) := ⟨rfl⟩
        obtain ⟨p, hp⟩ : ∃ p, posI (gs.map (·.1)) x.f0 = p := ⟨_, rfl⟩
        have HPE := Aside0.mk hp
        rw [hp] at hpl hEN HPU ⊢
        have HEN := Aside0.mk hEN
        have hbd := pw_below_drewN (Below.refl wr.heap.size wr) nd
        have G2 := Aside0.mk (G.out.below hbd)
        have HB2 := Aside0.mk (HB.out.trans (hbd.mono HB.out.size))
        have Y0 : Aside0 ((wr.drewN nd).cell? (ad.add (i * 2)) = some (.int .i64 x.f0)) := ⟨cell_keepS hbd X0.out⟩
        have Y1 := Aside0.mk (cell_keepS hbd X1.out)
        obtain ⟨wd, hwd⟩ : ∃ wd, wr.drewN nd = wd := ⟨_, rfl⟩
        rw [hwd] at G2 HB2 Y0 Y1 ⊢
        clear hwd hbd G HB X0 X1 hEN hp
        go_upto_region 8 with fail
        go_cut [48] from 32 to 67 (fun v48 wc => v48 = .bool (!decide ((gs.map (·.1))[p]? = some x.f0)) ∧ ∃ nd, Aside0 (wc = wd.drewN nd))
        case first =>
          have xa := Y0.out
          have hlenE := G2.out.len
          by_cases hpn : p < gs.length
          · obtain ⟨g, e1, xk⟩ := G2.out.key p hpn
            subst e1
            have q2 : (((p : Nat) : Int) == (gs.length : Int)) = false := by rw [beq_eq_false_iff_ne]; omega
            have p2 : (0 : Int) ≤ (p : Int) := by omega
            have p3 : (p : Int) < (gs.length : Int) := by omega
            have hgk : (gs.map (·.1))[p]? = some gs[p].1 := by rw [List.getElem?_map, List.getElem?_eq_getElem hpn, Option.map_some]
            obtain ⟨K, hK⟩ : ∃ K, gs[p].1 = K := ⟨_, rfl⟩
            rw [hK] at xk hgk
            clear hK
            have hdec : (K != x.f0) = (!decide ((gs.map (·.1))[p]? = some x.f0)) := by
              rw [hgk]
              by_cases e : K = x.f0
              · subst e; simp
              · rw [decide_eq_false (fun e1 => e (Option.some.inj e1))]; simpa using e
            have HDEC := Aside0.mk hdec
            clear hdec hgk
            go_wp2_with fail
            go_quiet (fail)
            go_wp2
            go_meet
            case rel => exact ⟨by rw [← HDEC.out], nq, ⟨rfl⟩⟩
          · obtain rfl : p = gs.length := by omega
            have q2 : (((gs.length : Nat) : Int) == (gs.length : Int)) = true := by rw [beq_iff_eq]
            have HDEC : Aside0 (true = (!decide ((gs.map (·.1))[gs.length]? = some x.f0))) := ⟨by rw [List.getElem?_map, List.getElem?_eq_none (Nat.le_refl _)]; simp⟩
            go_wp2_with fail
            go_quiet (fail)
            go_wp2
            go_meet
            case rel => exact ⟨by rw [← HDEC.out], nq, ⟨rfl⟩⟩
        case rest =>
        obtain ⟨rfl, nd, HW⟩ := hcut
        obtain rfl := HW.out
        clear HW
        have hbd := pw_below_drewN (Below.refl wd.heap.size wd) nd
        have G3 := Aside0.mk (G2.out.below hbd)
        have HB3 := Aside0.mk (HB2.out.trans (hbd.mono HB2.out.size))
        have Z0 : Aside0 ((wd.drewN nd).cell? (ad.add (i * 2)) = some (.int .i64 x.f0)) := ⟨cell_keepS hbd Y0.out⟩
        have Z1 := Aside0.mk (cell_keepS hbd Y1.out)
        obtain ⟨b, hb⟩ : ∃ b, decide ((gs.map (·.1))[p]? = some x.f0) = b := ⟨_, rfl⟩
        rw [hb]
        obtain ⟨we, hwe⟩ : ∃ we, wd.drewN nd = we := ⟨_, rfl⟩
        rw [hwe] at G3 HB3 Z0 Z1 ⊢
        clear hwe hbd G2 HB2 Y0 Y1
        have hnc := (G3.out.src p hpl).2.2.2
        go_upto_if 48 with fail
        go_cut [3, 6] from 32 to 67 (fun v3 v6 wc => ∃ es', Aside0 (GAx wc w.heap.size v3 (ensureG gs x.f0) es') ∧ Aside0 (Below we.heap.size we wc))
        case first =>
          cases b
          · -- the key is new
            obtain ⟨v1, w1, v2, w3, v3, w4, r1, r2, r3, hgr, hb4, hb1⟩ := G3.out.insert p hpl x.f0 HB3.out.size (by omega)
            have ya : w1.cell? (ad.add (i * 2)) = some (.int .i64 x.f0) := cell_keepS hb1 Z0.out
            have yb := Z0.out
            have hcutA := cut_to (P := Try.prog) 24 33 .i64 Try.underlying24 (info_parts infoG).choose_spec.1 A3 gs.length c3 (p : Int) (by omega) (by omega) hnc
            have hcutB := cut_from (P := Try.prog) 24 33 .i64 Try.underlying24 (info_parts infoG).choose_spec.1 2 (info_parts infoG).choose_spec.2.2.1 A3 gs.length c3 (p : Int) (by omega) (by omega)
            rw [Int.toNat_natCast] at hcutA hcutB
            obtain ⟨A4, hA4⟩ : ∃ A4, (if c3 = p then A3 else A3.map (·.add (p * 2))) = A4 := ⟨_, rfl⟩
            rw [hA4] at hcutB r3
            clear hA4
            have HG4 := Aside0.mk hgr
            have HB4 := Aside0.mk hb4
            clear hgr hb4 hb1
            go_wp2_with (first
              | (at_builtin; refine wpList_runG rfl (.tmp 49) (.tmp 52) 24 rfl _ _ v1 w1 rfl rfl r1 ?_)
              | (at_builtin; refine wpList_runG rfl (.tmp 54) (.tmp 61) 24 rfl _ _ v2 w3 rfl rfl r2 ?_)
              | (at_builtin; refine wpList_runG rfl (.tmp 63) (.tmp 66) 24 rfl _ _ v3 w4 rfl rfl r3 ?_))
            go_meet
            case rel => exact ⟨_, ⟨by rw [HEN.out, if_neg (of_decide_eq_false hb)]; exact HG4.out⟩, HB4⟩
          · go_wp2_with fail
            go_meet
            case rel => exact ⟨es, ⟨by rw [HEN.out, if_pos (of_decide_eq_true hb)]; exact G3.out⟩, ⟨Below.refl _ _⟩⟩
        case rest =>
        obtain ⟨es', HG', HB'⟩ := hcut
        have HBw := Aside0.mk (HB3.out.trans (HB'.out.mono HB3.out.size))
        have x1 := cell_keepS HB'.out Z1.out
        clear HB' HB3 G3 Z0 Z1 hnc hb
        obtain ⟨vs, hvs, hvl⟩ := ensure_at gs x.f0 (n := 1000) HVL.out
        rw [HPE.out] at hvs
        have hel : (ensureG gs x.f0).length ≤ 1001 := by
          rw [HEN.out]
          split
          · omega
          · rw [List.length_append, List.length_cons, List.length_take, List.length_drop]; omega
        have hpu := HPU.out
        rw [hvs] at hpu
        simp only [Option.getD_some] at hpu
        have HPG : Aside0 ((ensureG gs x.f0).set p (x.f0, vs ++ [x.f1]) = groupsOf (l.take (i + 1))) := ⟨by rw [HTK.out, ← HP.out, hpu]⟩
        obtain ⟨ge, hge⟩ : ∃ ge, ensureG gs x.f0 = ge := ⟨_, rfl⟩
        rw [hge] at HG' hel hvs HPG
        clear hpu HPU HEN HP HTK HVL hge
        have hew := (List.getElem?_eq_some_iff.1 hvs).1
        have hpe := (List.getElem?_eq_some_iff.1 hvs).2
        have hGlen := HG'.out.len
        obtain ⟨g, n, c, ev⟩ : ∃ g n c, u3 = .slice (some ⟨g, 0, none⟩) n c := by
          rcases HG'.out.own.2 with ⟨_, h0⟩ | ⟨g, cap, cur, e, _⟩
          · omega
          · exact ⟨g, _, _, e⟩
        subst ev
        obtain ⟨-, -, hn, -⟩ := HG'.out.src p (by omega)
        subst hn
        have hblk := World.alloc_heap_new wc.drew (.cells #[.int .i64 x.f1] 3)
        have ha := below_alloc (below_drew (Below.refl wc.heap.size wc)) (.cells #[.int .i64 x.f1] 3)
        obtain ⟨A2, c2, es2⟩ := own_slice' (HG'.out.at_ p (by omega) hew).1.1
        obtain ⟨g', s1, w1, h1, h2, h3, h4, h5, h6, h7, h8⟩ := (HG'.out.below ha).push p hew (by omega) x.f1 HXO.out.2 ⟨wc.drew.heap.size, 0, none⟩ (blk_c hblk 0) (Nat.le_trans HBw.out.size ha.size) (by rw [hpe]; show vs.length ≤ 100000; omega)
        obtain rfl : g = g' := by simpa [Value.ownBlock] using h1
        rw [hpe] at h8
        have x2 : wc.cell? ⟨g, p * 2 + 1, none⟩ = some es'[p].2 := by
          have := HG'.out.own.cells h1 _ _ (gcells_get es' p es'[p] (List.getElem?_eq_getElem (by omega))).2
          rwa [add_plain] at this
        have HFB : Aside0 (Below w.heap.size w (w1.setCell ⟨g, p * 2 + 1, none⟩ s1)) := ⟨((HBw.out.trans (ha.mono HBw.out.size)).grown h7 (Nat.le_trans HBw.out.size ha.size) (fun k hk => ((HG'.out.at_ p (by omega) hew).1.1.lt k hk).1)).setCell (HG'.out.own.lt g h1).1 s1⟩
        rw [es2] at h2 h3 h4 h7 x2
        obtain ⟨n2, hn2⟩ : ∃ n2, ge[p].2.length = n2 := ⟨_, rfl⟩
        rw [hn2] at h2 h3 h4 h7 x2
        have y2 : (wc.alloc (.cells #[.int .i64 x.f1] 3)).drew.cell? ⟨g, p * 2 + 1, none⟩ = some (.slice A2 n2 c2) := h2
        clear h7 es2 hn2
        have p2 : (0 : Int) ≤ (p : Int) := by omega
        have p3 : (p : Int) < (ge.length : Int) := by omega
        go_upto_region 13 with fail
        have hs1 := (h8.at_ p (by rw [List.length_set]; omega) (by rw [List.length_set]; omega)).1
        rw [List.getElem_set_self, List.getElem_set_self] at hs1
        obtain ⟨A1, c1, es1⟩ := own_slice' hs1.1
        have es1 : s1 = .slice A1 (vs ++ [x.f1]).length c1 := es1
        subst es1
        obtain ⟨n1, hn1⟩ : ∃ n1, (vs ++ [x.f1]).length = n1 := ⟨_, rfl⟩
        rw [hn1] at h3 h8 HFB
        clear hs1 hn1
        have HG8 := Aside0.mk h8
        have HAw := Aside0.mk ha
        clear h8 ha hvs hpe hblk h6
        go_region_law (refine law_appendG (by rfl) (.tmp 74) (.tmp 80) 31 rfl (.slice A2 n2 c2) (.slice (some ⟨wc.drew.heap.size, 0, none⟩) 1 1) _ w1 rfl rfl h3 ?_)
        all_goals go_wp2
        all_goals go_roundg (gk - 1)
        all_goals first
          | (case measure => omega)
          | (case rel => exact ⟨i + 1, _, (by first | rfl | go_num), by omega, by omega, ⟨by rw [← HPG.out]; exact HG8.out⟩, HFB⟩)
    · obtain rfl : i = l.length := by omega
      rw [List.take_length] at G
      have q1 : decide ((l.length : Int) < (l.length : Int)) = false := decide_eq_false (by omega)
      go_wp2_with fail
      go_ret
      exact ⟨_, es, rfl, G.out, HB.out⟩
end Go.Proofs.Ytbbjkgpilmcldaa.Seq
