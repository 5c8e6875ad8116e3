/- Proved: which batch each block is of, told block by block, as blocks and cuts come; own rows that lie beside a journal's; condition: numbers that fit. -/
import Derived.Test.YtlhjjjpldmekdaaDoorZv
namespace Go.Proofs.YtlhjjjpldmekdaaDoor.PDsk.K
open Go.RowKit Go.Proofs.YtlhjjjpldmekdaaDoorW.PrintWords Go.Proofs.YtlhjjjpldmekdaaDoorW.PrintLast Go.Proofs.YtlhjjjpldmekdaaDoorW.PrintMore Go.Proofs.YtlhjjjpldmekdaaDoor.Err Go.Maps Go.Proofs.YtlhjjjpldmekdaaDoor.PLog Go.Proofs.YtlhjjjpldmekdaaDoor.PWal
open Go.Proofs.YtlhjjjpldmekdaaDoor.PFn (RowT k109)
set_option linter.unusedVariables false
/-- Of each block its batch. -/
def ofL (t : Wl) : List Int := (List.range t.bl.length).map fun (k : Nat) => ofF t ((k : Int) + 1)
theorem ofL_len (t : Wl) : (ofL t).length = t.bl.length := by unfold ofL; simp
theorem ofL_at {t : Wl} {k : Nat} (h : k < t.bl.length) : (ofL t).getD k 0 = ofF t ((k : Int) + 1) := by
  unfold ofL
  rw [List.getD_eq_getElem?_getD, List.getElem?_map, List.getElem?_range h]
  rfl
theorem ofL_block {t : Wl} (h : Wb t) (x : List RowT) : ofL { t with bl := t.bl ++ [x] } = ofL t ++ [0] := by
  unfold ofL
  simp only [List.length_append, List.length_singleton]
  rw [List.range_succ, List.map_append]
  have e : ofF { t with bl := t.bl ++ [x] } ((t.bl.length : Int) + 1) = 0 := by
    have := of_out h (b := (t.bl.length : Int) + 1) (fun c hc => by have := (h.cuts c hc).2; omega)
    exact this
  simp only [List.map_cons, List.map_nil, e]
  rfl
theorem ofGo_snoc (b c : Int) : ∀ (l : List Int) (i : Int), 0 ≤ i → ofGo b (l ++ [c]) i = if ofGo b l i = 0 then (if b ≤ c then i + (l.length : Int) + 1 else 0) else ofGo b l i := by
  intro l
  induction l with
  | nil => intro i hi; simp [ofGo]
  | cons d l ih =>
    intro i hi
    rw [List.cons_append, ofGo, ofGo]
    by_cases h : b ≤ d
    · rw [if_pos h, if_pos h, if_neg (by omega)]
    · rw [if_neg h, if_neg h, ih (i + 1) (by omega)]
      simp only [List.length_cons]
      rw [show i + 1 + (l.length : Int) + 1 = i + ((l.length + 1 : Nat) : Int) + 1 from by omega]
theorem ofL_cut {t : Wl} {k : Nat} (h : k < t.bl.length) : (ofL { t with cu := t.cu ++ [(t.bl.length : Int)] }).getD k 0 = if (ofL t).getD k 0 = 0 then ((t.cu.length : Int) + 1) else (ofL t).getD k 0 := by
  have e1 : ofF t ((k : Int) + 1) = ofGo ((k : Int) + 1) t.cu 0 := if_neg (by omega)
  have e2 : ofF { t with cu := t.cu ++ [(t.bl.length : Int)] } ((k : Int) + 1) = ofGo ((k : Int) + 1) (t.cu ++ [(t.bl.length : Int)]) 0 := if_neg (by omega)
  rw [ofL_at (t := { t with cu := t.cu ++ [(t.bl.length : Int)] }) h, e2, ofL_at h, e1, ofGo_snoc _ _ _ _ (Int.le_refl 0), if_pos (show (k : Int) + 1 ≤ (t.bl.length : Int) from by omega), Int.zero_add]
/-- A row that is being written over: the first k of A, the others of B. -/
def mixL (A B : List Int) (k : Nat) : List Int := A.take k ++ B.drop k
theorem mixL_len {A B : List Int} (h : A.length = B.length) {k : Nat} (hk : k ≤ B.length) : (mixL A B k).length = B.length := by
  unfold mixL
  rw [List.length_append, List.length_take, List.length_drop]
  omega
theorem mixL_zero (A B : List Int) : mixL A B 0 = B := by simp [mixL]
theorem mixL_end {A B : List Int} (h : A.length = B.length) : mixL A B B.length = A := by
  unfold mixL
  rw [List.drop_length, List.append_nil, ← h, List.take_length]
theorem mixL_at {A B : List Int} (h : A.length = B.length) {k : Nat} (hk : k < B.length) : (mixL A B k).getD k 0 = B.getD k 0 := by
  unfold mixL
  rw [List.getD_eq_getElem?_getD, List.getElem?_append_right (by rw [List.length_take]; omega), List.length_take, List.getElem?_drop, Nat.min_eq_left (by omega), Nat.sub_self, Nat.add_zero, List.getD_eq_getElem?_getD]
theorem mixL_set {A B : List Int} (h : A.length = B.length) {k : Nat} (hk : k < B.length) : (mixL A B k).set k (A.getD k 0) = mixL A B (k + 1) := by
  have hA : k < A.length := by omega
  have e : A.take (k + 1) = A.take k ++ [A[k]] := by rw [List.take_add_one, List.getElem?_eq_getElem hA]; rfl
  unfold mixL
  rw [e, List.set_append_right _ _ (by rw [List.length_take]; omega), List.length_take, Nat.min_eq_left (by omega), Nat.sub_self, List.drop_eq_getElem_cons hk, List.set_cons_zero, List.getD_eq_getElem?_getD, List.getElem?_eq_getElem hA, List.append_assoc]
  rfl
theorem mixL_same {A B : List Int} (h : A.length = B.length) {k : Nat} (hk : k < B.length) (e : A.getD k 0 = B.getD k 0) : mixL A B k = mixL A B (k + 1) := by
  rw [← mixL_set h hk, e, ← mixL_at h hk]
  have hl : k < (mixL A B k).length := by rw [mixL_len h (by omega)]; exact hk
  rw [List.getD_eq_getElem?_getD, List.getElem?_eq_getElem hl]
  simp
/-- The first 16 rows. -/
theorem take16 (A2 : Option Addr) (c2 : Nat) (l : List RowT) (hc : l.length ≤ c2) : ∃ q : Nat, q = (l.take 16).length ∧ q ≤ 16 ∧ l.take q = l.take 16 ∧ q ≤ l.length ∧ min (l.length : Int) 16 = (q : Int) ∧ (if (16 : Int) < (l.length : Int) then (16 : Int) else (l.length : Int)) = (q : Int) ∧ (if (l.length : Int) < 16 then (l.length : Int) else (16 : Int)) = (q : Int) ∧
    ∀ W : World, (Instr.slice 76 (.slice A2 l.length c2) none (some (.int .i64 (q : Int))) none).run Tryd.prog W = .ok (.slice A2 q c2) W := by
  refine ⟨(l.take 16).length, rfl, by rw [List.length_take]; omega, by rw [List.length_take]; rcases Nat.le_total 16 l.length with h | h; rw [Nat.min_eq_left h]; rw [Nat.min_eq_right h, List.take_of_length_le (Nat.le_refl _), List.take_of_length_le h], by rw [List.length_take]; omega, by rw [List.length_take]; omega, by rw [List.length_take]; split <;> omega, by rw [List.length_take]; split <;> omega, ?_⟩
  have hcut := cut_to (P := Tryd.prog) 76 109 .i64 Tryd.underlying76 (info_parts infoRow).choose_spec.1 A2 l.length c2 ((l.take 16).length : Int) (by omega) (by rw [List.length_take]; omega) hc
  rw [Int.toNat_natCast] at hcut
  exact hcut
section
variable {α : Type} {d : Kd α} {e base : Nat} {v : Value} {xs : List α} {w0 w w' : World} {a1 a2 Bl n : Nat} {s : Dk} {C : CT} {life : Int} {l : List (List Int)} {R Z : Nat} {OK OK' : Nat → Prop} {Bw : Nat} {t : Wl}
/-- Own rows beside a journal's, kept by the journal's calls. -/
theorem rows_kept (h : d.R e w base (fun k => ¬ WB OK Bw k) v xs) (hty : ∀ q, q ∈ e :: d.E → q ≠ 123 ∧ q ≠ 116) (J : LgB w0 w a1 a2 Bl n s C life l R) (hf : Fr (JB OK Bw Bl a1 a2) w w') (hOK : ∀ k, OK' k → OK k ∨ w.heap.size ≤ k) : d.R e w' base (fun k => ¬ WB OK' Bw k) v xs := by
  have h1 := Kd.R_bound h
  have h2 := Kd.R_step (w1 := w') h1 (fun k hk hlt => hf.block k hlt (fun hJ => by
    obtain ⟨hn, _, _, q, hq, cells, hc⟩ := hk
    rcases hJ with hJ | hJ
    · exact hn hJ
    · rcases J.noRow k hJ cells q hc with rfl | rfl
      · exact (hty _ hq).1 rfl
      · exact (hty _ hq).2 rfl))
  refine Kd.R_mono h2 (fun k hk hW => ?_)
  obtain ⟨hn, _, hlt, _⟩ := hk
  rcases hW with rfl | hW
  · exact hn (.inl rfl)
  · rcases hOK k hW with h3 | h3
    · exact hn (.inr h3)
    · omega
/-- .. and lie below a journal that is new. -/
theorem rows_new {OK2 : Nat → Prop} {Bw2 : Nat} (h : d.R e w base (fun k => ¬ WB OK Bw k) v xs) (hb : Below w.heap.size w w') (hge : ∀ k, WB OK2 Bw2 k → w.heap.size ≤ k) : d.R e w' base (fun k => ¬ WB OK2 Bw2 k) v xs :=
  Kd.R_mono (Kd.R_below (Kd.R_bound h) hb) (fun k hk hW => by have := hge k hW; have := hk.2.2.1; omega)
/-- A journal, kept whatever own rows beside it grow. -/
theorem JwB.away {S : Nat → Prop} (h : JwB w0 w a1 a2 Bl n s C life l R Z OK Bw t) (hf : Fr S w w') (hS : ∀ k, S k → ¬ WB OK Bw k) (hT : ∀ k, S k → k < w.heap.size → ∃ cells q, w.heap[k]? = some (.cells cells q (0, 0)) ∧ q ≠ 123 ∧ q ≠ 116 ∧ q ≠ 5) (hge : ∀ k, S k → w0.heap.size ≤ k) : JwB w0 w' a1 a2 Bl n s C life l R Z OK Bw t := by
  have hn : ∀ b, LB Bl a1 a2 b → b < w.heap.size → ¬ S b := fun b hb hlt hs => by
    obtain ⟨cells, q, hc, h1, h2, _⟩ := hT b hs hlt
    rcases h.lg.noRow b hb cells q hc with rfl | rfl
    · exact h1 rfl
    · exact h2 rfl
  refine ⟨h.lg.keptU hf (hn a1 (.inr (.inl rfl)) h.lg.d.dx.lt.1) (hn a2 (.inr (.inr rfl)) h.lg.d.dx.lt.2) (hn Bl (.inl rfl) h.lg.lx.lt) (fun b hb cells hc => ?_) hge, h.wx.kept hf (fun k hk hs => hS k hs hk), h.z0, Nat.le_trans h.z1 hf.size, h.run⟩
  obtain ⟨cells', q, hc', _, _, h3⟩ := hT b hb (Array.getElem?_eq_some_iff.1 hc).1
  rw [hc] at hc'
  injection hc' with hc'
  injection hc' with _ hc'
  exact h3 hc'.symm
/-- .. an own row's own growth. -/
theorem JwB.grownR (h : JwB w0 w a1 a2 Bl n s C life l R Z OK Bw t) (g : d.R e w base (fun k => ¬ WB OK Bw k) v xs) (hty : e ≠ 123 ∧ e ≠ 116 ∧ e ≠ 5) (hg : w.grownBy w' v.ownBlock) (hbase : w0.heap.size ≤ base) : JwB w0 w' a1 a2 Bl n s C life l R Z OK Bw t := by
  obtain ⟨inner, hown⟩ := Kd.R_own g
  refine h.away (S := fun k => some k = v.ownBlock) ⟨hg.os, hg.tape, hg.output, hg.size, fun k hk hs => hg.block k hk hs⟩ (fun k hk => g.1 k hk.symm) (fun k hk _ => ?_) (fun k hk => Nat.le_trans hbase (own_base hown k hk.symm))
  obtain ⟨cells, hc⟩ := own_typed hown k hk.symm
  exact ⟨cells, e, hc, hty⟩
end
/-- A journal, and two rows beside it: blocks that were kept, numbers. -/
structure KeJ (w0 w : World) (a1 a2 Bl Bw n : Nat) (s : Dk) (C : CT) (life : Int) (l : List (List Int)) (R Z : Nat) (OK : Nat → Prop) (t : Wl) (vK : Value) (ks : List (List RowT)) (vO : Value) (xs : List Int) : Prop where
  j : JwB w0 w a1 a2 Bl n s C life l R Z OK Bw t
  rk : KW.R 76 w w0.heap.size (fun k => ¬ WB OK Bw k) vK ks
  ro : KI.R 3 w w0.heap.size (fun k => ¬ WB OK Bw k) vO xs
theorem tyW : ∀ q, q ∈ 76 :: KW.E → q ≠ 123 ∧ q ≠ 116 := by
  intro q hq
  rcases List.mem_cons.1 hq with rfl | hq
  · decide
  · rcases List.mem_cons.1 hq with rfl | hq
    · decide
    · cases hq
theorem tyI : ∀ q, q ∈ 3 :: KI.E → q ≠ 123 ∧ q ≠ 116 := by
  intro q hq
  rcases List.mem_cons.1 hq with rfl | hq
  · decide
  · cases hq
theorem tyWI : ∀ q, q ∈ 76 :: KW.E → q ≠ 3 := by
  intro q hq
  rcases List.mem_cons.1 hq with rfl | hq
  · decide
  · rcases List.mem_cons.1 hq with rfl | hq
    · decide
    · cases hq
theorem tyIW : ∀ q, q ∈ 3 :: KI.E → q ≠ 76 := by
  intro q hq
  rcases List.mem_cons.1 hq with rfl | hq
  · decide
  · cases hq
section
variable {w0 w w' : World} {a1 a2 Bl n : Nat} {s s' : Dk} {C : CT} {life : Int} {l : List (List Int)} {R Z : Nat} {OK OK' : Nat → Prop} {Bw : Nat} {t : Wl} {vK vO : Value} {ks : List (List RowT)} {xs : List Int}
theorem KeJ.below (h : KeJ w0 w a1 a2 Bl Bw n s C life l R Z OK t vK ks vO xs) (hb : Below w.heap.size w w') : KeJ w0 w' a1 a2 Bl Bw n s C life l R Z OK t vK ks vO xs := ⟨h.j.below hb, Kd.R_below h.rk hb, Kd.R_below h.ro hb⟩
theorem KeJ.call (h : KeJ w0 w a1 a2 Bl Bw n s C life l R Z OK t vK ks vO xs) (hd : Dx w' (fun b => b ≠ a1 ∧ b ≠ a2) a1 a2 s' n C) (hf : Fr (fun b => b = a1 ∨ b = a2) w w') (hr : s'.room = s.room) : KeJ w0 w' a1 a2 Bl Bw n s' C life l R Z OK t vK ks vO xs :=
  ⟨h.j.call hd hf hr, rows_kept h.rk tyW h.j.lg (hf.mono (fun k hk => .inr (.inr hk))) (fun k hk => .inl hk), rows_kept h.ro tyI h.j.lg (hf.mono (fun k hk => .inr (.inr hk))) (fun k hk => .inl hk)⟩
theorem KeJ.app {r : Option Er × Dk × CT} {t' : Wl} {b : List Int} {v : Value} (h : KeJ w0 w a1 a2 Bl Bw n s C life l R Z OK t vK ks vO xs) (hp : ApP w0 a1 a2 Bl n r life l R Z OK Bw t t' b w w' v) : ∃ OK', IsErr? w' (r.1.map fun x => .fault walS 0 (.fault logS 0 x)) v ∧ KeJ w0 w' a1 a2 Bl Bw (n + nB b.length) r.2.1 r.2.2 life (nxt r.1 l b) R Z OK' (nxw r.1 t t') vK ks vO xs ∧ Fr (JB OK Bw Bl a1 a2) w w' := by
  obtain ⟨OK', h1, h2, h3, h4⟩ := hp
  exact ⟨OK', h1, ⟨h2, rows_kept h.rk tyW h.j.lg h4 h3, rows_kept h.ro tyI h.j.lg h4 h3⟩, h4⟩
theorem KeJ.opened {Bl2 Bw2 : Nat} {OK2 : Nat → Prop} {t2 : Wl} (h : KeJ w0 w a1 a2 Bl Bw n s C life l R Z OK t vK ks vO xs) (hb : Below w.heap.size w w') (hJ : JwB w0 w' a1 a2 Bl2 n s C s.life l R w.heap.size OK2 Bw2 t2) : KeJ w0 w' a1 a2 Bl2 Bw2 n s C s.life l R w.heap.size OK2 t2 vK ks vO xs :=
  ⟨hJ, rows_new h.rk hb hJ.wx.ge, rows_new h.ro hb hJ.wx.ge⟩
theorem KeJ.growK {v1 : Value} {ks' : List (List RowT)} (h : KeJ w0 w a1 a2 Bl Bw n s C life l R Z OK t vK ks vO xs) (hg : w.grownBy w' vK.ownBlock) (ho : KW.R 76 w' w0.heap.size (fun k => ¬ WB OK Bw k) v1 ks') : KeJ w0 w' a1 a2 Bl Bw n s C life l R Z OK t v1 ks' vO xs :=
  ⟨h.j.grownR h.rk ⟨by decide, by decide, by decide⟩ hg (Nat.le_refl _), ho, Kd.R_over h.ro h.rk tyIW hg⟩
theorem KeJ.growO {v1 : Value} {xs' : List Int} (h : KeJ w0 w a1 a2 Bl Bw n s C life l R Z OK t vK ks vO xs) (hg : w.grownBy w' vO.ownBlock) (ho : KI.R 3 w' w0.heap.size (fun k => ¬ WB OK Bw k) v1 xs') : KeJ w0 w' a1 a2 Bl Bw n s C life l R Z OK t vK ks v1 xs' :=
  ⟨h.j.grownR h.ro ⟨by decide, by decide, by decide⟩ hg (Nat.le_refl _), Kd.R_over h.rk h.ro tyWI hg, ho⟩
/-- A number of the second row, and its being written over. -/
theorem KeJ.put {A : Option Addr} {m c : Nat} (h : KeJ w0 w a1 a2 Bl Bw n s C life l R Z OK t vK ks (.slice A m c) xs) (k : Nat) (hk : k < xs.length) : ∃ g, A = some ⟨g, 0, none⟩ ∧ w.cell? ⟨g, k, none⟩ = some (.int .i64 (xs.getD k 0)) ∧ w.frozen? ⟨g, k, none⟩ = false ∧ ∀ x, KeJ w0 (w.setCell ⟨g, k, none⟩ (.int .i64 x)) a1 a2 Bl Bw n s C life l R Z OK t vK ks (.slice A m c) (xs.set k x) := by
  obtain ⟨g, cap, hv, hb, hl, cells, hc⟩ := Kd.R_form h.ro (by omega)
  injection hv with hA hm hcc
  subst hA; subst hm; subst hcc
  obtain ⟨ad, had, hcell⟩ := at_int (Kd.R_reads' h.ro).2.2 k hk
  obtain rfl := Option.some.inj had
  rw [add_plain] at hcell
  refine ⟨g, rfl, hcell, blk_frozen hc k, fun x => ?_⟩
  have ho := Kd.own_of_R h.ro
  have hst := own_store (k := .i64) (xs := xs) (show w.ownsRow w0.heap.size 3 1 _ _ (nums .i64 xs) from ho) (k : Int) x
  rw [Int.toNat_natCast] at hst
  refine h.growO hst.2 (Kd.R_of_own (enc := Value.int .i64) (by rw [List.length_set]; exact hst.1) h.ro.1)
end
end Go.Proofs.YtlhjjjpldmekdaaDoor.PDsk.K
