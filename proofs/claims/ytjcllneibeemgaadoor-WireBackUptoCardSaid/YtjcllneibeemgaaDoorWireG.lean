/- Proved: the contracts of wire's readers and of the law's own 'code', 'at', 'told', as the printed texts take them. -/
import Derived.Test.YtjcllneibeemgaaDoorWireMore
namespace Go.Proofs.YtjcllneibeemgaaDoor.PFn
open Go.RowKit Go.Proofs.YtjcllneibeemgaaDoorW.PrintWords Go.Proofs.YtjcllneibeemgaaDoorW.PrintLast Go.Proofs.YtjcllneibeemgaaDoorW.PrintMore Go.Proofs.YtjcllneibeemgaaDoor.Err
attribute [local go_sem] max2_int min2_int max_two min_two max_three min_three max_four min_four
set_option linter.unusedVariables false
set_option linter.unusedSimpArgs false

def errS : ByteArray := wireS
/-- An error that is told by one number (place and number), lying at a block. -/
def errV : Option Int → Nat → Value
  | none, _ => .nilIface
  | some _, b => .iface 58 (.pointer (some ⟨b, 0, none⟩))
theorem errV_none (b : Nat) : errV none b = .nilIface := rfl
theorem errV_some (q : Int) (b : Nat) : errV (some q) b = .iface 58 (.pointer (some ⟨b, 0, none⟩)) := rfl
def ErrBox (w : World) (base : Nat) : Option Int → Nat → Prop
  | none, _ => True
  | some q, b => base ≤ b ∧ w.heap[b]? = some (.cells #[.string (errS), .int .i64 (q / 256), .iface 52 (.int .i64 (q % 256))] 61 (0, 0))
/-- Such an error, handed over. -/
def ErrArg (w : World) (v : Value) : Option Int → Nat → Prop
  | none, _ => v = .nilIface
  | some q, b => v = .iface 58 (.pointer (some ⟨b, 0, none⟩)) ∧ w.heap[b]? = some (.cells #[.string (errS), .int .i64 (q / 256), .iface 52 (.int .i64 (q % 256))] 61 (0, 0))
def errQ (at_ e : Int) : Option Int := if e = 0 then none else some (at_ * 256 + e)
def erOf (x : Option Int) : Option Er := x.map fun q => .fault wireS (q / 256) (.num (q % 256))
theorem arg_err {w : World} {v : Value} {x : Option Int} {b : Nat} (h : ErrArg w v x b) : IsErr? w (erOf x) v := by
  cases x with
  | none => exact h
  | some q => exact ⟨b, _, h.1, h.2, rfl⟩
theorem err_box {w w' : World} {at_ e : Int} {v : Value} (h : IsErr? w' (werr at_ e) v) (hn : ErrNew w.heap.size v) (he : 0 ≤ e ∧ e < 256) :
    ∃ b, v = errV (errQ at_ e) b ∧ ErrBox w' w.heap.size (errQ at_ e) b := by
  unfold werr at h
  unfold errQ
  by_cases h0 : e = 0
  · rw [if_pos h0] at h ⊢
    exact ⟨0, h, trivial⟩
  · rw [if_neg h0] at h ⊢
    obtain ⟨b, v', rfl, hc, rfl⟩ := h
    refine ⟨b, rfl, hn _ b rfl, ?_⟩
    rw [show (at_ * 256 + e) / 256 = at_ by omega, show (at_ * 256 + e) % 256 = e by omega]
    exact hc

theorem rdGo_bd (l : List Int) (a d : Nat) : ∀ u i, 0 ≤ (rdGo l a d u i).2.2 ∧ (rdGo l a d u i).2.2 < 256 := by
  induction d with
  | zero => intro u i; simp [rdGo]
  | succ d ih =>
    intro u i
    unfold rdGo
    repeat' split
    all_goals first | (simp; done) | exact ih _ _
theorem readI_bd (l : List Int) (a : Int) : 0 ≤ (readI l a).2.2 ∧ (readI l a).2.2 < 256 := by
  unfold readI; split
  · simp
  · exact rdGo_bd _ _ _ _ _
theorem rowsGo_bd (l : List Int) (m : Nat) : ∀ acc p, 0 ≤ (rowsGo l m acc p).2.2.1 ∧ (rowsGo l m acc p).2.2.1 < 256 := by
  induction m with
  | zero => intro acc p; simp [rowsGo]
  | succ m ih =>
    intro acc p
    unfold rowsGo
    repeat' split
    · exact readI_bd _ _
    · exact readI_bd _ _
    · exact ih _ _
theorem readRows_bd (l : List Int) (a : Int) : 0 ≤ (readRows l a).2.2.1 ∧ (readRows l a).2.2.1 < 256 := by
  unfold readRows
  repeat' split
  · exact readI_bd _ _
  · simp
  · simp
  · exact rowsGo_bd _ _ _ _
theorem readID_bd (l : List Int) (a : Int) : 0 ≤ (readID l a).2.2.2.2.1 ∧ (readID l a).2.2.2.2.1 < 256 := by
  unfold readID
  repeat' split
  · exact readI_bd _ _
  · exact readI_bd _ _
  · exact readI_bd _ _
  · simp

/-- Bytes that fit. -/
def okBytes (l : List Int) : Bool := decide (l.length ≤ 4611686018427387904) && l.all fun x => decide (0 ≤ x ∧ x ≤ 255)
theorem okBytes_iff {l : List Int} : okBytes l = true ↔ l.length ≤ 4611686018427387904 ∧ ∀ x ∈ l, 0 ≤ x ∧ x ≤ 255 := by
  unfold okBytes; simp

def wire_ReadInt.f (l : List Int) (a : Int) : Option (Int × Int × Option Int) := if okBytes l = true then some ((readI l a).1, (readI l a).2.1, errQ a (readI l a).2.2) else none
theorem wire_ReadInt.calls (A0 : Option Addr) (c0 : Nat) (l0 : List Int) (a1 : Int) (r1 r2 : Int) (r3 : Option Int) (w : World) (hr0 : Kd.C (Kd.int .u8) w A0 l0.length l0) (hc0 : l0.length ≤ c0) (h : wire_ReadInt.f l0 a1 = some (r1, r2, r3)) :
    Calls Tryd.prog 9 #[.slice A0 l0.length c0, .int .i64 a1] w fun e w' => ∃ b, e = .returned (.tuple #[.int .i64 r1, .int .i64 r2, errV r3 b]) ∧ ErrBox w' w.heap.size r3 b ∧ Below w.heap.size w w' := by
  unfold wire_ReadInt.f at h
  by_cases hk : okBytes l0 = true
  · rw [if_pos hk] at h
    simp only [Option.some.injEq, Prod.mk.injEq] at h
    obtain ⟨rfl, rfl, rfl⟩ := h
    obtain ⟨h1, h2⟩ := okBytes_iff.1 hk
    refine (readInt_calls A0 c0 l0 a1 w hr0 hc0 h1 h2).mono ?_
    rintro e w' ⟨v, rfl, hE, hb, hN⟩
    obtain ⟨b, rfl, hx⟩ := err_box hE hN (readI_bd _ _)
    exact ⟨b, rfl, hx, hb⟩
  · rw [if_neg hk] at h; cases h
def wire_ReadRows.f (l : List Int) (a : Int) : Option (List S56 × Int × Option Int) := if okBytes l = true then some ((readRows l a).1, (readRows l a).2.1, errQ (readRows l a).2.2.2 (readRows l a).2.2.1) else none
theorem wire_ReadRows.calls (A0 : Option Addr) (c0 : Nat) (l0 : List Int) (a1 : Int) (r1 : List S56) (r2 : Int) (r3 : Option Int) (w : World) (hr0 : Kd.C (Kd.int .u8) w A0 l0.length l0) (hc0 : l0.length ≤ c0) (h : wire_ReadRows.f l0 a1 = some (r1, r2, r3)) :
    Calls Tryd.prog 17 #[.slice A0 l0.length c0, .int .i64 a1] w fun e w' => ∃ (v0_ : Value) (b : Nat), e = .returned (.tuple #[v0_, .int .i64 r2, errV r3 b]) ∧ Kd.R k56 56 w' w.heap.size (fun _ => True) v0_ r1 ∧ ErrBox w' w.heap.size r3 b ∧ Below w.heap.size w w' := by
  unfold wire_ReadRows.f at h
  by_cases hk : okBytes l0 = true
  · rw [if_pos hk] at h
    simp only [Option.some.injEq, Prod.mk.injEq] at h
    obtain ⟨rfl, rfl, rfl⟩ := h
    obtain ⟨h1, h2⟩ := okBytes_iff.1 hk
    refine (readRows_calls A0 c0 l0 a1 w hr0 hc0 h1 h2 _ rfl).mono ?_
    rintro e w' ⟨v0, v, rfl, hR, hE, hb, hN⟩
    obtain ⟨b, rfl, hx⟩ := err_box hE hN (readRows_bd _ _)
    exact ⟨v0, b, rfl, hR, hx, hb⟩
  · rw [if_neg hk] at h; cases h
def wire_ReadID.f (l : List Int) (a : Int) : Option (Int × Int × Int × Int × Option Int) := if okBytes l = true then some ((readID l a).1, (readID l a).2.1, (readID l a).2.2.1, (readID l a).2.2.2.1, errQ (readID l a).2.2.2.2.2 (readID l a).2.2.2.2.1) else none
theorem wire_ReadID.calls (A0 : Option Addr) (c0 : Nat) (l0 : List Int) (a1 : Int) (r1 r2 r3 r4 : Int) (r5 : Option Int) (w : World) (hr0 : Kd.C (Kd.int .u8) w A0 l0.length l0) (hc0 : l0.length ≤ c0) (h : wire_ReadID.f l0 a1 = some (r1, r2, r3, r4, r5)) :
    Calls Tryd.prog 18 #[.slice A0 l0.length c0, .int .i64 a1] w fun e w' => ∃ b, e = .returned (.tuple #[.agg #[.int .i64 r1, .int .i64 r2, .int .i64 r3], .int .i64 r4, errV r5 b]) ∧ ErrBox w' w.heap.size r5 b ∧ Below w.heap.size w w' := by
  unfold wire_ReadID.f at h
  by_cases hk : okBytes l0 = true
  · rw [if_pos hk] at h
    simp only [Option.some.injEq, Prod.mk.injEq] at h
    obtain ⟨rfl, rfl, rfl, rfl, rfl⟩ := h
    obtain ⟨h1, h2⟩ := okBytes_iff.1 hk
    refine (readID_calls A0 c0 l0 a1 w hr0 hc0 h1 h2 _ rfl).mono ?_
    rintro e w' ⟨v, rfl, hE, hb, hN⟩
    obtain ⟨b, rfl, hx⟩ := err_box hE hN (readID_bd _ _)
    exact ⟨b, rfl, hx, hb⟩
  · rw [if_neg hk] at h; cases h

def tributarylaw1_code.f (x : Option Int) : Option Int := some (codeOf (erOf x))
theorem tributarylaw1_code.calls (x : Option Int) (b : Nat) (r : Int) {v : Value} (w : World) (hb : ErrArg w v x b) (hL : Laid w) (h : tributarylaw1_code.f x = some r) :
    Calls Tryd.prog 14 #[v] w fun e w' => e = .returned (.int .i64 r) ∧ Below w.heap.size w w' := by
  obtain rfl := Option.some.inj h
  exact code_law _ v w (arg_err hb) hL
def tributarylaw1_at.f (x : Option Int) : Option Int := some (placeOf (erOf x))
theorem tributarylaw1_at.calls (x : Option Int) (b : Nat) (r : Int) {v : Value} (w : World) (hb : ErrArg w v x b) (h : tributarylaw1_at.f x = some r) :
    Calls Tryd.prog 15 #[v] w fun e w' => e = .returned (.int .i64 r) ∧ Below w.heap.size w w' := by
  obtain rfl := Option.some.inj h
  exact (at_law _ v w (arg_err hb)).mono fun e w' ⟨h1, h2⟩ => ⟨h1, h2 ▸ Below.refl _ _⟩

/-! ### told -/
theorem lit_C (W : World) (B : Nat) (zs : List Int) (h : W.heap[B]? = some (.cells (zs.map (Value.int .u8)).toArray 5 (0, 0))) (hl : zs.length ≤ 9223372036854775807) : Kd.C (Kd.int .u8) W (some ⟨B, 0, none⟩) zs.length zs :=
  ⟨rfl, hl, fun _ => ⟨_, rfl, fun j p hp => ⟨[.int .u8 p], rfl, rfl, fun i u hu => by
    have hi : i = 0 := by
      have := (List.getElem?_eq_some_iff.1 hu).1
      simp at this; exact this
    subst hi
    simp at hu
    subst hu
    have : (Addr.add ⟨B, 0, none⟩ (j * (Kd.int .u8).sz + 0)) = ⟨B, j, none⟩ := by
      show Addr.add ⟨B, 0, none⟩ (j * 1 + 0) = _
      unfold Addr.add
      by_cases h0 : j = 0
      · simp [h0]
      · simp [h0]
    rw [this]
    exact blk_cell h j _ (by simp [hp])⟩⟩⟩
theorem addr_add0 (a : Addr) : a.add 0 = a := by simp [Addr.add]
theorem told1 : readI [9, 127] 1 = (-64, 2, 0) := by decide +kernel
theorem told2 : readRows [2, 10, 1] 0 = ([⟨5, -1⟩], 3, 0, 0) := by kernel_rfl
theorem told3 : readI [128, 0] 0 = (0, 0, 12) := by decide +kernel
theorem heap_same {w w' : World} {n : Nat} {B : Nat} {o : Obj} (hb : Below n w w') (hB : B < n) (h : w.heap[B]? = some o) : w'.heap[B]? = some o := (hb.block B hB).trans h

def tributarylaw1_told.f : Option Bool := some true
set_option maxHeartbeats 8000000 in
set_option maxRecDepth 100000 in
theorem told_law (w : World) (hL : Laid w) : Calls Tryd.prog 11 #[] w fun e w' => e = .returned (.bool true) ∧ Below w.heap.size w w' := by
  have HL := Aside0.mk hL
  clear hL
  go_enter Tryd.func11, Tryd.ntmps11
  go_wp2_with fail
  have hb0 := (Below.refl w.heap.size w).alloc (Nat.le_refl _) (Obj.cells #[Value.int IntKind.u8 9, Value.int IntKind.u8 127] 5)
  have hc0 := lit_C _ _ [9, 127] (heap_alloc_new w (Obj.cells #[Value.int IntKind.u8 9, Value.int IntKind.u8 127] 5)) (by decide)
  refine (readInt_calls _ _ [9, 127] 1 _ hc0 (Nat.le_refl _) (by decide) (by decide)).mono ?_
  rintro e w1 ⟨v, rfl, hE, hb, hN⟩
  rw [told1] at hE
  obtain rfl := werr_no hE rfl
  have HB1 := Aside0.mk (hb0.trans (hb.mono hb0.size))
  clear hb0 hc0 hE hb hN
  rw [told1]
  go_wp2_with fail
  have hb0 := HB1.out.alloc HB1.out.size (Obj.cells #[Value.int IntKind.u8 2, Value.int IntKind.u8 10, Value.int IntKind.u8 1] 5)
  have hc0 := lit_C _ _ [2, 10, 1] (heap_alloc_new w1 (Obj.cells #[Value.int IntKind.u8 2, Value.int IntKind.u8 10, Value.int IntKind.u8 1] 5)) (by decide)
  refine (readRows_calls _ _ [2, 10, 1] 0 _ hc0 (Nat.le_refl _) (by decide) (by decide) _ told2).mono ?_
  rintro e w2 ⟨v0, v, rfl, hR, hE, hb, hN⟩
  obtain rfl := werr_no hE rfl
  have HB2 := Aside0.mk (hb0.trans (hb.mono hb0.size))
  have HR := Aside0.mk (Kd.R_lower hR hb0.size)
  clear hb0 hc0 hE hb hN HB1 hR
  obtain ⟨Ao, co, rfl⟩ := Kd.R_slice HR.out
  go_wp2_with fail
  have hb0 := HB2.out.alloc HB2.out.size (Obj.cells #[Value.int IntKind.u8 128, Value.int IntKind.u8 0] 5)
  have hc0 := lit_C _ _ [128, 0] (heap_alloc_new w2 (Obj.cells #[Value.int IntKind.u8 128, Value.int IntKind.u8 0] 5)) (by decide)
  refine (readInt_calls _ _ [128, 0] 0 _ hc0 (Nat.le_refl _) (by decide) (by decide)).mono ?_
  rintro e w3 ⟨v, rfl, hE, hb, hN⟩
  rw [told3] at hE
  have HE := Aside0.mk hE
  have HB3 := Aside0.mk (hb0.trans (hb.mono hb0.size))
  have HR3 := Aside0.mk (Kd.R_below (Kd.R_alloc HR.out _) hb)
  clear hb0 hc0 hE hb hN HB2 HR
  rw [told3]
  obtain ⟨ad, e1, hx0, hx1⟩ := at_T56 ((Kd.R_reads' HR3.out).2.2) 0 (by decide) (by decide)
  subst e1
  have hx0' : w3.cell? ad = some (.int .i64 5) := by simpa [rd_T56, addr_add0] using hx0
  have hx1' : w3.cell? ⟨ad.block, ad.off + 1, none⟩ = some (.int .i64 (-1)) := by simpa [rd_T56, addr_add0] using hx1
  clear hx0 hx1
  go_wp2_with (first | (go_at_call 14; refine (code_law (werr 0 12) _ _ HE.out (HL.out.below HB3.out (Nat.le_refl _))).mono ?_; rintro e w' ⟨rfl, hb⟩))
  go_ret
  exact ⟨rfl, HB3.out.trans (hb.mono HB3.out.size)⟩
theorem tributarylaw1_told.calls (r : Bool) (w : World) (hL : Laid w) (h : tributarylaw1_told.f = some r) :
    Calls Tryd.prog 11 #[] w fun e w' => e = .returned (.bool r) ∧ Below w.heap.size w w' := by
  obtain rfl := Option.some.inj h
  exact told_law w hL

end Go.Proofs.YtjcllneibeemgaaDoor.PFn
