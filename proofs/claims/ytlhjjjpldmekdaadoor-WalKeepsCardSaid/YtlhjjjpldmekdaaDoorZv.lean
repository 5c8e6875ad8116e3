/- Proved: a journal: its calls, what its records make of it, its batches in plain lists; condition: numbers that fit. -/
import Derived.Test.YtlhjjjpldmekdaaDoorCode
import Derived.LaidEql
import Derived.Test.YtlhjjjpldmekdaaDoorLogT
import Derived.Deep.RegionHeld3
import Derived.Deep.QuietTactic
import Derived.BigQuiet
import Derived.Deep.RegionLaw
import Derived.Lib.SliceRun
namespace Go.Proofs.YtlhjjjpldmekdaaDoor.Err
open Go.RowKit Go.Extern.Stop Go.Stop Go.Extern Go.Proofs.YtlhjjjpldmekdaaDoorW.PrintWords
set_option linter.unusedVariables false
set_option linter.unusedSimpArgs false

theorem isTypeOf (v : Value) (w : World) : (Extern.ReflectliteType.typeOf #[.iface 113 v]).run Tryd.prog w = .ok (.iface 184 (.agg #[.pointer (some ⟨1, 113, none⟩)])) w := by kernel_rfl
theorem isComparable (w : World) : ((Extern.ReflectliteType.method fun t => do Extern.Rtype.noPackHeld "Comparable" t; (fun a => Value.bool a.comparable) <$> typeInfo t) #[.agg #[.pointer (some ⟨1, 113, none⟩)]]).run Tryd.prog w = .ok (.bool true) w := by kernel_rfl
theorem isMethodComparable (v : Value) (w : World) : (Go.method 331 184 v "Comparable").run Tryd.prog w = .ok (147, v) w := by kernel_rfl
theorem noIsF (v : Value) (w : World) : (Instr.typeAssert (.iface 128 v) 25 198 true).run Tryd.prog w = .ok (.tuple #[.nilIface, .bool false]) w := run_typeAssert_lacksB Tryd.underlying198 (by kernel_rfl) (by kernel_rfl) v 25 w
theorem noIsN (v : Value) (w : World) : (Instr.typeAssert (.iface 113 v) 25 198 true).run Tryd.prog w = .ok (.tuple #[.nilIface, .bool false]) w := run_typeAssert_lacksB Tryd.underlying198 (by kernel_rfl) (by kernel_rfl) v 25 w
theorem noUnwrapN (v : Value) (w : World) : (Instr.typeAssert (.iface 113 v) 25 192 true).run Tryd.prog w = .ok (.tuple #[.nilIface, .bool false]) w := run_typeAssert_lacksB Tryd.underlying192 (by kernel_rfl) (by kernel_rfl) v 25 w
theorem noUnwrapsN (v : Value) (w : World) : (Instr.typeAssert (.iface 113 v) 25 193 true).run Tryd.prog w = .ok (.tuple #[.nilIface, .bool false]) w := run_typeAssert_lacksB Tryd.underlying193 (by kernel_rfl) (by kernel_rfl) v 25 w
theorem compE : (Tryd.prog.info? 113).map (·.comparable) = some true := by kernel_rfl
theorem eql_errno (a b : Int) (w : World) : (binOp .eql 25 (.iface 113 (.int .i64 a)) (.iface 113 (.int .i64 b))).run Tryd.prog w = .ok (.bool (decide (a = b))) w := by
  obtain ⟨i, hi, hcmp⟩ := Option.map_eq_some_iff.1 compE
  have h : ∀ d : Nat, (Op.equalIn (d + 2) 25 (.iface 113 (.int .i64 a)) (.iface 113 (.int .i64 b))).run Tryd.prog w = .ok (decide (a = b)) w := fun d => by
    simp [Op.equalIn, run_underlying Tryd.underlying25, run_underlying Tryd.underlying113, typeInfo, hi, hcmp]
    by_cases hab : a = b <;> simp [hab]
  simp only [binOp]
  simp [Op.equal, Op.maxDepth, h 9998]

theorem is_calls2 (x : Er) (v : Value) (n : Int) (w : World) (hx : IsErr w x v) :
    Calls Tryd.prog 120 #[v, .iface 113 (.int .i64 n), .bool true] w fun e w' => (∃ b, e = .returned (.bool b)) ∧ w' = w := by
  have nF := noIsF
  have nN := noIsN
  have uF := taUnwrap
  have uN := noUnwrapN
  have vN := noUnwrapsN
  have mU := methodUnwrap
  have hEq := eql_errno
  have hTy := fun (u : Value) (W : World) => run_eql_iface_types (P := Tryd.prog) 128 113 u (.int .i64 n) Tryd.underlying25 (by decide) W
  go_enter Tryd.func120, Tryd.ntmps120
  go_wp2
  go_loopg [0] (x.depth) (fun k v0 wr => wr = w ∧ ∃ y, IsErr w y v0 ∧ y.depth ≤ k)
  case atStart => exact ⟨rfl, x, hx, Nat.le_refl _⟩
  case round =>
    obtain ⟨rfl, y, hy, hd⟩ := hrel
    cases y with
    | num m =>
      obtain rfl := hy
      by_cases hmn : m = n
      · have q1 : decide (m = n) = true := decide_eq_true hmn
        go_wp2
        go_ret
        exact ⟨⟨_, rfl⟩, rfl⟩
      · have q1 : decide (m = n) = false := decide_eq_false hmn
        go_wp2
        go_ret
        exact ⟨⟨_, rfl⟩, rfl⟩
    | fault wh a e =>
      obtain ⟨b, v', rfl, hb, he⟩ := hy
      obtain ⟨tt, uu, rfl⟩ := he.ne_nil
      have Hb2 := Aside0.mk hb
      have HE := Aside0.mk he
      have hd2 : e.depth + 1 ≤ gk := hd
      clear hb he hd
      go_wp2_with (first | (go_at_call 141; refine (unwrap_calls _ b _ _ _ Hb2.out).mono ?_; rintro e w' ⟨rfl, rfl⟩))
      go_roundg (gk - 1)
      case measure => omega
      case rel => exact ⟨rfl, e, HE.out, by omega⟩

set_option maxRecDepth 100000 in
/-- errors.Is of an error, or nil, and a number. -/
theorem Is_calls (x : Option Er) (v : Value) (n : Int) (w : World) (hx : IsErr? w x v) :
    Calls Tryd.prog 110 #[v, .iface 113 (.int .i64 n)] w fun e w' => (∃ b, e = .returned (.bool b) ∧ (x = none → b = false)) ∧ w' = w := by
  have hT := @run_callFunc_extern Tryd.prog 117 _ Extern.ReflectliteType.typeOf Tryd.func117 (by kernel_rfl) (by kernel_rfl) (by kernel_rfl) (by kernel_rfl)
  have hC := @run_callFunc_extern Tryd.prog 147 _ (Extern.ReflectliteType.method fun t => do Extern.Rtype.noPackHeld "Comparable" t; pure (.bool (← typeInfo t).comparable)) Tryd.func147 (by kernel_rfl) (by kernel_rfl) (by kernel_rfl) (by kernel_rfl)
  have tT := isTypeOf
  have cT := isComparable
  have mC := isMethodComparable
  cases x with
  | none =>
    obtain rfl : v = .nilIface := hx
    have hn := run_eql_iface_nil_left (P := Tryd.prog) w 113 (.int .i64 n) Tryd.underlying25
    go_enter Tryd.func110, Tryd.ntmps110
    go_wp2
    go_ret
    exact ⟨⟨_, rfl, fun _ => rfl⟩, rfl⟩
  | some x =>
    have HX : Aside0 (IsErr w x v) := ⟨hx⟩
    obtain ⟨tt, uu, rfl⟩ := IsErr.ne_nil (show IsErr w x v from hx)
    clear hx
    go_enter Tryd.func110, Tryd.ntmps110
    go_wp2_with (first | (go_at_call 120; refine (is_calls2 x _ n _ HX.out).mono ?_; rintro e w' ⟨⟨b, rfl⟩, rfl⟩))
    go_ret
    exact ⟨⟨_, rfl, fun h => by cases h⟩, rfl⟩
end Go.Proofs.YtlhjjjpldmekdaaDoor.Err
namespace Go.Proofs.YtlhjjjpldmekdaaDoor.PDsk.K
open Go.RowKit Go.Proofs.YtlhjjjpldmekdaaDoorW.PrintWords Go.Proofs.YtlhjjjpldmekdaaDoorW.PrintLast Go.Proofs.YtlhjjjpldmekdaaDoorW.PrintMore Go.Proofs.YtlhjjjpldmekdaaDoor.Err Go.Maps Go.Proofs.YtlhjjjpldmekdaaDoor.PLog
open Go.Proofs.YtlhjjjpldmekdaaDoor.PFn (RowT k109)
set_option linter.unusedVariables false
set_option linter.unusedSimpArgs false

def walS : ByteArray := ⟨#[119, 97, 108]⟩
/-- What a journal holds: the blocks, of each batch how many blocks there were, the last mark. -/
structure Wl where
  bl : List (List RowT)
  cu : List Int
  ma : Int
abbrev KW : Kd (List RowT) := Kd.slice 109 k109
abbrev KI : Kd Int := Kd.int .i64
theorem infoRow : (Tryd.prog.info? 109).map (fun i => (i.zero, i.size, i.bytes)) = some (some (.agg #[(.int .i64 0), (.int .i64 0)]), 2, 16) := by kernel_rfl
theorem infoRows : (Tryd.prog.info? 76).map (fun i => (i.zero, i.size, i.bytes)) = some (some (.slice none 0 0), 1, 24) := by kernel_rfl
theorem infoInt : (Tryd.prog.info? 3).map (fun i => (i.zero, i.size, i.bytes)) = some (some (.int .i64 0), 1, 8) := by kernel_rfl
/-- A journal's cells: the log, the blocks, the cuts, the mark; OK: the blocks of memory that are its own. -/
structure WxC (Z : Nat) (w : World) (OK : Nat → Prop) (Bw Bl : Nat) (vB vC : Value) (s : Wl) : Prop where
  ge : Z ≤ Bw
  cell : w.heap[Bw]? = some (.cells #[.pointer (some ⟨Bl, 0, none⟩), vB, vC, .int .i64 s.ma] 135 (0, 0))
  rows : KW.R 76 w Z OK vB s.bl
  cuts : KI.R 3 w Z OK vC s.cu
/-- Of which types the blocks are. -/
def Typ (w : World) (k : Nat) : Prop := ∃ q, (q = 76 ∨ q = 109 ∨ q = 3) ∧ ∃ cells, w.heap[k]? = some (.cells cells q (0, 0))
structure Wx (Z : Nat) (w : World) (OK : Nat → Prop) (Bw Bl : Nat) (s : Wl) : Prop where
  c : ∃ vB vC, WxC Z w OK Bw Bl vB vC s
  ok : ∀ k, OK k → Z ≤ k ∧ Typ w k
/-- What a journal's own calls turn. -/
def WB (OK : Nat → Prop) (Bw : Nat) : Nat → Prop := fun k => k = Bw ∨ OK k
theorem Typ.lt {w : World} {k : Nat} (h : Typ w k) : k < w.heap.size := by
  obtain ⟨q, _, cells, hc⟩ := h
  exact (Array.getElem?_eq_some_iff.1 hc).1
theorem Typ.not {w : World} {k : Nat} (h : Typ w k) {cs : Array Value} {q : TypeId} (hb : w.heap[k]? = some (.cells cs q (0, 0))) (h1 : q ≠ 76) (h2 : q ≠ 109) (h3 : q ≠ 3) : False := by
  obtain ⟨q', hq, cells, hc⟩ := h
  rw [hb] at hc
  injection hc with hc
  injection hc with _ hc
  subst hc
  rcases hq with h | h | h
  · exact h1 h
  · exact h2 h
  · exact h3 h
theorem Typ.move {w w' : World} {k : Nat} (h : Typ w k) (hm : w'.heap[k]? = w.heap[k]?) : Typ w' k := by
  obtain ⟨q, hq, cells, hc⟩ := h
  exact ⟨q, hq, cells, hm.trans hc⟩
section
variable {Z : Nat} {w w' : World} {OK OK' : Nat → Prop} {Bw Bl : Nat} {vB vC : Value} {s : Wl} {S : Nat → Prop}
theorem Wx.of (h : WxC Z w OK Bw Bl vB vC s) : Wx Z w (fun k => OK k ∧ Z ≤ k ∧ Typ w k) Bw Bl s := by
  refine ⟨⟨vB, vC, h.ge, h.cell, Kd.R_mono (Kd.R_bound h.rows) (fun k hk => ?_), Kd.R_mono (Kd.R_bound h.cuts) (fun k hk => ?_)⟩, fun k hk => hk.2⟩
  · obtain ⟨h1, h2, _, q, hq, cells, hc⟩ := hk
    refine ⟨h1, h2, q, ?_, cells, hc⟩
    rcases List.mem_cons.1 hq with rfl | hq
    · exact .inl rfl
    · rcases List.mem_cons.1 hq with rfl | hq
      · exact .inr (.inl rfl)
      · cases hq
  · obtain ⟨h1, h2, _, q, hq, cells, hc⟩ := hk
    refine ⟨h1, h2, q, ?_, cells, hc⟩
    rcases List.mem_cons.1 hq with rfl | hq
    · exact .inr (.inr rfl)
    · cases hq
theorem Wx.mono (h : Wx Z w OK Bw Bl s) (hm : ∀ k, OK k → OK' k) (h' : ∀ k, OK' k → Z ≤ k ∧ Typ w k) : Wx Z w OK' Bw Bl s := by
  obtain ⟨⟨vB, vC, h1, h2, h3, h4⟩, h5⟩ := h
  exact ⟨⟨vB, vC, h1, h2, Kd.R_mono h3 hm, Kd.R_mono h4 hm⟩, h'⟩
theorem Wx.lt (h : Wx Z w OK Bw Bl s) : Bw < w.heap.size := by
  obtain ⟨⟨vB, vC, h1, h2, h3, h4⟩, h5⟩ := h
  exact (Array.getElem?_eq_some_iff.1 h2).1
theorem Wx.ne (h : Wx Z w OK Bw Bl s) : ¬ OK Bw := fun hb => by
  obtain ⟨⟨vB, vC, h1, h2, h3, h4⟩, h5⟩ := h
  exact (h5 Bw hb).2.not h2 (by decide) (by decide) (by decide)
theorem Wx.kept (h : Wx Z w OK Bw Bl s) (hf : Fr S w w') (hS : ∀ k, WB OK Bw k → ¬ S k) : Wx Z w' OK Bw Bl s := by
  have hlt := h.lt
  obtain ⟨⟨vB, vC, h1, h2, h3, h4⟩, h5⟩ := h
  exact ⟨⟨vB, vC, h1, (hf.block Bw hlt (hS Bw (.inl rfl))).trans h2, Kd.R_step h3 (fun k hk hlt => hf.block k hlt (hS k (.inr hk))), Kd.R_step h4 (fun k hk hlt => hf.block k hlt (hS k (.inr hk)))⟩,
    fun k hk => ⟨(h5 k hk).1, (h5 k hk).2.move (hf.block k (h5 k hk).2.lt (hS k (.inr hk)))⟩⟩
theorem Wx.below (h : Wx Z w OK Bw Bl s) (hb : Below w.heap.size w w') : Wx Z w' OK Bw Bl s := h.kept (S := fun _ => False) (Fr.of_below hb) (fun _ _ h => h)
/-- Blocks of other types are turned. -/
theorem Wx.noRow (h : Wx Z w OK Bw Bl s) {b : Nat} (hS : ∀ cs q, w.heap[b]? = some (.cells cs q (0, 0)) → q ≠ 76 ∧ q ≠ 109 ∧ q ≠ 3 ∧ q ≠ 135) : ¬ WB OK Bw b := by
  rintro (rfl | hb)
  · obtain ⟨⟨vB, vC, h1, h2, h3, h4⟩, h5⟩ := h
    exact (hS _ _ h2).2.2.2 rfl
  · obtain ⟨q, hq, cells, hc⟩ := (h.ok b hb).2
    have := hS _ _ hc
    rcases hq with h | h | h
    · exact this.1 h
    · exact this.2.1 h
    · exact this.2.2.1 h
theorem Wx.noU (h : Wx Z w OK Bw Bl s) : ∀ b, WB OK Bw b → NoU w b := by
  rintro b (rfl | hb) cells e
  · obtain ⟨⟨vB, vC, h1, h2, h3, h4⟩, h5⟩ := h
    rw [h2] at e
    injection e with e
    injection e with _ e
    exact absurd e (by decide)
  · exact (h.ok b hb).2.not e (by decide) (by decide) (by decide)
theorem Wx.noErr (h : Wx Z w OK Bw Bl s) : ∀ b, WB OK Bw b → ∀ cs, w.heap[b]? ≠ some (.cells cs 139 (0, 0)) := by
  rintro b (rfl | hb) cells e
  · obtain ⟨⟨vB, vC, h1, h2, h3, h4⟩, h5⟩ := h
    rw [h2] at e
    injection e with e
    injection e with _ e
    exact absurd e (by decide)
  · exact (h.ok b hb).2.not e (by decide) (by decide) (by decide)
theorem Wx.ge (h : Wx Z w OK Bw Bl s) : ∀ b, WB OK Bw b → Z ≤ b := by
  rintro b (rfl | hb)
  · obtain ⟨⟨vB, vC, h1, h2, h3, h4⟩, h5⟩ := h
    exact h1
  · exact (h.ok b hb).1
end
/-- A journal's log is not turned by the journal's own calls. -/
theorem LgB.wal {w0 w w' : World} {a1 a2 Bl n : Nat} {s : Dk} {C : CT} {life : Int} {l : List (List Int)} {R Z : Nat} {OK : Nat → Prop} {Bw : Nat} {j : Wl} (h : LgB w0 w a1 a2 Bl n s C life l R) (g : Wx Z w OK Bw Bl j) (hZ : w0.heap.size ≤ Z) (hf : Fr (WB OK Bw) w w') : LgB w0 w' a1 a2 Bl n s C life l R := by
  have hn : ∀ b, LB Bl a1 a2 b → ¬ WB OK Bw b := fun b hb => g.noRow (fun cs q e => by
    rcases h.noRow b hb cs q e with rfl | rfl
    · exact ⟨by decide, by decide, by decide, by decide⟩
    · exact ⟨by decide, by decide, by decide, by decide⟩)
  exact h.keptU hf (hn a1 (.inr (.inl rfl))) (hn a2 (.inr (.inr rfl))) (hn Bl (.inl rfl)) g.noU (fun b hb => Nat.le_trans hZ (g.ge b hb))
theorem Wx.log {w0 w w' : World} {a1 a2 Bl n : Nat} {s : Dk} {C : CT} {life : Int} {l : List (List Int)} {R Z : Nat} {OK : Nat → Prop} {Bw B' : Nat} {j : Wl} (g : Wx Z w OK Bw B' j) (h : LgB w0 w a1 a2 Bl n s C life l R) (hf : Fr (LB Bl a1 a2) w w') : Wx Z w' OK Bw B' j :=
  g.kept hf (fun k hk hb => g.noRow (fun cs q e => by
    rcases h.noRow k hb cs q e with rfl | rfl
    · exact ⟨by decide, by decide, by decide, by decide⟩
    · exact ⟨by decide, by decide, by decide, by decide⟩) hk)

theorem wfault (a : Int) (x : Er) (v : Value) (w : World) (hx : IsErr w x v) : Calls Tryd.prog 85 #[.int .i64 a, v] w fun e w' => ∃ v', e = .returned v' ∧ IsErr w' (.fault walS a x) v' ∧ Below w.heap.size w w' := by
  have HX := Aside0.mk hx
  obtain ⟨t, u, rfl⟩ := hx.ne_nil
  clear hx
  go_enter Tryd.func85, Tryd.ntmps85
  go_wp2
  go_ret
  exact ⟨_, rfl, ⟨w.heap.size, _, rfl, heap_alloc_new w _, HX.out.below (below_alloc (Below.refl _ _) _) (Nat.le_refl _)⟩, below_alloc (Below.refl _ _) _⟩
/-- Why a block of so many rows may not come. -/
def blockE (s : Wl) (n : Int) : Option Er := if 16 < n then some (.fault walS n (.num 2)) else if 400 ≤ s.bl.length then some (.fault walS 0 (.num 2)) else none
def cutE (s : Wl) : Option Er := if 60 ≤ s.cu.length then some (.fault walS 0 (.num 2)) else none
def markE (s : Wl) (n : Int) : Option Er := if n ≤ s.ma ∨ (s.cu.length : Int) < n then some (.fault walS n (.num 1)) else none
section
variable {Z : Nat} {w : World} {OK : Nat → Prop} {Bw Bl : Nat} {s : Wl}
theorem block_wal (h : Wx Z w OK Bw Bl s) (n : Int) (hl : s.bl.length ≤ 1000000) : Calls Tryd.prog 91 #[.pointer (some ⟨Bw, 0, none⟩), .int .i64 n] w fun e w' => ∃ v, e = .returned v ∧ IsErr? w' (blockE s n) v ∧ Below w.heap.size w w' := by
  obtain ⟨⟨vB, vC, h1, h2, h3, h4⟩, h5⟩ := h
  obtain ⟨A, c, rfl⟩ := Kd.R_slice h3
  obtain ⟨x0, x1, x2, x3⟩ := facts4 h2
  clear h1 h2 h3 h4 h5
  unfold blockE
  by_cases g1 : 16 < n
  · have q1 : decide (16 < n) = true := decide_eq_true g1
    rw [if_pos g1]
    go_enter Tryd.func91, Tryd.ntmps91
    go_wp2_with fail
    refine (wfault n (.num 2) _ w rfl).mono ?_
    rintro e w1 ⟨v, rfl, hE, hb⟩
    go_wp2_with fail
    go_ret
    exact ⟨_, rfl, hE, hb⟩
  · have q1 : decide (16 < n) = false := decide_eq_false g1
    rw [if_neg g1]
    by_cases g2 : 400 ≤ s.bl.length
    · have q2 : decide (400 ≤ (s.bl.length : Int)) = true := decide_eq_true (by omega)
      rw [if_pos g2]
      go_enter Tryd.func91, Tryd.ntmps91
      go_wp2_with fail
      refine (wfault 0 (.num 2) _ w rfl).mono ?_
      rintro e w1 ⟨v, rfl, hE, hb⟩
      go_wp2_with fail
      go_ret
      exact ⟨_, rfl, hE, hb⟩
    · have q2 : decide (400 ≤ (s.bl.length : Int)) = false := decide_eq_false (by omega)
      rw [if_neg g2]
      go_enter Tryd.func91, Tryd.ntmps91
      go_wp2_with fail
      go_ret
      exact ⟨_, rfl, rfl, Below.refl _ _⟩
theorem cut_wal (h : Wx Z w OK Bw Bl s) (hl : s.cu.length ≤ 1000000) : Calls Tryd.prog 93 #[.pointer (some ⟨Bw, 0, none⟩)] w fun e w' => ∃ v, e = .returned v ∧ IsErr? w' (cutE s) v ∧ Below w.heap.size w w' := by
  obtain ⟨⟨vB, vC, h1, h2, h3, h4⟩, h5⟩ := h
  obtain ⟨A, c, rfl⟩ := Kd.R_slice h4
  obtain ⟨x0, x1, x2, x3⟩ := facts4 h2
  clear h1 h2 h3 h4 h5
  unfold cutE
  by_cases g2 : 60 ≤ s.cu.length
  · have q2 : decide (60 ≤ (s.cu.length : Int)) = true := decide_eq_true (by omega)
    rw [if_pos g2]
    go_enter Tryd.func93, Tryd.ntmps93
    go_wp2_with fail
    refine (wfault 0 (.num 2) _ w rfl).mono ?_
    rintro e w1 ⟨v, rfl, hE, hb⟩
    go_wp2_with fail
    go_ret
    exact ⟨_, rfl, hE, hb⟩
  · have q2 : decide (60 ≤ (s.cu.length : Int)) = false := decide_eq_false (by omega)
    rw [if_neg g2]
    go_enter Tryd.func93, Tryd.ntmps93
    go_wp2_with fail
    go_ret
    exact ⟨_, rfl, rfl, Below.refl _ _⟩
theorem mark_wal (h : Wx Z w OK Bw Bl s) (n : Int) (hl : s.cu.length ≤ 1000000) : Calls Tryd.prog 111 #[.pointer (some ⟨Bw, 0, none⟩), .int .i64 n] w fun e w' => ∃ v, e = .returned v ∧ IsErr? w' (markE s n) v ∧ Below w.heap.size w w' := by
  obtain ⟨⟨vB, vC, h1, h2, h3, h4⟩, h5⟩ := h
  obtain ⟨A, c, rfl⟩ := Kd.R_slice h4
  obtain ⟨x0, x1, x2, x3⟩ := facts4 h2
  clear h1 h2 h3 h4 h5
  unfold markE
  by_cases g1 : n ≤ s.ma
  · have q1 : decide (n ≤ s.ma) = true := decide_eq_true g1
    rw [if_pos (.inl g1)]
    go_enter Tryd.func111, Tryd.ntmps111
    go_wp2_with fail
    refine (wfault n (.num 1) _ w rfl).mono ?_
    rintro e w1 ⟨v, rfl, hE, hb⟩
    go_wp2_with fail
    go_ret
    exact ⟨_, rfl, hE, hb⟩
  · have q1 : decide (n ≤ s.ma) = false := decide_eq_false g1
    by_cases g2 : (s.cu.length : Int) < n
    · have q2 : decide ((s.cu.length : Int) < n) = true := decide_eq_true g2
      rw [if_pos (.inr g2)]
      go_enter Tryd.func111, Tryd.ntmps111
      go_wp2_with fail
      refine (wfault n (.num 1) _ w rfl).mono ?_
      rintro e w1 ⟨v, rfl, hE, hb⟩
      go_wp2_with fail
      go_ret
      exact ⟨_, rfl, hE, hb⟩
    · have q2 : decide ((s.cu.length : Int) < n) = false := decide_eq_false g2
      rw [if_neg (by rintro (h | h); exact g1 h; exact g2 h)]
      go_enter Tryd.func111, Tryd.ntmps111
      go_wp2_with fail
      go_ret
      exact ⟨_, rfl, rfl, Below.refl _ _⟩
end
end Go.Proofs.YtlhjjjpldmekdaaDoor.PDsk.K
namespace Go.Proofs.YtlhjjjpldmekdaaDoor.PDsk.K
open Go.RowKit Go.Proofs.YtlhjjjpldmekdaaDoorW.PrintWords Go.Proofs.YtlhjjjpldmekdaaDoorW.PrintLast Go.Proofs.YtlhjjjpldmekdaaDoorW.PrintMore Go.Proofs.YtlhjjjpldmekdaaDoor.Err Go.Maps Go.Proofs.YtlhjjjpldmekdaaDoor.PLog
open Go.Proofs.YtlhjjjpldmekdaaDoor.PFn (RowT k109)
set_option linter.unusedVariables false
set_option linter.unusedSimpArgs false
/-- What a call of a journal's leaves: its own blocks are the old ones and new ones. -/
def DoP (Z : Nat) (OK : Nat → Prop) (Bw Bl : Nat) (s : Wl) (w w' : World) : Prop :=
  ∃ OK', Wx Z w' OK' Bw Bl s ∧ (∀ k, OK' k → OK k ∨ w.heap.size ≤ k) ∧ Fr (WB OK Bw) w w'
section
variable {Z : Nat} {w : World} {OK : Nat → Prop} {Bw Bl : Nat} {s : Wl}
theorem WxC.stored {w1 : World} {vB vC v1 : Value} {s' : Wl} (h : WxC Z w OK Bw Bl vB vC s) (hf : Fr OK w w1) (hn : ¬ OK Bw) (hr : KW.R 76 w1 Z (fun k => OK k ∨ w.heap.size ≤ k) v1 s'.bl) (hc : KI.R 3 w1 Z (fun k => OK k ∨ w.heap.size ≤ k) vC s'.cu) (hm : s'.ma = s.ma) :
    DoP Z OK Bw Bl s' w (w1.setCell ⟨Bw, 1, none⟩ v1) := by
  have hlt := (Array.getElem?_eq_some_iff.1 h.cell).1
  have h1 := (hf.block Bw hlt hn).trans h.cell
  have h2 := Go.heap_setCell_same w1 Bw 1 _ _ v1 h1
  have hne : ∀ k, (OK k ∨ w.heap.size ≤ k) → k ≠ Bw := by
    rintro k (hk | hk) rfl
    · exact hn hk
    · omega
  refine ⟨_, Wx.of (vB := v1) (vC := vC) (OK := fun k => OK k ∨ w.heap.size ≤ k) ⟨h.ge, ?_, Kd.R_far (p := ⟨Bw, 1, none⟩) hr hne v1, Kd.R_far (p := ⟨Bw, 1, none⟩) hc hne v1⟩, fun k hk => hk.1, ((hf.mono (fun k hk => .inr hk)).set_ (.inl rfl) v1)⟩
  rw [h2, hm]
  simp [Array.setIfInBounds]
theorem WxC.stored2 {w1 : World} {vB vC v1 : Value} {s' : Wl} (h : WxC Z w OK Bw Bl vB vC s) (hf : Fr OK w w1) (hn : ¬ OK Bw) (hr : KW.R 76 w1 Z (fun k => OK k ∨ w.heap.size ≤ k) vB s'.bl) (hc : KI.R 3 w1 Z (fun k => OK k ∨ w.heap.size ≤ k) v1 s'.cu) (hm : s'.ma = s.ma) :
    DoP Z OK Bw Bl s' w (w1.setCell ⟨Bw, 2, none⟩ v1) := by
  have hlt := (Array.getElem?_eq_some_iff.1 h.cell).1
  have h1 := (hf.block Bw hlt hn).trans h.cell
  have h2 := Go.heap_setCell_same w1 Bw 2 _ _ v1 h1
  have hne : ∀ k, (OK k ∨ w.heap.size ≤ k) → k ≠ Bw := by
    rintro k (hk | hk) rfl
    · exact hn hk
    · omega
  refine ⟨_, Wx.of (vB := vB) (vC := v1) (OK := fun k => OK k ∨ w.heap.size ≤ k) ⟨h.ge, ?_, Kd.R_far (p := ⟨Bw, 2, none⟩) hr hne v1, Kd.R_far (p := ⟨Bw, 2, none⟩) hc hne v1⟩, fun k hk => hk.1, ((hf.mono (fun k hk => .inr hk)).set_ (.inl rfl) v1)⟩
  rw [h2, hm]
  simp [Array.setIfInBounds]
theorem Fr.of_grownS {w w' : World} {S : Nat → Prop} {v : Value} (h : w.grownBy w' v.ownBlock) (hS : ∀ k, v.ownBlock = some k → S k) : Fr S w w' := ⟨h.os, h.tape, h.output, h.size, fun k hk hn => h.block k hk (fun e => hn (hS k e.symm))⟩
theorem own_ty {α : Type} {d : Kd α} {e base : Nat} {ok : Nat → Prop} {v : Value} {xs : List α} (h : d.R e w base ok v xs) : ∀ k, v.ownBlock = some k → ∀ cs q, w.heap[k]? = some (.cells cs q (0, 0)) → q = e := by
  intro k hk cs q hc
  obtain ⟨inner, ho⟩ := Kd.R_own h
  obtain ⟨cells, hc'⟩ := own_typed ho k hk
  rw [hc'] at hc
  injection hc with hc
  injection hc with _ hc
  exact hc.symm
theorem own_size {α : Type} {d : Kd α} {e base : Nat} {ok : Nat → Prop} {v : Value} {xs : List α} (h : d.R e w base ok v xs) : ∀ k, v.ownBlock = some k → k < w.heap.size := by
  intro k hk
  obtain ⟨inner, ho⟩ := Kd.R_own h
  exact own_lt ho k hk
theorem does_mark (h : Wx Z w OK Bw Bl s) (n : Int) (v2 : Value) : Calls Tryd.prog 112 #[.pointer (some ⟨Bw, 0, none⟩), .int .i64 3, v2, .int .i64 n] w fun e w' => e = .returned (.tuple #[]) ∧ DoP Z OK Bw Bl { s with ma := n } w w' := by
  have H := Aside0.mk h
  obtain ⟨⟨vB, vC, h1, h2, h3, h4⟩, h5⟩ := h
  obtain ⟨x0, x1, x2, x3⟩ := facts4 h2
  have z3 := blk_frozen h2 3
  have H2 := Aside0.mk h2
  have H3 := Aside0.mk h3
  have H4 := Aside0.mk h4
  have G1 := Aside0.mk h1
  clear h1 h2 h3 h4 h5
  go_enter Tryd.func112, Tryd.ntmps112
  go_wp2_with fail
  go_end0
  have hne : ∀ k, OK k → k ≠ Bw := fun k hk e => H.out.ne (e ▸ hk)
  refine ⟨rfl, _, Wx.of (vB := vB) (vC := vC) (OK := OK) ⟨G1.out, ?_, Kd.R_far (p := ⟨Bw, 3, none⟩) H3.out hne _, Kd.R_far (p := ⟨Bw, 3, none⟩) H4.out hne _⟩, fun k hk => .inl hk.1, (Fr.refl _ w).set_ (.inl rfl) _⟩
  rw [Go.heap_setCell_same w Bw 3 _ _ (.int .i64 n) H2.out]
  simp [Array.setIfInBounds]
set_option maxHeartbeats 16000000 in
set_option maxRecDepth 100000 in
theorem does_block (h : Wx Z w OK Bw Bl s) (hZ : Z ≤ w.heap.size) (A : Option Addr) (c : Nat) (xs : List RowT) (hC : k109.C w A xs.length xs) (hc : xs.length ≤ c) (hl : xs.length ≤ 100000) (hb : s.bl.length ≤ 1000000) (n : Int) : Calls Tryd.prog 112 #[.pointer (some ⟨Bw, 0, none⟩), .int .i64 1, .slice A xs.length c, .int .i64 n] w fun e w' => e = .returned (.tuple #[]) ∧ DoP Z OK Bw Bl { s with bl := s.bl ++ [xs] } w w' := by
  have H := Aside0.mk h
  have HC := Aside0.mk hC
  obtain ⟨⟨vB, vC, h1, h2, h3, h4⟩, h5⟩ := h
  have HX : Aside0 (WxC Z w OK Bw Bl vB vC s) := ⟨h1, h2, h3, h4⟩
  have H2 := Aside0.mk h2
  obtain ⟨x0, x1, x2, x3⟩ := facts4 h2
  clear h1 h2 h3 h4 h5 hC x0 x2 x3
  go_enter Tryd.func112, Tryd.ntmps112
  go_wp2_with fail
  have x1' : w.drew.cell? ⟨Bw, 1, none⟩ = some vB := x1
  go_region_law (first
    | (refine Kd.R_append_rows_step k109 (w0 := w) w.heap.size (by rfl) (.const (.slice none 0 0)) (.tmp 16) 76 109 (.agg #[(.int .i64 0), (.int .i64 0)]) 16 rfl Tryd.underlying76 infoRow rfl (by decide) (by omega) (.slice none 0 0) ([] : List RowT) xs _ _ _ (fun _ => True) (fun _ => False) rfl rfl ?aO ?aR (fun _ _ h => h) (fun _ h => h.elim) ?aF ?aB ?aS ?aL ?_; (case aO => exact Kd.R_nil _ _ _ _ _); (case aR => exact Kd.C_drew HC.out); (case aF => exact fun _ _ => trivial); (case aB => exact below_drew (Below.refl _ _)); (case aS => exact Nat.le_refl _); (case aL => simp only [List.length_nil]; omega); intro v3 w3 ho hb hg hat; rw [List.nil_append] at ho; have H3 := Aside0.mk ho; have B3 := Aside0.mk hb; obtain ⟨A3, c3, rfl⟩ := Kd.R_slice ho; have y1 := (facts4 ((B3.out.block Bw H.out.lt).trans H2.out)).2.1; have y2 := (facts4 (((B3.out.trans ((below_alloc (Below.refl _ _) (Obj.cells #[Value.slice A3 xs.length c3] 76)).mono B3.out.size)).block Bw H.out.lt).trans H2.out)).2.1; clear ho hb hg hat)
    | (refine Kd.R_append_step KW (w0 := w) Z (by rfl) (.tmp 15) (.tmp 18) 71 76 (.slice none 0 0) 24 rfl Tryd.underlying71 infoRows rfl (by decide) (by omega) vB s.bl xs [.slice A3 xs.length c3] (fun k => OK k ∨ w.heap.size ≤ k) (fun k => w.heap.size ≤ k) rfl rfl ?bP ?bK ?bF ?bO ?bB ?bS ?bL ?_; (case bP => exact ⟨_, rfl, Kd.R_lower (Kd.R_mono (Kd.R_bound H3.out) (fun k hk => hk.2.1)) hZ⟩); (case bK => exact fun k hk => ⟨.inr hk, fun e => by have := own_size HX.out.rows k e.symm; omega⟩); (case bF => exact fun k hk => .inr (Nat.le_trans B3.out.size hk)); (case bO => exact Kd.R_mono (Kd.R_below HX.out.rows B3.out) (fun _ hk => .inl hk)); (case bB => exact B3.out.mono hZ); (case bS => exact Nat.le_trans hZ B3.out.size); (case bL => omega); intro v5 w5 ho hb hg hat; obtain ⟨A5, c5, rfl⟩ := Kd.R_slice ho; have H5 := Aside0.mk ho; have F5 : Aside0 (Fr (fun b => vB.ownBlock = some b) w w5) := ⟨(Fr.of_below B3.out).trans (Fr.of_grownS hg (fun _ h => h))⟩; have y5 := (facts4 ((F5.out.block Bw H.out.lt (fun h => H.out.ne (HX.out.rows.1 _ h))).trans H2.out)).2.1; have z5 := blk_frozen ((F5.out.block Bw H.out.lt (fun h => H.out.ne (HX.out.rows.1 _ h))).trans H2.out) 1; clear ho hb hg hat))
  all_goals go_wp2
  all_goals go_end0
  all_goals exact ⟨rfl, HX.out.stored (F5.out.mono (fun k hk => HX.out.rows.1 k hk)) H.out.ne (by have := H5.out; rw [List.length_append] at this; exact this) (Kd.R_mono (own_fr HX.out.cuts F5.out (fun b hb cs q hc => by rw [own_ty HX.out.rows b hb cs q hc]; decide)) (fun _ h => .inl h)) rfl⟩
set_option maxHeartbeats 16000000 in
set_option maxRecDepth 100000 in
theorem does_cut (h : Wx Z w OK Bw Bl s) (hZ : Z ≤ w.heap.size) (hb : s.bl.length ≤ 1000000) (hcl : s.cu.length ≤ 1000000) (v2 : Value) (n : Int) : Calls Tryd.prog 112 #[.pointer (some ⟨Bw, 0, none⟩), .int .i64 2, v2, .int .i64 n] w fun e w' => e = .returned (.tuple #[]) ∧ DoP Z OK Bw Bl { s with cu := s.cu ++ [(s.bl.length : Int)] } w w' := by
  have H := Aside0.mk h
  obtain ⟨⟨vB, vC, h1, h2, h3, h4⟩, h5⟩ := h
  have HX : Aside0 (WxC Z w OK Bw Bl vB vC s) := ⟨h1, h2, h3, h4⟩
  have H2 := Aside0.mk h2
  obtain ⟨AB, cB, rfl⟩ := Kd.R_slice h3
  obtain ⟨x0, x1, x2, x3⟩ := facts4 h2
  clear h1 h2 h3 h4 h5 x0 x3
  go_enter Tryd.func112, Tryd.ntmps112
  go_wp2_with fail
  have x1' : w.drew.cell? ⟨Bw, 1, none⟩ = some (.slice AB s.bl.length cB) := x1
  have x2' : w.drew.cell? ⟨Bw, 2, none⟩ = some vC := x2
  have B3 : Aside0 (Below w.heap.size w w.drew) := ⟨below_drew (Below.refl _ _)⟩
  have y2 := (facts4 (((below_alloc (Below.refl w.heap.size w) (Obj.cells #[Value.int .i64 (s.bl.length : Int)] 3)).block Bw H.out.lt).trans H2.out)).2.2.1
  go_region_law (first
    | (refine Kd.R_append_step KI (w0 := w) (W := w.drew) Z (by rfl) (.tmp 28) (.tmp 34) 72 3 (.int .i64 0) 8 rfl Tryd.underlying72 infoInt rfl (by decide) (by omega) vC s.cu (s.bl.length : Int) [.int .i64 (s.bl.length : Int)] (fun k => OK k ∨ w.heap.size ≤ k) (fun _ => False) (by rfl) (by rfl) ?bP ?bK ?bF ?bO ?bB ?bS ?bL ?_; (case bP => rfl); (case bK => exact fun k hk => hk.elim); (case bF => exact fun k hk => .inr (Nat.le_trans B3.out.size hk)); (case bO => exact Kd.R_mono (Kd.R_below HX.out.cuts B3.out) (fun _ hk => .inl hk)); (case bB => exact B3.out.mono hZ); (case bS => exact Nat.le_trans hZ B3.out.size); (case bL => omega); intro v5 w5 ho hb hg hat; obtain ⟨A5, c5, rfl⟩ := Kd.R_slice ho; have H5 := Aside0.mk ho; have F5 : Aside0 (Fr (fun b => vC.ownBlock = some b) w w5) := ⟨(Fr.of_below B3.out).trans (Fr.of_grownS hg (fun _ h => h))⟩; have y5 := (facts4 ((F5.out.block Bw H.out.lt (fun h => H.out.ne (HX.out.cuts.1 _ h))).trans H2.out)).2.2.1; have z5 := blk_frozen ((F5.out.block Bw H.out.lt (fun h => H.out.ne (HX.out.cuts.1 _ h))).trans H2.out) 2; clear ho hb hg hat))
  all_goals go_wp2
  all_goals go_end0
  all_goals exact ⟨rfl, HX.out.stored2 (F5.out.mono (fun k hk => HX.out.cuts.1 k hk)) H.out.ne (Kd.R_mono (own_fr HX.out.rows F5.out (fun b hb cs q hc => by rw [own_ty HX.out.cuts b hb cs q hc]; decide)) (fun _ h => .inl h)) (by have := H5.out; rw [List.length_append] at this; exact this) rfl⟩
end
end Go.Proofs.YtlhjjjpldmekdaaDoor.PDsk.K
namespace Go.Proofs.YtlhjjjpldmekdaaDoor.PWal
open Go.RowKit Go.Proofs.YtlhjjjpldmekdaaDoorW.PrintWords Go.Proofs.YtlhjjjpldmekdaaDoorW.PrintLast Go.Proofs.YtlhjjjpldmekdaaDoorW.PrintMore Go.Proofs.YtlhjjjpldmekdaaDoor.PFn Go.Proofs.YtlhjjjpldmekdaaDoor.Err Go.Proofs.YtlhjjjpldmekdaaDoor.PLog
open Go.Proofs.YtlhjjjpldmekdaaDoor.PDsk.K (Wl)
set_option linter.unusedVariables false
set_option linter.unusedSimpArgs false

/-- What a record makes of a journal; none: it is none that may come next. -/
def step (s : Wl) (b : List Int) : Option Wl :=
  if (readI b 0).2.2 ≠ 0 then none
  else if (readI b 0).1 = 1 then
    (if (readRows b (readI b 0).2.1).2.2.1 ≠ 0 then none
    else if 16 < (readRows b (readI b 0).2.1).1.length ∨ 400 ≤ s.bl.length then none
    else if (readRows b (readI b 0).2.1).2.1 ≠ b.length then none
    else some { s with bl := s.bl ++ [(readRows b (readI b 0).2.1).1] })
  else if (readI b 0).1 = 2 then
    (if 60 ≤ s.cu.length then none else if (readI b 0).2.1 ≠ b.length then none else some { s with cu := s.cu ++ [(s.bl.length : Int)] })
  else if (readI b 0).1 = 3 then
    (if (readI b (readI b 0).2.1).2.2 ≠ 0 then none
    else if (readI b (readI b 0).2.1).1 ≤ s.ma ∨ (s.cu.length : Int) < (readI b (readI b 0).2.1).1 then none
    else if (readI b (readI b 0).2.1).2.1 ≠ b.length then none
    else some { s with ma := (readI b (readI b 0).2.1).1 })
  else none
/-- The records, one behind the other. -/
def run : Wl → List (List Int) → Option Wl
  | s, [] => some s
  | s, b :: l => (step s b).bind fun t => run t l
theorem run_snoc {s t : Wl} {l : List (List Int)} {b : List Int} (h : run s l = some t) : run s (l ++ [b]) = step t b := by
  induction l generalizing s with
  | nil =>
    have e : s = t := Option.some.inj h
    subst e
    show (step s b).bind (fun t => run t []) = _
    cases step s b <;> rfl
  | cons a l ih =>
    show (step s a).bind (fun t => run t (l ++ [b])) = _
    cases hs : step s a with
    | none => rw [PWal.run, hs] at h; cases h
    | some q => rw [PWal.run, hs] at h; exact ih h
theorem run_take {s t : Wl} {l : List (List Int)} {i : Nat} (h : run s (l.take i) = some t) (hi : i < l.length) : run s (l.take (i + 1)) = step t (l.getD i []) := by
  rw [List.take_add_one, List.getElem?_eq_getElem hi, List.getD_eq_getElem?_getD, List.getElem?_eq_getElem hi]
  exact run_snoc h
def encB (l : List RowT) : List Int := encI 1 ++ encR l
def encC : List Int := encI 2
def encM (n : Int) : List Int := encI 3 ++ encI n
theorem okI1 : okI 1 := by unfold okI; omega
theorem okI2 : okI 2 := by unfold okI; omega
theorem okI3 : okI 3 := by unfold okI; omega
theorem readI_head (n : Int) (h : okI n) (Y : List Int) : readI (encI n ++ Y) 0 = (n, ((encI n).length : Int), 0) := by
  have := readI_enc [] Y n h
  simpa using this
theorem step_B (s : Wl) (l : List RowT) (hl : ∀ r ∈ l, okRow r) (hn : l.length ≤ 16) (hb : s.bl.length < 400) : step s (encB l) = some { s with bl := s.bl ++ [l] } := by
  have h1 : readI (encB l) 0 = (1, ((encI 1).length : Int), 0) := readI_head 1 okI1 (encR l)
  have h2 := readRows_enc (encI 1) [] l hl (by omega)
  rw [List.append_nil] at h2
  have h3 : readRows (encB l) ((encI 1).length : Int) = (l, (((encI 1).length + (encR l).length : Nat) : Int), 0, 0) := h2
  unfold step
  rw [h1, if_neg (by simp), if_pos rfl]
  simp only [h3]
  rw [if_neg (by simp), if_neg (by omega), if_neg (by simp [encB])]
theorem step_C (s : Wl) (hb : s.cu.length < 60) : step s encC = some { s with cu := s.cu ++ [(s.bl.length : Int)] } := by
  have h1 : readI encC 0 = (2, ((encI 2).length : Int), 0) := by have := readI_head 2 okI2 []; rwa [List.append_nil] at this
  unfold step
  rw [h1, if_neg (by simp), if_neg (by decide), if_pos rfl, if_neg (by omega), if_neg (by simp [encC])]
theorem step_M (s : Wl) (n : Int) (hn : okI n) (h0 : s.ma < n) (h1 : n ≤ (s.cu.length : Int)) : step s (encM n) = some { s with ma := n } := by
  have e1 : readI (encM n) 0 = (3, ((encI 3).length : Int), 0) := readI_head 3 okI3 (encI n)
  have e2 := readI_enc (encI 3) [] n hn
  rw [List.append_nil] at e2
  have e3 : readI (encM n) ((encI 3).length : Int) = (n, (((encI 3).length + (encI n).length : Nat) : Int), 0) := e2
  unfold step
  rw [e1, if_neg (by simp), if_neg (by decide), if_neg (by decide), if_pos rfl]
  simp only [e3]
  rw [if_neg (by simp), if_neg (by omega), if_neg (by simp [encM])]
theorem encR_len (l : List RowT) (h : l.length ≤ 16) : 1 ≤ (encR l).length ∧ (encR l).length ≤ 330 := by
  have h1 := encI_len (l.length : Int)
  have h2 := rowsE_len l
  unfold encR
  rw [List.length_append]
  omega
theorem encB_len (l : List RowT) (h : l.length ≤ 16) : (encB l).length ≤ 340 := by
  have h1 := encI_len 1
  have h2 := encR_len l h
  unfold encB
  rw [List.length_append]
  omega
theorem encC_len : encC.length ≤ 10 := (encI_len 2).2
theorem encM_len (n : Int) : (encM n).length ≤ 20 := by
  have h1 := encI_len 3
  have h2 := encI_len n
  unfold encM
  rw [List.length_append]
  omega
theorem encR_bytes {l : List RowT} (hl : ∀ r ∈ l, okRow r) (hn : l.length ≤ 100000) : ∀ x ∈ encR l, 0 ≤ x ∧ x ≤ 255 := by
  intro x hx
  rcases List.mem_append.1 hx with h | h
  · exact encI_bytes (okI_nat (by omega)) x h
  · exact rowsE_bytes hl x h
theorem encB_bytes {l : List RowT} (hl : ∀ r ∈ l, okRow r) (hn : l.length ≤ 100000) : ∀ x ∈ encB l, 0 ≤ x ∧ x ≤ 255 := by
  intro x hx
  rcases List.mem_append.1 hx with h | h
  · exact encI_bytes okI1 x h
  · exact encR_bytes hl hn x h
theorem encC_bytes : ∀ x ∈ encC, 0 ≤ x ∧ x ≤ 255 := encI_bytes okI2
theorem encM_bytes {n : Int} (hn : okI n) : ∀ x ∈ encM n, 0 ≤ x ∧ x ≤ 255 := by
  intro x hx
  rcases List.mem_append.1 hx with h | h
  · exact encI_bytes okI3 x h
  · exact encI_bytes hn x h
/-- Bounds that every journal keeps. -/
structure Wb (s : Wl) : Prop where
  bl : s.bl.length ≤ 400
  cu : s.cu.length ≤ 60
  ma : 0 ≤ s.ma ∧ s.ma ≤ s.cu.length
  rows : ∀ l ∈ s.bl, l.length ≤ 16
  cuts : ∀ c ∈ s.cu, 0 ≤ c ∧ c ≤ s.bl.length
  sorted : s.cu.Pairwise (· ≤ ·)
theorem Wb.zero : Wb ⟨[], [], 0⟩ := ⟨by simp, by simp, by simp, by simp, by simp, List.Pairwise.nil⟩
theorem Wb.step {s t : Wl} {b : List Int} (h : Wb s) (hs : step s b = some t) : Wb t := by
  unfold PWal.step at hs
  split at hs
  · cases hs
  split at hs
  · split at hs
    · cases hs
    split at hs
    · cases hs
    split at hs
    · cases hs
    rename_i h1 h2 h3 h4 h5
    cases hs
    refine ⟨by simp; omega, h.cu, h.ma, ?_, ?_, h.sorted⟩
    · intro l hl
      rcases List.mem_append.1 hl with h' | h'
      · exact h.rows l h'
      · rw [List.mem_singleton.1 h']; omega
    · intro c hc
      have := h.cuts c hc
      simp only [List.length_append, List.length_singleton]
      omega
  split at hs
  · split at hs
    · cases hs
    split at hs
    · cases hs
    rename_i h1 h2 h3 h4 h5
    cases hs
    refine ⟨h.bl, by simp; omega, ⟨h.ma.1, by have := h.ma.2; simp only [List.length_append, List.length_singleton]; omega⟩, h.rows, ?_, List.pairwise_append.2 ⟨h.sorted, List.pairwise_singleton _ _, fun a ha b hb => by rw [List.mem_singleton.1 hb]; exact (h.cuts a ha).2⟩⟩
    intro c hc
    rcases List.mem_append.1 hc with h' | h'
    · exact h.cuts c h'
    · rw [List.mem_singleton.1 h']
      exact ⟨by omega, Int.le_refl _⟩
  split at hs
  · split at hs
    · cases hs
    split at hs
    · cases hs
    split at hs
    · cases hs
    rename_i h1 h2 h3 h4 h5 h6 h7
    cases hs
    have := h.ma.1
    have h6' : s.ma < (readI b (readI b 0).2.1).1 ∧ (readI b (readI b 0).2.1).1 ≤ (s.cu.length : Int) := by omega
    exact ⟨h.bl, h.cu, ⟨Int.le_trans this (Int.le_of_lt h6'.1), h6'.2⟩, h.rows, h.cuts, h.sorted⟩
  · cases hs
theorem Wb.run {s t : Wl} {l : List (List Int)} (h : Wb s) (hr : run s l = some t) : Wb t := by
  induction l generalizing s with
  | nil => cases hr; exact h
  | cons a l ih =>
    rw [PWal.run] at hr
    cases hs : PWal.step s a with
    | none => rw [hs] at hr; cases hr
    | some q => rw [hs] at hr; exact ih (h.step hs) hr
end Go.Proofs.YtlhjjjpldmekdaaDoor.PWal
namespace Go.Proofs.YtlhjjjpldmekdaaDoor.PDsk.K
open Go.RowKit Go.Proofs.YtlhjjjpldmekdaaDoorW.PrintWords Go.Proofs.YtlhjjjpldmekdaaDoorW.PrintLast Go.Proofs.YtlhjjjpldmekdaaDoorW.PrintMore Go.Proofs.YtlhjjjpldmekdaaDoor.Err Go.Maps Go.Proofs.YtlhjjjpldmekdaaDoor.PLog Go.Proofs.YtlhjjjpldmekdaaDoor.PWal
open Go.Proofs.YtlhjjjpldmekdaaDoor.PFn (RowT k109 readInt_calls readRows_calls readI readRows werr werr_yes wireS)
set_option linter.unusedVariables false
set_option linter.unusedSimpArgs false
def TkP (Z : Nat) (OK : Nat → Prop) (Bw Bl : Nat) (s : Wl) (o : Option Wl) (w : World) (e : Ending) (w' : World) : Prop := e = .returned (.bool o.isSome) ∧ DoP Z OK Bw Bl (o.getD s) w w'
section
variable {Z : Nat} {w : World} {OK : Nat → Prop} {Bw Bl : Nat} {s : Wl}
theorem DoP.below {w' : World} (h : Wx Z w OK Bw Bl s) (hb : Below w.heap.size w w') : DoP Z OK Bw Bl s w w' := ⟨OK, h.below hb, fun _ h => .inl h, Fr.of_below hb⟩
theorem DoP.after {w1 w2 : World} (h : DoP Z OK Bw Bl s w1 w2) (hb : Below w.heap.size w w1) : DoP Z OK Bw Bl s w w2 := by
  obtain ⟨OK', h1, h2, h3⟩ := h
  exact ⟨OK', h1, fun k hk => (h2 k hk).imp_right (fun hk => Nat.le_trans hb.size hk), (Fr.of_below hb).trans h3⟩
theorem TkP.no {o : Option Wl} {w' : World} (ho : o = none) (h : Wx Z w OK Bw Bl s) (hb : Below w.heap.size w w') : TkP Z OK Bw Bl s o w (.returned (.bool false)) w' := by
  subst ho
  exact ⟨rfl, DoP.below h hb⟩
theorem TkP.yes {o : Option Wl} {t : Wl} {w1 w' : World} (ho : o = some t) (h : DoP Z OK Bw Bl t w1 w') (hb : Below w.heap.size w w1) : TkP Z OK Bw Bl s o w (.returned (.bool true)) w' := by
  subst ho
  exact ⟨rfl, h.after hb⟩
set_option maxHeartbeats 16000000 in
set_option maxRecDepth 100000 in
theorem takes_wal (h : Wx Z w OK Bw Bl s) (hW : Wb s) (hZ : Z ≤ w.heap.size) (A : Option Addr) (c : Nat) (b : List Int) (hC : (Kd.int .u8).C w A b.length b) (hc : b.length ≤ c) (hb : b.length ≤ 100000) (hbb : ∀ x ∈ b, 0 ≤ x ∧ x ≤ 255) (o : Option Wl) (hst : PWal.step s b = o) :
    Calls Tryd.prog 86 #[.pointer (some ⟨Bw, 0, none⟩), .slice A b.length c] w (TkP Z OK Bw Bl s o w) := by
  have H := Aside0.mk h
  have HC := Aside0.mk hC
  have HBB := Aside0.mk hbb
  have HWB := Aside0.mk hW
  obtain ⟨⟨k, p, e0⟩, hr⟩ : ∃ r, readI b 0 = r := ⟨_, rfl⟩
  have HR := Aside0.mk hr
  have Q1 := Aside0.mk (readInt_calls A c b 0 w HC.out hc (by omega) HBB.out)
  rw [hr] at Q1
  unfold PWal.step at hst
  rw [hr] at hst
  simp only at hst Q1
  have HS := Aside0.mk hst
  clear h hC hbb hW hr hst
  go_enter Tryd.func86, Tryd.ntmps86
  go_wp2_with fail
  refine Q1.out.mono ?_
  rintro e w1 ⟨v, rfl, hE, hb1, -⟩
  have B1 := Aside0.mk hb1
  have H1 := Aside0.mk (H.out.below hb1)
  have C1 := Aside0.mk (Kd.C_below HC.out hb1)
  clear Q1 hb1
  by_cases g0 : e0 ≠ 0
  · obtain ⟨bq, v', rfl, _, _⟩ := werr_yes hE g0
    have HN : Aside0 (o = none) := ⟨by rw [← HS.out, if_pos g0]⟩
    go_wp2
    go_ret
    exact TkP.no HN.out H.out B1.out
  obtain rfl : e0 = 0 := Decidable.not_not.1 g0
  clear g0
  obtain rfl : v = .nilIface := hE
  rw [if_neg (by simp)] at HS
  by_cases k1 : k = 1
  · subst k1
    rw [if_pos rfl] at HS
    obtain ⟨⟨rows, p2, e2, g2⟩, hr2⟩ : ∃ r, readRows b p = r := ⟨_, rfl⟩
    have Q2 := Aside0.mk (readRows_calls A c b p w1 C1.out hc (by omega) HBB.out _ hr2)
    rw [hr2] at HS
    simp only at HS Q2
    clear hr2
    go_wp2_with fail
    refine Q2.out.mono ?_
    rintro e w2 ⟨v0, v2, rfl, hR2, hE2, hb2, -⟩
    obtain ⟨A8, c8, rfl⟩ := Kd.R_slice hR2
    have R2 := Aside0.mk (Kd.R_reads' hR2).2
    have B2 := Aside0.mk (B1.out.trans (hb2.mono B1.out.size))
    have H2 := Aside0.mk (H1.out.below hb2)
    have E2 := Aside0.mk hE2
    clear Q2 hR2 hb2 hE2
    have QI := Aside0.mk (Is_calls (if e2 = 0 then none else some (.fault wireS g2 (.num e2))) v2 2 w2 E2.out)
    by_cases g0 : e2 ≠ 0
    · obtain ⟨bq, v', rfl, _, _⟩ := werr_yes E2.out g0
      have HN : Aside0 (o = none) := ⟨by rw [← HS.out, if_pos g0]⟩
      go_wp2_with fail
      refine QI.out.mono ?_
      rintro e w3 ⟨⟨bi, rfl, _⟩, rfl⟩
      cases bi with
      | true =>
        go_wp2
        go_ret
        exact TkP.no HN.out H.out B2.out
      | false =>
        go_wp2
        go_ret
        exact TkP.no HN.out H.out B2.out
    obtain rfl : e2 = 0 := Decidable.not_not.1 g0
    clear g0
    obtain rfl : v2 = .nilIface := E2.out
    rw [if_neg (by simp)] at HS
    go_wp2_with fail
    refine QI.out.mono ?_
    rintro e w3 ⟨⟨bi, rfl, hbi⟩, rfl⟩
    obtain rfl : bi = false := hbi (by simp)
    have QB := Aside0.mk (block_wal H2.out (rows.length : Int) (by have := HWB.out.bl; omega))
    clear QI hbi E2
    go_wp2_with fail
    refine QB.out.mono ?_
    rintro e w4 ⟨v4, rfl, hE4, hb4⟩
    have B4 := Aside0.mk (B2.out.trans (hb4.mono B2.out.size))
    have H4 := Aside0.mk (H2.out.below hb4)
    have R4 := Aside0.mk (Kd.C_below R2.out.2 hb4)
    have E4 := Aside0.mk hE4
    clear QB hb4 hE4
    by_cases g1 : 16 < rows.length ∨ 400 ≤ s.bl.length
    · have HN : Aside0 (o = none) := ⟨by rw [← HS.out, if_pos g1]⟩
      have : ∃ x, blockE s (rows.length : Int) = some x := by
        unfold blockE
        by_cases h1 : 16 < (rows.length : Int)
        · exact ⟨_, if_pos h1⟩
        · rw [if_neg h1, if_pos (by omega)]
          exact ⟨_, rfl⟩
      obtain ⟨x, hx⟩ := this
      have hE4 := E4.out
      rw [hx] at hE4
      obtain ⟨tt, uu, rfl⟩ := IsErr.ne_nil hE4
      clear hE4 hx
      go_wp2
      go_ret
      exact TkP.no HN.out H.out B4.out
    have hE4 := E4.out
    rw [show blockE s (rows.length : Int) = none from by unfold blockE; rw [if_neg (by omega), if_neg (by omega)]] at hE4
    obtain rfl : v4 = .nilIface := hE4
    rw [if_neg g1] at HS
    by_cases g3 : p2 ≠ (b.length : Int)
    · have HN : Aside0 (o = none) := ⟨by rw [← HS.out, if_pos g3]⟩
      have q3 : (p2 == (b.length : Int)) = false := beq_eq_false_iff_ne.2 g3
      clear g3
      go_wp2
      go_ret
      exact TkP.no HN.out H.out B4.out
    obtain rfl : p2 = (b.length : Int) := Decidable.not_not.1 g3
    rw [if_neg (by simp)] at HS
    have QD := Aside0.mk (does_block H4.out (Nat.le_trans hZ B4.out.size) A8 c8 rows R4.out (by have := R2.out.1; omega) (by omega) (by have := HWB.out.bl; omega) 0)
    clear g3 g1
    go_wp2_with fail
    refine QD.out.mono ?_
    rintro e w5 ⟨rfl, hD⟩
    have D5 := Aside0.mk hD
    clear hD QD
    go_wp2
    go_ret
    exact TkP.yes HS.out.symm D5.out B4.out
  rw [if_neg k1] at HS
  have q1 : (k == 1) = false := beq_eq_false_iff_ne.2 k1
  by_cases k3 : k = 3
  · subst k3
    rw [if_neg (by decide), if_pos rfl] at HS
    obtain ⟨⟨m, p2, e2⟩, hr2⟩ : ∃ r, readI b p = r := ⟨_, rfl⟩
    have Q2 := Aside0.mk (readInt_calls A c b p w1 C1.out hc (by omega) HBB.out)
    rw [hr2] at HS Q2
    simp only at HS Q2
    clear hr2 q1 k1
    go_wp2_with fail
    refine Q2.out.mono ?_
    rintro e w2 ⟨v2, rfl, hE2, hb2, -⟩
    have B2 := Aside0.mk (B1.out.trans (hb2.mono B1.out.size))
    have H2 := Aside0.mk (H1.out.below hb2)
    have E2 := Aside0.mk hE2
    clear Q2 hb2 hE2
    by_cases g0 : e2 ≠ 0
    · obtain ⟨bq, v', rfl, _, _⟩ := werr_yes E2.out g0
      have HN : Aside0 (o = none) := ⟨by rw [← HS.out, if_pos g0]⟩
      go_wp2
      go_ret
      exact TkP.no HN.out H.out B2.out
    obtain rfl : e2 = 0 := Decidable.not_not.1 g0
    clear g0
    obtain rfl : v2 = .nilIface := E2.out
    rw [if_neg (by simp)] at HS
    have QB := Aside0.mk (mark_wal H2.out m (by have := HWB.out.cu; omega))
    go_wp2_with fail
    refine QB.out.mono ?_
    rintro e w4 ⟨v4, rfl, hE4, hb4⟩
    have B4 := Aside0.mk (B2.out.trans (hb4.mono B2.out.size))
    have H4 := Aside0.mk (H2.out.below hb4)
    have E4 := Aside0.mk hE4
    clear QB hb4 hE4
    by_cases g1 : m ≤ s.ma ∨ (s.cu.length : Int) < m
    · have HN : Aside0 (o = none) := ⟨by rw [← HS.out, if_pos g1]⟩
      have hE4 := E4.out
      rw [show markE s m = some (.fault walS m (.num 1)) from if_pos g1] at hE4
      obtain ⟨tt, uu, rfl⟩ := IsErr.ne_nil hE4
      clear hE4
      go_wp2
      go_ret
      exact TkP.no HN.out H.out B4.out
    have hE4 := E4.out
    rw [show markE s m = none from if_neg g1] at hE4
    obtain rfl : v4 = .nilIface := hE4
    rw [if_neg g1] at HS
    by_cases g3 : p2 ≠ (b.length : Int)
    · have HN : Aside0 (o = none) := ⟨by rw [← HS.out, if_pos g3]⟩
      have q3 : (p2 == (b.length : Int)) = false := beq_eq_false_iff_ne.2 g3
      clear g3
      go_wp2
      go_ret
      exact TkP.no HN.out H.out B4.out
    obtain rfl : p2 = (b.length : Int) := Decidable.not_not.1 g3
    rw [if_neg (by simp)] at HS
    have QD := Aside0.mk (does_mark H4.out m (.slice none 0 0))
    clear g3 g1
    go_wp2_with fail
    refine QD.out.mono ?_
    rintro e w5 ⟨rfl, hD⟩
    have D5 := Aside0.mk hD
    clear hD QD
    go_wp2
    go_ret
    exact TkP.yes HS.out.symm D5.out B4.out
  have q3 : (k == 3) = false := beq_eq_false_iff_ne.2 k3
  by_cases k2 : k = 2
  · subst k2
    rw [if_pos rfl] at HS
    clear q1 q3 k1 k3
    have QB := Aside0.mk (cut_wal H1.out (by have := HWB.out.cu; omega))
    go_wp2_with fail
    refine QB.out.mono ?_
    rintro e w4 ⟨v4, rfl, hE4, hb4⟩
    have B4 := Aside0.mk (B1.out.trans (hb4.mono B1.out.size))
    have H4 := Aside0.mk (H1.out.below hb4)
    have E4 := Aside0.mk hE4
    clear QB hb4 hE4
    by_cases g1 : 60 ≤ s.cu.length
    · have HN : Aside0 (o = none) := ⟨by rw [← HS.out, if_pos g1]⟩
      have hE4 := E4.out
      rw [show cutE s = some (.fault walS 0 (.num 2)) from if_pos g1] at hE4
      obtain ⟨tt, uu, rfl⟩ := IsErr.ne_nil hE4
      clear hE4
      go_wp2
      go_ret
      exact TkP.no HN.out H.out B4.out
    have hE4 := E4.out
    rw [show cutE s = none from if_neg g1] at hE4
    obtain rfl : v4 = .nilIface := hE4
    rw [if_neg g1] at HS
    by_cases g3 : p ≠ (b.length : Int)
    · have HN : Aside0 (o = none) := ⟨by rw [← HS.out, if_pos g3]⟩
      have q3 : (p == (b.length : Int)) = false := beq_eq_false_iff_ne.2 g3
      clear g3
      go_wp2
      go_ret
      exact TkP.no HN.out H.out B4.out
    obtain rfl : p = (b.length : Int) := Decidable.not_not.1 g3
    rw [if_neg (by simp)] at HS
    have QD := Aside0.mk (does_cut H4.out (Nat.le_trans hZ B4.out.size) (by have := HWB.out.bl; omega) (by have := HWB.out.cu; omega) (.slice none 0 0) 0)
    clear g3 g1
    go_wp2_with fail
    refine QD.out.mono ?_
    rintro e w5 ⟨rfl, hD⟩
    have D5 := Aside0.mk hD
    clear hD QD
    go_wp2
    go_ret
    exact TkP.yes HS.out.symm D5.out B4.out
  have q2 : (k == 2) = false := beq_eq_false_iff_ne.2 k2
  rw [if_neg k2, if_neg k3] at HS
  have HN := Aside0.mk HS.out.symm
  clear k1 k2 k3
  go_wp2
  go_ret
  exact TkP.no HN.out H.out B1.out
end
/-! ### Open -/
def fewB (m : Nat) (b : List Int) : Prop := b.length ≤ m ∧ ∀ x ∈ b, 0 ≤ x ∧ x ≤ 255
theorem parse_ok {raw : List Int} {r k : Int} {d : List Int} {last : Bool} (h : parse raw r k = some (d, last)) : ∃ n, d = raw.drop n := by
  unfold parse at h
  split at h
  · cases h
  split at h
  · cases h
  split at h
  · cases h
  split at h
  · have e := Option.some.inj h
    exact ⟨_, (congrArg Prod.fst e).symm⟩
  · cases h
theorem fewB.app {m : Nat} {x raw : List Int} {n : Nat} (hx : fewB m x) (hr : fewB 64 raw) : fewB (m + 64) (x ++ raw.drop n) := by
  refine ⟨?_, ?_⟩
  · have := hx.1
    have := hr.1
    rw [List.length_append, List.length_drop]
    omega
  · intro y hy
    rcases List.mem_append.1 hy with h | h
    · exact hx.2 y h
    · exact hr.2 y (List.mem_of_mem_drop h)
theorem fewB.mono {m n : Nat} {x : List Int} (h : fewB m x) (hm : m ≤ n) : fewB n x := ⟨Nat.le_trans h.1 hm, h.2⟩
theorem openGo_ok {C : CT} (hC : okC C) (d : Nat) : ∀ (p : Nat) (out : List (List Int)) (row : List Int) (k next : Nat), (∀ b ∈ out, fewB (64 * p) b) → fewB (64 * p) row → ∀ b ∈ (openGo C d p out row k next).1, fewB (64 * (p + d)) b := by
  induction d with
  | zero => intro p out row k next h1 h2; exact h1
  | succ d ih =>
    intro p out row k next h1 h2
    rw [openGo_succ]
    cases hc : C (p : Int) with
    | none => exact fun b hb => (h1 b hb).mono (by omega)
    | some raw =>
      simp only
      have hr : fewB 64 raw := hC _ _ hc
      cases hp : parse raw ((out.length : Int) + 1) (k : Int) with
      | none => exact fun b hb => (h1 b hb).mono (by omega)
      | some y =>
        obtain ⟨data, last⟩ := y
        obtain ⟨n, rfl⟩ := parse_ok hp
        cases last with
        | true =>
          simp only [if_true]
          have := ih (p + 1) (out ++ [row ++ raw.drop n]) [] 0 (p + 1) (fun b hb => by
            rcases List.mem_append.1 hb with h | h
            · exact (h1 b h).mono (by omega)
            · rw [List.mem_singleton.1 h]; exact h2.app hr) ⟨Nat.zero_le _, fun _ h => by cases h⟩
          exact fun b hb => (this b hb).mono (by omega)
        | false =>
          simp only [Bool.false_eq_true, if_false]
          have := ih (p + 1) out (row ++ raw.drop n) (k + 1) next (fun b h => (h1 b h).mono (by omega)) (h2.app hr)
          exact fun b hb => (this b hb).mono (by omega)
theorem opened_ok {C : CT} {R : Nat} {out : List (List Int)} {next : Nat} (hC : okC C) (h : opened C R = (out, next)) : ∀ b ∈ out, fewB (64 * R) b := by
  have := openGo_ok hC R 0 [] [] 0 0 (fun _ h => by cases h) ⟨Nat.zero_le _, fun _ h => by cases h⟩
  unfold opened at h
  rw [h] at this
  simpa using this
end Go.Proofs.YtlhjjjpldmekdaaDoor.PDsk.K
namespace Go.Proofs.YtlhjjjpldmekdaaDoor.PDsk.K
open Go.RowKit Go.Proofs.YtlhjjjpldmekdaaDoorW.PrintWords Go.Proofs.YtlhjjjpldmekdaaDoorW.PrintLast Go.Proofs.YtlhjjjpldmekdaaDoorW.PrintMore Go.Proofs.YtlhjjjpldmekdaaDoor.Err Go.Maps Go.Proofs.YtlhjjjpldmekdaaDoor.PLog Go.Proofs.YtlhjjjpldmekdaaDoor.PWal
open Go.Proofs.YtlhjjjpldmekdaaDoor.PFn (RowT k109)
set_option linter.unusedVariables false
set_option linter.unusedSimpArgs false
theorem openGo_bd2 (C : CT) (d : Nat) : ∀ (p : Nat) (out : List (List Int)) (row : List Int) (k next : Nat), out.length ≤ next → next ≤ p → (openGo C d p out row k next).1.length ≤ (openGo C d p out row k next).2 ∧ (openGo C d p out row k next).2 ≤ p + d := by
  induction d with
  | zero => intro p out row k next h1 h2; exact ⟨h1, h2⟩
  | succ d ih =>
    intro p out row k next h1 h2
    rw [openGo_succ]
    cases hc : C (p : Int) with
    | none => exact ⟨h1, by show next ≤ _; omega⟩
    | some raw =>
      simp only
      cases hp : parse raw ((out.length : Int) + 1) (k : Int) with
      | none => exact ⟨h1, by show next ≤ _; omega⟩
      | some y =>
        obtain ⟨data, last⟩ := y
        cases last with
        | true =>
          simp only [if_true]
          have := ih (p + 1) (out ++ [row ++ data]) [] 0 (p + 1) (by simp; omega) (Nat.le_refl _)
          exact ⟨this.1, by omega⟩
        | false =>
          simp only [Bool.false_eq_true, if_false]
          have := ih (p + 1) out (row ++ data) (k + 1) next h1 (by omega)
          exact ⟨this.1, by omega⟩
theorem opened_bd2 {C : CT} {R : Nat} {out : List (List Int)} {next : Nat} (h : opened C R = (out, next)) : out.length ≤ next ∧ next ≤ R := by
  have := openGo_bd2 C R 0 [] [] 0 0 (Nat.le_refl _) (Nat.le_refl _)
  unfold opened at h
  rw [h] at this
  simpa using this
def W0 : Wl := ⟨[], [], 0⟩
/-- What Open hands back: a journal and the log, of which nothing is turned behind its own Open, or the first record that may not come. -/
def WoP (w : World) (a1 : Nat) (life : Int) (C : CT) (R : Nat) (e : Ending) (w' : World) : Prop :=
  ∃ (Bl : Nat) (out : List (List Int)) (next : Nat), opened C R = (out, next) ∧ Lx w' Bl a1 life out.length (next : Int) ∧ w.heap.size ≤ Bl ∧ Below w.heap.size w w' ∧
    ((∃ (Bw : Nat) (t : Wl) (OK : Nat → Prop), run W0 out = some t ∧ e = .returned (.tuple #[.pointer (some ⟨Bw, 0, none⟩), .nilIface]) ∧ Wx w.heap.size w' OK Bw Bl t) ∨
    (∃ (i : Nat) (t : Wl) (v : Value), i < out.length ∧ run W0 (out.take i) = some t ∧ PWal.step t (out.getD i []) = none ∧ e = .returned (.tuple #[.pointer none, v]) ∧ IsErr w' (.fault walS (i : Int) (.num 12)) v))
/-- The loop's state. -/
structure WoI (w wr : World) (a1 Bl Bw : Nat) (life : Int) (v5 : Value) (out : List (List Int)) (next i : Nat) (t : Wl) : Prop where
  lx : Lx wr Bl a1 life out.length (next : Int)
  below : Below w.heap.size w wr
  rows : Rs wr w.heap.size (fun _ => True) v5 out
  run : PWal.run W0 (out.take i) = some t
  wx : ∃ OK, Wx w.heap.size wr OK Bw Bl t
theorem WoI.step {w wr w' : World} {a1 Bl Bw : Nat} {life : Int} {v5 : Value} {out : List (List Int)} {next i : Nat} {t t' : Wl} (h : WoI w wr a1 Bl Bw life v5 out next i t) {OK : Nat → Prop} (hx : Wx w.heap.size wr OK Bw Bl t) (hd : DoP w.heap.size OK Bw Bl t' wr w') (hr : PWal.run W0 (out.take (i + 1)) = some t') : WoI w w' a1 Bl Bw life v5 out next (i + 1) t' := by
  obtain ⟨OK', h1, h2, h3⟩ := hd
  have hl : Lx w' Bl a1 life out.length (next : Int) := h.lx.kept h3 (hx.noRow (fun cs q e => by
    have := h.lx
    unfold Lx at this
    rw [this] at e
    injection e with e
    injection e with _ e
    subst e
    exact ⟨by decide, by decide, by decide, by decide⟩))
  refine ⟨hl, h.below.trans (h3.below h.below.size hx.ge), own_fr h.rows h3 (fun b hb cs q hc hq => ?_), hr, OK', h1⟩
  rcases hb with rfl | hb
  · obtain ⟨⟨vB, vC, g1, g2, g3, g4⟩, g5⟩ := hx
    rw [g2] at hc
    injection hc with hc
    injection hc with _ hc
    subst hc
    exact absurd hq (by decide)
  · exact (hx.ok b hb).2.not hc (by rintro rfl; exact absurd hq (by decide)) (by rintro rfl; exact absurd hq (by decide)) (by rintro rfl; exact absurd hq (by decide))
set_option maxHeartbeats 16000000 in
set_option maxRecDepth 100000 in
theorem open_wal (F : Nat → Prop) (a1 a2 n R : Nat) (s : Dk) (C : CT) (w : World) (hd : Dx w F a1 a2 s n C) (hdn : s.down = false) (hR : s.room = (R : Int)) (hR1 : R ≤ 1000) (hC : okC C) :
    Calls Tryd.prog 40 #[.pointer (some ⟨a1, 0, none⟩)] w (WoP w a1 s.life C R) := by
  have Q1 := Aside0.mk (open_ok F a1 a2 n R s C w hd hdn hR (by omega) hC)
  have HC := Aside0.mk hC
  clear hd hdn hR hC
  go_enter Tryd.func40, Tryd.ntmps40
  go_wp2_with fail
  refine Q1.out.mono ?_
  rintro e w1 ⟨Bl, v5, out, next, rfl, ho, hl, hge, hRs, hb⟩
  have HO := Aside0.mk ho
  have HG := Aside0.mk hge
  have HFB := Aside0.mk (opened_ok HC.out ho)
  have HBD : Aside0 (out.length ≤ next ∧ next ≤ R) := ⟨opened_bd2 ho⟩
  obtain ⟨A5, c5, rfl⟩ := Kd.R_slice hRs
  have hZ := hb.size
  have X2 := heap_alloc_new w1 (Obj.cells #[.pointer (some ⟨Bl, 0, none⟩), .slice none 0 0, .slice none 0 0, .int .i64 0] 135)
  have K0 : Aside0 (WoI w (w1.alloc (Obj.cells #[.pointer (some ⟨Bl, 0, none⟩), .slice none 0 0, .slice none 0 0, .int .i64 0] 135)) a1 Bl w1.heap.size s.life (.slice A5 out.length c5) out next 0 W0) :=
    ⟨⟨hl.below (below_alloc (Below.refl _ _) _), hb.trans ((below_alloc (Below.refl w1.heap.size _) _).mono hZ), Kd.R_below hRs (below_alloc (Below.refl _ _) _), rfl, _, Wx.of (OK := fun _ => False) ⟨hZ, X2, Kd.R_nil _ _ _ _ _, Kd.R_nil _ _ _ _ _⟩⟩⟩
  clear Q1 ho hl hge hRs hb X2
  obtain ⟨hob, hob2⟩ := HBD.out
  go_wp2
  go_loopg [25] (out.length + 1) (fun kq v25 wr => ∃ (i : Nat) (t : Wl), v25 = .int .i64 (i : Int) ∧ i ≤ out.length ∧ out.length - i ≤ kq ∧ Aside0 (WoI w wr a1 Bl w1.heap.size s.life (.slice A5 out.length c5) out next i t))
  case atStart => exact ⟨0, W0, rfl, by omega, by omega, K0⟩
  case round =>
    obtain ⟨i, t, rfl, hi, hk, K⟩ := hrel
    clear K0
    by_cases hlt : i < out.length
    · have q1 : decide ((i : Int) < (out.length : Int)) = true := decide_eq_true (by omega)
      have p0 : (0 : Int) ≤ (i : Int) := by omega
      have p1 : (i : Int) < (out.length : Int) := by omega
      obtain ⟨ad, A9, c9, e9, m9, t9, r9⟩ := at_B (Kd.R_reads' K.out.rows).2.2 i hlt
      subst e9
      obtain ⟨OK, hx⟩ := K.out.wx
      have HX := Aside0.mk hx
      have HWb : Aside0 (Wb t) := ⟨Wb.zero.run K.out.run⟩
      have hfew := HFB.out (out.getD i []) (by rw [List.getD_eq_getElem?_getD, List.getElem?_eq_getElem hlt]; exact List.getElem_mem hlt)
      obtain ⟨o, hst⟩ : ∃ o, PWal.step t (out.getD i []) = o := ⟨_, rfl⟩
      have QT := Aside0.mk (takes_wal hx HWb.out (K.out.below.size) A9 c9 (out.getD i []) r9 t9 (by have := hfew.1; omega) hfew.2 o hst)
      have HST := Aside0.mk hst
      have HRT := Aside0.mk (run_take K.out.run hlt)
      obtain ⟨b, hbd⟩ : ∃ b, out.getD i [] = b := ⟨_, rfl⟩
      rw [hbd] at m9 QT HST HRT
      have HBQ := Aside0.mk hbd
      clear hx r9 t9 hfew hst hbd
      go_wp2_with fail
      refine QT.out.mono ?_
      rintro e w5 ⟨rfl, hD⟩
      have D5 := Aside0.mk hD
      clear hD QT m9
      cases o with
      | none =>
        go_wp2_with fail
        refine (wfault (i : Int) (.num 12) _ w5 rfl).mono ?_
        rintro e w6 ⟨v6, rfl, hE, hb6⟩
        have E6 := Aside0.mk hE
        have K5 : Aside0 (Lx w5 Bl a1 s.life out.length (next : Int) ∧ Below w.heap.size w w5) := ⟨by
          obtain ⟨OK', h1, h2, h3⟩ := D5.out
          exact ⟨K.out.lx.kept h3 (HX.out.noRow (fun cs q e => by
            have := K.out.lx
            unfold Lx at this
            rw [this] at e
            injection e with e
            injection e with _ e
            subst e
            exact ⟨by decide, by decide, by decide, by decide⟩)), K.out.below.trans (h3.below K.out.below.size HX.out.ge)⟩⟩
        have B6 := Aside0.mk hb6
        clear hE hb6
        go_wp2
        go_ret2
        exact ⟨Bl, out, next, HO.out, K5.out.1.below B6.out, HG.out, K5.out.2.trans (B6.out.mono K5.out.2.size), .inr ⟨i, t, _, hlt, K.out.run, by rw [HBQ.out]; exact HST.out, rfl, E6.out⟩⟩
      | some t' =>
        have K5 := Aside0.mk (K.out.step HX.out D5.out (HRT.out.trans HST.out))
        go_wp2
        go_roundg (gk - 1)
        case measure => omega
        case rel => exact ⟨i + 1, t', by go_num, by omega, by omega, K5⟩
    · obtain rfl : i = out.length := by omega
      have q1 : decide ((out.length : Int) < (out.length : Int)) = false := decide_eq_false (by omega)
      obtain ⟨OK, hx⟩ := K.out.wx
      have HX := Aside0.mk hx
      clear hx
      go_wp2
      go_ret2
      exact ⟨Bl, out, next, HO.out, K.out.lx, HG.out, K.out.below, .inl ⟨_, t, OK, by have := K.out.run; rwa [List.take_length] at this, rfl, HX.out⟩⟩
end Go.Proofs.YtlhjjjpldmekdaaDoor.PDsk.K
namespace Go.Proofs.YtlhjjjpldmekdaaDoor.PDsk.K
open Go.RowKit Go.Proofs.YtlhjjjpldmekdaaDoorW.PrintWords Go.Proofs.YtlhjjjpldmekdaaDoorW.PrintLast Go.Proofs.YtlhjjjpldmekdaaDoorW.PrintMore Go.Proofs.YtlhjjjpldmekdaaDoor.Err Go.Maps Go.Proofs.YtlhjjjpldmekdaaDoor.PLog Go.Proofs.YtlhjjjpldmekdaaDoor.PWal
open Go.Proofs.YtlhjjjpldmekdaaDoor.PFn (RowT k109 wire_Int.calls wire_Rows.calls wire_Int_f wire_Rows_f encI encR okRow encI_len)
set_option linter.unusedVariables false
set_option linter.unusedSimpArgs false
/-- A journal with its log and its disk. -/
structure JwB (w0 w : World) (a1 a2 Bl n : Nat) (s : Dk) (C : CT) (life : Int) (l : List (List Int)) (R Z : Nat) (OK : Nat → Prop) (Bw : Nat) (t : Wl) : Prop where
  lg : LgB w0 w a1 a2 Bl n s C life l R
  wx : Wx Z w OK Bw Bl t
  z0 : w0.heap.size ≤ Z
  z1 : Z ≤ w.heap.size
  run : PWal.run W0 l = some t
/-- What its calls turn. -/
def JB (OK : Nat → Prop) (Bw Bl a1 a2 : Nat) : Nat → Prop := fun k => WB OK Bw k ∨ LB Bl a1 a2 k
def nxw (o : Option Er) (t t' : Wl) : Wl := match o with
  | none => t'
  | some _ => t
def ApP (w0 : World) (a1 a2 Bl n : Nat) (r : Option Er × Dk × CT) (life : Int) (l : List (List Int)) (R Z : Nat) (OK : Nat → Prop) (Bw : Nat) (t t' : Wl) (b : List Int) (w w' : World) (v : Value) : Prop :=
  ∃ OK', IsErr? w' (r.1.map fun x => .fault walS 0 (.fault logS 0 x)) v ∧ JwB w0 w' a1 a2 Bl (n + nB b.length) r.2.1 r.2.2 life (nxt r.1 l b) R Z OK' Bw (nxw r.1 t t') ∧ (∀ k, OK' k → OK k ∨ w.heap.size ≤ k) ∧ Fr (JB OK Bw Bl a1 a2) w w'
section
variable {w0 w w' : World} {a1 a2 Bl n : Nat} {s s' : Dk} {C : CT} {life : Int} {l : List (List Int)} {R Z : Nat} {OK : Nat → Prop} {Bw : Nat} {t : Wl}
theorem JwB.below (h : JwB w0 w a1 a2 Bl n s C life l R Z OK Bw t) (hb : Below w.heap.size w w') : JwB w0 w' a1 a2 Bl n s C life l R Z OK Bw t := ⟨h.lg.below hb, h.wx.below hb, h.z0, Nat.le_trans h.z1 hb.size, h.run⟩
theorem JwB.more {m : Nat} (h : JwB w0 w a1 a2 Bl n s C life l R Z OK Bw t) (hm : n ≤ m) : JwB w0 w a1 a2 Bl m s C life l R Z OK Bw t := ⟨h.lg.more hm, h.wx, h.z0, h.z1, h.run⟩
theorem JwB.call (h : JwB w0 w a1 a2 Bl n s C life l R Z OK Bw t) (hd : Dx w' (fun b => b ≠ a1 ∧ b ≠ a2) a1 a2 s' n C) (hf : Fr (fun b => b = a1 ∨ b = a2) w w') (hr : s'.room = s.room) : JwB w0 w' a1 a2 Bl n s' C life l R Z OK Bw t :=
  ⟨h.lg.call hd hf hr, h.wx.log h.lg (hf.mono (fun b hb => .inr hb)), h.z0, Nat.le_trans h.z1 hf.size, h.run⟩
theorem JwB.wb (h : JwB w0 w a1 a2 Bl n s C life l R Z OK Bw t) : Wb t := Wb.zero.run h.run
theorem JwB.noErr (h : JwB w0 w a1 a2 Bl n s C life l R Z OK Bw t) : ∀ b, JB OK Bw Bl a1 a2 b → ∀ cs, w.heap[b]? ≠ some (.cells cs 139 (0, 0)) := by
  rintro b (hb | hb)
  · exact h.wx.noErr b hb
  · exact h.lg.noErr b hb
theorem JwB.ge (h : JwB w0 w a1 a2 Bl n s C life l R Z OK Bw t) : ∀ b, JB OK Bw Bl a1 a2 b → w0.heap.size ≤ b := by
  rintro b (hb | rfl | rfl | rfl)
  · exact Nat.le_trans h.z0 (h.wx.ge b hb)
  · exact h.lg.ge
  · exact h.lg.d.ge.1
  · exact h.lg.d.ge.2
/-- The end: the log said no. -/
theorem ApP.no {r : Option Er × Dk × CT} {x : Er} {t' : Wl} {b : List Int} {w1 w2 w3 : World} {v3 : Value} (h : JwB w0 w a1 a2 Bl n s C life l R Z OK Bw t) (hb : Below w.heap.size w w1) (hf : Fr (LB Bl a1 a2) w1 w2) (hL : LgB w0 w2 a1 a2 Bl (n + nB b.length) r.2.1 r.2.2 life (nxt r.1 l b) R) (hx : r.1 = some x) (hE : IsErr w3 (.fault walS 0 (.fault logS 0 x)) v3) (hb3 : Below w2.heap.size w2 w3) :
    ApP w0 a1 a2 Bl n r life l R Z OK Bw t t' b w w3 v3 := by
  obtain ⟨r1, s2, C2⟩ := r
  subst hx
  refine ⟨OK, hE, ⟨hL.below hb3, ((h.wx.below hb).log (h.lg.below hb) hf).below hb3, h.z0, Nat.le_trans h.z1 (Nat.le_trans hb.size (Nat.le_trans hf.size hb3.size)), h.run⟩, fun k hk => .inl hk, (Fr.of_below hb).trans ((hf.mono (fun k hk => .inr hk)).trans (Fr.of_below hb3))⟩
/-- The end: the record was laid, and what it says is done. -/
theorem ApP.yes {r : Option Er × Dk × CT} {t' : Wl} {b : List Int} {w1 w2 w3 : World} (h : JwB w0 w a1 a2 Bl n s C life l R Z OK Bw t) (hb : Below w.heap.size w w1) (hf : Fr (LB Bl a1 a2) w1 w2) (hL : LgB w0 w2 a1 a2 Bl (n + nB b.length) r.2.1 r.2.2 life (nxt r.1 l b) R) (hx : r.1 = none) (hst : PWal.step t b = some t') (hD : DoP Z OK Bw Bl t' w2 w3) :
    ApP w0 a1 a2 Bl n r life l R Z OK Bw t t' b w w3 .nilIface := by
  obtain ⟨r1, s2, C2⟩ := r
  subst hx
  obtain ⟨OK', h1, h2, h3⟩ := hD
  have hs : w.heap.size ≤ w2.heap.size := Nat.le_trans hb.size hf.size
  have hw2 : Wx Z w2 OK Bw Bl t := (h.wx.below hb).log (h.lg.below hb) hf
  refine ⟨OK', rfl, ⟨hL.wal hw2 h.z0 h3, h1, h.z0, Nat.le_trans h.z1 (Nat.le_trans hs h3.size), (run_snoc h.run).trans hst⟩, fun k hk => (h2 k hk).imp_right (Nat.le_trans hs), (Fr.of_below hb).trans ((hf.mono (fun k hk => .inr hk)).trans (h3.mono (fun k hk => .inl hk)))⟩
set_option maxHeartbeats 16000000 in
set_option maxRecDepth 100000 in
theorem append_cut (h : JwB w0 w a1 a2 Bl n s C life l R Z OK Bw t) (hL : Laid w0) (hc : t.cu.length < 60) (hl : l.length + 1 ≤ 65536) (hn : n ≤ 1000000000) (r : Option Er × Dk × CT) (hr : appS s C life l.length (need l) encC = r) :
    Calls Tryd.prog 92 #[.pointer (some ⟨Bw, 0, none⟩), .int .i64 2, .slice none 0 0, .int .i64 0] w fun e w' => ∃ v, e = .returned v ∧ ApP w0 a1 a2 Bl n r life l R Z OK Bw t { t with cu := t.cu ++ [(t.bl.length : Int)] } encC w w' v := by
  have H := Aside0.mk h
  have HL := Aside0.mk hL
  have HR := Aside0.mk hr
  clear h hL hr
  go_enter Tryd.func92, Tryd.ntmps92
  go_wp2_with fail
  refine (wire_Int.calls 10 2 encC w (wire_Int_f 2 okI2 10 (by omega))).mono ?_
  rintro e w1 ⟨v1, rfl, hR1, hb1⟩
  have H1 := Aside0.mk (H.out.below hb1)
  have B1 := Aside0.mk hb1
  obtain ⟨A1, c1, rfl⟩ := Kd.R_slice hR1
  have R1 := Aside0.mk (Kd.R_reads' hR1).2
  obtain ⟨⟨vB, vC, g1, g2, g3, g4⟩, g5⟩ := H1.out.wx
  obtain ⟨x0, x1, x2, x3⟩ := facts4 g2
  have QA := Aside0.mk (H1.out.lg.app HL.out A1 c1 encC R1.out.2 R1.out.1 (by have := encC_len; omega) encC_bytes hl hn)
  rw [HR.out] at QA
  clear hR1 hb1 g1 g2 g3 g4 g5 x1 x2 x3
  go_wp2_with fail
  refine QA.out.mono ?_
  rintro e w2 ⟨v2, rfl, hE2, hf2, hL2⟩
  have F2 := Aside0.mk hf2
  have L2 := Aside0.mk hL2
  have HZ : Aside0 (Z ≤ w2.heap.size) := ⟨Nat.le_trans H1.out.z1 hf2.size⟩
  have X2 : Aside0 (Wx Z w2 OK Bw Bl t) := ⟨H1.out.wx.log H1.out.lg hf2⟩
  clear hf2 hL2 QA x0
  obtain ⟨er, s2, C2⟩ := r
  cases er with
  | some x =>
    have E2 := Aside0.mk (show IsErr w2 (.fault logS 0 x) v2 from hE2)
    obtain ⟨tt, uu, rfl⟩ := IsErr.ne_nil E2.out
    clear hE2
    go_wp2_with fail
    refine (wfault 0 (.fault logS 0 x) _ w2 E2.out).mono ?_
    rintro e w3 ⟨v3, rfl, hE3, hb3⟩
    have E3 := Aside0.mk hE3
    have B3 := Aside0.mk hb3
    clear hE3 hb3
    go_wp2_with fail
    go_ret
    exact ⟨_, rfl, ApP.no H.out B1.out F2.out L2.out rfl E3.out B3.out⟩
  | none =>
    obtain rfl : v2 = .nilIface := hE2
    have QD := Aside0.mk (does_cut X2.out HZ.out (by have := H.out.wb.bl; omega) (by omega) (.slice none 0 0) 0)
    go_wp2_with fail
    refine QD.out.mono ?_
    rintro e w3 ⟨rfl, hD⟩
    have D3 := Aside0.mk hD
    clear hD QD
    go_wp2_with fail
    go_ret
    exact ⟨_, rfl, ApP.yes H.out B1.out F2.out L2.out rfl (step_C t hc) D3.out⟩
set_option maxHeartbeats 16000000 in
set_option maxRecDepth 100000 in
theorem append_mark (h : JwB w0 w a1 a2 Bl n s C life l R Z OK Bw t) (hL : Laid w0) (m : Int) (hm : PDsk.K.okI m) (hm0 : t.ma < m) (hm1 : m ≤ (t.cu.length : Int)) (hl : l.length + 1 ≤ 65536) (hn : n ≤ 1000000000) (r : Option Er × Dk × CT) (hr : appS s C life l.length (need l) (encM m) = r) :
    Calls Tryd.prog 92 #[.pointer (some ⟨Bw, 0, none⟩), .int .i64 3, .slice none 0 0, .int .i64 m] w fun e w' => ∃ v, e = .returned v ∧ ApP w0 a1 a2 Bl n r life l R Z OK Bw t { t with ma := m } (encM m) w w' v := by
  have H := Aside0.mk h
  have HL := Aside0.mk hL
  have HR := Aside0.mk hr
  clear h hL hr
  go_enter Tryd.func92, Tryd.ntmps92
  go_wp2_with fail
  refine (wire_Int.calls 10 3 (encI 3) w (wire_Int_f 3 okI3 10 (by omega))).mono ?_
  rintro e w0' ⟨v0, rfl, hR0, hb0⟩
  have H0 := Aside0.mk (H.out.below hb0)
  have B0 := Aside0.mk hb0
  obtain ⟨A9, c9, rfl⟩ := Kd.R_slice hR0
  have R0 := Aside0.mk hR0
  clear hR0 hb0
  go_wp2_with fail
  refine (wire_Int.calls 10 m (encI m) w0' (wire_Int_f m hm 10 (by omega))).mono ?_
  rintro e w4 ⟨v4, rfl, hR4, hb4⟩
  have B4 := Aside0.mk (B0.out.trans (hb4.mono B0.out.size))
  have HB4 := Aside0.mk hb4
  obtain ⟨A4, c4, rfl⟩ := Kd.R_slice hR4
  have R4 := Aside0.mk hR4
  have hle := And.intro (encI_len 3).2 (encI_len m).2
  clear hR4 hb4
  go_wp2_with (first
    | ((with_reducible refine gate_builtin (b := .append) (xs := #[.tmp 22, .tmp 24]) rfl ?_); at_builtin; refine Kd.R_append_rows (Kd.int .u8) (w0 := w) w.heap.size rfl (.tmp 22) (.tmp 24) 30 5 (.int .u8 0) 1 rfl Tryd.underlying30 info8 rfl (by decide) (by omega) (.slice A9 (encI 3).length c9) (encI 3) (encI m) _ _ _ (fun _ => True) (fun _ => False) rfl rfl ?aO ?aR (fun _ _ h => h) (fun _ h => h.elim) ?aF ?aB ?aS ?aL ?_; (case aO => exact Kd.R_below R0.out HB4.out); (case aR => exact (Kd.R_reads' R4.out).2.2); (case aF => exact fun _ _ => trivial); (case aB => exact B4.out); (case aS => exact B4.out.size); (case aL => omega); intro v1 w1 ho hb hg hat; have B1 := Aside0.mk hb; rw [show encI 3 ++ encI m = encM m from rfl] at ho; obtain ⟨A1, c1, rfl⟩ := Kd.R_slice ho; have R1 := Aside0.mk (Kd.R_reads' ho).2; have H1 := Aside0.mk (H.out.below hb); obtain ⟨⟨vB, vC, g1, g2, g3, g4⟩, g5⟩ := H1.out.wx; obtain ⟨x0, x1, x2, x3⟩ := facts4 g2; have QA := Aside0.mk (H1.out.lg.app HL.out A1 c1 (encM m) R1.out.2 R1.out.1 (by have := encM_len m; omega) (encM_bytes hm) hl hn); rw [HR.out] at QA; clear ho hb hg hat g1 g2 g3 g4 g5 x1 x2 x3)
    | (fail))
  refine QA.out.mono ?_
  rintro e w2 ⟨v2, rfl, hE2, hf2, hL2⟩
  have F2 := Aside0.mk hf2
  have L2 := Aside0.mk hL2
  have HZ : Aside0 (Z ≤ w2.heap.size) := ⟨Nat.le_trans H1.out.z1 hf2.size⟩
  have X2 : Aside0 (Wx Z w2 OK Bw Bl t) := ⟨H1.out.wx.log H1.out.lg hf2⟩
  clear hf2 hL2 QA x0
  obtain ⟨er, s2, C2⟩ := r
  cases er with
  | some x =>
    have E2 := Aside0.mk (show IsErr w2 (.fault logS 0 x) v2 from hE2)
    obtain ⟨tt, uu, rfl⟩ := IsErr.ne_nil E2.out
    clear hE2
    go_wp2_with fail
    refine (wfault 0 (.fault logS 0 x) _ w2 E2.out).mono ?_
    rintro e w3 ⟨v3, rfl, hE3, hb3⟩
    have E3 := Aside0.mk hE3
    have B3 := Aside0.mk hb3
    clear hE3 hb3
    go_wp2_with fail
    go_ret
    exact ⟨_, rfl, ApP.no H.out B1.out F2.out L2.out rfl E3.out B3.out⟩
  | none =>
    obtain rfl : v2 = .nilIface := hE2
    have QD := Aside0.mk (does_mark X2.out m (.slice none 0 0))
    go_wp2_with fail
    refine QD.out.mono ?_
    rintro e w3 ⟨rfl, hD⟩
    have D3 := Aside0.mk hD
    clear hD QD
    go_wp2_with fail
    go_ret
    exact ⟨_, rfl, ApP.yes H.out B1.out F2.out L2.out rfl (step_M t m hm hm0 hm1) D3.out⟩
set_option maxHeartbeats 16000000 in
set_option maxRecDepth 100000 in
theorem append_block (h : JwB w0 w a1 a2 Bl n s C life l R Z OK Bw t) (hL : Laid w0) (A : Option Addr) (c : Nat) (xs : List RowT) (hC : ∀ W, Fr (LB Bl a1 a2) w W → k109.C W A xs.length xs) (hc : xs.length ≤ c) (hx : xs.length ≤ 16) (hok : ∀ r ∈ xs, okRow r) (hbl : t.bl.length < 400) (hl : l.length + 1 ≤ 65536) (hn : n ≤ 1000000000) (r : Option Er × Dk × CT) (hr : appS s C life l.length (need l) (encB xs) = r) :
    Calls Tryd.prog 92 #[.pointer (some ⟨Bw, 0, none⟩), .int .i64 1, .slice A xs.length c, .int .i64 0] w fun e w' => ∃ v, e = .returned v ∧ ApP w0 a1 a2 Bl n r life l R Z OK Bw t { t with bl := t.bl ++ [xs] } (encB xs) w w' v := by
  have H := Aside0.mk h
  have HL := Aside0.mk hL
  have HR := Aside0.mk hr
  clear h hL hr
  have HC := Aside0.mk hC
  have HOK := Aside0.mk hok
  clear hC hok
  go_enter Tryd.func92, Tryd.ntmps92
  go_wp2_with fail
  refine (wire_Int.calls 10 1 (encI 1) w (wire_Int_f 1 okI1 10 (by omega))).mono ?_
  rintro e w0' ⟨v0, rfl, hR0, hb0⟩
  have H0 := Aside0.mk (H.out.below hb0)
  have B0 := Aside0.mk hb0
  obtain ⟨A9, c9, rfl⟩ := Kd.R_slice hR0
  have R0 := Aside0.mk hR0
  clear hR0 hb0
  go_wp2_with fail
  refine (wire_Rows.calls 80 A c xs (encR xs) w0' (HC.out _ (Fr.of_below B0.out)) hc (wire_Rows_f xs HOK.out (by omega) 80 (by omega))).mono ?_
  rintro e w4 ⟨v4, rfl, hR4, hb4⟩
  have B4 := Aside0.mk (B0.out.trans (hb4.mono B0.out.size))
  have HB4 := Aside0.mk hb4
  obtain ⟨A4, c4, rfl⟩ := Kd.R_slice hR4
  have R4 := Aside0.mk hR4
  have hle := And.intro (encI_len 1).2 (encR_len xs hx).2
  clear hR4 hb4
  go_wp2_with (first
    | ((with_reducible refine gate_builtin (b := .append) (xs := #[.tmp 16, .tmp 18]) rfl ?_); at_builtin; refine Kd.R_append_rows (Kd.int .u8) (w0 := w) w.heap.size rfl (.tmp 16) (.tmp 18) 30 5 (.int .u8 0) 1 rfl Tryd.underlying30 info8 rfl (by decide) (by omega) (.slice A9 (encI 1).length c9) (encI 1) (encR xs) _ _ _ (fun _ => True) (fun _ => False) rfl rfl ?aO ?aR (fun _ _ h => h) (fun _ h => h.elim) ?aF ?aB ?aS ?aL ?_; (case aO => exact Kd.R_below R0.out HB4.out); (case aR => exact (Kd.R_reads' R4.out).2.2); (case aF => exact fun _ _ => trivial); (case aB => exact B4.out); (case aS => exact B4.out.size); (case aL => omega); intro v1 w1 ho hb hg hat; have B1 := Aside0.mk hb; rw [show encI 1 ++ encR xs = encB xs from rfl] at ho; obtain ⟨A1, c1, rfl⟩ := Kd.R_slice ho; have R1 := Aside0.mk (Kd.R_reads' ho).2; have H1 := Aside0.mk (H.out.below hb); obtain ⟨⟨vB, vC, g1, g2, g3, g4⟩, g5⟩ := H1.out.wx; obtain ⟨x0, x1, x2, x3⟩ := facts4 g2; have QA := Aside0.mk (H1.out.lg.app HL.out A1 c1 (encB xs) R1.out.2 R1.out.1 (by have := encB_len xs hx; omega) (encB_bytes HOK.out (by omega)) hl hn); rw [HR.out] at QA; clear ho hb hg hat g1 g2 g3 g4 g5 x1 x2 x3)
    | (fail))
  refine QA.out.mono ?_
  rintro e w2 ⟨v2, rfl, hE2, hf2, hL2⟩
  have F2 := Aside0.mk hf2
  have L2 := Aside0.mk hL2
  have HZ : Aside0 (Z ≤ w2.heap.size) := ⟨Nat.le_trans H1.out.z1 hf2.size⟩
  have X2 : Aside0 (Wx Z w2 OK Bw Bl t) := ⟨H1.out.wx.log H1.out.lg hf2⟩
  have R2 : Aside0 (k109.C w2 A xs.length xs) := ⟨HC.out _ ((Fr.of_below B1.out).trans F2.out)⟩
  clear hf2 hL2 QA x0
  obtain ⟨er, s2, C2⟩ := r
  cases er with
  | some x =>
    have E2 := Aside0.mk (show IsErr w2 (.fault logS 0 x) v2 from hE2)
    obtain ⟨tt, uu, rfl⟩ := IsErr.ne_nil E2.out
    clear hE2
    go_wp2_with fail
    refine (wfault 0 (.fault logS 0 x) _ w2 E2.out).mono ?_
    rintro e w3 ⟨v3, rfl, hE3, hb3⟩
    have E3 := Aside0.mk hE3
    have B3 := Aside0.mk hb3
    clear hE3 hb3
    go_wp2_with fail
    go_ret
    exact ⟨_, rfl, ApP.no H.out B1.out F2.out L2.out rfl E3.out B3.out⟩
  | none =>
    obtain rfl : v2 = .nilIface := hE2
    have QD := Aside0.mk (does_block X2.out HZ.out A c xs R2.out hc (by omega) (by omega) 0)
    go_wp2_with fail
    refine QD.out.mono ?_
    rintro e w3 ⟨rfl, hD⟩
    have D3 := Aside0.mk hD
    clear hD QD
    go_wp2_with fail
    go_ret
    exact ⟨_, rfl, ApP.yes H.out B1.out F2.out L2.out rfl (step_B t xs HOK.out hx hbl) D3.out⟩
end
end Go.Proofs.YtlhjjjpldmekdaaDoor.PDsk.K
namespace Go.Proofs.YtlhjjjpldmekdaaDoor.PDsk.K
open Go.RowKit Go.Proofs.YtlhjjjpldmekdaaDoorW.PrintWords Go.Proofs.YtlhjjjpldmekdaaDoorW.PrintLast Go.Proofs.YtlhjjjpldmekdaaDoorW.PrintMore Go.Proofs.YtlhjjjpldmekdaaDoor.Err Go.Maps Go.Proofs.YtlhjjjpldmekdaaDoor.PLog Go.Proofs.YtlhjjjpldmekdaaDoor.PWal
open Go.Proofs.YtlhjjjpldmekdaaDoor.PFn (RowT k109 encI encR okRow)
set_option linter.unusedVariables false
set_option linter.unusedSimpArgs false
/-- The number that a call tells: n, or 0 at an error. -/
def numO (o : Option Er) (n : Int) : Int := match o with
  | none => n
  | some _ => 0
section
variable {w0 w w' : World} {a1 a2 Bl n : Nat} {s s' : Dk} {C : CT} {life : Int} {l : List (List Int)} {R Z : Nat} {OK : Nat → Prop} {Bw : Nat} {t : Wl}
theorem Block_no (h : JwB w0 w a1 a2 Bl n s C life l R Z OK Bw t) (A : Option Addr) (c : Nat) (m : Nat) (x : Er) (hx : blockE t (m : Int) = some x) (hm : m ≤ 4611686018427387904) :
    Calls Tryd.prog 49 #[.pointer (some ⟨Bw, 0, none⟩), .slice A m c] w fun e w' => ∃ v, e = .returned (.tuple #[.int .i64 0, v]) ∧ IsErr w' x v ∧ Below w.heap.size w w' := by
  have QB := Aside0.mk (block_wal h.wx (m : Int) (by have := h.wb.bl; omega))
  rw [hx] at QB
  clear h hx
  go_enter Tryd.func49, Tryd.ntmps49
  go_wp2_with fail
  refine QB.out.mono ?_
  rintro e w1 ⟨v, rfl, hE, hb⟩
  have E1 := Aside0.mk (show IsErr w1 x v from hE)
  obtain ⟨tt, uu, rfl⟩ := IsErr.ne_nil E1.out
  clear hE
  go_wp2
  go_ret2
  exact ⟨_, rfl, E1.out, hb⟩
theorem Cut_no (h : JwB w0 w a1 a2 Bl n s C life l R Z OK Bw t) (x : Er) (hx : cutE t = some x) :
    Calls Tryd.prog 50 #[.pointer (some ⟨Bw, 0, none⟩)] w fun e w' => ∃ v, e = .returned (.tuple #[.int .i64 0, v]) ∧ IsErr w' x v ∧ Below w.heap.size w w' := by
  have QB := Aside0.mk (cut_wal h.wx (by have := h.wb.cu; omega))
  rw [hx] at QB
  clear h hx
  go_enter Tryd.func50, Tryd.ntmps50
  go_wp2_with fail
  refine QB.out.mono ?_
  rintro e w1 ⟨v, rfl, hE, hb⟩
  have E1 := Aside0.mk (show IsErr w1 x v from hE)
  obtain ⟨tt, uu, rfl⟩ := IsErr.ne_nil E1.out
  clear hE
  go_wp2
  go_ret2
  exact ⟨_, rfl, E1.out, hb⟩
theorem Mark_no (h : JwB w0 w a1 a2 Bl n s C life l R Z OK Bw t) (m : Int) (x : Er) (hx : markE t m = some x) :
    Calls Tryd.prog 88 #[.pointer (some ⟨Bw, 0, none⟩), .int .i64 m] w fun e w' => ∃ v, e = .returned v ∧ IsErr w' x v ∧ Below w.heap.size w w' := by
  have QB := Aside0.mk (mark_wal h.wx m (by have := h.wb.cu; omega))
  rw [hx] at QB
  clear h hx
  go_enter Tryd.func88, Tryd.ntmps88
  go_wp2_with fail
  refine QB.out.mono ?_
  rintro e w1 ⟨v, rfl, hE, hb⟩
  have E1 := Aside0.mk (show IsErr w1 x v from hE)
  obtain ⟨tt, uu, rfl⟩ := IsErr.ne_nil E1.out
  clear hE
  go_wp2
  go_ret
  exact ⟨_, rfl, E1.out, hb⟩
theorem ApP.lift {r : Option Er × Dk × CT} {t' : Wl} {b : List Int} {w1 w2 : World} {v : Value} (h : ApP w0 a1 a2 Bl n r life l R Z OK Bw t t' b w1 w2 v) (hb : Below w.heap.size w w1) : ApP w0 a1 a2 Bl n r life l R Z OK Bw t t' b w w2 v := by
  obtain ⟨OK', h1, h2, h3, h4⟩ := h
  exact ⟨OK', h1, h2, fun k hk => (h3 k hk).imp_right (Nat.le_trans hb.size), (Fr.of_below hb).trans h4⟩
theorem Block_yes (h : JwB w0 w a1 a2 Bl n s C life l R Z OK Bw t) (hL : Laid w0) (A : Option Addr) (c : Nat) (xs : List RowT) (hC : ∀ W, Fr (LB Bl a1 a2) w W → k109.C W A xs.length xs) (hc : xs.length ≤ c) (hx : xs.length ≤ 16) (hok : ∀ r ∈ xs, okRow r) (hbl : t.bl.length < 400) (hl : l.length + 1 ≤ 65536) (hn : n ≤ 1000000000) (r : Option Er × Dk × CT) (hr : appS s C life l.length (need l) (encB xs) = r) :
    Calls Tryd.prog 49 #[.pointer (some ⟨Bw, 0, none⟩), .slice A xs.length c] w fun e w' => ∃ v, e = .returned (.tuple #[.int .i64 (numO r.1 ((t.bl.length : Int) + 1)), v]) ∧ ApP w0 a1 a2 Bl n r life l R Z OK Bw t { t with bl := t.bl ++ [xs] } (encB xs) w w' v := by
  have QB := Aside0.mk (block_wal h.wx (xs.length : Int) (by omega))
  rw [show blockE t (xs.length : Int) = none from by unfold blockE; rw [if_neg (by omega), if_neg (by omega)]] at QB
  have H := Aside0.mk h
  have QA := Aside0.mk (fun (w1 : World) (hb : Below w.heap.size w w1) => append_block (h.below hb) hL A c xs (fun W hf => hC W ((Fr.of_below hb).trans hf)) hc hx hok hbl hl hn r hr)
  clear h hL hC hok hr
  go_enter Tryd.func49, Tryd.ntmps49
  go_wp2_with fail
  refine QB.out.mono ?_
  rintro e w1 ⟨v, rfl, hE, hb⟩
  obtain rfl : v = .nilIface := hE
  have B1 := Aside0.mk hb
  clear hb QB
  go_wp2_with fail
  refine (QA.out w1 B1.out).mono ?_
  rintro e w2 ⟨v2, rfl, hP⟩
  have P2 := Aside0.mk (hP.lift B1.out)
  obtain ⟨OK', hE2, hJ, _, _⟩ := hP
  obtain ⟨⟨vB, vC, g1, g2, g3, g4⟩, g5⟩ := hJ.wx
  obtain ⟨A3, c3, rfl⟩ := Kd.R_slice g3
  obtain ⟨x0, x1, x2, x3⟩ := facts4 g2
  obtain ⟨er, s2, C2⟩ := r
  cases er with
  | none =>
    obtain rfl : v2 = .nilIface := hE2
    have x1' : w2.cell? ⟨Bw, 1, none⟩ = some (.slice A3 (t.bl.length + 1) c3) := by
      have e : (nxw none t { t with bl := t.bl ++ [xs] }).bl.length = t.bl.length + 1 := by simp [nxw]
      rw [e] at x1
      exact x1
    clear hJ g1 g2 g3 g4 g5 x0 x1 x2 x3 QA
    go_wp2
    go_ret2
    exact ⟨_, by rfl, P2.out⟩
  | some x =>
    have E2 := Aside0.mk (show IsErr w2 (.fault walS 0 (.fault logS 0 x)) v2 from hE2)
    obtain ⟨tt, uu, rfl⟩ := IsErr.ne_nil E2.out
    clear hJ g1 g2 g3 g4 g5 x0 x1 x2 x3 hE2 QA
    go_wp2
    go_ret2
    exact ⟨_, rfl, P2.out⟩
theorem Cut_yes (h : JwB w0 w a1 a2 Bl n s C life l R Z OK Bw t) (hL : Laid w0) (hcu : t.cu.length < 60) (hl : l.length + 1 ≤ 65536) (hn : n ≤ 1000000000) (r : Option Er × Dk × CT) (hr : appS s C life l.length (need l) encC = r) :
    Calls Tryd.prog 50 #[.pointer (some ⟨Bw, 0, none⟩)] w fun e w' => ∃ v, e = .returned (.tuple #[.int .i64 (numO r.1 ((t.cu.length : Int) + 1)), v]) ∧ ApP w0 a1 a2 Bl n r life l R Z OK Bw t { t with cu := t.cu ++ [(t.bl.length : Int)] } encC w w' v := by
  have QB := Aside0.mk (cut_wal h.wx (by omega))
  rw [show cutE t = none from if_neg (by omega)] at QB
  have H := Aside0.mk h
  have QA := Aside0.mk (fun (w1 : World) (hb : Below w.heap.size w w1) => append_cut (h.below hb) hL hcu hl hn r hr)
  clear h hL hr
  go_enter Tryd.func50, Tryd.ntmps50
  go_wp2_with fail
  refine QB.out.mono ?_
  rintro e w1 ⟨v, rfl, hE, hb⟩
  obtain rfl : v = .nilIface := hE
  have B1 := Aside0.mk hb
  clear hb QB
  go_wp2_with fail
  refine (QA.out w1 B1.out).mono ?_
  rintro e w2 ⟨v2, rfl, hP⟩
  have P2 := Aside0.mk (hP.lift B1.out)
  obtain ⟨OK', hE2, hJ, _, _⟩ := hP
  obtain ⟨⟨vB, vC, g1, g2, g3, g4⟩, g5⟩ := hJ.wx
  obtain ⟨A3, c3, rfl⟩ := Kd.R_slice g4
  obtain ⟨x0, x1, x2, x3⟩ := facts4 g2
  obtain ⟨er, s2, C2⟩ := r
  cases er with
  | none =>
    obtain rfl : v2 = .nilIface := hE2
    have x2' : w2.cell? ⟨Bw, 2, none⟩ = some (.slice A3 (t.cu.length + 1) c3) := by
      have e : (nxw none t { t with cu := t.cu ++ [(t.bl.length : Int)] }).cu.length = t.cu.length + 1 := by simp [nxw]
      rw [e] at x2
      exact x2
    clear hJ g1 g2 g3 g4 g5 x0 x1 x2 x3 QA
    go_wp2
    go_ret2
    exact ⟨_, by rfl, P2.out⟩
  | some x =>
    have E2 := Aside0.mk (show IsErr w2 (.fault walS 0 (.fault logS 0 x)) v2 from hE2)
    obtain ⟨tt, uu, rfl⟩ := IsErr.ne_nil E2.out
    clear hJ g1 g2 g3 g4 g5 x0 x1 x2 x3 hE2 QA
    go_wp2
    go_ret2
    exact ⟨_, rfl, P2.out⟩
theorem Mark_yes (h : JwB w0 w a1 a2 Bl n s C life l R Z OK Bw t) (hL : Laid w0) (m : Int) (hm : PDsk.K.okI m) (hm0 : t.ma < m) (hm1 : m ≤ (t.cu.length : Int)) (hl : l.length + 1 ≤ 65536) (hn : n ≤ 1000000000) (r : Option Er × Dk × CT) (hr : appS s C life l.length (need l) (encM m) = r) :
    Calls Tryd.prog 88 #[.pointer (some ⟨Bw, 0, none⟩), .int .i64 m] w fun e w' => ∃ v, e = .returned v ∧ ApP w0 a1 a2 Bl n r life l R Z OK Bw t { t with ma := m } (encM m) w w' v := by
  have QB := Aside0.mk (mark_wal h.wx m (by have := h.wb.cu; omega))
  rw [show markE t m = none from if_neg (by omega)] at QB
  have H := Aside0.mk h
  have QA := Aside0.mk (fun (w1 : World) (hb : Below w.heap.size w w1) => append_mark (h.below hb) hL m hm hm0 hm1 hl hn r hr)
  clear h hL hr
  go_enter Tryd.func88, Tryd.ntmps88
  go_wp2_with fail
  refine QB.out.mono ?_
  rintro e w1 ⟨v, rfl, hE, hb⟩
  obtain rfl : v = .nilIface := hE
  have B1 := Aside0.mk hb
  clear hb QB
  go_wp2_with fail
  refine (QA.out w1 B1.out).mono ?_
  rintro e w2 ⟨v2, rfl, hP⟩
  have P2 := Aside0.mk (hP.lift B1.out)
  clear hP QA
  go_wp2
  go_ret
  exact ⟨_, rfl, P2.out⟩
/-! ### what it tells -/
theorem Blocks_wal (h : Wx Z w OK Bw Bl t) : Calls Tryd.prog 51 #[.pointer (some ⟨Bw, 0, none⟩)] w fun e w' => e = .returned (.int .i64 (t.bl.length : Int)) ∧ w' = w := by
  obtain ⟨⟨vB, vC, h1, h2, h3, h4⟩, h5⟩ := h
  obtain ⟨A, c, rfl⟩ := Kd.R_slice h3
  obtain ⟨x0, x1, x2, x3⟩ := facts4 h2
  go_enter Tryd.func51, Tryd.ntmps51
  go_wp2
  go_ret
  exact ⟨rfl, rfl⟩
theorem Batches_wal (h : Wx Z w OK Bw Bl t) : Calls Tryd.prog 52 #[.pointer (some ⟨Bw, 0, none⟩)] w fun e w' => e = .returned (.int .i64 (t.cu.length : Int)) ∧ w' = w := by
  obtain ⟨⟨vB, vC, h1, h2, h3, h4⟩, h5⟩ := h
  obtain ⟨A, c, rfl⟩ := Kd.R_slice h4
  obtain ⟨x0, x1, x2, x3⟩ := facts4 h2
  go_enter Tryd.func52, Tryd.ntmps52
  go_wp2
  go_ret
  exact ⟨rfl, rfl⟩
theorem Marked_wal (h : Wx Z w OK Bw Bl t) : Calls Tryd.prog 48 #[.pointer (some ⟨Bw, 0, none⟩)] w fun e w' => e = .returned (.int .i64 t.ma) ∧ w' = w := by
  obtain ⟨⟨vB, vC, h1, h2, h3, h4⟩, h5⟩ := h
  obtain ⟨x0, x1, x2, x3⟩ := facts4 h2
  go_enter Tryd.func48, Tryd.ntmps48
  go_wp2
  go_ret
  exact ⟨rfl, rfl⟩
end
end Go.Proofs.YtlhjjjpldmekdaaDoor.PDsk.K
namespace Go.Proofs.YtlhjjjpldmekdaaDoor.PDsk.K
open Go.RowKit Go.Proofs.YtlhjjjpldmekdaaDoorW.PrintWords Go.Proofs.YtlhjjjpldmekdaaDoorW.PrintLast Go.Proofs.YtlhjjjpldmekdaaDoorW.PrintMore Go.Proofs.YtlhjjjpldmekdaaDoor.Err Go.Maps Go.Proofs.YtlhjjjpldmekdaaDoor.PLog Go.Proofs.YtlhjjjpldmekdaaDoor.PWal
open Go.Proofs.YtlhjjjpldmekdaaDoor.PFn (RowT k109 encI encR okRow)
set_option linter.unusedVariables false
set_option linter.unusedSimpArgs false
/-- The first cut at or behind a block. -/
def ofGo (b : Int) : List Int → Int → Int
  | [], _ => 0
  | c :: l, i => if b ≤ c then i + 1 else ofGo b l (i + 1)
def ofF (s : Wl) (b : Int) : Int := if b < 1 then 0 else ofGo b s.cu 0
theorem drop_cons {α : Type} {l : List α} {i : Nat} (h : i < l.length) (d : α) : l.drop i = l.getD i d :: l.drop (i + 1) := by
  rw [List.drop_eq_getElem_cons h, List.getD_eq_getElem?_getD, List.getElem?_eq_getElem h]
  rfl
section
variable {w w' : World} {Z : Nat} {OK : Nat → Prop} {Bw Bl : Nat} {t : Wl}
theorem at_int {A : Option Addr} {n : Nat} {xs : List Int} (h : KI.C w A n xs) (i : Nat) (hi : i < n) : ∃ ad, A = some ad ∧ w.cell? (ad.add i) = some (.int .i64 (xs.getD i 0)) := by
  obtain ⟨ad, c, e, _, hK, hc0⟩ := Kd.C_get h (0 : Int) (i : Int) (by omega) (by omega)
  rw [Int.toNat_natCast] at hK hc0
  have hK' : c = [.int .i64 (xs.getD i 0)] := hK
  subst hK'
  have hc : ∀ j u, ([Value.int .i64 (xs.getD i 0)] : List Value)[j]? = some u → w.cell? (ad.add (i * 1 + j)) = some u := hc0
  have := hc 0 _ rfl
  rw [Nat.mul_one, Nat.add_zero] at this
  exact ⟨ad, e, this⟩
theorem at_rows {A : Option Addr} {n : Nat} {xs : List (List RowT)} (h : KW.C w A n xs) (i : Nat) (hi : i < n) : ∃ ad A0 c0, A = some ad ∧ w.cell? (ad.add i) = some (.slice A0 (xs.getD i []).length c0) ∧ (xs.getD i []).length ≤ c0 ∧ k109.C w A0 (xs.getD i []).length (xs.getD i []) := by
  obtain ⟨ad, c, e, _, hK, hc0⟩ := Kd.C_get h ([] : List RowT) (i : Int) (by omega) (by omega)
  rw [Int.toNat_natCast] at hK hc0
  obtain ⟨A0, c0, rfl, l0, g0⟩ := hK
  have hc : ∀ j u, ([Value.slice A0 (xs.getD i []).length c0] : List Value)[j]? = some u → w.cell? (ad.add (i * 1 + j)) = some u := hc0
  have := hc 0 _ rfl
  rw [Nat.mul_one, Nat.add_zero] at this
  exact ⟨ad, A0, c0, e, this, l0, g0⟩
set_option maxHeartbeats 4000000 in
theorem Of_wal (h : Wx Z w OK Bw Bl t) (hcl : t.cu.length ≤ 1000000) (b : Int) : Calls Tryd.prog 53 #[.pointer (some ⟨Bw, 0, none⟩), .int .i64 b] w fun e w' => e = .returned (.int .i64 (ofF t b)) ∧ w' = w := by
  obtain ⟨⟨vB, vC, h1, h2, h3, h4⟩, h5⟩ := h
  obtain ⟨A, c, rfl⟩ := Kd.R_slice h4
  obtain ⟨x0, x1, x2, x3⟩ := facts4 h2
  have RC := Aside0.mk (Kd.R_reads' h4).2.2
  clear h1 h2 h3 h4 h5 x0 x1 x3
  unfold ofF
  by_cases g1 : b < 1
  · have q1 : decide (b < 1) = true := decide_eq_true g1
    rw [if_pos g1]
    go_enter Tryd.func53, Tryd.ntmps53
    go_wp2
    go_ret
    exact ⟨rfl, rfl⟩
  have q1 : decide (b < 1) = false := decide_eq_false g1
  rw [if_neg g1]
  clear g1
  go_enter Tryd.func53, Tryd.ntmps53
  go_wp2
  go_loopg [14] (t.cu.length + 1) (fun kq v14 wr => ∃ (i : Nat), v14 = .int .i64 (i : Int) ∧ i ≤ t.cu.length ∧ t.cu.length - i ≤ kq ∧ wr = w ∧ Aside0 (ofGo b (t.cu.drop i) (i : Int) = ofGo b t.cu 0))
  case atStart => exact ⟨0, rfl, by omega, by omega, rfl, ⟨rfl⟩⟩
  case round =>
    obtain ⟨i, rfl, hi, hk, rfl, K⟩ := hrel
    by_cases hlt : i < t.cu.length
    · have q2 : decide ((i : Int) < (t.cu.length : Int)) = true := decide_eq_true (by omega)
      have p0 : (0 : Int) ≤ (i : Int) := by omega
      have p1 : (i : Int) < (t.cu.length : Int) := by omega
      obtain ⟨ad, rfl, m1⟩ := at_int RC.out i hlt
      have K' := K.out
      rw [drop_cons hlt 0] at K'
      obtain ⟨cv, hcv⟩ : ∃ cv, t.cu.getD i 0 = cv := ⟨_, rfl⟩
      rw [hcv] at m1 K'
      rw [ofGo] at K'
      clear hcv K
      by_cases g2 : b ≤ cv
      · have q3 : decide (b ≤ cv) = true := decide_eq_true g2
        rw [if_pos g2] at K'
        have K2 := Aside0.mk K'
        clear K' g2
        go_wp2
        go_ret
        exact ⟨by rw [← K2.out]; rfl, rfl⟩
      · have q3 : decide (b ≤ cv) = false := decide_eq_false g2
        rw [if_neg g2] at K'
        have K2 := Aside0.mk K'
        clear K' g2
        go_wp2
        go_roundg (gk - 1)
        case measure => omega
        case rel => exact ⟨i + 1, by go_num, by omega, by omega, rfl, ⟨by rw [← K2.out]; rfl⟩⟩
    · obtain rfl : i = t.cu.length := by omega
      have q2 : decide ((t.cu.length : Int) < (t.cu.length : Int)) = false := decide_eq_false (by omega)
      have K2 : Aside0 (ofGo b t.cu 0 = 0) := ⟨by rw [← K.out, List.drop_length]; rfl⟩
      clear K
      go_wp2
      go_ret
      exact ⟨by rw [K2.out]; rfl, rfl⟩
set_option maxRecDepth 100000 in
/-- slices.Clone of rows: a copy of the caller's own. -/
theorem clone_rows (A : Option Addr) (c : Nat) (xs : List RowT) (hC : k109.C w A xs.length xs) (hc : xs.length ≤ c) (hl : xs.length ≤ 1000000) :
    Calls Tryd.prog 94 #[.slice A xs.length c] w fun e w' => ∃ v, e = .returned v ∧ k109.R 109 w' w.heap.size (fun _ => True) v xs ∧ Below w.heap.size w w' := by
  have HC := Aside0.mk hC
  have hnil : ∀ (W : World) (a : Option Addr) (n c : Nat), (binOp .eql 76 (.slice a n c) (.slice none 0 0)).run Tryd.prog W = .ok (.bool a.isNone) W := fun W a n c => Lib.run_eql_slice_nil W _ _ a n c 0 0 Tryd.underlying76
  cases A with
  | none =>
    have : xs = [] := by
      rcases Nat.eq_zero_or_pos xs.length with h0 | h0
      · exact List.eq_nil_of_length_eq_zero h0
      · obtain ⟨ad, e, _⟩ := hC.2.2 h0
        cases e
    subst this
    clear hC
    go_enter Tryd.func94, Tryd.ntmps94
    go_wp2
    go_ret
    exact ⟨_, rfl, Kd.R_nil _ _ _ _ _, Below.refl _ _⟩
  | some ad =>
    clear hC
    have hown := World.ownsRow_lit (base := w.heap.size) (e := 109) (size := 2) w #[] 0 (Nat.le_refl _) (by decide) (by simp)
    have HO : Aside0 (k109.R 109 (w.alloc (.cells #[] 109)) w.heap.size (fun _ => True) (.slice (some ⟨w.heap.size, 0, none⟩) 0 0) ([] : List RowT)) := ⟨fun _ _ => trivial, [], hown, Reps.none _ _⟩
    clear hown
    go_enter Tryd.func94, Tryd.ntmps94
    go_wp2_with (first
      | ((with_reducible refine gate_builtin (b := .append) (xs := #[.tmp 5, .tmp 6]) rfl ?_); at_builtin; refine Kd.R_append_rows k109 (w0 := w) w.heap.size rfl (.tmp 5) (.tmp 6) 76 109 (.agg #[(.int .i64 0), (.int .i64 0)]) 16 rfl Tryd.underlying76 infoRow rfl (by decide) (by omega) (.slice (some ⟨w.heap.size, 0, none⟩) 0 0) ([] : List RowT) xs _ _ _ (fun _ => True) (fun _ => False) rfl rfl ?aO ?aR (fun _ _ h => h) (fun _ h => h.elim) ?aF ?aB ?aS ?aL ?_; (case aO => exact HO.out); (case aR => exact Kd.C_below HC.out (below_alloc (Below.refl _ _) _)); (case aF => exact fun _ _ => trivial); (case aB => exact below_alloc (Below.refl _ _) _); (case aS => exact (below_alloc (Below.refl w.heap.size w) _).size); (case aL => simp only [List.length_nil]; omega); intro v3 w3 ho hb hg hat; rw [List.nil_append] at ho; have H3 := Aside0.mk ho; have B3 := Aside0.mk hb; obtain ⟨A3, c3, rfl⟩ := Kd.R_slice ho; clear ho hb hg hat)
      | fail)
    go_ret
    exact ⟨_, rfl, H3.out, B3.out⟩
end
abbrev KWW : Kd (List (List RowT)) := Kd.slice 76 KW
theorem infoBs : (Tryd.prog.info? 71).map (fun i => (i.zero, i.size, i.bytes)) = some (some (.slice none 0 0), 1, 24) := by kernel_rfl
/-- A batch's blocks. -/
def loB (s : Wl) (n : Nat) : Nat := if 1 < n then (s.cu.getD (n - 2) 0).toNat else 0
def hiB (s : Wl) (n : Nat) : Nat := (s.cu.getD (n - 1) 0).toNat
def batF (s : Wl) (n : Nat) : List (List RowT) := (s.bl.take (hiB s n)).drop (loB s n)
/-- All batches. -/
def allF (s : Wl) : List (List (List RowT)) := (List.range s.cu.length).map fun i => batF s (i + 1)
theorem getD_mem {l : List Int} {i : Nat} (h : i < l.length) : l.getD i 0 ∈ l := by
  rw [List.getD_eq_getElem?_getD, List.getElem?_eq_getElem h]
  exact List.getElem_mem h
theorem bat_bd {s : Wl} (h : Wb s) {n : Nat} (h1 : 1 ≤ n) (h2 : n ≤ s.cu.length) : s.cu.getD (n - 1) 0 = (hiB s n : Int) ∧ (1 < n → s.cu.getD (n - 2) 0 = (loB s n : Int)) ∧ loB s n ≤ hiB s n ∧ hiB s n ≤ s.bl.length := by
  have a1 := h.cuts _ (getD_mem (l := s.cu) (i := n - 1) (by omega))
  have e1 : s.cu.getD (n - 1) 0 = (hiB s n : Int) := by unfold hiB; omega
  by_cases g : 1 < n
  · have a2 := h.cuts _ (getD_mem (l := s.cu) (i := n - 2) (by omega))
    have e2 : s.cu.getD (n - 2) 0 = (loB s n : Int) := by unfold loB; rw [if_pos g]; omega
    have h3 : s.cu.getD (n - 2) 0 ≤ s.cu.getD (n - 1) 0 := by
      rw [List.getD_eq_getElem?_getD, List.getElem?_eq_getElem (by omega : n - 2 < s.cu.length), List.getD_eq_getElem?_getD, List.getElem?_eq_getElem (by omega : n - 1 < s.cu.length)]
      exact (List.pairwise_iff_getElem.1 h.sorted) (n - 2) (n - 1) (by omega) (by omega) (by omega)
    exact ⟨e1, fun _ => e2, by omega, by omega⟩
  · have e2 : loB s n = 0 := by unfold loB; rw [if_neg g]
    exact ⟨e1, fun h => absurd h g, by omega, by omega⟩
section
variable {w w' : World} {Z : Nat} {OK : Nat → Prop} {Bw Bl : Nat} {t : Wl}
theorem Batch_no (h : Wx Z w OK Bw Bl t) (hcl : t.cu.length ≤ 1000000) (n : Int) (hn : n < 1 ∨ (t.cu.length : Int) < n) : Calls Tryd.prog 54 #[.pointer (some ⟨Bw, 0, none⟩), .int .i64 n] w fun e w' => e = .returned (.tuple #[.slice none 0 0, .bool false]) ∧ w' = w := by
  obtain ⟨⟨vB, vC, h1, h2, h3, h4⟩, h5⟩ := h
  obtain ⟨A, c, rfl⟩ := Kd.R_slice h4
  obtain ⟨x0, x1, x2, x3⟩ := facts4 h2
  clear h1 h2 h3 h4 h5 x0 x1 x3
  by_cases g1 : n < 1
  · have q1 : decide (n < 1) = true := decide_eq_true g1
    clear hn g1
    go_enter Tryd.func54, Tryd.ntmps54
    go_wp2
    go_ret2
    exact ⟨rfl, rfl⟩
  · have q1 : decide (n < 1) = false := decide_eq_false g1
    have q2 : decide ((t.cu.length : Int) < n) = true := decide_eq_true (by omega)
    clear hn g1
    go_enter Tryd.func54, Tryd.ntmps54
    go_wp2
    go_ret2
    exact ⟨rfl, rfl⟩
set_option maxHeartbeats 16000000 in
set_option maxRecDepth 100000 in
theorem Batch_yes (h : Wx Z w OK Bw Bl t) (hW : Wb t) (n : Nat) (hn1 : 1 ≤ n) (hn2 : n ≤ t.cu.length) : Calls Tryd.prog 54 #[.pointer (some ⟨Bw, 0, none⟩), .int .i64 (n : Int)] w fun e w' => ∃ v, e = .returned (.tuple #[v, .bool true]) ∧ KW.R 76 w' w.heap.size (fun _ => True) v (batF t n) ∧ Below w.heap.size w w' := by
  have hcu := hW.cu
  have hbl := hW.bl
  have HRW := Aside0.mk hW.rows
  obtain ⟨e1, e2, hlh, hhb⟩ := bat_bd hW hn1 hn2
  obtain ⟨⟨vB, vC, h1, h2, h3, h4⟩, h5⟩ := h
  obtain ⟨AC, cC, rfl⟩ := Kd.R_slice h4
  obtain ⟨AB, cB, rfl⟩ := Kd.R_slice h3
  have H2 := Aside0.mk h2
  obtain ⟨ad, rfl, m1⟩ := at_int (Kd.R_reads' h4).2.2 (n - 1) (by omega)
  rw [e1] at m1
  have hBC := (Kd.R_reads' h3).2
  have HB := Aside0.mk (Kd.C_mid (lo := loB t n) (hi := hiB t n) (c := cB) hBC.2 hlh hhb hBC.1)
  have hcut := cut_mid (P := Tryd.prog) 71 76 .i64 .i64 Tryd.underlying71 (info_parts infoRows).choose_spec.1 1 (info_parts infoRows).choose_spec.2.2.1 AB t.bl.length cB (loB t n : Int) (hiB t n : Int) (by omega) (by omega) (by omega) hBC.1
  have hlen : hiB t n - loB t n = (batF t n).length := by unfold batF; rw [List.length_drop, List.length_take, Nat.min_eq_left hhb]
  have HLL : Aside0 ((batF t n).length ≤ 400) := ⟨by omega⟩
  simp only [Int.toNat_natCast] at hcut
  rw [hlen] at hcut
  have HM : Aside0 (∀ x ∈ batF t n, x.length ≤ 16) := ⟨fun x hx => HRW.out x (List.mem_of_mem_take (List.mem_of_mem_drop hx))⟩
  rw [show (t.bl.take (hiB t n)).drop (loB t n) = batF t n from rfl] at HB
  obtain ⟨out, hout⟩ : ∃ out, batF t n = out := ⟨_, rfl⟩
  rw [hout] at HB hcut HLL HM ⊢
  obtain ⟨A', hA'⟩ : ∃ A', (if cB = loB t n then AB else AB.map (·.add (loB t n * 1))) = A' := ⟨_, rfl⟩
  obtain ⟨c', hc'⟩ : ∃ c', cB - loB t n = c' := ⟨_, rfl⟩
  have HB' : Aside0 (KW.C w A' out.length out) := ⟨by rw [← hA']; exact HB.out⟩
  rw [hA', hc'] at hcut
  obtain ⟨x0, x1, x2, x3⟩ := facts4 h2
  have p1 : (0 : Int) ≤ (n : Int) - 1 := by omega
  have p2 : (n : Int) - 1 < (t.cu.length : Int) := by omega
  have q1 : decide ((n : Int) < 1) = false := decide_eq_false (by omega)
  have q2 : decide ((t.cu.length : Int) < (n : Int)) = false := decide_eq_false (by omega)
  have q2n : decide (t.cu.length < n) = false := decide_eq_false (by omega)
  have HMI := Aside0.mk (fun (i : Nat) (hi : i < t.cu.length) => at_int (Kd.R_reads' h4).2.2 i hi)
  clear hout hlen hA' hc' HB hBC hhb hlh h1 h2 h3 h4 h5 x0 x3
  have HB0 := Aside0.mk (Below.refl w.heap.size w)
  have hcase : (decide (1 < (n : Int)) = true ∧ w.cell? (ad.add (n - 2)) = some (.int .i64 (loB t n : Int)) ∧ (0 : Int) ≤ (n : Int) - 2 ∧ (n : Int) - 2 < (t.cu.length : Int)) ∨ (decide (1 < (n : Int)) = false ∧ loB t n = 0) := by
    by_cases g : 1 < n
    · obtain ⟨ad2, had, m2⟩ := HMI.out (n - 2) (by omega)
      obtain rfl : ad = ad2 := Option.some.inj had
      rw [e2 g] at m2
      exact .inl ⟨decide_eq_true (by omega), m2, by omega, by omega⟩
    · exact .inr ⟨decide_eq_false (by omega), by unfold loB; rw [if_neg g]⟩
  clear e1 e2 HMI
  rcases hcase with ⟨q3, m2, p3, p4⟩ | ⟨q3, hz⟩
  all_goals (try (rw [hz] at hcut; have hcut2 : ∀ W : World, (Instr.slice 71 (.slice AB t.bl.length cB) (some (.int .i64 0)) (some (.int .i64 (hiB t n : Int))) none).run Tryd.prog W = .ok (.slice A' out.length c') W := hcut; clear hz hcut))
  all_goals
    go_enter Tryd.func54, Tryd.ntmps54
    go_wp2_with fail
    go_quiet (fail)
    have b7 := pw_below_drewN (Below.refl w.heap.size w) nq
    have R7 := Aside0.mk (Kd.C_below HB'.out b7)
    have hs7 : Aside0 ((w.drewN nq).heap.size = w.heap.size) := ⟨by simp⟩
    obtain ⟨w7, hw7⟩ : ∃ w7, w.drewN nq = w7 := ⟨_, rfl⟩
    rw [hw7] at b7 R7 hs7 ⊢
    have W7 := Aside0.mk b7
    have B7 : Aside0 (KW.R 76 w7 w7.heap.size (fun _ => True) (.slice none 0 0) (out.take 0) ∧ Below w7.heap.size w7 w7) := ⟨Kd.R_nil _ _ _ _ _, Below.refl _ _⟩
    have hll := HLL.out
    clear hw7 b7 x1 x2 m1
    go_wp2
    go_loopg [7, 46] (out.length + 1) (fun kq v7 v46 wr => ∃ (i : Nat) (A7 : Option Addr) (c7 : Nat), v7 = .slice A7 i c7 ∧ v46 = .int .i64 (i : Int) ∧ i ≤ out.length ∧ out.length - i ≤ kq ∧ Aside0 (KW.R 76 wr w7.heap.size (fun _ => True) (.slice A7 i c7) (out.take i) ∧ Below w7.heap.size w7 wr))
    case atStart => exact ⟨0, none, 0, rfl, rfl, by omega, by omega, B7⟩
    case round =>
      obtain ⟨i, A7, c7, rfl, rfl, hi, hk, K⟩ := hrel
      clear B7
      by_cases hlt : i < out.length
      · have q4 : decide ((i : Int) < (out.length : Int)) = true := decide_eq_true (by omega)
        have s0 : (0 : Int) ≤ (i : Int) := by omega
        have s1 : (i : Int) < (out.length : Int) := by omega
        obtain ⟨adB, A9, c9, e9, m9, t9, r9⟩ := at_rows (Kd.C_below R7.out K.out.2) i hlt
        subst e9
        have hx16 := HM.out (out.getD i []) (by rw [List.getD_eq_getElem?_getD, List.getElem?_eq_getElem hlt]; exact List.getElem_mem hlt)
        have HT : Aside0 (out.take i ++ [out.getD i []] = out.take (i + 1)) := ⟨by rw [List.take_add_one, List.getElem?_eq_getElem hlt, List.getD_eq_getElem?_getD, List.getElem?_eq_getElem hlt]; rfl⟩
        have HTL : Aside0 ((out.take (i + 1)).length = i + 1) := ⟨by rw [List.length_take]; omega⟩
        have HTI : Aside0 ((out.take i).length = i) := ⟨by rw [List.length_take]; omega⟩
        obtain ⟨xs, hxs⟩ : ∃ xs, out.getD i [] = xs := ⟨_, rfl⟩
        rw [hxs] at m9 t9 r9 hx16 HT
        have QC := Aside0.mk (clone_rows A9 c9 xs r9 t9 (by omega))
        clear r9 hxs
        go_wp2_with fail
        refine QC.out.mono ?_
        rintro e w8 ⟨v8, rfl, hR8, hb8⟩
        obtain ⟨A8, c8, rfl⟩ := Kd.R_slice hR8
        have R8 := Aside0.mk hR8
        have B8 := Aside0.mk hb8
        clear hR8 hb8 QC m9
        go_wp2_with (first
          | ((with_reducible refine gate_builtin (b := .append) (xs := #[.tmp 50, .tmp 53]) rfl ?_); at_builtin; refine Kd.R_append KW (w0 := w7) w7.heap.size rfl (.tmp 50) (.tmp 53) 71 76 (.slice none 0 0) 24 rfl Tryd.underlying71 infoRows rfl (by decide) (by omega) (.slice A7 i c7) (out.take i) xs [.slice A8 xs.length c8] (fun _ => True) (fun k => wr.heap.size ≤ k) rfl rfl ?bP ?bK (fun _ _ => trivial) ?bO ?bB ?bS ?bL ?_; (case bP => exact ⟨_, rfl, Kd.R_lower (Kd.R_mono (Kd.R_bound R8.out) (fun k hk => hk.2.1)) K.out.2.size⟩); (case bK => exact fun k hk => ⟨trivial, fun e => by have := own_size K.out.1 k e.symm; omega⟩); (case bO => exact Kd.R_below K.out.1 B8.out); (case bB => exact K.out.2.trans (B8.out.mono K.out.2.size)); (case bS => exact Nat.le_trans K.out.2.size B8.out.size); (case bL => have := HTI.out; omega); intro v9 w9 ho hb hg hat; rw [HT.out] at ho; have R9 := Aside0.mk ho; have B9 := Aside0.mk hb; obtain ⟨A10, c10, he10⟩ := Kd.R_slice ho; rw [HTL.out] at he10; subst he10; clear ho hb hg hat)
          | fail)
        go_roundg (gk - 1)
        case measure => omega
        case rel => exact ⟨i + 1, A10, c10, rfl, by go_num, by omega, by omega, ⟨R9.out, B9.out⟩⟩
      · obtain rfl : i = out.length := by omega
        have q4 : decide ((out.length : Int) < (out.length : Int)) = false := decide_eq_false (by omega)
        have K2 := Aside0.mk (show KW.R 76 wr w.heap.size (fun _ => True) (.slice A7 out.length c7) out from by have := K.out.1; rw [List.take_length, hs7.out] at this; exact this)
        go_wp2
        go_ret2
        exact ⟨_, rfl, K2.out, W7.out.trans (K.out.2.mono (Nat.le_of_eq hs7.out.symm))⟩
set_option maxHeartbeats 16000000 in
set_option maxRecDepth 100000 in
theorem All_wal (h : Wx Z w OK Bw Bl t) (hW : Wb t) : Calls Tryd.prog 46 #[.pointer (some ⟨Bw, 0, none⟩)] w fun e w' => ∃ v, e = .returned v ∧ KWW.R 71 w' w.heap.size (fun _ => True) v (allF t) ∧ Below w.heap.size w w' := by
  have H := Aside0.mk h
  have HW := Aside0.mk hW
  have hcu := hW.cu
  obtain ⟨⟨vB, vC, h1, h2, h3, h4⟩, h5⟩ := h
  obtain ⟨AC, cC, rfl⟩ := Kd.R_slice h4
  obtain ⟨x0, x1, x2, x3⟩ := facts4 h2
  have HLA : Aside0 ((allF t).length = t.cu.length) := ⟨by unfold allF; simp⟩
  have K0 : Aside0 (KWW.R 71 w w.heap.size (fun _ => True) (.slice none 0 0) ((allF t).take 0) ∧ Below w.heap.size w w) := ⟨Kd.R_nil _ _ _ _ _, Below.refl _ _⟩
  clear h1 h2 h3 h4 h5 x0 x1 x3 hW
  go_enter Tryd.func46, Tryd.ntmps46
  go_wp2
  go_loopg [3, 12] (t.cu.length + 1) (fun kq v3 v12 wr => ∃ (i : Nat) (A7 : Option Addr) (c7 : Nat), v3 = .slice A7 i c7 ∧ v12 = .int .i64 (i : Int) ∧ i ≤ t.cu.length ∧ t.cu.length - i ≤ kq ∧ Aside0 (KWW.R 71 wr w.heap.size (fun _ => True) (.slice A7 i c7) ((allF t).take i) ∧ Below w.heap.size w wr))
  case atStart => exact ⟨0, none, 0, rfl, rfl, by omega, by omega, K0⟩
  case round =>
    obtain ⟨i, A7, c7, rfl, rfl, hi, hk, K⟩ := hrel
    clear K0
    by_cases hlt : i < t.cu.length
    · have q4 : decide ((i : Int) < (t.cu.length : Int)) = true := decide_eq_true (by omega)
      have HT : Aside0 ((allF t).take i ++ [batF t (i + 1)] = (allF t).take (i + 1)) := ⟨by
        rw [List.take_add_one, List.getElem?_eq_getElem (by rw [HLA.out]; exact hlt)]
        simp [allF]⟩
      have HTL : Aside0 (((allF t).take (i + 1)).length = i + 1) := ⟨by rw [List.length_take, HLA.out]; omega⟩
      have HTI : Aside0 (((allF t).take i).length = i) := ⟨by rw [List.length_take, HLA.out]; omega⟩
      have QC := Aside0.mk (Batch_yes (H.out.below K.out.2) HW.out (i + 1) (by omega) (by omega))
      obtain ⟨xs, hxs⟩ : ∃ xs, batF t (i + 1) = xs := ⟨_, rfl⟩
      rw [hxs] at HT QC
      rw [show ((i + 1 : Nat) : Int) = (i : Int) + 1 from by omega] at QC
      clear hxs
      go_wp2_with fail
      refine QC.out.mono ?_
      rintro e w8 ⟨v8, rfl, hR8, hb8⟩
      obtain ⟨A8, c8, rfl⟩ := Kd.R_slice hR8
      have R8 := Aside0.mk hR8
      have B8 := Aside0.mk hb8
      clear hR8 hb8 QC
      go_wp2_with (first
        | ((with_reducible refine gate_builtin (b := .append) (xs := #[.tmp 22, .tmp 24]) rfl ?_); at_builtin; refine Kd.R_append KWW (w0 := w) w.heap.size rfl (.tmp 22) (.tmp 24) 69 71 (.slice none 0 0) 24 rfl Tryd.underlying69 infoBs rfl (by decide) (by omega) (.slice A7 i c7) ((allF t).take i) xs [.slice A8 xs.length c8] (fun _ => True) (fun k => wr.heap.size ≤ k) rfl rfl ?bP ?bK (fun _ _ => trivial) ?bO ?bB ?bS ?bL ?_; (case bP => exact ⟨_, rfl, Kd.R_lower (Kd.R_mono (Kd.R_bound R8.out) (fun k hk => hk.2.1)) K.out.2.size⟩); (case bK => exact fun k hk => ⟨trivial, fun e => by have := own_size K.out.1 k e.symm; omega⟩); (case bO => exact Kd.R_below K.out.1 B8.out); (case bB => exact K.out.2.trans (B8.out.mono K.out.2.size)); (case bS => exact Nat.le_trans K.out.2.size B8.out.size); (case bL => have := HTI.out; omega); intro v9 w9 ho hb hg hat; rw [HT.out] at ho; have R9 := Aside0.mk ho; have B9 := Aside0.mk hb; obtain ⟨A10, c10, he10⟩ := Kd.R_slice ho; rw [HTL.out] at he10; subst he10; clear ho hb hg hat)
        | fail)
      go_roundg (gk - 1)
      case measure => omega
      case rel => exact ⟨i + 1, A10, c10, rfl, by go_num, by omega, by omega, ⟨R9.out, B9.out⟩⟩
    · obtain rfl : i = t.cu.length := by omega
      have q4 : decide ((t.cu.length : Int) < (t.cu.length : Int)) = false := decide_eq_false (by omega)
      have K2 := Aside0.mk (show KWW.R 71 wr w.heap.size (fun _ => True) (.slice A7 t.cu.length c7) (allF t) from by have := K.out.1; rw [← HLA.out, List.take_length, HLA.out] at this; exact this)
      go_wp2
      go_ret
      exact ⟨_, rfl, K2.out, K.out.2⟩
end
end Go.Proofs.YtlhjjjpldmekdaaDoor.PDsk.K
namespace Go.Proofs.YtlhjjjpldmekdaaDoor.PDsk.K
open Go.RowKit Go.Proofs.YtlhjjjpldmekdaaDoorW.PrintWords Go.Proofs.YtlhjjjpldmekdaaDoorW.PrintLast Go.Proofs.YtlhjjjpldmekdaaDoorW.PrintMore Go.Proofs.YtlhjjjpldmekdaaDoor.Err Go.Maps Go.Proofs.YtlhjjjpldmekdaaDoor.PLog Go.Proofs.YtlhjjjpldmekdaaDoor.PWal
open Go.Proofs.YtlhjjjpldmekdaaDoor.PFn (RowT)
set_option linter.unusedVariables false
set_option linter.unusedSimpArgs false
theorem ofGo_at (b : Int) : ∀ (l : List Int) (i : Int) (m : Nat), m < l.length → (∀ j : Nat, j < m → l.getD j 0 < b) → b ≤ l.getD m 0 → ofGo b l i = i + m + 1 := by
  intro l
  induction l with
  | nil => intro i m hm; simp at hm
  | cons c l ih =>
    intro i m hm h1 h2
    rw [ofGo]
    cases m with
    | zero => rw [if_pos (by simpa using h2)]; simp
    | succ m =>
      rw [if_neg (by have := h1 0 (by omega); simp at this; omega)]
      rw [ih (i + 1) m (by simpa using hm) (fun j hj => by have := h1 (j + 1) (by omega); simpa using this) (by simpa using h2)]
      omega
theorem ofGo_no (b : Int) : ∀ (l : List Int) (i : Int), (∀ c ∈ l, c < b) → ofGo b l i = 0 := by
  intro l
  induction l with
  | nil => intro i _; rfl
  | cons c l ih =>
    intro i h
    rw [ofGo, if_neg (by have := h c (by simp); omega)]
    exact ih (i + 1) (fun c hc => h c (List.mem_cons_of_mem _ hc))
theorem of_in {s : Wl} (h : Wb s) {n k : Nat} (h1 : 1 ≤ n) (h2 : n ≤ s.cu.length) (h3 : loB s n ≤ k) (h4 : k < hiB s n) : ofF s ((k : Int) + 1) = (n : Int) := by
  obtain ⟨e1, e2, e3, e4⟩ := bat_bd h h1 h2
  unfold ofF
  rw [if_neg (by omega), ofGo_at ((k : Int) + 1) s.cu 0 (n - 1) (by omega) (fun j hj => ?_) (by rw [e1]; omega)]
  · omega
  · have e2' := e2 (by omega)
    have : s.cu.getD j 0 ≤ s.cu.getD (n - 2) 0 := by
      rcases Nat.lt_or_ge j (n - 2) with hlt | hge
      · rw [List.getD_eq_getElem?_getD, List.getElem?_eq_getElem (by omega : j < s.cu.length), List.getD_eq_getElem?_getD, List.getElem?_eq_getElem (by omega : n - 2 < s.cu.length)]
        exact (List.pairwise_iff_getElem.1 h.sorted) j (n - 2) (by omega) (by omega) hlt
      · rw [show j = n - 2 from by omega]; exact Int.le_refl _
    omega
theorem of_out {s : Wl} (h : Wb s) {b : Int} (hb : ∀ c ∈ s.cu, c < b) : ofF s b = 0 := by
  unfold ofF
  split
  · rfl
  · exact ofGo_no b s.cu 0 hb
theorem bat_len {s : Wl} (h : Wb s) {n : Nat} (h1 : 1 ≤ n) (h2 : n ≤ s.cu.length) : (batF s n).length = hiB s n - loB s n := by
  have := (bat_bd h h1 h2).2.2.2
  unfold batF
  rw [List.length_drop, List.length_take, Nat.min_eq_left this]
theorem bat_at {s : Wl} {n j : Nat} (hj : loB s n + j < hiB s n) : (batF s n).getD j [] = s.bl.getD (loB s n + j) [] := by
  unfold batF
  rw [List.getD_eq_getElem?_getD, List.getD_eq_getElem?_getD, List.getElem?_drop, List.getElem?_take, if_pos hj]
theorem lo_succ {s : Wl} {n : Nat} (h : 1 ≤ n) : loB s (n + 1) = hiB s n := by
  unfold loB hiB
  rw [if_pos (by omega), show n + 1 - 2 = n - 1 from by omega]
theorem lo_one (s : Wl) : loB s 1 = 0 := rfl
theorem all_at {s : Wl} {i : Nat} (h : i < s.cu.length) : (allF s).getD i [] = batF s (i + 1) := by
  unfold allF
  rw [List.getD_eq_getElem?_getD, List.getElem?_map, List.getElem?_range h]
  rfl
end Go.Proofs.YtlhjjjpldmekdaaDoor.PDsk.K
namespace Go.Proofs.YtlhjjjpldmekdaaDoor.PDsk.K
open Go.RowKit Go.Proofs.YtlhjjjpldmekdaaDoorW.PrintWords Go.Proofs.YtlhjjjpldmekdaaDoorW.PrintLast Go.Proofs.YtlhjjjpldmekdaaDoorW.PrintMore Go.Proofs.YtlhjjjpldmekdaaDoor.Err Go.Maps Go.Proofs.YtlhjjjpldmekdaaDoor.PLog Go.Proofs.YtlhjjjpldmekdaaDoor.PWal
open Go.Proofs.YtlhjjjpldmekdaaDoor.PFn (RowT k109)
set_option linter.unusedVariables false
theorem at_bs {w : World} {A : Option Addr} {n : Nat} {xs : List (List (List RowT))} (h : KWW.C w A n xs) (i : Nat) (hi : i < n) : ∃ ad A0 c0, A = some ad ∧ w.cell? (ad.add i) = some (.slice A0 (xs.getD i []).length c0) ∧ (xs.getD i []).length ≤ c0 ∧ KW.C w A0 (xs.getD i []).length (xs.getD i []) := by
  obtain ⟨ad, c, e, _, hK, hc0⟩ := Kd.C_get h ([] : List (List RowT)) (i : Int) (by omega) (by omega)
  rw [Int.toNat_natCast] at hK hc0
  obtain ⟨A0, c0, rfl, l0, g0⟩ := hK
  have hc : ∀ j u, ([Value.slice A0 (xs.getD i []).length c0] : List Value)[j]? = some u → w.cell? (ad.add (i * 1 + j)) = some u := hc0
  have := hc 0 _ rfl
  rw [Nat.mul_one, Nat.add_zero] at this
  exact ⟨ad, A0, c0, e, this, l0, g0⟩
theorem same_rows (A0 A1 : Option Addr) (c0 c1 : Nat) (l : List RowT) (w : World) (h0 : k109.C w A0 l.length l) (hc0 : l.length ≤ c0) (h1 : k109.C w A1 l.length l) (hc1 : l.length ≤ c1) (hl : l.length ≤ 1000000) :
    Calls Tryd.prog 55 #[.slice A0 l.length c0, .slice A1 l.length c1] w fun e w' => e = .returned (.bool true) ∧ ∃ m, w' = w.drewN m :=
  (PFn.tributaryref2_Same.calls (l.length + 1) A0 c0 l A1 c1 l true w h0 hc0 h1 hc1 (PFn.ref2_Same_f l (by omega) _ (by omega))).mono fun _ _ h => ⟨h.1, h.2.out⟩
theorem q_any {P : Program} {f : FuncId} {args : Array Value} {w : World} {v : Value} (h : ∀ n, Calls P f args (w.drewN n) fun e w' => e = .returned v ∧ ∃ m, w' = (w.drewN n).drewN m) (n : Nat) : Calls P f args (w.drewN n) fun e w'' => e = .returned v ∧ ∃ m, w'' = w.drewN m :=
  (h n).mono fun _ _ ⟨he, m, hm⟩ => ⟨he, n + m, by rw [hm, World.drewN_drewN]⟩
theorem hi_mono {s : Wl} (h : Wb s) {n m : Nat} (h1 : 1 ≤ n) (h2 : n ≤ m) (h3 : m ≤ s.cu.length) : hiB s n ≤ hiB s m := by
  have e1 := (bat_bd h (n := n) h1 (by omega)).1
  have e2 := (bat_bd h (n := m) (by omega) h3).1
  rcases Nat.lt_or_ge (n - 1) (m - 1) with hlt | hge
  · have : s.cu.getD (n - 1) 0 ≤ s.cu.getD (m - 1) 0 := by
      rw [List.getD_eq_getElem?_getD, List.getElem?_eq_getElem (by omega : n - 1 < s.cu.length), List.getD_eq_getElem?_getD, List.getElem?_eq_getElem (by omega : m - 1 < s.cu.length)]
      exact (List.pairwise_iff_getElem.1 h.sorted) (n - 1) (m - 1) (by omega) (by omega) hlt
    omega
  · rw [show n = m from by omega]; exact Nat.le_refl _
/-- Where the last batch ends. -/
theorem end_bd {s : Wl} (h : Wb s) : loB s (s.cu.length + 1) ≤ s.bl.length ∧ (∀ n, 1 ≤ n → n ≤ s.cu.length → hiB s n ≤ loB s (s.cu.length + 1)) ∧ ∀ c ∈ s.cu, c < (loB s (s.cu.length + 1) : Int) + 1 := by
  rcases Nat.eq_zero_or_pos s.cu.length with h0 | h0
  · have e : s.cu = [] := List.eq_nil_of_length_eq_zero h0
    refine ⟨by rw [h0]; exact Nat.zero_le _, fun n h1 h2 => by omega, fun c hc => by rw [e] at hc; simp at hc⟩
  · rw [lo_succ h0]
    refine ⟨(bat_bd h (n := s.cu.length) h0 (Nat.le_refl _)).2.2.2, fun n h1 h2 => hi_mono h h1 h2 (Nat.le_refl _), fun c hc => ?_⟩
    obtain ⟨i, hi, rfl⟩ := List.getElem_of_mem hc
    have e1 := (bat_bd h (n := i + 1) (by omega) (by omega)).1
    have := hi_mono h (n := i + 1) (m := s.cu.length) (by omega) (by omega) (Nat.le_refl _)
    rw [Nat.add_sub_cancel, List.getD_eq_getElem?_getD, List.getElem?_eq_getElem hi] at e1
    simp only [Option.getD_some] at e1
    omega
end Go.Proofs.YtlhjjjpldmekdaaDoor.PDsk.K
