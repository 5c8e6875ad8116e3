/- Proved: disk's Write and Read told whole, by what they answer and leave; condition: bytes that fit. -/
import Derived.Test.YtemnnnjlllgeeaaDoorDskW
namespace Go.Proofs.YtemnnnjlllgeeaaDoor.PDsk.K
open Go.RowKit Go.Proofs.YtemnnnjlllgeeaaDoorW.PrintWords Go.Proofs.YtemnnnjlllgeeaaDoorW.PrintLast Go.Proofs.YtemnnnjlllgeeaaDoorW.PrintMore Go.Proofs.YtemnnnjlllgeeaaDoor.Err Go.Maps
set_option linter.unusedVariables false
set_option linter.unusedSimpArgs false

theorem wrap64_in (x : Int) (h : -9223372036854775808 ≤ x ∧ x ≤ 9223372036854775807) : wrap64 x = x := by unfold wrap64; omega
theorem lit_C (W : World) (B : Nat) (zs : List Int) (h : W.heap[B]? = some (.cells (zs.map (Value.int .u8)).toArray 5 (0, 0))) (hl : zs.length ≤ 9223372036854775807) : Kd.C (Kd.int .u8) W (some ⟨B, 0, none⟩) zs.length zs :=
  ⟨rfl, hl, fun _ => ⟨_, rfl, fun j p hp => ⟨[.int .u8 p], rfl, rfl, fun i u hu => by
    have hi : i = 0 := by
      have := (List.getElem?_eq_some_iff.1 hu).1
      simp at this; exact this
    subst hi
    simp at hu
    subst hu
    have : (Addr.add ⟨B, 0, none⟩ (j * (Kd.int .u8).sz + 0)) = ⟨B, j, none⟩ := by
      show Addr.add ⟨B, 0, none⟩ (j * 1 + 0) = _
      unfold Addr.add
      by_cases h0 : j = 0
      · simp [h0]
      · simp [h0]
    rw [this]
    exact blk_cell h j _ (by simp [hp])⟩⟩⟩
theorem Fr.alloc (S : Nat → Prop) (w : World) (o : Obj) : Fr S w (w.alloc o) := Fr.of_below (below_alloc (Below.refl _ _) o)
theorem St.lt {w : World} {Bs Bm : Nat} {s : Dk} (h : St w Bs Bm s) : Bs < w.heap.size := (Array.getElem?_eq_some_iff.1 h).1
theorem isErr_kept {w w' : World} {x : ByteArray} {a n : Int} {v : Value} {S : Nat → Prop} (h : IsErr w (.fault x a (.num n)) v) (hf : Fr S w w') (hS : ∀ t b, v = .iface t (.pointer (some ⟨b, 0, none⟩)) → ¬ S b) : IsErr w' (.fault x a (.num n)) v := by
  obtain ⟨b, v', rfl, hc, hi⟩ := h
  exact ⟨b, v', rfl, (hf.block b (Array.getElem?_eq_some_iff.1 hc).1 (hS _ b rfl)).trans hc, hi⟩
theorem Cont.ext {w : World} {F : Nat → Prop} {Bm n : Nat} {C C' : Int → Option (List Int)} (h : Cont w F Bm n C) (e : C = C') : Cont w F Bm n C' := e ▸ h

/-- What a write answers, what it leaves of the cells, whether the block is kept. -/
def wrS (s : Dk) (at_ n : Int) : Option Er × Dk × Bool :=
  if met s at_ n ≠ 2 then (refE (met s at_ n) at_, s, false)
  else if 0 < s.armed then
    if wrap64 (s.armed - 1) = 0 then (some (.fault diskS 0 (.num 70)), cutS s, false) else (none, { s with armed := wrap64 (s.armed - 1), writes := wrap64 (s.writes + 1) }, true)
  else (none, { s with writes := wrap64 (s.writes + 1) }, true)
def updC (C : Int → Option (List Int)) (k : Int) (xs : List Int) : Int → Option (List Int) := fun j => if j = k then some xs else C j
theorem Cont.more' {w : World} {F : Nat → Prop} {Bm n n' : Nat} {C : Int → Option (List Int)} (h : Cont w F Bm n C) (hn : n ≤ n') : Cont w F Bm n' C := by
  obtain ⟨D, hM, hk⟩ := h.map
  exact ⟨D, hM.mono hn, hk⟩
theorem write_calls (at_ : Int) (A0 : Option Addr) (c0 : Nat) (l0 : List Int) (s : Dk) (F : Nat → Prop) (Bs Bm n : Nat) (C : Int → Option (List Int)) (w : World) (h : St w Bs Bm s) (hC : Cont w F Bm n C) (hne : Bs ≠ Bm) (hFs : ¬ F Bs) (hFm : ¬ F Bm) (hFn : ∀ k, w.heap.size ≤ k → F k) (hn : n < maxLen) (ha : okI at_)
    (hr0 : ∀ W, Fr (fun b => b = Bs ∨ b = Bm) w W → Kd.C (Kd.int .u8) W A0 l0.length l0) (hc0 : l0.length ≤ c0) (hl : l0.length ≤ 1000) :
    Calls Tryd.prog 14 #[.pointer (some ⟨Bs, 0, none⟩), .int .i64 at_, .slice A0 l0.length c0] w fun e w' => ∃ v, e = .returned v ∧ IsErr? w' (wrS s at_ l0.length).1 v ∧ St w' Bs Bm (wrS s at_ l0.length).2.1 ∧ Cont w' F Bm (n + 1) (if (wrS s at_ l0.length).2.2 = true then updC C at_ l0 else C) ∧ Fr (fun b => b = Bs ∨ b = Bm) w w' ∧ ErrNew w.heap.size v := by
  unfold wrS
  by_cases hm : met s at_ l0.length ≠ 2
  · rw [if_pos hm]
    refine (write_bad at_ A0 c0 l0 s Bs Bm w h hm).mono ?_
    rintro e w' ⟨v, rfl, hE, hb, hN⟩
    have f := Fr.of_below (S := fun _ => False) hb
    exact ⟨v, rfl, hE, h.kept f (fun h => h.elim), (hC.kept0 f).more' (Nat.le_succ n), f.mono (fun _ h => h.elim), hN⟩
  · have hm2 : met s at_ l0.length = 2 := Classical.not_not.1 hm
    rw [if_neg hm]
    by_cases harm : 0 < s.armed
    · rw [if_pos harm]
      by_cases hz : wrap64 (s.armed - 1) = 0
      · rw [if_pos hz]
        refine (write_cut at_ A0 c0 l0 s F Bs Bm n C w h hC hne hFs hFm hFn hn ha hr0 hc0 hl hm2 harm hz).mono ?_
        rintro e w' ⟨v, rfl, hE, hS, hC', f, hN⟩
        exact ⟨v, rfl, hE, hS, hC'.more' (Nat.le_succ n), f, hN⟩
      · rw [if_neg hz]
        refine (write_dec at_ A0 c0 l0 s F Bs Bm n C w h hC hne hFs hFm hFn hn ha hr0 hc0 hl hm2 harm hz).mono ?_
        rintro e w' ⟨rfl, hS, hC', f⟩
        exact ⟨.nilIface, rfl, rfl, hS, hC', f, ErrNew.nil⟩
    · rw [if_neg harm]
      refine (write_plain at_ A0 c0 l0 s F Bs Bm n C w h hC hne hFs hFm hFn hn ha hr0 hc0 hl hm2 (by omega)).mono ?_
      rintro e w' ⟨rfl, hS, hC', f⟩
      exact ⟨.nilIface, rfl, rfl, hS, hC', f, ErrNew.nil⟩
/-- What a read answers: the bytes, whether there are some, the error. -/
def rdS (s : Dk) (C : Int → Option (List Int)) (at_ : Int) : List Int × Bool × Option Er := if met s at_ 0 ≠ 2 then ([], false, refE (met s at_ 0) at_) else ((C at_).getD [], (C at_).isSome, none)
theorem read_calls (at_ : Int) (s : Dk) (F : Nat → Prop) (Bs Bm n : Nat) (C : Int → Option (List Int)) (w : World) (h : St w Bs Bm s) (hC : Cont w F Bm n C) (ha : okI at_) (hl : ∀ xs, C at_ = some xs → xs.length ≤ 1000) :
    Calls Tryd.prog 18 #[.pointer (some ⟨Bs, 0, none⟩), .int .i64 at_] w fun e w' => ∃ v ev, e = .returned (.tuple #[v, .bool (rdS s C at_).2.1, ev]) ∧ Kd.R (Kd.int .u8) 5 w' w.heap.size (fun _ => True) v (rdS s C at_).1 ∧ IsErr? w' (rdS s C at_).2.2 ev ∧ Below w.heap.size w w' ∧ ErrNew w.heap.size ev := by
  unfold rdS
  by_cases hm : met s at_ 0 ≠ 2
  · rw [if_pos hm]
    refine (read_bad at_ s Bs Bm w h hm).mono ?_
    rintro e w' ⟨v, rfl, hE, hb, hN⟩
    exact ⟨_, v, rfl, Kd.R_nil _ _ _ _ _, hE, hb, hN⟩
  · rw [if_neg hm]
    refine (read_ok at_ s F Bs Bm n C w h hC ha hl (Classical.not_not.1 hm)).mono ?_
    rintro e w' ⟨v, rfl, hR, hb⟩
    exact ⟨v, .nilIface, rfl, hR, rfl, hb, ErrNew.nil⟩
end Go.Proofs.YtemnnnjlllgeeaaDoor.PDsk.K
