/- Proved: a disk as one thing (cells and blocks), its calls in that form, and what other calls leave of it; condition: numbers that fit. -/
import Derived.Test.YtemnnnjlllgeeaaDoorDskX
namespace Go.Proofs.YtemnnnjlllgeeaaDoor.PDsk.K
open Go.RowKit Go.Proofs.YtemnnnjlllgeeaaDoorW.PrintWords Go.Proofs.YtemnnnjlllgeeaaDoorW.PrintLast Go.Proofs.YtemnnnjlllgeeaaDoorW.PrintMore Go.Proofs.YtemnnnjlllgeeaaDoor.Err Go.Maps
set_option linter.unusedVariables false
set_option linter.unusedSimpArgs false

/-- A block that holds no byte. -/
def NoB (w : World) (b : Nat) : Prop := (∀ cells, w.heap[b]? ≠ some (.cells cells 5 (0, 0))) ∧ ∀ o s x, w.cell? ⟨b, o, s⟩ ≠ some (.int .u8 x)
theorem disk_noB {w : World} {F : Nat → Prop} {Bs Bm n : Nat} {s : Dk} {C : Int → Option (List Int)} (h : St w Bs Bm s) (hC : Cont w F Bm n C) : ∀ b, b = Bs ∨ b = Bm → NoB w b := by
  intro b hb
  rcases hb with rfl | rfl
  · unfold St at h
    refine ⟨fun cells e => ?_, fun o sp x e => ?_⟩
    · rw [h] at e; injection e with e; injection e with _ e; exact absurd e (by decide)
    · simp only [World.cell?, h] at e
      split at e
      · cases e
      · rcases o with _ | _ | _ | _ | _ | _ | o <;> simp at e
  · obtain ⟨D, ⟨es, clock, hb, _⟩, _⟩ := hC.map
    refine ⟨fun cells e => ?_, fun o sp x e => ?_⟩
    · rw [hb] at e; injection e with e; cases e
    · simp [World.cell?, hb] at e
theorem Rw.far {w w' : World} {F : Nat → Prop} {v : Value} {xs : List Int} {S : Nat → Prop} (h : Rw w F v xs) (hf : Fr S w w') (hS : ∀ b, S b → F b → NoB w b) : Rw w' F v xs :=
  Kd.R_mono (Kd.R_move (Kd.R_bound h) (fun k hk => hf.block k hk.2.2.1 (fun hs => by
    obtain ⟨hF, _, _, q, hq, cells, hc⟩ := hk
    obtain rfl : q = 5 := by simpa [Kd.int, Kd.scalar] using hq
    exact (hS k hs hF).1 cells hc))) (fun _ hk => hk.1)
/-- Bytes that are read stay, whatever blocks without bytes are turned. -/
theorem C_fr {w W : World} {A : Option Addr} {n : Nat} {l : List Int} {S : Nat → Prop} (h : (Kd.int .u8).C w A n l) (hf : Fr S w W) (hS : ∀ b, S b → NoB w b) : (Kd.int .u8).C W A n l := by
  obtain ⟨h1, h2, h3⟩ := h
  refine ⟨h1, h2, fun hn => ?_⟩
  obtain ⟨ad, e, hc⟩ := h3 hn
  refine ⟨ad, e, fun j p hj => ?_⟩
  obtain ⟨c, k1, k2, k3⟩ := hc j p hj
  refine ⟨c, k1, k2, fun i u hu => ?_⟩
  have hcell := k3 i u hu
  have hu' : u = .int .u8 p := by
    have k2' : c = [Value.int .u8 p] := k2
    subst k2'
    rcases i with _ | i
    · simp at hu; exact hu.symm
    · simp at hu
  subst hu'
  obtain ⟨q, hq⟩ : ∃ q, ad.add (j * (Kd.int .u8).sz + i) = q := ⟨_, rfl⟩
  rw [hq] at hcell ⊢
  have hlt : q.block < w.heap.size := by
    by_cases h : q.block < w.heap.size
    · exact h
    · simp [World.cell?, Array.getElem?_eq_none (Nat.le_of_not_lt h)] at hcell
  have hns : ¬ S q.block := fun hs => (hS _ hs).2 q.off q.spot p hcell
  have := hf.block q.block hlt hns
  simp only [World.cell?] at hcell ⊢
  rw [this]; exact hcell

theorem Cont.far {w w' : World} {F : Nat → Prop} {Bm n : Nat} {C : Int → Option (List Int)} {S : Nat → Prop} (h : Cont w F Bm n C) (hf : Fr S w w') (hm : ¬ S Bm) (hS : ∀ b, S b → F b → NoB w b) : Cont w' F Bm n C := by
  obtain ⟨D, hM, hk⟩ := h.map
  refine ⟨D, hM.kept hf hm, fun k hok => ?_⟩
  have := hk k hok
  cases hc : C k with
  | none => rw [hc] at this; exact this
  | some xs =>
    rw [hc] at this
    obtain ⟨h1, v, h2, h3⟩ := this
    exact ⟨h1, v, h2, Rw.far h3 hf hS⟩
/-- A disk: its cells, its blocks; its rows are among F. -/
structure Dx (w : World) (F : Nat → Prop) (a1 a2 : Nat) (s : Dk) (n : Nat) (C : Int → Option (List Int)) : Prop where
  st : St w a1 a2 s
  cont : Cont w F a2 n C
  ne : a1 ≠ a2
  n1 : ¬ F a1
  n2 : ¬ F a2
section
variable {w w' : World} {F : Nat → Prop} {a1 a2 n : Nat} {s : Dk} {C : Int → Option (List Int)} {S : Nat → Prop}
theorem Dx.kept (h : Dx w F a1 a2 s n C) (hf : Fr S w w') (h1 : ¬ S a1) (h2 : ¬ S a2) (hS : ∀ b, S b → F b → NoB w b) : Dx w' F a1 a2 s n C := ⟨h.st.kept hf h1, h.cont.far hf h2 hS, h.ne, h.n1, h.n2⟩
theorem Dx.kept0 (h : Dx w F a1 a2 s n C) (hf : Fr (fun _ => False) w w') : Dx w' F a1 a2 s n C := h.kept hf (fun h => h) (fun h => h) (fun _ h => h.elim)
theorem Dx.below (h : Dx w F a1 a2 s n C) (hb : Below w.heap.size w w') : Dx w' F a1 a2 s n C := h.kept0 (Fr.of_below hb)
theorem Dx.more {m : Nat} (h : Dx w F a1 a2 s n C) (hm : n ≤ m) : Dx w F a1 a2 s m C := ⟨h.st, h.cont.more' hm, h.ne, h.n1, h.n2⟩
theorem Dx.noB (h : Dx w F a1 a2 s n C) : ∀ b, b = a1 ∨ b = a2 → NoB w b := disk_noB h.st h.cont
theorem Dx.lt (h : Dx w F a1 a2 s n C) : a1 < w.heap.size ∧ a2 < w.heap.size := ⟨St.lt h.st, h.cont.lt⟩
theorem Dx.ext {s' : Dk} {C' : Int → Option (List Int)} (h : Dx w F a1 a2 s n C) (e1 : s = s') (e2 : C = C') : Dx w F a1 a2 s' n C' := by subst e1 e2; exact h
theorem Dx.mono {G : Nat → Prop} (h : Dx w F a1 a2 s n C) (hG : ∀ b, F b → b < w.heap.size → G b) (h1 : ¬ G a1) (h2 : ¬ G a2) : Dx w G a1 a2 s n C := ⟨h.st, h.cont.mono hG, h.ne, h1, h2⟩
/-- Another disk's call leaves this one. -/
theorem Dx.other {b1 b2 m : Nat} {G : Nat → Prop} {r : Dk} {D : Int → Option (List Int)} (h : Dx w F b1 b2 s n C) (g : Dx w G a1 a2 r m D) (hf : Fr (fun b => b = a1 ∨ b = a2) w w') (h1 : b1 ≠ a1 ∧ b1 ≠ a2) (h2 : b2 ≠ a1 ∧ b2 ≠ a2) : Dx w' F b1 b2 s n C :=
  h.kept hf (fun e => e.elim h1.1 h1.2) (fun e => e.elim h2.1 h2.2) (fun b hb _ => g.noB b hb)
/-- Bytes stay at a disk's call. -/
theorem Dx.bytes {m : Nat} {A : Option Addr} {l : List Int} (g : Dx w F a1 a2 s n C) (hf : Fr (fun b => b = a1 ∨ b = a2) w w') (h : (Kd.int .u8).C w A m l) : (Kd.int .u8).C w' A m l := C_fr h hf g.noB
end
theorem new_dx (room : Int) (w : World) (h0 : 1 ≤ room) (h1 : room ≤ 65536) : Calls Tryd.prog 13 #[.int .i64 room] w fun e w' => ∃ a1 a2, e = .returned (.tuple #[.pointer (some ⟨a1, 0, none⟩), .nilIface]) ∧ Dx w' (fun b => b ≠ a1 ∧ b ≠ a2) a1 a2 ⟨room, false, 0, 0, 0⟩ 0 (fun _ => none) ∧ (w.heap.size ≤ a1 ∧ w.heap.size ≤ a2) ∧ Below w.heap.size w w' := by
  refine (new_ok room (fun _ => True) w h0 h1).mono ?_
  rintro e w' ⟨a1, a2, rfl, u1, u2, hne, hS, hC, hb⟩
  refine ⟨a1, a2, rfl, ⟨hS, ?_, hne, fun h => h.1 rfl, fun h => h.2 rfl⟩, ⟨u1, u2⟩, hb⟩
  obtain ⟨D, hM, hk⟩ := hC.map
  exact ⟨D, hM, fun k hok => hk k hok⟩
section
variable {w : World} {F : Nat → Prop} {a1 a2 n : Nat} {s : Dk} {C : Int → Option (List Int)}
theorem arm_dx (h : Dx w F a1 a2 s n C) (k : Int) : Calls Tryd.prog 15 #[.pointer (some ⟨a1, 0, none⟩), .int .i64 k] w fun e w' => e = .returned (.tuple #[]) ∧ Dx w' F a1 a2 (armS s k) n C ∧ Fr (fun b => b = a1 ∨ b = a2) w w' := by
  obtain ⟨hs, hc, hne, g1, g2⟩ := h
  refine (arm_calls s k a1 a2 w hs).mono ?_
  rintro e w' ⟨rfl, hS, f⟩
  exact ⟨rfl, ⟨hS, hc.keptS f hne g1, hne, g1, g2⟩, f.mono (fun _ h => Or.inl h)⟩
theorem cut_dx (h : Dx w F a1 a2 s n C) : Calls Tryd.prog 16 #[.pointer (some ⟨a1, 0, none⟩)] w fun e w' => e = .returned (.tuple #[]) ∧ Dx w' F a1 a2 (cutS s) n C ∧ Fr (fun b => b = a1 ∨ b = a2) w w' := by
  obtain ⟨hs, hc, hne, g1, g2⟩ := h
  refine (cut_calls s a1 a2 w hs).mono ?_
  rintro e w' ⟨rfl, hS, f⟩
  exact ⟨rfl, ⟨hS, hc.keptS f hne g1, hne, g1, g2⟩, f.mono (fun _ h => Or.inl h)⟩
theorem restart_dx (h : Dx w F a1 a2 s n C) : Calls Tryd.prog 17 #[.pointer (some ⟨a1, 0, none⟩)] w fun e w' => e = .returned (.tuple #[]) ∧ Dx w' F a1 a2 (restartS s) n C ∧ Fr (fun b => b = a1 ∨ b = a2) w w' := by
  obtain ⟨hs, hc, hne, g1, g2⟩ := h
  refine (restart_calls s a1 a2 w hs).mono ?_
  rintro e w' ⟨rfl, hS, f⟩
  exact ⟨rfl, ⟨hS, hc.keptS f hne g1, hne, g1, g2⟩, f.mono (fun _ h => Or.inl h)⟩
theorem down_dx (h : Dx w F a1 a2 s n C) : Calls Tryd.prog 21 #[.pointer (some ⟨a1, 0, none⟩)] w fun e w' => e = .returned (.bool s.down) ∧ w = w' := by
  obtain ⟨hs, _⟩ := h
  exact down_calls s a1 a2 w hs
theorem room_dx (h : Dx w F a1 a2 s n C) : Calls Tryd.prog 32 #[.pointer (some ⟨a1, 0, none⟩)] w fun e w' => e = .returned (.int .i64 s.room) ∧ w = w' := by
  obtain ⟨hs, _⟩ := h
  exact room_calls s a1 a2 w hs
theorem writes_dx (h : Dx w F a1 a2 s n C) : Calls Tryd.prog 20 #[.pointer (some ⟨a1, 0, none⟩)] w fun e w' => e = .returned (.int .i64 s.writes) ∧ w = w' := by
  obtain ⟨hs, _⟩ := h
  exact writes_calls s a1 a2 w hs
theorem life_dx (h : Dx w F a1 a2 s n C) : Calls Tryd.prog 22 #[.pointer (some ⟨a1, 0, none⟩)] w fun e w' => e = .returned (.int .i64 s.life) ∧ w = w' := by
  obtain ⟨hs, _⟩ := h
  exact life_calls s a1 a2 w hs
theorem write_dx (h : Dx w F a1 a2 s n C) (at_ : Int) (A : Option Addr) (c m : Nat) (l : List Int) (hFn : ∀ k, w.heap.size ≤ k → F k) (hn : n < maxLen) (ha : okI at_) (hm : l.length = m) (hl : (Kd.int .u8).C w A m l) (hc : m ≤ c) (hm1 : m ≤ 1000) :
    Calls Tryd.prog 14 #[.pointer (some ⟨a1, 0, none⟩), .int .i64 at_, .slice A m c] w fun e w' => ∃ v, e = .returned v ∧ IsErr? w' (wrS s at_ m).1 v ∧ Dx w' F a1 a2 (wrS s at_ m).2.1 (n + 1) (if (wrS s at_ m).2.2 = true then updC C at_ l else C) ∧ Fr (fun b => b = a1 ∨ b = a2) w w' ∧ ErrNew w.heap.size v := by
  subst hm
  have hq := h.noB
  obtain ⟨hs, hC, hne, g1, g2⟩ := h
  refine (write_calls at_ A c l s F a1 a2 n C w hs hC hne g1 g2 hFn hn ha (fun W hf => C_fr hl hf hq) hc hm1).mono ?_
  rintro e w' ⟨v, rfl, hE, hS, hC', f, hN⟩
  exact ⟨v, rfl, hE, ⟨hS, hC', hne, g1, g2⟩, f, hN⟩
theorem read_dx (h : Dx w F a1 a2 s n C) (at_ : Int) (ha : okI at_) (hl : ∀ xs, C at_ = some xs → xs.length ≤ 1000) :
    Calls Tryd.prog 18 #[.pointer (some ⟨a1, 0, none⟩), .int .i64 at_] w fun e w' => ∃ v ev, e = .returned (.tuple #[v, .bool (rdS s C at_).2.1, ev]) ∧ Kd.R (Kd.int .u8) 5 w' w.heap.size (fun _ => True) v (rdS s C at_).1 ∧ IsErr? w' (rdS s C at_).2.2 ev ∧ Below w.heap.size w w' ∧ ErrNew w.heap.size ev := by
  obtain ⟨hs, hC, hne, g1, g2⟩ := h
  exact read_calls at_ s F a1 a2 n C w hs hC ha hl
end
/-! ### what a write does -/
theorem wrS_cases (s : Dk) (a n : Int) : ((wrS s a n).1 = none ∧ (wrS s a n).2.2 = true ∧ (0 ≤ a ∧ a < s.room ∧ n ≤ 64) ∧ (wrS s a n).2.1.writes = wrap64 (s.writes + 1) ∧ (wrS s a n).2.1.room = s.room ∧ s.down = false) ∨
    ((∃ x, (wrS s a n).1 = some x) ∧ (wrS s a n).2.2 = false ∧ (wrS s a n).2.1.writes = s.writes ∧ (wrS s a n).2.1.room = s.room) := by
  unfold wrS
  by_cases hm : met s a n ≠ 2
  · rw [if_pos hm]
    right
    refine ⟨?_, rfl, rfl, rfl⟩
    rcases met_cases s a n with h | h | h
    · exact ⟨_, by unfold refE; rw [h]; rfl⟩
    · exact ⟨_, by unfold refE; rw [h]; rfl⟩
    · exact absurd h hm
  · rw [if_neg hm]
    have hm2 : met s a n = 2 := Classical.not_not.1 hm
    have hb : s.down = false ∧ 0 ≤ a ∧ a < s.room ∧ n ≤ 64 := by
      unfold met at hm2
      by_cases hd : s.down = true
      · rw [if_pos hd] at hm2; exact absurd hm2 (by decide)
      · rw [if_neg hd] at hm2
        by_cases hx : a < 0 ∨ s.room ≤ a ∨ 64 < n
        · rw [if_pos hx] at hm2; exact absurd hm2 (by decide)
        · exact ⟨by simpa using hd, by omega, by omega, by omega⟩
    by_cases harm : 0 < s.armed
    · rw [if_pos harm]
      by_cases hz : wrap64 (s.armed - 1) = 0
      · rw [if_pos hz]; right; exact ⟨⟨_, rfl⟩, rfl, rfl, rfl⟩
      · rw [if_neg hz]; left; exact ⟨rfl, rfl, hb.2, rfl, rfl, hb.1⟩
    · rw [if_neg harm]; left; exact ⟨rfl, rfl, hb.2, rfl, rfl, hb.1⟩
theorem strOf_bytesOf (t : ByteArray) : strOfNums (bytesOf t) = t := by
  unfold strOfNums bytesOf
  have : (t.data.toList.map fun b => (b.toNat : Int)).map (fun n => UInt8.ofNat n.toNat) = t.data.toList := by
    rw [List.map_map]
    conv => rhs; rw [← List.map_id t.data.toList]
    apply List.map_congr_left
    intro b _
    simp
  rw [this]
end Go.Proofs.YtemnnnjlllgeeaaDoor.PDsk.K
