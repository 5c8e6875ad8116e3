/- Proved: the contracts of a log (Blocks, head, block, Open, Append, Len, Left, Gone) and what it finds on blocks; condition: bytes, numbers that fit. -/
import Derived.Test.YtlhjjjpldmekdaaDoorZw
import Derived.Test.YtlhjjjpldmekdaaDoorRefK
import Derived.Test.YtlhjjjpldmekdaaDoorAsF
import Derived.Deep.DeepCutAuto
import Derived.Deep.CutRange
namespace Go.Proofs.YtlhjjjpldmekdaaDoor.PLog
open Go.RowKit Go.Proofs.YtlhjjjpldmekdaaDoorW.PrintWords Go.Proofs.YtlhjjjpldmekdaaDoorW.PrintLast Go.Proofs.YtlhjjjpldmekdaaDoorW.PrintMore Go.Proofs.YtlhjjjpldmekdaaDoor.PFn
set_option linter.unusedVariables false
set_option linter.unusedSimpArgs false

/-- A block's head: the record's number, the place, whether it is the last. -/
def hd3 (r k c : Int) : List Int := encI r ++ (encI k ++ encI c)
/-- How many blocks so many bytes need. -/
def nB (n : Nat) : Nat := max 1 (n / 56 + min (n % 56) 1)
theorem nB_pos (n : Nat) : 1 ≤ nB n := by unfold nB; omega
/-- What the k-th block bears. -/
def part (b : List Int) (k : Nat) : List Int := (b.drop (56 * k)).take 56
def lastI (b : List Int) (k : Nat) : Int := if k + 1 = nB b.length then 1 else 0
/-- The k-th block of record number r. -/
def blkL (r : Int) (b : List Int) (k : Nat) : List Int := hd3 r k (lastI b k) ++ part b k
theorem part_len (b : List Int) (k : Nat) : (part b k).length = min 56 (b.length - 56 * k) := by unfold part; simp
theorem part_mid (b : List Int) (k : Nat) (hk : k + 1 < nB b.length) : (part b k).length = 56 := by
  rw [part_len]; unfold nB at hk; omega
theorem part_end (b : List Int) (k : Nat) (hk : k + 1 = nB b.length) : (part b k).length ≤ 56 ∧ (0 < (part b k).length ∨ k = 0) ∧ b.length ≤ 56 * (k + 1) := by
  rw [part_len]; unfold nB at hk; omega
theorem hd3_len (r k c : Int) : 3 ≤ (hd3 r k c).length ∧ (hd3 r k c).length ≤ 30 := by
  have h1 := encI_len r; have h2 := encI_len k; have h3 := encI_len c
  unfold hd3; simp only [List.length_append]; omega
theorem blkL_len (r : Int) (b : List Int) (k : Nat) : (blkL r b k).length ≤ 86 := by
  have := hd3_len r k (lastI b k)
  unfold blkL; rw [List.length_append, part_len]; omega
/-- A block as it is read: what it bears, whether it is the last; none: it is no block number k of record r. -/
def parse (raw : List Int) (r k : Int) : Option (List Int × Bool) :=
  if (readI raw 0).2.2 ≠ 0 then none
  else if (readI raw (readI raw 0).2.1).2.2 ≠ 0 then none
  else if (readI raw (readI raw (readI raw 0).2.1).2.1).2.2 ≠ 0 then none
  else if (readI raw 0).1 = r ∧ (readI raw (readI raw 0).2.1).1 = k ∧
      ((readI raw (readI raw (readI raw 0).2.1).2.1).1 = 0 ∧ (raw.drop (readI raw (readI raw (readI raw 0).2.1).2.1).2.1.toNat).length = 56 ∨
       (readI raw (readI raw (readI raw 0).2.1).2.1).1 = 1 ∧ ((raw.drop (readI raw (readI raw (readI raw 0).2.1).2.1).2.1.toNat).length ≤ 56 ∧ (0 < (raw.drop (readI raw (readI raw (readI raw 0).2.1).2.1).2.1.toNat).length ∨ k = 0)))
    then some (raw.drop (readI raw (readI raw (readI raw 0).2.1).2.1).2.1.toNat, decide ((readI raw (readI raw (readI raw 0).2.1).2.1).1 = 1))
  else none
theorem read_hd3 (r k c : Int) (Y : List Int) (hr : okI r) (hk : okI k) (hc : okI c) :
    readI (hd3 r k c ++ Y) 0 = (r, (((encI r).length : Nat) : Int), 0) ∧
    readI (hd3 r k c ++ Y) (((encI r).length : Nat) : Int) = (k, (((encI r).length + (encI k).length : Nat) : Int), 0) ∧
    readI (hd3 r k c ++ Y) (((encI r).length + (encI k).length : Nat) : Int) = (c, (((hd3 r k c).length : Nat) : Int), 0) := by
  have e1 : hd3 r k c ++ Y = [] ++ (encI r ++ (encI k ++ (encI c ++ Y))) := by unfold hd3; simp
  have e2 : hd3 r k c ++ Y = encI r ++ (encI k ++ (encI c ++ Y)) := by unfold hd3; simp
  have e3 : hd3 r k c ++ Y = (encI r ++ encI k) ++ (encI c ++ Y) := by unfold hd3; simp
  refine ⟨?_, ?_, ?_⟩
  · rw [e1]
    have := readI_enc [] (encI k ++ (encI c ++ Y)) r hr
    simpa using this
  · rw [e2]
    exact readI_enc (encI r) (encI c ++ Y) k hk
  · rw [e3]
    have := readI_enc (encI r ++ encI k) Y c hc
    rw [show (hd3 r k c).length = (encI r ++ encI k).length + (encI c).length from by unfold hd3; simp; omega]
    simpa using this
/-- What a head says is what is read. -/
theorem parse_hd3 (r k c : Int) (Y : List Int) (hr : okI r) (hk : okI k) (hc : okI c) (r' k' : Int) :
    parse (hd3 r k c ++ Y) r' k' = if r = r' ∧ k = k' ∧ (c = 0 ∧ Y.length = 56 ∨ c = 1 ∧ (Y.length ≤ 56 ∧ (0 < Y.length ∨ k' = 0))) then some (Y, decide (c = 1)) else none := by
  obtain ⟨h1, h2, h3⟩ := read_hd3 r k c Y hr hk hc
  unfold parse
  simp only [h1, h2, h3, ne_eq, not_true_eq_false, if_false, Int.toNat_natCast, List.drop_left]
theorem ok01 : okI 0 ∧ okI 1 := by unfold okI; omega
theorem ok_last (b : List Int) (k : Nat) : okI (lastI b k) := by unfold lastI; split; exact ok01.2; exact ok01.1
theorem parse_blk (r : Int) (b : List Int) (k : Nat) (hr : okI r) (hk : okI k) (hn : k < nB b.length) : parse (blkL r b k) r k = some (part b k, decide (k + 1 = nB b.length)) := by
  unfold blkL
  rw [parse_hd3 r k _ _ hr hk (ok_last b k)]
  by_cases h : k + 1 = nB b.length
  · have := part_end b k h
    rw [if_pos ⟨rfl, rfl, Or.inr ⟨by unfold lastI; rw [if_pos h], this.1, by rcases this.2.1 with h | h; exact Or.inl h; exact Or.inr (by omega)⟩⟩]
    unfold lastI; rw [if_pos h, decide_eq_true h]; rfl
  · have := part_mid b k (by omega)
    rw [if_pos ⟨rfl, rfl, Or.inl ⟨by unfold lastI; rw [if_neg h], this⟩⟩]
    unfold lastI; rw [if_neg h, decide_eq_false h]; rfl
/-- From a block on: what is found. -/
def openGo (C : Int → Option (List Int)) : Nat → Nat → List (List Int) → List Int → Nat → Nat → List (List Int) × Nat
  | 0, _, out, _, _, next => (out, next)
  | d + 1, p, out, rec, k, next => match C (p : Int) with
    | none => (out, next)
    | some raw => match parse raw ((out.length : Int) + 1) (k : Int) with
      | none => (out, next)
      | some (data, last) => if last = true then openGo C d (p + 1) (out ++ [rec ++ data]) [] 0 (p + 1) else openGo C d (p + 1) out (rec ++ data) (k + 1) next
theorem openGo_succ (C : Int → Option (List Int)) (d p : Nat) (out : List (List Int)) (rec : List Int) (k next : Nat) : openGo C (d + 1) p out rec k next = match C (p : Int) with
    | none => (out, next)
    | some raw => match parse raw ((out.length : Int) + 1) (k : Int) with
      | none => (out, next)
      | some (data, last) => if last = true then openGo C d (p + 1) (out ++ [rec ++ data]) [] 0 (p + 1) else openGo C d (p + 1) out (rec ++ data) (k + 1) next := rfl
def opened (C : Int → Option (List Int)) (room : Nat) : List (List Int) × Nat := openGo C room 0 [] [] 0 0
/-- How many blocks records need. -/
def need (l : List (List Int)) : Nat := (l.map fun b => nB b.length).sum
theorem need_snoc (l : List (List Int)) (b : List Int) : need (l ++ [b]) = need l + nB b.length := by unfold need; simp
/-- A block that was left behind by a record number at most R that was not laid down whole. -/
def Stale (R : Nat) (raw : List Int) : Prop := ∃ (r k : Nat) (c : Int) (Y : List Int), raw = hd3 r k c ++ Y ∧ r ≤ R ∧ okI r ∧ okI k ∧ okI c ∧ (r = R → c = 0)
theorem Stale.parse {R : Nat} {raw : List Int} (h : Stale R raw) (k : Int) (Y : List Int) : parse raw (R : Int) k ≠ some (Y, true) := by
  obtain ⟨r, k', c, Z, rfl, hr, o1, o2, o3, hc⟩ := h
  rw [parse_hd3 _ _ _ _ o1 o2 o3]
  split
  · rename_i h
    have := hc (by omega)
    subst this
    simp
  · simp
theorem Stale.more {R R' : Nat} {raw : List Int} (h : Stale R raw) (hR : R < R') : Stale R' raw := by
  obtain ⟨r, k', c, Z, e, hr, o1, o2, o3, hc⟩ := h
  exact ⟨r, k', c, Z, e, by omega, o1, o2, o3, fun h => by omega⟩
/-- The blocks of records, the first of which has number r + 1, from block p on. -/
def Laid3 (C : Int → Option (List Int)) : Nat → Nat → List (List Int) → Prop
  | _, _, [] => True
  | r, p, b :: l => (∀ k, k < nB b.length → C ((p + k : Nat) : Int) = some (blkL ((r + 1 : Nat) : Int) b k)) ∧ Laid3 C (r + 1) (p + nB b.length) l
theorem Laid3.snoc {C : Int → Option (List Int)} : ∀ {l : List (List Int)} {r p : Nat} {b : List Int}, Laid3 C r p l → (∀ k, k < nB b.length → C ((p + need l + k : Nat) : Int) = some (blkL ((r + l.length + 1 : Nat) : Int) b k)) → Laid3 C r p (l ++ [b])
  | [], r, p, b, _, h => ⟨fun k hk => by have := h k hk; simpa [need] using this, trivial⟩
  | x :: l, r, p, b, h, h2 => by
    refine ⟨h.1, Laid3.snoc h.2 (fun k hk => ?_)⟩
    have := h2 k hk
    rw [show p + nB x.length + need l + k = p + need (x :: l) + k from by unfold need; simp; omega, show r + 1 + l.length + 1 = r + (x :: l).length + 1 from by simp; omega]
    exact this
theorem Laid3.congr {C D : Int → Option (List Int)} : ∀ {l : List (List Int)} {r p : Nat}, Laid3 C r p l → (∀ j : Nat, p ≤ j → j < p + need l → D (j : Int) = C (j : Int)) → Laid3 D r p l
  | [], _, _, _, _ => trivial
  | x :: l, r, p, h, hD => by
    have e : need (x :: l) = nB x.length + need l := by unfold need; simp
    refine ⟨fun k hk => (hD _ (by omega) (by omega)).trans (h.1 k hk), Laid3.congr h.2 (fun j h1 h2 => hD j (by omega) (by omega))⟩
/-- One record is read. -/
theorem openGo_rec {C : Int → Option (List Int)} {b : List Int} {out : List (List Int)} {p : Nat} (ho : okI ((out.length : Int) + 1)) (hb : nB b.length ≤ 9223372036854775807)
    (hC : ∀ k, k < nB b.length → C ((p + k : Nat) : Int) = some (blkL ((out.length + 1 : Nat) : Int) b k)) (d next : Nat) :
    ∀ (j k : Nat), j + k = nB b.length → 1 ≤ j → openGo C (d + j) (p + k) out (b.take (56 * k)) k next = openGo C d (p + nB b.length) (out ++ [b]) [] 0 (p + nB b.length) := by
  intro j
  induction j with
  | zero => intro k _ h; omega
  | succ j ih =>
    intro k hjk _
    have hk : k < nB b.length := by omega
    have ho' : okI ((out.length + 1 : Nat) : Int) := by
      have e1 : ((out.length + 1 : Nat) : Int) = (out.length : Int) + 1 := by omega
      rw [e1]; exact ho
    have hp := parse_blk ((out.length + 1 : Nat) : Int) b k ho' (by unfold okI; omega) hk
    have et : b.take (56 * k) ++ part b k = b.take (56 * (k + 1)) := by
      unfold part
      rw [show 56 * (k + 1) = 56 * k + 56 from by omega, List.take_add]
    rw [show d + (j + 1) = (d + j) + 1 from by omega]
    rw [openGo_succ C (d + j)]
    rw [hC k hk]
    simp only
    rw [show ((out.length : Int) + 1) = ((out.length + 1 : Nat) : Int) from by omega, hp]
    simp only
    by_cases h : k + 1 = nB b.length
    · rw [decide_eq_true h, if_pos rfl, et]
      have := part_end b k h
      rw [List.take_of_length_le (by omega)]
      obtain rfl : j = 0 := by omega
      rw [show d + 0 = d from rfl, show p + k + 1 = p + nB b.length from by omega]
    · rw [decide_eq_false h, if_neg (by decide), et]
      have := ih (k + 1) (by omega) (by omega)
      rw [show p + k + 1 = p + (k + 1) from by omega]
      exact this
/-- What is left behind is not found. -/
theorem openGo_stale {C : Int → Option (List Int)} {out : List (List Int)} {next : Nat} (d : Nat) : ∀ (p k : Nat) (rec : List Int), (∀ j : Nat, p ≤ j → j < p + d → ∀ raw, C (j : Int) = some raw → ∀ (k : Int) Y, parse raw ((out.length : Int) + 1) k ≠ some (Y, true)) → openGo C d p out rec k next = (out, next) := by
  induction d with
  | zero => intros; rfl
  | succ d ih =>
    intro p k rec h
    unfold openGo
    cases hc : C (p : Int) with
    | none => rfl
    | some raw =>
      simp only
      cases hp : parse raw ((out.length : Int) + 1) (k : Int) with
      | none => rfl
      | some y =>
        obtain ⟨data, last⟩ := y
        cases last with
        | true => exact absurd hp (h p (Nat.le_refl _) (by omega) raw hc _ _)
        | false =>
          simp only [Bool.false_eq_true, if_false]
          exact ih (p + 1) (k + 1) (rec ++ data) (fun j h1 h2 => h j (by omega) (by omega))
/-- All records are read. -/
theorem openGo_all {C : Int → Option (List Int)} {room : Nat} : ∀ (l : List (List Int)) (out : List (List Int)) (p : Nat), out.length + l.length + 1 ≤ 9223372036854775807 → p + need l ≤ room → room ≤ 9223372036854775807 → Laid3 C out.length p l →
    (∀ j : Nat, p + need l ≤ j → j < room → ∀ raw, C (j : Int) = some raw → Stale (out.length + l.length + 1) raw) → openGo C (room - p) p out [] 0 p = (out ++ l, p + need l)
  | [], out, p, h1, h2, h2', h3, h4 => by
    rw [openGo_stale (room - p) p 0 [] (fun j hj1 hj2 raw hr k Y => by
      have := (h4 j (by unfold need; simp; exact hj1) (by omega) raw hr).parse k Y
      rw [show ((out.length : Int) + 1) = ((out.length + ([] : List (List Int)).length + 1 : Nat) : Int) from by simp]
      exact this)]
    simp [need]
  | b :: l, out, p, h1, h2, h2', h3, h4 => by
    have e : need (b :: l) = nB b.length + need l := by unfold need; simp
    have hlen : (b :: l).length = l.length + 1 := by simp
    rw [hlen] at h1
    have hb := nB_pos b.length
    have h := openGo_rec (C := C) (b := b) (out := out) (p := p) (by unfold okI; omega) (by omega) h3.1 (room - p - nB b.length) p (nB b.length) 0 (by omega) (by omega)
    rw [show room - p - nB b.length + nB b.length = room - p from by omega] at h
    simp only [Nat.mul_zero, List.take_zero, Nat.add_zero] at h
    rw [h]
    have h5 := openGo_all l (out ++ [b]) (p + nB b.length) (by simp; omega) (by omega) h2' (by simpa using h3.2) (fun j hj1 hj2 raw hr => by
      have := h4 j (by omega) hj2 raw hr
      rw [show (out ++ [b]).length + l.length + 1 = out.length + (b :: l).length + 1 from by simp; omega]
      exact this)
    rw [show room - (p + nB b.length) = room - p - nB b.length from by omega] at h5
    rw [h5, e]
    simp
    omega
/-- A log's records on blocks: each where it belongs, behind them nothing but what was left behind. -/
structure Log3 (C : Int → Option (List Int)) (room : Nat) (l : List (List Int)) : Prop where
  fits : need l ≤ room ∧ room ≤ 65536 ∧ l.length ≤ 65536
  laid : Laid3 C 0 0 l
  rest : ∀ j : Nat, need l ≤ j → j < room → ∀ raw, C (j : Int) = some raw → Stale (l.length + 1) raw
theorem Log3.opened {C : Int → Option (List Int)} {room : Nat} {l : List (List Int)} (h : Log3 C room l) : opened C room = (l, need l) := by
  have := openGo_all (C := C) (room := room) l [] 0 (by have := h.fits; simp; omega) (by have := h.fits; omega) (by have := h.fits; omega) h.laid (fun j h1 h2 raw hr => by
    have := h.rest j (by omega) h2 raw hr
    simpa using this)
  unfold PLog.opened
  simpa using this
theorem Log3.empty {C : Int → Option (List Int)} {room : Nat} (hr : room ≤ 65536) (h : ∀ k, C k = none) : Log3 C room [] := ⟨by simp [need, hr], trivial, fun j _ _ raw hraw => by rw [h] at hraw; cases hraw⟩
/-- A block of the next record, not the last, is laid down. -/
theorem Log3.put {C : Int → Option (List Int)} {room : Nat} {l : List (List Int)} (h : Log3 C room l) (b : List Int) (k : Nat) (hk : k + 1 < nB b.length) (hkb : k ≤ 65536) : Log3 (fun j => if j = ((need l + k : Nat) : Int) then some (blkL ((l.length + 1 : Nat) : Int) b k) else C j) room l := by
  refine ⟨h.fits, h.laid.congr (fun j h1 h2 => if_neg (by omega)), fun j h1 h2 raw hr => ?_⟩
  by_cases e : (j : Int) = ((need l + k : Nat) : Int)
  · rw [if_pos e] at hr
    obtain rfl := Option.some.inj hr
    have := h.fits
    exact ⟨l.length + 1, k, lastI b k, part b k, rfl, Nat.le_refl _, by unfold okI; omega, by unfold okI; omega, ok_last b k, fun _ => by unfold lastI; rw [if_neg (by omega)]⟩
  · rw [if_neg e] at hr
    exact h.rest j h1 h2 raw hr
/-- The last block of the next record is laid down. -/
theorem Log3.last {C : Int → Option (List Int)} {room : Nat} {l : List (List Int)} (h : Log3 C room l) (b : List Int) (hf : need l + nB b.length ≤ room) (hl : l.length + 1 ≤ 65536) (hC : ∀ k, k < nB b.length → C ((need l + k : Nat) : Int) = some (blkL ((l.length + 1 : Nat) : Int) b k)) (hrest : ∀ j : Nat, need l + nB b.length ≤ j → j < room → ∀ raw, C (j : Int) = some raw → Stale (l.length + 1) raw) : Log3 C room (l ++ [b]) := by
  refine ⟨⟨by rw [need_snoc]; exact hf, h.fits.2.1, by simp; omega⟩, h.laid.snoc (fun k hk => by have := hC k hk; simpa using this), fun j h1 h2 raw hr => ?_⟩
  rw [need_snoc] at h1
  have := hrest j h1 h2 raw hr
  rw [show (l ++ [b]).length + 1 = l.length + 1 + 1 from by simp]
  exact this.more (by omega)
end Go.Proofs.YtlhjjjpldmekdaaDoor.PLog
namespace Go.Proofs.YtlhjjjpldmekdaaDoor.PDsk.K
open Go.RowKit Go.Proofs.YtlhjjjpldmekdaaDoorW.PrintWords Go.Proofs.YtlhjjjpldmekdaaDoorW.PrintLast Go.Proofs.YtlhjjjpldmekdaaDoorW.PrintMore Go.Proofs.YtlhjjjpldmekdaaDoor.Err Go.Maps
attribute [local go_sem] max2_int min2_int max_two min_two max_three min_three max_four min_four
set_option linter.unusedVariables false
set_option linter.unusedSimpArgs false

theorem q_same {P : Program} {f : FuncId} {args : Array Value} {w : World} {n : Nat} {v : Value} (h : Calls P f args (w.drewN n) fun e w' => e = .returned v ∧ w.drewN n = w') : Calls P f args (w.drewN n) fun e w'' => e = .returned v ∧ ∃ m, w'' = w.drewN m :=
  h.mono fun _ _ ⟨he, hm⟩ => ⟨he, n, hm.symm⟩
def logS : ByteArray := ⟨#[108, 111, 103]⟩
theorem lfault (x : Er) (v : Value) (w : World) (hx : IsErr w x v) : Calls Tryd.prog 73 #[v] w fun e w' => ∃ v', e = .returned v' ∧ IsErr w' (.fault logS 0 x) v' ∧ Below w.heap.size w w' ∧ ErrNew w.heap.size v' := by
  have HX := Aside0.mk hx
  obtain ⟨t, u, rfl⟩ := hx.ne_nil
  clear hx
  go_enter Tryd.func73, Tryd.ntmps73
  go_wp2
  go_ret
  exact ⟨_, rfl, ⟨w.heap.size, _, rfl, heap_alloc_new w _, HX.out.below (below_alloc (Below.refl _ _) _) (Nat.le_refl _)⟩, below_alloc (Below.refl _ _) _, fun _ _ h => by cases h; exact Nat.le_refl _⟩
/-- A log's cells: the disk, the life in which it was opened, how many records, the next block. -/
def Lx (w : World) (Bl a1 : Nat) (life recs next : Int) : Prop := w.heap[Bl]? = some (.cells #[.pointer (some ⟨a1, 0, none⟩), .int .i64 life, .int .i64 recs, .int .i64 next] 123 (0, 0))
section
variable {w w' : World} {Bl a1 a2 n : Nat} {life recs next : Int} {F : Nat → Prop} {s : Dk} {C : Int → Option (List Int)}
theorem Lx.facts (h : Lx w Bl a1 life recs next) : w.cell? ⟨Bl, 0, none⟩ = some (.pointer (some ⟨a1, 0, none⟩)) ∧ w.cell? ⟨Bl, 1, none⟩ = some (.int .i64 life) ∧ w.cell? ⟨Bl, 2, none⟩ = some (.int .i64 recs) ∧ w.cell? ⟨Bl, 3, none⟩ = some (.int .i64 next) :=
  ⟨Err.blk_cell h 0 _ rfl, Err.blk_cell h 1 _ rfl, Err.blk_cell h 2 _ rfl, Err.blk_cell h 3 _ rfl⟩
theorem Lx.lt (h : Lx w Bl a1 life recs next) : Bl < w.heap.size := (Array.getElem?_eq_some_iff.1 h).1
theorem Lx.kept {S : Nat → Prop} (h : Lx w Bl a1 life recs next) (hf : Fr S w w') (hS : ¬ S Bl) : Lx w' Bl a1 life recs next := (hf.block Bl h.lt hS).trans h
theorem Lx.below (h : Lx w Bl a1 life recs next) (hb : Below w.heap.size w w') : Lx w' Bl a1 life recs next := (hb.block Bl h.lt).trans h
theorem Lx.noB (h : Lx w Bl a1 life recs next) : NoB w Bl := noB_cells h (by decide) (fun o x e => by rcases o with _ | _ | _ | _ | o <;> simp at e)
theorem Lx.set_recs (h : Lx w Bl a1 life recs next) (x : Int) : Lx (w.setCell ⟨Bl, 2, none⟩ (.int .i64 x)) Bl a1 life x next := by
  unfold Lx at h ⊢; rw [Go.heap_setCell_same _ _ _ _ _ _ h]; simp [Array.setIfInBounds]
theorem Lx.set_next (h : Lx w Bl a1 life recs next) (x : Int) : Lx (w.setCell ⟨Bl, 3, none⟩ (.int .i64 x)) Bl a1 life recs x := by
  unfold Lx at h ⊢; rw [Go.heap_setCell_same _ _ _ _ _ _ h]; simp [Array.setIfInBounds]
/-- The log's own disk has been without power since it was opened. -/
def goneB (s : Dk) (life : Int) : Bool := s.down || s.life != life
set_option maxHeartbeats 8000000 in
theorem gone_calls (h : Lx w Bl a1 life recs next) (hd : Dx w F a1 a2 s n C) : Calls Tryd.prog 79 #[.pointer (some ⟨Bl, 0, none⟩)] w fun e w' => e = .returned (.bool (goneB s life)) ∧ Below w.heap.size w w' := by
  obtain ⟨k0, k1, k2, k3⟩ := h.facts
  have QD := Aside0.mk (fun q => q_same (n := q) (down_dx (hd.below (pw_below_drewN (Below.refl _ _) q))))
  have QL := Aside0.mk (fun q => q_same (n := q) (life_dx (hd.below (pw_below_drewN (Below.refl _ _) q))))
  clear h hd
  unfold goneB
  cases hdn : s.down with
  | true =>
    rw [hdn] at QD
    simp only [Bool.true_or]
    go_enter Tryd.func79, Tryd.ntmps79
    go_wp2_with fail
    go_quiet (first | (go_at_call 39; exact QD.out _) | (go_at_call 74; exact QL.out _))
    go_wp2
    go_ret
    exact ⟨rfl, pw_below_drewN (Below.refl _ _) _⟩
  | false =>
    rw [hdn] at QD
    simp only [Bool.false_or]
    go_enter Tryd.func79, Tryd.ntmps79
    go_wp2_with fail
    go_quiet (first | (go_at_call 39; exact QD.out _) | (go_at_call 74; exact QL.out _))
    go_wp2
    go_ret
    exact ⟨rfl, pw_below_drewN (Below.refl _ _) _⟩
set_option maxHeartbeats 8000000 in
theorem len_calls (h : Lx w Bl a1 life recs next) : Calls Tryd.prog 23 #[.pointer (some ⟨Bl, 0, none⟩)] w fun e w' => e = .returned (.int .i64 recs) ∧ w = w' := by
  obtain ⟨k0, k1, k2, k3⟩ := h.facts
  clear h
  go_enter Tryd.func23, Tryd.ntmps23
  go_wp2
  go_ret
  exact ⟨rfl, rfl⟩
set_option maxHeartbeats 8000000 in
theorem left_calls (h : Lx w Bl a1 life recs next) (hd : Dx w F a1 a2 s n C) : Calls Tryd.prog 24 #[.pointer (some ⟨Bl, 0, none⟩)] w fun e w' => e = .returned (.int .i64 (wrap64 (s.room - next))) ∧ ∃ m, w' = w.drewN m := by
  obtain ⟨k0, k1, k2, k3⟩ := h.facts
  have QR := Aside0.mk (fun q => q_same (n := q) (room_dx (hd.below (pw_below_drewN (Below.refl _ _) q))))
  clear h hd
  go_enter Tryd.func24, Tryd.ntmps24
  go_wp2_with fail
  go_quiet (first | (go_at_call 75; exact QR.out _))
  go_wp2
  go_ret
  exact ⟨rfl, _, rfl⟩
end
end Go.Proofs.YtlhjjjpldmekdaaDoor.PDsk.K
namespace Go.Proofs.YtlhjjjpldmekdaaDoor.PDsk.K
open Go.RowKit Go.Proofs.YtlhjjjpldmekdaaDoorW.PrintWords Go.Proofs.YtlhjjjpldmekdaaDoorW.PrintLast Go.Proofs.YtlhjjjpldmekdaaDoorW.PrintMore Go.Proofs.YtlhjjjpldmekdaaDoor.Err Go.Maps Go.Proofs.YtlhjjjpldmekdaaDoor.PLog
open Go.Proofs.YtlhjjjpldmekdaaDoor.PFn (readI werr readInt_calls readI_back wireS)
attribute [local go_sem] max2_int min2_int max_two min_two max_three min_three max_four min_four
set_option linter.unusedVariables false
set_option linter.unusedSimpArgs false

/-- Where the i-th number begins. -/
def PI (raw : List Int) : Nat → Int
  | 0 => 0
  | i + 1 => (readI raw (PI raw i)).2.1
def NI (raw : List Int) (i : Nat) : Int := (readI raw (PI raw i)).1
def EI (raw : List Int) (i : Nat) : Int := (readI raw (PI raw i)).2.2
theorem parse_no {raw : List Int} {i : Nat} (hi : i < 3) (h : EI raw i ≠ 0) (r k : Int) : parse raw r k = none := by
  unfold parse
  by_cases h0 : (readI raw 0).2.2 ≠ 0
  · rw [if_pos h0]
  · rw [if_neg h0]
    by_cases h1 : (readI raw (readI raw 0).2.1).2.2 ≠ 0
    · rw [if_pos h1]
    · rw [if_neg h1]
      by_cases h2 : (readI raw (readI raw (readI raw 0).2.1).2.1).2.2 ≠ 0
      · rw [if_pos h2]
      · exfalso
        rcases (show i = 0 ∨ i = 1 ∨ i = 2 by omega) with rfl | rfl | rfl
        · exact h (Classical.not_not.1 h0)
        · exact h (Classical.not_not.1 h1)
        · exact h (Classical.not_not.1 h2)
theorem parse_yes {raw : List Int} (h : ∀ i, i < 3 → EI raw i = 0) (r k : Int) : parse raw r k = if NI raw 0 = r ∧ NI raw 1 = k ∧ (NI raw 2 = 0 ∧ (raw.drop (PI raw 3).toNat).length = 56 ∨ NI raw 2 = 1 ∧ ((raw.drop (PI raw 3).toNat).length ≤ 56 ∧ (0 < (raw.drop (PI raw 3).toNat).length ∨ k = 0))) then some (raw.drop (PI raw 3).toNat, decide (NI raw 2 = 1)) else none := by
  have h0 : (readI raw 0).2.2 = 0 := h 0 (by decide)
  have h1 : (readI raw (readI raw 0).2.1).2.2 = 0 := h 1 (by decide)
  have h2 : (readI raw (readI raw (readI raw 0).2.1).2.1).2.2 = 0 := h 2 (by decide)
  unfold parse
  rw [if_neg (by rw [h0]; decide), if_neg (by rw [h1]; decide), if_neg (by rw [h2]; decide)]
  rfl
theorem PI_le {raw : List Int} (hb : ∀ x ∈ raw, 0 ≤ x ∧ x ≤ 255) : ∀ i, (∀ j, j < i → EI raw j = 0) → 0 ≤ PI raw i ∧ PI raw i ≤ raw.length
  | 0, _ => ⟨Int.le_refl 0, by show (0 : Int) ≤ _; omega⟩
  | i + 1, h => by
    have he : readI raw (PI raw i) = (NI raw i, PI raw (i + 1), 0) := by
      have := h i (by omega)
      unfold NI
      rw [← this]; rfl
    have := readI_back hb he
    omega
/-- What block answers of the tests: is it the block that is looked for? -/
def okB (b0 b1 z l full : Bool) : Bool := b0 && b1 && (z || l) && full
def fullB (f l s p q : Bool) : Bool := f || (l && s && (p || q))
/-- What block leaves. -/
def BlkPost (raw : List Int) (r k : Int) (w : World) (e : Ending) (w' : World) : Prop :=
    ∃ (A' : Option Addr) (n c' : Nat) (last ok : Bool), e = .returned (.tuple #[.slice A' n c', .bool last, .bool ok]) ∧ Below w.heap.size w w' ∧
      ((∃ i, i < 3 ∧ EI raw i ≠ 0 ∧ ok = false ∧ A' = none ∧ n = 0 ∧ c' = 0) ∨ ((∀ i, i < 3 → EI raw i = 0) ∧ n = (raw.drop (PI raw 3).toNat).length ∧ n ≤ c' ∧ (Kd.int .u8).C w' A' n (raw.drop (PI raw 3).toNat) ∧ last = (NI raw 2 == 1) ∧
        ok = okB (NI raw 0 == r) (NI raw 1 == k) (NI raw 2 == 0) (NI raw 2 == 1) (fullB ((n : Int) == 56) (NI raw 2 == 1) (decide ((n : Int) < 56)) (decide (0 < (n : Int))) (k == 0))))
set_option maxHeartbeats 16000000 in
set_option maxRecDepth 100000 in
theorem block_calls (A : Option Addr) (c : Nat) (raw : List Int) (r k : Int) (w : World) (hC : (Kd.int .u8).C w A raw.length raw) (hc : raw.length ≤ c) (hl : raw.length ≤ 1000) (hb : ∀ x ∈ raw, 0 ≤ x ∧ x ≤ 255) :
    Calls Tryd.prog 76 #[.slice A raw.length c, .int .i64 r, .int .i64 k] w (BlkPost raw r k w) := by
  have HC := Aside0.mk hC
  have HB := Aside0.mk hb
  clear hC hb
  go_enter Tryd.func76, Tryd.ntmps76
  go_wp2
  have X0 := heap_alloc_new w (Obj.cells #[.int .i64 0, .int .i64 0, .int .i64 0] 158)
  have HX0 : Aside0 (Below w.heap.size w (w.alloc (Obj.cells #[.int .i64 0, .int .i64 0, .int .i64 0] 158))) := ⟨below_alloc (Below.refl _ _) _⟩
  have XX0 := Aside0.mk X0
  clear X0
  go_loopg [9, 16] 3 (fun kq v9 v16 wr => ∃ (i : Nat) (x0 x1 x2 : Int), v16 = .int .i64 (i : Int) ∧ v9 = .int .i64 (PI raw i) ∧ i ≤ 3 ∧ 3 - i ≤ kq ∧ Aside0 (Below w.heap.size w wr ∧ wr.heap[w.heap.size]? = some (.cells #[.int .i64 x0, .int .i64 x1, .int .i64 x2] 158 (0, 0)) ∧ (∀ j, j < i → EI raw j = 0) ∧ (0 < i → x0 = NI raw 0) ∧ (1 < i → x1 = NI raw 1) ∧ (2 < i → x2 = NI raw 2)))
  case atStart => exact ⟨0, 0, 0, 0, rfl, rfl, by omega, by omega, ⟨HX0.out, XX0.out, fun j h => by omega, fun h => by omega, fun h => by omega, fun h => by omega⟩⟩
  case round =>
    obtain ⟨i, x0, x1, x2, rfl, rfl, hi, hk, L⟩ := hrel
    clear HX0 XX0
    by_cases h3 : i < 3
    · have q1 : decide ((i : Int) < 3) = true := decide_eq_true (by omega)
      go_wp2_with fail
      refine (readInt_calls A c raw (PI raw i) wr (Kd.C_below HC.out L.out.1) hc (by omega) HB.out).mono ?_
      rintro e w2 ⟨v, rfl, hE, hb2, hN⟩
      have HE := Aside0.mk hE
      have HB2 := Aside0.mk hb2
      have L2 : Aside0 (w2.heap[w.heap.size]? = _) := ⟨(hb2.block w.heap.size (Array.getElem?_eq_some_iff.1 L.out.2.1).1).trans L.out.2.1⟩
      by_cases he : EI raw i = 0
      · have hv : v = .nilIface := by
          have h9 := hE
          unfold werr at h9
          rw [show (readI raw (PI raw i)).2.2 = 0 from he, if_pos rfl] at h9
          exact h9
        subst hv
        clear hE hb2 hN HE
        rw [show (readI raw (PI raw i)).2.1 = PI raw (i + 1) from rfl, show (readI raw (PI raw i)).1 = NI raw i from rfl]
        have HEI := Aside0.mk he
        clear he
        rcases (show i = 0 ∨ i = 1 ∨ i = 2 by omega) with rfl | rfl | rfl
        · obtain ⟨k0, k1, k2⟩ := (⟨Err.blk_cell L2.out 0 _ rfl, Err.blk_cell L2.out 1 _ rfl, Err.blk_cell L2.out 2 _ rfl⟩ : w2.cell? ⟨w.heap.size, 0, none⟩ = some (.int .i64 x0) ∧ w2.cell? ⟨w.heap.size, 1, none⟩ = some (.int .i64 x1) ∧ w2.cell? ⟨w.heap.size, 2, none⟩ = some (.int .i64 x2))
          have z := blk_frozen L2.out 0
          go_wp2
          go_roundg (gk - 1)
          case measure => omega
          case rel =>
            refine ⟨1, NI raw 0, x1, x2, rfl, rfl, by omega, by omega, ⟨(L.out.1.trans (HB2.out.mono L.out.1.size)).setCell (p := ⟨w.heap.size, 0, none⟩) (Nat.le_refl _) _, ?_, fun j hj => ?_, ?_, ?_, ?_⟩⟩
            · rw [Go.heap_setCell_same _ _ _ _ _ _ L2.out]; simp [Array.setIfInBounds]
            · by_cases e : j = 0
              · subst e; exact HEI.out
              · exact L.out.2.2.1 j (by omega)
            · intro _; rfl
            · intro h; exact absurd h (by omega)
            · intro h; exact absurd h (by omega)
        · obtain ⟨k0, k1, k2⟩ := (⟨Err.blk_cell L2.out 0 _ rfl, Err.blk_cell L2.out 1 _ rfl, Err.blk_cell L2.out 2 _ rfl⟩ : w2.cell? ⟨w.heap.size, 0, none⟩ = some (.int .i64 x0) ∧ w2.cell? ⟨w.heap.size, 1, none⟩ = some (.int .i64 x1) ∧ w2.cell? ⟨w.heap.size, 2, none⟩ = some (.int .i64 x2))
          have z := blk_frozen L2.out 1
          go_wp2
          go_roundg (gk - 1)
          case measure => omega
          case rel =>
            refine ⟨2, x0, NI raw 1, x2, rfl, rfl, by omega, by omega, ⟨(L.out.1.trans (HB2.out.mono L.out.1.size)).setCell (p := ⟨w.heap.size, 1, none⟩) (Nat.le_refl _) _, ?_, fun j hj => ?_, ?_, ?_, ?_⟩⟩
            · rw [Go.heap_setCell_same _ _ _ _ _ _ L2.out]; simp [Array.setIfInBounds]
            · by_cases e : j = 1
              · subst e; exact HEI.out
              · exact L.out.2.2.1 j (by omega)
            · intro _; exact L.out.2.2.2.1 (by omega)
            · intro h; rfl
            · intro h; exact absurd h (by omega)
        · obtain ⟨k0, k1, k2⟩ := (⟨Err.blk_cell L2.out 0 _ rfl, Err.blk_cell L2.out 1 _ rfl, Err.blk_cell L2.out 2 _ rfl⟩ : w2.cell? ⟨w.heap.size, 0, none⟩ = some (.int .i64 x0) ∧ w2.cell? ⟨w.heap.size, 1, none⟩ = some (.int .i64 x1) ∧ w2.cell? ⟨w.heap.size, 2, none⟩ = some (.int .i64 x2))
          have z := blk_frozen L2.out 2
          go_wp2
          go_roundg (gk - 1)
          case measure => omega
          case rel =>
            refine ⟨3, x0, x1, NI raw 2, rfl, rfl, by omega, by omega, ⟨(L.out.1.trans (HB2.out.mono L.out.1.size)).setCell (p := ⟨w.heap.size, 2, none⟩) (Nat.le_refl _) _, ?_, fun j hj => ?_, ?_, ?_, ?_⟩⟩
            · rw [Go.heap_setCell_same _ _ _ _ _ _ L2.out]; simp [Array.setIfInBounds]
            · by_cases e : j = 2
              · subst e; exact HEI.out
              · exact L.out.2.2.1 j (by omega)
            · intro _; exact L.out.2.2.2.1 (by omega)
            · intro h; exact L.out.2.2.2.2.1 (by omega)
            · intro h; rfl
      · have hv : ∃ t u, v = .iface t u := by
          have h9 := hE
          unfold werr at h9
          rw [if_neg (show ¬ (readI raw (PI raw i)).2.2 = 0 from he)] at h9
          exact IsErr.ne_nil h9
        obtain ⟨t, u, rfl⟩ := hv
        clear hE hb2 hN HE
        have HEI := Aside0.mk he
        clear he
        go_wp2
        go_ret3
        exact ⟨none, 0, 0, false, false, rfl, L.out.1.trans (HB2.out.mono L.out.1.size), Or.inl ⟨i, h3, HEI.out, rfl, rfl, rfl, rfl⟩⟩
    · obtain rfl : i = 3 := by omega
      have q1 : decide (((3 : Nat) : Int) < 3) = false := rfl
      have hle := PI_le HB.out 3 L.out.2.2.1
      obtain ⟨k0, k1, k2⟩ := (⟨Err.blk_cell L.out.2.1 0 _ rfl, Err.blk_cell L.out.2.1 1 _ rfl, Err.blk_cell L.out.2.1 2 _ rfl⟩ : wr.cell? ⟨w.heap.size, 0, none⟩ = some (.int .i64 x0) ∧ wr.cell? ⟨w.heap.size, 1, none⟩ = some (.int .i64 x1) ∧ wr.cell? ⟨w.heap.size, 2, none⟩ = some (.int .i64 x2))
      have hx0 := L.out.2.2.2.1 (by decide)
      have hx1 := L.out.2.2.2.2.1 (by decide)
      have hx2 := L.out.2.2.2.2.2 (by decide)
      subst hx0; subst hx1; subst hx2
      have CD : (Kd.int .u8).C wr (if c = (PI raw 3).toNat then A else A.map (fun x => x.add (PI raw 3).toNat)) (raw.length - (PI raw 3).toNat) (raw.drop (PI raw 3).toNat) := by
        have := Kd.C_drop (m := (PI raw 3).toNat) (c := c) (Kd.C_below HC.out L.out.1) (by omega) hc
        rw [List.length_drop] at this
        rw [show ∀ m : Nat, m * (Kd.int IntKind.u8).sz = m from fun m => Nat.mul_one m] at this
        exact this
      have CDD := Aside0.mk CD
      clear CD
      have HN : ∀ N : Nat, ((((N : Int) == 56) = true ∧ decide ((N : Int) < 56) = false ∧ decide (0 < (N : Int)) = true) ∨ (((N : Int) == 56) = false ∧ decide ((N : Int) < 56) = true ∧ decide (0 < (N : Int)) = true) ∨ (((N : Int) == 56) = false ∧ decide ((N : Int) < 56) = true ∧ decide (0 < (N : Int)) = false) ∨ (((N : Int) == 56) = false ∧ decide ((N : Int) < 56) = false ∧ decide (0 < (N : Int)) = true)) := by
        intro N
        simp only [beq_eq_false_iff_ne, beq_iff_eq, decide_eq_true_eq, decide_eq_false_iff_not, ne_eq]
        omega
      have hcut := cut_from (P := Tryd.prog) 30 5 .i64 Tryd.underlying30 (info_parts info8).choose_spec.1 1 (info_parts info8).choose_spec.2.2.1 A raw.length c (PI raw 3) hle.1 hle.2
      rw [Nat.mul_one] at hcut
      obtain ⟨A', hA'⟩ : ∃ A', (if c = (PI raw 3).toNat then A else A.map (fun x => x.add (PI raw 3).toNat)) = A' := ⟨_, rfl⟩
      rw [hA'] at hcut CDD
      clear hA'
      obtain ⟨M, hM⟩ : ∃ M, raw.length - (PI raw 3).toNat = M := ⟨_, rfl⟩
      rw [hM] at hcut CDD
      obtain ⟨P3, hP3⟩ : ∃ x, PI raw 3 = x := ⟨_, rfl⟩
      obtain ⟨c', hc'⟩ : ∃ x, c - (PI raw 3).toNat = x := ⟨_, rfl⟩
      have HCC : Aside0 (M ≤ c') := ⟨by omega⟩
      rw [hc'] at hcut
      rw [hP3] at hcut ⊢
      clear hc' hP3
      have HM := Aside0.mk hM
      clear hM hle
      have HNM := Aside0.mk (HN M)
      clear HN
      obtain ⟨z2, hz2⟩ : ∃ z, (NI raw 2 == 1) = z := ⟨_, rfl⟩
      go_upto_region 13 with fail
      go_cut [15] (fun v15 wc => v15 = .bool (fullB ((M : Int) == 56) z2 (decide ((M : Int) < 56)) (decide (0 < (M : Int))) (k == 0)) ∧ wc = wr)
      case first =>
        by_cases hM0 : M = 0
        · subst hM0
          clear HNM
          rcases z2 with _ | _ <;> rcases fk : (k == 0)
          all_goals go_wp2_with fail
          all_goals go_meet
          all_goals exact ⟨by simp only [fullB, fk]; rfl, rfl⟩
        · have f4 : decide (0 < (M : Int)) = true := decide_eq_true (by omega)
          have f5 : decide (0 < M) = true := decide_eq_true (by omega)
          have f6 : 0 < M := by omega
          rcases f1 : ((M : Int) == 56) <;> rcases f3 : decide ((M : Int) < 56) <;> rcases z2 with _ | _
          all_goals clear HNM hM0
          all_goals go_wp2_with fail
          all_goals go_meet
          all_goals exact ⟨by simp only [fullB, f1, f3, f4]; first | rfl | (cases (k == 0) <;> rfl), rfl⟩
      case rest =>
        obtain ⟨rfl, rfl⟩ := hcut
        obtain ⟨fb, hfb⟩ : ∃ fb, fullB ((M : Int) == 56) z2 (decide ((M : Int) < 56)) (decide (0 < (M : Int))) (k == 0) = fb := ⟨_, rfl⟩
        have HFB := Aside0.mk hfb
        rw [hfb]
        have HZ := Aside0.mk hz2
        clear hfb hz2
        rcases e0 : (NI raw 0 == r) <;> rcases e1 : (NI raw 1 == k) <;> rcases e2 : (NI raw 2 == 0) <;> rcases z2 with _ | _ <;> rcases fb with _ | _
        all_goals go_wp2
        all_goals go_ret3
        all_goals refine ⟨A', M, c', _, _, rfl, L.out.1, Or.inr ⟨L.out.2.2.1, by rw [List.length_drop]; exact HM.out.symm, HCC.out, CDD.out, HZ.out.symm, ?_⟩⟩
        all_goals (rw [HZ.out, HFB.out]; simp only [okB, e0, e1, e2]; rfl)
/-- What block leaves, in short: a block is read as 'parse' says. -/
def BlkP (raw : List Int) (r k : Int) (w : World) (e : Ending) (w' : World) : Prop :=
  ∃ (A' : Option Addr) (c' : Nat) (d : List Int) (last ok : Bool), e = .returned (.tuple #[.slice A' d.length c', .bool last, .bool ok]) ∧ Below w.heap.size w w' ∧ d.length ≤ c' ∧ d.length ≤ raw.length ∧ (Kd.int .u8).C w' A' d.length d ∧
    (ok = true → parse raw r k = some (d, last)) ∧ (ok = false → parse raw r k = none)
theorem beq_eq_decide (a b : Int) : (a == b) = decide (a = b) := by
  by_cases h : a = b
  · subst h; simp
  · simp [h]
theorem okB_iff (a r b k c n : Int) (hn : 0 ≤ n) : okB (a == r) (b == k) (c == 0) (c == 1) (fullB (n == 56) (c == 1) (decide (n < 56)) (decide (0 < n)) (k == 0)) = true ↔ (a = r ∧ b = k ∧ (c = 0 ∧ n = 56 ∨ c = 1 ∧ (n ≤ 56 ∧ (0 < n ∨ k = 0)))) := by
  unfold okB fullB
  simp only [Bool.and_eq_true, Bool.or_eq_true, beq_iff_eq, decide_eq_true_eq]
  omega
theorem block_parse (A : Option Addr) (c : Nat) (raw : List Int) (r k : Int) (w : World) (hC : (Kd.int .u8).C w A raw.length raw) (hc : raw.length ≤ c) (hl : raw.length ≤ 1000) (hb : ∀ x ∈ raw, 0 ≤ x ∧ x ≤ 255) :
    Calls Tryd.prog 76 #[.slice A raw.length c, .int .i64 r, .int .i64 k] w (BlkP raw r k w) := by
  refine (block_calls A c raw r k w hC hc hl hb).mono ?_
  rintro e w' ⟨A', n, c', last, ok, rfl, hB, h⟩
  rcases h with ⟨i, hi, he, rfl, rfl, rfl, rfl⟩ | ⟨he, hn, hnc, hD, hlast, hok⟩
  · exact ⟨none, 0, [], last, false, rfl, hB, Nat.le_refl _, by simp, ⟨rfl, by simp, fun h => absurd h (Nat.lt_irrefl 0)⟩, (fun h => by cases h), fun _ => parse_no hi he r k⟩
  · subst hn
    refine ⟨A', c', raw.drop (PI raw 3).toNat, last, ok, rfl, hB, hnc, by rw [List.length_drop]; omega, hD, fun h => ?_, fun h => ?_⟩
    · rw [h] at hok
      rw [parse_yes he, if_pos ((okB_iff _ _ _ _ _ _ (by omega)).1 hok.symm |> fun q => ⟨q.1, q.2.1, by omega⟩), hlast, beq_eq_decide]
    · rw [h] at hok
      rw [parse_yes he, if_neg]
      intro q
      have := (okB_iff (NI raw 0) r (NI raw 1) k (NI raw 2) (((raw.drop (PI raw 3).toNat).length : Nat) : Int) (by omega)).2 ⟨q.1, q.2.1, by omega⟩
      rw [this] at hok
      cases hok
end Go.Proofs.YtlhjjjpldmekdaaDoor.PDsk.K
namespace Go.Proofs.YtlhjjjpldmekdaaDoor.PDsk.K
open Go.RowKit Go.Proofs.YtlhjjjpldmekdaaDoorW.PrintWords Go.Proofs.YtlhjjjpldmekdaaDoorW.PrintLast Go.Proofs.YtlhjjjpldmekdaaDoorW.PrintMore Go.Proofs.YtlhjjjpldmekdaaDoor.Err Go.Maps Go.Proofs.YtlhjjjpldmekdaaDoor.PLog
attribute [local go_sem] max2_int min2_int max_two min_two max_three min_three max_four min_four
set_option linter.unusedVariables false
set_option linter.unusedSimpArgs false

/-- Rows of rows of bytes. -/
abbrev KB : Kd (List (List Int)) := Kd.slice 30 (Kd.slice 5 (Kd.int .u8))
/-- Records of the call's own. -/
def Rs (w : World) (base : Nat) (ok : Nat → Prop) (v : Value) (xs : List (List Int)) : Prop := (Kd.slice 5 (Kd.int .u8)).R 30 w base ok v xs
/-- Blocks whose bytes are bytes, and few. -/
def okC (C : Int → Option (List Int)) : Prop := ∀ k xs, C k = some xs → xs.length ≤ 64 ∧ ∀ x ∈ xs, 0 ≤ x ∧ x ≤ 255
theorem okC.long {C : Int → Option (List Int)} (h : okC C) (k : Int) : ∀ xs, C k = some xs → xs.length ≤ 1000 := fun xs hx => by have := (h k xs hx).1; omega
theorem okC.none : okC (fun _ => none) := fun _ _ h => by cases h
theorem info30r : (Tryd.prog.info? 30).map (fun i => (i.zero, i.size, i.bytes)) = some (some (.slice none 0 0), 1, 24) := by kernel_rfl
/-- Open's state at a round's head. -/
structure OpI (w wr : World) (Bl a1 : Nat) (life : Int) (vout vrec : Value) (out : List (List Int)) (rec : List Int) (next : Int) : Prop where
  below : Below w.heap.size w wr
  lx : Lx wr Bl a1 life 0 next
  ge : w.heap.size ≤ Bl
  out : Rs wr w.heap.size (fun k => some k ≠ vrec.ownBlock) vout out
  row : (Kd.int .u8).R 5 wr w.heap.size (fun _ => True) vrec rec
section
variable {w wr wr' : World} {Bl a1 : Nat} {life next : Int} {vout vrec : Value} {out : List (List Int)} {rec : List Int}
theorem OpI.step (h : OpI w wr Bl a1 life vout vrec out rec next) (hb : Below wr.heap.size wr wr') : OpI w wr' Bl a1 life vout vrec out rec next :=
  ⟨h.below.trans (hb.mono h.below.size), h.lx.below hb, h.ge, Kd.R_below h.out hb, Kd.R_below h.row hb⟩
theorem OpI.recApp {v1 : Value} {data : List Int} (h : OpI w wr Bl a1 life vout vrec out rec next) (ho : (Kd.int .u8).R 5 wr' w.heap.size (fun _ => True) v1 (rec ++ data)) (hb : Below w.heap.size w wr') (hg : wr.grownBy wr' vrec.ownBlock) (hat : v1.ownBlock = vrec.ownBlock ∨ ∃ b, v1.ownBlock = some b ∧ wr.heap.size ≤ b) : OpI w wr' Bl a1 life vout v1 out (rec ++ data) next := by
  obtain ⟨inner, hown⟩ := Kd.R_own h.row
  refine ⟨hb, (hg.block Bl h.lx.lt (own_ne hown h.lx (show 5 ≠ 123 from by decide))).trans h.lx, h.ge, ?_, ho⟩
  have h1 := Kd.R_grown h.out hg (fun _ hk => hk)
  have h2 := Kd.R_move (w1 := wr') (Kd.R_bound h.out) (fun k hk => hg.block k hk.2.2.1 hk.1)
  refine Kd.R_mono h2 (fun k hk => ?_)
  rcases hat with hat | ⟨b, hb1, hb2⟩
  · rw [hat]; exact hk.1
  · rw [hb1]; intro e; injection e with e; have := hk.2.2.1; omega
theorem OpI.outApp {v1 : Value} (h : OpI w wr Bl a1 life vout vrec out rec next) (ho : Rs wr' w.heap.size (fun _ => True) v1 (out ++ [rec])) (hb : Below w.heap.size w wr') (hg : wr.grownBy wr' vout.ownBlock) : OpI w wr' Bl a1 life v1 (.slice none 0 0) (out ++ [rec]) [] next := by
  obtain ⟨inner, hown⟩ := Kd.R_own h.out
  refine ⟨hb, (hg.block Bl h.lx.lt (own_ne hown h.lx (show 30 ≠ 123 from by decide))).trans h.lx, h.ge, ?_, Kd.R_nil _ _ _ _ _⟩
  exact Kd.R_mono ho (fun k _ => by simp [Value.ownBlock])
theorem OpI.setNext (h : OpI w wr Bl a1 life vout vrec out rec next) (x : Int) : OpI w (wr.setCell ⟨Bl, 3, none⟩ (.int .i64 x)) Bl a1 life vout vrec out rec x :=
  ⟨h.below.setCell (p := ⟨Bl, 3, none⟩) h.ge _, h.lx.set_next x, h.ge, Kd.R_set h.out h.lx (by decide) _ _, Kd.R_set h.row h.lx (by decide) _ _⟩
/-- The record's row is none of a row of records. -/
theorem OpI.recM (h : OpI w wr Bl a1 life vout vrec out rec next) : (Kd.slice 5 (Kd.int .u8)).M wr w.heap.size (fun k => some k ≠ vout.ownBlock) rec [vrec] := by
  obtain ⟨inner, hown⟩ := Kd.R_own h.out
  refine ⟨vrec, rfl, Kd.R_mono (Kd.R_bound h.row) (fun k hk e => ?_)⟩
  obtain ⟨_, _, _, q, hq, cells, hc⟩ := hk
  obtain rfl : q = 5 := by simpa [Kd.int, Kd.scalar] using hq
  obtain ⟨c2, hc2⟩ := own_typed hown k e.symm
  rw [hc] at hc2
  injection hc2 with hc2
  injection hc2 with _ hc2
  exact absurd hc2 (by decide)
end
theorem openGo_none {C : Int → Option (List Int)} {R p k next : Nat} {out : List (List Int)} {row : List Int} (hp : p < R) (h : C (p : Int) = none) : openGo C (R - p) p out row k next = (out, next) := by
  obtain ⟨d, hd⟩ : ∃ d, R - p = d + 1 := ⟨R - p - 1, by omega⟩
  rw [hd, openGo_succ, h]
theorem openGo_no {C : Int → Option (List Int)} {R p k next : Nat} {out : List (List Int)} {row raw : List Int} (hp : p < R) (h : C (p : Int) = some raw) (h2 : parse raw ((out.length : Int) + 1) (k : Int) = none) : openGo C (R - p) p out row k next = (out, next) := by
  obtain ⟨d, hd⟩ : ∃ d, R - p = d + 1 := ⟨R - p - 1, by omega⟩
  rw [hd, openGo_succ, h]
  simp only [h2]
theorem openGo_mid {C : Int → Option (List Int)} {R p k next : Nat} {out : List (List Int)} {row raw d : List Int} (hp : p < R) (h : C (p : Int) = some raw) (h2 : parse raw ((out.length : Int) + 1) (k : Int) = some (d, false)) : openGo C (R - (p + 1)) (p + 1) out (row ++ d) (k + 1) next = openGo C (R - p) p out row k next := by
  rw [show R - p = (R - (p + 1)) + 1 from by omega, openGo_succ, h]
  simp only [h2]
  rfl
theorem openGo_last {C : Int → Option (List Int)} {R p k next : Nat} {out : List (List Int)} {row raw d : List Int} (hp : p < R) (h : C (p : Int) = some raw) (h2 : parse raw ((out.length : Int) + 1) (k : Int) = some (d, true)) : openGo C (R - (p + 1)) (p + 1) (out ++ [row ++ d]) [] 0 (p + 1) = openGo C (R - p) p out row k next := by
  rw [show R - p = (R - (p + 1)) + 1 from by omega, openGo_succ, h]
  simp only [h2]
  rfl
/-- What Open leaves. -/
def OpenP (w : World) (a1 : Nat) (life : Int) (C : Int → Option (List Int)) (room : Nat) (e : Ending) (w' : World) : Prop :=
  ∃ (Bl : Nat) (vout : Value) (out : List (List Int)) (next : Nat), e = .returned (.tuple #[.pointer (some ⟨Bl, 0, none⟩), vout, .nilIface]) ∧ opened C room = (out, next) ∧ Lx w' Bl a1 life out.length (next : Int) ∧ w.heap.size ≤ Bl ∧ Rs w' w.heap.size (fun _ => True) vout out ∧ Below w.heap.size w w'
set_option maxHeartbeats 16000000 in
set_option maxRecDepth 100000 in
theorem open_ok (F : Nat → Prop) (a1 a2 n R : Nat) (s : Dk) (C : Int → Option (List Int)) (w : World) (hd : Dx w F a1 a2 s n C) (hdn : s.down = false) (hR : s.room = (R : Int)) (hR1 : R ≤ 65536) (hC : okC C) :
    Calls Tryd.prog 20 #[.pointer (some ⟨a1, 0, none⟩)] w (OpenP w a1 s.life C R) := by
  have HD := Aside0.mk hd
  have HC := Aside0.mk hC
  have HDN := Aside0.mk hdn
  have HR := Aside0.mk hR
  clear hd hC hdn hR
  go_enter Tryd.func20, Tryd.ntmps20
  go_wp2_with (first
    | (go_at_call 39; refine (down_dx HD.out).mono ?_; rintro e w' ⟨rfl, rfl⟩; rw [HDN.out])
    | (go_at_call 74; refine (life_dx HD.out).mono ?_; rintro e w' ⟨rfl, rfl⟩))
  have X0 := heap_alloc_new w (Obj.cells #[.pointer (some ⟨a1, 0, none⟩), .int .i64 s.life, .int .i64 0, .int .i64 0] 123)
  have P0 : Aside0 (OpI w (w.alloc (Obj.cells #[.pointer (some ⟨a1, 0, none⟩), .int .i64 s.life, .int .i64 0, .int .i64 0] 123)) w.heap.size a1 s.life (.slice none 0 0) (.slice none 0 0) [] [] 0) :=
    ⟨below_alloc (Below.refl _ _) _, X0, Nat.le_refl _, Kd.R_nil _ _ _ _ _, Kd.R_nil _ _ _ _ _⟩
  clear X0
  go_loopg [6, 7, 8, 9] (R + 1) (fun kq v6 v7 v8 v9 wr => ∃ (p k next : Nat) (out : List (List Int)) (rec : List Int) (A6 A7 : Option Addr) (c6 c7 : Nat), v6 = .slice A6 out.length c6 ∧ v7 = .slice A7 rec.length c7 ∧ v8 = .int .i64 (k : Int) ∧ v9 = .int .i64 (p : Int) ∧ p ≤ R ∧ R - p ≤ kq ∧ k ≤ p ∧ out.length ≤ p ∧ rec.length ≤ 64 * p ∧ Aside0 (OpI w wr w.heap.size a1 s.life (.slice A6 out.length c6) (.slice A7 rec.length c7) out rec (next : Int) ∧ openGo C (R - p) p out rec k next = opened C R))
  case atStart => exact ⟨0, 0, 0, [], [], none, none, 0, 0, rfl, rfl, rfl, rfl, by omega, by omega, by omega, by simp, by simp, ⟨P0.out, rfl⟩⟩
  case round =>
    obtain ⟨p, k, next, out, rec, A6, A7, c6, c7, rfl, rfl, rfl, rfl, hp, hk, hkp, hout, hrec, K⟩ := hrel
    clear P0
    by_cases hlt : p < R
    · have q1 : decide ((p : Int) < (R : Int)) = true := decide_eq_true (by omega)
      go_wp2_with fail
      refine (room_dx (HD.out.below K.out.1.below)).mono ?_
      rintro e w2 ⟨rfl, rfl⟩
      rw [HR.out]
      go_wp2_with fail
      refine (read_dx (HD.out.below K.out.1.below) (p : Int) (by unfold okI; omega) (HC.out.long _)).mono ?_
      have hm : met s (p : Int) 0 = 2 := by
        unfold met
        rw [HDN.out, if_neg (by decide), if_neg (by have := HR.out; omega)]
      rw [show rdS s C (p : Int) = ((C (p : Int)).getD [], (C (p : Int)).isSome, none) from by unfold rdS; rw [if_neg (by rw [hm]; decide)]]
      rintro e w2 ⟨v, ev, rfl, hRv, hE, hb, hN⟩
      obtain rfl : ev = .nilIface := hE
      have K2 := Aside0.mk (K.out.1.step hb)
      obtain ⟨A10, c10, rfl⟩ := Kd.R_slice hRv
      have RD := Aside0.mk (Kd.R_reads' hRv).2
      clear hRv hb hN hm
      have HQ : Aside0 ((C (p : Int)).isSome = true → C (p : Int) = some ((C (p : Int)).getD [])) := ⟨fun h => by cases hc : C (p : Int) with
        | none => rw [hc] at h; cases h
        | some x => rfl⟩
      have HQ2 : Aside0 ((C (p : Int)).isSome = false → C (p : Int) = none) := ⟨fun h => by cases hc : C (p : Int) with
        | none => rfl
        | some x => rw [hc] at h; cases h⟩
      have HRB : Aside0 (((C (p : Int)).getD []).length ≤ 64 ∧ ∀ x ∈ (C (p : Int)).getD [], 0 ≤ x ∧ x ≤ 255) := ⟨by cases hc : C (p : Int) with
        | none => simp
        | some x => exact HC.out _ _ hc⟩
      obtain ⟨raw, hraw⟩ : ∃ raw, (C (p : Int)).getD [] = raw := ⟨_, rfl⟩
      obtain ⟨th, hth⟩ : ∃ th, (C (p : Int)).isSome = th := ⟨_, rfl⟩
      rw [hraw] at RD HQ HRB ⊢
      rw [hth] at HQ HQ2 ⊢
      clear hraw hth
      go_wp2_with fail
      refine (block_parse A10 c10 raw ((out.length : Int) + 1) (k : Int) _ RD.out.2 RD.out.1 (by have := HRB.out.1; omega) HRB.out.2).mono ?_
      rintro e w3 ⟨A', c', d, last, ok, rfl, hb, hdc, hdl, hDC, hyes, hno⟩
      have K3 := Aside0.mk (K2.out.step hb)
      have HDC := Aside0.mk hDC
      have HDL := Aside0.mk (show d.length ≤ 64 from by have := HRB.out.1; omega)
      have HY := Aside0.mk hyes
      have HNO := Aside0.mk hno
      have HDCC := Aside0.mk hdc
      clear hb hdc hdl hDC hyes hno K2
      cases th with
      | false =>
        obtain ⟨k0, k1, k2, k3⟩ := K3.out.lx.facts
        have z2 := blk_frozen K3.out.lx 2
        go_wp2
        go_ret3
        exact ⟨_, _, out, next, rfl, by rw [← K.out.2]; exact openGo_none hlt (HQ2.out (by trivial)), K3.out.lx.set_recs _, Nat.le_refl _, Kd.R_mono (Kd.R_set K3.out.out K3.out.lx (by decide) _ _) (fun _ _ => trivial), K3.out.below.setCell (p := ⟨w.heap.size, 2, none⟩) (Nat.le_refl _) _⟩
      | true =>
        cases ok with
        | false =>
          obtain ⟨k0, k1, k2, k3⟩ := K3.out.lx.facts
          have z2 := blk_frozen K3.out.lx 2
          go_wp2
          go_ret3
          exact ⟨_, _, out, next, rfl, by rw [← K.out.2]; exact openGo_no hlt (HQ.out (by trivial)) (HNO.out (by trivial)), K3.out.lx.set_recs _, Nat.le_refl _, Kd.R_mono (Kd.R_set K3.out.out K3.out.lx (by decide) _ _) (fun _ _ => trivial), K3.out.below.setCell (p := ⟨w.heap.size, 2, none⟩) (Nat.le_refl _) _⟩
        | true =>
          obtain ⟨rd, hrd⟩ : ∃ rd, rec ++ d = rd := ⟨_, rfl⟩
          have HRD := Aside0.mk hrd
          have HRL : Aside0 (rd.length ≤ 64 * (p + 1)) := ⟨by have := HDL.out; rw [← hrd, List.length_append]; omega⟩
          clear hrd
          cases last with
          | false =>
            go_wp2_with (first
              | ((with_reducible refine gate_builtin (b := .append) (xs := #[.tmp 63, .tmp 64]) rfl ?_); at_builtin; refine Kd.R_append_rows (Kd.int .u8) (w0 := w) w.heap.size rfl (.tmp 63) (.tmp 64) 30 5 (.int .u8 0) 1 rfl Tryd.underlying30 info8 rfl (by decide) (by omega) (.slice A7 rec.length c7) rec d _ _ _ (fun _ => True) (fun _ => False) rfl rfl ?aO ?aR (fun _ _ h => h) (fun _ h => h.elim) ?aF ?aB ?aS ?aL ?_; (case aR => exact HDC.out); (case aB => exact K3.out.below); (case aF => exact (fun _ _ => trivial)); (case aO => exact K3.out.row); (case aS => exact K3.out.below.size); (case aL => have := HDL.out; omega); intro v4 w4 ho hb hg hat; have K4 := Aside0.mk (K3.out.recApp ho hb hg hat); rw [HRD.out] at ho K4; obtain ⟨A7', c7', rfl⟩ := Kd.R_slice ho; clear ho hb hg hat K3))
            go_roundg (gk - 1)
            case measure => omega
            case rel =>
              have := HDL.out
              refine ⟨p + 1, k + 1, next, out, rd, A6, A7', c6, c7', rfl, rfl, by go_num, by go_num, by omega, by omega, by omega, by omega, HRL.out, ⟨K4.out, ?_⟩⟩
              rw [← K.out.2, ← HRD.out]; exact openGo_mid hlt (HQ.out (by trivial)) (HY.out (by trivial))
          | true =>
            obtain ⟨od, hod⟩ : ∃ od, out ++ [rd] = od := ⟨_, rfl⟩
            have HOD := Aside0.mk hod
            have HOL : Aside0 (od.length ≤ p + 1) := ⟨by rw [← hod, List.length_append]; simp; omega⟩
            clear hod
            go_wp2_with (first
              | ((with_reducible refine gate_builtin (b := .append) (xs := #[.tmp 63, .tmp 64]) rfl ?_); at_builtin; refine Kd.R_append_rows (Kd.int .u8) (w0 := w) w.heap.size rfl (.tmp 63) (.tmp 64) 30 5 (.int .u8 0) 1 rfl Tryd.underlying30 info8 rfl (by decide) (by omega) (.slice A7 rec.length c7) rec d _ _ _ (fun _ => True) (fun _ => False) rfl rfl ?aO ?aR (fun _ _ h => h) (fun _ h => h.elim) ?aF ?aB ?aS ?aL ?_; (case aR => exact HDC.out); (case aB => exact K3.out.below); (case aF => exact (fun _ _ => trivial)); (case aO => exact K3.out.row); (case aS => exact K3.out.below.size); (case aL => have := HDL.out; omega); intro v4 w4 ho hb hg hat; have K4 := Aside0.mk (K3.out.recApp ho hb hg hat); rw [HRD.out] at ho K4; obtain ⟨A7', c7', rfl⟩ := Kd.R_slice ho; clear ho hb hg hat K3)
              | ((with_reducible refine gate_builtin (b := .append) (xs := #[.tmp 69, .tmp 71]) rfl ?_); at_builtin; refine Kd.R_append (Kd.slice 5 (Kd.int .u8)) (w0 := w) w.heap.size rfl (.tmp 69) (.tmp 71) 22 30 (.slice none 0 0) 24 rfl Tryd.underlying22 info30r rfl (by decide) (by omega) (.slice A6 out.length c6) out rd [.slice A7' rd.length c7'] (fun _ => True) (fun k => some k ≠ (Value.slice A6 out.length c6).ownBlock) rfl rfl ?bP ?bK (fun _ _ => trivial) ?bO ?bB ?bS ?bL ?_; (case bP => exact K4.out.recM); (case bK => exact fun k hk => ⟨trivial, hk⟩); (case bO => exact Kd.R_mono K4.out.out (fun _ _ => trivial)); (case bB => exact K4.out.below); (case bS => exact K4.out.below.size); (case bL => omega); intro v5 w5 ho hb hg hat; have K5 := Aside0.mk (K4.out.outApp ho hb hg); rw [HOD.out] at ho K5; obtain ⟨A6', c6', rfl⟩ := Kd.R_slice ho; obtain ⟨k0, k1, k2, k3⟩ := K5.out.lx.facts; have z3 := blk_frozen K5.out.lx 3; clear ho hb hg hat K4))
            go_roundg (gk - 1)
            case measure => omega
            case rel =>
              refine ⟨p + 1, 0, p + 1, od, [], A6', none, c6', 0, rfl, rfl, rfl, by go_num, by omega, by omega, by omega, HOL.out, by simp, ⟨K5.out.setNext _, ?_⟩⟩
              rw [← K.out.2, ← HOD.out, ← HRD.out]; exact openGo_last hlt (HQ.out (by trivial)) (HY.out (by trivial))
    · obtain rfl : p = R := by omega
      have q1 : decide ((p : Int) < (p : Int)) = false := decide_eq_false (by omega)
      go_wp2_with fail
      refine (room_dx (HD.out.below K.out.1.below)).mono ?_
      rintro e w2 ⟨rfl, rfl⟩
      rw [HR.out]
      obtain ⟨k0, k1, k2, k3⟩ := K.out.1.lx.facts
      have z2 := blk_frozen K.out.1.lx 2
      go_wp2
      go_ret3
      exact ⟨_, _, out, next, rfl, by rw [← K.out.2, Nat.sub_self]; rfl, K.out.1.lx.set_recs _, Nat.le_refl _, Kd.R_mono (Kd.R_set K.out.1.out K.out.1.lx (by decide) _ _) (fun _ _ => trivial), K.out.1.below.setCell (p := ⟨w.heap.size, 2, none⟩) (Nat.le_refl _) _⟩
end Go.Proofs.YtlhjjjpldmekdaaDoor.PDsk.K
namespace Go.Proofs.YtlhjjjpldmekdaaDoor.PFn
open Go.RowKit Go.Proofs.YtlhjjjpldmekdaaDoorW.PrintWords Go.Proofs.YtlhjjjpldmekdaaDoorW.PrintLast Go.Proofs.YtlhjjjpldmekdaaDoorW.PrintMore Go.Proofs.YtlhjjjpldmekdaaDoor.PLog
set_option linter.unusedVariables false
set_option linter.unusedSimpArgs false

theorem w64_in (x : Int) (h : -9223372036854775808 ≤ x ∧ x ≤ 9223372036854775807) : wrap64 x = x := by unfold wrap64; omega
theorem tdiv56 (n : Nat) : Int.tdiv (n : Int) 56 = ((n / 56 : Nat) : Int) := by rw [Int.tdiv_eq_ediv_of_nonneg (by omega)]; omega
theorem tmod56 (n : Nat) : Int.tmod (n : Int) 56 = ((n % 56 : Nat) : Int) := by rw [Int.tmod_eq_emod_of_nonneg (by omega)]; omega
theorem blocks_num (n : Nat) (hn : n ≤ 4611686018427387904) : wrap64 ((wrap64 (Int.tdiv (n : Int) 56)) + (mn (Int.tmod (n : Int) 56) 1)) = ((n / 56 + min (n % 56) 1 : Nat) : Int) := by
  have e : mn (((n % 56 : Nat) : Int)) 1 = ((min (n % 56) 1 : Nat) : Int) := by unfold mn; split <;> omega
  rw [tdiv56, tmod56, e, w64_in ((n / 56 : Nat) : Int) (by omega), w64_in _ (by omega)]
  omega
theorem log_Blocks_f (n : Nat) (hn : n ≤ 4611686018427387904) : log_Blocks.f (n : Int) = some ((nB n : Nat) : Int) := by
  unfold log_Blocks.f
  rw [if_neg (by omega), blocks_num n hn]
  unfold mx nB
  congr 1
  split <;> omega
theorem ref8_Blocks_f (n : Nat) (hn : n ≤ 4611686018427387904) : tributaryref8_Blocks.f (n : Int) = some ((nB n : Nat) : Int) := by
  unfold tributaryref8_Blocks.f
  rw [if_neg (by omega), blocks_num n hn]
  unfold mx nB
  congr 1
  split <;> omega
def bI (b : Bool) : Int := if b = true then 1 else 0
theorem log_head_f (r k : Int) (last : Bool) (K : Nat) (hr : okI r) (hk : okI k) (hK : 9 < K) : log_head.f K r k last = some (hd3 r k (bI last)) := by
  have h1 := encI_len r
  have h2 := encI_len k
  have e3 : ∀ x y : List Int, x ++ y = x ++ y := fun _ _ => rfl
  have hj : ∀ c : Int, okI c → ((wire_Int.f K r).bind fun t162 => ((wire_Int.f K k).bind fun t165 => (if t162.length + t165.length < 140737488355328 then ((some (t162 ++ t165 : List Int)).bind fun y168 => ((wire_Int.f K c).bind fun t171 => (if y168.length + t171.length < 140737488355328 then (some (y168 ++ t171)) else (none)))) else (none)))) = some (hd3 r k c) := by
    intro c hc
    have h3 := encI_len c
    rw [wire_Int_f r hr K hK, Option.bind_some, wire_Int_f k hk K hK, Option.bind_some, if_pos (by omega), Option.bind_some, wire_Int_f c hc K hK, Option.bind_some, if_pos (by rw [List.length_append]; omega)]
    unfold hd3
    rw [List.append_assoc]
  cases last with
  | true => exact hj 1 ok01.2
  | false => exact hj 0 ok01.1
theorem part_mid_eq (b : List Int) (k : Nat) (hl : b.length ≤ 4611686018427387904) : (b.take (min (56 * k + 56) b.length)).drop (min (56 * k) b.length) = PLog.part b k := by
  unfold PLog.part
  rw [List.drop_take]
  rcases Nat.le_total (56 * k) b.length with h | h
  · rw [Nat.min_eq_left h]
    rcases Nat.le_total (56 * k + 56) b.length with h2 | h2
    · rw [Nat.min_eq_left h2, show 56 * k + 56 - 56 * k = 56 from by omega]
    · rw [Nat.min_eq_right h2, List.take_of_length_le (by simp), List.take_of_length_le (by simp; omega)]
  · rw [Nat.min_eq_right h, List.drop_eq_nil_of_le (Nat.le_refl _), List.drop_eq_nil_of_le h]
    simp
theorem mn_nat (a b : Nat) : mn (a : Int) (b : Int) = ((min a b : Nat) : Int) := by unfold mn; split <;> omega
theorem ref8_Block_f (r : Int) (b : List Int) (k : Nat) (K : Nat) (hr : okI r) (hl : b.length ≤ 1000000) (hk : k < nB b.length) (hK : 10 < K) : tributaryref8_Block.f K r (k : Int) b = some (blkL r b k) := by
  have hkb : k ≤ 1000000 := by unfold nB at hk; omega
  have hok : okI (k : Int) := by unfold okI; omega
  have h1 := encI_len r
  have h2 := encI_len (k : Int)
  have hnb : nB b.length ≤ 1000000 := by unfold nB; omega
  have hpos := nB_pos b.length
  have hj : ∀ c : Int, okI c → ((tributaryref1_Int.f K r).bind fun t193 => ((tributaryref1_Int.f K (k : Int)).bind fun t196 => (if t193.length + t196.length < 140737488355328 then ((some (t193 ++ t196 : List Int)).bind fun y199 => ((tributaryref1_Int.f K c).bind fun t202 => (if y199.length + t202.length < 140737488355328 then ((some (y199 ++ t202 : List Int)).bind fun y205 => (if 0 ≤ (mn (wrap64 (56 * (k : Int))) (b.length : Int)) then (if (mn (wrap64 (56 * (k : Int))) (b.length : Int)) ≤ (mn (wrap64 ((wrap64 (56 * (k : Int))) + 56)) (b.length : Int)) then (if (mn (wrap64 ((wrap64 (56 * (k : Int))) + 56)) (b.length : Int)) ≤ (b.length : Int) then (if y205.length + ((b.take ((mn (wrap64 ((wrap64 (56 * (k : Int))) + 56)) (b.length : Int)) : Int).toNat).drop ((mn (wrap64 (56 * (k : Int))) (b.length : Int)) : Int).toNat).length < 140737488355328 then (some (y205 ++ ((b.take ((mn (wrap64 ((wrap64 (56 * (k : Int))) + 56)) (b.length : Int)) : Int).toNat).drop ((mn (wrap64 (56 * (k : Int))) (b.length : Int)) : Int).toNat))) else (none)) else (none)) else (none)) else (none))) else (none)))) else (none)))) = some (hd3 r (k : Int) c ++ PLog.part b k) := by
    intro c hc
    have h3 := encI_len c
    have e1 : wrap64 (56 * (k : Int)) = ((56 * k : Nat) : Int) := by rw [w64_in _ (by omega)]; omega
    have e2 : wrap64 (((56 * k : Nat) : Int) + 56) = ((56 * k + 56 : Nat) : Int) := by rw [w64_in _ (by omega)]; omega
    rw [ref1_Int_f r hr K hK, Option.bind_some, ref1_Int_f (k : Int) hok K hK, Option.bind_some, if_pos (by omega), Option.bind_some, ref1_Int_f c hc K hK, Option.bind_some, if_pos (by rw [List.length_append]; omega), Option.bind_some, e1, e2, mn_nat, mn_nat,
      if_pos (by omega), if_pos (by omega), if_pos (by omega)]
    simp only [Int.toNat_natCast]
    rw [part_mid_eq b k (by omega), if_pos (by simp only [List.length_append, part_len]; omega)]
    unfold hd3
    simp only [List.append_assoc]
  unfold tributaryref8_Block.f
  rw [ref8_Blocks_f b.length (by omega), Option.bind_some, w64_in _ (by omega)]
  unfold blkL lastI
  by_cases h : k + 1 = nB b.length
  · rw [if_pos (by omega), if_pos h]
    exact hj 1 ok01.2
  · rw [if_neg (by omega), if_neg h]
    exact hj 0 ok01.1
end Go.Proofs.YtlhjjjpldmekdaaDoor.PFn
namespace Go.Proofs.YtlhjjjpldmekdaaDoor.PDsk.K
open Go.RowKit Go.Proofs.YtlhjjjpldmekdaaDoorW.PrintWords Go.Proofs.YtlhjjjpldmekdaaDoorW.PrintLast Go.Proofs.YtlhjjjpldmekdaaDoorW.PrintMore Go.Proofs.YtlhjjjpldmekdaaDoor.Err Go.Maps Go.Proofs.YtlhjjjpldmekdaaDoor.PLog
open Go.Proofs.YtlhjjjpldmekdaaDoor.PFn (log_head.f log_head.calls log_head_f log_Blocks.calls log_Blocks_f bI)
attribute [local go_sem] max2_int min2_int max_two min_two max_three min_three max_four min_four
set_option linter.unusedVariables false
set_option linter.unusedSimpArgs false

abbrev CT := Int → Option (List Int)
/-- The blocks of a record from place k on, laid down one behind the other: the error, the disk, the blocks. -/
def appGo (rn : Int) (next : Nat) (b : List Int) : Nat → Nat → Dk → CT → Option Er × Dk × CT
  | 0, _, s, C => (none, s, C)
  | d + 1, k, s, C => match wrS s ((next + k : Nat) : Int) ((blkL rn b k).length : Nat) with
    | (none, s', kept) => appGo rn next b d (k + 1) s' (if kept = true then updC C ((next + k : Nat) : Int) (blkL rn b k) else C)
    | (some x, s', kept) => (some x, s', if kept = true then updC C ((next + k : Nat) : Int) (blkL rn b k) else C)
/-- Append: the error, the disk, the blocks. -/
def appS (s : Dk) (C : CT) (life : Int) (recs next : Nat) (b : List Int) : Option Er × Dk × CT :=
  if goneB s life = true then (some (.num 70), s, C) else if s.room - (next : Int) < (nB b.length : Int) then (some (.num 71), s, C) else appGo ((recs + 1 : Nat) : Int) next b (nB b.length) 0 s C
theorem laid_fr {w w' : World} {S : Nat → Prop} (h : Laid w) (hf : Fr S w w') (h0 : ¬ S 0) : Laid w' := by
  have := hf.block 0 h.lt h0
  unfold Laid at h ⊢
  simp only [World.cell?] at h ⊢
  rw [this]; exact h
theorem laid_st {w : World} {a1 a2 : Nat} {s : Dk} (h : Laid w) (hs : St w a1 a2 s) : a1 ≠ 0 := by
  rintro rfl
  unfold Laid at h
  unfold St at hs
  simp [World.cell?, hs] at h
theorem laid_cont {w : World} {F : Nat → Prop} {a2 n : Nat} {C : CT} (h : Laid w) (hs : Cont w F a2 n C) : a2 ≠ 0 := by
  rintro rfl
  obtain ⟨D, ⟨es, clock, hb, _⟩, _⟩ := hs.map
  unfold Laid at h
  simp [World.cell?, hb] at h
theorem laid_dx {w : World} {F : Nat → Prop} {a1 a2 n : Nat} {s : Dk} {C : CT} (h : Laid w) (hd : Dx w F a1 a2 s n C) : ¬ (0 = a1 ∨ 0 = a2) := by
  rintro (e | e)
  · exact laid_st h hd.st e.symm
  · exact laid_cont h hd.cont e.symm
theorem laid_lx {w : World} {Bl a1 : Nat} {life recs next : Int} (h : Laid w) (hl : Lx w Bl a1 life recs next) : Bl ≠ 0 := by
  rintro rfl
  unfold Laid at h
  unfold Lx at hl
  simp [World.cell?, hl] at h
/-- A log's cells are none of its disk's. -/
theorem Lx.apart {w : World} {F : Nat → Prop} {Bl b1 a1 a2 n : Nat} {s : Dk} {C : CT} {life recs next : Int} (hl : Lx w Bl b1 life recs next) (hd : Dx w F a1 a2 s n C) : ¬ (Bl = a1 ∨ Bl = a2) := by
  rintro (e | e)
  · exact blk_ne hl hd.st (show 123 ≠ 116 from by decide) e
  · subst e
    obtain ⟨D, ⟨es, clock, hb, _⟩, _⟩ := hd.cont.map
    unfold Lx at hl
    rw [hb] at hl
    injection hl with hl
    cases hl
/-- An error stays, whatever blocks are turned that are no fault's. -/
theorem isErr_fr {w w' : World} {x : Er} {v : Value} {S : Nat → Prop} (h : IsErr w x v) (hf : Fr S w w') (hS : ∀ b, S b → ∀ cs, w.heap[b]? ≠ some (.cells cs 139 (0, 0))) : IsErr w' x v :=
  h.step fun b cs hb => (hf.block b (Array.getElem?_eq_some_iff.1 hb).1 (fun hs => hS b hs cs hb)).trans hb
theorem Dx.noErr {w : World} {F : Nat → Prop} {a1 a2 n : Nat} {s : Dk} {C : CT} (hd : Dx w F a1 a2 s n C) : ∀ b, b = a1 ∨ b = a2 → ∀ cs, w.heap[b]? ≠ some (.cells cs 139 (0, 0)) := by
  rintro b (rfl | rfl) cs e
  · have := hd.st
    unfold St at this
    rw [e] at this
    injection this with this
    injection this with _ this
    exact absurd this (by decide)
  · obtain ⟨D, ⟨es, clock, hb, _⟩, _⟩ := hd.cont.map
    rw [hb] at e
    injection e with e
    cases e
theorem facts4 {W : World} {B : Nat} {t : TypeId} {v0 v1 v2 v3 : Value} (h : W.heap[B]? = some (.cells #[v0, v1, v2, v3] t (0, 0))) :
    W.cell? ⟨B, 0, none⟩ = some v0 ∧ W.cell? ⟨B, 1, none⟩ = some v1 ∧ W.cell? ⟨B, 2, none⟩ = some v2 ∧ W.cell? ⟨B, 3, none⟩ = some v3 := ⟨Err.blk_cell h 0 _ rfl, Err.blk_cell h 1 _ rfl, Err.blk_cell h 2 _ rfl, Err.blk_cell h 3 _ rfl⟩
/-- What Append leaves. -/
def AppP (r : Option Er × Dk × CT) (F : Nat → Prop) (Bl a1 a2 n nb recs next : Nat) (life : Int) (w : World) (e : Ending) (w' : World) : Prop :=
  ∃ v, e = .returned v ∧ IsErr? w' (r.1.map (.fault logS 0)) v ∧ Dx w' F a1 a2 r.2.1 (n + nb) r.2.2 ∧ (∃ recs' next' : Nat, (r.1 = none → recs' = recs + 1 ∧ next' = next + nb) ∧ ((∃ x, r.1 = some x) → recs' = recs ∧ next' = next) ∧ Lx w' Bl a1 life (recs' : Int) (next' : Int)) ∧ Fr (fun b => b = Bl ∨ b = a1 ∨ b = a2) w w'
theorem AppP.no {s' : Dk} {C' : CT} {F : Nat → Prop} {Bl a1 a2 n nb m recs next : Nat} {life : Int} {w w' : World} {x : Er} {v : Value} (hv : IsErr w' (.fault logS 0 x) v) (hd : Dx w' F a1 a2 s' m C') (hm : m ≤ n + nb) (hl : Lx w' Bl a1 life recs next) (hf : Fr (fun b => b = a1 ∨ b = a2) w w') : AppP (some x, s', C') F Bl a1 a2 n nb recs next life w (.returned v) w' :=
  ⟨v, rfl, hv, hd.more hm, ⟨recs, next, (fun h => by cases h), fun _ => ⟨rfl, rfl⟩, hl⟩, hf.mono (fun _ h => Or.inr h)⟩
theorem appGo_succ (rn : Int) (next : Nat) (b : List Int) (d k : Nat) (s : Dk) (C : CT) : appGo rn next b (d + 1) k s C = match wrS s ((next + k : Nat) : Int) ((blkL rn b k).length : Nat) with
    | (none, s', kept) => appGo rn next b d (k + 1) s' (if kept = true then updC C ((next + k : Nat) : Int) (blkL rn b k) else C)
    | (some x, s', kept) => (some x, s', if kept = true then updC C ((next + k : Nat) : Int) (blkL rn b k) else C) := rfl
theorem wrS_err {s : Dk} {a n : Int} {x : Er} (h : (wrS s a n).1 = some x) : ∃ p q, x = .fault diskS p (.num q) := by
  have hE : ∀ m x, refE m a = some x → ∃ p q, x = .fault diskS p (.num q) := by
    intro m x h
    unfold refE at h
    split at h
    · exact ⟨_, _, (Option.some.inj h).symm⟩
    · split at h
      · exact ⟨_, _, (Option.some.inj h).symm⟩
      · cases h
  unfold wrS at h
  split at h
  · exact hE _ _ h
  · split at h
    · split at h
      · exact ⟨_, _, (Option.some.inj h).symm⟩
      · cases h
    · cases h
theorem part_slice {b : List Int} {A : Option Addr} {c : Nat} {w : World} (k : Nat) (hC : (Kd.int .u8).C w A b.length b) (hc : b.length ≤ c) (hb : b.length ≤ 100000) :
    ∃ (lo hi : Nat) (A' : Option Addr) (c' : Nat), (if (b.length : Int) < (k : Int) * 56 then (b.length : Int) else (k : Int) * 56) = (lo : Int) ∧ (if (b.length : Int) < ((k : Int) + 1) * 56 then (b.length : Int) else ((k : Int) + 1) * 56) = (hi : Int) ∧
      min ((k : Int) * 56) (b.length : Int) = (lo : Int) ∧ min (((k : Int) + 1) * 56) (b.length : Int) = (hi : Int) ∧
      (∀ W : World, (Instr.slice 30 (.slice A b.length c) (some (.int .i64 (lo : Int))) (some (.int .i64 (hi : Int))) none).run Tryd.prog W = .ok (.slice A' (PLog.part b k).length c') W) ∧
      (Kd.int .u8).C w A' (PLog.part b k).length (PLog.part b k) ∧ ((PLog.part b k).length ≤ c' ∧ (PLog.part b k).length ≤ 56) := by
  have hcut := cut_mid (P := Tryd.prog) 30 5 .i64 .i64 Tryd.underlying30 (info_parts info8).choose_spec.1 1 (info_parts info8).choose_spec.2.2.1 A b.length c ((min (56 * k) b.length : Nat) : Int) ((min (56 * k + 56) b.length : Nat) : Int) (by omega) (by omega) (by omega) hc
  simp only [Int.toNat_natCast, Nat.mul_one] at hcut
  have hpl : min (56 * k + 56) b.length - min (56 * k) b.length = (PLog.part b k).length := by rw [part_len]; omega
  rw [hpl] at hcut
  refine ⟨min (56 * k) b.length, min (56 * k + 56) b.length, _, _, by split <;> omega, by split <;> omega, by omega, by omega, hcut, ?_, by rw [part_len]; omega⟩
  have hpe : (b.take (min (56 * k + 56) b.length)).drop (min (56 * k) b.length) = PLog.part b k := Go.Proofs.YtlhjjjpldmekdaaDoor.PFn.part_mid_eq b k (by omega)
  obtain ⟨hi, hhi⟩ : ∃ hi, hi = min (56 * k + 56) b.length := ⟨_, rfl⟩
  obtain ⟨lo, hlo⟩ : ∃ lo, lo = min (56 * k) b.length := ⟨_, rfl⟩
  rw [← hhi, ← hlo] at hpe
  rw [← hlo]
  have h1 := Kd.C_take (m := hi) hC (by omega)
  have h3 : hi = (b.take hi).length := by rw [List.length_take]; omega
  obtain ⟨tb, htb⟩ : ∃ tb, b.take hi = tb := ⟨_, rfl⟩
  rw [htb] at h1 h3 hpe
  have h2 := Kd.C_drop (m := lo) (c := c) h1 (by omega) (by omega)
  rw [hpe, show lo * (Kd.int IntKind.u8).sz = lo from Nat.mul_one lo] at h2
  exact h2
theorem head_ok (recs k nb : Nat) (b : List Int) (hnb : nB b.length = nb) (h1 : recs ≤ 65536) (h2 : nb ≤ 100000) (hk : k ≤ nb) : log_head.f 12 ((recs + 1 : Nat) : Int) (k : Int) ((k : Int) == (nb : Int) - 1) = some (hd3 ((recs + 1 : Nat) : Int) (k : Int) (lastI b k)) := by
  rw [log_head_f ((recs + 1 : Nat) : Int) (k : Int) _ 12 (by unfold Go.Proofs.YtlhjjjpldmekdaaDoor.PFn.okI; omega) (by unfold Go.Proofs.YtlhjjjpldmekdaaDoor.PFn.okI; omega) (by decide)]
  congr 2
  unfold bI lastI
  by_cases h : k + 1 = nb
  · rw [if_pos (by rw [beq_iff_eq]; omega), if_pos (by rw [hnb]; exact h)]
  · rw [if_neg (by rw [beq_iff_eq]; omega), if_neg (by rw [hnb]; exact h)]
theorem blkL_ok (r : Int) (b : List Int) (k : Nat) : (blkL r b k).length ≤ 86 := blkL_len r b k
set_option maxHeartbeats 16000000 in
set_option maxRecDepth 100000 in
theorem append_calls (F : Nat → Prop) (Bl a1 a2 n R recs next : Nat) (life : Int) (s : Dk) (C : CT) (A : Option Addr) (c : Nat) (b : List Int) (w : World) (hd : Dx w F a1 a2 s n C) (hl : Lx w Bl a1 life recs next) (hR : s.room = (R : Int)) (hR1 : R ≤ 65536 ∧ next ≤ 65536 ∧ recs ≤ 65536) (hF : ∀ k, w.heap.size ≤ k → F k) (hn : n ≤ 1000000000) (hC : (Kd.int .u8).C w A b.length b) (hc : b.length ≤ c) (hb : b.length ≤ 100000) (hL : Laid w) :
    Calls Tryd.prog 28 #[.pointer (some ⟨Bl, 0, none⟩), .slice A b.length c] w (AppP (appS s C life recs next b) F Bl a1 a2 n (nB b.length) recs next life w) := by
  have HD := Aside0.mk hd
  have HLX := Aside0.mk hl
  have HR := Aside0.mk hR
  have HF := Aside0.mk hF
  have HC := Aside0.mk hC
  have HL := Aside0.mk hL
  obtain ⟨k0, k1, k2, k3⟩ := hl.facts
  clear hd hl hR hF hC hL
  have QG := Aside0.mk (gone_calls HLX.out HD.out)
  cases hg : goneB s life with
  | true =>
    rw [hg] at QG
    have e : appS s C life recs next b = (some (.num 70), s, C) := by unfold appS; rw [if_pos hg]
    rw [e]
    clear hg e
    go_enter Tryd.func28, Tryd.ntmps28
    go_wp2_with (first
      | (go_at_call 79; refine QG.out.mono ?_; rintro e w1 ⟨rfl, hb⟩; have B1 := Aside0.mk hb; clear hb)
      | (go_at_call 73; refine (lfault (.num 70) _ w1 rfl).mono ?_; rintro e w2 ⟨v, rfl, hE, hb, hN⟩; have B2 := Aside0.mk (B1.out.trans (hb.mono B1.out.size)); have E2 := Aside0.mk hE; clear hb hE hN))
    go_ret
    exact AppP.no E2.out (HD.out.below B2.out) (Nat.le_add_right _ _) (HLX.out.below B2.out) (Fr.of_below B2.out)
  | false =>
    rw [hg] at QG
    obtain ⟨nb, hnb⟩ : ∃ nb, nB b.length = nb := ⟨_, rfl⟩
    have hnb1 : 1 ≤ nb ∧ nb ≤ 100000 := by rw [← hnb]; unfold nB; omega
    have QB := Aside0.mk (fun w => log_Blocks.calls (b.length : Int) (nb : Int) w (by rw [log_Blocks_f _ (by omega), hnb]))
    have HNB := Aside0.mk hnb
    by_cases hfull : s.room - (next : Int) < (nb : Int)
    · have e : appS s C life recs next b = (some (.num 71), s, C) := by unfold appS; rw [if_neg (by rw [hg]; decide), if_pos (by rw [hnb]; exact hfull)]
      rw [e, hnb]
      rw [HR.out] at hfull
      have hw : wrap64 ((R : Int) - (next : Int)) = (R : Int) - (next : Int) := wrap64_in _ (by omega)
      have QL := Aside0.mk (fun W (hb : Below w.heap.size w W) => left_calls (HLX.out.below hb) (HD.out.below hb))
      rw [HR.out, hw] at QL
      have q1 : decide ((R : Int) - (next : Int) < (nb : Int)) = true := decide_eq_true hfull
      clear hg e hnb hw hfull
      go_enter Tryd.func28, Tryd.ntmps28
      go_wp2_with (first
        | (go_at_call 79; refine QG.out.mono ?_; rintro e w1 ⟨rfl, hb⟩; have B1 := Aside0.mk hb; clear hb)
        | (go_at_call 32; refine (QB.out _).mono ?_; rintro e w2 ⟨rfl, hb⟩; have B2 := Aside0.mk (B1.out.trans (hb.mono B1.out.size)); clear hb)
        | (go_at_call 24; refine (QL.out _ B2.out).mono ?_; rintro e w3 ⟨rfl, ⟨m, rfl⟩⟩; have B3 := Aside0.mk (pw_below_drewN B2.out m))
        | (go_at_call 73; refine (lfault (.num 71) _ _ rfl).mono ?_; rintro e w4 ⟨v, rfl, hE, hb, hN⟩; have B4 := Aside0.mk (B3.out.trans (hb.mono B3.out.size)); have E4 := Aside0.mk hE; clear hb hE hN))
      go_ret
      exact AppP.no E4.out (HD.out.below B4.out) (Nat.le_add_right _ _) (HLX.out.below B4.out) (Fr.of_below B4.out)
    · have e : appS s C life recs next b = appGo ((recs + 1 : Nat) : Int) next b nb 0 s C := by unfold appS; rw [if_neg (by rw [hg]; decide), if_neg (by rw [hnb]; exact hfull), hnb]
      rw [e, hnb]
      rw [HR.out] at hfull
      have hw : wrap64 ((R : Int) - (next : Int)) = (R : Int) - (next : Int) := wrap64_in _ (by omega)
      have QL := Aside0.mk (fun W (hb : Below w.heap.size w W) => left_calls (HLX.out.below hb) (HD.out.below hb))
      rw [HR.out, hw] at QL
      have q1 : decide ((R : Int) - (next : Int) < (nb : Int)) = false := decide_eq_false hfull
      obtain ⟨res, hres⟩ : ∃ res, appGo ((recs + 1 : Nat) : Int) next b nb 0 s C = res := ⟨_, rfl⟩
      rw [hres]
      have HRES := Aside0.mk hres
      have HNBE := Aside0.mk hnb
      clear hg e hnb hw hfull hres
      go_enter Tryd.func28, Tryd.ntmps28
      go_wp2_with (first
        | (go_at_call 79; refine QG.out.mono ?_; rintro e w1 ⟨rfl, hb⟩; have B1 := Aside0.mk hb; clear hb)
        | (go_at_call 32; refine (QB.out _).mono ?_; rintro e w2 ⟨rfl, hb⟩; have B2 := Aside0.mk (B1.out.trans (hb.mono B1.out.size)); clear hb)
        | (go_at_call 24; refine (QL.out _ B2.out).mono ?_; rintro e w3 ⟨rfl, ⟨m, rfl⟩⟩; have B3 := Aside0.mk (pw_below_drewN B2.out m)))
      have I0 : Aside0 (Fr (fun b => b = a1 ∨ b = a2) w (w2.drewN m) ∧ Dx (w2.drewN m) F a1 a2 s (n + 0) C ∧ appGo ((recs + 1 : Nat) : Int) next b (nb - 0) 0 s C = res) := ⟨Fr.of_below B3.out, HD.out.below B3.out, HRES.out⟩
      clear B1 B2 B3 QG QL HRES k0 k1 k2 k3
      go_loopg [26] (nb + 1) (fun kq v26 wr => ∃ (k : Nat) (s' : Dk) (C' : CT), v26 = .int .i64 (k : Int) ∧ k ≤ nb ∧ nb - k ≤ kq ∧ Aside0 (Fr (fun b => b = a1 ∨ b = a2) w wr ∧ Dx wr F a1 a2 s' (n + k) C' ∧ appGo ((recs + 1 : Nat) : Int) next b (nb - k) k s' C' = res))
      case atStart => exact ⟨0, s, C, rfl, by omega, by omega, I0⟩
      case round =>
        obtain ⟨k, s', C', rfl, hk, hkq, K⟩ := hrel
        clear I0
        by_cases hlt : k < nb
        · have q2 : decide ((k : Int) < (nb : Int)) = true := decide_eq_true (by omega)
          obtain ⟨lo, hi, A', c', hm1, hm2, hm3, hm4, hcut, hPC, hPL⟩ := part_slice k HC.out hc hb
          have HPC := Aside0.mk hPC
          have HPL := Aside0.mk hPL
          have HBL : Aside0 (hd3 ((recs + 1 : Nat) : Int) (k : Int) (lastI b k) ++ PLog.part b k = blkL ((recs + 1 : Nat) : Int) b k) := ⟨rfl⟩
          have HBN : Aside0 ((blkL ((recs + 1 : Nat) : Int) b k).length ≤ 86) := ⟨blkL_len _ _ _⟩
          have HHN : Aside0 ((hd3 ((recs + 1 : Nat) : Int) (k : Int) (lastI b k)).length ≤ 30) := ⟨(hd3_len _ _ _).2⟩
          have HH := Aside0.mk (head_ok recs k nb b HNBE.out hR1.2.2 hnb1.2 hk)
          obtain ⟨lb, hlb⟩ : ∃ lb, ((k : Int) == (nb : Int) - 1) = lb := ⟨_, rfl⟩
          rw [hlb] at HH
          have hs1 : IntKind.i64.wrap ((recs : Int) + 1) = ((recs + 1 : Nat) : Int) := (IntWalk.i64_in _ (by omega)).trans (by omega)
          have hs2 : IntKind.i64.wrap ((next : Int) + (k : Int)) = ((next + k : Nat) : Int) := (IntWalk.i64_in _ (by omega)).trans (by omega)
          have hs3 : IntKind.i64.wrap ((nb : Int) - 1) = (nb : Int) - 1 := IntWalk.i64_in _ (by omega)
          obtain ⟨hdl, hhdl⟩ : ∃ x, hd3 ((recs + 1 : Nat) : Int) (k : Int) (lastI b k) = x := ⟨_, rfl⟩
          rw [hhdl] at HH HBL HHN
          obtain ⟨pt, hpt⟩ : ∃ x, PLog.part b k = x := ⟨_, rfl⟩
          rw [hpt] at hcut HPC HPL HBL
          have HRES := Aside0.mk K.out.2.2
          rw [show nb - k = (nb - (k + 1)) + 1 from by omega, appGo_succ] at HRES
          obtain ⟨bl, hbl⟩ : ∃ x, blkL ((recs + 1 : Nat) : Int) b k = x := ⟨_, rfl⟩
          rw [hbl] at HRES HBL HBN
          have HWE := Aside0.mk (fun x => wrS_err (s := s') (a := ((next + k : Nat) : Int)) (n := (bl.length : Int)) (x := x))
          have HW := Aside0.mk (fun (W : World) (hbW : Below wr.heap.size wr W) (A6 : Option Addr) (c6 : Nat) (h6 : (Kd.int .u8).C W A6 bl.length bl) (hc6 : bl.length ≤ c6) => write_dx (K.out.2.1.below hbW) ((next + k : Nat) : Int) A6 c6 bl.length bl (fun q hq => HF.out q (Nat.le_trans K.out.1.size (Nat.le_trans hbW.size hq))) (show n + k < maxLen from by unfold maxLen; omega) (by unfold okI; omega) rfl h6 hc6 (by have := HBN.out; omega))
          obtain ⟨⟨e0, s2, kp⟩, hr⟩ : ∃ r, wrS s' ((next + k : Nat) : Int) (bl.length : Int) = r := ⟨_, rfl⟩
          rw [hr] at HW HRES HWE
          simp only at HW HRES HWE
          have L3 := Aside0.mk (HLX.out.kept K.out.1 (HLX.out.apart HD.out))
          obtain ⟨x0, x1, x2, x3⟩ := L3.out.facts
          have K1 := Aside0.mk K.out.1
          have HD2 := Aside0.mk K.out.2.1
          have HPC2 : Aside0 ((Kd.int .u8).C wr A' pt.length pt) := ⟨HD.out.bytes K.out.1 HPC.out⟩
          have LL := Aside0.mk (laid_fr HL.out K.out.1 (laid_dx HL.out HD.out))
          clear hhdl hpt hbl hr hPC hPL HPC K
          go_upto_region 10 with fail
          go_region_held3 (fun W => W.cell? ⟨Bl, 0, none⟩ = some (.pointer (some ⟨a1, 0, none⟩)) ∧ W.cell? ⟨Bl, 2, none⟩ = some (.int .i64 (recs : Int)) ∧ W.cell? ⟨Bl, 3, none⟩ = some (.int .i64 (next : Int))) (first | exact ⟨x0, x2, x3⟩ | exact ⟨y0, y2, y3⟩ | exact ⟨z0, z2, z3⟩ | exact ⟨q0, q2', q3⟩) (first
            | (go_at_call 80; refine (log_head.calls 12 _ _ _ hdl _ HH.out).mono ?_; rintro e w5 ⟨v5, rfl, hR5, hb5⟩; have B5 := Aside0.mk (below_step (below_drew (Below.refl _ _)) hb5); have R5 := Aside0.mk (Kd.R_lower hR5 (show wr.heap.size ≤ wr.drew.heap.size from Nat.le_refl _)); obtain ⟨A5, c5, rfl⟩ := Kd.R_slice hR5; obtain ⟨y0, y1, y2, y3⟩ := (L3.out.below B5.out).facts; clear hR5 hb5)
            | (refine Kd.R_append_rows_step (Kd.int .u8) (w0 := wr) wr.heap.size (by rfl) (.tmp 63) (.tmp 64) 30 5 (.int .u8 0) 1 rfl Tryd.underlying30 info8 rfl (by decide) (by omega) (.slice A5 hdl.length c5) hdl pt _ _ _ (fun _ => True) (fun _ => False) rfl rfl ?aO ?aR (fun _ _ h => h) (fun _ h => h.elim) ?aF ?aB ?aS ?aL ?_; (case aO => exact R5.out); (case aR => exact Kd.C_below HPC2.out B5.out); (case aF => exact fun _ _ => trivial); (case aB => exact B5.out); (case aS => exact B5.out.size); (case aL => have := HHN.out; have := HPL.out.2; omega); intro v6 w6 ho hb hg hat; rw [HBL.out] at ho; have B6 := Aside0.mk hb; obtain ⟨A6, c6, rfl⟩ := Kd.R_slice ho; have R6 := Aside0.mk (Kd.R_reads' ho).2; obtain ⟨z0, z1, z2, z3⟩ := (L3.out.below B6.out).facts; clear ho hb hg hat)
            | (go_at_call 18; refine (HW.out w6 B6.out A6 c6 R6.out.2 R6.out.1).mono ?_; rintro e w7 ⟨v7, rfl, hE7, hD7, hF7, hN7⟩; have E7 := Aside0.mk hE7; have D7 := Aside0.mk hD7; have F7 := Aside0.mk (K1.out.trans ((Fr.of_below B6.out).trans hF7)); obtain ⟨q0, q1', q2', q3⟩ := (L3.out.kept ((Fr.of_below B6.out).trans hF7) (L3.out.apart (HD2.out))).facts; clear hE7 hD7 hF7 hN7))
          clear x0 x1 x2 x3 y0 y1 y2 y3 z0 z1 z2 z3 q0 q1' q2' q3 hs1 hs2 hs3 hm1 hm2 hm3 hm4 hcut HW HH
          have LW := Aside0.mk (laid_fr HL.out F7.out (laid_dx HL.out HD.out))
          cases e0 with
          | none =>
            obtain rfl : v7 = .nilIface := E7.out
            go_wp2_with (first
              | (go_at_call 81; refine (AsF_nil _ _).mono ?_; rintro e w8 ⟨rfl, rfl⟩))
            go_roundg (gk - 1)
            case measure => omega
            case rel =>
              refine ⟨k + 1, s2, _, by go_num, by omega, by omega, ⟨F7.out.trans (Fr.alloc _ _ _), (D7.out.below (below_alloc (Below.refl _ _) _)), HRES.out⟩⟩
          | some x =>
            obtain ⟨p0, q0, rfl⟩ := HWE.out x rfl
            have hv7 : ∃ bb, v7 = .iface 128 (.pointer (some ⟨bb, 0, none⟩)) := by obtain ⟨bb, v', e, _⟩ := E7.out; exact ⟨bb, e⟩
            obtain ⟨bb, rfl⟩ := hv7
            have X9 := heap_alloc_new w7 (Obj.cells #[.pointer none] 128)
            have XX9 := Aside0.mk X9
            have QA := Aside0.mk (AsF_calls bb ⟨w7.heap.size, 0, none⟩ (.pointer none) (w7.alloc (Obj.cells #[.pointer none] 128)) (LW.out.below (below_alloc (Below.refl _ _) _) (Nat.le_refl _)) (Err.blk_cell X9 0 _ rfl) (blk_frozen X9 0))
            clear X9
            go_wp2_with fail
            refine QA.out.mono ?_
            rintro e w8 ⟨rfl, w9, hb9, rfl⟩
            have X9 := (hb9.block w7.heap.size (by simp)).trans XX9.out
            have X10 := Go.heap_setCell_same w9 w7.heap.size 0 _ _ (.pointer (some ⟨bb, 0, none⟩)) X9
            have B10 : Aside0 (Below w7.heap.size w7 (w9.setCell ⟨w7.heap.size, 0, none⟩ (.pointer (some ⟨bb, 0, none⟩)))) := ⟨((below_alloc (Below.refl _ _) _).trans (hb9.mono (by simp))).setCell (p := ⟨w7.heap.size, 0, none⟩) (Nat.le_refl _) _⟩
            have hc10 : (w9.setCell ⟨w7.heap.size, 0, none⟩ (.pointer (some ⟨bb, 0, none⟩))).cell? ⟨w7.heap.size, 0, none⟩ = some (.pointer (some ⟨bb, 0, none⟩)) := Err.blk_cell X10 0 _ (by simp [Array.setIfInBounds])
            obtain ⟨w10, hw10⟩ : ∃ w10, w9.setCell ⟨w7.heap.size, 0, none⟩ (.pointer (some ⟨bb, 0, none⟩)) = w10 := ⟨_, rfl⟩
            rw [hw10] at B10 hc10 ⊢
            clear hw10 X9 X10 hb9 XX9 QA
            have E10 := Aside0.mk (IsErr.below B10.out (Nat.le_refl _) E7.out)
            go_wp2_with (first | (go_at_call 73; refine (lfault _ _ w10 E10.out).mono ?_; rintro e w11 ⟨v11, rfl, hE, hb, hN⟩; have B11 := Aside0.mk (B10.out.trans (hb.mono B10.out.size)); have E11 := Aside0.mk hE; clear hE hb hN))
            go_ret
            rw [← HRES.out]
            have f11 : Fr (fun b => b = a1 ∨ b = a2) w w11 := F7.out.trans (Fr.of_below B11.out)
            exact AppP.no E11.out (D7.out.below B11.out) (by omega) (HLX.out.kept f11 (HLX.out.apart HD.out)) f11
        · obtain rfl : k = nb := by omega
          have q2 : decide ((k : Int) < (k : Int)) = false := decide_eq_false (by omega)
          have L3 := Aside0.mk (HLX.out.kept K.out.1 (HLX.out.apart HD.out))
          obtain ⟨k0, k1, k2, k3⟩ := L3.out.facts
          have z2 := blk_frozen L3.out 2
          have z3 := blk_frozen L3.out 3
          have HREC : Aside0 (res = (none, s', C')) := ⟨by rw [← K.out.2.2, Nat.sub_self]; rfl⟩
          have K1 := Aside0.mk K.out.1
          have K2 := Aside0.mk K.out.2.1
          have k2' := (facts4 (L3.out.set_recs ((recs : Int) + 1))).2.2.2
          clear K
          go_wp2
          go_ret
          rw [HREC.out]
          have hap := HLX.out.apart HD.out
          have fz : ∀ u1 u2, Fr (· = Bl) wr ((wr.setCell ⟨Bl, 2, none⟩ u1).setCell ⟨Bl, 3, none⟩ u2) := fun u1 u2 => ((Fr.refl (· = Bl) wr).set_ rfl _).set_ rfl _
          refine ⟨.nilIface, rfl, rfl, K2.out.kept (fz _ _) (fun e => hap (Or.inl e.symm)) (fun e => hap (Or.inr e.symm)) (fun b hb _ => by rw [hb]; exact L3.out.noB), ⟨recs + 1, next + k, fun _ => ⟨rfl, rfl⟩, (fun ⟨x, h⟩ => by cases h), ?_⟩, (K1.out.mono (fun _ h => Or.inr h)).trans ((fz _ _).mono (fun _ h => Or.inl h))⟩
          have h := (L3.out.set_recs ((recs : Int) + 1)).set_next ((next : Int) + (k : Int))
          rw [show ((recs + 1 : Nat) : Int) = (recs : Int) + 1 from by omega, show ((next + k : Nat) : Int) = (next : Int) + (k : Int) from by omega]
          exact h
end Go.Proofs.YtlhjjjpldmekdaaDoor.PDsk.K
namespace Go.Proofs.YtlhjjjpldmekdaaDoor.PDsk.K
open Go.RowKit Go.Proofs.YtlhjjjpldmekdaaDoorW.PrintWords Go.Proofs.YtlhjjjpldmekdaaDoorW.PrintLast Go.Proofs.YtlhjjjpldmekdaaDoorW.PrintMore Go.Proofs.YtlhjjjpldmekdaaDoor.Err Go.Maps Go.Proofs.YtlhjjjpldmekdaaDoor.PLog
attribute [local go_sem] max2_int min2_int max_two min_two max_three min_three max_four min_four
set_option linter.unusedVariables false
set_option linter.unusedSimpArgs false

set_option maxHeartbeats 8000000 in
theorem open_down (F : Nat → Prop) (a1 a2 n : Nat) (s : Dk) (C : CT) (w : World) (hd : Dx w F a1 a2 s n C) (hdn : s.down = true) :
    Calls Tryd.prog 20 #[.pointer (some ⟨a1, 0, none⟩)] w fun e w' => ∃ v, e = .returned (.tuple #[.pointer none, .slice none 0 0, v]) ∧ IsErr w' (.fault logS 0 (.num 70)) v ∧ Below w.heap.size w w' := by
  have HD := Aside0.mk hd
  have HDN := Aside0.mk hdn
  clear hd hdn
  go_enter Tryd.func20, Tryd.ntmps20
  go_wp2_with (first
    | (go_at_call 39; refine (down_dx HD.out).mono ?_; rintro e w' ⟨rfl, rfl⟩; rw [HDN.out])
    | (go_at_call 73; refine (lfault (.num 70) _ _ rfl).mono ?_; rintro e w2 ⟨v, rfl, hE, hb, hN⟩; have B2 := Aside0.mk hb; have E2 := Aside0.mk hE; clear hb hE hN))
  go_ret3
  exact ⟨v, rfl, E2.out, B2.out⟩
set_option maxHeartbeats 8000000 in
theorem open_nil (w : World) :
    Calls Tryd.prog 20 #[.pointer none] w fun e w' => ∃ v, e = .returned (.tuple #[.pointer none, .slice none 0 0, v]) ∧ IsErr w' (.fault logS 0 (.num 1)) v ∧ Below w.heap.size w w' := by
  go_enter Tryd.func20, Tryd.ntmps20
  go_wp2_with (first
    | (go_at_call 73; refine (lfault (.num 1) _ _ rfl).mono ?_; rintro e w2 ⟨v, rfl, hE, hb, hN⟩; have B2 := Aside0.mk hb; have E2 := Aside0.mk hE; clear hb hE hN))
  go_ret3
  exact ⟨v, rfl, E2.out, B2.out⟩
/-! ### like records -/
abbrev KR : Kd (List Int) := Kd.slice 5 (Kd.int .u8)
theorem at_B {w : World} {A : Option Addr} {n : Nat} {xs : List (List Int)} (h : KR.C w A n xs) (i : Nat) (hi : i < n) : ∃ ad A0 c0, A = some ad ∧ w.cell? (ad.add i) = some (.slice A0 (xs.getD i []).length c0) ∧ (xs.getD i []).length ≤ c0 ∧ (Kd.int .u8).C w A0 (xs.getD i []).length (xs.getD i []) := by
  obtain ⟨ad, c, rfl, hl, hK, hc⟩ := Kd.C_get h [] (i : Int) (by omega) (by omega)
  rw [Int.toNat_natCast] at hK hc
  obtain ⟨A0, c0, rfl, h1, h2⟩ := hK
  refine ⟨ad, A0, c0, rfl, ?_, h1, h2⟩
  have := hc 0 _ rfl
  rwa [show i * KR.sz + 0 = i from Nat.mul_one i] at this
set_option maxHeartbeats 8000000 in
set_option maxRecDepth 100000 in
theorem same_eq (A0 A1 : Option Addr) (c0 c1 : Nat) (l : List (List Int)) (w : World) (h0 : KR.C w A0 l.length l) (h1 : KR.C w A1 l.length l) (hc0 : l.length ≤ c0) (hc1 : l.length ≤ c1) (hl : l.length ≤ 1000000) :
    Calls Tryd.prog 22 #[.slice A0 l.length c0, .slice A1 l.length c1] w fun e w' => e = .returned (.bool true) ∧ Below w.heap.size w w' := by
  have H0 := Aside0.mk h0
  have H1 := Aside0.mk h1
  clear h0 h1
  go_enter Tryd.func22, Tryd.ntmps22
  go_wp2
  go_loopg [5] (l.length + 1) (fun kq v5 wr => ∃ (i : Nat), v5 = .int .i64 (i : Int) ∧ i ≤ l.length ∧ l.length - i ≤ kq ∧ Aside0 (Below w.heap.size w wr))
  case atStart => exact ⟨0, rfl, by omega, by omega, ⟨Below.refl _ _⟩⟩
  case round =>
    obtain ⟨i, rfl, hi, hk, K⟩ := hrel
    by_cases hlt : i < l.length
    · have q1 : decide ((i : Int) < (l.length : Int)) = true := decide_eq_true (by omega)
      obtain ⟨ad0, B0, d0, rfl, m0, t0, r0⟩ := at_B (Kd.C_below H0.out K.out) i hlt
      obtain ⟨ad1, B1, d1, rfl, m1, t1, r1⟩ := at_B (Kd.C_below H1.out K.out) i hlt
      obtain ⟨x, hx⟩ : ∃ x, l.getD i [] = x := ⟨_, rfl⟩
      rw [hx] at m0 t0 r0 m1 t1 r1
      have hv0 := fun n => Kd.C_string (P := Tryd.prog) (c := d0) Tryd.underlying30 Tryd.underlying5 Tryd.underlying9 (show (Kd.int .u8).C (wr.drewN n) B0 _ _ from r0)
      have hv1 := fun n => Kd.C_string (P := Tryd.prog) (c := d1) Tryd.underlying30 Tryd.underlying5 Tryd.underlying9 (show (Kd.int .u8).C (wr.drewN n) B1 _ _ from r1)
      obtain ⟨sx, hsx⟩ : ∃ sx, strOfNums x = sx := ⟨_, rfl⟩
      rw [hsx] at hv0 hv1
      have p0 : (0 : Int) ≤ (i : Int) := by omega
      have p1 : (i : Int) < (l.length : Int) := by omega
      clear hx hsx r0 r1 t0 t1
      go_wp2_with fail
      go_quiet (fail)
      go_wp2
      go_roundg (gk - 1)
      case measure => omega
      case rel => exact ⟨i + 1, by go_num, by omega, by omega, ⟨pw_below_drewN K.out _⟩⟩
    · have q1 : decide ((i : Int) < (l.length : Int)) = false := decide_eq_false (by omega)
      go_wp2
      go_ret
      exact ⟨rfl, K.out⟩
end Go.Proofs.YtlhjjjpldmekdaaDoor.PDsk.K
namespace Go.Proofs.YtlhjjjpldmekdaaDoor.PDsk.K
open Go.RowKit Go.Proofs.YtlhjjjpldmekdaaDoorW.PrintWords Go.Proofs.YtlhjjjpldmekdaaDoorW.PrintLast Go.Proofs.YtlhjjjpldmekdaaDoorW.PrintMore Go.Proofs.YtlhjjjpldmekdaaDoor.Err Go.Maps Go.Proofs.YtlhjjjpldmekdaaDoor.PLog
open Go.Proofs.YtlhjjjpldmekdaaDoor.PFn (encI encG zag encI_bytes encI_len)
set_option linter.unusedVariables false
set_option linter.unusedSimpArgs false

theorem encI_small (n : Int) (h0 : 0 ≤ n) (h1 : n < 1048576) : (encI n).length ≤ 3 := by
  have hz : zag n = (2 * n).toNat := by unfold zag; rw [if_pos h0]
  unfold encI
  rw [hz]
  obtain ⟨V, hV⟩ : ∃ V, (2 * n).toNat = V := ⟨_, rfl⟩
  rw [hV]
  have hV2 : V < 2097152 := by omega
  unfold encG
  split
  · simp
  · unfold encG
    split
    · simp
    · unfold encG
      split
      · simp
      · omega
theorem encI_one (n : Int) (h0 : 0 ≤ n) (h1 : n < 64) : (encI n).length = 1 := by
  have hz : zag n = (2 * n).toNat := by unfold zag; rw [if_pos h0]
  unfold encI
  rw [hz]
  unfold encG
  rw [if_pos (by omega)]
  rfl
theorem blkL_small (r k : Nat) (b : List Int) (hr : r < 1048576) (hk : k < 1048576) : (blkL (r : Int) b k).length ≤ 64 := by
  have h1 := encI_small (r : Int) (by omega) (by omega)
  have h2 := encI_small (k : Int) (by omega) (by omega)
  have h3 : (encI (lastI b k)).length = 1 := by unfold lastI; split; exact encI_one 1 (by omega) (by omega); exact encI_one 0 (by omega) (by omega)
  unfold blkL hd3
  simp only [List.length_append, part_len]
  omega
theorem blkL_bytes (r k : Nat) (b : List Int) (hr : r < 1048576) (hk : k < 1048576) (hb : ∀ x ∈ b, 0 ≤ x ∧ x ≤ 255) : ∀ x ∈ blkL (r : Int) b k, 0 ≤ x ∧ x ≤ 255 := by
  intro x hx
  unfold blkL hd3 at hx
  simp only [List.mem_append] at hx
  rcases hx with (h | h | h) | h
  · exact encI_bytes (by unfold Go.Proofs.YtlhjjjpldmekdaaDoor.PFn.okI; omega) x h
  · exact encI_bytes (by unfold Go.Proofs.YtlhjjjpldmekdaaDoor.PFn.okI; omega) x h
  · exact encI_bytes (ok_last b k) x h
  · exact hb x (List.mem_of_mem_drop (List.mem_of_mem_take h))
theorem okC.upd {C : CT} (h : okC C) (k : Int) (l : List Int) (hl : l.length ≤ 64) (hb : ∀ x ∈ l, 0 ≤ x ∧ x ≤ 255) : okC (updC C k l) := by
  intro j xs hj
  unfold updC at hj
  split at hj
  · obtain rfl := Option.some.inj hj; exact ⟨hl, hb⟩
  · exact h j xs hj
theorem wrS_room (s : Dk) (a n : Int) : (wrS s a n).2.1.room = s.room := by
  rcases wrS_cases s a n with h | h
  · exact h.2.2.2.2.1
  · exact h.2.2.2
theorem wrS_life (s : Dk) (a n : Int) (h : (wrS s a n).1 = none) : (wrS s a n).2.1.life = s.life ∧ (wrS s a n).2.1.down = false := by
  rcases wrS_cases s a n with h1 | ⟨⟨x, h1⟩, _⟩
  · have hd := h1.2.2.2.2.2
    unfold wrS at h ⊢
    split
    · rename_i h2
      rw [if_pos h2] at h
      unfold refE at h
      exfalso
      rcases met_cases s a n with h3 | h3 | h3
      · rw [h3] at h; cases h
      · rw [h3] at h; cases h
      · exact h2 h3
    · rename_i h2
      split
      · rename_i h3
        split
        · rename_i h4; rw [if_neg h2, if_pos h3, if_pos h4] at h; cases h
        · exact ⟨rfl, hd⟩
      · exact ⟨rfl, hd⟩
  · rw [h1] at h; cases h
theorem wrS_kept (s : Dk) (a n : Int) : ((wrS s a n).1 = none ↔ (wrS s a n).2.2 = true) := by
  rcases wrS_cases s a n with h | h
  · exact ⟨fun _ => h.2.1, fun _ => h.1⟩
  · obtain ⟨⟨x, h1⟩, h2, _⟩ := h
    exact ⟨(fun e => by rw [h1] at e; cases e), (fun e => by rw [h2] at e; cases e)⟩
theorem appGo_facts (rn next : Nat) (b : List Int) (hr : rn < 1048576) (hb : ∀ x ∈ b, 0 ≤ x ∧ x ≤ 255) (d : Nat) : ∀ (k : Nat) (s : Dk) (C : CT), k + d < 1048576 → okC C → (appGo (rn : Int) next b d k s C).2.1.room = s.room ∧ ((appGo (rn : Int) next b d k s C).1 = none → (appGo (rn : Int) next b d k s C).2.1.life = s.life) ∧ okC (appGo (rn : Int) next b d k s C).2.2 := by
  induction d with
  | zero => intro k s C _ h; exact ⟨rfl, fun _ => rfl, h⟩
  | succ d ih =>
    intro k s C hk hC
    rw [appGo_succ]
    have h1 := wrS_room s ((next + k : Nat) : Int) ((blkL (rn : Int) b k).length : Nat)
    have h2 := wrS_life s ((next + k : Nat) : Int) ((blkL (rn : Int) b k).length : Nat)
    have hC2 : ∀ kept : Bool, okC (if kept = true then updC C ((next + k : Nat) : Int) (blkL (rn : Int) b k) else C) := fun kept => by
      cases kept with
      | true => exact hC.upd _ _ (blkL_small rn k b hr (by omega)) (blkL_bytes rn k b hr (by omega) hb)
      | false => exact hC
    obtain ⟨⟨e, s', kept⟩, hw⟩ : ∃ r, wrS s ((next + k : Nat) : Int) ((blkL (rn : Int) b k).length : Nat) = r := ⟨_, rfl⟩
    rw [hw] at h1 h2 ⊢
    cases e with
    | none =>
      have := ih (k + 1) s' _ (by omega) (hC2 kept)
      exact ⟨this.1.trans h1, fun h => (this.2.1 h).trans (h2 rfl).1, this.2.2⟩
    | some x => exact ⟨h1, (fun h => by cases h), hC2 kept⟩
theorem appS_facts (s : Dk) (C : CT) (life : Int) (recs next : Nat) (b : List Int) (hr : recs + 1 < 1048576) (hl : b.length ≤ 100000) (hb : ∀ x ∈ b, 0 ≤ x ∧ x ≤ 255) (hC : okC C) : (appS s C life recs next b).2.1.room = s.room ∧ ((appS s C life recs next b).1 = none → (appS s C life recs next b).2.1.life = s.life) ∧ okC (appS s C life recs next b).2.2 := by
  unfold appS
  split
  · exact ⟨rfl, fun _ => rfl, hC⟩
  · split
    · exact ⟨rfl, fun _ => rfl, hC⟩
    · exact appGo_facts (recs + 1) next b hr hb _ 0 s C (by unfold nB; omega) hC
theorem _root_.Go.Proofs.YtlhjjjpldmekdaaDoor.PLog.Log3.last' {C D : Int → Option (List Int)} {room : Nat} {l : List (List Int)} (h : Log3 C room l) (b : List Int) (hf : need l + nB b.length ≤ room) (hl : l.length + 1 ≤ 65536) (h0 : ∀ j : Nat, j < need l → D (j : Int) = C (j : Int)) (hC : ∀ k, k < nB b.length → D ((need l + k : Nat) : Int) = some (blkL ((l.length + 1 : Nat) : Int) b k)) (hrest : ∀ j : Nat, need l + nB b.length ≤ j → j < room → D (j : Int) = C (j : Int)) : Log3 D room (l ++ [b]) := by
  refine ⟨⟨by rw [need_snoc]; exact hf, h.fits.2.1, by simp; omega⟩, (h.laid.congr (fun j _ h2 => h0 j (by omega))).snoc (fun k hk => by have := hC k hk; simpa using this), fun j h1 h2 raw hr => ?_⟩
  rw [need_snoc] at h1
  rw [hrest j h1 h2] at hr
  have := h.rest j (by omega) h2 raw hr
  rw [show (l ++ [b]).length + 1 = l.length + 1 + 1 from by simp]
  exact this.more (by omega)
/-- The records that a log has, after Append: one more, or those. -/
theorem appGo_log3 {l : List (List Int)} {b : List Int} {R : Nat} (hf : need l + nB b.length ≤ R) (hR : R ≤ 65536) (hl : l.length + 1 ≤ 65536) (d : Nat) : ∀ (k : Nat) (s : Dk) (C : CT), k + d = nB b.length → (1 ≤ d → Log3 C R l) → (d = 0 → Log3 C R (l ++ [b])) → (∀ j, j < k → C ((need l + j : Nat) : Int) = some (blkL ((l.length + 1 : Nat) : Int) b j)) →
    ((appGo ((l.length + 1 : Nat) : Int) (need l) b d k s C).1 = none → Log3 (appGo ((l.length + 1 : Nat) : Int) (need l) b d k s C).2.2 R (l ++ [b])) ∧ (∀ x, (appGo ((l.length + 1 : Nat) : Int) (need l) b d k s C).1 = some x → Log3 (appGo ((l.length + 1 : Nat) : Int) (need l) b d k s C).2.2 R l) := by
  induction d with
  | zero => intro k s C _ _ h0 _; exact ⟨fun _ => h0 rfl, (fun x h => by cases h)⟩
  | succ d ih =>
    intro k s C hk h1 _ hC
    have h3 := h1 (by omega)
    have hkept := wrS_kept s ((need l + k : Nat) : Int) ((blkL ((l.length + 1 : Nat) : Int) b k).length : Nat)
    rw [appGo_succ]
    obtain ⟨⟨e, s', kept⟩, hw⟩ : ∃ r, wrS s ((need l + k : Nat) : Int) ((blkL ((l.length + 1 : Nat) : Int) b k).length : Nat) = r := ⟨_, rfl⟩
    rw [hw] at hkept ⊢
    cases e with
    | some x =>
      have : kept = false := by cases kept with
        | false => rfl
        | true => have := hkept.2 rfl; cases this
      subst this
      exact ⟨(fun h => by cases h), fun _ _ => h3⟩
    | none =>
      have : kept = true := hkept.1 rfl
      subst this
      have hne : ∀ j, j ≠ k → updC C ((need l + k : Nat) : Int) (blkL ((l.length + 1 : Nat) : Int) b k) ((need l + j : Nat) : Int) = C ((need l + j : Nat) : Int) := fun j hj => by unfold updC; rw [if_neg (by omega)]
      have heq : updC C ((need l + k : Nat) : Int) (blkL ((l.length + 1 : Nat) : Int) b k) ((need l + k : Nat) : Int) = some (blkL ((l.length + 1 : Nat) : Int) b k) := by unfold updC; rw [if_pos rfl]
      have hall : ∀ j, j < k + 1 → updC C ((need l + k : Nat) : Int) (blkL ((l.length + 1 : Nat) : Int) b k) ((need l + j : Nat) : Int) = some (blkL ((l.length + 1 : Nat) : Int) b j) := fun j hj => by
        by_cases h : j = k
        · subst h; exact heq
        · rw [hne j h]; exact hC j (by omega)
      simp only [if_true]
      refine ih (k + 1) s' _ (by omega) (fun hd => ?_) (fun hd => ?_) hall
      · exact h3.put b k (by omega) (by omega)
      · refine h3.last' b hf hl (fun j hj => ?_) (fun j hj => hall j (by omega)) (fun j h4 h5 => ?_)
        · unfold updC
          rw [if_neg (by omega)]
        · unfold updC
          rw [if_neg (by omega)]
theorem appS_log3 {s : Dk} {C : CT} {life : Int} {l : List (List Int)} {b : List Int} {R : Nat} (h : Log3 C R l) (hR : s.room = (R : Int)) (hl : l.length + 1 ≤ 65536) :
    ((appS s C life l.length (need l) b).1 = none → Log3 (appS s C life l.length (need l) b).2.2 R (l ++ [b])) ∧ (∀ x, (appS s C life l.length (need l) b).1 = some x → Log3 (appS s C life l.length (need l) b).2.2 R l) := by
  have := h.fits
  unfold appS
  split
  · exact ⟨(fun h => by cases h), fun _ _ => h⟩
  · split
    · exact ⟨(fun h => by cases h), fun _ _ => h⟩
    · rename_i h2
      have hpos := nB_pos b.length
      exact appGo_log3 (by omega) this.2.1 hl _ 0 s C (by omega) (fun _ => h) (fun h0 => by omega) (fun j hj => by omega)
end Go.Proofs.YtlhjjjpldmekdaaDoor.PDsk.K
