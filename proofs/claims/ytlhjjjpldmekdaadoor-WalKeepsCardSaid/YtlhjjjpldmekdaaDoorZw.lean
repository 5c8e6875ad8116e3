/- Proved: how numbers and rows are written and read; condition: bytes, numbers that fit. -/
import Derived.Test.YtlhjjjpldmekdaaDoorCode
import Derived.Test.YtlhjjjpldmekdaaDoorPFnx
import Derived.IntWalk
namespace Go.Proofs.YtlhjjjpldmekdaaDoor.PFn
open Go.RowKit Go.Proofs.YtlhjjjpldmekdaaDoorW.PrintWords Go.Proofs.YtlhjjjpldmekdaaDoorW.PrintLast Go.Proofs.YtlhjjjpldmekdaaDoorW.PrintMore Go.Proofs.YtlhjjjpldmekdaaDoor.Err
attribute [local go_sem] max2_int min2_int max_two min_two max_three min_three max_four min_four
set_option linter.unusedVariables false
set_option linter.unusedSimpArgs false

theorem u64_or_nat (a b : Nat) (ha : a < 2 ^ 64) (hb : b < 2 ^ 64) : Go.bits .or .u64 (a : Int) (b : Int) = ((a ||| b : Nat) : Int) := by
  have h1 : (BitVec.ofInt 64 (a : Int)).toNat = a := by rw [BitVec.toNat_ofInt]; omega
  have h2 : (BitVec.ofInt 64 (b : Int)).toNat = b := by rw [BitVec.toNat_ofInt]; omega
  show IntKind.u64.wrap ((BitVec.ofInt 64 (a : Int) ||| BitVec.ofInt 64 (b : Int)).toNat : Nat) = _
  rw [BitVec.toNat_or, h1, h2]
  have := Nat.or_lt_two_pow ha hb
  exact IntWalk.u64_in _ ⟨by omega, by omega⟩
theorem u64_or_add (u x n : Nat) (hu : u < 2 ^ n) (hx : x * 2 ^ n + u < 2 ^ 64) : Go.bits .or .u64 (u : Int) ((x * 2 ^ n : Nat) : Int) = ((u + x * 2 ^ n : Nat) : Int) := by
  rw [u64_or_nat _ _ (by omega) (by omega)]
  have h := Nat.two_pow_add_eq_or_of_lt hu x
  rw [Nat.or_comm, Nat.mul_comm x, ← h]; congr 1; omega
theorem u64_and1 (u : Nat) (hu : u < 2 ^ 64) : Go.bits .and .u64 (u : Int) 1 = ((u % 2 : Nat) : Int) := by
  have h1 : (BitVec.ofInt 64 (u : Int)).toNat = u := by rw [BitVec.toNat_ofInt]; omega
  have h2 : (BitVec.ofInt 64 1).toNat = 2 ^ 1 - 1 := by decide
  show IntKind.u64.wrap ((BitVec.ofInt 64 (u : Int) &&& BitVec.ofInt 64 1).toNat : Nat) = _
  rw [BitVec.toNat_and, h1, h2, Nat.and_two_pow_sub_one_eq_mod]
  exact IntWalk.u64_in _ ⟨by omega, by omega⟩
theorem u8_and127 (c : Int) (h0 : 0 ≤ c) (h1 : c < 256) : Go.bits .and .u8 c 127 = c % 128 := bits_mask .u8 8 (by decide) wraps_u8 7 (by decide) c h0 h1
theorem i64_xor0 (x : Int) (h : -9223372036854775808 ≤ x ∧ x ≤ 9223372036854775807) : Go.bits .xor .i64 x 0 = x := by
  show IntKind.i64.wrap ((BitVec.ofInt 64 x ^^^ BitVec.ofInt 64 0).toNat : Nat) = x
  rw [show BitVec.ofInt 64 0 = 0#64 by decide, BitVec.xor_zero, BitVec.toNat_ofInt, IntKind.wrap_i64]
  omega
theorem i64_xorm1 (x : Int) (h : -9223372036854775808 ≤ x ∧ x ≤ 9223372036854775807) : Go.bits .xor .i64 x (-1) = -x - 1 := by
  show IntKind.i64.wrap ((BitVec.ofInt 64 x ^^^ BitVec.ofInt 64 (-1)).toNat : Nat) = -x - 1
  rw [show BitVec.ofInt 64 (-1) = BitVec.allOnes 64 by decide, BitVec.xor_allOnes, BitVec.toNat_not, BitVec.toNat_ofInt, IntKind.wrap_i64]
  omega
/-- What a number's groups stand for. -/
def zig (U : Nat) : Int := if U % 2 = 0 then ((U / 2 : Nat) : Int) else -((U / 2 : Nat) : Int) - 1
theorem zig_of (U : Nat) (hU : U < 2 ^ 64) : Go.bits .xor .i64 (wrap64 ((U : Int) / 2)) (wrap64 (-wrap64 (Go.bits .and .u64 (U : Int) 1))) = zig U := by
  have e : wrap64 ((U : Int) / 2) = ((U / 2 : Nat) : Int) := by unfold wrap64; omega
  rw [u64_and1 U hU, e]
  unfold zig
  rcases Nat.mod_two_eq_zero_or_one U with h | h
  · rw [if_pos h, h, show wrap64 (-wrap64 ((0 : Nat) : Int)) = 0 by unfold wrap64; omega, i64_xor0 _ (by omega)]
  · rw [if_neg (by omega), h, show wrap64 (-wrap64 ((1 : Nat) : Int)) = -1 by unfold wrap64; omega, i64_xorm1 _ (by omega)]

/-- An error's block, if it has one, is none of the elder ones. -/
def ErrNew (n : Nat) (v : Value) : Prop := ∀ (t : TypeId) (b : Nat), v = .iface t (.pointer (some ⟨b, 0, none⟩)) → n ≤ b
theorem ErrNew.nil {n : Nat} : ErrNew n .nilIface := fun _ _ h => by cases h
theorem ErrNew.le {n m : Nat} {v : Value} (h : ErrNew n v) (hm : m ≤ n) : ErrNew m v := fun t b e => Nat.le_trans hm (h t b e)
def wireS : ByteArray := ⟨#[119, 105, 114, 101]⟩
theorem fault_calls (a n : Int) (w : World) : Calls Tryd.prog 115 #[.int .i64 a, .int .i64 n] w fun e w' => ∃ v, e = .returned v ∧ IsErr w' (.fault wireS a (.num n)) v ∧ Below w.heap.size w w' ∧ ErrNew w.heap.size v := by
  go_enter Tryd.func115, Tryd.ntmps115
  go_wp2
  go_ret
  exact ⟨_, rfl, ⟨w.heap.size, _, rfl, heap_alloc_new w _, rfl⟩, (Below.refl _ _).alloc (Nat.le_refl _) _, fun _ _ h => by cases h; exact Nat.le_refl _⟩

set_option maxHeartbeats 4000000 in
theorem code_law (x : Option Er) (v : Value) (w : World) (hx : IsErr? w x v) (hg : Laid w) : Calls Tryd.prog 27 #[v] w fun e w' => e = .returned (.int .i64 (codeOf x)) ∧ Below w.heap.size w w' := by
  have HX := Aside0.mk hx
  have HG := Aside0.mk hg
  clear hx hg
  go_enter Tryd.func27, Tryd.ntmps27
  go_wp2_with (first | (go_at_call 78; refine (code_calls x _ _ HX.out HG.out).mono ?_; rintro e w' ⟨rfl, hb⟩))
  go_ret
  exact ⟨rfl, by assumption⟩
theorem ta58 (x : Value) (w : World) : (Instr.typeAssert (.iface 128 x) 25 128 true).run Tryd.prog w = .ok (.tuple #[x, .bool true]) w := by kernel_rfl
theorem ta52 (x : Value) (w : World) : (Instr.typeAssert (.iface 113 x) 25 128 true).run Tryd.prog w = .ok (.tuple #[.pointer none, .bool false]) w := by kernel_rfl
theorem tanil (w : World) : (Instr.typeAssert .nilIface 25 128 true).run Tryd.prog w = .ok (.tuple #[.pointer none, .bool false]) w := by kernel_rfl
def kindOf (c : Int) (i : Nat) : Int := if i = 9 ∧ 1 < c then 0 else if c = 0 ∧ 0 < i then 1 else if c < 128 then 2 else 3
set_option maxHeartbeats 4000000 in
theorem kind_calls (c : Int) (i : Nat) (k : Int) (hk : kindOf c i = k) (w : World) : Calls Tryd.prog 116 #[.int .u8 c, .int .i64 (i : Int)] w fun e w' => e = .returned (.int .i64 k) ∧ Drawn0 w w' := by
  subst hk
  have HK := Aside0.mk (rfl : kindOf c i = kindOf c i)
  clear HK
  cases h9 : ((i : Int) == 9) <;> cases h1 : decide (1 < c) <;> cases h0 : (c == 0) <;> cases hp : decide (0 < i) <;> cases h2 : decide (c < 128)
  all_goals
    first
    | (exfalso; simp at h9 h1 h0 hp h2; omega)
    | skip
  all_goals
    have HF := Aside0.mk (show kindOf c i = kindOf c i from rfl)
    go_enter Tryd.func116, Tryd.ntmps116
    go_wp2
    repeat (go_quiet (fail); try go_wp2)
    go_ret
    refine ⟨?_, by repeat (first | exact Drawn0.refl _ | apply Drawn0.step | exact ⟨_, rfl⟩)⟩
    congr 2
    unfold kindOf
    simp at h9 h1 h0 hp h2
    simp [h9, h1, h0, hp, h2]
    try omega
theorem drewN_below {w w' : World} {m : Nat} (hb : Below (w.drewN m).heap.size (w.drewN m) w') : Below w.heap.size w w' := below_step (by apply pw_below_drewN; exact Below.refl _ _) hb
/-! ### ReadInt -/
/-- What is read from the i-th group on, u having been read: the number, the place behind, the error (0: none). -/
def rdGo (l : List Int) (a : Nat) : Nat → Nat → Nat → Int × Int × Int
  | 0, _, _ => (0, 0, 10)
  | d + 1, u, i =>
    if kindOf (rd l (a + i : Nat)) i = 0 then (0, 0, 11)
    else if kindOf (rd l (a + i : Nat)) i = 1 then (0, 0, 12)
    else if kindOf (rd l (a + i : Nat)) i = 2 then (zig (u + (rd l (a + i : Nat)).toNat * 2 ^ (7 * i)), ((a + i + 1 : Nat) : Int), 0)
    else rdGo l a d (u + ((rd l (a + i : Nat)).toNat % 128) * 2 ^ (7 * i)) (i + 1)
def readI (l : List Int) (at_ : Int) : Int × Int × Int := if at_ < 0 ∨ (l.length : Int) < at_ then (0, 0, 1) else rdGo l at_.toNat (l.length - at_.toNat) 0 0
/-- wire's error with such a number, at a place; 0: none. -/
def werr (at_ e : Int) : Option Er := if e = 0 then none else some (.fault wireS at_ (.num e))

theorem rdGo_e (l : List Int) (a d : Nat) : ∀ u i, (rdGo l a d u i).2.2 = 0 ∨ ((rdGo l a d u i).1 = 0 ∧ (rdGo l a d u i).2.1 = 0) := by
  induction d with
  | zero => intro u i; simp [rdGo]
  | succ d ih =>
    intro u i
    unfold rdGo
    repeat' split
    all_goals first | simp; done | exact ih _ _

theorem rd_byte {l : List Int} (hb : ∀ x ∈ l, 0 ≤ x ∧ x ≤ 255) (i : Int) : 0 ≤ rd l i ∧ rd l i ≤ 255 := by
  unfold rd
  by_cases h : i.toNat < l.length
  · rw [List.getD_eq_getElem?_getD, List.getElem?_eq_getElem h]; exact hb _ (List.getElem_mem h)
  · rw [List.getD_eq_getElem?_getD, List.getElem?_eq_none (by omega)]; exact ⟨by decide, by decide⟩

theorem kindOf_cases (c : Int) (i : Nat) : kindOf c i = 0 ∨ kindOf c i = 1 ∨ kindOf c i = 2 ∨ kindOf c i = 3 := by
  unfold kindOf; repeat' split
  all_goals simp

theorem pow7_le (i : Nat) (h : i ≤ 9) : 2 ^ (7 * i) ≤ 9223372036854775808 := by
  have : 2 ^ (7 * i) ≤ 2 ^ 63 := Nat.pow_le_pow_right (by decide) (by omega)
  omega
theorem pow7_le8 (i : Nat) (h : i ≤ 8) : 2 ^ (7 * i) ≤ 72057594037927936 := by
  have : 2 ^ (7 * i) ≤ 2 ^ 56 := Nat.pow_le_pow_right (by decide) (by omega)
  omega

set_option maxHeartbeats 4000000 in
set_option maxRecDepth 100000 in
theorem readInt_in (A0 : Option Addr) (c0 : Nat) (l0 : List Int) (a1 : Nat) (w : World) (hr0 : Kd.C (Kd.int .u8) w A0 l0.length l0) (hc0 : l0.length ≤ c0) (h1 : a1 ≤ l0.length) (hl : l0.length ≤ 4611686018427387904) (hbyte : ∀ x ∈ l0, 0 ≤ x ∧ x ≤ 255) :
    Calls Tryd.prog 103 #[.slice A0 l0.length c0, .int .i64 (a1 : Int)] w fun e w' => ∃ v, e = .returned (.tuple #[.int .i64 (rdGo l0 a1 (l0.length - a1) 0 0).1, .int .i64 (rdGo l0 a1 (l0.length - a1) 0 0).2.1, v]) ∧ IsErr? w' (werr a1 (rdGo l0 a1 (l0.length - a1) 0 0).2.2) v ∧ Below w.heap.size w w' ∧ ErrNew w.heap.size v := by
  have c4b0 : decide ((a1 : Int) < 0) = false := decide_eq_false (by omega)
  have c4b1 : decide (l0.length < a1) = false := decide_eq_false (by omega)
  have HR0 := Aside0.mk hr0
  have HBY := Aside0.mk hbyte
  clear hr0 hbyte
  generalize hR : rdGo l0 a1 (l0.length - a1) 0 0 = R
  have HR := Aside0.mk hR
  clear hR
  go_enter Tryd.func103, Tryd.ntmps103
  go_wp2
  go_loopg [7, 8] l0.length (fun kq v7 v8 w' => ∃ (u : Nat) (i : Nat), v7 = .int .u64 (u : Int) ∧ v8 = .int .i64 (i : Int) ∧ i ≤ 9 ∧ Drawn0 w w' ∧ a1 + i ≤ l0.length ∧ Aside0 (rdGo l0 a1 (l0.length - a1 - i) u i = R) ∧ l0.length - a1 - i ≤ kq ∧ Aside0 (u < 2 ^ (7 * i)))
  case atStart => exact ⟨0, 0, rfl, rfl, by omega, Drawn0.refl _, by omega, ⟨HR.out⟩, by omega, ⟨by simp⟩⟩
  case round =>
    clear HR
    obtain ⟨u, i, rfl, rfl, hi, ⟨m, rfl⟩, hai, HG, hkq, HU⟩ := hrel
    have ws : IntKind.i64.wrap ((a1 : Int) + i) = (a1 : Int) + i := IntWalk.i64_in _ (by omega)
    by_cases hlt : a1 + i < l0.length
    · obtain ⟨ad, e161, hx161⟩ := Kd.at_int HR0.out ((a1 : Int) + i) (by omega) (by omega)
      subst e161
      have hcb := rd_byte HBY.out ((a1 : Int) + i)
      have HG' := HG.out
      clear HG
      rw [show l0.length - a1 - i = (l0.length - a1 - (i + 1)) + 1 by omega] at HG'
      simp only [rdGo] at HG'
      rw [show ((a1 + i : Nat) : Int) = (a1 : Int) + i by omega] at HG'
      rw [show ((a1 : Int) + i).toNat = a1 + i by omega] at hx161
      obtain ⟨c, hc⟩ : ∃ c, c = rd l0 ((a1 : Int) + i) := ⟨_, rfl⟩
      rw [← hc] at hcb hx161 HG'
      clear hc
      generalize hk : kindOf c i = k at HG'
      have HK := Aside0.mk hk
      have hk4 : k = 0 ∨ k = 1 ∨ k = 2 ∨ k = 3 := by rw [← hk]; exact kindOf_cases c i
      clear hk
      rcases hk4 with rfl | rfl | rfl | rfl
      · obtain rfl : (0, 0, 11) = R := by simpa using HG'
        clear HG'
        go_wp2_with (first | (go_at_call 116; refine (kind_calls _ i _ HK.out _).mono ?_; rintro e w' ⟨rfl, ⟨n, rfl⟩⟩) | (go_at_call 115; refine (fault_calls _ _ _).mono ?_; rintro e w' ⟨v, rfl, hE, hb, hN⟩))
        go_ret3
        exact ⟨v, rfl, hE, drewN_below hb, hN⟩
      · obtain rfl : (0, 0, 12) = R := by simpa using HG'
        clear HG'
        go_wp2_with (first | (go_at_call 116; refine (kind_calls _ i _ HK.out _).mono ?_; rintro e w' ⟨rfl, ⟨n, rfl⟩⟩) | (go_at_call 115; refine (fault_calls _ _ _).mono ?_; rintro e w' ⟨v, rfl, hE, hb, hN⟩))
        go_ret3
        exact ⟨v, rfl, hE, drewN_below hb, hN⟩
      · have hlast : c < 128 ∧ (i = 9 → c ≤ 1) := by
          have := HK.out
          unfold kindOf at this
          constructor
          · repeat' split at this
            all_goals omega
          · intro h9
            by_cases h : 1 < c
            · rw [if_pos ⟨h9, h⟩] at this; omega
            · omega
        have hpw := pow7_le i hi
        have hmul : c.toNat * 2 ^ (7 * i) + u < 18446744073709551616 := by
          have := HU.out
          by_cases h9 : i = 9
          · have h1 : c.toNat ≤ 1 := by have := hlast.2 h9; omega
            have := Nat.mul_le_mul_right (2 ^ (7 * i)) h1
            omega
          · have := pow7_le8 i (by omega)
            have h1 : c.toNat ≤ 127 := by omega
            have := Nat.mul_le_mul_right (2 ^ (7 * i)) h1
            omega
        have hor : Go.bits .or .u64 (u : Int) (IntKind.u64.wrap (c * 2 ^ (7 * i))) = ((u + c.toNat * 2 ^ (7 * i) : Nat) : Int) := by
          rw [show c = ((c.toNat : Nat) : Int) by omega, Int.toNat_natCast, show ((c.toNat : Nat) : Int) * 2 ^ (7 * i) = ((c.toNat * 2 ^ (7 * i) : Nat) : Int) by simp, IntWalk.u64_in _ ⟨by omega, by omega⟩]
          exact u64_or_add u c.toNat (7 * i) HU.out (by omega)
        have HOR := Aside0.mk hor
        have HM := Aside0.mk hmul
        obtain rfl : (zig (u + c.toNat * 2 ^ (7 * i)), ((a1 + i + 1 : Nat) : Int), 0) = R := by simpa using HG'
        clear HG' hor hmul hpw hlast
        go_wp2_with (first | (go_at_call 116; refine (kind_calls _ i _ HK.out _).mono ?_; rintro e w' ⟨rfl, ⟨n, rfl⟩⟩) | (go_at_call 115; refine (fault_calls _ _ _).mono ?_; rintro e w' ⟨v, rfl, hE, hb, hN⟩))
        go_ret3
        refine ⟨.nilIface, ?_, rfl, ?_, ErrNew.nil⟩
        · rw [HOR.out, zig_of _ (by have := HM.out; omega)]
          norm_cast
        · exact Drawn0.below ⟨_, rfl⟩
      · have hlast : i ≤ 8 ∧ 128 ≤ c := by
          have := HK.out
          unfold kindOf at this
          by_cases h : i = 9 ∧ 1 < c
          · rw [if_pos h] at this; omega
          · rw [if_neg h] at this
            repeat' split at this
            all_goals omega
        have hand : Go.bits .and .u8 c 127 = c % 128 := u8_and127 c hcb.1 (by omega)
        have hcn : IntKind.u64.wrap (c % 128) = ((c.toNat % 128 : Nat) : Int) := by rw [IntWalk.u64_in _ ⟨by omega, by omega⟩]; omega
        have hpw := pow7_le8 i hlast.1
        have hmul : (c.toNat % 128) * 2 ^ (7 * i) + u < 18446744073709551616 := by
          have := HU.out
          have h1 : c.toNat % 128 ≤ 127 := by omega
          have := Nat.mul_le_mul_right (2 ^ (7 * i)) h1
          omega
        have hor : Go.bits .or .u64 (u : Int) (IntKind.u64.wrap (IntKind.u64.wrap (Go.bits .and .u8 c 127) * 2 ^ (7 * i))) = ((u + (c.toNat % 128) * 2 ^ (7 * i) : Nat) : Int) := by
          rw [hand, hcn, show ((c.toNat % 128 : Nat) : Int) * 2 ^ (7 * i) = (((c.toNat % 128) * 2 ^ (7 * i) : Nat) : Int) by simp, IntWalk.u64_in _ ⟨by omega, by omega⟩]
          exact u64_or_add u _ (7 * i) HU.out (by omega)
        have hu' : u + (c.toNat % 128) * 2 ^ (7 * i) < 2 ^ (7 * (i + 1)) := by
          have := HU.out
          have e : 2 ^ (7 * (i + 1)) = 128 * 2 ^ (7 * i) := by rw [show 7 * (i + 1) = 7 * i + 7 by omega, Nat.pow_add, Nat.mul_comm]
          have h1 : c.toNat % 128 ≤ 127 := by omega
          have := Nat.mul_le_mul_right (2 ^ (7 * i)) h1
          omega
        have HOR := Aside0.mk hor
        have HU' := Aside0.mk hu'
        have HG2 : rdGo l0 a1 (l0.length - a1 - (i + 1)) (u + (c.toNat % 128) * 2 ^ (7 * i)) (i + 1) = R := by simpa using HG'
        have HG3 := Aside0.mk HG2
        clear HG' HG2 hor hcn hmul hpw hand hu' HU
        go_wp2_with (first | (go_at_call 116; refine (kind_calls _ i _ HK.out _).mono ?_; rintro e w' ⟨rfl, ⟨n, rfl⟩⟩) | (go_at_call 115; refine (fault_calls _ _ _).mono ?_; rintro e w' ⟨v, rfl, hE, hb, hN⟩))
        go_roundg (gk - 1)
        case measure => omega
        case rel => exact ⟨u + (c.toNat % 128) * 2 ^ (7 * i), i + 1, by rw [HOR.out], by go_num, by omega, ⟨_, rfl⟩, by omega, ⟨HG3.out⟩, by omega, ⟨HU'.out⟩⟩
    · have hz : l0.length - a1 - i = 0 := by omega
      have HG' := HG.out
      rw [hz] at HG'
      obtain rfl : (0, 0, 10) = R := by simpa [rdGo] using HG'
      clear HG' HG hz
      go_wp2_with (first | (go_at_call 115; refine (fault_calls _ _ _).mono ?_; rintro e w' ⟨v, rfl, hE, hb, hN⟩))
      go_ret3
      exact ⟨v, rfl, hE, drewN_below hb, hN⟩

theorem readInt_out (A0 : Option Addr) (c0 : Nat) (l0 : List Int) (a1 : Int) (w : World) (h : a1 < 0 ∨ (l0.length : Int) < a1) (hl : l0.length ≤ 4611686018427387904) :
    Calls Tryd.prog 103 #[.slice A0 l0.length c0, .int .i64 a1] w fun e w' => ∃ v, e = .returned (.tuple #[.int .i64 0, .int .i64 0, v]) ∧ IsErr w' (.fault wireS a1 (.num 1)) v ∧ Below w.heap.size w w' ∧ ErrNew w.heap.size v := by
  by_cases hn : a1 < 0
  · have c4b0 : decide (a1 < 0) = true := decide_eq_true hn
    clear h
    go_enter Tryd.func103, Tryd.ntmps103
    go_wp2_with (first | (go_at_call 115; refine (fault_calls _ _ _).mono ?_; rintro e w' ⟨v, rfl, hE, hb, hN⟩))
    go_ret3
    exact ⟨v, rfl, hE, hb, hN⟩
  · have c4b0 : decide (a1 < 0) = false := decide_eq_false hn
    have c4b1 : decide ((l0.length : Int) < a1) = true := decide_eq_true (by omega)
    clear h
    go_enter Tryd.func103, Tryd.ntmps103
    go_wp2_with (first | (go_at_call 115; refine (fault_calls _ _ _).mono ?_; rintro e w' ⟨v, rfl, hE, hb, hN⟩))
    go_ret3
    exact ⟨v, rfl, hE, hb, hN⟩

/-- wire.ReadInt, at whatever place. -/
theorem readInt_calls (A0 : Option Addr) (c0 : Nat) (l0 : List Int) (a1 : Int) (w : World) (hr0 : Kd.C (Kd.int .u8) w A0 l0.length l0) (hc0 : l0.length ≤ c0) (hl : l0.length ≤ 4611686018427387904) (hbyte : ∀ x ∈ l0, 0 ≤ x ∧ x ≤ 255) :
    Calls Tryd.prog 103 #[.slice A0 l0.length c0, .int .i64 a1] w fun e w' => ∃ v, e = .returned (.tuple #[.int .i64 (readI l0 a1).1, .int .i64 (readI l0 a1).2.1, v]) ∧ IsErr? w' (werr a1 (readI l0 a1).2.2) v ∧ Below w.heap.size w w' ∧ ErrNew w.heap.size v := by
  unfold readI
  by_cases h : a1 < 0 ∨ (l0.length : Int) < a1
  · rw [if_pos h]
    exact readInt_out A0 c0 l0 a1 w h hl
  · rw [if_neg h]
    obtain ⟨m, rfl⟩ := Int.eq_ofNat_of_zero_le (show 0 ≤ a1 by omega)
    exact readInt_in A0 c0 l0 m w hr0 hc0 (by omega) hl hbyte
end Go.Proofs.YtlhjjjpldmekdaaDoor.PFn
namespace Go.Proofs.YtlhjjjpldmekdaaDoor.PFn
open Go.RowKit Go.Proofs.YtlhjjjpldmekdaaDoorW.PrintWords Go.Proofs.YtlhjjjpldmekdaaDoorW.PrintLast Go.Proofs.YtlhjjjpldmekdaaDoorW.PrintMore Go.Proofs.YtlhjjjpldmekdaaDoor.Err
attribute [local go_sem] max2_int min2_int max_two min_two max_three min_three max_four min_four
set_option linter.unusedVariables false
set_option linter.unusedSimpArgs false
theorem werr_no {w : World} {a e : Int} {v : Value} (h : IsErr? w (werr a e) v) (he : e = 0) : v = .nilIface := by
  unfold werr at h; rw [if_pos he] at h; exact h
theorem werr_yes {w : World} {a e : Int} {v : Value} (h : IsErr? w (werr a e) v) (he : e ≠ 0) : IsErr w (.fault wireS a (.num e)) v := by
  unfold werr at h; rw [if_neg he] at h; exact h
theorem werr_put {w : World} {a e : Int} {v : Value} (h : IsErr w (.fault wireS a (.num e)) v) (he : e ≠ 0) : IsErr? w (werr a e) v := by
  unfold werr; rw [if_neg he]; exact h
theorem IsErr_set {w : World} {x : Er} {v : Value} (h : IsErr w x v) {B j : Nat} {u : Value} {cs : Array Value} {t : TypeId} (hp : w.heap[B]? = some (.cells cs t (0, 0))) (ht : t ≠ 139) : IsErr (w.setCell ⟨B, j, none⟩ u) x v :=
  h.step fun b cs' hb => by
    have hne : b ≠ B := by
      rintro rfl
      rw [hb] at hp
      simp only [Option.some.injEq, Obj.cells.injEq] at hp
      exact ht hp.2.1.symm
    rw [Below.heap_setCell w ⟨B, j, none⟩ u b hne]; exact hb
theorem facts3 {W : World} {B : Nat} {t : TypeId} {v0 v1 v2 : Value} (h : W.heap[B]? = some (.cells #[v0, v1, v2] t (0, 0))) :
    W.cell? ⟨B, 0, none⟩ = some v0 ∧ W.cell? ⟨B, 1, none⟩ = some v1 ∧ W.cell? ⟨B, 2, none⟩ = some v2 ∧ W.frozen? ⟨B, 0, none⟩ = false ∧ W.frozen? ⟨B, 1, none⟩ = false ∧ W.frozen? ⟨B, 2, none⟩ = false ∧ B < W.heap.size := by
  refine ⟨blk_cell h 0 _ rfl, blk_cell h 1 _ rfl, blk_cell h 2 _ rfl, ?_, ?_, ?_, (Array.getElem?_eq_some_iff.1 h).1⟩ <;> simp [World.frozen?, h]
theorem set3 {W : World} {B : Nat} {t : TypeId} {v0 v1 v2 : Value} (h : W.heap[B]? = some (.cells #[v0, v1, v2] t (0, 0))) (u : Value) :
    (W.setCell ⟨B, 0, none⟩ u).heap[B]? = some (.cells #[u, v1, v2] t (0, 0)) ∧ (W.setCell ⟨B, 1, none⟩ u).heap[B]? = some (.cells #[v0, u, v2] t (0, 0)) ∧ (W.setCell ⟨B, 2, none⟩ u).heap[B]? = some (.cells #[v0, v1, u] t (0, 0)) := by
  refine ⟨?_, ?_, ?_⟩ <;> rw [heap_setCell_same _ _ _ _ _ _ h] <;> simp [Array.setIfInBounds]

theorem facts2 {W : World} {B : Nat} {t : TypeId} {v0 v1 : Value} (h : W.heap[B]? = some (.cells #[v0, v1] t (0, 0))) :
    W.cell? ⟨B, 0, none⟩ = some v0 ∧ W.cell? ⟨B, 1, none⟩ = some v1 ∧ W.frozen? ⟨B, 0, none⟩ = false ∧ W.frozen? ⟨B, 1, none⟩ = false ∧ B < W.heap.size := by
  refine ⟨blk_cell h 0 _ rfl, blk_cell h 1 _ rfl, ?_, ?_, (Array.getElem?_eq_some_iff.1 h).1⟩ <;> simp [World.frozen?, h]
theorem set2 {W : World} {B : Nat} {t : TypeId} {v0 v1 : Value} (h : W.heap[B]? = some (.cells #[v0, v1] t (0, 0))) (u : Value) :
    (W.setCell ⟨B, 0, none⟩ u).heap[B]? = some (.cells #[u, v1] t (0, 0)) ∧ (W.setCell ⟨B, 1, none⟩ u).heap[B]? = some (.cells #[v0, u] t (0, 0)) := by
  refine ⟨?_, ?_⟩ <;> rw [heap_setCell_same _ _ _ _ _ _ h] <;> simp [Array.setIfInBounds]
theorem info56r : (Tryd.prog.info? 109).map (fun i => (i.zero, i.size, i.bytes)) = some (some (.agg #[(.int .i64 0), (.int .i64 0)]), 2, 16) := by kernel_rfl

/-- Rows that are read: the rows, the place behind, the error (0: none), its place. -/
def rowsGo (l : List Int) : Nat → List S109 → Int → List S109 × Int × Int × Int
  | 0, acc, p => (acc, p, 0, 0)
  | m + 1, acc, p =>
    if (readI l p).2.2 ≠ 0 then ([], 0, (readI l p).2.2, p)
    else if (readI l (readI l p).2.1).2.2 ≠ 0 then ([], 0, (readI l (readI l p).2.1).2.2, (readI l p).2.1)
    else rowsGo l m (acc ++ [⟨(readI l p).1, (readI l (readI l p).2.1).1⟩]) (readI l (readI l p).2.1).2.1
def readRows (l : List Int) (a : Int) : List S109 × Int × Int × Int :=
  if (readI l a).2.2 ≠ 0 then ([], 0, (readI l a).2.2, a)
  else if (readI l a).1 < 0 then ([], 0, 12, a)
  else if 64 < (readI l a).1 then ([], 0, 2, a)
  else rowsGo l (readI l a).1.toNat [] (readI l a).2.1

set_option maxHeartbeats 8000000 in
set_option maxRecDepth 100000 in
theorem readRows_calls (A0 : Option Addr) (c0 : Nat) (l0 : List Int) (a1 : Int) (w : World) (hr0 : Kd.C (Kd.int .u8) w A0 l0.length l0) (hc0 : l0.length ≤ c0) (hl : l0.length ≤ 4611686018427387904) (hbyte : ∀ x ∈ l0, 0 ≤ x ∧ x ≤ 255) (R : List S109 × Int × Int × Int) (hR : readRows l0 a1 = R) :
    Calls Tryd.prog 109 #[.slice A0 l0.length c0, .int .i64 a1] w fun e w' => ∃ v0 v, e = .returned (.tuple #[v0, .int .i64 R.2.1, v]) ∧ Kd.R k109 109 w' w.heap.size (fun _ => True) v0 R.1 ∧ IsErr? w' (werr R.2.2.2 R.2.2.1) v ∧ Below w.heap.size w w' ∧ ErrNew w.heap.size v := by
  have HR := Aside0.mk hr0
  have HBY := Aside0.mk hbyte
  have HRR := Aside0.mk hR
  clear hr0 hbyte hR
  go_enter Tryd.func109, Tryd.ntmps109
  go_wp2_with fail
  refine (readInt_calls _ _ l0 _ _ HR.out hc0 hl HBY.out).mono ?_
  rintro e w1 ⟨v, rfl, hE, hb, hN⟩
  have HB1 := Aside0.mk hb
  have HRR2 := HRR.out
  clear HRR hb
  unfold readRows at HRR2
  by_cases h1 : (readI l0 a1).2.2 ≠ 0
  · rw [if_pos h1] at HRR2
    subst HRR2
    have HE := Aside0.mk (werr_put (werr_yes hE h1) h1)
    obtain ⟨tt, uu, rfl⟩ := (werr_yes hE h1).ne_nil
    clear hE h1
    go_wp2
    go_ret3
    exact ⟨_, _, rfl, Kd.R_nil _ _ _ _ _, HE.out, HB1.out, hN⟩
  have h1' : (readI l0 a1).2.2 = 0 := by simpa using h1
  rw [if_neg h1] at HRR2
  obtain rfl := werr_no hE h1'
  clear hE h1 h1'
  obtain ⟨n, hn⟩ : ∃ n, n = (readI l0 a1).1 := ⟨_, rfl⟩
  obtain ⟨a2, ha2⟩ : ∃ a, a = (readI l0 a1).2.1 := ⟨_, rfl⟩
  rw [← hn, ← ha2] at HRR2
  rw [← hn, ← ha2]
  clear hn ha2
  by_cases hneg : n < 0
  · rw [if_pos hneg] at HRR2
    subst HRR2
    have d1 : decide (n < 0) = true := decide_eq_true hneg
    go_wp2_with (first | (go_at_call 115; refine (fault_calls _ _ _).mono ?_; rintro e w' ⟨v, rfl, hE, hb, hN⟩))
    go_ret3
    exact ⟨_, _, rfl, Kd.R_nil _ _ _ _ _, werr_put hE (by decide), HB1.out.trans (hb.mono HB1.out.size), hN.le HB1.out.size⟩
  rw [if_neg hneg] at HRR2
  have d1 : decide (n < 0) = false := decide_eq_false hneg
  by_cases hbig : 64 < n
  · rw [if_pos hbig] at HRR2
    subst HRR2
    have d2 : decide (64 < n) = true := decide_eq_true hbig
    go_wp2_with (first | (go_at_call 115; refine (fault_calls _ _ _).mono ?_; rintro e w' ⟨v, rfl, hE, hb, hN⟩))
    go_ret3
    exact ⟨_, _, rfl, Kd.R_nil _ _ _ _ _, werr_put hE (by decide), HB1.out.trans (hb.mono HB1.out.size), hN.le HB1.out.size⟩
  rw [if_neg hbig] at HRR2
  have d2 : decide (64 < n) = false := decide_eq_false hbig
  obtain ⟨m, rfl⟩ := Int.eq_ofNat_of_zero_le (show 0 ≤ n by omega)
  rw [Int.toNat_natCast] at HRR2
  have HRR3 := Aside0.mk HRR2
  have hm : m ≤ 64 := by omega
  clear HRR2
  go_wp2
  go_loopg [4, 5, 32] m (fun kq v4 v5 v32 wr => ∃ (acc : List S109) (p : Int) (i : Nat), v5 = .int .i64 p ∧ v32 = .int .i64 (i : Int) ∧ i ≤ m ∧ acc.length ≤ i ∧ Aside0 (Kd.R k109 109 wr w.heap.size (fun _ => True) v4 acc) ∧ Aside0 (rowsGo l0 (m - i) acc p = R) ∧ Aside0 (Below w.heap.size w wr) ∧ m - i ≤ kq)
  case atStart => exact ⟨[], a2, 0, rfl, rfl, by omega, by simp, ⟨Kd.R_nil _ _ _ _ _⟩, ⟨HRR3.out⟩, ⟨HB1.out⟩, by omega⟩
  case round =>
    clear HRR3 HB1
    obtain ⟨acc, p, i, rfl, rfl, him, hacc, HO, HG, HB, hkq⟩ := hrel
    by_cases hi : i < m
    · have hrow : acc.length < 8796093022208 := by omega
      have X0 := Aside0.mk (heap_alloc_new wr (Obj.cells #[Value.int IntKind.i64 0, Value.int IntKind.i64 0] 196))
      have HBA := Aside0.mk (HB.out.alloc HB.out.size (Obj.cells #[Value.int IntKind.i64 0, Value.int IntKind.i64 0] 196))
      have HOA := Aside0.mk (Kd.R_alloc HO.out (Obj.cells #[Value.int IntKind.i64 0, Value.int IntKind.i64 0] 196))
      have HS := Aside0.mk HB.out.size
      go_wp2
      clear HB HO
      generalize hA : wr.heap.size = A at X0 HS ⊢
      generalize wr.alloc (Obj.cells #[Value.int IntKind.i64 0, Value.int IntKind.i64 0] 196) = W0 at X0 HBA HOA ⊢
      clear hA
      refine wp_loop_rounds 3 ?_
      rw [rounds_succ]
      go_wp2_with fail
      refine (readInt_calls _ _ l0 _ _ ?c1 hc0 hl HBY.out).mono ?_
      case c1 => exact Kd.C_below HR.out HBA.out
      rintro e w2 ⟨v, rfl, hE, hb, hN⟩
      have X1 := Aside0.mk ((hb.block A (Array.getElem?_eq_some_iff.1 X0.out).1).trans X0.out)
      have HB2 := Aside0.mk (HBA.out.trans (hb.mono HBA.out.size))
      have HZ := Aside0.mk HBA.out.size
      have HO2 := Aside0.mk (Kd.R_below HOA.out hb)
      clear hb X0 HBA HOA
      have HG2 := HG.out
      clear HG
      rw [show m - i = (m - (i + 1)) + 1 by omega] at HG2
      simp only [rowsGo] at HG2
      obtain ⟨k0, k1, f0, f1, zA⟩ := facts2 X1.out
      by_cases h1 : (readI l0 p).2.2 ≠ 0
      · rw [if_pos h1] at HG2
        subst HG2
        have HE := Aside0.mk (werr_yes hE h1)
        have HH1 := Aside0.mk h1
        obtain ⟨tt, uu, rfl⟩ := HE.out.ne_nil
        clear hE h1
        go_wp2
        go_ret3
        exact ⟨_, _, rfl, Kd.R_nil _ _ _ _ _, werr_put (IsErr_set HE.out X1.out (by decide)) HH1.out, HB2.out.setCell (p := ⟨A, 0, none⟩) HS.out _, hN.le HZ.out⟩
      have h1' : (readI l0 p).2.2 = 0 := by simpa using h1
      rw [if_neg h1] at HG2
      obtain rfl := werr_no hE h1'
      clear hE h1 h1'
      obtain ⟨n1, hn1⟩ : ∃ n, n = (readI l0 p).1 := ⟨_, rfl⟩
      obtain ⟨a3, ha3⟩ : ∃ a, a = (readI l0 p).2.1 := ⟨_, rfl⟩
      rw [← hn1, ← ha3] at HG2
      rw [← hn1, ← ha3]
      clear hn1 ha3
      have HG := Aside0.mk HG2
      clear HG2
      have X2 := Aside0.mk (set2 X1.out (.int .i64 n1)).1
      have HB3 := Aside0.mk (HB2.out.setCell (p := ⟨A, 0, none⟩) HS.out (.int .i64 n1))
      have HO3 := Aside0.mk (Kd.R_set HO2.out X1.out (by decide) 0 (.int .i64 n1))
      go_wp2_with fail
      rw [rounds_succ]
      go_wp2_with fail
      clear k0 k1 f0 f1 zA X1 HB2 HO2
      generalize w2.setCell ⟨A, 0, none⟩ (.int .i64 n1) = W2 at X2 HB3 HO3 ⊢
      refine (readInt_calls _ _ l0 _ _ ?c2 hc0 hl HBY.out).mono ?_
      case c2 => exact Kd.C_below HR.out HB3.out
      rintro e w3 ⟨v, rfl, hE, hb, hN⟩
      have X3 := Aside0.mk ((hb.block A (Array.getElem?_eq_some_iff.1 X2.out).1).trans X2.out)
      have HB4 := Aside0.mk (HB3.out.trans (hb.mono HB3.out.size))
      have HZ2 := Aside0.mk HB3.out.size
      have HO4 := Aside0.mk (Kd.R_below HO3.out hb)
      clear hb X2 HB3 HO3
      have HG2 := HG.out
      clear HG
      obtain ⟨k0, k1, f0, f1, zA⟩ := facts2 X3.out
      by_cases h1 : (readI l0 a3).2.2 ≠ 0
      · rw [if_pos h1] at HG2
        subst HG2
        have HE := Aside0.mk (werr_yes hE h1)
        have HH1 := Aside0.mk h1
        obtain ⟨tt, uu, rfl⟩ := HE.out.ne_nil
        clear hE h1
        go_wp2
        go_ret3
        exact ⟨_, _, rfl, Kd.R_nil _ _ _ _ _, werr_put (IsErr_set HE.out X3.out (by decide)) HH1.out, HB4.out.setCell (p := ⟨A, 1, none⟩) HS.out _, hN.le HZ2.out⟩
      have h1' : (readI l0 a3).2.2 = 0 := by simpa using h1
      rw [if_neg h1] at HG2
      obtain rfl := werr_no hE h1'
      clear hE h1 h1'
      obtain ⟨n2, hn2⟩ : ∃ n, n = (readI l0 a3).1 := ⟨_, rfl⟩
      obtain ⟨a4, ha4⟩ : ∃ a, a = (readI l0 a3).2.1 := ⟨_, rfl⟩
      rw [← hn2, ← ha4] at HG2
      rw [← hn2, ← ha4]
      clear hn2 ha4
      have HG := Aside0.mk HG2
      clear HG2
      have X4 := Aside0.mk (set2 X3.out (.int .i64 n2)).2
      have HB5 := Aside0.mk (HB4.out.setCell (p := ⟨A, 1, none⟩) HS.out (.int .i64 n2))
      have HO5 := Aside0.mk (Kd.R_set HO4.out X3.out (by decide) 1 (.int .i64 n2))
      go_wp2_with fail
      rw [rounds_succ]
      clear k0 k1 f0 f1 zA X3 HB4 HO4
      generalize w3.setCell ⟨A, 1, none⟩ (.int .i64 n2) = W4 at X4 HB5 HO5 ⊢
      obtain ⟨k0, k1, f0, f1, zA⟩ := facts2 X4.out
      go_wp2_with (first | ((with_reducible refine gate_builtin (b := .append) (xs := #[.tmp 50, .tmp 56]) rfl ?_); at_builtin; refine Kd.R_append k109 (w0 := w) w.heap.size rfl (.tmp 50) (.tmp 56) 76 109 (.agg #[(.int .i64 0), (.int .i64 0)]) 16 rfl Tryd.underlying76 info56r rfl (by decide) (by omega) u4 acc (⟨n1, n2⟩ : S109) [.int .i64 n1, .int .i64 n2] (fun _ => True) (fun _ => False) rfl rfl ?aP (fun _ hk => hk.elim) ?aF ?aO ?aB ?aS ?aL ?_; (case aP => exact k109_mkM _ _ _ (⟨n1, n2⟩ : S109)); (case aB => exact HB5.out); (case aF => exact fun _ _ => trivial); (case aO => exact HO5.out); (case aS => exact HB5.out.size); (case aL => omega); intro v1 w5 ho hb hg hat))
      go_roundg (gk - 1)
      case measure => omega
      case rel => exact ⟨acc ++ [⟨n1, n2⟩], a4, i + 1, rfl, by go_num, by omega, by simp; omega, ⟨ho⟩, ⟨HG.out⟩, ⟨hb⟩, by omega⟩
    · have hz : m - i = 0 := by omega
      have HG2 := HG.out
      rw [hz] at HG2
      simp only [rowsGo] at HG2
      subst HG2
      clear HG hz
      go_wp2
      go_ret3
      exact ⟨_, _, rfl, HO.out, rfl, HB.out, ErrNew.nil⟩

end Go.Proofs.YtlhjjjpldmekdaaDoor.PFn
namespace Go.Proofs.YtlhjjjpldmekdaaDoor.PFn
open Go.RowKit Go.Proofs.YtlhjjjpldmekdaaDoorW.PrintWords Go.Proofs.YtlhjjjpldmekdaaDoorW.PrintLast Go.Proofs.YtlhjjjpldmekdaaDoorW.PrintMore Go.Proofs.YtlhjjjpldmekdaaDoor.Err
attribute [local go_sem] max2_int min2_int max_two min_two max_three min_three max_four min_four
set_option linter.unusedVariables false
set_option linter.unusedSimpArgs false

def errS : ByteArray := wireS
/-- An error that is told by one number (place and number), lying at a block. -/
def errV : Option Int → Nat → Value
  | none, _ => .nilIface
  | some _, b => .iface 128 (.pointer (some ⟨b, 0, none⟩))
theorem errV_none (b : Nat) : errV none b = .nilIface := rfl
theorem errV_some (q : Int) (b : Nat) : errV (some q) b = .iface 128 (.pointer (some ⟨b, 0, none⟩)) := rfl
def ErrBox (w : World) (base : Nat) : Option Int → Nat → Prop
  | none, _ => True
  | some q, b => base ≤ b ∧ w.heap[b]? = some (.cells #[.string (errS), .int .i64 (q / 256), .iface 113 (.int .i64 (q % 256))] 139 (0, 0))
/-- Such an error, handed over. -/
def ErrArg (w : World) (v : Value) : Option Int → Nat → Prop
  | none, _ => v = .nilIface
  | some q, b => v = .iface 128 (.pointer (some ⟨b, 0, none⟩)) ∧ w.heap[b]? = some (.cells #[.string (errS), .int .i64 (q / 256), .iface 113 (.int .i64 (q % 256))] 139 (0, 0))
def errQ (at_ e : Int) : Option Int := if e = 0 then none else some (at_ * 256 + e)
def erOf (x : Option Int) : Option Er := x.map fun q => .fault wireS (q / 256) (.num (q % 256))
theorem arg_err {w : World} {v : Value} {x : Option Int} {b : Nat} (h : ErrArg w v x b) : IsErr? w (erOf x) v := by
  cases x with
  | none => exact h
  | some q => exact ⟨b, _, h.1, h.2, rfl⟩
theorem err_box {w w' : World} {at_ e : Int} {v : Value} (h : IsErr? w' (werr at_ e) v) (hn : ErrNew w.heap.size v) (he : 0 ≤ e ∧ e < 256) :
    ∃ b, v = errV (errQ at_ e) b ∧ ErrBox w' w.heap.size (errQ at_ e) b := by
  unfold werr at h
  unfold errQ
  by_cases h0 : e = 0
  · rw [if_pos h0] at h ⊢
    exact ⟨0, h, trivial⟩
  · rw [if_neg h0] at h ⊢
    obtain ⟨b, v', rfl, hc, rfl⟩ := h
    refine ⟨b, rfl, hn _ b rfl, ?_⟩
    rw [show (at_ * 256 + e) / 256 = at_ by omega, show (at_ * 256 + e) % 256 = e by omega]
    exact hc

theorem rdGo_bd (l : List Int) (a d : Nat) : ∀ u i, 0 ≤ (rdGo l a d u i).2.2 ∧ (rdGo l a d u i).2.2 < 256 := by
  induction d with
  | zero => intro u i; simp [rdGo]
  | succ d ih =>
    intro u i
    unfold rdGo
    repeat' split
    all_goals first | (simp; done) | exact ih _ _
theorem readI_bd (l : List Int) (a : Int) : 0 ≤ (readI l a).2.2 ∧ (readI l a).2.2 < 256 := by
  unfold readI; split
  · simp
  · exact rdGo_bd _ _ _ _ _
theorem rowsGo_bd (l : List Int) (m : Nat) : ∀ acc p, 0 ≤ (rowsGo l m acc p).2.2.1 ∧ (rowsGo l m acc p).2.2.1 < 256 := by
  induction m with
  | zero => intro acc p; simp [rowsGo]
  | succ m ih =>
    intro acc p
    unfold rowsGo
    repeat' split
    · exact readI_bd _ _
    · exact readI_bd _ _
    · exact ih _ _
theorem readRows_bd (l : List Int) (a : Int) : 0 ≤ (readRows l a).2.2.1 ∧ (readRows l a).2.2.1 < 256 := by
  unfold readRows
  repeat' split
  · exact readI_bd _ _
  · simp
  · simp
  · exact rowsGo_bd _ _ _ _
/-- Bytes that fit. -/
def okBytes (l : List Int) : Bool := decide (l.length ≤ 4611686018427387904) && l.all fun x => decide (0 ≤ x ∧ x ≤ 255)
theorem okBytes_iff {l : List Int} : okBytes l = true ↔ l.length ≤ 4611686018427387904 ∧ ∀ x ∈ l, 0 ≤ x ∧ x ≤ 255 := by
  unfold okBytes; simp

def wire_ReadInt.f (l : List Int) (a : Int) : Option (Int × Int × Option Int) := if okBytes l = true then some ((readI l a).1, (readI l a).2.1, errQ a (readI l a).2.2) else none
theorem wire_ReadInt.calls (A0 : Option Addr) (c0 : Nat) (l0 : List Int) (a1 : Int) (r1 r2 : Int) (r3 : Option Int) (w : World) (hr0 : Kd.C (Kd.int .u8) w A0 l0.length l0) (hc0 : l0.length ≤ c0) (h : wire_ReadInt.f l0 a1 = some (r1, r2, r3)) :
    Calls Tryd.prog 103 #[.slice A0 l0.length c0, .int .i64 a1] w fun e w' => ∃ b, e = .returned (.tuple #[.int .i64 r1, .int .i64 r2, errV r3 b]) ∧ ErrBox w' w.heap.size r3 b ∧ Below w.heap.size w w' := by
  unfold wire_ReadInt.f at h
  by_cases hk : okBytes l0 = true
  · rw [if_pos hk] at h
    simp only [Option.some.injEq, Prod.mk.injEq] at h
    obtain ⟨rfl, rfl, rfl⟩ := h
    obtain ⟨h1, h2⟩ := okBytes_iff.1 hk
    refine (readInt_calls A0 c0 l0 a1 w hr0 hc0 h1 h2).mono ?_
    rintro e w' ⟨v, rfl, hE, hb, hN⟩
    obtain ⟨b, rfl, hx⟩ := err_box hE hN (readI_bd _ _)
    exact ⟨b, rfl, hx, hb⟩
  · rw [if_neg hk] at h; cases h
def wire_ReadRows.f (l : List Int) (a : Int) : Option (List S109 × Int × Option Int) := if okBytes l = true then some ((readRows l a).1, (readRows l a).2.1, errQ (readRows l a).2.2.2 (readRows l a).2.2.1) else none
theorem wire_ReadRows.calls (A0 : Option Addr) (c0 : Nat) (l0 : List Int) (a1 : Int) (r1 : List S109) (r2 : Int) (r3 : Option Int) (w : World) (hr0 : Kd.C (Kd.int .u8) w A0 l0.length l0) (hc0 : l0.length ≤ c0) (h : wire_ReadRows.f l0 a1 = some (r1, r2, r3)) :
    Calls Tryd.prog 109 #[.slice A0 l0.length c0, .int .i64 a1] w fun e w' => ∃ (v0_ : Value) (b : Nat), e = .returned (.tuple #[v0_, .int .i64 r2, errV r3 b]) ∧ Kd.R k109 109 w' w.heap.size (fun _ => True) v0_ r1 ∧ ErrBox w' w.heap.size r3 b ∧ Below w.heap.size w w' := by
  unfold wire_ReadRows.f at h
  by_cases hk : okBytes l0 = true
  · rw [if_pos hk] at h
    simp only [Option.some.injEq, Prod.mk.injEq] at h
    obtain ⟨rfl, rfl, rfl⟩ := h
    obtain ⟨h1, h2⟩ := okBytes_iff.1 hk
    refine (readRows_calls A0 c0 l0 a1 w hr0 hc0 h1 h2 _ rfl).mono ?_
    rintro e w' ⟨v0, v, rfl, hR, hE, hb, hN⟩
    obtain ⟨b, rfl, hx⟩ := err_box hE hN (readRows_bd _ _)
    exact ⟨v0, b, rfl, hR, hx, hb⟩
  · rw [if_neg hk] at h; cases h
def tributarylaw8_code.f (x : Option Int) : Option Int := some (codeOf (erOf x))
theorem tributarylaw8_code.calls (x : Option Int) (b : Nat) (r : Int) {v : Value} (w : World) (hb : ErrArg w v x b) (hL : Laid w) (h : tributarylaw8_code.f x = some r) :
    Calls Tryd.prog 27 #[v] w fun e w' => e = .returned (.int .i64 r) ∧ Below w.heap.size w w' := by
  obtain rfl := Option.some.inj h
  exact code_law _ v w (arg_err hb) hL
/-! ### told -/
theorem lit_C (W : World) (B : Nat) (zs : List Int) (h : W.heap[B]? = some (.cells (zs.map (Value.int .u8)).toArray 5 (0, 0))) (hl : zs.length ≤ 9223372036854775807) : Kd.C (Kd.int .u8) W (some ⟨B, 0, none⟩) zs.length zs :=
  ⟨rfl, hl, fun _ => ⟨_, rfl, fun j p hp => ⟨[.int .u8 p], rfl, rfl, fun i u hu => by
    have hi : i = 0 := by
      have := (List.getElem?_eq_some_iff.1 hu).1
      simp at this; exact this
    subst hi
    simp at hu
    subst hu
    have : (Addr.add ⟨B, 0, none⟩ (j * (Kd.int .u8).sz + 0)) = ⟨B, j, none⟩ := by
      show Addr.add ⟨B, 0, none⟩ (j * 1 + 0) = _
      unfold Addr.add
      by_cases h0 : j = 0
      · simp [h0]
      · simp [h0]
    rw [this]
    exact blk_cell h j _ (by simp [hp])⟩⟩⟩
theorem addr_add0 (a : Addr) : a.add 0 = a := by simp [Addr.add]
theorem told1 : readI [9, 127] 1 = (-64, 2, 0) := by decide +kernel
theorem told2 : readRows [2, 10, 1] 0 = ([⟨5, -1⟩], 3, 0, 0) := by kernel_rfl
theorem told3 : readI [128, 0] 0 = (0, 0, 12) := by decide +kernel
theorem heap_same {w w' : World} {n : Nat} {B : Nat} {o : Obj} (hb : Below n w w') (hB : B < n) (h : w.heap[B]? = some o) : w'.heap[B]? = some o := (hb.block B hB).trans h

end Go.Proofs.YtlhjjjpldmekdaaDoor.PFn
namespace Go.Proofs.YtlhjjjpldmekdaaDoor.PFn
open Go.RowKit Go.Proofs.YtlhjjjpldmekdaaDoorW.PrintWords Go.Proofs.YtlhjjjpldmekdaaDoorW.PrintLast Go.Proofs.YtlhjjjpldmekdaaDoorW.PrintMore Go.Proofs.YtlhjjjpldmekdaaDoor.Err
set_option linter.unusedVariables false
set_option linter.unusedSimpArgs false

/-- The groups of a number. -/
def encG : Nat → Nat → List Int
  | 0, U => [(U : Int)]
  | d + 1, U => if U < 128 then [(U : Int)] else ((U % 128 + 128 : Nat) : Int) :: encG d (U / 128)
def zag (n : Int) : Nat := if 0 ≤ n then (2 * n).toNat else (-2 * n - 1).toNat
/-- What a number is written as. -/
def encI (n : Int) : List Int := encG 9 (zag n)
def okI (n : Int) : Prop := -9223372036854775808 ≤ n ∧ n ≤ 9223372036854775807
theorem zag_lt {n : Int} (h : okI n) : zag n < 2 ^ 64 := by unfold okI at h; unfold zag; split <;> omega
theorem zig_zag (n : Int) : zig (zag n) = n := by unfold zig zag; repeat' split
                                                  all_goals omega
theorem zag_zig (U : Nat) : zag (zig U) = U := by unfold zig zag; repeat' split
                                                  all_goals omega
theorem encG_len (m : Nat) : ∀ V, 1 ≤ (encG m V).length ∧ (encG m V).length ≤ m + 1 := by
  induction m with
  | zero => intro V; simp [encG]
  | succ m ih =>
    intro V
    unfold encG
    split
    · simp
    · have := ih (V / 128); simp; omega
theorem encG_bytes (m : Nat) : ∀ V, V < 128 ^ (m + 1) → ∀ x ∈ encG m V, 0 ≤ x ∧ x ≤ 255 := by
  induction m with
  | zero => intro V hV x hx; simp [encG] at hx; subst hx; simp at hV; omega
  | succ m ih =>
    intro V hV x hx
    unfold encG at hx
    split at hx
    · simp at hx; subst hx; omega
    · rcases List.mem_cons.1 hx with rfl | hx
      · omega
      · exact ih (V / 128) (by rw [Nat.pow_succ] at hV; omega) x hx
theorem encI_len (n : Int) : 1 ≤ (encI n).length ∧ (encI n).length ≤ 10 := encG_len 9 _
theorem encI_bytes {n : Int} (h : okI n) : ∀ x ∈ encI n, 0 ≤ x ∧ x ≤ 255 := encG_bytes 9 _ (by have := zag_lt h; have : (128 : Nat) ^ (9 + 1) = 1180591620717411303424 := by decide
                                                                                               omega)

theorem rd_mid (X : List Int) (c : Int) (Y : List Int) (i : Int) (h : i = X.length) : rd (X ++ c :: Y) i = c := by
  subst h
  unfold rd
  rw [Int.toNat_natCast, List.getD_eq_getElem?_getD]
  simp
theorem two_pow7 (i : Nat) (V : Nat) : (V % 128) * 2 ^ (7 * i) + V / 128 * 2 ^ (7 * (i + 1)) = V * 2 ^ (7 * i) := by
  have h : 2 ^ (7 * (i + 1)) = 128 * 2 ^ (7 * i) := by rw [Nat.mul_add, Nat.pow_add]; omega
  rw [h, ← Nat.mul_assoc, ← Nat.add_mul]
  congr 1; omega

/-- Groups that stand there are read. -/
theorem rdGo_enc (m : Nat) : ∀ (V u i a d : Nat) (X Y : List Int), X.length = a + i → i + m ≤ 9 → V < 2 ^ (64 - 7 * i) → (i = 0 ∨ 0 < V) → (encG m V).length ≤ d → V < 128 ^ (m + 1) →
    rdGo (X ++ (encG m V ++ Y)) a d u i = (zig (u + V * 2 ^ (7 * i)), ((a + i + (encG m V).length : Nat) : Int), 0) := by
  induction m with
  | zero =>
    intro V u i a d X Y hX hi hV hz hd hm
    obtain ⟨d, rfl⟩ : ∃ e, d = e + 1 := ⟨d - 1, by simp [encG] at hd; omega⟩
    have hc : rd (X ++ (encG 0 V ++ Y)) ((a + i : Nat) : Int) = (V : Int) := rd_mid X _ Y _ (by rw [hX])
    have hk : kindOf (V : Int) i = 2 := by
      unfold kindOf
      have h9 : i = 9 → V < 2 := by intro h; subst h; simpa using hV
      have hV2 : V < 128 := by simpa using hm
      rw [if_neg (by omega), if_neg (by omega), if_pos (by omega)]
    unfold rdGo
    rw [hc, hk]
    simp [encG]
  | succ m ih =>
    intro V u i a d X Y hX hi hV hz hd hm
    obtain ⟨d, rfl⟩ : ∃ e, d = e + 1 := ⟨d - 1, by have := (encG_len (m + 1) V).1; omega⟩
    by_cases h : V < 128
    · have he : encG (m + 1) V = [(V : Int)] := by unfold encG; rw [if_pos h]
      rw [he]
      have hc : rd (X ++ ([(V : Int)] ++ Y)) ((a + i : Nat) : Int) = (V : Int) := rd_mid X _ Y _ (by rw [hX])
      have hk : kindOf (V : Int) i = 2 := by
        unfold kindOf
        have h9 : i = 9 → V < 2 := by intro h; subst h; simpa using hV
        rw [if_neg (by omega), if_neg (by omega), if_pos (by omega)]
      unfold rdGo
      rw [hc, hk]
      simp
    · have he : encG (m + 1) V = ((V % 128 + 128 : Nat) : Int) :: encG m (V / 128) := by rw [encG, if_neg h]
      rw [he] at hd ⊢
      have hi8 : i ≤ 8 := by omega
      have hc : rd (X ++ (((V % 128 + 128 : Nat) : Int) :: encG m (V / 128) ++ Y)) ((a + i : Nat) : Int) = ((V % 128 + 128 : Nat) : Int) := rd_mid X _ _ _ (by rw [hX])
      have hk : kindOf ((V % 128 + 128 : Nat) : Int) i = 3 := by
        unfold kindOf
        rw [if_neg (by omega), if_neg (by omega), if_neg (by omega)]
      unfold rdGo
      rw [hc, hk, if_neg (by decide), if_neg (by decide), if_neg (by decide)]
      have e1 : (((V % 128 + 128 : Nat) : Int)).toNat % 128 = V % 128 := by omega
      rw [e1]
      have e2 : X ++ (((V % 128 + 128 : Nat) : Int) :: encG m (V / 128) ++ Y) = (X ++ [((V % 128 + 128 : Nat) : Int)]) ++ (encG m (V / 128) ++ Y) := by simp
      rw [e2]
      have hV' : V / 128 < 2 ^ (64 - 7 * (i + 1)) := by
        rw [Nat.div_lt_iff_lt_mul (by decide)]
        have : 2 ^ (64 - 7 * (i + 1)) * 128 = 2 ^ (64 - 7 * i) := by
          rw [show 64 - 7 * i = (64 - 7 * (i + 1)) + 7 by omega, Nat.pow_add]
        rw [this]; exact hV
      rw [ih (V / 128) _ (i + 1) a d _ Y (by simp; omega) (by omega) hV' (.inr (by omega)) (by simpa using hd) (by rw [Nat.pow_succ] at hm; omega)]
      have := two_pow7 i V
      congr 1
      · congr 1; omega
      · simp; omega

/-- A number that stands there is read. -/
theorem readI_enc (X Y : List Int) (n : Int) (hn : okI n) : readI (X ++ (encI n ++ Y)) X.length = (n, ((X.length + (encI n).length : Nat) : Int), 0) := by
  unfold readI
  rw [if_neg (by simp; omega)]
  rw [Int.toNat_natCast]
  have hz := zag_lt hn
  have hp : (128 : Nat) ^ (9 + 1) = 1180591620717411303424 := by decide
  have := rdGo_enc 9 (zag n) 0 0 X.length ((X ++ (encI n ++ Y)).length - X.length) X Y rfl (by decide) (by simpa using hz) (.inl rfl) (by unfold encI; simp) (by omega)
  unfold encI
  unfold encI at this
  rw [this]
  simp [zig_zag]

/-- What is read stands there. -/
theorem rdGo_back (l : List Int) (hb : ∀ x ∈ l, 0 ≤ x ∧ x ≤ 255) (a d : Nat) : ∀ (u i : Nat) (n p : Int), i ≤ 9 → a + i + d = l.length → u < 2 ^ (7 * i) → rdGo l a d u i = (n, p, 0) →
    ∃ V, n = zig (u + V * 2 ^ (7 * i)) ∧ V < 2 ^ (64 - 7 * i) ∧ (i = 0 ∨ 0 < V) ∧ p = ((a + i + (encG (9 - i) V).length : Nat) : Int) ∧ (l.drop (a + i)).take (encG (9 - i) V).length = encG (9 - i) V ∧ a + i + (encG (9 - i) V).length ≤ l.length := by
  induction d with
  | zero => intro u i n p _ _ _ h; simp [rdGo] at h
  | succ d ih =>
    intro u i n p hi hl hu h
    have hlt : a + i < l.length := by omega
    have hc := rd_byte hb ((a + i : Nat) : Int)
    have hd : l.drop (a + i) = rd l ((a + i : Nat) : Int) :: l.drop (a + i + 1) := by
      rw [List.drop_eq_getElem_cons hlt]
      congr 1
      unfold rd
      rw [Int.toNat_natCast, List.getD_eq_getElem?_getD, List.getElem?_eq_getElem hlt]; rfl
    unfold rdGo at h
    generalize rd l ((a + i : Nat) : Int) = c at hc hd h
    obtain ⟨C, rfl⟩ := Int.eq_ofNat_of_zero_le hc.1
    have hk := kindOf_cases (C : Int) i
    rcases hk with hk | hk | hk | hk
    · rw [hk] at h; simp at h
    · rw [hk] at h; simp at h
    · rw [hk, if_neg (by decide), if_neg (by decide), if_pos rfl] at h
      simp only [Prod.mk.injEq, Int.toNat_natCast] at h
      have hk' := hk
      unfold kindOf at hk'
      have h128 : C < 128 := by
        repeat' split at hk'
        all_goals omega
      have h9 : i = 9 → C < 2 := by
        intro h9; subst h9
        repeat' split at hk'
        all_goals omega
      have hz : i = 0 ∨ 0 < C := by
        repeat' split at hk'
        all_goals omega
      have he : encG (9 - i) C = [(C : Int)] := by
        cases e : 9 - i with
        | zero => rfl
        | succ m => unfold encG; rw [if_pos h128]
      refine ⟨C, h.1.symm, ?_, hz, ?_, ?_, ?_⟩
      · by_cases h9' : i = 9
        · subst h9'; simpa using h9 rfl
        · have : 2 ^ 7 ≤ 2 ^ (64 - 7 * i) := Nat.pow_le_pow_right (by decide) (by omega)
          omega
      · rw [he]; simp; omega
      · rw [he, hd]; simp
      · rw [he]; simp; omega
    · rw [hk, if_neg (by decide), if_neg (by decide), if_neg (by decide)] at h
      have hk' := hk
      unfold kindOf at hk'
      have h8 : i ≤ 8 ∧ 128 ≤ C := by
        by_cases h9 : i = 9 ∧ (1 : Int) < (C : Int)
        · rw [if_pos h9] at hk'; omega
        · rw [if_neg h9] at hk'
          repeat' split at hk'
          all_goals omega
      rw [Int.toNat_natCast] at h
      have hu' : u + C % 128 * 2 ^ (7 * i) < 2 ^ (7 * (i + 1)) := by
        have e : 2 ^ (7 * (i + 1)) = 128 * 2 ^ (7 * i) := by rw [Nat.mul_add, Nat.pow_add]; omega
        have h2 : C % 128 * 2 ^ (7 * i) ≤ 127 * 2 ^ (7 * i) := Nat.mul_le_mul_right _ (by omega)
        rw [e]
        generalize C % 128 * 2 ^ (7 * i) = M at h2 ⊢
        generalize 2 ^ (7 * i) = P at h2 hu ⊢
        omega
      obtain ⟨V', hn, hV', hz, hp, ht, hle⟩ := ih _ (i + 1) n p (by omega) (by omega) hu' h
      have hV0 : 0 < V' := by omega
      have hcv : (C % 128 + 128 * V') % 128 = C % 128 := by omega
      have hcd : (C % 128 + 128 * V') / 128 = V' := by omega
      have he : encG (9 - i) (C % 128 + 128 * V') = (C : Int) :: encG (9 - (i + 1)) V' := by
        rw [show 9 - i = (9 - (i + 1)) + 1 by omega, encG, if_neg (by omega), hcv, hcd]
        congr 1; omega
      have htp := two_pow7 i (C % 128 + 128 * V')
      rw [hcv, hcd] at htp
      refine ⟨C % 128 + 128 * V', ?_, ?_, .inr (by omega), ?_, ?_, ?_⟩
      · rw [hn]
        congr 1
        generalize C % 128 * 2 ^ (7 * i) = M at htp ⊢
        omega
      · have : 2 ^ (64 - 7 * i) = 128 * 2 ^ (64 - 7 * (i + 1)) := by
          rw [show 64 - 7 * i = (64 - 7 * (i + 1)) + 7 by omega, Nat.pow_add]; omega
        omega
      · rw [he, hp]; simp; omega
      · rw [he, hd, show a + i + 1 = a + (i + 1) by omega]
        simp only [List.length_cons, List.take_succ_cons]
        rw [ht]
      · rw [he]; simp only [List.length_cons]; omega

theorem readI_back {l : List Int} (hb : ∀ x ∈ l, 0 ≤ x ∧ x ≤ 255) {a n p : Int} (h : readI l a = (n, p, 0)) :
    okI n ∧ 0 ≤ a ∧ a < p ∧ p ≤ l.length ∧ p = a + (encI n).length ∧ (l.drop a.toNat).take (encI n).length = encI n := by
  unfold readI at h
  split at h
  · simp at h
  rename_i ha
  obtain ⟨A, rfl⟩ := Int.eq_ofNat_of_zero_le (show 0 ≤ a by omega)
  rw [Int.toNat_natCast] at h
  obtain ⟨V, hn, hV, _, hp, ht, hle⟩ := rdGo_back l hb A _ 0 0 n p (by decide) (by omega) (by decide) h
  simp only [Nat.mul_zero, Nat.pow_zero, Nat.mul_one, Nat.zero_add, Nat.add_zero, Nat.sub_zero] at hn hV hp ht hle
  have hV' : V < 18446744073709551616 := by simpa using hV
  have he : encI n = encG 9 V := by unfold encI; rw [hn, zag_zig]
  have := encG_len 9 V
  rw [he]
  refine ⟨?_, by omega, by omega, by omega, by omega, ht⟩
  rw [hn]; unfold zig okI; split <;> omega

/-- Of a number's groups a proper beginning is short. -/
theorem rdGo_short (m : Nat) : ∀ (V u i a : Nat) (X : List Int) (j : Nat), X.length = a + i → i + m ≤ 9 → V < 2 ^ (64 - 7 * i) → j < (encG m V).length →
    rdGo (X ++ (encG m V).take j) a j u i = (0, 0, 10) := by
  induction m with
  | zero =>
    intro V u i a X j hX hi hV hj
    have : j = 0 := by simp [encG] at hj; omega
    subst this
    rfl
  | succ m ih =>
    intro V u i a X j hX hi hV hj
    cases j with
    | zero => rfl
    | succ j =>
      by_cases h : V < 128
      · rw [encG, if_pos h] at hj; simp at hj
      · have he : encG (m + 1) V = ((V % 128 + 128 : Nat) : Int) :: encG m (V / 128) := by rw [encG, if_neg h]
        rw [he] at hj ⊢
        rw [List.take_succ_cons]
        have hc : rd (X ++ ((V % 128 + 128 : Nat) : Int) :: (encG m (V / 128)).take j) ((a + i : Nat) : Int) = ((V % 128 + 128 : Nat) : Int) := rd_mid X _ _ _ (by rw [hX])
        have hk : kindOf ((V % 128 + 128 : Nat) : Int) i = 3 := by
          unfold kindOf
          rw [if_neg (by omega), if_neg (by omega), if_neg (by omega)]
        unfold rdGo
        rw [hc, hk, if_neg (by decide), if_neg (by decide), if_neg (by decide)]
        rw [show X ++ ((V % 128 + 128 : Nat) : Int) :: (encG m (V / 128)).take j = (X ++ [((V % 128 + 128 : Nat) : Int)]) ++ (encG m (V / 128)).take j by simp]
        have hV' : V / 128 < 2 ^ (64 - 7 * (i + 1)) := by
          rw [Nat.div_lt_iff_lt_mul (by decide)]
          have : 2 ^ (64 - 7 * (i + 1)) * 128 = 2 ^ (64 - 7 * i) := by
            rw [show 64 - 7 * i = (64 - 7 * (i + 1)) + 7 by omega, Nat.pow_add]
          rw [this]; exact hV
        exact ih (V / 128) _ (i + 1) a _ j (by simp; omega) (by omega) hV' (by simpa using hj)
theorem readI_short (X : List Int) {n : Int} (hn : okI n) (j : Nat) (hj : j < (encI n).length) : readI (X ++ (encI n).take j) X.length = (0, 0, 10) := by
  unfold readI
  rw [if_neg (by simp; omega), Int.toNat_natCast]
  have e : (X ++ (encI n).take j).length - X.length = j := by simp; omega
  rw [e]
  unfold encI at hj ⊢
  exact rdGo_short 9 (zag n) 0 0 X.length X j rfl (by decide) (by simpa using zag_lt hn) hj

end Go.Proofs.YtlhjjjpldmekdaaDoor.PFn
namespace Go.Proofs.YtlhjjjpldmekdaaDoor.PFn
open Go.RowKit Go.Proofs.YtlhjjjpldmekdaaDoorW.PrintWords Go.Proofs.YtlhjjjpldmekdaaDoorW.PrintLast Go.Proofs.YtlhjjjpldmekdaaDoorW.PrintMore Go.Proofs.YtlhjjjpldmekdaaDoor.Err
set_option linter.unusedVariables false
set_option linter.unusedSimpArgs false

theorem u64w {x : Int} (h : 0 ≤ x ∧ x < 18446744073709551616) : IntKind.u64.wrap x = x := IntWalk.u64_in _ ⟨h.1, by omega⟩
theorem u64_and127 (u : Nat) (hu : u < 2 ^ 64) : Go.bits .and .u64 (u : Int) 127 = ((u % 128 : Nat) : Int) := by
  have h1 : (BitVec.ofInt 64 (u : Int)).toNat = u := by rw [BitVec.toNat_ofInt]; omega
  have h2 : (BitVec.ofInt 64 127).toNat = 2 ^ 7 - 1 := by decide
  show IntKind.u64.wrap ((BitVec.ofInt 64 (u : Int) &&& BitVec.ofInt 64 127).toNat : Nat) = _
  rw [BitVec.toNat_and, h1, h2, Nat.and_two_pow_sub_one_eq_mod]
  exact u64w ⟨by omega, by omega⟩
theorem u64_or128 (u : Nat) (hu : u < 128) : Go.bits .or .u64 (u : Int) 128 = ((u + 128 : Nat) : Int) := u64_or_add u 1 7 (by omega) (by omega)
theorem u64_xor0 (u : Nat) (hu : u < 2 ^ 64) : Go.bits .xor .u64 (u : Int) 0 = (u : Int) := by
  have h1 : (BitVec.ofInt 64 (u : Int)).toNat = u := by rw [BitVec.toNat_ofInt]; omega
  show IntKind.u64.wrap ((BitVec.ofInt 64 (u : Int) ^^^ BitVec.ofInt 64 0).toNat : Nat) = _
  rw [show BitVec.ofInt 64 0 = 0#64 by decide, BitVec.xor_zero, h1]
  exact u64w ⟨by omega, by omega⟩
theorem u64_xor1 (u : Nat) (hu : u < 2 ^ 64) : Go.bits .xor .u64 (u : Int) 18446744073709551615 = ((18446744073709551615 - u : Nat) : Int) := by
  have h1 : (BitVec.ofInt 64 (u : Int)).toNat = u := by rw [BitVec.toNat_ofInt]; omega
  show IntKind.u64.wrap ((BitVec.ofInt 64 (u : Int) ^^^ BitVec.ofInt 64 18446744073709551615).toNat : Nat) = _
  rw [show BitVec.ofInt 64 18446744073709551615 = BitVec.allOnes 64 by decide, BitVec.xor_allOnes, BitVec.toNat_not, h1]
  have : (2 ^ 64 - 1 - u : Nat) = 18446744073709551615 - u := by omega
  rw [this]
  exact u64w ⟨by omega, by omega⟩

/-! ### Int -/
theorem wire_Int_l0 (d : Nat) : ∀ (V : Nat) (acc : List Int) (k : Nat), V < 2 ^ 64 → V < 128 ^ (d + 1) → acc.length + d < 140737488355328 → d < k → wire_Int.l0 k (V : Int) acc = some (acc ++ encG d V) := by
  induction d with
  | zero =>
    intro V acc k hV hm ha hk
    obtain ⟨k, rfl⟩ : ∃ e, k = e + 1 := ⟨k - 1, by omega⟩
    have : V < 128 := by simpa using hm
    unfold wire_Int.l0
    rw [if_neg (by omega), if_pos (by omega)]
    simp [encG]; omega
  | succ d ih =>
    intro V acc k hV hm ha hk
    obtain ⟨k, rfl⟩ : ∃ e, k = e + 1 := ⟨k - 1, by omega⟩
    unfold wire_Int.l0
    by_cases h : V < 128
    · rw [if_neg (by omega), if_pos (by omega), encG, if_pos h]
      congr 3; omega
    · rw [if_pos (by omega), if_pos (by omega), u64_and127 V hV, u64_or128 _ (by omega)]
      have e1 : (V : Int) / 128 = ((V / 128 : Nat) : Int) := by omega
      rw [e1, ih (V / 128) _ k (by omega) (by rw [Nat.pow_succ] at hm; omega) (by simp; omega) (by omega), encG, if_neg h]
      have e2 : ((V % 128 + 128 : Nat) : Int) % 256 = ((V % 128 + 128 : Nat) : Int) := by omega
      rw [e2]; simp
theorem p128 : (128 : Nat) ^ (9 + 1) = 1180591620717411303424 := by decide
theorem wire_Int_f (n : Int) (hn : okI n) (k : Nat) (hk : 9 < k) : wire_Int.f k n = some (encI n) := by
  have hz := zag_lt hn
  have key : Go.bits .xor .u64 (IntKind.u64.wrap ((IntKind.u64.wrap n) * 2)) (IntKind.u64.wrap (n / 9223372036854775808)) = (zag n : Int) := by
    unfold okI at hn
    by_cases h : 0 ≤ n
    · have e1 : IntKind.u64.wrap ((IntKind.u64.wrap n) * 2) = (((2 * n).toNat : Nat) : Int) := by rw [u64w (x := n) (by omega), u64w (by omega)]; omega
      have e2 : IntKind.u64.wrap (n / 9223372036854775808) = 0 := by rw [show n / 9223372036854775808 = 0 by omega]; rfl
      rw [e1, e2, u64_xor0 _ (by omega)]
      unfold zag; rw [if_pos h]
    · have e0 : IntKind.u64.wrap n = n + 18446744073709551616 := by rw [IntKind.wrap_u64]; omega
      have e1 : IntKind.u64.wrap ((IntKind.u64.wrap n) * 2) = (((2 * n + 18446744073709551616).toNat : Nat) : Int) := by rw [e0, IntKind.wrap_u64]; omega
      have e2 : IntKind.u64.wrap (n / 9223372036854775808) = 18446744073709551615 := by rw [show n / 9223372036854775808 = -1 by omega]; rfl
      rw [e1, e2, u64_xor1 _ (by omega)]
      unfold zag; rw [if_neg h]
      congr 1; omega
  unfold wire_Int.f
  rw [key, wire_Int_l0 9 (zag n) [] k hz (by rw [p128]; omega) (by simp) hk]
  rfl

theorem ref1_Int_l0 (d : Nat) : ∀ (V : Nat) (acc : List Int) (k : Nat), V < 2 ^ 64 → V < 128 ^ (d + 1) → acc.length + d < 140737488355328 → d < k → tributaryref1_Int.l0 k (V : Int) acc = some (acc ++ encG d V) := by
  induction d with
  | zero =>
    intro V acc k hV hm ha hk
    obtain ⟨k, rfl⟩ : ∃ e, k = e + 1 := ⟨k - 1, by omega⟩
    have : V < 128 := by simpa using hm
    unfold tributaryref1_Int.l0
    rw [if_neg (by omega), if_pos (by omega)]
    simp [encG]; omega
  | succ d ih =>
    intro V acc k hV hm ha hk
    obtain ⟨k, rfl⟩ : ∃ e, k = e + 1 := ⟨k - 1, by omega⟩
    unfold tributaryref1_Int.l0
    by_cases h : V < 128
    · rw [if_neg (by omega), if_pos (by omega), encG, if_pos h]
      congr 3; omega
    · rw [if_pos (by omega), if_pos (by omega)]
      have e1 : IntKind.u64.wrap (Int.tdiv (V : Int) 128) = ((V / 128 : Nat) : Int) := by
        rw [Int.tdiv_eq_ediv_of_nonneg (by omega), u64w (by omega)]; omega
      have e2 : IntKind.u64.wrap (Int.tmod (V : Int) 128 + 128) % 256 = ((V % 128 + 128 : Nat) : Int) := by
        rw [Int.tmod_eq_emod_of_nonneg (by omega), u64w (by omega)]; omega
      rw [e1, e2, ih (V / 128) _ k (by omega) (by rw [Nat.pow_succ] at hm; omega) (by simp; omega) (by omega), encG, if_neg h]
      simp
theorem ref1_Int_f (n : Int) (hn : okI n) (k : Nat) (hk : 10 < k) : tributaryref1_Int.f k n = some (encI n) := by
  have hz := zag_lt hn
  obtain ⟨k, rfl⟩ : ∃ e, k = e + 1 := ⟨k - 1, by omega⟩
  unfold okI at hn
  unfold tributaryref1_Int.f
  have key : ∀ x : Int, x = (zag n : Int) → tributaryref1_Int.j0 (k + 1) x = some (encI n) := by
    rintro x rfl
    rw [tributaryref1_Int.j0]
    rw [ref1_Int_l0 9 (zag n) [] k hz (by rw [p128]; omega) (by simp) (by omega)]
    rfl
  by_cases h : n < 0
  · rw [if_pos h]
    refine key _ ?_
    have e1 : wrap64 (-(wrap64 (n + 1))) = -(n + 1) := by unfold wrap64; omega
    rw [e1, u64w (x := -(n + 1)) (by omega), u64w (x := 2 * -(n + 1)) (by omega), u64w (by omega)]
    unfold zag; rw [if_neg (by omega)]; omega
  · rw [if_neg h]
    refine key _ ?_
    rw [u64w (x := n) (by omega), u64w (by omega)]
    unfold zag; rw [if_pos (by omega)]; omega

/-! ### ReadInt, the document's -/
theorem ref1_or (u C i : Nat) (hi : i ≤ 9) (hu : u < 2 ^ (7 * i)) (hC : C ≤ 255) (h : i = 9 → C ≤ 1) :
    Go.bits .or .u64 (u : Int) (shl .u64 (Int.tmod (C : Int) 128) (IntKind.u64.wrap (wrap64 (7 * (i : Int))))) = ((u + (C % 128) * 2 ^ (7 * i) : Nat) : Int) ∧ u + (C % 128) * 2 ^ (7 * i) < 2 ^ 64 := by
  have e7 : IntKind.u64.wrap (wrap64 (7 * (i : Int))) = 7 * (i : Int) := by
    have : wrap64 (7 * (i : Int)) = 7 * (i : Int) := by clear hu h; unfold wrap64; omega
    rw [this, u64w (by clear hu h; omega)]
  have etm : Int.tmod (C : Int) 128 = ((C % 128 : Nat) : Int) := by rw [Int.tmod_eq_emod_of_nonneg (by omega)]; omega
  have hmul : (C % 128) * 2 ^ (7 * i) + u < 18446744073709551616 := by
    by_cases h9 : i = 9
    · subst h9
      have h1 : C % 128 ≤ 1 := by have := h rfl; omega
      have := Nat.mul_le_mul_right (2 ^ (7 * 9)) h1
      omega
    · have := pow7_le8 i (by omega)
      have h1 : C % 128 ≤ 127 := by omega
      have := Nat.mul_le_mul_right (2 ^ (7 * i)) h1
      generalize C % 128 * 2 ^ (7 * i) = M at *
      generalize 2 ^ (7 * i) = P at *
      omega
  generalize hm : C % 128 = c at *
  have hs : shl .u64 (Int.tmod (C : Int) 128) (IntKind.u64.wrap (wrap64 (7 * (i : Int)))) = ((c * 2 ^ (7 * i) : Nat) : Int) := by
    rw [e7, etm]
    unfold shl
    have hb : IntKind.u64.bits = 64 := rfl
    rw [show min (7 * (i : Int)).toNat IntKind.u64.bits = 7 * i by rw [hb]; clear hmul hu; omega]
    rw [show (c : Int) * 2 ^ (7 * i) = ((c * 2 ^ (7 * i) : Nat) : Int) by simp]
    generalize c * 2 ^ (7 * i) = M at *
    exact u64w ⟨by omega, by clear hu; omega⟩
  rw [hs]
  refine ⟨u64_or_add u c (7 * i) hu (by clear hu; generalize c * 2 ^ (7 * i) = M at *; omega), ?_⟩
  generalize c * 2 ^ (7 * i) = M at *
  clear hu; omega
theorem ref1_end (U a i : Nat) (hU : U < 18446744073709551616) (ha : a + i < 4611686018427387904) :
    (if (Int.tmod (U : Int) 2) = 1 then (some (wrap64 ((wrap64 (-(wrap64 (IntKind.u64.wrap (Int.tdiv (U : Int) 2))))) - 1), wrap64 ((wrap64 ((a : Int) + i)) + 1), (0 : Int))) else (some (wrap64 (IntKind.u64.wrap (Int.tdiv (U : Int) 2)), wrap64 ((wrap64 ((a : Int) + i)) + 1), 0))) = some (zig U, ((a + i + 1 : Nat) : Int), 0) := by
  have et : Int.tmod (U : Int) 2 = ((U % 2 : Nat) : Int) := by rw [Int.tmod_eq_emod_of_nonneg (by omega)]; omega
  have ed : Int.tdiv (U : Int) 2 = ((U / 2 : Nat) : Int) := by rw [Int.tdiv_eq_ediv_of_nonneg (by omega)]; omega
  have ew2 : wrap64 ((U / 2 : Nat) : Int) = ((U / 2 : Nat) : Int) := by unfold wrap64; omega
  have ew : wrap64 ((a : Int) + i) = (a : Int) + i := by unfold wrap64; omega
  rw [et, ed, u64w (x := ((U / 2 : Nat) : Int)) (by omega), ew2, ew]
  have ew3 : wrap64 ((a : Int) + i + 1) = ((a + i + 1 : Nat) : Int) := by unfold wrap64; omega
  have ew4 : wrap64 (wrap64 (-((U / 2 : Nat) : Int)) - 1) = -((U / 2 : Nat) : Int) - 1 := by unfold wrap64; omega
  rw [ew3, ew4]
  unfold zig
  by_cases h2 : U % 2 = 0
  · rw [if_neg (by omega), if_pos h2]
  · rw [if_pos (by omega), if_neg h2]

def rdStep (l : List Int) (a d u i C : Nat) : Int × Int × Int :=
  if kindOf (C : Int) i = 0 then (0, 0, 11)
  else if kindOf (C : Int) i = 1 then (0, 0, 12)
  else if kindOf (C : Int) i = 2 then (zig (u + C * 2 ^ (7 * i)), ((a + i + 1 : Nat) : Int), 0)
  else rdGo l a d (u + (C % 128) * 2 ^ (7 * i)) (i + 1)
theorem ref1_j3 (l : List Int) (a d u i C k : Nat) (b : Bool) (hb : b = true ↔ C = 0 ∧ 0 < i) (hC : C < 128) (h9 : ¬(i = 9 ∧ 1 < (C : Int))) (ha : a + i < 4611686018427387904) (hU : u + (C % 128) * 2 ^ (7 * i) < 2 ^ 64) :
    tributaryref1_ReadInt.j3 (k + 1) a ((u + (C % 128) * 2 ^ (7 * i) : Nat) : Int) i b = some (rdStep l a d u i C) := by
  rw [tributaryref1_ReadInt.j3]
  have hCm : C % 128 = C := by clear hU; omega
  rw [hCm] at hU ⊢
  unfold rdStep
  by_cases hz : C = 0 ∧ 0 < i
  · rw [if_pos (hb.2 hz)]
    have : kindOf (C : Int) i = 1 := by clear hU; unfold kindOf; rw [if_neg h9, if_pos (by omega)]
    rw [this, if_neg (show ¬(1:Int) = 0 by decide), if_pos (rfl : (1:Int) = 1)]
  · rw [if_neg (fun h => hz (hb.1 h))]
    have hk2 : kindOf (C : Int) i = 2 := by clear hU; unfold kindOf; rw [if_neg h9, if_neg (by omega), if_pos (by omega)]
    rw [hk2, if_neg (show ¬(2:Int) = 0 by decide), if_neg (show ¬(2:Int) = 1 by decide), if_pos (rfl : (2:Int) = 2)]
    generalize u + C * 2 ^ (7 * i) = U at hU ⊢
    exact ref1_end U a i hU ha
theorem ref1_u' (u C i : Nat) (hu : u < 2 ^ (7 * i)) : u + C % 128 * 2 ^ (7 * i) < 2 ^ (7 * (i + 1)) := by
  have e : 2 ^ (7 * (i + 1)) = 128 * 2 ^ (7 * i) := by rw [Nat.mul_add, Nat.pow_add]; omega
  have h2 : C % 128 * 2 ^ (7 * i) ≤ 127 * 2 ^ (7 * i) := Nat.mul_le_mul_right _ (by omega)
  rw [e]
  generalize C % 128 * 2 ^ (7 * i) = M at h2 ⊢
  generalize 2 ^ (7 * i) = P at h2 hu ⊢
  omega
theorem ref1_j2 (l : List Int) (a d u i C k : Nat) (b : Bool) (hb : b = true ↔ i = 9 ∧ 1 < (C : Int)) (hi : i ≤ 9) (hu : u < 2 ^ (7 * i)) (hC : C ≤ 255) (ha : a + i < 4611686018427387904)
    (ih : i ≤ 8 → ∀ u' : Nat, u' < 2 ^ (7 * (i + 1)) → tributaryref1_ReadInt.l0 (k + 1) l (a : Int) (u' : Int) ((i + 1 : Nat) : Int) = some (rdGo l a d u' (i + 1))) :
    tributaryref1_ReadInt.j2 (k + 2) l a u i C b = some (rdStep l a d u i C) := by
  rw [tributaryref1_ReadInt.j2]
  by_cases h9 : i = 9 ∧ 1 < (C : Int)
  · rw [if_pos (hb.2 h9)]
    have : kindOf (C : Int) i = 0 := by unfold kindOf; rw [if_pos h9]
    unfold rdStep
    rw [this]; rfl
  · obtain ⟨ho, ho2⟩ := ref1_or u C i hi hu hC (by clear hu; omega)
    have e7 : 0 ≤ IntKind.u64.wrap (wrap64 (7 * (i : Int))) := by
      have : wrap64 (7 * (i : Int)) = 7 * (i : Int) := by clear hu ho2; unfold wrap64; omega
      rw [this, u64w (by clear hu ho2; omega)]; clear hu ho2; omega
    rw [if_neg (fun h => h9 (hb.1 h)), if_pos e7, ho]
    by_cases hC : C < 128
    · rw [if_pos (by clear hu ho2; omega)]
      by_cases h0 : C = 0
      · rw [if_pos (by clear hu ho2; omega)]
        exact ref1_j3 l a d u i C k _ (by simp [h0]) hC h9 ha ho2
      · rw [if_neg (by clear hu ho2; omega)]
        exact ref1_j3 l a d u i C k _ (by simp [h0]) hC h9 ha ho2
    · rw [if_neg (by clear hu ho2; omega)]
      have hk3 : kindOf (C : Int) i = 3 := by clear hu ho2; unfold kindOf; rw [if_neg h9, if_neg (by omega), if_neg (by omega)]
      unfold rdStep
      rw [hk3, if_neg (show ¬(3:Int) = 0 by decide), if_neg (show ¬(3:Int) = 1 by decide), if_neg (show ¬(3:Int) = 2 by decide)]
      have hi9 : i ≤ 8 := by
        clear hu ho2
        rcases Nat.lt_or_ge i 9 with h | h
        · omega
        · exfalso; apply h9; omega
      have ewi : wrap64 ((i : Int) + 1) = ((i + 1 : Nat) : Int) := by clear hu ho2; unfold wrap64; omega
      rw [ewi]
      exact ih hi9 _ (ref1_u' u C i hu)
theorem ref1_ReadInt_l0 (l : List Int) (hb : ∀ x ∈ l, 0 ≤ x ∧ x ≤ 255) (hl : l.length ≤ 4611686018427387904) (a d : Nat) : ∀ (u i k : Nat), i ≤ 9 → a + i + d = l.length → u < 2 ^ (7 * i) → 3 * (10 - i) < k →
    tributaryref1_ReadInt.l0 k l (a : Int) (u : Int) (i : Int) = some (rdGo l a d u i) := by
  induction d with
  | zero =>
    intro u i k hi hd hu hk
    obtain ⟨k, rfl⟩ : ∃ e, k = e + 1 := ⟨k - 1, by omega⟩
    rw [tributaryref1_ReadInt.l0]
    have ew : wrap64 ((a : Int) + i) = (a : Int) + i := by clear hu; unfold wrap64; omega
    rw [if_pos (by clear hu; omega), ew, if_pos (by clear hu; omega)]
    rfl
  | succ d ih =>
    intro u i k hi hd hu hk
    obtain ⟨k, rfl⟩ : ∃ e, k = e + 3 := ⟨k - 3, by clear hu; omega⟩
    rw [tributaryref1_ReadInt.l0]
    have ew : wrap64 ((a : Int) + i) = (a : Int) + i := by clear hu; unfold wrap64; omega
    rw [if_pos (by clear hu; omega), ew, if_neg (by clear hu; omega), if_pos (by clear hu; omega), if_pos (by clear hu; omega)]
    have hc := rd_byte hb ((a : Int) + i)
    have hgo : rdGo l a (d + 1) u i = rdStep l a d u i (rd l ((a : Int) + i)).toNat := by
      unfold rdStep
      rw [rdGo]
      rw [show ((a + i : Nat) : Int) = (a : Int) + i by omega]
      rw [show (((rd l ((a : Int) + i)).toNat : Nat) : Int) = rd l ((a : Int) + i) by omega]
    rw [hgo]
    generalize rd l ((a : Int) + i) = c at hc ⊢
    obtain ⟨C, rfl⟩ := Int.eq_ofNat_of_zero_le hc.1
    rw [u64w (x := (C : Int)) (by clear hu; omega), Int.toNat_natCast]
    have key : ∀ b : Bool, (b = true ↔ i = 9 ∧ 1 < (C : Int)) → tributaryref1_ReadInt.j2 (k + 2) l a u i C b = some (rdStep l a d u i C) := fun b hb2 =>
      ref1_j2 l a d u i C k b hb2 hi hu (by clear hu; omega) (by clear hu; omega) fun h8 u' hu' => ih u' (i + 1) (k + 1) (by clear hu hu'; omega) (by clear hu hu'; omega) hu' (by clear hu hu'; omega)
    by_cases h9 : (i : Int) = 9
    · rw [if_pos h9]
      exact key _ (by clear hu; simp; omega)
    · rw [if_neg h9]
      exact key _ (by clear hu; simp; omega)
theorem ref1_ReadInt_f (l : List Int) (a : Int) (h : okBytes l = true) (k : Nat) (hk : 40 ≤ k) : tributaryref1_ReadInt.f k l a = some (readI l a) := by
  obtain ⟨hl, hb⟩ := okBytes_iff.1 h
  obtain ⟨k, rfl⟩ : ∃ e, k = e + 1 := ⟨k - 1, by omega⟩
  unfold tributaryref1_ReadInt.f readI
  by_cases h0 : a < 0
  · rw [if_pos h0, if_pos (.inl h0)]; rfl
  · rw [if_neg h0]
    by_cases h1 : (l.length : Int) < a
    · rw [if_pos (.inr h1)]
      rw [tributaryref1_ReadInt.j0]
      rw [if_pos (by simpa using h1)]
    · rw [if_neg (by omega)]
      rw [tributaryref1_ReadInt.j0]
      rw [if_neg (by simpa using h1)]
      obtain ⟨A, rfl⟩ := Int.eq_ofNat_of_zero_le (show 0 ≤ a by omega)
      rw [Int.toNat_natCast]
      exact ref1_ReadInt_l0 l hb hl A _ 0 0 k (by decide) (by omega) (by decide) (by omega)

end Go.Proofs.YtlhjjjpldmekdaaDoor.PFn
namespace Go.Proofs.YtlhjjjpldmekdaaDoor.PFn
open Go.RowKit Go.Proofs.YtlhjjjpldmekdaaDoorW.PrintWords Go.Proofs.YtlhjjjpldmekdaaDoorW.PrintLast Go.Proofs.YtlhjjjpldmekdaaDoorW.PrintMore Go.Proofs.YtlhjjjpldmekdaaDoor.Err
set_option linter.unusedVariables false
set_option linter.unusedSimpArgs false

abbrev RowT := S109
def okRow (r : RowT) : Prop := okI r.f0 ∧ okI r.f1
def rowsE : List RowT → List Int
  | [] => []
  | r :: l => encI r.f0 ++ (encI r.f1 ++ rowsE l)
def encR (l : List RowT) : List Int := encI l.length ++ rowsE l
def encD (a b c : Int) : List Int := encI a ++ (encI b ++ encI c)
theorem rowsE_append (x y : List RowT) : rowsE (x ++ y) = rowsE x ++ rowsE y := by
  induction x with
  | nil => rfl
  | cons r x ih => simp [rowsE, ih]
theorem rowsE_len (l : List RowT) : 2 * l.length ≤ (rowsE l).length ∧ (rowsE l).length ≤ 20 * l.length := by
  induction l with
  | nil => simp [rowsE]
  | cons r l ih =>
    have h1 := encI_len r.f0
    have h2 := encI_len r.f1
    simp only [rowsE, List.length_append, List.length_cons]
    omega
theorem rowsE_bytes {l : List RowT} (h : ∀ r ∈ l, okRow r) : ∀ x ∈ rowsE l, 0 ≤ x ∧ x ≤ 255 := by
  induction l with
  | nil => intro x hx; simp [rowsE] at hx
  | cons r l ih =>
    intro x hx
    have hr := h r (List.mem_cons_self ..)
    simp only [rowsE, List.mem_append] at hx
    rcases hx with hx | hx | hx
    · exact encI_bytes hr.1 x hx
    · exact encI_bytes hr.2 x hx
    · exact ih (fun y hy => h y (List.mem_cons_of_mem _ hy)) x hx
theorem okI_nat {n : Nat} (h : n ≤ 9223372036854775807) : okI (n : Int) := by unfold okI; omega

/-! ### the writers -/
theorem wire_Rows_l0 (l : List RowT) (hl : ∀ r ∈ l, okRow r) (hn : l.length ≤ 64) (d : Nat) : ∀ (i k : Nat) (acc : List Int), i + d = l.length → acc.length + 20 * d ≤ 10000 → 10 + d < k →
    wire_Rows.l0 k acc l (l.length : Int) (i : Int) = some (acc ++ rowsE (l.drop i)) := by
  induction d with
  | zero =>
    intro i k acc hi ha hk
    obtain ⟨k, rfl⟩ : ∃ e, k = e + 1 := ⟨k - 1, by omega⟩
    rw [wire_Rows.l0, if_neg (by omega), List.drop_of_length_le (by omega)]
    simp [rowsE]
  | succ d ih =>
    intro i k acc hi ha hk
    obtain ⟨k, rfl⟩ : ∃ e, k = e + 1 := ⟨k - 1, by omega⟩
    have hlt : i < l.length := by omega
    have hrd : rd_T109 l (i : Int) = l[i] := by
      unfold rd_T109; rw [Int.toNat_natCast, List.getD_eq_getElem?_getD, List.getElem?_eq_getElem hlt]; rfl
    have hr := hl _ (List.getElem_mem hlt)
    rw [wire_Rows.l0, if_pos (by omega), if_pos (by omega), if_pos (by omega), hrd, wire_Int_f _ hr.1 k (by omega)]
    have e0 := encI_len (l[i]).f0
    have e1 := encI_len (l[i]).f1
    rw [Option.bind_some, if_pos (by omega), Option.bind_some, wire_Int_f _ hr.2 k (by omega), Option.bind_some, if_pos (by simp only [List.length_append]; omega)]
    have ew : wrap64 ((i : Int) + 1) = ((i + 1 : Nat) : Int) := by unfold wrap64; omega
    rw [ew, ih (i + 1) k _ (by omega) (by simp only [List.length_append]; omega) (by omega), List.drop_eq_getElem_cons hlt]
    simp [rowsE]
theorem wire_Rows_f (l : List RowT) (hl : ∀ r ∈ l, okRow r) (hn : l.length ≤ 64) (k : Nat) (hk : 80 ≤ k) : wire_Rows.f k l = some (encR l) := by
  unfold wire_Rows.f
  rw [wire_Int_f _ (okI_nat (by omega)) k (by omega), Option.bind_some]
  have e0 := encI_len (l.length : Int)
  rw [show (0 : Int) = ((0 : Nat) : Int) by rfl, wire_Rows_l0 l hl hn l.length 0 k _ (by omega) (by omega) (by omega)]
  rfl
theorem ref2_Same_l0 (l : List RowT) (hl : l.length ≤ 4611686018427387904) (d : Nat) : ∀ (i k : Nat), i + d = l.length → d < k → tributaryref2_Same.l0 k l l (i : Int) = some true := by
  induction d with
  | zero =>
    intro i k hi hk
    obtain ⟨k, rfl⟩ : ∃ e, k = e + 1 := ⟨k - 1, by omega⟩
    rw [tributaryref2_Same.l0, if_neg (by omega)]
  | succ d ih =>
    intro i k hi hk
    obtain ⟨k, rfl⟩ : ∃ e, k = e + 1 := ⟨k - 1, by omega⟩
    have ew : wrap64 ((i : Int) + 1) = ((i + 1 : Nat) : Int) := by unfold wrap64; omega
    rw [tributaryref2_Same.l0, if_pos (by omega), if_pos (by omega), if_pos (by omega), if_neg (by simp), ew]
    exact ih (i + 1) k (by omega) (by omega)
theorem ref2_Same_f (l : List RowT) (hl : l.length ≤ 4611686018427387904) (k : Nat) (hk : l.length < k) : tributaryref2_Same.f k l l = some true := by
  unfold tributaryref2_Same.f
  rw [if_pos rfl]
  exact ref2_Same_l0 l hl l.length 0 k (by omega) hk

/-! ### there and back -/
theorem rowsGo_enc (l : List RowT) : ∀ (hl : ∀ r ∈ l, okRow r) (X Y : List Int) (acc : List RowT), rowsGo (X ++ (rowsE l ++ Y)) l.length acc X.length = (acc ++ l, ((X.length + (rowsE l).length : Nat) : Int), 0, 0) := by
  induction l with
  | nil => intro hl X Y acc; simp [rowsGo, rowsE]
  | cons r l ih =>
    intro hl X Y acc
    have hr := hl r (List.mem_cons_self ..)
    have e : X ++ (rowsE (r :: l) ++ Y) = X ++ (encI r.f0 ++ (encI r.f1 ++ (rowsE l ++ Y))) := by simp [rowsE]
    rw [e, List.length_cons, rowsGo, readI_enc X _ r.f0 hr.1]
    have e2 : X ++ (encI r.f0 ++ (encI r.f1 ++ (rowsE l ++ Y))) = (X ++ encI r.f0) ++ (encI r.f1 ++ (rowsE l ++ Y)) := by simp
    have e3 : ((X.length + (encI r.f0).length : Nat) : Int) = ((X ++ encI r.f0).length : Int) := by simp
    simp only
    rw [if_neg (by simp), e2, e3, readI_enc (X ++ encI r.f0) _ r.f1 hr.2]
    simp only
    rw [if_neg (by simp)]
    have e4 : (X ++ encI r.f0) ++ (encI r.f1 ++ (rowsE l ++ Y)) = (X ++ encI r.f0 ++ encI r.f1) ++ (rowsE l ++ Y) := by simp
    have e5 : (((X ++ encI r.f0).length + (encI r.f1).length : Nat) : Int) = ((X ++ encI r.f0 ++ encI r.f1).length : Int) := by simp only [List.length_append]
    rw [e4, e5, ih (fun y hy => hl y (List.mem_cons_of_mem _ hy))]
    simp [rowsE]; omega
theorem readRows_enc (X Y : List Int) (l : List RowT) (hl : ∀ r ∈ l, okRow r) (hn : l.length ≤ 64) : readRows (X ++ (encR l ++ Y)) X.length = (l, ((X.length + (encR l).length : Nat) : Int), 0, 0) := by
  unfold readRows
  have e : X ++ (encR l ++ Y) = X ++ (encI l.length ++ (rowsE l ++ Y)) := by simp [encR]
  rw [e, readI_enc X _ _ (okI_nat (by omega))]
  simp only
  rw [if_neg (by simp), if_neg (by omega), if_neg (by omega), Int.toNat_natCast]
  have e4 : X ++ (encI l.length ++ (rowsE l ++ Y)) = (X ++ encI l.length) ++ (rowsE l ++ Y) := by simp
  have e5 : ((X.length + (encI l.length).length : Nat) : Int) = ((X ++ encI l.length).length : Int) := by simp
  rw [e4, e5, rowsGo_enc l hl]
  simp [encR]; omega
/-! ### a proper beginning -/
theorem rowsGo_short (l : List RowT) : ∀ (hl : ∀ r ∈ l, okRow r) (X : List Int) (acc : List RowT) (j : Nat), j < (rowsE l).length → (rowsGo (X ++ (rowsE l).take j) l.length acc X.length).2.2.1 = 10 := by
  induction l with
  | nil => intro hl X acc j hj; simp [rowsE] at hj
  | cons r l ih =>
    intro hl X acc j hj
    have hr := hl r (List.mem_cons_self ..)
    rw [List.length_cons, rowsGo, rowsE]
    by_cases h1 : j < (encI r.f0).length
    · rw [List.take_append_of_le_length (by omega), readI_short X hr.1 j h1]
      simp only
      rw [if_pos (by decide)]
    obtain ⟨j, rfl⟩ : ∃ i, j = (encI r.f0).length + i := ⟨j - (encI r.f0).length, by omega⟩
    simp only [rowsE, List.length_append] at hj
    rw [List.take_length_add_append]
    have e3 : ((X.length + (encI r.f0).length : Nat) : Int) = ((X ++ encI r.f0).length : Int) := by simp
    rw [readI_enc X _ r.f0 hr.1]
    simp only
    rw [if_neg (by simp), e3, ← List.append_assoc]
    by_cases h2 : j < (encI r.f1).length
    · rw [List.take_append_of_le_length (by omega), readI_short _ hr.2 j h2]
      simp only
      rw [if_pos (by decide)]
    obtain ⟨j, rfl⟩ : ∃ i, j = (encI r.f1).length + i := ⟨j - (encI r.f1).length, by omega⟩
    rw [List.take_length_add_append, readI_enc _ _ r.f1 hr.2]
    simp only
    have e5 : (((X ++ encI r.f0).length + (encI r.f1).length : Nat) : Int) = ((X ++ encI r.f0 ++ encI r.f1).length : Int) := by simp only [List.length_append]
    rw [if_neg (by simp), e5, ← List.append_assoc]
    exact ih (fun y hy => hl y (List.mem_cons_of_mem _ hy)) _ _ j (by omega)
theorem readRows_short (X : List Int) (l : List RowT) (hl : ∀ r ∈ l, okRow r) (hn : l.length ≤ 64) (j : Nat) (hj : j < (encR l).length) : (readRows (X ++ (encR l).take j) X.length).2.2.1 = 10 := by
  unfold readRows encR
  unfold encR at hj
  by_cases h1 : j < (encI l.length).length
  · rw [List.take_append_of_le_length (by omega), readI_short X (okI_nat (by omega)) j h1]
    simp only
    rw [if_pos (by decide)]
  obtain ⟨j, rfl⟩ : ∃ i, j = (encI l.length).length + i := ⟨j - (encI l.length).length, by omega⟩
  simp only [List.length_append] at hj
  have e3 : ((X.length + (encI l.length).length : Nat) : Int) = ((X ++ encI l.length).length : Int) := by simp
  rw [List.take_length_add_append, readI_enc X _ _ (okI_nat (by omega))]
  simp only
  rw [if_neg (by simp), if_neg (by omega), if_neg (by omega), Int.toNat_natCast, e3, ← List.append_assoc]
  exact rowsGo_short l hl _ _ j (by omega)

/-! ### and forth -/
theorem slice_step {l : List Int} {a p q : Int} {A B : List Int} (ha : 0 ≤ a) (hp : p = a + A.length) (hq : q = p + B.length) (h1 : (l.drop a.toNat).take A.length = A) (h2 : (l.drop p.toNat).take B.length = B) :
    q = a + (A ++ B).length ∧ (l.drop a.toNat).take (A ++ B).length = A ++ B := by
  refine ⟨by simp; omega, ?_⟩
  rw [List.length_append, List.take_add, h1, List.drop_drop]
  have : a.toNat + A.length = p.toNat := by omega
  rw [this, h2]
theorem rowsGo_back {l : List Int} (hb : ∀ x ∈ l, 0 ≤ x ∧ x ≤ 255) (m : Nat) : ∀ (acc : List RowT) (a : Int) (R : List RowT) (p g : Int), 0 ≤ a → a ≤ l.length → rowsGo l m acc a = (R, p, 0, g) →
    ∃ S : List RowT, R = acc ++ S ∧ S.length = m ∧ (∀ r ∈ S, okRow r) ∧ p = a + (rowsE S).length ∧ p ≤ l.length ∧ (l.drop a.toNat).take (rowsE S).length = rowsE S := by
  induction m with
  | zero =>
    intro acc a R p g ha hal h
    simp only [rowsGo, Prod.mk.injEq] at h
    exact ⟨[], by simp [h.1], rfl, by simp, by simp [rowsE, h.2.1], by omega, by simp [rowsE]⟩
  | succ m ih =>
    intro acc a R p g ha hal h
    rw [rowsGo] at h
    by_cases h1 : (readI l a).2.2 ≠ 0
    · rw [if_pos h1] at h; simp only [Prod.mk.injEq] at h; omega
    rw [if_neg h1] at h
    by_cases h2 : (readI l (readI l a).2.1).2.2 ≠ 0
    · rw [if_pos h2] at h; simp only [Prod.mk.injEq] at h; omega
    rw [if_neg h2] at h
    obtain ⟨k, p1, e1, hR1⟩ : ∃ k p1 e1, readI l a = (k, p1, e1) := ⟨_, _, _, rfl⟩
    rw [hR1] at h h1 h2
    simp only at h h1 h2
    obtain ⟨v, p2, e2, hR2⟩ : ∃ k p2 e2, readI l p1 = (k, p2, e2) := ⟨_, _, _, rfl⟩
    rw [hR2] at h h2
    simp only at h h2
    obtain rfl : e1 = 0 := by omega
    obtain rfl : e2 = 0 := by omega
    obtain ⟨o1, _, lt1, le1, q1, t1⟩ := readI_back hb hR1
    obtain ⟨o2, _, lt2, le2, q2, t2⟩ := readI_back hb hR2
    obtain ⟨S, hS, hSl, hSo, q3, le3, t3⟩ := ih _ _ _ _ _ (by omega) (by omega) h
    obtain ⟨q4, t4⟩ := slice_step (show 0 ≤ p1 by omega) q2 q3 t2 t3
    obtain ⟨q5, t5⟩ := slice_step ha q1 q4 t1 t4
    refine ⟨⟨k, v⟩ :: S, by rw [hS]; simp, by simp [hSl], ?_, q5, le3, t5⟩
    intro r hr
    rcases List.mem_cons.1 hr with rfl | hr
    · exact ⟨o1, o2⟩
    · exact hSo r hr
theorem readRows_back {l : List Int} (hb : ∀ x ∈ l, 0 ≤ x ∧ x ≤ 255) {a p g : Int} {R : List RowT} (h : readRows l a = (R, p, 0, g)) :
    R.length ≤ 64 ∧ (∀ r ∈ R, okRow r) ∧ 0 ≤ a ∧ a < p ∧ p ≤ l.length ∧ p = a + (encR R).length ∧ (l.drop a.toNat).take (encR R).length = encR R := by
  unfold readRows at h
  by_cases h1 : (readI l a).2.2 ≠ 0
  · rw [if_pos h1] at h; simp only [Prod.mk.injEq] at h; omega
  rw [if_neg h1] at h
  obtain ⟨n, p1, e1, hR1⟩ : ∃ k p1 e1, readI l a = (k, p1, e1) := ⟨_, _, _, rfl⟩
  rw [hR1] at h h1
  simp only at h h1
  obtain rfl : e1 = 0 := by omega
  by_cases h2 : n < 0
  · rw [if_pos h2] at h; simp at h
  rw [if_neg h2] at h
  by_cases h3 : 64 < n
  · rw [if_pos h3] at h; simp at h
  rw [if_neg h3] at h
  obtain ⟨o1, ha, lt1, le1, q1, t1⟩ := readI_back hb hR1
  obtain ⟨S, hS, hSl, hSo, q3, le3, t3⟩ := rowsGo_back hb _ _ _ _ _ _ (by omega) (by omega) h
  obtain rfl : R = S := by simpa using hS
  obtain ⟨q5, t5⟩ := slice_step ha q1 q3 t1 t3
  have e : encI n = encI R.length := by rw [show n = (R.length : Int) by omega]
  rw [e] at q5 t5
  have := encI_len (R.length : Int)
  exact ⟨by omega, hSo, ha, by omega, le3, q5, t5⟩
end Go.Proofs.YtlhjjjpldmekdaaDoor.PFn
