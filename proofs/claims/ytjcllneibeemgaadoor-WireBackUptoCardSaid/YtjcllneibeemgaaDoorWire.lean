/- Proved: the contracts of wire.fault, wire.ReadInt and of a law's own 'code' and 'at': what a number's bytes are read as; condition: bytes are bytes. -/
import Derived.Test.YtjcllneibeemgaaDoorCode
import Derived.Test.YtjcllneibeemgaaDoorPFnx
import Derived.IntWalk
namespace Go.Proofs.YtjcllneibeemgaaDoor.PFn
open Go.RowKit Go.Proofs.YtjcllneibeemgaaDoorW.PrintWords Go.Proofs.YtjcllneibeemgaaDoorW.PrintLast Go.Proofs.YtjcllneibeemgaaDoorW.PrintMore Go.Proofs.YtjcllneibeemgaaDoor.Err
attribute [local go_sem] max2_int min2_int max_two min_two max_three min_three max_four min_four
set_option linter.unusedVariables false
set_option linter.unusedSimpArgs false

theorem u64_or_nat (a b : Nat) (ha : a < 2 ^ 64) (hb : b < 2 ^ 64) : Go.bits .or .u64 (a : Int) (b : Int) = ((a ||| b : Nat) : Int) := by
  have h1 : (BitVec.ofInt 64 (a : Int)).toNat = a := by rw [BitVec.toNat_ofInt]; omega
  have h2 : (BitVec.ofInt 64 (b : Int)).toNat = b := by rw [BitVec.toNat_ofInt]; omega
  show IntKind.u64.wrap ((BitVec.ofInt 64 (a : Int) ||| BitVec.ofInt 64 (b : Int)).toNat : Nat) = _
  rw [BitVec.toNat_or, h1, h2]
  have := Nat.or_lt_two_pow ha hb
  exact IntWalk.u64_in _ ⟨by omega, by omega⟩
theorem u64_or_add (u x n : Nat) (hu : u < 2 ^ n) (hx : x * 2 ^ n + u < 2 ^ 64) : Go.bits .or .u64 (u : Int) ((x * 2 ^ n : Nat) : Int) = ((u + x * 2 ^ n : Nat) : Int) := by
  rw [u64_or_nat _ _ (by omega) (by omega)]
  have h := Nat.two_pow_add_eq_or_of_lt hu x
  rw [Nat.or_comm, Nat.mul_comm x, ← h]; congr 1; omega
theorem u64_and1 (u : Nat) (hu : u < 2 ^ 64) : Go.bits .and .u64 (u : Int) 1 = ((u % 2 : Nat) : Int) := by
  have h1 : (BitVec.ofInt 64 (u : Int)).toNat = u := by rw [BitVec.toNat_ofInt]; omega
  have h2 : (BitVec.ofInt 64 1).toNat = 2 ^ 1 - 1 := by decide
  show IntKind.u64.wrap ((BitVec.ofInt 64 (u : Int) &&& BitVec.ofInt 64 1).toNat : Nat) = _
  rw [BitVec.toNat_and, h1, h2, Nat.and_two_pow_sub_one_eq_mod]
  exact IntWalk.u64_in _ ⟨by omega, by omega⟩
theorem u8_and127 (c : Int) (h0 : 0 ≤ c) (h1 : c < 256) : Go.bits .and .u8 c 127 = c % 128 := bits_mask .u8 8 (by decide) wraps_u8 7 (by decide) c h0 h1
theorem i64_xor0 (x : Int) (h : -9223372036854775808 ≤ x ∧ x ≤ 9223372036854775807) : Go.bits .xor .i64 x 0 = x := by
  show IntKind.i64.wrap ((BitVec.ofInt 64 x ^^^ BitVec.ofInt 64 0).toNat : Nat) = x
  rw [show BitVec.ofInt 64 0 = 0#64 by decide, BitVec.xor_zero, BitVec.toNat_ofInt, IntKind.wrap_i64]
  omega
theorem i64_xorm1 (x : Int) (h : -9223372036854775808 ≤ x ∧ x ≤ 9223372036854775807) : Go.bits .xor .i64 x (-1) = -x - 1 := by
  show IntKind.i64.wrap ((BitVec.ofInt 64 x ^^^ BitVec.ofInt 64 (-1)).toNat : Nat) = -x - 1
  rw [show BitVec.ofInt 64 (-1) = BitVec.allOnes 64 by decide, BitVec.xor_allOnes, BitVec.toNat_not, BitVec.toNat_ofInt, IntKind.wrap_i64]
  omega
/-- What a number's groups stand for. -/
def zig (U : Nat) : Int := if U % 2 = 0 then ((U / 2 : Nat) : Int) else -((U / 2 : Nat) : Int) - 1
theorem zig_of (U : Nat) (hU : U < 2 ^ 64) : Go.bits .xor .i64 (wrap64 ((U : Int) / 2)) (wrap64 (-wrap64 (Go.bits .and .u64 (U : Int) 1))) = zig U := by
  have e : wrap64 ((U : Int) / 2) = ((U / 2 : Nat) : Int) := by unfold wrap64; omega
  rw [u64_and1 U hU, e]
  unfold zig
  rcases Nat.mod_two_eq_zero_or_one U with h | h
  · rw [if_pos h, h, show wrap64 (-wrap64 ((0 : Nat) : Int)) = 0 by unfold wrap64; omega, i64_xor0 _ (by omega)]
  · rw [if_neg (by omega), h, show wrap64 (-wrap64 ((1 : Nat) : Int)) = -1 by unfold wrap64; omega, i64_xorm1 _ (by omega)]

/-- An error's block, if it has one, is none of the elder ones. -/
def ErrNew (n : Nat) (v : Value) : Prop := ∀ (t : TypeId) (b : Nat), v = .iface t (.pointer (some ⟨b, 0, none⟩)) → n ≤ b
theorem ErrNew.nil {n : Nat} : ErrNew n .nilIface := fun _ _ h => by cases h
theorem ErrNew.le {n m : Nat} {v : Value} (h : ErrNew n v) (hm : m ≤ n) : ErrNew m v := fun t b e => Nat.le_trans hm (h t b e)
def wireS : ByteArray := ⟨#[119, 105, 114, 101]⟩
theorem fault_calls (a n : Int) (w : World) : Calls Tryd.prog 23 #[.int .i64 a, .int .i64 n] w fun e w' => ∃ v, e = .returned v ∧ IsErr w' (.fault wireS a (.num n)) v ∧ Below w.heap.size w w' ∧ ErrNew w.heap.size v := by
  go_enter Tryd.func23, Tryd.ntmps23
  go_wp2
  go_ret
  exact ⟨_, rfl, ⟨w.heap.size, _, rfl, heap_alloc_new w _, rfl⟩, (Below.refl _ _).alloc (Nat.le_refl _) _, fun _ _ h => by cases h; exact Nat.le_refl _⟩

set_option maxHeartbeats 4000000 in
theorem code_law (x : Option Er) (v : Value) (w : World) (hx : IsErr? w x v) (hg : Laid w) : Calls Tryd.prog 14 #[v] w fun e w' => e = .returned (.int .i64 (codeOf x)) ∧ Below w.heap.size w w' := by
  have HX := Aside0.mk hx
  have HG := Aside0.mk hg
  clear hx hg
  go_enter Tryd.func14, Tryd.ntmps14
  go_wp2_with (first | (go_at_call 25; refine (code_calls x _ _ HX.out HG.out).mono ?_; rintro e w' ⟨rfl, hb⟩))
  go_ret
  exact ⟨rfl, by assumption⟩
theorem ta58 (x : Value) (w : World) : (Instr.typeAssert (.iface 58 x) 25 58 true).run Tryd.prog w = .ok (.tuple #[x, .bool true]) w := by kernel_rfl
theorem ta52 (x : Value) (w : World) : (Instr.typeAssert (.iface 52 x) 25 58 true).run Tryd.prog w = .ok (.tuple #[.pointer none, .bool false]) w := by kernel_rfl
theorem tanil (w : World) : (Instr.typeAssert .nilIface 25 58 true).run Tryd.prog w = .ok (.tuple #[.pointer none, .bool false]) w := by kernel_rfl
set_option maxHeartbeats 4000000 in
theorem at_law (x : Option Er) (v : Value) (w : World) (hx : IsErr? w x v) : Calls Tryd.prog 15 #[v] w fun e w' => e = .returned (.int .i64 (placeOf x)) ∧ w = w' := by
  have t1 := ta58
  have t2 := ta52
  have t3 := tanil
  match x, hx with
  | none, hx =>
    obtain rfl : v = .nilIface := hx
    go_enter Tryd.func15, Tryd.ntmps15
    go_wp2
    go_ret
    exact ⟨rfl, rfl⟩
  | some (.num n), hx =>
    obtain rfl : v = _ := hx
    go_enter Tryd.func15, Tryd.ntmps15
    go_wp2
    go_ret
    exact ⟨rfl, rfl⟩
  | some (.fault wh a e), hx =>
    obtain ⟨b, v', rfl, hb, he⟩ := hx
    have hc := blk_cell hb 1 _ rfl
    clear he hb
    go_enter Tryd.func15, Tryd.ntmps15
    go_wp2
    go_ret
    exact ⟨rfl, rfl⟩
def kindOf (c : Int) (i : Nat) : Int := if i = 9 ∧ 1 < c then 0 else if c = 0 ∧ 0 < i then 1 else if c < 128 then 2 else 3
set_option maxHeartbeats 4000000 in
theorem kind_calls (c : Int) (i : Nat) (k : Int) (hk : kindOf c i = k) (w : World) : Calls Tryd.prog 24 #[.int .u8 c, .int .i64 (i : Int)] w fun e w' => e = .returned (.int .i64 k) ∧ Drawn0 w w' := by
  subst hk
  have HK := Aside0.mk (rfl : kindOf c i = kindOf c i)
  clear HK
  cases h9 : ((i : Int) == 9) <;> cases h1 : decide (1 < c) <;> cases h0 : (c == 0) <;> cases hp : decide (0 < i) <;> cases h2 : decide (c < 128)
  all_goals
    first
    | (exfalso; simp at h9 h1 h0 hp h2; omega)
    | skip
  all_goals
    have HF := Aside0.mk (show kindOf c i = kindOf c i from rfl)
    go_enter Tryd.func24, Tryd.ntmps24
    go_wp2
    repeat (go_quiet (fail); try go_wp2)
    go_ret
    refine ⟨?_, by repeat (first | exact Drawn0.refl _ | apply Drawn0.step | exact ⟨_, rfl⟩)⟩
    congr 2
    unfold kindOf
    simp at h9 h1 h0 hp h2
    simp [h9, h1, h0, hp, h2]
    try omega
theorem drewN_below {w w' : World} {m : Nat} (hb : Below (w.drewN m).heap.size (w.drewN m) w') : Below w.heap.size w w' := below_step (by apply pw_below_drewN; exact Below.refl _ _) hb
/-! ### ReadInt -/
/-- What is read from the i-th group on, u having been read: the number, the place behind, the error (0: none). -/
def rdGo (l : List Int) (a : Nat) : Nat → Nat → Nat → Int × Int × Int
  | 0, _, _ => (0, 0, 10)
  | d + 1, u, i =>
    if kindOf (rd l (a + i : Nat)) i = 0 then (0, 0, 11)
    else if kindOf (rd l (a + i : Nat)) i = 1 then (0, 0, 12)
    else if kindOf (rd l (a + i : Nat)) i = 2 then (zig (u + (rd l (a + i : Nat)).toNat * 2 ^ (7 * i)), ((a + i + 1 : Nat) : Int), 0)
    else rdGo l a d (u + ((rd l (a + i : Nat)).toNat % 128) * 2 ^ (7 * i)) (i + 1)
def readI (l : List Int) (at_ : Int) : Int × Int × Int := if at_ < 0 ∨ (l.length : Int) < at_ then (0, 0, 1) else rdGo l at_.toNat (l.length - at_.toNat) 0 0
/-- wire's error with such a number, at a place; 0: none. -/
def werr (at_ e : Int) : Option Er := if e = 0 then none else some (.fault wireS at_ (.num e))

theorem rdGo_e (l : List Int) (a d : Nat) : ∀ u i, (rdGo l a d u i).2.2 = 0 ∨ ((rdGo l a d u i).1 = 0 ∧ (rdGo l a d u i).2.1 = 0) := by
  induction d with
  | zero => intro u i; simp [rdGo]
  | succ d ih =>
    intro u i
    unfold rdGo
    repeat' split
    all_goals first | simp; done | exact ih _ _

theorem rd_byte {l : List Int} (hb : ∀ x ∈ l, 0 ≤ x ∧ x ≤ 255) (i : Int) : 0 ≤ rd l i ∧ rd l i ≤ 255 := by
  unfold rd
  by_cases h : i.toNat < l.length
  · rw [List.getD_eq_getElem?_getD, List.getElem?_eq_getElem h]; exact hb _ (List.getElem_mem h)
  · rw [List.getD_eq_getElem?_getD, List.getElem?_eq_none (by omega)]; exact ⟨by decide, by decide⟩

theorem kindOf_cases (c : Int) (i : Nat) : kindOf c i = 0 ∨ kindOf c i = 1 ∨ kindOf c i = 2 ∨ kindOf c i = 3 := by
  unfold kindOf; repeat' split
  all_goals simp

theorem pow7_le (i : Nat) (h : i ≤ 9) : 2 ^ (7 * i) ≤ 9223372036854775808 := by
  have : 2 ^ (7 * i) ≤ 2 ^ 63 := Nat.pow_le_pow_right (by decide) (by omega)
  omega
theorem pow7_le8 (i : Nat) (h : i ≤ 8) : 2 ^ (7 * i) ≤ 72057594037927936 := by
  have : 2 ^ (7 * i) ≤ 2 ^ 56 := Nat.pow_le_pow_right (by decide) (by omega)
  omega

set_option maxHeartbeats 4000000 in
set_option maxRecDepth 100000 in
theorem readInt_in (A0 : Option Addr) (c0 : Nat) (l0 : List Int) (a1 : Nat) (w : World) (hr0 : Kd.C (Kd.int .u8) w A0 l0.length l0) (hc0 : l0.length ≤ c0) (h1 : a1 ≤ l0.length) (hl : l0.length ≤ 4611686018427387904) (hbyte : ∀ x ∈ l0, 0 ≤ x ∧ x ≤ 255) :
    Calls Tryd.prog 9 #[.slice A0 l0.length c0, .int .i64 (a1 : Int)] w fun e w' => ∃ v, e = .returned (.tuple #[.int .i64 (rdGo l0 a1 (l0.length - a1) 0 0).1, .int .i64 (rdGo l0 a1 (l0.length - a1) 0 0).2.1, v]) ∧ IsErr? w' (werr a1 (rdGo l0 a1 (l0.length - a1) 0 0).2.2) v ∧ Below w.heap.size w w' ∧ ErrNew w.heap.size v := by
  have c4b0 : decide ((a1 : Int) < 0) = false := decide_eq_false (by omega)
  have c4b1 : decide (l0.length < a1) = false := decide_eq_false (by omega)
  have HR0 := Aside0.mk hr0
  have HBY := Aside0.mk hbyte
  clear hr0 hbyte
  generalize hR : rdGo l0 a1 (l0.length - a1) 0 0 = R
  have HR := Aside0.mk hR
  clear hR
  go_enter Tryd.func9, Tryd.ntmps9
  go_wp2
  go_loopg [7, 8] l0.length (fun kq v7 v8 w' => ∃ (u : Nat) (i : Nat), v7 = .int .u64 (u : Int) ∧ v8 = .int .i64 (i : Int) ∧ i ≤ 9 ∧ Drawn0 w w' ∧ a1 + i ≤ l0.length ∧ Aside0 (rdGo l0 a1 (l0.length - a1 - i) u i = R) ∧ l0.length - a1 - i ≤ kq ∧ Aside0 (u < 2 ^ (7 * i)))
  case atStart => exact ⟨0, 0, rfl, rfl, by omega, Drawn0.refl _, by omega, ⟨HR.out⟩, by omega, ⟨by simp⟩⟩
  case round =>
    clear HR
    obtain ⟨u, i, rfl, rfl, hi, ⟨m, rfl⟩, hai, HG, hkq, HU⟩ := hrel
    have ws : IntKind.i64.wrap ((a1 : Int) + i) = (a1 : Int) + i := IntWalk.i64_in _ (by omega)
    by_cases hlt : a1 + i < l0.length
    · obtain ⟨ad, e161, hx161⟩ := Kd.at_int HR0.out ((a1 : Int) + i) (by omega) (by omega)
      subst e161
      have hcb := rd_byte HBY.out ((a1 : Int) + i)
      have HG' := HG.out
      clear HG
      rw [show l0.length - a1 - i = (l0.length - a1 - (i + 1)) + 1 by omega] at HG'
      simp only [rdGo] at HG'
      rw [show ((a1 + i : Nat) : Int) = (a1 : Int) + i by omega] at HG'
      rw [show ((a1 : Int) + i).toNat = a1 + i by omega] at hx161
      obtain ⟨c, hc⟩ : ∃ c, c = rd l0 ((a1 : Int) + i) := ⟨_, rfl⟩
      rw [← hc] at hcb hx161 HG'
      clear hc
      generalize hk : kindOf c i = k at HG'
      have HK := Aside0.mk hk
      have hk4 : k = 0 ∨ k = 1 ∨ k = 2 ∨ k = 3 := by rw [← hk]; exact kindOf_cases c i
      clear hk
      rcases hk4 with rfl | rfl | rfl | rfl
      · obtain rfl : (0, 0, 11) = R := by simpa using HG'
        clear HG'
        go_wp2_with (first | (go_at_call 24; refine (kind_calls _ i _ HK.out _).mono ?_; rintro e w' ⟨rfl, ⟨n, rfl⟩⟩) | (go_at_call 23; refine (fault_calls _ _ _).mono ?_; rintro e w' ⟨v, rfl, hE, hb, hN⟩))
        go_ret3
        exact ⟨v, rfl, hE, drewN_below hb, hN⟩
      · obtain rfl : (0, 0, 12) = R := by simpa using HG'
        clear HG'
        go_wp2_with (first | (go_at_call 24; refine (kind_calls _ i _ HK.out _).mono ?_; rintro e w' ⟨rfl, ⟨n, rfl⟩⟩) | (go_at_call 23; refine (fault_calls _ _ _).mono ?_; rintro e w' ⟨v, rfl, hE, hb, hN⟩))
        go_ret3
        exact ⟨v, rfl, hE, drewN_below hb, hN⟩
      · have hlast : c < 128 ∧ (i = 9 → c ≤ 1) := by
          have := HK.out
          unfold kindOf at this
          constructor
          · repeat' split at this
            all_goals omega
          · intro h9
            by_cases h : 1 < c
            · rw [if_pos ⟨h9, h⟩] at this; omega
            · omega
        have hpw := pow7_le i hi
        have hmul : c.toNat * 2 ^ (7 * i) + u < 18446744073709551616 := by
          have := HU.out
          by_cases h9 : i = 9
          · have h1 : c.toNat ≤ 1 := by have := hlast.2 h9; omega
            have := Nat.mul_le_mul_right (2 ^ (7 * i)) h1
            omega
          · have := pow7_le8 i (by omega)
            have h1 : c.toNat ≤ 127 := by omega
            have := Nat.mul_le_mul_right (2 ^ (7 * i)) h1
            omega
        have hor : Go.bits .or .u64 (u : Int) (IntKind.u64.wrap (c * 2 ^ (7 * i))) = ((u + c.toNat * 2 ^ (7 * i) : Nat) : Int) := by
          rw [show c = ((c.toNat : Nat) : Int) by omega, Int.toNat_natCast, show ((c.toNat : Nat) : Int) * 2 ^ (7 * i) = ((c.toNat * 2 ^ (7 * i) : Nat) : Int) by simp, IntWalk.u64_in _ ⟨by omega, by omega⟩]
          exact u64_or_add u c.toNat (7 * i) HU.out (by omega)
        have HOR := Aside0.mk hor
        have HM := Aside0.mk hmul
        obtain rfl : (zig (u + c.toNat * 2 ^ (7 * i)), ((a1 + i + 1 : Nat) : Int), 0) = R := by simpa using HG'
        clear HG' hor hmul hpw hlast
        go_wp2_with (first | (go_at_call 24; refine (kind_calls _ i _ HK.out _).mono ?_; rintro e w' ⟨rfl, ⟨n, rfl⟩⟩) | (go_at_call 23; refine (fault_calls _ _ _).mono ?_; rintro e w' ⟨v, rfl, hE, hb, hN⟩))
        go_ret3
        refine ⟨.nilIface, ?_, rfl, ?_, ErrNew.nil⟩
        · rw [HOR.out, zig_of _ (by have := HM.out; omega)]
          norm_cast
        · exact Drawn0.below ⟨_, rfl⟩
      · have hlast : i ≤ 8 ∧ 128 ≤ c := by
          have := HK.out
          unfold kindOf at this
          by_cases h : i = 9 ∧ 1 < c
          · rw [if_pos h] at this; omega
          · rw [if_neg h] at this
            repeat' split at this
            all_goals omega
        have hand : Go.bits .and .u8 c 127 = c % 128 := u8_and127 c hcb.1 (by omega)
        have hcn : IntKind.u64.wrap (c % 128) = ((c.toNat % 128 : Nat) : Int) := by rw [IntWalk.u64_in _ ⟨by omega, by omega⟩]; omega
        have hpw := pow7_le8 i hlast.1
        have hmul : (c.toNat % 128) * 2 ^ (7 * i) + u < 18446744073709551616 := by
          have := HU.out
          have h1 : c.toNat % 128 ≤ 127 := by omega
          have := Nat.mul_le_mul_right (2 ^ (7 * i)) h1
          omega
        have hor : Go.bits .or .u64 (u : Int) (IntKind.u64.wrap (IntKind.u64.wrap (Go.bits .and .u8 c 127) * 2 ^ (7 * i))) = ((u + (c.toNat % 128) * 2 ^ (7 * i) : Nat) : Int) := by
          rw [hand, hcn, show ((c.toNat % 128 : Nat) : Int) * 2 ^ (7 * i) = (((c.toNat % 128) * 2 ^ (7 * i) : Nat) : Int) by simp, IntWalk.u64_in _ ⟨by omega, by omega⟩]
          exact u64_or_add u _ (7 * i) HU.out (by omega)
        have hu' : u + (c.toNat % 128) * 2 ^ (7 * i) < 2 ^ (7 * (i + 1)) := by
          have := HU.out
          have e : 2 ^ (7 * (i + 1)) = 128 * 2 ^ (7 * i) := by rw [show 7 * (i + 1) = 7 * i + 7 by omega, Nat.pow_add, Nat.mul_comm]
          have h1 : c.toNat % 128 ≤ 127 := by omega
          have := Nat.mul_le_mul_right (2 ^ (7 * i)) h1
          omega
        have HOR := Aside0.mk hor
        have HU' := Aside0.mk hu'
        have HG2 : rdGo l0 a1 (l0.length - a1 - (i + 1)) (u + (c.toNat % 128) * 2 ^ (7 * i)) (i + 1) = R := by simpa using HG'
        have HG3 := Aside0.mk HG2
        clear HG' HG2 hor hcn hmul hpw hand hu' HU
        go_wp2_with (first | (go_at_call 24; refine (kind_calls _ i _ HK.out _).mono ?_; rintro e w' ⟨rfl, ⟨n, rfl⟩⟩) | (go_at_call 23; refine (fault_calls _ _ _).mono ?_; rintro e w' ⟨v, rfl, hE, hb, hN⟩))
        go_roundg (gk - 1)
        case measure => omega
        case rel => exact ⟨u + (c.toNat % 128) * 2 ^ (7 * i), i + 1, by rw [HOR.out], by go_num, by omega, ⟨_, rfl⟩, by omega, ⟨HG3.out⟩, by omega, ⟨HU'.out⟩⟩
    · have hz : l0.length - a1 - i = 0 := by omega
      have HG' := HG.out
      rw [hz] at HG'
      obtain rfl : (0, 0, 10) = R := by simpa [rdGo] using HG'
      clear HG' HG hz
      go_wp2_with (first | (go_at_call 23; refine (fault_calls _ _ _).mono ?_; rintro e w' ⟨v, rfl, hE, hb, hN⟩))
      go_ret3
      exact ⟨v, rfl, hE, drewN_below hb, hN⟩

theorem readInt_out (A0 : Option Addr) (c0 : Nat) (l0 : List Int) (a1 : Int) (w : World) (h : a1 < 0 ∨ (l0.length : Int) < a1) (hl : l0.length ≤ 4611686018427387904) :
    Calls Tryd.prog 9 #[.slice A0 l0.length c0, .int .i64 a1] w fun e w' => ∃ v, e = .returned (.tuple #[.int .i64 0, .int .i64 0, v]) ∧ IsErr w' (.fault wireS a1 (.num 1)) v ∧ Below w.heap.size w w' ∧ ErrNew w.heap.size v := by
  by_cases hn : a1 < 0
  · have c4b0 : decide (a1 < 0) = true := decide_eq_true hn
    clear h
    go_enter Tryd.func9, Tryd.ntmps9
    go_wp2_with (first | (go_at_call 23; refine (fault_calls _ _ _).mono ?_; rintro e w' ⟨v, rfl, hE, hb, hN⟩))
    go_ret3
    exact ⟨v, rfl, hE, hb, hN⟩
  · have c4b0 : decide (a1 < 0) = false := decide_eq_false hn
    have c4b1 : decide ((l0.length : Int) < a1) = true := decide_eq_true (by omega)
    clear h
    go_enter Tryd.func9, Tryd.ntmps9
    go_wp2_with (first | (go_at_call 23; refine (fault_calls _ _ _).mono ?_; rintro e w' ⟨v, rfl, hE, hb, hN⟩))
    go_ret3
    exact ⟨v, rfl, hE, hb, hN⟩

/-- wire.ReadInt, at whatever place. -/
theorem readInt_calls (A0 : Option Addr) (c0 : Nat) (l0 : List Int) (a1 : Int) (w : World) (hr0 : Kd.C (Kd.int .u8) w A0 l0.length l0) (hc0 : l0.length ≤ c0) (hl : l0.length ≤ 4611686018427387904) (hbyte : ∀ x ∈ l0, 0 ≤ x ∧ x ≤ 255) :
    Calls Tryd.prog 9 #[.slice A0 l0.length c0, .int .i64 a1] w fun e w' => ∃ v, e = .returned (.tuple #[.int .i64 (readI l0 a1).1, .int .i64 (readI l0 a1).2.1, v]) ∧ IsErr? w' (werr a1 (readI l0 a1).2.2) v ∧ Below w.heap.size w w' ∧ ErrNew w.heap.size v := by
  unfold readI
  by_cases h : a1 < 0 ∨ (l0.length : Int) < a1
  · rw [if_pos h]
    exact readInt_out A0 c0 l0 a1 w h hl
  · rw [if_neg h]
    obtain ⟨m, rfl⟩ := Int.eq_ofNat_of_zero_le (show 0 ≤ a1 by omega)
    exact readInt_in A0 c0 l0 m w hr0 hc0 (by omega) hl hbyte
end Go.Proofs.YtjcllneibeemgaaDoor.PFn
