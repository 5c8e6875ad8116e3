/- Proved: the condition of the law WireBack' walk holds of every input of the row; condition: what comes in is of the bound's size. -/
import Derived.Test.YtjcllneibeemgaaDoorPWireBackq
import Derived.Test.YtjcllneibeemgaaDoorPureWireInts
import Derived.IntWalk
import Derived.OpenShut
import Derived.DataShut
namespace Go.Proofs.YtjcllneibeemgaaDoor.Pure
open Go.RowKit Go.Proofs.YtjcllneibeemgaaDoor.PFn Go.Proofs.YtjcllneibeemgaaDoorW.PrintWords Go.Proofs.YtjcllneibeemgaaDoorW.PrintLast Go.Proofs.YtjcllneibeemgaaDoorW.PrintMore
set_option linter.unusedVariables false
set_option linter.unusedSimpArgs false

theorem rows_len (l : List RowT) : (rowsE l).length ≤ 20 * l.length := by
  induction l with
  | nil => simp [rowsE]
  | cons r l ih =>
    have h0 := encI_len r.f0
    have h1 := encI_len r.f1
    simp only [rowsE, List.length_append, List.length_cons]
    omega
theorem rows_bytes {l : List RowT} (h : ∀ r ∈ l, okRow r) : ∀ x ∈ rowsE l, 0 ≤ x ∧ x ≤ 255 := by
  induction l with
  | nil => intro x hx; cases hx
  | cons r l ih =>
    intro x hx
    rcases List.mem_append.1 hx with hx | hx
    · exact encI_bytes (h r List.mem_cons_self).1 x hx
    rcases List.mem_append.1 hx with hx | hx
    · exact encI_bytes (h r List.mem_cons_self).2 x hx
    · exact ih (fun y hy => h y (List.mem_cons_of_mem _ hy)) x hx
theorem encR_b {l : List RowT} (h : ∀ r ∈ l, okRow r) (hl : l.length ≤ 64) : ∀ x ∈ encR l, 0 ≤ x ∧ x ≤ 255 := by
  intro x hx
  rcases List.mem_append.1 hx with hx | hx
  · exact encI_bytes (okI_nat (by omega)) x hx
  · exact rows_bytes h x hx
theorem encD_b {a b c : Int} (ha : okI a) (hb : okI b) (hc : okI c) : ∀ x ∈ encD a b c, 0 ≤ x ∧ x ≤ 255 := by
  intro x hx
  rcases List.mem_append.1 hx with hx | hx
  · exact encI_bytes ha x hx
  rcases List.mem_append.1 hx with hx | hx
  · exact encI_bytes hb x hx
  · exact encI_bytes hc x hx
theorem take_mn (l : List RowT) : 0 ≤ mn (l.length : Int) 64 ∧ mn (l.length : Int) 64 ≤ (l.length : Int) ∧ l.take (mn (l.length : Int) 64).toNat = l.take 64 := by
  unfold mn
  split
  · exact ⟨by omega, by omega, rfl⟩
  · exact ⟨by omega, by omega, by rw [List.take_of_length_le (by omega), List.take_of_length_le (by omega)]⟩
theorem WireBack : tributarylaw1_WireBack.Pure := by
  intro a0 l1 x0 x1 x2 l3 l4 h0 h1 h1' u1 h2 h3 h3' u3 h4 h4' u4
  refine ⟨200, ?_⟩
  have o0 := okI_of h0
  have p0 := okI_of h2.1
  have p1 := okI_of h2.2.1
  have p2 := okI_of h2.2.2
  obtain ⟨a1, a2, a3⟩ := take_mn l1
  unfold tributarylaw1_WireBack.f
  rw [if_pos a1, if_pos a2, a3]
  obtain ⟨L, hL⟩ : ∃ L, L = l1.take 64 := ⟨_, rfl⟩
  rw [← hL]
  have lL : L.length ≤ 64 := by rw [hL, List.length_take]; omega
  have oL : ∀ r ∈ L, okRow r := by
    intro r hr
    rw [hL] at hr
    have := h1.2 r (List.mem_of_mem_take hr)
    exact ⟨okI_of this.1, okI_of this.2⟩
  have b3 := (okBytes_iff.1 (okBytes_of h3 h3')).2
  have b4 := (okBytes_iff.1 (okBytes_of h4 h4')).2
  have e0 := encI_len a0
  have e1 : (encR L).length ≤ 1300 := by
    have i0 := encI_len (L.length : Int)
    have i1 := rows_len L
    unfold encR
    rw [List.length_append]
    omega
  have e2 : (encD x0 x1 x2).length ≤ 30 := by
    have i0 := encI_len x0
    have i1 := encI_len x1
    have i2 := encI_len x2
    unfold encD
    rw [List.length_append, List.length_append]
    omega
  simp only [Option.bind_some, List.nil_append, List.length_nil]
  rw [wire_Int_f a0 o0 200 (by decide), wire_Rows_f L oL lL 200 (by decide), wire_ID_f x0 x1 x2 p0 p1 p2 200 (by decide)]
  simp only [Option.bind_some]
  rw [if_pos (by omega), if_pos (by omega), if_pos (by rw [List.length_append]; omega), if_pos (by rw [List.length_append, List.length_append]; omega), if_pos (by rw [List.length_append, List.length_append, List.length_append]; omega)]
  obtain ⟨Z, hZ⟩ : ∃ Z, Z = l3 ++ encI a0 ++ encR L ++ encD x0 x1 x2 ++ l4 := ⟨_, rfl⟩
  rw [← hZ]
  have z0 : Z = l3 ++ (encI a0 ++ (encR L ++ encD x0 x1 x2 ++ l4)) := by rw [hZ]; simp
  have z1 : Z = (l3 ++ encI a0) ++ (encR L ++ (encD x0 x1 x2 ++ l4)) := by rw [hZ]; simp
  have z2 : Z = (l3 ++ encI a0 ++ encR L) ++ (encD x0 x1 x2 ++ l4) := by rw [hZ]; simp
  have okZ : okBytes Z = true := by
    refine okBytes_iff.2 ⟨by rw [hZ]; simp only [List.length_append]; omega, ?_⟩
    intro x hx
    rw [hZ] at hx
    simp only [List.mem_append] at hx
    rcases hx with (((hx | hx) | hx) | hx) | hx
    · exact b3 x hx
    · exact encI_bytes o0 x hx
    · exact encR_b oL lL x hx
    · exact encD_b p0 p1 p2 x hx
    · exact b4 x hx
  have w1 : wrap64 ((l3.length : Int) + ((encI a0).length : Int)) = ((l3 ++ encI a0).length : Int) := by simp only [List.length_append]; unfold wrap64; omega
  have w2 : wrap64 (((l3 ++ encI a0).length : Int) + ((encR L).length : Int)) = ((l3 ++ encI a0 ++ encR L).length : Int) := by simp only [List.length_append]; unfold wrap64; omega
  have w3 : wrap64 (((l3 ++ encI a0 ++ encR L).length : Int) + ((encD x0 x1 x2).length : Int)) = (((l3 ++ encI a0 ++ encR L).length + (encD x0 x1 x2).length : Nat) : Int) := by simp only [List.length_append]; unfold wrap64; omega
  have r0 : wire_ReadInt.f Z (l3.length : Int) = some (a0, ((l3 ++ encI a0).length : Int), none) := by
    unfold wire_ReadInt.f
    rw [if_pos okZ, z0, readI_enc l3 _ a0 o0, List.length_append]
    rfl
  have r1 : wire_ReadRows.f Z ((l3 ++ encI a0).length : Int) = some (L, ((l3 ++ encI a0 ++ encR L).length : Int), none) := by
    unfold wire_ReadRows.f
    rw [if_pos okZ, z1, readRows_enc (l3 ++ encI a0) _ L oL lL, show (l3 ++ encI a0 ++ encR L).length = (l3 ++ encI a0).length + (encR L).length from List.length_append]
    rfl
  have r2 : wire_ReadID.f Z ((l3 ++ encI a0 ++ encR L).length : Int) = some (x0, x1, x2, (((l3 ++ encI a0 ++ encR L).length + (encD x0 x1 x2).length : Nat) : Int), none) := by
    obtain ⟨g, hg⟩ := readID_enc (l3 ++ encI a0 ++ encR L) l4 x0 x1 x2 p0 p1 p2
    unfold wire_ReadID.f
    rw [if_pos okZ, z2, hg]
    rfl
  rw [r0, w1, w2, r1, r2]
  have hs := ref2_Same_f L (by omega) 200 (by omega)
  simp only [Option.bind_some, Option.isNone_none, if_true, tributarylaw1_told.f, hs, w2, w3, beq_self_eq_true, Bool.and_self]
end Go.Proofs.YtjcllneibeemgaaDoor.Pure
