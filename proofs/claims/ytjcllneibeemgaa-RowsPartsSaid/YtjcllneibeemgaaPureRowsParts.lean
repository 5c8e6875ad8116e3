/- Proved: for every key and every number of parts the law tributarylaw2.RowsParts returns true and leaves its arguments as they were; no condition. -/
import Derived.Test.YtjcllneibeemgaaPRowsPartsx1
import Derived.IntWalk
import Derived.OpenShut
namespace Go.Proofs.Ytjcllneibeemgaa.Pure
open Go.RowKit Go.Proofs.Ytjcllneibeemgaa.PRowsParts Go.Proofs.YtjcllneibeemgaaW.PrintWords Go.Proofs.YtjcllneibeemgaaW.PrintLast Go.Proofs.YtjcllneibeemgaaW.PrintMore
set_option linter.unusedVariables false

def partOf (k n : Int) : Int := if n < 2 then 0 else (IntKind.u64.wrap (IntKind.u64.wrap k * 11400714819323198485) / 8589934592) % n

theorem hash_bd (k : Int) : 0 ≤ IntKind.u64.wrap (IntKind.u64.wrap k * 11400714819323198485) / 8589934592 ∧ IntKind.u64.wrap (IntKind.u64.wrap k * 11400714819323198485) / 8589934592 ≤ 2147483647 := by
  rw [IntKind.wrap_u64 (IntKind.u64.wrap k * 11400714819323198485)]
  generalize IntKind.u64.wrap k * 11400714819323198485 = y
  omega

theorem part_f (k n : Int) : rows_Part.f k n = some (partOf k n) := by
  unfold rows_Part.f partOf
  by_cases h : n < 2
  · rw [if_pos h, if_pos h]
  · rw [if_neg h, if_neg h, if_neg (by omega)]
    have hb := hash_bd k
    generalize IntKind.u64.wrap (IntKind.u64.wrap k * 11400714819323198485) / 8589934592 = y at hb ⊢
    rw [show wrap64 y = y by unfold wrap64; omega, Int.tmod_eq_emod_of_nonneg hb.1]

theorem partOf_lo (k n : Int) : 0 ≤ partOf k n := by
  unfold partOf; split
  · omega
  · exact Int.emod_nonneg _ (by omega)

theorem partOf_hi (k n : Int) (h : 1 ≤ n) : partOf k n < n := by
  unfold partOf; split
  · omega
  · exact Int.emod_lt_of_pos _ (by omega)

theorem refPart_f (k n : Int) (hn : n ≤ 9223372036854775807) : tributaryref2_Part.f k n = some (partOf k n) := by
  unfold tributaryref2_Part.f partOf
  by_cases h : n < 2
  · rw [if_pos h, if_pos h]
  · rw [if_neg h, if_neg h]
    have e : IntKind.u64.wrap n = n := IntWalk.u64_in n ⟨by omega, by omega⟩
    rw [e, if_neg (by omega)]
    have hb := hash_bd k
    generalize IntKind.u64.wrap (IntKind.u64.wrap k * 11400714819323198485) / 8589934592 = y at hb ⊢
    rw [Int.tmod_eq_emod_of_nonneg hb.1]
    have h1 := Int.emod_nonneg y (show n ≠ 0 by omega)
    have h2 := Int.emod_lt_of_pos y (show 0 < n by omega)
    generalize y % n = z at h1 h2 ⊢
    rw [show wrap64 z = z by unfold wrap64; omega]

theorem told_f : tributarylaw2_told.f 2 = some true := by decide +kernel

theorem RowsParts : tributarylaw2_RowsParts.Pure := by
  intro k n _ wn
  have hn := Go.bounds_i64 wn
  refine ⟨2, ?_⟩
  unfold tributarylaw2_RowsParts.f
  rw [part_f, told_f, refPart_f k n hn.2]
  simp only [Option.bind_some, if_true]
  rw [if_pos (partOf_lo k n)]
  by_cases h : n < 1
  · rw [if_pos h]
  · rw [if_neg h, decide_eq_true (partOf_hi k n (by omega))]

end Go.Proofs.Ytjcllneibeemgaa.Pure
