/- Proved: append onto a row of one's own: what comes is that row and the other one behind it, and the row that was there reads as it did; condition: sizes that fit. -/
import Derived.Test.YtcphmcghiidicaaPRwx0
namespace Go.Proofs.Ytcphmcghiidicaa.PRw
open Go.RowKit Go.Proofs.YtcphmcghiidicaaW.PrintWords Go.Proofs.YtcphmcghiidicaaW.PrintLast
set_option linter.unusedVariables false
theorem own_room {w : World} {base e size g n cap : Nat} {xs news : List Value} {cur : Array Value} (hx : xs.length = n * size) (hbg : base ≤ g) (hg : w.heap[g]? = some (.cells cur e (0, 0))) (hnc : n ≤ cap) (hcm : cap ≤ maxLen) (hcs : cur.size = cap * size) (htake : cur.toList.take (n * size) = xs) (hfit : n * size + news.length ≤ cur.size) :
    (w.setRow g (cur.toList.take (n * size) ++ news ++ cur.toList.drop (n * size + news.length)).toArray).ownsRow base e size (.slice (some ⟨g, 0, none⟩) n cap) n xs := by
  refine ⟨hx, .inr ⟨g, cap, _, rfl, hbg, setRow_heap w g cur _ e _ hg, hnc, hcm, ?_, ?_⟩⟩
  · simp only [List.size_toArray, List.length_append, List.length_take, List.length_drop, Array.length_toList]
    omega
  · rw [htake, List.append_assoc, List.take_append_of_le_length (by omega), List.take_of_length_le (by omega)]
theorem app_keeps {W : World} (base : Nat) (ok : Nat → Prop) (ty : TypeId) (v : Value) (xs ys : List S35) (A : Option Addr) (m c : Nat) (HO : Kd.R k35 35 W base ok v xs) (HR : Kd.C k35 W A m ys) (hbase : base ≤ W.heap.size) (hfresh : ∀ k, W.heap.size ≤ k → ok k) (hl : (xs.length + m) * 16 ≤ 140737488355328) :
    ∃ v1 w1, (Builtin.append_ #[22, 22] ty #[v, .slice A m c]).run Try.prog W = .ok v1 w1 ∧ Kd.R k35 35 w1 base ok v1 (xs ++ ys) ∧ Kd.R k35 35 w1 base ok v xs ∧ W.grownBy w1 v.ownBlock ∧ (v1.ownBlock = v.ownBlock ∨ ∃ b, v1.ownBlock = some b ∧ W.heap.size ≤ b) := by
  obtain ⟨i0, hi, hzz⟩ := Option.map_eq_some_iff.1 info35
  simp only [Prod.mk.injEq] at hzz
  obtain ⟨hz0, hz1, hz2⟩ := hzz
  have hm : ys.length = m := HR.1
  have HO' := HO
  obtain ⟨hok, inner, hown, hr⟩ := HO
  rcases A with _ | ad
  · have h0 : m = 0 := by
      rcases Nat.eq_zero_or_pos m with h0 | h0
      · exact h0
      · obtain ⟨ad, h, _⟩ := HR.2.2 h0
        cases h
    subst h0
    obtain rfl : ys = [] := List.eq_nil_of_length_eq_zero hm
    refine ⟨v, W, ?_, by rw [List.append_nil]; exact HO', HO', World.grownBy.refl W _, .inl rfl⟩
    rcases hown.2 with ⟨rfl, hn⟩ | ⟨g, cap, cur, rfl, _, _, hnc, _⟩
    · simp [Builtin.append_, run_underlying Try.underlying22, sizeOf, typeInfo, hi, Builtin.lenOf, Builtin.firstCells]
    · simp [Builtin.append_, run_underlying Try.underlying22, sizeOf, typeInfo, hi, Builtin.lenOf, Builtin.firstCells, hnc, storeCells]
  · obtain ⟨news, hnr, hnc⟩ := ReadsRow.inner_ HR
    have hone : ∀ u ∈ news, u.oneCell' = true := by
      intro u hu
      obtain ⟨q, hq, rfl⟩ := List.mem_iff_getElem.1 hu
      have hql : q / 2 < ys.length := by
        rw [Nat.div_lt_iff_lt_mul (by decide)]
        have := hnr.1
        exact this ▸ hq
      have hc := hnr.2 (q / 2) _ (List.getElem?_eq_getElem hql)
      refine k35.K_one hc _ ?_
      rw [List.mem_iff_getElem?]
      refine ⟨q % 2, ?_⟩
      show (List.take 2 (List.drop (q / 2 * 2) news))[q % 2]? = _
      rw [List.getElem?_take, if_pos (Nat.mod_lt _ (by decide)), List.getElem?_drop, Nat.mul_comm, Nat.div_add_mod, List.getElem?_eq_getElem hq]
    have hnl : news.length = m * 2 := by rw [hnr.1, hm]; rfl
    obtain ⟨v1, w1, hrun, h2, hg, _, hat⟩ := run_append_own_at (P := Try.prog) W base 22 ty 35 i0 (.agg #[(.int .i64 0), (.int .i64 0)]) 2 16 Try.underlying22 hi hz0 hz1 hz2 rfl (by decide) v xs.length inner hown ad m c news hnl hnc hone (by simp only [maxLen]; omega) hl hbase
    have hat' : v1.ownBlock = v.ownBlock ∨ ∃ b, v1.ownBlock = some b ∧ W.heap.size ≤ b := by
      rcases hat with hat | hat
      · exact .inl hat
      · exact .inr ⟨_, hat, Nat.le_refl _⟩
    have hold : w1.ownsRow base 35 2 v xs.length inner := by
      rcases hown.2 with ⟨rfl, hn⟩ | ⟨g, cap, cur, rfl, hbg, hgg, hncap, hcm, hcs, htake⟩
      · exact ⟨hown.1, .inl ⟨rfl, hn⟩⟩
      · replace hcs : cur.size = cap * 2 := hcs
        by_cases hroom : xs.length + m ≤ cap
        · have hfit : xs.length * 2 + news.length ≤ cur.size := by rw [hnl, hcs]; omega
          have hr2 := run_append_room (P := Try.prog) W 22 ty 35 i0 Try.underlying22 hi g xs.length cap cur hgg ad m c news (by rw [hz1]; exact hnl) hnc hone hroom (by rw [hz1]; exact hfit)
          rw [hr2] at hrun
          injection hrun with e1 e2
          rw [← e2, hz1]
          exact own_room hown.1 hbg hgg hncap hcm hcs htake hfit
        · have holds : ∀ j u, inner[j]? = some u → W.cell? ((⟨g, 0, none⟩ : Addr).add j) = some u := hown.cells (g := g) rfl
          have hr2 := run_append_grow (P := Try.prog) W 22 ty 35 i0 (.agg #[(.int .i64 0), (.int .i64 0)]) Try.underlying22 hi hz0 ⟨g, 0, none⟩ xs.length cap inner (by rw [hz1]; exact hown.1) holds ad m c news (by rw [hz1]; exact hnl) hnc (by omega) (by omega) (growslice_fits (by omega) (by rw [hz2]; exact hl))
          rw [hr2] at hrun
          injection hrun with e1 e2
          rw [← e2]
          refine own_move hown (fun k hk => ?_)
          have hlt := hown.lt k hk
          exact (below_alloc (below_drew (Below.refl W.heap.size W)) _).block k hlt.2
    have hE : Kd.R k35 35 w1 base ok v xs := ⟨hok, inner, hold, hr.imp_ (fun _ _ hq => by rw [k35_openM hq]; exact k35_mkM _ _ _ _)⟩
    refine ⟨v1, w1, hrun, ⟨fun k hk => ?_, inner ++ news, by rw [List.length_append, hm]; exact h2, Kd.reps_append (hr.imp_ (fun _ _ hq => ?_)) (hnr.imp_ (fun _ _ hq => ?_))⟩, hE, hg, hat'⟩
    · rcases hat' with h | ⟨b, h, hb⟩
      · exact hok k (h ▸ hk)
      · rw [h] at hk; injection hk with hk; subst hk; exact hfresh _ hb
    · rw [k35_openM hq]; exact k35_mkM _ _ _ _
    · rw [k35_open hq]; exact k35_mkM _ _ _ _
end Go.Proofs.Ytcphmcghiidicaa.PRw
