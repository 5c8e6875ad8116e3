/- Proved: what wide.told hands back, and what the functions in it tell; condition: a function from 0 to 5. -/
import Derived.Test.YtbbjkgpilmcldaaGrIter
import Derived.Laws.ResultCell
namespace Go.Proofs.Ytbbjkgpilmcldaa.Seq
open Go.RowKit Go.Maps
open Go.Proofs.YtbbjkgpilmcldaaW.PrintWords Go.Proofs.YtbbjkgpilmcldaaW.PrintLast Go.Proofs.YtbbjkgpilmcldaaW.PrintMore
attribute [local go_sem] max2_int min2_int max_two min_two
set_option linter.unusedVariables false
set_option linter.unusedSimpArgs false
theorem store_func (P : Program) (a : Addr) (f : Fn) (x y : Array Value) (m : Mode) (w : World) : (store a (.func f x y) m).run P w = stored P w a (.func f x y) m := run_store P w a _ m rfl
attribute [local go_sem] store_func
def fn1 : Nat → Nat
  | 3 => 58
  | _ => 54
def fn2 : Nat → Nat
  | 0 => 55
  | 1 => 56
  | 2 => 57
  | 3 => 59
  | 4 => 60
  | _ => 61
def firstV (f : Nat) (v : Int) : Int := if f = 3 then 1 else v
def nextV (f : Nat) (x v : Int) : Int := match f with
  | 0 => wrap64 (x + v)
  | 1 => min x v
  | 2 => max x v
  | 3 => wrap64 (x + 1)
  | 4 => x
  | _ => v
def tellers : Array Value := #[.func (.func 54) #[] #[], .func (.func 55) #[] #[], .func (.func 54) #[] #[], .func (.func 56) #[] #[], .func (.func 54) #[] #[], .func (.func 57) #[] #[], .func (.func 58) #[] #[], .func (.func 59) #[] #[], .func (.func 54) #[] #[], .func (.func 60) #[] #[], .func (.func 54) #[] #[], .func (.func 61) #[] #[]]
set_option maxHeartbeats 2000000 in
set_option maxRecDepth 100000 in
theorem told_calls (f : Nat) (hf : f ≤ 5) (w : World) : Calls Try.prog 41 #[.int .i64 (f : Int)] w fun e w' => e = .returned (.tuple #[.agg #[.func (.func (fn1 f)) #[] #[], .func (.func (fn2 f)) #[] #[]], .bool true]) ∧ Below w.heap.size w w' := by
  have h : f = 0 ∨ f = 1 ∨ f = 2 ∨ f = 3 ∨ f = 4 ∨ f = 5 := by omega
  clear hf
  have hA : ((w.alloc (.cells #[.nilFunc, .nilFunc] 69)).alloc (.cells tellers 69)).heap[w.heap.size]? = some (.cells #[.nilFunc, .nilFunc] 69 (0, 0)) := (Below.heap_alloc _ _ _ (by simp)).trans (World.alloc_heap_new w _)
  have c0 : World.cell? _ ⟨w.heap.size, 0, none⟩ = some .nilFunc := blk_c hA 0
  have c1 : World.cell? _ ⟨w.heap.size, 1, none⟩ = some .nilFunc := blk_c hA 1
  have f0 := blk_frozen hA 0
  have f1 := blk_frozen hA 1
  unfold tellers at c0 c1 f0 f1
  clear hA
  rcases h with rfl | rfl | rfl | rfl | rfl | rfl
  all_goals
    go_enter Try.func41, Try.ntmps41
    go_wp2
    refine bodyPost_ret (v := .tuple #[.agg #[.func (.func _) #[] #[], .func (.func _) #[] #[]], .bool true]) ?_ rfl ⟨rfl, (((Below.refl _ w).alloc (Nat.le_refl _) _).alloc (by simp) _)⟩
    rw [results_cell_tmp rfl]
    go_simp
    exact ⟨rfl, rfl⟩
theorem plain_calls (v : Int) (w : World) : Calls Try.prog 54 #[.int .i64 v] w fun e w' => e = .returned (.int .i64 v) ∧ w' = w := by
  go_enter Try.func54, Try.ntmps54
  go_wp2
  go_ret
  exact ⟨rfl, rfl⟩
theorem one_calls (v : Int) (w : World) : Calls Try.prog 58 #[.int .i64 v] w fun e w' => e = .returned (.int .i64 1) ∧ w' = w := by
  go_enter Try.func58, Try.ntmps58
  go_wp2
  go_ret
  exact ⟨rfl, rfl⟩
theorem first_calls (f : Nat) (hf : f ≤ 5) (v : Int) (w : World) : Calls Try.prog (fn1 f) #[.int .i64 v] w fun e w' => e = .returned (.int .i64 (firstV f v)) ∧ w' = w := by
  have h : f = 0 ∨ f = 1 ∨ f = 2 ∨ f = 3 ∨ f = 4 ∨ f = 5 := by omega
  rcases h with rfl | rfl | rfl | rfl | rfl | rfl
  · exact plain_calls v w
  · exact plain_calls v w
  · exact plain_calls v w
  · exact one_calls v w
  · exact plain_calls v w
  · exact plain_calls v w
theorem n1_calls (x v : Int) (w : World) : Calls Try.prog 55 #[.int .i64 x, .int .i64 v] w fun e w' => e = .returned (.int .i64 (wrap64 (x + v))) ∧ w' = w := by
  go_enter Try.func55, Try.ntmps55
  go_wp2
  go_ret
  exact ⟨rfl, rfl⟩
theorem n2_calls (x v : Int) (w : World) : Calls Try.prog 56 #[.int .i64 x, .int .i64 v] w fun e w' => e = .returned (.int .i64 (min x v)) ∧ w' = w := by
  go_enter Try.func56, Try.ntmps56
  go_wp2
  all_goals go_ret
  all_goals exact ⟨congrArg (fun z : Int => Ending.returned (.int .i64 z)) (by omega), rfl⟩
theorem n3_calls (x v : Int) (w : World) : Calls Try.prog 57 #[.int .i64 x, .int .i64 v] w fun e w' => e = .returned (.int .i64 (max x v)) ∧ w' = w := by
  go_enter Try.func57, Try.ntmps57
  go_wp2
  all_goals go_ret
  all_goals exact ⟨congrArg (fun z : Int => Ending.returned (.int .i64 z)) (by omega), rfl⟩
theorem n4_calls (x v : Int) (w : World) : Calls Try.prog 59 #[.int .i64 x, .int .i64 v] w fun e w' => e = .returned (.int .i64 (wrap64 (x + 1))) ∧ w' = w := by
  go_enter Try.func59, Try.ntmps59
  go_wp2
  go_ret
  exact ⟨rfl, rfl⟩
theorem n5_calls (x v : Int) (w : World) : Calls Try.prog 60 #[.int .i64 x, .int .i64 v] w fun e w' => e = .returned (.int .i64 x) ∧ w' = w := by
  go_enter Try.func60, Try.ntmps60
  go_wp2
  go_ret
  exact ⟨rfl, rfl⟩
theorem n6_calls (x v : Int) (w : World) : Calls Try.prog 61 #[.int .i64 x, .int .i64 v] w fun e w' => e = .returned (.int .i64 v) ∧ w' = w := by
  go_enter Try.func61, Try.ntmps61
  go_wp2
  go_ret
  exact ⟨rfl, rfl⟩
theorem next_calls (f : Nat) (hf : f ≤ 5) (x v : Int) (w : World) : Calls Try.prog (fn2 f) #[.int .i64 x, .int .i64 v] w fun e w' => e = .returned (.int .i64 (nextV f x v)) ∧ w' = w := by
  have h : f = 0 ∨ f = 1 ∨ f = 2 ∨ f = 3 ∨ f = 4 ∨ f = 5 := by omega
  rcases h with rfl | rfl | rfl | rfl | rfl | rfl
  · exact n1_calls x v w
  · exact n2_calls x v w
  · exact n3_calls x v w
  · exact n4_calls x v w
  · exact n5_calls x v w
  · exact n6_calls x v w
theorem first_enter (f : Nat) (hf : f ≤ 5) : ∀ args w, (callFunc (fn1 f) args).run Try.prog w = .ok (.enter (fn1 f) args) w := by
  have h : f = 0 ∨ f = 1 ∨ f = 2 ∨ f = 3 ∨ f = 4 ∨ f = 5 := by omega
  rcases h with rfl | rfl | rfl | rfl | rfl | rfl
  · exact enters_of Try.func54 (by kernel_rfl) rfl
  · exact enters_of Try.func54 (by kernel_rfl) rfl
  · exact enters_of Try.func54 (by kernel_rfl) rfl
  · exact enters_of Try.func58 (by kernel_rfl) rfl
  · exact enters_of Try.func54 (by kernel_rfl) rfl
  · exact enters_of Try.func54 (by kernel_rfl) rfl
theorem next_enter (f : Nat) (hf : f ≤ 5) : ∀ args w, (callFunc (fn2 f) args).run Try.prog w = .ok (.enter (fn2 f) args) w := by
  have h : f = 0 ∨ f = 1 ∨ f = 2 ∨ f = 3 ∨ f = 4 ∨ f = 5 := by omega
  rcases h with rfl | rfl | rfl | rfl | rfl | rfl
  · exact enters_of Try.func55 (by kernel_rfl) rfl
  · exact enters_of Try.func56 (by kernel_rfl) rfl
  · exact enters_of Try.func57 (by kernel_rfl) rfl
  · exact enters_of Try.func59 (by kernel_rfl) rfl
  · exact enters_of Try.func60 (by kernel_rfl) rfl
  · exact enters_of Try.func61 (by kernel_rfl) rfl
end Go.Proofs.Ytbbjkgpilmcldaa.Seq
