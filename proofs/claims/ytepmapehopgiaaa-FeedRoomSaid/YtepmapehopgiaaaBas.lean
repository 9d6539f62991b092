/- The base of no patterns: 'Compile(nil)', and 'Patterns', 'Parts', 'Literals' of a base whose lists are nil. -/
import Derived.Test.YtepmapehopgiaaaBase
namespace Go.Proofs.Ytepmapehopgiaaa
open Go.RowKit

set_option maxHeartbeats 400000 in
theorem patterns_nil (w : World) (p : Nat) (h0 : w.cell? ⟨p, 0, none⟩ = some (.slice none 0 0)) :
    Calls Try.prog 26 #[.pointer (some ⟨p, 0, none⟩)] w fun e w' => e = .returned (.slice none 0 0) ∧ w = w' := by
  go_enter Try.func26, Try.ntmps26
  go_wp2
  refine wp_loop_rounds 1 ?_; rw [rounds_succ]
  go_wp2
  go_ret
  exact ⟨rfl, rfl⟩

set_option maxHeartbeats 400000 in
theorem parts_nil (w : World) (p : Nat) (h0 : w.cell? ⟨p, 1, none⟩ = some (.slice none 0 0)) :
    Calls Try.prog 27 #[.pointer (some ⟨p, 0, none⟩)] w fun e w' => e = .returned (.slice none 0 0) ∧ w = w' := by
  go_enter Try.func27, Try.ntmps27
  go_wp2
  refine wp_loop_rounds 1 ?_; rw [rounds_succ]
  go_wp2
  go_ret
  exact ⟨rfl, rfl⟩

set_option maxHeartbeats 400000 in
theorem literals_nil (w : World) (p : Nat) (h0 : w.cell? ⟨p, 2, none⟩ = some (.slice none 0 0)) :
    Calls Try.prog 30 #[.pointer (some ⟨p, 0, none⟩)] w fun e w' => e = .returned (.slice none 0 0) ∧ w = w' := by
  go_enter Try.func30, Try.ntmps30
  go_wp2
  refine wp_loop_rounds 1 ?_; rw [rounds_succ]
  go_wp2
  go_ret
  exact ⟨rfl, rfl⟩

/-- A base of no patterns in block p: all lists nil. -/
def baseCells (m : Nat) : Array Value := #[.slice none 0 0, .slice none 0 0, .slice none 0 0, .map (some m), .int .i64 0]

set_option maxHeartbeats 400000 in
theorem compile_nil (w : World) :
    Calls Try.prog 12 #[.slice none 0 0] w fun e w' => e = .returned (.tuple #[.pointer (some ⟨w.heap.size + 2, 0, none⟩), .int .i64 0, .agg #[.int .i64 0, .int .i64 0]]) ∧
      Below w.heap.size w w' ∧ w'.heap.size = w.heap.size + 3 ∧ w'.heap[w.heap.size + 2]? = some (.cells (baseCells (w.heap.size + 1)) 67) := by
  have hmm := @run_makeMap Try.prog
  go_enter Try.func12, Try.ntmps12
  go_wp2
  refine wp_loop_rounds 1 ?_; rw [rounds_succ]
  go_wp2
  refine bodyPost_ret (v := .tuple #[.pointer (some ⟨w.heap.size + 2, 0, none⟩), .int .i64 0, .agg #[.int .i64 0, .int .i64 0]]) (by simp [results, Try.results12, go_sem]) rfl ⟨rfl, ?_⟩
  refine ⟨?_, ?_, ?_⟩
  · go_grown
  · simp
  · exact blk_new _ _ _ (by simp)
end Go.Proofs.Ytepmapehopgiaaa
