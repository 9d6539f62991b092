/- live: a stream of a base of no patterns: 'New', 'done', 'matches', 'step', 'Feed' of one byte. -/
import Derived.Test.YtepmapehopgiaaaLnk
import Derived.Test.YtepmapehopgiaaaBas
namespace Go.Proofs.Ytepmapehopgiaaa
open Go.RowKit

theorem NodeAt.lt {w : World} {g : Nat} {f : Nat → Int} (h : NodeAt w g f) : g < w.heap.size := World.block_lt_of_cell? w ⟨g, 258, none⟩ h.hits
/-- The cells of a stream of no players. -/
def streamCells (p m h : Nat) (off : Int) (begun : Bool) : Array Value :=
  #[.slice none 0 0, .pointer (some ⟨p, 0, none⟩), .map (some m), .slice (some ⟨h, 0, none⟩) 0 0, .int .i64 0, .int .i64 off, .bool begun]
/-- A stream of no players in block s: its finder, the finder's one node. -/
structure StreamAt (w : World) (B s : Nat) (off : Int) (begun : Bool) : Prop where
  ex : ∃ p m h g c, B ≤ s ∧ B ≤ p ∧ B ≤ g ∧ p ≠ s ∧ g ≠ s ∧ h ≠ s ∧ w.heap[s]? = some (.cells (streamCells p m h off begun) 81) ∧ 1 ≤ c ∧
    w.heap[p]? = some (.cells #[.slice (some ⟨g, 0, none⟩) 1 c] 116) ∧ NodeAt w g (fun _ => 0) ∧ (∃ t, w.heap[h]? = some (.cells #[] t))

set_option maxRecDepth 100000 in
set_option maxHeartbeats 1000000 in
theorem live_new (w : World) (b n : Nat) (hb : w.heap[b]? = some (.cells (baseCells n) 67)) :
    Calls Try.prog 21 #[.pointer (some ⟨b, 0, none⟩)] w fun e w' => ∃ s, e = .returned (.pointer (some ⟨s, 0, none⟩)) ∧ s < w'.heap.size ∧ StreamAt w' w.heap.size s 0 false ∧ Below w.heap.size w w' := by
  have hmm := @run_makeMap Try.prog
  have hmk : ∀ w, (Instr.makeSlice 79 (.int .i64 0) (.int .i64 0)).run Try.prog w = .ok (.slice (some ⟨w.heap.size, 0, none⟩) 0 0) (w.alloc (.cells #[] 4)) := fun _ => by kernel_rfl
  have hlb := lt_blk hb
  have hb1 : ((w.alloc (.map #[] 0)).alloc (.cells #[.slice none 0 0, .pointer none, .map (some w.heap.size), .slice none 0 0, .int .i64 0, .int .i64 0, .bool false] 81)).heap[b]? = some (.cells (baseCells n) 67) := by
    rw [blk_old _ _ _ (by simp; omega), blk_old _ _ _ hlb]; exact hb
  have hs1 : ((w.alloc (.map #[] 0)).alloc (.cells #[.slice none 0 0, .pointer none, .map (some w.heap.size), .slice none 0 0, .int .i64 0, .int .i64 0, .bool false] 81)).heap[w.heap.size + 1]? =
      some (.cells #[.slice none 0 0, .pointer none, .map (some w.heap.size), .slice none 0 0, .int .i64 0, .int .i64 0, .bool false] 81) := blk_new _ _ _ (by simp)
  have Hb1 := Lib.hid hb1; have Hs1 := Lib.hid hs1; clear hb hb1 hs1
  go_enter Try.func21, Try.ntmps21
  go_wp2_with fail
  refine (patterns_nil _ b (cell_blk Hb1.out 0 rfl)).mono ?_
  rintro e w1 ⟨rfl, rfl⟩
  go_wp2_with fail
  refine (parts_nil _ b (cell_blk Hb1.out 1 rfl)).mono ?_
  rintro e w1 ⟨rfl, rfl⟩
  go_wp2_with fail
  refine wp_loop_rounds 1 ?_; rw [rounds_succ]
  go_wp2_with fail
  refine (literals_nil _ b (cell_blk Hb1.out 2 rfl)).mono ?_
  rintro e w1 ⟨rfl, rfl⟩
  go_wp2_with fail
  refine (acho_new _).mono ?_
  rintro e w2 ⟨p, g, c, rfl, hp0, hp1, hg0, hc, hp, hN, hbel⟩
  simp only [World.size_alloc] at hp0 hg0
  have hs2 : w2.heap[w.heap.size + 1]? = some (.cells #[.slice none 0 0, .pointer none, .map (some w.heap.size), .slice none 0 0, .int .i64 0, .int .i64 0, .bool false] 81) := (hbel.block _ (by simp)).trans Hs1.out
  have c0 := cell_blk hs2 1 rfl
  have c2 : (w2.setCell ⟨w.heap.size + 1, 1, none⟩ (.pointer (some ⟨p, 0, none⟩))).cell? ⟨w.heap.size + 1, 0, none⟩ = some (.slice none 0 0) := cell_blk (blk_set hs2 1 _) 0 rfl
  have hs3 : ((w2.setCell ⟨w.heap.size + 1, 1, none⟩ (.pointer (some ⟨p, 0, none⟩))).alloc (.cells #[] 4)).heap[w.heap.size + 1]? = some (.cells #[.slice none 0 0, .pointer (some ⟨p, 0, none⟩), .map (some w.heap.size), .slice none 0 0, .int .i64 0, .int .i64 0, .bool false] 81) :=
    (blk_old _ _ _ (by rw [World.size_setCell]; have := hbel.size; simp at this; omega)).trans (blk_set hs2 1 _)
  have c3 := cell_blk hs3 3 rfl
  have f4 := free_blk hs3 3
  simp only [List.getElem_toArray, List.getElem_cons_succ, List.getElem_cons_zero] at c0 c3
  have f1 := free_blk hs2 1
  have hsz := hbel.size
  simp only [World.size_alloc] at hsz
  have Hs3 := Lib.hid hs3; have Hp := Lib.hid hp; have HN := Lib.hid hN; have Hbel := Lib.hid hbel; clear hs2 hs3 hp hN hbel
  go_wp2
  go_ret
  have hgl := HN.out.lt
  have hbw : Below w.heap.size w w2 := (((Below.refl _ _).alloc (Nat.le_refl _) _).alloc (by simp) _).trans (Hbel.out.mono (by simp; omega))
  refine ⟨w.heap.size + 1, rfl, by rw [World.size_setCell, World.size_alloc, World.size_setCell]; omega, ⟨p, w.heap.size, w2.heap.size, g, c, by omega, by omega, by omega, by omega, by omega, by omega, blk_set Hs3.out 3 _, hc, ?_, ?_, 4, ?_⟩, ((hbw.setCell (by simp) _).alloc (by rw [World.size_setCell]; omega) _).setCell (by simp) _⟩
  · rw [blk_set_ne _ _ _ _ (by simp; omega), blk_old _ _ _ (by rw [World.size_setCell]; omega), blk_set_ne _ _ _ _ (by simp; omega)]
    exact Hp.out
  · refine HN.out.of_block ?_
    rw [blk_set_ne _ _ _ _ (by simp; omega), blk_old _ _ _ (by rw [World.size_setCell]; omega), blk_set_ne _ _ _ _ (by simp; omega)]
  · rw [blk_set_ne _ _ _ _ (by simp; omega)]
    exact blk_new _ _ _ (by rw [World.size_setCell])

set_option maxRecDepth 100000 in
set_option maxHeartbeats 1000000 in
theorem len_zero (w : World) : Calls Try.prog 50 #[.int .u64 0] w fun e w' => ∃ n : Int, e = .returned (.int .i64 n) ∧ w = w' := by
  go_enter Try.func50, Try.ntmps50
  go_wp2
  go_ret
  exact ⟨_, rfl, rfl⟩

set_option maxHeartbeats 1000000 in
theorem insertion_nil (w : World) : Calls Try.prog 54 #[.slice none 0 0, .int .i64 0, .int .i64 0] w fun e w' => e = .returned (.tuple #[]) ∧ w = w' := by
  go_enter Try.func54, Try.ntmps54
  go_wp2
  refine wp_loop_rounds 1 ?_; rw [rounds_succ]
  go_wp2
  go_end0
  exact ⟨rfl, rfl⟩

set_option maxHeartbeats 1000000 in
theorem pdq_nil (w : World) (n : Int) : Calls Try.prog 49 #[.slice none 0 0, .int .i64 0, .int .i64 0, .int .i64 n] w fun e w' => e = .returned (.tuple #[]) ∧ w = w' := by
  go_enter Try.func49, Try.ntmps49
  go_wp2_with fail
  refine wp_loop_rounds 1 ?_; rw [rounds_succ]
  go_wp2_with fail
  refine (insertion_nil w).mono ?_
  rintro e w1 ⟨rfl, rfl⟩
  go_wp2
  refine bodyPost_ret (results_none rfl _ _ _) rfl ?_
  exact ⟨rfl, rfl⟩

set_option maxHeartbeats 1000000 in
theorem sort_u32_nil (w : World) : Calls Try.prog 43 #[.slice none 0 0] w fun e w' => e = .returned (.tuple #[]) ∧ w = w' := by
  go_enter Try.func43, Try.ntmps43
  go_wp2_with fail
  refine (len_zero w).mono ?_
  rintro e w1 ⟨n, rfl, rfl⟩
  go_wp2_with fail
  refine (pdq_nil w n).mono ?_
  rintro e w1 ⟨rfl, rfl⟩
  go_wp2
  go_end0
  exact ⟨rfl, rfl⟩

set_option maxHeartbeats 1000000 in
theorem compact_u32_nil (w : World) : Calls Try.prog 44 #[.slice none 0 0] w fun e w' => e = .returned (.slice none 0 0) ∧ w = w' := by
  go_enter Try.func44, Try.ntmps44
  go_wp2
  go_ret
  exact ⟨rfl, rfl⟩
end Go.Proofs.Ytepmapehopgiaaa
