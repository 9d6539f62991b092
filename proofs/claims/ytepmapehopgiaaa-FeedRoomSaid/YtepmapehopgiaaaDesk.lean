/- image.Save, desk.New and the law's 'made' over no patterns. -/
import Derived.Test.YtepmapehopgiaaaSeal
import Derived.Test.YtepmapehopgiaaaBas
namespace Go.Proofs.Ytepmapehopgiaaa
open Go.RowKit

set_option maxRecDepth 100000 in
set_option maxHeartbeats 1000000 in
theorem save_nil (w : World) (b : Nat) (m : Nat) (hb : w.heap[b]? = some (.cells (baseCells m) 67)) :
    Calls Try.prog 23 #[.pointer (some ⟨b, 0, none⟩)] w (SealPost 14 w) := by
  have hb0 : (w.alloc (.cells #[.slice none 0 0] 103)).cell? ⟨b, 0, none⟩ = some (.slice none 0 0) := cell_blk ((blk_old _ _ _ (lt_blk hb)).trans hb) 0 rfl
  have Hb0 := Lib.hid hb0; clear hb0
  go_enter Try.func23, Try.ntmps23
  go_wp2_with fail
  refine (patterns_nil _ b Hb0.out).mono ?_
  rintro e w1 ⟨rfl, rfl⟩
  go_wp2_with fail
  refine (uint2 _ w.heap.size (.slice none 0 0) 0 [] w.heap.size 0 (by omega) (blk_new _ _ _ rfl) (Nat.le_refl _) (World.ownsRow_nil _ _ _ _) (by omega) (by intro x hx; cases hx) (by simp)).mono ?_
  rintro e w2 ⟨rfl, v2, xs2, hp2, hown2, hb2, hbel2⟩
  have hs2 := hbel2.size
  simp only [World.size_alloc] at hs2
  go_wp2_with fail
  refine wp_loop_rounds 1 ?_; rw [rounds_succ]
  go_wp2_with fail
  obtain ⟨g2, c2, hv2, hg2, hlt2, hc2, hx2, hcell2⟩ := owns_form hown2 (by omega)
  subst hv2
  refine (data_any w2 w.heap.size g2 _ c2 xs2 hp2 hx2 (by omega) hcell2 (bytes_one hb2)).mono ?_
  rintro e w3 ⟨v3, rfl, hown3, hbel3⟩
  obtain ⟨g3, c3, hv3, hg3, hlt3, hc3, hx3, hcell3⟩ := owns_form hown3 (by omega)
  subst hv3
  have Hc3 := Lib.hid hcell3; clear hcell3 hcell2
  go_wp2_with fail
  refine (seal_any w3 1 g3 _ c3 xs2 (by omega) hx3 (by omega) (by omega) hlt3 Hc3.out hb2).mono ?_
  rintro e w4 ⟨v4, xs4, rfl, hown4, hb4, hbel4⟩
  go_wp2
  go_ret
  have hs3 := hbel3.size
  exact ⟨v4, xs4, rfl, owns_mono hown4 (by omega), hb4, (((Below.refl _ _).alloc (Nat.le_refl _) _).trans hbel2 |>.trans (hbel3.mono (by omega))).trans (hbel4.mono (by omega))⟩

/-- The desk of no streams in block p: its streams' map is block m. -/
def DeskPost (w : World) (e : Ending) (w' : World) : Prop := ∃ (p m : Nat) (u : Int) (b : Nat), e = .returned (.pointer (some ⟨p, 0, none⟩)) ∧ w.heap.size ≤ m ∧ m < w'.heap.size ∧ w.heap.size ≤ p ∧ p < w'.heap.size ∧
  w'.heap[p]? = some (.cells #[.pointer (some ⟨b, 0, none⟩), .int .u32 u, .map (some m), .int .i64 0] 62) ∧ w'.heap[m]? = some (.map #[] 0) ∧ Below w.heap.size w w' ∧ ∃ n, w'.heap[b]? = some (.cells (baseCells n) 67)

set_option maxRecDepth 100000 in
set_option maxHeartbeats 1000000 in
theorem desk_new (w : World) (b : Nat) (m : Nat) (hb : w.heap[b]? = some (.cells (baseCells m) 67)) :
    Calls Try.prog 13 #[.pointer (some ⟨b, 0, none⟩)] w (DeskPost w) := by
  have hmm := @run_makeMap Try.prog
  go_enter Try.func13, Try.ntmps13
  go_wp2_with fail
  refine (save_nil w b m hb).mono ?_
  rintro e w1 ⟨v1, xs1, rfl, hown1, hb1, hbel1⟩
  obtain ⟨g1, c1, hv1, hg1, hlt1, hc1, hx1, hcell1⟩ := owns_form hown1 (by omega)
  subst hv1
  have Hc1 := Lib.hid hcell1; clear hcell1
  go_wp2_with fail
  refine (sum_row w1 g1 10 c1 (xs1.take 10) (by simp; omega) (by omega) (fun x hx => hb1 x (List.mem_of_mem_take hx)) (fun j u hj => Hc1.out j u ?_)).mono ?_
  · rcases Nat.lt_or_ge j 10 with hlt | hge
    · rwa [List.getElem?_take_of_lt hlt] at hj
    · rw [List.getElem?_eq_none (by simp; omega)] at hj; cases hj
  rintro e w2 ⟨u, hu, rfl, rfl⟩
  have hb1' : w1.heap[b]? = some (.cells (baseCells m) 67) := (hbel1.block b (lt_blk hb)).trans hb
  have hlb := lt_blk hb
  have hs := hbel1.size
  go_wp2
  go_ret
  refine ⟨w1.heap.size + 1, w1.heap.size, u, b, rfl, hs, by simp; omega, by omega, by simp, blk_new _ _ _ (by simp), (blk_old _ _ _ (by simp)).trans (blk_new _ _ _ rfl), (hbel1.alloc hs _).alloc (by simp; omega) _, m, ?_⟩
  rw [blk_old _ _ _ (by simp; omega), blk_old _ _ _ (by omega)]
  exact hb1'

set_option maxRecDepth 100000 in
set_option maxHeartbeats 1000000 in
theorem made_nil (w : World) : Calls Try.prog 5 #[.slice none 0 0] w (DeskPost w) := by
  go_enter Try.func5, Try.ntmps5
  go_wp2_with fail
  refine (compile_nil w).mono ?_
  rintro e w1 ⟨rfl, hbel1, hs1, hb1⟩
  go_wp2_with fail
  refine (desk_new _ (w.heap.size + 2) (w.heap.size + 1) ((blk_old _ _ _ (by omega)).trans hb1)).mono ?_
  rintro e w2 ⟨p, m, u, b, rfl, h1, h2, h3, h4, h5, h6, h7, h8⟩
  simp only [World.size_alloc] at h1 h3 h7
  go_wp2
  go_ret
  exact ⟨p, m, u, b, rfl, by omega, h2, by omega, h4, h5, h6, (hbel1.alloc (by omega) _).trans (h7.mono (by omega)), h8⟩
end Go.Proofs.Ytepmapehopgiaaa
