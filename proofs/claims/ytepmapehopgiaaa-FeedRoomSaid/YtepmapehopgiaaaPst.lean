/- feed: 'Post$1', 'Post' of no text and of one byte, 'End'. -/
import Derived.Test.YtepmapehopgiaaaOpn
import Derived.Test.YtepmapehopgiaaaFeed
namespace Go.Proofs.Ytepmapehopgiaaa
open Go.RowKit

theorem info50 : (Try.prog.info? 50).map (·.size) = some 3 := by kernel_rfl

set_option maxRecDepth 100000 in
set_option maxHeartbeats 1000000 in
/-- The closure of a post to a handle that is not open. -/
theorem post1_none (w : World) (d m hb wb : Nat) (i : Int) (v : Value) (hi : -9223372036854775808 ≤ i ∧ i ≤ 9223372036854775807) (h2 : w.cell? ⟨d, 2, none⟩ = some (.map (some m))) (hm : w.heap[m]? = some (.map #[] 0))
    (hh : w.cell? ⟨hb, 0, none⟩ = some (.int .i64 i)) (hw : w.cell? ⟨wb, 0, none⟩ = some v) :
    Calls Try.prog 16 #[.pointer (some ⟨d, 0, none⟩), .pointer (some ⟨hb, 0, none⟩), .pointer (some ⟨wb, 0, none⟩)] w fun e w' => e = .returned (.agg #[.int .i64 i, .int .i64 260, .slice none 0 0]) ∧ w.alloc (.cells #[.int .i64 i, .int .i64 260, .slice none 0 0] 50) = w' := by
  have l1 := World.block_lt_of_cell? w _ hh
  have l2 := World.block_lt_of_cell? w _ hw
  have hh1 : (w.alloc (.cells #[.int .i64 0, .int .i64 0, .slice none 0 0] 50)).cell? ⟨hb, 0, none⟩ = some (.int .i64 i) := (World.cell?_alloc_lt _ _ _ l1).trans hh
  have hw1 : (w.alloc (.cells #[.int .i64 0, .int .i64 0, .slice none 0 0] 50)).cell? ⟨wb, 0, none⟩ = some v := (World.cell?_alloc_lt _ _ _ l2).trans hw
  have h21 : (w.alloc (.cells #[.int .i64 0, .int .i64 0, .slice none 0 0] 50)).cell? ⟨d, 2, none⟩ = some (.map (some m)) := (World.cell?_alloc_lt _ _ _ (World.block_lt_of_cell? w _ h2)).trans h2
  have hm1 : (w.alloc (.cells #[.int .i64 0, .int .i64 0, .slice none 0 0] 50)).heap[m]? = some (.map #[] 0) := (blk_old _ _ _ (lt_blk hm)).trans hm
  clear hh hw h2 hm
  go_enter Try.func16, Try.ntmps16
  go_wp2_with fail
  refine (scan_none _ d m i v hi h21 hm1).mono ?_
  rintro e w1 ⟨rfl, rfl⟩
  go_wp2_with fail
  refine bodyPost_ret (results_cell_row rfl _ _ w.heap.size 50 #[.int .i64 i, .int .i64 260, .slice none 0 0] (0, 0) _ rfl (blk_new _ _ _ rfl) Try.underlying50 rfl info50) rfl ?_
  exact ⟨rfl, rfl⟩

set_option maxRecDepth 100000 in
set_option maxHeartbeats 1000000 in
/-- The closure of a post of one byte to the handle that is open. -/
theorem post1_open (w : World) (B d m hb wb s g c b : Nat) (i : Int) (hi : -9223372036854775808 ≤ i ∧ i ≤ 9223372036854775807) (h2 : w.cell? ⟨d, 2, none⟩ = some (.map (some m))) (hm : w.heap[m]? = some (.map #[{ key := .int .i64 i, val := .pointer (some ⟨s, 0, none⟩), born := 0 }] 1))
    (hb8 : b < 256) (hs : StreamAt w B s 0 false) (hgB : g ≠ s) (hcell : w.cell? ⟨g, 0, none⟩ = some (.int .u8 b))
    (hh : w.cell? ⟨hb, 0, none⟩ = some (.int .i64 i)) (hw : w.cell? ⟨wb, 0, none⟩ = some (.slice (some ⟨g, 0, none⟩) 1 c)) (hhs : hb ≠ s) :
    Calls Try.prog 16 #[.pointer (some ⟨d, 0, none⟩), .pointer (some ⟨hb, 0, none⟩), .pointer (some ⟨wb, 0, none⟩)] w fun e w' => e = .returned (.agg #[.int .i64 i, .int .i64 0, .slice none 0 0]) ∧ Below B w w' ∧ w.heap.size < w'.heap.size ∧ ∀ k, k < w.heap.size → k ≠ s → w'.heap[k]? = w.heap[k]? := by
  have l1 := World.block_lt_of_cell? w _ hh
  have l2 := World.block_lt_of_cell? w _ hw
  have hsl : s < w.heap.size := by obtain ⟨p, m', h, g, c, hBs, hBp, hBg, hps, hgs, hhs, hS, _⟩ := hs; exact lt_blk hS
  have hBl : B ≤ s := by obtain ⟨p, m', h, g, c, hBs, _⟩ := hs; exact hBs
  have hh1 : (w.alloc (.cells #[.int .i64 0, .int .i64 0, .slice none 0 0] 50)).cell? ⟨hb, 0, none⟩ = some (.int .i64 i) := (World.cell?_alloc_lt _ _ _ l1).trans hh
  have hw1 : (w.alloc (.cells #[.int .i64 0, .int .i64 0, .slice none 0 0] 50)).cell? ⟨wb, 0, none⟩ = some (.slice (some ⟨g, 0, none⟩) 1 c) := (World.cell?_alloc_lt _ _ _ l2).trans hw
  have h21 : (w.alloc (.cells #[.int .i64 0, .int .i64 0, .slice none 0 0] 50)).cell? ⟨d, 2, none⟩ = some (.map (some m)) := (World.cell?_alloc_lt _ _ _ (World.block_lt_of_cell? w _ h2)).trans h2
  have hm1 : (w.alloc (.cells #[.int .i64 0, .int .i64 0, .slice none 0 0] 50)).heap[m]? = some (.map #[{ key := .int .i64 i, val := .pointer (some ⟨s, 0, none⟩), born := 0 }] 1) := (blk_old _ _ _ (lt_blk hm)).trans hm
  have hc1 : (w.alloc (.cells #[.int .i64 0, .int .i64 0, .slice none 0 0] 50)).cell? ⟨g, 0, none⟩ = some (.int .u8 b) := (World.cell?_alloc_lt _ _ _ (World.block_lt_of_cell? w _ hcell)).trans hcell
  have hs1 : StreamAt (w.alloc (.cells #[.int .i64 0, .int .i64 0, .slice none 0 0] 50)) B s 0 false := hs.kept (fun k _ hk => blk_old _ _ _ hk) (fun k t hk => (blk_old _ _ _ (lt_blk hk)).trans hk)
  have Hc1 := Lib.hid hc1; have Hs1 := Lib.hid hs1; have Hm1 := Lib.hid hm1; have H21 := Lib.hid h21
  clear hh hw h2 hm hcell hs hc1 hs1 hm1 h21
  go_enter Try.func16, Try.ntmps16
  go_wp2_with fail
  refine (scan_open _ B d m s i g c b hi H21.out Hm1.out hb8 Hs1.out hgB Hc1.out).mono ?_
  rintro e w1 ⟨rfl, hbel, hk⟩
  have hr1 : w1.heap[w.heap.size]? = some (.cells #[.int .i64 0, .int .i64 0, .slice none 0 0] 50) := (hk _ (by omega)).trans (blk_new _ _ _ rfl)
  have hh2 : w1.cell? ⟨hb, 0, none⟩ = some (.int .i64 i) := (World.cell?_of_block (w := w.alloc (.cells #[.int .i64 0, .int .i64 0, .slice none 0 0] 50)) (hk hb hhs)).trans hh1
  have hsz : w.heap.size < w1.heap.size := lt_blk hr1
  have r0 := cell_blk hr1 0 rfl
  have r1 := cell_blk hr1 1 rfl
  have r2 := cell_blk hr1 2 rfl
  have f0 := free_blk hr1 0
  have f1 := free_blk hr1 1
  have f2 := free_blk hr1 2
  have Hr1 := Lib.hid hr1; have Hbel := Lib.hid hbel; have Hk := Lib.hid hk
  clear hr1 hbel hk hh1
  go_wp2_with fail
  have e1 := blk_set Hr1.out 0 (.int .i64 i)
  have e2 := blk_set e1 1 (.int .i64 0)
  have e3 := blk_set e2 2 (.slice none 0 0)
  have hB : B ≤ w.heap.size := by omega
  refine bodyPost_ret (results_cell_row rfl _ _ w.heap.size 50 #[.int .i64 i, .int .i64 0, .slice none 0 0] (0, 0) _ rfl e3 Try.underlying50 rfl info50) rfl ?_
  refine ⟨rfl, ((((((Below.refl _ _).alloc hB _).trans Hbel.out).setCell hB _).setCell hB _).setCell hB _), lt_blk e3, fun k h1 h2 => ?_⟩
  have hne : k ≠ w.heap.size := by omega
  exact (blk_set_ne _ ⟨w.heap.size, 2, none⟩ _ k hne).trans ((blk_set_ne _ ⟨w.heap.size, 1, none⟩ _ k hne).trans ((blk_set_ne w1 ⟨w.heap.size, 0, none⟩ _ k hne).trans ((Hk.out k h2).trans (blk_old _ _ _ h1))))
end Go.Proofs.Ytepmapehopgiaaa
