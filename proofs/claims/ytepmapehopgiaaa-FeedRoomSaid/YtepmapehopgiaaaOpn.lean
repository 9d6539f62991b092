/- desk: 'add' to the map of nothing, 'Open' on a desk of no streams. -/
import Derived.Test.YtepmapehopgiaaaScn
namespace Go.Proofs.Ytepmapehopgiaaa
open Go.RowKit

theorem setBlock_same (w : World) (m : Nat) (o : Obj) {o' : Obj} (h : w.heap[m]? = some o') : (ChangeMaps.setBlock w m o).heap[m]? = some o := by
  have hlt := lt_blk h
  simp [ChangeMaps.setBlock, hlt]

theorem setBlock_ne (w : World) (m : Nat) (o : Obj) {k : Nat} (h : k ≠ m) : (ChangeMaps.setBlock w m o).heap[k]? = w.heap[k]? := by
  simp only [ChangeMaps.setBlock]
  rw [Array.getElem?_setIfInBounds_ne (by omega)]

theorem setBlock_below {B : Nat} {a w : World} {m : Nat} {o : Obj} (h : Below B a w) (hB : B ≤ m) : Below B a (ChangeMaps.setBlock w m o) :=
  h.trans ⟨rfl, rfl, rfl, by simp [ChangeMaps.setBlock], fun k hk => setBlock_ne _ _ _ (by omega)⟩

theorem StreamAt.kept {w w' : World} {B s : Nat} {off : Int} {bg : Bool} (hs : StreamAt w B s off bg) (hk : ∀ k, B ≤ k → k < w.heap.size → w'.heap[k]? = w.heap[k]?) (hh : ∀ (k : Nat) (t : TypeId), w.heap[k]? = some (.cells #[] t) → w'.heap[k]? = some (.cells #[] t)) : StreamAt w' B s off bg := by
  obtain ⟨p, m', h, g, c, hBs, hBp, hBg, hps, hgs, hhs, hS, hc, hp, hN, t, hh'⟩ := hs
  exact ⟨p, m', h, g, c, hBs, hBp, hBg, hps, hgs, hhs, (hk s hBs (lt_blk hS)).trans hS, hc, (hk p hBp (lt_blk hp)).trans hp, hN.of_block (hk g hBg hN.lt), t, hh h t hh'⟩

set_option maxRecDepth 100000 in
set_option maxHeartbeats 1000000 in
theorem add_first (w : World) (d m s b : Nat) (u : Int) (hd : w.heap[d]? = some (.cells #[.pointer (some ⟨b, 0, none⟩), .int .u32 u, .map (some m), .int .i64 0] 62)) (hm : w.heap[m]? = some (.map #[] 0)) (hne : d ≠ m) :
    Calls Try.prog 20 #[.pointer (some ⟨d, 0, none⟩), .pointer (some ⟨s, 0, none⟩)] w fun e w' => e = .returned (.int .i64 1) ∧
      (ChangeMaps.setBlock (w.setCell ⟨d, 3, none⟩ (.int .i64 1)).drew m (.map #[{ key := .int .i64 1, val := .pointer (some ⟨s, 0, none⟩), born := 0 }] 1)) = w' := by
  have d3 := cell_blk hd 3 rfl
  have f3 := free_blk hd 3
  have hd1 : (w.setCell ⟨d, 3, none⟩ (.int .i64 1)).drew.heap[d]? = some (.cells #[.pointer (some ⟨b, 0, none⟩), .int .u32 u, .map (some m), .int .i64 1] 62) := blk_set hd 3 _
  have hm1 : (w.setCell ⟨d, 3, none⟩ (.int .i64 1)).drew.heap[m]? = some (.map #[] 0) := (blk_set_ne w ⟨d, 3, none⟩ _ m (by simpa using fun h => hne h.symm)).trans hm
  have d2' := cell_blk hd1 2 rfl
  have d3' := cell_blk hd1 3 rfl
  have Hd := Lib.hid hd1
  have Hl := Lib.hid (lay_first (w.setCell ⟨d, 3, none⟩ (.int .i64 1)).drew m 1 (.pointer (some ⟨s, 0, none⟩)) (by omega) hm1)
  have Hm := Lib.hid hm1
  have D2 := Lib.hid d2'; have D3 := Lib.hid d3'
  simp only [List.getElem_toArray, List.getElem_cons_succ, List.getElem_cons_zero] at d3
  clear hd hm hd1 hm1 d2' d3'
  go_enter Try.func20, Try.ntmps20
  go_wp2_with fail
  have d2' := D2.out
  have d3' := D3.out
  have hl := Hl.out
  have dd : (ChangeMaps.setBlock (w.setCell ⟨d, 3, none⟩ (.int .i64 1)).drew m (.map #[{ key := .int .i64 1, val := .pointer (some ⟨s, 0, none⟩), born := 0 }] 1)).heap[d]? = some (.cells #[.pointer (some ⟨b, 0, none⟩), .int .u32 u, .map (some m), .int .i64 1] 62) := (setBlock_ne _ _ _ hne).trans Hd.out
  have dd3 := cell_blk dd 3 rfl
  clear dd
  go_region_law (fail)
  all_goals
    go_wp2
    go_ret
    exact ⟨rfl, rfl⟩

set_option maxRecDepth 100000 in
set_option maxHeartbeats 1000000 in
theorem open_first (w : World) (B d m b n : Nat) (u : Int) (hd : w.heap[d]? = some (.cells #[.pointer (some ⟨b, 0, none⟩), .int .u32 u, .map (some m), .int .i64 0] 62)) (hm : w.heap[m]? = some (.map #[] 0)) (hb : w.heap[b]? = some (.cells (baseCells n) 67)) (hBd : B ≤ d) (hBm : B ≤ m) :
    Calls Try.prog 11 #[.pointer (some ⟨d, 0, none⟩)] w fun e w' => e = .returned (.int .i64 1) ∧ ∃ s, StreamAt w' w.heap.size s 0 false ∧ s < w'.heap.size ∧ Below B w w' ∧ (∀ k, k < w.heap.size → k ≠ d → k ≠ m → w'.heap[k]? = w.heap[k]?) ∧
      w'.heap[d]? = some (.cells #[.pointer (some ⟨b, 0, none⟩), .int .u32 u, .map (some m), .int .i64 1] 62) ∧ w'.heap[m]? = some (.map #[{ key := .int .i64 1, val := .pointer (some ⟨s, 0, none⟩), born := 0 }] 1) := by
  have d0 := cell_blk hd 0 rfl
  have hld := lt_blk hd
  have hlm := lt_blk hm
  have hne : d ≠ m := by rintro rfl; rw [hd] at hm; cases hm
  have Hd := Lib.hid hd; have Hm := Lib.hid hm; have Hb := Lib.hid hb
  clear hd hm hb
  go_enter Try.func11, Try.ntmps11
  go_wp2_with fail
  refine (live_new w b n Hb.out).mono ?_
  rintro e w1 ⟨s, rfl, hs1, hs2, hbel⟩
  have Hd1 := Lib.hid ((hbel.block d hld).trans Hd.out)
  have Hm1 := Lib.hid ((hbel.block m hlm).trans Hm.out)
  have Hs2 := Lib.hid hs2
  have Hbel := Lib.hid hbel
  clear hs2 hbel d0
  go_wp2_with fail
  refine (add_first w1 d m s b u Hd1.out Hm1.out hne).mono ?_
  rintro e w2 ⟨rfl, rfl⟩
  go_wp2
  go_ret
  have key : ∀ k, k ≠ d → k ≠ m → (ChangeMaps.setBlock (w1.setCell ⟨d, 3, none⟩ (.int .i64 1)).drew m (.map #[{ key := .int .i64 1, val := .pointer (some ⟨s, 0, none⟩), born := 0 }] 1)).heap[k]? = w1.heap[k]? := fun k h1 h2 => (setBlock_ne _ _ _ h2).trans (blk_set_ne w1 ⟨d, 3, none⟩ _ k h1)
  refine ⟨rfl, s, ?_, ?_, ?_, ?_, ?_, ?_⟩
  · obtain ⟨p, m', h, g, c, hBs, hBp, hBg, hps, hgs, hhs, hS, hc, hp, hN, t, hh⟩ := Hs2.out
    refine ⟨p, m', h, g, c, hBs, hBp, hBg, hps, hgs, hhs, (key s (by omega) (by omega)).trans hS, hc, (key p (by omega) (by omega)).trans hp, hN.of_block (key g (by omega) (by omega)), t, (key h ?_ ?_).trans hh⟩
    · rintro rfl; rw [Hd1.out] at hh; cases hh
    · rintro rfl; rw [Hm1.out] at hh; cases hh
  · simpa [ChangeMaps.setBlock] using hs1
  · exact setBlock_below (((Hbel.out.mono (by omega)).setCell (by simpa using hBd) _).drew) hBm
  · exact fun k h1 h2 h3 => (key k h2 h3).trans (Hbel.out.block k h1)
  · exact (setBlock_ne _ _ _ hne).trans (blk_set Hd1.out 3 _)
  · exact setBlock_same _ _ _ ((blk_set_ne w1 ⟨d, 3, none⟩ _ m (by simpa using fun h => hne h.symm)).trans Hm1.out)
end Go.Proofs.Ytepmapehopgiaaa
