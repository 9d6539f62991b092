/- live: 'done', 'matches', 'step', 'Feed' of a stream of no players. -/
import Derived.Test.YtepmapehopgiaaaLiv
import Derived.Deep.QuietTactic
import Derived.BigQuiet
namespace Go.Proofs.Ytepmapehopgiaaa
open Go.RowKit

set_option maxRecDepth 100000 in
set_option maxHeartbeats 1000000 in
theorem done_nil (w : World) (s : Nat) (b : Bool) (h0 : w.cell? ⟨s, 0, none⟩ = some (.slice none 0 0)) :
    Calls Try.prog 36 #[.pointer (some ⟨s, 0, none⟩), .bool b] w fun e w' => e = .returned (.slice none 0 0) ∧ w = w' := by
  go_enter Try.func36, Try.ntmps36
  go_wp2_with fail
  refine wp_loop_rounds 1 ?_; rw [rounds_succ]
  go_wp2_with fail
  refine (sort_u32_nil w).mono ?_
  rintro e w1 ⟨rfl, rfl⟩
  go_wp2_with fail
  refine (compact_u32_nil w).mono ?_
  rintro e w1 ⟨rfl, rfl⟩
  go_wp2
  go_ret
  exact ⟨rfl, rfl⟩

set_option maxRecDepth 100000 in
set_option maxHeartbeats 1000000 in
theorem matches_nil (w : World) (s : Nat) : Calls Try.prog 35 #[.pointer (some ⟨s, 0, none⟩), .slice none 0 0] w fun e w' => e = .returned (.slice none 0 0) ∧ w = w' := by
  go_enter Try.func35, Try.ntmps35
  go_wp2
  refine wp_loop_rounds 1 ?_; rw [rounds_succ]
  go_wp2
  go_ret
  exact ⟨rfl, rfl⟩

set_option maxRecDepth 100000 in
set_option maxHeartbeats 1000000 in
theorem step_any (w : World) (B s : Nat) (b : Nat) (hb : b < 256) (off : Int) (hoff0 : 0 ≤ off) (hoff : off ≤ 1000) (bg : Bool) (hs : StreamAt w B s off bg) :
    Calls Try.prog 37 #[.pointer (some ⟨s, 0, none⟩), .int .u8 b] w fun e w' => e = .returned (.tuple #[]) ∧ StreamAt w' B s (off + 1) bg ∧ Below B w w' ∧ ∀ k, k ≠ s → w'.heap[k]? = w.heap[k]? := by
  obtain ⟨p, m, h, g, c, hBs, hBp, hBg, hps, hgs, hhs, hS, hc, hp, hN, t, hh⟩ := hs
  have s0 := cell_blk hS 0 rfl
  have s1 := cell_blk hS 1 rfl
  have s3 := cell_blk hS 3 rfl
  have s4 := cell_blk hS 4 rfl
  have s5 := cell_blk hS 5 rfl
  have f4 := free_blk hS 4
  have f5 := free_blk hS 5
  simp only [streamCells, List.getElem_toArray, List.getElem_cons_succ, List.getElem_cons_zero] at s0 s1 s3 s4 s5
  have HS := Lib.hid hS; have Hp := Lib.hid hp; have HN := Lib.hid hN; have Hh := Lib.hid hh; clear hS hp hN hh
  go_enter Try.func37, Try.ntmps37
  go_wp2_with fail
  go_region_law ((go_simp; go_at_call 45; refine (acho_step w.drew p g c b hb hc Hp.out (HN.out.of_block rfl)).mono ?_; rintro e w' ⟨rfl, rfl⟩))
  all_goals
    have hS1 : (w.setCell ⟨s, 4, none⟩ (.int .i64 0)).drew.heap[s]? = some (.cells (streamCells p m h off bg) 81) := blk_set HS.out 4 _
    have hp1 : (w.setCell ⟨s, 4, none⟩ (.int .i64 0)).drew.heap[p]? = some (.cells #[.slice (some ⟨g, 0, none⟩) 1 c] 116) := (blk_set_ne w ⟨s, 4, none⟩ _ p hps).trans Hp.out
    have hN1 : NodeAt (w.setCell ⟨s, 4, none⟩ (.int .i64 0)).drew g (fun _ => 0) := HN.out.of_block (blk_set_ne w ⟨s, 4, none⟩ _ g hgs)
    have hh1 : (w.setCell ⟨s, 4, none⟩ (.int .i64 0)).drew.heap[h]? = some (.cells #[] t) := (blk_set_ne w ⟨s, 4, none⟩ _ h hhs).trans Hh.out
    have hb1 : Below B w (w.setCell ⟨s, 4, none⟩ (.int .i64 0)).drew := ((Below.refl _ _).setCell hBs _).drew
    have hk1 : ∀ k, k ≠ s → (w.setCell ⟨s, 4, none⟩ (.int .i64 0)).drew.heap[k]? = w.heap[k]? := fun k hk => blk_set_ne w ⟨s, 4, none⟩ _ k hk
    clear s0 s1 s3 s4 s5 f4 f5 HS Hp HN Hh
    generalize (w.setCell ⟨s, 4, none⟩ (.int .i64 0)).drew = W at *
    have s0 := cell_blk hS1 0 rfl
    have s1 := cell_blk hS1 1 rfl
    have s3 := cell_blk hS1 3 rfl
    have s4 := cell_blk hS1 4 rfl
    have s5 := cell_blk hS1 5 rfl
    have f5 := free_blk hS1 5
    simp only [streamCells, List.getElem_toArray, List.getElem_cons_succ, List.getElem_cons_zero] at s0 s1 s3 s4 s5
    have HS := Lib.hid hS1; have Hp := Lib.hid hp1; have HN := Lib.hid hN1; have Hh := Lib.hid hh1; have Hb1 := Lib.hid hb1; have Hk1 := Lib.hid hk1; clear hS1 hp1 hN1 hh1 hb1 hk1
    have hcl : ∀ W, (Builtin.clear_ #[79] 0 #[.slice (some ⟨h, 0, none⟩) 0 0]).run Try.prog W = .ok (.tuple #[]) W := fun _ => by kernel_rfl
    go_wp2_with fail
    clear hcl
    go_region_law ((go_simp; go_at_call 46; refine (acho_hits W.drew p g c hc Hp.out (HN.out.of_block rfl)).mono ?_; rintro e w' ⟨rfl, rfl⟩))
    all_goals
      go_wp2_with fail
      refine wp_loop_rounds 1 ?_; rw [rounds_succ]
      go_wp2_with fail
      refine wp_loop_rounds 1 ?_; rw [rounds_succ]
      go_wp2_with fail
      go_end0
      refine ⟨rfl, ⟨p, m, h, g, c, hBs, hBp, hBg, hps, hgs, hhs, blk_set HS.out 5 _, hc, (blk_set_ne W ⟨s, 5, none⟩ _ p hps).trans Hp.out, HN.out.of_block (blk_set_ne W ⟨s, 5, none⟩ _ g hgs), t, (blk_set_ne W ⟨s, 5, none⟩ _ h hhs).trans Hh.out⟩, (Hb1.out.setCell hBs _).drew, fun k hk => (blk_set_ne W ⟨s, 5, none⟩ _ k hk).trans (Hk1.out k hk)⟩

set_option maxRecDepth 100000 in
set_option maxHeartbeats 1000000 in
/-- Feed of one byte on a stream that has not begun: no match; the stream stands one byte on. -/
theorem feed_one (w : World) (B s : Nat) (gw cw : Nat) (b : Nat) (hb : b < 256) (hs : StreamAt w B s 0 false) (hgw : gw ≠ s) (hcell : w.cell? ⟨gw, 0, none⟩ = some (.int .u8 b)) :
    Calls Try.prog 25 #[.pointer (some ⟨s, 0, none⟩), .slice (some ⟨gw, 0, none⟩) 1 cw] w fun e w' => e = .returned (.tuple #[.slice none 0 0, .int .i64 0]) ∧ Below B w w' ∧ ∀ k, k ≠ s → w'.heap[k]? = w.heap[k]? := by
  obtain ⟨p, m, h, g, c, hBs, hBp, hBg, hps, hgs, hhs, hS, hc, hp, hN, t, hh⟩ := hs
  have s5 := cell_blk hS 5 rfl
  have s6 := cell_blk hS 6 rfl
  have f6 := free_blk hS 6
  simp only [streamCells, List.getElem_toArray, List.getElem_cons_succ, List.getElem_cons_zero] at s5 s6
  have hS1 : (w.setCell ⟨s, 6, none⟩ (.bool true)).heap[s]? = some (.cells (streamCells p m h 0 true) 81) := blk_set hS 6 _
  have hs1 : StreamAt (w.setCell ⟨s, 6, none⟩ (.bool true)) B s 0 true := ⟨p, m, h, g, c, hBs, hBp, hBg, hps, hgs, hhs, hS1, hc, (blk_set_ne w ⟨s, 6, none⟩ _ p hps).trans hp, hN.of_block (blk_set_ne w ⟨s, 6, none⟩ _ g hgs), t, (blk_set_ne w ⟨s, 6, none⟩ _ h hhs).trans hh⟩
  have hb1 : Below B w (w.setCell ⟨s, 6, none⟩ (.bool true)) := (Below.refl _ _).setCell hBs _
  have hc1 : (w.setCell ⟨s, 6, none⟩ (.bool true)).cell? ⟨gw, 0, none⟩ = some (.int .u8 b) := (World.cell?_of_block (a := ⟨gw, 0, none⟩) (blk_set_ne w ⟨s, 6, none⟩ _ gw hgw)).trans hcell
  have s0 := cell_blk hS1 0 rfl
  simp only [streamCells, List.getElem_toArray, List.getElem_cons_zero] at s0
  have Hs1 := Lib.hid hs1; have Hb1 := Lib.hid hb1; have Hc1 := Lib.hid hc1; have S0 := Lib.hid s0
  clear hS hp hN hh hS1 hs1 hb1 hcell hc1 s0
  go_enter Try.func25, Try.ntmps25
  go_wp2_with fail
  refine (done_nil _ s false S0.out).mono ?_
  rintro e w1 ⟨rfl, rfl⟩
  go_wp2_with fail
  refine (matches_nil _ s).mono ?_
  rintro e w1 ⟨rfl, rfl⟩
  go_wp2_with fail
  have Hc1' := Hc1.out
  refine wp_loop_rounds 2 ?_; rw [rounds_succ]
  go_wp2_with fail
  refine (step_any _ B s b hb 0 (by omega) (by omega) true Hs1.out).mono ?_
  rintro e w2 ⟨rfl, hs2, hb2, hk2⟩
  have h20 : w2.cell? ⟨s, 0, none⟩ = some (.slice none 0 0) := by
    obtain ⟨p, m, h, g, c, _, _, _, _, _, _, hS, _⟩ := hs2
    exact cell_blk hS 0 rfl
  have H20 := Lib.hid h20; have Hb2 := Lib.hid hb2; have Hk2 := Lib.hid hk2; clear h20 hs2 hb2 hk2
  go_wp2_with fail
  refine (done_nil _ s false H20.out).mono ?_
  rintro e w1 ⟨rfl, rfl⟩
  go_wp2_with fail
  refine (matches_nil _ s).mono ?_
  rintro e w1 ⟨rfl, rfl⟩
  go_wp2_with fail
  rw [rounds_succ]
  go_wp2
  go_ret2
  exact ⟨rfl, Hb1.out.trans Hb2.out, fun k hk => (Hk2.out k hk).trans (blk_set_ne w ⟨s, 6, none⟩ _ k hk)⟩
end Go.Proofs.Ytepmapehopgiaaa
