/- acho: 'link' of one node, 'New' of no literals, 'has', 'Step', 'Hits' at the first state. -/
import Derived.Test.YtepmapehopgiaaaAch
namespace Go.Proofs.Ytepmapehopgiaaa
open Go.RowKit

set_option maxRecDepth 100000 in
set_option maxHeartbeats 1000000 in
theorem acho_link (w : World) (p g c B : Nat) (hp : w.heap[p]? = some (.cells #[.slice (some ⟨g, 0, none⟩) 1 c] 116)) (_hc : 1 ≤ c) (hN : NodeAt w g (fun _ => -1)) (hg : g < w.heap.size) (hpg : p ≠ g) (hBg : B ≤ g) (hBw : B ≤ w.heap.size) :
    Calls Try.prog 41 #[.pointer (some ⟨p, 0, none⟩)] w fun e w' => e = .returned (.tuple #[]) ∧ w'.heap[p]? = some (.cells #[.slice (some ⟨g, 0, none⟩) 1 c] 116) ∧ NodeAt w' g (fun _ => 0) ∧ Below B w w' := by
  have hplt := lt_blk hp
  have hp1 : (w.alloc (.cells #[.int .i64 0] 3)).heap[p]? = some (.cells #[.slice (some ⟨g, 0, none⟩) 1 c] 116) := (blk_old _ _ _ hplt).trans hp
  have hN1 : NodeAt (w.alloc (.cells #[.int .i64 0] 3)) g (fun _ => -1) := hN.of_block (blk_old _ _ _ hg)
  have ho1 : (w.alloc (.cells #[.int .i64 0] 3)).heap[w.heap.size]? = some (.cells #[.int .i64 0] 3) := blk_new _ _ _ rfl
  have Hp1 := Lib.hid hp1; have HN1 := Lib.hid hN1; have Ho1 := Lib.hid ho1
  clear hp1 hN1 ho1 hp hN
  go_enter Try.func41, Try.ntmps41
  go_wp2_with fail
  go_loopw [2, 3] (fun o i wr => o = .slice (some ⟨w.heap.size, 0, none⟩) 1 1 ∧ ∃ k : Nat, k ≤ 1 ∧ i = .int .i64 k ∧ NodeAt wr g (fun _ => if k = 0 then -1 else 0) ∧
      wr.heap[p]? = some (.cells #[.slice (some ⟨g, 0, none⟩) 1 c] 116) ∧ wr.heap[w.heap.size]? = some (.cells #[.int .i64 0] 3) ∧ Below B w wr) (fun _ i _ => 1 - (intOf i).toNat)
  case atStart => exact ⟨rfl, 0, by omega, rfl, HN1.out, Hp1.out, Ho1.out, (Below.refl _ _).alloc hBw _⟩
  case round =>
    obtain ⟨rfl, k, hk, rfl, hN, hp, ho, hbel⟩ := hrel
    by_cases hlt : k < 1
    · obtain rfl : k = 0 := by omega
      have ho0 := cell_of_one ho
      have Ho := Lib.hid ho; have Hp := Lib.hid hp; have HN := Lib.hid hN; have Hbel := Lib.hid hbel
      clear ho hp hN hbel
      go_wp2_with fail
      clear ho0
      obtain ⟨wo, rfl⟩ : ∃ wo : World, wo = wr := ⟨_, rfl⟩
      go_loopw [2, 19] (fun o i wr => o = .slice (some ⟨w.heap.size, 0, none⟩) 1 1 ∧ ∃ j : Nat, j ≤ 256 ∧ i = .int .i64 j ∧ NodeAt wr g (fun x => if x < j then 0 else -1) ∧
          wr.heap[p]? = some (.cells #[.slice (some ⟨g, 0, none⟩) 1 c] 116) ∧ wr.heap[w.heap.size]? = some (.cells #[.int .i64 0] 3) ∧ Below B w wr) (fun _ i _ => 256 - (intOf i).toNat)
      case atStart => exact ⟨rfl, 0, by omega, rfl, HN.out, Hp.out, Ho.out, Hbel.out⟩
      case round =>
        obtain ⟨rfl, j, hj, rfl, hN, hp, ho, hbel⟩ := hrel
        by_cases hlt2 : j < 256
        · have hcell := hN.next j hlt2
          have hfree := hN.free (1 + j) (by omega)
          have hN' := hN.set j hlt2 0 (f' := fun x => if x < j + 1 then 0 else -1) (by intro x hx; repeat' split; all_goals first | rfl | omega)
          have hp0 := cell_of_one hp
          rw [if_neg (by omega)] at hcell
          have HN' := Lib.hid hN'; have Hp := Lib.hid hp; have Ho := Lib.hid ho; have Hbel := Lib.hid hbel
          clear hN' hN hp ho hbel
          go_wp2
          go_roundw
          case rel => exact ⟨rfl, j + 1, by omega, by go_num, HN'.out, (blk_set_ne _ _ _ _ hpg).trans Hp.out, (blk_set_ne _ _ _ _ (by simp; omega)).trans Ho.out, Hbel.out.setCell hBg _⟩
          case measure => simp [intOf]; omega
        · obtain rfl : j = 256 := by omega
          have hN0 : NodeAt wr g (fun _ => 0) := by
            refine ⟨?_, hN.free⟩
            have h0 := hN.cells
            have e : nodeCells (fun x => if x < 256 then (0 : Int) else -1) = nodeCells (fun _ => 0) := by
              unfold nodeCells
              rw [List.map_congr_left (g := fun _ => Value.int .i64 0)]
              intro i hi
              show Value.int .i64 (if i < 256 then (0 : Int) else -1) = _
              rw [if_pos (List.mem_range.1 hi)]
            rwa [e] at h0
          have HN0 := Lib.hid hN0; have Hp2 := Lib.hid hp; have Ho2 := Lib.hid ho; have Hbel2 := Lib.hid hbel
          clear hN0 hN hp ho hbel
          go_wp2
          go_roundw
          case rel => exact ⟨rfl, 1, by omega, by go_num, HN0.out, Hp2.out, Ho2.out, Hbel2.out⟩
          case measure => simp [intOf]
    · obtain rfl : k = 1 := by omega
      have HN2 := Lib.hid hN; have Hp2 := Lib.hid hp; have Hbel2 := Lib.hid hbel
      clear hN hp ho hbel
      go_wp2
      go_end0
      exact ⟨rfl, Hp2.out, by simpa using HN2.out, Hbel2.out⟩

set_option maxRecDepth 100000 in
set_option maxHeartbeats 1000000 in
/-- The machine of no literals: one node, all of whose next states are 0. -/
theorem acho_new (w : World) : Calls Try.prog 29 #[.slice none 0 0] w fun e w' => ∃ p g c, e = .returned (.tuple #[.pointer (some ⟨p, 0, none⟩), .int .i64 0]) ∧ w.heap.size ≤ p ∧ p < w'.heap.size ∧ w.heap.size ≤ g ∧ 1 ≤ c ∧
      w'.heap[p]? = some (.cells #[.slice (some ⟨g, 0, none⟩) 1 c] 116) ∧ NodeAt w' g (fun _ => 0) ∧ Below w.heap.size w w' := by
  go_enter Try.func29, Try.ntmps29
  go_wp2_with fail
  refine wp_loop_rounds 1 ?_; rw [rounds_succ]
  go_wp2_with fail
  refine (acho_add _ w.heap.size w.heap.size (blk_new _ _ _ rfl) (Nat.le_refl _)).mono ?_
  rintro e w1 ⟨g, c, rfl, hg, hg1, hp, hc, hN, hbel⟩
  have hs := lt_blk hp
  have hpg : w.heap.size ≠ g := by
    rintro rfl
    have h1 := hN.next 0 (by omega)
    have h2 := cell_of_one hp
    simp [World.cell?, hp] at h1
  have hbelw : Below w.heap.size w w1 := ((Below.refl _ _).alloc (Nat.le_refl _) _).trans hbel
  have Hp := Lib.hid hp; have HN := Lib.hid hN; have Hbel := Lib.hid hbelw
  clear hp hN hbel hbelw
  go_wp2_with fail
  refine wp_loop_rounds 1 ?_; rw [rounds_succ]
  go_wp2_with fail
  refine (acho_link w1 w.heap.size g c w.heap.size Hp.out hc HN.out hg1 hpg hg (by omega)).mono ?_
  rintro e w2 ⟨rfl, hp2, hN2, hbel2⟩
  have Hp2 := Lib.hid hp2; have HN2 := Lib.hid hN2; have Hbel2 := Lib.hid hbel2
  clear hp2 hN2 hbel2
  go_wp2
  go_ret2
  exact ⟨w.heap.size, g, c, rfl, Nat.le_refl _, lt_blk Hp2.out, hg, hc, Hp2.out, HN2.out, Hbel.out.trans Hbel2.out⟩

set_option maxHeartbeats 1000000 in
theorem acho_has (w : World) (p g c : Nat) (hp : w.heap[p]? = some (.cells #[.slice (some ⟨g, 0, none⟩) 1 c] 116)) :
    Calls Try.prog 51 #[.pointer (some ⟨p, 0, none⟩), .int .i64 0] w fun e w' => e = .returned (.bool true) ∧ w = w' := by
  have hp0 := cell_of_one hp
  go_enter Try.func51, Try.ntmps51
  go_wp2
  go_ret
  exact ⟨rfl, rfl⟩

set_option maxHeartbeats 1000000 in
theorem acho_step (w : World) (p g c : Nat) (b : Nat) (hb : b < 256) (_hc : 1 ≤ c) (hp : w.heap[p]? = some (.cells #[.slice (some ⟨g, 0, none⟩) 1 c] 116)) (hN : NodeAt w g (fun _ => 0)) :
    Calls Try.prog 45 #[.pointer (some ⟨p, 0, none⟩), .int .i64 0, .int .u8 b] w fun e w' => e = .returned (.int .i64 0) ∧ w = w' := by
  have hp0 := cell_of_one hp
  have hcell := hN.next b hb
  have Hp := Lib.hid hp; clear hp hN
  go_enter Try.func45, Try.ntmps45
  go_wp2_with fail
  refine (acho_has w p g c Hp.out).mono ?_
  rintro e w1 ⟨rfl, rfl⟩
  go_wp2
  go_ret
  exact ⟨rfl, rfl⟩

set_option maxHeartbeats 1000000 in
theorem clone_ints_nil (w : World) : Calls Try.prog 52 #[.slice none 0 0] w fun e w' => e = .returned (.slice none 0 0) ∧ w = w' := by
  have h1 := fun w => Lib.run_eql_slice_nil (P := Try.prog) w 97 3 none 0 0 0 0 Try.underlying97
  go_enter Try.func52, Try.ntmps52
  go_wp2
  go_ret
  exact ⟨rfl, rfl⟩

set_option maxHeartbeats 1000000 in
theorem acho_hits (w : World) (p g c : Nat) (_hc : 1 ≤ c) (hp : w.heap[p]? = some (.cells #[.slice (some ⟨g, 0, none⟩) 1 c] 116)) (hN : NodeAt w g (fun _ => 0)) :
    Calls Try.prog 46 #[.pointer (some ⟨p, 0, none⟩), .int .i64 0] w fun e w' => e = .returned (.slice none 0 0) ∧ w = w' := by
  have hp0 := cell_of_one hp
  have hcell := hN.hits
  have Hp := Lib.hid hp; clear hp hN
  go_enter Try.func46, Try.ntmps46
  go_wp2_with fail
  refine (acho_has w p g c Hp.out).mono ?_
  rintro e w1 ⟨rfl, rfl⟩
  go_wp2_with fail
  refine (clone_ints_nil _).mono ?_
  rintro e w1 ⟨rfl, rfl⟩
  go_wp2
  go_ret
  exact ⟨rfl, rfl⟩
end Go.Proofs.Ytepmapehopgiaaa
