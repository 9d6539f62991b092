/- feed: 'Post' of no text and of one byte, 'End'. -/
import Derived.Test.YtepmapehopgiaaaPst
namespace Go.Proofs.Ytepmapehopgiaaa
open Go.RowKit

/-- The closure that a post leaves in the channel: its boxes are blocks n and n + 1. -/
def postOf (n : Nat) : Value := .func (.func 16) #[] #[.pointer (some ⟨n, 0, none⟩), .pointer (some ⟨n + 1, 0, none⟩)]

set_option maxRecDepth 100000 in
set_option maxHeartbeats 1000000 in
theorem post_nil_room (w : World) (p : Nat) (i : Int) (c cap : Nat) (buf : Array Value) (s r : Nat)
    (h0 : w.cell? ⟨p, 1, none⟩ = some (.chan (some c))) (hc : w.heap[c]? = some (.chan cap buf false s r false)) (hroom : buf.size < cap) :
    Calls Try.prog 7 #[.pointer (some ⟨p, 0, none⟩), .int .i64 i, .slice none 0 0] w fun e w' => e = .returned (.int .i64 0) ∧
      ((w.alloc (.cells #[.int .i64 i] 3)).alloc (.cells #[.slice none 0 0] 35)).setChan c cap (buf.push (postOf w.heap.size)) false (s + 1) r false = w' := by
  have h01 : ((w.alloc (.cells #[.int .i64 i] 3)).alloc (.cells #[.slice none 0 0] 35)).cell? ⟨p, 1, none⟩ = some (.chan (some c)) := by
    rw [World.cell?_alloc_lt _ _ _ (by have := World.block_lt_of_cell? w _ h0; simp at this ⊢; omega), World.cell?_alloc_lt _ _ _ (World.block_lt_of_cell? w _ h0)]; exact h0
  have hc1 : ((w.alloc (.cells #[.int .i64 i] 3)).alloc (.cells #[.slice none 0 0] 35)).heap[c]? = some (.chan cap buf false s r false) := by
    rw [blk_old _ _ _ (by have := lt_blk hc; simp; omega), blk_old _ _ _ (lt_blk hc)]; exact hc
  clear h0 hc
  go_enter Try.func7, Try.ntmps7
  go_wp2_with fail
  refine (clone_nil _).mono ?_
  rintro e w1 ⟨rfl, rfl⟩
  go_wp2_with fail
  refine (put_room _ p _ c cap buf s r h01 hc1 hroom).mono ?_
  rintro e w1 ⟨rfl, rfl⟩
  go_wp2
  go_ret
  exact ⟨rfl, rfl⟩

set_option maxRecDepth 100000 in
set_option maxHeartbeats 1000000 in
theorem post_nil_full (w : World) (p : Nat) (i : Int) (c cap : Nat) (buf : Array Value) (s r : Nat)
    (h0 : w.cell? ⟨p, 1, none⟩ = some (.chan (some c))) (hc : w.heap[c]? = some (.chan cap buf false s r false)) (hroom : cap ≤ buf.size) :
    Calls Try.prog 7 #[.pointer (some ⟨p, 0, none⟩), .int .i64 i, .slice none 0 0] w fun e w' => e = .returned (.int .i64 270) ∧
      ((w.alloc (.cells #[.int .i64 i] 3)).alloc (.cells #[.slice none 0 0] 35)) = w' := by
  have h01 : ((w.alloc (.cells #[.int .i64 i] 3)).alloc (.cells #[.slice none 0 0] 35)).cell? ⟨p, 1, none⟩ = some (.chan (some c)) := by
    rw [World.cell?_alloc_lt _ _ _ (by have := World.block_lt_of_cell? w _ h0; simp at this ⊢; omega), World.cell?_alloc_lt _ _ _ (World.block_lt_of_cell? w _ h0)]; exact h0
  have hc1 : ((w.alloc (.cells #[.int .i64 i] 3)).alloc (.cells #[.slice none 0 0] 35)).heap[c]? = some (.chan cap buf false s r false) := by
    rw [blk_old _ _ _ (by have := lt_blk hc; simp; omega), blk_old _ _ _ (lt_blk hc)]; exact hc
  clear h0 hc
  go_enter Try.func7, Try.ntmps7
  go_wp2_with fail
  refine (clone_nil _).mono ?_
  rintro e w1 ⟨rfl, rfl⟩
  go_wp2_with fail
  refine (put_full _ p _ c cap buf s r h01 hc1 hroom).mono ?_
  rintro e w1 ⟨rfl, rfl⟩
  go_wp2
  go_ret
  exact ⟨rfl, rfl⟩

set_option maxRecDepth 100000 in
set_option maxHeartbeats 1000000 in
theorem end_room (w : World) (p : Nat) (i : Int) (c cap : Nat) (buf : Array Value) (s r : Nat)
    (h0 : w.cell? ⟨p, 1, none⟩ = some (.chan (some c))) (hc : w.heap[c]? = some (.chan cap buf false s r false)) (hroom : buf.size < cap) :
    Calls Try.prog 10 #[.pointer (some ⟨p, 0, none⟩), .int .i64 i] w fun e w' => e = .returned (.int .i64 0) ∧
      ∃ v, (w.alloc (.cells #[.int .i64 i] 3)).setChan c cap (buf.push v) false (s + 1) r false = w' := by
  have h01 : (w.alloc (.cells #[.int .i64 i] 3)).cell? ⟨p, 1, none⟩ = some (.chan (some c)) := by
    rw [World.cell?_alloc_lt _ _ _ (World.block_lt_of_cell? w _ h0)]; exact h0
  have hc1 : (w.alloc (.cells #[.int .i64 i] 3)).heap[c]? = some (.chan cap buf false s r false) := by
    rw [blk_old _ _ _ (lt_blk hc)]; exact hc
  clear h0 hc
  go_enter Try.func10, Try.ntmps10
  go_wp2_with fail
  refine (put_room _ p _ c cap buf s r h01 hc1 hroom).mono ?_
  rintro e w1 ⟨rfl, rfl⟩
  go_wp2
  go_ret
  exact ⟨rfl, _, rfl⟩

set_option maxRecDepth 100000 in
set_option maxHeartbeats 1000000 in
theorem end_full (w : World) (p : Nat) (i : Int) (c cap : Nat) (buf : Array Value) (s r : Nat)
    (h0 : w.cell? ⟨p, 1, none⟩ = some (.chan (some c))) (hc : w.heap[c]? = some (.chan cap buf false s r false)) (hroom : cap ≤ buf.size) :
    Calls Try.prog 10 #[.pointer (some ⟨p, 0, none⟩), .int .i64 i] w fun e w' => e = .returned (.int .i64 270) ∧
      w.alloc (.cells #[.int .i64 i] 3) = w' := by
  have h01 : (w.alloc (.cells #[.int .i64 i] 3)).cell? ⟨p, 1, none⟩ = some (.chan (some c)) := by
    rw [World.cell?_alloc_lt _ _ _ (World.block_lt_of_cell? w _ h0)]; exact h0
  have hc1 : (w.alloc (.cells #[.int .i64 i] 3)).heap[c]? = some (.chan cap buf false s r false) := by
    rw [blk_old _ _ _ (lt_blk hc)]; exact hc
  clear h0 hc
  go_enter Try.func10, Try.ntmps10
  go_wp2_with fail
  refine (put_full _ p _ c cap buf s r h01 hc1 hroom).mono ?_
  rintro e w1 ⟨rfl, rfl⟩
  go_wp2
  go_ret
  exact ⟨rfl, rfl⟩

set_option maxRecDepth 100000 in
set_option maxHeartbeats 1000000 in
/-- A post of one byte where there is room: a copy of the byte lies in a block of its own. -/
theorem post_byte (w : World) (p g c2 b : Nat) (i : Int) (c cap : Nat) (buf : Array Value) (s r : Nat)
    (h0 : w.cell? ⟨p, 1, none⟩ = some (.chan (some c))) (hc : w.heap[c]? = some (.chan cap buf false s r false)) (hroom : buf.size < cap)
    (hcell : w.cell? ⟨g, 0, none⟩ = some (.int .u8 b)) :
    Calls Try.prog 7 #[.pointer (some ⟨p, 0, none⟩), .int .i64 i, .slice (some ⟨g, 0, none⟩) 1 c2] w fun e w' => e = .returned (.int .i64 0) ∧
      w'.heap[c]? = some (.chan cap (buf.push (postOf w.heap.size)) false (s + 1) r false) ∧ w'.cell? ⟨w.heap.size, 0, none⟩ = some (.int .i64 i) ∧
      (∃ g1 c1, w'.cell? ⟨w.heap.size + 1, 0, none⟩ = some (.slice (some ⟨g1, 0, none⟩) 1 c1) ∧ w'.cell? ⟨g1, 0, none⟩ = some (.int .u8 b) ∧ w.heap.size ≤ g1) ∧
      (∀ B, B ≤ c → B ≤ w.heap.size → Below B w w') ∧ w.heap.size ≤ w'.heap.size ∧ ∀ k, k < w.heap.size → k ≠ c → w'.heap[k]? = w.heap[k]? := by
  have hlg := World.block_lt_of_cell? w _ hcell
  have hlp := World.block_lt_of_cell? w _ h0
  have hlc := lt_blk hc
  simp only at hlg hlp
  have hcell1 : ((w.alloc (.cells #[.int .i64 i] 3)).alloc (.cells #[.slice (some ⟨g, 0, none⟩) 1 c2] 35)).cell? ⟨g, 0, none⟩ = some (.int .u8 b) := by
    rw [World.cell?_alloc_lt _ _ _ (by simp; omega), World.cell?_alloc_lt _ _ _ hlg]; exact hcell
  have Hcell1 := Lib.hid hcell1; clear hcell hcell1
  have H0 := Lib.hid h0; have Hc := Lib.hid hc; clear h0 hc
  go_enter Try.func7, Try.ntmps7
  go_wp2_with fail
  refine (clone_some _ g 0 1 c2 [.int .u8 b] rfl (by omega) (fun j u hj => ?_) (by simp [Value.oneCell'])).mono ?_
  · cases j with
    | zero => simp at hj; subst hj; exact Hcell1.out
    | succ j => simp at hj
  rintro e w1 ⟨v, rfl, hown, hbel⟩
  obtain ⟨g1, c1, rfl, hg1, hlt1, _, _, hcg⟩ := owns_form hown (by omega)
  have hcg1 : w1.cell? ⟨g1, 0, none⟩ = some (.int .u8 b) := hcg 0 _ rfl
  simp only [World.size_alloc] at hg1 hbel
  have hA : w1.heap[w.heap.size]? = some (.cells #[.int .i64 i] 3) := (hbel.block _ (by omega)).trans ((blk_old _ _ _ (by simp)).trans (blk_new _ _ _ rfl))
  have hBx : w1.heap[w.heap.size + 1]? = some (.cells #[.slice (some ⟨g, 0, none⟩) 1 c2] 35) := (hbel.block _ (by omega)).trans (blk_new _ _ _ (by simp))
  have hold : ∀ k, k < w.heap.size → w1.heap[k]? = w.heap[k]? := fun k hk => (hbel.block k (by omega)).trans ((blk_old _ _ _ (by simp; omega)).trans (blk_old _ _ _ hk))
  have b0 := cell_blk hBx 0 rfl
  have fb0 := free_blk hBx 0
  have hB' := blk_set hBx 0 (.slice (some ⟨g1, 0, none⟩) 1 c1)
  have hs1 := hbel.size
  simp only [World.size_alloc] at hs1
  have hold' : ∀ k, k ≠ w.heap.size + 1 → (w1.setCell ⟨w.heap.size + 1, 0, none⟩ (.slice (some ⟨g1, 0, none⟩) 1 c1)).heap[k]? = w1.heap[k]? := fun k hk => blk_set_ne w1 ⟨w.heap.size + 1, 0, none⟩ _ k hk
  have h01 : (w1.setCell ⟨w.heap.size + 1, 0, none⟩ (.slice (some ⟨g1, 0, none⟩) 1 c1)).cell? ⟨p, 1, none⟩ = some (.chan (some c)) :=
    (World.cell?_of_block (w := w) ((hold' p (by omega)).trans (hold p hlp))).trans H0.out
  have hc1 : (w1.setCell ⟨w.heap.size + 1, 0, none⟩ (.slice (some ⟨g1, 0, none⟩) 1 c1)).heap[c]? = some (.chan cap buf false s r false) :=
    ((hold' c (by omega)).trans (hold c hlc)).trans Hc.out
  have HA := Lib.hid hA; have Hold := Lib.hid hold; have Hold' := Lib.hid hold'; have HB' := Lib.hid hB'; have H01 := Lib.hid h01; have Hc1 := Lib.hid hc1; have Hcg := Lib.hid hcg1; have Hbel := Lib.hid hbel
  clear hA hBx hold hold' hB' h01 hc1 hcg hcg1 hbel hown
  go_wp2_with fail
  refine (put_room _ p _ c cap buf s r H01.out Hc1.out hroom).mono ?_
  rintro e w2 ⟨rfl, rfl⟩
  go_wp2
  go_ret
  have hne : ∀ k, k ≠ c → ((w1.setCell ⟨w.heap.size + 1, 0, none⟩ (.slice (some ⟨g1, 0, none⟩) 1 c1)).setChan c cap (buf.push (postOf w.heap.size)) false (s + 1) r false).heap[k]? = (w1.setCell ⟨w.heap.size + 1, 0, none⟩ (.slice (some ⟨g1, 0, none⟩) 1 c1)).heap[k]? := fun k hk => blk_chan_ne _ _ _ _ _ _ _ _ _ hk
  have hsz : ((w1.setCell ⟨w.heap.size + 1, 0, none⟩ (.slice (some ⟨g1, 0, none⟩) 1 c1)).setChan c cap (buf.push (postOf w.heap.size)) false (s + 1) r false).heap.size = w1.heap.size := by simp [Conc.size_setChan]
  have hcc : ((w1.setCell ⟨w.heap.size + 1, 0, none⟩ (.slice (some ⟨g1, 0, none⟩) 1 c1)).setChan c cap (buf.push (postOf w.heap.size)) false (s + 1) r false).heap[c]? = some (.chan cap (buf.push (postOf w.heap.size)) false (s + 1) r false) := Conc.heap_setChan _ _ _ _ _ _ _ _ (lt_blk Hc1.out)
  have hbb : ∀ B, B ≤ c → B ≤ w.heap.size → Below B w ((w1.setCell ⟨w.heap.size + 1, 0, none⟩ (.slice (some ⟨g1, 0, none⟩) 1 c1)).setChan c cap (buf.push (postOf w.heap.size)) false (s + 1) r false) := fun B h1 h2 =>
    Conc.below_setChan ((((((Below.refl _ _).alloc h2 _).alloc (by simp; omega) _).trans (Hbel.out.mono (by omega))).setCell (by simp; omega) _)) h1 _ _ _ _ _ _
  have q1 := (hne w.heap.size (by omega)).trans (Hold'.out w.heap.size (by omega))
  have q2 := hne (w.heap.size + 1) (by omega)
  have q3 := (hne g1 (by omega)).trans (Hold'.out g1 (by omega))
  refine ⟨rfl, hcc, (World.cell?_of_block (a := ⟨w.heap.size, 0, none⟩) q1).trans (cell_blk HA.out 0 rfl), ⟨g1, c1, (World.cell?_of_block (a := ⟨w.heap.size + 1, 0, none⟩) q2).trans (cell_blk HB'.out 0 rfl), (World.cell?_of_block (a := ⟨g1, 0, none⟩) q3).trans Hcg.out, by omega⟩, hbb, ?_, fun k h1 h2 => (hne k h2).trans ((Hold'.out k (by omega)).trans (Hold.out k h1))⟩
  show w.heap.size ≤ ((w1.setCell ⟨w.heap.size + 1, 0, none⟩ (.slice (some ⟨g1, 0, none⟩) 1 c1)).setChan c cap (buf.push (postOf w.heap.size)) false (s + 1) r false).heap.size
  rw [hsz]; omega

set_option maxRecDepth 100000 in
set_option maxHeartbeats 1000000 in
/-- A post of one byte where there is no room. -/
theorem post_byte_full (w : World) (p g c2 b : Nat) (i : Int) (c cap : Nat) (buf : Array Value) (s r : Nat)
    (h0 : w.cell? ⟨p, 1, none⟩ = some (.chan (some c))) (hc : w.heap[c]? = some (.chan cap buf false s r false)) (hroom : cap ≤ buf.size)
    (hcell : w.cell? ⟨g, 0, none⟩ = some (.int .u8 b)) :
    Calls Try.prog 7 #[.pointer (some ⟨p, 0, none⟩), .int .i64 i, .slice (some ⟨g, 0, none⟩) 1 c2] w fun e w' => e = .returned (.int .i64 270) ∧ Below w.heap.size w w' := by
  have hlg := World.block_lt_of_cell? w _ hcell
  have hlp := World.block_lt_of_cell? w _ h0
  have hlc := lt_blk hc
  simp only at hlg hlp
  have hcell1 : ((w.alloc (.cells #[.int .i64 i] 3)).alloc (.cells #[.slice (some ⟨g, 0, none⟩) 1 c2] 35)).cell? ⟨g, 0, none⟩ = some (.int .u8 b) := by
    rw [World.cell?_alloc_lt _ _ _ (by simp; omega), World.cell?_alloc_lt _ _ _ hlg]; exact hcell
  have Hcell1 := Lib.hid hcell1; clear hcell hcell1
  have H0 := Lib.hid h0; have Hc := Lib.hid hc; clear h0 hc
  go_enter Try.func7, Try.ntmps7
  go_wp2_with fail
  refine (clone_some _ g 0 1 c2 [.int .u8 b] rfl (by omega) (fun j u hj => ?_) (by simp [Value.oneCell'])).mono ?_
  · cases j with
    | zero => simp at hj; subst hj; exact Hcell1.out
    | succ j => simp at hj
  rintro e w1 ⟨v, rfl, hown, hbel⟩
  obtain ⟨g1, c1, rfl, hg1, hlt1, _, _, hcg⟩ := owns_form hown (by omega)
  have hcg1 : w1.cell? ⟨g1, 0, none⟩ = some (.int .u8 b) := hcg 0 _ rfl
  simp only [World.size_alloc] at hg1 hbel
  have hA : w1.heap[w.heap.size]? = some (.cells #[.int .i64 i] 3) := (hbel.block _ (by omega)).trans ((blk_old _ _ _ (by simp)).trans (blk_new _ _ _ rfl))
  have hBx : w1.heap[w.heap.size + 1]? = some (.cells #[.slice (some ⟨g, 0, none⟩) 1 c2] 35) := (hbel.block _ (by omega)).trans (blk_new _ _ _ (by simp))
  have hold : ∀ k, k < w.heap.size → w1.heap[k]? = w.heap[k]? := fun k hk => (hbel.block k (by omega)).trans ((blk_old _ _ _ (by simp; omega)).trans (blk_old _ _ _ hk))
  have b0 := cell_blk hBx 0 rfl
  have fb0 := free_blk hBx 0
  have hB' := blk_set hBx 0 (.slice (some ⟨g1, 0, none⟩) 1 c1)
  have hs1 := hbel.size
  simp only [World.size_alloc] at hs1
  have hold' : ∀ k, k ≠ w.heap.size + 1 → (w1.setCell ⟨w.heap.size + 1, 0, none⟩ (.slice (some ⟨g1, 0, none⟩) 1 c1)).heap[k]? = w1.heap[k]? := fun k hk => blk_set_ne w1 ⟨w.heap.size + 1, 0, none⟩ _ k hk
  have h01 : (w1.setCell ⟨w.heap.size + 1, 0, none⟩ (.slice (some ⟨g1, 0, none⟩) 1 c1)).cell? ⟨p, 1, none⟩ = some (.chan (some c)) :=
    (World.cell?_of_block (w := w) ((hold' p (by omega)).trans (hold p hlp))).trans H0.out
  have hc1 : (w1.setCell ⟨w.heap.size + 1, 0, none⟩ (.slice (some ⟨g1, 0, none⟩) 1 c1)).heap[c]? = some (.chan cap buf false s r false) :=
    ((hold' c (by omega)).trans (hold c hlc)).trans Hc.out
  have HA := Lib.hid hA; have Hold := Lib.hid hold; have Hold' := Lib.hid hold'; have HB' := Lib.hid hB'; have H01 := Lib.hid h01; have Hc1 := Lib.hid hc1; have Hcg := Lib.hid hcg1; have Hbel := Lib.hid hbel
  clear hA hBx hold hold' hB' h01 hc1 hcg hcg1 hbel hown
  go_wp2_with fail
  refine (put_full _ p _ c cap buf s r H01.out Hc1.out hroom).mono ?_
  rintro e w2 ⟨rfl, rfl⟩
  go_wp2
  go_ret
  exact ⟨rfl, ((((Below.refl _ _).alloc (Nat.le_refl _) _).alloc (by simp) _).trans (Hbel.out.mono (by omega))).setCell (by simp) _⟩
end Go.Proofs.Ytepmapehopgiaaa
