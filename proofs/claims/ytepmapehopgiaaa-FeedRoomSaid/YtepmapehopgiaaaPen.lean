/- pack.Pen: 'Uint' of 4 and of 2 bytes: what was written stays behind the pen's pointer, so many bytes longer. At most 1,000 bytes so far. -/
import Derived.Test.YtepmapehopgiaaaByt
import Derived.StillTactics
import Derived.OwnWalk
import Derived.Laws.Pointers
import Derived.Deep.RegionHeld3
import Derived.Deep.AppendLies
import Derived.Deep.RegionLaw
import Derived.BigRegion
import Derived.Deep.DrawnRows
namespace Go.Proofs.Ytepmapehopgiaaa
open Go.RowKit
def Bytes (xs : List Value) : Prop := ∀ x ∈ xs, ∃ n : Int, 0 ≤ n ∧ n ≤ 255 ∧ x = .int .u8 n
theorem owns_ne {w : World} {base : Nat} {e : TypeId} {size : Nat} {v : Value} {n : Nat} {xs : List Value} (h : w.ownsRow base e size v n xs) {p : Nat} {cs : Array Value} {t : TypeId} {f : Nat × Nat}
    (hp : w.heap[p]? = some (.cells cs t f)) (ht : t ≠ e) : v.ownBlock ≠ some p := by
  rcases h.2 with ⟨rfl, _⟩ | ⟨g, cap, cur, rfl, _, hh, _⟩
  · simp [Value.ownBlock]
  · intro e1
    simp [Value.ownBlock] at e1
    subst e1
    rw [hp] at hh
    simp at hh
    exact ht hh.2.1
theorem frozen_alloc_drew (w : World) (o : Obj) (a : Addr) (h : a.block < w.heap.size) : (w.alloc o).drew.frozen? a = w.frozen? a := World.frozen?_of_block (w := w) (blk_old w o a.block h)
theorem cell_alloc_drew (w : World) (o : Obj) (a : Addr) (h : a.block < w.heap.size) : (w.alloc o).drew.cell? a = w.cell? a := World.cell?_of_block (w := w) (blk_old w o a.block h)
theorem owns_ge {w : World} {base : Nat} {e : TypeId} {size : Nat} {v : Value} {n : Nat} {xs : List Value} (h : w.ownsRow base e size v n xs) : ∀ k, v.ownBlock = some k → base ≤ k := by
  intro k hk
  rcases h.2 with ⟨rfl, _⟩ | ⟨g, cap, cur, rfl, hg, hh, _⟩
  · simp [Value.ownBlock] at hk
  · simp [Value.ownBlock] at hk; omega
/-- What an append to the one field of a struct leaves, behind the store. -/
theorem pen_step {w wr w1 : World} {p B n m : Nat} {t : TypeId} {v V : Value} {xs X : List Value} {O : Obj} (ht : t ≠ 5) (hB : B ≤ p) (hp : wr.heap[p]? = some (.cells #[v] t)) (hown : wr.ownsRow B 5 1 v n xs) (hbel : Below B w wr) (hBw : B ≤ wr.heap.size)
    (hown1 : w1.ownsRow B 5 1 V m X) (hgrow : (wr.alloc O).drew.grownBy w1 v.ownBlock) :
    (w1.setCell ⟨p, 0, none⟩ V).heap[p]? = some (.cells #[V] t) ∧ (w1.setCell ⟨p, 0, none⟩ V).ownsRow B 5 1 V m X ∧ Below B w (w1.setCell ⟨p, 0, none⟩ V) := by
  have hplt := lt_blk hp
  have ap := owns_ne hown hp ht
  have hp1 : w1.heap[p]? = some (.cells #[v] t) := by
    rw [hgrow.block p (by show p < (wr.alloc O).heap.size; simp; omega) (Ne.symm ap)]
    exact (blk_old wr O p hplt).trans hp
  refine ⟨one_setCell hp1, ownsRow_setCell_other hown1 (owns_ne hown1 hp1 ht) _, ?_⟩
  refine Below.setCell ?_ hB _
  exact ((hbel.alloc hBw O).drew).grown hgrow (by show B ≤ (wr.alloc O).heap.size; simp; omega) (owns_ge hown)
theorem bytes_snoc {xs : List Value} (h : Bytes xs) (n : Int) : Bytes (xs ++ [.int .u8 (IntKind.u8.wrap n)]) := by
  intro x hx
  rcases List.mem_append.1 hx with hx | hx
  · exact h x hx
  · simp at hx
    have e : IntKind.u8.wrap n = n % 256 := by simp [IntKind.wrap, IntKind.bits, IntKind.signed]
    rw [e] at hx
    exact ⟨_, by omega, by omega, hx⟩
set_option maxRecDepth 100000 in
set_option maxHeartbeats 1000000 in
theorem uint4 (w : World) (p : Nat) (v : Value) (k : Nat) (xs : List Value) (B m : Nat) (hm : m < 4294967296) (hp : w.heap[p]? = some (.cells #[v] 103)) (hB : B ≤ p) (hown : w.ownsRow B 5 1 v k xs) (hk : k ≤ 1000) (hb : Bytes xs) (_hBw0 : B ≤ w.heap.size) :
    Calls Try.prog 31 #[.pointer (some ⟨p, 0, none⟩), .int .u64 m, .int .i64 4] w fun e w' => e = .returned (.int .i64 0) ∧ ∃ v' xs', w'.heap[p]? = some (.cells #[v'] 103) ∧ w'.ownsRow B 5 1 v' (k + 4) xs' ∧ Bytes xs' ∧ Below B w w' := by
  obtain ⟨i0, hi0, hz0, hz1, hz2⟩ := info_parts info5
  go_enter Try.func31, Try.ntmps31
  go_wp2_with fail
  go_loopw [26] (fun i wr => ∃ j : Nat, j ≤ 4 ∧ i = .int .i64 j ∧ ∃ v' xs', wr.heap[p]? = some (.cells #[v'] 103) ∧ wr.ownsRow B 5 1 v' (k + j) xs' ∧ Bytes xs' ∧ Below B w wr) (fun i _ => 4 - (intOf i).toNat)
  case atStart => exact ⟨0, by omega, rfl, v, xs, hp, hown, hb, Below.refl _ _⟩
  case round =>
    obtain ⟨j, hj, rfl, v', xs', hp', hown', hb', hbel⟩ := hrel
    clear hp hown hb
    have ap : v'.ownBlock ≠ some p := owns_ne hown' hp' (by decide)
    have hp0 : wr.cell? ⟨p, 0, none⟩ = some v' := cell_of_one hp'
    have hf0 : wr.frozen? ⟨p, 0, none⟩ = false := free_of_one hp'
    have hplt := lt_blk hp'
    have hBw := hbel.size
    by_cases hlt : j < 4
    · go_wp2_with fail
      have hw8 : IntKind.i64.wrap (8 * (j : Int)) = 8 * (j : Int) := IntWalk.i64_in _ (by omega)
      have hj0 : (0 : Int) ≤ 8 * (j : Int) := by omega
      have hj1 : 8 * (j : Int) ≤ 64 := by omega
      go_region_law
        ((refine step_append_lies _ (by rfl) _ _ _ (by rfl) B 5 i0 _ 1 1 Try.underlying35 hi0 hz0 hz1 hz2 rfl (by omega) v' (k + j) xs' (by rfl) ((hown'.alloc _).drew)
            ⟨wr.heap.size, 0, none⟩ 1 1 [_] (by rfl) (by rfl) (World.news_of_block (cs := #[_]) (t := 5) (fr := (0, 0)) (heap_alloc_new wr _)) (by simp [Value.oneCell'])
            (by omega) (by unfold maxLen; omega) (by omega) (by simp; omega) (wr.heap.size + 1) (by simp) ?_; intro gg cap w1 hown1 hgrow hat hlt; have hff : w1.frozen? ⟨p, 0, none⟩ = false := (hgrow.frozen_far ⟨p, 0, none⟩ (by simp; omega) (Ne.symm ap)).trans ((frozen_alloc_drew wr _ ⟨p, 0, none⟩ hplt).trans hf0); have hcc : w1.cell? ⟨p, 0, none⟩ = some v' := (hgrow.cell_far ⟨p, 0, none⟩ (by simp; omega) (Ne.symm ap)).trans ((cell_alloc_drew wr _ ⟨p, 0, none⟩ hplt).trans hp0)))
      all_goals
        have R := pen_step (by decide) hB hp' hown' hbel (by omega) hown1 hgrow
        clear hown' hp' hp0 hf0 hgrow hown1 hff hcc hat hlt hw8 hj0 hj1
        go_wp2
        go_roundw
        case rel => exact ⟨j + 1, by omega, by go_num, _, _, R.1, R.2.1, bytes_snoc hb' _, R.2.2⟩
        case measure => simp [intOf]; omega
    · go_wp2
      go_ret
      exact ⟨rfl, v', xs', hp', by rwa [show j = 4 by omega] at hown', hb', hbel⟩
set_option maxRecDepth 100000 in
set_option maxHeartbeats 1000000 in
theorem uint2 (w : World) (p : Nat) (v : Value) (k : Nat) (xs : List Value) (B m : Nat) (hm : m < 65536) (hp : w.heap[p]? = some (.cells #[v] 103)) (hB : B ≤ p) (hown : w.ownsRow B 5 1 v k xs) (hk : k ≤ 1000) (hb : Bytes xs) (_hBw0 : B ≤ w.heap.size) :
    Calls Try.prog 31 #[.pointer (some ⟨p, 0, none⟩), .int .u64 m, .int .i64 2] w fun e w' => e = .returned (.int .i64 0) ∧ ∃ v' xs', w'.heap[p]? = some (.cells #[v'] 103) ∧ w'.ownsRow B 5 1 v' (k + 2) xs' ∧ Bytes xs' ∧ Below B w w' := by
  obtain ⟨i0, hi0, hz0, hz1, hz2⟩ := info_parts info5
  go_enter Try.func31, Try.ntmps31
  go_wp2_with fail
  go_loopw [26] (fun i wr => ∃ j : Nat, j ≤ 2 ∧ i = .int .i64 j ∧ ∃ v' xs', wr.heap[p]? = some (.cells #[v'] 103) ∧ wr.ownsRow B 5 1 v' (k + j) xs' ∧ Bytes xs' ∧ Below B w wr) (fun i _ => 2 - (intOf i).toNat)
  case atStart => exact ⟨0, by omega, rfl, v, xs, hp, hown, hb, Below.refl _ _⟩
  case round =>
    obtain ⟨j, hj, rfl, v', xs', hp', hown', hb', hbel⟩ := hrel
    clear hp hown hb
    have ap : v'.ownBlock ≠ some p := owns_ne hown' hp' (by decide)
    have hp0 : wr.cell? ⟨p, 0, none⟩ = some v' := cell_of_one hp'
    have hf0 : wr.frozen? ⟨p, 0, none⟩ = false := free_of_one hp'
    have hplt := lt_blk hp'
    have hBw := hbel.size
    by_cases hlt : j < 2
    · go_wp2_with fail
      have hw8 : IntKind.i64.wrap (8 * (j : Int)) = 8 * (j : Int) := IntWalk.i64_in _ (by omega)
      have hj0 : (0 : Int) ≤ 8 * (j : Int) := by omega
      have hj1 : 8 * (j : Int) ≤ 64 := by omega
      go_region_law
        ((refine step_append_lies _ (by rfl) _ _ _ (by rfl) B 5 i0 _ 1 1 Try.underlying35 hi0 hz0 hz1 hz2 rfl (by omega) v' (k + j) xs' (by rfl) ((hown'.alloc _).drew)
            ⟨wr.heap.size, 0, none⟩ 1 1 [_] (by rfl) (by rfl) (World.news_of_block (cs := #[_]) (t := 5) (fr := (0, 0)) (heap_alloc_new wr _)) (by simp [Value.oneCell'])
            (by omega) (by unfold maxLen; omega) (by omega) (by simp; omega) (wr.heap.size + 1) (by simp) ?_; intro gg cap w1 hown1 hgrow hat hlt; have hff : w1.frozen? ⟨p, 0, none⟩ = false := (hgrow.frozen_far ⟨p, 0, none⟩ (by simp; omega) (Ne.symm ap)).trans ((frozen_alloc_drew wr _ ⟨p, 0, none⟩ hplt).trans hf0); have hcc : w1.cell? ⟨p, 0, none⟩ = some v' := (hgrow.cell_far ⟨p, 0, none⟩ (by simp; omega) (Ne.symm ap)).trans ((cell_alloc_drew wr _ ⟨p, 0, none⟩ hplt).trans hp0)))
      all_goals
        have R := pen_step (by decide) hB hp' hown' hbel (by omega) hown1 hgrow
        clear hown' hp' hp0 hf0 hgrow hown1 hff hcc hat hlt hw8 hj0 hj1
        go_wp2
        go_roundw
        case rel => exact ⟨j + 1, by omega, by go_num, _, _, R.1, R.2.1, bytes_snoc hb' _, R.2.2⟩
        case measure => simp [intOf]; omega
    · go_wp2
      go_ret
      exact ⟨rfl, v', xs', hp', by rwa [show j = 2 by omega] at hown', hb', hbel⟩
end Go.Proofs.Ytepmapehopgiaaa
