/- desk: 'Scan' where the handle is not open, and where it is; 'add', 'Open'. -/
import Derived.Test.YtepmapehopgiaaaStr
import Derived.Test.YtepmapehopgiaaaDesk
import Derived.Maps.Own
import Derived.Maps.OwnOps
namespace Go.Proofs.Ytepmapehopgiaaa
open Go.RowKit

theorem keyed3 : Maps.Keyed Try.prog 3 := Maps.int_keyed Try.underlying3

theorem key_of (i : Int) (hi : -9223372036854775808 ≤ i ∧ i ≤ 9223372036854775807) : keyOf Try.prog 3 (.int .i64 i) = some (.int .i64 i) :=
  Maps.keyOf_int_mk Try.underlying3 (WalkArith.wf_i64 hi)

/-- m[i] in the map of nothing. -/
theorem look_empty (w : World) (m : Nat) (i : Int) (hi : -9223372036854775808 ≤ i ∧ i ≤ 9223372036854775807) (hm : w.heap[m]? = some (.map #[] 0)) :
    (Instr.lookup 60 (.map (some m)) (.int .i64 i) true).run Try.prog w = .ok (.tuple #[.pointer none, .bool false]) w := by
  have hz : (zeroValue 57).run Try.prog w = .ok (.pointer none) w := by kernel_rfl
  rcases keyed3.find w (key_of i hi) [] (by simp) with ⟨h1, _⟩ | ⟨j, e0, _, h2, _⟩
  · simp [Instr.lookup, run_underlying Try.underlying60, MapKept.run_getObj_map hm, keyed3.check w _ (key_of i hi), h1, hz, Result.andThen]
  · simp at h2

/-- m[i] = v in the map of nothing. -/
theorem lay_first (w : World) (m : Nat) (i : Int) (v : Value) (hi : -9223372036854775808 ≤ i ∧ i ≤ 9223372036854775807) (hm : w.heap[m]? = some (.map #[] 0)) :
    (Instr.mapUpdate 60 (.map (some m)) (.int .i64 i) v).run Try.prog w = .ok () (ChangeMaps.setBlock w m (.map #[{ key := .int .i64 i, val := v, born := 0 }] 1)) := by
  rcases keyed3.find w (key_of i hi) [] (by simp) with ⟨h1, _⟩ | ⟨j, e0, _, h2, _⟩
  · simp [Instr.mapUpdate, run_underlying Try.underlying60, MapKept.run_getObj_map hm, keyed3.check w _ (key_of i hi), h1, MapKept.run_setObj_map _ hm, Result.andThen, ChangeMaps.setBlock]
  · simp at h2

/-- m[i] where it is the map's one key. -/
theorem look_one (w : World) (m : Nat) (i : Int) (v : Value) (hi : -9223372036854775808 ≤ i ∧ i ≤ 9223372036854775807) (hm : w.heap[m]? = some (.map #[{ key := .int .i64 i, val := v, born := 0 }] 1)) :
    (Instr.lookup 60 (.map (some m)) (.int .i64 i) true).run Try.prog w = .ok (.tuple #[v, .bool true]) w := by
  rcases keyed3.find w (key_of i hi) [{ key := .int .i64 i, val := v, born := 0 }] (by simp [key_of i hi]) with ⟨_, h1⟩ | ⟨j, e0, h1, h2, _⟩
  · simp at h1
  · cases j with
    | zero =>
      simp at h2; subst h2
      simp [Instr.lookup, run_underlying Try.underlying60, MapKept.run_getObj_map hm, keyed3.check w _ (key_of i hi), h1, Result.andThen]
    | succ j => simp at h2

set_option maxRecDepth 100000 in
set_option maxHeartbeats 1000000 in
theorem scan_none (w : World) (d m : Nat) (i : Int) (v : Value) (hi : -9223372036854775808 ≤ i ∧ i ≤ 9223372036854775807) (h2 : w.cell? ⟨d, 2, none⟩ = some (.map (some m))) (hm : w.heap[m]? = some (.map #[] 0)) :
    Calls Try.prog 17 #[.pointer (some ⟨d, 0, none⟩), .int .i64 i, v] w fun e w' => e = .returned (.tuple #[.slice none 0 0, .int .i64 260]) ∧ w = w' := by
  have hl := look_empty w m i hi hm
  go_enter Try.func17, Try.ntmps17
  go_wp2_with fail
  go_ret2
  exact ⟨rfl, rfl⟩

set_option maxRecDepth 100000 in
set_option maxHeartbeats 1000000 in
theorem scan_open (w : World) (B d m s : Nat) (i : Int) (gw cw b : Nat) (hi : -9223372036854775808 ≤ i ∧ i ≤ 9223372036854775807) (h2 : w.cell? ⟨d, 2, none⟩ = some (.map (some m))) (hm : w.heap[m]? = some (.map #[{ key := .int .i64 i, val := .pointer (some ⟨s, 0, none⟩), born := 0 }] 1))
    (hb : b < 256) (hs : StreamAt w B s 0 false) (hgw : gw ≠ s) (hcell : w.cell? ⟨gw, 0, none⟩ = some (.int .u8 b)) :
    Calls Try.prog 17 #[.pointer (some ⟨d, 0, none⟩), .int .i64 i, .slice (some ⟨gw, 0, none⟩) 1 cw] w fun e w' => e = .returned (.tuple #[.slice none 0 0, .int .i64 0]) ∧ Below B w w' ∧ ∀ k, k ≠ s → w'.heap[k]? = w.heap[k]? := by
  have hl := look_one w m i _ hi hm
  have Hs := Lib.hid hs; have Hc := Lib.hid hcell; clear hs hcell hm
  go_enter Try.func17, Try.ntmps17
  go_wp2_with fail
  refine (feed_one w B s gw cw b hb Hs.out hgw Hc.out).mono ?_
  rintro e w1 ⟨rfl, hb1⟩
  go_wp2
  go_ret2
  exact ⟨rfl, hb1⟩
end Go.Proofs.Ytepmapehopgiaaa
