/- pack.Sum: it ends, and gives a number of 32 bits. At most 1,000 bytes. -/
import Derived.Test.YtepmapehopgiaaaByt
import Derived.OpenShut
namespace Go.Proofs.Ytepmapehopgiaaa
open Go.RowKit
def SumPost (w : World) (e : Ending) (w' : World) : Prop := ∃ u : Nat, u < 4294967296 ∧ e = .returned (.int .u32 u) ∧ w = w'
set_option maxRecDepth 100000 in
set_option maxHeartbeats 1000000 in
theorem sum_any (w : World) (g n cap : Nat) (xs : List Int) (hl : xs.length = n) (hn : n ≤ 1000) (hx : ∀ x ∈ xs, 0 ≤ x ∧ x ≤ 255)
    (hc : ∀ j, j < n → w.cell? ⟨g, j, none⟩ = some (.int .u8 (xs.getD j 0))) :
    Calls Try.prog 24 #[.slice (some ⟨g, 0, none⟩) n cap] w (SumPost w) := by
  have Hl := Lib.hid hl; have Hx := Lib.hid hx; have Hc := Lib.hid hc
  clear hl hx hc
  go_enter Try.func24, Try.ntmps24
  go_wp2_with fail
  go_loopw [3, 8] (fun s i wr => w = wr ∧ ∃ (j : Nat) (z : Int), j ≤ n ∧ i = .int .i64 j ∧ s = .int .u32 z) (fun _ i _ => n - (intOf i).toNat)
  case atStart => exact ⟨rfl, 0, 4294967295, by omega, rfl, rfl⟩
  case round =>
    obtain ⟨rfl, j, u, hj, rfl, rfl⟩ := hrel
    by_cases hlt : j < n
    · have hcj := Hc.out j hlt
      go_wp2_with fail
      clear hcj
      obtain ⟨wo, rfl⟩ : ∃ wo : World, wo = w := ⟨_, rfl⟩
      go_loopw [3, 16] (fun s i wr => wo = wr ∧ ∃ (l : Nat) (z : Int), l ≤ 8 ∧ i = .int .i64 l ∧ s = .int .u32 z) (fun _ i _ => 8 - (intOf i).toNat)
      case atStart => exact ⟨rfl, 0, _, by omega, rfl, rfl⟩
      case round =>
        obtain ⟨rfl, l, z, hl, rfl, rfl⟩ := hrel
        by_cases hlt8 : l < 8
        · go_wp2
          go_roundw
          case rel => exact ⟨trivial, l + 1, _, by omega, by go_num, rfl⟩
          case measure => simp [intOf]; omega
        · go_wp2
          go_roundw
          case rel => exact ⟨trivial, j + 1, _, by omega, by go_num, rfl⟩
          case measure => simp [intOf]; omega
    · go_wp2
      go_ret
      have hb := _root_.Go.bounds_u32 (_root_.Go.wf_bits .xor .u32 IntKind.u32.max u)
      refine ⟨(bits .xor .u32 IntKind.u32.max u).toNat, by omega, ?_, rfl⟩
      rw [Int.toNat_of_nonneg hb.1]
      rfl
end Go.Proofs.Ytepmapehopgiaaa
