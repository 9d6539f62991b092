/- slices.Clone of bytes: nil stays nil; n bytes are laid anew. The bytes are cells in memory; '1 to 2^47 bytes'. -/
import Derived.Test.YtepmapehopgiaaaBase
import Derived.Maps.AppendAt
namespace Go.Proofs.Ytepmapehopgiaaa
open Go.RowKit
theorem info5 : (Try.prog.info? 5).map (fun i => (i.zero, i.size, i.bytes)) = some (some (.int .u8 0), 1, 1) := by kernel_rfl
set_option maxHeartbeats 400000 in
theorem clone_nil (w : World) : Calls Try.prog 14 #[.slice none 0 0] w fun e w' => e = .returned (.slice none 0 0) ∧ w = w' := by
  have h1 := fun w => Lib.run_eql_slice_nil (P := Try.prog) w 35 5 none 0 0 0 0 Try.underlying35
  go_enter Try.func14, Try.ntmps14
  go_wp2
  go_ret
  exact ⟨rfl, rfl⟩
theorem owns_empty (w : World) (t : TypeId) (s : Nat) : (w.alloc (.cells #[] t)).ownsRow w.heap.size t s (.slice (some ⟨w.heap.size, 0, none⟩) 0 0) 0 [] :=
  ⟨by simp, Or.inr ⟨_, 0, #[], rfl, Nat.le_refl _, heap_alloc_new w _, Nat.le_refl _, by unfold maxLen; omega, by simp, by simp⟩⟩
set_option maxHeartbeats 400000 in
theorem clone_some (w : World) (g o n cap : Nat) (xs : List Value) (hl : xs.length = n) (hn : n ≤ 1000)
    (hc : ∀ (j : Nat) u, xs[j]? = some u → w.cell? ((⟨g, o, none⟩ : Addr).add j) = some u) (h1 : ∀ u ∈ xs, u.oneCell' = true) :
    Calls Try.prog 14 #[.slice (some ⟨g, o, none⟩) n cap] w fun e w' => ∃ v, e = .returned v ∧ w'.ownsRow w.heap.size 5 1 v n xs ∧ Below w.heap.size w w' := by
  have hq := fun w => Lib.run_eql_slice_nil (P := Try.prog) w 35 5 (some ⟨g, o, none⟩) n cap 0 0 Try.underlying35
  simp only [Option.isNone] at hq
  obtain ⟨i0, hi, hz0, hz1, hz2⟩ := info_parts info5
  have hlt : ∀ (j : Nat) u, xs[j]? = some u → (w.alloc (.cells #[] 5)).cell? ((⟨g, o, none⟩ : Addr).add j) = some u := by
    intro j u hj
    have := hc j u hj
    rw [World.cell?_of_block (w := w)]
    · exact this
    · have hlt : ((⟨g, o, none⟩ : Addr).add j).block < w.heap.size := by
        rcases Nat.lt_or_ge ((⟨g, o, none⟩ : Addr).add j).block w.heap.size with h | h
        · exact h
        · simp [World.cell?, Array.getElem?_eq_none h] at this
      exact blk_old _ _ _ hlt
  have Hl := Lib.hid hl; have Hc := Lib.hid hlt; have H1 := Lib.hid h1; have Hi := Lib.hid hi; have H0 := Lib.hid hz0; have Hz1 := Lib.hid hz1; have H2 := Lib.hid hz2
  clear hl hc h1 hi hz0 hz1 hz2 hlt
  go_enter Try.func14, Try.ntmps14
  go_wp2_with (at_builtin; refine wpList_append_own_at _ rfl _ _ 35 rfl w.heap.size 5 i0 (.int .u8 0) 1 1 Try.underlying35 Hi.out H0.out Hz1.out H2.out rfl (by decide) (.slice (some ⟨w.heap.size, 0, none⟩) 0 0) 0 [] rfl (owns_empty w 5 1) ⟨g, o, none⟩ n cap xs rfl (by have := Hl.out; omega) Hc.out H1.out (by unfold maxLen; omega) (by omega) (by simp) ?_; intro v' w1 hown hgr hnil hat)
  go_ret
  refine ⟨v', rfl, by simpa using hown, ((Below.refl _ _).alloc (Nat.le_refl _) _).grown hgr (by simp) (fun k hk => ?_)⟩
  simp [Value.ownBlock] at hk
  omega
end Go.Proofs.Ytepmapehopgiaaa
