/- pack.Pen's 'Data' and 'Bytes', pack.Seal: a frame of the body's length and 12 bytes more. At most 100 bytes of body. -/
import Derived.Test.YtepmapehopgiaaaPen
import Derived.Test.YtepmapehopgiaaaSum
import Derived.Lib.SlBytesConst
import Derived.ArgAppend
namespace Go.Proofs.Ytepmapehopgiaaa
open Go.RowKit

theorem bytes_one {xs : List Value} (h : Bytes xs) : ∀ u ∈ xs, u.oneCell' = true := by
  intro u hu
  obtain ⟨n, _, _, rfl⟩ := h u hu
  rfl
theorem addr_add (g o j : Nat) : (⟨g, o, none⟩ : Addr).add j = ⟨g, o + j, none⟩ := by
  unfold Addr.add
  split
  · simp [*]
  · rfl
/-- What owns at least one byte begins at the head of a row; its cells. -/
theorem owns_form {w : World} {B n : Nat} {v : Value} {xs : List Value} (h : w.ownsRow B 5 1 v n xs) (hn : 0 < n) :
    ∃ g cap, v = .slice (some ⟨g, 0, none⟩) n cap ∧ B ≤ g ∧ g < w.heap.size ∧ n ≤ cap ∧ xs.length = n ∧ ∀ (j : Nat) u, xs[j]? = some u → w.cell? ((⟨g, 0, none⟩ : Addr).add j) = some u := by
  obtain ⟨hl, h2⟩ := h
  rcases h2 with ⟨_, h0⟩ | ⟨g, cap, cur, rfl, hg, hh, hc, hm, hs, ht⟩
  · omega
  · refine ⟨g, cap, rfl, hg, lt_blk hh, hc, by omega, fun j u hj => ?_⟩
    rw [← ht] at hj
    have hj' : cur.toList[j]? = some u := by
      rcases Nat.lt_or_ge j (n * 1) with hlt | hge
      · rwa [List.getElem?_take_of_lt hlt] at hj
      · rw [List.getElem?_eq_none (by simp; omega)] at hj; cases hj
    rw [addr_add]
    simp [World.cell?, hh]
    simpa using hj'

set_option maxHeartbeats 400000 in
theorem data_any (w : World) (p g n cap : Nat) (xs : List Value) (hp : w.heap[p]? = some (.cells #[.slice (some ⟨g, 0, none⟩) n cap] 103)) (hl : xs.length = n) (hn : n ≤ 1000)
    (hc : ∀ (j : Nat) u, xs[j]? = some u → w.cell? ((⟨g, 0, none⟩ : Addr).add j) = some u) (h1 : ∀ u ∈ xs, u.oneCell' = true) :
    Calls Try.prog 34 #[.pointer (some ⟨p, 0, none⟩)] w fun e w' => ∃ v, e = .returned v ∧ w'.ownsRow w.heap.size 5 1 v n xs ∧ Below w.heap.size w w' := by
  have hp0 := cell_of_one hp
  have Hl := Lib.hid hl; have Hc := Lib.hid hc; have H1 := Lib.hid h1; clear hl hc h1
  go_enter Try.func34, Try.ntmps34
  go_wp2_with fail
  refine (clone_some w g 0 n cap xs Hl.out hn Hc.out H1.out).mono ?_
  rintro e w' ⟨v, rfl, hown, hb⟩
  go_wp2
  go_ret
  exact ⟨v, rfl, hown, hb⟩

set_option maxRecDepth 100000 in
set_option maxHeartbeats 1000000 in
theorem bytes_any (w : World) (p : Nat) (v : Value) (k : Nat) (xs : List Value) (B g n cap : Nat) (ys : List Value) (hp : w.heap[p]? = some (.cells #[v] 103)) (hB : B ≤ p) (hown : w.ownsRow B 5 1 v k xs) (hk : k ≤ 100) (hb : Bytes xs) (hBw : B ≤ w.heap.size)
    (hl : ys.length = n) (hn0 : 0 < n) (hn : n ≤ 100) (hg : g < B) (hc : ∀ (j : Nat) u, ys[j]? = some u → w.cell? ((⟨g, 0, none⟩ : Addr).add j) = some u) (hy : Bytes ys) :
    Calls Try.prog 32 #[.pointer (some ⟨p, 0, none⟩), .slice (some ⟨g, 0, none⟩) n cap] w fun e w' => e = .returned (.int .i64 0) ∧ ∃ v' xs', w'.heap[p]? = some (.cells #[v'] 103) ∧ w'.ownsRow B 5 1 v' (k + 4 + n) xs' ∧ Bytes xs' ∧ Below B w w' := by
  obtain ⟨i0, hi, hz0, hz1, hz2⟩ := info_parts info5
  have Hl := Lib.hid hl; have Hc := Lib.hid hc; have Hi := Lib.hid hi; have H0 := Lib.hid hz0; have Hz1 := Lib.hid hz1; have H2 := Lib.hid hz2
  clear hl hc hi hz0 hz1 hz2
  go_enter Try.func32, Try.ntmps32
  go_wp2_with fail
  refine (uint4 w p v k xs B n (by omega) hp hB hown (by omega) hb hBw).mono ?_
  rintro e w1 ⟨rfl, v1, xs1, hp1, hown1, hb1, hbel1⟩
  have hc1 : ∀ (j : Nat) u, ys[j]? = some u → w1.cell? ((⟨g, 0, none⟩ : Addr).add j) = some u := fun j u hj => (hbel1.cell (by rw [addr_add]; exact hg)).trans (Hc.out j u hj)
  have Hc1 := Lib.hid hc1; clear hc1
  have hp0 := cell_of_one hp1
  have hf0 := free_of_one hp1
  have hs1 := hbel1.size
  have ap := owns_ne hown1 hp1 (by decide)
  have hplt := lt_blk hp1
  go_wp2_with (at_builtin; refine wpList_append_lies _ rfl _ _ 35 rfl B 5 i0 (.int .u8 0) 1 1 Try.underlying35 Hi.out H0.out Hz1.out H2.out rfl (by decide) v1 (k + 4) xs1 rfl hown1 ⟨g, 0, none⟩ n cap ys rfl (by have := Hl.out; omega) Hc1.out (bytes_one hy) hn0 (by unfold maxLen; omega) (by omega) (by omega) w1.heap.size rfl ?_; intro gg cc w2 hown2 hgr hat hlt; have hcc : w2.cell? ⟨p, 0, none⟩ = some v1 := (hgr.cell_far ⟨p, 0, none⟩ hplt (Ne.symm ap)).trans hp0; have hff : w2.frozen? ⟨p, 0, none⟩ = false := (hgr.frozen_far ⟨p, 0, none⟩ hplt (Ne.symm ap)).trans hf0)
  go_ret
  have hp2 : w2.heap[p]? = some (.cells #[v1] 103) := (hgr.block p hplt (Ne.symm ap)).trans hp1
  refine ⟨rfl, _, _, one_setCell hp2, ownsRow_setCell_other hown2 (owns_ne hown2 hp2 (by decide)) _, ?_, ?_⟩
  · intro x hx
    rcases List.mem_append.1 hx with h | h
    · exact hb1 x h
    · exact hy x h
  · exact (hbel1.grown hgr (by omega) (owns_ge hown1)).setCell hB _

theorem owns_mono {w : World} {B C e size n : Nat} {v : Value} {xs : List Value} (h : w.ownsRow B e size v n xs) (hBC : C ≤ B) : w.ownsRow C e size v n xs := by
  obtain ⟨hl, h2⟩ := h
  refine ⟨hl, ?_⟩
  rcases h2 with h2 | ⟨g, cap, cur, hv, hg, r⟩
  · exact Or.inl h2
  · exact Or.inr ⟨g, cap, cur, hv, by omega, r⟩
/-- The numbers of bytes. -/
theorem bytes_ints {xs : List Value} (h : Bytes xs) : ∃ zs : List Int, xs = zs.map (Value.int .u8) ∧ ∀ z ∈ zs, 0 ≤ z ∧ z ≤ 255 := by
  induction xs with
  | nil => exact ⟨[], rfl, by simp⟩
  | cons x xs ih =>
    obtain ⟨zs, rfl, hz⟩ := ih (fun y hy => h y (List.mem_cons_of_mem _ hy))
    obtain ⟨n, h0, h1, rfl⟩ := h x (by simp)
    refine ⟨n :: zs, rfl, fun z hz' => ?_⟩
    rcases List.mem_cons.1 hz' with rfl | h'
    · exact ⟨h0, h1⟩
    · exact hz z h'
/-- pack.Sum over bytes that lie at the head of a row. -/
theorem sum_row (w : World) (g n cap : Nat) (xs : List Value) (hl : xs.length = n) (hn : n ≤ 1000) (hb : Bytes xs)
    (hc : ∀ (j : Nat) u, xs[j]? = some u → w.cell? ((⟨g, 0, none⟩ : Addr).add j) = some u) : Calls Try.prog 24 #[.slice (some ⟨g, 0, none⟩) n cap] w (SumPost w) := by
  obtain ⟨zs, rfl, hz⟩ := bytes_ints hb
  simp only [List.length_map] at hl
  refine sum_any w g n cap zs hl hn hz fun j hj => ?_
  have hj' : zs[j]? = some (zs.getD j 0) := by simp [List.getElem?_eq_getElem (show j < zs.length by omega)]
  have := hc j (.int .u8 (zs.getD j 0)) (by rw [List.getElem?_map, hj']; rfl)
  rwa [addr_add, Nat.zero_add] at this

/-- What a frame is: so many bytes in new memory. -/
def SealPost (n : Nat) (w : World) (e : Ending) (w' : World) : Prop := ∃ v xs, e = .returned v ∧ w'.ownsRow w.heap.size 5 1 v n xs ∧ Bytes xs ∧ Below w.heap.size w w'

set_option maxRecDepth 100000 in
set_option maxHeartbeats 1000000 in
theorem seal_any (w : World) (b g n cap : Nat) (ys : List Value) (hbb : b ≤ 255) (hl : ys.length = n) (hn0 : 0 < n) (hn : n ≤ 50) (hg : g < w.heap.size)
    (hc : ∀ (j : Nat) u, ys[j]? = some u → w.cell? ((⟨g, 0, none⟩ : Addr).add j) = some u) (hy : Bytes ys) :
    Calls Try.prog 33 #[.int .u8 b, .slice (some ⟨g, 0, none⟩) n cap] w (SealPost (n + 12) w) := by
  obtain ⟨i0, hi, hz0, hz1, hz2⟩ := info_parts info5
  have Hl := Lib.hid hl; have Hc := Lib.hid hc; have Hi := Lib.hid hi; have H0 := Lib.hid hz0; have Hz1 := Lib.hid hz1; have H2 := Lib.hid hz2
  clear hl hc hi hz0 hz1 hz2
  go_enter Try.func33, Try.ntmps33
  have kc := fun (w : World) (C : Array Value) (n c : Nat) => Lib.run_convert_bytes_const (P := Try.prog) w 35 5 C n c Try.underlying35 Try.underlying5
  have hb0 : (((w.alloc (.cells #[.int .u8 82, .int .u8 68, .int .u8 76] 5 (3, 4))).alloc (.cells #[.int .u8 b] 5))).heap[w.heap.size]? = some (.cells #[.int .u8 82, .int .u8 68, .int .u8 76] 5 (3, 4)) :=
    (blk_old _ _ _ (by simp)).trans (blk_new _ _ _ rfl)
  have hb1 : (((w.alloc (.cells #[.int .u8 82, .int .u8 68, .int .u8 76] 5 (3, 4))).alloc (.cells #[.int .u8 b] 5))).heap[w.heap.size + 1]? = some (.cells #[.int .u8 b] 5) := blk_new _ _ _ (by simp)
  have Hb0 := Lib.hid hb0; have Hb1 := Lib.hid hb1; clear hb0 hb1
  go_wp2_with (at_builtin; refine wpList_append_grows _ rfl _ _ 35 rfl 5 i0 (.int .u8 0) 1 1 Try.underlying35 Hi.out H0.out Hz1.out H2.out rfl (by decide) (some ⟨w.heap.size, 0, none⟩) 3 3 [.int .u8 82, .int .u8 68, .int .u8 76] rfl (by intro h; cases h) rfl (by intro ad had; obtain rfl := Option.some.inj had; exact World.news_of_block (cs := #[.int .u8 82, .int .u8 68, .int .u8 76]) (t := 5) (fr := (3, 4)) Hb0.out) ⟨w.heap.size + 1, 0, none⟩ 1 1 [.int .u8 b] rfl rfl (World.news_of_block (cs := #[.int .u8 b]) (t := 5) (fr := (0, 0)) Hb1.out) (by simp [Value.oneCell']) (by omega) (by unfold maxLen; omega) (by omega) ?_; intro v1 w1 hown1 hgr; obtain ⟨gg, cc, hv1, hgg, hlt1, hcc, hxl, hcell⟩ := owns_form hown1 (by omega); subst hv1)
  have hbw : Below w.heap.size w w1 := (((Below.refl _ _).alloc (Nat.le_refl _) _).alloc (by simp) _).grown hgr (by simp; omega) (by intro k hk; cases hk)
  have hs1 := hbw.size
  have hown3 : (w1.alloc (.cells #[.slice (some ⟨gg, 0, none⟩) 4 cc] 103)).ownsRow w.heap.size 5 1 (.slice (some ⟨gg, 0, none⟩) 4 cc) 4 [.int .u8 82, .int .u8 68, .int .u8 76, .int .u8 b] :=
    owns_mono (hown1.alloc _) (by simp; omega)
  have hbw3 : Below w.heap.size w (w1.alloc (.cells #[.slice (some ⟨gg, 0, none⟩) 4 cc] 103)) := hbw.alloc hs1 _
  have hcw : ∀ (j : Nat) u, ys[j]? = some u → (w1.alloc (.cells #[.slice (some ⟨gg, 0, none⟩) 4 cc] 103)).cell? ((⟨g, 0, none⟩ : Addr).add j) = some u := fun j u hj => (hbw3.cell (by rw [addr_add]; exact hg)).trans (Hc.out j u hj)
  have hbb0 : Bytes [.int .u8 82, .int .u8 68, .int .u8 76, .int .u8 b] := by
    intro x hx
    simp at hx
    rcases hx with rfl | rfl | rfl | rfl
    · exact ⟨82, by omega, by omega, rfl⟩
    · exact ⟨68, by omega, by omega, rfl⟩
    · exact ⟨76, by omega, by omega, rfl⟩
    · exact ⟨b, by omega, by omega, rfl⟩
  refine (bytes_any _ w1.heap.size _ 4 _ w.heap.size g n cap ys (blk_new _ _ _ rfl) hs1 hown3 (by omega) hbb0 (by simp; omega) Hl.out hn0 (by omega) hg hcw hy).mono ?_
  rintro e w4 ⟨rfl, v4, xs4, hp4, hown4, hb4, hbel4⟩
  obtain ⟨g4, c4, hv4, hg4, hlt4, hc4, hx4, hcell4⟩ := owns_form hown4 (by omega)
  subst hv4
  clear hcw hown3 hcell hxl hown1 hgr Hb0 Hb1 kc hbb0
  have hp40 := cell_of_one hp4
  have Hcell4 := Lib.hid hcell4; clear hcell4
  go_wp2_with fail
  refine (sum_row w4 g4 (4 + 4 + n) c4 xs4 hx4 (by omega) hb4 Hcell4.out).mono ?_
  rintro e w5 ⟨u, hu, rfl, rfl⟩
  go_wp2_with fail
  refine (uint4 w4 w1.heap.size _ (4 + 4 + n) xs4 w.heap.size u hu hp4 hs1 hown4 (by omega) hb4 (by have := hbel4.size; have := hbw3.size; omega)).mono ?_
  rintro e w6 ⟨rfl, v6, xs6, hp6, hown6, hb6, hbel6⟩
  have hp60 := cell_of_one hp6
  go_wp2
  go_ret
  refine ⟨v6, xs6, rfl, ?_, hb6, (hbw3.trans hbel4).trans hbel6⟩
  rwa [show n + 12 = 4 + 4 + n + 4 by omega]
end Go.Proofs.Ytepmapehopgiaaa
