/- law: 'speaks': a feed of one place takes a post, refuses the next, and pumps the one. -/
import Derived.Test.YtepmapehopgiaaaPmp
import Derived.Lib.SlBytesConst
namespace Go.Proofs.Ytepmapehopgiaaa
open Go.RowKit

/-- What holds of the one entry that waits while 'speaks' pumps. -/
def spkS (n0 c : Nat) (w7 : World) (l : List Value) (w' : World) : Prop := l ≠ [] → l = [postOf n0] ∧ ∀ k, k < w7.heap.size → k ≠ c → w'.heap[k]? = w7.heap[k]?

theorem spk_pumps (w7 : World) (A B d m c p s n0 g1 c1 : Nat) (hAB : A ≤ B) (hcB : c < B) (hpB : p < B)
    (h2 : w7.cell? ⟨d, 2, none⟩ = some (.map (some m))) (hm : w7.heap[m]? = some (.map #[{ key := .int .i64 1, val := .pointer (some ⟨s, 0, none⟩), born := 0 }] 1)) (hs : StreamAt w7 B s 0 false) (hgs : g1 ≠ s)
    (hcell : w7.cell? ⟨g1, 0, none⟩ = some (.int .u8 97)) (hh : w7.cell? ⟨n0, 0, none⟩ = some (.int .i64 1)) (hw : w7.cell? ⟨n0 + 1, 0, none⟩ = some (.slice (some ⟨g1, 0, none⟩) 1 c1)) (hns : n0 ≠ s)
    (hd : d ≠ c) (hmc : m ≠ c) (hg : g1 ≠ c) (hn : n0 ≠ c) (hn1 : n0 + 1 ≠ c) (hcc : ∃ cap buf cl s r tm, w7.heap[c]? = some (.chan cap buf cl s r tm)) :
    Pumps A w7.heap.size d p c (spkS n0 c w7) := by
  refine ⟨fun l w w' hS hk hne => ?_, fun e l w8 hS hH => ?_⟩
  · obtain ⟨h1, h2⟩ := hS hne
    exact ⟨h1, fun k hk1 hk2 => (hk k hk1 hk2).trans (h2 k hk1 hk2)⟩
  · obtain ⟨h1, hsame⟩ := hS (by simp)
    simp only [List.cons.injEq] at h1
    obtain ⟨rfl, rfl⟩ := h1
    refine ⟨n0, n0 + 1, rfl, ?_⟩
    have hsl : s < w7.heap.size := by obtain ⟨_, _, _, _, _, _, _, _, _, _, _, hS, _⟩ := hs; exact lt_blk hS
    have hsB : B ≤ s := by obtain ⟨_, _, _, _, _, h, _⟩ := hs; exact h
    have cl : ∀ (x o : Nat) v, w7.cell? ⟨x, o, none⟩ = some v → x ≠ c → w8.cell? ⟨x, o, none⟩ = some v := fun x o v h hx =>
      (World.cell?_of_block (a := ⟨x, o, none⟩) (hsame x (World.block_lt_of_cell? w7 _ h) hx)).trans h
    refine (post1_open w8 B d m n0 (n0 + 1) s g1 c1 97 1 (by omega) (cl _ _ _ h2 hd) ((hsame m (lt_blk hm) hmc).trans hm) (by omega)
      (hs.kept (fun k h1 h2 => hsame k h2 (by omega)) (fun k t hk => (hsame k (lt_blk hk) ?_).trans hk)) hgs (cl _ _ _ hcell hg) (cl _ _ _ hh hn) (cl _ _ _ hw hn1) hns).mono ?_
    · rintro rfl
      obtain ⟨_, _, _, _, _, _, h⟩ := hcc
      rw [hk] at h; cases h
    · rintro e w9 ⟨rfl, hb, hsz, hk⟩
      exact ⟨_, _, _, rfl, rfl, rfl, rfl, fun h => (h rfl).elim, hb.mono hAB, by omega, fun k h1 h2 => hk k h1 (by omega)⟩

set_option maxRecDepth 100000 in
set_option maxHeartbeats 1000000 in
theorem speaks_any (w : World) : Calls Try.prog 4 #[] w fun e w' => e = .returned (.bool true) ∧ Below w.heap.size w w' := by
  have hconv : ∀ (w : World) (x : Int), (convert 35 35 (.slice (some ⟨w.heap.size, 0, none⟩) 1 1)).run Try.prog (w.alloc (.cells #[.int .u8 x] 5)) = .ok (.slice (some ⟨w.heap.size, 0, none⟩) 1 1) (w.alloc (.cells #[.int .u8 x] 5 (1, 2))) :=
    fun w x => Lib.run_convert_bytes_const w 35 5 #[.int .u8 x] 1 1 Try.underlying35 Try.underlying5
  have h97 := fun w => hconv w 97
  have h98 := fun w => hconv w 98
  clear hconv
  go_enter Try.func4, Try.ntmps4
  go_wp2_with fail
  refine (made_nil w).mono ?_
  rintro e w1 ⟨d, m, u, b, rfl, hm1, hm2, hd1, hd2, hD, hM, hbel, nb, hBs⟩
  have hne_dm : d ≠ m := by rintro rfl; rw [hD] at hM; cases hM
  have hlb := lt_blk hBs
  have HD := Lib.hid hD; have HM := Lib.hid hM; have Hbel := Lib.hid hbel; have HB := Lib.hid hBs
  clear hD hM hbel hBs
  go_wp2_with fail
  refine (new_any w1 d 1 (by omega) (by omega)).mono ?_
  rintro e w2 ⟨rfl, hw2⟩
  have hsz2 : w2.heap.size = w1.heap.size + 2 := by rw [← hw2]; simp
  have hc2 : w2.heap[w1.heap.size]? = some (.chan 1 #[] false 0 0 false) := by rw [← hw2, blk_old _ _ _ (by simp)]; exact blk_new _ _ _ rfl
  have hp2 : w2.heap[w1.heap.size + 1]? = some (.cells #[.pointer (some ⟨d, 0, none⟩), .chan (some w1.heap.size)] 45) := by rw [← hw2]; exact blk_new _ _ _ (by simp)
  have hk2 : ∀ k, k < w1.heap.size → w2.heap[k]? = w1.heap[k]? := fun k hk => by rw [← hw2, blk_old _ _ _ (by simp; omega), blk_old _ _ _ hk]
  have hb2 : Below w.heap.size w w2 := by rw [← hw2]; exact (Hbel.out.alloc (by omega) _).alloc (by simp; omega) _
  clear hw2
  have Hc2 := Lib.hid hc2; have Hp2 := Lib.hid hp2; have Hk2 := Lib.hid hk2; have Hb2 := Lib.hid hb2
  clear hc2 hp2 hk2 hb2
  go_wp2_with fail
  refine (open_first w2 w.heap.size d m b nb u ((Hk2.out d (by omega)).trans HD.out) ((Hk2.out m (by omega)).trans HM.out) ((Hk2.out b (by omega)).trans HB.out) hd1 hm1).mono ?_
  rintro e w3 ⟨rfl, s, hs3, hsl3, hb3, hk3, hd3, hm3⟩
  have hc3 : w3.heap[w1.heap.size]? = some (.chan 1 #[] false 0 0 false) := (hk3 _ (by omega) (by omega) (by omega)).trans Hc2.out
  have hp3 : w3.heap[w1.heap.size + 1]? = some (.cells #[.pointer (some ⟨d, 0, none⟩), .chan (some w1.heap.size)] 45) := (hk3 _ (by omega) (by omega) (by omega)).trans Hp2.out
  have hsz3 := hb3.size
  have Hs3 := Lib.hid hs3; have Hc3 := Lib.hid hc3; have Hp3 := Lib.hid hp3; have Hb3 := Lib.hid (Hb2.out.trans hb3); have Hd3 := Lib.hid hd3; have Hm3 := Lib.hid hm3
  clear hs3 hc3 hp3 hb3 hk3 hd3 hm3 Hb2 Hc2 Hp2 Hk2 HD HM HB Hbel
  go_wp2_with fail
  have hc4 : (w3.alloc (.cells #[.int .u8 97] 5 (1, 2))).heap[w1.heap.size]? = some (.chan 1 #[] false 0 0 false) := (blk_old _ _ _ (by omega)).trans Hc3.out
  have hp4 : (w3.alloc (.cells #[.int .u8 97] 5 (1, 2))).heap[w1.heap.size + 1]? = some (.cells #[.pointer (some ⟨d, 0, none⟩), .chan (some w1.heap.size)] 45) := (blk_old _ _ _ (by omega)).trans Hp3.out
  have hg4 : (w3.alloc (.cells #[.int .u8 97] 5 (1, 2))).cell? ⟨w3.heap.size, 0, none⟩ = some (.int .u8 (97 : Nat)) := cell_blk (blk_new _ _ _ rfl) 0 rfl
  have hb4 : Below w.heap.size w (w3.alloc (.cells #[.int .u8 97] 5 (1, 2))) := Hb3.out.alloc (by omega) _
  have hk4 : ∀ k, k < w3.heap.size → (w3.alloc (.cells #[.int .u8 97] 5 (1, 2))).heap[k]? = w3.heap[k]? := fun k hk => blk_old _ _ _ hk
  have hsz4 : (w3.alloc (.cells #[.int .u8 97] 5 (1, 2))).heap.size = w3.heap.size + 1 := by simp
  have Hb4 := Lib.hid hb4; have Hk4 := Lib.hid hk4; clear hb4 hk4
  refine (post_byte _ (w1.heap.size + 1) w3.heap.size 1 97 1 w1.heap.size 1 #[] 0 0 (cell_blk hp4 1 rfl) hc4 (by simp) hg4).mono ?_
  rintro e w5 ⟨rfl, hc5, hn5, ⟨g1, c1, ht5, hg5, hg15⟩, hb5, hsz5, hk5⟩
  generalize (w3.alloc (.cells #[.int .u8 97] 5 (1, 2))) = w4 at *
  have hg5l := World.block_lt_of_cell? w5 _ hg5
  simp only at hg5l
  have hp5 : w5.heap[w1.heap.size + 1]? = some (.cells #[.pointer (some ⟨d, 0, none⟩), .chan (some w1.heap.size)] 45) := (hk5 _ (by omega) (by omega)).trans hp4
  have hd5 : w5.heap[d]? = some (.cells #[.pointer (some ⟨b, 0, none⟩), .int .u32 u, .map (some m), .int .i64 1] 62) := (hk5 _ (by omega) (by omega)).trans ((Hk4.out d (by omega)).trans Hd3.out)
  have hm5 : w5.heap[m]? = some (.map #[{ key := .int .i64 1, val := .pointer (some ⟨s, 0, none⟩), born := 0 }] 1) := (hk5 _ (by omega) (by omega)).trans ((Hk4.out m (by omega)).trans Hm3.out)
  have hs5 : StreamAt w5 w2.heap.size s 0 false := Hs3.out.kept (fun k h1 h2 => (hk5 k (by omega) (by omega)).trans (Hk4.out k h2)) (fun k t hk => (hk5 k (by have := lt_blk hk; omega) (by rintro rfl; rw [Hc3.out] at hk; cases hk)).trans ((Hk4.out k (lt_blk hk)).trans hk))
  have hbw5 : Below w.heap.size w w5 := Hb4.out.trans (hb5 _ (by omega) (by omega))
  have Hc5 := Lib.hid hc5; have Hn5 := Lib.hid hn5; have Ht5 := Lib.hid ht5; have Hg5 := Lib.hid hg5; have Hp5 := Lib.hid hp5; have Hd5 := Lib.hid hd5; have Hm5 := Lib.hid hm5; have Hs5 := Lib.hid hs5; have Hb5 := Lib.hid hbw5
  clear hc5 hn5 ht5 hg5 hp5 hd5 hm5 hs5 hbw5 hb5 hk5 hc4 hp4 hg4 Hs3 Hc3 Hp3 Hb3 Hd3 Hm3 Hk4 Hb4
  go_wp2_with fail
  have hc6 : (w5.alloc (.cells #[.int .u8 98] 5 (1, 2))).heap[w1.heap.size]? = some (.chan 1 (#[].push (postOf w4.heap.size)) false (0 + 1) 0 false) := (blk_old _ _ _ (by omega)).trans Hc5.out
  have hp6 : (w5.alloc (.cells #[.int .u8 98] 5 (1, 2))).heap[w1.heap.size + 1]? = some (.cells #[.pointer (some ⟨d, 0, none⟩), .chan (some w1.heap.size)] 45) := (blk_old _ _ _ (by omega)).trans Hp5.out
  have hg6 : (w5.alloc (.cells #[.int .u8 98] 5 (1, 2))).cell? ⟨w5.heap.size, 0, none⟩ = some (.int .u8 (98 : Nat)) := cell_blk (blk_new _ _ _ rfl) 0 rfl
  refine (post_byte_full _ (w1.heap.size + 1) w5.heap.size 1 98 1 w1.heap.size 1 _ _ 0 (cell_blk hp6 1 rfl) hc6 (by simp) hg6).mono ?_
  rintro e w7 ⟨rfl, hb7⟩
  have hsz7 := hb7.size
  simp only [World.size_alloc] at hsz7 hb7
  have hk7 : ∀ k, k < w5.heap.size → w7.heap[k]? = w5.heap[k]? := fun k hk => (hb7.block k (by omega)).trans (blk_old _ _ _ hk)
  have hc7 := (hk7 _ (by omega)).trans Hc5.out
  have hp7 := (hk7 _ (by omega)).trans Hp5.out
  have cl : ∀ (x o : Nat) v, w5.cell? ⟨x, o, none⟩ = some v → w7.cell? ⟨x, o, none⟩ = some v := fun x o v h => (World.cell?_of_block (a := ⟨x, o, none⟩) (hk7 x (World.block_lt_of_cell? w5 _ h))).trans h
  have hbw7 : Below w.heap.size w w7 := (Hb5.out.alloc (by omega) _).trans (hb7.mono (by omega))
  have hS7 : Pumps w.heap.size w7.heap.size d (w1.heap.size + 1) w1.heap.size (spkS w4.heap.size w1.heap.size w7) :=
    spk_pumps w7 w.heap.size w2.heap.size d m w1.heap.size (w1.heap.size + 1) s w4.heap.size g1 c1 (by omega) (by omega) (by omega) (cl d 2 _ (cell_blk Hd5.out 2 rfl)) ((hk7 m (by omega)).trans Hm5.out)
      (Hs5.out.kept (fun k _ h2 => hk7 k h2) (fun k t hk => (hk7 k (lt_blk hk)).trans hk)) (by omega) (cl g1 0 _ Hg5.out) (cl _ 0 _ Hn5.out) (cl _ 0 _ Ht5.out) (by omega) (by omega) (by omega) (by omega) (by omega) (by omega) ⟨_, _, _, _, _, _, hc7⟩
  have Hc7 := Lib.hid hc7; have Hp7 := Lib.hid hp7; have Hb7 := Lib.hid hbw7; have HS7 := Lib.hid hS7
  clear hc7 hp7 hbw7 hS7 cl hk7 hc6 hp6 hg6 Hc5 Hn5 Ht5 Hg5 Hp5 Hd5 Hm5 Hs5 Hb5 hb7
  go_wp2_with fail
  refine (waiting_any w7 _ _ _ _ _ _ (cell_blk Hp7.out 1 rfl) Hc7.out).mono ?_
  rintro e w8 ⟨rfl, rfl⟩
  go_wp2_with fail
  refine (pump_any w7 w.heap.size w7.heap.size d (w1.heap.size + 1) w1.heap.size 1 _ _ 5 (by omega) [postOf w4.heap.size] (by simp) _ HS7.out (fun _ => ⟨rfl, fun _ _ _ => rfl⟩) Hc7.out (cell_blk Hp7.out 0 rfl) (cell_blk Hp7.out 1 rfl) rfl (by omega) (by omega) (by omega) (by omega) (by omega)).mono ?_
  rintro e w9 ⟨ao, k, cap', s', r', buf, rfl, hk9, hc9, hbuf, hp9, hb9⟩
  have hk1 : k = 1 := by simp at hk9; omega
  subst hk1
  have hbuf0 : buf.size = 0 := by simpa using hbuf
  have Hc9 := Lib.hid hc9; have Hp9 := Lib.hid hp9
  have Hbuf := Lib.hid hbuf0
  clear hc9 hp9 hk9 hbuf hbuf0
  go_wp2_with fail
  refine (waiting_any w9 _ _ _ _ _ _ Hp9.out Hc9.out).mono ?_
  rintro e w10 ⟨rfl, rfl⟩
  rw [Hbuf.out]
  go_wp2
  go_ret
  exact ⟨rfl, Hb7.out.trans hb9⟩
end Go.Proofs.Ytepmapehopgiaaa
