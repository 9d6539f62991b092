/- law: 'FeedRoom': the walk. -/
import Derived.Test.YtepmapehopgiaaaSpk
namespace Go.Proofs.Ytepmapehopgiaaa
open Go.RowKit

/-- An entry of the channel: its boxes hold a handle and no text. -/
def RoomEntry (w : World) (e : Value) : Prop := ∃ (n : Nat) (j : Int), e = postOf n ∧ (-9223372036854775808 ≤ j ∧ j ≤ 9223372036854775807) ∧ w.cell? ⟨n, 0, none⟩ = some (.int .i64 j) ∧ w.cell? ⟨n + 1, 0, none⟩ = some (.slice none 0 0)

/-- Behind i posts, of which k were taken. -/
structure RoomAt (w0 : World) (B d m p c cap : Nat) (i k : Int) (w : World) : Prop where
  ex : ∃ (l : List Value) (s r : Nat), w.heap[c]? = some (.chan cap l.toArray false s r false) ∧ k = l.length ∧ k = min i cap ∧ (∀ e ∈ l, RoomEntry w e) ∧ w.cell? ⟨p, 0, none⟩ = some (.pointer (some ⟨d, 0, none⟩)) ∧ w.cell? ⟨p, 1, none⟩ = some (.chan (some c)) ∧
    w.cell? ⟨d, 2, none⟩ = some (.map (some m)) ∧ w.heap[m]? = some (.map #[] 0) ∧ Below B w0 w

theorem RoomEntry.kept {w w' : World} {e : Value} {c : Nat} (h : RoomEntry w e) (hk : ∀ k, k < w.heap.size → k ≠ c → w'.heap[k]? = w.heap[k]?) (hcc : ∃ cap buf cl s r tm, w.heap[c]? = some (.chan cap buf cl s r tm)) : RoomEntry w' e := by
  obtain ⟨n, j, rfl, hj, h1, h2⟩ := h
  obtain ⟨_, _, _, _, _, _, hc⟩ := hcc
  have cl : ∀ (x : Nat) v, w.cell? ⟨x, 0, none⟩ = some v → w'.cell? ⟨x, 0, none⟩ = some v := by
    intro x v hx
    refine (World.cell?_of_block (a := ⟨x, 0, none⟩) (hk x (World.block_lt_of_cell? w _ hx) ?_)).trans hx
    rintro rfl
    simp [World.cell?, hc] at hx
  exact ⟨n, j, rfl, hj, cl _ _ h1, cl _ _ h2⟩

theorem room_post (w0 w : World) (d m p c cap : Nat) (i k : Int) (hi : 0 ≤ i ∧ i ≤ 9223372036854775806) (h : RoomAt w0 w0.heap.size d m p c cap i k w) (hpc : p ≠ c) (hdc : d ≠ c) (hmc : m ≠ c) (hB : w0.heap.size ≤ c) :
    Calls Try.prog 7 #[.pointer (some ⟨p, 0, none⟩), .int .i64 i, .slice none 0 0] w fun e w' =>
      (k < cap ∧ e = .returned (.int .i64 0) ∧ RoomAt w0 w0.heap.size d m p c cap (i + 1) (k + 1) w') ∨ (cap ≤ k ∧ e = .returned (.int .i64 270) ∧ RoomAt w0 w0.heap.size d m p c cap (i + 1) k w') := by
  obtain ⟨l, s, r, hc, hk, hkm, hl, hp0, hp1, hd2, hm, hb⟩ := h
  have hlc := lt_blk hc
  have hlm := lt_blk hm
  have hlp := World.block_lt_of_cell? w _ hp0
  have hld := World.block_lt_of_cell? w _ hd2
  simp only at hlp hld
  have hsz := hb.size
  have hA : ∀ x, x < w.heap.size → ((w.alloc (.cells #[.int .i64 i] 3)).alloc (.cells #[.slice none 0 0] 35)).heap[x]? = w.heap[x]? := fun x hx => (blk_old _ _ _ (by simp; omega)).trans (blk_old _ _ _ hx)
  have hbA : Below w0.heap.size w0 ((w.alloc (.cells #[.int .i64 i] 3)).alloc (.cells #[.slice none 0 0] 35)) := (hb.alloc (by omega) _).alloc (by simp; omega) _
  have hsA : ((w.alloc (.cells #[.int .i64 i] 3)).alloc (.cells #[.slice none 0 0] 35)).heap.size = w.heap.size + 2 := by simp
  have n1 : ((w.alloc (.cells #[.int .i64 i] 3)).alloc (.cells #[.slice none 0 0] 35)).heap[w.heap.size]? = some (.cells #[.int .i64 i] 3) := (blk_old _ _ _ (by simp)).trans (blk_new _ _ _ rfl)
  have n2 : ((w.alloc (.cells #[.int .i64 i] 3)).alloc (.cells #[.slice none 0 0] 35)).heap[w.heap.size + 1]? = some (.cells #[.slice none 0 0] 35) := blk_new _ _ _ (by simp)
  by_cases hlt : k < cap
  · refine (post_nil_room w p i c cap l.toArray s r hp1 hc (by simp; omega)).mono ?_
    rintro e w' ⟨rfl, rfl⟩
    refine Or.inl ⟨hlt, rfl, ?_⟩
    generalize ((w.alloc (.cells #[.int .i64 i] 3)).alloc (.cells #[.slice none 0 0] 35)) = W at *
    have hne : ∀ x, x ≠ c → (W.setChan c cap (l.toArray.push (postOf w.heap.size)) false (s + 1) r false).heap[x]? = W.heap[x]? := fun x hx => blk_chan_ne _ _ _ _ _ _ _ _ _ hx
    have hold : ∀ x, x < w.heap.size → x ≠ c → (W.setChan c cap (l.toArray.push (postOf w.heap.size)) false (s + 1) r false).heap[x]? = w.heap[x]? := fun x h1 h2 => (hne x h2).trans (hA x h1)
    refine ⟨l ++ [postOf w.heap.size], s + 1, r, ?_, ?_, ?_, ?_, ?_, ?_, ?_, ?_, ?_⟩
    · rw [Conc.heap_setChan _ _ _ _ _ _ _ _ (by omega)]; simp
    · simp; omega
    · omega
    · intro e he
      rcases List.mem_append.1 he with he | he
      · exact (hl e he).kept hold ⟨_, _, _, _, _, _, hc⟩
      · simp at he
        subst he
        exact ⟨w.heap.size, i, rfl, by omega, (World.cell?_of_block (a := ⟨w.heap.size, 0, none⟩) (hne w.heap.size (by omega))).trans (cell_blk n1 0 rfl), (World.cell?_of_block (a := ⟨w.heap.size + 1, 0, none⟩) (hne (w.heap.size + 1) (by omega))).trans (cell_blk n2 0 rfl)⟩
    · exact (World.cell?_of_block (a := ⟨p, 0, none⟩) (hold p hlp hpc)).trans hp0
    · exact (World.cell?_of_block (a := ⟨p, 1, none⟩) (hold p hlp hpc)).trans hp1
    · exact (World.cell?_of_block (a := ⟨d, 2, none⟩) (hold d hld hdc)).trans hd2
    · exact (hold m hlm hmc).trans hm
    · exact Conc.below_setChan hbA hB _ _ _ _ _ _
  · refine (post_nil_full w p i c cap l.toArray s r hp1 hc (by simp; omega)).mono ?_
    rintro e w' ⟨rfl, rfl⟩
    refine Or.inr ⟨by omega, rfl, ?_⟩
    exact ⟨l, s, r, (hA c hlc).trans hc, hk, by omega, fun e he => (hl e he).kept (c := c) (fun x h1 _ => hA x h1) ⟨_, _, _, _, _, _, hc⟩, (World.cell?_of_block (a := ⟨p, 0, none⟩) (hA p hlp)).trans hp0, (World.cell?_of_block (a := ⟨p, 1, none⟩) (hA p hlp)).trans hp1,
      (World.cell?_of_block (a := ⟨d, 2, none⟩) (hA d hld)).trans hd2, (hA m hlm).trans hm, hbA⟩

/-- What holds of the entries that wait while 'FeedRoom' pumps. -/
def roomS (c : Nat) (w7 : World) (l : List Value) (w' : World) : Prop := (∀ e ∈ l, RoomEntry w7 e) ∧ ∀ k, k < w7.heap.size → k ≠ c → w'.heap[k]? = w7.heap[k]?

theorem room_pumps (w7 : World) (A d m c p : Nat) (hA : A ≤ w7.heap.size)
    (h2 : w7.cell? ⟨d, 2, none⟩ = some (.map (some m))) (hm : w7.heap[m]? = some (.map #[] 0)) (hcc : ∃ cap buf cl s r tm, w7.heap[c]? = some (.chan cap buf cl s r tm)) :
    Pumps A w7.heap.size d p c (roomS c w7) := by
  refine ⟨fun l w w' hS hk => ⟨hS.1, fun k h1 h2 => (hk k h1 h2).trans (hS.2 k h1 h2)⟩, fun e l w8 hS hH => ?_⟩
  obtain ⟨he, hsame⟩ := hS
  obtain ⟨_, _, _, _, _, _, hc⟩ := hcc
  have hne : ∀ (x o : Nat) v, w7.cell? ⟨x, o, none⟩ = some v → x ≠ c := by
    rintro x o v hx rfl
    simp [World.cell?, hc] at hx
  have cl : ∀ (x o : Nat) v, w7.cell? ⟨x, o, none⟩ = some v → w8.cell? ⟨x, o, none⟩ = some v := fun x o v h =>
    (World.cell?_of_block (a := ⟨x, o, none⟩) (hsame x (World.block_lt_of_cell? w7 _ h) (hne x o v h))).trans h
  obtain ⟨n, j, rfl, hj, hn, ht⟩ := he e (by simp)
  refine ⟨n, n + 1, rfl, (post1_none w8 d m n (n + 1) j (.slice none 0 0) hj (cl _ _ _ h2) ((hsame m (lt_blk hm) (by rintro rfl; rw [hm] at hc; cases hc)).trans hm) (cl _ _ _ hn) (cl _ _ _ ht)).mono ?_⟩
  rintro e w9 ⟨rfl, rfl⟩
  exact ⟨_, _, _, rfl, rfl, rfl, rfl, ⟨fun e h => he e (by simp [h]), fun k h1 h2 => (blk_old _ _ _ (by omega)).trans (hsame k h1 h2)⟩, (Below.refl _ _).alloc (by omega) _, by simp, fun k h1 _ => blk_old _ _ _ h1⟩

set_option maxRecDepth 100000 in
set_option maxHeartbeats 1000000 in
theorem room_any (w : World) (a b n : Int) (ha : -9223372036854775808 ≤ a ∧ a ≤ 9223372036854775807) (hb : -9223372036854775808 ≤ b ∧ b ≤ 9223372036854775807) (hn : -9223372036854775808 ≤ n ∧ n ≤ 9223372036854775807) :
    Calls Try.prog 3 #[.int .i64 a, .int .i64 b, .int .i64 n] w fun e w' => e = .returned (.bool true) ∧ Below w.heap.size w w' := by
  go_enter Try.func3, Try.ntmps3
  go_wp2_with fail
  refine (speaks_any w).mono ?_
  rintro e w1 ⟨rfl, hb1⟩
  have Hb1 := Lib.hid hb1; clear hb1
  by_cases h1 : a < 1 ∨ 50 < a ∨ b < 0 ∨ 100 < b
  · go_wp2_with fail
    all_goals first
      | (exfalso; omega)
      | (go_ret; exact ⟨rfl, Hb1.out⟩)
  · have q1 : ¬ a < 1 := by omega
    have q2 : ¬ 50 < a := by omega
    have q3 : ¬ b < 0 := by omega
    have q4 : ¬ 100 < b := by omega
    have hsz1 := Hb1.out.size
    go_wp2_with fail
    refine (made_nil w1).mono ?_
    rintro e w2 ⟨d, m, u, bb, rfl, hm1, hm2, hd1, hd2, hD, hM, hbel, nb, hBs⟩
    have hne_dm : d ≠ m := by rintro rfl; rw [hD] at hM; cases hM
    have HD := Lib.hid hD; have HM := Lib.hid hM; have Hbel := Lib.hid hbel
    clear hD hM hbel hBs
    have hnew := new_any w2 d a.toNat (by omega) (by omega)
    have hat : ((a.toNat : Nat) : Int) = a := by omega
    rw [hat] at hnew
    have Hnew := Lib.hid hnew; clear hnew hat
    go_wp2_with fail
    refine Hnew.out.mono ?_
    rintro e w3 ⟨rfl, hw3⟩
    have hsz3 : w3.heap.size = w2.heap.size + 2 := by rw [← hw3]; simp
    have hc3 : w3.heap[w2.heap.size]? = some (.chan a.toNat #[] false 0 0 false) := by rw [← hw3, blk_old _ _ _ (by simp)]; exact blk_new _ _ _ rfl
    have hp3 : w3.heap[w2.heap.size + 1]? = some (.cells #[.pointer (some ⟨d, 0, none⟩), .chan (some w2.heap.size)] 45) := by rw [← hw3]; exact blk_new _ _ _ (by simp)
    have hk3 : ∀ k, k < w2.heap.size → w3.heap[k]? = w2.heap[k]? := fun k hk => by rw [← hw3, blk_old _ _ _ (by simp; omega), blk_old _ _ _ hk]
    have hb3 : Below w.heap.size w w3 := by rw [← hw3]; exact ((Hb1.out.trans (Hbel.out.mono (by omega))).alloc (by omega) _).alloc (by simp; omega) _
    clear hw3
    have hat : RoomAt w w.heap.size d m (w2.heap.size + 1) w2.heap.size a.toNat 0 0 w3 := ⟨[], 0, 0, hc3, by simp, by omega, by simp, cell_blk hp3 0 rfl, cell_blk hp3 1 rfl, cell_blk ((hk3 d (by omega)).trans HD.out) 2 rfl, (hk3 m (by omega)).trans HM.out, hb3⟩
    have Hat := Lib.hid hat
    clear hat hc3 hp3 hk3 hb3 HD HM Hbel Hnew
    go_wp2_with fail
    go_loopw [10, 11] (fun k i wr => ∃ (j cnt : Int), i = .int .i64 j ∧ k = .int .i64 cnt ∧ 0 ≤ j ∧ j ≤ b ∧ 0 ≤ cnt ∧ cnt ≤ j ∧ RoomAt w w.heap.size d m (w2.heap.size + 1) w2.heap.size a.toNat j cnt wr) (fun _ i _ => (b - intOf i).toNat)
    case atStart => exact ⟨0, 0, rfl, rfl, by omega, by omega, by omega, by omega, Hat.out⟩
    case round =>
      obtain ⟨j, cnt, rfl, rfl, hj0, hjb, hc0, hcj, hat⟩ := hrel
      by_cases hlt : j < b
      · have Hcall := Lib.hid (room_post w wr d m (w2.heap.size + 1) w2.heap.size a.toNat j cnt (by omega) hat (by omega) (by omega) (by omega) (by omega))
        clear hat Hat
        go_wp2_with fail
        refine Hcall.out.mono ?_
        rintro e w4 (⟨_, rfl, hat4⟩ | ⟨_, rfl, hat4⟩)
        · have Hat4 := Lib.hid hat4; clear hat4
          go_wp2
          go_roundw
          case rel => exact ⟨j + 1, cnt + 1, by go_num, by go_num, by omega, by omega, by omega, by omega, Hat4.out⟩
          case measure => simp [intOf]; omega
        · have Hat4 := Lib.hid hat4; clear hat4
          go_wp2
          go_roundw
          case rel => exact ⟨j + 1, cnt, by go_num, by go_num, by omega, by omega, by omega, by omega, Hat4.out⟩
          case measure => simp [intOf]; omega
      · have hjb' : j = b := by omega
        subst hjb'
        obtain ⟨l, s, r, hc, hk, hkm, hl, hp0, hp1, hd2, hm, hbl⟩ := hat
        have hw9 := waiting_any wr (w2.heap.size + 1) _ _ _ _ _ hp1 hc
        have hks : ((l.toArray.size : Nat) : Int) = cnt := by simp; omega
        rw [hks] at hw9
        have hlw := lt_blk hc
        have hpw := World.block_lt_of_cell? wr _ hp0
        simp only at hpw
        have hpump := pump_any wr w.heap.size wr.heap.size d (w2.heap.size + 1) w2.heap.size a.toNat s r n hn l (by omega) (roomS w2.heap.size wr) (room_pumps wr w.heap.size d m w2.heap.size (w2.heap.size + 1) (by omega) hd2 hm ⟨_, _, _, _, _, _, hc⟩) ⟨hl, fun _ _ _ => rfl⟩ hc hp0 hp1 rfl (by omega) (by omega) (by omega) (by omega) (by omega)
        have hll : ((l.length : Nat) : Int) = cnt := by omega
        have hcase : (j < a ∧ cnt = j) ∨ (a ≤ j ∧ cnt = a) := by omega
        have Hw9 := Lib.hid hw9; have Hpump := Lib.hid hpump; have Hbl := Lib.hid hbl; have Hll := Lib.hid hll
        clear hw9 hc hl hp0 hp1 hd2 hm hbl hk hkm hks hpump hll Hat hlw hpw
        obtain ⟨a', ha'⟩ : ∃ a', a' = a := ⟨_, rfl⟩
        have Ha' := Lib.hid ha'; clear ha'
        rcases hcase with ⟨hja, rfl⟩ | ⟨hja, rfl⟩
        all_goals
          go_wp2_with fail
          refine Hw9.out.mono ?_
          rintro e w4 ⟨rfl, rfl⟩
          go_wp2_with fail
          refine Hpump.out.mono ?_
          rintro e w5 ⟨ao, k, cap', s', r', buf, rfl, hk9, hc9, hbuf, hp9, hb9⟩
          rw [Hll.out] at hk9
          have hq : ((buf.size : Nat) : Int) = cnt - (k : Int) := by have := Hll.out; omega
          have hw2 := waiting_any w5 (w2.heap.size + 1) _ _ _ _ _ hp9 hc9
          rw [hq] at hw2
          have Hw2 := Lib.hid hw2
          have hbl5 : Below w.heap.size w w5 := Hbl.out.trans hb9
          have Hbl5 := Lib.hid hbl5; have Hhq := Lib.hid hq
          have hend : Calls Try.prog 10 #[.pointer (some ⟨w2.heap.size + 1, 0, none⟩), .int .i64 1] w5 fun e w' => ((cnt - (k : Int) < a' ∧ e = .returned (.int .i64 0)) ∨ (a' ≤ cnt - (k : Int) ∧ e = .returned (.int .i64 270))) ∧ Below w.heap.size w w' := by
            have hs5 := hbl5.size
            have ha' := Ha'.out
            by_cases hr : ((buf.size : Nat) : Int) < a'
            · refine (end_room w5 _ 1 _ _ _ _ _ hp9 hc9 (by omega)).mono ?_
              rintro e w' ⟨rfl, v, rfl⟩
              exact ⟨Or.inl ⟨by omega, rfl⟩, Conc.below_setChan (hbl5.alloc (by omega) _) (by omega) _ _ _ _ _ _⟩
            · refine (end_full w5 _ 1 _ _ _ _ _ hp9 hc9 (by omega)).mono ?_
              rintro e w' ⟨rfl, rfl⟩
              exact ⟨Or.inr ⟨by omega, rfl⟩, hbl5.alloc (by omega) _⟩
          have Hend := Lib.hid hend
          clear hend
          have hcase2 : (n < 0 ∧ k = 0) ∨ (0 ≤ n ∧ n < cnt ∧ n = (k : Int)) ∨ (cnt ≤ n ∧ cnt = (k : Int)) := by omega
          clear hq hw2 hbl5 hc9 hp9 hb9 hk9 hbuf Hpump Hw9 Hbl
          rcases hcase2 with ⟨hn0, rfl⟩ | ⟨hn0, hn1, rfl⟩ | ⟨hn0, rfl⟩
          all_goals
            go_wp2_with fail
            all_goals try (exfalso; omega)
            all_goals
              refine Hw2.out.mono ?_
              rintro e w6 ⟨rfl, rfl⟩
              go_wp2_with fail
              all_goals try (exfalso; omega)
              all_goals
                refine Hend.out.mono ?_
                rintro e w7 ⟨hcc, hbb⟩
                have ha' := Ha'.out
                rcases hcc with ⟨hlt1, rfl⟩ | ⟨hlt1, rfl⟩
                all_goals
                  subst ha'
                  have Hbb := Lib.hid hbb; clear hbb
                  go_wp2
                  all_goals try (exfalso; omega)
                  all_goals
                    go_ret
                    refine ⟨?_, Hbb.out⟩
                    first
                      | rfl
                      | (have hpos : 0 < a' := by omega
                         show Ending.returned (.bool (decide (0 < a'))) = _
                         rw [decide_eq_true hpos])
                      | (have hpos : 0 < k := by omega
                         show Ending.returned (.bool (decide (0 < k))) = _
                         rw [decide_eq_true hpos])
end Go.Proofs.Ytepmapehopgiaaa
