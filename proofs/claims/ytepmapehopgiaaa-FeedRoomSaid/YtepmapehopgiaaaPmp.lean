/- feed: 'Pump': as many of the waiting posts as there are, and as were asked for. -/
import Derived.Test.YtepmapehopgiaaaPut
namespace Go.Proofs.Ytepmapehopgiaaa
open Go.RowKit

theorem info50' : (Try.prog.info? 50).map (fun i => (i.zero, i.size, i.bytes)) = some (some (.agg #[.int .i64 0, .int .i64 0, .slice none 0 0]), 3, 40) := by kernel_rfl

/-- What the caller of Pump lays down: S is what holds of the entries that still wait; it stands while blocks from H on and the channel's are written; the call of the next entry is known. -/
structure Pumps (B H d p c : Nat) (S : List Value → World → Prop) : Prop where
  stays : ∀ l w w', S l w → (∀ k, k < H → k ≠ c → w'.heap[k]? = w.heap[k]?) → S l w'
  calls : ∀ e l w, S (e :: l) w → H ≤ w.heap.size → ∃ hb wb, e = .func (.func 16) #[] #[.pointer (some ⟨hb, 0, none⟩), .pointer (some ⟨wb, 0, none⟩)] ∧
    Calls Try.prog 16 #[.pointer (some ⟨d, 0, none⟩), .pointer (some ⟨hb, 0, none⟩), .pointer (some ⟨wb, 0, none⟩)] w fun r w' => ∃ x y z, r = .returned (.agg #[x, y, z]) ∧ x.oneCell' = true ∧ y.oneCell' = true ∧ z.oneCell' = true ∧
      S l w' ∧ Below B w w' ∧ w.heap.size ≤ w'.heap.size ∧ ∀ k, k < w.heap.size → (k = c ∨ k = p ∨ H ≤ k) → w'.heap[k]? = w.heap[k]?

structure PumpAt (w0 : World) (B H d p c cap : Nat) (n : Int) (N : Nat) (S : List Value → World → Prop) (v : Value) (w : World) : Prop where
  ex : ∃ (l : List Value) (k s r : Nat) (xs : List Value), S l w ∧ w.heap[c]? = some (.chan cap l.toArray false s r false) ∧ w.ownsRow H 50 3 v k xs ∧ k + l.length = N ∧ ((k : Int) ≤ n ∨ k = 0) ∧ w.cell? ⟨p, 0, none⟩ = some (.pointer (some ⟨d, 0, none⟩)) ∧ w.cell? ⟨p, 1, none⟩ = some (.chan (some c)) ∧ Below B w0 w ∧ H ≤ w.heap.size

def chanLen (w : World) (c : Nat) : Nat := match w.heap[c]? with
  | some (.chan _ buf _ _ _ _) => buf.size
  | _ => 0

/-- What Pump leaves. -/
structure PumpPost (B p c cap : Nat) (n : Int) (N : Nat) (w : World) (e : Ending) (w' : World) : Prop where
  ex : ∃ ao k cap' s' r' buf, e = .returned (.slice ao k cap') ∧ (k : Int) = max 0 (min n N) ∧ w'.heap[c]? = some (.chan cap buf false s' r' false) ∧ buf.size + k = N ∧ w'.cell? ⟨p, 1, none⟩ = some (.chan (some c)) ∧ Below B w w'

/-- Pump's frame between two rounds. -/
structure PumpAct (p : Nat) (n : Int) (v : Value) (a : Act) : Prop where
  ex : ∃ (t5 t6 t7 t8 t9 t10 t11 t12 t13 t14 t15 t16 t17 t18 t19 t20 t21 t22 t23 t24 t25 t26 : Value),
    a = { tmps := #[.pointer (some ⟨p, 0, none⟩), .int .i64 n, undef, undef, v, t5, t6, t7, t8, t9, t10, t11, t12, t13, t14, t15, t16, t17, t18, t19, t20, t21, t22, t23, t24, t25, t26, undef], defers := [] }

structure PumpInv (w0 : World) (B H d p c cap : Nat) (n : Int) (N : Nat) (S : List Value → World → Prop) (a : Act) (w : World) : Prop where
  ex : ∃ v, PumpAct p n v a ∧ PumpAt w0 B H d p c cap n N S v w

theorem owns_kept {w w' : World} {H : Nat} {e : TypeId} {sz n : Nat} {v : Value} {xs : List Value} (h : w.ownsRow H e sz v n xs) (hk : ∀ k, H ≤ k → k < w.heap.size → w'.heap[k]? = w.heap[k]?) : w'.ownsRow H e sz v n xs := by
  obtain ⟨hl, h2⟩ := h
  refine ⟨hl, ?_⟩
  rcases h2 with h0 | ⟨g, cap, cur, rfl, hg, hh, hr⟩
  · exact Or.inl h0
  · exact Or.inr ⟨g, cap, cur, rfl, hg, (hk g hg (lt_blk hh)).trans hh, hr⟩

theorem own_ge {w : World} {H : Nat} {e : TypeId} {sz n : Nat} {v : Value} {xs : List Value} (h : w.ownsRow H e sz v n xs) (k : Nat) (hk : v.ownBlock = some k) : H ≤ k := by
  obtain ⟨_, h2⟩ := h
  rcases h2 with ⟨rfl, _⟩ | ⟨g, cap, cur, rfl, hg, _⟩
  · simp [Value.ownBlock] at hk
  · simp [Value.ownBlock] at hk; omega

set_option maxRecDepth 100000 in
set_option maxHeartbeats 1000000 in
theorem pump_any (w : World) (B H d p c cap s r : Nat) (n : Int) (hn : -9223372036854775808 ≤ n ∧ n ≤ 9223372036854775807) (l : List Value) (hl : l.length ≤ 1000) (S : List Value → World → Prop) (hS : Pumps B H d p c S) (hl0 : S l w)
    (hc : w.heap[c]? = some (.chan cap l.toArray false s r false)) (hp0 : w.cell? ⟨p, 0, none⟩ = some (.pointer (some ⟨d, 0, none⟩))) (hp1 : w.cell? ⟨p, 1, none⟩ = some (.chan (some c))) (hH : H = w.heap.size) (hBc : B ≤ c) (_hBH : B ≤ H) (hpH : p < H) (hcH : c < H) (hpc : p ≠ c) :
    Calls Try.prog 9 #[.pointer (some ⟨p, 0, none⟩), .int .i64 n] w (PumpPost B p c cap n l.length w) := by
  have hat : PumpAt w B H d p c cap n l.length S (.slice none 0 0) w := ⟨l, 0, s, r, [], hl0, hc, ⟨rfl, Or.inl ⟨rfl, rfl⟩⟩, by simp, Or.inr rfl, hp0, hp1, Below.refl _ _, by omega⟩
  have Hat := Lib.hid hat; clear hat hc hp0 hp1 hl0 hH
  have HS := Lib.hid hS; clear hS
  refine callsN_of_wpN Try.func9 rfl ?_
  simp only [Try.ntmps9, List.size_toArray, List.length_cons, List.length_nil, Nat.reduceAdd, Nat.reduceSub, Array.replicate_succ, Array.replicate_zero, List.push_toArray, List.append_toArray, List.cons_append, List.nil_append]
  refine wpN_seq_wp ?_
  go_wp2
  refine wpN_scope ?_
  refine wpN_seq_wp ?_
  refine wp_label ?_
  refine wpN_seq ?_
  refine wpN_block ?_
  refine wpN_loop (PumpInv w B H d p c cap n l.length S) (fun _ w' => chanLen w' c) ?_ ?_
  · exact ⟨_, ⟨_, _, _, _, _, _, _, _, _, _, _, _, _, _, _, _, _, _, _, _, _, _, rfl⟩, Hat.out⟩
  intro a w1 hI
  obtain ⟨v, ⟨t5, t6, t7, t8, t9, t10, t11, t12, t13, t14, t15, t16, t17, t18, t19, t20, t21, t22, t23, t24, t25, t26, rfl⟩, hP⟩ := hI
  obtain ⟨l1, k, s1, r1, xs, hS1, hc1, hown, hk1, hk2, hq0, hq1, hb1, hs1⟩ := hP
  have hv : ∃ ao cp, v = .slice ao k cp := by
    obtain ⟨_, h2⟩ := hown
    rcases h2 with ⟨rfl, h0⟩ | ⟨g, cp, cur, rfl, _⟩
    · exact ⟨none, 0, by rw [h0]⟩
    · exact ⟨_, _, rfl⟩
  obtain ⟨ao, cp, rfl⟩ := hv
  have HS1 := Lib.hid hS1; have Hown := Lib.hid hown; have Hb1 := Lib.hid hb1; have Hc1 := Lib.hid hc1; have Hk2 := Lib.hid hk2
  clear hS1 hown hb1 hc1 hk2
  refine wpN_seq ?_
  refine wpN_seq_wp ?_
  go_wp2
  by_cases hlt : (k : Int) < n
  · refine wpN_cond (t := true) ?_ ?_
    · simp [Act.eval, hlt]
    refine wpN_of_wp ?_
    refine wp_skip ?_
    refine wpN_block ?_
    refine wpN_seq_wp ?_
    go_wp2
    cases l1 with
    | nil =>
      refine wpN_seq ?_
      refine wpN_comm (cases := #[Conc.rcase c (.nilFunc)]) (w1 := w1) rfl (by simp [go_sem, execOp, Conc.rcase, Act.eval]) (fun fr cs es h => Conc.step_lone_select_default h Hc1.out) ?_
      go_wp2
      refine wpN_of_wp ?_
      go_wp2
      refine wpN_of_wp ?_
      go_wp2
      go_ret
      exact ⟨ao, k, cp, s1, r1, #[], rfl, by have := Hk2.out; simp at hk1; omega, Hc1.out, by simpa using hk1, hq1, Hb1.out⟩
    | cons e1 l2 =>
      have hsz2 : (w1.setChan c cap l2.toArray false s1 (r1 + 1) false).heap.size = w1.heap.size := Conc.size_setChan _ _ _ _ _ _ _ _
      have hne2 : ∀ k, k ≠ c → (w1.setChan c cap l2.toArray false s1 (r1 + 1) false).heap[k]? = w1.heap[k]? := fun k hk => blk_chan_ne _ _ _ _ _ _ _ _ _ hk
      have hc2 : (w1.setChan c cap l2.toArray false s1 (r1 + 1) false).heap[c]? = some (.chan cap l2.toArray false s1 (r1 + 1) false) := Conc.heap_setChan _ _ _ _ _ _ _ _ (by omega)
      have hS2 : S (e1 :: l2) (w1.setChan c cap l2.toArray false s1 (r1 + 1) false) := HS.out.stays _ _ _ HS1.out (fun k _ h2 => hne2 k h2)
      have hp2 : (w1.setChan c cap l2.toArray false s1 (r1 + 1) false).heap[p]? = w1.heap[p]? := hne2 p hpc
      have hq20 : (w1.setChan c cap l2.toArray false s1 (r1 + 1) false).cell? ⟨p, 0, none⟩ = some (.pointer (some ⟨d, 0, none⟩)) := (World.cell?_of_block (a := ⟨p, 0, none⟩) hp2).trans hq0
      have hq21 : (w1.setChan c cap l2.toArray false s1 (r1 + 1) false).cell? ⟨p, 1, none⟩ = some (.chan (some c)) := (World.cell?_of_block (a := ⟨p, 1, none⟩) hp2).trans hq1
      have hown2 : (w1.setChan c cap l2.toArray false s1 (r1 + 1) false).ownsRow H 50 3 (.slice ao k cp) k xs := owns_kept Hown.out (fun k h1 _ => hne2 k (by omega))
      have hb2 : Below B w (w1.setChan c cap l2.toArray false s1 (r1 + 1) false) := Conc.below_setChan Hb1.out hBc _ _ _ _ _ _
      obtain ⟨hb, wb, rfl, hcall⟩ := HS.out.calls e1 l2 _ hS2 (by omega)
      have Hcall := Lib.hid hcall; have Hown2 := Lib.hid hown2; have Hb2 := Lib.hid hb2; have Hc2 := Lib.hid hc2; have Hp2 := Lib.hid hp2; have Hq21 := Lib.hid hq21
      clear hcall hown2 hb2 hc2 hp2 hq21 hq1 hne2 hS2
      refine wpN_seq ?_
      refine wpN_comm (cases := #[Conc.rcase c (.nilFunc)]) (w1 := w1) rfl (by simp [go_sem, execOp, Conc.rcase, Act.eval]) (fun fr cs es h => Conc.step_lone_select_recv_buf h Hc1.out (by simp)) ?_
      go_wp2
      refine wpN_of_wp ?_
      go_wp2_with fail
      refine Hcall.out.mono ?_
      rintro e w3 ⟨x, y, z, rfl, hx, hy, hz, hS3, hb3, hsz3, hk3⟩
      rw [hsz2] at hsz3 hk3
      have hown3 : w3.ownsRow H 50 3 (.slice ao k cp) k xs := owns_kept Hown2.out (fun k h1 h2 => hk3 k (by omega) (Or.inr (Or.inr h1)))
      have hc3 : w3.heap[c]? = some (.chan cap l2.toArray false s1 (r1 + 1) false) := (hk3 c (by omega) (Or.inl rfl)).trans Hc2.out
      have hp3 : w3.heap[p]? = (w1.setChan c cap l2.toArray false s1 (r1 + 1) false).heap[p]? := hk3 p (by omega) (Or.inr (Or.inl rfl))
      have hq30 : w3.cell? ⟨p, 0, none⟩ = some (.pointer (some ⟨d, 0, none⟩)) := (World.cell?_of_block (a := ⟨p, 0, none⟩) hp3).trans hq20
      have hq31 : w3.cell? ⟨p, 1, none⟩ = some (.chan (some c)) := (World.cell?_of_block (a := ⟨p, 1, none⟩) hp3).trans Hq21.out
      have hbl3 : Below B w w3 := Hb2.out.trans hb3
      have hB4 : Below B w (w3.alloc (.cells #[x, y, z] 50)) := hbl3.alloc (by omega) _
      have hown4 : (w3.alloc (.cells #[x, y, z] 50)).ownsRow H 50 3 (.slice ao k cp) k xs := owns_kept hown3 (fun k _ h2 => blk_old _ _ _ h2)
      have hnew4 : (w3.alloc (.cells #[x, y, z] 50)).heap[w3.heap.size]? = some (.cells #[x, y, z] 50) := blk_new _ _ _ rfl
      have hcells : ∀ (j : Nat) u, [x, y, z][j]? = some u → (w3.alloc (.cells #[x, y, z] 50)).cell? ((⟨w3.heap.size, 0, none⟩ : Addr).add j) = some u := by
        intro j u hj
        rw [addr_add, Nat.zero_add]
        exact cell_blk hnew4 j (by simpa using hj)
      have hone : ∀ u ∈ [x, y, z], u.oneCell' = true := by
        intro u hu
        simp at hu
        rcases hu with rfl | rfl | rfl <;> assumption
      have HS3 := Lib.hid hS3; have Hc3 := Lib.hid hc3; have Hq30 := Lib.hid hq30; have Hq31 := Lib.hid hq31; have HB4 := Lib.hid hB4; have Hown4 := Lib.hid hown4; have Hcells := Lib.hid hcells; have Hone := Lib.hid hone
      clear hS3 hc3 hq30 hq31 hB4 hown4 hcells hone hown3 hp3 hbl3 hnew4 hk3 hb3 hx hy hz hq20 hq0
      obtain ⟨i0, hi, hz0, hz1, hz2⟩ := info_parts info50'
      have Hi := Lib.hid hi; have H0 := Lib.hid hz0; have H1 := Lib.hid hz1; have H2 := Lib.hid hz2
      clear hi hz0 hz1 hz2
      have hk1' : k + l2.length + 1 = l.length := by simp at hk1; omega
      go_wp2_with (at_builtin; refine wpList_append_own_at _ rfl _ _ 31 rfl H 50 i0 _ 3 40 Try.underlying31 Hi.out H0.out H1.out H2.out rfl (by decide) (.slice ao k cp) k xs rfl Hown4.out ⟨w3.heap.size, 0, none⟩ 1 1 [x, y, z] rfl rfl Hcells.out Hone.out (by unfold maxLen; omega) (by omega) (by simp; omega) ?_; intro v' w5 hown5 hgr hnil hat)
      have hkeep : ∀ k, k < H → w5.heap[k]? = w3.heap[k]? := fun j hj => (hgr.block j (by simp; omega) (fun h => by have := own_ge Hown4.out j h.symm; omega)).trans (blk_old _ _ _ (by omega))
      have hc5 : w5.heap[c]? = some (.chan cap l2.toArray false s1 (r1 + 1) false) := (hkeep c hcH).trans Hc3.out
      refine ⟨⟨v', ⟨_, _, _, _, _, _, _, _, _, _, _, _, _, _, _, _, _, _, _, _, _, _, rfl⟩, ⟨l2, k + 1, s1, r1 + 1, _, HS.out.stays _ _ _ HS3.out (fun j hj _ => hkeep j hj), hc5, hown5, by omega, Or.inl (by omega), (World.cell?_of_block (a := ⟨p, 0, none⟩) (hkeep p hpH)).trans Hq30.out, (World.cell?_of_block (a := ⟨p, 1, none⟩) (hkeep p hpH)).trans Hq31.out, HB4.out.grown hgr (by simp; omega) (fun j hj => by have := own_ge Hown4.out j hj; omega), by have := hgr.size; simp at this; omega⟩⟩, ?_⟩
      simp [chanLen, hc5, Hc1.out]
  · refine wpN_cond (t := false) ?_ ?_
    · simp [Act.eval, hlt]
    refine wpN_of_wp ?_
    go_wp2
    refine wpN_of_wp ?_
    go_wp2
    go_ret
    exact ⟨ao, k, cp, s1, r1, l1.toArray, rfl, by have := Hk2.out; omega, Hc1.out, by simp; omega, hq1, Hb1.out⟩
end Go.Proofs.Ytepmapehopgiaaa
