/- acho: 'add' of the first state: one node whose 256 next states are -1. -/
import Derived.Test.YtepmapehopgiaaaPen
import Derived.Deep.MidRow
import Derived.Great.BuildSlice
import Derived.Deep.RegionLaw
import Derived.BigRegion
import Derived.Deep.DrawnRows
namespace Go.Proofs.Ytepmapehopgiaaa
open Go.RowKit

/-- The cells of a node: no prefix, the next states f, fail 0, no hits. -/
def nodeCells (f : Nat → Int) : List Value := .slice none 0 0 :: ((List.range 256).map (fun i => Value.int .i64 (f i)) ++ [.int .i64 0, .slice none 0 0])
theorem nodeCells_length (f : Nat → Int) : (nodeCells f).length = 259 := by simp [nodeCells]
theorem nodeCells_next (f : Nat → Int) (i : Nat) (h : i < 256) : (nodeCells f)[1 + i]? = some (.int .i64 (f i)) := by
  rw [Nat.add_comm]
  simp only [nodeCells, List.getElem?_cons_succ]
  rw [List.getElem?_append_left (by simpa using h)]
  simp [h]
/-- A node lies at the head of block g. -/
structure NodeAt (w : World) (g : Nat) (f : Nat → Int) : Prop where
  cells : w.rangeAt g 0 (nodeCells f)
  free : ∀ j, j < 259 → w.frozen? ⟨g, j, none⟩ = false
theorem NodeAt.next {w : World} {g : Nat} {f : Nat → Int} (h : NodeAt w g f) (i : Nat) (hi : i < 256) : w.cell? ⟨g, 1 + i, none⟩ = some (.int .i64 (f i)) := by
  have := h.cells (1 + i) _ (nodeCells_next f i hi)
  rwa [Nat.zero_add] at this
theorem NodeAt.hits {w : World} {g : Nat} {f : Nat → Int} (h : NodeAt w g f) : w.cell? ⟨g, 258, none⟩ = some (.slice none 0 0) := by
  have := h.cells 258 (.slice none 0 0) (by simp [nodeCells])
  rwa [Nat.zero_add] at this
theorem NodeAt.there {w : World} {g : Nat} {f : Nat → Int} (h : NodeAt w g f) : w.there g 0 259 := by
  intro j hj
  rw [Nat.zero_add]
  refine ⟨?_, h.free j hj⟩
  have hj' : j < (nodeCells f).length := by rw [nodeCells_length]; exact hj
  have := h.cells j _ (List.getElem?_eq_getElem hj')
  rw [Nat.zero_add] at this
  rw [this]; rfl
theorem NodeAt.set {w : World} {g : Nat} {f f' : Nat → Int} (h : NodeAt w g f) (i : Nat) (hi : i < 256) (z : Int) (hf : ∀ k, k < 256 → f' k = if k = i then z else f k) :
    NodeAt (w.setCell ⟨g, 1 + i, none⟩ (.int .i64 z)) g f' := by
  refine ⟨fun j v hj => ?_, fun j hj => ?_⟩
  · rw [Nat.zero_add]
    have hjl : j < 259 := by
      have := (List.getElem?_eq_some_iff.1 hj).1
      rwa [nodeCells_length] at this
    by_cases e : j = 1 + i
    · subst e
      rw [nodeCells_next f' i hi, hf i hi, if_pos rfl] at hj
      have := h.next i hi
      rw [← hj]
      simp only [World.cell?, World.setCell, Array.getElem?_modify] at this ⊢
      cases hb : w.heap[g]? with
      | none => simp [hb] at this
      | some o =>
        cases o <;> simp [hb] at this ⊢
        rename_i cs _ _
        have hlt : 1 + i < cs.size := (Array.getElem?_eq_some_iff.1 this).1
        simp [hlt]
    · have hold : (nodeCells f)[j]? = some v := by
        rw [← hj]
        rcases Nat.lt_or_ge j 257 with h1 | h1
        · rcases j with _ | j
          · rfl
          · rw [Nat.add_comm j 1, nodeCells_next f j (by omega), nodeCells_next f' j (by omega), hf j (by omega), if_neg (by omega)]
        · obtain rfl | rfl : j = 257 ∨ j = 258 := by omega
          · simp [nodeCells]
          · simp [nodeCells]
      have h2 := h.cells j v hold
      rw [Nat.zero_add] at h2
      rw [World.cell?_setCell_other]
      · exact h2
      · intro e2; injection e2; omega
  · rw [World.frozen?_setCell]; exact h.free j hj
theorem NodeAt.of_block {w w' : World} {g : Nat} {f : Nat → Int} (h : NodeAt w g f) (hb : w'.heap[g]? = w.heap[g]?) : NodeAt w' g f :=
  ⟨fun j v hj => (World.cell?_of_block (w := w) hb).trans (h.cells j v hj), fun j hj => (World.frozen?_of_block (w := w) hb).trans (h.free j hj)⟩
theorem zc128 : Try.zeroCells128.toList = nodeCells (fun _ => 0) := by kernel_rfl
theorem zc128' : (Try.zeroCells128.setIfInBounds 0 (.slice none 0 0)).toList = nodeCells (fun _ => 0) := by
  rw [Array.toList_setIfInBounds, zc128]; rfl
theorem zc_size : Try.zeroCells128.size = 259 := by
  rw [← Array.length_toList, zc128, nodeCells_length]
theorem info128 : (Try.prog.info? 128).map (·.size) = some 259 := by kernel_rfl
theorem nodeCells_one (f : Nat → Int) : ∀ v ∈ nodeCells f, v.oneCell' = true := by
  intro v hv
  simp only [nodeCells, List.mem_cons, List.mem_append, List.mem_map, List.mem_range, List.not_mem_nil, or_false] at hv
  rcases hv with rfl | ⟨i, _, rfl⟩ | rfl | rfl <;> rfl

theorem below_setCells {B : Nat} {a : World} {b : Nat} (hb : B ≤ b) : ∀ (vs : List Value) (o : Nat) (w : World), Below B a w → Below B a (w.setCells b o vs)
  | [], _, _, h => h
  | v :: r, o, _, h => below_setCells hb r (o + 1) _ (h.setCell hb v)
theorem size_setCells (b : Nat) : ∀ (vs : List Value) (o : Nat) (w : World), (w.setCells b o vs).heap.size = w.heap.size
  | [], _, _ => rfl
  | v :: r, o, w => (size_setCells b r (o + 1) _).trans (by simp [World.setCell])
/-- A node read whole: kept closed to the walk. -/
def loadNode (p : Value) : Sem Value := Instr.loadAt 128 p
theorem load128 (p : Value) : Instr.loadAt 128 p = loadNode p := rfl
attribute [local go_sem ↓] load128
theorem run_loadNode (w : World) (b : Nat) (f : Nat → Int) (h : w.rangeAt b 0 (nodeCells f)) : (loadNode (.pointer (some ⟨b, 0, none⟩))).run Try.prog w = .ok (.agg (nodeCells f).toArray) w :=
  run_loadAt_mid (P := Try.prog) w b 0 128 (nodeCells f) _ h Try.underlying128 rfl (by rw [nodeCells_length]; exact info128)
/-- A literal of nodes: kept closed to the walk. -/
def buildNodes (len : Nat) (parts : Array (Nat × Value)) : Sem Value := Instr.buildSlice 114 len parts
theorem build114 (len : Nat) (parts : Array (Nat × Value)) : Instr.buildSlice 114 len parts = buildNodes len parts := rfl
attribute [local go_sem ↓] build114
theorem info128z : ((Try.prog.info? 128).bind (·.zero)).map (·.cells.size) = some 259 := by kernel_rfl
theorem info128b : (Try.prog.info? 128).map (·.bytes) = some 2104 := by kernel_rfl
theorem node_info : ∃ i z, Try.prog.info? 128 = some i ∧ i.zero = some z ∧ i.size = 259 ∧ i.bytes = 2104 ∧ z.cells.size = 259 := by
  have h1 := info128
  have h2 := info128z
  have h3 := info128b
  cases hie : Try.prog.info? 128 with
  | none => rw [hie] at h1; cases h1
  | some ie =>
    rw [hie] at h1 h2 h3
    simp only [Option.map_some, Option.some.injEq, Option.bind_some] at h1 h2 h3
    cases hz : ie.zero with
    | none => rw [hz] at h2; cases h2
    | some z => exact ⟨ie, z, rfl, hz, h1, h3, by simpa [hz] using h2⟩
theorem run_buildNodes (w : World) (f : Nat → Int) : (buildNodes 1 #[(0, .agg (nodeCells f).toArray)]).run Try.prog w = .ok (.slice (some ⟨w.heap.size, 0, none⟩) 1 1) (w.alloc (.cells (nodeCells f).toArray 128)) := by
  have h1 := info128
  have h2 := info128z
  cases hie : Try.prog.info? 128 with
  | none => rw [hie] at h1; cases h1
  | some ie =>
    rw [hie] at h1 h2
    simp only [Option.map_some, Option.some.injEq, Option.bind_some] at h1 h2
    cases hz : ie.zero with
    | none => rw [hz] at h2; cases h2
    | some z =>
      refine run_buildSlice w 114 128 1 _ (nodeCells f).toArray ie z Try.underlying114 hie hz (by rw [h1]; omega) (by rw [h1]; omega) ?_
      rw [h1]
      have := Great.fill_whole (s := 259) (by omega) [.agg (nodeCells f).toArray] ((Array.range (1 * 259)).map (z.cells[· % z.cells.size]!)) (by intro v hv; rw [List.mem_singleton.1 hv]; simp [Value.cells, nodeCells_length]) (by simp)
      simpa [Value.cells] using this
theorem node_of_owns {w : World} {B g cap : Nat} {f : Nat → Int} (h : w.ownsRow B 128 259 (.slice (some ⟨g, 0, none⟩) 1 cap) 1 (nodeCells f)) :
    NodeAt w g f ∧ B ≤ g ∧ g < w.heap.size ∧ 1 ≤ cap := by
  rcases h.2 with ⟨h0, _⟩ | ⟨g', cap', cur, hv, hg, hh, hc, hm, hs, ht⟩
  · cases h0
  · injection hv with e1 e2 e3
    injection e1 with e1
    injection e1 with e1
    subst e1
    subst e3
    refine ⟨⟨fun j v hj => ?_, fun j _ => free_blk hh j⟩, hg, lt_blk hh, hc⟩
    rw [Nat.zero_add]
    rw [← ht] at hj
    refine cell_blk hh j ?_
    rcases Nat.lt_or_ge j (1 * 259) with hlt | hge
    · rw [List.getElem?_take_of_lt hlt] at hj
      simpa using hj
    · rw [List.getElem?_eq_none (by simp; omega)] at hj; cases hj
set_option maxRecDepth 100000 in
set_option maxHeartbeats 1000000 in
theorem acho_add (w : World) (p B : Nat) (hp : w.heap[p]? = some (.cells #[.slice none 0 0] 116)) (hB : B ≤ p) :
    Calls Try.prog 39 #[.pointer (some ⟨p, 0, none⟩), .slice none 0 0] w fun e w' => ∃ g c, e = .returned (.int .i64 0) ∧ B ≤ g ∧ g < w'.heap.size ∧
      w'.heap[p]? = some (.cells #[.slice (some ⟨g, 0, none⟩) 1 c] 116) ∧ 1 ≤ c ∧ NodeAt w' g (fun _ => -1) ∧ Below B w w' := by
  have hplt := lt_blk hp
  have hz : (w.alloc (.cells Try.zeroCells128 128)).heap[w.heap.size]? = some (.cells Try.zeroCells128 128) := blk_new _ _ _ rfl
  have hth : (w.alloc (.cells Try.zeroCells128 128)).there w.heap.size 0 (Try.zeroCells128.setIfInBounds 0 (.slice none 0 0)).size := by
    intro j hj
    rw [Array.size_setIfInBounds] at hj
    rw [Nat.zero_add]
    exact ⟨by rw [cell_blk hz j (Array.getElem?_eq_getElem hj)]; rfl, free_blk hz j⟩
  have hone : (Try.zeroCells128.setIfInBounds 0 (.slice none 0 0)).all (·.oneCell') = true := by
    rw [Array.all_eq_true_iff_forall_mem]
    intro v hv
    exact nodeCells_one (fun _ => 0) v (by rw [← zc128']; exact Array.mem_toList_iff.2 hv)
  have hsz : (Try.prog.info? 128).map (·.size) = some (Try.zeroCells128.setIfInBounds 0 (.slice none 0 0)).size := by rw [Array.size_setIfInBounds, zc_size]; exact info128
  have hN : NodeAt ((w.alloc (.cells Try.zeroCells128 128)).setCells w.heap.size 0 (Try.zeroCells128.setIfInBounds 0 (.slice none 0 0)).toList) w.heap.size (fun _ => 0) := by
    refine ⟨?_, fun j hj => ?_⟩
    · rw [← zc128']
      exact World.rangeAt_setCells_same _ _ _ _ (by simpa using hth)
    · rw [World.frozen?_setCells]; exact free_blk hz j
  rw [Array.toList_setIfInBounds] at hN
  have Hz := Lib.hid hz; have Hth := Lib.hid hth; have Hone := Lib.hid hone; have Hsz := Lib.hid hsz; have HN := Lib.hid hN; have Hp := Lib.hid hp
  clear hz hth hone hsz hN hp
  go_enter Try.func39, Try.ntmps39
  go_wp2_with fail
  refine (clone_nil _).mono ?_
  rintro e w1 ⟨rfl, rfl⟩
  go_wp2_with (refine wpList_store_mid rfl 128 (.tmp 5) (.tmp 9) rfl w.heap.size 0 (Try.zeroCells128.setIfInBounds 0 (.slice none 0 0)) rfl rfl Hth.out Hsz.out Hone.out ?_)
  go_loopw [10] (fun i wr => ∃ k : Nat, k ≤ 256 ∧ i = .int .i64 k ∧ NodeAt wr w.heap.size (fun j => if j < k then -1 else 0) ∧ wr.heap.size = w.heap.size + 1 ∧ Below w.heap.size w wr) (fun i _ => 256 - (intOf i).toNat)
  case atStart =>
    exact ⟨0, by omega, rfl, HN.out, by rw [size_setCells]; simp, below_setCells (Nat.le_refl _) _ _ _ ((Below.refl _ _).alloc (Nat.le_refl _) _)⟩
  case round =>
    obtain ⟨k, hk, rfl, hN, hs, hbel⟩ := hrel
    by_cases hlt : k < 256
    · have hc := hN.next k hlt
      have hf := hN.free (1 + k) (by omega)
      have hN' := hN.set k hlt (-1) (f' := fun j => if j < k + 1 then -1 else 0) (by intro j hj; repeat' split; all_goals first | rfl | omega)
      have HN' := Lib.hid hN'; have Hs := Lib.hid hs; clear hN hN' hs
      go_wp2_with fail
      go_roundw
      case rel => exact ⟨k + 1, by omega, by go_num, HN'.out, by rw [World.size_setCell]; exact Hs.out, hbel.setCell (Nat.le_refl _) _⟩
      case measure => simp [intOf]; omega
    · obtain rfl : k = 256 := by omega
      have hN2 : wr.rangeAt w.heap.size 0 (nodeCells (fun _ => -1)) := by
        have h0 := hN.cells
        have e : nodeCells (fun j => if j < 256 then (-1 : Int) else 0) = nodeCells (fun _ => -1) := by
          unfold nodeCells
          rw [List.map_congr_left (g := fun _ => Value.int .i64 (-1))]
          intro i hi
          show Value.int .i64 (if i < 256 then (-1 : Int) else 0) = _
          rw [if_pos (List.mem_range.1 hi)]
        rwa [e] at h0
      have hp1 : wr.heap[p]? = some (.cells #[.slice none 0 0] 116) := (hbel.block p hplt).trans Hp.out
      have hp0 := cell_of_one hp1
      have hf0 := free_of_one hp1
      have HN2 := Lib.hid hN2; have Hp1 := Lib.hid hp1; have Hs := Lib.hid hs
      clear hN hN2 hs hp1
      have hnl := nodeCells_length (fun _ => -1)
      have hld := run_loadNode wr.drew w.heap.size (fun _ => -1) (by rw [World.rangeAt_drew]; exact HN2.out)
      have hbn := fun W => run_buildNodes W (fun _ => -1)
      obtain ⟨i0, z0, hi, hz0, hz1, hz2, hz3⟩ := node_info
      have hnews : ∀ (j : Nat) u, (nodeCells (fun _ => -1))[j]? = some u → (wr.alloc (.cells (nodeCells (fun _ => -1)).toArray 128)).drew.cell? ((⟨wr.heap.size, 0, none⟩ : Addr).add j) = some u := by
        intro j u hj
        rw [Addr.add_mid, Nat.zero_add]
        exact cell_blk (w := (wr.alloc (.cells (nodeCells (fun _ => -1)).toArray 128)).drew) (blk_new wr _ _ rfl) j (by simpa using hj)
      have Hi := Lib.hid hi; have H0 := Lib.hid hz0; have H1 := Lib.hid hz1; have H2 := Lib.hid hz2; have H3 := Lib.hid hz3; have Hnews := Lib.hid hnews
      clear hi hz0 hz1 hz2 hz3 hnews
      have hpr : p < wr.heap.size := by have := Hs.out; omega
      go_wp2_with fail
      go_region_law
        ((refine step_append_lies _ (by rfl) _ _ _ (by rfl) w.heap.size 128 i0 z0 259 2104 Try.underlying114 Hi.out H0.out H1.out H2.out H3.out (by omega) (.slice none 0 0) 0 [] (by rfl) (World.ownsRow_nil _ _ _ _)
            ⟨wr.heap.size, 0, none⟩ 1 1 (nodeCells (fun _ => -1)) (by rfl) (by rw [nodeCells_length]) Hnews.out (nodeCells_one _) (by omega) (by unfold maxLen; omega) (by omega) (by have := Hs.out; simp; omega) (wr.heap.size + 1) (by simp) ?_; intro gg cap w1 hown1 hgrow hat hltg; have hff : w1.frozen? ⟨p, 0, none⟩ = false := (hgrow.frozen_far ⟨p, 0, none⟩ (by simp; omega) (by intro h; cases h)).trans ((frozen_alloc_drew wr _ ⟨p, 0, none⟩ hpr).trans hf0); have hcc : w1.cell? ⟨p, 0, none⟩ = some (.slice none 0 0) := (hgrow.cell_far ⟨p, 0, none⟩ (by simp; omega) (by intro h; cases h)).trans ((cell_alloc_drew wr _ ⟨p, 0, none⟩ hpr).trans hp0)))
      all_goals
        have hp2 : w1.heap[p]? = some (.cells #[.slice none 0 0] 116) := (hgrow.block p (by show p < (wr.alloc _).heap.size; simp; omega) (by intro h; cases h)).trans ((blk_old wr _ p hpr).trans Hp1.out)
        simp only [Nat.zero_add, List.nil_append] at hown1
        obtain ⟨hn1, hg1, hg2, hg3⟩ := node_of_owns hown1
        have hne : gg ≠ p := by omega
        have hn2 : NodeAt (w1.setCell ⟨p, 0, none⟩ (.slice (some ⟨gg, 0, none⟩) 1 cap)) gg (fun _ => -1) := hn1.of_block (blk_set_ne _ _ _ _ hne)
        have hp3 := one_setCell (u := .slice (some ⟨gg, 0, none⟩) 1 cap) hp2
        have hp30 := cell_of_one hp3
        have hbel1 : Below B w w1 := (((hbel.mono (by omega)).alloc (by omega) _).drew).grown hgrow (by show B ≤ (wr.alloc _).heap.size; simp; omega) (by intro k hk; cases hk)
        have hbel2 := hbel1.setCell (p := ⟨p, 0, none⟩) hB (.slice (some ⟨gg, 0, none⟩) 1 cap)
        have Hn2 := Lib.hid hn2; have Hp3 := Lib.hid hp3; have Hbel2 := Lib.hid hbel2
        clear hn2 hp3 hbel2 hbel1 hown1 hgrow hat hff hcc hld hbn hnl hp0 hf0 hp2 hn1 HN2 Hp1 Hnews
        go_wp2
        go_ret
        exact ⟨gg, cap, rfl, by omega, by rw [World.size_setCell]; exact hg2, Hp3.out, hg3, Hn2.out, Hbel2.out⟩
end Go.Proofs.Ytepmapehopgiaaa
