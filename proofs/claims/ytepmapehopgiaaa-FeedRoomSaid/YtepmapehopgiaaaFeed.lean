/- The feed's small functions: 'put' (a select with a default: room, no room), 'New', 'End', 'Waiting'. The channel's block is known whole. -/
import Derived.Test.YtepmapehopgiaaaBase
namespace Go.Proofs.Ytepmapehopgiaaa
open Go.RowKit

set_option maxHeartbeats 400000 in
theorem put_room (w : World) (p : Nat) (v : Value) (c cap : Nat) (buf : Array Value) (s r : Nat)
    (h0 : w.cell? ⟨p, 1, none⟩ = some (.chan (some c))) (hc : w.heap[c]? = some (.chan cap buf false s r false)) (hroom : buf.size < cap) :
    Calls Try.prog 15 #[.pointer (some ⟨p, 0, none⟩), v] w fun e w' => e = .returned (.int .i64 0) ∧ w.setChan c cap (buf.push v) false (s + 1) r false = w' := by
  refine callsN_of_wpN Try.func15 rfl ?_
  simp only [Try.ntmps15, List.size_toArray, List.length_cons, List.length_nil, Nat.reduceAdd, Nat.reduceSub, Array.replicate_succ, Array.replicate_zero, List.push_toArray, List.append_toArray, List.cons_append, List.nil_append]
  refine wpN_seq_wp ?_
  go_wp2
  refine wpN_seq ?_
  refine wpN_seq_wp ?_
  go_wp2
  refine wpN_of_wp ?_
  go_wp2
  refine wpN_seq ?_
  refine wpN_comm (cases := #[Conc.scase c v (.nilFunc)]) (w1 := w) rfl (by simp [go_sem, execOp, Conc.scase, Act.eval]) (fun fr cs es h => Conc.step_lone_select_send_room h hc hroom) ?_
  go_wp2
  refine wpN_of_wp ?_
  go_wp2
  go_ret
  exact ⟨rfl, rfl⟩

set_option maxHeartbeats 400000 in
theorem put_full (w : World) (p : Nat) (v : Value) (c cap : Nat) (buf : Array Value) (s r : Nat)
    (h0 : w.cell? ⟨p, 1, none⟩ = some (.chan (some c))) (hc : w.heap[c]? = some (.chan cap buf false s r false)) (hroom : cap ≤ buf.size) :
    Calls Try.prog 15 #[.pointer (some ⟨p, 0, none⟩), v] w fun e w' => e = .returned (.int .i64 270) ∧ w = w' := by
  refine callsN_of_wpN Try.func15 rfl ?_
  simp only [Try.ntmps15, List.size_toArray, List.length_cons, List.length_nil, Nat.reduceAdd, Nat.reduceSub, Array.replicate_succ, Array.replicate_zero, List.push_toArray, List.append_toArray, List.cons_append, List.nil_append]
  refine wpN_seq_wp ?_
  go_wp2
  refine wpN_seq ?_
  refine wpN_seq_wp ?_
  go_wp2
  refine wpN_of_wp ?_
  go_wp2
  refine wpN_seq ?_
  refine wpN_comm (cases := #[Conc.scase c v (.nilFunc)]) (w1 := w) rfl (by simp [go_sem, execOp, Conc.scase, Act.eval]) (fun fr cs es h => Conc.step_lone_select_send_full h hc hroom) ?_
  go_wp2
  refine wpN_of_wp ?_
  go_wp2
  go_ret
  exact ⟨rfl, rfl⟩

set_option maxHeartbeats 400000 in
theorem waiting_any (w : World) (p : Nat) (c cap : Nat) (buf : Array Value) (s r : Nat)
    (h0 : w.cell? ⟨p, 1, none⟩ = some (.chan (some c))) (hc : w.heap[c]? = some (.chan cap buf false s r false)) :
    Calls Try.prog 8 #[.pointer (some ⟨p, 0, none⟩)] w fun e w' => e = .returned (.int .i64 buf.size) ∧ w = w' := by
  have hl := fun ty => Conc.run_len_chan (P := Try.prog) 43 ty Try.underlying43 hc
  go_enter Try.func8, Try.ntmps8
  go_wp2
  go_ret
  exact ⟨rfl, rfl⟩

theorem info54 : (Try.prog.info? 54).map (fun i => (i.zero, i.size, i.bytes)) = some (some (.nilFunc), 1, 8) := by kernel_rfl

set_option maxHeartbeats 400000 in
theorem new_any (w : World) (d : Nat) (n : Nat) (h1 : 1 ≤ n) (h2 : n ≤ 1000) :
    Calls Try.prog 6 #[.pointer (some ⟨d, 0, none⟩), .int .i64 n] w fun e w' => e = .returned (.tuple #[.pointer (some ⟨w.heap.size + 1, 0, none⟩), .int .i64 0]) ∧
      (w.alloc (.chan n #[] false 0 0 false)).alloc (.cells #[.pointer (some ⟨d, 0, none⟩), .chan (some w.heap.size)] 45) = w' := by
  obtain ⟨i0, hi, hz0, hz1, hz2⟩ := info_parts info54
  have hm := fun (w : World) => Conc.run_makeChan (P := Try.prog) (w := w) (t := 43) Try.underlying43 hi .i64 n (by omega) (by rw [hz2]; omega)
  clear hi hz0 hz1 hz2
  have a1 : ¬ ((n : Int) < 1) := by omega
  have a2 : ¬ (1000 < (n : Int)) := by omega
  go_enter Try.func6, Try.ntmps6
  go_wp2
  go_ret2
  exact ⟨rfl, rfl⟩
end Go.Proofs.Ytepmapehopgiaaa
