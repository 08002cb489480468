/- The hash, walked: Bytes. -/
import Derived.Test.YtckfifghipkedaaHaPut
namespace Go.Proofs.Ytckfifghipkedaa
open Go.RowKit

def bytes2 (a b : Nat) : List Nat := be a 8 ++ be b 8
theorem be_length (n k : Nat) : (be n k).length = k := beN_length n k k
theorem bytes2_length (a b : Nat) : (bytes2 a b).length = 16 := by rw [bytes2, List.length_append, be_length, be_length]

set_option maxRecDepth 100000 in
theorem bytes_any (a b : Nat) (w : World) :
    Calls Try.prog 25 #[.agg #[.int .u64 a, .int .u64 b]] w fun e w' => ∃ v, e = .returned v ∧ w'.ownsRow w.heap.size 5 1 v 16 (bv (bytes2 a b)) ∧ Ext w w' := by
  have i0 : ∀ w : World, (Instr.index 29 (.agg #[.int .u64 a, .int .u64 b]) (.int .i64 0)).run Try.prog w = .ok (.int .u64 a) w := fun _ => by kernel_rfl
  have i1 : ∀ w : World, (Instr.index 29 (.agg #[.int .u64 a, .int .u64 b]) (.int .i64 1)).run Try.prog w = .ok (.int .u64 b) w := fun _ => by kernel_rfl
  go_enter Try.func25, Try.ntmps25
  have p1 := put_any w.heap.size (.slice none 0 0) [] a 8 (by decide) (w.alloc (.cells #[.int .u64 a, .int .u64 b] 29)) (World.ownsRow_nil _ _ _ _) (by simp) (by simp)
  have p2 := fun v W h1 h2 => put_any w.heap.size v (be a 8) b 8 (by decide) W h1 h2 (by rw [be_length]; decide)
  go_wp2
  refine wp_loop_rounds 3 ?_
  rw [rounds_succ]
  go_wp2_with (go_at_call 40; refine p1.mono ?_; clear p1; rintro e w1 ⟨v1, rfl, o1, b1⟩)
  rw [rounds_succ]
  have s1 : w.heap.size ≤ w1.heap.size := by have := b1.size; simp at this; omega
  go_wp2_with (go_at_call 40; refine (p2 v1 w1 o1 s1).mono ?_; clear p2; rintro e w2 ⟨v2, rfl, o2, b2⟩)
  rw [rounds_succ]
  go_wp2
  go_ret
  refine ⟨_, rfl, ?_, ?_⟩
  · have := o2
    rw [← bytes2, bytes2_length] at this
    exact this
  · exact Ext.of (((Below.refl _ w).alloc (Nat.le_refl _) _).trans b1 |>.trans b2)
end Go.Proofs.Ytckfifghipkedaa
