/- Eight bytes of a number (sign.bytes, greatsealref04.Eight), walked. -/
import Derived.Test.YtbomfnlipbdigaaHaPut
namespace Go.Proofs.Ytbomfnlipbdigaa
set_option linter.unusedVariables false
open Go.RowKit

theorem blk_reads {W : World} {g : Nat} {T : TypeId} {cs : Array Value} (h : Blk W g T cs) : Reads W W.heap.size 1 (some ⟨g, 0, none⟩) cs.size cs.toList := by
  refine ⟨by simp, fun _ => ⟨_, rfl, h.lt, fun j u hj => ?_⟩⟩
  have e : (Addr.mk g 0 none).add j = ⟨g, j, none⟩ := by
    unfold Addr.add
    split <;> simp_all
  rw [e, h.cell]
  simpa using hj
theorem be8 (n : Nat) : be n 8 = [n / 72057594037927936 % 256, n / 281474976710656 % 256, n / 1099511627776 % 256, n / 4294967296 % 256, n / 16777216 % 256, n / 65536 % 256, n / 256 % 256, n % 256] := by
  simp [be, beN, List.range_succ]

set_option maxRecDepth 100000 in
set_option maxHeartbeats 1000000 in
theorem sbytes_any (n : Nat) (hn : n < 18446744073709551616) (w : World) :
    Calls Try.prog 40 #[.int .u64 n] w fun e w' => ∃ A, e = .returned (.slice A 8 8) ∧ Reads w' w'.heap.size 1 A 8 (bv (be n 8)) ∧ Ext w w' := by
  rw [be8, show n / 72057594037927936 % 256 = n / 72057594037927936 by omega]
  go_enter Try.func40, Try.ntmps40
  go_wp2
  refine wp_loop_rounds 9 ?_
  rw [rounds_succ]
  go_wp2
  rw [rounds_succ]
  go_wp2
  rw [rounds_succ]
  go_wp2
  rw [rounds_succ]
  go_wp2
  rw [rounds_succ]
  go_wp2
  rw [rounds_succ]
  go_wp2
  rw [rounds_succ]
  go_wp2
  rw [rounds_succ]
  go_wp2
  rw [rounds_succ]
  go_wp2
  go_ret
  have hb := Blk.new w 63 #[.int .u8 ((n : Int) / 72057594037927936), .int .u8 ((n : Int) / 281474976710656 % 256), .int .u8 ((n : Int) / 1099511627776 % 256), .int .u8 ((n : Int) / 4294967296 % 256), .int .u8 ((n : Int) / 16777216 % 256), .int .u8 ((n : Int) / 65536 % 256), .int .u8 ((n : Int) / 256 % 256), .int .u8 ((n : Int) % 256)]
  have hr := blk_reads hb
  exact ⟨_, rfl, by simpa [bv] using hr, (Ext.refl w).alloc _⟩

set_option maxRecDepth 100000 in
set_option maxHeartbeats 1000000 in
theorem Eight4_any (n : Nat) (hn : n < 18446744073709551616) (w : World) :
    Calls Try.prog 41 #[.int .u64 n] w fun e w' => ∃ A, e = .returned (.slice A 8 8) ∧ Reads w' w'.heap.size 1 A 8 (bv (be n 8)) ∧ Ext w w' := by
  rw [be8]
  have mk : ∀ w, (Instr.makeSlice 22 (.int .i64 8) (.int .i64 8)).run Try.prog w = .ok (.slice (some ⟨w.heap.size, 0, none⟩) 8 8) (w.alloc (.cells #[.int .u8 0, .int .u8 0, .int .u8 0, .int .u8 0, .int .u8 0, .int .u8 0, .int .u8 0, .int .u8 0] 5)) := fun w => by kernel_rfl
  go_enter Try.func41, Try.ntmps41
  go_wp2
  refine wp_loop_rounds 9 ?_
  rw [rounds_succ]
  go_wp2
  rw [rounds_succ]
  go_wp2
  rw [rounds_succ]
  go_wp2
  rw [rounds_succ]
  go_wp2
  rw [rounds_succ]
  go_wp2
  rw [rounds_succ]
  go_wp2
  rw [rounds_succ]
  go_wp2
  rw [rounds_succ]
  go_wp2
  rw [rounds_succ]
  go_wp2
  go_ret
  refine ⟨_, rfl, ?_, (Ext.refl w).alloc _⟩
  have e : bv [n / 72057594037927936 % 256, n / 281474976710656 % 256, n / 1099511627776 % 256, n / 4294967296 % 256, n / 16777216 % 256, n / 65536 % 256, n / 256 % 256, n % 256] = (#[.int .u8 ((n : Int) / 256 / 256 / 256 / 256 / 256 / 256 / 256 % 256), .int .u8 ((n : Int) / 256 / 256 / 256 / 256 / 256 / 256 % 256), .int .u8 ((n : Int) / 256 / 256 / 256 / 256 / 256 % 256), .int .u8 ((n : Int) / 256 / 256 / 256 / 256 % 256), .int .u8 ((n : Int) / 256 / 256 / 256 % 256), .int .u8 ((n : Int) / 256 / 256 % 256), .int .u8 ((n : Int) / 256 % 256), .int .u8 ((n : Int) % 256)] : Array Value).toList := by
    simp [bv]; omega
  rw [e]
  exact blk_reads (Blk.new w _ _)
end Go.Proofs.Ytbomfnlipbdigaa
