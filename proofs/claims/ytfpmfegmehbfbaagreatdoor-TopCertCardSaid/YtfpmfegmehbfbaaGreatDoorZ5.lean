/- Parts of the proofs, put together: HaPut, HaBytes, SiB. -/
import Derived.Deep.LoopGhost
import Derived.Outline
import Derived.Test.YtfpmfegmehbfbaaGreatDoorZ3
import Derived.Test.YtfpmfegmehbfbaaGreatDoorZ4
/- The hash, walked: put, Bytes. -/
namespace Go.Proofs.YtfpmfegmehbfbaaGreatDoor
open Go.RowKit

/-- Bytes as cells; words as cells. -/
def bv (l : List Nat) : List Value := l.map fun x : Nat => .int .u8 (x : Int)
def uv (l : List Nat) : List Value := l.map fun x : Nat => .int .u64 (x : Int)
theorem bv_length (l : List Nat) : (bv l).length = l.length := by simp [bv]
theorem bv_append (l m : List Nat) : bv (l ++ m) = bv l ++ bv m := by simp [bv]
theorem uv_append (l m : List Nat) : uv (l ++ m) = uv l ++ uv m := by simp [uv]
theorem bv_one (l : List Nat) : ∀ u ∈ bv l, u.oneCell' = true := by
  intro u hu
  simp only [bv, List.mem_map] at hu
  obtain ⟨x, _, rfl⟩ := hu
  rfl

/-- The first j of a number's k lowest bytes, the highest first. -/
def beN (n k j : Nat) : List Nat := (List.range j).map fun i => n / 2 ^ (8 * (k - 1 - i)) % 256
theorem beN_succ (n k j : Nat) : beN n k (j + 1) = beN n k j ++ [n / 2 ^ (8 * (k - 1 - j)) % 256] := by simp [beN, List.range_succ]
theorem beN_length (n k j : Nat) : (beN n k j).length = j := by simp [beN]
def be (n k : Nat) : List Nat := beN n k k

theorem Tryz.infoU8 : (Tryz.prog.info? 5).map (fun i => (i.zero, i.size, i.bytes)) = some (some (.int .u8 0), 1, 1) := by kernel_rfl

theorem own_ge {w : World} {base : Nat} {e : TypeId} {size n : Nat} {v : Value} {xs : List Value} (h : w.ownsRow base e size v n xs) : ∀ k, v.ownBlock = some k → base ≤ k := by
  intro k hk
  rcases h.2 with ⟨rfl, _⟩ | ⟨g, cap, cur, rfl, hb, _⟩
  · cases hk
  · simp [Value.ownBlock] at hk; omega
set_option maxRecDepth 100000 in
set_option maxHeartbeats 1000000 in
theorem put_any (base : Nat) (v : Value) (l : List Nat) (n k : Nat) (hk : k ≤ 8) (w : World) (hown : w.ownsRow base 5 1 v l.length (bv l)) (hbase : base ≤ w.heap.size) (hl : l.length ≤ 1099511627776) :
    Calls Tryz.prog 142 #[v, .int .u64 n, .int .i64 k] w fun e w' => ∃ v', e = .returned v' ∧ w'.ownsRow base 5 1 v' (l ++ be n k).length (bv (l ++ be n k)) ∧ Below base w w' := by
  obtain ⟨i0, hi, hz0, hz1, hz2⟩ := info_parts Tryz.infoU8
  have hk8 : (k : Int) ≤ 8 := by omega
  have HL := Lib.hid hl
  clear hl
  go_enter Tryz.func142, Tryz.ntmps142
  go_wp2
  go_loopg [0, 2] k (fun m s0 s2 wr => ∃ j : Nat, j + m = k ∧ s2 = .int .i64 ((k : Int) - 1 - j) ∧ wr.ownsRow base 5 1 s0 (l ++ beN n k j).length (bv (l ++ beN n k j)) ∧ Below base w wr ∧ base ≤ wr.heap.size)
  case atStart => exact ⟨0, by omega, int_congr (by omega), by simpa [beN] using hown, Below.refl _ _, hbase⟩
  case round =>
    obtain ⟨j, hj, rfl, ho, hB, hb⟩ := hrel
    by_cases h : j < k
    · obtain ⟨i, hij⟩ : ∃ i : Nat, (k : Int) - 1 - j = i := ⟨k - 1 - j, by omega⟩
      rw [hij]
      have hi7 : (i : Int) ≤ 7 := by omega
      obtain ⟨q, hq⟩ : ∃ q, q = n / 2 ^ (8 * i) := ⟨_, rfl⟩
      have k1 : (n : Int) / 2 ^ (8 * i) = (q : Int) := by rw [hq]; simp
      obtain ⟨r, hr⟩ : ∃ r, r = q % 256 := ⟨_, rfl⟩
      have k2 : IntKind.u8.wrap (q : Int) = (r : Int) := by rw [IntKind.wrap_u8, hr]; omega
      have hrb : r = n / 2 ^ (8 * (k - 1 - j)) % 256 := by rw [hr, hq]; congr 4; omega
      have HR := Lib.hid hrb
      have HJ := Lib.hid hj
      have HI := Lib.hid hij
      clear hq hr hrb hj hij hown
      have hlen : (l ++ beN n k j).length ≤ 1099511627784 := by have := HL.out; have := HJ.out; rw [List.length_append, beN_length]; omega
      have HLN := Lib.hid hlen
      have HB := Lib.hid hB
      have HH := Lib.hid hb
      clear hlen hB hb
      go_wp2_with (at_builtin; refine wpList_append_own _ rfl (.tmp 13) (.tmp 19) 22 rfl base 5 i0 (.int .u8 0) 1 1 Tryz.underlying22 hi hz0 hz1 hz2 rfl (by decide) _ _ _ rfl (ho.alloc _) ⟨wr.heap.size, 0, none⟩ 1 1 [.int .u8 (r : Int)] rfl rfl (cell_one_new _ _ _) (by simp [Value.oneCell']) (by have := HLN.out; simp only [maxLen]; omega) (by have := HLN.out; omega) (by have := HH.out; simp; omega) ?_; intro v' w1 hown1 hg1 _)
      have B1 : Hid (Below base w w1) := Lib.hid ((HB.out.alloc HH.out _).grown hg1 (by have := HH.out; simp; omega) (own_ge ho))
      have S1 : Hid (base ≤ w1.heap.size) := Lib.hid (by have := HH.out; have := hg1.size; simp at this; omega)
      have O1 : Hid (w1.ownsRow base 5 1 v' (l ++ beN n k (j + 1)).length (bv (l ++ beN n k (j + 1)))) := by
        have e : l ++ beN n k (j + 1) = (l ++ beN n k j) ++ [r] := by rw [beN_succ, List.append_assoc, HR.out]
        show World.ownsRow _ _ _ _ _ _ _
        rw [e, List.length_append, bv_append]
        exact hown1
      clear hown1 hg1 ho
      have hij := HI.out
      have hj := HJ.out
      go_wp2
      go_roundg (gk - 1)
      case measure => omega
      case rel => exact ⟨j + 1, by omega, int_congr (by omega), O1.out, B1.out, S1.out⟩
    · obtain rfl : j = k := by omega
      have O := Lib.hid ho
      have HB := Lib.hid hB
      have e : (j : Int) - 1 - j = -1 := by omega
      rw [e]
      clear ho hB hj hown hi hz0 hz1 hz2
      go_wp2
      go_ret
      exact ⟨_, rfl, O.out, HB.out⟩
end Go.Proofs.YtfpmfegmehbfbaaGreatDoor

/- The hash, walked: Bytes. -/
namespace Go.Proofs.YtfpmfegmehbfbaaGreatDoor
open Go.RowKit

theorem be_length (n k : Nat) : (be n k).length = k := beN_length n k k
end Go.Proofs.YtfpmfegmehbfbaaGreatDoor

/- Eight bytes of a number (sign.bytes, greatsealref04.Eight), walked. -/
namespace Go.Proofs.YtfpmfegmehbfbaaGreatDoor
set_option linter.unusedVariables false
set_option linter.unusedSimpArgs false
open Go.RowKit

theorem blk_reads {W : World} {g : Nat} {T : TypeId} {cs : Array Value} (h : Blk W g T cs) : Reads W W.heap.size 1 (some ⟨g, 0, none⟩) cs.size cs.toList := by
  refine ⟨by simp, fun _ => ⟨_, rfl, h.lt, fun j u hj => ?_⟩⟩
  have e : (Addr.mk g 0 none).add j = ⟨g, j, none⟩ := by
    unfold Addr.add
    split <;> simp_all
  rw [e, h.cell]
  simpa using hj
theorem be8 (n : Nat) : be n 8 = [n / 72057594037927936 % 256, n / 281474976710656 % 256, n / 1099511627776 % 256, n / 4294967296 % 256, n / 16777216 % 256, n / 65536 % 256, n / 256 % 256, n % 256] := by
  simp [be, beN, List.range_succ]

set_option maxRecDepth 100000 in
set_option maxHeartbeats 1000000 in
theorem sbytes_any (n : Nat) (hn : n < 18446744073709551616) (w : World) :
    Calls Tryz.prog 106 #[.int .u64 n] w fun e w' => ∃ A, e = .returned (.slice A 8 8) ∧ Reads w' w'.heap.size 1 A 8 (bv (be n 8)) ∧ Ext w w' := by
  rw [be8, show n / 72057594037927936 % 256 = n / 72057594037927936 by omega]
  go_enter Tryz.func106, Tryz.ntmps106
  go_wp2
  refine wp_loop_rounds 9 ?_
  rw [rounds_succ]
  go_wp2
  rw [rounds_succ]
  go_wp2
  rw [rounds_succ]
  go_wp2
  rw [rounds_succ]
  go_wp2
  rw [rounds_succ]
  go_wp2
  rw [rounds_succ]
  go_wp2
  rw [rounds_succ]
  go_wp2
  rw [rounds_succ]
  go_wp2
  rw [rounds_succ]
  go_wp2
  go_ret
  have hb := Blk.new w 198 #[.int .u8 ((n : Int) / 72057594037927936), .int .u8 ((n : Int) / 281474976710656 % 256), .int .u8 ((n : Int) / 1099511627776 % 256), .int .u8 ((n : Int) / 4294967296 % 256), .int .u8 ((n : Int) / 16777216 % 256), .int .u8 ((n : Int) / 65536 % 256), .int .u8 ((n : Int) / 256 % 256), .int .u8 ((n : Int) % 256)]
  have hr := blk_reads hb
  exact ⟨_, rfl, by simpa [bv] using hr, (Ext.refl w).alloc _⟩

end Go.Proofs.YtfpmfegmehbfbaaGreatDoor
