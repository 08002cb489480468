/- The document's hash, walked: number, Of; and Of of the hash. -/
import Derived.Test.YtbomfnlipbdigaaHaRefB
namespace Go.Proofs.Ytbomfnlipbdigaa
set_option linter.unusedVariables false
open Go.RowKit Go.Shelf

theorem num8_bound (l : List Nat) (h : ∀ x ∈ l, x < 256) (k : Nat) (hk : k ≤ 7) : num8 (l.take k) < 72057594037927936 := by
  have h1 := num8_lt (l.take k) fun x hx => h x (List.mem_of_mem_take hx)
  have h2 : (l.take k).length ≤ 7 := by rw [List.length_take]; omega
  have h3 : 256 ^ (l.take k).length ≤ 256 ^ 7 := Nat.pow_le_pow_right (by decide) h2
  have h4 : (256 : Nat) ^ 7 = 72057594037927936 := by decide
  omega
theorem num8_64 (l : List Nat) (h : ∀ x ∈ l, x < 256) (hl : l.length ≤ 8) : num8 l < 18446744073709551616 := by
  have h1 := num8_lt l h
  have h3 : 256 ^ l.length ≤ 256 ^ 8 := Nat.pow_le_pow_right (by decide) hl
  have h4 : (256 : Nat) ^ 8 = 18446744073709551616 := by decide
  omega

/-- The hash that bytes are, and why there is none. -/
def ofS (l : List Nat) : (Nat × Nat) × Nat :=
  if l.length < 16 then ((0, 0), 70) else if 16 < l.length ∨ bP ≤ num8 (l.take 8) ∨ bP ≤ num8 ((l.drop 8).take 8) then ((0, 0), 71) else ((num8 (l.take 8), num8 ((l.drop 8).take 8)), 0)
def ofV (r : (Nat × Nat) × Nat) : Value := .tuple #[.agg #[.int .u64 (r.1.1 : Int), .int .u64 (r.1.2 : Int)], .int .i64 (r.2 : Int)]

theorem slice_h8 (A : Option Addr) (n c m : Nat) (hm : m ≤ c) (w : World) : (Instr.slice 22 (.slice A n c) none (some (.int .i64 (m : Int))) none).run Try.prog w = .ok (sliced A 0 m c 1) w := by
  rw [run_slice_h w 22 A n c Try.underlying22 .i64 (m : Int) (by omega) (by omega)]
  have : (sizeOf (Try.prog.elem 22)).run Try.prog w = .ok 1 w := by kernel_rfl
  rw [this]
  rfl
theorem slice_l8 (A : Option Addr) (n c m : Nat) (hm : m ≤ n) (w : World) : (Instr.slice 22 (.slice A n c) (some (.int .i64 (m : Int))) none none).run Try.prog w = .ok (sliced A m n c 1) w := by
  rw [run_slice_l w 22 A n c Try.underlying22 .i64 (m : Int) (by omega) (by omega)]
  have : (sizeOf (Try.prog.elem 22)).run Try.prog w = .ok 1 w := by kernel_rfl
  rw [this]
  rfl
theorem sliced_at (ad : Addr) (m n c : Nat) (h : m < c) : sliced (some ad) m n c 1 = .slice (some (ad.add m)) (n - m) (c - m) := by
  unfold sliced
  rw [if_neg (by omega)]
  simp
theorem add_zero' (ad : Addr) : ad.add 0 = ad := by unfold Addr.add; simp

/-- The two halves of what was read so far. -/
def h0 (l : List Nat) (k : Nat) : Nat := num8 ((l.take 8).take k)
def h1 (l : List Nat) (k : Nat) : Nat := num8 (((l.drop 8).take 8).take (k - 8))
theorem h0_step (l : List Nat) (k b : Nat) (hb : l[k]? = some b) (hk : k < 8) : h0 l (k + 1) = h0 l k * 256 + b ∧ h1 l (k + 1) = h1 l k := by
  unfold h0 h1
  refine ⟨?_, by rw [show k + 1 - 8 = 0 by omega, show k - 8 = 0 by omega]⟩
  have : (l.take 8)[k]? = some b := by rw [List.getElem?_take, if_pos hk]; exact hb
  rw [List.take_add_one, this]; exact num8_snoc _ _
theorem h1_step (l : List Nat) (k b : Nat) (hb : l[k]? = some b) (hk : 8 ≤ k) (hk' : k < 16) : h0 l (k + 1) = h0 l k ∧ h1 l (k + 1) = h1 l k * 256 + b := by
  unfold h0 h1
  refine ⟨by rw [List.take_take, List.take_take]; congr 2; omega, ?_⟩
  have : ((l.drop 8).take 8)[k - 8]? = some b := by rw [List.getElem?_take, if_pos (by omega), List.getElem?_drop, show 8 + (k - 8) = k by omega]; exact hb
  rw [show k + 1 - 8 = k - 8 + 1 by omega, List.take_add_one, this]; exact num8_snoc _ _
theorem h_more (l : List Nat) (k : Nat) (hk : 16 ≤ k) : h0 l (k + 1) = h0 l k ∧ h1 l (k + 1) = h1 l k := by
  unfold h0 h1
  refine ⟨by rw [List.take_take, List.take_take]; congr 2; omega, by rw [List.take_take, List.take_take]; congr 2; omega⟩
theorem h_all (l : List Nat) (k : Nat) (hk : 16 ≤ k) : h0 l k = num8 (l.take 8) ∧ h1 l k = num8 ((l.drop 8).take 8) := by
  unfold h0 h1
  refine ⟨by rw [List.take_take]; congr 2; omega, by rw [List.take_take]; congr 2; omega⟩
theorem h0_lt (l : List Nat) (h : ∀ x ∈ l, x < 256) (k : Nat) : h0 l k < 18446744073709551616 ∧ h1 l k < 18446744073709551616 :=
  ⟨num8_64 _ (fun x hx => h x (List.mem_of_mem_take (List.mem_of_mem_take hx))) (by simp; omega), num8_64 _ (fun x hx => h x (List.mem_of_mem_drop (List.mem_of_mem_take (List.mem_of_mem_take hx)))) (by simp; omega)⟩
theorem h0_b (l : List Nat) (h : ∀ x ∈ l, x < 256) (k : Nat) (hk : k < 8) : h0 l k < 72057594037927936 :=
  num8_bound (l.take 8) (fun x hx => h x (List.mem_of_mem_take hx)) k (by omega)
theorem h1_b (l : List Nat) (h : ∀ x ∈ l, x < 256) (k : Nat) (hk : k < 16) : h1 l k < 72057594037927936 :=
  num8_bound ((l.drop 8).take 8) (fun x hx => h x (List.mem_of_mem_drop (List.mem_of_mem_take hx))) (k - 8) (by omega)
theorem or8 (a b : Nat) (ha : a < 72057594037927936) (hb : b < 256) : bits .or .u64 (IntKind.u64.wrap ((a : Int) * 256)) (b : Int) = ((a * 256 + b : Nat) : Int) := by
  have e1 : IntKind.u64.wrap ((a : Int) * 256) = ((a * 256 : Nat) : Int) := by rw [IntKind.wrap_u64]; omega
  rw [e1, bits_or_u64_nat (a * 256) b (by omega) (by omega)]
  congr 1
  have h := Nat.two_pow_add_eq_or_of_lt (i := 8) (b := b) (show b < 2 ^ 8 from hb) a
  rw [show (2 : Nat) ^ 8 = 256 from rfl] at h
  rw [Nat.mul_comm a 256]; exact h.symm
end Go.Proofs.Ytbomfnlipbdigaa
