/- Parts of the proofs, put together: Base, Eq. -/
import Derived.Test.YtfpmfegmehbfbaaGreatDoorRows
import Derived.WalkKit
import Derived.WalkSmall
import Derived.Lib.Hide
import Derived.RowKit3
import Derived.Below
import Derived.ChangeKeysEq
/- The world behind a call: what lay lies as it lay ('Ext'). Small helps for walks. -/
namespace Go.Proofs.YtfpmfegmehbfbaaGreatDoor
open Go.RowKit

/-- Whatever lay in w lies in w' as it lay; new blocks and draws may have come. -/
def Ext (w w' : World) : Prop := Below w.heap.size w w'
theorem Ext.refl (w : World) : Ext w w := Below.refl _ _
theorem Ext.trans {a b c : World} (h : Ext a b) (k : Ext b c) : Ext a c := Below.trans h (Below.mono k (Below.size h))
theorem Ext.drewN {a b : World} (h : Ext a b) (n : Nat) : Ext a (b.drewN n) := below_drewN h n
theorem Ext.drew {a b : World} (h : Ext a b) : Ext a b.drew := Below.drew h
theorem Ext.alloc {a b : World} (h : Ext a b) (o : Obj) : Ext a (b.alloc o) := Below.alloc h (Below.size h) o
theorem Ext.setCell {a b : World} (h : Ext a b) {p : Addr} (hp : a.heap.size ≤ p.block) (v : Value) : Ext a (b.setCell p v) := Below.setCell h hp v
theorem Ext.of {w w' : World} (h : Below w.heap.size w w') : Ext w w' := h
theorem Ext.out {w w' : World} (h : Ext w w') : Below w.heap.size w w' := h
theorem Ext.size {w w' : World} (h : Ext w w') : w.heap.size ≤ w'.heap.size := Below.size h
theorem Ext.cell {w w' : World} (h : Ext w w') {p : Addr} {v : Value} (hc : w.cell? p = some v) : w'.cell? p = some v := by
  refine (Below.cell h ?_).trans hc
  refine Nat.lt_of_not_le fun hle => ?_
  have : w.heap[p.block]? = none := Array.getElem?_eq_none hle
  unfold World.cell? at hc
  simp [this] at hc
theorem Ext.frozen {w w' : World} (h : Ext w w') {p : Addr} {v : Value} (hc : w.cell? p = some v) : w'.frozen? p = w.frozen? p := by
  refine Below.frozen h ?_
  refine Nat.lt_of_not_le fun hle => ?_
  have : w.heap[p.block]? = none := Array.getElem?_eq_none hle
  unfold World.cell? at hc
  simp [this] at hc

theorem ret_one {k : IntKind} {a b : Int} (h : a = b) : Ending.returned (.int k a) = .returned (.int k b) := by rw [h]
theorem ret_two {k l : IntKind} {a b c d : Int} (h1 : a = b) (h2 : c = d) : Ending.returned (.tuple #[.int k a, .int l c]) = .returned (.tuple #[.int k b, .int l d]) := by rw [h1, h2]
theorem ret_bool {a b : Bool} (h : a = b) : Ending.returned (.bool a) = .returned (.bool b) := by rw [h]
theorem int_congr {k : IntKind} {a b : Int} (h : a = b) : Value.int k a = .int k b := by rw [h]
end Go.Proofs.YtfpmfegmehbfbaaGreatDoor

/- Equality of small arrays of numbers. -/
namespace Go.Proofs.YtfpmfegmehbfbaaGreatDoor
set_option linter.unusedVariables false
set_option linter.unusedSimpArgs false
open Go.RowKit

theorem Tryz.infoU64e : ∃ i, Tryz.prog.info? 25 = some i := by
  have h : (Tryz.prog.info? 25).isSome = true := by kernel_rfl
  exact Option.isSome_iff_exists.1 h
theorem eqItem (a b : Int) (w : World) (d : Nat) (xs ys : Array Value) (i c : Nat) (is : List Nat) (hx : (part 25 xs (i * c)).run Tryz.prog w = .ok (.int .u64 a) w) (hy : (part 25 ys (i * c)).run Tryz.prog w = .ok (.int .u64 b) w) :
    (Op.eqItems (d + 1) 25 c xs ys (i :: is)).run Tryz.prog w = if a = b then (Op.eqItems (d + 1) 25 c xs ys is).run Tryz.prog w else .ok false w := by
  simp only [Op.eqItems, Sem.run_bind, hx, hy, Result.andThen_ok, run_equalIn_int w d 25 .u64 .u64 a b Tryz.underlying25]
  by_cases h : a = b
  · simp [h]
  · simp [h]
theorem eq2 (a b x y : Int) (w : World) : (Op.equalIn 10000 34 (.agg #[.int .u64 a, .int .u64 b]) (.agg #[.int .u64 x, .int .u64 y])).run Tryz.prog w = .ok (decide (a = x ∧ b = y)) w := by
  obtain ⟨i, hi⟩ := Tryz.infoU64e
  have hc : Tryz.prog.cellsOf 25 = 1 := by kernel_rfl
  rw [run_equalIn_array w 9999 _ _ Tryz.underlying34 hi, hc, show List.range 2 = [0, 1] from rfl,
    eqItem a x w 9998 _ _ 0 1 _ (by kernel_rfl) (by kernel_rfl), eqItem b y w 9998 _ _ 1 1 _ (by kernel_rfl) (by kernel_rfl)]
  by_cases h1 : a = x <;> by_cases h2 : b = y <;> simp [h1, h2, Op.eqItems]
theorem eq2_same (a b : Int) (w : World) : (Op.equalIn 10000 34 (.agg #[.int .u64 a, .int .u64 b]) (.agg #[.int .u64 a, .int .u64 b])).run Tryz.prog w = .ok true w := by rw [eq2]; simp
end Go.Proofs.YtfpmfegmehbfbaaGreatDoor
