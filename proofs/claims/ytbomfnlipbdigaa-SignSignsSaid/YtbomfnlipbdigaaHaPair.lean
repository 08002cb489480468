/- The hash, walked: Pair. -/
import Derived.Test.YtbomfnlipbdigaaHaTag
import Derived.Deep.RegionWith
import Derived.BigRegion
namespace Go.Proofs.Ytbomfnlipbdigaa
open Go.RowKit Go.Shelf

def nodeS : ByteArray := { data := #[110, 111, 100, 101] }
def pairB (a1 a2 b1 b2 : Nat) : List Nat := coded (strN nodeS) [bytes2 a1 a2, bytes2 b1 b2]
theorem pairB_len (a1 a2 b1 b2 : Nat) : (pairB a1 a2 b1 b2).length ≤ 1099511627776 := by
  have : (strN nodeS).length = 4 := by decide
  simp [pairB, coded, be_length, bytes2_length, this]
theorem bytes2_lt (a b : Nat) : ∀ x ∈ bytes2 a b, x < 256 := by
  intro x hx
  rcases List.mem_append.1 hx with h | h <;> exact be_lt _ _ x h
theorem two_lt (a1 a2 b1 b2 : Nat) : ∀ p ∈ [bytes2 a1 a2, bytes2 b1 b2], ∀ x ∈ p, x < 256 := by
  intro p hp
  simp only [List.mem_cons, List.not_mem_nil, or_false] at hp
  rcases hp with rfl | rfl
  · exact bytes2_lt _ _
  · exact bytes2_lt _ _
theorem parts2 {W : World} {T : TypeId} {A A' : Option Addr} {c c' a1 a2 b1 b2 : Nat} (h1 : Reads W W.heap.size 1 A 16 (bv (bytes2 a1 a2))) (hc1 : 16 ≤ c) (h2 : Reads W W.heap.size 1 A' 16 (bv (bytes2 b1 b2))) (hc2 : 16 ≤ c') (g : Nat) (hg : g = W.heap.size) :
    Parts (W.alloc (.cells #[.slice A 16 c, .slice A' 16 c'] T)) (W.alloc (.cells #[.slice A 16 c, .slice A' 16 c'] T)).heap.size (some ⟨g, 0, none⟩) [bytes2 a1 a2, bytes2 b1 b2] := by
  subst hg
  have hb := Blk.new W T #[.slice A 16 c, .slice A' 16 c']
  refine ⟨[.slice A 16 c, .slice A' 16 c'], ⟨rfl, fun _ => ⟨_, rfl, by simp, fun j u hj => ?_⟩⟩, fun j p hj => ?_⟩
  · match j, hj with
    | 0, hj => cases hj; exact hb.cell 0
    | 1, hj => cases hj; exact hb.cell 1
  · match j, hj with
    | 0, hj => cases hj; exact ⟨A, c, by rw [bytes2_length]; rfl, by rw [bytes2_length]; exact hc1, by rw [bytes2_length]; exact (h1.alloc (Nat.le_refl _) _).more (by simp)⟩
    | 1, hj => cases hj; exact ⟨A', c', by rw [bytes2_length]; rfl, by rw [bytes2_length]; exact hc2, by rw [bytes2_length]; exact (h2.alloc (Nat.le_refl _) _).more (by simp)⟩

theorem ext_blk {W W' : World} {g : Nat} {T : TypeId} {cs : Array Value} (x : Ext W W') (h : Blk W g T cs) : Blk W' g T cs := h.below x.out h.lt
theorem arr2 {W : World} {g : Nat} {T : TypeId} {a b : Value} (h : Blk W g T #[a, b]) : W.cell? ⟨g, 0, none⟩ = some a ∧ W.cell? ⟨g, 1, none⟩ = some b ∧ W.frozen? ⟨g, 0, none⟩ = false ∧ W.frozen? ⟨g, 1, none⟩ = false :=
  ⟨h.cell 0, h.cell 1, h.frozen 0, h.frozen 1⟩
theorem start_pair (w : World) (x y z : Array Value) (T : TypeId) : ∃ W, ((w.alloc (.cells x T)).alloc (.cells y T)).alloc (.cells z T) = W ∧ Blk W w.heap.size T x ∧ Blk W (w.heap.size + 1) T y ∧ Blk W (w.heap.size + 1 + 1) T z ∧ Ext w W := by
  refine ⟨_, rfl, ((Blk.new w T x).alloc _).alloc _, ?_, ?_, (((Ext.refl w).alloc _).alloc _).alloc _⟩
  · have := (Blk.new (w.alloc (.cells x T)) T y).alloc (.cells z T)
    simpa using this
  · have := Blk.new ((w.alloc (.cells x T)).alloc (.cells y T)) T z
    simpa using this

end Go.Proofs.Ytbomfnlipbdigaa
