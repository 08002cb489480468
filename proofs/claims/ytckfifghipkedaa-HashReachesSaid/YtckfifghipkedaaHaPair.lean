/- The hash, walked: Pair. -/
import Derived.Test.YtckfifghipkedaaHaTag
import Derived.Deep.RegionWith
import Derived.BigRegion
namespace Go.Proofs.Ytckfifghipkedaa
open Go.RowKit Go.Shelf

def nodeS : ByteArray := { data := #[110, 111, 100, 101] }
def pairB (a1 a2 b1 b2 : Nat) : List Nat := coded (strN nodeS) [bytes2 a1 a2, bytes2 b1 b2]
theorem pairB_len (a1 a2 b1 b2 : Nat) : (pairB a1 a2 b1 b2).length ≤ 1099511627776 := by
  have : (strN nodeS).length = 4 := by decide
  simp [pairB, coded, be_length, bytes2_length, this]
theorem bytes2_lt (a b : Nat) : ∀ x ∈ bytes2 a b, x < 256 := by
  intro x hx
  rcases List.mem_append.1 hx with h | h <;> exact be_lt _ _ x h
theorem two_lt (a1 a2 b1 b2 : Nat) : ∀ p ∈ [bytes2 a1 a2, bytes2 b1 b2], ∀ x ∈ p, x < 256 := by
  intro p hp
  simp only [List.mem_cons, List.not_mem_nil, or_false] at hp
  rcases hp with rfl | rfl
  · exact bytes2_lt _ _
  · exact bytes2_lt _ _
theorem parts2 {W : World} {T : TypeId} {A A' : Option Addr} {c c' a1 a2 b1 b2 : Nat} (h1 : Reads W W.heap.size 1 A 16 (bv (bytes2 a1 a2))) (hc1 : 16 ≤ c) (h2 : Reads W W.heap.size 1 A' 16 (bv (bytes2 b1 b2))) (hc2 : 16 ≤ c') (g : Nat) (hg : g = W.heap.size) :
    Parts (W.alloc (.cells #[.slice A 16 c, .slice A' 16 c'] T)) (W.alloc (.cells #[.slice A 16 c, .slice A' 16 c'] T)).heap.size (some ⟨g, 0, none⟩) [bytes2 a1 a2, bytes2 b1 b2] := by
  subst hg
  have hb := Blk.new W T #[.slice A 16 c, .slice A' 16 c']
  refine ⟨[.slice A 16 c, .slice A' 16 c'], ⟨rfl, fun _ => ⟨_, rfl, by simp, fun j u hj => ?_⟩⟩, fun j p hj => ?_⟩
  · match j, hj with
    | 0, hj => cases hj; exact hb.cell 0
    | 1, hj => cases hj; exact hb.cell 1
  · match j, hj with
    | 0, hj => cases hj; exact ⟨A, c, by rw [bytes2_length]; rfl, by rw [bytes2_length]; exact hc1, by rw [bytes2_length]; exact (h1.alloc (Nat.le_refl _) _).more (by simp)⟩
    | 1, hj => cases hj; exact ⟨A', c', by rw [bytes2_length]; rfl, by rw [bytes2_length]; exact hc2, by rw [bytes2_length]; exact (h2.alloc (Nat.le_refl _) _).more (by simp)⟩

theorem ext_blk {W W' : World} {g : Nat} {T : TypeId} {cs : Array Value} (x : Ext W W') (h : Blk W g T cs) : Blk W' g T cs := h.below x.out h.lt
theorem arr2 {W : World} {g : Nat} {T : TypeId} {a b : Value} (h : Blk W g T #[a, b]) : W.cell? ⟨g, 0, none⟩ = some a ∧ W.cell? ⟨g, 1, none⟩ = some b ∧ W.frozen? ⟨g, 0, none⟩ = false ∧ W.frozen? ⟨g, 1, none⟩ = false :=
  ⟨h.cell 0, h.cell 1, h.frozen 0, h.frozen 1⟩
theorem start_pair (w : World) (x y z : Array Value) (T : TypeId) : ∃ W, ((w.alloc (.cells x T)).alloc (.cells y T)).alloc (.cells z T) = W ∧ Blk W w.heap.size T x ∧ Blk W (w.heap.size + 1) T y ∧ Blk W (w.heap.size + 1 + 1) T z ∧ Ext w W := by
  refine ⟨_, rfl, ((Blk.new w T x).alloc _).alloc _, ?_, ?_, (((Ext.refl w).alloc _).alloc _).alloc _⟩
  · have := (Blk.new (w.alloc (.cells x T)) T y).alloc (.cells z T)
    simpa using this
  · have := Blk.new ((w.alloc (.cells x T)).alloc (.cells y T)) T z
    simpa using this

set_option maxRecDepth 100000 in
set_option maxHeartbeats 1000000 in
theorem Pair_any (a1 a2 b1 b2 : Nat) (w : World) :
    Calls Try.prog 21 #[.agg #[.int .u64 a1, .int .u64 a2], .agg #[.int .u64 b1, .int .u64 b2]] w fun e w' => e = .returned (.agg #[.int .u64 ((hSum (pairB a1 a2 b1 b2)).1 : Int), .int .u64 ((hSum (pairB a1 a2 b1 b2)).2 : Int)]) ∧ Ext w w' := by
  have cA := fun W => bytes_any a1 a2 W
  have cB := fun W => bytes_any b1 b2 W
  obtain ⟨t1, hr1⟩ : ∃ r, r = (hSum (pairB a1 a2 b1 b2)).1 := ⟨_, rfl⟩
  obtain ⟨t2, hr2⟩ : ∃ r, r = (hSum (pairB a1 a2 b1 b2)).2 := ⟨_, rfl⟩
  have cT : ∀ W A, Parts W W.heap.size A [bytes2 a1 a2, bytes2 b1 b2] → Calls Try.prog 19 #[.string nodeS, .slice A 2 2] W fun e w' => e = .returned (.agg #[.int .u64 (t1 : Int), .int .u64 (t2 : Int)]) ∧ Ext W w' := fun W A h => by
    rw [hr1, hr2]; exact Tagged_any nodeS [bytes2 a1 a2, bytes2 b1 b2] (two_lt _ _ _ _) A 2 W h (pairB_len _ _ _ _)
  rw [← hr1, ← hr2]
  clear hr1 hr2
  go_enter Try.func21, Try.ntmps21
  go_wp2
  obtain ⟨W0, e0, h1, h2, h3, x0⟩ := start_pair w #[.int .u64 (a1 : Int), .int .u64 (a2 : Int)] #[.int .u64 (b1 : Int), .int .u64 (b2 : Int)] #[.int .u64 0, .int .u64 0] 29
  rw [e0]
  clear e0
  obtain ⟨q1, q2, q3, q4⟩ := arr2 h1
  obtain ⟨r1, r2, r3, r4⟩ := arr2 h2
  obtain ⟨s1, s2, s3, s4⟩ := arr2 h3
  have H1 := Lib.hid h1
  have H2 := Lib.hid h2
  have H3 := Lib.hid h3
  clear h1 h2 h3
  go_region_with (first
    | (go_at_call 25; refine (cA _).mono ?_; clear cA; rintro e wA ⟨vA, rfl, oA, xA⟩; obtain ⟨AA, kA, rfl, hkA, rA⟩ := own_slice oA; clear oA;
        have zA1 := Lib.hid (ext_blk xA (by first | exact H1.out | exact H1.out.drewN _ | exact zB1.out)); have zA2 := Lib.hid (ext_blk xA (by first | exact H2.out | exact H2.out.drewN _ | exact zB2.out)); have zA3 := Lib.hid (ext_blk xA (by first | exact H3.out | exact H3.out.drewN _ | exact zB3.out));
        obtain ⟨q1A, q2A, q3A, q4A⟩ := arr2 zA1.out; obtain ⟨r1A, r2A, r3A, r4A⟩ := arr2 zA2.out; obtain ⟨s1A, s2A, s3A, s4A⟩ := arr2 zA3.out)
    | (go_at_call 25; refine (cB _).mono ?_; clear cB; rintro e wB ⟨vB, rfl, oB, xB⟩; obtain ⟨AB, kB, rfl, hkB, rB⟩ := own_slice oB; clear oB;
        have zB1 := Lib.hid (ext_blk xB (by first | exact H1.out | exact H1.out.drewN _ | exact zA1.out)); have zB2 := Lib.hid (ext_blk xB (by first | exact H2.out | exact H2.out.drewN _ | exact zA2.out)); have zB3 := Lib.hid (ext_blk xB (by first | exact H3.out | exact H3.out.drewN _ | exact zA3.out));
        obtain ⟨q1B, q2B, q3B, q4B⟩ := arr2 zB1.out; obtain ⟨r1B, r2B, r3B, r4B⟩ := arr2 zB2.out; obtain ⟨s1B, s2B, s3B, s4B⟩ := arr2 zB3.out)
    | (go_at_call 19; refine (cT _ _ (by first | exact parts2 ((rA.below xB.out).more xB.size) hkA rB hkB _ rfl | exact parts2 rA hkA ((rB.below xA.out).more xA.size) hkB _ rfl)).mono ?_; clear cT; rintro e wT ⟨rfl, xT⟩;
        have zT := Lib.hid (ext_blk xT (by first | exact zB3.out.alloc _ | exact zA3.out.alloc _)); obtain ⟨q1T, q2T, q3T, q4T⟩ := arr2 zT.out))
  all_goals (
    go_wp2
    refine bodyPost_ret (v := .agg #[.int .u64 (t1 : Int), .int .u64 (t2 : Int)]) (by simp [results, Try.results21, go_sem, q1T, q2T]) rfl ⟨rfl, ?_⟩
    first
      | exact ((((((x0.drew).trans xA).trans xB).alloc _).trans xT).setCell (p := ⟨w.heap.size + 1 + 1, 0, none⟩) (by simp; omega) _).setCell (p := ⟨w.heap.size + 1 + 1, 1, none⟩) (by simp; omega) _
      | exact ((((((x0.drew).trans xB).trans xA).alloc _).trans xT).setCell (p := ⟨w.heap.size + 1 + 1, 0, none⟩) (by simp; omega) _).setCell (p := ⟨w.heap.size + 1 + 1, 1, none⟩) (by simp; omega) _)
end Go.Proofs.Ytckfifghipkedaa
