/- The document's elements of bytes (greatsealref01.Of), walked. -/
import Derived.Test.YtbomfnlipbdigaaHaOfS
namespace Go.Proofs.Ytbomfnlipbdigaa
set_option linter.unusedVariables false
open Go.RowKit Go.Shelf

theorem unit_ok (i : Nat) (hi : i ≤ 7) : 256 ^ i ≤ 72057594037927936 := by
  have : 256 ^ i ≤ 256 ^ 7 := Nat.pow_le_pow_right (by decide) hi
  have e : (256 : Nat) ^ 7 = 72057594037927936 := by decide
  omega
theorem ck_lt (l : List Nat) (h : ∀ x ∈ l, x < 256) (j i : Nat) : le ((ck l j).take i) < 256 ^ ((ck l j).take i).length :=
  le_lt _ (fun y hy => h y (List.mem_of_mem_drop (List.mem_of_mem_take (List.mem_of_mem_take hy))))
theorem ck_step (l : List Nat) (h : ∀ x ∈ l, x < 256) (j i b : Nat) (hb : l[7 * j + i]? = some b) (hi : i < cLen l.length j) :
    le ((ck l j).take (i + 1)) = le ((ck l j).take i) + 256 ^ i * b ∧ le ((ck l j).take i) < 256 ^ i ∧ i < 7 := by
  have h7 : i < 7 := by unfold cLen at hi; omega
  have e1 := ck_get l j i hi
  rw [hb] at e1
  have el : ((ck l j).take i).length = i := by rw [List.length_take, ck_length]; omega
  have h2 := ck_lt l h j i
  rw [el] at h2
  refine ⟨?_, h2, h7⟩
  rw [List.take_add_one, e1]
  show le (_ ++ [b]) = _
  rw [le_snoc, el, Nat.mul_comm]
theorem fOf_snoc (l : List Nat) (j : Nat) : (List.range (j + 1)).map (fun j => le (ck l j)) = (List.range j).map (fun j => le (ck l j)) ++ [le (ck l j)] := by simp [List.range_succ]
theorem step_num (n u b : Nat) (hn : n < u) (hu : 256 * u ≤ 72057594037927936) (hb : b < 256) :
    IntKind.u64.wrap ((n : Int) + IntKind.u64.wrap ((u : Int) * (b : Int))) = ((n + u * b : Nat) : Int) ∧ IntKind.u64.wrap ((u : Int) * 256) = ((u * 256 : Nat) : Int) := by
  have h1 : u * b ≤ u * 255 := Nat.mul_le_mul_left _ (by omega)
  have e : (u : Int) * (b : Int) = ((u * b : Nat) : Int) := by simp
  refine ⟨?_, by rw [IntKind.wrap_u64]; omega⟩
  rw [e]
  generalize u * b = t at *
  rw [IntKind.wrap_u64, IntKind.wrap_u64]; omega

set_option maxRecDepth 100000 in
set_option maxHeartbeats 2000000 in
theorem rfOf_any (l : List Nat) (hl : ∀ x ∈ l, x < 256) (hm : l.length ≤ 1099511627776) (A : Option Addr) (c : Nat) (hmc : l.length ≤ c) (w : World) (hr : Reads w w.heap.size 1 A l.length (bv l)) :
    Calls Try.prog 65 #[.slice A l.length c] w fun e w' => ∃ v, e = .returned v ∧ w'.ownsRow w.heap.size 23 1 v (fOf l).length (uv (fOf l)) ∧ Below w.heap.size w w' := by
  obtain ⟨i0, hi, hz0, hz1, hz2⟩ := info_parts Try.infoU64
  obtain ⟨m, hml⟩ : ∃ m, m = l.length := ⟨_, rfl⟩
  rw [← hml] at hm hmc ⊢
  obtain ⟨ad, had⟩ : ∃ ad, 0 < m → A = some ad := by
    rcases A with _ | ad
    · exact ⟨⟨0, 0, none⟩, fun h => by obtain ⟨_, h, _⟩ := hr.2 (by omega); cases h⟩
    · exact ⟨ad, fun _ => rfl⟩
  have HR : Hid (∀ (W : World) (k b : Nat), Below w.heap.size w W → l[k]? = some b → A = some ad ∧ W.cell? (ad.add k) = some (.int .u8 (b : Int))) := Lib.hid (fun W k b hx hb => by
    have hk : k < l.length := (List.getElem?_eq_some_iff.1 hb).1
    have e := had (by omega)
    exact ⟨e, Reads.get (hr.below hx) hb ad e (by omega)⟩)
  have hmi : (m : Int) ≤ 1099511627776 := by omega
  have HM := Lib.hid hml
  have HL := Lib.hid hl
  clear hr hml hl had
  go_enter Try.func65, Try.ntmps65
  go_wp2
  go_loopg [3, 4] (cnt m) (fun g s3 s4 wr => ∃ j : Nat, j + g = cnt m ∧ s4 = .int .i64 ((7 * j : Nat) : Int) ∧ wr.ownsRow w.heap.size 23 1 s3 j (uv ((List.range j).map fun j => le (ck l j))) ∧ Below w.heap.size w wr)
  case atStart => exact ⟨0, by omega, rfl, World.ownsRow_nil _ _ _ _, Below.refl _ _⟩
  case round =>
    obtain ⟨j, hj, rfl, hown, hB⟩ := hrel
    by_cases hlt : 7 * j < m
    · obtain ⟨q, hq⟩ : ∃ q, q = 7 * j := ⟨_, rfl⟩
      rw [← hq] at hlt ⊢
      have HQ := Lib.hid hq
      have HJ := Lib.hid hj
      have z1 : (q : Int) < m := by omega
      obtain ⟨wo, hwo⟩ : ∃ wo : World, wo = wr := ⟨_, rfl⟩
      rw [← hwo] at hown hB ⊢
      have HB := Lib.hid hB
      obtain ⟨G, hG⟩ : ∃ G, G = gk - 1 := ⟨_, rfl⟩
      have HG := Lib.hid hG
      clear hwo hq hj hB hG
      go_wp2
      go_loopg [5, 6, 7] 8 (fun g s5 s6 s7 w2 => ∃ i : Nat, i + g = 8 ∧ i ≤ cLen m j ∧ s5 = .int .u64 ((le ((ck l j).take i) : Nat) : Int) ∧ s6 = .int .u64 ((256 ^ i : Nat) : Int) ∧ s7 = .int .i64 ((q + i : Nat) : Int) ∧ w2 = wo)
      case atStart => exact ⟨0, rfl, Nat.zero_le _, by simp [le], by simp, by simp, rfl⟩
      case round =>
        obtain ⟨i, hi8, hin, rfl, rfl, rfl, rfl⟩ := hrel
        by_cases h : i < cLen m j
        · have hcl := h
          have hqi : q + i < m := by have := HQ.out; unfold cLen at hcl; omega
          obtain ⟨b, hb⟩ : ∃ b, l[q + i]? = some b := ⟨_, List.getElem?_eq_getElem (by rw [← HM.out]; exact hqi)⟩
          obtain ⟨hA, hcell⟩ := HR.out _ (q + i) b HB.out hb
          have hb256 : b < 256 := HL.out b (List.mem_of_getElem? hb)
          obtain ⟨e1, e2, h7⟩ := ck_step l HL.out j i b (by rw [← HQ.out]; exact hb) (by rw [← HM.out]; exact h)
          have hu : 256 * 256 ^ i ≤ 72057594037927936 := by have := unit_ok (i + 1) (by omega); rw [Nat.pow_succ] at this; omega
          obtain ⟨k1, k2⟩ := step_num _ _ b e2 hu hb256
          rw [← e1] at k1
          rw [show 256 ^ i * 256 = 256 ^ (i + 1) from (Nat.pow_succ ..).symm] at k2
          obtain ⟨x, hx⟩ : ∃ x, x = le ((ck l j).take i) := ⟨_, rfl⟩
          obtain ⟨y, hy⟩ : ∃ y, y = le ((ck l j).take (i + 1)) := ⟨_, rfl⟩
          obtain ⟨u, hu'⟩ : ∃ u, u = 256 ^ i := ⟨_, rfl⟩
          obtain ⟨u2, hu2⟩ : ∃ u, u = 256 ^ (i + 1) := ⟨_, rfl⟩
          obtain ⟨p, hp⟩ : ∃ p, p = q + i := ⟨_, rfl⟩
          rw [← hx, ← hu', ← hy] at k1
          rw [← hu', ← hu2] at k2
          rw [← hp] at hcell hqi
          rw [← hx, ← hu', ← hp]
          have z2 : (p : Int) < m := by omega
          have z3 : (p : Int) < (q : Int) + 7 := by omega
          have HY := Lib.hid hy
          have HU := Lib.hid hu2
          have HP := Lib.hid hp
          have H8 := Lib.hid hi8
          have HC := Lib.hid hcl
          have K1 := Lib.hid k1
          have K2 := Lib.hid k2
          have zb : (b : Int) < 256 := by omega
          subst hA
          clear hx hy hu' hu2 hp e1 e2 hu hb hb256 hqi hlt hi8 hcl h hin k1 k2
          go_wp2
          have hi8 := H8.out
          have hcl := HC.out
          have hp := HP.out
          go_roundg (gk - 1)
          case measure => omega
          case rel => exact ⟨i + 1, by omega, by omega, by rw [K1.out, HY.out], by rw [K2.out, HU.out], int_congr (by omega), rfl⟩
        · obtain rfl : i = cLen m j := by omega
          have e1 : (ck l j).take (cLen m j) = ck l j := List.take_of_length_le (by rw [ck_length, ← HM.out]; exact Nat.le_refl _)
          rw [e1]
          have hfs := fOf_snoc l j
          obtain ⟨x, hx⟩ : ∃ x, x = le (ck l j) := ⟨_, rfl⟩
          obtain ⟨p, hp⟩ : ∃ p, p = q + cLen m j := ⟨_, rfl⟩
          rw [← hx] at hfs ⊢
          rw [← hp]
          have hx' : p ≤ m ∧ (p < m → ¬ p < q + 7) := by have := HQ.out; unfold cLen at hp; omega
          obtain ⟨hpm, hp7⟩ := hx'
          have z5 : (p : Int) ≤ m := by omega
          have HF := Lib.hid hfs
          have hjm : j + 1 ≤ cnt m ∧ cnt m ≤ 1099511627776 := by have := HQ.out; unfold cnt; omega
          obtain ⟨hjc, hcm⟩ := hjm
          have HJC := Lib.hid hjc
          have HCM := Lib.hid hcm
          have HO := hown
          generalize (256 ^ cLen m j : Nat) = u at *
          clear hx hfs hp e1 hi8 hin h hlt hjc hcm hown hm hmc
          have q1 : ∀ u ∈ [Value.int .u64 (x : Int)], u.oneCell' = true := by simp [Value.oneCell']
          by_cases hpl : p < m
          all_goals (
            have hd : decide ((p : Int) < (m : Int)) = decide (p < m) := by simp
            first
              | (have z6 : (p : Int) < m := by omega)
              | (have z6 : ¬ (p : Int) < m := by omega)
            try (have z7 : ¬ (p : Int) < (q : Int) + 7 := by have := hp7 hpl; omega)
            clear hd hp7 hpl hpm
            go_wp2_with (at_builtin; refine wpList_append_own _ rfl (.tmp 38) (.tmp 40) 68 rfl w.heap.size 23 i0 (.int .u64 0) 1 8 Try.underlying68 hi hz0 hz1 hz2 rfl (by decide) _ _ _ rfl (HO.alloc _) ⟨_, 0, none⟩ 1 1 [.int .u64 (x : Int)] rfl rfl (cell_one_new _ _ _) q1 (by have := HJC.out; have := HCM.out; unfold maxLen; omega) (by have := HJC.out; have := HCM.out; omega) (by have := HB.out.size; simp; omega) ?_; intro v' w1 hown1 hg1 _)
            have B1 : Hid (Below w.heap.size w w1) := Lib.hid ((HB.out.alloc HB.out.size _).grown hg1 (by have := HB.out.size; simp; omega) (own_ge HO))
            have O1 : Hid (w1.ownsRow w.heap.size 23 1 v' (j + 1) (uv ((List.range (j + 1)).map fun j => le (ck l j)))) := by
              show World.ownsRow _ _ _ _ _ _ _
              rw [HF.out, uv_append]; exact hown1
            clear hown1 hg1 HO
            go_roundg G
            case measure => have := HG.out; have := HJ.out; have := HJC.out; omega
            case rel => exact ⟨j + 1, by have := HG.out; have := HJ.out; have := HJC.out; omega, int_congr (by have := HQ.out; omega), O1.out, B1.out⟩)
    · obtain rfl : j = cnt m := by unfold cnt at hj ⊢; omega
      have HO : Hid (wr.ownsRow w.heap.size 23 1 u3 (fOf l).length (uv (fOf l))) := by
        show World.ownsRow _ _ _ _ _ _ _
        unfold fOf; rw [← HM.out, List.length_map, List.length_range]; exact hown
      have HB := Lib.hid hB
      obtain ⟨q, hq⟩ : ∃ q, q = 7 * cnt m := ⟨_, rfl⟩
      rw [← hq] at hlt ⊢
      have z1 : ¬ (q : Int) < m := by omega
      clear hq hlt hown hB hj
      go_wp2
      go_ret
      exact ⟨_, rfl, HO.out, HB.out⟩
end Go.Proofs.Ytbomfnlipbdigaa
