/- Parts of the proofs, put together: Fd, HaMath, Ha, HaEach, HaMix, HaSum, Str, HaBytes. -/
import Derived.Outline
import Derived.BigRegion
import Derived.Deep.RegionHeld3
import Derived.Deep.RegionWith
import Derived.StillTailTactics
import Derived.Deep.AppendSrc
import Derived.Test.YtaibpldolbemfaaG2
/- The layer 'field', walked: what the hash takes of it. -/
namespace Go.Proofs.Ytaibpldolbemfaa
open Go.RowKit Go.Shelf

theorem fold_any (hi lo : Nat) (hhi : hi < 288230376151711744) (hlo : lo < 18446744073709551616) (w : World) :
    Calls Try.prog 93 #[.int .u64 hi, .int .u64 lo] w fun e w' => e = .returned (.int .u64 (((hi * 18446744073709551616 + lo) % bP : Nat) : Int)) ∧ w = w' := by
  obtain ⟨f1, f2, f3⟩ := fold_two hi lo hlo
  obtain ⟨q, hq⟩ : ∃ q, q = lo / 2305843009213693952 := ⟨_, rfl⟩
  obtain ⟨r, hr⟩ : ∃ r, r = lo % 2305843009213693952 := ⟨_, rfl⟩
  rw [← hq] at f1 f3
  rw [← hr] at f2
  have hq8 : q < 8 := by omega
  have hr61 : r < 2305843009213693952 := by omega
  obtain ⟨g1, g2, g3⟩ := fold_step (hi * 18446744073709551616 + lo) _ _ (by omega) rfl rfl
  rw [f1, f2] at g1 g2 g3
  obtain ⟨n, hn⟩ : ∃ n, n = r + (hi * 8 + q) := ⟨_, rfl⟩
  rw [← hn] at g1 g2 g3
  obtain ⟨a, ha⟩ : ∃ a, a = n % 2305843009213693952 := ⟨_, rfl⟩
  obtain ⟨b, hb⟩ : ∃ b, b = n / 2305843009213693952 := ⟨_, rfl⟩
  rw [← ha, ← hb] at g2 g3
  have k1 : bits .and .u64 (lo : Int) 2305843009213693951 = (r : Int) := by
    have := bits_and_u64_nat lo 2305843009213693951 hlo (by omega)
    rw [and_P, ← hr] at this; exact this
  have k2 : (lo : Int) / 2305843009213693952 = (q : Int) := by rw [hq]; simp
  have k3 : bits .or .u64 ((hi : Int) * 8) (q : Int) = (hi : Int) * 8 + q := by
    have := bits_or_u64_nat (hi * 8) q (by omega) (by omega)
    rw [f3] at this; simpa using this
  have k4 : (r : Int) + ((hi : Int) * 8 + (q : Int)) = (n : Int) := by omega
  have k5 : bits .and .u64 (n : Int) 2305843009213693951 = (a : Int) := by
    have := bits_and_u64_nat n 2305843009213693951 (by omega) (by omega)
    rw [and_P, ← ha] at this; exact this
  have k6 : (n : Int) / 2305843009213693952 = (b : Int) := by rw [hb]; simp
  have z1 : (hi : Int) < 288230376151711744 := by omega
  have z2 : (q : Int) < 8 := by omega
  have z3 : (r : Int) < 2305843009213693952 := by omega
  have z4 : (a : Int) + b ≤ 2305843009213693951 := by omega
  have z5 : (r : Int) + ((hi : Int) * 8 + (q : Int)) < 4611686018427387904 := by omega
  by_cases h : 2305843009213693951 ≤ a + b
  · rw [if_pos h] at g3
    have d : decide (2305843009213693951 ≤ (a : Int) + (b : Int)) = true := by simp; omega
    have z6 : 2305843009213693951 ≤ (a : Int) + (b : Int) := by omega
    have G := Lib.hid g3
    clear f1 f2 f3 hq hr hq8 hr61 g1 g2 g3 hn ha hb h hhi hlo
    go_enter Try.func93, Try.ntmps93
    go_wp2
    go_ret
    exact ⟨ret_one (by rw [← G.out]; omega), rfl⟩
  · rw [if_neg h] at g3
    have d : decide (2305843009213693951 ≤ (a : Int) + (b : Int)) = false := by simp; omega
    have G := Lib.hid g3
    clear f1 f2 f3 hq hr hq8 hr61 g1 g2 g3 hn ha hb h hhi hlo
    go_enter Try.func93, Try.ntmps93
    go_wp2
    go_ret
    exact ⟨ret_one (by rw [← G.out]; omega), rfl⟩

theorem one_any (a : Nat) (ha : a < 18446744073709551616) (w : World) :
    Calls Try.prog 86 #[.int .u64 a] w fun e w' => e = .returned (.int .u64 ((a % bP : Nat) : Int)) ∧ w = w' := by
  have c := fun w => fold_any 0 a (by omega) ha w
  rw [Nat.zero_mul, Nat.zero_add] at c
  go_enter Try.func86, Try.ntmps86
  go_wp2_with (go_at_call 93; refine (c _).mono ?_; rintro e w' ⟨rfl, rfl⟩)
  go_ret
  exact ⟨rfl, rfl⟩

theorem fAdd_any (a b : Nat) (ha : a < 18446744073709551616) (hb : b < 18446744073709551616) (w : World) :
    Calls Try.prog 77 #[.int .u64 a, .int .u64 b] w fun e w' => e = .returned (.int .u64 (addM bP a b : Nat)) ∧ w = w' := by
  obtain ⟨x, hx⟩ : ∃ x, x = a % bP := ⟨_, rfl⟩
  obtain ⟨y, hy⟩ : ∃ y, y = b % bP := ⟨_, rfl⟩
  have hx1 : x < bP := by rw [hx]; exact Nat.mod_lt _ (by decide)
  have hy1 : y < bP := by rw [hy]; exact Nat.mod_lt _ (by decide)
  have z1 : (x : Int) < 2305843009213693951 := by unfold bP at *; omega
  have z2 : (y : Int) < 2305843009213693951 := by unfold bP at *; omega
  have c1 := fun w => one_any a ha w
  have c2 := fun w => one_any b hb w
  have c3 := fun w => one_any (x + y) (by unfold bP at *; omega) w
  rw [← hx] at c1
  rw [← hy] at c2
  rw [show (x + y) % bP = addM bP a b by rw [hx, hy]; simp [addM]] at c3
  clear hx hy hx1 hy1 ha hb
  go_enter Try.func77, Try.ntmps77
  go_wp2_with (first | (go_at_call 86; refine (c1 _).mono ?_; clear c1; rintro e w' ⟨rfl, rfl⟩) | (go_at_call 86; refine (c2 _).mono ?_; clear c2; rintro e w' ⟨rfl, rfl⟩) | (go_at_call 86; refine (c3 _).mono ?_; clear c3; rintro e w' ⟨rfl, rfl⟩))
  go_ret
  exact ⟨rfl, rfl⟩

theorem fMul_any (a b : Nat) (ha : a < 18446744073709551616) (hb : b < 18446744073709551616) (w : World) :
    Calls Try.prog 94 #[.int .u64 a, .int .u64 b] w fun e w' => e = .returned (.int .u64 (mulM bP a b : Nat)) ∧ w = w' := by
  obtain ⟨x, hx⟩ : ∃ x, x = a % bP := ⟨_, rfl⟩
  obtain ⟨y, hy⟩ : ∃ y, y = b % bP := ⟨_, rfl⟩
  have hx1 : x < 2305843009213693951 := by rw [hx]; exact Nat.mod_lt _ (by decide)
  have hy1 : y < 2305843009213693951 := by rw [hy]; exact Nat.mod_lt _ (by decide)
  obtain ⟨hi, hhi⟩ : ∃ hi, hi = x * y / 18446744073709551616 := ⟨_, rfl⟩
  obtain ⟨lo, hlo⟩ : ∃ lo, lo = x * y % 18446744073709551616 := ⟨_, rfl⟩
  have hxy : x * y < 2305843009213693952 * 2305843009213693952 := Nat.mul_lt_mul'' (by omega) (by omega)
  have b1 : hi < 288230376151711744 := by
    rw [hhi, Nat.div_lt_iff_lt_mul (by omega)]; omega
  have b2 : lo < 18446744073709551616 := by rw [hlo]; exact Nat.mod_lt _ (by omega)
  have c1 := fun w => one_any a ha w
  have c2 := fun w => one_any b hb w
  rw [← hx] at c1
  rw [← hy] at c2
  have c3 : ∀ w, Calls Try.prog 59 #[.int .u64 (x : Int), .int .u64 (y : Int)] w fun e w' => e = .returned (.tuple #[.int .u64 (hi : Int), .int .u64 (lo : Int)]) ∧ w = w' := fun w => by
    rw [hhi, hlo]; exact (Try.bits_Mul64 x y (by omega) (by omega) w).mono fun e w' ⟨he, hw⟩ => ⟨he, hw.symm⟩
  have e : (hi * 18446744073709551616 + lo) % bP = mulM bP a b := by
    have := Nat.div_add_mod (x * y) 18446744073709551616
    rw [show hi * 18446744073709551616 + lo = x * y by rw [hhi, hlo]; omega, hx, hy, ← Nat.mul_mod]; rfl
  have c4 := fun w => e ▸ fold_any hi lo b1 b2 w
  clear hx hy hx1 hy1 hhi hlo hxy b1 b2 e ha hb
  go_enter Try.func94, Try.ntmps94
  go_wp2_with (first | (go_at_call 86; refine (c1 _).mono ?_; clear c1; rintro e w' ⟨rfl, rfl⟩) | (go_at_call 86; refine (c2 _).mono ?_; clear c2; rintro e w' ⟨rfl, rfl⟩) | (go_at_call 59; refine (c3 _).mono ?_; clear c3; rintro e w' ⟨rfl, rfl⟩) | (go_at_call 93; refine (c4 _).mono ?_; clear c4; rintro e w' ⟨rfl, rfl⟩))
  go_ret
  exact ⟨rfl, rfl⟩
end Go.Proofs.Ytaibpldolbemfaa

/- Plain: the hash. No program in sight. -/
namespace Go.Proofs.Ytaibpldolbemfaa

/-- x, squared k times. -/
def sqs (x : Nat) : Nat → Nat
  | 0 => x
  | k + 1 => mulM bP (sqs x k) (sqs x k)
theorem sqs_lt {x : Nat} (hx : x < 18446744073709551616) (k : Nat) : sqs x k < 18446744073709551616 := by
  cases k with
  | zero => exact hx
  | succ k => exact Nat.lt_of_lt_of_le (mulM_lt (m := bP) (by decide) _ _) (by decide)
theorem sqs_pow (x k : Nat) : sqs x (k + 1) = powM bP x (2 ^ (k + 1)) := by
  induction k with
  | zero => show mulM bP x x = _; unfold mulM powM; rw [show 2 ^ (0 + 1) = 2 from rfl, Nat.pow_two]
  | succ k ih => rw [sqs, ih, powM_add]; congr 1; rw [Nat.pow_succ 2 (k + 1)]; omega
/-- The power 17. -/
def p17 (x : Nat) : Nat := powM bP x 17
theorem sqs_17 (x : Nat) : mulM bP x (sqs x 4) = p17 x := by
  rw [sqs_pow, mulM_comm, powM_succ]; rfl

/-- One element of a round: i of round r. -/
def elem (r i a : Nat) : Nat := p17 (addM bP a ((3 * r + i + 1) * (3 * r + i + 1) * (3 * r + i + 1) + 7))
/-- One round. -/
def rnd (r : Nat) (s : Nat × Nat × Nat) : Nat × Nat × Nat :=
  let x := elem r 0 s.1; let y := elem r 1 s.2.1; let z := elem r 2 s.2.2
  let all := addM bP (addM bP x y) z
  (addM bP x all, addM bP y all, addM bP z all)
/-- The first k rounds. -/
def rnds : Nat → Nat × Nat × Nat → Nat × Nat × Nat
  | 0, s => s
  | k + 1, s => rnd k (rnds k s)
def mix (s : Nat × Nat × Nat) : Nat × Nat × Nat := rnds 8 s
end Go.Proofs.Ytaibpldolbemfaa

/- The hash, walked: Mix. -/
namespace Go.Proofs.Ytaibpldolbemfaa
open Go.RowKit Go.Shelf

theorem seventeen_any (x : Nat) (hx : x < 18446744073709551616) (w : World) :
    Calls Try.prog 89 #[.int .u64 x] w fun e w' => e = .returned (.int .u64 (p17 x : Nat)) ∧ w = w' := by
  have cm := fun k w => fMul_any (sqs x k) (sqs x k) (sqs_lt hx k) (sqs_lt hx k) w
  have c4 := fun w => fMul_any x (sqs x 4) hx (sqs_lt hx 4) w
  rw [sqs_17] at c4
  clear hx
  go_enter Try.func89, Try.ntmps89
  go_wp2
  go_loopg [3, 5] 4 (fun g y i wr => wr = w ∧ ∃ k : Nat, k + g = 4 ∧ y = .int .u64 (sqs x k : Nat) ∧ i = .int .i64 k)
  case atStart => exact ⟨rfl, 0, rfl, rfl, rfl⟩
  case round =>
    obtain ⟨rfl, k, hk, rfl, rfl⟩ := hrel
    by_cases h : k < 4
    · have c := cm k
      rw [show mulM bP (sqs x k) (sqs x k) = sqs x (k + 1) from rfl] at c
      obtain ⟨y, hy⟩ : ∃ y, y = sqs x k := ⟨_, rfl⟩
      obtain ⟨z, hz⟩ : ∃ z, z = sqs x (k + 1) := ⟨_, rfl⟩
      rw [← hy, ← hz] at c
      rw [← hy]
      have HZ := Lib.hid hz
      clear cm c4 hy hz
      have HK := Lib.hid hk
      clear hk
      go_wp2_with (go_at_call 94; refine (c _).mono ?_; clear c; rintro e w' ⟨rfl, rfl⟩)
      have hk := HK.out
      go_roundg (gk - 1)
      case measure => omega
      case rel => exact ⟨rfl, k + 1, by omega, int_congr (by rw [HZ.out]), int_congr (by omega)⟩
    · obtain rfl : k = 4 := by omega
      clear cm
      generalize sqs x 4 = z at *
      go_wp2_with (go_at_call 94; refine (c4 _).mono ?_; clear c4; rintro e w' ⟨rfl, rfl⟩)
      go_ret
      exact ⟨rfl, rfl⟩

theorem elem_n (r i : Nat) (hr : r < 8) (hi : i < 3) : (3 * r + i + 1) * (3 * r + i + 1) * (3 * r + i + 1) + 7 < 4294967296 := by
  have h : 3 * r + i + 1 ≤ 24 := by omega
  have := Nat.mul_le_mul (Nat.mul_le_mul h h) h
  omega

/-- The first closure of Mix: an element's part of a round; what all are together is put up. -/
theorem mix1_any (r i a all g ga : Nat) (hr : r < 8) (hi : i < 3) (ha : a < 18446744073709551616) (hall : all < 18446744073709551616) (w : World)
    (hg : w.cell? ⟨g, 0, none⟩ = some (.int .i64 r)) (hga : w.cell? ⟨ga, 0, none⟩ = some (.int .u64 all)) (hf : w.frozen? ⟨ga, 0, none⟩ = false) :
    Calls Try.prog 88 #[.int .i64 i, .int .u64 a, .pointer (some ⟨g, 0, none⟩), .pointer (some ⟨ga, 0, none⟩)] w fun e w' => e = .returned (.int .u64 (elem r i a : Nat)) ∧ w.setCell ⟨ga, 0, none⟩ (.int .u64 (addM bP all (elem r i a) : Nat)) = w' := by
  obtain ⟨n, hn⟩ : ∃ n, n = 3 * r + i + 1 := ⟨_, rfl⟩
  have hn24 : n ≤ 24 := by omega
  have b1 : n * n ≤ 576 := Nat.mul_le_mul hn24 hn24
  have b2 : n * n * n ≤ 13824 := Nat.mul_le_mul b1 hn24
  obtain ⟨v, hv⟩ : ∃ v, v = n * n * n + 7 := ⟨_, rfl⟩
  obtain ⟨x, hx⟩ : ∃ x, x = addM bP a v := ⟨_, rfl⟩
  have hx1 : x < bP := by rw [hx]; exact addM_lt' (by decide) _ _
  obtain ⟨y, hy⟩ : ∃ y, y = p17 x := ⟨_, rfl⟩
  have hy1 : y < bP := by rw [hy]; exact powM_lt (by decide) _ _
  have he : elem r i a = y := by unfold elem; rw [hy, hx, hv, hn]
  rw [he]
  have c1 := fun w => fAdd_any a v ha (by omega) w
  rw [← hx] at c1
  have c2 := fun w => seventeen_any x (Nat.lt_trans hx1 (by decide)) w
  rw [← hy] at c2
  have c3 := fun w => fAdd_any all y hall (Nat.lt_trans hy1 (by decide)) w
  have k0 : 3 * (r : Int) + (i : Int) + 1 = (n : Int) := by omega
  have k1 : (n : Int) * (n : Int) * (n : Int) + 7 = (v : Int) := by rw [hv]; simp
  have z1 : (r : Int) < 8 := by omega
  have z2 : (i : Int) < 3 := by omega
  have z3 : (n : Int) ≤ 24 := by omega
  have e1 : (n : Int) * (n : Int) = ((n * n : Nat) : Int) := (Int.natCast_mul _ _).symm
  have e2 : (n : Int) * (n : Int) * (n : Int) = ((n * n * n : Nat) : Int) := by rw [e1, ← Int.natCast_mul]
  have z4 : (n : Int) * (n : Int) ≤ 576 := by rw [e1]; omega
  have z5 : (n : Int) * (n : Int) * (n : Int) ≤ 13824 := by rw [e2]; omega
  have z6 : 0 ≤ (n : Int) * (n : Int) := by rw [e1]; omega
  have z7 : 0 ≤ (n : Int) * (n : Int) * (n : Int) := by rw [e2]; omega
  clear e1 e2
  clear hn hn24 b1 b2 hv hx hy he hx1 hy1 hr hi ha hall
  go_enter Try.func88, Try.ntmps88
  go_wp2_with (first | (go_at_call 77; refine (c1 _).mono ?_; clear c1; rintro e w' ⟨rfl, rfl⟩) | (go_at_call 89; refine (c2 _).mono ?_; clear c2; rintro e w' ⟨rfl, rfl⟩) | (go_at_call 77; refine (c3 _).mono ?_; clear c3; rintro e w' ⟨rfl, rfl⟩))
  go_ret
  exact ⟨rfl, rfl⟩

/-- The second closure of Mix. -/
theorem mix2_any (i : Int) (a all ga : Nat) (ha : a < 18446744073709551616) (hall : all < 18446744073709551616) (w : World)
    (hga : w.cell? ⟨ga, 0, none⟩ = some (.int .u64 all)) :
    Calls Try.prog 90 #[.int .i64 i, .int .u64 a, .pointer (some ⟨ga, 0, none⟩)] w fun e w' => e = .returned (.int .u64 (addM bP a all : Nat)) ∧ w = w' := by
  have c1 := fun w => fAdd_any a all ha hall w
  clear ha hall
  go_enter Try.func90, Try.ntmps90
  go_wp2_with (go_at_call 77; refine (c1 _).mono ?_; clear c1; rintro e w' ⟨rfl, rfl⟩)
  go_ret
  exact ⟨rfl, rfl⟩
end Go.Proofs.Ytaibpldolbemfaa

/- The hash, walked: each. -/
namespace Go.Proofs.Ytaibpldolbemfaa
open Go.RowKit Go.Shelf

/-- Behind one round: a store into the sum's box (or none), a store into the array. -/
theorem step_facts {w : World} {g gr ga : Nat} {T : TypeId} {cs : Array Value} {ur ua0 : Value} (hb : Blk w g T cs) (hgr : w.cell? ⟨gr, 0, none⟩ = some ur) (hga : w.cell? ⟨ga, 0, none⟩ = some ua0) (hf : w.frozen? ⟨ga, 0, none⟩ = false)
    (hne : g ≠ ga) (hne2 : gr ≠ g) (hne3 : gr ≠ ga) (n k : Nat) (ua u : Value) :
    ∃ W, ((w.drewN n).setCell ⟨ga, 0, none⟩ ua).setCell ⟨g, k, none⟩ u = W ∧ Blk W g T (cs.setIfInBounds k u) ∧ W.cell? ⟨gr, 0, none⟩ = some ur ∧ W.cell? ⟨ga, 0, none⟩ = some ua ∧ W.frozen? ⟨ga, 0, none⟩ = false ∧ (∀ B, B ≤ g → B ≤ ga → Below B w W) := by
  refine ⟨_, rfl, ((hb.drewN n).far (p := ⟨ga, 0, none⟩) hne ua).set_ k u, ?_, ?_, ?_, fun B h1 h2 => ?_⟩
  · rw [World.cell?_setCell_other _ _ _ _ (fun h => hne2 (by cases h; rfl)), World.cell?_setCell_other _ _ _ _ (fun h => hne3 (by cases h; rfl))]; exact hgr
  · rw [World.cell?_setCell_other _ _ _ _ (fun h => hne (by cases h; rfl))]
    exact World.cell?_setCell_same' _ _ _ (by rw [World.cell?_drewN, hga]; rfl)
  · rw [World.frozen?_setCell, World.frozen?_setCell]; exact hf
  · exact ((below_drewN (Below.refl B w) n).setCell (p := ⟨ga, 0, none⟩) h2 ua).setCell (p := ⟨g, k, none⟩) h1 u

set_option maxRecDepth 100000 in
set_option maxHeartbeats 1000000 in
theorem each1_any (g gr ga r x y z all : Nat) (hr : r < 8) (hx : x < 18446744073709551616) (hy : y < 18446744073709551616) (hz : z < 18446744073709551616) (hall : all < 18446744073709551616) (w : World)
    (hb : Blk w g 94 #[.int .u64 x, .int .u64 y, .int .u64 z]) (hgr : w.cell? ⟨gr, 0, none⟩ = some (.int .i64 r)) (hga : w.cell? ⟨ga, 0, none⟩ = some (.int .u64 all)) (hf : w.frozen? ⟨ga, 0, none⟩ = false) (hne : g ≠ ga) (hne2 : gr ≠ g) (hne3 : gr ≠ ga) :
    Calls Try.prog 87 #[.pointer (some ⟨g, 0, none⟩), .func (.func 88) #[] #[.pointer (some ⟨gr, 0, none⟩), .pointer (some ⟨ga, 0, none⟩)]] w fun e w' => e = .returned (.tuple #[]) ∧
      Blk w' g 94 #[.int .u64 (elem r 0 x : Nat), .int .u64 (elem r 1 y : Nat), .int .u64 (elem r 2 z : Nat)] ∧
      w'.cell? ⟨ga, 0, none⟩ = some (.int .u64 (addM bP (addM bP (addM bP all (elem r 0 x)) (elem r 1 y)) (elem r 2 z) : Nat)) ∧ (∀ B, B ≤ g → B ≤ ga → Below B w w') := by
  have c0 := hb.cell 0
  have c1 := hb.cell 1
  have c2 := hb.cell 2
  have f0 := hb.frozen 0
  simp at c0 c1 c2
  obtain ⟨p, hp⟩ : ∃ p, p = elem r 0 x := ⟨_, rfl⟩
  obtain ⟨q, hq⟩ : ∃ q, q = elem r 1 y := ⟨_, rfl⟩
  obtain ⟨t, ht⟩ : ∃ t, t = elem r 2 z := ⟨_, rfl⟩
  have hp1 : p < bP := by rw [hp]; exact powM_lt (by decide) _ _
  have hq1 : q < bP := by rw [hq]; exact powM_lt (by decide) _ _
  obtain ⟨a1, ha1⟩ : ∃ a, a = addM bP all p := ⟨_, rfl⟩
  obtain ⟨a2, ha2⟩ : ∃ a, a = addM bP a1 q := ⟨_, rfl⟩
  obtain ⟨a3, ha3⟩ : ∃ a, a = addM bP a2 t := ⟨_, rfl⟩
  have l1 : a1 < bP := by rw [ha1]; exact addM_lt' (by decide) _ _
  have l2 : a2 < bP := by rw [ha2]; exact addM_lt' (by decide) _ _
  have m1 := fun W => mix1_any r 0 x all gr ga hr (by omega) hx hall W
  have m2 := fun W => mix1_any r 1 y a1 gr ga hr (by omega) hy (Nat.lt_trans l1 (by decide)) W
  have m3 := fun W => mix1_any r 2 z a2 gr ga hr (by omega) hz (Nat.lt_trans l2 (by decide)) W
  rw [← hp, ← ha1] at m1
  rw [← hq, ← ha2] at m2
  rw [← ht, ← ha3] at m3
  rw [← hp, ← hq, ← ht, ← ha1, ← ha2, ← ha3]
  have HB := Lib.hid hb
  clear hp hq ht ha1 ha2 ha3 hp1 hq1 l1 l2 hr hx hy hz hall hb
  go_enter Try.func87, Try.ntmps87
  go_wp2
  refine wp_loop_rounds 4 ?_
  rw [rounds_succ]
  go_wp2
  go_quiet (fail)
  go_wp2
  go_region_with (go_at_call 88; refine (m1 _ (by simp [hgr]) (by simp [hga]) (by simp [hf])).mono ?_; rintro e w' ⟨rfl, rfl⟩)
  obtain ⟨W1, e1, b1, r1, a1', f1, l1⟩ := step_facts HB.out hgr hga hf hne hne2 hne3 (nq + 1) 0 (.int .u64 (a1 : Int)) (.int .u64 (p : Int))
  rw [e1]
  have d0 := b1.cell 1
  have d1 := b1.frozen 1
  have d2 := b1.frozen 0
  simp at d0 d1
  have B1 := Lib.hid b1
  clear e1 b1 c0 c1 c2 f0 hgr hga hf m1
  go_wp2
  rw [rounds_succ]
  go_wp2
  go_quiet (fail)
  go_wp2
  go_region_with (go_at_call 88; refine (m2 _ (by simp [r1]) (by simp [a1']) (by simp [f1])).mono ?_; rintro e w' ⟨rfl, rfl⟩)
  obtain ⟨W2, e2, b2, r2, a2', f2, l2⟩ := step_facts B1.out r1 a1' f1 hne hne2 hne3 (nq + 1) 1 (.int .u64 (a2 : Int)) (.int .u64 (q : Int))
  rw [e2]
  have d3 := b2.cell 2
  have d4 := b2.frozen 2
  have d5 := b2.frozen 0
  simp at d3 d4
  have B2 := Lib.hid b2
  clear e2 b2 d0 d1 d2 r1 a1' f1 m2
  go_wp2
  rw [rounds_succ]
  go_wp2
  go_quiet (fail)
  go_wp2
  go_region_with (go_at_call 88; refine (m3 _ (by simp [r2]) (by simp [a2']) (by simp [f2])).mono ?_; rintro e w' ⟨rfl, rfl⟩)
  obtain ⟨W3, e3, b3, r3, a3', f3, l3⟩ := step_facts B2.out r2 a2' f2 hne hne2 hne3 (nq + 1) 2 (.int .u64 (a3 : Int)) (.int .u64 (t : Int))
  rw [e3]
  have B3 := Lib.hid b3
  clear e3 b3 d3 d4 d5 r2 a2' f2 m3
  go_wp2
  rw [rounds_succ]
  go_wp2
  go_end0
  exact ⟨rfl, B3.out, a3', fun B h1 h2 => ((l1 B h1 h2).trans (l2 B h1 h2)).trans (l3 B h1 h2)⟩

/-- Behind one round of the second closure. -/
theorem step_facts2 {w : World} {g ga : Nat} {T : TypeId} {cs : Array Value} {ua0 : Value} (hb : Blk w g T cs) (hga : w.cell? ⟨ga, 0, none⟩ = some ua0) (hne : g ≠ ga) (n k : Nat) (u : Value) :
    ∃ W, (w.drewN n).setCell ⟨g, k, none⟩ u = W ∧ Blk W g T (cs.setIfInBounds k u) ∧ W.cell? ⟨ga, 0, none⟩ = some ua0 ∧ (∀ B, B ≤ g → Below B w W) := by
  refine ⟨_, rfl, (hb.drewN n).set_ k u, ?_, fun B h1 => ?_⟩
  · rw [World.cell?_setCell_other _ _ _ _ (fun h => hne (by cases h; rfl))]; exact hga
  · exact (below_drewN (Below.refl B w) n).setCell (p := ⟨g, k, none⟩) h1 u

set_option maxRecDepth 100000 in
set_option maxHeartbeats 1000000 in
theorem each2_any (g ga x y z all : Nat) (hx : x < 18446744073709551616) (hy : y < 18446744073709551616) (hz : z < 18446744073709551616) (hall : all < 18446744073709551616) (w : World)
    (hb : Blk w g 94 #[.int .u64 x, .int .u64 y, .int .u64 z]) (hga : w.cell? ⟨ga, 0, none⟩ = some (.int .u64 all)) (hne : g ≠ ga) :
    Calls Try.prog 87 #[.pointer (some ⟨g, 0, none⟩), .func (.func 90) #[] #[.pointer (some ⟨ga, 0, none⟩)]] w fun e w' => e = .returned (.tuple #[]) ∧
      Blk w' g 94 #[.int .u64 (addM bP x all : Nat), .int .u64 (addM bP y all : Nat), .int .u64 (addM bP z all : Nat)] ∧ (∀ B, B ≤ g → Below B w w') := by
  have c0 := hb.cell 0
  have f0 := hb.frozen 0
  simp at c0
  obtain ⟨p, hp⟩ : ∃ p, p = addM bP x all := ⟨_, rfl⟩
  obtain ⟨q, hq⟩ : ∃ q, q = addM bP y all := ⟨_, rfl⟩
  obtain ⟨t, ht⟩ : ∃ t, t = addM bP z all := ⟨_, rfl⟩
  have m1 := fun i W => mix2_any i x all ga hx hall W
  have m2 := fun i W => mix2_any i y all ga hy hall W
  have m3 := fun i W => mix2_any i z all ga hz hall W
  rw [← hp] at m1
  rw [← hq] at m2
  rw [← ht] at m3
  rw [← hp, ← hq, ← ht]
  have HB := Lib.hid hb
  clear hp hq ht hx hy hz hall hb
  go_enter Try.func87, Try.ntmps87
  go_wp2
  refine wp_loop_rounds 4 ?_
  rw [rounds_succ]
  go_wp2
  go_quiet (fail)
  go_wp2
  go_region_with (go_at_call 90; refine (m1 _ _ (by simp [hga])).mono ?_; rintro e w' ⟨rfl, rfl⟩)
  obtain ⟨W1, e1, b1, a1', l1⟩ := step_facts2 HB.out hga hne (nq + 1) 0 (.int .u64 (p : Int))
  rw [e1]
  have d0 := b1.cell 1
  have d1 := b1.frozen 1
  have d2 := b1.frozen 0
  simp at d0 d1
  have B1 := Lib.hid b1
  clear e1 b1 c0 f0 hga m1
  go_wp2
  rw [rounds_succ]
  go_wp2
  go_quiet (fail)
  go_wp2
  go_region_with (go_at_call 90; refine (m2 _ _ (by simp [a1'])).mono ?_; rintro e w' ⟨rfl, rfl⟩)
  obtain ⟨W2, e2, b2, a2', l2⟩ := step_facts2 B1.out a1' hne (nq + 1) 1 (.int .u64 (q : Int))
  rw [e2]
  have d3 := b2.cell 2
  have d4 := b2.frozen 2
  have d5 := b2.frozen 0
  simp at d3 d4
  have B2 := Lib.hid b2
  clear e2 b2 d0 d1 d2 a1' m2
  go_wp2
  rw [rounds_succ]
  go_wp2
  go_quiet (fail)
  go_wp2
  go_region_with (go_at_call 90; refine (m3 _ _ (by simp [a2'])).mono ?_; rintro e w' ⟨rfl, rfl⟩)
  obtain ⟨W3, e3, b3, a3', l3⟩ := step_facts2 B2.out a2' hne (nq + 1) 2 (.int .u64 (t : Int))
  rw [e3]
  have B3 := Lib.hid b3
  clear e3 b3 d3 d4 d5 a2' m3
  go_wp2
  rw [rounds_succ]
  go_wp2
  go_end0
  exact ⟨rfl, B3.out, fun B h1 => ((l1 B h1).trans (l2 B h1)).trans (l3 B h1)⟩
end Go.Proofs.Ytaibpldolbemfaa

/- The hash, walked: Mix. -/
namespace Go.Proofs.Ytaibpldolbemfaa
open Go.RowKit Go.Shelf

/-- Three elements as a value. -/
def val3 (s : Nat × Nat × Nat) : Array Value := #[.int .u64 (s.1 : Int), .int .u64 (s.2.1 : Int), .int .u64 (s.2.2 : Int)]
def ok3 (s : Nat × Nat × Nat) : Prop := s.1 < 18446744073709551616 ∧ s.2.1 < 18446744073709551616 ∧ s.2.2 < 18446744073709551616
theorem rnd_lt (k : Nat) (s : Nat × Nat × Nat) : (rnd k s).1 < bP ∧ (rnd k s).2.1 < bP ∧ (rnd k s).2.2 < bP := ⟨addM_lt' (by decide) _ _, addM_lt' (by decide) _ _, addM_lt' (by decide) _ _⟩
theorem rnds_ok {s : Nat × Nat × Nat} (h : ok3 s) : ∀ k, ok3 (rnds k s)
  | 0 => h
  | k + 1 => by
    obtain ⟨a, b, c⟩ := rnd_lt k (rnds k s)
    exact ⟨Nat.lt_trans a (by decide), Nat.lt_trans b (by decide), Nat.lt_trans c (by decide)⟩

theorem start3 (w : World) (c1 c2 c3 : Array Value) (T1 T2 T3 : TypeId) : ∃ W, (((w.alloc (.cells c1 T1)).alloc (.cells c2 T2)).alloc (.cells c3 T3)) = W ∧
    Blk W w.heap.size T1 c1 ∧ Blk W (w.heap.size + 1) T2 c2 ∧ Blk W (w.heap.size + 1 + 1) T3 c3 ∧ Ext w W ∧ W.heap.size = w.heap.size + 3 := by
  refine ⟨_, rfl, ((Blk.new w T1 c1).alloc _).alloc _, ?_, ?_, (((Ext.refl w).alloc _).alloc _).alloc _, by simp⟩
  · have := (Blk.new (w.alloc (.cells c1 T1)) T2 c2).alloc (.cells c3 T3)
    simpa using this
  · have := Blk.new ((w.alloc (.cells c1 T1)).alloc (.cells c2 T2)) T3 c3
    simpa using this
theorem sum0 (x : Nat) : addM bP 0 x = x % bP := by unfold addM; rw [Nat.zero_add]

set_option maxRecDepth 100000 in
set_option maxHeartbeats 1000000 in
theorem mix_any (s : Nat × Nat × Nat) (hs : ok3 s) (w : World) :
    Calls Try.prog 78 #[.agg (val3 s)] w fun e w' => e = .returned (.agg (val3 (mix s))) ∧ Ext w w' := by
  have hmf : ∀ (fn : Fn) (first cap : Array Value) (w : World), (Instr.makeFunc fn first cap).run Try.prog w = .ok (.func fn first cap) w := fun _ _ _ _ => rfl
  unfold val3
  go_enter Try.func78, Try.ntmps78
  go_wp2
  obtain ⟨W0, e0, -, b1, b2, x0, z0⟩ := start3 w #[.int .u64 (s.1 : Int), .int .u64 (s.2.1 : Int), .int .u64 (s.2.2 : Int)] #[.int .u64 0, .int .u64 0, .int .u64 0] #[.int .u64 (s.1 : Int), .int .u64 (s.2.1 : Int), .int .u64 (s.2.2 : Int)] 86 86 94
  rw [e0]
  obtain ⟨g, hg⟩ : ∃ g, g = w.heap.size + 1 + 1 := ⟨_, rfl⟩
  rw [← hg] at b2 ⊢
  obtain ⟨g1, hg1⟩ : ∃ g1, g1 = w.heap.size + 1 := ⟨_, rfl⟩
  rw [← hg1] at b1 ⊢
  have hgz : w.heap.size < g := by omega
  have hg1g : g1 < g := by omega
  have hg1w : w.heap.size ≤ g1 := by omega
  have hgW : g < W0.heap.size := by omega
  clear e0 hg hg1 z0
  go_loopg [7] 8 (fun n i wr => ∃ k : Nat, k + n = 8 ∧ i = .int .i64 k ∧ Blk wr g 94 (val3 (rnds k s)) ∧ Blk wr g1 86 #[.int .u64 0, .int .u64 0, .int .u64 0] ∧ Ext w wr)
  case atStart => exact ⟨0, rfl, rfl, b2, b1, x0⟩
  case round =>
    obtain ⟨k, hk, rfl, hb, hb1, hx⟩ := hrel
    have hok := rnds_ok hs k
    clear b1 b2
    by_cases h : k < 8
    · obtain ⟨x, hx'⟩ : ∃ x, x = (rnds k s).1 := ⟨_, rfl⟩
      obtain ⟨y, hy'⟩ : ∃ y, y = (rnds k s).2.1 := ⟨_, rfl⟩
      obtain ⟨z, hz'⟩ : ∃ z, z = (rnds k s).2.2 := ⟨_, rfl⟩
      obtain ⟨ox, oy, oz⟩ := hok
      have hnx : rnds (k + 1) s = rnd k (x, y, z) := by rw [hx', hy', hz']; rfl
      have hb : Blk wr g 94 #[.int .u64 (x : Int), .int .u64 (y : Int), .int .u64 (z : Int)] := by rw [hx', hy', hz']; exact hb
      rw [← hx'] at ox
      rw [← hy'] at oy
      rw [← hz'] at oz
      clear hx' hy' hz'
      have hlt := hb.lt
      have k8 := h
      obtain ⟨p, hp⟩ : ∃ p, p = elem k 0 x := ⟨_, rfl⟩
      obtain ⟨q, hq⟩ : ∃ q, q = elem k 1 y := ⟨_, rfl⟩
      obtain ⟨t, ht⟩ : ∃ t, t = elem k 2 z := ⟨_, rfl⟩
      have hp1 : p < bP := by rw [hp]; exact powM_lt (by decide) _ _
      have hq1 : q < bP := by rw [hq]; exact powM_lt (by decide) _ _
      have ht1 : t < bP := by rw [ht]; exact powM_lt (by decide) _ _
      obtain ⟨al, hal⟩ : ∃ al, al = addM bP (addM bP p q) t := ⟨_, rfl⟩
      have hal1 : al < bP := by rw [hal]; exact addM_lt' (by decide) _ _
      have hsum : addM bP (addM bP (addM bP 0 p) q) t = al := by rw [sum0, Nat.mod_eq_of_lt hp1, hal]
      obtain ⟨W2, e2, d1, d2, d3, d4⟩ : ∃ W2, (wr.alloc (.cells #[.int .i64 (k : Int)] 3)).alloc (.cells #[.int .u64 0] 22) = W2 ∧ Blk W2 g 94 #[.int .u64 (x : Int), .int .u64 (y : Int), .int .u64 (z : Int)] ∧ Blk W2 wr.heap.size 3 #[.int .i64 (k : Int)] ∧ Blk W2 (wr.heap.size + 1) 22 #[.int .u64 0] ∧ Ext wr W2 :=
        ⟨_, rfl, (hb.alloc _).alloc _, (Blk.new wr _ _).alloc _, by have := Blk.new (wr.alloc (.cells #[.int .i64 (k : Int)] 3)) 22 #[.int .u64 0]; simpa using this, ((Ext.refl wr).alloc _).alloc _⟩
      have m1 := each1_any g wr.heap.size (wr.heap.size + 1) k x y z 0 h ox oy oz (by decide) W2 d1 (by have := d2.cell 0; simpa using this) (by have := d3.cell 0; simpa using this) (d3.frozen 0) (by omega) (by omega) (by omega)
      rw [← hp, ← hq, ← ht, hsum] at m1
      have m2 := fun W => each2_any g (wr.heap.size + 1) p q t al (Nat.lt_trans hp1 (by decide)) (Nat.lt_trans hq1 (by decide)) (Nat.lt_trans ht1 (by decide)) (Nat.lt_trans hal1 (by decide)) W
      have HR : Hid (val3 (rnds (k + 1) s) = #[.int .u64 (addM bP p al : Nat), .int .u64 (addM bP q al : Nat), .int .u64 (addM bP t al : Nat)]) := by
        show _ = _
        rw [hnx]; unfold rnd; simp only [← hp, ← hq, ← ht, ← hal]; rfl
      have HK := Lib.hid hk
      have hg0 : g ≠ wr.heap.size + 1 := by omega
      clear hk hb hp hq ht hp1 hq1 ht1 hal hal1 hsum hnx d1 d2 d3 ox oy oz
      have hb2 : Blk W2 g1 86 #[.int .u64 0, .int .u64 0, .int .u64 0] := by rw [← e2]; exact (hb1.alloc _).alloc _
      have dk : decide ((k : Int) < 8) = true := by simp; omega
      have hsz := hx.size
      have X2 := Lib.hid (hx.trans d4)
      have HB2 := Lib.hid hb2
      clear hb2 hb1
      go_wp2_with (go_at_call 87; refine m1.mono ?_; clear m1; rintro e W3 ⟨rfl, b3, c3, l3⟩)
      refine (m2 _ b3 c3 hg0).mono ?_
      rintro e W4 ⟨rfl, b4, l4⟩
      have hk := HK.out
      have B1 : Blk W4 g1 86 #[.int .u64 0, .int .u64 0, .int .u64 0] := (HB2.out.below (l3 g (Nat.le_refl _) (by omega)) hg1g).below (l4 g (Nat.le_refl _)) hg1g
      have X4 : Ext w W4 := Ext.of ((X2.out.out.trans (l3 _ (by omega) (by omega))).trans (l4 _ (by omega)))
      have B4 := Lib.hid b4
      clear b3 b4 l3 l4 c3 m2 e2
      go_wp2
      go_roundg (gk - 1)
      case measure => omega
      case rel => exact ⟨k + 1, by omega, int_congr (by omega), by rw [HR.out]; exact B4.out, B1, X4⟩
    · obtain rfl : k = 8 := by omega
      have c0 := hb.cell 0
      have c1 := hb.cell 1
      have c2 := hb.cell 2
      simp [val3] at c0 c1 c2
      have v0 := hb1.cell 0
      have v1 := hb1.cell 1
      have v2 := hb1.cell 2
      have f0 := hb1.frozen 0
      have f1 := hb1.frozen 1
      have f2 := hb1.frozen 2
      simp at v0 v1 v2
      clear hk hok hb hb1
      obtain ⟨u, hu⟩ : ∃ u, u = rnds 8 s := ⟨_, rfl⟩
      rw [← hu] at c0 c1 c2
      have HU := Lib.hid hu
      clear hu
      go_wp2
      refine bodyPost_ret (v := .agg #[.int .u64 (u.1 : Int), .int .u64 (u.2.1 : Int), .int .u64 (u.2.2 : Int)]) (by simp [results, Try.results78, go_sem, v0, v1, v2]) rfl ⟨by rw [HU.out]; rfl, ?_⟩
      exact ((hx.setCell (p := ⟨g1, 0, none⟩) hg1w _).setCell (p := ⟨g1, 1, none⟩) hg1w _).setCell (p := ⟨g1, 2, none⟩) hg1w _
end Go.Proofs.Ytaibpldolbemfaa

/- The hash, walked: Sum. -/
namespace Go.Proofs.Ytaibpldolbemfaa
open Go.RowKit Go.Shelf

attribute [local irreducible] mix
def soak (s : Nat × Nat × Nat) : List Nat → Nat × Nat × Nat
  | [] => s
  | [x] => mix (addM bP s.1 x, s.2.1, s.2.2)
  | x :: y :: l => soak (mix (addM bP s.1 x, addM bP s.2.1 y, s.2.2)) l
def soakE (f : Bool) (s : Nat × Nat × Nat) (l : List Nat) : Nat × Nat × Nat := if f = true ∧ l = [] then mix s else soak s l
def hSum (b : List Nat) : Nat × Nat := ((soakE true (0, 0, b.length) (fOf b)).1, (soakE true (0, 0, b.length) (fOf b)).2.1)
theorem soak_one (s : Nat × Nat × Nat) (x : Nat) : soak s [x] = mix (addM bP s.1 x, s.2.1, s.2.2) := by rw [soak]
theorem soak_two (s : Nat × Nat × Nat) (x y : Nat) (l : List Nat) : soak s (x :: y :: l) = soak (mix (addM bP s.1 x, addM bP s.2.1 y, s.2.2)) l := by rw [soak]
theorem soakE_cons (f : Bool) (s : Nat × Nat × Nat) (x : Nat) (l : List Nat) : soakE f s (x :: l) = soak s (x :: l) := by unfold soakE; rw [if_neg (by simp)]
theorem soakE_false (s : Nat × Nat × Nat) (l : List Nat) : soakE false s l = soak s l := by unfold soakE; rw [if_neg (by simp)]
theorem mix_ok {s : Nat × Nat × Nat} (h : ok3 s) : ok3 (mix s) := by unfold mix; exact rnds_ok h 8

/-- A slice of words that are left, in a row of its own. -/
def Left (W : World) (B : Nat) (A : Option Addr) (c : Nat) (l : List Nat) : Prop :=
  l.length ≤ c ∧ (0 < l.length → ∃ g off cs, A = some ⟨g, off, none⟩ ∧ B ≤ g ∧ Blk W g 22 cs ∧ ∀ j u, (uv l)[j]? = some u → cs[off + j]? = some u)
theorem Left.keep {W W' : World} {B : Nat} {A : Option Addr} {c : Nat} {l : List Nat} (h : Left W B A c l) (hk : ∀ g cs, B ≤ g → Blk W g 22 cs → Blk W' g 22 cs) : Left W' B A c l :=
  ⟨h.1, fun hp => by obtain ⟨g, off, cs, e, hb, hB, hc⟩ := h.2 hp; exact ⟨g, off, cs, e, hb, hk g cs hb hB, hc⟩⟩
theorem Left.of_own {W : World} {B : Nat} {v : Value} {l : List Nat} (h : W.ownsRow B 22 1 v l.length (uv l)) : ∃ A c, v = .slice A l.length c ∧ Left W B A c l := by
  rcases h.2 with ⟨rfl, h0⟩ | ⟨g, cap, cur, rfl, hb, hh, hc⟩
  · exact ⟨none, 0, by rw [h0], by omega, fun h => by omega⟩
  · refine ⟨_, cap, rfl, hc.1, fun _ => ⟨g, 0, cur, rfl, hb, hh, fun j u hj => ?_⟩⟩
    rw [← hc.2.2.2] at hj
    rw [List.getElem?_take] at hj
    split at hj
    · rw [Nat.zero_add, ← Array.getElem?_toList]; exact hj
    · cases hj
theorem Left.set {W : World} {B : Nat} {A : Option Addr} {c : Nat} {l : List Nat} (h : Left W B A c l) {p : Addr} (hp : p.block < B) (u : Value) : Left (W.setCell p u) B A c l :=
  h.keep fun _ _ hb hB => hB.far (by omega) u
theorem Left.ext {W W' : World} {B : Nat} {A : Option Addr} {c : Nat} {l : List Nat} (h : Left W B A c l) (he : Ext W W') : Left W' B A c l :=
  h.keep fun _ _ _ hB => hB.below he.out hB.lt
theorem Left.at_ {W : World} {B g off c : Nat} {l : List Nat} (h : Left W B (some ⟨g, off, none⟩) c l) {j x : Nat} (hj : l[j]? = some x) : W.cell? ⟨g, off + j, none⟩ = some (.int .u64 (x : Int)) := by
  obtain ⟨g', off', cs, e, hb, hB, hc⟩ := h.2 (by have := (List.getElem?_eq_some_iff.1 hj).1; omega)
  cases e
  rw [hB.cell]
  exact hc j _ (by simp [uv, hj])
theorem Left.some_ {W : World} {B : Nat} {A : Option Addr} {c : Nat} {l : List Nat} (h : Left W B A c l) (hp : 0 < l.length) : ∃ g off, A = some ⟨g, off, none⟩ := by
  obtain ⟨g, off, cs, e, _⟩ := h.2 hp
  exact ⟨g, off, e⟩
theorem Left.tail {W : World} {B : Nat} {A : Option Addr} {c : Nat} {l : List Nat} (h : Left W B A c l) (m : Nat) (hm : m ≤ l.length) : ∃ A2, sliced A m l.length c 1 = .slice A2 (l.drop m).length (c - m) ∧ Left W B A2 (c - m) (l.drop m) := by
  refine ⟨if c = m then A else A.map (·.add (m * 1)), by unfold sliced; rw [List.length_drop], by have := h.1; rw [List.length_drop]; omega, fun hp => ?_⟩
  rw [List.length_drop] at hp
  obtain ⟨g, off, cs, rfl, hb, hB, hc⟩ := h.2 (by omega)
  have := h.1
  refine ⟨g, off + m, cs, ?_, hb, hB, fun j u hj => ?_⟩
  · rw [if_neg (by omega)]
    simp only [Option.map_some, Nat.mul_one]
    unfold Addr.add
    split
    · rename_i h0; subst h0; rfl
    · rfl
  · rw [Nat.add_assoc]
    refine hc (m + j) u ?_
    rw [← hj]
    simp only [uv, List.getElem?_map, List.getElem?_drop]
theorem head_ {g off m c : Nat} (hm : 0 < m) (hc : m ≤ c) : sliced (some ⟨g, off, none⟩) 0 m c 1 = .slice (some ⟨g, off, none⟩) m c := by
  unfold sliced
  rw [if_neg (by omega)]
  rfl
theorem arr_facts {W : World} {g : Nat} {T : TypeId} {a b c : Value} (h : Blk W g T #[a, b, c]) : W.cell? ⟨g, 0, none⟩ = some a ∧ W.cell? ⟨g, 1, none⟩ = some b ∧ W.cell? ⟨g, 2, none⟩ = some c ∧
    W.frozen? ⟨g, 0, none⟩ = false ∧ W.frozen? ⟨g, 1, none⟩ = false ∧ W.frozen? ⟨g, 2, none⟩ = false :=
  ⟨h.cell 0, h.cell 1, h.cell 2, h.frozen 0, h.frozen 1, h.frozen 2⟩
theorem slice_h (A : Option Addr) (n c m : Nat) (hm : m ≤ c) (w : World) : (Instr.slice 52 (.slice A n c) none (some (.int .i64 (m : Int))) none).run Try.prog w = .ok (sliced A 0 m c 1) w := by
  rw [run_slice_h w 52 A n c Try.underlying52 .i64 (m : Int) (by omega) (by omega)]
  have : (sizeOf (Try.prog.elem 52)).run Try.prog w = .ok 1 w := by kernel_rfl
  rw [this]
  rfl
theorem slice_l (A : Option Addr) (n c m : Nat) (hm : m ≤ n) (w : World) : (Instr.slice 52 (.slice A n c) (some (.int .i64 (m : Int))) none none).run Try.prog w = .ok (sliced A m n c 1) w := by
  rw [run_slice_l w 52 A n c Try.underlying52 .i64 (m : Int) (by omega) (by omega)]
  have : (sizeOf (Try.prog.elem 52)).run Try.prog w = .ok 1 w := by kernel_rfl
  rw [this]
  rfl
/-- Behind a Mix: three stores into the sponge. -/
theorem three {w W W5 : World} {B sb rb c : Nat} {T T2 : TypeId} {u v z : Value} {A : Option Addr} {l : List Nat} {cr : Array Value} (hb : Blk W sb T #[u, v, z]) (hr : Blk W rb T2 cr) (hl : Left W B A c l) (hx : Ext w W) (h5 : Ext W W5) (hsB : sb < B) (_ : rb < B) (hrs : rb < sb) (hws : w.heap.size ≤ rb) (a b d : Value) :
    ∃ W6, ((W5.setCell ⟨sb, 0, none⟩ a).setCell ⟨sb, 1, none⟩ b).setCell ⟨sb, 2, none⟩ d = W6 ∧ Blk W6 sb T #[a, b, d] ∧ Blk W6 rb T2 cr ∧ Left W6 B A c l ∧ Ext w W6 := by
  refine ⟨_, rfl, ?_, ?_, ?_, ?_⟩
  · exact (((hb.below h5.out hb.lt).set_ 0 a).set_ 1 b).set_ 2 d
  · have h := hr.below h5.out hr.lt
    exact ((h.far (p := ⟨sb, 0, none⟩) (by simp; omega) a).far (p := ⟨sb, 1, none⟩) (by simp; omega) b).far (p := ⟨sb, 2, none⟩) (by simp; omega) d
  · exact (((hl.ext h5).set (p := ⟨sb, 0, none⟩) hsB a).set (p := ⟨sb, 1, none⟩) hsB b).set (p := ⟨sb, 2, none⟩) hsB d
  · have hs : w.heap.size ≤ sb := by omega
    exact (((hx.trans h5).setCell (p := ⟨sb, 0, none⟩) hs a).setCell (p := ⟨sb, 1, none⟩) hs b).setCell (p := ⟨sb, 2, none⟩) hs d

/-- Behind one store into the sponge. -/
theorem one_set {w W : World} {B sb rb c : Nat} {T T2 : TypeId} {A : Option Addr} {l : List Nat} {cs cr : Array Value} (hb : Blk W sb T cs) (hr : Blk W rb T2 cr) (hl : Left W B A c l) (hx : Ext w W) (hsB : sb < B) (_ : rb < B) (hrs : rb < sb) (hws : w.heap.size ≤ rb) (k : Nat) (a : Value) :
    ∃ W6, W.setCell ⟨sb, k, none⟩ a = W6 ∧ Blk W6 sb T (cs.setIfInBounds k a) ∧ Blk W6 rb T2 cr ∧ Left W6 B A c l ∧ Ext w W6 :=
  ⟨_, rfl, hb.set_ k a, hr.far (p := ⟨sb, k, none⟩) (by simp; omega) a, hl.set (p := ⟨sb, k, none⟩) hsB a, hx.setCell (p := ⟨sb, k, none⟩) (by simp; omega) a⟩

set_option maxRecDepth 100000 in
set_option maxHeartbeats 1000000 in
theorem Sum_any (b : List Nat) (hl : ∀ x ∈ b, x < 256) (hm : b.length ≤ 1099511627776) (A : Option Addr) (c : Nat) (hmc : b.length ≤ c) (w : World) (hr : Reads w w.heap.size 1 A b.length (bv b)) :
    Calls Try.prog 63 #[.slice A b.length c] w fun e w' => e = .returned (.agg #[.int .u64 ((hSum b).1 : Int), .int .u64 ((hSum b).2 : Int)]) ∧ Ext w w' := by
  have hm1 : (b.length : Int) ≤ 1099511627776 := by omega
  go_enter Try.func63, Try.ntmps63
  obtain ⟨W1, hW1, r1, r2, r3, r4⟩ : ∃ W1, (w.alloc (.cells #[.int .u64 0, .int .u64 0] 55)).alloc (.cells #[.int .u64 0, .int .u64 0, .int .u64 (b.length : Int)] 86) = W1 ∧ Blk W1 w.heap.size 55 #[.int .u64 0, .int .u64 0] ∧
      Blk W1 (w.heap.size + 1) 86 #[.int .u64 0, .int .u64 0, .int .u64 (b.length : Int)] ∧ Ext w W1 ∧ W1.heap.size = w.heap.size + 2 :=
    ⟨_, rfl, (Blk.new w _ _).alloc _, by have := Blk.new (w.alloc (.cells #[.int .u64 0, .int .u64 0] 55)) 86 #[.int .u64 0, .int .u64 0, .int .u64 (b.length : Int)]; simpa using this, ((Ext.refl w).alloc _).alloc _, by simp⟩
  have cOf := fOf_any b hl hm A c hmc W1 ((hr.below r3.out).more r3.size)
  obtain ⟨s, hs⟩ : ∃ s, s = (0, 0, b.length) := ⟨_, rfl⟩
  have hok : ok3 s := by rw [hs]; exact ⟨(by decide : 0 < 18446744073709551616), (by decide : 0 < 18446744073709551616), by show b.length < _; omega⟩
  replace r2 : Blk W1 (w.heap.size + 1) 86 (val3 s) := by rw [hs]; exact r2
  obtain ⟨T, hT⟩ : ∃ T, T = soakE true s (fOf b) := ⟨_, rfl⟩
  have hTT : Hid (hSum b = (T.1, T.2.1)) := by show _ = _; rw [hT, hs]; rfl
  obtain ⟨L, hL⟩ : ∃ L, L = fOf b := ⟨_, rfl⟩
  have hL1 : L.length ≤ 1099511627776 := by rw [hL]; unfold fOf; simp [cnt]; omega
  have hL2 : ∀ x ∈ L, x < 18446744073709551616 := by
    intro x hx
    rw [hL] at hx
    simp only [fOf, List.mem_map] at hx
    obtain ⟨j, _, rfl⟩ := hx
    have := le_lt (ck b j) (fun y hy => hl y (List.mem_of_mem_drop (List.mem_of_mem_take hy)))
    have h7 : (ck b j).length ≤ 7 := by rw [ck_length]; unfold cLen; omega
    have := Nat.lt_of_lt_of_le this (Nat.pow_le_pow_right (by decide) h7)
    exact Nat.lt_trans this (by decide)
  rw [← hL] at cOf hT
  rw [r4] at cOf
  obtain ⟨B, hB⟩ : ∃ B, B = w.heap.size + 2 := ⟨_, rfl⟩
  obtain ⟨sb, hsb⟩ : ∃ sb, sb = w.heap.size + 1 := ⟨_, rfl⟩
  obtain ⟨rb, hrb⟩ : ∃ rb, rb = w.heap.size := ⟨_, rfl⟩
  rw [← hB] at cOf
  rw [← hsb] at r2
  have HT := Lib.hid hT
  have HL2 := Lib.hid hL2
  have HO := Lib.hid hok
  have HX := Lib.hid r3
  have R1 := Lib.hid r1
  have R2 := Lib.hid r2
  clear hT hL hs hL2 hok r1 r2 r3 hr hl
  go_wp2_with (go_at_call 76; refine cOf.mono ?_; clear cOf; rintro e W2 ⟨v, rfl, ho, hb⟩; obtain ⟨A2, c2, rfl, hleft⟩ := Left.of_own ho; clear ho)
  rw [← hsb, ← hrb]
  have hbx : Ext W1 W2 := Ext.of (by rw [r4, ← hB]; exact hb)
  have Z1 : Hid (Blk W2 rb 55 #[.int .u64 0, .int .u64 0]) := by
    show Blk _ _ _ _
    rw [hrb]; exact R1.out.below hbx.out R1.out.lt
  have Z2 : Hid (Blk W2 sb 86 (val3 s)) := Lib.hid (R2.out.below hbx.out R2.out.lt)
  have Z3 : Hid (Ext w W2) := Lib.hid (HX.out.trans hbx)
  have hsB : sb < B := by omega
  have hrB : rb < B := by omega
  have hrs : rb < sb := by omega
  have hws : w.heap.size ≤ rb := by omega
  clear hbx hb hW1 r4 R1 R2 HX hB hsb hrb
  go_loopg [4, 5] (L.length + 1) (fun m s4 s5 wr => ∃ (L : List Nat) (f : Bool) (s : Nat × Nat × Nat) (A : Option Addr) (c : Nat), s4 = .slice A L.length c ∧ s5 = .bool f ∧ m = L.length + (if f = true then 1 else 0) ∧ L.length ≤ 1099511627776 ∧ ok3 s ∧ (∀ x ∈ L, x < 18446744073709551616) ∧
    T = soakE f s L ∧ Left wr B A c L ∧ Blk wr sb 86 (val3 s) ∧ Blk wr rb 55 #[.int .u64 0, .int .u64 0] ∧ Ext w wr)
  case atStart => exact ⟨L, true, s, A2, c2, rfl, rfl, rfl, hL1, HO.out, HL2.out, HT.out, hleft, Z2.out, Z1.out, Z3.out⟩
  case round =>
    obtain ⟨L, f, s, A, c, rfl, rfl, hgk, hl1, hok, hl2, hT, hle, hb, hrb, hx⟩ := hrel
    clear HT HL2 HO Z1 Z2 Z3 hleft hL1
    rcases L with _ | ⟨x, _ | ⟨y, L⟩⟩
    · cases f with
      | true =>
        have hT' : T = mix s := by rw [hT]; rfl
        obtain ⟨m, hm⟩ : ∃ m, m = mix s := ⟨_, rfl⟩
        have hmo : ok3 m := by rw [hm]; exact mix_ok hok
        have mx := fun W => mix_any s hok W
        rw [← hm] at mx hT'
        unfold val3 at mx
        obtain ⟨A3, hA3, hl3⟩ := hle.tail 0 (Nat.le_refl _)
        have x2 : ∀ w, (Instr.slice 52 (.slice A 0 c) (some (.int .i64 0)) none none).run Try.prog w = .ok (.slice A3 0 c) w := fun w => by
          have e : sliced A 0 0 c 1 = .slice A3 0 c := by simpa using hA3
          rw [← e]; exact slice_l A 0 c 0 (Nat.zero_le _) w
        have kmin : min (2 : Int) 0 = 0 := rfl
        obtain ⟨s0, s1, s2, f0, f1, f2⟩ := arr_facts hb
        have HB := Lib.hid hb
        have HR := Lib.hid hrb
        have HX := Lib.hid hx
        have HT' := Lib.hid hT'
        have HO := Lib.hid hmo
        have HL := Lib.hid hl3
        have HGK := Lib.hid hgk
        have HL2 : Hid (∀ x ∈ ([] : List Nat), x < 18446744073709551616) := Lib.hid hl2
        simp only [List.length_nil]
        clear hT hb hrb hx hT' hm hmo hok hl2 hle hA3 hl3 hgk
        go_wp2
        refine wp_loop_rounds 1 ?_
        rw [rounds_succ]
        go_wp2_with (go_at_call 78; refine (mx _).mono ?_; clear mx; rintro e W5 ⟨rfl, hx5⟩; obtain ⟨s0, s1, s2, f0, f1, f2⟩ := arr_facts (HB.out.below hx5.out HB.out.lt))
        obtain ⟨W6, e6, b6, r6, l6, x6⟩ := three (sb := sb) HB.out HR.out HL.out HX.out hx5 hsB hrB hrs hws (.int .u64 (m.1 : Int)) (.int .u64 (m.2.1 : Int)) (.int .u64 (m.2.2 : Int))
        rw [e6]
        have B6 := Lib.hid b6
        have hgk := HGK.out
        clear e6 b6 s0 s1 s2 f0 f1 f2 hx5
        go_wp2
        go_roundg (([] : List Nat).length)
        case measure => simp at hgk ⊢; omega
        case rel => exact ⟨([] : List Nat), false, m, A3, c, rfl, rfl, rfl, hl1, HO.out, HL2.out, HT'.out, l6, B6.out, r6, x6⟩
      | false =>
        have hT' : T = s := by rw [hT]; rfl
        obtain ⟨s0, s1, s2, f0, f1, f2⟩ := arr_facts hb
        have hsp : ∀ W : World, (Instr.arrayAt 55 (.slice (some ⟨sb, 0, none⟩) 2 3)).run Try.prog W = .ok (.pointer (some ⟨sb, 0, none⟩)) W := fun _ => by kernel_rfl
        have q0 := hrb.cell 0
        have q1 := hrb.cell 1
        have p0 := hrb.frozen 0
        have p1 := hrb.frozen 1
        simp at q0 q1
        have HX := Lib.hid hx
        have HT' := Lib.hid hT'
        simp only [List.length_nil]
        clear hT hb hrb hx hT' hok hl2 hle hgk
        go_wp2
        refine bodyPost_ret (v := .agg #[.int .u64 (s.1 : Int), .int .u64 (s.2.1 : Int)]) (by simp [results, Try.results63, go_sem, q0, q1]) rfl ⟨by rw [hTT.out, HT'.out], ?_⟩
        exact (HX.out.setCell (p := ⟨rb, 0, none⟩) hws _).setCell (p := ⟨rb, 1, none⟩) hws _
    · have hT' : T = mix (addM bP s.1 x, s.2.1, s.2.2) := by rw [hT, soakE_cons, soak_one]
      obtain ⟨g, off, rfl⟩ := hle.some_ (by simp)
      obtain ⟨A3, hA3, hl3⟩ := hle.tail 1 (by simp)
      have hcx := hle.at_ (j := 0) (x := x) rfl
      rw [Nat.add_zero] at hcx
      have hc1 : 1 ≤ c := hle.1
      have hx64 : x < 18446744073709551616 := hl2 x (by simp)
      have cA := fun W => fAdd_any s.1 x hok.1 hx64 W
      obtain ⟨p, hp⟩ : ∃ p, p = addM bP s.1 x := ⟨_, rfl⟩
      have hp0 : p < bP := by rw [hp]; exact addM_lt' (by decide) _ _
      have hp1 : p < 18446744073709551616 := Nat.lt_trans hp0 (by decide)
      have hok' : ok3 (p, s.2.1, s.2.2) := ⟨hp1, hok.2⟩
      have mx := fun W => mix_any (p, s.2.1, s.2.2) hok' W
      rw [← hp] at cA hT'
      obtain ⟨m, hm⟩ : ∃ m, m = mix (p, s.2.1, s.2.2) := ⟨_, rfl⟩
      have hmo : ok3 m := by rw [hm]; exact mix_ok hok'
      rw [← hm] at mx hT'
      unfold val3 at mx
      have x2 : ∀ w, (Instr.slice 52 (.slice (some ⟨g, off, none⟩) 1 c) (some (.int .i64 1)) none none).run Try.prog w = .ok (.slice A3 0 (c - 1)) w := fun w => by
        have e : sliced (some ⟨g, off, none⟩) 1 1 c 1 = .slice A3 0 (c - 1) := by simpa using hA3
        rw [← e]; exact slice_l (some ⟨g, off, none⟩) 1 c 1 (Nat.le_refl _) w
      have kmin : min (2 : Int) 1 = 1 := rfl
      obtain ⟨s0, s1, s2, f0, f1, f2⟩ := arr_facts hb
      obtain ⟨W4, e4, b4, r4, l4, x4⟩ := one_set hb hrb hl3 hx hsB hrB hrs hws 0 (.int .u64 (p : Int))
      have HB : Hid (Blk W4 sb 86 #[.int .u64 (p : Int), .int .u64 (s.2.1 : Int), .int .u64 (s.2.2 : Int)]) := Lib.hid b4
      have HR := Lib.hid r4
      have HX := Lib.hid x4
      have HT' := Lib.hid hT'
      have HO := Lib.hid hmo
      have HL := Lib.hid l4
      have HGK := Lib.hid hgk
      have HL2 : Hid (∀ x ∈ ([] : List Nat), x < 18446744073709551616) := Lib.hid (by simp)
      have el : [x].length = 1 := rfl
      rw [el]
      have g4 := arr_facts HB.out
      obtain ⟨t0, t1, t2, -, -, -⟩ := g4
      clear hT hb hrb hx hT' hm hmo hok hl2 hle hA3 hl3 hgk b4 r4 l4 x4 hok' hp hx64 hp1 hp0 el hl1
      have hc1' : (1 : Int) ≤ c := by omega
      cases f <;> (
        go_wp2
        refine wp_loop_rounds 2 ?_
        rw [rounds_succ]
        go_wp2_with (go_at_call 77; refine (cA _).mono ?_; clear cA; rintro e w' ⟨rfl, rfl⟩)
        rw [rounds_succ]
        go_wp2_with (go_at_call 78; refine (mx _).mono ?_; clear mx; rintro e W5 ⟨rfl, hx5⟩; obtain ⟨s0, s1, s2, f0, f1, f2⟩ := arr_facts (HB.out.below hx5.out HB.out.lt))
        obtain ⟨W6, e6, b6, r6, l6, x6⟩ := three (sb := sb) HB.out HR.out HL.out HX.out hx5 hsB hrB hrs hws (.int .u64 (m.1 : Int)) (.int .u64 (m.2.1 : Int)) (.int .u64 (m.2.2 : Int))
        rw [e6]
        have B6 := Lib.hid b6
        have hgk := HGK.out
        clear e6 b6 s0 s1 s2 f0 f1 f2 hx5
        go_wp2
        go_roundg 0
        case measure => simp at hgk; omega
        case rel => exact ⟨[], false, m, A3, c - 1, rfl, rfl, rfl, by simp, HO.out, HL2.out, HT'.out, l6, B6.out, r6, x6⟩)
    · have hT' : T = soak (mix (addM bP s.1 x, addM bP s.2.1 y, s.2.2)) L := by rw [hT, soakE_cons, soak_two]
      obtain ⟨g, off, rfl⟩ := hle.some_ (by simp)
      obtain ⟨A3, hA3, hl3⟩ := hle.tail 2 (by simp)
      have hcx := hle.at_ (j := 0) (x := x) rfl
      rw [Nat.add_zero] at hcx
      obtain ⟨n, hn⟩ : ∃ n, n = (x :: y :: L).length := ⟨_, rfl⟩
      have hnL : L.length = n - 2 := by rw [hn]; simp
      have hn2 : 2 ≤ n := by rw [hn]; simp
      have hc1 : n ≤ c := by rw [hn]; exact hle.1
      have hnb : n ≤ 1099511627776 := by rw [hn]; exact hl1
      have hx64 : x < 18446744073709551616 := hl2 x (by simp)
      have hy64 : y < 18446744073709551616 := hl2 y (by simp)
      have cA := fun W => fAdd_any s.1 x hok.1 hx64 W
      have cB := fun W => fAdd_any s.2.1 y hok.2.1 hy64 W
      obtain ⟨p, hp⟩ : ∃ p, p = addM bP s.1 x := ⟨_, rfl⟩
      obtain ⟨q, hq⟩ : ∃ q, q = addM bP s.2.1 y := ⟨_, rfl⟩
      have hp0 : p < bP := by rw [hp]; exact addM_lt' (by decide) _ _
      have hq0 : q < bP := by rw [hq]; exact addM_lt' (by decide) _ _
      have hok' : ok3 (p, q, s.2.2) := ⟨Nat.lt_trans hp0 (by decide), Nat.lt_trans hq0 (by decide), hok.2.2⟩
      have mx := fun W => mix_any (p, q, s.2.2) hok' W
      rw [← hp] at cA hT'
      rw [← hq] at cB hT'
      obtain ⟨m, hm⟩ : ∃ m, m = mix (p, q, s.2.2) := ⟨_, rfl⟩
      have hmo : ok3 m := by rw [hm]; exact mix_ok hok'
      rw [← hm] at mx hT'
      unfold val3 at mx
      rw [← hn] at hA3 hgk ⊢
      have x2 : ∀ w, (Instr.slice 52 (.slice (some ⟨g, off, none⟩) n c) (some (.int .i64 2)) none none).run Try.prog w = .ok (.slice A3 L.length (c - 2)) w := fun w => by
        have e : sliced (some ⟨g, off, none⟩) 2 n c 1 = .slice A3 L.length (c - 2) := hA3
        rw [← e]; exact slice_l (some ⟨g, off, none⟩) n c 2 hn2 w
      have kmin : min (2 : Int) (n : Int) = 2 := by omega
      obtain ⟨s0, s1, s2, f0, f1, f2⟩ := arr_facts hb
      obtain ⟨W3, e3, b3, r3, l3, x3⟩ := one_set hb hrb hle hx hsB hrB hrs hws 0 (.int .u64 (p : Int))
      have l3' := hl3.set (p := ⟨sb, 0, none⟩) hsB (.int .u64 (p : Int))
      rw [e3] at l3'
      obtain ⟨W4, e4, b4, r4, l4, x4⟩ := one_set b3 r3 l3' x3 hsB hrB hrs hws 1 (.int .u64 (q : Int))
      have hcy := l3.at_ (j := 1) (x := y) rfl
      have HB : Hid (Blk W4 sb 86 #[.int .u64 (p : Int), .int .u64 (q : Int), .int .u64 (s.2.2 : Int)]) := Lib.hid b4
      have HB3 : Blk W3 sb 86 #[.int .u64 (p : Int), .int .u64 (s.2.1 : Int), .int .u64 (s.2.2 : Int)] := b3
      obtain ⟨u0, u1, u2, v0, v1, v2⟩ := arr_facts HB3
      have HR := Lib.hid r4
      have HX := Lib.hid x4
      have HT' := Lib.hid (show T = soakE false m L by rw [hT', soakE_false])
      have HO := Lib.hid hmo
      have HL : Hid (Left W4 B A3 (c - 2) L) := Lib.hid l4
      have HGK := Lib.hid hgk
      have HL2 : Hid (∀ x ∈ L, x < 18446744073709551616) := Lib.hid (fun z hz => hl2 z (by simp [hz]))
      obtain ⟨t0, t1, t2, -, -, -⟩ := arr_facts HB.out
      clear hT hb hrb hx hT' hm hmo hok hl2 hle hA3 hl3 hgk b4 r4 l4 x4 hok' hp hx64 hl1 hq hp0 hq0 hy64 b3 r3 l3 x3 l3' HB3 hn
      have HNL := Lib.hid hnL
      clear hnL
      have hn2' : (2 : Int) ≤ n := by omega
      have hc1' : (n : Int) ≤ c := by omega
      cases f <;> (
        go_wp2
        refine wp_loop_rounds 3 ?_
        rw [rounds_succ]
        go_wp2_with (go_at_call 77; refine (cA _).mono ?_; clear cA; rintro e w' ⟨rfl, rfl⟩)
        rw [rounds_succ]
        go_wp2_with (go_at_call 77; refine (cB _).mono ?_; clear cB; rintro e w' ⟨rfl, rfl⟩)
        rw [rounds_succ]
        go_wp2_with (go_at_call 78; refine (mx _).mono ?_; clear mx; rintro e W5 ⟨rfl, hx5⟩; obtain ⟨s0, s1, s2, f0, f1, f2⟩ := arr_facts (HB.out.below hx5.out HB.out.lt))
        obtain ⟨W6, e6, b6, r6, l6, x6⟩ := three (sb := sb) HB.out HR.out HL.out HX.out hx5 hsB hrB hrs hws (.int .u64 (m.1 : Int)) (.int .u64 (m.2.1 : Int)) (.int .u64 (m.2.2 : Int))
        rw [e6]
        have B6 := Lib.hid b6
        have hgk := HGK.out
        have hnL := HNL.out
        clear e6 b6 s0 s1 s2 f0 f1 f2 hx5
        go_wp2
        go_roundg (L.length)
        case measure => simp at hgk; omega
        case rel => exact ⟨L, false, m, A3, c - 2, rfl, rfl, rfl, by have := HNL.out; omega, HO.out, HL2.out, HT'.out, l6, B6.out, r6, x6⟩)
end Go.Proofs.Ytaibpldolbemfaa

/- append of a string's bytes onto a row of the call's own. -/
namespace Go.Proofs.Ytaibpldolbemfaa
open Go.RowKit

section
variable {P : Program} (w : World)

theorem run_append_room_own_src (t tx ty e : TypeId) (i : TypeInfo) (ht : P.underlying t = some (.slice e)) (hi : P.info? e = some i)
    (g sLen sCap : Nat) (cur : Array Value) (hg : w.heap[g]? = some (.cells cur e (0, 0)))
    (x : Value) (m : Nat) (news : List Value) (hs : Src P i.size tx x m news w) (hroom : sLen + m ≤ sCap) (hfit : sLen * i.size + news.length ≤ cur.size) :
    (Builtin.append_ #[t, tx] ty #[.slice (some ⟨g, 0, none⟩) sLen sCap, x]).run P w =
      .ok (.slice (some ⟨g, 0, none⟩) (sLen + m) sCap) (w.setRow g (cur.toList.take (sLen * i.size) ++ news ++ cur.toList.drop (sLen * i.size + news.length)).toArray) := by
  have hst := run_storeCells_at P g (sLen * i.size) e news 0 cur w hg (by simpa using hfit) hs.one
  simp only [Nat.add_zero] at hst
  rcases hs.kind with ⟨e', hk⟩ | hk <;> simp [Builtin.append_, run_underlying ht, run_underlying hk, sizeOf, typeInfo, hi, hs.len, hroom, hs.cells, Addr.add_lit, hst]

theorem run_append_own_src (base : Nat) (t tx ty e : TypeId) (i : TypeInfo) (z : Value) (size bytes : Nat) (ht : P.underlying t = some (.slice e)) (hi : P.info? e = some i) (hz : i.zero = some z)
    (hsize : i.size = size) (hby : i.bytes = bytes) (hzs : z.cells.size = size)
    (v : Value) (n : Nat) (xs : List Value) (hown : w.ownsRow base e size v n xs)
    (x : Value) (m : Nat) (news : List Value) (hs : Src P size tx x m news w)
    (h63 : n + m ≤ maxLen) (hbytes : (n + m) * bytes ≤ 140737488355328) (hbase : base ≤ w.heap.size) (hn : v ≠ .slice none 0 0) :
    ∃ v' w', (Builtin.append_ #[t, tx] ty #[v, x]).run P w = .ok v' w' ∧ w'.ownsRow base e size v' (n + m) (xs ++ news) ∧ w.grownBy w' v.ownBlock ∧ v' ≠ .slice none 0 0 := by
  subst hsize
  subst hby
  have hl := hs.newsLen
  have hsmall : n + m ≤ 9223372036854775807 := by simp only [maxLen] at h63; omega
  have hlen : (xs ++ news).length = (n + m) * i.size := by rw [List.length_append, hown.1, hl, Nat.add_mul]
  rcases hown.2 with ⟨rfl, _⟩ | ⟨g, cap, cur, rfl, hbg, hg, hnc, hcm, hcs, htake⟩
  · exact absurd rfl hn
  · by_cases hroom : n + m ≤ cap
    · have hfit : n * i.size + news.length ≤ cur.size := by rw [hl, hcs, ← Nat.add_mul]; exact Nat.mul_le_mul_right _ hroom
      have hr := run_append_room_own_src (P := P) w t tx ty e i ht hi g n cap cur hg x m news hs hroom hfit
      refine ⟨_, _, hr, ⟨hlen, .inr ⟨g, cap, _, rfl, hbg, setRow_heap w g cur _ e _ hg, hroom, hcm, ?_, ?_⟩⟩, ⟨rfl, rfl, rfl, by simp, fun k _ hk => setRow_other w g k _ (fun e => hk (by simp [Value.ownBlock, e]))⟩, by simp⟩
      · simp only [List.size_toArray, List.length_append, List.length_take, List.length_drop, Array.length_toList]
        omega
      · rw [htake, ← hlen]
        exact List.take_left
    · have holds : (Builtin.firstCells i.size n (.slice (some ⟨g, 0, none⟩) n cap)).run P w.drew = .ok xs.toArray w.drew := run_firstCells_some w.drew i.size n ⟨g, 0, none⟩ n cap xs hown.1 (by simpa using hown.cells (g := g) rfl)
      have hr := run_append_grow_src (P := P) w t tx ty e i z ht hi hz (some ⟨g, 0, none⟩) n cap xs holds x m news hs (by omega) (by omega) (growslice_fits (by omega) hbytes)
      have hge := grownCap_ge w (n + m) cap e
      have hcm' : grownCap w (n + m) cap e ≤ maxLen := grownCap_le_maxLen w (n + m) cap e h63
      refine ⟨_, _, hr, ⟨hlen, .inr ⟨w.heap.size, _, _, rfl, hbase, heap_alloc_new w.drew _, hge, hcm', ?_, ?_⟩⟩, ⟨rfl, rfl, rfl, by simp, fun k hk _ => Below.heap_alloc w.drew _ k hk⟩, by simp⟩
      · simp only [Array.size_append, List.size_toArray, size_zeroCells, hzs, hlen, ← Nat.add_mul]
        congr 1
        omega
      · simp only [Array.toList_append]
        rw [← hlen]
        exact List.take_left

theorem wpList_append_own_src {ops : Array Oper} {rest : List Oper} {o : Oper} {a : Act} {Q : Exit → Act → World → Prop} (hgd : o.guard = none) (s x : Operand) (t tx : TypeId)
    (ho : o.op = .call { callee := .builtin .append, args := #[s, x], argTypes := #[t, tx] })
    (base : Nat) (e : TypeId) (i : TypeInfo) (z : Value) (size bytes : Nat) (ht : P.underlying t = some (.slice e)) (hi : P.info? e = some i) (hz : i.zero = some z)
    (hsize : i.size = size) (hby : i.bytes = bytes) (hzs : z.cells.size = size)
    (v : Value) (n : Nat) (xs : List Value) (hs : a.eval s = v) (hown : w.ownsRow base e size v n xs)
    (xv : Value) (m : Nat) (news : List Value) (hx : a.eval x = xv) (hsrc : Src P size tx xv m news w)
    (h63 : n + m ≤ maxLen) (hbytes : (n + m) * bytes ≤ 140737488355328) (hbase : base ≤ w.heap.size) (hn : v ≠ .slice none 0 0)
    (h : ∀ v' w', w'.ownsRow base e size v' (n + m) (xs ++ news) → w.grownBy w' v.ownBlock → v' ≠ .slice none 0 0 → wpList P ops Q rest (a.put o.dst v') w') : wpList P ops Q (o :: rest) a w :=
  wpList_plain hgd fun _ hK => by
    obtain ⟨v', w', hrun, h2, h3, h4⟩ := run_append_own_src (P := P) w base t tx o.type e i z size bytes ht hi hz hsize hby hzs v n xs hown xv m news hsrc h63 hbytes hbase hn
    unfold Oper.wp execOp
    simp only [ho, resolve, invoke, builtin, Sem.run_bind, Sem.run_pure, Result.andThen_ok, List.map_toArray, List.map_cons, List.map_nil, hs, hx, hrun]
    exact hK _ _ (h v' w' h2 h3 h4)
end

/-- A string's bytes as numbers. -/
def strN (s : ByteArray) : List Nat := s.data.toList.map (·.toNat)
theorem strN_length (s : ByteArray) : (strN s).length = s.size := by unfold strN; rw [List.length_map, Array.length_toList]; rfl
theorem byteCells_strN (s : ByteArray) : byteCells s = (strN s).map fun x : Nat => Value.int .u8 (x : Int) := by unfold byteCells strN; rw [List.map_map]; rfl
theorem strN_lt (s : ByteArray) : ∀ x ∈ strN s, x < 256 := by
  intro x hx
  simp only [strN, List.mem_map] at hx
  obtain ⟨b, _, rfl⟩ := hx
  exact b.toNat_lt
end Go.Proofs.Ytaibpldolbemfaa

/- The hash, walked: Bytes. -/
namespace Go.Proofs.Ytaibpldolbemfaa
open Go.RowKit

def bytes2 (a b : Nat) : List Nat := be a 8 ++ be b 8
theorem be_length (n k : Nat) : (be n k).length = k := beN_length n k k
theorem bytes2_length (a b : Nat) : (bytes2 a b).length = 16 := by rw [bytes2, List.length_append, be_length, be_length]

end Go.Proofs.Ytaibpldolbemfaa
