/- Parts of the proofs, put together: Si, Sh10, Qu, Si2, Si3, Qu2, Qu3, Qu4, Qu5, Qu6, Qu7, Qu8, Qu9, Qu10, Qu11. -/
import Derived.Shelf.Abstract
import Derived.Test.YtiecfamjnnmpaaaQ1
import Derived.Test.YtiecfamjnnmpaaaQ4
import Derived.Test.YtiecfamjnnmpaaaQ10
import Derived.Test.YtiecfamjnnmpaaaQ11
import Derived.Test.YtiecfamjnnmpaaaQ12
/- Signing, walked: Secret, Public, Challenge (sign and greatsealref04). Printed by gen_si.py. -/
namespace Go.Proofs.Ytiecfamjnnmpaaa
set_option linter.unusedVariables false
open Go.RowKit Go.Shelf
attribute [local irreducible] mix hSum hNum

theorem mix_w (s : Nat × Nat × Nat) : (mix s).1 < 18446744073709551616 ∧ (mix s).2.1 < 18446744073709551616 := by
  obtain ⟨p, q, _⟩ := rnd_lt 7 (rnds 7 s)
  have e : mix s = rnd 7 (rnds 7 s) := by unfold mix; rfl
  rw [e]
  exact ⟨Nat.lt_trans p (by decide), Nat.lt_trans q (by decide)⟩
theorem soak_w : ∀ (l : List Nat) (s : Nat × Nat × Nat), s.1 < 18446744073709551616 → s.2.1 < 18446744073709551616 → (soak s l).1 < 18446744073709551616 ∧ (soak s l).2.1 < 18446744073709551616
  | [], s, h1, h2 => by rw [soak]; exact ⟨h1, h2⟩
  | [x], s, _, _ => by rw [soak_one]; exact mix_w _
  | x :: y :: l, s, _, _ => by rw [soak_two]; exact soak_w l _ (mix_w _).1 (mix_w _).2
theorem hSum_w (l : List Nat) : (hSum l).1 < 18446744073709551616 ∧ (hSum l).2 < 18446744073709551616 := by
  unfold hSum soakE
  split
  · exact mix_w _
  · exact soak_w _ _ (show 0 < 18446744073709551616 by decide) (show 0 < 18446744073709551616 by decide)

/-- Slices built one after another, as parts. -/
theorem parts_new {W : World} {T : TypeId} {vs : Array Value} {ps : List (List Nat)} (hl : vs.size = ps.length) (h : ∀ (j : Nat) (p : List Nat), ps[j]? = some p → ∃ a c, vs[j]? = some (Value.slice a p.length c) ∧ p.length ≤ c ∧ Reads W W.heap.size 1 a p.length (bv p)) :
    Parts (W.alloc (.cells vs T)) (W.alloc (.cells vs T)).heap.size (some ⟨W.heap.size, 0, none⟩) ps := by
  refine ⟨vs.toList, by rw [← hl]; exact blk_reads (Blk.new W T vs), fun j p hj => ?_⟩
  obtain ⟨a, c, h1, h2, h3⟩ := h j p hj
  exact ⟨a, c, by simpa using h1, h2, (h3.alloc (Nat.le_refl _) _).more (by simp)⟩
theorem parts_1 {W : World} {T : TypeId} {A : Option Addr} {c : Nat} {l : List Nat} (hc : l.length ≤ c) (hr : Reads W W.heap.size 1 A l.length (bv l)) :
    Parts (W.alloc (.cells #[.slice A l.length c] T)) (W.alloc (.cells #[.slice A l.length c] T)).heap.size (some ⟨W.heap.size, 0, none⟩) [l] :=
  parts_new rfl fun j p hj => match j, hj with | 0, hj => by cases hj; exact ⟨A, c, rfl, hc, hr⟩
theorem parts_2 {W : World} {T : TypeId} {A B : Option Addr} {c n : Nat} {l : List Nat} (hb : Reads W W.heap.size 1 B 8 (bv (be n 8))) (hc : l.length ≤ c) (hr : Reads W W.heap.size 1 A l.length (bv l)) :
    Parts (W.alloc (.cells #[.slice B 8 8, .slice A l.length c] T)) (W.alloc (.cells #[.slice B 8 8, .slice A l.length c] T)).heap.size (some ⟨W.heap.size, 0, none⟩) [be n 8, l] :=
  parts_new rfl fun j p hj => match j, hj with
    | 0, hj => by cases hj; exact ⟨B, 8, by rw [be_length]; rfl, by rw [be_length]; exact Nat.le_refl _, by rw [be_length]; exact hb⟩
    | 1, hj => by cases hj; exact ⟨A, c, rfl, hc, hr⟩
theorem parts_3 {W : World} {T : TypeId} {A B C : Option Addr} {c n m : Nat} {l : List Nat} (hb : Reads W W.heap.size 1 B 8 (bv (be n 8))) (hd : Reads W W.heap.size 1 C 8 (bv (be m 8))) (hc : l.length ≤ c) (hr : Reads W W.heap.size 1 A l.length (bv l)) :
    Parts (W.alloc (.cells #[.slice B 8 8, .slice C 8 8, .slice A l.length c] T)) (W.alloc (.cells #[.slice B 8 8, .slice C 8 8, .slice A l.length c] T)).heap.size (some ⟨W.heap.size, 0, none⟩) [be n 8, be m 8, l] :=
  parts_new rfl fun j p hj => match j, hj with
    | 0, hj => by cases hj; exact ⟨B, 8, by rw [be_length]; rfl, by rw [be_length]; exact Nat.le_refl _, by rw [be_length]; exact hb⟩
    | 1, hj => by cases hj; exact ⟨C, 8, by rw [be_length]; rfl, by rw [be_length]; exact Nat.le_refl _, by rw [be_length]; exact hd⟩
    | 2, hj => by cases hj; exact ⟨A, c, rfl, hc, hr⟩
theorem be_lt8 (n : Nat) : ∀ x ∈ be n 8, x < 256 := be_lt n 8
theorem lts1 {l : List Nat} (hl : ∀ x ∈ l, x < 256) : ∀ p ∈ [l], ∀ x ∈ p, x < 256 := by intro p hp; simp only [List.mem_cons, List.not_mem_nil, or_false] at hp; subst hp; exact hl
theorem lts2 (n : Nat) {l : List Nat} (hl : ∀ x ∈ l, x < 256) : ∀ p ∈ [be n 8, l], ∀ x ∈ p, x < 256 := by
  intro p hp; simp only [List.mem_cons, List.not_mem_nil, or_false] at hp
  rcases hp with rfl | rfl
  · exact be_lt8 n
  · exact hl
theorem lts3 (n m : Nat) {l : List Nat} (hl : ∀ x ∈ l, x < 256) : ∀ p ∈ [be n 8, be m 8, l], ∀ x ∈ p, x < 256 := by
  intro p hp; simp only [List.mem_cons, List.not_mem_nil, or_false] at hp
  rcases hp with rfl | rfl | rfl
  · exact be_lt8 n
  · exact be_lt8 m
  · exact hl
theorem strN6 (s : ByteArray) : (strN s).length = s.size := strN_length s
theorem len1 (tag : ByteArray) (ht : tag.size ≤ 10) {l : List Nat} (h : l.length ≤ 1000) : (coded (strN tag) [l]).length ≤ 1099511627776 := by simp [coded, be_length, strN_length]; omega
theorem len2 (tag : ByteArray) (ht : tag.size ≤ 10) (n : Nat) {l : List Nat} (h : l.length ≤ 1000) : (coded (strN tag) [be n 8, l]).length ≤ 1099511627776 := by simp [coded, be_length, strN_length]; omega
theorem len3 (tag : ByteArray) (ht : tag.size ≤ 10) (n m : Nat) {l : List Nat} (h : l.length ≤ 1000) : (coded (strN tag) [be n 8, be m 8, l]).length ≤ 1099511627776 := by simp [coded, be_length, strN_length]; omega
theorem wrap_one {n : Nat} (h : n < bR) : IntKind.u64.wrap ((n : Int) + 1) = ((n + 1 : Nat) : Int) ∧ IntKind.u64.wrap (1 + (n : Int)) = ((n + 1 : Nat) : Int) := by
  unfold bR at h
  rw [IntKind.wrap_u64, IntKind.wrap_u64]; omega

theorem tagNum (tag : ByteArray) (ps : List (List Nat)) (m : Nat) (hm : m < 18446744073709551616) (hps : ∀ p ∈ ps, ∀ x ∈ p, x < 256) (htot : (coded (strN tag) ps).length ≤ 1099511627776) : ∃ x y : Nat,
    (∀ A c W, ps.length ≤ c → Parts W W.heap.size A ps → Calls Try.prog 62 #[.string tag, .slice A ps.length c] W fun e w' => e = .returned (.agg #[.int .u64 (x : Int), .int .u64 (y : Int)]) ∧ Ext W w') ∧
    (∀ W, Calls Try.prog 61 #[.agg #[.int .u64 (x : Int), .int .u64 (y : Int)], .int .u64 (m : Nat)] W fun e w' => e = .returned (.int .u64 (hNum tag ps m : Nat)) ∧ Ext W w') := by
  refine ⟨(hSum (coded (strN tag) ps)).1, (hSum (coded (strN tag) ps)).2, fun A c W hc h => Tagged_any tag ps hps A c W h htot, fun W => ?_⟩
  unfold hNum
  exact Num_any _ _ m (hSum_w _).1 (hSum_w _).2 hm W

set_option maxRecDepth 100000 in
set_option maxHeartbeats 1000000 in
theorem some_any (tag : ByteArray) (ps : List (List Nat)) (hps : ∀ p ∈ ps, ∀ x ∈ p, x < 256) (htot : (coded (strN tag) ps).length ≤ 1099511627776) (A : Option Addr) (c : Nat) (hc : ps.length ≤ c) (w : World) (hr : Parts w w.heap.size A ps) :
    Calls Try.prog 54 #[.string tag, .slice A ps.length c] w fun e w' => e = .returned (.int .u64 (someN tag ps : Nat)) ∧ Ext w w' := by
  obtain ⟨x, y, c1, c2⟩ := tagNum tag ps (bR - 1) (by decide) hps htot
  have c1 := c1 A c w hc hr
  have hlt := hNum_lt tag ps (m := bR - 1) (by decide)
  unfold someN
  obtain ⟨n, hn⟩ : ∃ n, n = hNum tag ps (bR - 1) := ⟨_, rfl⟩
  rw [← hn] at hlt c2 ⊢
  rw [show bR - 1 = 1152921504606845788 from rfl] at c2
  simp only [Int.cast_ofNat_Int] at c2
  have e1 := (wrap_one (n := n) (by unfold bR at *; omega)).1
  clear hn hlt hr hps htot
  go_enter Try.func54, Try.ntmps54
  go_wp2_with (first | (go_at_call 62; refine c1.mono ?_; clear c1; rintro e w' ⟨rfl, x1⟩) | (go_at_call 61; refine (c2 _).mono ?_; clear c2; rintro e w' ⟨rfl, x2⟩))
  go_ret
  exact ⟨rfl, x1.trans x2⟩

set_option maxRecDepth 100000 in
set_option maxHeartbeats 1000000 in
theorem Secret_any (l : List Nat) (hl : ∀ x ∈ l, x < 256) (h : l.length ≤ 1000) (A : Option Addr) (c : Nat) (hc : l.length ≤ c) (w : World) (hr : Reads w w.heap.size 1 A l.length (bv l)) :
    Calls Try.prog 20 #[.slice A l.length c] w fun e w' => e = .returned (.int .u64 (secN l : Nat)) ∧ Ext w w' := by
  have c1 := fun T => some_any secretS [l] (lts1 hl) (len1 secretS (by decide) h) _ 1 (Nat.le_refl 1) _ (parts_1 (T := T) hc hr)
  unfold secN
  generalize someN secretS [l] = v at *
  have x0 := fun o => (Ext.refl w).alloc o
  clear hl h hc hr
  go_enter Try.func20, Try.ntmps20
  go_wp2_with (go_at_call 54; refine (c1 _).mono ?_; clear c1; rintro e w' ⟨rfl, x1⟩)
  go_ret
  exact ⟨rfl, (x0 _).trans x1⟩

set_option maxRecDepth 100000 in
set_option maxHeartbeats 1000000 in
theorem odd_any (s : Nat) (w : World) : Calls Try.prog 64 #[.int .u64 s] w fun e w' => e = .returned (.bool (oddN s)) ∧ w = w' := by
  rcases Nat.eq_zero_or_pos s with rfl | h0
  · have e : oddN 0 = true := rfl
    rw [e]
    go_enter Try.func64, Try.ntmps64
    go_wp2
    go_ret
    exact ⟨rfl, rfl⟩
  · have k0 : ((s : Int) == 0) = false := by simp; omega
    have k1 : decide ((1 : Int) ≤ (s : Int)) = true := by simp; omega
    by_cases h : bR ≤ s
    · have e : oddN s = true := by unfold oddN; simp [h]
      rw [e]
      have k2 : decide ((1152921504606845789 : Int) ≤ (s : Int)) = true := by unfold bR at h; simp; omega
      have k3 : decide ((s : Int) < 1152921504606845789) = false := by unfold bR at h; simp; omega
      clear h h0 e
      go_enter Try.func64, Try.ntmps64
      go_wp2
      go_ret
      exact ⟨rfl, rfl⟩
    · have e : oddN s = false := by unfold oddN; simp; omega
      rw [e]
      have k2 : decide ((1152921504606845789 : Int) ≤ (s : Int)) = false := by unfold bR at h; simp; omega
      have k3 : decide ((s : Int) < 1152921504606845789) = true := by unfold bR at h; simp; omega
      clear h h0 e
      go_enter Try.func64, Try.ntmps64
      go_wp2
      go_ret
      exact ⟨rfl, rfl⟩

set_option maxRecDepth 100000 in
set_option maxHeartbeats 1000000 in
theorem Public_any (s : Nat) (hs : s < 18446744073709551616) (w : World) :
    Calls Try.prog 38 #[.int .u64 s] w fun e w' => e = .returned (if oddN s = true then .tuple #[.int .u64 0, .int .i64 1] else .tuple #[.int .u64 (powM bQ 4 s : Nat), .int .i64 0]) ∧ Ext w w' := by
  have c1 := fun w => odd_any s w
  have c2 := fun w => Base_any s hs w
  generalize powM bQ 4 s = v at *
  clear hs
  rcases h : oddN s
  · rw [h] at c1
    clear h
    try simp only [Bool.not_false] at c1
    rw [if_neg (by decide)]
    go_enter Try.func38, Try.ntmps38
    go_wp2_with (first | (go_at_call 64; refine (c1 _).mono ?_; clear c1; rintro e w' ⟨rfl, rfl⟩) | (go_at_call 21; refine (c2 _).mono ?_; clear c2; rintro e w' ⟨rfl, x1⟩))
    go_ret2
    exact ⟨rfl, x1⟩
  · rw [h] at c1
    clear h
    try simp only [Bool.not_true] at c1
    rw [if_pos rfl]
    go_enter Try.func38, Try.ntmps38
    go_wp2_with (go_at_call 64; refine (c1 _).mono ?_; clear c1; rintro e w' ⟨rfl, rfl⟩)
    go_ret2
    exact ⟨rfl, Ext.refl _⟩

set_option maxRecDepth 100000 in
set_option maxHeartbeats 1000000 in
theorem Challenge_any (n m : Nat) (hn : n < 18446744073709551616) (hm : m < 18446744073709551616) (l : List Nat) (hl : ∀ x ∈ l, x < 256) (h : l.length ≤ 1000) (A : Option Addr) (c : Nat) (hc : l.length ≤ c) (w : World) (hr : Reads w w.heap.size 1 A l.length (bv l)) :
    Calls Try.prog 35 #[.int .u64 n, .int .u64 m, .slice A l.length c] w fun e w' => e = .returned (.int .u64 (chalN n m l : Nat)) ∧ Ext w w' := by
  obtain ⟨x, y, c1, c2⟩ := tagNum signS [be n 8, be m 8, l] bR (by decide) (lts3 n m hl) (len3 signS (by decide) n m h)
  have cB := fun w => sbytes_any n hn w
  have cC := fun w => sbytes_any m hm w
  have c1 : ∀ W B C T, Ext w W → Reads W W.heap.size 1 B 8 (bv (be n 8)) → Reads W W.heap.size 1 C 8 (bv (be m 8)) → Calls Try.prog 62 #[.string signS, .slice (some ⟨W.heap.size, 0, none⟩) 3 3] (W.alloc (.cells #[.slice B 8 8, .slice C 8 8, .slice A l.length c] T)) fun e w' => e = .returned (.agg #[.int .u64 (x : Int), .int .u64 (y : Int)]) ∧ Ext (W.alloc (.cells #[.slice B 8 8, .slice C 8 8, .slice A l.length c] T)) w' :=
    fun W B C T xw hb hd => c1 _ 3 _ (Nat.le_refl 3) (parts_3 (T := T) hb hd hc ((hr.below xw.out).more xw.size))
  unfold chalN
  obtain ⟨v, hv⟩ : ∃ v, v = hNum signS [be n 8, be m 8, l] bR := ⟨_, rfl⟩
  rw [← hv] at c2 ⊢
  rw [show bR = 1152921504606845789 from rfl] at c2
  simp only [Int.cast_ofNat_Int] at c2
  clear hv hr hl h hc hn hm
  go_enter Try.func35, Try.ntmps35
  go_wp2_with (first
    | (go_at_call 63; (with_reducible refine (cB _).mono ?_); clear cB; rintro e w1 ⟨B, rfl, rB, xB⟩)
    | (go_at_call 63; (with_reducible refine (cC _).mono ?_); clear cC; rintro e w2 ⟨C, rfl, rC, xC⟩)
    | (go_at_call 62; refine (c1 _ _ _ _ (xB.trans xC) ((rB.below xC.out).more xC.size) rC).mono ?_; clear c1; rintro e w3 ⟨rfl, xT⟩)
    | (go_at_call 61; refine (c2 _).mono ?_; clear c2; rintro e w4 ⟨rfl, xN⟩))
  go_ret
  exact ⟨rfl, (((xB.trans xC).alloc _).trans xT).trans xN⟩

end Go.Proofs.Ytiecfamjnnmpaaa

/- Shares: the polynomial and its shares, as lists and as cells. -/
namespace Go.Proofs.Ytiecfamjnnmpaaa
set_option linter.unusedVariables false
open Go.RowKit Go.Shelf Go.Maps
attribute [local irreducible] atN prodN sumN wantN mix hSum hNum

def shareS : ByteArray := { data := #[115, 104, 97, 114, 101] }
/-- A polynomial's coefficient. -/
def coefN (seed : List Nat) (i : Nat) : Nat := hNum shareS [seed, [i]] bR
def polyN (secret t : Nat) (seed : List Nat) : List Nat := (List.range t).map fun i => if i = 0 then secret else coefN seed i
def splitL (secret t n : Nat) (seed : List Nat) : List (Int × Nat) := (List.range n).map fun k => (((k + 1 : Nat) : Int), evZ (polyN secret t seed) (k + 1) % bR)
theorem polyN_length (secret t : Nat) (seed : List Nat) : (polyN secret t seed).length = t := by simp [polyN]
theorem splitL_length (secret t n : Nat) (seed : List Nat) : (splitL secret t n seed).length = n := by simp [splitL]
theorem polyN_at (secret t : Nat) (seed : List Nat) {i : Nat} (h : i < t) : (polyN secret t seed)[i]? = some (if i = 0 then secret else coefN seed i) := by simp [polyN, h]
theorem splitL_at (secret t n : Nat) (seed : List Nat) {k : Nat} (h : k < n) : (splitL secret t n seed)[k]? = some (((k + 1 : Nat) : Int), evZ (polyN secret t seed) (k + 1) % bR) := by simp [splitL, h]
theorem coefN_lt (seed : List Nat) (i : Nat) : coefN seed i < bR := hNum_lt _ _ (by decide)
theorem polyN_lt {secret : Nat} (h : secret < bR) (t : Nat) (seed : List Nat) : ∀ c ∈ polyN secret t seed, c < bR := by
  intro c hc
  obtain ⟨i, -, rfl⟩ := List.mem_map.1 hc
  split
  · exact h
  · exact coefN_lt _ _

/-! ### cells -/
theorem uv_set (l : List Nat) (j v : Nat) : (uv l).toArray.setIfInBounds j (.int .u64 (v : Int)) = (uv (l.set j v)).toArray := by
  simp [uv, List.map_set]
theorem set_row (l : List Nat) (n j v : Nat) (hl : l.length = j) (hj : j < n) : (l ++ List.replicate (n - j) 0).set j v = l ++ v :: List.replicate (n - (j + 1)) 0 := by
  rw [List.set_append_right _ _ (by omega), hl, Nat.sub_self]
  have : n - j = n - (j + 1) + 1 := by omega
  rw [this, List.replicate_succ, List.set_cons_zero]
theorem set_row' (l r : List Nat) (j u v : Nat) (hl : l.length = j) : (l ++ u :: r).set j v = l ++ v :: r := by
  rw [List.set_append_right _ _ (by omega), hl, Nat.sub_self, List.set_cons_zero]
theorem sv_cons (s : Int × Nat) (l : List (Int × Nat)) : sv (s :: l) = .int .i64 s.1 :: .int .u64 (s.2 : Int) :: sv l := rfl
theorem sv_set0 (l r : List (Int × Nat)) (j : Nat) (hl : l.length = j) (x y : Int) (v : Nat) : (sv (l ++ (x, v) :: r)).toArray.setIfInBounds (j * 2) (.int .i64 y) = (sv (l ++ (y, v) :: r)).toArray := by
  rw [List.setIfInBounds_toArray, sv_append, sv_append, List.set_append_right _ _ (by rw [sv_length, hl]; exact Nat.le_refl _), sv_length, hl, Nat.sub_self]
  rfl
theorem sv_set1 (l r : List (Int × Nat)) (j : Nat) (hl : l.length = j) (x : Int) (u v : Nat) : (sv (l ++ (x, u) :: r)).toArray.setIfInBounds (j * 2 + 1) (.int .u64 (v : Int)) = (sv (l ++ (x, v) :: r)).toArray := by
  rw [List.setIfInBounds_toArray, sv_append, sv_append, List.set_append_right _ _ (by rw [sv_length, hl]; omega), sv_length, hl, show j * 2 + 1 - j * 2 = 1 by omega]
  rfl
theorem blk_row {w : World} {g : Nat} {T : TypeId} {l : List (Int × Nat)} (h : Blk w g T (sv l).toArray) {k : Nat} {s : Int × Nat} (hs : l[k]? = some s) :
    w.cell? ⟨g, k * 2, none⟩ = some (.int .i64 s.1) ∧ w.cell? ⟨g, k * 2 + 1, none⟩ = some (.int .u64 (s.2 : Int)) :=
  ⟨by rw [h.cell]; simpa using (sv_at hs).1, by rw [h.cell]; simpa using (sv_at hs).2⟩
theorem blk_reads2 {w : World} {g : Nat} {T : TypeId} {l : List (Int × Nat)} (h : Blk w g T (sv l).toArray) : Reads w w.heap.size 2 (some ⟨g, 0, none⟩) l.length (sv l) := by
  refine ⟨sv_length l, fun _ => ⟨_, rfl, h.lt, fun j u hj => ?_⟩⟩
  have e : (Addr.mk g 0 none).add j = ⟨g, j, none⟩ := by
    unfold Addr.add
    split <;> simp_all
  rw [e, h.cell]
  simpa using hj
theorem blk_word {w : World} {g : Nat} {T : TypeId} {l : List Nat} (h : Blk w g T (uv l).toArray) {k v : Nat} (hk : l[k]? = some v) : w.cell? ⟨g, k, none⟩ = some (.int .u64 (v : Int)) := by
  rw [h.cell]; simp [uv, hk]
/-- What 'make' lays. -/
theorem make_words (n : Nat) : (madeCells (Value.int .u64 0).cells (n * 1)).toList = uv (List.replicate n 0) := by
  have e : (Value.int .u64 0).cells = #[Value.int .u64 0] := rfl
  rw [e, toList_madeCells_one, Nat.mul_one]
  simp [uv]
theorem make_shares (n : Nat) : (madeCells (Value.agg #[.int .i64 0, .int .u64 0]).cells (n * 2)).toList = sv (List.replicate n (0, 0)) := by
  have e : (Value.agg #[.int .i64 0, .int .u64 0]).cells = #[.int .i64 0, .int .u64 0] := rfl
  rw [e]
  refine List.ext_getElem? fun i => ?_
  have hs : (madeCells #[.int .i64 0, .int .u64 0] (n * 2)).toList[i]? = if i < n * 2 then some (#[Value.int .i64 0, .int .u64 0][i % 2]!) else none := by
    unfold madeCells
    rw [Array.getElem?_toList, Array.getElem?_map, Array.getElem?_range]
    split
    · rfl
    · rfl
  rw [hs]
  by_cases h : i < n * 2
  · rw [if_pos h]
    have hk : (List.replicate n ((0 : Int), 0))[i / 2]? = some (0, 0) := by simp [List.getElem?_replicate]; omega
    obtain ⟨h0, h1⟩ := sv_at hk
    rcases Nat.mod_two_eq_zero_or_one i with hm | hm
    · rw [hm]
      rw [show i / 2 * 2 = i by omega] at h0
      rw [h0]; rfl
    · rw [hm]
      rw [show i / 2 * 2 + 1 = i by omega] at h1
      rw [h1]; rfl
  · rw [if_neg h, List.getElem?_eq_none (by rw [sv_length, List.length_replicate]; omega)]
theorem own_blk {w : World} {base g n size : Nat} {e : TypeId} {xs : List Value} (h : w.ownsRow base e size (.slice (some ⟨g, 0, none⟩) n n) n xs) : Blk w g e xs.toArray ∧ base ≤ g := by
  rcases h.2 with ⟨h0, _⟩ | ⟨g', cap, cur, e1, hb, hg, h1, h2, h3, h4⟩
  · cases h0
  · injection e1 with e1 _ e2
    injection e1 with e1
    injection e1 with e1
    subst e1; subst e2
    rw [← h3, List.take_of_length_le (by simp)] at h4
    refine ⟨?_, hb⟩
    unfold Blk
    rw [hg, ← h4]
end Go.Proofs.Ytiecfamjnnmpaaa

/- Crews, walked: who, over, product, weight, and what they are told by. -/
namespace Go.Proofs.Ytiecfamjnnmpaaa
set_option linter.unusedVariables false
open Go.RowKit Go.Shelf Go.Maps
attribute [local irreducible] atN prodN sumN wantN

theorem own_nil (w : World) (base : Nat) (e : TypeId) (size : Nat) : w.ownsRow base e size (.slice none 0 0) 0 [] := ⟨by simp, .inl ⟨rfl, rfl⟩⟩
theorem cell_one_new' (w : World) (o : Obj) (x : Value) (t : TypeId) : ∀ j u, [x][j]? = some u → ((w.alloc o).alloc (.cells #[x] t)).cell? ((⟨w.heap.size + 1, 0, none⟩ : Addr).add j) = some u := by
  intro j u hj
  have := cell_one_new (w.alloc o) x t j u hj
  rw [World.size_alloc] at this
  exact this

set_option maxRecDepth 100000 in
set_option maxHeartbeats 1000000 in
theorem who_any (l : List (Int × Nat)) (A : Option Addr) (c : Nat) (hn : l.length ≤ 1099511627776) (w : World) (hr : Reads w w.heap.size 2 A l.length (sv l)) :
    Calls Try.prog 24 #[.slice A l.length c] w fun e w' => ∃ A' c', e = .returned (.slice A' l.length c') ∧ l.length ≤ c' ∧ Reads w' w'.heap.size 1 A' l.length (iv (l.map (·.1))) ∧ Ext w w' := by
  obtain ⟨i0, hi, hz0, hz1, hz2⟩ := info_parts Try.infoI64
  have hr0 : Hid (Reads w w.heap.size 2 A l.length (sv l)) := Lib.hid hr
  have HN := Lib.hid hn
  clear hr hn
  go_enter Try.func24, Try.ntmps24
  go_wp2
  go_loopg [3, 8] l.length (fun m s3 s8 wr => ∃ j : Nat, j + m = l.length ∧ s8 = .int .i64 j ∧ wr.ownsRow w.heap.size 3 1 s3 (l.take j).length (iv ((l.take j).map (·.1))) ∧ Ext w wr)
  case atStart => exact ⟨0, by omega, rfl, own_nil w _ _ _, Ext.refl w⟩
  case round =>
    obtain ⟨j, hj, rfl, hown, hx⟩ := hrel
    by_cases h : j < l.length
    · obtain ⟨s, hs⟩ : ∃ s, l[j]? = some s := ⟨_, List.getElem?_eq_getElem h⟩
      obtain ⟨ad, rfl, hlt, q0, q1⟩ := reads_share (hr0.out.below hx.out) hs
      have e1 : l.take (j + 1) = l.take j ++ [s] := by rw [List.take_add_one, hs]; rfl
      have hjb : (j : Int) ≤ 1099511627776 := by have := HN.out; omega
      have HE := Lib.hid e1
      have HX := Lib.hid hx
      have HJ := Lib.hid hj
      clear e1 hx hj hs
      go_wp2_with (at_builtin; refine wpList_append_own _ rfl (.tmp 12) (.tmp 15) 61 rfl w.heap.size 3 i0 (.int .i64 0) 1 8 Try.underlying61 hi hz0 hz1 hz2 rfl (by decide) _ _ _ rfl ((hown.alloc _).alloc _) ⟨wr.heap.size + 1, 0, none⟩ 1 1 [.int .i64 s.1] rfl rfl (cell_one_new' _ _ _ _) (by simp [Value.oneCell']) (by have := HN.out; have := HJ.out; simp only [maxLen, List.length_take]; omega) (by have := HN.out; simp only [List.length_take]; omega) (by have := HX.out.size; simp; omega) ?_; intro v2 w2 hown2 hg2 _)
      have X2 := ext_grown ((HX.out.alloc _).alloc _) ((hown.alloc _).alloc _) hg2
      have O2 : Hid (w2.ownsRow w.heap.size 3 1 v2 (l.take (j + 1)).length (iv ((l.take (j + 1)).map (·.1)))) := by
        show World.ownsRow _ _ _ _ _ _ _
        rw [HE.out, List.length_append, List.map_append, iv_append]
        exact hown2
      clear hown2 hg2 hown
      have hj := HJ.out
      go_wp2
      go_roundg (gk - 1)
      case measure => omega
      case rel => exact ⟨j + 1, by omega, int_congr (by omega), O2.out, X2⟩
    · obtain rfl : j = l.length := by omega
      rw [List.take_length] at hown
      obtain ⟨A', c', rfl, hc', hr'⟩ := own_slice hown
      have HR := Lib.hid hr'
      have HX := Lib.hid hx
      clear hr' hx hown hj h
      go_wp2
      go_ret
      exact ⟨A', c', rfl, hc', HR.out, HX.out⟩

theorem foldl_take {α : Type} {l : List α} {k : Nat} {s : α} (hs : l[k]? = some s) (f : Nat → α → Nat) (n : Nat) : (l.take (k + 1)).foldl f n = f ((l.take k).foldl f n) s := by
  rw [List.take_add_one, hs]; simp [List.foldl_append]

set_option maxRecDepth 100000 in
set_option maxHeartbeats 1000000 in
theorem over_any (F : FuncId) (hE : Enters Try.prog F) (cap : Array Value) (f : Nat → Int × Nat → Nat) (l : List (Int × Nat)) (n0 : Nat) (hn : l.length ≤ 1099511627776) (A : Option Addr) (c : Nat) (w : World) (hr : Reads w w.heap.size 2 A l.length (sv l))
    (hstep : ∀ (W : World) (k : Nat) (s : Int × Nat), l[k]? = some s → Ext w W → Calls Try.prog F (#[.int .u64 (((l.take k).foldl f n0 : Nat) : Int), .agg #[.int .i64 s.1, .int .u64 (s.2 : Int)]] ++ cap) W fun e w' => e = .returned (.int .u64 ((f ((l.take k).foldl f n0) s : Nat) : Int)) ∧ Ext W w') :
    Calls Try.prog 29 #[.slice A l.length c, .int .u64 (n0 : Int), .func (.func F) #[] cap] w fun e w' => e = .returned (.int .u64 ((l.foldl f n0 : Nat) : Int)) ∧ Ext w w' := by
  have hr0 : Hid (Reads w w.heap.size 2 A l.length (sv l)) := Lib.hid hr
  have HN := Lib.hid hn
  have HS := Lib.hid hstep
  unfold Enters at hE
  clear hr hn hstep
  go_enter Try.func29, Try.ntmps29
  go_wp2
  go_loopg [1, 11] l.length (fun m s1 s11 wr => ∃ j : Nat, j + m = l.length ∧ s11 = .int .i64 j ∧ s1 = .int .u64 (((l.take j).foldl f n0 : Nat) : Int) ∧ Ext w wr)
  case atStart => exact ⟨0, by omega, rfl, rfl, Ext.refl w⟩
  case round =>
    obtain ⟨j, hj, rfl, rfl, hx⟩ := hrel
    by_cases h : j < l.length
    · obtain ⟨s, hs⟩ : ∃ s, l[j]? = some s := ⟨_, List.getElem?_eq_getElem h⟩
      obtain ⟨ad, rfl, hlt, q0, q1⟩ := reads_share (hr0.out.below hx.out) hs
      have e1 := foldl_take hs f n0
      have hjb : (j : Int) ≤ 1099511627776 := by have := HN.out; omega
      have c1 := fun (W : World) => HS.out W j s hs
      obtain ⟨u, hu⟩ : ∃ u, u = (l.take j).foldl f n0 := ⟨_, rfl⟩
      rw [← hu] at c1 e1 ⊢
      obtain ⟨v, hv⟩ : ∃ v, v = f u s := ⟨_, rfl⟩
      rw [← hv] at c1 e1
      have HE := Lib.hid e1
      have HX := Lib.hid hx
      have HJ := Lib.hid hj
      clear e1 hx hj hs hu hv
      go_wp2_with (go_at_fn F; refine (c1 _ (HX.out.alloc _)).mono ?_; clear c1; rintro e w1 ⟨rfl, x1⟩)
      have X2 := (HX.out.alloc _).trans x1
      have hj := HJ.out
      go_roundg (gk - 1)
      case measure => omega
      case rel => exact ⟨j + 1, by omega, int_congr (by omega), by rw [HE.out], X2⟩
    · obtain rfl : j = l.length := by omega
      rw [List.take_length]
      have HX := Lib.hid hx
      clear hx hj h
      go_wp2
      go_ret
      exact ⟨rfl, HX.out⟩
end Go.Proofs.Ytiecfamjnnmpaaa

/- Signing, walked: Sign, Check (sign and greatsealref04). Printed by gen_si2.py. -/
namespace Go.Proofs.Ytiecfamjnnmpaaa
set_option linter.unusedVariables false
open Go.RowKit Go.Shelf
attribute [local irreducible] mix hSum hNum

theorem toExt {P : Program} {f : FuncId} {args : Array Value} {w : World} {v : Ending} (h : Calls P f args w fun e w' => e = v ∧ w = w') : Calls P f args w fun e w' => e = v ∧ Ext w w' :=
  h.mono fun _ _ ⟨a, b⟩ => ⟨a, by rw [← b]; exact Ext.refl _⟩
theorem two {W : World} {g : Nat} {T : TypeId} {a b : Value} (h : Blk W g T #[a, b]) : W.cell? ⟨g, 0, none⟩ = some a ∧ W.cell? ⟨g, 1, none⟩ = some b := ⟨h.cell 0, h.cell 1⟩
theorem pw64 (x n : Nat) : powM bQ x n < 18446744073709551616 := Nat.lt_trans (powM_lt (by decide) _ _) (by decide)
theorem r64 {x : Nat} (h : x < bR) : x < 18446744073709551616 := Nat.lt_trans h (by decide)

end Go.Proofs.Ytiecfamjnnmpaaa

/- Signing, walked: Check (sign and greatsealref04). Printed by gen_si3.py. -/
namespace Go.Proofs.Ytiecfamjnnmpaaa
set_option linter.unusedVariables false
open Go.RowKit Go.Shelf
attribute [local irreducible] mix hSum hNum

theorem checkN_out {p : Nat} (h : inB p = false) (l : List Nat) (E S : Nat) : checkN p l E S = 1 := by unfold checkN; rw [if_pos h]
theorem checkN_high {p : Nat} (h : inB p = true) (l : List Nat) {E S : Nat} (hE : bR ≤ E ∨ bR ≤ S) : checkN p l E S = 40 := by unfold checkN; rw [if_neg (by rw [h]; decide), if_pos hE]
theorem checkN_in {p : Nat} (h : inB p = true) (l : List Nat) {E S : Nat} (hE : E < bR) (hS : S < bR) : checkN p l E S = if chalN (mulM bQ (powM bQ 4 S) (invM bQ (powM bQ p E))) p l = E then 0 else 40 := by
  unfold checkN; rw [if_neg (by rw [h]; decide), if_neg (by omega)]
theorem checkN_ref {p : Nat} (h : inB p = true) (l : List Nat) {E S : Nat} (hE : E < bR) (hS : S < bR) : checkN p l E S = if chalN (mulM bQ (powM bQ 4 S) (powM bQ p (bR - E))) p l = E then 0 else 40 := by
  rw [checkN_in h l hE hS, inv_pow h E (Nat.le_of_lt hE)]

set_option maxRecDepth 100000 in
set_option maxHeartbeats 1000000 in
theorem Check_any (p : Nat) (hp : p < 18446744073709551616) (E S : Nat) (hE : E < 18446744073709551616) (hS : S < 18446744073709551616) (l : List Nat) (hl : ∀ x ∈ l, x < 256) (h : l.length ≤ 1000) (A : Option Addr) (c0 : Nat) (hc : l.length ≤ c0) (w : World) (hr : Reads w w.heap.size 1 A l.length (bv l)) :
    Calls Try.prog 11 #[.int .u64 p, .slice A l.length c0, .agg #[.int .u64 E, .int .u64 S]] w fun e w' => e = .returned (.int .i64 (checkN p l E S : Nat)) ∧ Ext w w' := by
  have cI := fun w => In_any p hp w
  rcases hi : inB p
  · rw [hi] at cI
    rw [checkN_out hi]
    clear hi hp hE hS hl h hc hr
    go_enter Try.func11, Try.ntmps11
    go_wp2_with (go_at_call 32; refine (cI _).mono ?_; clear cI; rintro e w1 ⟨rfl, x1⟩)
    go_ret
    exact ⟨rfl, ((Ext.refl w).alloc _).trans x1⟩
  · rw [hi] at cI
    by_cases hh : bR ≤ E ∨ bR ≤ S
    · rw [checkN_high hi l hh]
      have k0 : decide ((1152921504606845789 : Int) ≤ max (E : Int) (S : Int)) = true := by unfold bR at hh; simp; omega
      have k1 : (1152921504606845789 : Int) ≤ max (E : Int) (S : Int) := by unfold bR at hh; omega
      clear hi hp hE hS hl h hc hr hh
      go_enter Try.func11, Try.ntmps11
      go_wp2_with (go_at_call 32; refine (cI _).mono ?_; clear cI; rintro e w1 ⟨rfl, x1⟩; have hb := ext_blk x1 (Blk.new w _ _); obtain ⟨p0, p1⟩ := two hb; have HB := Lib.hid hb; clear hb)
      go_ret
      exact ⟨rfl, ((Ext.refl w).alloc _).trans x1⟩
    · have lE : E < bR := by omega
      have lS : S < bR := by omega
      clear hh
      rw [checkN_in hi l lE lS]
      have k0 : decide ((1152921504606845789 : Int) ≤ max (E : Int) (S : Int)) = false := by unfold bR at lE lS; simp; omega
      have k1 : ¬ (1152921504606845789 : Int) ≤ max (E : Int) (S : Int) := by unfold bR at lE lS; omega
      have c1 := fun w => Pow_any p E hp hE w
      have c2 : ∀ w, Calls Try.prog 33 #[.int .u64 (powM bQ p E : Nat)] w fun e w' => e = .returned (.tuple #[.int .u64 (invM bQ (powM bQ p E) : Nat), .int .i64 0]) ∧ Ext w w' := fun w => by
        have := Inv_any (powM bQ p E) w
        rw [invE_ok (inB_ne (inB_pow hi E))] at this
        exact toExt this
      obtain ⟨u, hu⟩ : ∃ u, u = powM bQ p E := ⟨_, rfl⟩
      have lu : u < 18446744073709551616 := by rw [hu]; exact pw64 _ _
      rw [← hu] at c1 c2 ⊢
      obtain ⟨v, hv⟩ : ∃ v, v = invM bQ u := ⟨_, rfl⟩
      have lv : v < 18446744073709551616 := by rw [hv]; exact Nat.lt_trans (invM_lt (by decide) _) (by decide)
      rw [← hv] at c2 ⊢
      have c3 := fun w => Base_any S hS w
      obtain ⟨b, hb⟩ : ∃ b, b = powM bQ 4 S := ⟨_, rfl⟩
      have lb : b < 18446744073709551616 := by rw [hb]; exact pw64 _ _
      rw [← hb] at c3 ⊢
      have c4 := fun w => MulE b v lb lv w
      obtain ⟨m, hm⟩ : ∃ m, m = mulM bQ b v := ⟨_, rfl⟩
      have lm : m < 18446744073709551616 := by rw [hm]; exact Nat.lt_trans (mulM_lt (by decide) _ _) (by decide)
      rw [← hm] at c4 ⊢
      have c5 : ∀ W, Ext w W → Calls Try.prog 35 #[.int .u64 (m : Nat), .int .u64 (p : Nat), .slice A l.length c0] W fun e w' => e = .returned (.int .u64 (chalN m p l : Nat)) ∧ Ext W w' := fun W xw =>
        Challenge_any m p lm hp l hl h A c0 hc W ((hr.below xw.out).more xw.size)
      obtain ⟨ch, hch⟩ : ∃ ch, ch = chalN m p l := ⟨_, rfl⟩
      rw [← hch] at c5 ⊢
      clear hch lm hm lb hb lv hv hl h hc hr hp hE hS lE lS lu hu
      rcases Nat.decEq ch E with hne | heq
      · rw [if_neg hne]
        have q0 : ((ch : Int) != (E : Int)) = true := by simp; omega
        have q1 : ((ch : Int) == (E : Int)) = false := by simp; omega
        clear hne hi
        go_enter Try.func11, Try.ntmps11
        go_wp2_with (first
          | (go_at_call 32; refine (cI _).mono ?_; clear cI; rintro e w1 ⟨rfl, x1⟩; have hb := ext_blk x1 (Blk.new w _ _); obtain ⟨p0, p1⟩ := two hb; have HB := Lib.hid hb; clear hb)
          | (go_at_call 34; refine (c1 _).mono ?_; clear c1; rintro e w2 ⟨rfl, x2⟩)
          | (go_at_call 33; refine (c2 _).mono ?_; clear c2; rintro e w3 ⟨rfl, x3⟩; have hb := ext_blk (x2.trans x3) HB.out; obtain ⟨p2, p3⟩ := two hb; clear hb))
        have y3 : Ext w w3 := ((((Ext.refl w).alloc _).trans x1).trans x2).trans x3
        have i0 := fun i : Later w3 => i.cell p2
        have i1 := fun i : Later w3 => i.cell p3
        clear p0 p1 p2 p3
        refine wp_region_later (by kernel_rfl) (by kernel_rfl) ?_
        repeat (go_big_quiet_step (first
          | (go_at_call 21; exact Later.calls (c3 _))
          | (go_at_call 36; exact Later.calls (c4 _))
          | (go_at_call 35; exact Later.calls (c5 _ (y3.trans (Later.ext _))))))
        refine wpQuiet_nil ?_
        rintro w4 ⟨i, hi⟩
        have x4 : Ext w3 w4 := by rw [hi]; exact i.ext
        clear hi i i0 i1
        go_wp2
        go_ret
        exact ⟨rfl, y3.trans x4⟩
      · subst heq
        rw [if_pos rfl]
        have q0 : ((ch : Int) != (ch : Int)) = false := by simp
        clear hi
        go_enter Try.func11, Try.ntmps11
        go_wp2_with (first
          | (go_at_call 32; refine (cI _).mono ?_; clear cI; rintro e w1 ⟨rfl, x1⟩; have hb := ext_blk x1 (Blk.new w _ _); obtain ⟨p0, p1⟩ := two hb; have HB := Lib.hid hb; clear hb)
          | (go_at_call 34; refine (c1 _).mono ?_; clear c1; rintro e w2 ⟨rfl, x2⟩)
          | (go_at_call 33; refine (c2 _).mono ?_; clear c2; rintro e w3 ⟨rfl, x3⟩; have hb := ext_blk (x2.trans x3) HB.out; obtain ⟨p2, p3⟩ := two hb; clear hb))
        have y3 : Ext w w3 := ((((Ext.refl w).alloc _).trans x1).trans x2).trans x3
        have i0 := fun i : Later w3 => i.cell p2
        have i1 := fun i : Later w3 => i.cell p3
        clear p0 p1 p2 p3
        refine wp_region_later (by kernel_rfl) (by kernel_rfl) ?_
        repeat (go_big_quiet_step (first
          | (go_at_call 21; exact Later.calls (c3 _))
          | (go_at_call 36; exact Later.calls (c4 _))
          | (go_at_call 35; exact Later.calls (c5 _ (y3.trans (Later.ext _))))))
        refine wpQuiet_nil ?_
        rintro w4 ⟨i, hi⟩
        have x4 : Ext w3 w4 := by rw [hi]; exact i.ext
        clear hi i i0 i1
        go_wp2
        go_ret
        exact ⟨rfl, y3.trans x4⟩
end Go.Proofs.Ytiecfamjnnmpaaa

/- Crews, walked: product and what it is told by; weight. -/
namespace Go.Proofs.Ytiecfamjnnmpaaa
set_option linter.unusedVariables false
open Go.RowKit Go.Shelf Go.Maps
attribute [local irreducible] atN prodN sumN wantN

set_option maxRecDepth 100000 in
set_option maxHeartbeats 1000000 in
theorem weight_any (l : List (Int × Nat)) (hw : idsWf l) (id : Int) (A : Option Addr) (c : Nat) (hn : l.length ≤ 1099511627776) (w : World) (hr : Reads w w.heap.size 2 A l.length (sv l)) :
    Calls Try.prog 42 #[.slice A l.length c, .int .i64 id] w fun e w' => e = .returned (.int .u64 (wgtV (l.map (·.1)) id : Nat)) ∧ Ext w w' := by
  have c1 := who_any l A c hn w hr
  have c2 := fun (W : World) A' c' (hr : Reads W W.heap.size 1 A' (l.map fun s : Int × Nat => s.1).length (iv (l.map fun s : Int × Nat => s.1))) => Weight_any (l.map fun s : Int × Nat => s.1) hw id A' c' (by rw [List.length_map]; exact hn) W hr
  rw [List.length_map] at c2
  unfold wgtR at c2
  obtain ⟨v, hv⟩ : ∃ v, v = wgtV (l.map fun s : Int × Nat => s.1) id := ⟨_, rfl⟩
  obtain ⟨e, he⟩ : ∃ v, v = wgtE (l.map fun s : Int × Nat => s.1) id := ⟨_, rfl⟩
  rw [← hv, ← he] at c2
  rw [← hv]
  clear hr hn hw hv he
  go_enter Try.func42, Try.ntmps42
  go_wp2_with (first
    | (go_at_call 24; refine c1.mono ?_; clear c1; rintro e w1 ⟨A', c', rfl, _, r1, x1⟩)
    | (go_at_call 67; refine (c2 _ _ _ r1).mono ?_; clear c2; rintro e w2 ⟨rfl, x2⟩))
  go_ret
  exact ⟨rfl, x1.trans x2⟩

theorem chalX_any (x : Int) (n : Nat) (w : World) : Calls Try.prog 57 #[.agg #[.int .i64 x, .int .u64 (n : Int)]] w fun e w' => e = .returned (.int .u64 (n : Int)) ∧ Ext w w' := by
  go_enter Try.func57, Try.ntmps57
  go_wp2
  go_ret
  exact ⟨rfl, (Ext.refl w).alloc _⟩
theorem chalX_enters : Enters Try.prog 57 := enters_of Try.func57 (by kernel_rfl) rfl

set_option maxRecDepth 100000 in
set_option maxHeartbeats 1000000 in
theorem sumX_any (x : Int) (n u : Nat) (w : World) : Calls Try.prog 30 #[.int .u64 (u : Int), .agg #[.int .i64 x, .int .u64 (n : Int)]] w fun e w' => e = .returned (.int .u64 (addM bR u n : Nat)) ∧ Ext w w' := by
  have c1 := fun w => AddRE u n w
  go_enter Try.func30, Try.ntmps30
  go_wp2_with (go_at_call 16; refine (c1 _).mono ?_; clear c1; rintro e w1 ⟨rfl, x1⟩)
  go_ret
  exact ⟨rfl, ((Ext.refl w).alloc _).trans x1⟩
theorem sumX_enters : Enters Try.prog 30 := enters_of Try.func30 (by kernel_rfl) rfl

set_option maxRecDepth 100000 in
set_option maxHeartbeats 1000000 in
/-- A part to the power of its weight. -/
theorem chkX_any (l : List (Int × Nat)) (hw : idsWf l) (x : Int) (n : Nat) (hx : n < 18446744073709551616) (p : Nat) (A : Option Addr) (c : Nat) (hn : l.length ≤ 1099511627776) (w : World) (hp : w.cell? ⟨p, 0, none⟩ = some (.slice A l.length c)) (hr : Reads w w.heap.size 2 A l.length (sv l)) :
    Calls Try.prog 41 #[.agg #[.int .i64 x, .int .u64 (n : Int)], .pointer (some ⟨p, 0, none⟩)] w fun e w' => e = .returned (.int .u64 (powM bQ n (wgtV (l.map (·.1)) x) : Nat)) ∧ Ext w w' := by
  have c1 := fun (W : World) (h : Ext w W) => weight_any l hw x A c hn W ((hr.below h.out).more h.size)
  have hwl : wgtV (l.map (·.1)) x < bR := by
    unfold wgtV
    split
    · exact atN_lt _ _ _
    · decide
  obtain ⟨v, hv⟩ : ∃ v, v = wgtV (l.map fun s : Int × Nat => s.1) x := ⟨_, rfl⟩
  rw [← hv] at c1 hwl
  have c2 := fun w => Pow_any n v hx (r64 hwl) w
  rw [← hv]
  have HP := Lib.hid hp
  clear hr hn hw hv hwl hp
  go_enter Try.func41, Try.ntmps41
  have hx0 : Ext w (w.alloc (.cells #[.int .i64 x, .int .u64 (n : Int)] 45)) := (Ext.refl w).alloc _
  have hb := Blk.new w 45 #[.int .i64 x, .int .u64 (n : Int)]
  obtain ⟨q0, q1⟩ := two hb
  have q2 := hx0.cell HP.out
  clear hb hx0
  go_wp2
  obtain ⟨W0, e0⟩ : ∃ W, W = w.alloc (.cells #[.int .i64 x, .int .u64 (n : Int)] 45) := ⟨_, rfl⟩
  have x0 : Ext w W0 := by rw [e0]; exact (Ext.refl w).alloc _
  rw [← e0] at q0 q1 q2 ⊢
  clear e0
  have i0 := fun i : Later W0 => i.cell q0
  have i1 := fun i : Later W0 => i.cell q1
  have i2 := fun i : Later W0 => i.cell q2
  clear q0 q1 q2
  refine wp_region_later (by kernel_rfl) (by kernel_rfl) ?_
  repeat (go_big_quiet_step (first
    | (go_at_call 42; exact Later.calls (c1 _ (x0.trans (Later.ext _))))
    | (go_at_call 34; exact Later.calls (c2 _))))
  refine wpQuiet_nil ?_
  rintro W2 ⟨q, hq⟩
  have x5 : Ext w W2 := by rw [hq]; exact x0.trans q.ext
  clear hq q i0 i1 i2
  go_wp2
  go_ret
  exact ⟨rfl, x5⟩
theorem chkX_enters : Enters Try.prog 41 := enters_of Try.func41 (by kernel_rfl) rfl

set_option maxRecDepth 100000 in
set_option maxHeartbeats 1000000 in
/-- Times what 'as' tells of one. -/
theorem mulX_any (G : FuncId) (hE : Enters Try.prog G) (cap : Array Value) (u x : Nat) (hu : u < 18446744073709551616) (hx : x < 18446744073709551616) (a : Int) (n : Nat) (p : Nat) (w : World) (hp : w.cell? ⟨p, 0, none⟩ = some (.func (.func G) #[] cap))
    (hs : ∀ W, Ext w W → Calls Try.prog G (#[.agg #[.int .i64 a, .int .u64 (n : Int)]] ++ cap) W fun e w' => e = .returned (.int .u64 (x : Int)) ∧ Ext W w') :
    Calls Try.prog 66 #[.int .u64 (u : Int), .agg #[.int .i64 a, .int .u64 (n : Int)], .pointer (some ⟨p, 0, none⟩)] w fun e w' => e = .returned (.int .u64 (mulM bQ u x : Nat)) ∧ Ext w w' := by
  have c2 := fun w => MulE u x hu hx w
  have x0 : Ext w (w.alloc (.cells #[.int .i64 a, .int .u64 (n : Int)] 45)) := (Ext.refl w).alloc _
  have q2 := x0.cell hp
  unfold Enters at hE
  clear hp hu hx
  go_enter Try.func66, Try.ntmps66
  go_wp2_with (first
    | (go_at_fn G; refine (hs _ x0).mono ?_; clear hs; rintro e w1 ⟨rfl, x1⟩)
    | (go_at_call 36; refine (c2 _).mono ?_; clear c2; rintro e w2 ⟨rfl, x2⟩))
  go_ret
  exact ⟨rfl, (x0.trans x1).trans x2⟩
theorem mulX_enters : Enters Try.prog 66 := enters_of Try.func66 (by kernel_rfl) rfl

/-- The product of all, as they are told. -/
def prodBy (g : Int × Nat → Nat) (l : List (Int × Nat)) : Nat := l.foldl (fun o s => mulM bQ o (g s)) 1
theorem prodBy_lt (g : Int × Nat → Nat) (l : List (Int × Nat)) : prodBy g l < bQ := foldl_lt _ bQ (fun o k ho => mulM_lt (by decide) _ _) l 1 (by decide)

set_option maxRecDepth 100000 in
set_option maxHeartbeats 1000000 in
theorem product_any (G : FuncId) (hE : Enters Try.prog G) (cap : Array Value) (g : Int × Nat → Nat) (l : List (Int × Nat)) (hg : ∀ s ∈ l, g s < 18446744073709551616) (hn : l.length ≤ 1099511627776) (A : Option Addr) (c : Nat) (w : World) (hr : Reads w w.heap.size 2 A l.length (sv l))
    (hs : ∀ (W : World) (s : Int × Nat), s ∈ l → Ext w W → Calls Try.prog G (#[.agg #[.int .i64 s.1, .int .u64 (s.2 : Int)]] ++ cap) W fun e w' => e = .returned (.int .u64 ((g s : Nat) : Int)) ∧ Ext W w') :
    Calls Try.prog 40 #[.slice A l.length c, .func (.func G) #[] cap] w fun e w' => e = .returned (.int .u64 (prodBy g l : Nat)) ∧ Ext w w' := by
  have hmf := makeFunc_run
  have c1 : ∀ T, Calls Try.prog 29 #[.slice A l.length c, .int .u64 1, .func (.func 66) #[] #[.pointer (some ⟨w.heap.size, 0, none⟩)]] (w.alloc (.cells #[.func (.func G) #[] cap] T)) fun e w' => e = .returned (.int .u64 (prodBy g l : Nat)) ∧ Ext w w' := fun T => by
    have x0 : Ext w (w.alloc (.cells #[.func (.func G) #[] cap] T)) := (Ext.refl w).alloc _
    have hb := (Blk.new w T #[.func (.func G) #[] cap]).cell 0
    refine (over_any _ mulX_enters #[.pointer (some ⟨w.heap.size, 0, none⟩)] (fun o s => mulM bQ o (g s)) l 1 hn A c _ ((hr.below x0.out).more x0.size) fun W k s hk hx => ?_).mono fun e w' h => ⟨h.1, x0.trans h.2⟩
    have hm := List.mem_of_getElem? hk
    exact mulX_any G hE cap _ (g s) (Nat.lt_trans (foldl_lt _ bQ (fun o k ho => mulM_lt (by decide) _ _) _ 1 (by decide)) (by decide)) (hg s hm) s.1 s.2 _ W (hx.cell hb) fun W' hx' => hs W' s hm ((x0.trans hx).trans hx')
  clear hE hr hn hs hg
  go_enter Try.func40, Try.ntmps40
  go_wp2_with (go_at_call 29; refine (c1 _).mono ?_; clear c1; rintro e w1 ⟨rfl, x1⟩)
  go_ret
  exact ⟨rfl, x1⟩
end Go.Proofs.Ytiecfamjnnmpaaa

/- Crews, walked: Check. -/
namespace Go.Proofs.Ytiecfamjnnmpaaa
set_option linter.unusedVariables false
open Go.RowKit Go.Shelf Go.Maps
attribute [local irreducible] atN prodN sumN wantN chkN

def idsN (n : Nat) : List Int := (List.range n).map fun i => ((i + 1 : Nat) : Int)
theorem idsN_succ (n : Nat) : idsN (n + 1) = idsN n ++ [((n + 1 : Nat) : Int)] := by simp [idsN, List.range_succ]
theorem idsN_length (n : Nat) : (idsN n).length = n := by simp [idsN]
/-- A crew's parts: in order, and of the group. -/
def rowP (p : List (Int × Nat)) : Prop := p.map (·.1) = idsN p.length ∧ p.all (fun s => inB s.2) = true
instance (p : List (Int × Nat)) : Decidable (rowP p) := by unfold rowP; infer_instance
theorem rowP_nil : rowP [] := ⟨rfl, rfl⟩
theorem rowP_snoc (l : List (Int × Nat)) (s : Int × Nat) : rowP (l ++ [s]) ↔ rowP l ∧ s.1 = ((l.length + 1 : Nat) : Int) ∧ inB s.2 = true := by
  unfold rowP
  rw [List.map_append, List.length_append, List.all_append, List.length_singleton, idsN_succ]
  constructor
  · rintro ⟨h1, h2⟩
    have h3 := List.append_inj h1 (by simp [idsN_length])
    simp at h2 h3
    exact ⟨⟨h3.1, List.all_eq_true.2 fun x hx => by simpa using h2.1 x.1 x.2 hx⟩, by simpa using h3.2, h2.2⟩
  · rintro ⟨⟨h1, h2⟩, h3, h4⟩
    refine ⟨?_, by simp [h2, h4]⟩
    rw [h1]; simp [h3]
theorem rowP_take_succ {l : List (Int × Nat)} {k : Nat} {s : Int × Nat} (hs : l[k]? = some s) : rowP (l.take (k + 1)) ↔ rowP (l.take k) ∧ s.1 = ((k + 1 : Nat) : Int) ∧ inB s.2 = true := by
  have hk := (List.getElem?_eq_some_iff.1 hs).1
  have e : (l.take k).length = k := by rw [List.length_take]; omega
  rw [List.take_add_one, hs, ← e]
  show rowP (l.take (l.take k).length ++ [s]) ↔ _
  rw [e, rowP_snoc, e]
theorem rowP_append {l m : List (Int × Nat)} (h : rowP (l ++ m)) : rowP l := by
  obtain ⟨h1, h2⟩ := h
  rw [List.map_append, List.length_append] at h1
  have e : idsN (l.length + m.length) = idsN l.length ++ (List.range m.length).map fun i => ((l.length + i + 1 : Nat) : Int) := by
    simp [idsN, List.range_add]
  rw [e] at h1
  rw [List.all_append] at h2
  exact ⟨(List.append_inj h1 (by simp [idsN_length])).1, by simp at h2 ⊢; exact h2.1⟩
theorem rowP_not {l : List (Int × Nat)} {k : Nat} (h : ¬ rowP (l.take k)) : ¬ rowP l := fun h' => h (rowP_append (m := l.drop k) (by rw [List.take_append_drop]; exact h'))
/-- The product of all, each to the power of its weight. -/
def jointN (l : List (Int × Nat)) : Nat := prodBy (fun s => powM bQ s.2 (wgtV (l.map (·.1)) s.1)) l
/-- What is wrong with a crew. -/
def crewN (t n : Int) (k : Nat) (p : List (Int × Nat)) : Nat :=
  if t < 1 ∨ n < t ∨ 7 < n ∨ (p.length : Int) ≠ n ∨ inB k = false then 1
  else if ¬ rowP p then 1
  else if chkN t p ≠ 0 then chkN t p
  else if jointN (p.take t.toNat) = k then 0 else 60
theorem crew_out {t n : Int} {k : Nat} {p : List (Int × Nat)} (h : t < 1 ∨ n < t ∨ 7 < n ∨ (p.length : Int) ≠ n ∨ inB k = false) : crewN t n k p = 1 := by unfold crewN; rw [if_pos h]
theorem crew_row {t n : Int} {k : Nat} {p : List (Int × Nat)} (h : ¬ rowP p) : crewN t n k p = 1 := by unfold crewN; split; rfl; first | rfl | rw [if_pos h]
theorem crew_rest {t n : Int} {k : Nat} {p : List (Int × Nat)} (h1 : ¬ t < 1) (h2 : ¬ n < t) (h3 : ¬ 7 < n) (h4 : (p.length : Int) = n) (h5 : inB k = true) (h : rowP p) : crewN t n k p = if chkN t p ≠ 0 then chkN t p else if jointN (p.take t.toNat) = k then 0 else 60 := by
  unfold crewN
  rw [if_neg (by rintro (h | h | h | h | h); exact h1 h; exact h2 h; exact h3 h; exact h h4; rw [h5] at h; cases h), if_neg (by simpa using h)]
theorem arr4 {W : World} {g : Nat} {T : TypeId} {a b c d : Value} (h : Blk W g T #[a, b, c, d]) : W.cell? ⟨g, 0, none⟩ = some a ∧ W.cell? ⟨g, 1, none⟩ = some b ∧ W.cell? ⟨g, 2, none⟩ = some c ∧ W.cell? ⟨g, 3, none⟩ = some d := ⟨h.cell 0, h.cell 1, h.cell 2, h.cell 3⟩

theorem jointN_lt (l : List (Int × Nat)) : jointN l < bQ := prodBy_lt _ _

set_option maxRecDepth 100000 in
set_option maxHeartbeats 4000000 in
theorem quCheck_any (t n : Int) (k : Nat) (hk : k < 18446744073709551616) (p : List (Int × Nat)) (hw : idsWf p) (hX : ∀ s ∈ p, s.2 < 18446744073709551616) (A : Option Addr) (c : Nat) (hc : p.length ≤ c) (hn : p.length ≤ 1099511627776) (w : World) (hr : Reads w w.heap.size 2 A p.length (sv p)) :
    Calls Try.prog 13 #[.agg #[.int .i64 t, .int .i64 n, .int .u64 (k : Int), .slice A p.length c]] w fun e w' => e = .returned (.int .i64 (crewN t n k p : Nat)) ∧ Ext w w' := by
  by_cases t1 : t < 1
  · rw [crew_out (.inl t1)]
    clear hr hX hw hn hc hk
    go_enter Try.func13, Try.ntmps13
    go_wp2
    go_ret
    exact ⟨rfl, (Ext.refl w).alloc _⟩
  by_cases t2 : n < t
  · rw [crew_out (.inr (.inl t2))]
    clear hr hX hw hn hc hk
    go_enter Try.func13, Try.ntmps13
    go_wp2
    go_ret
    exact ⟨rfl, (Ext.refl w).alloc _⟩
  by_cases t3 : 7 < n
  · rw [crew_out (.inr (.inr (.inl t3)))]
    clear hr hX hw hn hc hk
    go_enter Try.func13, Try.ntmps13
    go_wp2
    go_ret
    exact ⟨rfl, (Ext.refl w).alloc _⟩
  by_cases t4 : (p.length : Int) = n
  case neg =>
    rw [crew_out (.inr (.inr (.inr (.inl t4))))]
    have d : ((p.length : Int) != n) = true := by simpa using t4
    clear hr hX hw hn hc hk
    go_enter Try.func13, Try.ntmps13
    go_wp2
    go_ret
    exact ⟨rfl, (Ext.refl w).alloc _⟩
  subst t4
  have cI := fun w => In_any k hk w
  cases hi : inB k with
  | false =>
    rw [hi] at cI
    rw [crew_out (.inr (.inr (.inr (.inr hi))))]
    clear hr hX hw hn hc hk hi
    go_enter Try.func13, Try.ntmps13
    go_wp2_with (go_at_call 32; refine (cI _).mono ?_; clear cI; rintro e w1 ⟨rfl, x1⟩)
    go_ret
    exact ⟨rfl, ((Ext.refl w).alloc _).trans x1⟩
  | true =>
    rw [hi] at cI
    obtain ⟨tn, rfl⟩ : ∃ n : Nat, t = n := ⟨t.toNat, by omega⟩
    have hk7 : tn ≤ p.length ∧ p.length ≤ 7 ∧ 1 ≤ tn := by omega
    have kr := fun h => crew_rest (t := tn) (n := p.length) (k := k) (p := p) t1 t2 t3 rfl hi h
    rw [Int.toNat_natCast] at kr
    have HK := Lib.hid kr
    have H7 := Lib.hid hk7
    have hr0 : Hid (Reads w w.heap.size 2 A p.length (sv p)) := Lib.hid hr
    have HXL := Lib.hid hX
    have HN := Lib.hid hn
    have HC := Lib.hid hc
    have HW := Lib.hid hw
    clear hr hX hn hc hw hi kr hk7 hk
    go_enter Try.func13, Try.ntmps13
    go_wp2_with (go_at_call 32; refine (cI _).mono ?_; clear cI; rintro e w1 ⟨rfl, x1⟩; have X1 := Lib.hid (((Ext.refl w).alloc _).trans x1); have hb := ext_blk x1 (Blk.new w _ _); obtain ⟨b0, b1, b2, b3⟩ := arr4 hb; have HB := Lib.hid hb; clear hb x1)
    go_loopg [39] p.length (fun m s39 wr => ∃ j : Nat, j + m = p.length ∧ s39 = .int .i64 j ∧ rowP (p.take j) ∧ Ext w1 wr)
    case atStart => exact ⟨0, by omega, rfl, rowP_nil, Ext.refl _⟩
    case round =>
      obtain ⟨j, hj, rfl, hok, hx⟩ := hrel
      by_cases h : j < p.length
      · obtain ⟨s, hs⟩ : ∃ s, p[j]? = some s := ⟨_, List.getElem?_eq_getElem h⟩
        obtain ⟨ad, rfl, hlt, q0, q1⟩ := reads_share (hr0.out.below (X1.out.trans hx).out) hs
        have hjb : (j : Int) ≤ 7 := by have := H7.out; omega
        have ci := fun W => In_any s.2 (HXL.out s (List.mem_of_getElem? hs)) W
        have hst := rowP_take_succ hs
        have HX := Lib.hid hx
        have HJ := Lib.hid hj
        have HO := Lib.hid hok
        have HT := Lib.hid hst
        have kw : IntKind.i64.wrap ((j : Int) + 1) = ((j + 1 : Nat) : Int) := by rw [IntKind.wrap_i64] <;> omega
        clear hx hj hok hst hs
        by_cases h1 : s.1 = ((j + 1 : Nat) : Int)
        · cases hb : inB s.2 with
          | false =>
            have kk : Hid (crewN tn p.length k p = 1) := Lib.hid (crew_row (rowP_not (k := j + 1) fun h => by have := (HT.out.1 h).2.2; rw [hb] at this; cases this))
            rw [hb] at ci
            rw [h1] at q0
            have d1 : decide (s.1 = (j : Int) + 1) = true := by simp [h1]
            clear hb
            go_wp2_with (go_at_call 32; refine (ci _).mono ?_; clear ci; rintro e w3 ⟨rfl, x3⟩)
            go_ret
            exact ⟨by rw [kk.out]; rfl, X1.out.trans ((HX.out.alloc _).trans x3)⟩
          | true =>
            have hok' : Hid (rowP (p.take (j + 1))) := Lib.hid (HT.out.2 ⟨HO.out, h1, hb⟩)
            rw [hb] at ci
            rw [h1] at q0
            clear hb h1
            go_wp2_with (go_at_call 32; refine (ci _).mono ?_; clear ci; rintro e w3 ⟨rfl, x3⟩)
            have hj := HJ.out
            go_roundg (gk - 1)
            case measure => omega
            case rel => exact ⟨j + 1, by omega, int_congr (by omega), hok'.out, (HX.out.alloc _).trans x3⟩
        · have kk : Hid (crewN tn p.length k p = 1) := Lib.hid (crew_row (rowP_not (k := j + 1) fun h => h1 (HT.out.1 h).2.1))
          have d1 : (s.1 != (j : Int) + 1) = true := by simp; omega
          clear ci
          go_wp2
          go_ret
          exact ⟨by rw [kk.out]; rfl, X1.out.trans (HX.out.alloc _)⟩
      · obtain rfl : j = p.length := by omega
        rw [List.take_length] at hok
        have kk := HK.out hok
        have c2 := fun (W : World) (x : Ext w W) => shCheck_any (tn : Int) p HW.out HXL.out A c HC.out HN.out W ((hr0.out.below x.out).more x.size)
        obtain ⟨u, hu⟩ : ∃ u, u = chkN (tn : Int) p := ⟨_, rfl⟩
        rw [← hu] at c2 kk
        have X2 := Lib.hid (X1.out.trans hx)
        have B2 := Lib.hid (ext_blk hx HB.out)
        obtain ⟨a0, a1, a2, a3⟩ := arr4 B2.out
        clear b0 b1 b2 b3 hx hj hok hu
        by_cases h0 : u = 0
        · rw [h0] at c2
          rw [if_neg (by rw [h0]; decide)] at kk
          obtain ⟨A1, e1, r1⟩ := first_reads hr0.out H7.out.1 HC.out
          have s1 : ∀ W : World, (Instr.slice 23 (.slice A p.length c) none (some (.int .i64 (tn : Int))) none).run Try.prog W = .ok (.slice A1 (p.take tn).length c) W := fun W => by rw [slice_hS A p.length c tn (Nat.le_trans H7.out.1 HC.out), e1]
          obtain ⟨fl, hfl⟩ : ∃ q, q = p.take tn := ⟨_, rfl⟩
          have hfx : ∀ s ∈ fl, s.2 < 18446744073709551616 := fun s hs => by rw [hfl] at hs; exact HXL.out s (List.mem_of_mem_take hs)
          have hfw : idsWf fl := fun i hi => by
            rw [hfl] at hi
            obtain ⟨s, hs, rfl⟩ := List.mem_map.1 hi
            exact HW.out _ (List.mem_map.2 ⟨s, List.mem_of_mem_take hs, rfl⟩)
          have hfn : fl.length ≤ 1099511627776 := by have := HN.out; rw [hfl, List.length_take]; omega
          rw [← hfl] at s1 r1 kk
          have c3 := fun (W : World) (pp : Nat) (x : Ext w W) (hp : W.cell? ⟨pp, 0, none⟩ = some (.slice A1 fl.length c)) =>
            product_any _ chkX_enters #[.pointer (some ⟨pp, 0, none⟩)] (fun s : Int × Nat => powM bQ s.2 (wgtV (fl.map fun s : Int × Nat => s.1) s.1)) fl (fun s _ => pw64 _ _) hfn A1 c W ((r1.below x.out).more x.size)
              (fun W' s hs x' => chkX_any fl hfw s.1 s.2 (hfx s hs) pp A1 c hfn W' (x'.cell hp) ((r1.below (x.trans x').out).more (x.trans x').size))
          obtain ⟨v, hv⟩ : ∃ v, v = jointN fl := ⟨_, rfl⟩
          unfold jointN at hv
          rw [← hv] at c3
          rw [show jointN fl = v from hv.symm] at kk
          have HKK := Lib.hid kk
          clear hfl hfx hfw hfn kk hv h0 r1 e1
          have hmf := makeFunc_run
          go_wp2_with (go_at_call 39; refine (c2 _ X2.out).mono ?_; clear c2; rintro e w4 ⟨rfl, x4⟩; have B4 := Lib.hid (ext_blk x4 B2.out); obtain ⟨d0, d1, d2, d3⟩ := arr4 B4.out)
          obtain ⟨W0, e0⟩ : ∃ W, W = w4.alloc (.cells #[.slice A1 fl.length c] 23) := ⟨_, rfl⟩
          have g0 := (Blk.new w4 23 #[.slice A1 fl.length c]).cell 0
          rw [← e0] at g0 ⊢
          have x0 : Ext w4 W0 := by rw [e0]; exact (Ext.refl w4).alloc _
          have X0 := Lib.hid ((X2.out.trans x4).trans x0)
          have k0 := x0.cell d2
          clear x4 x0 e0 d0 d1 d2 d3 a0 a1 a2 a3
          have g0' : W0.drew.cell? ⟨w4.heap.size, 0, none⟩ = some (.slice A1 fl.length c) := g0
          by_cases hvk : v = k
          · have d5 : ((v : Int) != (k : Int)) = false := by simp [hvk]
            have HKK2 : Hid (crewN (tn : Int) p.length k p = 0) := Lib.hid (by rw [HKK.out, if_pos hvk])
            clear hvk
            go_region_with (go_at_call 40; refine (c3 W0.drew w4.heap.size X0.out.drew g0').mono ?_; clear c3; rintro e w5 ⟨rfl, x5⟩; have k1 := x5.cell k0)
            all_goals (
              go_wp2
              go_ret
              exact ⟨by rw [HKK2.out]; rfl, X0.out.drew.trans x5⟩)
          · have d5 : ((v : Int) != (k : Int)) = true := by simp; omega
            have HKK2 : Hid (crewN (tn : Int) p.length k p = 60) := Lib.hid (by rw [HKK.out, if_neg hvk])
            clear hvk
            go_region_with (go_at_call 40; refine (c3 W0.drew w4.heap.size X0.out.drew g0').mono ?_; clear c3; rintro e w5 ⟨rfl, x5⟩; have k1 := x5.cell k0)
            all_goals (
              go_wp2
              go_ret
              exact ⟨by rw [HKK2.out]; rfl, X0.out.drew.trans x5⟩)
        · have h1 : ((u : Int) != 0) = true := by simp; omega
          rw [if_pos h0] at kk
          have HKK := Lib.hid kk
          clear kk h0
          go_wp2_with (go_at_call 39; refine (c2 _ X2.out).mono ?_; clear c2; rintro e w4 ⟨rfl, x4⟩)
          go_ret
          exact ⟨by rw [HKK.out]; rfl, X2.out.trans x4⟩
end Go.Proofs.Ytiecfamjnnmpaaa

/- Sessions, walked: crew, enough, challenge, scaled. -/
namespace Go.Proofs.Ytiecfamjnnmpaaa
set_option linter.unusedVariables false
open Go.RowKit Go.Shelf Go.Maps
attribute [local irreducible] atN prodN sumN wantN chkN mix hSum hNum

/-- What is signed by some, in memory. -/
def Ses (w : World) (b : Nat) (t n : Int) (k : Nat) (p : List (Int × Nat)) (m : List Nat) (l : List (Int × Nat)) : Prop :=
  ∃ A c M d B e, Blk w b 59 #[.int .i64 t, .int .i64 n, .int .u64 (k : Int), .slice A p.length c, .slice M m.length d, .slice B l.length e] ∧ p.length ≤ c ∧ m.length ≤ d ∧ l.length ≤ e ∧
    Reads w w.heap.size 2 A p.length (sv p) ∧ Reads w w.heap.size 1 M m.length (bv m) ∧ Reads w w.heap.size 2 B l.length (sv l)
theorem Ses.ext {w W : World} {b : Nat} {t n : Int} {k : Nat} {p : List (Int × Nat)} {m : List Nat} {l : List (Int × Nat)} (h : Ses w b t n k p m l) (x : Ext w W) : Ses W b t n k p m l := by
  obtain ⟨A, c, M, d, B, e, h1, h2, h3, h4, h5, h6, h7⟩ := h
  exact ⟨A, c, M, d, B, e, ext_blk x h1, h2, h3, h4, (h5.below x.out).more x.size, (h6.below x.out).more x.size, (h7.below x.out).more x.size⟩
/-- What its values are. -/
structure SesV (k : Nat) (p : List (Int × Nat)) (m : List Nat) (l : List (Int × Nat)) : Prop where
  k64 : k < 18446744073709551616
  pw : idsWf p
  p64 : ∀ s ∈ p, s.2 < 18446744073709551616
  pn : p.length ≤ 1099511627776
  mb : ∀ x ∈ m, x < 256
  mn : m.length ≤ 1000
  lw : idsWf l
  l64 : ∀ s ∈ l, s.2 < 18446744073709551616
  ln : l.length ≤ 1099511627776
theorem arr6 {W : World} {g : Nat} {T : TypeId} {a b c d e f : Value} (h : Blk W g T #[a, b, c, d, e, f]) : W.cell? ⟨g, 0, none⟩ = some a ∧ W.cell? ⟨g, 1, none⟩ = some b ∧ W.cell? ⟨g, 2, none⟩ = some c ∧ W.cell? ⟨g, 3, none⟩ = some d ∧ W.cell? ⟨g, 4, none⟩ = some e ∧ W.cell? ⟨g, 5, none⟩ = some f := ⟨h.cell 0, h.cell 1, h.cell 2, h.cell 3, h.cell 4, h.cell 5⟩
/-- Its cells in every later world. -/
theorem later6 {W : World} {g : Nat} {T : TypeId} {a b c d e f : Value} (h : Blk W g T #[a, b, c, d, e, f]) : ∀ i : Later W, i.W.cell? ⟨g, 0, none⟩ = some a ∧ i.W.cell? ⟨g, 1, none⟩ = some b ∧ i.W.cell? ⟨g, 2, none⟩ = some c ∧ i.W.cell? ⟨g, 3, none⟩ = some d ∧ i.W.cell? ⟨g, 4, none⟩ = some e ∧ i.W.cell? ⟨g, 5, none⟩ = some f := fun i => arr6 (ext_blk i.ext h)

set_option maxRecDepth 100000 in
set_option maxHeartbeats 2000000 in
theorem crew_any (b : Nat) (t n : Int) (k : Nat) (p : List (Int × Nat)) (m : List Nat) (l : List (Int × Nat)) (v : SesV k p m l) (w : World) (h : Ses w b t n k p m l) :
    Calls Try.prog 27 #[.pointer (some ⟨b, 0, none⟩)] w fun e w' => e = .returned (.int .i64 (crewN t n k p : Nat)) ∧ Ext w w' := by
  obtain ⟨A, c, M, d, B, e, h1, h2, h3, h4, h5, h6, h7⟩ := h
  obtain ⟨a0, a1, a2, a3, a4, a5⟩ := arr6 h1
  have c1 := quCheck_any t n k v.k64 p v.pw v.p64 A c h2 v.pn w h5
  clear h1 h2 h3 h4 h5 h6 h7 v
  go_enter Try.func27, Try.ntmps27
  go_wp2_with (go_at_call 13; refine c1.mono ?_; clear c1; rintro e w1 ⟨rfl, x1⟩)
  go_ret
  exact ⟨rfl, x1⟩

/-- Commitments: they rise, are of the crew, and of the group. -/
def okC (n : Int) (l : List (Int × Nat)) : Prop := l.Pairwise (fun a b => a.1 < b.1) ∧ ∀ s ∈ l, 1 ≤ s.1 ∧ s.1 ≤ n ∧ inB s.2 = true
instance (n : Int) (l : List (Int × Nat)) : Decidable (okC n l) := by unfold okC; infer_instance
def lastI (l : List (Int × Nat)) : Int := match l.getLast? with | some s => s.1 | none => 0
theorem okC_nil (n : Int) : okC n [] := ⟨List.Pairwise.nil, by simp⟩
theorem lastI_snoc (l : List (Int × Nat)) (s : Int × Nat) : lastI (l ++ [s]) = s.1 := by simp [lastI]
theorem lastI_ge {n : Int} {l : List (Int × Nat)} (h : okC n l) : 0 ≤ lastI l ∧ ∀ s ∈ l, s.1 ≤ lastI l := by
  rcases List.eq_nil_or_concat l with rfl | ⟨l', s, rfl⟩
  · exact ⟨by simp [lastI], by simp⟩
  · rw [List.concat_eq_append] at h ⊢
    rw [lastI_snoc]
    have h1 := (h.2 s (by simp)).1
    refine ⟨by omega, fun r hr => ?_⟩
    rcases List.mem_append.1 hr with hr | hr
    · have := (List.pairwise_append.1 h.1).2.2 r hr s (by simp)
      omega
    · rw [List.mem_singleton] at hr; subst hr; exact Int.le_refl _
theorem okC_snoc {n : Int} (l : List (Int × Nat)) (s : Int × Nat) : okC n (l ++ [s]) ↔ okC n l ∧ lastI l < s.1 ∧ s.1 ≤ n ∧ inB s.2 = true := by
  constructor
  · intro h
    have hl : okC n l := ⟨(List.pairwise_append.1 h.1).1, fun r hr => h.2 r (List.mem_append.2 (.inl hr))⟩
    have hs := h.2 s (by simp)
    refine ⟨hl, ?_, hs.2⟩
    rcases List.eq_nil_or_concat l with rfl | ⟨l', r, rfl⟩
    · simp [lastI]; omega
    · rw [List.concat_eq_append] at h ⊢
      rw [lastI_snoc]
      exact (List.pairwise_append.1 h.1).2.2 r (by simp) s (by simp)
  · rintro ⟨hl, h1, h2, h3⟩
    obtain ⟨g1, g2⟩ := lastI_ge hl
    refine ⟨List.pairwise_append.2 ⟨hl.1, List.pairwise_singleton _ _, fun a ha c hc => ?_⟩, fun r hr => ?_⟩
    · rw [List.mem_singleton] at hc; subst hc
      have := g2 a ha
      omega
    · rcases List.mem_append.1 hr with hr | hr
      · exact hl.2 r hr
      · rw [List.mem_singleton] at hr; subst hr; exact ⟨by omega, h2, h3⟩
theorem okC_take_succ {n : Int} {l : List (Int × Nat)} {k : Nat} {s : Int × Nat} (hs : l[k]? = some s) : okC n (l.take (k + 1)) ↔ okC n (l.take k) ∧ lastI (l.take k) < s.1 ∧ s.1 ≤ n ∧ inB s.2 = true := by
  rw [List.take_add_one, hs]; exact okC_snoc _ _
theorem lastI_take_succ {l : List (Int × Nat)} {k : Nat} {s : Int × Nat} (hs : l[k]? = some s) : lastI (l.take (k + 1)) = s.1 := by
  rw [List.take_add_one, hs]; exact lastI_snoc _ _
theorem okC_not {n : Int} {l : List (Int × Nat)} {k : Nat} (h : ¬ okC n (l.take k)) : ¬ okC n l := fun h' => h (by
  rw [← List.take_append_drop k l] at h'
  exact ⟨(List.pairwise_append.1 h'.1).1, fun r hr => h'.2 r (List.mem_append.2 (.inl hr))⟩)
/-- What is wrong with commitments. -/
def enN (t n : Int) (l : List (Int × Nat)) : Nat := if okC n l then (if (l.length : Int) < t then 50 else 0) else 1

set_option maxRecDepth 100000 in
set_option maxHeartbeats 4000000 in
theorem enough_any (b : Nat) (t n : Int) (k : Nat) (p : List (Int × Nat)) (m : List Nat) (l : List (Int × Nat)) (v : SesV k p m l) (w : World) (h : Ses w b t n k p m l) :
    Calls Try.prog 28 #[.pointer (some ⟨b, 0, none⟩)] w fun e w' => e = .returned (.int .i64 (enN t n l : Nat)) ∧ Ext w w' := by
  obtain ⟨A, c, M, d, B, e, h1, h2, h3, h4, h5, h6, h7⟩ := h
  obtain ⟨a0, a1, a2, a3, a4, a5⟩ := arr6 h1
  have HB := Lib.hid h1
  have hr0 := Lib.hid h7
  have HXL := Lib.hid v.l64
  have HN := Lib.hid v.ln
  clear h1 h2 h3 h4 h5 h6 h7 v
  go_enter Try.func28, Try.ntmps28
  go_wp2
  go_step3
  go_wp2
  go_step3
  go_wp2
  clear a0 a1 a2 a3 a4 a5
  go_loopg [3, 11] l.length (fun g s3 s11 wr => ∃ j : Nat, j + g = l.length ∧ s11 = .int .i64 j ∧ s3 = .int .i64 (lastI (l.take j)) ∧ okC n (l.take j) ∧ Ext w wr)
  case atStart => exact ⟨0, by omega, rfl, rfl, okC_nil n, Ext.refl w⟩
  case round =>
    obtain ⟨j, hj, rfl, rfl, hok, hx⟩ := hrel
    obtain ⟨a0, a1, a2, a3, a4, a5⟩ := arr6 (ext_blk hx HB.out)
    by_cases h : j < l.length
    · obtain ⟨s, hs⟩ : ∃ s, l[j]? = some s := ⟨_, List.getElem?_eq_getElem h⟩
      obtain ⟨ad, rfl, hlt, q0, q1⟩ := reads_share (hr0.out.below hx.out) hs
      have hjb : (j : Int) ≤ 1099511627776 := by have := HN.out; omega
      have ci := fun W => In_any s.2 (HXL.out s (List.mem_of_getElem? hs)) W
      have HT := Lib.hid (okC_take_succ (n := n) hs)
      have HL := Lib.hid (lastI_take_succ hs)
      have HX := Lib.hid hx
      have HJ := Lib.hid hj
      have HO := Lib.hid hok
      obtain ⟨la, hla⟩ : ∃ q, q = lastI (l.take j) := ⟨_, rfl⟩
      rw [← hla] at HT ⊢
      obtain ⟨W0, hW0⟩ : ∃ W, W = wr.alloc (.cells #[.int .i64 s.1, .int .u64 (s.2 : Int)] 45) := ⟨_, rfl⟩
      have b1 := Blk.new wr 45 #[.int .i64 s.1, .int .u64 (s.2 : Int)]
      rw [← hW0] at b1
      have x4 : Ext wr W0 := by rw [hW0]; exact (Ext.refl wr).alloc _
      obtain ⟨k0, k1, -, -⟩ := arr2 b1
      have k2 := x4.cell a1
      have HW := Lib.hid hW0
      have X4 := Lib.hid (hx.trans x4)
      clear hx hj hok hs hla hW0 b1 x4 HX
      by_cases h1 : la < s.1
      · have d1 : decide (la < s.1) = true := decide_eq_true h1
        by_cases h2 : s.1 ≤ n
        · have d2 : decide (s.1 ≤ n) = true := decide_eq_true h2
          cases hb : inB s.2 with
          | true =>
            have hok' : Hid (okC n (l.take (j + 1))) := Lib.hid (HT.out.2 ⟨HO.out, h1, h2, hb⟩)
            rw [hb] at ci
            clear hb h1 h2
            go_wp2
            rw [← HW.out]
            have i0 := fun i : Later W0 => i.cell k0
            have i1 := fun i : Later W0 => i.cell k1
            have i2 := fun i : Later W0 => i.cell k2
            clear q0 q1 k0 k1 k2 a0 a1 a2 a3 a4 a5
            refine wp_region_later (by kernel_rfl) (by kernel_rfl) ?_
            repeat (go_big_quiet_step ((go_at_call 32; exact Later.calls (ci _))))
            refine wpQuiet_nil ?_
            rintro W2 ⟨q, hq⟩
            have x5 : Ext w W2 := by rw [hq]; exact X4.out.trans q.ext
            have k3 := i0 q
            rw [← hq] at k3
            clear hq q i0 i1 i2
            go_wp2
            have hj := HJ.out
            go_roundg (gk - 1)
            case measure => omega
            case rel => exact ⟨j + 1, by omega, int_congr (by omega), by rw [HL.out], hok'.out, x5⟩
          | false =>
            have kk : Hid (enN t n l = 1) := Lib.hid (if_neg (okC_not (k := j + 1) fun h => by have := (HT.out.1 h).2.2.2; rw [hb] at this; cases this))
            rw [hb] at ci
            clear hb h1 h2
            go_wp2
            rw [← HW.out]
            have i0 := fun i : Later W0 => i.cell k0
            have i1 := fun i : Later W0 => i.cell k1
            have i2 := fun i : Later W0 => i.cell k2
            clear q0 q1 k0 k1 k2 a0 a1 a2 a3 a4 a5
            refine wp_region_later (by kernel_rfl) (by kernel_rfl) ?_
            repeat (go_big_quiet_step ((go_at_call 32; exact Later.calls (ci _))))
            refine wpQuiet_nil ?_
            rintro W2 ⟨q, hq⟩
            have x5 : Ext w W2 := by rw [hq]; exact X4.out.trans q.ext
            clear hq q i0 i1 i2
            go_wp2
            try rw [Exit.noGoto_ret]
            go_ret
            exact ⟨by rw [kk.out]; rfl, x5⟩
        · have d2 : decide (s.1 ≤ n) = false := decide_eq_false h2
          have kk : Hid (enN t n l = 1) := Lib.hid (if_neg (okC_not (k := j + 1) fun h => h2 (HT.out.1 h).2.2.1))
          clear h1 h2 ci
          go_wp2
          rw [← HW.out]
          have i0 := fun i : Later W0 => i.cell k0
          have i1 := fun i : Later W0 => i.cell k1
          have i2 := fun i : Later W0 => i.cell k2
          clear q0 q1 k0 k1 k2 a0 a1 a2 a3 a4 a5
          refine wp_region_later (by kernel_rfl) (by kernel_rfl) ?_
          repeat (go_big_quiet_step (fail))
          refine wpQuiet_nil ?_
          rintro W2 ⟨q, hq⟩
          have x5 : Ext w W2 := by rw [hq]; exact X4.out.trans q.ext
          clear hq q i0 i1 i2
          go_wp2
          try rw [Exit.noGoto_ret]
          go_ret
          exact ⟨by rw [kk.out]; rfl, x5⟩
      · have d1 : decide (la < s.1) = false := decide_eq_false h1
        have kk : Hid (enN t n l = 1) := Lib.hid (if_neg (okC_not (k := j + 1) fun h => h1 (HT.out.1 h).2.1))
        clear h1 ci
        go_wp2
        rw [← HW.out]
        have i0 := fun i : Later W0 => i.cell k0
        have i1 := fun i : Later W0 => i.cell k1
        have i2 := fun i : Later W0 => i.cell k2
        clear q0 q1 k0 k1 k2 a0 a1 a2 a3 a4 a5
        refine wp_region_later (by kernel_rfl) (by kernel_rfl) ?_
        repeat (go_big_quiet_step (fail))
        refine wpQuiet_nil ?_
        rintro W2 ⟨q, hq⟩
        have x5 : Ext w W2 := by rw [hq]; exact X4.out.trans q.ext
        clear hq q i0 i1 i2
        go_wp2
        try rw [Exit.noGoto_ret]
        go_ret
        exact ⟨by rw [kk.out]; rfl, x5⟩
    · obtain rfl : j = l.length := by omega
      rw [List.take_length] at hok ⊢
      obtain ⟨la, hla⟩ : ∃ q, q = lastI l := ⟨_, rfl⟩
      rw [← hla]
      by_cases h1 : (l.length : Int) < t
      · have kk : Hid (enN t n l = 50) := Lib.hid (by unfold enN; rw [if_pos hok, if_pos h1])
        have HX := Lib.hid hx
        clear hx hok hla hj
        go_wp2
        go_region
        all_goals (
          go_wp2
          try rw [Exit.noGoto_ret]
          go_ret
          exact ⟨by rw [kk.out]; rfl, HX.out.drew⟩)
      · have kk : Hid (enN t n l = 0) := Lib.hid (by unfold enN; rw [if_pos hok, if_neg h1])
        have HX := Lib.hid hx
        clear hx hok hla hj
        go_wp2
        go_region
        all_goals (
          go_wp2
          try rw [Exit.noGoto_ret]
          go_ret
          exact ⟨by rw [kk.out]; rfl, HX.out.drew⟩)
end Go.Proofs.Ytiecfamjnnmpaaa

/- Sessions, walked: challenge, scaled, of. -/
namespace Go.Proofs.Ytiecfamjnnmpaaa
set_option linter.unusedVariables false
open Go.RowKit Go.Shelf Go.Maps
attribute [local irreducible] atN prodN sumN wantN chkN mix hSum hNum chalN

/-- What all answer. -/
def chN (k : Nat) (m : List Nat) (l : List (Int × Nat)) : Nat := chalN (prodBy (fun s => s.2) l) k m
theorem chN_lt (k : Nat) (m : List Nat) (l : List (Int × Nat)) : chN k m l < bR := by unfold chN chalN; exact hNum_lt _ _ (by decide)
/-- As somebody answers it. -/
def scN (k : Nat) (m : List Nat) (l : List (Int × Nat)) (id : Int) : Nat := mulM bR (chN k m l) (wgtV (l.map (·.1)) id)
theorem scN_lt (k : Nat) (m : List Nat) (l : List (Int × Nat)) (id : Int) : scN k m l id < bR := mulM_lt (by decide) _ _
theorem wgtV_lt (l : List Int) (id : Int) : wgtV l id < bR := by
  unfold wgtV
  split
  · exact atN_lt _ _ _
  · decide

set_option maxRecDepth 100000 in
set_option maxHeartbeats 2000000 in
theorem challenge_any (b : Nat) (t n : Int) (k : Nat) (p : List (Int × Nat)) (m : List Nat) (l : List (Int × Nat)) (v : SesV k p m l) (w : World) (h : Ses w b t n k p m l) :
    Calls Try.prog 31 #[.pointer (some ⟨b, 0, none⟩)] w fun e w' => e = .returned (.int .u64 (chN k m l : Nat)) ∧ Ext w w' := by
  obtain ⟨A, c, M, d, B, e, h1, h2, h3, h4, h5, h6, h7⟩ := h
  obtain ⟨a0, a1, a2, a3, a4, a5⟩ := arr6 h1
  have HB := Lib.hid h1
  have c1 := fun (W : World) (x : Ext w W) => product_any _ chalX_enters #[] (fun s : Int × Nat => s.2) l v.l64 v.ln B e W ((h7.below x.out).more x.size) (fun W' s hs x' => chalX_any s.1 s.2 W')
  have hlt := Nat.lt_trans (prodBy_lt (fun s : Int × Nat => s.2) l) (show bQ < 18446744073709551616 by decide)
  obtain ⟨x, hx⟩ : ∃ x, x = prodBy (fun s : Int × Nat => s.2) l := ⟨_, rfl⟩
  unfold chN
  rw [← hx] at c1 hlt ⊢
  have c2 := fun (W : World) (xW : Ext w W) => Challenge_any x k hlt v.k64 m v.mb v.mn M d h3 W ((h6.below xW.out).more xW.size)
  obtain ⟨y, hy⟩ : ∃ y, y = chalN x k m := ⟨_, rfl⟩
  rw [← hy] at c2 ⊢
  clear h1 h2 h3 h4 h5 h6 h7 v hx hlt hy
  go_enter Try.func31, Try.ntmps31
  go_wp2_with (go_at_call 40; refine (c1 _ (Ext.refl w)).mono ?_; clear c1; rintro e w1 ⟨rfl, x1⟩)
  have hl := later6 (ext_blk x1 HB.out)
  have i1 := fun i : Later w1 => (hl i).2.2.1
  have i2 := fun i : Later w1 => (hl i).2.2.2.2.1
  clear a0 a1 a2 a3 a4 a5 hl
  refine wp_region_later (by kernel_rfl) (by kernel_rfl) ?_
  repeat (go_big_quiet_step ((go_at_call 35; exact Later.calls (c2 _ (x1.trans (Later.ext _))))))
  refine wpQuiet_nil ?_
  rintro W2 ⟨q, hq⟩
  have x5 : Ext w W2 := by rw [hq]; exact x1.trans q.ext
  clear hq q i1 i2
  go_wp2
  go_ret
  exact ⟨rfl, x5⟩

set_option maxRecDepth 100000 in
set_option maxHeartbeats 2000000 in
theorem scaled_any (b : Nat) (t n : Int) (k : Nat) (p : List (Int × Nat)) (m : List Nat) (l : List (Int × Nat)) (v : SesV k p m l) (id : Int) (w : World) (h : Ses w b t n k p m l) :
    Calls Try.prog 56 #[.pointer (some ⟨b, 0, none⟩), .int .i64 id] w fun e w' => e = .returned (.int .u64 (scN k m l id : Nat)) ∧ Ext w w' := by
  have c1 := fun (W : World) (x : Ext w W) => challenge_any b t n k p m l v W (h.ext x)
  obtain ⟨A, c, M, d, B, e, h1, h2, h3, h4, h5, h6, h7⟩ := h
  have HB := Lib.hid h1
  have c2 := fun (W : World) (x : Ext w W) => weight_any l v.lw id B e v.ln W ((h7.below x.out).more x.size)
  have l1 := r64 (chN_lt k m l)
  have l2 := r64 (wgtV_lt (l.map (·.1)) id)
  unfold scN
  obtain ⟨x, hx⟩ : ∃ x, x = chN k m l := ⟨_, rfl⟩
  obtain ⟨y, hy⟩ : ∃ x, x = wgtV (l.map (·.1)) id := ⟨_, rfl⟩
  rw [← hx] at c1 l1 ⊢
  rw [← hy] at c2 l2 ⊢
  have c3 := fun w => MulRE x y l1 l2 w
  have hl := later6 h1
  have i1 := fun i : Later w => (hl i).2.2.2.2.2
  clear h1 h2 h3 h4 h5 h6 h7 v hx l1 l2 hy hl
  go_enter Try.func56, Try.ntmps56
  go_wp2
  refine wp_region_later (by kernel_rfl) (by kernel_rfl) ?_
  repeat (go_big_quiet_step (first
    | (go_at_call 31; exact Later.calls (c1 _ (Later.ext _)))
    | (go_at_call 42; exact Later.calls (c2 _ (Later.ext _)))
    | (go_at_call 51; exact Later.calls (c3 _))))
  refine wpQuiet_nil ?_
  rintro W2 ⟨q, hq⟩
  have x5 : Ext w W2 := by rw [hq]; exact q.ext
  clear hq q i1
  go_wp2
  go_ret
  exact ⟨rfl, x5⟩

/-- Where somebody's is. -/
def ixI (f : Int × Nat → Bool) (l : List (Int × Nat)) : Int := match l.findIdx? f with | some i => (i : Int) | none => -1

set_option maxRecDepth 100000 in
set_option maxHeartbeats 2000000 in
theorem index_any (F : FuncId) (hE : Enters Try.prog F) (cap : Array Value) (f : Int × Nat → Bool) (l : List (Int × Nat)) (hn : l.length ≤ 1099511627776) (A : Option Addr) (c : Nat) (w : World) (hr : Reads w w.heap.size 2 A l.length (sv l))
    (hstep : ∀ (W : World) (s : Int × Nat), s ∈ l → Ext w W → Calls Try.prog F (#[.agg #[.int .i64 s.1, .int .u64 (s.2 : Int)]] ++ cap) W fun e w' => e = .returned (.bool (f s)) ∧ Ext W w') :
    Calls Try.prog 75 #[.slice A l.length c, .func (.func F) #[] cap] w fun e w' => e = .returned (.int .i64 (ixI f l)) ∧ Ext w w' := by
  have hr0 : Hid (Reads w w.heap.size 2 A l.length (sv l)) := Lib.hid hr
  have HN := Lib.hid hn
  have HS := Lib.hid hstep
  unfold Enters at hE
  clear hr hn hstep
  go_enter Try.func75, Try.ntmps75
  go_wp2
  go_loopg [8] l.length (fun m s8 wr => ∃ j : Nat, j + m = l.length ∧ s8 = .int .i64 j ∧ (∀ s ∈ l.take j, f s = false) ∧ Ext w wr)
  case atStart => exact ⟨0, by omega, rfl, by simp, Ext.refl w⟩
  case round =>
    obtain ⟨j, hj, rfl, hok, hx⟩ := hrel
    by_cases h : j < l.length
    · obtain ⟨s, hs⟩ : ∃ s, l[j]? = some s := ⟨_, List.getElem?_eq_getElem h⟩
      obtain ⟨ad, rfl, hlt, q0, q1⟩ := reads_share (hr0.out.below hx.out) hs
      have hjb : (j : Int) ≤ 1099511627776 := by have := HN.out; omega
      have c1 := fun (W : World) => HS.out W s (List.mem_of_getElem? hs)
      have e1 : l.take (j + 1) = l.take j ++ [s] := by rw [List.take_add_one, hs]; rfl
      cases hf : f s with
      | true =>
        have kk : Hid (ixI f l = (j : Int)) := Lib.hid (by
          have : l.findIdx? f = some j := by
            rw [List.findIdx?_eq_some_iff_getElem]
            have hsg := (List.getElem?_eq_some_iff.1 hs).2
            refine ⟨h, by rw [hsg]; exact hf, fun i hi => ?_⟩
            have := hok (l[i]'(by omega)) (List.mem_take_iff_getElem.2 ⟨i, by omega, rfl⟩)
            rw [this]; decide
          unfold ixI; rw [this])
        rw [hf] at c1
        have HX := Lib.hid hx
        clear hx hj hs hf hok e1
        go_wp2_with (go_at_fn F; refine (c1 _ HX.out).mono ?_; clear c1; rintro e w1 ⟨rfl, x1⟩)
        go_ret
        exact ⟨by rw [kk.out]; rfl, HX.out.trans x1⟩
      | false =>
        have hok' : Hid (∀ s ∈ l.take (j + 1), f s = false) := Lib.hid fun r hr => by
          rw [e1] at hr
          rcases List.mem_append.1 hr with hr | hr
          · exact hok r hr
          · rw [List.mem_singleton] at hr; subst hr; exact hf
        rw [hf] at c1
        have HX := Lib.hid hx
        have HJ := Lib.hid hj
        clear hx hj hs hf hok e1
        go_wp2_with (go_at_fn F; refine (c1 _ HX.out).mono ?_; clear c1; rintro e w1 ⟨rfl, x1⟩)
        have hj := HJ.out
        go_roundg (gk - 1)
        case measure => omega
        case rel => exact ⟨j + 1, by omega, int_congr (by omega), hok'.out, HX.out.trans x1⟩
    · obtain rfl : j = l.length := by omega
      rw [List.take_length] at hok
      have kk : Hid (ixI f l = -1) := Lib.hid (by
        have : l.findIdx? f = none := List.findIdx?_eq_none_iff.2 hok
        unfold ixI; rw [this])
      have HX := Lib.hid hx
      clear hx hj h hok
      go_wp2
      go_ret
      exact ⟨by rw [kk.out]; rfl, HX.out⟩
end Go.Proofs.Ytiecfamjnnmpaaa

/- Sessions, walked: of, right. -/
namespace Go.Proofs.Ytiecfamjnnmpaaa
set_option linter.unusedVariables false
open Go.RowKit Go.Shelf Go.Maps
attribute [local irreducible] atN prodN sumN wantN chkN mix hSum hNum chalN chN scN

set_option maxRecDepth 100000 in
set_option maxHeartbeats 2000000 in
theorem ofX_any (id x : Int) (u : Nat) (g : Nat) (w : World) (hp : w.cell? ⟨g, 0, none⟩ = some (.int .i64 id)) :
    Calls Try.prog 76 #[.agg #[.int .i64 x, .int .u64 (u : Int)], .pointer (some ⟨g, 0, none⟩)] w fun e w' => e = .returned (.bool (decide (x = id))) ∧ Ext w w' := by
  have x0 : Ext w (w.alloc (.cells #[.int .i64 x, .int .u64 (u : Int)] 45)) := (Ext.refl w).alloc _
  have q := x0.cell hp
  clear hp
  by_cases h : x = id
  · have d : decide (x = id) = true := decide_eq_true h
    rw [d]
    subst h
    go_enter Try.func76, Try.ntmps76
    go_wp2
    go_ret
    exact ⟨rfl, x0⟩
  · have d : decide (x = id) = false := decide_eq_false h
    have d2 : (x == id) = false := by simpa using h
    rw [d]
    go_enter Try.func76, Try.ntmps76
    go_wp2
    go_ret
    exact ⟨rfl, x0⟩
theorem ofX_enters : Enters Try.prog 76 := enters_of Try.func76 (by kernel_rfl) rfl

/-- Somebody's commitment. -/
def ofC (l : List (Int × Nat)) (id : Int) : Option (Int × Nat) := l.find? fun s => decide (s.1 = id)
theorem ofC_some {l : List (Int × Nat)} {id : Int} {s : Int × Nat} (h : ofC l id = some s) : s.1 = id ∧ s ∈ l ∧ ∃ i : Nat, l[i]? = some s ∧ ixI (fun s => decide (s.1 = id)) l = i := by
  refine ⟨by have := List.find?_some h; simpa using this, List.mem_of_find?_eq_some h, ?_⟩
  obtain ⟨h1, i, hi, rfl, h2⟩ := List.find?_eq_some_iff_getElem.1 h
  refine ⟨i, List.getElem?_eq_getElem hi, ?_⟩
  have : l.findIdx? (fun s => decide (s.1 = id)) = some i := List.findIdx?_eq_some_iff_getElem.2 ⟨hi, h1, fun j hj => by have := h2 j hj; simpa using this⟩
  unfold ixI
  rw [this]
theorem ofC_none {l : List (Int × Nat)} {id : Int} (h : ofC l id = none) : ixI (fun s => decide (s.1 = id)) l = -1 := by
  have : l.findIdx? (fun s => decide (s.1 = id)) = none := List.findIdx?_eq_none_iff.2 fun s hs => by
    have := List.find?_eq_none.1 h s hs
    simpa using this
  unfold ixI
  rw [this]
def ofV2 (o : Option (Int × Nat)) : Value := match o with | some s => .tuple #[.agg #[.int .i64 s.1, .int .u64 (s.2 : Int)], .bool true] | none => .tuple #[.agg #[.int .i64 0, .int .u64 0], .bool false]

set_option maxRecDepth 100000 in
set_option maxHeartbeats 2000000 in
theorem of_any (b : Nat) (t n : Int) (k : Nat) (p : List (Int × Nat)) (m : List Nat) (l : List (Int × Nat)) (v : SesV k p m l) (id : Int) (w : World) (h : Ses w b t n k p m l) :
    Calls Try.prog 55 #[.pointer (some ⟨b, 0, none⟩), .int .i64 id] w fun e w' => e = .returned (ofV2 (ofC l id)) ∧ Ext w w' := by
  obtain ⟨A, c, M, d, B, e, h1, h2, h3, h4, h5, h6, h7⟩ := h
  have HB := Lib.hid h1
  have HN := Lib.hid v.ln
  obtain ⟨W0, hW0⟩ : ∃ W, W = (w.alloc (.cells #[.int .i64 id] 3)).alloc (.cells #[.int .i64 0, .int .u64 0] 45) := ⟨_, rfl⟩
  have x0 : Ext w W0 := by rw [hW0]; exact ((Ext.refl w).alloc _).alloc _
  have b0 : Blk W0 w.heap.size 3 #[.int .i64 id] := by rw [hW0]; exact (Blk.new w _ _).alloc _
  have b1 : Blk W0 (w.heap.size + 1) 45 #[.int .i64 0, .int .u64 0] := by
    have := Blk.new (w.alloc (.cells #[.int .i64 id] 3)) 45 #[.int .i64 0, .int .u64 0]
    rw [World.size_alloc] at this
    rw [hW0]; exact this
  have c1 := fun (W : World) (x : Ext w W) (hp : W.cell? ⟨w.heap.size, 0, none⟩ = some (.int .i64 id)) => index_any _ ofX_enters #[.pointer (some ⟨w.heap.size, 0, none⟩)] (fun s => decide (s.1 = id)) l v.ln B e W ((h7.below x.out).more x.size) (fun W' s hs x' => ofX_any id s.1 s.2 w.heap.size W' (x'.cell hp))
  have cell5 := (arr6 (ext_blk x0 h1)).2.2.2.2.2
  have HW := Lib.hid hW0
  have HR := Lib.hid h7
  have HB1 := Lib.hid b1
  have c1' := c1 W0 x0 (b0.cell 0)
  clear h1 h2 h3 h4 h5 h6 h7 v b0 b1 c1
  have hmf := makeFunc_run
  cases ho : ofC l id with
  | none =>
    rw [ofC_none ho] at c1'
    clear ho hW0 HR
    rw [HW.out] at c1' cell5
    go_enter Try.func55, Try.ntmps55
    go_wp2_with (go_at_call 75; refine c1'.mono ?_; clear c1'; rintro e w1 ⟨rfl, x1⟩; rw [← HW.out] at x1; have hb := ext_blk x1 HB1.out; obtain ⟨p0, p1⟩ := two hb; have f0 := hb.frozen 0; have f1 := hb.frozen 1; clear hb)
    refine bodyPost_ret (v := .tuple #[.agg #[.int .i64 0, .int .u64 0], .bool false]) (by simp [results, Try.results55, go_sem, p0, p1]) rfl ⟨rfl, ?_⟩
    exact (((x0.trans x1).setCell (p := ⟨w.heap.size + 1, 0, none⟩) (Nat.le_succ _) _).setCell (p := ⟨w.heap.size + 1, 1, none⟩) (Nat.le_succ _) _)
  | some s =>
    obtain ⟨-, -, i, hi, hix⟩ := ofC_some ho
    rw [hix] at c1'
    have hil := (List.getElem?_eq_some_iff.1 hi).1
    have hib : (i : Int) ≤ 1099511627776 := by have := HN.out; omega
    obtain ⟨ad, rfl, -, -, -⟩ := reads_share HR.out hi
    clear ho hW0 hix
    rw [HW.out] at c1' cell5
    go_enter Try.func55, Try.ntmps55
    go_wp2_with (go_at_call 75; refine c1'.mono ?_; clear c1'; rintro e w1 ⟨rfl, x1⟩; rw [← HW.out] at x1; have hb := ext_blk x1 HB1.out; obtain ⟨p0, p1⟩ := two hb; have f0 := hb.frozen 0; have f1 := hb.frozen 1; have cell6 := (arr6 (ext_blk (x0.trans x1) HB.out)).2.2.2.2.2; obtain ⟨_, e', -, q0, q1⟩ := reads_share (HR.out.below (x0.trans x1).out) hi; cases e'; clear hb)
    refine bodyPost_ret (v := .tuple #[.agg #[.int .i64 s.1, .int .u64 (s.2 : Int)], .bool true]) (by simp [results, Try.results55, go_sem, p0, p1]) rfl ⟨rfl, ?_⟩
    exact (((x0.trans x1).setCell (p := ⟨w.heap.size + 1, 0, none⟩) (Nat.le_succ _) _).setCell (p := ⟨w.heap.size + 1, 1, none⟩) (Nat.le_succ _) _)
end Go.Proofs.Ytiecfamjnnmpaaa

/- Sessions, walked: right. -/
namespace Go.Proofs.Ytiecfamjnnmpaaa
set_option linter.unusedVariables false
open Go.RowKit Go.Shelf Go.Maps
attribute [local irreducible] atN prodN sumN wantN chkN mix hSum hNum chalN chN scN

/-- A crew's public part. -/
def partX (p : List (Int × Nat)) (id : Int) : Nat := match p[id.toNat - 1]? with | some r => r.2 | none => 0
/-- What is wrong with a part. -/
def rightN (k : Nat) (p : List (Int × Nat)) (m : List Nat) (l : List (Int × Nat)) (id : Int) (x : Nat) : Nat :=
  match ofC l id with
  | none => 1
  | some s => if bR ≤ x then 1 else if powM bQ 4 x = mulM bQ s.2 (powM bQ (partX p id) (scN k m l id)) then 0 else 60

set_option maxRecDepth 100000 in
set_option maxHeartbeats 4000000 in
theorem qright_any (b : Nat) (t n : Int) (k : Nat) (p : List (Int × Nat)) (m : List Nat) (l : List (Int × Nat)) (v : SesV k p m l) (hrange : ∀ s ∈ l, 1 ≤ s.1 ∧ s.1 ≤ p.length) (id : Int) (x : Nat) (hx64 : x < 18446744073709551616) (w : World) (h : Ses w b t n k p m l) :
    Calls Try.prog 25 #[.pointer (some ⟨b, 0, none⟩), .agg #[.int .i64 id, .int .u64 (x : Int)]] w fun e w' => e = .returned (.int .i64 (rightN k p m l id x : Nat)) ∧ Ext w w' := by
  have c1 := fun (W : World) (x : Ext w W) => of_any b t n k p m l v id W (h.ext x)
  unfold rightN
  cases ho : ofC l id with
  | none =>
    rw [ho] at c1
    unfold ofV2 at c1
    simp only at c1 ⊢
    clear h v hrange ho hx64
    go_enter Try.func25, Try.ntmps25
    have x0 : Ext w (w.alloc (.cells #[.int .i64 id, .int .u64 (x : Int)] 45)) := (Ext.refl w).alloc _
    go_wp2_with (go_at_call 55; refine (c1 _ x0).mono ?_; clear c1; rintro e w1 ⟨rfl, x1⟩)
    go_ret
    exact ⟨rfl, (x0.trans x1).alloc _⟩
  | some s =>
    rw [ho] at c1
    unfold ofV2 at c1
    simp only at c1 ⊢
    by_cases hR : bR ≤ x
    · rw [if_pos hR]
      have d1 : decide ((1152921504606845789 : Int) ≤ (x : Int)) = true := by unfold bR at hR; simp; omega
      have d2 : (1152921504606845789 : Int) ≤ (x : Int) := by unfold bR at hR; omega
      clear h v hrange ho hx64 hR
      go_enter Try.func25, Try.ntmps25
      have x0 : Ext w (w.alloc (.cells #[.int .i64 id, .int .u64 (x : Int)] 45)) := (Ext.refl w).alloc _
      go_wp2_with (go_at_call 55; refine (c1 _ x0).mono ?_; clear c1; rintro e w1 ⟨rfl, x1⟩; have hb := Lib.hid (ext_blk x1 (Blk.new w 45 #[.int .i64 id, .int .u64 (x : Int)])); have g1 := fun o => (two (hb.out.alloc o)).1; have g2 := fun o => (two (hb.out.alloc o)).2)
      go_ret
      exact ⟨rfl, (x0.trans x1).alloc _⟩
    · rw [if_neg hR]
      have d1 : decide ((1152921504606845789 : Int) ≤ (x : Int)) = false := by unfold bR at hR; simp; omega
      have d2 : ¬ (1152921504606845789 : Int) ≤ (x : Int) := by unfold bR at hR; omega
      obtain ⟨he, hm, -⟩ := ofC_some ho
      have hs64 := v.l64 s hm
      have hidr := hrange s hm
      rw [he] at hidr
      obtain ⟨i, hi⟩ : ∃ i : Nat, id = ((i + 1 : Nat) : Int) := ⟨id.toNat - 1, by omega⟩
      have hil : i < p.length := by omega
      obtain ⟨r, hr⟩ : ∃ r, p[i]? = some r := ⟨_, List.getElem?_eq_getElem hil⟩
      have hpx : partX p id = r.2 := by
        unfold partX
        rw [hi, Int.toNat_natCast, Nat.add_sub_cancel, hr]
      rw [hpx]
      have hr64 := v.p64 r (List.mem_of_getElem? hr)
      have hpn := v.pn
      have kw : IntKind.i64.wrap (id - 1) = (i : Int) := by rw [IntKind.wrap_i64] <;> omega
      have hilI : (i : Int) < (p.length : Int) := by omega
      have cB := fun w => Base_any x hx64 w
      have cS := fun (W : World) (x : Ext w W) => scaled_any b t n k p m l v id W (h.ext x)
      have hsl := r64 (scN_lt k m l id)
      obtain ⟨sc, hsc⟩ : ∃ q, q = scN k m l id := ⟨_, rfl⟩
      rw [← hsc] at cS hsl ⊢
      have cP := fun w => Pow_any r.2 sc hr64 hsl w
      obtain ⟨pw, hpw⟩ : ∃ q, q = powM bQ r.2 sc := ⟨_, rfl⟩
      have lpw : pw < 18446744073709551616 := by rw [hpw]; exact pw64 _ _
      rw [← hpw] at cP ⊢
      have cM := fun w => MulE s.2 pw hs64 lpw w
      obtain ⟨mu, hmu⟩ : ∃ q, q = mulM bQ s.2 pw := ⟨_, rfl⟩
      obtain ⟨ba, hba⟩ : ∃ q, q = powM bQ 4 x := ⟨_, rfl⟩
      rw [← hmu] at cM ⊢
      rw [← hba] at cB ⊢
      obtain ⟨rv, hrv⟩ : ∃ q : Nat, q = if ba = mu then 0 else 60 := ⟨_, rfl⟩
      rw [← hrv]
      have HV := Lib.hid hrv
      clear hrv
      obtain ⟨A, c, M, d, B, e, h1, h2, h3, h4, h5, h6, h7⟩ := h
      have HB := Lib.hid h1
      have HRP := Lib.hid h5
      obtain ⟨ad, rfl, -, -, -⟩ := reads_share h5 hr
      clear h1 h2 h3 h4 h5 h6 h7 v hrange hx64 hR he hm hs64 hidr hpx hr64 hpn hsl hsc hpw lpw hmu hba ho
      have HI := Lib.hid hi
      clear hi
      go_enter Try.func25, Try.ntmps25
      have x0 : Ext w (w.alloc (.cells #[.int .i64 id, .int .u64 (x : Int)] 45)) := (Ext.refl w).alloc _
      go_wp2_with (go_at_call 55; refine (c1 _ x0).mono ?_; clear c1; rintro e w1 ⟨rfl, x1⟩; have hb := Lib.hid (ext_blk x1 (Blk.new w 45 #[.int .i64 id, .int .u64 (x : Int)])); have g1 := fun o => (two (hb.out.alloc o)).1; have g2 := fun o => (two (hb.out.alloc o)).2)
      obtain ⟨W0, e0⟩ : ∃ W, W = w1.alloc (.cells #[.int .i64 s.1, .int .u64 (s.2 : Int)] 45) := ⟨_, rfl⟩
      have b1 := Blk.new w1 45 #[.int .i64 s.1, .int .u64 (s.2 : Int)]
      have X0 : Ext w W0 := by rw [e0]; exact (x0.trans x1).alloc _
      have b2 : Blk W0 w.heap.size 45 #[.int .i64 id, .int .u64 (x : Int)] := by rw [e0]; exact hb.out.alloc _
      rw [← e0] at b1 ⊢
      obtain ⟨_, e', -, q0, q1⟩ := reads_share (HRP.out.below X0.out) hr
      cases e'
      have hl := later6 (ext_blk X0 HB.out)
      have j0 := fun i : Later W0 => (two (ext_blk i.ext b1)).2
      have j1 := fun i : Later W0 => (two (ext_blk i.ext b2)).1
      have j2 := fun i : Later W0 => (two (ext_blk i.ext b2)).2
      have j3 := fun i : Later W0 => (hl i).2.2.2.1
      have j4 := fun i : Later W0 => i.cell q1
      clear e0 g1 g2 hb b1 b2 q0 q1 hl
      by_cases hq : ba = mu
      · have hv : Hid (rv = 0) := Lib.hid (by rw [HV.out, if_pos hq])
        have d3 : ((ba : Int) != (mu : Int)) = false := by simp [hq]
        clear hq
        refine wp_region_later (by kernel_rfl) (by kernel_rfl) ?_
        repeat (go_big_quiet_step (first
          | (go_at_call 21; exact Later.calls (cB _))
          | (go_at_call 56; exact Later.calls (cS _ (X0.trans (Later.ext _))))
          | (go_at_call 34; exact Later.calls (cP _))
          | (go_at_call 36; exact Later.calls (cM _))))
        refine wpQuiet_nil ?_
        rintro W2 ⟨q, hq⟩
        have x5 : Ext w W2 := by rw [hq]; exact X0.trans q.ext
        clear hq q j0 j1 j2 j3 j4
        go_wp2
        go_ret
        exact ⟨by rw [hv.out]; rfl, x5⟩
      · have hv : Hid (rv = 60) := Lib.hid (by rw [HV.out, if_neg hq])
        have d3 : ((ba : Int) != (mu : Int)) = true := by simp; omega
        clear hq
        refine wp_region_later (by kernel_rfl) (by kernel_rfl) ?_
        repeat (go_big_quiet_step (first
          | (go_at_call 21; exact Later.calls (cB _))
          | (go_at_call 56; exact Later.calls (cS _ (X0.trans (Later.ext _))))
          | (go_at_call 34; exact Later.calls (cP _))
          | (go_at_call 36; exact Later.calls (cM _))))
        refine wpQuiet_nil ?_
        rintro W2 ⟨q, hq⟩
        have x5 : Ext w W2 := by rw [hq]; exact X0.trans q.ext
        clear hq q j0 j1 j2 j3 j4
        go_wp2
        go_ret
        exact ⟨by rw [hv.out]; rfl, x5⟩
end Go.Proofs.Ytiecfamjnnmpaaa

/- Signers, walked: nonce, Commit. -/
namespace Go.Proofs.Ytiecfamjnnmpaaa
set_option linter.unusedVariables false
open Go.RowKit Go.Shelf Go.Maps
attribute [local irreducible] atN prodN sumN wantN chkN mix hSum hNum chalN chN scN

def commitS : ByteArray := { data := #[99, 111, 109, 109, 105, 116] }
/-- A signer's nonce. -/
def qnN (x id sn : Nat) (m : List Nat) : Nat := hNum commitS [be x 8, be id 8, be sn 8, m] (bR - 1) + 1
theorem qnN_lt (x id sn : Nat) (m : List Nat) : qnN x id sn m < bR := by
  have := hNum_lt commitS [be x 8, be id 8, be sn 8, m] (m := bR - 1) (by decide)
  unfold qnN; unfold bR at *; omega
theorem first8 {w : World} {A : Option Addr} {l : List Nat} {c : Nat} (h : Reads w w.heap.size 1 A 16 (bv l)) (hc : 16 ≤ c) :
    ∃ A', (∀ W : World, (Instr.slice 26 (.slice A 16 c) none (some (.int .i64 8)) none).run Try.prog W = .ok (.slice A' 8 c) W) ∧ Reads w w.heap.size 1 A' 8 (bv (l.take 8)) := by
  obtain ⟨ad, rfl, hb, hcell⟩ := h.2 (by decide)
  refine ⟨some ad, fun W => ?_, ?_, fun _ => ⟨ad, rfl, hb, fun j u hj => hcell j u ?_⟩⟩
  · have := slice_h8 (some ad) 16 c 8 (by omega) W
    rw [show ((8 : Nat) : Int) = 8 from rfl] at this
    rw [this]
    unfold sliced
    rw [if_neg (by omega)]
    simp [Addr.add]
  · have := h.1
    rw [bv_length] at this ⊢
    rw [List.length_take]; omega
  · have e : bv (l.take 8) = (bv l).take 8 := by simp [bv]
    rw [e, List.getElem?_take] at hj
    split at hj
    · exact hj
    · cases hj
theorem last8 {w : World} {A : Option Addr} {l : List Nat} {c : Nat} (h : Reads w w.heap.size 1 A 16 (bv l)) (hc : 16 ≤ c) :
    ∃ A' c', (∀ W : World, (Instr.slice 26 (.slice A 16 c) (some (.int .i64 8)) none none).run Try.prog W = .ok (.slice A' 8 c') W) ∧ 8 ≤ c' ∧ Reads w w.heap.size 1 A' 8 (bv (l.drop 8)) := by
  obtain ⟨ad, rfl, -, -⟩ := h.2 (by decide)
  have h1 := h.cut (k := 8) (cap := c) (by decide) hc
  rw [if_neg (by omega)] at h1
  refine ⟨some (ad.add 8), c - 8, fun W => ?_, by omega, ?_⟩
  · have := slice_l8 (some ad) 16 c 8 (by decide) W
    rw [show ((8 : Nat) : Int) = 8 from rfl] at this
    rw [this, sliced_at ad 8 16 c (by omega)]
  · have e : bv (l.drop 8) = (bv l).drop 8 := by simp [bv]
    rw [e]
    exact h1
theorem parts_4 {W : World} {T : TypeId} {A B C D : Option Addr} {c cb cc cd x y z : Nat} {l : List Nat} (hb : Reads W W.heap.size 1 B 8 (bv (be x 8))) (hcb : 8 ≤ cb) (hC : Reads W W.heap.size 1 C 8 (bv (be y 8))) (hcc : 8 ≤ cc) (hD : Reads W W.heap.size 1 D 8 (bv (be z 8))) (hcd : 8 ≤ cd) (hc : l.length ≤ c) (hr : Reads W W.heap.size 1 A l.length (bv l)) :
    Parts (W.alloc (.cells #[.slice B 8 cb, .slice C 8 cc, .slice D 8 cd, .slice A l.length c] T)) (W.alloc (.cells #[.slice B 8 cb, .slice C 8 cc, .slice D 8 cd, .slice A l.length c] T)).heap.size (some ⟨W.heap.size, 0, none⟩) [be x 8, be y 8, be z 8, l] :=
  parts_new rfl fun j p hj => match j, hj with
    | 0, hj => by cases hj; exact ⟨B, cb, by rw [be_length]; rfl, by rw [be_length]; exact hcb, by rw [be_length]; exact hb⟩
    | 1, hj => by cases hj; exact ⟨C, cc, by rw [be_length]; rfl, by rw [be_length]; exact hcc, by rw [be_length]; exact hC⟩
    | 2, hj => by cases hj; exact ⟨D, cd, by rw [be_length]; rfl, by rw [be_length]; exact hcd, by rw [be_length]; exact hD⟩
    | 3, hj => by cases hj; exact ⟨A, c, rfl, hc, hr⟩
theorem lts4 (x y z : Nat) {l : List Nat} (hl : ∀ x ∈ l, x < 256) : ∀ p ∈ [be x 8, be y 8, be z 8, l], ∀ x ∈ p, x < 256 := by
  intro p hp; simp only [List.mem_cons, List.not_mem_nil, or_false] at hp
  rcases hp with rfl | rfl | rfl | rfl
  · exact be_lt8 x
  · exact be_lt8 y
  · exact be_lt8 z
  · exact hl
theorem len4 (tag : ByteArray) (ht : tag.size ≤ 10) (x y z : Nat) {l : List Nat} (h : l.length ≤ 1000) : (coded (strN tag) [be x 8, be y 8, be z 8, l]).length ≤ 1099511627776 := by simp [coded, be_length, strN_length]; omega
theorem bytes2_take (a b : Nat) : (bytes2 a b).take 8 = be a 8 := by unfold bytes2; rw [List.take_append_of_le_length (by rw [be_length]; omega), List.take_of_length_le (by rw [be_length]; omega)]
theorem bytes2_drop (a b : Nat) : (bytes2 a b).drop 8 = be b 8 := by unfold bytes2; rw [List.drop_append, List.drop_of_length_le (by rw [be_length]; omega), be_length]; rfl

set_option maxRecDepth 100000 in
set_option maxHeartbeats 4000000 in
theorem qnonce_any (x id sn : Nat) (hx : x < 18446744073709551616) (hid : id < 18446744073709551616) (hsn : sn < 9223372036854775808) (m : List Nat) (hm : ∀ y ∈ m, y < 256) (hl : m.length ≤ 1000) (M : Option Addr) (d : Nat) (hd : m.length ≤ d) (w : World) (hr : Reads w w.heap.size 1 M m.length (bv m)) :
    Calls Try.prog 68 #[.agg #[.int .i64 (id : Int), .int .u64 (x : Int)], .int .i64 (sn : Int), .slice M m.length d] w fun e w' => e = .returned (.int .u64 (qnN x id sn m : Nat)) ∧ Ext w w' := by
  have c1 := fun W => bytes_any x id W
  have c2 := fun W => bytes_any sn 0 W
  obtain ⟨tx, ty, c3, c4⟩ := tagNum commitS [be x 8, be id 8, be sn 8, m] (bR - 1) (by decide) (lts4 x id sn hm) (len4 commitS (by decide) x id sn hl)
  have hlt := hNum_lt commitS [be x 8, be id 8, be sn 8, m] (m := bR - 1) (by decide)
  unfold qnN
  obtain ⟨u, hu⟩ : ∃ u, u = hNum commitS [be x 8, be id 8, be sn 8, m] (bR - 1) := ⟨_, rfl⟩
  rw [← hu] at hlt c4 ⊢
  rw [show bR - 1 = 1152921504606845788 from rfl] at c4
  simp only [Int.cast_ofNat_Int] at c4 c2
  have e2 := (wrap_one (n := u) (by unfold bR at *; omega)).2
  have kw1 : IntKind.u64.wrap (id : Int) = (id : Int) := by rw [IntKind.wrap_u64]; omega
  have kw2 : IntKind.u64.wrap (sn : Int) = (sn : Int) := by rw [IntKind.wrap_u64]; omega
  have HR := Lib.hid hr
  have HD := Lib.hid hd
  clear hx hid hsn hm hl hr hd hlt hu
  go_enter Try.func68, Try.ntmps68
  have x0 : Ext w (w.alloc (.cells #[.int .i64 (id : Int), .int .u64 (x : Int)] 45)) := (Ext.refl w).alloc _
  go_wp2_with (first
    | (go_at_call 82; refine (c1 _).mono ?_; clear c1; rintro e w1 ⟨v1, rfl, o1, x1⟩; obtain ⟨A1, k1, rfl, hk1, r1⟩ := own_slice o1)
    | (go_at_call 82; refine (c2 _).mono ?_; clear c2; rintro e w2 ⟨v2, rfl, o2, x2⟩; obtain ⟨A2, k2, rfl, hk2, r2⟩ := own_slice o2))
  have r1' := (r1.below x2.out).more x2.size
  obtain ⟨B1, s1, q1⟩ := first8 r1' hk1
  obtain ⟨B2, k3, s2, hk3, q2⟩ := last8 r1' hk1
  obtain ⟨B3, s3, q3⟩ := first8 r2 hk2
  rw [bytes2_take] at q1 q3
  rw [bytes2_drop] at q2
  have X2 := Lib.hid ((x0.trans x1).trans x2)
  have rm := (HR.out.below X2.out.out).more X2.out.size
  have c3' := fun T => c3 (some ⟨w2.heap.size, 0, none⟩) 4 (w2.alloc (.cells #[.slice B1 8 k1, .slice B2 8 k3, .slice B3 8 k2, .slice M m.length d] T)).drew (Nat.le_refl 4) (parts_4 (W := w2) (T := T) q1 (by omega) q2 hk3 q3 (by omega) HD.out rm)
  simp only [List.length_cons, List.length_nil, Nat.reduceAdd, Nat.zero_add] at c3'
  clear r1' q1 q2 q3 rm r1 r2 o1 o2 x1 x2 x0 c3 hk1 hk2 hk3
  go_region_with (first
    | (go_at_call 62; refine (c3' _).mono ?_; clear c3'; rintro e w3 ⟨rfl, x3⟩)
    | (go_at_call 61; refine (c4 _).mono ?_; clear c4; rintro e w4 ⟨rfl, x4⟩))
  all_goals (
    go_wp2
    go_ret
    exact ⟨rfl, ((X2.out.alloc _).drew.trans x3).trans x4⟩)
end Go.Proofs.Ytiecfamjnnmpaaa

/- Signers, walked: Commit. -/
namespace Go.Proofs.Ytiecfamjnnmpaaa
set_option linter.unusedVariables false
open Go.RowKit Go.Shelf Go.Maps
attribute [local irreducible] atN prodN sumN wantN chkN mix hSum hNum chalN chN scN qnN

/-- What a signer commits to, and why not. -/
def comE (id : Int) (x : Nat) (ss : Int) : Nat := if id < 1 ∨ 7 < id ∨ bR ≤ x ∨ ss < 0 ∨ 1099511627776 < ss then 1 else 0
def comS (id : Int) (x : Nat) (ss : Int) (m : List Nat) : Int × Nat := if comE id x ss = 0 then (id, powM bQ 4 (qnN x id.toNat ss.toNat m)) else (0, 0)
def comV (id : Int) (x : Nat) (ss : Int) (m : List Nat) : Value := .tuple #[.agg #[.int .i64 (comS id x ss m).1, .int .u64 ((comS id x ss m).2 : Int)], .int .i64 (comE id x ss : Nat)]
theorem com_bad {id : Int} {x : Nat} {ss : Int} (h : id < 1 ∨ 7 < id ∨ bR ≤ x ∨ ss < 0 ∨ 1099511627776 < ss) (m : List Nat) : comV id x ss m = .tuple #[.agg #[.int .i64 0, .int .u64 0], .int .i64 1] := by
  have e : comE id x ss = 1 := if_pos h
  unfold comV comS
  rw [e]; rfl
theorem com_ok {id : Int} {x : Nat} {ss : Int} (h : ¬ (id < 1 ∨ 7 < id ∨ bR ≤ x ∨ ss < 0 ∨ 1099511627776 < ss)) (m : List Nat) : comV id x ss m = .tuple #[.agg #[.int .i64 id, .int .u64 (powM bQ 4 (qnN x id.toNat ss.toNat m) : Nat)], .int .i64 0] := by
  have e : comE id x ss = 0 := if_neg h
  unfold comV comS
  rw [e]; rfl

theorem start_two (w : World) (x y : Array Value) (T : TypeId) : ∃ W, (w.alloc (.cells x T)).alloc (.cells y T) = W ∧ Blk W w.heap.size T x ∧ Blk W (w.heap.size + 1) T y ∧ Ext w W := by
  refine ⟨_, rfl, (Blk.new w T x).alloc _, ?_, ((Ext.refl w).alloc _).alloc _⟩
  have := Blk.new (w.alloc (.cells x T)) T y
  rw [World.size_alloc] at this
  exact this

set_option maxRecDepth 100000 in
set_option maxHeartbeats 4000000 in
theorem Commit_any (id : Int) (x : Nat) (hx : x < 18446744073709551616) (ss : Int) (m : List Nat) (hm : ∀ y ∈ m, y < 256) (hl : m.length ≤ 1000) (M : Option Addr) (d : Nat) (hd : m.length ≤ d) (w : World) (hr : Reads w w.heap.size 1 M m.length (bv m)) :
    Calls Try.prog 43 #[.agg #[.int .i64 id, .int .u64 (x : Int)], .int .i64 ss, .slice M m.length d] w fun e w' => e = .returned (comV id x ss m) ∧ Ext w w' := by
  have xx : Ext w ((w.alloc (.cells #[.int .i64 id, .int .u64 (x : Int)] 45)).alloc (.cells #[.int .i64 0, .int .u64 0] 45)) := ((Ext.refl w).alloc _).alloc _
  obtain ⟨W1, e1, -, hb, -⟩ := start_two w #[.int .i64 id, .int .u64 (x : Int)] #[.int .i64 0, .int .u64 0] 45
  rw [← e1] at hb
  obtain ⟨p0, p1⟩ := two hb
  clear hb e1 W1
  by_cases t1 : id < 1
  · rw [com_bad (.inl t1)]
    clear hr hm hl hd hx
    go_enter Try.func43, Try.ntmps43
    go_wp2
    exact bodyPost_ret (v := .tuple #[.agg #[.int .i64 0, .int .u64 0], .int .i64 1]) (by simp [results, Try.results43, go_sem, p0, p1]) rfl ⟨rfl, xx⟩
  by_cases t2 : 7 < id
  · rw [com_bad (.inr (.inl t2))]
    clear hr hm hl hd hx
    go_enter Try.func43, Try.ntmps43
    go_wp2
    exact bodyPost_ret (v := .tuple #[.agg #[.int .i64 0, .int .u64 0], .int .i64 1]) (by simp [results, Try.results43, go_sem, p0, p1]) rfl ⟨rfl, xx⟩
  by_cases t3 : bR ≤ x
  · rw [com_bad (.inr (.inr (.inl t3)))]
    have d1 : decide ((1152921504606845789 : Int) ≤ (x : Int)) = true := by unfold bR at t3; simp; omega
    have d2 : (1152921504606845789 : Int) ≤ (x : Int) := by unfold bR at t3; omega
    clear hr hm hl hd hx t3
    go_enter Try.func43, Try.ntmps43
    go_wp2
    exact bodyPost_ret (v := .tuple #[.agg #[.int .i64 0, .int .u64 0], .int .i64 1]) (by simp [results, Try.results43, go_sem, p0, p1]) rfl ⟨rfl, xx⟩
  have d1 : decide ((1152921504606845789 : Int) ≤ (x : Int)) = false := by unfold bR at t3; simp; omega
  have d2 : ¬ (1152921504606845789 : Int) ≤ (x : Int) := by unfold bR at t3; omega
  by_cases t4 : ss < 0
  · rw [com_bad (.inr (.inr (.inr (.inl t4))))]
    clear hr hm hl hd hx t3
    go_enter Try.func43, Try.ntmps43
    go_wp2
    exact bodyPost_ret (v := .tuple #[.agg #[.int .i64 0, .int .u64 0], .int .i64 1]) (by simp [results, Try.results43, go_sem, p0, p1]) rfl ⟨rfl, xx⟩
  by_cases t5 : 1099511627776 < ss
  · rw [com_bad (.inr (.inr (.inr (.inr t5))))]
    clear hr hm hl hd hx t3
    go_enter Try.func43, Try.ntmps43
    go_wp2
    exact bodyPost_ret (v := .tuple #[.agg #[.int .i64 0, .int .u64 0], .int .i64 1]) (by simp [results, Try.results43, go_sem, p0, p1]) rfl ⟨rfl, xx⟩
  rw [com_ok (by rintro (h | h | h | h | h); exact t1 h; exact t2 h; exact t3 h; exact t4 h; exact t5 h)]
  obtain ⟨idn, rfl⟩ : ∃ n : Nat, id = n := ⟨id.toNat, by omega⟩
  obtain ⟨sn, rfl⟩ : ∃ n : Nat, ss = n := ⟨ss.toNat, by omega⟩
  rw [Int.toNat_natCast, Int.toNat_natCast]
  have c1 := fun (W : World) (x' : Ext w W) => qnonce_any x idn sn hx (by omega) (by omega) m hm hl M d hd W ((hr.below x'.out).more x'.size)
  have hlt := r64 (qnN_lt x idn sn m)
  obtain ⟨u, hu⟩ : ∃ u, u = qnN x idn sn m := ⟨_, rfl⟩
  rw [← hu] at c1 hlt ⊢
  have c2 := fun W => Base_any u hlt W
  obtain ⟨v, hv⟩ : ∃ v, v = powM bQ 4 u := ⟨_, rfl⟩
  rw [← hv] at c2 ⊢
  clear hr hm hl hd hx t3 hu hv hlt p0 p1 xx
  go_enter Try.func43, Try.ntmps43
  go_wp2
  obtain ⟨W0, e0, h1, h2, x0⟩ := start_two w #[.int .i64 (idn : Int), .int .u64 (x : Int)] #[.int .i64 0, .int .u64 0] 45
  rw [e0]
  obtain ⟨q1, q2, q3, q4⟩ := arr2 h1
  obtain ⟨r1, r2, r3, r4⟩ := arr2 h2
  have H1 := Lib.hid h1
  have H2 := Lib.hid h2
  clear h1 h2 e0
  go_region_with (first
    | (go_at_call 68; refine (c1 _ x0.drew).mono ?_; clear c1; rintro e w1 ⟨rfl, x1⟩; have z1 := Lib.hid (ext_blk x1 H1.out.drew); have z2 := Lib.hid (ext_blk x1 H2.out.drew); obtain ⟨q1A, q2A, q3A, q4A⟩ := arr2 z1.out; obtain ⟨r1A, r2A, r3A, r4A⟩ := arr2 z2.out)
    | (go_at_call 21; refine (c2 _).mono ?_; clear c2; rintro e w2 ⟨rfl, x2⟩; have y1 := Lib.hid (ext_blk x2 z1.out); have y2 := Lib.hid (ext_blk x2 z2.out); obtain ⟨q1B, q2B, q3B, q4B⟩ := arr2 y1.out; obtain ⟨r1B, r2B, r3B, r4B⟩ := arr2 y2.out))
  all_goals (
    go_wp2
    refine bodyPost_ret (v := .tuple #[.agg #[.int .i64 (idn : Int), .int .u64 (v : Int)], .int .i64 0]) (by simp [results, Try.results43, go_sem, r1B, r2B]) rfl ⟨rfl, ?_⟩
    exact (((x0.drew.trans x1).trans x2).setCell (p := ⟨w.heap.size + 1, 0, none⟩) (by simp) _).setCell (p := ⟨w.heap.size + 1, 1, none⟩) (by simp) _)
end Go.Proofs.Ytiecfamjnnmpaaa

/- Crews, walked: row (three checks, whatever they are). -/
namespace Go.Proofs.Ytiecfamjnnmpaaa
set_option linter.unusedVariables false
open Go.RowKit Go.Shelf Go.Maps

/-- The first error of three. -/
def rowN (a b c : Nat) : Nat := if a = 0 then (if b = 0 then c else b) else a
set_option maxRecDepth 100000 in
set_option maxHeartbeats 4000000 in
theorem row_any (F1 F2 F3 : FuncId) (hE1 : Enters Try.prog F1) (hE2 : Enters Try.prog F2) (hE3 : Enters Try.prog F3) (a1 b1 a2 b2 a3 b3 : Array Value) (n1 n2 n3 : Nat) (P1 P2 P3 : World → Prop) (g : Nat) (w : World)
    (hk : ∀ W, (W = w ∨ P1 W ∨ P2 W) → W.cell? ⟨g, 0, none⟩ = some (.func (.func F1) a1 b1) ∧ W.cell? ⟨g, 1, none⟩ = some (.func (.func F2) a2 b2) ∧ W.cell? ⟨g, 2, none⟩ = some (.func (.func F3) a3 b3))
    (c1 : Calls Try.prog F1 (a1 ++ b1) w fun e w' => e = .returned (.int .i64 (n1 : Int)) ∧ P1 w')
    (c2 : n1 = 0 → ∀ W, P1 W → Calls Try.prog F2 (a2 ++ b2) W fun e w' => e = .returned (.int .i64 (n2 : Int)) ∧ P2 w')
    (c3 : n1 = 0 → n2 = 0 → ∀ W, P2 W → Calls Try.prog F3 (a3 ++ b3) W fun e w' => e = .returned (.int .i64 (n3 : Int)) ∧ P3 w') :
    Calls Try.prog 26 #[.slice (some ⟨g, 0, none⟩) 3 3] w fun e w' => e = .returned (.int .i64 (rowN n1 n2 n3 : Nat)) ∧ ((n1 ≠ 0 ∧ P1 w') ∨ (n1 = 0 ∧ n2 ≠ 0 ∧ P2 w') ∨ (n1 = 0 ∧ n2 = 0 ∧ P3 w')) := by
  unfold Enters at hE1 hE2 hE3
  have HK := Lib.hid hk
  have C2 := Lib.hid c2
  have C3 := Lib.hid c3
  have C1 := Lib.hid c1
  clear hk c1 c2 c3
  go_enter Try.func26, Try.ntmps26
  go_wp2
  go_loopg [8] 3 (fun m s8 wr => (m = 3 ∧ s8 = .int .i64 0 ∧ wr = w) ∨ (m = 2 ∧ s8 = .int .i64 1 ∧ n1 = 0 ∧ P1 wr) ∨ (m = 1 ∧ s8 = .int .i64 2 ∧ n1 = 0 ∧ n2 = 0 ∧ P2 wr) ∨ (m = 0 ∧ s8 = .int .i64 3 ∧ n1 = 0 ∧ n2 = 0 ∧ n3 = 0 ∧ P3 wr))
  case atStart => exact .inl ⟨rfl, rfl, rfl⟩
  case round =>
    rcases hrel with ⟨rfl, rfl, rfl⟩ | ⟨rfl, rfl, h1, hp⟩ | ⟨rfl, rfl, h1, h2, hp⟩ | ⟨rfl, rfl, h1, h2, h3, hp⟩
    · obtain ⟨k0, k1, k2⟩ := HK.out wr (.inl rfl)
      by_cases h : n1 = 0
      · have c1 := C1.out
        rw [h] at c1
        go_wp2_with (go_at_fn F1; refine c1.mono ?_; clear c1; rintro e w1 ⟨rfl, p1⟩)
        go_roundg 2
        case measure => omega
        case rel => exact .inr (.inl ⟨rfl, rfl, h, p1⟩)
      · have d : ((n1 : Int) != 0) = true := by simp; omega
        have c1 := C1.out
        go_wp2_with (go_at_fn F1; refine c1.mono ?_; clear c1; rintro e w1 ⟨rfl, p1⟩)
        go_ret
        exact ⟨by unfold rowN; rw [if_neg h]; rfl, .inl ⟨h, p1⟩⟩
    · obtain ⟨k0, k1, k2⟩ := HK.out wr (.inr (.inl hp))
      by_cases h : n2 = 0
      · have c2 := C2.out h1 wr hp
        rw [h] at c2
        go_wp2_with (go_at_fn F2; refine c2.mono ?_; clear c2; rintro e w1 ⟨rfl, p1⟩)
        go_roundg 1
        case measure => omega
        case rel => exact .inr (.inr (.inl ⟨rfl, rfl, h1, h, p1⟩))
      · have d : ((n2 : Int) != 0) = true := by simp; omega
        have c2 := C2.out h1 wr hp
        go_wp2_with (go_at_fn F2; refine c2.mono ?_; clear c2; rintro e w1 ⟨rfl, p1⟩)
        go_ret
        exact ⟨by unfold rowN; rw [if_pos h1, if_neg h]; rfl, .inr (.inl ⟨h1, h, p1⟩)⟩
    · obtain ⟨k0, k1, k2⟩ := HK.out wr (.inr (.inr hp))
      by_cases h : n3 = 0
      · have c3 := C3.out h1 h2 wr hp
        rw [h] at c3
        go_wp2_with (go_at_fn F3; refine c3.mono ?_; clear c3; rintro e w1 ⟨rfl, p1⟩)
        go_roundg 0
        case measure => omega
        case rel => exact .inr (.inr (.inr ⟨rfl, rfl, h1, h2, h, p1⟩))
      · have d : ((n3 : Int) != 0) = true := by simp; omega
        have c3 := C3.out h1 h2 wr hp
        go_wp2_with (go_at_fn F3; refine c3.mono ?_; clear c3; rintro e w1 ⟨rfl, p1⟩)
        go_ret
        exact ⟨by unfold rowN; rw [if_pos h1, if_pos h2]; rfl, .inr (.inr ⟨h1, h2, p1⟩)⟩
    · go_wp2
      go_ret
      exact ⟨by unfold rowN; rw [if_pos h1, if_pos h2, h3]; rfl, .inr (.inr ⟨h1, h2, hp⟩)⟩
end Go.Proofs.Ytiecfamjnnmpaaa

/- Crews, walked: CheckPart. -/
namespace Go.Proofs.Ytiecfamjnnmpaaa
set_option linter.unusedVariables false
open Go.RowKit Go.Shelf Go.Maps
attribute [local irreducible] atN prodN sumN wantN chkN mix hSum hNum chalN chN scN qnN crewN enN rightN

theorem crew_zero {t n : Int} {k : Nat} {p : List (Int × Nat)} (h : crewN t n k p = 0) : 1 ≤ t ∧ t ≤ n ∧ n ≤ 7 ∧ (p.length : Int) = n ∧ inB k = true ∧ rowP p ∧ chkN t p = 0 ∧ jointN (p.take t.toNat) = k := by
  unfold crewN at h
  split at h
  · cases h
  rename_i h1
  split at h
  · cases h
  rename_i h2
  split at h
  · exact absurd h (by assumption)
  rename_i h3
  split at h
  · rename_i h4
    refine ⟨by omega, by omega, by omega, ?_, ?_, by simpa using h2, by simpa using h3, h4⟩
    · exact Decidable.byContradiction fun h5 => h1 (.inr (.inr (.inr (.inl h5))))
    · cases hk : inB k with
      | true => rfl
      | false => exact absurd (.inr (.inr (.inr (.inr hk)))) h1
  · cases h
theorem en_zero {t n : Int} {l : List (Int × Nat)} (h : enN t n l = 0) : okC n l ∧ ¬ (l.length : Int) < t := by
  unfold enN at h
  split at h
  · rename_i h1
    split at h
    · cases h
    · exact ⟨h1, by assumption⟩
  · cases h
theorem range_zero {t n : Int} {k : Nat} {p l : List (Int × Nat)} (h : crewN t n k p = 0) (h' : enN t n l = 0) : ∀ s ∈ l, 1 ≤ s.1 ∧ s.1 ≤ p.length := fun s hs => by
  have h1 := (crew_zero h).2.2.2.1
  have h2 := (en_zero h').1.2 s hs
  omega

theorem crew_enters : Enters Try.prog 27 := enters_of Try.func27 (by kernel_rfl) rfl
theorem enough_enters : Enters Try.prog 28 := enters_of Try.func28 (by kernel_rfl) rfl
theorem partX_enters : Enters Try.prog 45 := enters_of Try.func45 (by kernel_rfl) rfl

set_option maxRecDepth 100000 in
set_option maxHeartbeats 1000000 in
theorem chkPart1_any (b : Nat) (t n : Int) (k : Nat) (p : List (Int × Nat)) (m : List Nat) (l : List (Int × Nat)) (v : SesV k p m l) (hrange : ∀ s ∈ l, 1 ≤ s.1 ∧ s.1 ≤ p.length) (id : Int) (x : Nat) (hx64 : x < 18446744073709551616) (g h : Nat) (w : World) (hs : Ses w b t n k p m l)
    (hg : w.cell? ⟨g, 0, none⟩ = some (.pointer (some ⟨b, 0, none⟩))) (hh : w.cell? ⟨h, 0, none⟩ = some (.int .i64 id) ∧ w.cell? ⟨h, 1, none⟩ = some (.int .u64 (x : Int))) :
    Calls Try.prog 45 #[.pointer (some ⟨g, 0, none⟩), .pointer (some ⟨h, 0, none⟩)] w fun e w' => e = .returned (.int .i64 (rightN k p m l id x : Nat)) ∧ Ext w w' := by
  have c1 := qright_any b t n k p m l v hrange id x hx64 w hs
  obtain ⟨h0, h1⟩ := hh
  clear hs hrange v hx64
  go_enter Try.func45, Try.ntmps45
  go_wp2_with (go_at_call 25; refine c1.mono ?_; clear c1; rintro e w1 ⟨rfl, x1⟩)
  go_ret
  exact ⟨rfl, x1⟩

/-- What is wrong with a part, or with what it is told with. -/
def cpN (t n : Int) (k : Nat) (p : List (Int × Nat)) (m : List Nat) (l : List (Int × Nat)) (id : Int) (x : Nat) : Nat := rowN (crewN t n k p) (enN t n l) (rightN k p m l id x)

theorem start_five (w : World) (x y z u v : Array Value) (T1 T2 T3 T4 T5 : TypeId) : ∃ W, ((((w.alloc (.cells x T1)).alloc (.cells y T2)).alloc (.cells z T3)).alloc (.cells u T4)).alloc (.cells v T5) = W ∧ Blk W w.heap.size T1 x ∧ Blk W (w.heap.size + 1) T2 y ∧ Blk W (w.heap.size + 1 + 1) T3 z ∧ Blk W (w.heap.size + 1 + 1 + 1) T4 u ∧ Blk W (w.heap.size + 1 + 1 + 1 + 1) T5 v ∧ Ext w W := by
  have h2 := Blk.new (w.alloc (.cells x T1)) T2 y
  have h3 := Blk.new ((w.alloc (.cells x T1)).alloc (.cells y T2)) T3 z
  have h4 := Blk.new (((w.alloc (.cells x T1)).alloc (.cells y T2)).alloc (.cells z T3)) T4 u
  have h5 := Blk.new ((((w.alloc (.cells x T1)).alloc (.cells y T2)).alloc (.cells z T3)).alloc (.cells u T4)) T5 v
  simp only [World.size_alloc] at h2 h3 h4 h5
  exact ⟨_, rfl, ((((Blk.new w T1 x).alloc _).alloc _).alloc _).alloc _, ((h2.alloc _).alloc _).alloc _, (h3.alloc _).alloc _, h4.alloc _, h5, (((((Ext.refl w).alloc _).alloc _).alloc _).alloc _).alloc _⟩

set_option maxRecDepth 100000 in
set_option maxHeartbeats 4000000 in
theorem CheckPart_any (t n : Int) (k : Nat) (p : List (Int × Nat)) (m : List Nat) (l : List (Int × Nat)) (v : SesV k p m l) (id : Int) (x : Nat) (hx64 : x < 18446744073709551616) (A M B : Option Addr) (c d e : Nat) (hc : p.length ≤ c) (hd : m.length ≤ d) (he : l.length ≤ e) (w : World) (hp : Reads w w.heap.size 2 A p.length (sv p)) (hm : Reads w w.heap.size 1 M m.length (bv m)) (hl : Reads w w.heap.size 2 B l.length (sv l)) :
    Calls Try.prog 15 #[.agg #[.int .i64 t, .int .i64 n, .int .u64 (k : Int), .slice A p.length c], .slice M m.length d, .slice B l.length e, .agg #[.int .i64 id, .int .u64 (x : Int)]] w fun e w' => e = .returned (.int .i64 (cpN t n k p m l id x : Nat)) ∧ Ext w w' := by
  have hmf := makeFunc_run
  obtain ⟨W, eW, b1, b2, b3, b4, b5, x0⟩ := start_five w #[.int .i64 t, .int .i64 n, .int .u64 (k : Int), .slice A p.length c] #[.int .i64 id, .int .u64 (x : Int)] #[.int .i64 t, .int .i64 n, .int .u64 (k : Int), .slice A p.length c, .slice M m.length d, .slice B l.length e] #[.pointer (some ⟨w.heap.size + 1 + 1, 0, none⟩)]
    #[.func (.func 27) #[.pointer (some ⟨w.heap.size + 1 + 1, 0, none⟩)] #[], .func (.func 28) #[.pointer (some ⟨w.heap.size + 1 + 1, 0, none⟩)] #[], .func (.func 45) #[] #[.pointer (some ⟨w.heap.size + 1 + 1 + 1, 0, none⟩), .pointer (some ⟨w.heap.size + 1, 0, none⟩)]]
    25 45 59 57 64
  have ses : Ses W (w.heap.size + 1 + 1) t n k p m l := ⟨A, c, M, d, B, e, b3, hc, hd, he, (hp.below x0.out).more x0.size, (hm.below x0.out).more x0.size, (hl.below x0.out).more x0.size⟩
  have cr : Calls Try.prog 26 #[.slice (some ⟨w.heap.size + 1 + 1 + 1 + 1, 0, none⟩) 3 3] W fun e w' => e = .returned (.int .i64 (cpN t n k p m l id x : Nat)) ∧ Ext w w' := by
    refine (row_any _ _ _ crew_enters enough_enters partX_enters #[.pointer (some ⟨w.heap.size + 1 + 1, 0, none⟩)] #[] #[.pointer (some ⟨w.heap.size + 1 + 1, 0, none⟩)] #[] #[] #[.pointer (some ⟨w.heap.size + 1 + 1 + 1, 0, none⟩), .pointer (some ⟨w.heap.size + 1, 0, none⟩)] (crewN t n k p) (enN t n l) (rightN k p m l id x) (Ext W) (Ext W) (Ext W) _ W ?_
      (crew_any _ t n k p m l v W ses)
      (fun _ W' h => (enough_any _ t n k p m l v W' (ses.ext h)).mono fun _ _ h' => ⟨h'.1, h.trans h'.2⟩)
      (fun h1 h2 W' h => (chkPart1_any _ t n k p m l v (range_zero h1 h2) id x hx64 _ _ W' (ses.ext h) ((ext_blk h b4).cell 0) (two (ext_blk h b2))).mono fun _ _ h' => ⟨h'.1, h.trans h'.2⟩)).mono fun e w' h => ⟨h.1, ?_⟩
    · rintro W' (rfl | h | h)
      · exact ⟨b5.cell 0, b5.cell 1, b5.cell 2⟩
      · have b := ext_blk h b5
        exact ⟨b.cell 0, b.cell 1, b.cell 2⟩
      · have b := ext_blk h b5
        exact ⟨b.cell 0, b.cell 1, b.cell 2⟩
    · rcases h.2 with h | h | h
      · exact x0.trans h.2
      · exact x0.trans h.2.2
      · exact x0.trans h.2.2
  rw [← eW] at cr
  clear b1 b2 b3 b4 b5 x0 ses eW hp hm hl hc hd he v hx64
  go_enter Try.func15, Try.ntmps15
  go_wp2_with (go_at_call 26; refine cr.mono ?_; clear cr; rintro e w1 ⟨rfl, x1⟩)
  go_ret
  exact ⟨rfl, x1⟩
end Go.Proofs.Ytiecfamjnnmpaaa
