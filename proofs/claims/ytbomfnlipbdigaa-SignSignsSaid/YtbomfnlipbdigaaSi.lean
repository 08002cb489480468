/- Signing, walked: Secret, Public, Challenge (sign and greatsealref04). Printed by gen_si.py. -/
import Derived.Test.YtbomfnlipbdigaaSiMath
import Derived.Test.YtbomfnlipbdigaaSiB
import Derived.Test.YtbomfnlipbdigaaHaRefT
import Derived.Test.YtbomfnlipbdigaaCyE
import Derived.Test.YtbomfnlipbdigaaLater
namespace Go.Proofs.Ytbomfnlipbdigaa
set_option linter.unusedVariables false
open Go.RowKit Go.Shelf
attribute [local irreducible] mix hSum hNum

theorem mix_w (s : Nat × Nat × Nat) : (mix s).1 < 18446744073709551616 ∧ (mix s).2.1 < 18446744073709551616 := by
  obtain ⟨p, q, _⟩ := rnd_lt 7 (rnds 7 s)
  have e : mix s = rnd 7 (rnds 7 s) := by unfold mix; rfl
  rw [e]
  exact ⟨Nat.lt_trans p (by decide), Nat.lt_trans q (by decide)⟩
theorem soak_w : ∀ (l : List Nat) (s : Nat × Nat × Nat), s.1 < 18446744073709551616 → s.2.1 < 18446744073709551616 → (soak s l).1 < 18446744073709551616 ∧ (soak s l).2.1 < 18446744073709551616
  | [], s, h1, h2 => by rw [soak]; exact ⟨h1, h2⟩
  | [x], s, _, _ => by rw [soak_one]; exact mix_w _
  | x :: y :: l, s, _, _ => by rw [soak_two]; exact soak_w l _ (mix_w _).1 (mix_w _).2
theorem hSum_w (l : List Nat) : (hSum l).1 < 18446744073709551616 ∧ (hSum l).2 < 18446744073709551616 := by
  unfold hSum soakE
  split
  · exact mix_w _
  · exact soak_w _ _ (show 0 < 18446744073709551616 by decide) (show 0 < 18446744073709551616 by decide)

/-- Slices built one after another, as parts. -/
theorem parts_new {W : World} {T : TypeId} {vs : Array Value} {ps : List (List Nat)} (hl : vs.size = ps.length) (h : ∀ (j : Nat) (p : List Nat), ps[j]? = some p → ∃ a c, vs[j]? = some (Value.slice a p.length c) ∧ p.length ≤ c ∧ Reads W W.heap.size 1 a p.length (bv p)) :
    Parts (W.alloc (.cells vs T)) (W.alloc (.cells vs T)).heap.size (some ⟨W.heap.size, 0, none⟩) ps := by
  refine ⟨vs.toList, by rw [← hl]; exact blk_reads (Blk.new W T vs), fun j p hj => ?_⟩
  obtain ⟨a, c, h1, h2, h3⟩ := h j p hj
  exact ⟨a, c, by simpa using h1, h2, (h3.alloc (Nat.le_refl _) _).more (by simp)⟩
theorem parts_1 {W : World} {T : TypeId} {A : Option Addr} {c : Nat} {l : List Nat} (hc : l.length ≤ c) (hr : Reads W W.heap.size 1 A l.length (bv l)) :
    Parts (W.alloc (.cells #[.slice A l.length c] T)) (W.alloc (.cells #[.slice A l.length c] T)).heap.size (some ⟨W.heap.size, 0, none⟩) [l] :=
  parts_new rfl fun j p hj => match j, hj with | 0, hj => by cases hj; exact ⟨A, c, rfl, hc, hr⟩
theorem parts_2 {W : World} {T : TypeId} {A B : Option Addr} {c n : Nat} {l : List Nat} (hb : Reads W W.heap.size 1 B 8 (bv (be n 8))) (hc : l.length ≤ c) (hr : Reads W W.heap.size 1 A l.length (bv l)) :
    Parts (W.alloc (.cells #[.slice B 8 8, .slice A l.length c] T)) (W.alloc (.cells #[.slice B 8 8, .slice A l.length c] T)).heap.size (some ⟨W.heap.size, 0, none⟩) [be n 8, l] :=
  parts_new rfl fun j p hj => match j, hj with
    | 0, hj => by cases hj; exact ⟨B, 8, by rw [be_length]; rfl, by rw [be_length]; exact Nat.le_refl _, by rw [be_length]; exact hb⟩
    | 1, hj => by cases hj; exact ⟨A, c, rfl, hc, hr⟩
theorem parts_3 {W : World} {T : TypeId} {A B C : Option Addr} {c n m : Nat} {l : List Nat} (hb : Reads W W.heap.size 1 B 8 (bv (be n 8))) (hd : Reads W W.heap.size 1 C 8 (bv (be m 8))) (hc : l.length ≤ c) (hr : Reads W W.heap.size 1 A l.length (bv l)) :
    Parts (W.alloc (.cells #[.slice B 8 8, .slice C 8 8, .slice A l.length c] T)) (W.alloc (.cells #[.slice B 8 8, .slice C 8 8, .slice A l.length c] T)).heap.size (some ⟨W.heap.size, 0, none⟩) [be n 8, be m 8, l] :=
  parts_new rfl fun j p hj => match j, hj with
    | 0, hj => by cases hj; exact ⟨B, 8, by rw [be_length]; rfl, by rw [be_length]; exact Nat.le_refl _, by rw [be_length]; exact hb⟩
    | 1, hj => by cases hj; exact ⟨C, 8, by rw [be_length]; rfl, by rw [be_length]; exact Nat.le_refl _, by rw [be_length]; exact hd⟩
    | 2, hj => by cases hj; exact ⟨A, c, rfl, hc, hr⟩
theorem be_lt8 (n : Nat) : ∀ x ∈ be n 8, x < 256 := be_lt n 8
theorem lts1 {l : List Nat} (hl : ∀ x ∈ l, x < 256) : ∀ p ∈ [l], ∀ x ∈ p, x < 256 := by intro p hp; simp only [List.mem_cons, List.not_mem_nil, or_false] at hp; subst hp; exact hl
theorem lts2 (n : Nat) {l : List Nat} (hl : ∀ x ∈ l, x < 256) : ∀ p ∈ [be n 8, l], ∀ x ∈ p, x < 256 := by
  intro p hp; simp only [List.mem_cons, List.not_mem_nil, or_false] at hp
  rcases hp with rfl | rfl
  · exact be_lt8 n
  · exact hl
theorem lts3 (n m : Nat) {l : List Nat} (hl : ∀ x ∈ l, x < 256) : ∀ p ∈ [be n 8, be m 8, l], ∀ x ∈ p, x < 256 := by
  intro p hp; simp only [List.mem_cons, List.not_mem_nil, or_false] at hp
  rcases hp with rfl | rfl | rfl
  · exact be_lt8 n
  · exact be_lt8 m
  · exact hl
theorem strN6 (s : ByteArray) : (strN s).length = s.size := strN_length s
theorem len1 (tag : ByteArray) (ht : tag.size ≤ 10) {l : List Nat} (h : l.length ≤ 1000) : (coded (strN tag) [l]).length ≤ 1099511627776 := by simp [coded, be_length, strN_length]; omega
theorem len2 (tag : ByteArray) (ht : tag.size ≤ 10) (n : Nat) {l : List Nat} (h : l.length ≤ 1000) : (coded (strN tag) [be n 8, l]).length ≤ 1099511627776 := by simp [coded, be_length, strN_length]; omega
theorem len3 (tag : ByteArray) (ht : tag.size ≤ 10) (n m : Nat) {l : List Nat} (h : l.length ≤ 1000) : (coded (strN tag) [be n 8, be m 8, l]).length ≤ 1099511627776 := by simp [coded, be_length, strN_length]; omega
theorem wrap_one {n : Nat} (h : n < bR) : IntKind.u64.wrap ((n : Int) + 1) = ((n + 1 : Nat) : Int) ∧ IntKind.u64.wrap (1 + (n : Int)) = ((n + 1 : Nat) : Int) := by
  unfold bR at h
  rw [IntKind.wrap_u64, IntKind.wrap_u64]; omega

theorem tagNum (tag : ByteArray) (ps : List (List Nat)) (m : Nat) (hm : m < 18446744073709551616) (hps : ∀ p ∈ ps, ∀ x ∈ p, x < 256) (htot : (coded (strN tag) ps).length ≤ 1099511627776) : ∃ x y : Nat,
    (∀ A c W, ps.length ≤ c → Parts W W.heap.size A ps → Calls Try.prog 39 #[.string tag, .slice A ps.length c] W fun e w' => e = .returned (.agg #[.int .u64 (x : Int), .int .u64 (y : Int)]) ∧ Ext W w') ∧
    (∀ W, Calls Try.prog 38 #[.agg #[.int .u64 (x : Int), .int .u64 (y : Int)], .int .u64 (m : Nat)] W fun e w' => e = .returned (.int .u64 (hNum tag ps m : Nat)) ∧ Ext W w') := by
  refine ⟨(hSum (coded (strN tag) ps)).1, (hSum (coded (strN tag) ps)).2, fun A c W hc h => Tagged_any tag ps hps A c W h htot, fun W => ?_⟩
  unfold hNum
  exact Num_any _ _ m (hSum_w _).1 (hSum_w _).2 hm W

set_option maxRecDepth 100000 in
set_option maxHeartbeats 1000000 in
theorem some_any (tag : ByteArray) (ps : List (List Nat)) (hps : ∀ p ∈ ps, ∀ x ∈ p, x < 256) (htot : (coded (strN tag) ps).length ≤ 1099511627776) (A : Option Addr) (c : Nat) (hc : ps.length ≤ c) (w : World) (hr : Parts w w.heap.size A ps) :
    Calls Try.prog 35 #[.string tag, .slice A ps.length c] w fun e w' => e = .returned (.int .u64 (someN tag ps : Nat)) ∧ Ext w w' := by
  obtain ⟨x, y, c1, c2⟩ := tagNum tag ps (bR - 1) (by decide) hps htot
  have c1 := c1 A c w hc hr
  have hlt := hNum_lt tag ps (m := bR - 1) (by decide)
  unfold someN
  obtain ⟨n, hn⟩ : ∃ n, n = hNum tag ps (bR - 1) := ⟨_, rfl⟩
  rw [← hn] at hlt c2 ⊢
  rw [show bR - 1 = 1152921504606845788 from rfl] at c2
  simp only [Int.cast_ofNat_Int] at c2
  have e1 := (wrap_one (n := n) (by unfold bR at *; omega)).1
  clear hn hlt hr hps htot
  go_enter Try.func35, Try.ntmps35
  go_wp2_with (first | (go_at_call 39; refine c1.mono ?_; clear c1; rintro e w' ⟨rfl, x1⟩) | (go_at_call 38; refine (c2 _).mono ?_; clear c2; rintro e w' ⟨rfl, x2⟩))
  go_ret
  exact ⟨rfl, x1.trans x2⟩

set_option maxRecDepth 100000 in
set_option maxHeartbeats 1000000 in
theorem Secret_any (l : List Nat) (hl : ∀ x ∈ l, x < 256) (h : l.length ≤ 1000) (A : Option Addr) (c : Nat) (hc : l.length ≤ c) (w : World) (hr : Reads w w.heap.size 1 A l.length (bv l)) :
    Calls Try.prog 15 #[.slice A l.length c] w fun e w' => e = .returned (.int .u64 (secN l : Nat)) ∧ Ext w w' := by
  have c1 := fun T => some_any secretS [l] (lts1 hl) (len1 secretS (by decide) h) _ 1 (Nat.le_refl 1) _ (parts_1 (T := T) hc hr)
  unfold secN
  generalize someN secretS [l] = v at *
  have x0 := fun o => (Ext.refl w).alloc o
  clear hl h hc hr
  go_enter Try.func15, Try.ntmps15
  go_wp2_with (go_at_call 35; refine (c1 _).mono ?_; clear c1; rintro e w' ⟨rfl, x1⟩)
  go_ret
  exact ⟨rfl, (x0 _).trans x1⟩

set_option maxRecDepth 100000 in
set_option maxHeartbeats 1000000 in
theorem odd_any (s : Nat) (w : World) : Calls Try.prog 32 #[.int .u64 s] w fun e w' => e = .returned (.bool (oddN s)) ∧ w = w' := by
  rcases Nat.eq_zero_or_pos s with rfl | h0
  · have e : oddN 0 = true := rfl
    rw [e]
    go_enter Try.func32, Try.ntmps32
    go_wp2
    go_ret
    exact ⟨rfl, rfl⟩
  · have k0 : ((s : Int) == 0) = false := by simp; omega
    have k1 : decide ((1 : Int) ≤ (s : Int)) = true := by simp; omega
    by_cases h : bR ≤ s
    · have e : oddN s = true := by unfold oddN; simp [h]
      rw [e]
      have k2 : decide ((1152921504606845789 : Int) ≤ (s : Int)) = true := by unfold bR at h; simp; omega
      have k3 : decide ((s : Int) < 1152921504606845789) = false := by unfold bR at h; simp; omega
      clear h h0 e
      go_enter Try.func32, Try.ntmps32
      go_wp2
      go_ret
      exact ⟨rfl, rfl⟩
    · have e : oddN s = false := by unfold oddN; simp; omega
      rw [e]
      have k2 : decide ((1152921504606845789 : Int) ≤ (s : Int)) = false := by unfold bR at h; simp; omega
      have k3 : decide ((s : Int) < 1152921504606845789) = true := by unfold bR at h; simp; omega
      clear h h0 e
      go_enter Try.func32, Try.ntmps32
      go_wp2
      go_ret
      exact ⟨rfl, rfl⟩

set_option maxRecDepth 100000 in
set_option maxHeartbeats 1000000 in
theorem Public_any (s : Nat) (hs : s < 18446744073709551616) (w : World) :
    Calls Try.prog 13 #[.int .u64 s] w fun e w' => e = .returned (if oddN s = true then .tuple #[.int .u64 0, .int .i64 1] else .tuple #[.int .u64 (powM bQ 4 s : Nat), .int .i64 0]) ∧ Ext w w' := by
  have c1 := fun w => odd_any s w
  have c2 := fun w => Base_any s hs w
  generalize powM bQ 4 s = v at *
  clear hs
  rcases h : oddN s
  · rw [h] at c1
    clear h
    try simp only [Bool.not_false] at c1
    rw [if_neg (by decide)]
    go_enter Try.func13, Try.ntmps13
    go_wp2_with (first | (go_at_call 32; refine (c1 _).mono ?_; clear c1; rintro e w' ⟨rfl, rfl⟩) | (go_at_call 25; refine (c2 _).mono ?_; clear c2; rintro e w' ⟨rfl, x1⟩))
    go_ret2
    exact ⟨rfl, x1⟩
  · rw [h] at c1
    clear h
    try simp only [Bool.not_true] at c1
    rw [if_pos rfl]
    go_enter Try.func13, Try.ntmps13
    go_wp2_with (go_at_call 32; refine (c1 _).mono ?_; clear c1; rintro e w' ⟨rfl, rfl⟩)
    go_ret2
    exact ⟨rfl, Ext.refl _⟩

set_option maxRecDepth 100000 in
set_option maxHeartbeats 1000000 in
theorem Challenge_any (n m : Nat) (hn : n < 18446744073709551616) (hm : m < 18446744073709551616) (l : List Nat) (hl : ∀ x ∈ l, x < 256) (h : l.length ≤ 1000) (A : Option Addr) (c : Nat) (hc : l.length ≤ c) (w : World) (hr : Reads w w.heap.size 1 A l.length (bv l)) :
    Calls Try.prog 17 #[.int .u64 n, .int .u64 m, .slice A l.length c] w fun e w' => e = .returned (.int .u64 (chalN n m l : Nat)) ∧ Ext w w' := by
  obtain ⟨x, y, c1, c2⟩ := tagNum signS [be n 8, be m 8, l] bR (by decide) (lts3 n m hl) (len3 signS (by decide) n m h)
  have cB := fun w => sbytes_any n hn w
  have cC := fun w => sbytes_any m hm w
  have c1 : ∀ W B C T, Ext w W → Reads W W.heap.size 1 B 8 (bv (be n 8)) → Reads W W.heap.size 1 C 8 (bv (be m 8)) → Calls Try.prog 39 #[.string signS, .slice (some ⟨W.heap.size, 0, none⟩) 3 3] (W.alloc (.cells #[.slice B 8 8, .slice C 8 8, .slice A l.length c] T)) fun e w' => e = .returned (.agg #[.int .u64 (x : Int), .int .u64 (y : Int)]) ∧ Ext (W.alloc (.cells #[.slice B 8 8, .slice C 8 8, .slice A l.length c] T)) w' :=
    fun W B C T xw hb hd => c1 _ 3 _ (Nat.le_refl 3) (parts_3 (T := T) hb hd hc ((hr.below xw.out).more xw.size))
  unfold chalN
  obtain ⟨v, hv⟩ : ∃ v, v = hNum signS [be n 8, be m 8, l] bR := ⟨_, rfl⟩
  rw [← hv] at c2 ⊢
  rw [show bR = 1152921504606845789 from rfl] at c2
  simp only [Int.cast_ofNat_Int] at c2
  clear hv hr hl h hc hn hm
  go_enter Try.func17, Try.ntmps17
  go_wp2_with (first
    | (go_at_call 40; (with_reducible refine (cB _).mono ?_); clear cB; rintro e w1 ⟨B, rfl, rB, xB⟩)
    | (go_at_call 40; (with_reducible refine (cC _).mono ?_); clear cC; rintro e w2 ⟨C, rfl, rC, xC⟩)
    | (go_at_call 39; refine (c1 _ _ _ _ (xB.trans xC) ((rB.below xC.out).more xC.size) rC).mono ?_; clear c1; rintro e w3 ⟨rfl, xT⟩)
    | (go_at_call 38; refine (c2 _).mono ?_; clear c2; rintro e w4 ⟨rfl, xN⟩))
  go_ret
  exact ⟨rfl, (((xB.trans xC).alloc _).trans xT).trans xN⟩

theorem rtagNum (tag : ByteArray) (ps : List (List Nat)) (m : Nat) (hm : m < 18446744073709551616) (hps : ∀ p ∈ ps, ∀ x ∈ p, x < 256) (htot : (coded (strN tag) ps).length ≤ 1099511627776) : ∃ x y : Nat,
    (∀ A c W, ps.length ≤ c → Parts W W.heap.size A ps → Calls Try.prog 37 #[.string tag, .slice A ps.length c] W fun e w' => e = .returned (.agg #[.int .u64 (x : Int), .int .u64 (y : Int)]) ∧ Ext W w') ∧
    (∀ W, Calls Try.prog 36 #[.agg #[.int .u64 (x : Int), .int .u64 (y : Int)], .int .u64 (m : Nat)] W fun e w' => e = .returned (.int .u64 (hNum tag ps m : Nat)) ∧ Ext W w') := by
  refine ⟨(hSum (coded (strN tag) ps)).1, (hSum (coded (strN tag) ps)).2, fun A c W hc h => rTagged_any tag ps hps A c hc W h htot, fun W => ?_⟩
  unfold hNum
  exact rNum_any _ _ m hm W

set_option maxRecDepth 100000 in
set_option maxHeartbeats 1000000 in
theorem rSecret_any (l : List Nat) (hl : ∀ x ∈ l, x < 256) (h : l.length ≤ 1000) (A : Option Addr) (c : Nat) (hc : l.length ≤ c) (w : World) (hr : Reads w w.heap.size 1 A l.length (bv l)) :
    Calls Try.prog 16 #[.slice A l.length c] w fun e w' => e = .returned (.int .u64 (secN l : Nat)) ∧ Ext w w' := by
  obtain ⟨x, y, c1, c2⟩ := rtagNum secretS [l] (bR - 1) (by decide) (lts1 hl) (len1 secretS (by decide) h)
  have c1 := fun T => c1 _ 1 _ (Nat.le_refl 1) (parts_1 (T := T) hc hr)
  have hlt := hNum_lt secretS [l] (m := bR - 1) (by decide)
  unfold secN someN
  obtain ⟨n, hn⟩ : ∃ n, n = hNum secretS [l] (bR - 1) := ⟨_, rfl⟩
  rw [← hn] at hlt c2 ⊢
  rw [show bR - 1 = 1152921504606845788 from rfl] at c2
  simp only [Int.cast_ofNat_Int] at c2
  have e1 := (wrap_one (n := n) (by unfold bR at *; omega)).2
  have x0 := fun o => (Ext.refl w).alloc o
  clear hn hlt hr hl h hc
  go_enter Try.func16, Try.ntmps16
  go_wp2_with (first | (go_at_call 37; refine (c1 _).mono ?_; clear c1; rintro e w' ⟨rfl, x1⟩) | (go_at_call 36; refine (c2 _).mono ?_; clear c2; rintro e w' ⟨rfl, x2⟩))
  go_ret
  exact ⟨rfl, ((x0 _).trans x1).trans x2⟩

set_option maxRecDepth 100000 in
set_option maxHeartbeats 1000000 in
theorem rodd_any (s : Nat) (w : World) : Calls Try.prog 33 #[.int .u64 s] w fun e w' => e = .returned (.bool (!oddN s)) ∧ w = w' := by
  rcases Nat.eq_zero_or_pos s with rfl | h0
  · have e : oddN 0 = true := rfl
    rw [e]
    go_enter Try.func33, Try.ntmps33
    go_wp2
    go_ret
    exact ⟨rfl, rfl⟩
  · have k0 : ((s : Int) == 0) = false := by simp; omega
    have k1 : decide ((1 : Int) ≤ (s : Int)) = true := by simp; omega
    by_cases h : bR ≤ s
    · have e : oddN s = true := by unfold oddN; simp [h]
      rw [e]
      have k2 : decide ((1152921504606845789 : Int) ≤ (s : Int)) = true := by unfold bR at h; simp; omega
      have k3 : decide ((s : Int) < 1152921504606845789) = false := by unfold bR at h; simp; omega
      clear h h0 e
      go_enter Try.func33, Try.ntmps33
      go_wp2
      go_ret
      exact ⟨rfl, rfl⟩
    · have e : oddN s = false := by unfold oddN; simp; omega
      rw [e]
      have k2 : decide ((1152921504606845789 : Int) ≤ (s : Int)) = false := by unfold bR at h; simp; omega
      have k3 : decide ((s : Int) < 1152921504606845789) = true := by unfold bR at h; simp; omega
      clear h h0 e
      go_enter Try.func33, Try.ntmps33
      go_wp2
      go_ret
      exact ⟨rfl, rfl⟩

set_option maxRecDepth 100000 in
set_option maxHeartbeats 1000000 in
theorem rPublic_any (s : Nat) (hs : s < 18446744073709551616) (w : World) :
    Calls Try.prog 14 #[.int .u64 s] w fun e w' => e = .returned (if oddN s = true then .tuple #[.int .u64 0, .int .i64 1] else .tuple #[.int .u64 (powM bQ 4 s : Nat), .int .i64 0]) ∧ Ext w w' := by
  have c1 := fun w => rodd_any s w
  have c2 := fun w => rBase_any s hs w
  generalize powM bQ 4 s = v at *
  clear hs
  rcases h : oddN s
  · rw [h] at c1
    clear h
    try simp only [Bool.not_false] at c1
    rw [if_neg (by decide)]
    go_enter Try.func14, Try.ntmps14
    go_wp2_with (first | (go_at_call 33; refine (c1 _).mono ?_; clear c1; rintro e w' ⟨rfl, rfl⟩) | (go_at_call 34; refine (c2 _).mono ?_; clear c2; rintro e w' ⟨rfl, rfl⟩))
    go_ret2
    exact ⟨rfl, Ext.refl _⟩
  · rw [h] at c1
    clear h
    try simp only [Bool.not_true] at c1
    rw [if_pos rfl]
    go_enter Try.func14, Try.ntmps14
    go_wp2_with (go_at_call 33; refine (c1 _).mono ?_; clear c1; rintro e w' ⟨rfl, rfl⟩)
    go_ret2
    exact ⟨rfl, Ext.refl _⟩

set_option maxRecDepth 100000 in
set_option maxHeartbeats 1000000 in
theorem rChallenge_any (n m : Nat) (hn : n < 18446744073709551616) (hm : m < 18446744073709551616) (l : List Nat) (hl : ∀ x ∈ l, x < 256) (h : l.length ≤ 1000) (A : Option Addr) (c : Nat) (hc : l.length ≤ c) (w : World) (hr : Reads w w.heap.size 1 A l.length (bv l)) :
    Calls Try.prog 18 #[.int .u64 n, .int .u64 m, .slice A l.length c] w fun e w' => e = .returned (.int .u64 (chalN n m l : Nat)) ∧ Ext w w' := by
  obtain ⟨x, y, c1, c2⟩ := rtagNum signS [be n 8, be m 8, l] bR (by decide) (lts3 n m hl) (len3 signS (by decide) n m h)
  have cB := fun w => Eight4_any n hn w
  have cC := fun w => Eight4_any m hm w
  have c1 : ∀ W B C T, Ext w W → Reads W W.heap.size 1 B 8 (bv (be n 8)) → Reads W W.heap.size 1 C 8 (bv (be m 8)) → Calls Try.prog 37 #[.string signS, .slice (some ⟨W.heap.size, 0, none⟩) 3 3] (W.alloc (.cells #[.slice B 8 8, .slice C 8 8, .slice A l.length c] T)) fun e w' => e = .returned (.agg #[.int .u64 (x : Int), .int .u64 (y : Int)]) ∧ Ext (W.alloc (.cells #[.slice B 8 8, .slice C 8 8, .slice A l.length c] T)) w' :=
    fun W B C T xw hb hd => c1 _ 3 _ (Nat.le_refl 3) (parts_3 (T := T) hb hd hc ((hr.below xw.out).more xw.size))
  unfold chalN
  obtain ⟨v, hv⟩ : ∃ v, v = hNum signS [be n 8, be m 8, l] bR := ⟨_, rfl⟩
  rw [← hv] at c2 ⊢
  rw [show bR = 1152921504606845789 from rfl] at c2
  simp only [Int.cast_ofNat_Int] at c2
  clear hv hr hl h hc hn hm
  go_enter Try.func18, Try.ntmps18
  go_wp2_with (first
    | (go_at_call 41; (with_reducible refine (cB _).mono ?_); clear cB; rintro e w1 ⟨B, rfl, rB, xB⟩)
    | (go_at_call 41; (with_reducible refine (cC _).mono ?_); clear cC; rintro e w2 ⟨C, rfl, rC, xC⟩)
    | (go_at_call 37; refine (c1 _ _ _ _ (xB.trans xC) ((rB.below xC.out).more xC.size) rC).mono ?_; clear c1; rintro e w3 ⟨rfl, xT⟩)
    | (go_at_call 36; refine (c2 _).mono ?_; clear c2; rintro e w4 ⟨rfl, xN⟩))
  go_ret
  exact ⟨rfl, (((xB.trans xC).alloc _).trans xT).trans xN⟩

end Go.Proofs.Ytbomfnlipbdigaa
