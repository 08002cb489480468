/- The document's hash, walked: number, Of; and Of of the hash. -/
import Derived.Test.YtckfifghipkedaaHaRefB
namespace Go.Proofs.Ytckfifghipkedaa
set_option linter.unusedVariables false
open Go.RowKit Go.Shelf

theorem num8_bound (l : List Nat) (h : ∀ x ∈ l, x < 256) (k : Nat) (hk : k ≤ 7) : num8 (l.take k) < 72057594037927936 := by
  have h1 := num8_lt (l.take k) fun x hx => h x (List.mem_of_mem_take hx)
  have h2 : (l.take k).length ≤ 7 := by rw [List.length_take]; omega
  have h3 : 256 ^ (l.take k).length ≤ 256 ^ 7 := Nat.pow_le_pow_right (by decide) h2
  have h4 : (256 : Nat) ^ 7 = 72057594037927936 := by decide
  omega
theorem num8_64 (l : List Nat) (h : ∀ x ∈ l, x < 256) (hl : l.length ≤ 8) : num8 l < 18446744073709551616 := by
  have h1 := num8_lt l h
  have h3 : 256 ^ l.length ≤ 256 ^ 8 := Nat.pow_le_pow_right (by decide) hl
  have h4 : (256 : Nat) ^ 8 = 18446744073709551616 := by decide
  omega

set_option maxRecDepth 100000 in
theorem number_any (ad : Addr) (n c : Nat) (l : List Nat) (hl : l.length = 8) (hlt : ∀ x ∈ l, x < 256) (hn : 8 ≤ n) (w : World) (hc : ∀ (j b : Nat), l[j]? = some b → w.cell? (ad.add j) = some (.int .u8 (b : Int))) :
    Calls Try.prog 42 #[.slice (some ad) n c] w fun e w' => e = .returned (.int .u64 (num8 l : Nat)) ∧ w = w' := by
  have hn' : (8 : Int) ≤ n := by omega
  have HC := Lib.hid hc
  have HL := Lib.hid hl
  have HT := Lib.hid hlt
  clear hc hl hlt hn
  go_enter Try.func42, Try.ntmps42
  go_wp2
  go_loopg [3, 4] 8 (fun m s3 s4 wr => wr = w ∧ ∃ k : Nat, k + m = 8 ∧ s3 = .int .u64 (num8 (l.take k) : Nat) ∧ s4 = .int .i64 k)
  case atStart => exact ⟨rfl, 0, rfl, by simp [num8], rfl⟩
  case round =>
    obtain ⟨rfl, k, hk, rfl, rfl⟩ := hrel
    by_cases h : k < 8
    · have hkl : k < l.length := by rw [HL.out]; exact h
      obtain ⟨b, hb⟩ : ∃ b, l[k]? = some b := ⟨_, List.getElem?_eq_getElem hkl⟩
      have hcell := HC.out k b hb
      have hb256 : b < 256 := HT.out b (List.mem_of_getElem? hb)
      have hx := num8_bound l HT.out k (by omega)
      have e1 : num8 (l.take (k + 1)) = num8 (l.take k) * 256 + b := by rw [List.take_add_one, hb]; exact num8_snoc _ _
      obtain ⟨x, hx'⟩ : ∃ x, x = num8 (l.take k) := ⟨_, rfl⟩
      rw [← hx'] at hx e1 ⊢
      have HX := Lib.hid hx
      have z2 : (b : Int) < 256 := by omega
      have HE := Lib.hid e1
      have HK := Lib.hid hk
      clear hx hx' e1 hk hb hkl hb256
      go_wp2
      have hk := HK.out
      go_roundg (gk - 1)
      case measure => omega
      case rel => exact ⟨rfl, k + 1, by omega, int_congr (by have := HX.out; rw [HE.out, IntKind.wrap_u64, IntKind.wrap_u64]; omega), int_congr (by omega)⟩
    · obtain rfl : k = 8 := by omega
      have e : l.take 8 = l := List.take_of_length_le (by rw [HL.out]; decide)
      have HE := Lib.hid e
      clear e hk
      go_wp2
      go_ret
      exact ⟨ret_one (by rw [HE.out]), rfl⟩

/-- The hash that bytes are, and why there is none. -/
def ofS (l : List Nat) : (Nat × Nat) × Nat :=
  if l.length < 16 then ((0, 0), 70) else if 16 < l.length ∨ bP ≤ num8 (l.take 8) ∨ bP ≤ num8 ((l.drop 8).take 8) then ((0, 0), 71) else ((num8 (l.take 8), num8 ((l.drop 8).take 8)), 0)
def ofV (r : (Nat × Nat) × Nat) : Value := .tuple #[.agg #[.int .u64 (r.1.1 : Int), .int .u64 (r.1.2 : Int)], .int .i64 (r.2 : Int)]

theorem slice_h8 (A : Option Addr) (n c m : Nat) (hm : m ≤ c) (w : World) : (Instr.slice 27 (.slice A n c) none (some (.int .i64 (m : Int))) none).run Try.prog w = .ok (sliced A 0 m c 1) w := by
  rw [run_slice_h w 27 A n c Try.underlying27 .i64 (m : Int) (by omega) (by omega)]
  have : (sizeOf (Try.prog.elem 27)).run Try.prog w = .ok 1 w := by kernel_rfl
  rw [this]
  rfl
theorem slice_l8 (A : Option Addr) (n c m : Nat) (hm : m ≤ n) (w : World) : (Instr.slice 27 (.slice A n c) (some (.int .i64 (m : Int))) none none).run Try.prog w = .ok (sliced A m n c 1) w := by
  rw [run_slice_l w 27 A n c Try.underlying27 .i64 (m : Int) (by omega) (by omega)]
  have : (sizeOf (Try.prog.elem 27)).run Try.prog w = .ok 1 w := by kernel_rfl
  rw [this]
  rfl
theorem sliced_at (ad : Addr) (m n c : Nat) (h : m < c) : sliced (some ad) m n c 1 = .slice (some (ad.add m)) (n - m) (c - m) := by
  unfold sliced
  rw [if_neg (by omega)]
  simp
theorem add_zero' (ad : Addr) : ad.add 0 = ad := by unfold Addr.add; simp

set_option maxRecDepth 100000 in
set_option maxHeartbeats 1000000 in
theorem rOf_any (l : List Nat) (hlt : ∀ x ∈ l, x < 256) (A : Option Addr) (c : Nat) (hcap : l.length ≤ c) (hmax : l.length ≤ 1099511627776) (w : World) (hr : Reads w w.heap.size 1 A l.length (bv l)) :
    Calls Try.prog 24 #[.slice A l.length c] w fun e w' => e = .returned (ofV (ofS l)) ∧ Ext w w' := by
  obtain ⟨n, hn⟩ : ∃ n, n = l.length := ⟨_, rfl⟩
  rw [← hn] at hcap hmax ⊢
  by_cases h1 : n < 16
  · have e : ofS l = ((0, 0), 70) := by unfold ofS; rw [← hn, if_pos h1]
    rw [e]
    clear e hr hn hlt
    go_enter Try.func24, Try.ntmps24
    go_wp2
    refine bodyPost_ret (v := ofV ((0, 0), 70)) (by simp [results, Try.results24, go_sem, ofV]) rfl ⟨rfl, (Ext.refl w).alloc _⟩
  · by_cases h2 : 16 < n
    · have e : ofS l = ((0, 0), 71) := by unfold ofS; rw [← hn, if_neg h1, if_pos (.inl h2)]
      rw [e]
      clear e hr hn hlt
      go_enter Try.func24, Try.ntmps24
      go_wp2
      refine bodyPost_ret (v := ofV ((0, 0), 71)) (by simp [results, Try.results24, go_sem, ofV]) rfl ⟨rfl, (Ext.refl w).alloc _⟩
    · obtain rfl : n = 16 := by omega
      obtain ⟨ad, rfl, -, hcell⟩ := hr.2 (by rw [← hn]; decide)
      have ht8 : (l.take 8).length = 8 := by rw [List.length_take, ← hn]; rfl
      have hd8 : ((l.drop 8).take 8).length = 8 := by rw [List.length_take, List.length_drop, ← hn]; rfl
      have cA := fun W (hx : Ext w W) => number_any (ad.add 0) 8 c (l.take 8) ht8 (fun x hx => hlt x (List.mem_of_mem_take hx)) (by decide) W (fun j b hb => hx.cell (by
        rw [add_of_add, Nat.zero_add]
        rw [List.getElem?_take] at hb
        split at hb
        · exact hcell j _ (by simp [bv, hb])
        · cases hb))
      have cB := fun W (hx : Ext w W) => number_any (ad.add 8) 8 (c - 8) ((l.drop 8).take 8) hd8 (fun x hx => hlt x (List.mem_of_mem_drop (List.mem_of_mem_take hx))) (by decide) W (fun j b hb => hx.cell (by
        rw [add_of_add]
        rw [List.getElem?_take] at hb
        split at hb
        · rw [List.getElem?_drop] at hb
          exact hcell (8 + j) _ (by simp [bv, hb])
        · cases hb))
      have s1 : ∀ W : World, (Instr.slice 27 (.slice (some ad) 16 c) none (some (.int .i64 8)) none).run Try.prog W = .ok (.slice (some (ad.add 0)) 8 c) W := fun W => by
        have := slice_h8 (some ad) 16 c 8 (by omega) W
        rw [sliced_at _ _ _ _ (by omega)] at this
        exact this
      have s2 : ∀ W : World, (Instr.slice 27 (.slice (some ad) 16 c) (some (.int .i64 8)) none none).run Try.prog W = .ok (.slice (some (ad.add 8)) 8 (c - 8)) W := fun W => by
        have := slice_l8 (some ad) 16 c 8 (by omega) W
        rw [sliced_at _ _ _ _ (by omega)] at this
        exact this
      obtain ⟨x, hx⟩ : ∃ x, x = num8 (l.take 8) := ⟨_, rfl⟩
      obtain ⟨y, hy⟩ : ∃ y, y = num8 ((l.drop 8).take 8) := ⟨_, rfl⟩
      rw [← hx] at cA
      rw [← hy] at cB
      have E : ofS l = if bP ≤ x ∨ bP ≤ y then ((0, 0), 71) else ((x, y), 0) := by
        unfold ofS; rw [← hn, if_neg (by decide), ← hx, ← hy]; simp
      clear hx hy hr hn hlt hcell ht8 hd8 h1 h2
      generalize ad.add 0 = a0 at *
      generalize ad.add 8 = a8 at *
      have hc16 : (16 : Int) ≤ c := by omega
      generalize c - 8 = c8 at *
      by_cases hp : bP ≤ x
      · rw [E, if_pos (.inl hp)]
        have d1 : decide ((x : Int) ≥ 2305843009213693951) = true := by simp; unfold bP at hp; omega
        have d2 : (2305843009213693951 : Int) ≤ x := by unfold bP at hp; omega
        have x0 := fun o => (Ext.refl w).alloc o
        clear E hp cB s2
        go_enter Try.func24, Try.ntmps24
        go_wp2_with (go_at_call 42; (with_reducible refine (cA _ (x0 _)).mono ?_); rintro e w' ⟨rfl, rfl⟩)
        refine bodyPost_ret (v := ofV ((0, 0), 71)) (by simp [results, Try.results24, go_sem, ofV]) rfl ⟨rfl, (Ext.refl w).alloc _⟩
      · by_cases hq : bP ≤ y
        · rw [E, if_pos (.inr hq)]
          have d1 : ¬ (2305843009213693951 : Int) ≤ x := by unfold bP at hp; omega
          have d2 : (2305843009213693951 : Int) ≤ y := by unfold bP at hq; omega
          have x0 := fun o => (Ext.refl w).alloc o
          clear E hp hq
          go_enter Try.func24, Try.ntmps24
          go_wp2_with (first | (go_at_call 42; (with_reducible refine (cA _ (x0 _)).mono ?_); rintro e w' ⟨rfl, rfl⟩) | (go_at_call 42; (with_reducible refine (cB _ (x0 _)).mono ?_); rintro e w' ⟨rfl, rfl⟩))
          refine bodyPost_ret (v := ofV ((0, 0), 71)) (by simp [results, Try.results24, go_sem, ofV]) rfl ⟨rfl, (Ext.refl w).alloc _⟩
        · rw [E, if_neg (by omega)]
          have d1 : decide (2305843009213693951 ≤ (x : Int)) = false := by simp; unfold bP at hp; omega
          have d2 : decide (2305843009213693951 ≤ (y : Int)) = false := by simp; unfold bP at hq; omega
          have x0 := fun o => (Ext.refl w).alloc o
          have x1 := fun o n => ((Ext.refl w).alloc o).drewN n
          have x2 := fun o => ((Ext.refl w).alloc o).drew
          clear E hp hq
          go_enter Try.func24, Try.ntmps24
          go_wp2_with (first | (go_at_call 42; (with_reducible refine (cA _ (x0 _)).mono ?_); rintro e w' ⟨rfl, rfl⟩) | (go_at_call 42; (with_reducible refine (cB _ (x0 _)).mono ?_); rintro e w' ⟨rfl, rfl⟩))
          go_region_with (first | (go_at_call 42; (with_reducible refine (cA _ ?_).mono ?_); (first | exact x2 _ | exact x1 _ _); rintro e w' ⟨rfl, rfl⟩) | (go_at_call 42; (with_reducible refine (cB _ ?_).mono ?_); (first | exact x2 _ | exact x1 _ _); rintro e w' ⟨rfl, rfl⟩))
          all_goals go_wp2
          all_goals refine bodyPost_ret (v := ofV ((x, y), 0)) (by simp [results, Try.results24, go_sem, ofV]) rfl ⟨rfl, ?_⟩
          all_goals exact ((Ext.refl w).alloc _).drewN _

/-- The two halves of what was read so far. -/
def h0 (l : List Nat) (k : Nat) : Nat := num8 ((l.take 8).take k)
def h1 (l : List Nat) (k : Nat) : Nat := num8 (((l.drop 8).take 8).take (k - 8))
theorem h0_step (l : List Nat) (k b : Nat) (hb : l[k]? = some b) (hk : k < 8) : h0 l (k + 1) = h0 l k * 256 + b ∧ h1 l (k + 1) = h1 l k := by
  unfold h0 h1
  refine ⟨?_, by rw [show k + 1 - 8 = 0 by omega, show k - 8 = 0 by omega]⟩
  have : (l.take 8)[k]? = some b := by rw [List.getElem?_take, if_pos hk]; exact hb
  rw [List.take_add_one, this]; exact num8_snoc _ _
theorem h1_step (l : List Nat) (k b : Nat) (hb : l[k]? = some b) (hk : 8 ≤ k) (hk' : k < 16) : h0 l (k + 1) = h0 l k ∧ h1 l (k + 1) = h1 l k * 256 + b := by
  unfold h0 h1
  refine ⟨by rw [List.take_take, List.take_take]; congr 2; omega, ?_⟩
  have : ((l.drop 8).take 8)[k - 8]? = some b := by rw [List.getElem?_take, if_pos (by omega), List.getElem?_drop, show 8 + (k - 8) = k by omega]; exact hb
  rw [show k + 1 - 8 = k - 8 + 1 by omega, List.take_add_one, this]; exact num8_snoc _ _
theorem h_more (l : List Nat) (k : Nat) (hk : 16 ≤ k) : h0 l (k + 1) = h0 l k ∧ h1 l (k + 1) = h1 l k := by
  unfold h0 h1
  refine ⟨by rw [List.take_take, List.take_take]; congr 2; omega, by rw [List.take_take, List.take_take]; congr 2; omega⟩
theorem h_all (l : List Nat) (k : Nat) (hk : 16 ≤ k) : h0 l k = num8 (l.take 8) ∧ h1 l k = num8 ((l.drop 8).take 8) := by
  unfold h0 h1
  refine ⟨by rw [List.take_take]; congr 2; omega, by rw [List.take_take]; congr 2; omega⟩
theorem h0_lt (l : List Nat) (h : ∀ x ∈ l, x < 256) (k : Nat) : h0 l k < 18446744073709551616 ∧ h1 l k < 18446744073709551616 :=
  ⟨num8_64 _ (fun x hx => h x (List.mem_of_mem_take (List.mem_of_mem_take hx))) (by simp; omega), num8_64 _ (fun x hx => h x (List.mem_of_mem_drop (List.mem_of_mem_take (List.mem_of_mem_take hx)))) (by simp; omega)⟩
theorem h0_b (l : List Nat) (h : ∀ x ∈ l, x < 256) (k : Nat) (hk : k < 8) : h0 l k < 72057594037927936 :=
  num8_bound (l.take 8) (fun x hx => h x (List.mem_of_mem_take hx)) k (by omega)
theorem h1_b (l : List Nat) (h : ∀ x ∈ l, x < 256) (k : Nat) (hk : k < 16) : h1 l k < 72057594037927936 :=
  num8_bound ((l.drop 8).take 8) (fun x hx => h x (List.mem_of_mem_drop (List.mem_of_mem_take hx))) (k - 8) (by omega)
theorem or8 (a b : Nat) (ha : a < 72057594037927936) (hb : b < 256) : bits .or .u64 (IntKind.u64.wrap ((a : Int) * 256)) (b : Int) = ((a * 256 + b : Nat) : Int) := by
  have e1 : IntKind.u64.wrap ((a : Int) * 256) = ((a * 256 : Nat) : Int) := by rw [IntKind.wrap_u64]; omega
  rw [e1, bits_or_u64_nat (a * 256) b (by omega) (by omega)]
  congr 1
  have h := Nat.two_pow_add_eq_or_of_lt (i := 8) (b := b) (show b < 2 ^ 8 from hb) a
  rw [show (2 : Nat) ^ 8 = 256 from rfl] at h
  rw [Nat.mul_comm a 256]; exact h.symm
end Go.Proofs.Ytckfifghipkedaa
