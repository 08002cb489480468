/- The hash that bytes are, walked: hash.Of. -/
import Derived.Test.YtckfifghipkedaaHaRefN
namespace Go.Proofs.Ytckfifghipkedaa
set_option linter.unusedVariables false
open Go.RowKit Go.Shelf

theorem Reads.get {w : World} {B n : Nat} {A : Option Addr} {l : List Nat} (h : Reads w B 1 A n (bv l)) {k b : Nat} (hb : l[k]? = some b) (ad : Addr) (hA : A = some ad) (hn : 0 < n) : w.cell? (ad.add k) = some (.int .u8 (b : Int)) := by
  obtain ⟨ad', e, _, hc⟩ := h.2 hn
  rw [hA] at e
  cases e
  exact hc k _ (by simp [bv, hb])

set_option maxRecDepth 100000 in
set_option maxHeartbeats 2000000 in
theorem Of_any (l : List Nat) (hlt : ∀ x ∈ l, x < 256) (A : Option Addr) (c : Nat) (hcap : l.length ≤ c) (hmax : l.length ≤ 1099511627776) (w : World) (hr : Reads w w.heap.size 1 A l.length (bv l)) :
    Calls Try.prog 23 #[.slice A l.length c] w fun e w' => e = .returned (ofV (ofS l)) ∧ Ext w w' := by
  obtain ⟨n, hn⟩ : ∃ n, n = l.length := ⟨_, rfl⟩
  rw [← hn] at hcap hmax ⊢
  by_cases hs : n < 16
  · have e : ofS l = ((0, 0), 70) := by unfold ofS; rw [← hn, if_pos hs]
    rw [e]
    clear e hr hn hlt
    go_enter Try.func23, Try.ntmps23
    go_wp2
    refine bodyPost_ret (v := ofV ((0, 0), 70)) (by simp [results, Try.results23, go_sem, ofV]) rfl ⟨rfl, (Ext.refl w).alloc _⟩
  · obtain ⟨ad, rfl, had, -⟩ := hr.2 (by omega)
    have hs' : (16 : Int) ≤ n := by omega
    have hm' : (n : Int) ≤ 1099511627776 := by omega
    have HR : Hid (∀ (W : World) (k b : Nat), Ext w W → l[k]? = some b → W.cell? (ad.add k) = some (.int .u8 (b : Int))) := Lib.hid (fun W k b hx hb => hx.cell (Reads.get hr hb ad rfl (by omega)))
    have HN := Lib.hid hn
    have HT := Lib.hid hlt
    clear hr hn hlt hs hmax
    go_enter Try.func23, Try.ntmps23
    go_wp2
    obtain ⟨W0, e0, b0, x0⟩ : ∃ W, w.alloc (.cells #[.int .u64 0, .int .u64 0] 29) = W ∧ Blk W w.heap.size 29 #[.int .u64 0, .int .u64 0] ∧ Ext w W := ⟨_, rfl, Blk.new w _ _, (Ext.refl w).alloc _⟩
    rw [e0]
    clear e0
    obtain ⟨g, hg⟩ : ∃ g, g = w.heap.size := ⟨_, rfl⟩
    rw [← hg] at b0 ⊢
    have HG := Lib.hid hg
    clear hg
    go_loopg [12] n (fun m s12 wr => ∃ k : Nat, k + m = n ∧ s12 = .int .i64 k ∧ Blk wr g 29 #[.int .u64 (h0 l k : Nat), .int .u64 (h1 l k : Nat)] ∧ Ext w wr)
    case atStart => exact ⟨0, by omega, rfl, by simpa [h0, h1, num8] using b0, x0⟩
    case round =>
      obtain ⟨k, hk, rfl, hb, hx⟩ := hrel
      clear b0 x0
      obtain ⟨q1, q2, q3, q4⟩ := arr2 hb
      have HB := Lib.hid hb
      have HX := Lib.hid hx
      have HK := Lib.hid hk
      clear hb
      by_cases h : k < n
      · obtain ⟨b, hbk⟩ : ∃ b, l[k]? = some b := ⟨_, List.getElem?_eq_getElem (by rw [← HN.out]; exact h)⟩
        have hcell := HR.out wr k b hx hbk
        have hb256 : b < 256 := HT.out b (List.mem_of_getElem? hbk)
        have z1 : (k : Int) < n := by omega
        by_cases h8 : k < 8
        · obtain ⟨f1, f2⟩ := h0_step l k b hbk h8
          have k1 := or8 (h0 l k) b (h0_b l HT.out k h8) hb256
          rw [← f1] at k1
          have N1 : Hid (Blk (wr.setCell ⟨g, 0, none⟩ (.int .u64 (h0 l (k + 1) : Nat))) g 29 #[.int .u64 (h0 l (k + 1) : Nat), .int .u64 (h1 l (k + 1) : Nat)]) := Lib.hid (by rw [f2]; exact HB.out.set_ 0 _)
          obtain ⟨y0, hy0⟩ : ∃ y, y = h0 l (k + 1) := ⟨_, rfl⟩
          obtain ⟨y1, hy1⟩ : ∃ y, y = h1 l (k + 1) := ⟨_, rfl⟩
          rw [← hy0, ← hy1] at N1
          first | rw [← hy0] at k1 | rw [← hy1] at k1
          have Y0 := Lib.hid hy0
          have Y1 := Lib.hid hy1
          have zb : (b : Int) < 256 := by omega
          clear hy0 hy1
          have z2 : (k : Int) < 8 := by omega
          have kq : (k : Int) / 8 = 0 := by omega
          clear f1 f2 hbk hb256 h8 hk hx h
          go_wp2
          have hk := HK.out
          go_roundg (gk - 1)
          case measure => omega
          case rel => exact ⟨k + 1, by omega, int_congr (by omega), by rw [← Y0.out, ← Y1.out]; exact N1.out, HX.out.setCell (by rw [HG.out]; exact Nat.le_refl _) _⟩
        · by_cases h16 : k < 16
          · obtain ⟨f1, f2⟩ := h1_step l k b hbk (by omega) h16
            have k1 := or8 (h1 l k) b (h1_b l HT.out k h16) hb256
            rw [← f2] at k1
            have N1 : Hid (Blk (wr.setCell ⟨g, 1, none⟩ (.int .u64 (h1 l (k + 1) : Nat))) g 29 #[.int .u64 (h0 l (k + 1) : Nat), .int .u64 (h1 l (k + 1) : Nat)]) := Lib.hid (by rw [f1]; exact HB.out.set_ 1 _)
            obtain ⟨y0, hy0⟩ : ∃ y, y = h0 l (k + 1) := ⟨_, rfl⟩
            obtain ⟨y1, hy1⟩ : ∃ y, y = h1 l (k + 1) := ⟨_, rfl⟩
            rw [← hy0, ← hy1] at N1
            first | rw [← hy0] at k1 | rw [← hy1] at k1
            have Y0 := Lib.hid hy0
            have Y1 := Lib.hid hy1
            have zb : (b : Int) < 256 := by omega
            clear hy0 hy1
            have z2 : (k : Int) < 16 := by omega
            have kq : (k : Int) / 8 = 1 := by omega
            clear f1 f2 hbk hb256 h8 hk hx h h16
            go_wp2
            have hk := HK.out
            go_roundg (gk - 1)
            case measure => omega
            case rel => exact ⟨k + 1, by omega, int_congr (by omega), by rw [← Y0.out, ← Y1.out]; exact N1.out, HX.out.setCell (by rw [HG.out]; exact Nat.le_refl _) _⟩
          · obtain ⟨f1, f2⟩ := h_more l k (by omega)
            have z2 : ¬ (k : Int) < 16 := by omega
            have N1 : Hid (Blk wr g 29 #[.int .u64 (h0 l (k + 1) : Nat), .int .u64 (h1 l (k + 1) : Nat)]) := Lib.hid (by rw [f1, f2]; exact HB.out)
            clear f1 f2 hbk hb256 h8 hk hx h h16
            go_wp2
            have hk := HK.out
            go_roundg (gk - 1)
            case measure => omega
            case rel => exact ⟨k + 1, by omega, int_congr (by omega), N1.out, HX.out⟩
      · obtain rfl : k = n := by omega
        obtain ⟨f1, f2⟩ := h_all l k (by omega)
        obtain ⟨x, hx'⟩ : ∃ x, x = num8 (l.take 8) := ⟨_, rfl⟩
        obtain ⟨y, hy'⟩ : ∃ y, y = num8 ((l.drop 8).take 8) := ⟨_, rfl⟩
        rw [f1, ← hx'] at q1
        rw [f2, ← hy'] at q2
        have E : ofS l = if 16 < k ∨ bP ≤ x ∨ bP ≤ y then ((0, 0), 71) else ((x, y), 0) := by
          unfold ofS; rw [← HN.out, if_neg (by omega), ← hx', ← hy']
        have hgg : w.heap.size ≤ g := by rw [HG.out]; exact Nat.le_refl _
        clear f1 f2 hx' hy' hk hx
        by_cases h16 : 16 < k
        · rw [if_pos (.inl h16)] at E
          have HE := Lib.hid E
          have z3 : (16 : Int) < k := by omega
          clear E h
          go_wp2
          refine bodyPost_ret (v := ofV ((0, 0), 71)) (by simp [results, Try.results23, go_sem, ofV, q1, q2]) rfl ⟨by rw [HE.out], ?_⟩
          exact ((HX.out.setCell (p := ⟨g, 0, none⟩) hgg _).setCell (p := ⟨g, 1, none⟩) hgg _)
        · obtain rfl : k = 16 := by omega
          obtain ⟨m, hm⟩ : ∃ m : Nat, m = max x y := ⟨_, rfl⟩
          have km : max (x : Int) (y : Int) = (m : Int) := by rw [hm]; omega
          by_cases hp : bP ≤ m
          · rw [if_pos (by omega)] at E
            have HE := Lib.hid E
            have d1 : decide (2305843009213693951 ≤ (m : Int)) = true := by simp; unfold bP at hp; omega
            clear E h hm hp
            go_wp2
            refine bodyPost_ret (v := ofV ((0, 0), 71)) (by simp [results, Try.results23, go_sem, ofV, q1, q2]) rfl ⟨by rw [HE.out], ?_⟩
            exact ((HX.out.setCell (p := ⟨g, 0, none⟩) hgg _).setCell (p := ⟨g, 1, none⟩) hgg _)
          · rw [if_neg (by omega)] at E
            have HE := Lib.hid E
            have d1 : decide (2305843009213693951 ≤ (m : Int)) = false := by simp; unfold bP at hp; omega
            clear E h hm hp
            go_wp2
            refine bodyPost_ret (v := ofV ((x, y), 0)) (by simp [results, Try.results23, go_sem, ofV, q1, q2]) rfl ⟨by rw [HE.out], ?_⟩
            exact ((HX.out.setCell (p := ⟨g, 0, none⟩) hgg _).setCell (p := ⟨g, 1, none⟩) hgg _)
end Go.Proofs.Ytckfifghipkedaa
