/- The document's Sum, walked. -/
import Derived.Test.YtbomfnlipbdigaaHaRefOf
import Derived.Test.YtbomfnlipbdigaaHaRefMix
import Derived.IntWalk
namespace Go.Proofs.Ytbomfnlipbdigaa
set_option linter.unusedVariables false
open Go.RowKit Go.Shelf
attribute [local irreducible] mix

/-- A list of words in a row of its own, which is not block B. -/
def Row (W : World) (B : Nat) (A : Option Addr) (c : Nat) (l : List Nat) : Prop :=
  l.length ≤ c ∧ (0 < l.length → ∃ g cs, A = some ⟨g, 0, none⟩ ∧ g ≠ B ∧ Blk W g 23 cs ∧ ∀ (j x : Nat), l[j]? = some x → cs[j]? = some (.int .u64 (x : Int)))
theorem Row.keep {W W' : World} {B : Nat} {A : Option Addr} {c : Nat} {l : List Nat} (h : Row W B A c l) (hk : ∀ g cs, g ≠ B → Blk W g 23 cs → Blk W' g 23 cs) : Row W' B A c l :=
  ⟨h.1, fun hp => by obtain ⟨g, cs, e, hb, hB, hc⟩ := h.2 hp; exact ⟨g, cs, e, hb, hk g cs hb hB, hc⟩⟩
theorem Row.of_own {W : World} {B : Nat} {v : Value} {l : List Nat} (h : W.ownsRow B 23 1 v l.length (uv l)) : ∃ A c, v = .slice A l.length c ∧ ∀ o, Row (W.alloc o) W.heap.size A c l := by
  rcases h.2 with ⟨rfl, h0⟩ | ⟨g, cap, cur, rfl, hb, hh, hc⟩
  · exact ⟨none, 0, by rw [h0], fun o => ⟨by omega, fun h => by omega⟩⟩
  · refine ⟨_, cap, rfl, fun o => ⟨hc.1, fun _ => ⟨g, cur, rfl, by have := Blk.lt hh; omega, Blk.alloc hh o, fun j x hj => ?_⟩⟩⟩
    have hj' : (uv l)[j]? = some (.int .u64 (x : Int)) := by simp [uv, hj]
    rw [← hc.2.2.2, List.getElem?_take] at hj'
    split at hj'
    · rw [← Array.getElem?_toList]; exact hj'
    · cases hj'
theorem Row.set {W : World} {B : Nat} {A : Option Addr} {c : Nat} {l : List Nat} (h : Row W B A c l) {p : Addr} (hp : p.block = B) (u : Value) : Row (W.setCell p u) B A c l :=
  h.keep fun _ _ hb hB => hB.far (by rw [hp]; exact hb) u
theorem Row.ext {W W' : World} {B : Nat} {A : Option Addr} {c : Nat} {l : List Nat} (h : Row W B A c l) (he : Ext W W') : Row W' B A c l :=
  h.keep fun _ _ _ hB => hB.below he.out hB.lt
theorem Row.ptr {W : World} {B : Nat} {A : Option Addr} {c : Nat} {l : List Nat} (h : Row W B A c l) (hp : 0 < l.length) : ∃ g, A = some ⟨g, 0, none⟩ ∧ g ≠ B := by
  obtain ⟨g, cs, e, hb, _⟩ := h.2 hp
  exact ⟨g, e, hb⟩
theorem Row.at_ {W : World} {B g c : Nat} {l : List Nat} (h : Row W B (some ⟨g, 0, none⟩) c l) {j x : Nat} (hj : l[j]? = some x) : W.cell? ⟨g, j, none⟩ = some (.int .u64 (x : Int)) := by
  obtain ⟨g', cs, e, hb, hB, hc⟩ := h.2 (by have := (List.getElem?_eq_some_iff.1 hj).1; omega)
  cases e
  rw [hB.cell]
  exact hc j x hj

/-- The world of a round: the result's box, the sponge, the row of words. -/
structure Spo (w W : World) (rb sb : Nat) (s : Nat × Nat × Nat) (A : Option Addr) (c : Nat) (L : List Nat) : Prop where
  res : Blk W rb 50 #[.int .u64 0, .int .u64 0]
  sp : Blk W sb 70 (val3 s)
  row : Row W sb A c L
  ext : Ext w W
section
variable {w W W' : World} {rb sb c : Nat} {s m : Nat × Nat × Nat} {A : Option Addr} {L : List Nat}
theorem Spo.set (h : Spo w W rb sb s A c L) (hrs : rb ≠ sb) (hws : w.heap.size ≤ sb) (k : Nat) (u : Value) (s' : Nat × Nat × Nat) (e : (val3 s).setIfInBounds k u = val3 s') : Spo w (W.setCell ⟨sb, k, none⟩ u) rb sb s' A c L :=
  ⟨h.res.far hrs u, by have := h.sp.set_ k u; rw [e] at this; exact this, h.row.set (p := ⟨sb, k, none⟩) rfl u, h.ext.setCell hws u⟩
theorem Spo.draw (h : Spo w W rb sb s A c L) (n : Nat) : Spo w (W.drewN n) rb sb s A c L := ⟨h.res, h.sp, h.row, h.ext.drewN n⟩
theorem Spo.draw1 (h : Spo w W rb sb s A c L) : Spo w W.drew rb sb s A c L := ⟨h.res, h.sp, h.row, h.ext.drew⟩
theorem Spo.next (h : Spo w W rb sb s A c L) (x : Ext W W') : Spo w W' rb sb s A c L := ⟨ext_blk x h.res, ext_blk x h.sp, h.row.ext x, h.ext.trans x⟩
/-- Behind the mixing. -/
theorem Spo.mixed (h : Spo w W rb sb s A c L) (hrs : rb ≠ sb) (hws : w.heap.size ≤ sb) :
    Spo w (((W.setCell ⟨sb, 0, none⟩ (.int .u64 (m.1 : Int))).setCell ⟨sb, 1, none⟩ (.int .u64 (m.2.1 : Int))).setCell ⟨sb, 2, none⟩ (.int .u64 (m.2.2 : Int))) rb sb m A c L :=
  ((h.set hrs hws 0 _ (m.1, s.2.1, s.2.2) rfl).set hrs hws 1 _ (m.1, m.2.1, s.2.2) rfl).set hrs hws 2 _ m rfl
theorem Spo.facts (h : Spo w W rb sb s A c L) : W.cell? ⟨sb, 0, none⟩ = some (.int .u64 (s.1 : Int)) ∧ W.cell? ⟨sb, 1, none⟩ = some (.int .u64 (s.2.1 : Int)) ∧ W.cell? ⟨sb, 2, none⟩ = some (.int .u64 (s.2.2 : Int)) ∧
    W.frozen? ⟨sb, 0, none⟩ = false ∧ W.frozen? ⟨sb, 1, none⟩ = false ∧ W.frozen? ⟨sb, 2, none⟩ = false := arr_facts h.sp
end

set_option maxRecDepth 100000 in
set_option maxHeartbeats 2000000 in
theorem rSum_any (b : List Nat) (hl : ∀ x ∈ b, x < 256) (hm : b.length ≤ 1099511627776) (A : Option Addr) (c : Nat) (hmc : b.length ≤ c) (w : World) (hr : Reads w w.heap.size 1 A b.length (bv b)) :
    Calls Try.prog 54 #[.slice A b.length c] w fun e w' => e = .returned (.agg #[.int .u64 ((hSum b).1 : Int), .int .u64 ((hSum b).2 : Int)]) ∧ Ext w w' := by
  have hm1 : (b.length : Int) ≤ 1099511627776 := by omega
  go_enter Try.func54, Try.ntmps54
  have cOf := rfOf_any b hl hm A c hmc (w.alloc (.cells #[.int .u64 0, .int .u64 0] 50)) ((hr.alloc (Nat.le_refl _) _).more (by simp))
  obtain ⟨s, hs⟩ : ∃ s, s = (0, 0, b.length) := ⟨_, rfl⟩
  obtain ⟨T, hT⟩ : ∃ T, T = soakE true s (fOf b) := ⟨_, rfl⟩
  have hTT : Hid (hSum b = (T.1, T.2.1)) := by show _ = _; rw [hT, hs]; rfl
  obtain ⟨L, hL⟩ : ∃ L, L = fOf b := ⟨_, rfl⟩
  have hL1 : L.length ≤ 1099511627776 := by rw [hL]; unfold fOf; simp [cnt]; omega
  have HV : Hid (val3 s = #[.int .u64 0, .int .u64 0, .int .u64 (b.length : Int)]) := by show _ = _; rw [hs]; rfl
  rw [← hL] at cOf hT
  have HT := Lib.hid hT
  clear hT hL hs hr hl
  go_wp2_with (go_at_call 65; refine cOf.mono ?_; clear cOf; rintro e W2 ⟨v, rfl, ho, hb⟩; obtain ⟨A2, c2, rfl, hrow⟩ := Row.of_own ho; clear ho)
  have hz : w.heap.size < W2.heap.size := by have := hb.size; simp at this; omega
  obtain ⟨W3, e3, SP⟩ : ∃ W3, W2.alloc (.cells #[.int .u64 0, .int .u64 0, .int .u64 (b.length : Int)] 70) = W3 ∧ Spo w W3 w.heap.size W2.heap.size s A2 c2 L := by
    refine ⟨_, rfl, ?_, ?_, ?_, ?_⟩
    · exact ((Blk.new w _ _).below hb (by simp)).alloc _
    · rw [HV.out]; exact Blk.new _ _ _
    · exact hrow _
    · exact ((((Ext.refl w).alloc _).trans (Ext.of hb))).alloc _
  rw [e3]
  obtain ⟨sb, hsb⟩ : ∃ sb, sb = W2.heap.size := ⟨_, rfl⟩
  obtain ⟨rb, hrb⟩ : ∃ rb, rb = w.heap.size := ⟨_, rfl⟩
  have hrs : rb ≠ sb := by omega
  have hws : w.heap.size ≤ sb := by omega
  have hwr : w.heap.size ≤ rb := by omega
  rw [← hrb, ← hsb] at SP
  rw [← hrb, ← hsb]
  clear hrow hb e3 hsb hrb hz HV
  obtain ⟨n, hn⟩ : ∃ n, n = L.length := ⟨_, rfl⟩
  have hni : (n : Int) ≤ 1099511627776 := by omega
  rw [← hn]
  have HN := Lib.hid hn
  have HTT := hTT
  clear hn hL1 hTT
  go_loopg [5] (n + 2) (fun g s5 wr => ∃ (i : Nat) (s : Nat × Nat × Nat), s5 = .int .i64 i ∧ i + g = n + 2 ∧ T = soakE (decide (i = 0)) s (L.drop i) ∧ Spo w wr rb sb s A2 c2 L)
  case atStart => exact ⟨0, s, rfl, by omega, HT.out, SP⟩
  case round =>
    obtain ⟨i, s, rfl, hi, hT, hsp⟩ := hrel
    clear SP HT
    obtain ⟨s0, s1, s2, f0, f1, f2⟩ := hsp.facts
    have HS := Lib.hid hsp
    have HI := Lib.hid hi
    have c2n : (n : Int) ≤ c2 := by have := hsp.row.1; rw [← HN.out] at this; omega
    by_cases hin : i < n
    · obtain ⟨x, hx⟩ : ∃ x, L[i]? = some x := ⟨_, List.getElem?_eq_getElem (by rw [← HN.out]; exact hin)⟩
      obtain ⟨g, rfl, hgs⟩ := hsp.row.ptr (by rw [← HN.out]; omega)
      have hcx := hsp.row.at_ hx
      have hd : L.drop i = x :: L.drop (i + 1) := by rw [List.drop_eq_getElem_cons (by rw [← HN.out]; exact hin)]; congr 1; rw [List.getElem?_eq_some_iff] at hx; exact hx.2
      rw [hd, soakE_cons] at hT
      have z1 : (i : Int) < n := by omega
      have cA := fun W => r1Add_any s.1 x W
      obtain ⟨p, hp⟩ : ∃ p, p = addM bP s.1 x := ⟨_, rfl⟩
      rw [← hp] at cA
      by_cases hin1 : i + 1 < n
      · obtain ⟨y, hy⟩ : ∃ y, L[i + 1]? = some y := ⟨_, List.getElem?_eq_getElem (by rw [← HN.out]; exact hin1)⟩
        have hcy := hsp.row.at_ hy
        have hd1 : L.drop (i + 1) = y :: L.drop (i + 2) := by rw [List.drop_eq_getElem_cons (by rw [← HN.out]; exact hin1)]; congr 1; rw [List.getElem?_eq_some_iff] at hy; exact hy.2
        have cB := fun W => r1Add_any s.2.1 y W
        obtain ⟨q, hq⟩ : ∃ q, q = addM bP s.2.1 y := ⟨_, rfl⟩
        rw [← hq] at cB
        rw [hd1, soak_two, ← hp, ← hq] at hT
        obtain ⟨m, hm⟩ : ∃ m, m = mix (p, q, s.2.2) := ⟨_, rfl⟩
        have mx := fun W => rmix_any (p, q, s.2.2) W
        rw [← hm] at hT mx
        unfold val3 at mx
        have HT : Hid (T = soakE (decide (i + 2 = 0)) m (L.drop (i + 2))) := by show _ = _; rw [hT, show decide (i + 2 = 0) = false by simp, soakE_false]
        have z2 : (i : Int) + 1 < n := by omega
        have hp1 := hsp.set hrs hws 0 (.int .u64 (p : Int)) (p, s.2.1, s.2.2) rfl
        obtain ⟨-, t1, t2, -, g1, g2⟩ := hp1.facts
        have hcy' := hp1.row.at_ hy
        obtain ⟨W4, e4⟩ : ∃ W4, (wr.setCell ⟨sb, 0, none⟩ (.int .u64 (p : Int))).drew = W4 := ⟨_, rfl⟩
        have hp1' := hp1.draw1
        rw [e4] at hp1'
        obtain ⟨v0, v1, v2, k0, k1, k2⟩ := hp1'.facts
        have hcy2 := hp1'.row.at_ hy
        have hp2 := (hp1'.set hrs hws 1 (.int .u64 (q : Int)) (p, q, s.2.2) rfl).draw1
        have HP2 := Lib.hid hp2
        clear hT hm hp hq hd hd1 hsp hx hy hi hin hin1 hcy s1 s2 f1 f2 t1 t2 g1 g2 hcy' hp1 hp1' hp2
        go_wp2
        go_region_with ((go_at_call 66; refine (cA _).mono ?_; clear cA; rintro e w' ⟨rfl, rfl⟩))
        all_goals (
          clear e4 s0 f0 hcx
          go_wp2
          have y1 : IntKind.i64.wrap ((i : Int) + 1) = (i : Int) + 1 := IntWalk.i64_in _ (by omega)
          have y2 : 0 ≤ (i : Int) + 1 := by omega
          have y3 : ((i : Int) + 1).toNat = i + 1 := by omega
          go_region_with ((go_at_call 66; refine (cB _).mono ?_; clear cB; rintro e w' ⟨rfl, rfl⟩)))
        all_goals (
          obtain ⟨W5, e5⟩ : ∃ W5, (W4.setCell ⟨sb, 1, none⟩ (.int .u64 (q : Int))).drew = W5 := ⟨_, rfl⟩
          rw [e5] at HP2
          rw [e5]
          obtain ⟨s0, s1, s2, f0, f1, f2⟩ := HP2.out.facts
          clear e5 v0 v1 v2 k0 k1 k2 hcy2 y1 y2 y3
          go_wp2_with (go_at_call 67; refine (mx _).mono ?_; clear mx; rintro e W6 ⟨rfl, hx6⟩; obtain ⟨s0, s1, s2, f0, f1, f2⟩ := (HP2.out.next hx6).facts)
          have hi := HI.out
          go_roundg (gk - 2)
          case measure => omega
          case rel => exact ⟨i + 2, m, int_congr (by omega), by omega, HT.out, (HP2.out.next hx6).mixed hrs hws⟩)
      · have hL1 : L.drop (i + 1) = [] := List.drop_eq_nil_of_le (by rw [← HN.out]; omega)
        rw [hL1, soak_one, ← hp] at hT
        obtain ⟨m, hm⟩ : ∃ m, m = mix (p, s.2.1, s.2.2) := ⟨_, rfl⟩
        have mx := fun W => rmix_any (p, s.2.1, s.2.2) W
        rw [← hm] at hT mx
        unfold val3 at mx
        have HT : Hid (T = soakE (decide (i + 2 = 0)) m (L.drop (i + 2))) := by show _ = _; rw [hT, show decide (i + 2 = 0) = false by simp, soakE_false, List.drop_eq_nil_of_le (by rw [← HN.out]; omega)]; rfl
        have hi1 : i + 1 = n := by omega
        have z2 : ¬ (i : Int) + 1 < n := by omega
        have HI1 := Lib.hid hi1
        have hp1 := (hsp.set hrs hws 0 (.int .u64 (p : Int)) (p, s.2.1, s.2.2) rfl).draw1
        have HP2 := Lib.hid hp1
        clear hT hm hp hd hsp hL1 hx hi hin hin1 hi1 f1 f2 hp1
        go_wp2
        go_region_with ((go_at_call 66; refine (cA _).mono ?_; clear cA; rintro e w' ⟨rfl, rfl⟩))
        all_goals (
          obtain ⟨W5, e5⟩ : ∃ W5, (wr.setCell ⟨sb, 0, none⟩ (.int .u64 (p : Int))).drew = W5 := ⟨_, rfl⟩
          rw [e5] at HP2
          rw [e5]
          obtain ⟨s0, s1, s2, f0, f1, f2⟩ := HP2.out.facts
          clear e5
          go_wp2_with (go_at_call 67; refine (mx _).mono ?_; clear mx; rintro e W6 ⟨rfl, hx6⟩; obtain ⟨s0, s1, s2, f0, f1, f2⟩ := (HP2.out.next hx6).facts)
          have hi := HI.out
          have hi1 := HI1.out
          go_roundg (gk - 2)
          case measure => omega
          case rel => exact ⟨i + 2, m, int_congr (by omega), by omega, HT.out, (HP2.out.next hx6).mixed hrs hws⟩)
    · have hd : L.drop i = [] := List.drop_eq_nil_of_le (by rw [← HN.out]; omega)
      rw [hd] at hT
      have z1 : ¬ (i : Int) < n := by omega
      by_cases h0 : i = 0
      · subst h0
        have hT' : T = mix s := by rw [hT]; rfl
        obtain ⟨m, hm⟩ : ∃ m, m = mix s := ⟨_, rfl⟩
        have mx := fun W => rmix_any s W
        rw [← hm] at hT' mx
        unfold val3 at mx
        have HT : Hid (T = soakE (decide (0 + 2 = 0)) m (L.drop (0 + 2))) := by show _ = _; rw [hT', show decide (0 + 2 = 0) = false by decide, soakE_false, List.drop_eq_nil_of_le (by rw [← HN.out]; omega)]; rfl
        obtain rfl : n = 0 := by omega
        clear hT hT' hm hd hsp hi hin z1
        go_wp2_with (go_at_call 67; refine (mx _).mono ?_; clear mx; rintro e W6 ⟨rfl, hx6⟩; obtain ⟨s0, s1, s2, f0, f1, f2⟩ := (HS.out.next hx6).facts)
        have hi := HI.out
        go_roundg (gk - 2)
        case measure => omega
        case rel => exact ⟨2, m, rfl, by omega, HT.out, (HS.out.next hx6).mixed hrs hws⟩
      · have hT' : T = s := by rw [hT, show decide (i = 0) = false by simp [h0], soakE_false]; rfl
        have HT' := Lib.hid hT'
        have q0 := hsp.res.cell 0
        have q1 := hsp.res.cell 1
        have p0 := hsp.res.frozen 0
        have p1 := hsp.res.frozen 1
        simp at q0 q1
        have z2 : ((i : Int) == 0) = false := by simp; omega
        have z3 : 1 ≤ (i : Int) := by omega
        have hx := HS.out.ext
        clear hT hT' hd hsp hi hin h0
        go_wp2
        refine bodyPost_ret (v := .agg #[.int .u64 (s.1 : Int), .int .u64 (s.2.1 : Int)]) (by simp [results, Try.results54, go_sem, q0, q1]) rfl ⟨by rw [HTT.out, HT'.out], ?_⟩
        exact (hx.setCell (p := ⟨rb, 0, none⟩) hwr _).setCell (p := ⟨rb, 1, none⟩) hwr _
end Go.Proofs.Ytbomfnlipbdigaa
