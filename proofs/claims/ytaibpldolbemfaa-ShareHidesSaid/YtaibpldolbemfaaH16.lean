/- Parts of the proofs, put together: HaRefS, HaRefT, Si, Sh10, Sh11, Sh12, Sh13, Sh14, ShP. -/
import Derived.IntWalk
import Derived.Test.YtaibpldolbemfaaH4
import Derived.Test.YtaibpldolbemfaaH7
import Derived.Test.YtaibpldolbemfaaH10
import Derived.Test.YtaibpldolbemfaaH11
import Derived.Test.YtaibpldolbemfaaH12
import Derived.Test.YtaibpldolbemfaaH13
/- The document's Sum, walked. -/
namespace Go.Proofs.Ytaibpldolbemfaa
set_option linter.unusedVariables false
open Go.RowKit Go.Shelf
attribute [local irreducible] mix

/-- A list of words in a row of its own, which is not block B. -/
def Row (W : World) (B : Nat) (A : Option Addr) (c : Nat) (l : List Nat) : Prop :=
  l.length ≤ c ∧ (0 < l.length → ∃ g cs, A = some ⟨g, 0, none⟩ ∧ g ≠ B ∧ Blk W g 22 cs ∧ ∀ (j x : Nat), l[j]? = some x → cs[j]? = some (.int .u64 (x : Int)))
theorem Row.keep {W W' : World} {B : Nat} {A : Option Addr} {c : Nat} {l : List Nat} (h : Row W B A c l) (hk : ∀ g cs, g ≠ B → Blk W g 22 cs → Blk W' g 22 cs) : Row W' B A c l :=
  ⟨h.1, fun hp => by obtain ⟨g, cs, e, hb, hB, hc⟩ := h.2 hp; exact ⟨g, cs, e, hb, hk g cs hb hB, hc⟩⟩
theorem Row.of_own {W : World} {B : Nat} {v : Value} {l : List Nat} (h : W.ownsRow B 22 1 v l.length (uv l)) : ∃ A c, v = .slice A l.length c ∧ ∀ o, Row (W.alloc o) W.heap.size A c l := by
  rcases h.2 with ⟨rfl, h0⟩ | ⟨g, cap, cur, rfl, hb, hh, hc⟩
  · exact ⟨none, 0, by rw [h0], fun o => ⟨by omega, fun h => by omega⟩⟩
  · refine ⟨_, cap, rfl, fun o => ⟨hc.1, fun _ => ⟨g, cur, rfl, by have := Blk.lt hh; omega, Blk.alloc hh o, fun j x hj => ?_⟩⟩⟩
    have hj' : (uv l)[j]? = some (.int .u64 (x : Int)) := by simp [uv, hj]
    rw [← hc.2.2.2, List.getElem?_take] at hj'
    split at hj'
    · rw [← Array.getElem?_toList]; exact hj'
    · cases hj'
theorem Row.set {W : World} {B : Nat} {A : Option Addr} {c : Nat} {l : List Nat} (h : Row W B A c l) {p : Addr} (hp : p.block = B) (u : Value) : Row (W.setCell p u) B A c l :=
  h.keep fun _ _ hb hB => hB.far (by rw [hp]; exact hb) u
theorem Row.ext {W W' : World} {B : Nat} {A : Option Addr} {c : Nat} {l : List Nat} (h : Row W B A c l) (he : Ext W W') : Row W' B A c l :=
  h.keep fun _ _ _ hB => hB.below he.out hB.lt
theorem Row.ptr {W : World} {B : Nat} {A : Option Addr} {c : Nat} {l : List Nat} (h : Row W B A c l) (hp : 0 < l.length) : ∃ g, A = some ⟨g, 0, none⟩ ∧ g ≠ B := by
  obtain ⟨g, cs, e, hb, _⟩ := h.2 hp
  exact ⟨g, e, hb⟩
theorem Row.at_ {W : World} {B g c : Nat} {l : List Nat} (h : Row W B (some ⟨g, 0, none⟩) c l) {j x : Nat} (hj : l[j]? = some x) : W.cell? ⟨g, j, none⟩ = some (.int .u64 (x : Int)) := by
  obtain ⟨g', cs, e, hb, hB, hc⟩ := h.2 (by have := (List.getElem?_eq_some_iff.1 hj).1; omega)
  cases e
  rw [hB.cell]
  exact hc j x hj

/-- The world of a round: the result's box, the sponge, the row of words. -/
structure Spo (w W : World) (rb sb : Nat) (s : Nat × Nat × Nat) (A : Option Addr) (c : Nat) (L : List Nat) : Prop where
  res : Blk W rb 55 #[.int .u64 0, .int .u64 0]
  sp : Blk W sb 86 (val3 s)
  row : Row W sb A c L
  ext : Ext w W
section
variable {w W W' : World} {rb sb c : Nat} {s m : Nat × Nat × Nat} {A : Option Addr} {L : List Nat}
theorem Spo.set (h : Spo w W rb sb s A c L) (hrs : rb ≠ sb) (hws : w.heap.size ≤ sb) (k : Nat) (u : Value) (s' : Nat × Nat × Nat) (e : (val3 s).setIfInBounds k u = val3 s') : Spo w (W.setCell ⟨sb, k, none⟩ u) rb sb s' A c L :=
  ⟨h.res.far hrs u, by have := h.sp.set_ k u; rw [e] at this; exact this, h.row.set (p := ⟨sb, k, none⟩) rfl u, h.ext.setCell hws u⟩
theorem Spo.draw (h : Spo w W rb sb s A c L) (n : Nat) : Spo w (W.drewN n) rb sb s A c L := ⟨h.res, h.sp, h.row, h.ext.drewN n⟩
theorem Spo.draw1 (h : Spo w W rb sb s A c L) : Spo w W.drew rb sb s A c L := ⟨h.res, h.sp, h.row, h.ext.drew⟩
theorem Spo.next (h : Spo w W rb sb s A c L) (x : Ext W W') : Spo w W' rb sb s A c L := ⟨ext_blk x h.res, ext_blk x h.sp, h.row.ext x, h.ext.trans x⟩
/-- Behind the mixing. -/
theorem Spo.mixed (h : Spo w W rb sb s A c L) (hrs : rb ≠ sb) (hws : w.heap.size ≤ sb) :
    Spo w (((W.setCell ⟨sb, 0, none⟩ (.int .u64 (m.1 : Int))).setCell ⟨sb, 1, none⟩ (.int .u64 (m.2.1 : Int))).setCell ⟨sb, 2, none⟩ (.int .u64 (m.2.2 : Int))) rb sb m A c L :=
  ((h.set hrs hws 0 _ (m.1, s.2.1, s.2.2) rfl).set hrs hws 1 _ (m.1, m.2.1, s.2.2) rfl).set hrs hws 2 _ m rfl
theorem Spo.facts (h : Spo w W rb sb s A c L) : W.cell? ⟨sb, 0, none⟩ = some (.int .u64 (s.1 : Int)) ∧ W.cell? ⟨sb, 1, none⟩ = some (.int .u64 (s.2.1 : Int)) ∧ W.cell? ⟨sb, 2, none⟩ = some (.int .u64 (s.2.2 : Int)) ∧
    W.frozen? ⟨sb, 0, none⟩ = false ∧ W.frozen? ⟨sb, 1, none⟩ = false ∧ W.frozen? ⟨sb, 2, none⟩ = false := arr_facts h.sp
end

set_option maxRecDepth 100000 in
set_option maxHeartbeats 2000000 in
theorem rSum_any (b : List Nat) (hl : ∀ x ∈ b, x < 256) (hm : b.length ≤ 1099511627776) (A : Option Addr) (c : Nat) (hmc : b.length ≤ c) (w : World) (hr : Reads w w.heap.size 1 A b.length (bv b)) :
    Calls Try.prog 65 #[.slice A b.length c] w fun e w' => e = .returned (.agg #[.int .u64 ((hSum b).1 : Int), .int .u64 ((hSum b).2 : Int)]) ∧ Ext w w' := by
  have hm1 : (b.length : Int) ≤ 1099511627776 := by omega
  go_enter Try.func65, Try.ntmps65
  have cOf := rfOf_any b hl hm A c hmc (w.alloc (.cells #[.int .u64 0, .int .u64 0] 55)) ((hr.alloc (Nat.le_refl _) _).more (by simp))
  obtain ⟨s, hs⟩ : ∃ s, s = (0, 0, b.length) := ⟨_, rfl⟩
  obtain ⟨T, hT⟩ : ∃ T, T = soakE true s (fOf b) := ⟨_, rfl⟩
  have hTT : Hid (hSum b = (T.1, T.2.1)) := by show _ = _; rw [hT, hs]; rfl
  obtain ⟨L, hL⟩ : ∃ L, L = fOf b := ⟨_, rfl⟩
  have hL1 : L.length ≤ 1099511627776 := by rw [hL]; unfold fOf; simp [cnt]; omega
  have HV : Hid (val3 s = #[.int .u64 0, .int .u64 0, .int .u64 (b.length : Int)]) := by show _ = _; rw [hs]; rfl
  rw [← hL] at cOf hT
  have HT := Lib.hid hT
  clear hT hL hs hr hl
  go_wp2_with (go_at_call 79; refine cOf.mono ?_; clear cOf; rintro e W2 ⟨v, rfl, ho, hb⟩; obtain ⟨A2, c2, rfl, hrow⟩ := Row.of_own ho; clear ho)
  have hz : w.heap.size < W2.heap.size := by have := hb.size; simp at this; omega
  obtain ⟨W3, e3, SP⟩ : ∃ W3, W2.alloc (.cells #[.int .u64 0, .int .u64 0, .int .u64 (b.length : Int)] 86) = W3 ∧ Spo w W3 w.heap.size W2.heap.size s A2 c2 L := by
    refine ⟨_, rfl, ?_, ?_, ?_, ?_⟩
    · exact ((Blk.new w _ _).below hb (by simp)).alloc _
    · rw [HV.out]; exact Blk.new _ _ _
    · exact hrow _
    · exact ((((Ext.refl w).alloc _).trans (Ext.of hb))).alloc _
  rw [e3]
  obtain ⟨sb, hsb⟩ : ∃ sb, sb = W2.heap.size := ⟨_, rfl⟩
  obtain ⟨rb, hrb⟩ : ∃ rb, rb = w.heap.size := ⟨_, rfl⟩
  have hrs : rb ≠ sb := by omega
  have hws : w.heap.size ≤ sb := by omega
  have hwr : w.heap.size ≤ rb := by omega
  rw [← hrb, ← hsb] at SP
  rw [← hrb, ← hsb]
  clear hrow hb e3 hsb hrb hz HV
  obtain ⟨n, hn⟩ : ∃ n, n = L.length := ⟨_, rfl⟩
  have hni : (n : Int) ≤ 1099511627776 := by omega
  rw [← hn]
  have HN := Lib.hid hn
  have HTT := hTT
  clear hn hL1 hTT
  go_loopg [5] (n + 2) (fun g s5 wr => ∃ (i : Nat) (s : Nat × Nat × Nat), s5 = .int .i64 i ∧ i + g = n + 2 ∧ T = soakE (decide (i = 0)) s (L.drop i) ∧ Spo w wr rb sb s A2 c2 L)
  case atStart => exact ⟨0, s, rfl, by omega, HT.out, SP⟩
  case round =>
    obtain ⟨i, s, rfl, hi, hT, hsp⟩ := hrel
    clear SP HT
    obtain ⟨s0, s1, s2, f0, f1, f2⟩ := hsp.facts
    have HS := Lib.hid hsp
    have HI := Lib.hid hi
    have c2n : (n : Int) ≤ c2 := by have := hsp.row.1; rw [← HN.out] at this; omega
    by_cases hin : i < n
    · obtain ⟨x, hx⟩ : ∃ x, L[i]? = some x := ⟨_, List.getElem?_eq_getElem (by rw [← HN.out]; exact hin)⟩
      obtain ⟨g, rfl, hgs⟩ := hsp.row.ptr (by rw [← HN.out]; omega)
      have hcx := hsp.row.at_ hx
      have hd : L.drop i = x :: L.drop (i + 1) := by rw [List.drop_eq_getElem_cons (by rw [← HN.out]; exact hin)]; congr 1; rw [List.getElem?_eq_some_iff] at hx; exact hx.2
      rw [hd, soakE_cons] at hT
      have z1 : (i : Int) < n := by omega
      have cA := fun W => r1Add_any s.1 x W
      obtain ⟨p, hp⟩ : ∃ p, p = addM bP s.1 x := ⟨_, rfl⟩
      rw [← hp] at cA
      by_cases hin1 : i + 1 < n
      · obtain ⟨y, hy⟩ : ∃ y, L[i + 1]? = some y := ⟨_, List.getElem?_eq_getElem (by rw [← HN.out]; exact hin1)⟩
        have hcy := hsp.row.at_ hy
        have hd1 : L.drop (i + 1) = y :: L.drop (i + 2) := by rw [List.drop_eq_getElem_cons (by rw [← HN.out]; exact hin1)]; congr 1; rw [List.getElem?_eq_some_iff] at hy; exact hy.2
        have cB := fun W => r1Add_any s.2.1 y W
        obtain ⟨q, hq⟩ : ∃ q, q = addM bP s.2.1 y := ⟨_, rfl⟩
        rw [← hq] at cB
        rw [hd1, soak_two, ← hp, ← hq] at hT
        obtain ⟨m, hm⟩ : ∃ m, m = mix (p, q, s.2.2) := ⟨_, rfl⟩
        have mx := fun W => rmix_any (p, q, s.2.2) W
        rw [← hm] at hT mx
        unfold val3 at mx
        have HT : Hid (T = soakE (decide (i + 2 = 0)) m (L.drop (i + 2))) := by show _ = _; rw [hT, show decide (i + 2 = 0) = false by simp, soakE_false]
        have z2 : (i : Int) + 1 < n := by omega
        have hp1 := hsp.set hrs hws 0 (.int .u64 (p : Int)) (p, s.2.1, s.2.2) rfl
        obtain ⟨-, t1, t2, -, g1, g2⟩ := hp1.facts
        have hcy' := hp1.row.at_ hy
        obtain ⟨W4, e4⟩ : ∃ W4, (wr.setCell ⟨sb, 0, none⟩ (.int .u64 (p : Int))).drew = W4 := ⟨_, rfl⟩
        have hp1' := hp1.draw1
        rw [e4] at hp1'
        obtain ⟨v0, v1, v2, k0, k1, k2⟩ := hp1'.facts
        have hcy2 := hp1'.row.at_ hy
        have hp2 := (hp1'.set hrs hws 1 (.int .u64 (q : Int)) (p, q, s.2.2) rfl).draw1
        have HP2 := Lib.hid hp2
        clear hT hm hp hq hd hd1 hsp hx hy hi hin hin1 hcy s1 s2 f1 f2 t1 t2 g1 g2 hcy' hp1 hp1' hp2
        go_wp2
        go_region_with ((go_at_call 80; refine (cA _).mono ?_; clear cA; rintro e w' ⟨rfl, rfl⟩))
        all_goals (
          clear e4 s0 f0 hcx
          go_wp2
          have y1 : IntKind.i64.wrap ((i : Int) + 1) = (i : Int) + 1 := IntWalk.i64_in _ (by omega)
          have y2 : 0 ≤ (i : Int) + 1 := by omega
          have y3 : ((i : Int) + 1).toNat = i + 1 := by omega
          go_region_with ((go_at_call 80; refine (cB _).mono ?_; clear cB; rintro e w' ⟨rfl, rfl⟩)))
        all_goals (
          obtain ⟨W5, e5⟩ : ∃ W5, (W4.setCell ⟨sb, 1, none⟩ (.int .u64 (q : Int))).drew = W5 := ⟨_, rfl⟩
          rw [e5] at HP2
          rw [e5]
          obtain ⟨s0, s1, s2, f0, f1, f2⟩ := HP2.out.facts
          clear e5 v0 v1 v2 k0 k1 k2 hcy2 y1 y2 y3
          go_wp2_with (go_at_call 81; refine (mx _).mono ?_; clear mx; rintro e W6 ⟨rfl, hx6⟩; obtain ⟨s0, s1, s2, f0, f1, f2⟩ := (HP2.out.next hx6).facts)
          have hi := HI.out
          go_roundg (gk - 2)
          case measure => omega
          case rel => exact ⟨i + 2, m, int_congr (by omega), by omega, HT.out, (HP2.out.next hx6).mixed hrs hws⟩)
      · have hL1 : L.drop (i + 1) = [] := List.drop_eq_nil_of_le (by rw [← HN.out]; omega)
        rw [hL1, soak_one, ← hp] at hT
        obtain ⟨m, hm⟩ : ∃ m, m = mix (p, s.2.1, s.2.2) := ⟨_, rfl⟩
        have mx := fun W => rmix_any (p, s.2.1, s.2.2) W
        rw [← hm] at hT mx
        unfold val3 at mx
        have HT : Hid (T = soakE (decide (i + 2 = 0)) m (L.drop (i + 2))) := by show _ = _; rw [hT, show decide (i + 2 = 0) = false by simp, soakE_false, List.drop_eq_nil_of_le (by rw [← HN.out]; omega)]; rfl
        have hi1 : i + 1 = n := by omega
        have z2 : ¬ (i : Int) + 1 < n := by omega
        have HI1 := Lib.hid hi1
        have hp1 := (hsp.set hrs hws 0 (.int .u64 (p : Int)) (p, s.2.1, s.2.2) rfl).draw1
        have HP2 := Lib.hid hp1
        clear hT hm hp hd hsp hL1 hx hi hin hin1 hi1 f1 f2 hp1
        go_wp2
        go_region_with ((go_at_call 80; refine (cA _).mono ?_; clear cA; rintro e w' ⟨rfl, rfl⟩))
        all_goals (
          obtain ⟨W5, e5⟩ : ∃ W5, (wr.setCell ⟨sb, 0, none⟩ (.int .u64 (p : Int))).drew = W5 := ⟨_, rfl⟩
          rw [e5] at HP2
          rw [e5]
          obtain ⟨s0, s1, s2, f0, f1, f2⟩ := HP2.out.facts
          clear e5
          go_wp2_with (go_at_call 81; refine (mx _).mono ?_; clear mx; rintro e W6 ⟨rfl, hx6⟩; obtain ⟨s0, s1, s2, f0, f1, f2⟩ := (HP2.out.next hx6).facts)
          have hi := HI.out
          have hi1 := HI1.out
          go_roundg (gk - 2)
          case measure => omega
          case rel => exact ⟨i + 2, m, int_congr (by omega), by omega, HT.out, (HP2.out.next hx6).mixed hrs hws⟩)
    · have hd : L.drop i = [] := List.drop_eq_nil_of_le (by rw [← HN.out]; omega)
      rw [hd] at hT
      have z1 : ¬ (i : Int) < n := by omega
      by_cases h0 : i = 0
      · subst h0
        have hT' : T = mix s := by rw [hT]; rfl
        obtain ⟨m, hm⟩ : ∃ m, m = mix s := ⟨_, rfl⟩
        have mx := fun W => rmix_any s W
        rw [← hm] at hT' mx
        unfold val3 at mx
        have HT : Hid (T = soakE (decide (0 + 2 = 0)) m (L.drop (0 + 2))) := by show _ = _; rw [hT', show decide (0 + 2 = 0) = false by decide, soakE_false, List.drop_eq_nil_of_le (by rw [← HN.out]; omega)]; rfl
        obtain rfl : n = 0 := by omega
        clear hT hT' hm hd hsp hi hin z1
        go_wp2_with (go_at_call 81; refine (mx _).mono ?_; clear mx; rintro e W6 ⟨rfl, hx6⟩; obtain ⟨s0, s1, s2, f0, f1, f2⟩ := (HS.out.next hx6).facts)
        have hi := HI.out
        go_roundg (gk - 2)
        case measure => omega
        case rel => exact ⟨2, m, rfl, by omega, HT.out, (HS.out.next hx6).mixed hrs hws⟩
      · have hT' : T = s := by rw [hT, show decide (i = 0) = false by simp [h0], soakE_false]; rfl
        have HT' := Lib.hid hT'
        have q0 := hsp.res.cell 0
        have q1 := hsp.res.cell 1
        have p0 := hsp.res.frozen 0
        have p1 := hsp.res.frozen 1
        simp at q0 q1
        have z2 : ((i : Int) == 0) = false := by simp; omega
        have z3 : 1 ≤ (i : Int) := by omega
        have hx := HS.out.ext
        clear hT hT' hd hsp hi hin h0
        go_wp2
        refine bodyPost_ret (v := .agg #[.int .u64 (s.1 : Int), .int .u64 (s.2.1 : Int)]) (by simp [results, Try.results65, go_sem, q0, q1]) rfl ⟨by rw [HTT.out, HT'.out], ?_⟩
        exact (hx.setCell (p := ⟨rb, 0, none⟩) hwr _).setCell (p := ⟨rb, 1, none⟩) hwr _
end Go.Proofs.Ytaibpldolbemfaa

/- The document's Coded, Tagged, Pair, walked. -/
namespace Go.Proofs.Ytaibpldolbemfaa
set_option linter.unusedVariables false
open Go.RowKit Go.Shelf

theorem be_drop4 (n : Nat) : (be n 8).drop 4 = be n 4 := by simp [be, beN, List.range_succ]
theorem cut4 {W : World} {A : Option Addr} {c n : Nat} (h : Reads W W.heap.size 1 A 8 (bv (be n 8))) (hc : 8 ≤ c) :
    ∃ A', (∀ w : World, (Instr.slice 23 (.slice A 8 c) (some (.int .i64 4)) none none).run Try.prog w = .ok (.slice A' 4 (c - 4)) w) ∧ Reads W W.heap.size 1 A' 4 (bv (be n 4)) := by
  have h1 := h.cut (k := 4) (cap := c) (by decide) hc
  refine ⟨_, fun w => slice_l8 A 8 c 4 (by decide) w, ?_⟩
  have e : (bv (be n 8)).drop (4 * 1) = bv (be n 4) := by rw [← be_drop4]; simp [bv]
  rw [e] at h1
  exact h1

set_option maxRecDepth 100000 in
set_option maxHeartbeats 1000000 in
theorem rCoded_any (tag : ByteArray) (ps : List (List Nat)) (A : Option Addr) (c : Nat) (hpc0 : ps.length ≤ c) (w : World) (hr : Parts w w.heap.size A ps) (htot : (coded (strN tag) ps).length ≤ 1099511627776) :
    Calls Try.prog 66 #[.string tag, .slice A ps.length c] w fun e w' => ∃ A' c', e = .returned (.slice A' (coded (strN tag) ps).length c') ∧ (coded (strN tag) ps).length ≤ c' ∧ Reads w' w'.heap.size 1 A' (coded (strN tag) ps).length (bv (coded (strN tag) ps)) ∧ Ext w w' := by
  obtain ⟨i0, hi, hz0, hz1, hz2⟩ := info_parts Try.infoU8
  have htl : tag.size + 1 ≤ (coded (strN tag) ps).length := by
    have := coded_take_le (strN tag) ps 0
    rw [List.take_zero, coded_nil, List.length_cons, strN_length] at this
    exact this
  have hcc := coded_take_le (strN tag) ps
  have hc0 : coded (strN tag) [] = tag.size % 256 :: strN tag := by rw [coded_nil, strN_length]
  obtain ⟨tot, ht⟩ : ∃ tot, tot = (coded (strN tag) ps).length := ⟨_, rfl⟩
  rw [← ht] at htot htl hcc
  have hpl : ps.length ≤ tot := by
    rw [ht, coded, List.length_append, List.length_flatMap]
    have : ps.length ≤ (ps.map fun p => (be p.length 4 ++ p).length).sum := by
      clear ht hcc hc0 htl hr htot hpc0
      induction ps with
      | nil => simp
      | cons p ps ih =>
        simp only [List.length_cons, List.map_cons, List.sum_cons]
        rw [List.length_append, be_length]
        omega
    omega
  have k1 : IntKind.u8.wrap (tag.size : Int) = ((tag.size % 256 : Nat) : Int) := by rw [IntKind.wrap_u8]; omega
  obtain ⟨d, hd⟩ : ∃ d, d = tag.size % 256 := ⟨_, rfl⟩
  rw [← hd] at k1 hc0
  have HT := Lib.hid ht
  have HC := Lib.hid hcc
  have HR := Lib.hid hr
  have hpi : (ps.length : Int) ≤ 1099511627776 := by omega
  have hpc : (ps.length : Int) ≤ c := by omega
  clear hd ht hcc hr hpc0
  go_enter Try.func66, Try.ntmps66
  go_wp2_with (at_builtin; refine wpList_append_own_src _ rfl (.tmp 10) (.tmp 11) 23 9 rfl w.heap.size 5 i0 (.int .u8 0) 1 1 Try.underlying23 hi hz0 hz1 hz2 rfl (.slice (some ⟨w.heap.size, 0, none⟩) 1 1) _ _ rfl (own_new w w.heap.size w.heap.size rfl (Nat.le_refl _) 5 (.int .u8 (d : Int))) (.string tag) tag.size (byteCells tag) rfl (Src.ofString _ Try.underlying9 tag) (by simp only [maxLen]; omega) (by omega) (by simp) (by simp) ?_; intro v1 w1 hown1 hg1 _)
  have hx1 : Hid (Ext w w1) := Lib.hid (Ext.of (((Below.refl _ _).alloc (Nat.le_refl _) _).grown hg1 (by simp) (fun k e => by simp [Value.ownBlock] at e; omega)))
  have ho : Hid (w1.ownsRow w.heap.size 5 1 v1 (coded (strN tag) (ps.take 0)).length (bv (coded (strN tag) (ps.take 0)))) := by
    show World.ownsRow _ _ _ _ _ _ _
    rw [List.take_zero, hc0, List.length_cons, strN_length, Nat.add_comm tag.size 1]
    have e : bv (d :: strN tag) = [.int .u8 (d : Int)] ++ byteCells tag := by rw [byteCells_strN]; rfl
    rw [e]
    exact hown1
  clear hown1 hg1 hc0 k1
  go_loopg [5, 6] ps.length (fun m s5 s6 wr => ∃ j : Nat, j + m = ps.length ∧ s6 = .int .i64 j ∧ wr.ownsRow w.heap.size 5 1 s5 (coded (strN tag) (ps.take j)).length (bv (coded (strN tag) (ps.take j))) ∧ Ext w wr)
  case atStart => exact ⟨0, by omega, rfl, ho.out, hx1.out⟩
  case round =>
    obtain ⟨j, hj, rfl, hown, hx⟩ := hrel
    clear ho hx1
    by_cases h : j < ps.length
    · obtain ⟨p, hp⟩ : ∃ p, ps[j]? = some p := ⟨_, List.getElem?_eq_getElem h⟩
      obtain ⟨ad, a, c', rfl, hcell0, hpc, hrp0⟩ := HR.out.at_ hp
      have HCW : Hid (∀ W, Ext w W → W.cell? (ad.add j) = some (.slice a p.length c')) := Lib.hid (fun W x => x.cell hcell0)
      have HRW : Hid (∀ W, Ext w W → Reads W w.heap.size 1 a p.length (bv p)) := Lib.hid (fun W x => hrp0.below x.out)
      have hcell := HCW.out wr hx
      have hle := HC.out (j + 1)
      have ht1 : ps.take (j + 1) = ps.take j ++ [p] := by rw [List.take_add_one, hp]; rfl
      rw [ht1, coded_snoc] at hle
      simp only [List.length_append, be_length] at hle
      obtain ⟨l, hl⟩ : ∃ l, l = coded (strN tag) (ps.take j) := ⟨_, rfl⟩
      rw [← hl] at hown hle
      have HN : Hid (coded (strN tag) (ps.take (j + 1)) = l ++ be p.length 4 ++ p) := by show _ = _; rw [ht1, coded_snoc, hl]
      have cE := fun W => Eight_any p.length W
      have hpt : (p.length : Int) ≤ 1099511627776 := by omega
      have z1 : (j : Int) < ps.length := by omega
      have HLE := Lib.hid hle
      have HJ := Lib.hid hj
      have HX := Lib.hid hx
      clear hle hj hx ht1 hl hp htl hrp0 hcell0 h
      go_wp2_with (first
        | (go_at_call 82; refine (cE _).mono ?_; clear cE; rintro e w2 ⟨v2, rfl, o2, x2⟩; obtain ⟨AE, kE, rfl, hkE, rE⟩ := own_slice o2; obtain ⟨AF, hAF, rF⟩ := cut4 rE hkE; clear o2 rE)
        | (at_builtin; refine wpList_append_any _ rfl (.tmp 19) (.tmp 27) 23 rfl w.heap.size 5 i0 (.int .u8 0) 1 1 Try.underlying23 hi hz0 hz1 hz2 rfl (by decide) u5 l.length (bv l) rfl (own_ext hown x2) w2.heap.size AF 4 (kE - 4) (bv (be p.length 4)) rfl rF (bv_one _) (by have := HLE.out; simp only [maxLen]; omega) (by have := HLE.out; omega) (Nat.le_trans HX.out.size x2.size) ?_; intro v3 w3 hown3 hg3 _;
            have x3 : Ext w w3 := Ext.of (Below.grown (HX.out.trans x2).out hg3 (HX.out.trans x2).size (own_ge hown)); have hcell3 := HCW.out w3 x3)
        | (at_builtin; refine wpList_append_any _ rfl (.tmp 29) (.tmp 33) 23 rfl w.heap.size 5 i0 (.int .u8 0) 1 1 Try.underlying23 hi hz0 hz1 hz2 rfl (by decide) v3 (l.length + 4) (bv l ++ bv (be p.length 4)) rfl hown3 w.heap.size a p.length c' (bv p) rfl (HRW.out w3 x3) (bv_one _) (by have := HLE.out; simp only [maxLen]; omega) (by have := HLE.out; omega) x3.size ?_; intro v4 w4 hown4 hg4 _))
      have x4 : Hid (Ext w w4) := Lib.hid (Ext.of (Below.grown x3.out hg4 x3.size (own_ge hown3)))
      have O4 : Hid (w4.ownsRow w.heap.size 5 1 v4 (coded (strN tag) (ps.take (j + 1))).length (bv (coded (strN tag) (ps.take (j + 1))))) := by
        show World.ownsRow _ _ _ _ _ _ _
        rw [HN.out, show (l ++ be p.length 4 ++ p).length = l.length + 4 + p.length by simp only [List.length_append, be_length], show bv (l ++ be p.length 4 ++ p) = bv l ++ bv (be p.length 4) ++ bv p by rw [bv_append, bv_append]]
        exact hown4
      have hj := HJ.out
      clear hown4 hg4 hown3 hg3 x3 x2 hown rF hAF hcell hcell3
      go_roundg (gk - 1)
      case measure => omega
      case rel => exact ⟨j + 1, by omega, int_congr (by omega), O4.out, x4.out⟩
    · obtain rfl : j = ps.length := by omega
      rw [List.take_length] at hown
      obtain ⟨A', c', rfl, hc', hr'⟩ := own_slice hown
      have HX := Lib.hid hx
      have HRR := Lib.hid hr'
      have HCC := Lib.hid hc'
      obtain ⟨n, hn⟩ : ∃ n, n = (coded (strN tag) ps).length := ⟨_, rfl⟩
      rw [← hn]
      have HNN := Lib.hid hn
      clear hown hr' hx hc' hj h hn
      go_wp2
      go_ret
      exact ⟨A', c', by rw [← HNN.out]; rfl, HCC.out, HRR.out, HX.out⟩

set_option maxRecDepth 100000 in
set_option maxHeartbeats 1000000 in
theorem rTagged_any (tag : ByteArray) (ps : List (List Nat)) (hps : ∀ p ∈ ps, ∀ x ∈ p, x < 256) (A : Option Addr) (c : Nat) (hpc0 : ps.length ≤ c) (w : World) (hr : Parts w w.heap.size A ps) (htot : (coded (strN tag) ps).length ≤ 1099511627776) :
    Calls Try.prog 36 #[.string tag, .slice A ps.length c] w fun e w' => e = .returned (.agg #[.int .u64 ((hSum (coded (strN tag) ps)).1 : Int), .int .u64 ((hSum (coded (strN tag) ps)).2 : Int)]) ∧ Ext w w' := by
  have hall := coded_lt (strN tag) (strN_lt tag) ps hps
  have cC := rCoded_any tag ps A c hpc0 (w.alloc (.cells #[.int .u64 0, .int .u64 0] 55)) (by
    obtain ⟨vs, h1, h2⟩ := hr
    exact ⟨vs, (h1.alloc (Nat.le_refl _) _).more (by simp), fun j p hj => by obtain ⟨a, c, e, hc, hr⟩ := h2 j p hj; exact ⟨a, c, e, hc, (hr.alloc (Nat.le_refl _) _).more (by simp)⟩⟩) htot
  have cS := fun A' c' hc' W hr' => rSum_any (coded (strN tag) ps) hall htot A' c' hc' W hr'
  obtain ⟨l, hl⟩ : ∃ l, l = coded (strN tag) ps := ⟨_, rfl⟩
  rw [← hl] at cC cS ⊢
  obtain ⟨r1, hr1⟩ : ∃ r, r = (hSum l).1 := ⟨_, rfl⟩
  obtain ⟨r2, hr2⟩ : ∃ r, r = (hSum l).2 := ⟨_, rfl⟩
  rw [← hr1, ← hr2] at cS ⊢
  have x0 : Ext w (w.alloc (.cells #[.int .u64 0, .int .u64 0] 55)) := (Ext.refl w).alloc _
  clear hr1 hr2 hl hr hps htot hall
  go_enter Try.func36, Try.ntmps36
  go_wp2_with (first
    | (go_at_call 66; refine cC.mono ?_; clear cC; rintro e w2 ⟨A2, c2, rfl, hc2, hr2, x2⟩)
    | (go_at_call 65; refine (cS _ _ hc2 _ hr2).mono ?_; clear cS; rintro e w3 ⟨rfl, x3⟩; obtain ⟨q0, q1, p0, p1⟩ := arr2 (ext_blk (x2.trans x3) (Blk.new w _ _))))
  refine bodyPost_ret (v := .agg #[.int .u64 (r1 : Int), .int .u64 (r2 : Int)]) (by simp [results, Try.results36, go_sem, q0, q1]) rfl ⟨rfl, ?_⟩
  exact (((x0.trans x2).trans x3).setCell (p := ⟨w.heap.size, 0, none⟩) (Nat.le_refl _) _).setCell (p := ⟨w.heap.size, 1, none⟩) (Nat.le_refl _) _

end Go.Proofs.Ytaibpldolbemfaa

/- Signing, walked: Secret, Public, Challenge (sign and greatsealref04). Printed by gen_si.py. -/
namespace Go.Proofs.Ytaibpldolbemfaa
set_option linter.unusedVariables false
open Go.RowKit Go.Shelf
attribute [local irreducible] mix hSum hNum

theorem mix_w (s : Nat × Nat × Nat) : (mix s).1 < 18446744073709551616 ∧ (mix s).2.1 < 18446744073709551616 := by
  obtain ⟨p, q, _⟩ := rnd_lt 7 (rnds 7 s)
  have e : mix s = rnd 7 (rnds 7 s) := by unfold mix; rfl
  rw [e]
  exact ⟨Nat.lt_trans p (by decide), Nat.lt_trans q (by decide)⟩
theorem soak_w : ∀ (l : List Nat) (s : Nat × Nat × Nat), s.1 < 18446744073709551616 → s.2.1 < 18446744073709551616 → (soak s l).1 < 18446744073709551616 ∧ (soak s l).2.1 < 18446744073709551616
  | [], s, h1, h2 => by rw [soak]; exact ⟨h1, h2⟩
  | [x], s, _, _ => by rw [soak_one]; exact mix_w _
  | x :: y :: l, s, _, _ => by rw [soak_two]; exact soak_w l _ (mix_w _).1 (mix_w _).2
theorem hSum_w (l : List Nat) : (hSum l).1 < 18446744073709551616 ∧ (hSum l).2 < 18446744073709551616 := by
  unfold hSum soakE
  split
  · exact mix_w _
  · exact soak_w _ _ (show 0 < 18446744073709551616 by decide) (show 0 < 18446744073709551616 by decide)

/-- Slices built one after another, as parts. -/
theorem parts_new {W : World} {T : TypeId} {vs : Array Value} {ps : List (List Nat)} (hl : vs.size = ps.length) (h : ∀ (j : Nat) (p : List Nat), ps[j]? = some p → ∃ a c, vs[j]? = some (Value.slice a p.length c) ∧ p.length ≤ c ∧ Reads W W.heap.size 1 a p.length (bv p)) :
    Parts (W.alloc (.cells vs T)) (W.alloc (.cells vs T)).heap.size (some ⟨W.heap.size, 0, none⟩) ps := by
  refine ⟨vs.toList, by rw [← hl]; exact blk_reads (Blk.new W T vs), fun j p hj => ?_⟩
  obtain ⟨a, c, h1, h2, h3⟩ := h j p hj
  exact ⟨a, c, by simpa using h1, h2, (h3.alloc (Nat.le_refl _) _).more (by simp)⟩
theorem parts_1 {W : World} {T : TypeId} {A : Option Addr} {c : Nat} {l : List Nat} (hc : l.length ≤ c) (hr : Reads W W.heap.size 1 A l.length (bv l)) :
    Parts (W.alloc (.cells #[.slice A l.length c] T)) (W.alloc (.cells #[.slice A l.length c] T)).heap.size (some ⟨W.heap.size, 0, none⟩) [l] :=
  parts_new rfl fun j p hj => match j, hj with | 0, hj => by cases hj; exact ⟨A, c, rfl, hc, hr⟩
theorem parts_2 {W : World} {T : TypeId} {A B : Option Addr} {c n : Nat} {l : List Nat} (hb : Reads W W.heap.size 1 B 8 (bv (be n 8))) (hc : l.length ≤ c) (hr : Reads W W.heap.size 1 A l.length (bv l)) :
    Parts (W.alloc (.cells #[.slice B 8 8, .slice A l.length c] T)) (W.alloc (.cells #[.slice B 8 8, .slice A l.length c] T)).heap.size (some ⟨W.heap.size, 0, none⟩) [be n 8, l] :=
  parts_new rfl fun j p hj => match j, hj with
    | 0, hj => by cases hj; exact ⟨B, 8, by rw [be_length]; rfl, by rw [be_length]; exact Nat.le_refl _, by rw [be_length]; exact hb⟩
    | 1, hj => by cases hj; exact ⟨A, c, rfl, hc, hr⟩
theorem parts_3 {W : World} {T : TypeId} {A B C : Option Addr} {c n m : Nat} {l : List Nat} (hb : Reads W W.heap.size 1 B 8 (bv (be n 8))) (hd : Reads W W.heap.size 1 C 8 (bv (be m 8))) (hc : l.length ≤ c) (hr : Reads W W.heap.size 1 A l.length (bv l)) :
    Parts (W.alloc (.cells #[.slice B 8 8, .slice C 8 8, .slice A l.length c] T)) (W.alloc (.cells #[.slice B 8 8, .slice C 8 8, .slice A l.length c] T)).heap.size (some ⟨W.heap.size, 0, none⟩) [be n 8, be m 8, l] :=
  parts_new rfl fun j p hj => match j, hj with
    | 0, hj => by cases hj; exact ⟨B, 8, by rw [be_length]; rfl, by rw [be_length]; exact Nat.le_refl _, by rw [be_length]; exact hb⟩
    | 1, hj => by cases hj; exact ⟨C, 8, by rw [be_length]; rfl, by rw [be_length]; exact Nat.le_refl _, by rw [be_length]; exact hd⟩
    | 2, hj => by cases hj; exact ⟨A, c, rfl, hc, hr⟩
theorem be_lt8 (n : Nat) : ∀ x ∈ be n 8, x < 256 := be_lt n 8
theorem lts1 {l : List Nat} (hl : ∀ x ∈ l, x < 256) : ∀ p ∈ [l], ∀ x ∈ p, x < 256 := by intro p hp; simp only [List.mem_cons, List.not_mem_nil, or_false] at hp; subst hp; exact hl
theorem lts2 (n : Nat) {l : List Nat} (hl : ∀ x ∈ l, x < 256) : ∀ p ∈ [be n 8, l], ∀ x ∈ p, x < 256 := by
  intro p hp; simp only [List.mem_cons, List.not_mem_nil, or_false] at hp
  rcases hp with rfl | rfl
  · exact be_lt8 n
  · exact hl
theorem lts3 (n m : Nat) {l : List Nat} (hl : ∀ x ∈ l, x < 256) : ∀ p ∈ [be n 8, be m 8, l], ∀ x ∈ p, x < 256 := by
  intro p hp; simp only [List.mem_cons, List.not_mem_nil, or_false] at hp
  rcases hp with rfl | rfl | rfl
  · exact be_lt8 n
  · exact be_lt8 m
  · exact hl
theorem strN6 (s : ByteArray) : (strN s).length = s.size := strN_length s
theorem len1 (tag : ByteArray) (ht : tag.size ≤ 10) {l : List Nat} (h : l.length ≤ 1000) : (coded (strN tag) [l]).length ≤ 1099511627776 := by simp [coded, be_length, strN_length]; omega
theorem len2 (tag : ByteArray) (ht : tag.size ≤ 10) (n : Nat) {l : List Nat} (h : l.length ≤ 1000) : (coded (strN tag) [be n 8, l]).length ≤ 1099511627776 := by simp [coded, be_length, strN_length]; omega
theorem len3 (tag : ByteArray) (ht : tag.size ≤ 10) (n m : Nat) {l : List Nat} (h : l.length ≤ 1000) : (coded (strN tag) [be n 8, be m 8, l]).length ≤ 1099511627776 := by simp [coded, be_length, strN_length]; omega
theorem wrap_one {n : Nat} (h : n < bR) : IntKind.u64.wrap ((n : Int) + 1) = ((n + 1 : Nat) : Int) ∧ IntKind.u64.wrap (1 + (n : Int)) = ((n + 1 : Nat) : Int) := by
  unfold bR at h
  rw [IntKind.wrap_u64, IntKind.wrap_u64]; omega

theorem tagNum (tag : ByteArray) (ps : List (List Nat)) (m : Nat) (hm : m < 18446744073709551616) (hps : ∀ p ∈ ps, ∀ x ∈ p, x < 256) (htot : (coded (strN tag) ps).length ≤ 1099511627776) : ∃ x y : Nat,
    (∀ A c W, ps.length ≤ c → Parts W W.heap.size A ps → Calls Try.prog 34 #[.string tag, .slice A ps.length c] W fun e w' => e = .returned (.agg #[.int .u64 (x : Int), .int .u64 (y : Int)]) ∧ Ext W w') ∧
    (∀ W, Calls Try.prog 33 #[.agg #[.int .u64 (x : Int), .int .u64 (y : Int)], .int .u64 (m : Nat)] W fun e w' => e = .returned (.int .u64 (hNum tag ps m : Nat)) ∧ Ext W w') := by
  refine ⟨(hSum (coded (strN tag) ps)).1, (hSum (coded (strN tag) ps)).2, fun A c W hc h => Tagged_any tag ps hps A c W h htot, fun W => ?_⟩
  unfold hNum
  exact Num_any _ _ m (hSum_w _).1 (hSum_w _).2 hm W

theorem rtagNum (tag : ByteArray) (ps : List (List Nat)) (m : Nat) (hm : m < 18446744073709551616) (hps : ∀ p ∈ ps, ∀ x ∈ p, x < 256) (htot : (coded (strN tag) ps).length ≤ 1099511627776) : ∃ x y : Nat,
    (∀ A c W, ps.length ≤ c → Parts W W.heap.size A ps → Calls Try.prog 36 #[.string tag, .slice A ps.length c] W fun e w' => e = .returned (.agg #[.int .u64 (x : Int), .int .u64 (y : Int)]) ∧ Ext W w') ∧
    (∀ W, Calls Try.prog 35 #[.agg #[.int .u64 (x : Int), .int .u64 (y : Int)], .int .u64 (m : Nat)] W fun e w' => e = .returned (.int .u64 (hNum tag ps m : Nat)) ∧ Ext W w') := by
  refine ⟨(hSum (coded (strN tag) ps)).1, (hSum (coded (strN tag) ps)).2, fun A c W hc h => rTagged_any tag ps hps A c hc W h htot, fun W => ?_⟩
  unfold hNum
  exact rNum_any _ _ m hm W

end Go.Proofs.Ytaibpldolbemfaa

/- Shares: the polynomial and its shares, as lists and as cells. -/
namespace Go.Proofs.Ytaibpldolbemfaa
set_option linter.unusedVariables false
open Go.RowKit Go.Shelf Go.Maps
attribute [local irreducible] atN prodN sumN wantN mix hSum hNum

def shareS : ByteArray := { data := #[115, 104, 97, 114, 101] }
/-- A polynomial's coefficient. -/
def coefN (seed : List Nat) (i : Nat) : Nat := hNum shareS [seed, [i]] bR
def polyN (secret t : Nat) (seed : List Nat) : List Nat := (List.range t).map fun i => if i = 0 then secret else coefN seed i
def splitL (secret t n : Nat) (seed : List Nat) : List (Int × Nat) := (List.range n).map fun k => (((k + 1 : Nat) : Int), evZ (polyN secret t seed) (k + 1) % bR)
theorem polyN_length (secret t : Nat) (seed : List Nat) : (polyN secret t seed).length = t := by simp [polyN]
theorem splitL_length (secret t n : Nat) (seed : List Nat) : (splitL secret t n seed).length = n := by simp [splitL]
theorem polyN_at (secret t : Nat) (seed : List Nat) {i : Nat} (h : i < t) : (polyN secret t seed)[i]? = some (if i = 0 then secret else coefN seed i) := by simp [polyN, h]
theorem splitL_at (secret t n : Nat) (seed : List Nat) {k : Nat} (h : k < n) : (splitL secret t n seed)[k]? = some (((k + 1 : Nat) : Int), evZ (polyN secret t seed) (k + 1) % bR) := by simp [splitL, h]
theorem coefN_lt (seed : List Nat) (i : Nat) : coefN seed i < bR := hNum_lt _ _ (by decide)
theorem polyN_lt {secret : Nat} (h : secret < bR) (t : Nat) (seed : List Nat) : ∀ c ∈ polyN secret t seed, c < bR := by
  intro c hc
  obtain ⟨i, -, rfl⟩ := List.mem_map.1 hc
  split
  · exact h
  · exact coefN_lt _ _

/-! ### cells -/
theorem uv_set (l : List Nat) (j v : Nat) : (uv l).toArray.setIfInBounds j (.int .u64 (v : Int)) = (uv (l.set j v)).toArray := by
  simp [uv, List.map_set]
theorem set_row (l : List Nat) (n j v : Nat) (hl : l.length = j) (hj : j < n) : (l ++ List.replicate (n - j) 0).set j v = l ++ v :: List.replicate (n - (j + 1)) 0 := by
  rw [List.set_append_right _ _ (by omega), hl, Nat.sub_self]
  have : n - j = n - (j + 1) + 1 := by omega
  rw [this, List.replicate_succ, List.set_cons_zero]
theorem set_row' (l r : List Nat) (j u v : Nat) (hl : l.length = j) : (l ++ u :: r).set j v = l ++ v :: r := by
  rw [List.set_append_right _ _ (by omega), hl, Nat.sub_self, List.set_cons_zero]
theorem sv_cons (s : Int × Nat) (l : List (Int × Nat)) : sv (s :: l) = .int .i64 s.1 :: .int .u64 (s.2 : Int) :: sv l := rfl
theorem sv_set0 (l r : List (Int × Nat)) (j : Nat) (hl : l.length = j) (x y : Int) (v : Nat) : (sv (l ++ (x, v) :: r)).toArray.setIfInBounds (j * 2) (.int .i64 y) = (sv (l ++ (y, v) :: r)).toArray := by
  rw [List.setIfInBounds_toArray, sv_append, sv_append, List.set_append_right _ _ (by rw [sv_length, hl]; exact Nat.le_refl _), sv_length, hl, Nat.sub_self]
  rfl
theorem sv_set1 (l r : List (Int × Nat)) (j : Nat) (hl : l.length = j) (x : Int) (u v : Nat) : (sv (l ++ (x, u) :: r)).toArray.setIfInBounds (j * 2 + 1) (.int .u64 (v : Int)) = (sv (l ++ (x, v) :: r)).toArray := by
  rw [List.setIfInBounds_toArray, sv_append, sv_append, List.set_append_right _ _ (by rw [sv_length, hl]; omega), sv_length, hl, show j * 2 + 1 - j * 2 = 1 by omega]
  rfl
theorem blk_row {w : World} {g : Nat} {T : TypeId} {l : List (Int × Nat)} (h : Blk w g T (sv l).toArray) {k : Nat} {s : Int × Nat} (hs : l[k]? = some s) :
    w.cell? ⟨g, k * 2, none⟩ = some (.int .i64 s.1) ∧ w.cell? ⟨g, k * 2 + 1, none⟩ = some (.int .u64 (s.2 : Int)) :=
  ⟨by rw [h.cell]; simpa using (sv_at hs).1, by rw [h.cell]; simpa using (sv_at hs).2⟩
theorem blk_reads2 {w : World} {g : Nat} {T : TypeId} {l : List (Int × Nat)} (h : Blk w g T (sv l).toArray) : Reads w w.heap.size 2 (some ⟨g, 0, none⟩) l.length (sv l) := by
  refine ⟨sv_length l, fun _ => ⟨_, rfl, h.lt, fun j u hj => ?_⟩⟩
  have e : (Addr.mk g 0 none).add j = ⟨g, j, none⟩ := by
    unfold Addr.add
    split <;> simp_all
  rw [e, h.cell]
  simpa using hj
theorem blk_word {w : World} {g : Nat} {T : TypeId} {l : List Nat} (h : Blk w g T (uv l).toArray) {k v : Nat} (hk : l[k]? = some v) : w.cell? ⟨g, k, none⟩ = some (.int .u64 (v : Int)) := by
  rw [h.cell]; simp [uv, hk]
/-- What 'make' lays. -/
theorem make_words (n : Nat) : (madeCells (Value.int .u64 0).cells (n * 1)).toList = uv (List.replicate n 0) := by
  have e : (Value.int .u64 0).cells = #[Value.int .u64 0] := rfl
  rw [e, toList_madeCells_one, Nat.mul_one]
  simp [uv]
theorem make_shares (n : Nat) : (madeCells (Value.agg #[.int .i64 0, .int .u64 0]).cells (n * 2)).toList = sv (List.replicate n (0, 0)) := by
  have e : (Value.agg #[.int .i64 0, .int .u64 0]).cells = #[.int .i64 0, .int .u64 0] := rfl
  rw [e]
  refine List.ext_getElem? fun i => ?_
  have hs : (madeCells #[.int .i64 0, .int .u64 0] (n * 2)).toList[i]? = if i < n * 2 then some (#[Value.int .i64 0, .int .u64 0][i % 2]!) else none := by
    unfold madeCells
    rw [Array.getElem?_toList, Array.getElem?_map, Array.getElem?_range]
    split
    · rfl
    · rfl
  rw [hs]
  by_cases h : i < n * 2
  · rw [if_pos h]
    have hk : (List.replicate n ((0 : Int), 0))[i / 2]? = some (0, 0) := by simp [List.getElem?_replicate]; omega
    obtain ⟨h0, h1⟩ := sv_at hk
    rcases Nat.mod_two_eq_zero_or_one i with hm | hm
    · rw [hm]
      rw [show i / 2 * 2 = i by omega] at h0
      rw [h0]; rfl
    · rw [hm]
      rw [show i / 2 * 2 + 1 = i by omega] at h1
      rw [h1]; rfl
  · rw [if_neg h, List.getElem?_eq_none (by rw [sv_length, List.length_replicate]; omega)]
theorem own_blk {w : World} {base g n size : Nat} {e : TypeId} {xs : List Value} (h : w.ownsRow base e size (.slice (some ⟨g, 0, none⟩) n n) n xs) : Blk w g e xs.toArray ∧ base ≤ g := by
  rcases h.2 with ⟨h0, _⟩ | ⟨g', cap, cur, e1, hb, hg, h1, h2, h3, h4⟩
  · cases h0
  · injection e1 with e1 _ e2
    injection e1 with e1
    injection e1 with e1
    subst e1; subst e2
    rw [← h3, List.take_of_length_le (by simp)] at h4
    refine ⟨?_, hb⟩
    unfold Blk
    rw [hg, ← h4]
end Go.Proofs.Ytaibpldolbemfaa

/- Shares, walked: Split of the program. -/
namespace Go.Proofs.Ytaibpldolbemfaa
set_option linter.unusedVariables false
open Go.RowKit Go.Shelf Go.Maps
attribute [local irreducible] atN prodN sumN wantN mix hSum hNum coefN evZ

def spB (secret : Nat) (t n : Int) : Bool := decide (1 ≤ t ∧ t ≤ n ∧ n ≤ 7 ∧ secret < bR)
def spO (secret : Nat) (t n : Int) (seed : List Nat) : List (Int × Nat) := if spB secret t n = true then splitL secret t.toNat n.toNat seed else []
def spE (secret : Nat) (t n : Int) : Nat := if spB secret t n = true then 0 else 1
theorem coded_share (seed : List Nat) (i : Nat) : (coded (strN shareS) [seed, [i]]).length = seed.length + 15 := by
  have h5 : (strN shareS).length = 5 := by rw [strN_length]; rfl
  simp only [coded, List.flatMap_cons, List.flatMap_nil, List.length_cons, List.length_append, be_length, List.length_nil, h5]
  omega
theorem lts_share {seed : List Nat} (hs : ∀ x ∈ seed, x < 256) {i : Nat} (hi : i < 256) : ∀ p ∈ [seed, [i]], ∀ x ∈ p, x < 256 := by
  intro p hp x hx
  simp only [List.mem_cons, List.not_mem_nil, or_false] at hp
  rcases hp with rfl | rfl
  · exact hs x hx
  · simp only [List.mem_cons, List.not_mem_nil, or_false] at hx; omega
theorem parts_share {W : World} {T : TypeId} {A B : Option Addr} {c d i : Nat} {l : List Nat} (hc : l.length ≤ c) (hr : Reads W W.heap.size 1 A l.length (bv l)) (hd : 1 ≤ d) (hb : Reads W W.heap.size 1 B 1 (bv [i])) :
    Parts (W.alloc (.cells #[.slice A l.length c, .slice B 1 d] T)) (W.alloc (.cells #[.slice A l.length c, .slice B 1 d] T)).heap.size (some ⟨W.heap.size, 0, none⟩) [l, [i]] :=
  parts_new rfl fun j p hj => match j, hj with
    | 0, hj => by cases hj; exact ⟨A, c, rfl, hc, hr⟩
    | 1, hj => by cases hj; exact ⟨B, d, rfl, hd, hb⟩
/-- What is hashed for a coefficient. -/
theorem TagShare (seed : List Nat) (hs : ∀ x ∈ seed, x < 256) (hl : seed.length ≤ 1000) (i : Nat) (hi : i < 256) : ∃ a b : Nat, a < 18446744073709551616 ∧ b < 18446744073709551616 ∧ numM a b bR = coefN seed i ∧
    (∀ (W : World) (A : Option Addr), Parts W W.heap.size A [seed, [i]] → Calls Try.prog 34 #[.string shareS, .slice A 2 2] W fun e w' => e = .returned (.agg #[.int .u64 (a : Int), .int .u64 (b : Int)]) ∧ Ext W w') ∧
    (∀ (W : World) (A : Option Addr), Parts W W.heap.size A [seed, [i]] → Calls Try.prog 36 #[.string shareS, .slice A 2 2] W fun e w' => e = .returned (.agg #[.int .u64 (a : Int), .int .u64 (b : Int)]) ∧ Ext W w') :=
  ⟨_, _, (hSum_w (coded (strN shareS) [seed, [i]])).1, (hSum_w _).2, by unfold coefN hNum; rfl, fun W A h => Tagged_any shareS [seed, [i]] (lts_share hs hi) A 2 W h (by rw [coded_share]; omega), fun W A h => rTagged_any shareS [seed, [i]] (lts_share hs hi) A 2 (Nat.le_refl 2) W h (by rw [coded_share]; omega)⟩
theorem byte_reads (W : World) (T : TypeId) (i : Nat) : Reads (W.alloc (.cells #[.int .u8 (i : Int)] T)) (W.alloc (.cells #[.int .u8 (i : Int)] T)).heap.size 1 (some ⟨W.heap.size, 0, none⟩) 1 (bv [i]) := blk_reads (Blk.new W T #[.int .u8 (i : Int)])

set_option maxRecDepth 100000 in
set_option maxHeartbeats 4000000 in
theorem Split_ok (secret tn nn : Nat) (seed : List Nat) (h1 : 1 ≤ tn) (h2 : tn ≤ nn) (h3 : nn ≤ 7) (hs : secret < bR) (hseed : ∀ x ∈ seed, x < 256) (hl : seed.length ≤ 1000) (A : Option Addr) (c : Nat) (hc : seed.length ≤ c) (w : World) (hr : Reads w w.heap.size 1 A seed.length (bv seed)) :
    Calls Try.prog 13 #[.int .u64 (secret : Int), .int .i64 (tn : Int), .int .i64 (nn : Int), .slice A seed.length c] w fun e w' => ∃ A' c', e = .returned (.tuple #[.slice A' nn c', .int .i64 0]) ∧ nn ≤ c' ∧ Reads w' w'.heap.size 2 A' nn (sv (splitL secret tn nn seed)) ∧ Ext w w' := by
  obtain ⟨i0, hi, hz0, hz1, hz2⟩ := info_parts Try.infoU64
  obtain ⟨i1, hi1, hz3, hz4, hz5⟩ := info_parts Try.infoSh
  have z1 : ¬ (tn : Int) < 1 := by omega
  have z2 : ¬ (nn : Int) < (tn : Int) := by omega
  have z3 : ¬ (7 : Int) < (nn : Int) := by omega
  have z4 : decide ((1152921504606845789 : Int) ≤ (secret : Int)) = false := dec_nge (by unfold bR at hs; omega)
  have ht7 : tn ≤ 7 := by omega
  have HR := Lib.hid hr
  have HSD := Lib.hid hseed
  have HL := Lib.hid hl
  have HC := Lib.hid hc
  have HS := Lib.hid hs
  have H1 := Lib.hid h1
  clear hr hseed hl hc hs h1 h2
  go_enter Try.func13, Try.ntmps13
  go_wp2_with (at_make; refine wpList_make_full _ rfl _ _ 52 rfl w.heap.size 22 i0 (.int .u64 0) 1 Try.underlying52 hi hz0 hz1 .i64 .i64 (tn : Int) (tn : Int) tn rfl rfl rfl rfl (by rw [hz2]; omega) (by simp only [maxLen]; omega) (Nat.le_refl _) ?_; intro w1 hown1 hg1)
  have hB1 := (own_blk hown1).1
  rw [make_words] at hB1
  have HB1 := Lib.hid hB1
  have X1 : Hid (Ext w w1) := Ext.of ((Below.refl _ _).grown hg1 (Nat.le_refl _) (fun k h => by cases h))
  obtain ⟨g, hg⟩ : ∃ g, g = w.heap.size := ⟨_, rfl⟩
  have HG := Lib.hid hg
  rw [← hg] at HB1 ⊢
  clear hown1 hg1 hB1 z1 z2 z4 hg
  go_loopg [36] tn (fun m s36 wr => ∃ j : Nat, j + m = tn ∧ s36 = .int .i64 j ∧ Blk wr g 22 (uv ((polyN secret tn seed).take j ++ List.replicate (tn - j) 0)).toArray ∧ Ext w wr)
  case atStart => exact ⟨0, by omega, rfl, HB1.out, X1.out⟩
  case round =>
    obtain ⟨j, hj, rfl, hb, hx⟩ := hrel
    have hlen : ((polyN secret tn seed).take j).length = j := by rw [List.length_take, polyN_length]; omega
    by_cases h : j < tn
    · have hjb : (j : Int) ≤ 7 := by omega
      have hjt : (j : Int) < tn := by omega
      have pa := polyN_at secret tn seed h
      have e1 : (polyN secret tn seed).take (j + 1) = (polyN secret tn seed).take j ++ [if j = 0 then secret else coefN seed j] := by rw [List.take_add_one, pa]; rfl
      obtain ⟨pre, hpre⟩ : ∃ q, q = (polyN secret tn seed).take j := ⟨_, rfl⟩
      rw [← hpre] at hlen e1 hb
      have q0 : wr.cell? ⟨g, j, none⟩ = some (.int .u64 ((0 : Nat) : Int)) := blk_word hb (by rw [List.getElem?_append_right (by omega), hlen, Nat.sub_self, List.getElem?_replicate, if_pos (by omega)])
      have f0 := hb.frozen j
      have hb2 := hb.set_ j (.int .u64 (secret : Int))
      rw [uv_set, set_row _ _ _ _ hlen h] at hb2
      have q1 : (wr.setCell ⟨g, j, none⟩ (.int .u64 (secret : Int))).cell? ⟨g, j, none⟩ = some (.int .u64 (secret : Int)) := blk_word hb2 (by rw [List.getElem?_append_right (by omega), hlen, Nat.sub_self]; rfl)
      have x2 : Ext w (wr.setCell ⟨g, j, none⟩ (.int .u64 (secret : Int))) := hx.setCell (p := ⟨g, j, none⟩) (by rw [HG.out]; exact Nat.le_refl _) _
      have HE := Lib.hid e1
      have HX2 := Lib.hid x2
      have HB2 := Lib.hid hb2
      have HJ := Lib.hid hj
      have HLEN := Lib.hid hlen
      clear hj hb hx hpre hlen pa e1 hb2 x2
      by_cases hj0 : j = 0
      · subst hj0
        rw [if_pos rfl] at HE
        go_wp2
        have hj := HJ.out
        go_roundg (gk - 1)
        case measure => omega
        case rel => exact ⟨1, by omega, rfl, by rw [HE.out, List.append_assoc]; exact HB2.out, HX2.out⟩
      · rw [if_neg hj0] at HE
        have hj1 : (0 : Int) < j := by omega
        obtain ⟨ta, tb, ha, hb', hnm, cT, -⟩ := TagShare seed HSD.out HL.out j (by omega)
        have cN := fun W => Num_any ta tb bR ha hb' (by decide) W
        rw [hnm, show bR = 1152921504606845789 from rfl] at cN
        simp only [Int.cast_ofNat_Int] at cN
        have kw : IntKind.u8.wrap (j : Int) = (j : Int) := by rw [IntKind.wrap_u8]; omega
        obtain ⟨co, hco⟩ : ∃ q, q = coefN seed j := ⟨_, rfl⟩
        rw [← hco] at cN HE
        unfold shareS at cT
        have xV : Ext w ((wr.setCell ⟨g, j, none⟩ (.int .u64 (secret : Int))).alloc (.cells #[.int .u8 (j : Int)] 5)) := HX2.out.alloc _
        have pT := fun T => parts_share (T := T) HC.out ((HR.out.below xV.out).more xV.size) (Nat.le_refl 1) (byte_reads (wr.setCell ⟨g, j, none⟩ (.int .u64 (secret : Int))) 5 j)
        rw [World.size_alloc, World.size_setCell] at pT
        have cT1 := fun T => cT _ _ (pT T)
        have HP := Lib.hid xV
        clear ha hb' hnm hco hj0 cT pT xV
        go_wp2_with (first
          | (go_at_call 34; refine (cT1 _).mono ?_; clear cT1; rintro e w2 ⟨rfl, x2⟩; have B2 := Lib.hid (ext_blk x2 ((HB2.out.alloc _).alloc _)); have X2 := Lib.hid ((HP.out.alloc _).trans x2))
          | (go_at_call 33; refine (cN _).mono ?_; clear cN; rintro e w3 ⟨rfl, x3⟩; have B3 := Lib.hid (ext_blk x3 B2.out); have q3 := blk_word B3.out (k := j) (v := secret) (by rw [List.getElem?_append_right (by rw [HLEN.out]; exact Nat.le_refl _), HLEN.out, Nat.sub_self]; rfl); have f3 := B3.out.frozen j))
        have hb4 := B3.out.set_ j (.int .u64 (co : Int))
        rw [uv_set, set_row' _ _ _ _ _ HLEN.out] at hb4
        have x4 : Ext w (w3.setCell ⟨g, j, none⟩ (.int .u64 (co : Int))) := (X2.out.trans x3).setCell (p := ⟨g, j, none⟩) (by rw [HG.out]; exact Nat.le_refl _) _
        have hj := HJ.out
        go_roundg (gk - 1)
        case measure => omega
        case rel => exact ⟨j + 1, by omega, int_congr (by omega), by rw [HE.out, List.append_assoc]; exact hb4, x4⟩
    · obtain rfl : j = tn := by omega
      rw [List.take_of_length_le (by rw [polyN_length]; exact Nat.le_refl _), Nat.sub_self, List.replicate_zero, List.append_nil] at hb
      have hpl := polyN_length secret j seed
      have hpr := polyN_lt HS.out j seed
      have hsp : ∀ k, k < nn → (splitL secret j nn seed)[k]? = some (((k + 1 : Nat) : Int), evZ (polyN secret j seed) (k + 1) % bR) := fun k hk => splitL_at secret j nn seed hk
      have hsl := splitL_length secret j nn seed
      obtain ⟨poly, hpoly⟩ : ∃ q, q = polyN secret j seed := ⟨_, rfl⟩
      obtain ⟨sl, hslq⟩ : ∃ q, q = splitL secret j nn seed := ⟨_, rfl⟩
      rw [← hpoly] at hb hpl hpr hsp
      rw [← hslq] at hsp hsl
      have HB := Lib.hid hb
      have HX := Lib.hid hx
      have HPL := Lib.hid hpl
      have HPR := Lib.hid hpr
      have HSP := Lib.hid hsp
      have HSL := Lib.hid hsl
      have HSLQ := Lib.hid hslq
      clear hb hx hj hlen hpl hpr hsp hsl hslq hpoly
      go_wp2_with (at_make; refine wpList_make_full _ rfl _ _ 24 rfl wr.heap.size 43 i1 (.agg #[.int .i64 0, .int .u64 0]) 2 Try.underlying24 hi1 hz3 hz4 .i64 .i64 (nn : Int) (nn : Int) nn rfl rfl rfl rfl (by rw [hz5]; omega) (by simp only [maxLen]; omega) (Nat.le_refl _) ?_; intro w2 hown2 hg2)
      have hB2 := (own_blk hown2).1
      rw [make_shares] at hB2
      have HBP := Lib.hid (HB.out.grown hg2 (by simp))
      have hx2 : Ext wr w2 := Ext.of ((Below.refl _ _).grown hg2 (Nat.le_refl _) (fun k h => by cases h))
      have HX2 := Lib.hid (HX.out.trans hx2)
      obtain ⟨g2, hg2'⟩ : ∃ g, g = wr.heap.size := ⟨_, rfl⟩
      have hgg : w.heap.size ≤ g2 := by rw [hg2']; exact HX.out.size
      have hne : g ≠ g2 := by have := HB.out.lt; omega
      rw [← hg2'] at hB2 ⊢
      have HB2 := Lib.hid hB2
      have HGG := Lib.hid hgg
      have HNE := Lib.hid hne
      clear hown2 hg2 hB2 hx2 hg2' hgg hne
      go_loopg [60] nn (fun m s60 wr => ∃ k : Nat, k + m = nn ∧ s60 = .int .i64 k ∧ Blk wr g2 43 (sv (sl.take k ++ List.replicate (nn - k) (0, 0))).toArray ∧ Blk wr g 22 (uv poly).toArray ∧ Ext w wr)
      case atStart => exact ⟨0, by omega, rfl, HB2.out, HBP.out, HX2.out⟩
      case round =>
        obtain ⟨k, hk, rfl, hb, hbp, hx⟩ := hrel
        by_cases h : k < nn
        · have hkb : (k : Int) ≤ 7 := by omega
          have hkn : (k : Int) < nn := by omega
          have hlen : (sl.take k).length = k := by rw [List.length_take, HSL.out]; omega
          have e1 : sl.take (k + 1) = sl.take k ++ [(((k + 1 : Nat) : Int), evZ poly (k + 1) % bR)] := by rw [List.take_add_one, HSP.out k h]; rfl
          obtain ⟨pre, hpre⟩ : ∃ q, q = sl.take k := ⟨_, rfl⟩
          rw [← hpre] at hlen e1 hb
          have e2 : List.replicate (nn - k) ((0 : Int), 0) = ((0 : Int), 0) :: List.replicate (nn - (k + 1)) (0, 0) := by rw [← List.replicate_succ]; congr 1; omega
          rw [e2] at hb
          obtain ⟨post, hpost⟩ : ∃ q, q = List.replicate (nn - (k + 1)) ((0 : Int), 0) := ⟨_, rfl⟩
          rw [← hpost] at hb
          have hat : ∀ s : Int × Nat, (pre ++ s :: post)[k]? = some s := fun s => by rw [List.getElem?_append_right (by omega), hlen, Nat.sub_self]; rfl
          obtain ⟨q0, -⟩ := blk_row hb (hat _)
          have f0 := hb.frozen (k * 2)
          have hb2 := hb.set_ (k * 2) (.int .i64 (((k + 1 : Nat) : Int)))
          rw [sv_set0 _ _ _ hlen] at hb2
          have kc : ((k + 1 : Nat) : Int) = (k : Int) + 1 := by omega
          rw [kc] at hb2 e1
          have hbp2 := hbp.far (p := ⟨g2, k * 2, none⟩) HNE.out (.int .i64 ((k : Int) + 1))
          have x2 : Ext w (wr.setCell ⟨g2, k * 2, none⟩ (.int .i64 ((k : Int) + 1))) := hx.setCell (p := ⟨g2, k * 2, none⟩) HGG.out _
          have kx : IntKind.u64.wrap ((k : Int) + 1) = ((k + 1 : Nat) : Int) := by rw [IntKind.wrap_u64]; omega
          obtain ⟨x, hxk⟩ : ∃ x, x = k + 1 := ⟨_, rfl⟩
          rw [← hxk] at kx e1
          have HE := Lib.hid e1
          have HX3 := Lib.hid x2
          have HB3 := Lib.hid hb2
          have HBP3 := Lib.hid hbp2
          have HK := Lib.hid hk
          have HLEN := Lib.hid hlen
          have HPOST := Lib.hid hpost
          have HAT := Lib.hid hat
          obtain ⟨G, hG⟩ : ∃ G, G = gk - 1 := ⟨_, rfl⟩
          have HG2 := Lib.hid hG
          have hxb : x < bR := by unfold bR; omega
          have HXB := Lib.hid hxb
          have HXK := Lib.hid hxk
          clear hk hb hbp hx hpre hlen e1 e2 hpost hat hb2 hbp2 x2 hxk hG hxb kc
          go_wp2
          go_loopg [14, 71] j (fun m s14 s71 wr => ∃ i : Nat, i + m = j ∧ s71 = .int .i64 i ∧ s14 = .int .u64 ((x ^ i % bR : Nat) : Int) ∧ Blk wr g2 43 (sv (pre ++ ((k : Int) + 1, evZ (poly.take i) x % bR) :: post)).toArray ∧ Blk wr g 22 (uv poly).toArray ∧ Ext w wr)
          case atStart =>
            refine ⟨0, by omega, rfl, ?_, ?_, HBP3.out, HX3.out⟩
            · rw [Nat.pow_zero]; rfl
            · have e : evZ (poly.take 0) x % bR = 0 := by unfold evZ; rfl
              rw [e]; exact HB3.out
          case round =>
            obtain ⟨i, hi, rfl, rfl, hb, hbp, hx⟩ := hrel
            by_cases h' : i < j
            · have hib : (i : Int) ≤ 7 := by omega
              have hij : (i : Int) < j := by omega
              obtain ⟨co, hco⟩ : ∃ s, poly[i]? = some s := ⟨_, List.getElem?_eq_getElem (by rw [HPL.out]; exact h')⟩
              have p0 := blk_word hbp hco
              have hcb := HPR.out co (List.mem_of_getElem? hco)
              have hlt : (poly.take i).length = i := by rw [List.length_take, HPL.out]; omega
              have e1 : poly.take (i + 1) = poly.take i ++ [co] := by rw [List.take_add_one, hco]; rfl
              have e2 := value_step (poly.take i) co x
              rw [← e1, hlt] at e2
              have e3 := shpow_step x i
              obtain ⟨z0, z1⟩ := blk_row hb (HAT.out _)
              obtain ⟨z2, z3⟩ : wr.frozen? ⟨g2, k * 2, none⟩ = false ∧ wr.frozen? ⟨g2, k * 2 + 1, none⟩ = false := ⟨hb.frozen _, hb.frozen _⟩
              obtain ⟨v, hv⟩ : ∃ t, t = evZ (poly.take i) x % bR := ⟨_, rfl⟩
              obtain ⟨v', hv'⟩ : ∃ t, t = evZ (poly.take (i + 1)) x % bR := ⟨_, rfl⟩
              obtain ⟨p, hp⟩ : ∃ t, t = x ^ i % bR := ⟨_, rfl⟩
              obtain ⟨p', hp'⟩ : ∃ t, t = x ^ (i + 1) % bR := ⟨_, rfl⟩
              have hpb : p < bR := by rw [hp]; exact Nat.mod_lt _ (by decide)
              rw [← hv, ← hv', ← hp] at e2
              rw [← hp, ← hp'] at e3
              rw [← hv] at z1 hb
              have c1 := fun W => MulRE co p (lt64_R hcb) (lt64_R hpb) W
              have c2 := fun W => AddRE v (mulM bR co p) W
              have c3 := fun W => MulRE p x (lt64_R hpb) (lt64_R HXB.out) W
              rw [e2] at c2
              rw [e3] at c3
              obtain ⟨mm, hmm⟩ : ∃ t, t = mulM bR co p := ⟨_, rfl⟩
              rw [← hmm] at c1 c2
              rw [← hp]
              have HV := Lib.hid hv'
              have HP := Lib.hid hp'
              have HB4 := Lib.hid hb
              have HBP4 := Lib.hid hbp
              have HX4 := Lib.hid hx
              have HI := Lib.hid hi
              clear hi hb hbp hx hco hcb hlt e1 e2 e3 hv hv' hp hp' hpb hmm
              go_wp2
              go_region_with (first
                | (go_at_call 28; refine (c1 _).mono ?_; clear c1; rintro e w3 ⟨rfl, x3⟩; have B3 := Lib.hid (ext_blk x3 (by first | exact HB4.out.drew | exact HB4.out | exact HB4.out.drewN _)); have P3 := Lib.hid (ext_blk x3 (by first | exact HBP4.out.drew | exact HBP4.out | exact HBP4.out.drewN _)); have y3 := (blk_row B3.out (HAT.out _)).2; have t3 := B3.out.frozen (k * 2 + 1))
                | (go_at_call 27; refine (c2 _).mono ?_; clear c2; rintro e w4 ⟨rfl, x4⟩; have B4 := Lib.hid (ext_blk x4 (by first | exact B3.out | exact B3.out.drew | exact B3.out.drewN _)); have P4 := Lib.hid (ext_blk x4 (by first | exact P3.out | exact P3.out.drew | exact P3.out.drewN _)); have y4 := (blk_row B4.out (HAT.out _)).2; have t4 := B4.out.frozen (k * 2 + 1)))
              all_goals (
                have b5 := B4.out.set_ (k * 2 + 1) (.int .u64 (v' : Int))
                rw [sv_set1 _ _ _ HLEN.out] at b5
                have p5 := P4.out.far (p := ⟨g2, k * 2 + 1, none⟩) HNE.out (.int .u64 (v' : Int))
                have x5 : Ext w (w4.setCell ⟨g2, k * 2 + 1, none⟩ (.int .u64 (v' : Int))) := ((HX4.out.drew.trans x3).trans x4).setCell (p := ⟨g2, k * 2 + 1, none⟩) HGG.out _
                have B5 := Lib.hid b5
                have P5 := Lib.hid p5
                have X5 := Lib.hid x5
                clear b5 p5 x5
                go_wp2_with (go_at_call 28; refine (c3 _).mono ?_; clear c3; rintro e w6 ⟨rfl, x6⟩)
                have hi := HI.out
                go_roundg (gk - 1))
              all_goals first
                | (case measure => omega)
                | (case rel => exact ⟨i + 1, by omega, int_congr (by omega), by rw [HP.out], by rw [← HV.out]; exact ext_blk x6 B5.out, ext_blk x6 P5.out, X5.out.trans x6⟩)
            · obtain rfl : i = j := by omega
              rw [List.take_of_length_le (by rw [HPL.out]; exact Nat.le_refl _)] at hb
              have HB5 := Lib.hid hb
              have HBP5 := Lib.hid hbp
              have HX5 := Lib.hid hx
              have e4 : sl.take (k + 1) = pre ++ [((k : Int) + 1, evZ poly x % bR)] := by rw [← HXK.out]; exact HE.out
              have HE4 := Lib.hid e4
              clear hi hb hbp hx e4
              go_wp2
              have hk := HK.out
              have hG := HG2.out
              go_roundg G
              case measure => omega
              case rel => exact ⟨k + 1, by omega, int_congr (by omega), by rw [HE4.out, List.append_assoc, ← HPOST.out]; exact HB5.out, HBP5.out, HX5.out⟩
        · obtain rfl : k = nn := by omega
          rw [List.take_of_length_le (by rw [HSL.out]; exact Nat.le_refl _), Nat.sub_self, List.replicate_zero, List.append_nil] at hb
          have hr' := blk_reads2 hb
          rw [HSL.out] at hr'
          have HRR := Lib.hid hr'
          have HX5 := Lib.hid hx
          clear hk hb hbp hx hr'
          go_wp2
          go_ret2
          exact ⟨_, _, rfl, Nat.le_refl _, by rw [← HSLQ.out]; exact HRR.out, HX5.out⟩
end Go.Proofs.Ytaibpldolbemfaa

/- Shares, walked: value and Split of the document; Split of whatever. -/
namespace Go.Proofs.Ytaibpldolbemfaa
set_option linter.unusedVariables false
open Go.RowKit Go.Shelf Go.Maps
attribute [local irreducible] atN prodN sumN wantN mix hSum hNum coefN evZ

theorem reads_uv {w : World} {B n : Nat} {A : Option Addr} {l : List Nat} (h : Reads w B 1 A n (uv l)) {k : Nat} {x : Nat} (hk : l[k]? = some x) : ∃ ad, A = some ad ∧ w.cell? (ad.add k) = some (.int .u64 (x : Int)) :=
  reads_word (l := l) h hk
theorem horner_drop {l : List Nat} {k c : Nat} (h : l[k]? = some c) (x : Nat) : addM bR (mulM bR (evZ (l.drop (k + 1)) x % bR) x) c = evZ (l.drop k) x % bR := by
  rw [horner_step, List.drop_eq_getElem_cons (List.getElem?_eq_some_iff.1 h).1, (List.getElem?_eq_some_iff.1 h).2]

set_option maxRecDepth 100000 in
set_option maxHeartbeats 2000000 in
theorem value_any (l : List Nat) (hl : ∀ c ∈ l, c < bR) (x : Nat) (hx : x < bR) (A : Option Addr) (c : Nat) (hn : l.length ≤ 7) (w : World) (hr : Reads w w.heap.size 1 A l.length (uv l)) :
    Calls Try.prog 37 #[.slice A l.length c, .int .u64 (x : Int)] w fun e w' => e = .returned (.int .u64 ((evZ l x % bR : Nat) : Int)) ∧ Ext w w' := by
  have hr0 : Hid (Reads w w.heap.size 1 A l.length (uv l)) := Lib.hid hr
  have HL := Lib.hid hl
  have HXX := Lib.hid hx
  clear hr hl hx
  have hn' : (l.length : Int) ≤ 7 := by omega
  go_enter Try.func37, Try.ntmps37
  go_wp2
  go_loopg [5, 6] l.length (fun m s5 s6 wr => m ≤ l.length ∧ s6 = .int .i64 ((m : Int) - 1) ∧ s5 = .int .u64 ((evZ (l.drop m) x % bR : Nat) : Int) ∧ Ext w wr)
  case atStart => exact ⟨Nat.le_refl _, int_congr (by omega), by rw [List.drop_length]; unfold evZ; rfl, Ext.refl w⟩
  case round =>
    obtain ⟨hm, rfl, rfl, hx⟩ := hrel
    rcases Nat.eq_zero_or_pos gk with h | h
    · subst h
      rw [List.drop_zero]
      have d0 : ((0 : Nat) : Int) - 1 = -1 := by omega
      rw [d0]
      have HX := Lib.hid hx
      clear hx hm
      go_wp2
      go_ret
      exact ⟨rfl, HX.out⟩
    · obtain ⟨j, rfl⟩ : ∃ j, gk = j + 1 := ⟨gk - 1, by omega⟩
      have d0 : ((j + 1 : Nat) : Int) - 1 = (j : Int) := by omega
      rw [d0]
      have hjl : (j : Int) < l.length := by omega
      obtain ⟨co, hs⟩ : ∃ s, l[j]? = some s := ⟨_, List.getElem?_eq_getElem (by omega)⟩
      obtain ⟨ad, rfl, q0⟩ := reads_uv (hr0.out.below hx.out) hs
      have e1 := horner_drop hs x
      have c1 := fun W => rMulR_any (evZ (l.drop (j + 1)) x % bR) x (lt64_R HXX.out) W
      have c2 := fun W => rAddR_any (mulM bR (evZ (l.drop (j + 1)) x % bR) x) co W
      rw [e1] at c2
      obtain ⟨mm, hmm⟩ : ∃ t, t = mulM bR (evZ (l.drop (j + 1)) x % bR) x := ⟨_, rfl⟩
      rw [← hmm] at c1 c2
      obtain ⟨v, hv⟩ : ∃ t, t = evZ (l.drop (j + 1)) x % bR := ⟨_, rfl⟩
      rw [← hv] at c1 ⊢
      obtain ⟨v', hv'⟩ : ∃ t, t = evZ (l.drop j) x % bR := ⟨_, rfl⟩
      rw [← hv'] at c2
      have HV := Lib.hid hv'
      have HX := Lib.hid hx
      have HM := Lib.hid hm
      clear hx hm e1 hs hmm hv hv' d0
      go_wp2
      go_region_with (first
        | (go_at_call 48; refine (c1 _).mono ?_; clear c1; rintro e w' ⟨rfl, rfl⟩)
        | (go_at_call 47; refine (c2 _).mono ?_; clear c2; rintro e w' ⟨rfl, rfl⟩))
      all_goals go_wp2
      all_goals go_roundg j
      all_goals first
        | (case measure => omega)
        | (case rel => exact ⟨by have := HM.out; omega, int_congr (by omega), by rw [HV.out], HX.out.drew⟩)
        | (case rel => exact ⟨by have := HM.out; omega, int_congr (by omega), by rw [HV.out], HX.out.drewN _⟩)
end Go.Proofs.Ytaibpldolbemfaa

/- Shares, walked: Split of the document; Split of whatever. -/
namespace Go.Proofs.Ytaibpldolbemfaa
set_option linter.unusedVariables false
open Go.RowKit Go.Shelf Go.Maps
attribute [local irreducible] atN prodN sumN wantN mix hSum hNum coefN evZ

set_option maxRecDepth 100000 in
set_option maxHeartbeats 4000000 in
theorem rSplit_ok (secret tn nn : Nat) (seed : List Nat) (h1 : 1 ≤ tn) (h2 : tn ≤ nn) (h3 : nn ≤ 7) (hs : secret < bR) (hseed : ∀ x ∈ seed, x < 256) (hl : seed.length ≤ 1000) (A : Option Addr) (c : Nat) (hc : seed.length ≤ c) (w : World) (hr : Reads w w.heap.size 1 A seed.length (bv seed)) :
    Calls Try.prog 14 #[.int .u64 (secret : Int), .int .i64 (tn : Int), .int .i64 (nn : Int), .slice A seed.length c] w fun e w' => ∃ A' c', e = .returned (.tuple #[.slice A' nn c', .int .i64 0]) ∧ nn ≤ c' ∧ Reads w' w'.heap.size 2 A' nn (sv (splitL secret tn nn seed)) ∧ Ext w w' := by
  obtain ⟨i0, hi, hz0, hz1, hz2⟩ := info_parts Try.infoU64
  obtain ⟨i1, hi1, hz3, hz4, hz5⟩ := info_parts Try.infoSh
  have z1 : ¬ (tn : Int) < 1 := by omega
  have z2 : ¬ (nn : Int) < (tn : Int) := by omega
  have z3 : ¬ (7 : Int) < (nn : Int) := by omega
  have z4 : decide ((1152921504606845789 : Int) ≤ (secret : Int)) = false := dec_nge (by unfold bR at hs; omega)
  have ht7 : tn ≤ 7 := by omega
  have HR := Lib.hid hr
  have HSD := Lib.hid hseed
  have HL := Lib.hid hl
  have HC := Lib.hid hc
  have HS := Lib.hid hs
  have H1 := Lib.hid h1
  clear hr hseed hl hc hs h1 h2
  go_enter Try.func14, Try.ntmps14
  go_wp2
  clear z1 z2 z4
  go_loopg [10, 11] tn (fun m s10 s11 wr => ∃ j : Nat, 1 ≤ j ∧ j + m = tn + 1 ∧ s11 = .int .i64 j ∧ wr.ownsRow w.heap.size 22 1 s10 ((polyN secret tn seed).take j).length (uv ((polyN secret tn seed).take j)) ∧ Ext w wr)
  case atStart =>
    refine ⟨1, Nat.le_refl _, by omega, rfl, ?_, (Ext.refl w).alloc _⟩
    have e : (polyN secret tn seed).take 1 = [secret] := by rw [List.take_add_one, polyN_at secret tn seed (by have := H1.out; omega)]; rfl
    rw [e]
    exact own_new w w.heap.size w.heap.size rfl (Nat.le_refl _) 22 (.int .u64 (secret : Int))
  case round =>
    obtain ⟨j, hj1, hj, rfl, hown, hx⟩ := hrel
    have hlen : ((polyN secret tn seed).take j).length ≤ 7 := by rw [List.length_take, polyN_length]; omega
    by_cases h : j < tn
    · have hjb : (j : Int) ≤ 7 := by omega
      have hjt : (j : Int) < tn := by omega
      have pa := polyN_at secret tn seed h
      rw [if_neg (by omega)] at pa
      have e1 : (polyN secret tn seed).take (j + 1) = (polyN secret tn seed).take j ++ [coefN seed j] := by rw [List.take_add_one, pa]; rfl
      obtain ⟨ta, tb, ha, hb', hnm, -, cT⟩ := TagShare seed HSD.out HL.out j (by omega)
      have cN := fun W => rNum_any ta tb bR (by decide) W
      rw [hnm, show bR = 1152921504606845789 from rfl] at cN
      simp only [Int.cast_ofNat_Int] at cN
      have kw : IntKind.u8.wrap (j : Int) = (j : Int) := by rw [IntKind.wrap_u8]; omega
      obtain ⟨co, hco⟩ : ∃ q, q = coefN seed j := ⟨_, rfl⟩
      rw [← hco] at cN e1
      obtain ⟨pre, hpre⟩ : ∃ q, q = (polyN secret tn seed).take j := ⟨_, rfl⟩
      rw [← hpre] at hlen e1 hown
      unfold shareS at cT
      have xV : Ext w (wr.alloc (.cells #[.int .u8 (j : Int)] 5)) := hx.alloc _
      have pT := fun T => parts_share (T := T) HC.out ((HR.out.below xV.out).more xV.size) (Nat.le_refl 1) (byte_reads wr 5 j)
      rw [World.size_alloc] at pT
      have cT1 := fun T => cT _ _ (pT T)
      have HP := Lib.hid xV
      have HE := Lib.hid e1
      have HX := Lib.hid hx
      have HJ := Lib.hid hj
      have HLEN := Lib.hid hlen
      clear ha hb' hnm hco cT pT xV hj hx pa e1 hlen hpre
      go_wp2_with (first
        | (go_at_call 36; refine (cT1 _).mono ?_; clear cT1; rintro e w2 ⟨rfl, x2⟩; have O2 := own_ext ((hown.alloc _).alloc _) x2; have X2 := Lib.hid ((HP.out.alloc _).trans x2))
        | (go_at_call 35; refine (cN _).mono ?_; clear cN; rintro e w3 ⟨rfl, x3⟩; have O3 := own_ext O2 x3; have X3 := Lib.hid (X2.out.trans x3))
        | (at_builtin; refine wpList_append_own _ rfl (.tmp 36) (.tmp 44) 52 rfl w.heap.size 22 i0 (.int .u64 0) 1 8 Try.underlying52 hi hz0 hz1 hz2 rfl (by decide) _ _ _ rfl (O3.alloc _) ⟨w3.heap.size, 0, none⟩ 1 1 [.int .u64 (co : Int)] rfl rfl (cell_one_new _ _ _) (by simp [Value.oneCell']) (by have := HLEN.out; simp only [maxLen]; omega) (by have := HLEN.out; omega) (by have := X3.out.size; simp; omega) ?_; intro v4 w4 hown4 hg4 _))
      have X4 := ext_grown (X3.out.alloc _) (O3.alloc _) hg4
      have O4 : Hid (w4.ownsRow w.heap.size 22 1 v4 ((polyN secret tn seed).take (j + 1)).length (uv ((polyN secret tn seed).take (j + 1)))) := by
        show World.ownsRow _ _ _ _ _ _ _
        rw [HE.out, List.length_append, uv_append]
        exact hown4
      clear hown4 hg4 O3 O2 hown
      have hj := HJ.out
      go_wp2
      go_roundg (gk - 1)
      case measure => omega
      case rel => exact ⟨j + 1, by omega, by omega, int_congr (by omega), O4.out, X4⟩
    · have hjt : ¬ (j : Int) < tn := by omega
      have e1 : (polyN secret tn seed).take j = polyN secret tn seed := List.take_of_length_le (by rw [polyN_length]; omega)
      rw [e1] at hown
      obtain ⟨wo, hwo⟩ : ∃ wo : World, wo = wr := ⟨_, rfl⟩
      rw [← hwo] at hown hx ⊢
      clear hwo
      obtain ⟨A', c', rfl, hc', hr'⟩ := own_slice hown
      have hpl := polyN_length secret tn seed
      have hpr := polyN_lt HS.out tn seed
      have hsp : ∀ k, k < nn → (splitL secret tn nn seed)[k]? = some (((k + 1 : Nat) : Int), evZ (polyN secret tn seed) (k + 1) % bR) := fun k hk => splitL_at secret tn nn seed hk
      have hsl := splitL_length secret tn nn seed
      obtain ⟨poly, hpoly⟩ : ∃ q, q = polyN secret tn seed := ⟨_, rfl⟩
      obtain ⟨sl, hslq⟩ : ∃ q, q = splitL secret tn nn seed := ⟨_, rfl⟩
      rw [← hpoly] at hpl hpr hsp hr' hc' ⊢
      rw [← hslq] at hsp hsl
      have HSLQ := Lib.hid hslq
      have HSP := Lib.hid hsp
      have HSL := Lib.hid hsl
      have HRP := Lib.hid hr'
      have HPL := Lib.hid hpl
      have HPR := Lib.hid hpr
      have HX := Lib.hid hx
      clear hown hr' hpl hpr hsp hsl hx hj hlen e1 hslq hpoly
      go_wp2
      go_loopg [12, 13] nn (fun m s12 s13 wz => ∃ k : Nat, k + m = nn ∧ s13 = .int .i64 ((k + 1 : Nat) : Int) ∧ wz.ownsRow wo.heap.size 43 2 s12 (sl.take k).length (sv (sl.take k)) ∧ Ext wo wz)
      case atStart => exact ⟨0, by omega, rfl, own_empty wo _ _ rfl (Nat.le_refl _) _ _, (Ext.refl wo).alloc _⟩
      case round =>
        obtain ⟨k, hk, rfl, hown, hx⟩ := hrel
        by_cases h' : k < nn
        · have e1 : sl.take (k + 1) = sl.take k ++ [(((k + 1 : Nat) : Int), evZ poly (k + 1) % bR)] := by rw [List.take_add_one, HSP.out k h']; rfl
          have hlen : (sl.take k).length ≤ 7 := by rw [List.length_take, HSL.out]; omega
          obtain ⟨x, hxk⟩ : ∃ x, x = k + 1 := ⟨_, rfl⟩
          rw [← hxk]
          have hxb : x < bR := by unfold bR; omega
          have hxn : (x : Int) ≤ nn := by omega
          have hn7 : (nn : Int) ≤ 7 := by omega
          have kx : IntKind.u64.wrap (x : Int) = (x : Int) := by rw [IntKind.wrap_u64]; omega
          have cv := fun (W : World) (xW : Ext wo W) => value_any poly HPR.out x hxb A' c' (by rw [HPL.out]; exact ht7) W ((HRP.out.below xW.out).more xW.size)
          have e2 : sl.take x = sl.take k ++ [((x : Int), evZ poly x % bR)] := by rw [hxk]; exact e1
          obtain ⟨v, hv⟩ : ∃ t, t = evZ poly x % bR := ⟨_, rfl⟩
          rw [← hv] at cv e2
          obtain ⟨pre, hpre⟩ : ∃ q, q = sl.take k := ⟨_, rfl⟩
          rw [← hpre] at hlen e2 hown
          have HE := Lib.hid e2
          have HX2 := Lib.hid hx
          have HK := Lib.hid hk
          have HLEN := Lib.hid hlen
          have HXK := Lib.hid hxk
          clear e1 e2 hx hk hlen hxk hxb hv hpre
          go_wp2_with (first
            | (go_at_call 37; refine (cv _ HX2.out).mono ?_; clear cv; rintro e w2 ⟨rfl, x2⟩; have O2 := own_ext hown x2; have X2 := Lib.hid (HX2.out.trans x2))
            | (at_builtin; refine wpList_append_own _ rfl (.tmp 52) (.tmp 59) 24 rfl wo.heap.size 43 i1 (.agg #[.int .i64 0, .int .u64 0]) 2 16 Try.underlying24 hi1 hz3 hz4 hz5 rfl (by decide) _ _ _ rfl (O2.alloc _) ⟨w2.heap.size, 0, none⟩ 1 1 [.int .i64 (x : Int), .int .u64 (v : Int)] rfl rfl (cell_two_new _ _ _ _) (by simp [Value.oneCell']) (by have := HLEN.out; simp only [maxLen]; omega) (by have := HLEN.out; omega) (by have := X2.out.size; simp; omega) ?_; intro v4 w4 hown4 hg4 _))
          have X4 := ext_grown (X2.out.alloc _) (O2.alloc _) hg4
          have O4 : Hid (w4.ownsRow wo.heap.size 43 2 v4 (sl.take (k + 1)).length (sv (sl.take (k + 1)))) := by
            show World.ownsRow _ _ _ _ _ _ _
            rw [← HXK.out, HE.out, List.length_append, sv_append]
            exact hown4
          clear hown4 hg4 O2 hown
          have hk := HK.out
          have hxk := HXK.out
          go_wp2
          go_roundg (gk - 1)
          case measure => omega
          case rel => exact ⟨k + 1, by omega, int_congr (by omega), O4.out, X4⟩
        · have hkk : ¬ (((k + 1 : Nat)) : Int) ≤ (nn : Int) := by omega
          obtain rfl : k = nn := by omega
          rw [List.take_of_length_le (by rw [HSL.out]; exact Nat.le_refl _)] at hown
          rw [HSL.out] at hown
          obtain ⟨A2, c2, rfl, hc2, hr2⟩ := own_slice2 hown
          have HRR := Lib.hid hr2
          have HX5 := Lib.hid (HX.out.trans hx)
          clear hown hr2 hx hk
          go_wp2
          go_ret2
          exact ⟨_, _, rfl, hc2, by rw [← HSLQ.out]; exact HRR.out, HX5.out⟩
end Go.Proofs.Ytaibpldolbemfaa

/- Shares, walked: Split of whatever; the chapter's examples. Printed by gen_sh14.py. -/
namespace Go.Proofs.Ytaibpldolbemfaa
set_option linter.unusedVariables false
open Go.RowKit Go.Shelf Go.Maps
attribute [local irreducible] atN prodN sumN wantN mix hSum hNum coefN evZ

set_option maxRecDepth 100000 in
set_option maxHeartbeats 2000000 in
theorem Split_any (secret : Nat) (t n : Int) (seed : List Nat) (hseed : ∀ x ∈ seed, x < 256) (hl : seed.length ≤ 1000) (A : Option Addr) (c : Nat) (hc : seed.length ≤ c) (w : World) (hr : Reads w w.heap.size 1 A seed.length (bv seed)) :
    Calls Try.prog 13 #[.int .u64 (secret : Int), .int .i64 t, .int .i64 n, .slice A seed.length c] w fun e w' => ∃ A' c', e = .returned (.tuple #[.slice A' (spO secret t n seed).length c', .int .i64 (spE secret t n : Nat)]) ∧ (spO secret t n seed).length ≤ c' ∧ Reads w' w'.heap.size 2 A' (spO secret t n seed).length (sv (spO secret t n seed)) ∧ Ext w w' := by
  by_cases hb : spB secret t n = true
  · obtain ⟨h1, h2, h3, h4⟩ := of_decide_eq_true hb
    have e1 : spO secret t n seed = splitL secret t.toNat n.toNat seed := by unfold spO; rw [if_pos hb]
    have e2 : spE secret t n = 0 := by unfold spE; rw [if_pos hb]
    obtain ⟨tn, rfl⟩ : ∃ q : Nat, t = q := ⟨t.toNat, by omega⟩
    obtain ⟨nn, rfl⟩ : ∃ q : Nat, n = q := ⟨n.toNat, by omega⟩
    rw [e1, e2, splitL_length, Int.toNat_natCast, Int.toNat_natCast]
    exact Split_ok secret tn nn seed (by omega) (by omega) (by omega) h4 hseed hl A c hc w hr
  · have e1 : spO secret t n seed = [] := by unfold spO; rw [if_neg hb]
    have e2 : spE secret t n = 1 := by unfold spE; rw [if_neg hb]
    rw [e1, e2]
    have x0 := Ext.refl w
    by_cases h1 : t < 1
    · clear hr hseed hl hc hb e1 e2
      go_enter Try.func13, Try.ntmps13
      go_wp2
      go_ret2
      first | exact ⟨none, ⟨0, rfl⟩, Reads.none_, x0⟩ | exact ⟨none, 0, rfl, Nat.le_refl _, Reads.none_, x0⟩
    by_cases h2 : n < t
    · clear hr hseed hl hc hb e1 e2
      go_enter Try.func13, Try.ntmps13
      go_wp2
      go_ret2
      first | exact ⟨none, ⟨0, rfl⟩, Reads.none_, x0⟩ | exact ⟨none, 0, rfl, Nat.le_refl _, Reads.none_, x0⟩
    by_cases h3 : 7 < n
    · clear hr hseed hl hc hb e1 e2
      go_enter Try.func13, Try.ntmps13
      go_wp2
      go_ret2
      first | exact ⟨none, ⟨0, rfl⟩, Reads.none_, x0⟩ | exact ⟨none, 0, rfl, Nat.le_refl _, Reads.none_, x0⟩
    · have h4 : bR ≤ secret := Nat.le_of_not_lt fun h => hb (decide_eq_true ⟨by omega, by omega, by omega, h⟩)
      have d1 : decide ((secret : Int) ≥ 1152921504606845789) = true := dec_ge (by unfold bR at h4; omega)
      have d2 : (1152921504606845789 : Int) ≤ (secret : Int) := by unfold bR at h4; omega
      clear hr hseed hl hc hb e1 e2 h4
      go_enter Try.func13, Try.ntmps13
      go_wp2
      go_ret2
      first | exact ⟨none, ⟨0, rfl⟩, Reads.none_, x0⟩ | exact ⟨none, 0, rfl, Nat.le_refl _, Reads.none_, x0⟩

set_option maxRecDepth 100000 in
set_option maxHeartbeats 2000000 in
theorem rSplit_any (secret : Nat) (t n : Int) (seed : List Nat) (hseed : ∀ x ∈ seed, x < 256) (hl : seed.length ≤ 1000) (A : Option Addr) (c : Nat) (hc : seed.length ≤ c) (w : World) (hr : Reads w w.heap.size 1 A seed.length (bv seed)) :
    Calls Try.prog 14 #[.int .u64 (secret : Int), .int .i64 t, .int .i64 n, .slice A seed.length c] w fun e w' => ∃ A' c', e = .returned (.tuple #[.slice A' (spO secret t n seed).length c', .int .i64 (spE secret t n : Nat)]) ∧ (spO secret t n seed).length ≤ c' ∧ Reads w' w'.heap.size 2 A' (spO secret t n seed).length (sv (spO secret t n seed)) ∧ Ext w w' := by
  by_cases hb : spB secret t n = true
  · obtain ⟨h1, h2, h3, h4⟩ := of_decide_eq_true hb
    have e1 : spO secret t n seed = splitL secret t.toNat n.toNat seed := by unfold spO; rw [if_pos hb]
    have e2 : spE secret t n = 0 := by unfold spE; rw [if_pos hb]
    obtain ⟨tn, rfl⟩ : ∃ q : Nat, t = q := ⟨t.toNat, by omega⟩
    obtain ⟨nn, rfl⟩ : ∃ q : Nat, n = q := ⟨n.toNat, by omega⟩
    rw [e1, e2, splitL_length, Int.toNat_natCast, Int.toNat_natCast]
    exact rSplit_ok secret tn nn seed (by omega) (by omega) (by omega) h4 hseed hl A c hc w hr
  · have e1 : spO secret t n seed = [] := by unfold spO; rw [if_neg hb]
    have e2 : spE secret t n = 1 := by unfold spE; rw [if_neg hb]
    rw [e1, e2]
    have x0 := Ext.refl w
    by_cases h1 : t < 1
    · clear hr hseed hl hc hb e1 e2
      go_enter Try.func14, Try.ntmps14
      go_wp2
      go_ret2
      first | exact ⟨none, ⟨0, rfl⟩, Reads.none_, x0⟩ | exact ⟨none, 0, rfl, Nat.le_refl _, Reads.none_, x0⟩
    by_cases h2 : n < t
    · clear hr hseed hl hc hb e1 e2
      go_enter Try.func14, Try.ntmps14
      go_wp2
      go_ret2
      first | exact ⟨none, ⟨0, rfl⟩, Reads.none_, x0⟩ | exact ⟨none, 0, rfl, Nat.le_refl _, Reads.none_, x0⟩
    by_cases h3 : 7 < n
    · clear hr hseed hl hc hb e1 e2
      go_enter Try.func14, Try.ntmps14
      go_wp2
      go_ret2
      first | exact ⟨none, ⟨0, rfl⟩, Reads.none_, x0⟩ | exact ⟨none, 0, rfl, Nat.le_refl _, Reads.none_, x0⟩
    · have h4 : bR ≤ secret := Nat.le_of_not_lt fun h => hb (decide_eq_true ⟨by omega, by omega, by omega, h⟩)
      have d1 : decide ((secret : Int) ≥ 1152921504606845789) = true := dec_ge (by unfold bR at h4; omega)
      have d2 : (1152921504606845789 : Int) ≤ (secret : Int) := by unfold bR at h4; omega
      clear hr hseed hl hc hb e1 e2 h4
      go_enter Try.func14, Try.ntmps14
      go_wp2
      go_ret2
      first | exact ⟨none, ⟨0, rfl⟩, Reads.none_, x0⟩ | exact ⟨none, 0, rfl, Nat.le_refl _, Reads.none_, x0⟩
end Go.Proofs.Ytaibpldolbemfaa

/- Plain: what follows of shares (back, hides, sums, public, spoilt, ones). No walk here. -/
namespace Go.Proofs.Ytaibpldolbemfaa
set_option linter.unusedVariables false
attribute [local irreducible] mix hSum hNum coefN

def idOf (s : Int × Nat) : Int := s.1
theorem may_of {L : List (Int × Nat)} (h0 : 0 < L.length) (h7 : L.length ≤ 7) (hr : ∀ s ∈ L, (1 ≤ s.1 ∧ s.1 < 1152921504606845789) ∧ s.2 < bR) (hn : (L.map fun s : Int × Nat => s.1).Nodup) : mayB L = true := by
  rw [mayB_eq, Bool.and_eq_true]
  refine ⟨List.all_eq_true.2 fun s hs => by simpa using (hr s hs).2, (rightB_iff _).2 ⟨⟨fun i hi => ?_, hn⟩, by simpa using h0, by simpa using h7⟩⟩
  obtain ⟨s, hs, rfl⟩ := List.mem_map.1 hi
  exact (hr s hs).1
theorem ok_of_may {L : List (Int × Nat)} (h : mayB L = true) : okP (L.map fun s : Int × Nat => s.1) := by
  rw [mayB_eq, Bool.and_eq_true] at h
  exact ((rightB_iff _).1 h.2).1
/-- Shares on a polynomial make what it is at 0. -/
theorem join_on {L : List (Int × Nat)} (h : mayB L = true) {P : Int → Int} (hP : Pd bR L.length P) (hL : ∀ s ∈ L, Cg bR (s.2 : Int) (P s.1)) {v : Nat} (hv : v < bR) (h0 : Cg bR (v : Int) (P 0)) : sumN (L.map fun s : Int × Nat => s.1) 0 L = v :=
  eq_of_cg (sumN_lt _ _ _) hv ((sum_poly L (ok_of_may h) P hP hL 0).trans h0.symm)
theorem joinR_on {L : List (Int × Nat)} (h : mayB L = true) {P : Int → Int} (hP : Pd bR L.length P) (hL : ∀ s ∈ L, Cg bR (s.2 : Int) (P s.1)) {v : Nat} (hv : v < bR) (h0 : Cg bR (v : Int) (P 0)) : joinR L = .tuple #[.int .u64 (v : Int), .int .i64 0] := by
  have h7 := may_facts h
  have hne : L.length ≠ 0 := by
    intro he
    have := (rightB_iff _).1 h7.1
    rw [List.length_map] at this
    omega
  rw [joinR_ok hne h, join_on h hP hL hv h0]

/-- A share of a polynomial. -/
def OnP (poly : List Nat) (s : Int × Nat) : Prop := (1 ≤ s.1 ∧ s.1 ≤ 7) ∧ s.2 = evZ poly s.1.toNat % bR
theorem OnP.cg {poly : List Nat} {s : Int × Nat} (h : OnP poly s) : Cg bR (s.2 : Int) (evI poly s.1) := by
  obtain ⟨h1, h2⟩ := h
  rw [h2]
  have e : evI poly s.1 = (evZ poly s.1.toNat : Nat) := by rw [← evI_cast]; congr 1; omega
  rw [e]
  exact cg_mod _ _
theorem OnP.range {poly : List Nat} {s : Int × Nat} (h : OnP poly s) : (1 ≤ s.1 ∧ s.1 < 1152921504606845789) ∧ s.2 < bR := by
  obtain ⟨h1, h2⟩ := h
  refine ⟨by omega, ?_⟩
  rw [h2]
  exact Nat.mod_lt _ (by decide)
theorem split_onP {secret tn nn : Nat} {seed : List Nat} (h7 : nn ≤ 7) : ∀ s ∈ splitL secret tn nn seed, OnP (polyN secret tn seed) s := by
  intro s hs
  obtain ⟨k, hk, rfl⟩ := List.mem_map.1 hs
  rw [List.mem_range] at hk
  refine ⟨by dsimp only; omega, ?_⟩
  show _ = evZ _ (((k + 1 : Nat) : Int)).toNat % bR
  rw [Int.toNat_natCast]
theorem split_ids {secret tn nn : Nat} {seed : List Nat} : (splitL secret tn nn seed).map (fun s : Int × Nat => s.1) = (List.range nn).map fun k => ((k + 1 : Nat) : Int) := by
  simp [splitL, List.map_map]
theorem split_nodup {secret tn nn : Nat} {seed : List Nat} : ((splitL secret tn nn seed).map fun s : Int × Nat => s.1).Nodup := by
  rw [split_ids]
  exact List.Pairwise.map _ (fun a b (h : a ≠ b) e => h (by have : ((a + 1 : Nat) : Int) = ((b + 1 : Nat) : Int) := e; omega)) List.nodup_range
theorem poly_zero {secret tn : Nat} {seed : List Nat} (h : 1 ≤ tn) : evI (polyN secret tn seed) 0 = secret := by
  obtain ⟨k, rfl⟩ : ∃ k, tn = k + 1 := ⟨tn - 1, by omega⟩
  unfold polyN
  rw [List.range_succ_eq_map, List.map_cons]
  show ((if 0 = 0 then secret else coefN seed 0 : Nat) : Int) + 0 * _ = _
  rw [if_pos rfl]; omega
theorem poly_pd (secret tn : Nat) (seed : List Nat) {k : Nat} (h : tn ≤ k) : Pd bR k (evI (polyN secret tn seed)) := by
  have := evI_pd bR (polyN secret tn seed)
  rw [polyN_length] at this
  exact this.le h
/-- As many as are enough make the secret. -/
theorem join_split {secret tn : Nat} {seed : List Nat} (h1 : 1 ≤ tn) (hs : secret < bR) {L : List (Int × Nat)} (hL : ∀ s ∈ L, OnP (polyN secret tn seed) s) (hn : (L.map fun s : Int × Nat => s.1).Nodup) (ht : tn ≤ L.length) (h7 : L.length ≤ 7) :
    joinR L = .tuple #[.int .u64 (secret : Int), .int .i64 0] :=
  joinR_on (may_of (by omega) h7 (fun s hs => (hL s hs).range) hn) (poly_pd secret tn seed ht) (fun s hs => (hL s hs).cg) hs (Cg.of_eq (poly_zero h1).symm)

/-! ### some of them -/
def pickL (l : List (Int × Nat)) (f n : Nat) : List (Int × Nat) := (List.range n).map fun i => l.getD ((f + i) % l.length) (0, 0)
def someL (l : List (Int × Nat)) (f n : Nat) (turned : Bool) : List (Int × Nat) := if turned then (pickL l f n).reverse else pickL l f n
theorem pickL_length (l : List (Int × Nat)) (f n : Nat) : (pickL l f n).length = n := by simp [pickL]
theorem someL_length (l : List (Int × Nat)) (f n : Nat) (t : Bool) : (someL l f n t).length = n := by unfold someL; split <;> simp [pickL_length]
theorem pickL_succ (l : List (Int × Nat)) (f n : Nat) : pickL l f (n + 1) = pickL l f n ++ [l.getD ((f + n) % l.length) (0, 0)] := by simp [pickL, List.range_succ]
theorem someL_succ_f (l : List (Int × Nat)) (f n : Nat) : someL l f (n + 1) false = someL l f n false ++ [l.getD ((f + n) % l.length) (0, 0)] := pickL_succ l f n
theorem someL_succ_t (l : List (Int × Nat)) (f n : Nat) : someL l f (n + 1) true = l.getD ((f + n) % l.length) (0, 0) :: someL l f n true := by
  show (pickL l f (n + 1)).reverse = _
  rw [pickL_succ, List.reverse_append]; rfl
theorem mem_pick {l : List (Int × Nat)} (h : 0 < l.length) {f n : Nat} {s : Int × Nat} (hs : s ∈ pickL l f n) : s ∈ l := by
  obtain ⟨i, -, rfl⟩ := List.mem_map.1 hs
  have hlt : (f + i) % l.length < l.length := Nat.mod_lt _ h
  rw [List.getD_eq_getElem?_getD, List.getElem?_eq_getElem hlt]
  exact List.getElem_mem hlt
theorem mem_some {l : List (Int × Nat)} (h : 0 < l.length) {f n : Nat} {t : Bool} {s : Int × Nat} (hs : s ∈ someL l f n t) : s ∈ l := by
  unfold someL at hs
  split at hs
  · exact mem_pick h (List.mem_reverse.1 hs)
  · exact mem_pick h hs
theorem mod_inj {f i j n : Nat} (hi : i < n) (hj : j < n) (h : (f + i) % n = (f + j) % n) : i = j := by
  have e1 := Nat.div_add_mod (f + i) n
  have e2 := Nat.div_add_mod (f + j) n
  rw [h] at e1
  have hr := Nat.mod_lt (f + j) (show 0 < n by omega)
  obtain ⟨a, ha⟩ : ∃ a, a = (f + i) / n := ⟨_, rfl⟩
  obtain ⟨b, hb⟩ : ∃ a, a = (f + j) / n := ⟨_, rfl⟩
  rw [← ha] at e1
  rw [← hb] at e2
  rcases Nat.lt_trichotomy a b with hlt | rfl | hlt
  · have := Nat.mul_le_mul_left n (show a + 1 ≤ b from hlt)
    rw [Nat.mul_add, Nat.mul_one] at this
    omega
  · omega
  · have := Nat.mul_le_mul_left n (show b + 1 ≤ a from hlt)
    rw [Nat.mul_add, Nat.mul_one] at this
    omega
theorem nodup_inj {l : List Int} (h : l.Nodup) {i j : Nat} {x : Int} (hi : l[i]? = some x) (hj : l[j]? = some x) : i = j := by
  induction l generalizing i j with
  | nil => cases hi
  | cons a l ih =>
    rw [List.nodup_cons] at h
    cases i with
    | zero =>
      cases j with
      | zero => rfl
      | succ j =>
        rw [List.getElem?_cons_zero] at hi
        rw [List.getElem?_cons_succ] at hj
        cases hi
        exact absurd (List.mem_of_getElem? hj) h.1
    | succ i =>
      cases j with
      | zero =>
        rw [List.getElem?_cons_zero] at hj
        rw [List.getElem?_cons_succ] at hi
        cases hj
        exact absurd (List.mem_of_getElem? hi) h.1
      | succ j =>
        rw [List.getElem?_cons_succ] at hi hj
        rw [ih h.2 hi hj]
theorem nodup_rev {l : List Int} (h : l.Nodup) : l.reverse.Nodup := by
  unfold List.Nodup at *
  rw [List.pairwise_reverse]
  exact h.imp fun {a b} hne => Ne.symm hne
theorem pick_nodup {l : List (Int × Nat)} (hn : (l.map fun s : Int × Nat => s.1).Nodup) {f n : Nat} (h : n ≤ l.length) : ((pickL l f n).map fun s : Int × Nat => s.1).Nodup := by
  unfold pickL
  rw [List.map_map]
  refine List.Pairwise.map _ (R := fun a b => a ≠ b ∧ a < n ∧ b < n) (fun a b hab e => ?_) ?_
  · obtain ⟨hne, ha, hb⟩ := hab
    have hl : 0 < l.length := by omega
    have hla : (f + a) % l.length < l.length := Nat.mod_lt _ hl
    have hlb : (f + b) % l.length < l.length := Nat.mod_lt _ hl
    have e1 : (l.map fun s : Int × Nat => s.1)[(f + a) % l.length]? = some (l.getD ((f + a) % l.length) (0, 0)).1 := by
      rw [List.getElem?_map, List.getD_eq_getElem?_getD, List.getElem?_eq_getElem hla]; rfl
    have e2 : (l.map fun s : Int × Nat => s.1)[(f + b) % l.length]? = some (l.getD ((f + b) % l.length) (0, 0)).1 := by
      rw [List.getElem?_map, List.getD_eq_getElem?_getD, List.getElem?_eq_getElem hlb]; rfl
    have e' : (l.getD ((f + a) % l.length) (0, 0)).1 = (l.getD ((f + b) % l.length) (0, 0)).1 := e
    rw [← e'] at e2
    exact hne (mod_inj (by omega) (by omega) (nodup_inj hn e1 e2))
  · exact List.Pairwise.imp_of_mem (fun {a b} ha hb h => ⟨h, List.mem_range.1 ha, List.mem_range.1 hb⟩) List.nodup_range
theorem some_nodup {l : List (Int × Nat)} (hn : (l.map fun s : Int × Nat => s.1).Nodup) {f n : Nat} {t : Bool} (h : n ≤ l.length) : ((someL l f n t).map fun s : Int × Nat => s.1).Nodup := by
  unfold someL
  split
  · rw [List.map_reverse]; exact nodup_rev (pick_nodup hn h)
  · exact pick_nodup hn h
/-- The stage's theorem. -/
theorem back_plain {secret tn nn : Nat} {seed : List Nat} (h1 : 1 ≤ tn) (h2 : tn ≤ nn) (h7 : nn ≤ 7) (hs : secret < bR) (f k : Nat) (t : Bool) (hk : tn ≤ k) (hkn : k ≤ nn) :
    joinR (someL (splitL secret tn nn seed) f k t) = .tuple #[.int .u64 (secret : Int), .int .i64 0] :=
  join_split h1 hs (fun s hs => split_onP h7 s (mem_some (by rw [splitL_length]; omega) hs)) (some_nodup split_nodup (by rw [splitL_length]; exact hkn)) (by rw [someL_length]; exact hk) (by rw [someL_length]; omega)
end Go.Proofs.Ytaibpldolbemfaa
