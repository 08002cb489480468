/- Parts of the proofs, put together: Sh9, HaNum, SiMath, SiB, HaRefN, HaOfS, HaRefOf, HaRef, HaRefMix. -/
import Derived.Deep.LoopGhost
import Derived.Deep.RegionHeld3
import Derived.StillTailTactics
import Derived.Test.YtaibpldolbemfaaG1
import Derived.Test.YtaibpldolbemfaaG2
import Derived.Test.YtaibpldolbemfaaG3
import Derived.Test.YtaibpldolbemfaaG4
import Derived.Test.YtaibpldolbemfaaG5
import Derived.Test.YtaibpldolbemfaaG6
/- Shares, walked: Check of the document. -/
namespace Go.Proofs.Ytaibpldolbemfaa
set_option linter.unusedVariables false
open Go.RowKit Go.Shelf Go.Maps
attribute [local irreducible] atN prodN sumN wantN

set_option maxRecDepth 100000 in
set_option maxHeartbeats 4000000 in
theorem rCheck_any (t : Int) (l : List (Int × Nat)) (hX : ∀ s ∈ l, s.2 < 18446744073709551616) (A : Option Addr) (c : Nat) (hc : l.length ≤ c) (hn : l.length ≤ 1099511627776) (w : World) (hr : Reads w w.heap.size 2 A l.length (sv l)) :
    Calls Try.prog 23 #[.int .i64 t, .slice A l.length c] w fun e w' => e = .returned (.int .i64 (chkN t l : Nat)) ∧ Ext w w' := by
  have x0 := Ext.refl w
  by_cases t1 : t < 1
  · rw [chk_low t1]
    clear hr hX hn hc
    go_enter Try.func23, Try.ntmps23
    go_wp2
    go_ret
    exact ⟨rfl, x0⟩
  by_cases t7 : 7 < t
  · rw [chk_high t7]
    clear hr hX hn hc
    go_enter Try.func23, Try.ntmps23
    go_wp2
    go_ret
    exact ⟨rfl, x0⟩
  by_cases hl0 : l.length = 0
  · have hl := List.eq_nil_of_length_eq_zero hl0
    subst hl
    rw [chk_few (l := []) (by omega) (by omega) (.inl rfl) rfl (by simp; omega)]
    clear hr hX hn hc hl0
    go_enter Try.func23, Try.ntmps23
    go_wp2
    go_loopg [5] 0 (fun m s5 wr => m = 0 ∧ s5 = .int .i64 0 ∧ Ext w wr)
    case atStart => exact ⟨rfl, rfl, x0⟩
    case round =>
      obtain ⟨-, rfl, hx⟩ := hrel
      go_wp2
      go_ret
      exact ⟨rfl, hx⟩
  have d0 : (0 : Int) < (l.length : Int) := by omega
  have cm := Ids_any l A c hn w hr
  have cr := fun (W : World) A' c' (hr : Reads W W.heap.size 1 A' (l.map fun s : Int × Nat => s.1).length (iv (l.map fun s : Int × Nat => s.1))) => Right_any (l.map fun s : Int × Nat => s.1) A' c' (by rw [List.length_map]; exact hn) W hr
  rw [List.length_map] at cr
  cases hri : rightB (l.map fun s : Int × Nat => s.1) with
  | false =>
    rw [hri] at cr
    rw [chk_ids (by omega) hri]
    clear hr hX hn hri hc hl0
    go_enter Try.func23, Try.ntmps23
    go_wp2_with (first
      | (go_at_call 25; refine cm.mono ?_; clear cm; rintro e w1 ⟨A', c', rfl, _, r1, x1⟩)
      | (go_at_call 41; refine (cr _ _ _ r1).mono ?_; clear cr; rintro e w2 ⟨rfl, x2⟩))
    go_ret
    exact ⟨rfl, x1.trans x2⟩
  | true =>
    rw [hri] at cr
    have hr0 : Hid (Reads w w.heap.size 2 A l.length (sv l)) := Lib.hid hr
    have HXL := Lib.hid hX
    have HN := Lib.hid hn
    have HC := Lib.hid hc
    have HR := Lib.hid hri
    have HT1 := Lib.hid t1
    have HT7 := Lib.hid t7
    have HL0 := Lib.hid hl0
    clear hr hX hn hri hc hl0
    go_enter Try.func23, Try.ntmps23
    go_wp2_with (first
      | (go_at_call 25; refine cm.mono ?_; clear cm; rintro e w1 ⟨A', c', rfl, _, r1, x1⟩)
      | (go_at_call 41; refine (cr _ _ _ r1).mono ?_; clear cr; rintro e w2 ⟨rfl, x2⟩))
    have X2 := Lib.hid (x1.trans x2)
    clear x1 x2 r1 d0 x0 t1 t7
    go_loopg [5] l.length (fun m s5 wr => ∃ j : Nat, j + m = l.length ∧ s5 = .int .i64 j ∧ allIn (l.take j) = true ∧ Ext w wr)
    case atStart => exact ⟨0, by omega, rfl, rfl, X2.out⟩
    case round =>
      obtain ⟨j, hj, rfl, hok, hx⟩ := hrel
      have hjm : l.length ≤ 7 := by have := (right_range HR.out).2; rwa [List.length_map] at this
      by_cases h : j < l.length
      · obtain ⟨s, hs⟩ : ∃ s, l[j]? = some s := ⟨_, List.getElem?_eq_getElem h⟩
        obtain ⟨ad, rfl, hlt, q0, q1⟩ := reads_share (hr0.out.below hx.out) hs
        have hjb : (j : Int) ≤ 7 := by omega
        have ci := fun W => rIn_any s.2 (HXL.out s (List.mem_of_getElem? hs)) W
        have HX := Lib.hid hx
        have HJ := Lib.hid hj
        cases hb : inB s.2 with
        | false =>
          have k := chk_out (t := t) (List.mem_of_getElem? hs) hb
          rw [hb] at ci
          have HK := Lib.hid k
          clear hx hj hok hs k hb hjm
          go_wp2_with (go_at_call 52; refine (ci _).mono ?_; clear ci; rintro e w3 ⟨rfl, rfl⟩)
          go_ret
          exact ⟨by rw [HK.out]; rfl, HX.out⟩
        | true =>
          have hok' := Lib.hid (all_take (f := fun s : Int × Nat => inB s.2) hs hb hok)
          rw [hb] at ci
          clear hx hj hok hs hb hjm
          go_wp2_with (go_at_call 52; refine (ci _).mono ?_; clear ci; rintro e w3 ⟨rfl, rfl⟩)
          have hj := HJ.out
          go_roundg (gk - 1)
          case measure => omega
          case rel => exact ⟨j + 1, by omega, int_congr (by omega), hok'.out, HX.out⟩
      · obtain rfl : j = l.length := by omega
        rw [List.take_length] at hok
        by_cases hlt : (l.length : Int) < t
        · have k := chk_few (t := t) (l := l) (by have := HT1.out; omega) (by have := HT7.out; omega) (.inr HR.out) hok hlt
          have HK := Lib.hid k
          have HX := Lib.hid hx
          clear hx hj hok k hjm
          go_wp2
          go_ret
          exact ⟨by rw [HK.out]; rfl, HX.out⟩
        · have hin : ∀ s ∈ l, inB s.2 = true := fun s hs => List.all_eq_true.1 hok s hs
          have k := chk_rest (t := t) (l := l) (by have := HT1.out; omega) (by have := HT7.out; omega) HR.out hok hlt
          obtain ⟨tn, rfl⟩ : ∃ n : Nat, t = n := ⟨t.toNat, by have := HT1.out; omega⟩
          rw [show ((tn : Nat) : Int).toNat = tn from Int.toNat_natCast tn] at k
          have hk : tn ≤ l.length := by omega
          obtain ⟨A1, e1, r1⟩ := first_reads hr0.out hk HC.out
          have s1 : ∀ W : World, (Instr.slice 24 (.slice A l.length c) none (some (.int .i64 (tn : Int))) none).run Try.prog W = .ok (.slice A1 (l.take tn).length c) W := fun W => by rw [slice_hS A l.length c tn (Nat.le_trans hk HC.out), e1]
          obtain ⟨fl, hfl⟩ : ∃ q, q = l.take tn := ⟨_, rfl⟩
          obtain ⟨rl, hrl⟩ : ∃ q, q = l.drop tn := ⟨_, rfl⟩
          have hrange : ∀ s ∈ l, (1 ≤ s.1 ∧ s.1 < 1152921504606845789) ∧ inB s.2 = true := fun s hs => ⟨(right_range HR.out).1 _ (List.mem_map.2 ⟨s, hs, rfl⟩), hin s hs⟩
          have hf7 : fl.length = tn := by rw [hfl, List.length_take]; omega
          have hrle : tn + rl.length = l.length := by rw [hrl, List.length_drop]; omega
          have hfa : ∀ i, i < tn → fl[i]? = l[i]? := fun i hi => by rw [hfl, List.getElem?_take, if_pos hi]
          have hra : ∀ i, rl[i]? = l[tn + i]? := fun i => by rw [hrl, List.getElem?_drop]
          rw [← hfl] at s1 r1 k
          rw [← hrl] at k
          obtain ⟨ids, hids⟩ : ∃ q, q = fl.map fun s : Int × Nat => s.1 := ⟨_, rfl⟩
          have hil : ids.length = fl.length := by rw [hids, List.length_map]
          have gr : ∀ i ∈ ids, 1 ≤ i ∧ i < 1152921504606845789 := fun i hi => by
            rw [hids] at hi
            obtain ⟨s, hs, rfl⟩ := List.mem_map.1 hi
            rw [hfl] at hs
            exact (hrange s (List.mem_of_mem_take hs)).1
          have hia : ∀ (i : Nat) (s : Int × Nat), fl[i]? = some s → ids[i]? = some s.1 := fun i s h => by rw [hids, List.getElem?_map, h]; rfl
          rw [← hids] at k
          have cmf := fun (W : World) (x : Ext w W) => Ids_any fl A1 c (by omega) W ((r1.below x.out).more x.size)
          rw [← hids] at cmf
          have ca := fun A' c' (W : World) (x : Nat) id hid (hr' : Reads W W.heap.size 1 A' ids.length (iv ids)) => at_any ids gr id hid x A' c' W (by rw [hil, hf7]; omega) hr'
          rw [hil] at ca
          have HK := Lib.hid k
          have HRG := Lib.hid hrange
          have HF7 := Lib.hid hf7
          have HRL := Lib.hid hrle
          have HFA := Lib.hid hfa
          have HRA := Lib.hid hra
          have HIA := Lib.hid hia
          have HX := Lib.hid hx
          have HJM := Lib.hid hjm
          clear hx hj hok k hjm hin hrange hf7 hrle r1 hfl hrl hk e1 hids gr hil hfa hra hia
          go_wp2_with (go_at_call 25; refine (cmf _ HX.out).mono ?_; clear cmf; rintro e w3 ⟨A', c', rfl, _, r3, x3⟩)
          have X3 : Hid (Ext w w3) := Lib.hid (HX.out.trans x3)
          have R3 := Lib.hid r3
          clear s1 r3 x3
          go_loopg [7] rl.length (fun m s7 wr => ∃ j : Nat, j + m = rl.length ∧ s7 = .int .i64 ((tn + j : Nat) : Int) ∧ (rl.take j).all (fun s => decide (wantN ids s.1.toNat fl = s.2)) = true ∧ Ext w3 wr)
          case atStart => exact ⟨0, by omega, rfl, rfl, Ext.refl _⟩
          case round =>
            obtain ⟨j, hj, rfl, hok, hx⟩ := hrel
            obtain ⟨n, hn⟩ : ∃ n, n = tn + j := ⟨_, rfl⟩
            rw [← hn]
            by_cases h : j < rl.length
            · obtain ⟨s, hs⟩ : ∃ s, rl[j]? = some s := ⟨_, List.getElem?_eq_getElem h⟩
              have hs' : l[n]? = some s := by rw [hn, ← HRA.out j]; exact hs
              obtain ⟨ad, rfl, hlt, q0, q1⟩ := reads_share (hr0.out.below (X3.out.trans hx).out) hs'
              have hmem := List.mem_of_getElem? hs
              obtain ⟨hsr, hsi⟩ := HRG.out s (List.mem_of_getElem? hs')
              have hnl : (n : Int) < l.length := by have := HRL.out; omega
              have hl7 : (l.length : Int) ≤ 7 := by have := HJM.out; omega
              have kx := wrap_id hsr
              have hat := fun (hp : wantN ids s.1.toNat fl = s.2) => all_take (f := fun s : Int × Nat => decide (wantN ids s.1.toNat fl = s.2)) hs (by simpa using hp) hok
              have hno := fun (hp : wantN ids s.1.toNat fl ≠ s.2) => all_not (f := fun s : Int × Nat => decide (wantN ids s.1.toNat fl = s.2)) hmem (by simpa using hp)
              obtain ⟨x, hxn⟩ : ∃ x, x = s.1.toNat := ⟨_, rfl⟩
              rw [← hxn] at kx hat hno
              have HAT := Lib.hid hat
              have HNO := Lib.hid hno
              have HJ := Lib.hid hj
              have HX4 := Lib.hid hx
              have HN' := Lib.hid hn
              have hqs : Hid (∀ W, Ext w3 W → W.cell? (ad.add (n * 2)) = some (.int .i64 s.1) ∧ W.cell? ⟨(ad.add (n * 2)).block, (ad.add (n * 2)).off + 1, none⟩ = some (.int .u64 (s.2 : Int))) := fun W x => by
                obtain ⟨ad', e', _, a, b⟩ := reads_share (hr0.out.below (X3.out.trans x).out) hs'
                cases e'
                exact ⟨a, b⟩
              obtain ⟨G, hG⟩ : ∃ G, G = gk - 1 := ⟨_, rfl⟩
              have HG := Lib.hid hG
              clear hx hj hok hs hs' hmem hsr hsi hat hno hxn hG hn q0 q1
              go_wp2
              go_loopg [8, 9] fl.length (fun m s8 s9 wr => ∃ i : Nat, i + m = fl.length ∧ s9 = .int .i64 i ∧ s8 = .int .u64 (wantN ids x (fl.take i) : Nat) ∧ Ext w3 wr)
              case atStart => exact ⟨0, by omega, rfl, by unfold wantN; rfl, HX4.out⟩
              case round =>
                obtain ⟨i, hi, rfl, rfl, hx⟩ := hrel
                by_cases h' : i < fl.length
                · obtain ⟨r, hs⟩ : ∃ s, fl[i]? = some s := ⟨_, List.getElem?_eq_getElem h'⟩
                  have hit : i < tn := by rw [← HF7.out]; exact h'
                  have hs' : l[i]? = some r := by rw [← HFA.out i hit]; exact hs
                  obtain ⟨ad', e', -, q0, q1⟩ := reads_share (hr0.out.below (X3.out.trans hx).out) hs'
                  cases e'
                  obtain ⟨bd, rfl, p0⟩ := reads_id (R3.out.below hx.out) (HIA.out i r hs)
                  obtain ⟨z0, z1⟩ := hqs.out wr hx
                  obtain ⟨hrr, hri⟩ := HRG.out r (List.mem_of_getElem? hs')
                  have hitI : (i : Int) < tn := by omega
                  have hilI : (i : Int) < l.length := by have := HRL.out; omega
                  have hifI : (i : Int) < fl.length := by omega
                  have hr2 := ((inB_iff _).1 hri).2.1
                  have c1 := fun (W : World) (xW : Ext w3 W) => ca (some bd) c' W x r.1 hrr ((R3.out.below xW.out).more xW.size)
                  have c2 := fun W => rPow_any r.2 (atN ids r.1 x) (lt64_Q hr2) (lt64_R (atN_lt _ _ _)) W
                  have c3 := fun W => rMul_any (wantN ids x (fl.take i)) (powM bQ r.2 (atN ids r.1 x)) (lt64_Q (powM_lt (by decide) _ _)) W
                  have e1 := wantN_take (ids := ids) hs x
                  obtain ⟨v, hv⟩ : ∃ t, t = atN ids r.1 x := ⟨_, rfl⟩
                  obtain ⟨u, hu⟩ : ∃ t, t = wantN ids x (fl.take i) := ⟨_, rfl⟩
                  rw [← hv] at c1 c2 c3 e1
                  rw [← hu] at c3 e1 ⊢
                  have HE := Lib.hid e1
                  have HX6 := Lib.hid hx
                  have HI := Lib.hid hi
                  clear e1 hx hi hs hs' hv hu hrr hri hr2 ca hit
                  go_wp2
                  have i0 := fun i : Later wr => i.cell q0
                  have i1 := fun i : Later wr => i.cell q1
                  have i2 := fun i : Later wr => i.cell p0
                  have i3 := fun i : Later wr => i.cell z0
                  have i4 := fun i : Later wr => i.cell z1
                  refine wp_region_later (by kernel_rfl) (by kernel_rfl) ?_
                  repeat (go_big_quiet_step (first
                    | (go_at_call 49; exact Later.calls (c1 _ (HX6.out.trans (Later.ext _))))
                    | (go_at_call 54; exact Later.same (c2 _))
                    | (go_at_call 53; exact Later.same (c3 _))))
                  refine wpQuiet_nil ?_
                  rintro W2 ⟨q, hq⟩
                  have x5 : Ext w3 W2 := by rw [hq]; exact HX6.out.trans q.ext
                  clear hq q i0 i1 i2 i3 i4 q0 q1 p0 z0 z1
                  go_wp2
                  have hi := HI.out
                  go_roundg (gk - 1)
                  case measure => omega
                  case rel => exact ⟨i + 1, by omega, int_congr (by omega), by rw [HE.out], x5⟩
                · obtain rfl : i = fl.length := by omega
                  rw [List.take_length]
                  have hit : ¬ ((fl.length : Nat) : Int) < (tn : Int) := by have := HF7.out; omega
                  obtain ⟨z0, z1⟩ := hqs.out wr hx
                  have HX6 := Lib.hid hx
                  obtain ⟨u, hu⟩ : ∃ t, t = wantN ids x fl := ⟨_, rfl⟩
                  rw [← hu] at HAT HNO ⊢
                  clear hx hi hu ca
                  by_cases hus : u = s.2
                  · have hok' := Lib.hid (HAT.out hus)
                    subst hus
                    go_wp2
                    have hj := HJ.out
                    have hG := HG.out
                    have hN := HN'.out
                    go_roundg G
                    case measure => omega
                    case rel => exact ⟨j + 1, by omega, int_congr (by omega), hok'.out, HX6.out⟩
                  · have d1 : ((u : Int) != (s.2 : Int)) = true := by simp; omega
                    have k : Hid (chkN (tn : Int) l = 60) := by show _ = _; rw [HK.out, if_neg (by rw [HNO.out hus]; decide)]
                    go_wp2
                    go_ret
                    exact ⟨by rw [k.out]; rfl, X3.out.trans HX6.out⟩
            · obtain rfl : j = rl.length := by omega
              rw [List.take_length] at hok
              have hnl : ¬ (n : Int) < l.length := by have := HRL.out; omega
              have HX5 := Lib.hid hx
              have k : Hid (chkN (tn : Int) l = 0) := by show _ = _; rw [HK.out, if_pos hok]
              clear hx hj hok ca hn
              go_wp2
              go_ret
              exact ⟨by rw [k.out]; rfl, X3.out.trans HX5.out⟩
end Go.Proofs.Ytaibpldolbemfaa

/- The hash, walked: Num, and the document's. -/
namespace Go.Proofs.Ytaibpldolbemfaa
open Go.RowKit Go.Shelf

theorem add64_0 (x y : Nat) (w : World) : (callFunc 60 #[.int .u64 (x : Int), .int .u64 (y : Int), .int .u64 0]).run Try.prog w =
    .ok (.value (.tuple #[.int .u64 (((x + y) % 18446744073709551616 : Nat) : Int), .int .u64 (((x + y) / 18446744073709551616 : Nat) : Int)])) w := by
  have h := Any7.bits_Add64 Try.lays25 x y 0 (by decide) w
  rw [Nat.add_zero] at h
  exact h

def numM (a b m : Nat) : Nat := if m = 0 then 0 else (a * 2305843009213693952 + b) % m

set_option maxRecDepth 100000 in
theorem Num_any (a b m : Nat) (ha : a < 18446744073709551616) (hb : b < 18446744073709551616) (hm : m < 18446744073709551616) (w : World) :
    Calls Try.prog 33 #[.agg #[.int .u64 a, .int .u64 b], .int .u64 m] w fun e w' => e = .returned (.int .u64 (numM a b m : Nat)) ∧ Ext w w' := by
  rcases Nat.eq_zero_or_pos m with rfl | h0
  · have e : numM a b 0 = 0 := rfl
    rw [e]
    clear ha hb hm e
    go_enter Try.func33, Try.ntmps33
    go_wp2
    go_ret
    exact ⟨rfl, (Ext.refl w).alloc _⟩
  · obtain ⟨hi, hhi⟩ : ∃ hi, hi = a * 2305843009213693952 / 18446744073709551616 := ⟨_, rfl⟩
    obtain ⟨lo, hlo⟩ : ∃ lo, lo = a * 2305843009213693952 % 18446744073709551616 := ⟨_, rfl⟩
    have c1 : ∀ w, Calls Try.prog 59 #[.int .u64 (a : Int), .int .u64 2305843009213693952] w fun e w' => e = .returned (.tuple #[.int .u64 (hi : Int), .int .u64 (lo : Int)]) ∧ w = w' := fun w => by
      rw [hhi, hlo]; exact (Try.bits_Mul64 a 2305843009213693952 ha (by decide) w).mono fun e w' ⟨he, hw⟩ => ⟨he, hw.symm⟩
    have hhi1 : hi ≤ 2305843009213693952 := by rw [hhi]; omega
    have c2 := fun w => add64_0 lo b w
    obtain ⟨more, hmore⟩ : ∃ x, x = (lo + b) / 18446744073709551616 := ⟨_, rfl⟩
    obtain ⟨lo2, hlo2⟩ : ∃ x, x = (lo + b) % 18446744073709551616 := ⟨_, rfl⟩
    rw [← hmore, ← hlo2] at c2
    have hm1 : more ≤ 1 := by rw [hmore]; omega
    obtain ⟨h2, hh2⟩ : ∃ x, x = (hi + more) % m := ⟨_, rfl⟩
    have k1 : ((hi : Int) + (more : Int)) % (m : Int) = (h2 : Int) := by rw [hh2]; simp
    have hh : h2 < m := by rw [hh2]; exact Nat.mod_lt _ h0
    obtain ⟨q, hq⟩ : ∃ q, q = (h2 * 18446744073709551616 + lo2) / m := ⟨_, rfl⟩
    have E : (h2 * 18446744073709551616 + lo2) % m = numM a b m := by
      unfold numM
      rw [if_neg (by omega)]
      have e1 : a * 2305843009213693952 + b = (hi + more) * 18446744073709551616 + lo2 := by omega
      rw [e1, hh2]
      rw [Nat.add_mod, Nat.mul_mod, Nat.mod_mod, ← Nat.mul_mod, ← Nat.add_mod]
    obtain ⟨r, hr⟩ : ∃ r, r = numM a b m := ⟨_, rfl⟩
    have c3 := fun w => div64 h2 lo2 m hh (by omega) hm w
    rw [E, ← hq, ← hr] at c3
    rw [← hr]
    have m0 : ((m : Int) == 0) = false := by simp; omega
    have hs1 : (hi : Int) + (more : Int) < 18446744073709551616 := by omega
    clear hhi hlo hmore hlo2 hh2 hq hr E ha hb hm hh
    go_enter Try.func33, Try.ntmps33
    go_wp2_with (first | (go_at_call 59; refine (c1 _).mono ?_; clear c1; rintro e w' ⟨rfl, rfl⟩) | (go_at_call 61; refine (c3 _).mono ?_; clear c3; rintro e w' ⟨rfl, n, rfl⟩))
    go_ret
    exact ⟨rfl, ((Ext.refl w).alloc _).drewN _⟩

theorem plus_any (a b m : Nat) (ha : a < m) (hb : b < m) (hm : m < 18446744073709551616) (w : World) :
    Calls Try.prog 64 #[.int .u64 a, .int .u64 b, .int .u64 m] w fun e w' => e = .returned (.int .u64 ((a + b) % m : Nat)) ∧ w = w' := by
  by_cases h : m ≤ a + b
  · have e : (a + b) % m = a + b - m := by rw [Nat.mod_eq_sub_mod h, Nat.mod_eq_of_lt (by omega)]
    rw [e]
    have d1 : decide ((a : Int) ≥ (m : Int) - (b : Int)) = true := by simp; omega
    clear e
    go_enter Try.func64, Try.ntmps64
    go_wp2
    go_ret
    exact ⟨ret_one (by omega), rfl⟩
  · have e : (a + b) % m = a + b := Nat.mod_eq_of_lt (by omega)
    rw [e]
    clear e
    go_enter Try.func64, Try.ntmps64
    go_wp2
    go_ret
    exact ⟨ret_one (by omega), rfl⟩

set_option maxRecDepth 100000 in
theorem rNum_any (a b m : Nat) (hm : m < 18446744073709551616) (w : World) :
    Calls Try.prog 35 #[.agg #[.int .u64 a, .int .u64 b], .int .u64 m] w fun e w' => e = .returned (.int .u64 (numM a b m : Nat)) ∧ Ext w w' := by
  rcases Nat.eq_zero_or_pos m with rfl | h0
  · have e : numM a b 0 = 0 := rfl
    rw [e]
    clear hm e
    go_enter Try.func35, Try.ntmps35
    go_wp2
    go_ret
    exact ⟨rfl, (Ext.refl w).alloc _⟩
  · obtain ⟨x, hx⟩ : ∃ x, x = a % m := ⟨_, rfl⟩
    obtain ⟨y, hy⟩ : ∃ y, y = b % m := ⟨_, rfl⟩
    have k1 : (a : Int) % (m : Int) = (x : Int) := by rw [hx]; simp
    have k2 : (b : Int) % (m : Int) = (y : Int) := by rw [hy]; simp
    have hym : y < m := by rw [hy]; exact Nat.mod_lt _ h0
    obtain ⟨r, hr⟩ : ∃ r, r = numM a b m := ⟨_, rfl⟩
    have hf : ∀ z, z = a * 2 ^ 61 % m → (z + y) % m = r := by
      intro z hz
      rw [hr, hz, hy]
      unfold numM
      rw [if_neg (by omega), ← Nat.add_mod]
    have hst : ∀ j, (a * 2 ^ j % m + a * 2 ^ j % m) % m = a * 2 ^ (j + 1) % m := by
      intro j
      rw [← Nat.add_mod, Nat.pow_succ, ← Nat.mul_assoc, Nat.mul_two]
    have hx0 : x = a * 2 ^ 0 % m := by rw [hx]; simp
    have m0 : ((m : Int) == 0) = false := by simp; omega
    rw [← hr]
    have HF := Lib.hid hf
    have HS := Lib.hid hst
    have HX := Lib.hid hx0
    have HM := Lib.hid hm
    clear hr hx hy hf hst hx0
    go_enter Try.func35, Try.ntmps35
    go_wp2
    simp only [k1]
    clear k1
    go_loopg [5, 6] 61 (fun n s5 s6 wr => ∃ j z : Nat, j + n = 61 ∧ s5 = .int .u64 z ∧ s6 = .int .i64 j ∧ Hid (z = a * 2 ^ j % m) ∧ w.alloc (.cells #[.int .u64 (a : Int), .int .u64 (b : Int)] 55) = wr)
    case atStart => exact ⟨0, x, rfl, rfl, rfl, HX, rfl⟩
    case round =>
      obtain ⟨j, z, hj, rfl, rfl, hz, rfl⟩ := hrel
      have hzm : z < m := by rw [hz.out]; exact Nat.mod_lt _ h0
      by_cases h : j < 61
      · have c := fun W => plus_any z z m hzm hzm HM.out W
        obtain ⟨z', hz'⟩ : ∃ z', z' = (z + z) % m := ⟨_, rfl⟩
        rw [← hz'] at c
        have HZ : Hid (z' = a * 2 ^ (j + 1) % m) := by show _ = _; rw [hz', hz.out, HS.out]
        clear hz' hm
        go_wp2_with (go_at_call 64; refine (c _).mono ?_; clear c; rintro e w' ⟨rfl, rfl⟩)
        go_roundg (gk - 1)
        case measure => omega
        case rel => exact ⟨j + 1, z', by omega, rfl, int_congr (by omega), HZ, rfl⟩
      · obtain rfl : j = 61 := by omega
        have c := fun W => plus_any z y m hzm hym HM.out W
        rw [HF.out z hz.out] at c
        clear hm
        go_wp2_with (go_at_call 64; refine (c _).mono ?_; clear c; rintro e w' ⟨rfl, rfl⟩)
        go_ret
        exact ⟨rfl, (Ext.refl w).alloc _⟩
end Go.Proofs.Ytaibpldolbemfaa

/- Plain: signing. No program in sight. -/
namespace Go.Proofs.Ytaibpldolbemfaa
set_option linter.unusedVariables false

def secretS : ByteArray := { data := #[115, 101, 99, 114, 101, 116] }
def nonceS : ByteArray := { data := #[110, 111, 110, 99, 101] }
def signS : ByteArray := { data := #[115, 105, 103, 110] }
/-- The number of what is hashed of a tag and parts. -/
def hNum (tag : ByteArray) (ps : List (List Nat)) (m : Nat) : Nat := numM (hSum (coded (strN tag) ps)).1 (hSum (coded (strN tag) ps)).2 m
def someN (tag : ByteArray) (ps : List (List Nat)) : Nat := hNum tag ps (bR - 1) + 1
def chalN (commit pub : Nat) (msg : List Nat) : Nat := hNum signS [be commit 8, be pub 8, msg] bR
def secN (seed : List Nat) : Nat := someN secretS [seed]
def nonceN (s : Nat) (msg : List Nat) : Nat := someN nonceS [be s 8, msg]
def oddN (s : Nat) : Bool := decide (s = 0) || decide (bR ≤ s)
def sgE (s : Nat) (msg : List Nat) : Nat := chalN (powM bQ 4 (nonceN s msg)) (powM bQ 4 s) msg
def sgS (s : Nat) (msg : List Nat) : Nat := addM bR (mulM bR (sgE s msg) s) (nonceN s msg)
def checkN (p : Nat) (msg : List Nat) (E S : Nat) : Nat :=
  if inB p = false then 1 else if bR ≤ E ∨ bR ≤ S then 40 else if chalN (mulM bQ (powM bQ 4 S) (invM bQ (powM bQ p E))) p msg = E then 0 else 40

theorem numM_lt (a b : Nat) {m : Nat} (h : 0 < m) : numM a b m < m := by
  unfold numM; rw [if_neg (by omega)]; exact Nat.mod_lt _ h
theorem hNum_lt (tag : ByteArray) (ps : List (List Nat)) {m : Nat} (h : 0 < m) : hNum tag ps m < m := numM_lt _ _ h
theorem someN_pos (tag : ByteArray) (ps : List (List Nat)) : 1 ≤ someN tag ps := Nat.le_add_left 1 _
theorem someN_lt (tag : ByteArray) (ps : List (List Nat)) : someN tag ps < bR := by
  have := hNum_lt tag ps (m := bR - 1) (by decide)
  unfold someN bR at *; omega
theorem chalN_lt (commit pub : Nat) (msg : List Nat) : chalN commit pub msg < bR := hNum_lt _ _ (by decide)
theorem oddN_some (tag : ByteArray) (ps : List (List Nat)) : oddN (someN tag ps) = false := by
  have h1 := someN_pos tag ps
  have h2 := someN_lt tag ps
  unfold oddN; simp; omega
theorem inv_pow {p : Nat} (h : inB p = true) (E : Nat) (hE : E ≤ bR) : invM bQ (powM bQ p E) = powM bQ p (bR - E) := by
  obtain ⟨h1, h2, h3⟩ := (inB_iff p).1 h
  have hne : powM bQ p E % bQ ≠ 0 := inB_ne (inB_pow h E)
  have e := inv_unique (b := invM bQ (powM bQ p E)) (c := powM bQ p (bR - E)) pr_Q hne (by rw [invM_mul pr_Q hne, powM_add, show E + (bR - E) = bR by omega, h3])
  rwa [Nat.mod_eq_of_lt (invM_lt (by decide) _), Nat.mod_eq_of_lt (powM_lt (by decide) _ _)] at e
/-- What a signature's numbers come back to. -/
theorem commit_back (s k c : Nat) (hc : c ≤ bR) : mulM bQ (powM bQ 4 (addM bR (mulM bR c s) k)) (invM bQ (powM bQ (powM bQ 4 s) c)) = powM bQ 4 k := by
  rw [inv_pow (inB_base s) c hc]
  have e1 : addM bR (mulM bR c s) k = (c * s + k) % bR := by unfold addM mulM; rw [Nat.mod_add_mod]
  rw [e1, base_period, powM_pow, powM_add, ← base_period]
  have e2 : c * s + k + s * (bR - c) = k + bR * s := by
    have : s * (bR - c) + c * s = bR * s := by rw [Nat.mul_comm c s, ← Nat.mul_add, Nat.sub_add_cancel hc, Nat.mul_comm]
    omega
  rw [e2, Nat.add_mul_mod_self_left, base_period]
theorem check_right (s k : Nat) (msg : List Nat) (c : Nat) (hc : c = chalN (powM bQ 4 k) (powM bQ 4 s) msg) : checkN (powM bQ 4 s) msg c (addM bR (mulM bR c s) k) = 0 := by
  have hlt : c < bR := by rw [hc]; exact chalN_lt _ _ _
  unfold checkN
  rw [if_neg (by rw [inB_base]; decide), if_neg (by have := addM_lt' (m := bR) (by decide) (mulM bR c s) k; omega), commit_back s k c (by omega), if_pos hc.symm]
theorem check_sign (s : Nat) (msg : List Nat) : checkN (powM bQ 4 s) msg (sgE s msg) (sgS s msg) = 0 := check_right s _ msg _ rfl
theorem check_nonce (s k : Nat) (msg : List Nat) (c : Nat) (hc : c = chalN (powM bQ 4 k) (powM bQ 4 s) msg) : checkN (powM bQ 4 s) msg c (addM bR k (mulM bR c s)) = 0 := by
  rw [addM_comm]; exact check_right s k msg c hc
theorem sgE_lt (s : Nat) (msg : List Nat) : sgE s msg < bR := chalN_lt _ _ _
theorem sgS_lt (s : Nat) (msg : List Nat) : sgS s msg < bR := addM_lt' (by decide) _ _
theorem pow_eq_iff {x y : Nat} (hx : x < bR) (hy : y < bR) : powM bQ 4 x = powM bQ 4 y ↔ x = y := by
  constructor
  · intro h
    have := base_inj h
    rwa [Nat.mod_eq_of_lt hx, Nat.mod_eq_of_lt hy] at this
  · intro h; rw [h]
theorem subM_mulM (c d s : Nat) : mulM bR (subM bR c d) s = subM bR (mulM bR c s) (mulM bR d s) := by
  have h1 := mulM_addM bR (subM bR c d) d s
  have h2 : addM bR (subM bR c d) d = c % bR := by unfold addM subM bR; omega
  rw [h2, mulM_mod_left] at h1
  rw [h1, subM_addM _ _ _ (by decide), Nat.mod_eq_of_lt (mulM_lt (by decide) _ _)]
theorem subM_both (k u v : Nat) : subM bR (addM bR k u) (addM bR k v) = subM bR u v := by unfold subM addM bR; omega
/-- Who uses a nonce twice gives the secret away. -/
theorem twice (k s c d : Nat) (hs : s < bR) (hc : c < bR) (hd : d < bR) (hne : c ≠ d) :
    mulM bR (subM bR (addM bR k (mulM bR c s)) (addM bR k (mulM bR d s))) (invM bR (subM bR c d)) = s := by
  have h0 : subM bR c d % bR ≠ 0 := by
    intro h
    rw [Nat.mod_eq_of_lt (subM_lt (by decide) _ _), subM_zero_iff _ _ _ (by decide), Nat.mod_eq_of_lt hc, Nat.mod_eq_of_lt hd] at h
    exact hne h
  rw [subM_both, ← subM_mulM, mulM_comm bR (subM bR c d) s, mul_inv_back pr_R h0, Nat.mod_eq_of_lt hs]
/-- A secret of any number. -/
def secretN (n : Nat) : Nat := 1 + n % (bR - 1)
theorem secretN_lt (n : Nat) : secretN n < bR := by unfold secretN bR; omega
theorem secretN_pos (n : Nat) : 1 ≤ secretN n := Nat.le_add_right 1 _
theorem oddN_secret (n : Nat) : oddN (secretN n) = false := by
  have h1 := secretN_pos n
  have h2 := secretN_lt n
  unfold oddN; simp; omega
end Go.Proofs.Ytaibpldolbemfaa

/- Eight bytes of a number (sign.bytes, greatsealref04.Eight), walked. -/
namespace Go.Proofs.Ytaibpldolbemfaa
set_option linter.unusedVariables false
open Go.RowKit

theorem blk_reads {W : World} {g : Nat} {T : TypeId} {cs : Array Value} (h : Blk W g T cs) : Reads W W.heap.size 1 (some ⟨g, 0, none⟩) cs.size cs.toList := by
  refine ⟨by simp, fun _ => ⟨_, rfl, h.lt, fun j u hj => ?_⟩⟩
  have e : (Addr.mk g 0 none).add j = ⟨g, j, none⟩ := by
    unfold Addr.add
    split <;> simp_all
  rw [e, h.cell]
  simpa using hj
theorem be8 (n : Nat) : be n 8 = [n / 72057594037927936 % 256, n / 281474976710656 % 256, n / 1099511627776 % 256, n / 4294967296 % 256, n / 16777216 % 256, n / 65536 % 256, n / 256 % 256, n % 256] := by
  simp [be, beN, List.range_succ]

end Go.Proofs.Ytaibpldolbemfaa

/- The document's hash, walked: number, Of; and Of of the hash. -/
namespace Go.Proofs.Ytaibpldolbemfaa
set_option linter.unusedVariables false
open Go.RowKit Go.Shelf

theorem num8_bound (l : List Nat) (h : ∀ x ∈ l, x < 256) (k : Nat) (hk : k ≤ 7) : num8 (l.take k) < 72057594037927936 := by
  have h1 := num8_lt (l.take k) fun x hx => h x (List.mem_of_mem_take hx)
  have h2 : (l.take k).length ≤ 7 := by rw [List.length_take]; omega
  have h3 : 256 ^ (l.take k).length ≤ 256 ^ 7 := Nat.pow_le_pow_right (by decide) h2
  have h4 : (256 : Nat) ^ 7 = 72057594037927936 := by decide
  omega
theorem num8_64 (l : List Nat) (h : ∀ x ∈ l, x < 256) (hl : l.length ≤ 8) : num8 l < 18446744073709551616 := by
  have h1 := num8_lt l h
  have h3 : 256 ^ l.length ≤ 256 ^ 8 := Nat.pow_le_pow_right (by decide) hl
  have h4 : (256 : Nat) ^ 8 = 18446744073709551616 := by decide
  omega

/-- The hash that bytes are, and why there is none. -/
def ofS (l : List Nat) : (Nat × Nat) × Nat :=
  if l.length < 16 then ((0, 0), 70) else if 16 < l.length ∨ bP ≤ num8 (l.take 8) ∨ bP ≤ num8 ((l.drop 8).take 8) then ((0, 0), 71) else ((num8 (l.take 8), num8 ((l.drop 8).take 8)), 0)
def ofV (r : (Nat × Nat) × Nat) : Value := .tuple #[.agg #[.int .u64 (r.1.1 : Int), .int .u64 (r.1.2 : Int)], .int .i64 (r.2 : Int)]

theorem slice_h8 (A : Option Addr) (n c m : Nat) (hm : m ≤ c) (w : World) : (Instr.slice 23 (.slice A n c) none (some (.int .i64 (m : Int))) none).run Try.prog w = .ok (sliced A 0 m c 1) w := by
  rw [run_slice_h w 23 A n c Try.underlying23 .i64 (m : Int) (by omega) (by omega)]
  have : (sizeOf (Try.prog.elem 23)).run Try.prog w = .ok 1 w := by kernel_rfl
  rw [this]
  rfl
theorem slice_l8 (A : Option Addr) (n c m : Nat) (hm : m ≤ n) (w : World) : (Instr.slice 23 (.slice A n c) (some (.int .i64 (m : Int))) none none).run Try.prog w = .ok (sliced A m n c 1) w := by
  rw [run_slice_l w 23 A n c Try.underlying23 .i64 (m : Int) (by omega) (by omega)]
  have : (sizeOf (Try.prog.elem 23)).run Try.prog w = .ok 1 w := by kernel_rfl
  rw [this]
  rfl
theorem sliced_at (ad : Addr) (m n c : Nat) (h : m < c) : sliced (some ad) m n c 1 = .slice (some (ad.add m)) (n - m) (c - m) := by
  unfold sliced
  rw [if_neg (by omega)]
  simp
theorem add_zero' (ad : Addr) : ad.add 0 = ad := by unfold Addr.add; simp

/-- The two halves of what was read so far. -/
def h0 (l : List Nat) (k : Nat) : Nat := num8 ((l.take 8).take k)
def h1 (l : List Nat) (k : Nat) : Nat := num8 (((l.drop 8).take 8).take (k - 8))
theorem h0_step (l : List Nat) (k b : Nat) (hb : l[k]? = some b) (hk : k < 8) : h0 l (k + 1) = h0 l k * 256 + b ∧ h1 l (k + 1) = h1 l k := by
  unfold h0 h1
  refine ⟨?_, by rw [show k + 1 - 8 = 0 by omega, show k - 8 = 0 by omega]⟩
  have : (l.take 8)[k]? = some b := by rw [List.getElem?_take, if_pos hk]; exact hb
  rw [List.take_add_one, this]; exact num8_snoc _ _
theorem h1_step (l : List Nat) (k b : Nat) (hb : l[k]? = some b) (hk : 8 ≤ k) (hk' : k < 16) : h0 l (k + 1) = h0 l k ∧ h1 l (k + 1) = h1 l k * 256 + b := by
  unfold h0 h1
  refine ⟨by rw [List.take_take, List.take_take]; congr 2; omega, ?_⟩
  have : ((l.drop 8).take 8)[k - 8]? = some b := by rw [List.getElem?_take, if_pos (by omega), List.getElem?_drop, show 8 + (k - 8) = k by omega]; exact hb
  rw [show k + 1 - 8 = k - 8 + 1 by omega, List.take_add_one, this]; exact num8_snoc _ _
theorem h_more (l : List Nat) (k : Nat) (hk : 16 ≤ k) : h0 l (k + 1) = h0 l k ∧ h1 l (k + 1) = h1 l k := by
  unfold h0 h1
  refine ⟨by rw [List.take_take, List.take_take]; congr 2; omega, by rw [List.take_take, List.take_take]; congr 2; omega⟩
theorem h_all (l : List Nat) (k : Nat) (hk : 16 ≤ k) : h0 l k = num8 (l.take 8) ∧ h1 l k = num8 ((l.drop 8).take 8) := by
  unfold h0 h1
  refine ⟨by rw [List.take_take]; congr 2; omega, by rw [List.take_take]; congr 2; omega⟩
theorem h0_lt (l : List Nat) (h : ∀ x ∈ l, x < 256) (k : Nat) : h0 l k < 18446744073709551616 ∧ h1 l k < 18446744073709551616 :=
  ⟨num8_64 _ (fun x hx => h x (List.mem_of_mem_take (List.mem_of_mem_take hx))) (by simp; omega), num8_64 _ (fun x hx => h x (List.mem_of_mem_drop (List.mem_of_mem_take (List.mem_of_mem_take hx)))) (by simp; omega)⟩
theorem h0_b (l : List Nat) (h : ∀ x ∈ l, x < 256) (k : Nat) (hk : k < 8) : h0 l k < 72057594037927936 :=
  num8_bound (l.take 8) (fun x hx => h x (List.mem_of_mem_take hx)) k (by omega)
theorem h1_b (l : List Nat) (h : ∀ x ∈ l, x < 256) (k : Nat) (hk : k < 16) : h1 l k < 72057594037927936 :=
  num8_bound ((l.drop 8).take 8) (fun x hx => h x (List.mem_of_mem_drop (List.mem_of_mem_take hx))) (k - 8) (by omega)
theorem or8 (a b : Nat) (ha : a < 72057594037927936) (hb : b < 256) : bits .or .u64 (IntKind.u64.wrap ((a : Int) * 256)) (b : Int) = ((a * 256 + b : Nat) : Int) := by
  have e1 : IntKind.u64.wrap ((a : Int) * 256) = ((a * 256 : Nat) : Int) := by rw [IntKind.wrap_u64]; omega
  rw [e1, bits_or_u64_nat (a * 256) b (by omega) (by omega)]
  congr 1
  have h := Nat.two_pow_add_eq_or_of_lt (i := 8) (b := b) (show b < 2 ^ 8 from hb) a
  rw [show (2 : Nat) ^ 8 = 256 from rfl] at h
  rw [Nat.mul_comm a 256]; exact h.symm
end Go.Proofs.Ytaibpldolbemfaa

/- The hash that bytes are, walked: hash.Of. -/
namespace Go.Proofs.Ytaibpldolbemfaa
set_option linter.unusedVariables false
open Go.RowKit Go.Shelf

theorem Reads.get {w : World} {B n : Nat} {A : Option Addr} {l : List Nat} (h : Reads w B 1 A n (bv l)) {k b : Nat} (hb : l[k]? = some b) (ad : Addr) (hA : A = some ad) (hn : 0 < n) : w.cell? (ad.add k) = some (.int .u8 (b : Int)) := by
  obtain ⟨ad', e, _, hc⟩ := h.2 hn
  rw [hA] at e
  cases e
  exact hc k _ (by simp [bv, hb])

end Go.Proofs.Ytaibpldolbemfaa

/- The document's elements of bytes (greatsealref01.Of), walked. -/
namespace Go.Proofs.Ytaibpldolbemfaa
set_option linter.unusedVariables false
open Go.RowKit Go.Shelf

theorem unit_ok (i : Nat) (hi : i ≤ 7) : 256 ^ i ≤ 72057594037927936 := by
  have : 256 ^ i ≤ 256 ^ 7 := Nat.pow_le_pow_right (by decide) hi
  have e : (256 : Nat) ^ 7 = 72057594037927936 := by decide
  omega
theorem ck_lt (l : List Nat) (h : ∀ x ∈ l, x < 256) (j i : Nat) : le ((ck l j).take i) < 256 ^ ((ck l j).take i).length :=
  le_lt _ (fun y hy => h y (List.mem_of_mem_drop (List.mem_of_mem_take (List.mem_of_mem_take hy))))
theorem ck_step (l : List Nat) (h : ∀ x ∈ l, x < 256) (j i b : Nat) (hb : l[7 * j + i]? = some b) (hi : i < cLen l.length j) :
    le ((ck l j).take (i + 1)) = le ((ck l j).take i) + 256 ^ i * b ∧ le ((ck l j).take i) < 256 ^ i ∧ i < 7 := by
  have h7 : i < 7 := by unfold cLen at hi; omega
  have e1 := ck_get l j i hi
  rw [hb] at e1
  have el : ((ck l j).take i).length = i := by rw [List.length_take, ck_length]; omega
  have h2 := ck_lt l h j i
  rw [el] at h2
  refine ⟨?_, h2, h7⟩
  rw [List.take_add_one, e1]
  show le (_ ++ [b]) = _
  rw [le_snoc, el, Nat.mul_comm]
theorem fOf_snoc (l : List Nat) (j : Nat) : (List.range (j + 1)).map (fun j => le (ck l j)) = (List.range j).map (fun j => le (ck l j)) ++ [le (ck l j)] := by simp [List.range_succ]
theorem step_num (n u b : Nat) (hn : n < u) (hu : 256 * u ≤ 72057594037927936) (hb : b < 256) :
    IntKind.u64.wrap ((n : Int) + IntKind.u64.wrap ((u : Int) * (b : Int))) = ((n + u * b : Nat) : Int) ∧ IntKind.u64.wrap ((u : Int) * 256) = ((u * 256 : Nat) : Int) := by
  have h1 : u * b ≤ u * 255 := Nat.mul_le_mul_left _ (by omega)
  have e : (u : Int) * (b : Int) = ((u * b : Nat) : Int) := by simp
  refine ⟨?_, by rw [IntKind.wrap_u64]; omega⟩
  rw [e]
  generalize u * b = t at *
  rw [IntKind.wrap_u64, IntKind.wrap_u64]; omega

set_option maxRecDepth 100000 in
set_option maxHeartbeats 2000000 in
theorem rfOf_any (l : List Nat) (hl : ∀ x ∈ l, x < 256) (hm : l.length ≤ 1099511627776) (A : Option Addr) (c : Nat) (hmc : l.length ≤ c) (w : World) (hr : Reads w w.heap.size 1 A l.length (bv l)) :
    Calls Try.prog 79 #[.slice A l.length c] w fun e w' => ∃ v, e = .returned v ∧ w'.ownsRow w.heap.size 22 1 v (fOf l).length (uv (fOf l)) ∧ Below w.heap.size w w' := by
  obtain ⟨i0, hi, hz0, hz1, hz2⟩ := info_parts Try.infoU64
  obtain ⟨m, hml⟩ : ∃ m, m = l.length := ⟨_, rfl⟩
  rw [← hml] at hm hmc ⊢
  obtain ⟨ad, had⟩ : ∃ ad, 0 < m → A = some ad := by
    rcases A with _ | ad
    · exact ⟨⟨0, 0, none⟩, fun h => by obtain ⟨_, h, _⟩ := hr.2 (by omega); cases h⟩
    · exact ⟨ad, fun _ => rfl⟩
  have HR : Hid (∀ (W : World) (k b : Nat), Below w.heap.size w W → l[k]? = some b → A = some ad ∧ W.cell? (ad.add k) = some (.int .u8 (b : Int))) := Lib.hid (fun W k b hx hb => by
    have hk : k < l.length := (List.getElem?_eq_some_iff.1 hb).1
    have e := had (by omega)
    exact ⟨e, Reads.get (hr.below hx) hb ad e (by omega)⟩)
  have hmi : (m : Int) ≤ 1099511627776 := by omega
  have HM := Lib.hid hml
  have HL := Lib.hid hl
  clear hr hml hl had
  go_enter Try.func79, Try.ntmps79
  go_wp2
  go_loopg [3, 4] (cnt m) (fun g s3 s4 wr => ∃ j : Nat, j + g = cnt m ∧ s4 = .int .i64 ((7 * j : Nat) : Int) ∧ wr.ownsRow w.heap.size 22 1 s3 j (uv ((List.range j).map fun j => le (ck l j))) ∧ Below w.heap.size w wr)
  case atStart => exact ⟨0, by omega, rfl, World.ownsRow_nil _ _ _ _, Below.refl _ _⟩
  case round =>
    obtain ⟨j, hj, rfl, hown, hB⟩ := hrel
    by_cases hlt : 7 * j < m
    · obtain ⟨q, hq⟩ : ∃ q, q = 7 * j := ⟨_, rfl⟩
      rw [← hq] at hlt ⊢
      have HQ := Lib.hid hq
      have HJ := Lib.hid hj
      have z1 : (q : Int) < m := by omega
      obtain ⟨wo, hwo⟩ : ∃ wo : World, wo = wr := ⟨_, rfl⟩
      rw [← hwo] at hown hB ⊢
      have HB := Lib.hid hB
      obtain ⟨G, hG⟩ : ∃ G, G = gk - 1 := ⟨_, rfl⟩
      have HG := Lib.hid hG
      clear hwo hq hj hB hG
      go_wp2
      go_loopg [5, 6, 7] 8 (fun g s5 s6 s7 w2 => ∃ i : Nat, i + g = 8 ∧ i ≤ cLen m j ∧ s5 = .int .u64 ((le ((ck l j).take i) : Nat) : Int) ∧ s6 = .int .u64 ((256 ^ i : Nat) : Int) ∧ s7 = .int .i64 ((q + i : Nat) : Int) ∧ w2 = wo)
      case atStart => exact ⟨0, rfl, Nat.zero_le _, by simp [le], by simp, by simp, rfl⟩
      case round =>
        obtain ⟨i, hi8, hin, rfl, rfl, rfl, rfl⟩ := hrel
        by_cases h : i < cLen m j
        · have hcl := h
          have hqi : q + i < m := by have := HQ.out; unfold cLen at hcl; omega
          obtain ⟨b, hb⟩ : ∃ b, l[q + i]? = some b := ⟨_, List.getElem?_eq_getElem (by rw [← HM.out]; exact hqi)⟩
          obtain ⟨hA, hcell⟩ := HR.out _ (q + i) b HB.out hb
          have hb256 : b < 256 := HL.out b (List.mem_of_getElem? hb)
          obtain ⟨e1, e2, h7⟩ := ck_step l HL.out j i b (by rw [← HQ.out]; exact hb) (by rw [← HM.out]; exact h)
          have hu : 256 * 256 ^ i ≤ 72057594037927936 := by have := unit_ok (i + 1) (by omega); rw [Nat.pow_succ] at this; omega
          obtain ⟨k1, k2⟩ := step_num _ _ b e2 hu hb256
          rw [← e1] at k1
          rw [show 256 ^ i * 256 = 256 ^ (i + 1) from (Nat.pow_succ ..).symm] at k2
          obtain ⟨x, hx⟩ : ∃ x, x = le ((ck l j).take i) := ⟨_, rfl⟩
          obtain ⟨y, hy⟩ : ∃ y, y = le ((ck l j).take (i + 1)) := ⟨_, rfl⟩
          obtain ⟨u, hu'⟩ : ∃ u, u = 256 ^ i := ⟨_, rfl⟩
          obtain ⟨u2, hu2⟩ : ∃ u, u = 256 ^ (i + 1) := ⟨_, rfl⟩
          obtain ⟨p, hp⟩ : ∃ p, p = q + i := ⟨_, rfl⟩
          rw [← hx, ← hu', ← hy] at k1
          rw [← hu', ← hu2] at k2
          rw [← hp] at hcell hqi
          rw [← hx, ← hu', ← hp]
          have z2 : (p : Int) < m := by omega
          have z3 : (p : Int) < (q : Int) + 7 := by omega
          have HY := Lib.hid hy
          have HU := Lib.hid hu2
          have HP := Lib.hid hp
          have H8 := Lib.hid hi8
          have HC := Lib.hid hcl
          have K1 := Lib.hid k1
          have K2 := Lib.hid k2
          have zb : (b : Int) < 256 := by omega
          subst hA
          clear hx hy hu' hu2 hp e1 e2 hu hb hb256 hqi hlt hi8 hcl h hin k1 k2
          go_wp2
          have hi8 := H8.out
          have hcl := HC.out
          have hp := HP.out
          go_roundg (gk - 1)
          case measure => omega
          case rel => exact ⟨i + 1, by omega, by omega, by rw [K1.out, HY.out], by rw [K2.out, HU.out], int_congr (by omega), rfl⟩
        · obtain rfl : i = cLen m j := by omega
          have e1 : (ck l j).take (cLen m j) = ck l j := List.take_of_length_le (by rw [ck_length, ← HM.out]; exact Nat.le_refl _)
          rw [e1]
          have hfs := fOf_snoc l j
          obtain ⟨x, hx⟩ : ∃ x, x = le (ck l j) := ⟨_, rfl⟩
          obtain ⟨p, hp⟩ : ∃ p, p = q + cLen m j := ⟨_, rfl⟩
          rw [← hx] at hfs ⊢
          rw [← hp]
          have hx' : p ≤ m ∧ (p < m → ¬ p < q + 7) := by have := HQ.out; unfold cLen at hp; omega
          obtain ⟨hpm, hp7⟩ := hx'
          have z5 : (p : Int) ≤ m := by omega
          have HF := Lib.hid hfs
          have hjm : j + 1 ≤ cnt m ∧ cnt m ≤ 1099511627776 := by have := HQ.out; unfold cnt; omega
          obtain ⟨hjc, hcm⟩ := hjm
          have HJC := Lib.hid hjc
          have HCM := Lib.hid hcm
          have HO := hown
          generalize (256 ^ cLen m j : Nat) = u at *
          clear hx hfs hp e1 hi8 hin h hlt hjc hcm hown hm hmc
          have q1 : ∀ u ∈ [Value.int .u64 (x : Int)], u.oneCell' = true := by simp [Value.oneCell']
          by_cases hpl : p < m
          all_goals (
            have hd : decide ((p : Int) < (m : Int)) = decide (p < m) := by simp
            first
              | (have z6 : (p : Int) < m := by omega)
              | (have z6 : ¬ (p : Int) < m := by omega)
            try (have z7 : ¬ (p : Int) < (q : Int) + 7 := by have := hp7 hpl; omega)
            clear hd hp7 hpl hpm
            go_wp2_with (at_builtin; refine wpList_append_own _ rfl (.tmp 38) (.tmp 40) 52 rfl w.heap.size 22 i0 (.int .u64 0) 1 8 Try.underlying52 hi hz0 hz1 hz2 rfl (by decide) _ _ _ rfl (HO.alloc _) ⟨_, 0, none⟩ 1 1 [.int .u64 (x : Int)] rfl rfl (cell_one_new _ _ _) q1 (by have := HJC.out; have := HCM.out; unfold maxLen; omega) (by have := HJC.out; have := HCM.out; omega) (by have := HB.out.size; simp; omega) ?_; intro v' w1 hown1 hg1 _)
            have B1 : Hid (Below w.heap.size w w1) := Lib.hid ((HB.out.alloc HB.out.size _).grown hg1 (by have := HB.out.size; simp; omega) (own_ge HO))
            have O1 : Hid (w1.ownsRow w.heap.size 22 1 v' (j + 1) (uv ((List.range (j + 1)).map fun j => le (ck l j)))) := by
              show World.ownsRow _ _ _ _ _ _ _
              rw [HF.out, uv_append]; exact hown1
            clear hown1 hg1 HO
            go_roundg G
            case measure => have := HG.out; have := HJ.out; have := HJC.out; omega
            case rel => exact ⟨j + 1, by have := HG.out; have := HJ.out; have := HJC.out; omega, int_congr (by have := HQ.out; omega), O1.out, B1.out⟩)
    · obtain rfl : j = cnt m := by unfold cnt at hj ⊢; omega
      have HO : Hid (wr.ownsRow w.heap.size 22 1 u3 (fOf l).length (uv (fOf l))) := by
        show World.ownsRow _ _ _ _ _ _ _
        unfold fOf; rw [← HM.out, List.length_map, List.length_range]; exact hown
      have HB := Lib.hid hB
      obtain ⟨q, hq⟩ : ∃ q, q = 7 * cnt m := ⟨_, rfl⟩
      rw [← hq] at hlt ⊢
      have z1 : ¬ (q : Int) < m := by omega
      clear hq hlt hown hB hj
      go_wp2
      go_ret
      exact ⟨_, rfl, HO.out, HB.out⟩
end Go.Proofs.Ytaibpldolbemfaa

/- The document's answer (greatsealref01, greatsealref02), walked: Add, Mul, raised. -/
namespace Go.Proofs.Ytaibpldolbemfaa
open Go.RowKit

theorem r1Add_any (a b : Nat) (w : World) :
    Calls Try.prog 80 #[.int .u64 a, .int .u64 b] w fun e w' => e = .returned (.int .u64 (addM bP a b : Nat)) ∧ w = w' := by
  obtain ⟨x, hx⟩ : ∃ x, x = a % bP := ⟨_, rfl⟩
  obtain ⟨y, hy⟩ : ∃ y, y = b % bP := ⟨_, rfl⟩
  have hx1 : x < bP := by rw [hx]; exact Nat.mod_lt _ (by decide)
  have hy1 : y < bP := by rw [hy]; exact Nat.mod_lt _ (by decide)
  obtain ⟨z, hz⟩ : ∃ z, z = x + y := ⟨_, rfl⟩
  have k1 : (a : Int) % 2305843009213693951 = (x : Int) := by rw [hx]; simp [bP]
  have k2 : (b : Int) % 2305843009213693951 = (y : Int) := by rw [hy]; simp [bP]
  have k3 : (x : Int) + (y : Int) = (z : Int) := by omega
  have k4 : (z : Int) % 2305843009213693951 = ((addM bP a b : Nat) : Int) := by
    have : addM bP a b = z % bP := by rw [hz, hx, hy]; simp [addM]
    rw [this]; simp [bP]
  have z1 : (x : Int) < 2305843009213693951 := by unfold bP at *; omega
  have z2 : (y : Int) < 2305843009213693951 := by unfold bP at *; omega
  have z3 : (z : Int) < 4611686018427387904 := by omega
  generalize addM bP a b = r at *
  clear hx hy hx1 hy1 hz
  go_enter Try.func80, Try.ntmps80
  go_wp2
  go_ret
  exact ⟨ret_one (by simp only [k4]), rfl⟩

/-- One step of the doubling. -/
theorem mul_step (o a b : Nat) : addM bP (if b % 2 = 1 then addM bP o a else o) (addM bP a a * (b / 2)) = addM bP o (a * b) := by
  have hb : b = 2 * (b / 2) + b % 2 := by omega
  have e0 : a * b = a * (b / 2) + a * (b / 2) + a * (b % 2) := by
    have : a * b = a * (2 * (b / 2) + b % 2) := by rw [← hb]
    rw [this]; grind
  unfold addM
  split
  · rename_i h
    rw [h, Nat.mul_one] at e0
    rw [e0, Nat.mod_add_mod, Nat.add_mod, Nat.mul_mod ((a + a) % bP), Nat.mod_mod, ← Nat.mul_mod, ← Nat.add_mod]
    congr 1; grind
  · rename_i h
    have h0 : b % 2 = 0 := by omega
    rw [h0, Nat.mul_zero] at e0
    rw [e0, Nat.add_mod, Nat.mul_mod ((a + a) % bP), Nat.mod_mod, ← Nat.mul_mod, ← Nat.add_mod]
    congr 1; grind

set_option maxRecDepth 100000 in
theorem r1Mul_any (a b : Nat) (w : World) :
    Calls Try.prog 96 #[.int .u64 a, .int .u64 b] w fun e w' => e = .returned (.int .u64 (mulM bP a b : Nat)) ∧ w = w' := by
  obtain ⟨x, hx⟩ : ∃ x, x = a % bP := ⟨_, rfl⟩
  obtain ⟨y, hy⟩ : ∃ y, y = b % bP := ⟨_, rfl⟩
  have hy1 : y < bP := by rw [hy]; exact Nat.mod_lt _ (by decide)
  have k1 : (a : Int) % 2305843009213693951 = (x : Int) := by rw [hx]; simp [bP]
  have k2 : (b : Int) % 2305843009213693951 = (y : Int) := by rw [hy]; simp [bP]
  have E : addM bP 0 (x * y) = mulM bP a b := by rw [hx, hy]; unfold addM mulM; rw [Nat.zero_add, ← Nat.mul_mod]
  have H := Lib.hid E
  have hyb : (y : Int) < 2305843009213693951 := by unfold bP at hy1; omega
  clear hx hy E hy1
  go_enter Try.func96, Try.ntmps96
  go_wp2
  simp only [k1, k2]
  clear k1 k2
  go_loopg [0, 1, 5] y (fun n s0 s1 s5 wr => wr = w ∧ ∃ u o : Nat, s0 = .int .u64 u ∧ s1 = .int .u64 n ∧ s5 = .int .u64 o ∧ addM bP o (u * n) = mulM bP a b ∧ (o < bP) ∧ (n : Int) < 2305843009213693951)
  case atStart => exact ⟨rfl, x, 0, rfl, rfl, rfl, H.out, by decide, hyb⟩
  case round =>
    obtain ⟨rfl, u, o, rfl, rfl, rfl, hinv, ho, hnb⟩ := hrel
    obtain ⟨n, rfl⟩ : ∃ n, n = gk := ⟨_, rfl⟩
    by_cases h0 : n = 0
    · subst h0
      have e : o = mulM bP a b := by rw [← hinv]; unfold addM; rw [Nat.mul_zero, Nat.add_zero, Nat.mod_eq_of_lt ho]
      have HE := Lib.hid e
      clear e hinv ho
      go_wp2
      go_ret
      exact ⟨ret_one (by rw [HE.out]), rfl⟩
    · have hst := mul_step o u n
      rw [hinv] at hst
      have d1 : decide (0 < (n : Int)) = true := by simp; omega
      have d2 : decide (0 < n) = true := by simp; omega
      have c1 := fun w => r1Add_any o u w
      have c2 := fun w => r1Add_any u u w
      obtain ⟨m, hm⟩ : ∃ m, m = n / 2 := ⟨_, rfl⟩
      have k3 : (n : Int) / 2 = (m : Int) := by omega
      have hmn : m < n := by omega
      have hmb : (m : Int) < 2305843009213693951 := by omega
      by_cases hb : n % 2 = 1
      · rw [if_pos hb, ← hm] at hst
        have k4 : (n : Int) % 2 = 1 := by omega
        have HS := Lib.hid hst
        have HM := Lib.hid hmn
        clear hst hinv hb hm h0 hmn H
        go_wp2_with (first | (go_at_call 80; refine (c1 _).mono ?_; clear c1; rintro e w' ⟨rfl, rfl⟩) | (go_at_call 80; refine (c2 _).mono ?_; clear c2; rintro e w' ⟨rfl, rfl⟩))
        have hmn := HM.out
        go_roundg m
        case measure => omega
        case rel => exact ⟨rfl, addM bP u u, addM bP o u, rfl, rfl, rfl, HS.out, addM_lt' (by decide) _ _, hmb⟩
      · rw [if_neg hb, ← hm] at hst
        have k4 : (n : Int) % 2 = 0 := by omega
        have HS := Lib.hid hst
        have HM := Lib.hid hmn
        clear hst hinv hb hm h0 hmn c1 H
        go_wp2_with (go_at_call 80; refine (c2 _).mono ?_; clear c2; rintro e w' ⟨rfl, rfl⟩)
        have hmn := HM.out
        go_roundg m
        case measure => omega
        case rel => exact ⟨rfl, addM bP u u, o, rfl, rfl, rfl, HS.out, ho, hmb⟩

/-- raised: an element to a power, by multiplying. -/
theorem raised_any (a n : Nat) (hn : n < 1000) (w : World) :
    Calls Try.prog 95 #[.int .u64 a, .int .i64 n] w fun e w' => e = .returned (.int .u64 (powM bP a n : Nat)) ∧ w = w' := by
  have hn' : (n : Int) < 1000 := by omega
  clear hn
  go_enter Try.func95, Try.ntmps95
  go_wp2
  go_loopg [5, 6] n (fun m x i wr => wr = w ∧ ∃ k : Nat, k + m = n ∧ x = .int .u64 (powM bP a k : Nat) ∧ i = .int .i64 k)
  case atStart => exact ⟨rfl, 0, by omega, by rw [powM_zero (by decide)]; rfl, rfl⟩
  case round =>
    obtain ⟨rfl, k, hk, rfl, rfl⟩ := hrel
    by_cases h : k < n
    · have c1 := fun w => r1Mul_any (powM bP a k) a w
      rw [powM_succ] at c1
      obtain ⟨p, hp⟩ : ∃ p, p = powM bP a (k + 1) := ⟨_, rfl⟩
      rw [← hp] at c1
      have HP := Lib.hid hp
      have HK := Lib.hid hk
      have z1 : (k : Int) < n := by omega
      clear hp hk
      go_wp2_with (go_at_call 96; refine (c1 _).mono ?_; clear c1; rintro e w' ⟨rfl, rfl⟩)
      have hk := HK.out
      go_roundg (gk - 1)
      case measure => omega
      case rel => exact ⟨rfl, k + 1, by omega, by rw [HP.out], int_congr (by omega)⟩
    · obtain rfl : k = n := by omega
      clear hk
      go_wp2
      go_ret
      exact ⟨rfl, rfl⟩
end Go.Proofs.Ytaibpldolbemfaa

/- The document's Mix (greatsealref02), walked. -/
namespace Go.Proofs.Ytaibpldolbemfaa
open Go.RowKit Go.Shelf

theorem elem_ref (r i a : Nat) : powM bP (addM bP a (addM bP (powM bP (3 * r + i + 1) 3) 7)) 17 = elem r i a := by
  have e : addM bP a (addM bP (powM bP (3 * r + i + 1) 3) 7) = addM bP a ((3 * r + i + 1) * (3 * r + i + 1) * (3 * r + i + 1) + 7) := by
    unfold addM powM
    rw [Nat.pow_succ, Nat.pow_two]
    simp [Nat.add_mod]
  rw [e]; rfl

set_option maxRecDepth 100000 in
set_option maxHeartbeats 2000000 in
theorem round_any (s : Nat × Nat × Nat) (r : Nat) (hr : r < 8) (w : World) :
    Calls Try.prog 91 #[.agg (val3 s), .int .i64 r] w fun e w' => e = .returned (.agg (val3 (rnd r s))) ∧ Ext w w' := by
  obtain ⟨x, y, z⟩ := s
  obtain ⟨p, hp⟩ : ∃ p, p = elem r 0 x := ⟨_, rfl⟩
  obtain ⟨q, hq⟩ : ∃ q, q = elem r 1 y := ⟨_, rfl⟩
  obtain ⟨t, ht⟩ : ∃ t, t = elem r 2 z := ⟨_, rfl⟩
  obtain ⟨u, hu⟩ : ∃ u, u = addM bP p q := ⟨_, rfl⟩
  obtain ⟨al, hal⟩ : ∃ al, al = addM bP u t := ⟨_, rfl⟩
  have HR : Hid (val3 (rnd r (x, y, z)) = #[.int .u64 (addM bP p al : Nat), .int .u64 (addM bP q al : Nat), .int .u64 (addM bP t al : Nat)]) := by
    show _ = _
    unfold rnd; simp only [← hp, ← hq, ← ht, ← hu, ← hal]; rfl
  obtain ⟨n0, hn0⟩ : ∃ n, n = 3 * r + 0 + 1 := ⟨_, rfl⟩
  obtain ⟨n1, hn1⟩ : ∃ n, n = 3 * r + 1 + 1 := ⟨_, rfl⟩
  obtain ⟨n2, hn2⟩ : ∃ n, n = 3 * r + 2 + 1 := ⟨_, rfl⟩
  have hx := elem_ref r 0 x
  have hy := elem_ref r 1 y
  have hz := elem_ref r 2 z
  rw [← hn0, ← hp] at hx
  rw [← hn1, ← hq] at hy
  rw [← hn2, ← ht] at hz
  have a1 := fun w => raised_any n0 3 (by omega) w
  have a2 := fun w => r1Add_any (powM bP n0 3) 7 w
  have a3 := fun w => r1Add_any x (addM bP (powM bP n0 3) 7) w
  have a4 := fun w => raised_any (addM bP x (addM bP (powM bP n0 3) 7)) 17 (by omega) w
  rw [hx] at a4
  have b1 := fun w => raised_any n1 3 (by omega) w
  have b2 := fun w => r1Add_any (powM bP n1 3) 7 w
  have b3 := fun w => r1Add_any y (addM bP (powM bP n1 3) 7) w
  have b4 := fun w => raised_any (addM bP y (addM bP (powM bP n1 3) 7)) 17 (by omega) w
  rw [hy] at b4
  have c1 := fun w => raised_any n2 3 (by omega) w
  have c2 := fun w => r1Add_any (powM bP n2 3) 7 w
  have c3 := fun w => r1Add_any z (addM bP (powM bP n2 3) 7) w
  have c4 := fun w => raised_any (addM bP z (addM bP (powM bP n2 3) 7)) 17 (by omega) w
  rw [hz] at c4
  have sg : ∀ a b w, Calls Try.prog 80 #[.int .u64 (a : Nat), .int .u64 (b : Nat)] w fun e w' => e = .returned (.int .u64 (addM bP a b : Nat)) ∧ w' = w := fun a b w => (r1Add_any a b w).mono fun e w' h => ⟨h.1, h.2.symm⟩
  have g1 : addM bP p q = u := hu.symm
  have g2 : addM bP u t = al := hal.symm
  have d1 := fun w => r1Add_any p al w
  have d2 := fun w => r1Add_any q al w
  have d3 := fun w => r1Add_any t al w
  generalize powM bP n0 3 = m0 at *
  generalize powM bP n1 3 = m1 at *
  generalize powM bP n2 3 = m2 at *
  generalize addM bP m0 7 = v0 at *
  generalize addM bP m1 7 = v1 at *
  generalize addM bP m2 7 = v2 at *
  generalize addM bP x v0 = w0 at *
  generalize addM bP y v1 = w1 at *
  generalize addM bP z v2 = w2 at *
  have z0 : (r : Int) < 8 := by omega
  have k0 : 3 * (r : Int) + 1 = (n0 : Int) := by omega
  have k1 : (n0 : Int) + 1 = (n1 : Int) := by omega
  have k2 : 3 * (r : Int) + 2 + 1 = (n2 : Int) := by omega
  have y0 : (n0 : Int) < 30 := by omega
  have y1 : (n1 : Int) < 30 := by omega
  have y2 : (n2 : Int) < 30 := by omega
  rw [HR.out]
  clear hp hq ht hu hal hn0 hn1 hn2 hx hy hz hr HR
  simp only [val3]
  generalize addM bP p al = o0 at *
  generalize addM bP q al = o1 at *
  generalize addM bP t al = o2 at *
  go_enter Try.func91, Try.ntmps91
  go_wp2
  refine wp_loop_rounds 4 ?_
  rw [rounds_succ]
  go_wp2_with (first | (go_at_call 95; refine (a1 _).mono ?_; clear a1; rintro e w' ⟨rfl, rfl⟩) | (go_at_call 80; refine (a2 _).mono ?_; clear a2; rintro e w' ⟨rfl, rfl⟩) | (go_at_call 80; refine (a3 _).mono ?_; clear a3; rintro e w' ⟨rfl, rfl⟩) | (go_at_call 95; refine (a4 _).mono ?_; clear a4; rintro e w' ⟨rfl, rfl⟩))
  rw [rounds_succ]
  go_wp2_with (first | (go_at_call 95; refine (b1 _).mono ?_; clear b1; rintro e w' ⟨rfl, rfl⟩) | (go_at_call 80; refine (b2 _).mono ?_; clear b2; rintro e w' ⟨rfl, rfl⟩) | (go_at_call 80; refine (b3 _).mono ?_; clear b3; rintro e w' ⟨rfl, rfl⟩) | (go_at_call 95; refine (b4 _).mono ?_; clear b4; rintro e w' ⟨rfl, rfl⟩))
  rw [rounds_succ]
  go_wp2_with (first | (go_at_call 95; refine (c1 _).mono ?_; clear c1; rintro e w' ⟨rfl, rfl⟩) | (go_at_call 80; refine (c2 _).mono ?_; clear c2; rintro e w' ⟨rfl, rfl⟩) | (go_at_call 80; refine (c3 _).mono ?_; clear c3; rintro e w' ⟨rfl, rfl⟩) | (go_at_call 95; refine (c4 _).mono ?_; clear c4; rintro e w' ⟨rfl, rfl⟩))
  rw [rounds_succ]
  go_wp2
  go_quiet ((go_at_call 80; exact Calls.quiet_of_same (sg _ _ _)))
  go_wp2
  refine wp_loop_rounds 4 ?_
  rw [rounds_succ]
  go_wp2_with ((go_at_call 80; refine (d1 _).mono ?_; clear d1; rintro e w' ⟨rfl, rfl⟩))
  rw [rounds_succ]
  go_wp2_with ((go_at_call 80; refine (d2 _).mono ?_; clear d2; rintro e w' ⟨rfl, rfl⟩))
  rw [rounds_succ]
  go_wp2_with ((go_at_call 80; refine (d3 _).mono ?_; clear d3; rintro e w' ⟨rfl, rfl⟩))
  rw [rounds_succ]
  go_wp2
  refine bodyPost_ret (v := .agg #[.int .u64 (o0 : Int), .int .u64 (o1 : Int), .int .u64 (o2 : Int)]) (by simp [results, Try.results91, go_sem]) rfl ⟨rfl, ?_⟩
  exact ((((((((((Ext.refl w).alloc _).alloc _).alloc _).drewN _).setCell (p := ⟨w.heap.size + 1 + 1, 0, none⟩) (by simp; omega) _).setCell (p := ⟨w.heap.size + 1 + 1, 1, none⟩) (by simp; omega) _).setCell (p := ⟨w.heap.size + 1 + 1, 2, none⟩) (by simp; omega) _).setCell (p := ⟨w.heap.size + 1, 0, none⟩) (by simp) _).setCell (p := ⟨w.heap.size + 1, 1, none⟩) (by simp) _).setCell (p := ⟨w.heap.size + 1, 2, none⟩) (by simp) _

theorem start2 (w : World) (c1 c2 : Array Value) (T1 T2 : TypeId) : ∃ W, ((w.alloc (.cells c1 T1)).alloc (.cells c2 T2)) = W ∧
    Blk W w.heap.size T1 c1 ∧ Blk W (w.heap.size + 1) T2 c2 ∧ Ext w W := by
  refine ⟨_, rfl, (Blk.new w T1 c1).alloc _, ?_, ((Ext.refl w).alloc _).alloc _⟩
  have := Blk.new (w.alloc (.cells c1 T1)) T2 c2
  simpa using this

set_option maxRecDepth 100000 in
set_option maxHeartbeats 1000000 in
/-- The document's Mix is Mix. -/
theorem rmix_any (s : Nat × Nat × Nat) (w : World) :
    Calls Try.prog 81 #[.agg (val3 s)] w fun e w' => e = .returned (.agg (val3 (mix s))) ∧ Ext w w' := by
  have cr : ∀ k, k < 8 → ∀ w, Calls Try.prog 91 #[.agg (val3 (rnds k s)), .int .i64 (k : Nat)] w fun e w' => e = .returned (.agg (val3 (rnds (k + 1) s))) ∧ Ext w w' := fun k hk w => round_any (rnds k s) k hk w
  unfold val3 at *
  go_enter Try.func81, Try.ntmps81
  go_wp2
  obtain ⟨W0, e0, b0, b1, x0⟩ := start2 w #[.int .u64 (s.1 : Int), .int .u64 (s.2.1 : Int), .int .u64 (s.2.2 : Int)] #[.int .u64 0, .int .u64 0, .int .u64 0] 86 86
  rw [e0]
  obtain ⟨g, hg⟩ : ∃ g, g = w.heap.size := ⟨_, rfl⟩
  rw [← hg] at b0 b1 ⊢
  have HG := Lib.hid hg
  clear e0 hg
  go_loopg [3] 8 (fun n i wr => ∃ k : Nat, k + n = 8 ∧ i = .int .i64 k ∧ Blk wr g 86 (val3 (rnds k s)) ∧ Blk wr (g + 1) 86 #[.int .u64 0, .int .u64 0, .int .u64 0] ∧ Ext w wr)
  case atStart => exact ⟨0, rfl, rfl, b0, b1, x0⟩
  case round =>
    obtain ⟨k, hk, rfl, hb, hb1, hx⟩ := hrel
    clear b0 b1
    have c0 := hb.cell 0
    have c1 := hb.cell 1
    have c2 := hb.cell 2
    simp [val3] at c0 c1 c2
    by_cases h : k < 8
    · have c := cr k h
      clear cr
      obtain ⟨u, hu⟩ : ∃ u, u = rnds k s := ⟨_, rfl⟩
      obtain ⟨v, hv⟩ : ∃ v, v = rnds (k + 1) s := ⟨_, rfl⟩
      rw [← hu] at c0 c1 c2 c hb
      rw [← hv] at c
      have HV := Lib.hid hv
      have HK := Lib.hid hk
      have HB := Lib.hid hb
      have HB1 := Lib.hid hb1
      have z0 : (k : Int) < 8 := by omega
      clear hu hv hk hb hb1
      go_wp2_with (fail)
      refine (c _).mono ?_
      rintro e W ⟨rfl, hw⟩
      have hb := HB.out.below hw.out HB.out.lt
      have hb1 := HB1.out.below hw.out HB1.out.lt
      have d0 := hb.cell 0
      have d1 := hb.cell 1
      have d2 := hb.cell 2
      have f0 := hb.frozen 0
      have f1 := hb.frozen 1
      have f2 := hb.frozen 2
      simp [val3] at d0 d1 d2
      have hk := HK.out
      have hxw := hx.trans hw
      have HB2 := Lib.hid hb
      have HB3 := Lib.hid hb1
      clear hb hb1 c c0 c1 c2 HB HB1
      go_wp2
      go_roundg (gk - 1)
      case measure => omega
      case rel =>
        refine ⟨k + 1, by omega, int_congr (by omega), ?_, ?_, ?_⟩
        · have := ((HB2.out.set_ 0 (.int .u64 (v.1 : Int))).set_ 1 (.int .u64 (v.2.1 : Int))).set_ 2 (.int .u64 (v.2.2 : Int))
          rw [← HV.out]
          simpa [val3] using this
        · exact ((HB3.out.far (p := ⟨g, 0, none⟩) (by simp) _).far (p := ⟨g, 1, none⟩) (by simp) _).far (p := ⟨g, 2, none⟩) (by simp) _
        · have hg := HG.out
          exact ((hxw.setCell (p := ⟨g, 0, none⟩) (by simp [hg]) _).setCell (p := ⟨g, 1, none⟩) (by simp [hg]) _).setCell (p := ⟨g, 2, none⟩) (by simp [hg]) _
    · obtain rfl : k = 8 := by omega
      have v0 := hb1.cell 0
      have v1 := hb1.cell 1
      have v2 := hb1.cell 2
      have f0 := hb1.frozen 0
      have f1 := hb1.frozen 1
      have f2 := hb1.frozen 2
      simp at v0 v1 v2
      clear hk hb hb1 cr
      obtain ⟨u, hu⟩ : ∃ u, u = rnds 8 s := ⟨_, rfl⟩
      rw [← hu] at c0 c1 c2
      have HU := Lib.hid hu
      clear hu
      go_wp2
      refine bodyPost_ret (v := .agg #[.int .u64 (u.1 : Int), .int .u64 (u.2.1 : Int), .int .u64 (u.2.2 : Int)]) (by simp [results, Try.results81, go_sem, v0, v1, v2]) rfl ⟨by rw [HU.out]; rfl, ?_⟩
      have hg := HG.out
      exact ((hx.setCell (p := ⟨g + 1, 0, none⟩) (by simp [hg]) _).setCell (p := ⟨g + 1, 1, none⟩) (by simp [hg]) _).setCell (p := ⟨g + 1, 2, none⟩) (by simp [hg]) _
end Go.Proofs.Ytaibpldolbemfaa
