/- The statements of the hash, walked: HashSteps. -/
import Derived.Test.YtckfifghipkedaaHaLive
import Derived.Test.YtckfifghipkedaaLater
import Derived.IntWalk
namespace Go.Proofs.Ytckfifghipkedaa
set_option linter.unusedVariables false
open Go.RowKit Go.Shelf
attribute [local irreducible] mix

/-- What is left to be soaked up, one by one. -/
def hs (i : Nat) (s : Nat × Nat × Nat) (l : List Nat) : Nat × Nat × Nat :=
  if i % 2 = 0 then soak s l else match l with
    | [] => s
    | y :: l => soak (mix (s.1, addM bP s.2.1 y, s.2.2)) l
theorem hs_nil (i : Nat) (s : Nat × Nat × Nat) : hs i s [] = s := by unfold hs; split <;> rfl
theorem hs_last (i : Nat) (s : Nat × Nat × Nat) (x : Nat) (h : i % 2 = 0) : hs i s [x] = mix (addM bP s.1 x, s.2.1, s.2.2) := by unfold hs; rw [if_pos h, soak_one]
theorem hs_even (i : Nat) (s : Nat × Nat × Nat) (x y : Nat) (l : List Nat) (h : i % 2 = 0) : hs i s (x :: y :: l) = hs (i + 1) (addM bP s.1 x, s.2.1, s.2.2) (y :: l) := by
  unfold hs; rw [if_pos h, if_neg (by omega), soak_two]
theorem hs_odd (i : Nat) (s : Nat × Nat × Nat) (y : Nat) (l : List Nat) (h : i % 2 = 1) : hs i s (y :: l) = hs (i + 1) (mix (s.1, addM bP s.2.1 y, s.2.2)) l := by
  unfold hs; rw [if_neg (by omega), if_pos (by omega)]

structure Sp2 (w W : World) (sb : Nat) (s : Nat × Nat × Nat) (A : Option Addr) (c : Nat) (L : List Nat) : Prop where
  sp : Blk W sb 23 (val3 s)
  row : Row W sb A c L
  ext : Ext w W
section
variable {w W W' : World} {sb c : Nat} {s m : Nat × Nat × Nat} {A : Option Addr} {L : List Nat}
theorem Sp2.set (h : Sp2 w W sb s A c L) (hws : w.heap.size ≤ sb) (k : Nat) (u : Value) (s' : Nat × Nat × Nat) (e : (val3 s).setIfInBounds k u = val3 s') : Sp2 w (W.setCell ⟨sb, k, none⟩ u) sb s' A c L :=
  ⟨by have := h.sp.set_ k u; rw [e] at this; exact this, h.row.set (p := ⟨sb, k, none⟩) rfl u, h.ext.setCell hws u⟩
theorem Sp2.draw1 (h : Sp2 w W sb s A c L) : Sp2 w W.drew sb s A c L := ⟨h.sp, h.row, h.ext.drew⟩
theorem Sp2.next (h : Sp2 w W sb s A c L) (x : Ext W W') : Sp2 w W' sb s A c L := ⟨ext_blk x h.sp, h.row.ext x, h.ext.trans x⟩
theorem Sp2.mixed (h : Sp2 w W sb s A c L) (hws : w.heap.size ≤ sb) :
    Sp2 w (((W.setCell ⟨sb, 0, none⟩ (.int .u64 (m.1 : Int))).setCell ⟨sb, 1, none⟩ (.int .u64 (m.2.1 : Int))).setCell ⟨sb, 2, none⟩ (.int .u64 (m.2.2 : Int))) sb m A c L :=
  ((h.set hws 0 _ (m.1, s.2.1, s.2.2) rfl).set hws 1 _ (m.1, m.2.1, s.2.2) rfl).set hws 2 _ m rfl
theorem Sp2.facts (h : Sp2 w W sb s A c L) : W.cell? ⟨sb, 0, none⟩ = some (.int .u64 (s.1 : Int)) ∧ W.cell? ⟨sb, 1, none⟩ = some (.int .u64 (s.2.1 : Int)) ∧ W.cell? ⟨sb, 2, none⟩ = some (.int .u64 (s.2.2 : Int)) ∧
    W.frozen? ⟨sb, 0, none⟩ = false ∧ W.frozen? ⟨sb, 1, none⟩ = false ∧ W.frozen? ⟨sb, 2, none⟩ = false := arr_facts h.sp
end

set_option maxRecDepth 100000 in
set_option maxHeartbeats 4000000 in
theorem walk_HashSteps (A : Option Addr) (c : Nat) (l : List Nat) (hc : l.length ≤ c) (_hcr : c ≤ 140737488351232) (hl : ∀ x ∈ l, x < 256) (w : World) (hr : Reads w w.heap.size 1 A l.length (bv l)) :
    Calls Try.prog 7 #[.slice A l.length c] w fun e w' => e = .returned (.bool true) ∧ Ext w w' := by
  have cl := fun W => live_any W
  by_cases h4 : 400 < l.length
  · have z1 : (400 : Int) < (l.length : Int) := by omega
    clear hr hl
    go_enter Try.func7, Try.ntmps7
    go_wp2_with (go_at_call 13; refine (cl _).mono ?_; clear cl; rintro e w1 ⟨rfl, x1⟩)
    go_ret
    exact ⟨rfl, x1⟩
  · have z1 : ¬ (400 : Int) < (l.length : Int) := by omega
    have cS := fun W (x : Ext w W) => Sum_any l hl (by omega) A c hc W ((hr.below x.out).more x.size)
    have cO := fun W (x : Ext w W) => fOf_any l hl (by omega) A c hc W ((hr.below x.out).more x.size)
    obtain ⟨s, hs0⟩ : ∃ s, s = (0, 0, l.length) := ⟨_, rfl⟩
    have hok0 : ok3 s := by rw [hs0]; exact ⟨(by decide : 0 < 18446744073709551616), (by decide : 0 < 18446744073709551616), by show l.length < _; omega⟩
    have HV : Hid (val3 s = #[.int .u64 0, .int .u64 0, .int .u64 (l.length : Int)]) := by show _ = _; rw [hs0]; rfl
    obtain ⟨T, hT⟩ : ∃ T, T = soakE true s (fOf l) := ⟨_, rfl⟩
    have hTT : hSum l = (T.1, T.2.1) := by rw [hT, hs0]; rfl
    rw [hTT] at cS
    have hL2 : ∀ x ∈ fOf l, x < 18446744073709551616 := by
      intro x hx
      simp only [fOf, List.mem_map] at hx
      obtain ⟨j, _, rfl⟩ := hx
      have := le_lt (ck l j) (fun y hy => hl y (List.mem_of_mem_drop (List.mem_of_mem_take hy)))
      have h7 : (ck l j).length ≤ 7 := by rw [ck_length]; unfold cLen; omega
      have := Nat.lt_of_lt_of_le this (Nat.pow_le_pow_right (by decide) h7)
      exact Nat.lt_trans this (by decide)
    obtain ⟨L, hL⟩ : ∃ L, L = fOf l := ⟨_, rfl⟩
    have hL1 : L.length ≤ 400 := by rw [hL]; unfold fOf; simp [cnt]; omega
    rw [← hL] at cO hT hL2
    have HT : Hid (T = if L = [] then mix s else hs 0 s L) := by
      show _ = _
      rw [hT]; unfold soakE hs
      by_cases h : L = []
      · rw [if_pos ⟨rfl, h⟩, if_pos h]
      · rw [if_neg (by simp [h]), if_neg h, if_pos rfl]
    have q1 := eq2_same (T.1 : Int) (T.2.1 : Int)
    have HL2 := Lib.hid hL2
    have HOK := Lib.hid hok0
    have hm1 : (l.length : Int) ≤ 400 := by omega
    clear hT hL hs0 hTT hr hl hL2 hok0 h4
    go_enter Try.func7, Try.ntmps7
    go_wp2_with (first
      | (go_at_call 13; refine (cl _).mono ?_; clear cl; rintro e w1 ⟨rfl, x1⟩)
      | (go_at_call 29; refine (cO _ x1).mono ?_; clear cO; rintro e W2 ⟨v, rfl, ho, hb⟩; obtain ⟨A2, c2, rfl, hrow⟩ := Row.of_own ho; clear ho))
    have x2 : Ext w W2 := x1.trans (Ext.of hb)
    obtain ⟨W3, e3, SP⟩ : ∃ W3, W2.alloc (.cells #[.int .u64 0, .int .u64 0, .int .u64 (l.length : Int)] 23) = W3 ∧ Sp2 w W3 W2.heap.size s A2 c2 L := by
      refine ⟨_, rfl, ?_, ?_, ?_⟩
      · rw [HV.out]; exact Blk.new _ _ _
      · exact hrow _
      · exact x2.alloc _
    rw [e3]
    obtain ⟨sb, hsb⟩ : ∃ sb, sb = W2.heap.size := ⟨_, rfl⟩
    have hws : w.heap.size ≤ sb := by have := x2.size; omega
    rw [← hsb] at SP
    rw [← hsb]
    clear hrow hb e3 hsb HV x2
    obtain ⟨n, hn⟩ : ∃ n, n = L.length := ⟨_, rfl⟩
    have hni : (n : Int) ≤ 400 := by omega
    rw [← hn]
    have HN := Lib.hid hn
    clear hn hL1
    go_loopg [6] n (fun g s6 wr => ∃ (i : Nat) (s : Nat × Nat × Nat), s6 = .int .i64 i ∧ i + g = n ∧ ok3 s ∧ T = (if L = [] then mix s else hs i s (L.drop i)) ∧ Sp2 w wr sb s A2 c2 L)
    case atStart => exact ⟨0, s, rfl, by omega, HOK.out, HT.out, SP⟩
    case round =>
      obtain ⟨i, s, rfl, hi, hok, hT, hsp⟩ := hrel
      clear SP HT HOK
      obtain ⟨s0, s1, s2, f0, f1, f2⟩ := hsp.facts
      have HS := Lib.hid hsp
      have HI := Lib.hid hi
      have HO := Lib.hid hok
      have c2n : (n : Int) ≤ c2 := by have := hsp.row.1; rw [← HN.out] at this; omega
      by_cases hin : i < n
      · obtain ⟨x, hx⟩ : ∃ x, L[i]? = some x := ⟨_, List.getElem?_eq_getElem (by rw [← HN.out]; exact hin)⟩
        obtain ⟨g, rfl, hgs⟩ := hsp.row.ptr (by rw [← HN.out]; omega)
        have hcx := hsp.row.at_ hx
        have hx64 := HL2.out x (List.mem_of_getElem? hx)
        have hd : L.drop i = x :: L.drop (i + 1) := by rw [List.drop_eq_getElem_cons (by rw [← HN.out]; exact hin)]; congr 1; rw [List.getElem?_eq_some_iff] at hx; exact hx.2
        have hne : L ≠ [] := by intro h; rw [h] at hd; simp at hd
        rw [if_neg hne, hd] at hT
        have z2 : (i : Int) < n := by omega
        have z3 : 1 ≤ (n : Int) := by omega
        rcases Nat.mod_two_eq_zero_or_one i with h2 | h2
        · have kq : (i : Int) % 2 = 0 := by omega
          have kt : (i : Int).tmod 2 = 0 := by rw [Int.tmod_eq_emod_of_nonneg (by omega)]; exact kq
          have kw : IntKind.i64.wrap ((i : Int).tmod 2) = 0 := by rw [kt]; rfl
          have cA := fun W => fAdd_any s.1 x hok.1 hx64 W
          obtain ⟨p, hp⟩ : ∃ p, p = addM bP s.1 x := ⟨_, rfl⟩
          have hp64 : p < 18446744073709551616 := by rw [hp]; exact Nat.lt_trans (addM_lt' (by decide) _ _) (by decide)
          rw [← hp] at cA
          have hok1 : ok3 (p, s.2.1, s.2.2) := ⟨hp64, hok.2.1, hok.2.2⟩
          by_cases hlast : i + 1 = n
          · have hdr : L.drop (i + 1) = [] := List.drop_eq_nil_of_le (by rw [← HN.out]; omega)
            rw [hdr, hs_last _ _ _ h2, ← hp] at hT
            obtain ⟨m, hm⟩ : ∃ m, m = mix (p, s.2.1, s.2.2) := ⟨_, rfl⟩
            have mx := fun W => mix_any (p, s.2.1, s.2.2) hok1 W
            have hmo : ok3 m := by rw [hm]; exact mix_ok hok1
            rw [← hm] at hT mx
            unfold val3 at mx
            have HT : Hid (T = if L = [] then mix m else hs (i + 1) m (L.drop (i + 1))) := by show _ = _; rw [if_neg hne, hdr, hs_nil, hT]
            have z4 : (i : Int) = (n : Int) - 1 := by omega
            have z5 : ((i : Int) == (n : Int) - 1) = true := by simp; omega
            have hp1 := (hsp.set hws 0 (.int .u64 (p : Int)) (p, s.2.1, s.2.2) rfl).draw1
            have HP2 := Lib.hid hp1
            have HMO := Lib.hid hmo
            have HL := Lib.hid hlast
            have HF1 := Lib.hid f1
            clear hT hm hp hd hsp hdr hx hi hok hin hne hx64 hp64 hok1 hmo hlast h2 hp1 f1 f2 z4 s1 s2
            go_wp2
            go_region_with ((go_at_call 30; refine (cA _).mono ?_; clear cA; rintro e w' ⟨rfl, rfl⟩))
            all_goals (
              obtain ⟨W5, e5⟩ : ∃ W5, (wr.setCell ⟨sb, 0, none⟩ (.int .u64 (p : Int))).drew = W5 := ⟨_, rfl⟩
              rw [e5] at HP2
              rw [e5]
              obtain ⟨s0, s1, s2, f0, f1, f2⟩ := HP2.out.facts
              clear e5
              go_wp2_with (go_at_call 14; refine (mx _).mono ?_; clear mx; rintro e W6 ⟨rfl, hx6⟩; obtain ⟨s0, s1, s2, f0, f1, f2⟩ := (HP2.out.next hx6).facts)
              have hi := HI.out
              have hl := HL.out
              go_roundg (gk - 1)
              case measure => omega
              case rel => exact ⟨i + 1, m, int_congr (by omega), by omega, HMO.out, HT.out, (HP2.out.next hx6).mixed hws⟩)
          · obtain ⟨y, l', hd1⟩ : ∃ y l', L.drop (i + 1) = y :: l' := by
              rw [List.drop_eq_getElem_cons (by rw [← HN.out]; omega)]; exact ⟨_, _, rfl⟩
            rw [hd1, hs_even _ _ _ _ _ h2, ← hp, ← hd1] at hT
            have HT : Hid (T = if L = [] then mix (p, s.2.1, s.2.2) else hs (i + 1) (p, s.2.1, s.2.2) (L.drop (i + 1))) := by show _ = _; rw [if_neg hne, hT]
            have z5 : ((i : Int) == (n : Int) - 1) = false := by simp; omega
            have hp1 := (hsp.set hws 0 (.int .u64 (p : Int)) (p, s.2.1, s.2.2) rfl).draw1
            have HP2 := Lib.hid hp1
            have HMO := Lib.hid hok1
            clear hT hp hd hd1 hsp hx hi hok hin hne hx64 hp64 hok1 hlast h2 hp1 f1 f2 s1 s2
            go_wp2
            go_region_with ((go_at_call 30; refine (cA _).mono ?_; clear cA; rintro e w' ⟨rfl, rfl⟩))
            all_goals (
              obtain ⟨W5, e5⟩ : ∃ W5, (wr.setCell ⟨sb, 0, none⟩ (.int .u64 (p : Int))).drew = W5 := ⟨_, rfl⟩
              rw [e5] at HP2
              rw [e5]
              clear e5 s0 f0 hcx
              go_wp2_with (fail)
              have hi := HI.out
              go_roundg (gk - 1)
              case measure => omega
              case rel => exact ⟨i + 1, (p, s.2.1, s.2.2), int_congr (by omega), by omega, HMO.out, HT.out, HP2.out⟩)
        · have kq : (i : Int) % 2 = 1 := by omega
          have kt : (i : Int).tmod 2 = 1 := by rw [Int.tmod_eq_emod_of_nonneg (by omega)]; exact kq
          have kw : IntKind.i64.wrap ((i : Int).tmod 2) = 1 := by rw [kt]; rfl
          have cA := fun W => fAdd_any s.2.1 x hok.2.1 hx64 W
          obtain ⟨p, hp⟩ : ∃ p, p = addM bP s.2.1 x := ⟨_, rfl⟩
          have hp64 : p < 18446744073709551616 := by rw [hp]; exact Nat.lt_trans (addM_lt' (by decide) _ _) (by decide)
          rw [← hp] at cA
          have hok1 : ok3 (s.1, p, s.2.2) := ⟨hok.1, hp64, hok.2.2⟩
          rw [hs_odd _ _ _ _ h2, ← hp] at hT
          obtain ⟨m, hm⟩ : ∃ m, m = mix (s.1, p, s.2.2) := ⟨_, rfl⟩
          have mx := fun W => mix_any (s.1, p, s.2.2) hok1 W
          have hmo : ok3 m := by rw [hm]; exact mix_ok hok1
          rw [← hm] at hT mx
          unfold val3 at mx
          have HT : Hid (T = if L = [] then mix m else hs (i + 1) m (L.drop (i + 1))) := by show _ = _; rw [if_neg hne, hT]
          have hp1 := (hsp.set hws 1 (.int .u64 (p : Int)) (s.1, p, s.2.2) rfl).draw1
          have HP2 := Lib.hid hp1
          have HMO := Lib.hid hmo
          clear hT hm hp hd hsp hx hi hok hin hne hx64 hp64 hok1 hmo h2 hp1 f0 f2 s0 s2
          go_wp2
          go_region_with ((go_at_call 30; refine (cA _).mono ?_; clear cA; rintro e w' ⟨rfl, rfl⟩))
          all_goals (
            obtain ⟨W5, e5⟩ : ∃ W5, (wr.setCell ⟨sb, 1, none⟩ (.int .u64 (p : Int))).drew = W5 := ⟨_, rfl⟩
            rw [e5] at HP2
            rw [e5]
            obtain ⟨s0, s1, s2, f0, f1, f2⟩ := HP2.out.facts
            clear e5
            go_wp2_with (go_at_call 14; refine (mx _).mono ?_; clear mx; rintro e W6 ⟨rfl, hx6⟩; obtain ⟨s0, s1, s2, f0, f1, f2⟩ := (HP2.out.next hx6).facts)
            have hi := HI.out
            go_roundg (gk - 1)
            case measure => omega
            case rel => exact ⟨i + 1, m, int_congr (by omega), by omega, HMO.out, HT.out, (HP2.out.next hx6).mixed hws⟩)
      · obtain rfl : i = n := by omega
        have z2 : ¬ (i : Int) < i := by omega
        by_cases h0 : i = 0
        · have hLn : L = [] := List.eq_nil_of_length_eq_zero (by rw [← HN.out]; exact h0)
          rw [if_pos hLn] at hT
          have mx := fun W => mix_any s hok W
          rw [← hT] at mx
          unfold val3 at mx
          subst h0
          clear hT hsp hi hok hin hLn
          go_wp2_with (go_at_call 14; refine (mx _).mono ?_; clear mx; rintro e W6 ⟨rfl, hx6⟩; obtain ⟨s0, s1, s2, f0, f1, f2⟩ := (HS.out.next hx6).facts)
          have hz := (HS.out.next hx6).mixed (m := T) hws
          obtain ⟨W7, e7⟩ : ∃ W7, ((W6.setCell ⟨sb, 0, none⟩ (.int .u64 (T.1 : Int))).setCell ⟨sb, 1, none⟩ (.int .u64 (T.2.1 : Int))).setCell ⟨sb, 2, none⟩ (.int .u64 (T.2.2 : Int)) = W7 := ⟨_, rfl⟩
          rw [e7] at hz ⊢
          have y0 := hz.ext
          obtain ⟨t0, t1, -⟩ := hz.facts
          have k0 := fun i : Later W7 => i.cell t0
          have k1 := fun i : Later W7 => i.cell t1
          refine wp_region_later (by kernel_rfl) (by kernel_rfl) ?_
          repeat (go_big_quiet_step ((go_at_call 16; exact Later.calls (cS _ (y0.trans (Later.ext _))))))
          refine wpQuiet_nil ?_
          rintro _ ⟨⟨W', xW⟩, rfl⟩
          go_wp2
          go_ret
          exact ⟨rfl, y0.trans xW⟩
        · have hLn : L ≠ [] := by intro h; rw [h] at HN; exact h0 HN.out
          rw [if_neg hLn, List.drop_eq_nil_of_le (by rw [← HN.out]; exact Nat.le_refl _), hs_nil] at hT
          rw [← hT] at s0 s1
          have y0 := hsp.ext
          have z3 : ((i : Int) == 0) = false := by simp; omega
          have k0 := fun i : Later wr => i.cell s0
          have k1 := fun i : Later wr => i.cell s1
          clear hT hsp hi hok hin hLn h0
          go_wp2
          refine wp_region_later (by kernel_rfl) (by kernel_rfl) ?_
          repeat (go_big_quiet_step ((go_at_call 16; exact Later.calls (cS _ (y0.trans (Later.ext _))))))
          refine wpQuiet_nil ?_
          rintro _ ⟨⟨W', xW⟩, rfl⟩
          go_wp2
          go_ret
          exact ⟨rfl, y0.trans xW⟩
end Go.Proofs.Ytckfifghipkedaa
