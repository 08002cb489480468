/- Parts of the proofs, put together: Sh13, Sh14, Sh15, ShLaw, Open, Open3. -/
import Derived.ProofKit
import Derived.OpenShut
import Derived.ShutString
import Derived.ChangeOld
import Derived.SizedLaws
import Derived.Lib.SmallJoins
import Derived.Deep.Matrix
import Derived.Deep.SlicePairs
import Derived.Test.YtaibpldolbemfaaG4
import Derived.Test.YtaibpldolbemfaaG8
/- Shares, walked: Split of the document; Split of whatever. -/
namespace Go.Proofs.Ytaibpldolbemfaa
set_option linter.unusedVariables false
open Go.RowKit Go.Shelf Go.Maps
attribute [local irreducible] atN prodN sumN wantN mix hSum hNum coefN evZ

set_option maxRecDepth 100000 in
set_option maxHeartbeats 4000000 in
theorem rSplit_ok (secret tn nn : Nat) (seed : List Nat) (h1 : 1 ≤ tn) (h2 : tn ≤ nn) (h3 : nn ≤ 7) (hs : secret < bR) (hseed : ∀ x ∈ seed, x < 256) (hl : seed.length ≤ 1000) (A : Option Addr) (c : Nat) (hc : seed.length ≤ c) (w : World) (hr : Reads w w.heap.size 1 A seed.length (bv seed)) :
    Calls Try.prog 14 #[.int .u64 (secret : Int), .int .i64 (tn : Int), .int .i64 (nn : Int), .slice A seed.length c] w fun e w' => ∃ A' c', e = .returned (.tuple #[.slice A' nn c', .int .i64 0]) ∧ nn ≤ c' ∧ Reads w' w'.heap.size 2 A' nn (sv (splitL secret tn nn seed)) ∧ Ext w w' := by
  obtain ⟨i0, hi, hz0, hz1, hz2⟩ := info_parts Try.infoU64
  obtain ⟨i1, hi1, hz3, hz4, hz5⟩ := info_parts Try.infoSh
  have z1 : ¬ (tn : Int) < 1 := by omega
  have z2 : ¬ (nn : Int) < (tn : Int) := by omega
  have z3 : ¬ (7 : Int) < (nn : Int) := by omega
  have z4 : decide ((1152921504606845789 : Int) ≤ (secret : Int)) = false := dec_nge (by unfold bR at hs; omega)
  have ht7 : tn ≤ 7 := by omega
  have HR := Lib.hid hr
  have HSD := Lib.hid hseed
  have HL := Lib.hid hl
  have HC := Lib.hid hc
  have HS := Lib.hid hs
  have H1 := Lib.hid h1
  clear hr hseed hl hc hs h1 h2
  go_enter Try.func14, Try.ntmps14
  go_wp2
  clear z1 z2 z4
  go_loopg [10, 11] tn (fun m s10 s11 wr => ∃ j : Nat, 1 ≤ j ∧ j + m = tn + 1 ∧ s11 = .int .i64 j ∧ wr.ownsRow w.heap.size 22 1 s10 ((polyN secret tn seed).take j).length (uv ((polyN secret tn seed).take j)) ∧ Ext w wr)
  case atStart =>
    refine ⟨1, Nat.le_refl _, by omega, rfl, ?_, (Ext.refl w).alloc _⟩
    have e : (polyN secret tn seed).take 1 = [secret] := by rw [List.take_add_one, polyN_at secret tn seed (by have := H1.out; omega)]; rfl
    rw [e]
    exact own_new w w.heap.size w.heap.size rfl (Nat.le_refl _) 22 (.int .u64 (secret : Int))
  case round =>
    obtain ⟨j, hj1, hj, rfl, hown, hx⟩ := hrel
    have hlen : ((polyN secret tn seed).take j).length ≤ 7 := by rw [List.length_take, polyN_length]; omega
    by_cases h : j < tn
    · have hjb : (j : Int) ≤ 7 := by omega
      have hjt : (j : Int) < tn := by omega
      have pa := polyN_at secret tn seed h
      rw [if_neg (by omega)] at pa
      have e1 : (polyN secret tn seed).take (j + 1) = (polyN secret tn seed).take j ++ [coefN seed j] := by rw [List.take_add_one, pa]; rfl
      obtain ⟨ta, tb, ha, hb', hnm, -, cT⟩ := TagShare seed HSD.out HL.out j (by omega)
      have cN := fun W => rNum_any ta tb bR (by decide) W
      rw [hnm, show bR = 1152921504606845789 from rfl] at cN
      simp only [Int.cast_ofNat_Int] at cN
      have kw : IntKind.u8.wrap (j : Int) = (j : Int) := by rw [IntKind.wrap_u8]; omega
      obtain ⟨co, hco⟩ : ∃ q, q = coefN seed j := ⟨_, rfl⟩
      rw [← hco] at cN e1
      obtain ⟨pre, hpre⟩ : ∃ q, q = (polyN secret tn seed).take j := ⟨_, rfl⟩
      rw [← hpre] at hlen e1 hown
      unfold shareS at cT
      have xV : Ext w (wr.alloc (.cells #[.int .u8 (j : Int)] 5)) := hx.alloc _
      have pT := fun T => parts_share (T := T) HC.out ((HR.out.below xV.out).more xV.size) (Nat.le_refl 1) (byte_reads wr 5 j)
      rw [World.size_alloc] at pT
      have cT1 := fun T => cT _ _ (pT T)
      have HP := Lib.hid xV
      have HE := Lib.hid e1
      have HX := Lib.hid hx
      have HJ := Lib.hid hj
      have HLEN := Lib.hid hlen
      clear ha hb' hnm hco cT pT xV hj hx pa e1 hlen hpre
      go_wp2_with (first
        | (go_at_call 36; refine (cT1 _).mono ?_; clear cT1; rintro e w2 ⟨rfl, x2⟩; have O2 := own_ext ((hown.alloc _).alloc _) x2; have X2 := Lib.hid ((HP.out.alloc _).trans x2))
        | (go_at_call 35; refine (cN _).mono ?_; clear cN; rintro e w3 ⟨rfl, x3⟩; have O3 := own_ext O2 x3; have X3 := Lib.hid (X2.out.trans x3))
        | (at_builtin; refine wpList_append_own _ rfl (.tmp 36) (.tmp 44) 52 rfl w.heap.size 22 i0 (.int .u64 0) 1 8 Try.underlying52 hi hz0 hz1 hz2 rfl (by decide) _ _ _ rfl (O3.alloc _) ⟨w3.heap.size, 0, none⟩ 1 1 [.int .u64 (co : Int)] rfl rfl (cell_one_new _ _ _) (by simp [Value.oneCell']) (by have := HLEN.out; simp only [maxLen]; omega) (by have := HLEN.out; omega) (by have := X3.out.size; simp; omega) ?_; intro v4 w4 hown4 hg4 _))
      have X4 := ext_grown (X3.out.alloc _) (O3.alloc _) hg4
      have O4 : Hid (w4.ownsRow w.heap.size 22 1 v4 ((polyN secret tn seed).take (j + 1)).length (uv ((polyN secret tn seed).take (j + 1)))) := by
        show World.ownsRow _ _ _ _ _ _ _
        rw [HE.out, List.length_append, uv_append]
        exact hown4
      clear hown4 hg4 O3 O2 hown
      have hj := HJ.out
      go_wp2
      go_roundg (gk - 1)
      case measure => omega
      case rel => exact ⟨j + 1, by omega, by omega, int_congr (by omega), O4.out, X4⟩
    · have hjt : ¬ (j : Int) < tn := by omega
      have e1 : (polyN secret tn seed).take j = polyN secret tn seed := List.take_of_length_le (by rw [polyN_length]; omega)
      rw [e1] at hown
      obtain ⟨wo, hwo⟩ : ∃ wo : World, wo = wr := ⟨_, rfl⟩
      rw [← hwo] at hown hx ⊢
      clear hwo
      obtain ⟨A', c', rfl, hc', hr'⟩ := own_slice hown
      have hpl := polyN_length secret tn seed
      have hpr := polyN_lt HS.out tn seed
      have hsp : ∀ k, k < nn → (splitL secret tn nn seed)[k]? = some (((k + 1 : Nat) : Int), evZ (polyN secret tn seed) (k + 1) % bR) := fun k hk => splitL_at secret tn nn seed hk
      have hsl := splitL_length secret tn nn seed
      obtain ⟨poly, hpoly⟩ : ∃ q, q = polyN secret tn seed := ⟨_, rfl⟩
      obtain ⟨sl, hslq⟩ : ∃ q, q = splitL secret tn nn seed := ⟨_, rfl⟩
      rw [← hpoly] at hpl hpr hsp hr' hc' ⊢
      rw [← hslq] at hsp hsl
      have HSLQ := Lib.hid hslq
      have HSP := Lib.hid hsp
      have HSL := Lib.hid hsl
      have HRP := Lib.hid hr'
      have HPL := Lib.hid hpl
      have HPR := Lib.hid hpr
      have HX := Lib.hid hx
      clear hown hr' hpl hpr hsp hsl hx hj hlen e1 hslq hpoly
      go_wp2
      go_loopg [12, 13] nn (fun m s12 s13 wz => ∃ k : Nat, k + m = nn ∧ s13 = .int .i64 ((k + 1 : Nat) : Int) ∧ wz.ownsRow wo.heap.size 43 2 s12 (sl.take k).length (sv (sl.take k)) ∧ Ext wo wz)
      case atStart => exact ⟨0, by omega, rfl, own_empty wo _ _ rfl (Nat.le_refl _) _ _, (Ext.refl wo).alloc _⟩
      case round =>
        obtain ⟨k, hk, rfl, hown, hx⟩ := hrel
        by_cases h' : k < nn
        · have e1 : sl.take (k + 1) = sl.take k ++ [(((k + 1 : Nat) : Int), evZ poly (k + 1) % bR)] := by rw [List.take_add_one, HSP.out k h']; rfl
          have hlen : (sl.take k).length ≤ 7 := by rw [List.length_take, HSL.out]; omega
          obtain ⟨x, hxk⟩ : ∃ x, x = k + 1 := ⟨_, rfl⟩
          rw [← hxk]
          have hxb : x < bR := by unfold bR; omega
          have hxn : (x : Int) ≤ nn := by omega
          have hn7 : (nn : Int) ≤ 7 := by omega
          have kx : IntKind.u64.wrap (x : Int) = (x : Int) := by rw [IntKind.wrap_u64]; omega
          have cv := fun (W : World) (xW : Ext wo W) => value_any poly HPR.out x hxb A' c' (by rw [HPL.out]; exact ht7) W ((HRP.out.below xW.out).more xW.size)
          have e2 : sl.take x = sl.take k ++ [((x : Int), evZ poly x % bR)] := by rw [hxk]; exact e1
          obtain ⟨v, hv⟩ : ∃ t, t = evZ poly x % bR := ⟨_, rfl⟩
          rw [← hv] at cv e2
          obtain ⟨pre, hpre⟩ : ∃ q, q = sl.take k := ⟨_, rfl⟩
          rw [← hpre] at hlen e2 hown
          have HE := Lib.hid e2
          have HX2 := Lib.hid hx
          have HK := Lib.hid hk
          have HLEN := Lib.hid hlen
          have HXK := Lib.hid hxk
          clear e1 e2 hx hk hlen hxk hxb hv hpre
          go_wp2_with (first
            | (go_at_call 37; refine (cv _ HX2.out).mono ?_; clear cv; rintro e w2 ⟨rfl, x2⟩; have O2 := own_ext hown x2; have X2 := Lib.hid (HX2.out.trans x2))
            | (at_builtin; refine wpList_append_own _ rfl (.tmp 52) (.tmp 59) 24 rfl wo.heap.size 43 i1 (.agg #[.int .i64 0, .int .u64 0]) 2 16 Try.underlying24 hi1 hz3 hz4 hz5 rfl (by decide) _ _ _ rfl (O2.alloc _) ⟨w2.heap.size, 0, none⟩ 1 1 [.int .i64 (x : Int), .int .u64 (v : Int)] rfl rfl (cell_two_new _ _ _ _) (by simp [Value.oneCell']) (by have := HLEN.out; simp only [maxLen]; omega) (by have := HLEN.out; omega) (by have := X2.out.size; simp; omega) ?_; intro v4 w4 hown4 hg4 _))
          have X4 := ext_grown (X2.out.alloc _) (O2.alloc _) hg4
          have O4 : Hid (w4.ownsRow wo.heap.size 43 2 v4 (sl.take (k + 1)).length (sv (sl.take (k + 1)))) := by
            show World.ownsRow _ _ _ _ _ _ _
            rw [← HXK.out, HE.out, List.length_append, sv_append]
            exact hown4
          clear hown4 hg4 O2 hown
          have hk := HK.out
          have hxk := HXK.out
          go_wp2
          go_roundg (gk - 1)
          case measure => omega
          case rel => exact ⟨k + 1, by omega, int_congr (by omega), O4.out, X4⟩
        · have hkk : ¬ (((k + 1 : Nat)) : Int) ≤ (nn : Int) := by omega
          obtain rfl : k = nn := by omega
          rw [List.take_of_length_le (by rw [HSL.out]; exact Nat.le_refl _)] at hown
          rw [HSL.out] at hown
          obtain ⟨A2, c2, rfl, hc2, hr2⟩ := own_slice2 hown
          have HRR := Lib.hid hr2
          have HX5 := Lib.hid (HX.out.trans hx)
          clear hown hr2 hx hk
          go_wp2
          go_ret2
          exact ⟨_, _, rfl, hc2, by rw [← HSLQ.out]; exact HRR.out, HX5.out⟩
end Go.Proofs.Ytaibpldolbemfaa

/- Shares, walked: Split of whatever; the chapter's examples. Printed by gen_sh14.py. -/
namespace Go.Proofs.Ytaibpldolbemfaa
set_option linter.unusedVariables false
open Go.RowKit Go.Shelf Go.Maps
attribute [local irreducible] atN prodN sumN wantN mix hSum hNum coefN evZ

set_option maxRecDepth 100000 in
set_option maxHeartbeats 2000000 in
theorem Split_any (secret : Nat) (t n : Int) (seed : List Nat) (hseed : ∀ x ∈ seed, x < 256) (hl : seed.length ≤ 1000) (A : Option Addr) (c : Nat) (hc : seed.length ≤ c) (w : World) (hr : Reads w w.heap.size 1 A seed.length (bv seed)) :
    Calls Try.prog 13 #[.int .u64 (secret : Int), .int .i64 t, .int .i64 n, .slice A seed.length c] w fun e w' => ∃ A' c', e = .returned (.tuple #[.slice A' (spO secret t n seed).length c', .int .i64 (spE secret t n : Nat)]) ∧ (spO secret t n seed).length ≤ c' ∧ Reads w' w'.heap.size 2 A' (spO secret t n seed).length (sv (spO secret t n seed)) ∧ Ext w w' := by
  by_cases hb : spB secret t n = true
  · obtain ⟨h1, h2, h3, h4⟩ := of_decide_eq_true hb
    have e1 : spO secret t n seed = splitL secret t.toNat n.toNat seed := by unfold spO; rw [if_pos hb]
    have e2 : spE secret t n = 0 := by unfold spE; rw [if_pos hb]
    obtain ⟨tn, rfl⟩ : ∃ q : Nat, t = q := ⟨t.toNat, by omega⟩
    obtain ⟨nn, rfl⟩ : ∃ q : Nat, n = q := ⟨n.toNat, by omega⟩
    rw [e1, e2, splitL_length, Int.toNat_natCast, Int.toNat_natCast]
    exact Split_ok secret tn nn seed (by omega) (by omega) (by omega) h4 hseed hl A c hc w hr
  · have e1 : spO secret t n seed = [] := by unfold spO; rw [if_neg hb]
    have e2 : spE secret t n = 1 := by unfold spE; rw [if_neg hb]
    rw [e1, e2]
    have x0 := Ext.refl w
    by_cases h1 : t < 1
    · clear hr hseed hl hc hb e1 e2
      go_enter Try.func13, Try.ntmps13
      go_wp2
      go_ret2
      first | exact ⟨none, ⟨0, rfl⟩, Reads.none_, x0⟩ | exact ⟨none, 0, rfl, Nat.le_refl _, Reads.none_, x0⟩
    by_cases h2 : n < t
    · clear hr hseed hl hc hb e1 e2
      go_enter Try.func13, Try.ntmps13
      go_wp2
      go_ret2
      first | exact ⟨none, ⟨0, rfl⟩, Reads.none_, x0⟩ | exact ⟨none, 0, rfl, Nat.le_refl _, Reads.none_, x0⟩
    by_cases h3 : 7 < n
    · clear hr hseed hl hc hb e1 e2
      go_enter Try.func13, Try.ntmps13
      go_wp2
      go_ret2
      first | exact ⟨none, ⟨0, rfl⟩, Reads.none_, x0⟩ | exact ⟨none, 0, rfl, Nat.le_refl _, Reads.none_, x0⟩
    · have h4 : bR ≤ secret := Nat.le_of_not_lt fun h => hb (decide_eq_true ⟨by omega, by omega, by omega, h⟩)
      have d1 : decide ((secret : Int) ≥ 1152921504606845789) = true := dec_ge (by unfold bR at h4; omega)
      have d2 : (1152921504606845789 : Int) ≤ (secret : Int) := by unfold bR at h4; omega
      clear hr hseed hl hc hb e1 e2 h4
      go_enter Try.func13, Try.ntmps13
      go_wp2
      go_ret2
      first | exact ⟨none, ⟨0, rfl⟩, Reads.none_, x0⟩ | exact ⟨none, 0, rfl, Nat.le_refl _, Reads.none_, x0⟩

set_option maxRecDepth 100000 in
set_option maxHeartbeats 2000000 in
theorem rSplit_any (secret : Nat) (t n : Int) (seed : List Nat) (hseed : ∀ x ∈ seed, x < 256) (hl : seed.length ≤ 1000) (A : Option Addr) (c : Nat) (hc : seed.length ≤ c) (w : World) (hr : Reads w w.heap.size 1 A seed.length (bv seed)) :
    Calls Try.prog 14 #[.int .u64 (secret : Int), .int .i64 t, .int .i64 n, .slice A seed.length c] w fun e w' => ∃ A' c', e = .returned (.tuple #[.slice A' (spO secret t n seed).length c', .int .i64 (spE secret t n : Nat)]) ∧ (spO secret t n seed).length ≤ c' ∧ Reads w' w'.heap.size 2 A' (spO secret t n seed).length (sv (spO secret t n seed)) ∧ Ext w w' := by
  by_cases hb : spB secret t n = true
  · obtain ⟨h1, h2, h3, h4⟩ := of_decide_eq_true hb
    have e1 : spO secret t n seed = splitL secret t.toNat n.toNat seed := by unfold spO; rw [if_pos hb]
    have e2 : spE secret t n = 0 := by unfold spE; rw [if_pos hb]
    obtain ⟨tn, rfl⟩ : ∃ q : Nat, t = q := ⟨t.toNat, by omega⟩
    obtain ⟨nn, rfl⟩ : ∃ q : Nat, n = q := ⟨n.toNat, by omega⟩
    rw [e1, e2, splitL_length, Int.toNat_natCast, Int.toNat_natCast]
    exact rSplit_ok secret tn nn seed (by omega) (by omega) (by omega) h4 hseed hl A c hc w hr
  · have e1 : spO secret t n seed = [] := by unfold spO; rw [if_neg hb]
    have e2 : spE secret t n = 1 := by unfold spE; rw [if_neg hb]
    rw [e1, e2]
    have x0 := Ext.refl w
    by_cases h1 : t < 1
    · clear hr hseed hl hc hb e1 e2
      go_enter Try.func14, Try.ntmps14
      go_wp2
      go_ret2
      first | exact ⟨none, ⟨0, rfl⟩, Reads.none_, x0⟩ | exact ⟨none, 0, rfl, Nat.le_refl _, Reads.none_, x0⟩
    by_cases h2 : n < t
    · clear hr hseed hl hc hb e1 e2
      go_enter Try.func14, Try.ntmps14
      go_wp2
      go_ret2
      first | exact ⟨none, ⟨0, rfl⟩, Reads.none_, x0⟩ | exact ⟨none, 0, rfl, Nat.le_refl _, Reads.none_, x0⟩
    by_cases h3 : 7 < n
    · clear hr hseed hl hc hb e1 e2
      go_enter Try.func14, Try.ntmps14
      go_wp2
      go_ret2
      first | exact ⟨none, ⟨0, rfl⟩, Reads.none_, x0⟩ | exact ⟨none, 0, rfl, Nat.le_refl _, Reads.none_, x0⟩
    · have h4 : bR ≤ secret := Nat.le_of_not_lt fun h => hb (decide_eq_true ⟨by omega, by omega, by omega, h⟩)
      have d1 : decide ((secret : Int) ≥ 1152921504606845789) = true := dec_ge (by unfold bR at h4; omega)
      have d2 : (1152921504606845789 : Int) ≤ (secret : Int) := by unfold bR at h4; omega
      clear hr hseed hl hc hb e1 e2 h4
      go_enter Try.func14, Try.ntmps14
      go_wp2
      go_ret2
      first | exact ⟨none, ⟨0, rfl⟩, Reads.none_, x0⟩ | exact ⟨none, 0, rfl, Nat.le_refl _, Reads.none_, x0⟩
end Go.Proofs.Ytaibpldolbemfaa

/- Shares, walked: the chapter's examples (greatseallaw05.live). -/
namespace Go.Proofs.Ytaibpldolbemfaa
set_option linter.unusedVariables false
open Go.RowKit Go.Shelf Go.Maps

theorem at_calc1 : atN [1, 2] 1 0 = 2 := by
  unfold atN
  rw [List.foldl_cons, List.foldl_cons, List.foldl_nil, if_pos rfl, if_neg (by decide), invM_eq bR _ (by decide)]; decide +kernel
theorem at_calc2 : atN [1, 2] 2 0 = 1152921504606845788 := by
  unfold atN
  rw [List.foldl_cons, List.foldl_cons, List.foldl_nil, if_pos rfl, if_neg (by decide), invM_eq bR _ (by decide)]; decide +kernel
theorem live_w1 : wgtR [1, 2] 1 = .tuple #[.int .u64 2, .int .i64 0] := by
  unfold wgtR wgtV wgtE; rw [if_pos (by decide), if_pos (by decide), at_calc1]; rfl
theorem live_w2 : wgtR [1, 2] 2 = .tuple #[.int .u64 1152921504606845788, .int .i64 0] := by
  unfold wgtR wgtV wgtE; rw [if_pos (by decide), if_pos (by decide), at_calc2]; rfl
theorem live_j : joinR [(1, 5), (2, 7)] = .tuple #[.int .u64 3, .int .i64 0] := by
  rw [joinR_ok (by decide) (by decide)]
  show Value.tuple #[.int .u64 ((sumN [1, 2] 0 [(1, 5), (2, 7)] : Nat) : Int), .int .i64 0] = _
  unfold sumN
  rw [List.foldl_cons, List.foldl_cons, List.foldl_nil]
  show Value.tuple #[.int .u64 ((addM bR (addM bR 0 (mulM bR 5 (atN [1, 2] 1 0))) (mulM bR 7 (atN [1, 2] 2 0)) : Nat) : Int), .int .i64 0] = _
  rw [at_calc1, at_calc2]; rfl
theorem live_s : spO 9 1 2 [] = [(1, 9), (2, 9)] := by
  have h : spB 9 1 2 = true := by decide
  unfold spO
  rw [if_pos h]
  simp [splitL, polyN, evZ, bR, List.range_succ]
theorem live_se : spE 9 1 2 = 0 := by decide
theorem live_p : pubO [(1, 3)] = [(1, 64)] := by
  have h : mayB [(1, 3)] = true := by decide
  unfold pubO pubL; rw [if_pos h]; rfl
theorem live_pe : pubE [(1, 3)] = 0 := by decide
theorem in_64 : inB 64 = true := inB_base 3
theorem live_c1 : chkN 1 [(1, 64)] = 0 := by
  have e := chk_rest (t := 1) (l := [(1, 64)]) (by decide) (by decide) (by decide) (by simp [in_64]) (by decide)
  rw [e]; rfl
theorem live_c2 : chkN 2 [(1, 64)] = 50 := chk_few (t := 2) (l := [(1, 64)]) (by decide) (by decide) (.inr (by decide)) (by simp [in_64]) (by decide)
theorem ids_new (W : World) (T : TypeId) (a b : Int) : Reads (W.alloc (.cells #[.int .i64 a, .int .i64 b] T)) (W.alloc (.cells #[.int .i64 a, .int .i64 b] T)).heap.size 1 (some ⟨W.heap.size, 0, none⟩) 2 (iv [a, b]) := blk_reads (Blk.new W T #[.int .i64 a, .int .i64 b])
theorem shares_new (W : World) (T : TypeId) (l : List (Int × Nat)) : Reads (W.alloc (.cells (sv l).toArray T)) (W.alloc (.cells (sv l).toArray T)).heap.size 2 (some ⟨W.heap.size, 0, none⟩) l.length (sv l) := blk_reads2 (Blk.new W T _)

theorem add_two_eq (a : Addr) : a.add 2 = ⟨a.block, a.off + 2, none⟩ := by unfold Addr.add; simp
set_option maxRecDepth 100000 in
set_option maxHeartbeats 4000000 in
theorem live5_any (w : World) : Calls Try.prog 12 #[] w fun e w' => e = .returned (.bool true) ∧ Ext w w' := by
  have c1 := fun W => Split_any 9 1 2 [] (by simp) (by simp) none 0 (Nat.le_refl _) W Reads.none_
  rw [live_s, live_se] at c1
  have c2 := fun (W : World) T => Weight_any [1, 2] (by decide) 1 _ 2 (by decide) _ (ids_new W T 1 2)
  rw [live_w1] at c2
  have c3 := fun (W : World) T => Weight_any [1, 2] (by decide) 2 _ 2 (by decide) _ (ids_new W T 1 2)
  rw [live_w2] at c3
  have c4 := fun (W : World) T => Join_any [(1, 5), (2, 7)] (by unfold idsWf; decide) _ 2 (by decide) _ (shares_new W T [(1, 5), (2, 7)])
  rw [live_j] at c4
  have c5 := fun (W : World) T => shPublic_any [(1, 3)] (by unfold idsWf; decide) (by decide) _ 1 (by decide) _ (shares_new W T [(1, 3)])
  rw [live_p, live_pe] at c5
  have c6 := fun (W : World) => Join_any [] (by unfold idsWf; decide) none 0 (by decide) W Reads.none_
  rw [joinR_none] at c6
  have c7 := fun (W : World) A c hc hr => Check_any 1 [(1, 64)] (by unfold idsWf; decide) (by decide) A c hc (by decide) W hr
  rw [live_c1] at c7
  have c8 := fun (W : World) A c hc hr => Check_any 2 [(1, 64)] (by unfold idsWf; decide) (by decide) A c hc (by decide) W hr
  rw [live_c2] at c8
  simp only [Int.cast_ofNat_Int, List.length_cons, List.length_nil, Nat.reduceAdd, Nat.zero_add] at c1 c2 c3 c4 c5 c6 c7 c8
  have s4 : (sv [(1, 5), (2, 7)]).toArray = #[.int .i64 1, .int .u64 5, .int .i64 2, .int .u64 7] := rfl
  have s5 : (sv [(1, 3)]).toArray = #[.int .i64 1, .int .u64 3] := rfl
  rw [s4] at c4
  rw [s5] at c5
  clear s4 s5
  have x0 := Ext.refl w
  have hse := eqSh
  go_enter Try.func12, Try.ntmps12
  go_wp2_with (first
    | (go_at_call 13; refine (c1 _).mono ?_; clear c1; rintro e w1 ⟨A1, k1, rfl, hk1, r1, x1⟩; obtain ⟨ad1, rfl, -, -, -⟩ := reads_share r1 (k := 0) rfl)
    | (go_at_call 20; refine (c2 _ _).mono ?_; clear c2; rintro e w2 ⟨rfl, x2⟩)
    | (go_at_call 20; refine (c3 _ _).mono ?_; clear c3; rintro e w3 ⟨rfl, x3⟩)
    | (go_at_call 18; refine (c4 _ _).mono ?_; clear c4; rintro e w4 ⟨rfl, x4⟩)
    | (go_at_call 15; refine (c5 _ _).mono ?_; clear c5; rintro e w5 ⟨A5, k5, rfl, hk5, r5, x5⟩; obtain ⟨ad5, rfl, -, -, -⟩ := reads_share r5 (k := 0) rfl)
    | (go_at_call 18; refine (c6 _).mono ?_; clear c6; rintro e w6 ⟨rfl, x6⟩; have z6 := Lib.hid (((((((Ext.refl w1).alloc _).trans x2).alloc _).trans x3).alloc _).trans x4 |>.alloc _ |>.trans x5 |>.trans x6); have R1 := Lib.hid (r1.below z6.out.out); have R5 := Lib.hid (r5.below x6.out); obtain ⟨_, e', -, q0, q1⟩ := reads_share R1.out (k := 0) rfl; cases e'; obtain ⟨_, e', -, q2, q3⟩ := reads_share R1.out (k := 1) rfl; cases e'; obtain ⟨_, e', -, q4, q5⟩ := reads_share R5.out (k := 0) rfl; cases e'; simp only [Nat.zero_mul, add_zero', Nat.one_mul, add_two_eq, Int.cast_ofNat_Int] at q0 q1 q2 q3 q4 q5; have y7 := Lib.hid (x1.trans z6.out))
    | (go_at_call 22; refine (c7 _ _ _ hk5 (R5.out.more x6.size)).mono ?_; clear c7; rintro e w7 ⟨rfl, x7⟩)
    | (go_at_call 22; refine (c8 _ _ _ hk5 ((R5.out.below (x7.out.mono x6.size)).more (Nat.le_trans x6.size x7.size))).mono ?_; clear c8; rintro e w8 ⟨rfl, x8⟩))
  go_ret
  exact ⟨rfl, (y7.out.trans x7).trans x8⟩
end Go.Proofs.Ytaibpldolbemfaa

/- Statements of shares, walked: those that ask for the document's answer. -/
namespace Go.Proofs.Ytaibpldolbemfaa
set_option linter.unusedVariables false
open Go.RowKit Go.Shelf Go.Maps
attribute [local irreducible] atN prodN sumN wantN mix hSum hNum coefN evZ spO spE pubO pubE joinR wgtR chkN

theorem errno_same (n : Nat) (w : World) : ((n : Int) == (n : Int)) = true := by simp

set_option maxRecDepth 100000 in
set_option maxHeartbeats 2000000 in
theorem walk_ShareSplits (secret : Nat) (t n : Int) (A : Option Addr) (c : Nat) (seed : List Nat) (B : Option Addr) (d : Nat) (l : List (Int × Nat)) (hs : secret < 18446744073709551616) (ht : (Lit.int .i64 t).wf = true) (hn : (Lit.int .i64 n).wf = true) (hc : seed.length ≤ c) (hcr : c ≤ 140737488351232) (hseed : ∀ x ∈ seed, x < 256) (hd : l.length ≤ d) (hdr : d * 16 ≤ 140737488351232) (hw : idsWf l) (hX : ∀ s ∈ l, s.2 < 18446744073709551616) (w : World) (hr : Reads w w.heap.size 1 A seed.length (bv seed)) (hr2 : Reads w w.heap.size 2 B l.length (sv l)) :
    Calls Try.prog 3 #[.int .u64 secret, .int .i64 t, .int .i64 n, .slice A seed.length c, .slice B l.length d] w fun e w' => e = .returned (.bool true) ∧ Ext w w' := by
  have cl := fun W => live5_any W
  by_cases h : seed.length ≤ 300
  · have k1 : ¬ (300 : Int) < (seed.length : Int) := by omega
    by_cases h2 : l.length ≤ 10
    · have k2 : ¬ (10 : Int) < (l.length : Int) := by omega
      have c1 := fun (W : World) (x : Ext w W) => Split_any secret t n seed hseed (by omega) A c hc W ((hr.below x.out).more x.size)
      have c2 := fun (W : World) (x : Ext w W) => rSplit_any secret t n seed hseed (by omega) A c hc W ((hr.below x.out).more x.size)
      have c3 := fun (W : World) (x : Ext w W) => shPublic_any l hw hX B d (by omega) W ((hr2.below x.out).more x.size)
      have c4 := fun (W : World) (x : Ext w W) => rshPublic_any l hX B d (by omega) W ((hr2.below x.out).more x.size)
      have hpl : (spO secret t n seed).length ≤ 1099511627776 := by
        unfold spO
        split
        · rename_i hb
          obtain ⟨g1, g2, g3, g4⟩ := of_decide_eq_true hb
          rw [splitL_length]; omega
        · simp
      have hql : (pubO l).length ≤ 1099511627776 := by
        unfold pubO
        split
        · rw [pubL_length]; omega
        · simp
      obtain ⟨p, hp⟩ : ∃ p, p = spO secret t n seed := ⟨_, rfl⟩
      obtain ⟨q, hq⟩ : ∃ p, p = pubO l := ⟨_, rfl⟩
      obtain ⟨e1, he1⟩ : ∃ p, p = spE secret t n := ⟨_, rfl⟩
      obtain ⟨e2, he2⟩ : ∃ p, p = pubE l := ⟨_, rfl⟩
      rw [← hp, ← he1] at c1 c2
      rw [← hq, ← he2] at c3 c4
      rw [← hp] at hpl
      rw [← hq] at hql
      have c5 := fun A B c d (W : World) h h' => Same_any p p A B c d hpl W h h'
      have c6 := fun A B c d (W : World) h h' => Same_any q q A B c d hql W h h'
      rw [decide_eq_true rfl] at c5 c6
      clear hr hr2 hc hcr hseed hd hdr hw hX h h2 hp hq he1 he2 hs ht hn hpl hql
      go_enter Try.func3, Try.ntmps3
      go_wp2_with (first
        | (go_at_call 12; refine (cl _).mono ?_; clear cl; rintro e w1 ⟨rfl, x1⟩)
        | (go_at_call 13; refine (c1 _ x1).mono ?_; clear c1; rintro e w2 ⟨A2, d2, rfl, -, r2, x2⟩; have y2 := x1.trans x2)
        | (go_at_call 14; refine (c2 _ y2).mono ?_; clear c2; rintro e w3 ⟨A3, d3, rfl, -, r3, x3⟩; have y3 := y2.trans x3)
        | (go_at_call 15; refine (c3 _ y3).mono ?_; clear c3; rintro e w4 ⟨A4, d4, rfl, -, r4, x4⟩; have y4 := y3.trans x4)
        | (go_at_call 16; refine (c4 _ y4).mono ?_; clear c4; rintro e w5 ⟨A5, d5, rfl, -, r5, x5⟩; have y5 := y4.trans x5)
        | (go_at_call 17; refine (c5 _ _ _ _ _ ((r2.below ((x3.trans x4).trans x5).out).more ((x3.trans x4).trans x5).size) ((r3.below (x4.trans x5).out).more (x4.trans x5).size)).mono ?_; clear c5; rintro e w6 ⟨rfl, x6⟩)
        | (go_at_call 17; refine (c6 _ _ _ _ _ ((r4.below (x5.trans x6).out).more (x5.trans x6).size) ((r5.below x6.out).more x6.size)).mono ?_; clear c6; rintro e w7 ⟨rfl, x7⟩))
      go_ret
      exact ⟨rfl, (y5.trans x6).trans x7⟩
    · have k2 : (10 : Int) < (l.length : Int) := by omega
      clear hr hr2 hc hcr hseed hd hdr hw hX h h2 hs ht hn
      go_enter Try.func3, Try.ntmps3
      go_wp2_with (go_at_call 12; refine (cl _).mono ?_; clear cl; rintro e w1 ⟨rfl, x1⟩)
      go_ret
      exact ⟨rfl, x1⟩
  · have k1 : (300 : Int) < (seed.length : Int) := by omega
    clear hr hr2 hc hcr hseed hd hdr hw hX h hs ht hn
    go_enter Try.func3, Try.ntmps3
    go_wp2_with (go_at_call 12; refine (cl _).mono ?_; clear cl; rintro e w1 ⟨rfl, x1⟩)
    go_ret
    exact ⟨rfl, x1⟩

set_option maxRecDepth 100000 in
set_option maxHeartbeats 2000000 in
theorem walk_ShareJoins (A : Option Addr) (c : Nat) (l : List (Int × Nat)) (B : Option Addr) (d : Nat) (ids : List Int) (id : Int) (hc : l.length ≤ c) (hcr : c * 16 ≤ 140737488351232) (hw : idsWf l) (hX : ∀ s ∈ l, s.2 < 18446744073709551616) (hd : ids.length ≤ d) (hdr : d * 8 ≤ 140737488351232) (hwi : ∀ i ∈ ids, (Lit.int .i64 i).wf = true) (hid : (Lit.int .i64 id).wf = true) (w : World) (hr : Reads w w.heap.size 2 A l.length (sv l)) (hr2 : Reads w w.heap.size 1 B ids.length (iv ids)) :
    Calls Try.prog 4 #[.slice A l.length c, .slice B ids.length d, .int .i64 id] w fun e w' => e = .returned (.bool true) ∧ Ext w w' := by
  have cl := fun W => live5_any W
  by_cases h : l.length ≤ 10
  · have k1 : ¬ (10 : Int) < (l.length : Int) := by omega
    by_cases h2 : ids.length ≤ 10
    · have k2 : ¬ (10 : Int) < (ids.length : Int) := by omega
      have c1 := fun (W : World) (x : Ext w W) => Join_any l hw A c (by omega) W ((hr.below x.out).more x.size)
      have c2 := fun (W : World) (x : Ext w W) => rJoin_any l A c (by omega) W ((hr.below x.out).more x.size)
      have c3 := fun (W : World) (x : Ext w W) => Weight_any ids hwi id B d (by omega) W ((hr2.below x.out).more x.size)
      have c4 := fun (W : World) (x : Ext w W) => rWeight_any ids id B d (by omega) W ((hr2.below x.out).more x.size)
      obtain ⟨v1, e1, he1⟩ : ∃ v e : Nat, joinR l = .tuple #[.int .u64 (v : Int), .int .i64 (e : Int)] := ⟨_, _, by unfold joinR; rfl⟩
      obtain ⟨v2, e2, he2⟩ : ∃ v e : Nat, wgtR ids id = .tuple #[.int .u64 (v : Int), .int .i64 (e : Int)] := ⟨_, _, by unfold wgtR; rfl⟩
      rw [he1] at c1 c2
      rw [he2] at c3 c4
      clear hr hr2 hc hcr hd hdr hw hX h h2 he1 he2 hwi hid
      go_enter Try.func4, Try.ntmps4
      go_wp2_with (first
        | (go_at_call 12; refine (cl _).mono ?_; clear cl; rintro e w1 ⟨rfl, x1⟩)
        | (go_at_call 18; refine (c1 _ x1).mono ?_; clear c1; rintro e w2 ⟨rfl, x2⟩; have y2 := x1.trans x2)
        | (go_at_call 19; refine (c2 _ y2).mono ?_; clear c2; rintro e w3 ⟨rfl, x3⟩; have y3 := y2.trans x3)
        | (go_at_call 20; refine (c3 _ y3).mono ?_; clear c3; rintro e w4 ⟨rfl, x4⟩; have y4 := y3.trans x4)
        | (go_at_call 21; refine (c4 _ y4).mono ?_; clear c4; rintro e w5 ⟨rfl, x5⟩; have y5 := y4.trans x5))
      go_ret
      exact ⟨rfl, y5⟩
    · have k2 : (10 : Int) < (ids.length : Int) := by omega
      clear hr hr2 hc hcr hd hdr hw hX h h2 hwi hid
      go_enter Try.func4, Try.ntmps4
      go_wp2_with (go_at_call 12; refine (cl _).mono ?_; clear cl; rintro e w1 ⟨rfl, x1⟩)
      go_ret
      exact ⟨rfl, x1⟩
  · have k1 : (10 : Int) < (l.length : Int) := by omega
    clear hr hr2 hc hcr hd hdr hw hX h hwi hid
    go_enter Try.func4, Try.ntmps4
    go_wp2_with (go_at_call 12; refine (cl _).mono ?_; clear cl; rintro e w1 ⟨rfl, x1⟩)
    go_ret
    exact ⟨rfl, x1⟩

set_option maxRecDepth 100000 in
set_option maxHeartbeats 2000000 in
theorem walk_ShareChecks (t : Int) (A : Option Addr) (c : Nat) (l : List (Int × Nat)) (ht : (Lit.int .i64 t).wf = true) (hc : l.length ≤ c) (hcr : c * 16 ≤ 140737488351232) (hw : idsWf l) (hX : ∀ s ∈ l, s.2 < 18446744073709551616) (w : World) (hr : Reads w w.heap.size 2 A l.length (sv l)) :
    Calls Try.prog 5 #[.int .i64 t, .slice A l.length c] w fun e w' => e = .returned (.bool true) ∧ Ext w w' := by
  have cl := fun W => live5_any W
  by_cases h : l.length ≤ 10
  · have k1 : ¬ (10 : Int) < (l.length : Int) := by omega
    have c1 := fun (W : World) (x : Ext w W) => Check_any t l hw hX A c hc (by omega) W ((hr.below x.out).more x.size)
    have c2 := fun (W : World) (x : Ext w W) => rCheck_any t l hX A c hc (by omega) W ((hr.below x.out).more x.size)
    obtain ⟨e1, he1⟩ : ∃ p, p = chkN t l := ⟨_, rfl⟩
    rw [← he1] at c1 c2
    clear hr hc hcr hw hX h he1 ht
    go_enter Try.func5, Try.ntmps5
    go_wp2_with (first
      | (go_at_call 12; refine (cl _).mono ?_; clear cl; rintro e w1 ⟨rfl, x1⟩)
      | (go_at_call 22; refine (c1 _ x1).mono ?_; clear c1; rintro e w2 ⟨rfl, x2⟩; have y2 := x1.trans x2)
      | (go_at_call 23; refine (c2 _ y2).mono ?_; clear c2; rintro e w3 ⟨rfl, x3⟩; have y3 := y2.trans x3))
    go_ret
    exact ⟨rfl, y3⟩
  · have k1 : (10 : Int) < (l.length : Int) := by omega
    clear hr hc hcr hw hX h ht
    go_enter Try.func5, Try.ntmps5
    go_wp2_with (go_at_call 12; refine (cl _).mono ?_; clear cl; rintro e w1 ⟨rfl, x1⟩)
    go_ret
    exact ⟨rfl, x1⟩
end Go.Proofs.Ytaibpldolbemfaa

/- What comes in, opened: bytes, lists of bytes, arrays and structs of numbers; and how great it is at most. -/
namespace Go.Proofs.Ytaibpldolbemfaa
set_option linter.unusedVariables false
open Go.ChangeShapes Go.WideShapes Go.ChangeAt Go.RowKit

section
variable {H : Type} {enc : TypeId × Value → H} {P : Program} {W : World}

theorem cell_lt {w : World} {p : Addr} {v : Value} (hc : w.cell? p = some v) : p.block < w.heap.size := by
  refine Nat.lt_of_not_le fun hle => ?_
  have : w.heap[p.block]? = none := Array.getElem?_eq_none hle
  unfold World.cell? at hc
  simp [this] at hc

/-- How many places a slice that came in has. -/
def CapOf (d : DataW H) (c : Nat) : Prop := (d = .nil ∧ c = 0) ∨ ∃ es sp, d = .slice es sp ∧ es.length + sp.length = c

theorem cap_reach {ts : List TypeId} {ds : List (DataW H)} (hsz : (DataW.weightsEach P ts ds).all (· ≤ reachBytes) = true) {j : Nat} {t e : TypeId} {d : DataW H} {c B : Nat} (ht : ts[j]? = some t) (hd : ds[j]? = some d)
    (hu : P.underlying t = some (.slice e)) (hB : P.bytesOf e = B) (h : CapOf d c) : c * B ≤ 140737488351232 := by
  rcases h with ⟨rfl, rfl⟩ | ⟨es, sp, rfl, rfl⟩
  · omega
  · have := sized_slice hsz ht hd hu
    rw [hB] at this
    simp only [reachBytes] at this
    exact this
theorem str_reach {ts : List TypeId} {ds : List (DataW H)} (hsz : (DataW.weightsEach P ts ds).all (· ≤ reachBytes) = true) {j : Nat} {t : TypeId} {s : ByteArray} (ht : ts[j]? = some t) (hd : ds[j]? = some (.lit (.string s.data.toList))) : s.size ≤ 140737488351232 := by
  have := sized_string hsz ht hd
  simp only [reachBytes, Array.length_toList] at this
  exact this

theorem byte_of_wf {n : Int} (h : (Lit.int .u8 n).wf = true) : n = ((n.toNat : Nat) : Int) ∧ n.toNat < 256 := by
  simp [Lit.wf, IntKind.min, IntKind.max, IntKind.signed, IntKind.bits] at h
  omega
theorem word_of_wf {n : Int} (h : (Lit.int .u64 n).wf = true) : n = ((n.toNat : Nat) : Int) ∧ n.toNat < 18446744073709551616 := by
  simp [Lit.wf, IntKind.min, IntKind.max, IntKind.signed, IntKind.bits] at h
  omega

/-- Numbers that lie from a place on, as a slice that reads. -/
theorem reads_of {k : IntKind} {a : Addr} {n : Nat} {zs : List Int} (hn : n ≤ zs.length) (hc : ∀ i, i < zs.length → W.cell? (a.add i) = some (.int k (zs.getD i 0))) :
    Reads W W.heap.size 1 (some a) n ((zs.take n).map (Value.int k)) := by
  refine ⟨by simp [hn], fun h0 => ⟨a, rfl, ?_, fun j u hj => ?_⟩⟩
  · have := cell_lt (hc 0 (by omega))
    rwa [block_of_add] at this
  · rw [List.getElem?_map, List.getElem?_take] at hj
    split at hj
    · rename_i hjn
      have hjl : j < zs.length := by omega
      rw [List.getElem?_eq_getElem hjl] at hj
      simp at hj
      subst hj
      rw [hc j hjl]
      simp [hjl]
    · cases hj
theorem bv_of {zs : List Int} (hw : ∀ n ∈ zs, (Lit.int .u8 n).wf = true) : zs.map (Value.int .u8) = bv (zs.map Int.toNat) ∧ ∀ x ∈ zs.map Int.toNat, x < 256 := by
  refine ⟨?_, fun x hx => ?_⟩
  · unfold bv
    rw [List.map_map]
    refine List.map_congr_left fun n hn => ?_
    show Value.int .u8 n = Value.int .u8 ((n.toNat : Nat) : Int)
    rw [← (byte_of_wf (hw n hn)).1]
  · obtain ⟨n, hn, rfl⟩ := List.mem_map.1 hx
    exact (byte_of_wf (hw n hn)).2

/-- Bytes that came in. -/
theorem open_bytes {t e : TypeId} {A : Option Addr} {n c : Nat} {d : DataW H} {p : List MemPlace} (ht : P.underlying t = some (.slice e)) (he : P.underlying e = some (.int .u8)) (hc : P.cellsOf e = 1)
    (h : DataW.Trod enc P W 0 (fun _ => true) true t (.slice A n c) d p) :
    ∃ l : List Nat, l.length = n ∧ n ≤ c ∧ (∀ x ∈ l, x < 256) ∧ Reads W W.heap.size 1 A n (bv l) ∧ CapOf d c := by
  obtain ⟨fuel, hf⟩ := h
  rcases open_ints ht he hc hf with ⟨hcs, hx⟩ | ⟨a, n', c', zs, hcs, _, hl, _, hz, hx, hcell, hwz⟩
  · simp [Value.cells] at hcs
    obtain ⟨rfl, rfl, rfl⟩ := hcs
    simp only [Prod.mk.injEq] at hx
    exact ⟨[], rfl, Nat.le_refl _, by simp, Reads.none_, .inl ⟨hx.1, rfl⟩⟩
  · simp [Value.cells] at hcs
    obtain ⟨rfl, rfl, rfl⟩ := hcs
    simp only [Prod.mk.injEq, if_true] at hx hz
    obtain ⟨e1, e2⟩ := bv_of (zs := zs.take n) (fun m hm => hwz m (List.mem_of_mem_take hm))
    have hr := reads_of (n := n) (by omega) hcell
    rw [e1] at hr
    exact ⟨(zs.take n).map Int.toNat, by simp; omega, hl, e2, hr, .inr ⟨_, _, hx.1, by simp [lits]; omega⟩⟩

theorem mem_weightsAll {e : TypeId} {d : DataW H} : ∀ {l : List (DataW H)}, d ∈ l → ∀ n ∈ d.weights P e, n ∈ DataW.weightsAll P e l
  | x :: l, hd, n, hn => by
    rw [DataW.weightsAll, List.mem_append]
    rcases List.mem_cons.1 hd with rfl | hd
    · exact .inl hn
    · exact .inr (mem_weightsAll hd n hn)

/-- Lists of bytes that came in. -/
theorem open_parts {t e q : TypeId} {A : Option Addr} {n c : Nat} {d : DataW H} {p : List MemPlace} (ht : P.underlying t = some (.slice e)) (he : P.underlying e = some (.slice q)) (hq : P.underlying q = some (.int .u8)) (ce : P.cellsOf e = 1) (cq : P.cellsOf q = 1) (bq : P.bytesOf q = 1)
    (h : DataW.Trod enc P W 0 (fun _ => true) true t (.slice A n c) d p) :
    ∃ ps : List (List Nat), ps.length = n ∧ n ≤ c ∧ (∀ l ∈ ps, ∀ x ∈ l, x < 256) ∧ Parts W W.heap.size A ps ∧ CapOf d c ∧ ∀ l ∈ ps, ∃ m ∈ d.weights P t, l.length ≤ m := by
  obtain ⟨fuel, hf⟩ := h
  rcases Go.Deep.open_int_rows ht he hq ce cq hf with ⟨hcs, hx⟩ | ⟨a, n', c', R, L, C, Z, hcs, _, hl, _, hx, hr⟩
  · simp [Value.cells] at hcs
    obtain ⟨rfl, rfl, rfl⟩ := hcs
    simp only [Prod.mk.injEq] at hx
    exact ⟨[], rfl, Nat.le_refl _, by simp, ⟨[], Reads.none_, fun j p hj => by simp at hj⟩, .inl ⟨hx.1, rfl⟩, by simp⟩
  · simp [Value.cells] at hcs
    obtain ⟨rfl, rfl, rfl⟩ := hcs
    simp only [Prod.mk.injEq] at hx
    have hone : ∀ r, r < n → ∃ l : List Nat, (Z r).take (L r) = l.map (fun x : Nat => (x : Int)) ∧ l.length = L r ∧ (∀ x ∈ l, x < 256) ∧ Reads W W.heap.size 1 (R r) (L r) (bv l) ∧ L r ≤ C r ∧ W.cell? (a.add r) = some (.slice (R r) (L r) (C r)) ∧ (∃ m ∈ d.weights P t, L r ≤ m) := by
      intro r hrn
      obtain ⟨h1, h2, h3, h4, h5, h6, h7⟩ := hr r (by omega)
      obtain ⟨e1, e2⟩ := bv_of (zs := (Z r).take (L r)) (fun m hm => h5 m (List.mem_of_mem_take hm))
      refine ⟨((Z r).take (L r)).map Int.toNat, ?_, by simp; omega, e2, ?_, h2, h1, ?_⟩
      · rw [List.map_map]
        refine (List.map_id _).symm.trans (List.map_congr_left fun m hm => ?_)
        exact (byte_of_wf (h5 m (List.mem_of_mem_take hm))).1
      · rcases hR : R r with _ | a'
        · have h0 : C r = 0 := h6 hR
          have hL : L r = 0 := by omega
          rw [hL]
          have : ((Z r).take 0).map Int.toNat = [] := by simp
          rw [this]
          exact Reads.none_
        · have h8 := (h7 a' hR).2
          have := reads_of (W := W) (k := .u8) (a := a') (n := L r) (zs := Z r) (by omega) (fun i hi => h8 i (by omega))
          rw [e1] at this
          exact this
      · rcases hR : R r with _ | a'
        · have h0 : C r = 0 := h6 hR
          exact ⟨n * 0 + (n + (c - n)) * P.bytesOf e, by rw [hx.1, DataW.weights]; simp [ht], by omega⟩
        · refine ⟨C r * 1, ?_, by omega⟩
          rw [hx.1, DataW.weights]
          simp only [ht]
          refine List.mem_cons_of_mem _ (List.mem_append.2 (.inl (mem_weightsAll (d := Go.Deep.intRow .u8 (R r) (L r) (Z r)) (List.mem_map.2 ⟨r, by simpa using hrn, rfl⟩) _ ?_)))
          rw [hR]
          unfold Go.Deep.intRow
          rw [DataW.weights]
          simp only [he, bq, lits, List.length_map, List.length_take, List.length_drop]
          refine List.mem_cons.2 (.inl ?_)
          omega
    refine ⟨(List.range n).map fun r => ((Z r).take (L r)).map Int.toNat, by simp, hl, ?_, ?_, .inr ⟨_, _, hx.1, by simp; omega⟩, ?_⟩
    · intro l hl x hx
      obtain ⟨r, hr', rfl⟩ := List.mem_map.1 hl
      obtain ⟨l, e1, e2, e3, _⟩ := hone r (by simpa using hr')
      rw [e1, List.map_map] at hx
      have : (Int.toNat ∘ fun x : Nat => (x : Int)) = id := by funext x; simp
      rw [this, List.map_id] at hx
      exact e3 x hx
    · refine ⟨(List.range n).map fun r => .slice (R r) (L r) (C r), ⟨by simp, fun h0 => ⟨a, rfl, ?_, fun j u hj => ?_⟩⟩, fun j l hj => ?_⟩
      · obtain ⟨l, _, _, _, _, _, h1, _⟩ := hone 0 (by simpa using h0)
        have := cell_lt h1
        rwa [block_of_add] at this
      · have hjn : j < n := by simpa using (List.getElem?_eq_some_iff.1 hj).1
        obtain ⟨l, _, _, _, _, _, h1, _⟩ := hone j hjn
        rw [h1]
        simp [hjn] at hj
        rw [hj]
      · have hjn : j < n := by simpa using (List.getElem?_eq_some_iff.1 hj).1
        obtain ⟨l', e1, e2, e3, e4, e5, _⟩ := hone j hjn
        have hl' : l = l' := by
          simp [hjn] at hj
          rw [← hj, ← List.map_take, e1, List.map_map]
          have : (Int.toNat ∘ fun x : Nat => (x : Int)) = id := by funext x; simp
          rw [this, List.map_id]
        subst hl'
        exact ⟨R j, C j, by simp [hjn, e2], by omega, by rw [e2]; exact e4⟩
    · intro l hl
      obtain ⟨r, hr', rfl⟩ := List.mem_map.1 hl
      obtain ⟨l', e1, e2, _, _, _, _, m, hm, hle⟩ := hone r (by simpa using hr')
      refine ⟨m, hm, ?_⟩
      rw [e1]
      simp
      omega

/-- Arrays of words. -/
theorem arr_cells {t e : TypeId} {m : Nat} {v : Value} {d : DataW H} {p : List MemPlace} {r : Reach} {b0 : Nat} (ht : P.underlying t = some (.array m e)) (he : P.underlying e = some (.int .u64)) (ce : P.cellsOf e = 1) (ct : P.cellsOf t = m) (hv : Value.okWide P W r b0 t v) (h : DataW.Trod enc P W 0 (fun _ => true) true t v d p) :
    ∃ cs : List Value, v = .agg cs.toArray ∧ cs.length = m ∧ ∀ i, i < m → ∃ n : Nat, cs[i]? = some (.int .u64 (n : Int)) ∧ n < 18446744073709551616 := by
  obtain ⟨cs, rfl, hsz⟩ : ∃ cs, v = .agg cs ∧ cs.size = P.cellsOf t := by
    simp only [Value.okWide, ht] at hv
    obtain ⟨cs, h1, h2, _⟩ := hv
    exact ⟨cs, h1, h2⟩
  obtain ⟨fuel, hf⟩ := h
  obtain ⟨xs, n, _, _, hlen, hxl, hx⟩ := DataW.trod_array ht hf
  rw [ct] at hsz
  refine ⟨cs.toList, rfl, by simpa using hsz, fun i hi => ?_⟩
  have h1 := hx i hi
  rw [ce, Nat.mul_one, List.getElem?_eq_getElem (by omega)] at h1
  simp only [Value.cells] at h1
  obtain ⟨a, ea, _, wa⟩ := DataW.trod_int he h1
  have hil : i < cs.toList.length := by simp; omega
  rw [List.drop_eq_getElem_cons hil] at ea
  simp only [List.take_succ_cons, List.take_zero, List.cons.injEq, and_true] at ea
  obtain ⟨e1, e2⟩ := word_of_wf wa
  exact ⟨a.toNat, by rw [List.getElem?_eq_getElem hil, ea, ← e1], e2⟩
theorem open_arr3 {t e : TypeId} {v : Value} {d : DataW H} {p : List MemPlace} {r : Reach} {b0 : Nat} (ht : P.underlying t = some (.array 3 e)) (he : P.underlying e = some (.int .u64)) (ce : P.cellsOf e = 1) (ct : P.cellsOf t = 3) (hv : Value.okWide P W r b0 t v) (h : DataW.Trod enc P W 0 (fun _ => true) true t v d p) :
    ∃ x y z : Nat, v = .agg #[.int .u64 (x : Int), .int .u64 (y : Int), .int .u64 (z : Int)] ∧ x < 18446744073709551616 ∧ y < 18446744073709551616 ∧ z < 18446744073709551616 := by
  obtain ⟨cs, rfl, hl, hc⟩ := arr_cells ht he ce ct hv h
  match cs, hl with
  | [a, b, c], _ =>
    obtain ⟨x, hx, bx⟩ := hc 0 (by decide)
    obtain ⟨y, hy, by'⟩ := hc 1 (by decide)
    obtain ⟨z, hz, bz⟩ := hc 2 (by decide)
    cases hx; cases hy; cases hz
    exact ⟨x, y, z, rfl, bx, by', bz⟩
theorem open_arr2 {t e : TypeId} {v : Value} {d : DataW H} {p : List MemPlace} {r : Reach} {b0 : Nat} (ht : P.underlying t = some (.array 2 e)) (he : P.underlying e = some (.int .u64)) (ce : P.cellsOf e = 1) (ct : P.cellsOf t = 2) (hv : Value.okWide P W r b0 t v) (h : DataW.Trod enc P W 0 (fun _ => true) true t v d p) :
    ∃ x y : Nat, v = .agg #[.int .u64 (x : Int), .int .u64 (y : Int)] ∧ x < 18446744073709551616 ∧ y < 18446744073709551616 := by
  obtain ⟨cs, rfl, hl, hc⟩ := arr_cells ht he ce ct hv h
  match cs, hl with
  | [a, b], _ =>
    obtain ⟨x, hx, bx⟩ := hc 0 (by decide)
    obtain ⟨y, hy, by'⟩ := hc 1 (by decide)
    cases hx; cases hy
    exact ⟨x, y, rfl, bx, by'⟩
end
end Go.Proofs.Ytaibpldolbemfaa

/- What comes in, opened: lists of ids, lists of shares. -/
namespace Go.Proofs.Ytaibpldolbemfaa
set_option linter.unusedVariables false
open Go.ChangeShapes Go.WideShapes Go.ChangeAt Go.RowKit

section
variable {H : Type} {enc : TypeId × Value → H} {P : Program} {W : World}
theorem open_ids {t e : TypeId} {A : Option Addr} {n c : Nat} {d : DataW H} {p : List MemPlace} (ht : P.underlying t = some (.slice e)) (he : P.underlying e = some (.int .i64)) (hc : P.cellsOf e = 1)
    (h : DataW.Trod enc P W 0 (fun _ => true) true t (.slice A n c) d p) :
    ∃ l : List Int, l.length = n ∧ n ≤ c ∧ (∀ x ∈ l, (Lit.int .i64 x).wf = true) ∧ Reads W W.heap.size 1 A n (iv l) ∧ CapOf d c := by
  obtain ⟨fuel, hf⟩ := h
  rcases open_ints ht he hc hf with ⟨hcs, hx⟩ | ⟨a, n', c', zs, hcs, _, hl, _, hz, hx, hcell, hwz⟩
  · simp [Value.cells] at hcs
    obtain ⟨rfl, rfl, rfl⟩ := hcs
    simp only [Prod.mk.injEq] at hx
    exact ⟨[], rfl, Nat.le_refl _, by simp, Reads.none_, .inl ⟨hx.1, rfl⟩⟩
  · simp [Value.cells] at hcs
    obtain ⟨rfl, rfl, rfl⟩ := hcs
    simp only [Prod.mk.injEq, if_true] at hx hz
    exact ⟨zs.take n, by simp; omega, hl, fun x hx => hwz x (List.mem_of_mem_take hx), reads_of (n := n) (by omega) hcell, .inr ⟨_, _, hx.1, by simp [lits]; omega⟩⟩

theorem sv_range (f : Nat → Int × Nat) : ∀ n : Nat, ∀ j : Nat, ∀ u : Value, (sv ((List.range n).map f))[j]? = some u → j / 2 < n ∧ (j % 2 = 0 ∧ u = .int .i64 (f (j / 2)).1 ∨ j % 2 = 1 ∧ u = .int .u64 ((f (j / 2)).2 : Int)) := by
  intro n j u h
  have hj := (List.getElem?_eq_some_iff.1 h).1
  rw [sv_length, List.length_map, List.length_range] at hj
  have hk : j / 2 < n := by omega
  have hs : ((List.range n).map f)[j / 2]? = some (f (j / 2)) := by simp [hk]
  obtain ⟨h0, h1⟩ := sv_at hs
  refine ⟨hk, ?_⟩
  rcases Nat.mod_two_eq_zero_or_one j with hm | hm
  · rw [show j / 2 * 2 = j by omega] at h0
    rw [h0] at h
    exact .inl ⟨hm, (Option.some.inj h).symm⟩
  · rw [show j / 2 * 2 + 1 = j by omega] at h1
    rw [h1] at h
    exact .inr ⟨hm, (Option.some.inj h).symm⟩
theorem open_shares {t e : TypeId} {f0 f1 : Field} {A : Option Addr} {n c : Nat} {d : DataW H} {p : List MemPlace} (ht : P.underlying t = some (.slice e)) (he : P.underlying e = some (.struct #[f0, f1]))
    (ce : P.cellsOf e = 2) (o0 : f0.offset = 0) (o1 : f1.offset = 1) (c0 : P.cellsOf f0.type = 1) (c1 : P.cellsOf f1.type = 1) (u0 : P.underlying f0.type = some (.int .i64)) (u1 : P.underlying f1.type = some (.int .u64))
    (h : DataW.Trod enc P W 0 (fun _ => true) true t (.slice A n c) d p) :
    ∃ l : List (Int × Nat), l.length = n ∧ n ≤ c ∧ idsWf l ∧ (∀ s ∈ l, s.2 < 18446744073709551616) ∧ Reads W W.heap.size 2 A n (sv l) ∧ CapOf d c := by
  obtain ⟨fuel, hf⟩ := h
  rcases Go.Deep.open_slice_pairs ht he ce o0 o1 c0 c1 hf with ⟨hcs, hx⟩ | ⟨a, n', c', m, k, V0, V1, D0, D1, P0, P1, hcs, _, hl, _, hm, hx, hr⟩
  · simp [Value.cells] at hcs
    obtain ⟨rfl, rfl, rfl⟩ := hcs
    simp only [Prod.mk.injEq] at hx
    exact ⟨[], rfl, Nat.le_refl _, by unfold idsWf; simp, by simp, Reads.none_, .inl ⟨hx.1, rfl⟩⟩
  · simp [Value.cells] at hcs
    obtain ⟨rfl, rfl, rfl⟩ := hcs
    simp only [Prod.mk.injEq, if_true] at hx hm
    subst hm
    have hone : ∀ i, i < n → ∃ s : Int × Nat, (Lit.int .i64 s.1).wf = true ∧ s.2 < 18446744073709551616 ∧ W.cell? (a.add (i * 2)) = some (.int .i64 s.1) ∧ W.cell? (a.add (i * 2 + 1)) = some (.int .u64 (s.2 : Int)) := by
      intro i hi
      obtain ⟨h1, h2, h3, h4⟩ := hr i (by omega)
      obtain ⟨x, ex, _, wx⟩ := DataW.trod_int u0 h3
      obtain ⟨y, ey, _, wy⟩ := DataW.trod_int u1 h4
      simp only [List.cons.injEq, and_true] at ex ey
      obtain ⟨y1, y2⟩ := word_of_wf wy
      exact ⟨(x, y.toNat), wx, y2, by rw [h1, ex], by rw [h2, ey, ← y1]⟩
    obtain ⟨f, hf'⟩ := Go.Deep.choose_lt hone
    refine ⟨(List.range n).map f, by simp, hl, ?_, ?_, ⟨by rw [sv_length]; simp, fun h0 => ⟨a, rfl, ?_, fun j u hj => ?_⟩⟩, .inr ⟨_, _, hx.1, by simp; omega⟩⟩
    · intro i hi
      simp only [List.map_map, List.mem_map, List.mem_range] at hi
      obtain ⟨k, hk, rfl⟩ := hi
      exact (hf' k hk).1
    · intro s hs
      obtain ⟨k, hk, rfl⟩ := List.mem_map.1 hs
      exact (hf' k (List.mem_range.1 hk)).2.1
    · have := cell_lt (hf' 0 h0).2.2.1
      rwa [block_of_add] at this
    · obtain ⟨hk, h3 | h3⟩ := sv_range f n j u hj
      · have := (hf' (j / 2) hk).2.2.1
        rw [show j / 2 * 2 = j by omega] at this
        rw [this, h3.2]
      · have := (hf' (j / 2) hk).2.2.2
        rw [show j / 2 * 2 + 1 = j by omega] at this
        rw [this, h3.2]
end
end Go.Proofs.Ytaibpldolbemfaa
