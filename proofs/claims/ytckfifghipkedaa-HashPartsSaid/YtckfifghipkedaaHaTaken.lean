/- The parts that bytes tell (taken), walked. -/
import Derived.Test.YtckfifghipkedaaHaLive
import Derived.Test.YtckfifghipkedaaLater
import Derived.Laws.BitsLemmas
import Derived.IntWalk
namespace Go.Proofs.Ytckfifghipkedaa
set_option linter.unusedVariables false
open Go.RowKit Go.Shelf

theorem coded_split (tag : List Nat) (ps : List (List Nat)) (j : Nat) (p : List Nat) (hp : ps[j]? = some p) : ∃ rest, coded tag ps = coded tag (ps.take j) ++ (be p.length 4 ++ (p ++ rest)) := by
  have hj : j < ps.length := (List.getElem?_eq_some_iff.1 hp).1
  have e : ps = ps.take j ++ p :: ps.drop (j + 1) := by
    conv => lhs; rw [← List.take_append_drop j ps, List.drop_eq_getElem_cons hj]
    congr 2
    exact (List.getElem?_eq_some_iff.1 hp).2
  refine ⟨(ps.drop (j + 1)).flatMap fun p => be p.length 4 ++ p, ?_⟩
  conv => lhs; rw [e]
  simp [coded, List.flatMap_append, List.append_assoc]
theorem be4 (n : Nat) : be n 4 = [n / 16777216 % 256, n / 65536 % 256, n / 256 % 256, n % 256] := by simp [be, beN, List.range_succ]

theorem i64_or (a b : Nat) (ha : a < 9223372036854775808) (hb : b < 9223372036854775808) : bits .or .i64 (a : Int) (b : Int) = ((a ||| b : Nat) : Int) :=
  (bits_nat .i64 63 (by decide) (fun n h0 h1 => by rw [IntKind.wrap_i64]; omega) a b ha hb).2
theorem or_low (k a b : Nat) (h : b < 2 ^ k) : a * 2 ^ k ||| b = a * 2 ^ k + b := by
  have e := Nat.two_pow_add_eq_or_of_lt h a
  rw [Nat.mul_comm a]; exact e.symm
/-- Four bytes, the highest first, put together. -/
theorem four_or (n : Nat) (hn : n < 4294967296) :
    bits .or .i64 (bits .or .i64 (bits .or .i64 (((n / 16777216 % 256 : Nat) : Int) * 16777216) (((n / 65536 % 256 : Nat) : Int) * 65536)) (((n / 256 % 256 : Nat) : Int) * 256)) ((n % 256 : Nat) : Int) = (n : Int) := by
  obtain ⟨a, ha⟩ : ∃ a, a = n / 16777216 % 256 := ⟨_, rfl⟩
  obtain ⟨b, hb⟩ : ∃ b, b = n / 65536 % 256 := ⟨_, rfl⟩
  obtain ⟨c, hc⟩ : ∃ c, c = n / 256 % 256 := ⟨_, rfl⟩
  obtain ⟨d, hd⟩ : ∃ d, d = n % 256 := ⟨_, rfl⟩
  rw [← ha, ← hb, ← hc, ← hd]
  have e1 : (a : Int) * 16777216 = ((a * 16777216 : Nat) : Int) := by simp
  have e2 : (b : Int) * 65536 = ((b * 65536 : Nat) : Int) := by simp
  have e3 : (c : Int) * 256 = ((c * 256 : Nat) : Int) := by simp
  rw [e1, e2, e3, i64_or _ _ (by omega) (by omega)]
  have o1 : a * 16777216 ||| b * 65536 = a * 16777216 + b * 65536 := or_low 24 a (b * 65536) (by show _ < 16777216; omega)
  rw [o1, i64_or _ _ (by omega) (by omega)]
  have o2 : a * 16777216 + b * 65536 ||| c * 256 = a * 16777216 + b * 65536 + c * 256 := by
    have := or_low 16 (a * 256 + b) (c * 256) (by show _ < 65536; omega)
    rw [show (a * 256 + b) * 2 ^ 16 = a * 16777216 + b * 65536 by show (a * 256 + b) * 65536 = _; omega] at this
    exact this
  rw [o2, i64_or _ _ (by omega) (by omega)]
  have o3 : a * 16777216 + b * 65536 + c * 256 ||| d = a * 16777216 + b * 65536 + c * 256 + d := by
    have := or_low 8 (a * 65536 + b * 256 + c) d (by show _ < 256; omega)
    rw [show (a * 65536 + b * 256 + c) * 2 ^ 8 = a * 16777216 + b * 65536 + c * 256 by show (a * 65536 + b * 256 + c) * 256 = _; omega] at this
    exact this
  rw [o3]
  congr 1
  omega

theorem Try.infoSl : (Try.prog.info? 27).map (fun i => (i.zero, i.size, i.bytes)) = some (some (.slice none 0 0), 1, 24) := by kernel_rfl
theorem slice_lh8 (A : Option Addr) (n c l h : Nat) (hl : l ≤ h) (hh : h ≤ c) (w : World) : (Instr.slice 27 (.slice A n c) (some (.int .i64 (l : Int))) (some (.int .i64 (h : Int))) none).run Try.prog w = .ok (sliced A l h c 1) w := by
  rw [run_slice_lh w 27 A n c Try.underlying27 .i64 .i64 (l : Int) (h : Int) (by omega) (by omega) (by omega)]
  have : (sizeOf (Try.prog.elem 27)).run Try.prog w = .ok 1 w := by kernel_rfl
  rw [this]
  rfl

/-- The slices that were taken: each reads as its part. -/
def Took (w : World) (vs : List Value) (ps : List (List Nat)) : Prop :=
  vs.length = ps.length ∧ ∀ (j : Nat) (p : List Nat), ps[j]? = some p → ∃ a c, vs[j]? = some (Value.slice a p.length c) ∧ p.length ≤ c ∧ Reads w w.heap.size 1 a p.length (bv p)
theorem Took.snoc {w : World} {vs : List Value} {ps : List (List Nat)} (h : Took w vs ps) {p : List Nat} {a : Option Addr} {c : Nat} (hc : p.length ≤ c) (hr : Reads w w.heap.size 1 a p.length (bv p)) : Took w (vs ++ [.slice a p.length c]) (ps ++ [p]) := by
  refine ⟨by simp [h.1], fun j q hj => ?_⟩
  by_cases hlt : j < ps.length
  · rw [List.getElem?_append_left hlt] at hj
    obtain ⟨a', c', e, h1, h2⟩ := h.2 j q hj
    exact ⟨a', c', by rw [List.getElem?_append_left (by rw [h.1]; exact hlt)]; exact e, h1, h2⟩
  · rw [List.getElem?_append_right (by omega)] at hj
    have hj0 : j - ps.length = 0 := by
      have := (List.getElem?_eq_some_iff.1 hj).1
      simp at this
      omega
    rw [hj0] at hj
    simp at hj
    subst hj
    exact ⟨a, c, by rw [List.getElem?_append_right (by rw [h.1]; omega), h.1, hj0]; rfl, hc, hr⟩

set_option maxRecDepth 100000 in
set_option maxHeartbeats 2000000 in
theorem taken_any (tag : List Nat) (ps : List (List Nat)) (A : Option Addr) (c : Nat) (hc : (coded tag ps).length ≤ c) (htot : (coded tag ps).length ≤ 1000) (w : World) (hr : Reads w w.heap.size 1 A (coded tag ps).length (bv (coded tag ps))) :
    Calls Try.prog 31 #[.slice A (coded tag ps).length c, .int .i64 (tag.length : Nat)] w fun e w' => ∃ A' c', e = .returned (.tuple #[.slice A' ps.length c', .bool true]) ∧ ps.length ≤ c' ∧ Parts w' w'.heap.size A' ps ∧ Ext w w' := by
  obtain ⟨i0, hi, hz0, hz1, hz2⟩ := info_parts Try.infoSl
  obtain ⟨C, hC⟩ : ∃ C, C = coded tag ps := ⟨_, rfl⟩
  rw [← hC] at hc htot hr ⊢
  have hlen0 : (coded tag (ps.take 0)).length = 1 + tag.length := by rw [List.take_zero, coded_nil, List.length_cons]; omega
  have hmono := coded_take_le tag ps
  have hpos : 0 < C.length := by have := hmono 0; rw [← hC] at this; omega
  obtain ⟨ad, rfl, hab, hcell⟩ := hr.2 hpos
  obtain ⟨N, hN⟩ : ∃ N, N = C.length := ⟨_, rfl⟩
  rw [← hN] at hc htot hr ⊢
  have hall : (coded tag (ps.take ps.length)).length = N := by rw [List.take_length, ← hC, ← hN]
  have hNi : (N : Int) ≤ 1000 := by omega
  have hci : (N : Int) ≤ c := by omega
  have htl : (tag.length : Int) ≤ 1000 := by have := hmono 0; rw [← hC, ← hN] at this; omega
  -- what is told at each place
  have HP : Hid (∀ (j : Nat) (p : List Nat), ps[j]? = some p → (coded tag (ps.take j)).length + 4 + p.length ≤ N ∧ (coded tag (ps.take (j + 1))).length = (coded tag (ps.take j)).length + 4 + p.length ∧
      (∀ W, Ext w W → W.cell? (ad.add (coded tag (ps.take j)).length) = some (.int .u8 ((p.length / 16777216 % 256 : Nat) : Int)) ∧ W.cell? (ad.add ((coded tag (ps.take j)).length + 1)) = some (.int .u8 ((p.length / 65536 % 256 : Nat) : Int)) ∧
        W.cell? (ad.add ((coded tag (ps.take j)).length + 2)) = some (.int .u8 ((p.length / 256 % 256 : Nat) : Int)) ∧ W.cell? (ad.add ((coded tag (ps.take j)).length + 3)) = some (.int .u8 ((p.length % 256 : Nat) : Int))) ∧
      ∃ a, sliced (some ad) ((coded tag (ps.take j)).length + 4) ((coded tag (ps.take j)).length + 4 + p.length) c 1 = .slice a p.length (c - ((coded tag (ps.take j)).length + 4)) ∧ Reads w w.heap.size 1 a p.length (bv p)) := by
    show ∀ _, _
    intro j p hp
    obtain ⟨rest, hsp⟩ := coded_split tag ps j p hp
    have e1 : (coded tag (ps.take (j + 1))).length = (coded tag (ps.take j)).length + 4 + p.length := by
      have : ps.take (j + 1) = ps.take j ++ [p] := by rw [List.take_add_one, hp]; rfl
      rw [this, coded_snoc, List.length_append, List.length_append, be_length]
    generalize hK : coded tag (ps.take j) = K at *
    have hl : N = K.length + 4 + p.length + rest.length := by rw [hN, hC, hsp]; simp [be_length]; omega
    have hat : ∀ (k b : Nat), (be p.length 4)[k]? = some b → (bv C)[K.length + k]? = some (.int .u8 (b : Int)) := by
      intro k b hb
      have hk : k < 4 := by have := (List.getElem?_eq_some_iff.1 hb).1; rwa [be_length] at this
      have : C[K.length + k]? = some b := by
        rw [hC, hsp, List.getElem?_append_right (by omega), List.getElem?_append_left (by rw [be_length]; omega)]
        rw [show K.length + k - K.length = k by omega]; exact hb
      simp [bv, this]
    rw [be4] at hat
    refine ⟨by omega, e1, fun W x => ⟨x.cell (hcell _ _ (hat 0 _ rfl)), x.cell (hcell _ _ (hat 1 _ rfl)), x.cell (hcell _ _ (hat 2 _ rfl)), x.cell (hcell _ _ (hat 3 _ rfl))⟩, ?_⟩
    refine ⟨if c = K.length + 4 then some ad else some (ad.add ((K.length + 4) * 1)), by unfold sliced; congr 1; omega, by simp [bv], fun h0 => ?_⟩
    rw [if_neg (by omega)]
    refine ⟨_, rfl, by rw [block_of_add]; exact hab, fun k u hu => ?_⟩
    rw [add_of_add, Nat.mul_one]
    refine hcell _ u ?_
    rw [← hu]
    have hk : k < p.length := by have := (List.getElem?_eq_some_iff.1 hu).1; simpa [bv] using this
    simp only [bv, List.getElem?_map]
    congr 1
    rw [hC, hsp, List.getElem?_append_right (by omega), List.getElem?_append_right (by rw [be_length]; omega), List.getElem?_append_left (by rw [be_length]; omega)]
    congr 1
    rw [be_length]; omega
  have HA := Lib.hid hall
  have H0 := Lib.hid hlen0
  have hpl : ps.length ≤ 1000 := by
    have : ps.length ≤ N := by
      rw [hN, hC, coded, List.length_append, List.length_flatMap]
      have : ps.length ≤ (ps.map fun p => (be p.length 4 ++ p).length).sum := by
        clear HP HA H0 hall hmono hlen0 hr hcell hC
        induction ps with
        | nil => simp
        | cons p ps ih =>
          simp only [List.length_cons, List.map_cons, List.sum_cons]
          rw [List.length_append, be_length]
          omega
      omega
    omega
  have HPL := Lib.hid hpl
  clear hN hC hr hcell hab hmono hall hlen0 hpl hpos hc htot
  go_enter Try.func31, Try.ntmps31
  go_wp2
  go_loopg [6, 7] ps.length (fun g s6 s7 wr => ∃ (j : Nat) (vs : List Value), j + g = ps.length ∧ s7 = .int .i64 ((coded tag (ps.take j)).length : Nat) ∧ wr.ownsRow w.heap.size 27 1 s6 j vs ∧ Took w vs (ps.take j) ∧ Ext w wr)
  case atStart => exact ⟨0, [], by omega, int_congr (by rw [H0.out]; omega), World.ownsRow_nil _ _ _ _, ⟨rfl, fun j p hj => by simp at hj⟩, Ext.refl w⟩
  case round =>
    obtain ⟨j, vs, hj, rfl, hown, htook, hx⟩ := hrel
    by_cases h : j < ps.length
    · obtain ⟨p, hp⟩ : ∃ p, ps[j]? = some p := ⟨_, List.getElem?_eq_getElem h⟩
      obtain ⟨b1, b2, b3, a, b4, b5⟩ := HP.out j p hp
      obtain ⟨d0, d1, d2, d3⟩ := b3 wr hx
      have ht1 : ps.take (j + 1) = ps.take j ++ [p] := by rw [List.take_add_one, hp]; rfl
      obtain ⟨K, hK⟩ : ∃ K, K = (coded tag (ps.take j)).length := ⟨_, rfl⟩
      rw [← hK] at b1 b2 b4 d0 d1 d2 d3 ⊢
      have FO := Lib.hid (four_or p.length (by omega))
      have hs1 : ∀ W, (Instr.slice 27 (.slice (some ad) N c) (some (.int .i64 ((K + 4 : Nat) : Int))) (some (.int .i64 ((K + 4 + p.length : Nat) : Int))) none).run Try.prog W = .ok (.slice a p.length (c - (K + 4))) W := fun W => by
        rw [← b4]; exact slice_lh8 (some ad) N c (K + 4) (K + 4 + p.length) (by omega) (by omega) W
      have e4 : ((K + 4 : Nat) : Int) = (K : Int) + 4 := by omega
      have e5 : ((K + 4 + p.length : Nat) : Int) = (K : Int) + 4 + (p.length : Int) := by omega
      rw [e4, e5] at hs1
      have htk := htook.snoc (p := p) (a := a) (c := c - (K + 4)) (by omega) b5
      rw [← ht1] at htk
      obtain ⟨v0, h0⟩ : ∃ v, v = p.length / 16777216 % 256 := ⟨_, rfl⟩
      obtain ⟨v1, h1⟩ : ∃ v, v = p.length / 65536 % 256 := ⟨_, rfl⟩
      obtain ⟨v2, h2⟩ : ∃ v, v = p.length / 256 % 256 := ⟨_, rfl⟩
      obtain ⟨v3, h3⟩ : ∃ v, v = p.length % 256 := ⟨_, rfl⟩
      rw [← h0] at FO d0
      rw [← h1] at FO d1
      rw [← h2] at FO d2
      rw [← h3] at FO d3
      obtain ⟨n, hn⟩ : ∃ n, n = p.length := ⟨_, rfl⟩
      rw [← hn] at FO hs1 b1 b2 htk
      have w0 : (v0 : Int) < 256 := by omega
      have w1 : (v1 : Int) < 256 := by omega
      have w2 : (v2 : Int) < 256 := by omega
      have w3 : (v3 : Int) < 256 := by omega
      have z0 : (K : Int) + 4 + (n : Int) ≤ N := by omega
      have z1 : (K : Int) < N := by omega
      have HTK := Lib.hid htk
      have HB2 := Lib.hid b2
      have HJ : Hid (j + gk = ps.length ∧ j < ps.length) := Lib.hid ⟨hj, h⟩
      have HX := Lib.hid hx
      have HNN := Lib.hid hn
      clear b1 b2 b3 b4 b5 htk h0 h1 h2 h3 ht1 hK htook hj hx hp h hn e4 e5
      go_wp2
      have y1 : IntKind.i64.wrap ((K : Int) + 1) = (K : Int) + 1 := IntWalk.i64_in _ (by omega)
      have y2 : IntKind.i64.wrap ((K : Int) + 2) = (K : Int) + 2 := IntWalk.i64_in _ (by omega)
      have y3 : IntKind.i64.wrap ((K : Int) + 3) = (K : Int) + 3 := IntWalk.i64_in _ (by omega)
      have t1 : ((K : Int) + 1).toNat = K + 1 := by omega
      have t2 : ((K : Int) + 2).toNat = K + 2 := by omega
      have t3 : ((K : Int) + 3).toNat = K + 3 := by omega
      have p1 : 0 ≤ (K : Int) + 1 := by omega
      have p2 : 0 ≤ (K : Int) + 2 := by omega
      have p3 : 0 ≤ (K : Int) + 3 := by omega
      have q1 : (K : Int) + 1 < N := by omega
      have q2 : (K : Int) + 2 < N := by omega
      have q3 : (K : Int) + 3 < N := by omega
      have c1 : wr.cell? ⟨ad.block, ad.off + (K + 1), none⟩ = some (.int .u8 (v1 : Int)) := by simpa [Addr.add] using d1
      have c2 : wr.cell? ⟨ad.block, ad.off + (K + 2), none⟩ = some (.int .u8 (v2 : Int)) := by simpa [Addr.add] using d2
      have c3 : wr.cell? ⟨ad.block, ad.off + (K + 3), none⟩ = some (.int .u8 (v3 : Int)) := by simpa [Addr.add] using d3
      have r0 : IntKind.i64.wrap (v0 : Int) = v0 := IntWalk.i64_in _ (by omega)
      have r1 : IntKind.i64.wrap (v1 : Int) = v1 := IntWalk.i64_in _ (by omega)
      have r2 : IntKind.i64.wrap (v2 : Int) = v2 := IntWalk.i64_in _ (by omega)
      have r3 : IntKind.i64.wrap (v3 : Int) = v3 := IntWalk.i64_in _ (by omega)
      have g0 : IntKind.i64.wrap ((v0 : Int) * 16777216) = v0 * 16777216 := IntWalk.i64_in _ (by omega)
      have g1 : IntKind.i64.wrap ((v1 : Int) * 65536) = v1 * 65536 := IntWalk.i64_in _ (by omega)
      have g2 : IntKind.i64.wrap ((v2 : Int) * 256) = v2 * 256 := IntWalk.i64_in _ (by omega)
      have hfo := FO.out
      go_quiet (fail)
      clear hfo FO r0 r1 r2 r3 g0 g1 g2 c1 c2 c3 d0 d1 d2 d3 y1 y2 y3 t1 t2 t3 p1 p2 p3 q1 q2 q3
      have hx := HX.out
      go_wp2_with (at_builtin; refine wpList_append_own _ rfl (.tmp 57) (.tmp 64) 32 rfl w.heap.size 27 i0 (.slice none 0 0) 1 24 Try.underlying32 hi hz0 hz1 hz2 rfl (by decide) _ _ _ rfl ((own_drewN hown _).alloc _) ⟨wr.heap.size, 0, none⟩ 1 1 [.slice a n (c - (K + 4))] rfl rfl (cell_one_new _ _ _) (by simp [Value.oneCell']) (by have := HJ.out.1; have := HPL.out; simp only [maxLen]; omega) (by have := HJ.out.1; have := HPL.out; omega) (by have := hx.size; simp; omega) ?_; intro v' w1 hown1 hg1 _)
      have X1 : Hid (Ext w w1) := Lib.hid (Ext.of (((below_drewN hx.out nq).alloc hx.size _).grown hg1 (by have := hx.size; simp; omega) (own_ge hown)))
      clear hg1 hown hx
      obtain ⟨hj, hjl⟩ := HJ.out
      go_roundg (gk - 1)
      case measure => omega
      case rel => exact ⟨j + 1, vs ++ [.slice a n (c - (K + 4))], by omega, int_congr (by rw [HB2.out]; omega), hown1, HTK.out, X1.out⟩
    · obtain rfl : j = ps.length := by omega
      rw [List.take_length] at htook
      obtain ⟨A', c', rfl, hc', hr'⟩ := own_slice hown
      have HPA : Hid (Parts wr wr.heap.size A' ps) := Lib.hid ⟨vs, hr', fun i q hq => by
        obtain ⟨a, c0, e, h1, h2⟩ := htook.2 i q hq
        exact ⟨a, c0, e, h1, (h2.below hx.out).more hx.size⟩⟩
      have HX := Lib.hid hx
      have HCC := Lib.hid hc'
      rw [HA.out]
      have z1 : ¬ (N : Int) < N := by omega
      have z2 : ((N : Int) == N) = true := by simp
      clear hown hr' hx hc' hj h htook
      go_wp2
      go_ret2
      exact ⟨A', c', rfl, HCC.out, HPA.out, HX.out⟩
end Go.Proofs.Ytckfifghipkedaa
