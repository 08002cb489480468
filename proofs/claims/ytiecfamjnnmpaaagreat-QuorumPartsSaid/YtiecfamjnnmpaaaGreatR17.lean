/- Parts of the proofs, put together: QuR5, Qu12, Qu13, Qu14, QuR6, Sh11, Sh12, Sh13, Sh14. -/
import Derived.Test.YtiecfamjnnmpaaaGreatR14
import Derived.Test.YtiecfamjnnmpaaaGreatR16
/- Crews by the document, walked: CheckPart. -/
namespace Go.Proofs.YtiecfamjnnmpaaaGreat
set_option linter.unusedVariables false
open Go.RowKit Go.Shelf Go.Maps
attribute [local irreducible] atN prodN sumN wantN chkN mix hSum hNum chalN chN scN qnN crewN enN wgtV wgtE inB okC

theorem start_two' (w : World) (x y : Array Value) (T U : TypeId) : ∃ W, (w.alloc (.cells x T)).alloc (.cells y U) = W ∧ Blk W w.heap.size T x ∧ Blk W (w.heap.size + 1) U y ∧ Ext w W :=
  ⟨_, rfl, (Blk.new w T x).alloc _, blk_next w _ U y, ((Ext.refl w).alloc _).alloc _⟩

set_option maxRecDepth 100000 in
set_option maxHeartbeats 8000000 in
theorem rCheckPart6_any (t n : Int) (k : Nat) (p : List (Int × Nat)) (m : List Nat) (l : List (Int × Nat)) (v : SesV k p m l) (id : Int) (x : Nat) (hx64 : x < 18446744073709551616) (A M B : Option Addr) (c d e : Nat) (hc : p.length ≤ c) (hd : m.length ≤ d) (w : World) (hp : Reads w w.heap.size 2 A p.length (sv p)) (hm : Reads w w.heap.size 1 M m.length (bv m)) (hl : Reads w w.heap.size 2 B l.length (sv l)) :
    Calls Tryz.prog 22 #[.agg #[.int .i64 t, .int .i64 n, .int .u64 (k : Int), .slice A p.length c], .slice M m.length d, .slice B l.length e, .agg #[.int .i64 id, .int .u64 (x : Int)]] w fun e w' => e = .returned (.int .i64 (cpN t n k p m l id x : Nat)) ∧ Ext w w' := by
  obtain ⟨W0, e0, b1, b2, x0⟩ := start_two' w #[.int .i64 t, .int .i64 n, .int .u64 (k : Int), .slice A p.length c] #[.int .i64 id, .int .u64 (x : Int)] 26 37
  have HB := Lib.hid fun (W : World) (x : Ext W0 W) => And.intro (arr4 (ext_blk x b1)) (two (ext_blk x b2))
  have c1 := fun (W : World) (x : Ext w W) => rquCheck_any t n k v.k64 p v.p64 A c hc v.pn W ((hp.below x.out).more x.size)
  have c2 := fun (W : World) (x : Ext w W) => rmay6_any t n (.int .u64 (k : Int)) (.slice A p.length c) l v.l64 v.ln B e W ((hl.below x.out).more x.size)
  have c3 := fun (W : World) (x : Ext w W) => rfind_any l id B e v.ln W ((hl.below x.out).more x.size)
  have hrz := fun h1 h2 => range_zero (t := t) (n := n) (k := k) (p := p) (l := l) h1 h2
  unfold cpN rowN
  obtain ⟨E1, hE1⟩ : ∃ E, E = crewN t n k p := ⟨_, rfl⟩
  obtain ⟨E2, hE2⟩ : ∃ E, E = enN t n l := ⟨_, rfl⟩
  rw [← hE1] at c1 hrz ⊢
  rw [← hE2] at c2 hrz ⊢
  obtain ⟨⟨a0, a1, a2, a3⟩, a4, a5⟩ := HB.out W0 (Ext.refl W0)
  by_cases h1 : E1 = 0
  case neg =>
    rw [if_neg h1]
    have d1 : ((E1 : Int) != 0) = true := by simp; omega
    rw [← e0] at a0 a1 a2 a3 a4 a5 x0
    clear v hx64 hc hd hp hm hl c2 c3 hrz hE1 hE2 h1 b1 b2 HB e0
    go_enter Tryz.func22, Tryz.ntmps22
    go_wp2_with (go_at_call 14; refine (c1 _ x0).mono ?_; clear c1; rintro e w1 ⟨rfl, x1⟩)
    go_ret
    exact ⟨rfl, x0.trans x1⟩
  rw [if_pos h1]
  rw [h1] at c1
  by_cases h2 : E2 = 0
  case neg =>
    rw [if_neg h2]
    have d1 : ((E2 : Int) != 0) = true := by simp; omega
    have HX0 := Lib.hid x0
    rw [← e0] at x0 HB
    rw [← e0] at a0 a1 a2 a3 a4 a5
    clear v hx64 hc hd hp hm hl c3 hrz hE1 hE2 h1 h2 b1 b2 e0
    go_enter Tryz.func22, Tryz.ntmps22
    go_wp2_with (first
      | (go_at_call 14; refine (c1 _ x0).mono ?_; clear c1; rintro e w1 ⟨rfl, x1⟩; obtain ⟨⟨i0, i1, i2, i3⟩, i4, i5⟩ := HB.out _ x1)
      | (go_at_call 57; refine (c2 _ (x0.trans x1)).mono ?_; clear c2; rintro e w2 ⟨rfl, x2⟩))
    go_ret
    exact ⟨rfl, (x0.trans x1).trans x2⟩
  rw [if_pos h2]
  rw [h2] at c2
  have hrange := hrz h1 h2
  unfold rightN
  cases ho : ofC l id with
  | none =>
    rw [ofC_none ho] at c3
    simp only
    rw [← e0] at x0 HB
    rw [← e0] at a0 a1 a2 a3 a4 a5
    clear v hx64 hc hd hp hm hl hrz hE1 hE2 h1 h2 b1 b2 e0 hrange ho
    go_enter Tryz.func22, Tryz.ntmps22
    go_wp2_with (first
      | (go_at_call 14; refine (c1 _ x0).mono ?_; clear c1; rintro e w1 ⟨rfl, x1⟩; obtain ⟨⟨i0, i1, i2, i3⟩, i4, i5⟩ := HB.out _ x1)
      | (go_at_call 57; refine (c2 _ (x0.trans x1)).mono ?_; clear c2; rintro e w2 ⟨rfl, x2⟩; have X2 := x1.trans x2; obtain ⟨-, j4, j5⟩ := HB.out _ X2)
      | (go_at_call 64; refine (c3 _ (x0.trans X2)).mono ?_; clear c3; rintro e w3 ⟨rfl, x3⟩))
    go_ret
    exact ⟨rfl, (x0.trans X2).trans x3⟩
  | some s =>
    obtain ⟨hs1, hsm, i, hi, hix⟩ := ofC_some ho
    rw [hix] at c3
    simp only
    have hil : i < l.length := (List.getElem?_eq_some_iff.1 hi).1
    have g0 : ¬ (i : Int) < 0 := by omega
    have giL : (i : Int) < (l.length : Int) := by omega
    by_cases hR : bR ≤ x
    · rw [if_pos hR]
      have d1 : decide ((1152921504606845789 : Int) ≤ (x : Int)) = true := by unfold bR at hR; simp; omega
      have d2 : (1152921504606845789 : Int) ≤ (x : Int) := by unfold bR at hR; omega
      rw [← e0] at x0 HB
      rw [← e0] at a0 a1 a2 a3 a4 a5
      clear v hx64 hc hd hp hm hl hrz hE1 hE2 h1 h2 b1 b2 e0 hrange ho hs1 hsm hi hix hil hR
      go_enter Tryz.func22, Tryz.ntmps22
      go_wp2_with (first
        | (go_at_call 14; refine (c1 _ x0).mono ?_; clear c1; rintro e w1 ⟨rfl, x1⟩; obtain ⟨⟨i0, i1, i2, i3⟩, i4, i5⟩ := HB.out _ x1)
        | (go_at_call 57; refine (c2 _ (x0.trans x1)).mono ?_; clear c2; rintro e w2 ⟨rfl, x2⟩; have X2 := x1.trans x2; obtain ⟨-, j4, j5⟩ := HB.out _ X2)
        | (go_at_call 64; refine (c3 _ (x0.trans X2)).mono ?_; clear c3; rintro e w3 ⟨rfl, x3⟩; obtain ⟨-, m4, m5⟩ := HB.out _ (X2.trans x3)))
      go_ret
      exact ⟨rfl, (x0.trans X2).trans x3⟩
    · rw [if_neg hR]
      have d1 : decide ((1152921504606845789 : Int) ≤ (x : Int)) = false := by unfold bR at hR; simp; omega
      have hidr := hrange s hsm
      rw [hs1] at hidr
      obtain ⟨j, hj⟩ : ∃ j : Nat, id = ((j + 1 : Nat) : Int) := ⟨id.toNat - 1, by omega⟩
      have hjl : j < p.length := by omega
      obtain ⟨r, hr⟩ : ∃ r, p[j]? = some r := ⟨_, List.getElem?_eq_getElem hjl⟩
      have hpx : partX p id = r.2 := by unfold partX; rw [hj, Int.toNat_natCast, Nat.add_sub_cancel, hr]
      rw [hpx]
      have hpn := v.pn
      have kw : IntKind.i64.wrap (id - 1) = (j : Int) := by rw [IntKind.wrap_i64] <;> omega
      have gjL : (j : Int) < (p.length : Int) := by omega
      have cB := fun W => rBase_any x hx64 W
      have cS := fun (W : World) (y : Ext w W) => rscaled_any (.int .i64 t) (.int .i64 n) k v.k64 (.slice A p.length c) m v.mb v.mn l v.l64 v.ln id M B d e hd W ((hm.below y.out).more y.size) ((hl.below y.out).more y.size)
      have hsl := r64 (scN_lt k m l id)
      obtain ⟨sc, hsc⟩ : ∃ q, q = scN k m l id := ⟨_, rfl⟩
      rw [← hsc] at cS hsl ⊢
      have cP := fun W => rPow_any r.2 sc (v.p64 r (List.mem_of_getElem? hr)) hsl W
      obtain ⟨pw, hpw⟩ : ∃ q, q = powM bQ r.2 sc := ⟨_, rfl⟩
      have lpw : pw < 18446744073709551616 := by rw [hpw]; exact pw64 _ _
      rw [← hpw] at cP ⊢
      have cM := fun W => rMul_any s.2 pw lpw W
      obtain ⟨mu, hmu⟩ : ∃ q, q = mulM bQ s.2 pw := ⟨_, rfl⟩
      obtain ⟨ba, hba⟩ : ∃ q, q = powM bQ 4 x := ⟨_, rfl⟩
      rw [← hmu] at cM ⊢
      rw [← hba] at cB ⊢
      obtain ⟨rv, hrv⟩ : ∃ q : Nat, q = if ba = mu then 0 else 60 := ⟨_, rfl⟩
      rw [← hrv]
      have HV := Lib.hid hrv
      obtain ⟨ad, rfl, -, -, -⟩ := reads_share hl hi
      obtain ⟨bd, rfl, -, -, -⟩ := reads_share hp hr
      have HRL := Lib.hid fun (W : World) (x : Ext W0 W) => And.intro (reads_share (hl.below (x0.trans x).out) hi) (reads_share (hp.below (x0.trans x).out) hr)
      have HX0 := Lib.hid x0
      have x0' := x0
      rw [← e0] at x0' HB HRL
      rw [← e0] at a0 a1 a2 a3 a4 a5
      clear v hx64 hc hd hp hm hl hrz hE1 hE2 h1 h2 b1 b2 e0 hrange ho hs1 hsm hi hix hil hR hidr hjl hr hpx hpn hsl hsc hpw lpw hmu hba hrv x0
      have HJ := Lib.hid hj
      clear hj
      go_enter Tryz.func22, Tryz.ntmps22
      go_wp2_with (first
        | (go_at_call 14; refine (c1 _ x0').mono ?_; clear c1; rintro e w1 ⟨rfl, x1⟩; obtain ⟨⟨i0, i1, i2, i3⟩, i4, i5⟩ := HB.out _ x1)
        | (go_at_call 57; refine (c2 _ (x0'.trans x1)).mono ?_; clear c2; rintro e w2 ⟨rfl, x2⟩; have X2 := x1.trans x2; obtain ⟨-, j4, j5⟩ := HB.out _ X2)
        | (go_at_call 64; refine (c3 _ (x0'.trans X2)).mono ?_; clear c3; rintro e w3 ⟨rfl, x3⟩; have X3 := Lib.hid (X2.trans x3); obtain ⟨⟨n0, n1, n2, n3⟩, n4, n5⟩ := HB.out _ X3.out))
      clear a0 a1 a2 a3 a4 a5 i0 i1 i2 i3 i4 i5 j4 j5 X2 x1 x2 x3
      obtain ⟨⟨_, e', -, -, q1⟩, ⟨_, e'', -, -, r1⟩⟩ := HRL.out _ X3.out
      cases e'
      cases e''
      go_region_held3 (fun w' => w'.cell? ⟨w.heap.size, 0, none⟩ = some (.int .i64 t) ∧ w'.cell? ⟨w.heap.size, 1, none⟩ = some (.int .i64 n) ∧ w'.cell? ⟨w.heap.size, 2, none⟩ = some (.int .u64 (k : Int)) ∧ w'.cell? ⟨w.heap.size, 3, none⟩ = some (.slice (some bd) p.length c) ∧ w'.cell? ⟨w.heap.size + 1, 0, none⟩ = some (.int .i64 id) ∧ w'.cell? ⟨(ad.add (i * 2)).block, (ad.add (i * 2)).off + 1, none⟩ = some (.int .u64 (s.2 : Int)) ∧ w'.cell? ⟨(bd.add (j * 2)).block, (bd.add (j * 2)).off + 1, none⟩ = some (.int .u64 (r.2 : Int))) (go_keep) (first
        | (go_at_call 66; refine (cS _ (x0'.trans (X3.out.trans (Ext.refl w3).drew))).mono ?_; clear cS; rintro e w4 ⟨rfl, x4⟩; have X4 := (Ext.refl w3).drew.trans x4; have y0 := X4.cell n0; have y1 := X4.cell n1; have y2 := X4.cell n2; have y3 := X4.cell n3; have y4 := X4.cell n4; have y5 := X4.cell q1; have y6 := X4.cell r1)
        | (go_at_call 69; refine (cP _).mono ?_; clear cP; rintro e w5 ⟨rfl, rfl⟩)
        | (go_at_call 68; refine (cM _).mono ?_; clear cM; rintro e w6 ⟨rfl, rfl⟩))
      clear y0 y1 y2 y3 y4 y5 y6 n0 n1 n2 n3 q1 r1
      have n5' := X4.cell n5
      by_cases hq : ba = mu
      · have hv : Hid (rv = 0) := Lib.hid (by rw [HV.out, if_pos hq])
        have d3 : ((ba : Int) != (mu : Int)) = false := by simp [hq]
        clear hq
        go_wp2_with (go_at_call 45; refine (cB _).mono ?_; clear cB; rintro e w7 ⟨rfl, rfl⟩)
        go_ret
        exact ⟨by rw [hv.out]; rfl, (x0'.trans X3.out).trans X4⟩
      · have hv : Hid (rv = 60) := Lib.hid (by rw [HV.out, if_neg hq])
        have d3 : ((ba : Int) != (mu : Int)) = true := by simp; omega
        clear hq
        go_wp2_with (go_at_call 45; refine (cB _).mono ?_; clear cB; rintro e w7 ⟨rfl, rfl⟩)
        go_ret
        exact ⟨by rw [hv.out]; rfl, (x0'.trans X3.out).trans X4⟩
end Go.Proofs.YtiecfamjnnmpaaaGreat

/- Crews, walked: slices.Equal at numbers; all parts. -/
namespace Go.Proofs.YtiecfamjnnmpaaaGreat
set_option linter.unusedVariables false
open Go.RowKit Go.Shelf Go.Maps
attribute [local irreducible] atN prodN sumN wantN chkN mix hSum hNum chalN chN scN qnN crewN enN rightN

set_option maxRecDepth 100000 in
set_option maxHeartbeats 2000000 in
theorem eqI_any (l m : List Int) (A B : Option Addr) (c d : Nat) (hn : l.length ≤ 1099511627776) (w : World) (hr : Reads w w.heap.size 1 A l.length (iv l)) (hs : Reads w w.heap.size 1 B m.length (iv m)) :
    Calls Tryz.prog 48 #[.slice A l.length c, .slice B m.length d] w fun e w' => e = .returned (.bool (decide (l = m))) ∧ Ext w w' := by
  by_cases hl : l.length = m.length
  · have hr0 : Hid (Reads w w.heap.size 1 A l.length (iv l)) := Lib.hid hr
    have hs0 : Hid (Reads w w.heap.size 1 B m.length (iv m)) := Lib.hid hs
    have HN := Lib.hid hn
    have HL := Lib.hid hl
    rw [← hl]
    clear hr hs hn hl
    go_enter Tryz.func48, Tryz.ntmps48
    go_wp2
    go_loopg [13] l.length (fun g s13 wr => ∃ j : Nat, j + g = l.length ∧ s13 = .int .i64 j ∧ l.take j = m.take j ∧ Ext w wr)
    case atStart => exact ⟨0, by omega, rfl, by simp, Ext.refl w⟩
    case round =>
      obtain ⟨j, hj, rfl, hok, hx⟩ := hrel
      by_cases h : j < l.length
      · obtain ⟨s, hs⟩ : ∃ s, l[j]? = some s := ⟨_, List.getElem?_eq_getElem h⟩
        obtain ⟨t, ht⟩ : ∃ s, m[j]? = some s := ⟨_, List.getElem?_eq_getElem (by rw [← HL.out]; exact h)⟩
        obtain ⟨ad, rfl, q0⟩ := reads_id (hr0.out.below hx.out) hs
        obtain ⟨bd, rfl, r0⟩ := reads_id (hs0.out.below hx.out) ht
        have hjb : (j : Int) ≤ 1099511627776 := by have := HN.out; omega
        have HX := Lib.hid hx
        have HJ := Lib.hid hj
        have e1 : l.take (j + 1) = l.take j ++ [s] := by rw [List.take_add_one, hs]; rfl
        have e2 : m.take (j + 1) = m.take j ++ [t] := by rw [List.take_add_one, ht]; rfl
        have q0' := fun n : Nat => show (wr.drewN n).cell? _ = _ from q0
        have r0' := fun n : Nat => show (wr.drewN n).cell? _ = _ from r0
        by_cases hst : s = t
        · have hok' : Hid (l.take (j + 1) = m.take (j + 1)) := by show _ = _; rw [e1, e2, hok, hst]
          have d1 : (s != t) = false := by simp [hst]
          subst hst
          clear hx hj hok hs ht e1 e2
          go_wp2
          go_region
          all_goals go_wp2
          have hj := HJ.out
          all_goals go_roundg (gk - 1)
          case measure => omega
          case rel => exact ⟨j + 1, by omega, int_congr (by omega), hok'.out, HX.out.drew⟩
        · have k : decide (l = m) = false := decide_eq_false fun e => hst (by rw [e, ht] at hs; exact (Option.some.inj hs).symm)
          have d1 : (s != t) = true := by simp [hst]
          clear hx hj hok hs ht e1 e2
          go_wp2
          go_region
          all_goals go_wp2
          all_goals go_ret
          all_goals first | exact ⟨ret_bool k.symm, HX.out.drew⟩ | exact ⟨rfl, HX.out.drew⟩
      · obtain rfl : j = l.length := by omega
        have k : decide (l = m) = true := decide_eq_true (by rw [List.take_length] at hok; rw [hok, HL.out, List.take_length])
        have HX := Lib.hid hx
        clear hx hok hj
        go_wp2
        go_ret
        first | exact ⟨ret_bool k.symm, HX.out⟩ | exact ⟨rfl, HX.out⟩
  · have k : decide (l = m) = false := decide_eq_false fun e => hl (by rw [e])
    have d1 : ((l.length : Int) != (m.length : Int)) = true := by simp; omega
    clear hr hs hn
    go_enter Tryz.func48, Tryz.ntmps48
    go_wp2
    go_ret
    first | exact ⟨ret_bool k.symm, Ext.refl w⟩ | exact ⟨rfl, Ext.refl w⟩

/-- What is wrong with all parts. -/
def allN (k : Nat) (p : List (Int × Nat)) (m : List Nat) (l q : List (Int × Nat)) : Nat :=
  if q.map (·.1) = l.map (·.1) then (match q.find? (fun s => rightN k p m l s.1 s.2 != 0) with | some s => rightN k p m l s.1 s.2 | none => 0) else 1
theorem all_ids {k : Nat} {p : List (Int × Nat)} {m : List Nat} {l q : List (Int × Nat)} (h : q.map (·.1) ≠ l.map (·.1)) : allN k p m l q = 1 := if_neg h
theorem all_bad {k : Nat} {p : List (Int × Nat)} {m : List Nat} {l q : List (Int × Nat)} (h : q.map (·.1) = l.map (·.1)) {j : Nat} {s : Int × Nat} (hs : q[j]? = some s) (h0 : ∀ r ∈ q.take j, rightN k p m l r.1 r.2 = 0) (h1 : rightN k p m l s.1 s.2 ≠ 0) : allN k p m l q = rightN k p m l s.1 s.2 := by
  obtain ⟨hj, rfl⟩ := List.getElem?_eq_some_iff.1 hs
  have : q.find? (fun s => rightN k p m l s.1 s.2 != 0) = some q[j] := List.find?_eq_some_iff_getElem.2 ⟨by simpa using h1, j, hj, rfl, fun i hi => by
    have := h0 q[i] (List.mem_take_iff_getElem.2 ⟨i, by omega, rfl⟩)
    simp [this]⟩
  unfold allN
  rw [if_pos h, this]
theorem all_ok {k : Nat} {p : List (Int × Nat)} {m : List Nat} {l q : List (Int × Nat)} (h : q.map (·.1) = l.map (·.1)) (h0 : ∀ r ∈ q, rightN k p m l r.1 r.2 = 0) : allN k p m l q = 0 := by
  have : q.find? (fun s => rightN k p m l s.1 s.2 != 0) = none := List.find?_eq_none.2 fun s hs => by simp [h0 s hs]
  unfold allN
  rw [if_pos h, this]

set_option maxRecDepth 100000 in
set_option maxHeartbeats 4000000 in
theorem cmb1_any (b : Nat) (t n : Int) (k : Nat) (p : List (Int × Nat)) (m : List Nat) (l : List (Int × Nat)) (v : SesV k p m l) (hrange : ∀ s ∈ l, 1 ≤ s.1 ∧ s.1 ≤ p.length) (q : List (Int × Nat)) (hqX : ∀ s ∈ q, s.2 < 18446744073709551616) (hqn : q.length ≤ 1099511627776) (D B : Option Addr) (cd cb : Nat) (g h f : Nat) (w : World) (hs : Ses w b t n k p m l)
    (hg : w.cell? ⟨g, 0, none⟩ = some (.slice D q.length cd)) (hh : w.cell? ⟨h, 0, none⟩ = some (.slice B l.length cb)) (hf : w.cell? ⟨f, 0, none⟩ = some (.pointer (some ⟨b, 0, none⟩))) (hq : Reads w w.heap.size 2 D q.length (sv q)) (hl : Reads w w.heap.size 2 B l.length (sv l)) :
    Calls Tryz.prog 47 #[.pointer (some ⟨g, 0, none⟩), .pointer (some ⟨h, 0, none⟩), .pointer (some ⟨f, 0, none⟩)] w fun e w' => e = .returned (.int .i64 (allN k p m l q : Nat)) ∧ Ext w w' := by
  have HG := Lib.hid fun (W : World) (x : Ext w W) => And.intro (x.cell hg) (x.cell hh)
  have c1 := fun (W : World) (x : Ext w W) => who_any q D cd hqn W ((hq.below x.out).more x.size)
  have c2 := fun (W : World) (x : Ext w W) => who_any l B cb v.ln W ((hl.below x.out).more x.size)
  have c3 := fun A A' c c' (W : World) (h1 : Reads W W.heap.size 1 A q.length (iv (q.map fun s : Int × Nat => s.1))) (h2 : Reads W W.heap.size 1 A' l.length (iv (l.map fun s : Int × Nat => s.1))) => eqI_any (q.map fun s : Int × Nat => s.1) (l.map fun s : Int × Nat => s.1) A A' c c' (by rw [List.length_map]; exact hqn) W (by rw [List.length_map]; exact h1) (by rw [List.length_map]; exact h2)
  simp only [List.length_map] at c3
  have cR := fun (W : World) (x : Ext w W) (s : Int × Nat) (hs' : s ∈ q) => qright_any b t n k p m l v hrange s.1 s.2 (hqX s hs') W (hs.ext x)
  have HQ := Lib.hid hq
  have HN := Lib.hid hqn
  have HC := Lib.hid cR
  clear hl hs hq v hrange hqX hqn cR
  by_cases hi : (q.map fun s : Int × Nat => s.1) = (l.map fun s : Int × Nat => s.1)
  · rw [decide_eq_true hi] at c3
    have HI := Lib.hid hi
    clear hi
    go_enter Tryz.func47, Tryz.ntmps47
    go_wp2
    go_region_held3 (fun w' => w'.cell? ⟨g, 0, none⟩ = some (.slice D q.length cd) ∧ w'.cell? ⟨h, 0, none⟩ = some (.slice B l.length cb)) (go_keep) (first
      | (go_at_call 49; refine (c1 _ (Ext.refl w).drew).mono ?_; clear c1; rintro e w1 ⟨A1, k1, rfl, hk1, r1, x1⟩; have X1 := (Ext.refl w).drew.trans x1; obtain ⟨z0, z1⟩ := HG.out w1 X1)
      | (go_at_call 49; refine (c2 _ X1).mono ?_; clear c2; rintro e w2 ⟨A2, k2, rfl, hk2, r2, x2⟩; have X2 := X1.trans x2; obtain ⟨z2, z3⟩ := HG.out w2 X2)
      | (go_at_call 48; refine (c3 _ _ _ _ _ ((r1.below x2.out).more x2.size) r2).mono ?_; clear c3; rintro e w3 ⟨rfl, x3⟩; have X3 := X2.trans x3; obtain ⟨z4, z5⟩ := HG.out w3 X3))
    have X0 := Lib.hid X3
    clear z0 z1 z2 z3 z4 z5 x1 x2 x3 X1 X2 X3 r1 r2 hg hh
    have k3 := (HG.out w3 X0.out).1
    have HF := Lib.hid fun (W : World) (x : Ext w W) => x.cell hf
    clear hf
    go_wp2
    clear k3
    go_loopg [15] q.length (fun g s15 wr => ∃ j : Nat, j + g = q.length ∧ s15 = .int .i64 j ∧ (∀ r ∈ q.take j, rightN k p m l r.1 r.2 = 0) ∧ Ext w wr)
    case atStart => exact ⟨0, by omega, rfl, by simp, X0.out⟩
    case round =>
      obtain ⟨j, hj, rfl, hok, hx⟩ := hrel
      by_cases h : j < q.length
      · obtain ⟨s, hs⟩ : ∃ s, q[j]? = some s := ⟨_, List.getElem?_eq_getElem h⟩
        obtain ⟨ad, rfl, hlt, q0, q1⟩ := reads_share (HQ.out.below hx.out) hs
        have hjb : (j : Int) ≤ 1099511627776 := by have := HN.out; omega
        have cR := fun (W : World) (x : Ext w W) => HC.out W x s (List.mem_of_getElem? hs)
        have f0 := fun o => (hx.alloc o).cell (HF.out w (Ext.refl w))
        have e1 : q.take (j + 1) = q.take j ++ [s] := by rw [List.take_add_one, hs]; rfl
        by_cases h0 : rightN k p m l s.1 s.2 = 0
        · rw [h0] at cR
          have hok' : Hid (∀ r ∈ q.take (j + 1), rightN k p m l r.1 r.2 = 0) := Lib.hid fun r hr => by
            rw [e1] at hr
            rcases List.mem_append.1 hr with hr | hr
            · exact hok r hr
            · rw [List.mem_singleton] at hr; subst hr; exact h0
          have HX := Lib.hid hx
          have HJ := Lib.hid hj
          clear hx hj hok hs e1 h0
          go_wp2_with (go_at_call 50; refine (cR _ (HX.out.alloc _)).mono ?_; clear cR; rintro e w4 ⟨rfl, x4⟩)
          have hj := HJ.out
          go_roundg (gk - 1)
          case measure => omega
          case rel => exact ⟨j + 1, by omega, int_congr (by omega), hok'.out, (HX.out.alloc _).trans x4⟩
        · have HA := Lib.hid (all_bad HI.out hs hok h0)
          obtain ⟨u, hu⟩ : ∃ u, u = rightN k p m l s.1 s.2 := ⟨_, rfl⟩
          rw [← hu] at cR h0 HA
          have d : ((u : Int) != 0) = true := by simp; omega
          have HX := Lib.hid hx
          clear hx hj hok hs e1 h0 hu
          go_wp2_with (go_at_call 50; refine (cR _ (HX.out.alloc _)).mono ?_; clear cR; rintro e w4 ⟨rfl, x4⟩)
          go_ret
          exact ⟨by rw [HA.out]; rfl, (HX.out.alloc _).trans x4⟩
      · obtain rfl : j = q.length := by omega
        rw [List.take_length] at hok
        have HA := Lib.hid (all_ok HI.out hok)
        have HX := Lib.hid hx
        clear hx hj hok
        go_wp2
        go_ret
        exact ⟨by rw [HA.out]; rfl, HX.out⟩
  · rw [decide_eq_false hi] at c3
    have HA := Lib.hid (all_ids (k := k) (p := p) (m := m) hi)
    clear hi
    go_enter Tryz.func47, Tryz.ntmps47
    go_wp2
    go_region_held3 (fun w' => w'.cell? ⟨g, 0, none⟩ = some (.slice D q.length cd) ∧ w'.cell? ⟨h, 0, none⟩ = some (.slice B l.length cb)) (go_keep) (first
      | (go_at_call 49; refine (c1 _ (Ext.refl w).drew).mono ?_; clear c1; rintro e w1 ⟨A1, k1, rfl, hk1, r1, x1⟩; have X1 := (Ext.refl w).drew.trans x1; obtain ⟨z0, z1⟩ := HG.out w1 X1)
      | (go_at_call 49; refine (c2 _ X1).mono ?_; clear c2; rintro e w2 ⟨A2, k2, rfl, hk2, r2, x2⟩; have X2 := X1.trans x2; obtain ⟨z2, z3⟩ := HG.out w2 X2)
      | (go_at_call 48; refine (c3 _ _ _ _ _ ((r1.below x2.out).more x2.size) r2).mono ?_; clear c3; rintro e w3 ⟨rfl, x3⟩; have X3 := X2.trans x3; obtain ⟨z4, z5⟩ := HG.out w3 X3))
    go_wp2
    go_ret
    exact ⟨by rw [HA.out]; rfl, X3⟩
end Go.Proofs.YtiecfamjnnmpaaaGreat

/- Crews, walked: Combine. -/
namespace Go.Proofs.YtiecfamjnnmpaaaGreat
set_option linter.unusedVariables false
open Go.RowKit Go.Shelf Go.Maps
attribute [local irreducible] atN prodN sumN wantN chkN mix hSum hNum chalN chN scN qnN crewN enN rightN allN

theorem allX_enters : Enters Tryz.prog 47 := enters_of Tryz.func47 (by kernel_rfl) rfl
def sumQ (q : List (Int × Nat)) : Nat := q.foldl (fun o s => addM bR o s.2) 0
theorem sumQ_lt (q : List (Int × Nat)) : sumQ q < bR := foldl_lt _ bR (fun o k ho => addM_lt' (by decide) _ _) q 0 (by decide)
def cmbE (t n : Int) (k : Nat) (p : List (Int × Nat)) (m : List Nat) (l q : List (Int × Nat)) : Nat := rowN (crewN t n k p) (enN t n l) (allN k p m l q)
/-- What parts are combined to. -/
def cmbS (t n : Int) (k : Nat) (p : List (Int × Nat)) (m : List Nat) (l q : List (Int × Nat)) : Nat × Nat := if cmbE t n k p m l q = 0 then (chN k m l, sumQ q) else (0, 0)
def cmbV (t n : Int) (k : Nat) (p : List (Int × Nat)) (m : List Nat) (l q : List (Int × Nat)) : Value := .tuple #[.agg #[.int .u64 ((cmbS t n k p m l q).1 : Int), .int .u64 ((cmbS t n k p m l q).2 : Int)], .int .i64 (cmbE t n k p m l q : Nat)]

theorem start_seven (w : World) (x y z u v r s : Array Value) (T1 T2 T3 T4 T5 T6 T7 : TypeId) : ∃ W, ((((((w.alloc (.cells x T1)).alloc (.cells y T2)).alloc (.cells z T3)).alloc (.cells u T4)).alloc (.cells v T5)).alloc (.cells r T6)).alloc (.cells s T7) = W ∧ Blk W w.heap.size T1 x ∧ Blk W (w.heap.size + 1) T2 y ∧ Blk W (w.heap.size + 1 + 1) T3 z ∧ Blk W (w.heap.size + 1 + 1 + 1) T4 u ∧ Blk W (w.heap.size + 1 + 1 + 1 + 1) T5 v ∧ Blk W (w.heap.size + 1 + 1 + 1 + 1 + 1) T6 r ∧ Blk W (w.heap.size + 1 + 1 + 1 + 1 + 1 + 1) T7 s ∧ Ext w W := by
  obtain ⟨W5, e5, b1, b2, b3, b4, b5, x5⟩ := start_five w x y z u v T1 T2 T3 T4 T5
  have hz : W5.heap.size = w.heap.size + 1 + 1 + 1 + 1 + 1 := by rw [← e5]; simp only [World.size_alloc]
  rw [e5]
  have h6 := Blk.new W5 T6 r
  have h7 := Blk.new (W5.alloc (.cells r T6)) T7 s
  rw [World.size_alloc] at h7
  rw [hz] at h6 h7
  exact ⟨_, rfl, (b1.alloc _).alloc _, (b2.alloc _).alloc _, (b3.alloc _).alloc _, (b4.alloc _).alloc _, (b5.alloc _).alloc _, h6.alloc _, h7, (x5.alloc _).alloc _⟩

set_option maxRecDepth 100000 in
set_option maxHeartbeats 8000000 in
theorem Combine_any (t n : Int) (k : Nat) (p : List (Int × Nat)) (m : List Nat) (l : List (Int × Nat)) (v : SesV k p m l) (q : List (Int × Nat)) (hqX : ∀ s ∈ q, s.2 < 18446744073709551616) (hqn : q.length ≤ 1099511627776) (A M B D : Option Addr) (c d e f : Nat) (hc : p.length ≤ c) (hd : m.length ≤ d) (he : l.length ≤ e) (w : World) (hp : Reads w w.heap.size 2 A p.length (sv p)) (hm : Reads w w.heap.size 1 M m.length (bv m)) (hl : Reads w w.heap.size 2 B l.length (sv l)) (hq : Reads w w.heap.size 2 D q.length (sv q)) :
    Calls Tryz.prog 17 #[.agg #[.int .i64 t, .int .i64 n, .int .u64 (k : Int), .slice A p.length c], .slice M m.length d, .slice B l.length e, .slice D q.length f] w fun e w' => e = .returned (cmbV t n k p m l q) ∧ Ext w w' := by
  have hmf := makeFunc_run
  obtain ⟨W, eW, b1, b2, b3, b4, b5, b6, b7, x0⟩ := start_seven w #[.int .i64 t, .int .i64 n, .int .u64 (k : Int), .slice A p.length c] #[.slice B l.length e] #[.slice D q.length f] #[.int .u64 0, .int .u64 0] #[.int .i64 t, .int .i64 n, .int .u64 (k : Int), .slice A p.length c, .slice M m.length d, .slice B l.length e] #[.pointer (some ⟨w.heap.size + 1 + 1 + 1 + 1, 0, none⟩)]
    #[.func (.func 52) #[.pointer (some ⟨w.heap.size + 1 + 1 + 1 + 1, 0, none⟩)] #[], .func (.func 53) #[.pointer (some ⟨w.heap.size + 1 + 1 + 1 + 1, 0, none⟩)] #[], .func (.func 47) #[] #[.pointer (some ⟨w.heap.size + 1 + 1, 0, none⟩), .pointer (some ⟨w.heap.size + 1, 0, none⟩), .pointer (some ⟨w.heap.size + 1 + 1 + 1 + 1 + 1, 0, none⟩)]]
    26 24 24 42 69 67 74
  have ses : Ses W (w.heap.size + 1 + 1 + 1 + 1) t n k p m l := ⟨A, c, M, d, B, e, b5, hc, hd, he, (hp.below x0.out).more x0.size, (hm.below x0.out).more x0.size, (hl.below x0.out).more x0.size⟩
  have hl' := (hl.below x0.out).more x0.size
  have hq' := (hq.below x0.out).more x0.size
  have cr : Calls Tryz.prog 51 #[.slice (some ⟨w.heap.size + 1 + 1 + 1 + 1 + 1 + 1, 0, none⟩) 3 3] W fun e w' => e = .returned (.int .i64 (cmbE t n k p m l q : Nat)) ∧ Ext W w' := by
    refine (row_any _ _ _ crew_enters enough_enters allX_enters #[.pointer (some ⟨w.heap.size + 1 + 1 + 1 + 1, 0, none⟩)] #[] #[.pointer (some ⟨w.heap.size + 1 + 1 + 1 + 1, 0, none⟩)] #[] #[] #[.pointer (some ⟨w.heap.size + 1 + 1, 0, none⟩), .pointer (some ⟨w.heap.size + 1, 0, none⟩), .pointer (some ⟨w.heap.size + 1 + 1 + 1 + 1 + 1, 0, none⟩)] (crewN t n k p) (enN t n l) (allN k p m l q) (Ext W) (Ext W) (Ext W) _ W ?_
      (crew_any _ t n k p m l v W ses)
      (fun _ W' h => (enough_any _ t n k p m l v W' (ses.ext h)).mono fun _ _ h' => ⟨h'.1, h.trans h'.2⟩)
      (fun h1 h2 W' h => (cmb1_any _ t n k p m l v (range_zero h1 h2) q hqX hqn D B f e _ _ _ W' (ses.ext h) ((ext_blk h b3).cell 0) ((ext_blk h b2).cell 0) ((ext_blk h b6).cell 0) ((hq'.below h.out).more h.size) ((hl'.below h.out).more h.size)).mono fun _ _ h' => ⟨h'.1, h.trans h'.2⟩)).mono fun e w' h => ⟨h.1, ?_⟩
    · rintro W' (rfl | h | h)
      · exact ⟨b7.cell 0, b7.cell 1, b7.cell 2⟩
      · have b := ext_blk h b7
        exact ⟨b.cell 0, b.cell 1, b.cell 2⟩
      · have b := ext_blk h b7
        exact ⟨b.cell 0, b.cell 1, b.cell 2⟩
    · rcases h.2 with h | h | h
      · exact h.2
      · exact h.2.2
      · exact h.2.2
  have cO := fun (W' : World) (x : Ext W W') => over_any _ sumX_enters #[] (fun o s => addM bR o s.2) q 0 hqn D f W' ((hq'.below x.out).more x.size) (fun W2 k s hk _ => sumX_any s.1 s.2 _ W2)
  have cC := fun (W' : World) (x : Ext W W') => challenge_any _ t n k p m l v W' (ses.ext x)
  have HB := Lib.hid fun (W' : World) (x : Ext W W') => And.intro (ext_blk x b4) (And.intro ((ext_blk x b3).cell 0) ((ext_blk x b6).cell 0))
  unfold cmbV cmbS
  obtain ⟨E, hE⟩ : ∃ E, E = cmbE t n k p m l q := ⟨_, rfl⟩
  rw [← hE] at cr ⊢
  clear hE
  by_cases h0 : E = 0
  · subst h0
    rw [if_pos rfl]
    unfold sumQ
    obtain ⟨y, hy⟩ : ∃ y, y = q.foldl (fun o s => addM bR o s.2) 0 := ⟨_, rfl⟩
    obtain ⟨z, hz⟩ : ∃ z, z = chN k m l := ⟨_, rfl⟩
    rw [← hy] at cO ⊢
    rw [← hz] at cC ⊢
    clear b1 b2 b3 b4 b5 b6 b7 hy hz ses hp hm hl hc hd he v hq hq' hl' hqX hqn
    have HW := Lib.hid eW
    rw [← eW] at cr
    clear eW
    go_enter Tryz.func17, Tryz.ntmps17
    go_wp2_with (first
      | (go_at_call 51; refine cr.mono ?_; clear cr; rintro e w1 ⟨rfl, x1⟩; rw [HW.out] at x1; obtain ⟨-, g1, g2⟩ := HB.out w1 x1)
      | (go_at_call 54; refine (cO _ x1).mono ?_; clear cO; rintro e w2 ⟨rfl, x2⟩; have X2 := x1.trans x2; obtain ⟨-, g3, g4⟩ := HB.out w2 X2)
      | (go_at_call 56; refine (cC _ X2).mono ?_; clear cC; rintro e w3 ⟨rfl, x3⟩; have X3 := X2.trans x3; obtain ⟨hb, g5, g6⟩ := HB.out w3 X3; obtain ⟨p0, p1⟩ := two hb; have f0 := hb.frozen 0; have f1 := hb.frozen 1; clear hb))
    refine bodyPost_ret (v := .tuple #[.agg #[.int .u64 (z : Int), .int .u64 (y : Int)], .int .i64 0]) (by simp [results, Tryz.results17, go_sem, p0, p1]) rfl ⟨rfl, ?_⟩
    exact ((x0.trans X3).setCell (p := ⟨w.heap.size + 1 + 1 + 1, 0, none⟩) (by simp only; omega) _).setCell (p := ⟨w.heap.size + 1 + 1 + 1, 1, none⟩) (by simp only; omega) _
  · rw [if_neg h0]
    have d1 : ((E : Int) != 0) = true := by simp; omega
    clear b1 b2 b3 b4 b5 b6 b7 ses hp hm hl hc hd he v hq hq' hl' hqX hqn cO cC
    have HW := Lib.hid eW
    rw [← eW] at cr
    clear eW
    go_enter Tryz.func17, Tryz.ntmps17
    go_wp2_with (go_at_call 51; refine cr.mono ?_; clear cr; rintro e w1 ⟨rfl, x1⟩; rw [HW.out] at x1; obtain ⟨hb, g1, g2⟩ := HB.out w1 x1; obtain ⟨p0, p1⟩ := two hb; have f0 := hb.frozen 0; have f1 := hb.frozen 1; clear hb)
    refine bodyPost_ret (v := .tuple #[.agg #[.int .u64 0, .int .u64 0], .int .i64 (E : Int)]) (by simp [results, Tryz.results17, go_sem, p0, p1]) rfl ⟨rfl, ?_⟩
    exact ((x0.trans x1).setCell (p := ⟨w.heap.size + 1 + 1 + 1, 0, none⟩) (by simp only; omega) _).setCell (p := ⟨w.heap.size + 1 + 1 + 1, 1, none⟩) (by simp only; omega) _
end Go.Proofs.YtiecfamjnnmpaaaGreat

/- Crews, walked: Part. -/
namespace Go.Proofs.YtiecfamjnnmpaaaGreat
set_option linter.unusedVariables false
open Go.RowKit Go.Shelf Go.Maps
attribute [local irreducible] atN prodN sumN wantN chkN mix hSum hNum chalN chN scN qnN crewN enN rightN allN comE comS

theorem ownX_enters : Enters Tryz.prog 60 := enters_of Tryz.func60 (by kernel_rfl) rfl
/-- As before but for one share. -/
def Own (w : World) (g : Nat) (a b : Value) (w' : World) : Prop := ∃ w1, Ext w w1 ∧ w' = (w1.setCell ⟨g, 0, none⟩ a).setCell ⟨g, 1, none⟩ b
theorem Own.far {w w' : World} {g h : Nat} {a b : Value} {T : TypeId} {cs : Array Value} (x : Own w g a b w') (hb : Blk w h T cs) (hne : h ≠ g) : Blk w' h T cs := by
  obtain ⟨w1, x1, rfl⟩ := x
  exact ((ext_blk x1 hb).far hne _).far hne _
theorem Own.at_ {w w' : World} {g : Nat} {a b c d : Value} {T : TypeId} (x : Own w g a b w') (hb : Blk w g T #[c, d]) : Blk w' g T #[a, b] := by
  obtain ⟨w1, x1, rfl⟩ := x
  exact ((ext_blk x1 hb).set_ 0 a).set_ 1 b
theorem Own.ext {w0 w w' : World} {g : Nat} {a b : Value} (x : Own w g a b w') (x0 : Ext w0 w) (hg : w0.heap.size ≤ g) : Ext w0 w' := by
  obtain ⟨w1, x1, rfl⟩ := x
  exact ((x0.trans x1).setCell (p := ⟨g, 0, none⟩) hg _).setCell (p := ⟨g, 1, none⟩) hg _

set_option maxRecDepth 100000 in
set_option maxHeartbeats 2000000 in
theorem part1_any (id : Int) (x : Nat) (hx : x < 18446744073709551616) (ss : Int) (m : List Nat) (hm : ∀ y ∈ m, y < 256) (hl : m.length ≤ 1000) (M : Option Addr) (d : Nat) (hd : m.length ≤ d) (g1 g2 g3 g : Nat) (w : World) (hr : Reads w w.heap.size 1 M m.length (bv m))
    (T : TypeId) (c1 c2 : Value) (h1 : Blk w g1 37 #[.int .i64 id, .int .u64 (x : Int)]) (h2 : w.cell? ⟨g2, 0, none⟩ = some (.int .i64 ss)) (h3 : w.cell? ⟨g3, 0, none⟩ = some (.slice M m.length d)) (h : Blk w g T #[c1, c2]) :
    Calls Tryz.prog 60 #[.pointer (some ⟨g1, 0, none⟩), .pointer (some ⟨g2, 0, none⟩), .pointer (some ⟨g3, 0, none⟩), .pointer (some ⟨g, 0, none⟩)] w fun e w' => e = .returned (.int .i64 (comE id x ss : Nat)) ∧ Own w g (.int .i64 (comS id x ss m).1) (.int .u64 ((comS id x ss m).2 : Int)) w' := by
  have c1' := Commit_any id x hx ss m hm hl M d hd w hr
  unfold comV at c1'
  obtain ⟨k0, k1⟩ := two h1
  obtain ⟨E, hE⟩ : ∃ E, E = comE id x ss := ⟨_, rfl⟩
  obtain ⟨s, hs⟩ : ∃ E, E = comS id x ss m := ⟨_, rfl⟩
  rw [← hE, ← hs] at c1'
  rw [← hE, ← hs]
  have HB := Lib.hid h
  clear hr hd hl hm hx h1 h hE hs
  go_enter Tryz.func60, Tryz.ntmps60
  go_wp2_with (go_at_call 15; refine c1'.mono ?_; clear c1'; rintro e w1 ⟨rfl, x1⟩; have hb := ext_blk x1 HB.out; obtain ⟨p0, p1⟩ := two hb; have f0 := hb.frozen 0; have f1 := hb.frozen 1; clear hb)
  go_ret
  exact ⟨rfl, w1, x1, rfl⟩

theorem start_eight (w : World) (x y z u v r s q : Array Value) (T1 T2 T3 T4 T5 T6 T7 T8 : TypeId) : ∃ W, (((((((w.alloc (.cells x T1)).alloc (.cells y T2)).alloc (.cells z T3)).alloc (.cells u T4)).alloc (.cells v T5)).alloc (.cells r T6)).alloc (.cells s T7)).alloc (.cells q T8) = W ∧ Blk W w.heap.size T1 x ∧ Blk W (w.heap.size + 1) T2 y ∧ Blk W (w.heap.size + 1 + 1) T3 z ∧ Blk W (w.heap.size + 1 + 1 + 1) T4 u ∧ Blk W (w.heap.size + 1 + 1 + 1 + 1) T5 v ∧ Blk W (w.heap.size + 1 + 1 + 1 + 1 + 1) T6 r ∧ Blk W (w.heap.size + 1 + 1 + 1 + 1 + 1 + 1) T7 s ∧ Blk W (w.heap.size + 1 + 1 + 1 + 1 + 1 + 1 + 1) T8 q ∧ Ext w W := by
  obtain ⟨W7, e7, b1, b2, b3, b4, b5, b6, b7, x7⟩ := start_seven w x y z u v r s T1 T2 T3 T4 T5 T6 T7
  have hz : W7.heap.size = w.heap.size + 1 + 1 + 1 + 1 + 1 + 1 + 1 := by rw [← e7]; simp only [World.size_alloc]
  rw [e7]
  have h8 := Blk.new W7 T8 q
  rw [hz] at h8
  exact ⟨_, rfl, b1.alloc _, b2.alloc _, b3.alloc _, b4.alloc _, b5.alloc _, b6.alloc _, b7.alloc _, h8, x7.alloc _⟩

/-- What is wrong with who signs. -/
def preE (t n : Int) (k : Nat) (p : List (Int × Nat)) (l : List (Int × Nat)) (id : Int) (x : Nat) (ss : Int) : Nat := rowN (crewN t n k p) (comE id x ss) (enN t n l)
def partE (t n : Int) (k : Nat) (p : List (Int × Nat)) (m : List Nat) (l : List (Int × Nat)) (id : Int) (x : Nat) (ss : Int) : Nat :=
  if preE t n k p l id x ss = 0 then (if ofC l id = some (comS id x ss m) then 0 else 60) else preE t n k p l id x ss
/-- A signer's part. -/
def partS (k : Nat) (m : List Nat) (l : List (Int × Nat)) (id : Int) (x : Nat) (ss : Int) : Nat := addM bR (qnN x id.toNat ss.toNat m) (mulM bR (scN k m l id) x)
def partV (t n : Int) (k : Nat) (p : List (Int × Nat)) (m : List Nat) (l : List (Int × Nat)) (id : Int) (x : Nat) (ss : Int) : Value :=
  if partE t n k p m l id x ss = 0 then .tuple #[.agg #[.int .i64 id, .int .u64 (partS k m l id x ss : Nat)], .int .i64 0] else .tuple #[.agg #[.int .i64 0, .int .u64 0], .int .i64 (partE t n k p m l id x ss : Nat)]
theorem com_zero {id : Int} {x : Nat} {ss : Int} (h : comE id x ss = 0) : 1 ≤ id ∧ id ≤ 7 ∧ x < bR ∧ 0 ≤ ss ∧ ss ≤ 1099511627776 := by
  unfold comE at h
  split at h
  · cases h
  · omega

theorem keepS (w : World) {g h : Nat} (hne : h ≠ g) (a b : Value) {i : Nat} {v : Value} (hc : w.cell? ⟨h, i, none⟩ = some v) : ((w.setCell ⟨g, 0, none⟩ a).setCell ⟨g, 1, none⟩ b).cell? ⟨h, i, none⟩ = some v := by
  have e : ∀ (w : World) (j : Nat) (u : Value), (w.setCell ⟨g, j, none⟩ u).cell? ⟨h, i, none⟩ = w.cell? ⟨h, i, none⟩ := fun w j u => by
    unfold World.cell?
    simp only [Below.heap_setCell w ⟨g, j, none⟩ u h hne]
  rw [e, e]; exact hc

set_option maxRecDepth 100000 in
set_option maxHeartbeats 8000000 in
theorem Part_any (t n : Int) (k : Nat) (p : List (Int × Nat)) (m : List Nat) (l : List (Int × Nat)) (v : SesV k p m l) (id : Int) (x : Nat) (hx64 : x < 18446744073709551616) (ss : Int) (A M B : Option Addr) (c d e : Nat) (hc : p.length ≤ c) (hd : m.length ≤ d) (he : l.length ≤ e) (w : World) (hp : Reads w w.heap.size 2 A p.length (sv p)) (hm : Reads w w.heap.size 1 M m.length (bv m)) (hl : Reads w w.heap.size 2 B l.length (sv l)) :
    Calls Tryz.prog 19 #[.agg #[.int .i64 t, .int .i64 n, .int .u64 (k : Int), .slice A p.length c], .agg #[.int .i64 id, .int .u64 (x : Int)], .int .i64 ss, .slice M m.length d, .slice B l.length e] w fun e w' => e = .returned (partV t n k p m l id x ss) ∧ Ext w w' := by
  have hmf := makeFunc_run
  obtain ⟨W, eW, b1, b2, b3, b4, b5, b6, b7, b8, x0⟩ := start_eight w #[.int .i64 t, .int .i64 n, .int .u64 (k : Int), .slice A p.length c] #[.int .i64 id, .int .u64 (x : Int)] #[.int .i64 ss] #[.slice M m.length d] #[.int .i64 0, .int .u64 0] #[.int .i64 t, .int .i64 n, .int .u64 (k : Int), .slice A p.length c, .slice M m.length d, .slice B l.length e] #[.int .i64 0, .int .u64 0]
    #[.func (.func 52) #[.pointer (some ⟨w.heap.size + 1 + 1 + 1 + 1 + 1, 0, none⟩)] #[], .func (.func 60) #[] #[.pointer (some ⟨w.heap.size + 1, 0, none⟩), .pointer (some ⟨w.heap.size + 1 + 1, 0, none⟩), .pointer (some ⟨w.heap.size + 1 + 1 + 1, 0, none⟩), .pointer (some ⟨w.heap.size + 1 + 1 + 1 + 1 + 1 + 1, 0, none⟩)], .func (.func 53) #[.pointer (some ⟨w.heap.size + 1 + 1 + 1 + 1 + 1, 0, none⟩)] #[]]
    26 37 3 22 37 69 37 74
  -- the session, in any world that is as here but for the share
  have ses : ∀ W', Ext w W' → Blk W' (w.heap.size + 1 + 1 + 1 + 1 + 1) 69 #[.int .i64 t, .int .i64 n, .int .u64 (k : Int), .slice A p.length c, .slice M m.length d, .slice B l.length e] → Ses W' (w.heap.size + 1 + 1 + 1 + 1 + 1) t n k p m l :=
    fun W' h hb => ⟨A, c, M, d, B, e, hb, hc, hd, he, (hp.below h.out).more h.size, (hm.below h.out).more h.size, (hl.below h.out).more h.size⟩
  let g := w.heap.size + 1 + 1 + 1 + 1 + 1 + 1
  have hgw : w.heap.size ≤ g := by simp only [g]; omega
  let s := comS id x ss m
  let P2 : World → Prop := fun W' => ∃ W1 W2, Ext W W1 ∧ Own W1 g (.int .i64 s.1) (.int .u64 (s.2 : Int)) W2 ∧ Ext W2 W'
  have keep : ∀ W', P2 W' → ∀ (h : Nat) (T : TypeId) (cs : Array Value), h ≠ g → Blk W h T cs → Blk W' h T cs := by
    rintro W' ⟨W1, W2, h1, h2, h3⟩ h T cs hne hb
    exact ext_blk h3 (h2.far (ext_blk h1 hb) hne)
  have ext2 : ∀ W', P2 W' → Ext w W' := by
    rintro W' ⟨W1, W2, h1, h2, h3⟩
    exact (h2.ext (x0.trans h1) hgw).trans h3
  have own2 : ∀ W', P2 W' → Blk W' g 37 #[.int .i64 s.1, .int .u64 (s.2 : Int)] := by
    rintro W' ⟨W1, W2, h1, h2, h3⟩
    exact ext_blk h3 (h2.at_ (ext_blk h1 b7))
  have cr : Calls Tryz.prog 51 #[.slice (some ⟨w.heap.size + 1 + 1 + 1 + 1 + 1 + 1 + 1, 0, none⟩) 3 3] W fun e w' => e = .returned (.int .i64 (preE t n k p l id x ss : Nat)) ∧ (crewN t n k p ≠ 0 ∧ Ext W w' ∨ P2 w') := by
    refine (row_any _ _ _ crew_enters ownX_enters enough_enters #[.pointer (some ⟨w.heap.size + 1 + 1 + 1 + 1 + 1, 0, none⟩)] #[] #[] #[.pointer (some ⟨w.heap.size + 1, 0, none⟩), .pointer (some ⟨w.heap.size + 1 + 1, 0, none⟩), .pointer (some ⟨w.heap.size + 1 + 1 + 1, 0, none⟩), .pointer (some ⟨w.heap.size + 1 + 1 + 1 + 1 + 1 + 1, 0, none⟩)] #[.pointer (some ⟨w.heap.size + 1 + 1 + 1 + 1 + 1, 0, none⟩)] #[] (crewN t n k p) (comE id x ss) (enN t n l) (Ext W) P2 P2 _ W ?_
      (crew_any _ t n k p m l v W (ses W x0 b6))
      (fun _ W' h => (part1_any id x hx64 ss m v.mb v.mn M d hd _ _ _ _ W' ((hm.below (x0.trans h).out).more (x0.trans h).size) _ _ _ (ext_blk h b2) ((ext_blk h b3).cell 0) ((ext_blk h b4).cell 0) (ext_blk h b7)).mono fun _ w2 h' => ⟨h'.1, W', w2, h, h'.2, Ext.refl _⟩)
      (fun h1 h2 W' h => (enough_any _ t n k p m l v W' (ses W' (ext2 W' h) (keep W' h _ _ _ (by simp only [g]; omega) b6))).mono fun _ w3 h' => ⟨h'.1, by obtain ⟨W1, W2, h1, h2, h3⟩ := h; exact ⟨W1, W2, h1, h2, h3.trans h'.2⟩⟩)).mono fun e w' h => ⟨h.1, ?_⟩
    · rintro W' (rfl | h | h)
      · exact ⟨b8.cell 0, b8.cell 1, b8.cell 2⟩
      · have b := ext_blk h b8
        exact ⟨b.cell 0, b.cell 1, b.cell 2⟩
      · have b := keep W' h _ _ _ (by simp only [g]; omega) b8
        exact ⟨b.cell 0, b.cell 1, b.cell 2⟩
    · rcases h.2 with h | h | h
      · exact .inl h
      · exact .inr h.2.2
      · exact .inr h.2.2
  have res : ∀ W', (crewN t n k p ≠ 0 ∧ Ext W W' ∨ P2 W') → Blk W' (w.heap.size + 1 + 1 + 1 + 1) 37 #[.int .i64 0, .int .u64 0] ∧ Ext w W' := by
    rintro W' (h | h)
    · exact ⟨ext_blk h.2 b5, x0.trans h.2⟩
    · exact ⟨keep W' h _ _ _ (by simp only [g]; omega) b5, ext2 W' h⟩
  have HR := Lib.hid res
  clear res
  unfold partV partE
  by_cases hpre : preE t n k p l id x ss = 0
  case neg =>
    rw [if_neg hpre, if_neg hpre]
    obtain ⟨E, hE⟩ : ∃ E, E = preE t n k p l id x ss := ⟨_, rfl⟩
    rw [← hE] at cr hpre ⊢
    have d1 : ((E : Int) != 0) = true := by simp; omega
    have cr := cr.mono (R' := fun e w' => e = .returned (.int .i64 (E : Int)) ∧ Blk w' (w.heap.size + 1 + 1 + 1 + 1) 37 #[.int .i64 0, .int .u64 0] ∧ Ext w w') fun e w' h => ⟨h.1, HR.out w' h.2⟩
    rw [← eW] at cr
    clear b1 b2 b3 b4 b5 b6 b7 b8 hp hm hl hc hd he v keep ext2 own2 ses hE x0 eW hpre hx64
    go_enter Tryz.func19, Tryz.ntmps19
    go_wp2_with (go_at_call 51; refine cr.mono ?_; clear cr; rintro e w1 ⟨rfl, hb, x1⟩; obtain ⟨p0, p1⟩ := two hb; have f0 := hb.frozen 0; have f1 := hb.frozen 1; clear hb)
    refine bodyPost_ret (v := .tuple #[.agg #[.int .i64 0, .int .u64 0], .int .i64 (E : Int)]) (by simp [results, Tryz.results19, go_sem, p0, p1]) rfl ⟨rfl, ?_⟩
    exact (x1.setCell (p := ⟨w.heap.size + 1 + 1 + 1 + 1, 0, none⟩) (by simp only; omega) _).setCell (p := ⟨w.heap.size + 1 + 1 + 1 + 1, 1, none⟩) (by simp only; omega) _
  rw [if_pos hpre]
  have hz : crewN t n k p = 0 ∧ comE id x ss = 0 := by
    unfold preE rowN at hpre
    split at hpre
    · rename_i h1
      split at hpre
      · exact ⟨h1, by assumption⟩
      · exact absurd hpre (by assumption)
    · exact absurd hpre (by assumption)
  rw [hpre] at cr
  have cr2 := cr.mono (R' := fun e w' => e = .returned (.int .i64 0) ∧ P2 w') fun e w' h => ⟨h.1, by
    rcases h.2 with h2 | h2
    · exact absurd hz.1 h2.1
    · exact h2⟩
  rw [← eW] at cr2
  have cO := fun (W' : World) (h : P2 W') => of_any _ t n k p m l v id W' (ses W' (ext2 W' h) (keep W' h _ _ _ (by simp only [g]; omega) b6))
  have fact : ∀ W', P2 W' → (Blk W' (w.heap.size + 1) 37 #[.int .i64 id, .int .u64 (x : Int)] ∧ W'.cell? ⟨w.heap.size + 1 + 1, 0, none⟩ = some (.int .i64 ss) ∧ W'.cell? ⟨w.heap.size + 1 + 1 + 1, 0, none⟩ = some (.slice M m.length d) ∧ Blk W' (w.heap.size + 1 + 1 + 1 + 1) 37 #[.int .i64 0, .int .u64 0] ∧ Blk W' (w.heap.size + 1 + 1 + 1 + 1 + 1 + 1) 37 #[.int .i64 (comS id x ss m).1, .int .u64 ((comS id x ss m).2 : Int)]) ∧ Ext w W' := fun W' h =>
    ⟨⟨keep W' h _ _ _ (by simp only [g]; omega) b2, (keep W' h _ _ _ (by simp only [g]; omega) b3).cell 0, (keep W' h _ _ _ (by simp only [g]; omega) b4).cell 0, keep W' h _ _ _ (by simp only [g]; omega) b5, own2 W' h⟩, ext2 W' h⟩
  have later2 : ∀ W' W2, P2 W' → Ext W' W2 → P2 W2 := by
    rintro W' W2 ⟨W1, W3, h1, h2, h3⟩ h4
    exact ⟨W1, W3, h1, h2, h3.trans h4⟩
  have cN := fun (W' : World) (h : P2 W') (hi : 0 ≤ id) (hs : 0 ≤ ss ∧ ss < 9223372036854775808) (hi2 : id ≤ 7) => qnonce_any x id.toNat ss.toNat hx64 (by omega) (by omega) m v.mb v.mn M d hd W' ((hm.below (ext2 W' h).out).more (ext2 W' h).size)
  have cS := fun (W' : World) (h : P2 W') => scaled_any _ t n k p m l v id W' (ses W' (ext2 W' h) (keep W' h _ _ _ (by simp only [g]; omega) b6))
  have HF := Lib.hid fact
  have HL := Lib.hid later2
  have hcz := com_zero hz.2
  clear cr b1 b2 b3 b4 b5 b6 b7 b8 hp hm hl hc hd he v keep ext2 own2 ses x0 eW hpre HR hz fact later2
  have HP := Lib.hid hcz
  clear hcz
  cases ho : ofC l id with
  | none =>
    rw [ho] at cO
    unfold ofV2 at cO
    simp only at cO
    rw [if_neg (show ¬ (none : Option (Int × Nat)) = some (comS id x ss m) by simp), if_neg (by decide)]
    clear ho cN cS HP
    go_enter Tryz.func19, Tryz.ntmps19
    go_wp2_with (first
      | (go_at_call 51; refine cr2.mono ?_; clear cr2; rintro e w1 ⟨rfl, h1⟩; obtain ⟨⟨g2, g3, g4, g5, g7⟩, x1⟩ := HF.out w1 h1; obtain ⟨q0, q1⟩ := two g2; have H1 := Lib.hid h1; clear h1 g2 g3 g4 g5 g7)
      | (go_at_call 61; refine (cO _ H1.out).mono ?_; clear cO; rintro e w2 ⟨rfl, x2⟩; obtain ⟨⟨g2, g3, g4, g5, g7⟩, xx⟩ := HF.out w2 (HL.out _ _ H1.out x2); have p0 := fun o => (two (g5.alloc o)).1; have p1 := fun o => (two (g5.alloc o)).2; have f0 := fun o => (g5.alloc o).frozen 0; have f1 := fun o => (g5.alloc o).frozen 1; clear g2 g3 g4 g5 g7))
    refine bodyPost_ret (v := .tuple #[.agg #[.int .i64 0, .int .u64 0], .int .i64 60]) (by simp [results, Tryz.results19, go_sem, p0, p1]) rfl ⟨rfl, ?_⟩
    exact ((xx.alloc _).setCell (p := ⟨w.heap.size + 1 + 1 + 1 + 1, 0, none⟩) (by simp only; omega) _).setCell (p := ⟨w.heap.size + 1 + 1 + 1 + 1, 1, none⟩) (by simp only; omega) _
  | some r =>
    rw [ho] at cO
    unfold ofV2 at cO
    simp only at cO
    clear ho
    by_cases hrs : r = comS id x ss m
    case neg =>
      rw [if_neg (show ¬ some r = some (comS id x ss m) by simpa using hrs), if_neg (by decide)]
      have hse := fun w => (eqSh r.1 (comS id x ss m).1 r.2 (comS id x ss m).2 w).trans (by rw [decide_eq_false (fun h => hrs (Prod.ext h.1 (Int.ofNat_inj.1 h.2)))])
      clear cN cS HP hrs
      go_enter Tryz.func19, Tryz.ntmps19
      go_wp2_with (first
        | (go_at_call 51; refine cr2.mono ?_; clear cr2; rintro e w1 ⟨rfl, h1⟩; obtain ⟨⟨g2, g3, g4, g5, g7⟩, x1⟩ := HF.out w1 h1; obtain ⟨q0, q1⟩ := two g2; have H1 := Lib.hid h1; clear h1 g2 g3 g4 g5 g7)
        | (go_at_call 61; refine (cO _ H1.out).mono ?_; clear cO; rintro e w2 ⟨rfl, x2⟩; obtain ⟨⟨g2, g3, g4, g5, g7⟩, xx⟩ := HF.out w2 (HL.out _ _ H1.out x2); have p0 := fun o => (two (g5.alloc o)).1; have p1 := fun o => (two (g5.alloc o)).2; have f0 := fun o => (g5.alloc o).frozen 0; have f1 := fun o => (g5.alloc o).frozen 1; have y0 := fun o => (two (g7.alloc o)).1; have y1 := fun o => (two (g7.alloc o)).2; clear g2 g3 g4 g5 g7))
      refine bodyPost_ret (v := .tuple #[.agg #[.int .i64 0, .int .u64 0], .int .i64 60]) (by simp [results, Tryz.results19, go_sem, p0, p1]) rfl ⟨rfl, ?_⟩
      exact ((xx.alloc _).setCell (p := ⟨w.heap.size + 1 + 1 + 1 + 1, 0, none⟩) (by simp only; omega) _).setCell (p := ⟨w.heap.size + 1 + 1 + 1 + 1, 1, none⟩) (by simp only; omega) _
    case pos =>
      rw [if_pos (show some r = some (comS id x ss m) by rw [hrs]), if_pos rfl]
      have hse := fun w => (eqSh r.1 (comS id x ss m).1 r.2 (comS id x ss m).2 w).trans (by rw [decide_eq_true (And.intro (by rw [hrs]) (by rw [hrs]))])
      obtain ⟨hi1, hi7, hxR, hs0, hs1⟩ := HP.out
      obtain ⟨idn, rfl⟩ : ∃ n : Nat, id = n := ⟨id.toNat, by omega⟩
      obtain ⟨sn, rfl⟩ : ∃ n : Nat, ss = n := ⟨ss.toNat, by omega⟩
      have cN := fun (W' : World) (h : P2 W') => cN W' h (by omega) (by omega) hi7
      unfold partS
      rw [Int.toNat_natCast, Int.toNat_natCast] at cN ⊢
      have lsc := r64 (scN_lt k m l (idn : Int))
      obtain ⟨no, hno⟩ : ∃ q, q = qnN x idn sn m := ⟨_, rfl⟩
      obtain ⟨sc, hsc⟩ : ∃ q, q = scN k m l (idn : Int) := ⟨_, rfl⟩
      rw [← hno] at cN ⊢
      rw [← hsc] at cS lsc ⊢
      have cM := fun w => MulRE sc x lsc hx64 w
      obtain ⟨mu, hmu⟩ : ∃ q, q = mulM bR sc x := ⟨_, rfl⟩
      rw [← hmu] at cM ⊢
      have cA := fun w => AddRE no mu w
      obtain ⟨su, hsu⟩ : ∃ q, q = addM bR no mu := ⟨_, rfl⟩
      rw [← hsu] at cA ⊢
      clear hno hsc hmu hsu lsc hx64 hi1 hi7 hxR hs0 hs1 HP hrs
      go_enter Tryz.func19, Tryz.ntmps19
      go_wp2_with (first
        | (go_at_call 51; refine cr2.mono ?_; clear cr2; rintro e w1 ⟨rfl, h1⟩; obtain ⟨⟨g2, g3, g4, g5, g7⟩, x1⟩ := HF.out w1 h1; obtain ⟨q0, q1⟩ := two g2; have H1 := Lib.hid h1; clear h1 g2 g3 g4 g5 g7)
        | (go_at_call 61; refine (cO _ H1.out).mono ?_; clear cO; rintro e w2 ⟨rfl, x2⟩; have H2 := Lib.hid (HL.out _ _ H1.out x2); obtain ⟨⟨g2, g3, g4, g5, g7⟩, xx⟩ := HF.out w2 H2.out; have y0 := fun o => (two (g7.alloc o)).1; have y1 := fun o => (two (g7.alloc o)).2; clear g2 g3 g4 g5 g7))
      obtain ⟨W0, e0⟩ : ∃ W, W = w2.alloc (.cells #[.int .i64 r.1, .int .u64 (r.2 : Int)] 37) := ⟨_, rfl⟩
      have H0 := Lib.hid (HL.out _ W0 H2.out (by rw [e0]; exact (Ext.refl _).alloc _))
      rw [← e0]
      clear e0 y0 y1 q0 q1 hse H1 H2 x1 x2 xx
      have C := Lib.hid fun (W' : World) (h : P2 W') => And.intro (two (HF.out W' h).1.1).1 (And.intro (two (HF.out W' h).1.1).2 (And.intro (HF.out W' h).1.2.1 (HF.out W' h).1.2.2.1))
      obtain ⟨c0, c1, c2, c3⟩ := C.out W0 H0.out
      go_region_held3 (fun w' => w'.cell? ⟨w.heap.size + 1, 0, none⟩ = some (.int .i64 (idn : Int)) ∧ w'.cell? ⟨w.heap.size + 1, 1, none⟩ = some (.int .u64 (x : Int)) ∧ w'.cell? ⟨w.heap.size + 1 + 1, 0, none⟩ = some (.int .i64 (sn : Int)) ∧ w'.cell? ⟨w.heap.size + 1 + 1 + 1, 0, none⟩ = some (.slice M m.length d)) (go_keep) (first
        | (go_at_call 44; refine (cN _ (HL.out _ _ H0.out (Ext.refl W0).drew)).mono ?_; clear cN; rintro e w3 ⟨rfl, x3⟩; have H3 := Lib.hid (HL.out _ _ H0.out ((Ext.refl W0).drew.trans x3)); obtain ⟨c4, c5, c6, c7⟩ := C.out w3 H3.out)
        | (go_at_call 63; refine (cS _ H3.out).mono ?_; clear cS; rintro e w4 ⟨rfl, x4⟩; have H4 := Lib.hid (HL.out _ _ H3.out x4); obtain ⟨c8, c9, c10, c11⟩ := C.out w4 H4.out)
        | (go_at_call 62; refine (cM _).mono ?_; clear cM; rintro e w5 ⟨rfl, x5⟩; have H5 := Lib.hid (HL.out _ _ H4.out x5); obtain ⟨c12, c13, c14, c15⟩ := C.out w5 H5.out)
        | (go_at_call 24; refine (cA _).mono ?_; clear cA; rintro e w6 ⟨rfl, x6⟩; have H6 := Lib.hid (HL.out _ _ H5.out x6); obtain ⟨c16, c17, c18, c19⟩ := C.out w6 H6.out; obtain ⟨⟨-, -, -, hb, -⟩, xx⟩ := HF.out w6 H6.out; obtain ⟨p0, p1⟩ := two hb; have f0 := hb.frozen 0; have f1 := hb.frozen 1; clear hb; have n0 := fun a b => keepS w6 (g := w.heap.size + 1 + 1 + 1 + 1) (by omega) a b c16; have n1 := fun a b => keepS w6 (g := w.heap.size + 1 + 1 + 1 + 1) (by omega) a b c17; have n2 := fun a b => keepS w6 (g := w.heap.size + 1 + 1 + 1 + 1) (by omega) a b c18; have n3 := fun a b => keepS w6 (g := w.heap.size + 1 + 1 + 1 + 1) (by omega) a b c19))
      go_wp2
      refine bodyPost_ret (v := .tuple #[.agg #[.int .i64 (idn : Int), .int .u64 (su : Int)], .int .i64 0]) (by simp [results, Tryz.results19, go_sem, p0, p1]) rfl ⟨rfl, ?_⟩
      exact (xx.setCell (p := ⟨w.heap.size + 1 + 1 + 1 + 1, 0, none⟩) (by simp only; omega) _).setCell (p := ⟨w.heap.size + 1 + 1 + 1 + 1, 1, none⟩) (by simp only; omega) _
end Go.Proofs.YtiecfamjnnmpaaaGreat

/- Crews by the document, walked: Commit, Part. -/
namespace Go.Proofs.YtiecfamjnnmpaaaGreat
set_option linter.unusedVariables false
open Go.RowKit Go.Shelf Go.Maps
attribute [local irreducible] atN prodN sumN wantN chkN mix hSum hNum chalN chN scN qnN crewN enN wgtV wgtE inB okC

set_option maxRecDepth 100000 in
set_option maxHeartbeats 4000000 in
theorem rCommit6_any (id : Int) (x : Nat) (hx : x < 18446744073709551616) (ss : Int) (m : List Nat) (hm : ∀ y ∈ m, y < 256) (hl : m.length ≤ 1000) (M : Option Addr) (d : Nat) (hd : m.length ≤ d) (w : World) (hr : Reads w w.heap.size 1 M m.length (bv m)) :
    Calls Tryz.prog 16 #[.agg #[.int .i64 id, .int .u64 (x : Int)], .int .i64 ss, .slice M m.length d] w fun e w' => e = .returned (comV id x ss m) ∧ Ext w w' := by
  have xx : Ext w ((w.alloc (.cells #[.int .i64 id, .int .u64 (x : Int)] 37)).alloc (.cells #[.int .i64 0, .int .u64 0] 37)) := ((Ext.refl w).alloc _).alloc _
  obtain ⟨W1, e1, -, hb, -⟩ := start_two w #[.int .i64 id, .int .u64 (x : Int)] #[.int .i64 0, .int .u64 0] 37
  rw [← e1] at hb
  obtain ⟨p0, p1⟩ := two hb
  clear hb e1 W1
  by_cases t1 : id < 1
  · rw [com_bad (.inl t1)]
    clear hr hm hl hd hx
    go_enter Tryz.func16, Tryz.ntmps16
    go_wp2
    exact bodyPost_ret (v := .tuple #[.agg #[.int .i64 0, .int .u64 0], .int .i64 1]) (by simp [results, Tryz.results16, go_sem, p0, p1]) rfl ⟨rfl, xx⟩
  by_cases t2 : 7 < id
  · rw [com_bad (.inr (.inl t2))]
    clear hr hm hl hd hx
    go_enter Tryz.func16, Tryz.ntmps16
    go_wp2
    exact bodyPost_ret (v := .tuple #[.agg #[.int .i64 0, .int .u64 0], .int .i64 1]) (by simp [results, Tryz.results16, go_sem, p0, p1]) rfl ⟨rfl, xx⟩
  by_cases t3 : bR ≤ x
  · rw [com_bad (.inr (.inr (.inl t3)))]
    have d1 : decide ((1152921504606845789 : Int) ≤ (x : Int)) = true := by unfold bR at t3; simp; omega
    have d2 : (1152921504606845789 : Int) ≤ (x : Int) := by unfold bR at t3; omega
    clear hr hm hl hd hx t3
    go_enter Tryz.func16, Tryz.ntmps16
    go_wp2
    exact bodyPost_ret (v := .tuple #[.agg #[.int .i64 0, .int .u64 0], .int .i64 1]) (by simp [results, Tryz.results16, go_sem, p0, p1]) rfl ⟨rfl, xx⟩
  have d1 : decide ((1152921504606845789 : Int) ≤ (x : Int)) = false := by unfold bR at t3; simp; omega
  have d2 : ¬ (1152921504606845789 : Int) ≤ (x : Int) := by unfold bR at t3; omega
  by_cases t4 : ss < 0
  · rw [com_bad (.inr (.inr (.inr (.inl t4))))]
    clear hr hm hl hd hx t3
    go_enter Tryz.func16, Tryz.ntmps16
    go_wp2
    exact bodyPost_ret (v := .tuple #[.agg #[.int .i64 0, .int .u64 0], .int .i64 1]) (by simp [results, Tryz.results16, go_sem, p0, p1]) rfl ⟨rfl, xx⟩
  by_cases t5 : 1099511627776 < ss
  · rw [com_bad (.inr (.inr (.inr (.inr t5))))]
    clear hr hm hl hd hx t3
    go_enter Tryz.func16, Tryz.ntmps16
    go_wp2
    exact bodyPost_ret (v := .tuple #[.agg #[.int .i64 0, .int .u64 0], .int .i64 1]) (by simp [results, Tryz.results16, go_sem, p0, p1]) rfl ⟨rfl, xx⟩
  rw [com_ok (by rintro (h | h | h | h | h); exact t1 h; exact t2 h; exact t3 h; exact t4 h; exact t5 h)]
  obtain ⟨idn, rfl⟩ : ∃ n : Nat, id = n := ⟨id.toNat, by omega⟩
  obtain ⟨sn, rfl⟩ : ∃ n : Nat, ss = n := ⟨ss.toNat, by omega⟩
  rw [Int.toNat_natCast, Int.toNat_natCast]
  have c1 := fun (W : World) (x' : Ext w W) => rnonce6_any x idn sn hx (by omega) (by omega) m hm hl M d hd W ((hr.below x'.out).more x'.size)
  have hlt := r64 (qnN_lt x idn sn m)
  obtain ⟨u, hu⟩ : ∃ u, u = qnN x idn sn m := ⟨_, rfl⟩
  rw [← hu] at c1 hlt ⊢
  have c2 := fun W => toExt (rBase_any u hlt W)
  obtain ⟨v, hv⟩ : ∃ v, v = powM bQ 4 u := ⟨_, rfl⟩
  rw [← hv] at c2 ⊢
  clear hr hm hl hd hx t3 hu hv hlt p0 p1 xx
  go_enter Tryz.func16, Tryz.ntmps16
  go_wp2
  obtain ⟨W0, e0, h1, h2, x0⟩ := start_two w #[.int .i64 (idn : Int), .int .u64 (x : Int)] #[.int .i64 0, .int .u64 0] 37
  rw [e0]
  obtain ⟨q1, q2, q3, q4⟩ := arr2 h1
  obtain ⟨r1, r2, r3, r4⟩ := arr2 h2
  have H1 := Lib.hid h1
  have H2 := Lib.hid h2
  clear h1 h2 e0
  go_region_with (first
    | (go_at_call 46; refine (c1 _ x0.drew).mono ?_; clear c1; rintro e w1 ⟨rfl, x1⟩; have z1 := Lib.hid (ext_blk x1 H1.out.drew); have z2 := Lib.hid (ext_blk x1 H2.out.drew); obtain ⟨q1A, q2A, q3A, q4A⟩ := arr2 z1.out; obtain ⟨r1A, r2A, r3A, r4A⟩ := arr2 z2.out)
    | (go_at_call 45; refine (c2 _).mono ?_; clear c2; rintro e w2 ⟨rfl, x2⟩; have y1 := Lib.hid (ext_blk x2 z1.out); have y2 := Lib.hid (ext_blk x2 z2.out); obtain ⟨q1B, q2B, q3B, q4B⟩ := arr2 y1.out; obtain ⟨r1B, r2B, r3B, r4B⟩ := arr2 y2.out))
  all_goals (
    go_wp2
    refine bodyPost_ret (v := .tuple #[.agg #[.int .i64 (idn : Int), .int .u64 (v : Int)], .int .i64 0]) (by simp [results, Tryz.results16, go_sem, r1B, r2B]) rfl ⟨rfl, ?_⟩
    exact (((x0.drew.trans x1).trans x2).setCell (p := ⟨w.heap.size + 1, 0, none⟩) (by simp) _).setCell (p := ⟨w.heap.size + 1, 1, none⟩) (by simp) _)

theorem start_three' (w : World) (x y z : Array Value) (T U V : TypeId) : ∃ W, ((w.alloc (.cells x T)).alloc (.cells y U)).alloc (.cells z V) = W ∧ Blk W w.heap.size T x ∧ Blk W (w.heap.size + 1) U y ∧ Blk W (w.heap.size + 1 + 1) V z ∧ Ext w W :=
  ⟨_, rfl, ((Blk.new w T x).alloc _).alloc _, (blk_next w _ U y).alloc _, by have := blk_next (w.alloc (.cells x T)) (.cells y U) V z; rwa [World.size_alloc] at this, (((Ext.refl w).alloc _).alloc _).alloc _⟩

set_option maxRecDepth 100000 in
set_option maxHeartbeats 8000000 in
theorem rPart6_any (t n : Int) (k : Nat) (p : List (Int × Nat)) (m : List Nat) (l : List (Int × Nat)) (v : SesV k p m l) (id : Int) (x : Nat) (hx64 : x < 18446744073709551616) (ss : Int) (A M B : Option Addr) (c d e : Nat) (hc : p.length ≤ c) (hd : m.length ≤ d) (w : World) (hp : Reads w w.heap.size 2 A p.length (sv p)) (hm : Reads w w.heap.size 1 M m.length (bv m)) (hl : Reads w w.heap.size 2 B l.length (sv l)) :
    Calls Tryz.prog 20 #[.agg #[.int .i64 t, .int .i64 n, .int .u64 (k : Int), .slice A p.length c], .agg #[.int .i64 id, .int .u64 (x : Int)], .int .i64 ss, .slice M m.length d, .slice B l.length e] w fun e w' => e = .returned (partV t n k p m l id x ss) ∧ Ext w w' := by
  obtain ⟨W0, e0, b1, b2, b3, x0⟩ := start_three' w #[.int .i64 t, .int .i64 n, .int .u64 (k : Int), .slice A p.length c] #[.int .i64 id, .int .u64 (x : Int)] #[.int .i64 0, .int .u64 0] 26 37 37
  have HB := Lib.hid fun (W : World) (x : Ext W0 W) => And.intro (arr4 (ext_blk x b1)) (two (ext_blk x b2))
  have HR := Lib.hid fun (W : World) (x : Ext W0 W) => arr2 (ext_blk x b3)
  have HRB := Lib.hid fun (W : World) (x : Ext W0 W) => ext_blk x b3
  have c1 := fun (W : World) (x : Ext w W) => rquCheck_any t n k v.k64 p v.p64 A c hc v.pn W ((hp.below x.out).more x.size)
  have c2 := fun (W : World) (x' : Ext w W) => rCommit6_any id x hx64 ss m v.mb v.mn M d hd W ((hm.below x'.out).more x'.size)
  have c3 := fun (W : World) (x : Ext w W) => rmay6_any t n (.int .u64 (k : Int)) (.slice A p.length c) l v.l64 v.ln B e W ((hl.below x.out).more x.size)
  have c4 := fun (W : World) (x : Ext w W) => rfind_any l id B e v.ln W ((hl.below x.out).more x.size)
  unfold partV partE preE rowN
  obtain ⟨E1, hE1⟩ : ∃ E, E = crewN t n k p := ⟨_, rfl⟩
  rw [← hE1] at c1 ⊢
  obtain ⟨⟨a0, a1, a2, a3⟩, a4, a5⟩ := HB.out W0 (Ext.refl W0)
  have HX0 := Lib.hid x0
  by_cases h1 : E1 = 0
  case neg =>
    rw [if_neg h1, if_neg h1]
    have d1 : ((E1 : Int) != 0) = true := by simp; omega
    rw [← e0] at a0 a1 a2 a3 a4 a5 x0 HR HRB
    clear v hx64 hc hd hp hm hl c2 c3 c4 hE1 b1 b2 b3 HB e0
    go_enter Tryz.func20, Tryz.ntmps20
    go_wp2_with (go_at_call 14; refine (c1 _ x0).mono ?_; clear c1; rintro e w1 ⟨rfl, x1⟩; obtain ⟨p0, p1, f0, f1⟩ := HR.out _ x1)
    refine bodyPost_ret (v := .tuple #[.agg #[.int .i64 0, .int .u64 0], .int .i64 (E1 : Int)]) (by simp [results, Tryz.results20, go_sem, p0, p1]) rfl ⟨rfl, ?_⟩
    exact ((x0.trans x1).setCell (p := ⟨w.heap.size + 1 + 1, 0, none⟩) (by simp only; omega) _).setCell (p := ⟨w.heap.size + 1 + 1, 1, none⟩) (by simp only; omega) _
  subst h1
  have c1 : ∀ (W : World), Ext w W → Calls Tryz.prog 14 #[.agg #[.int .i64 t, .int .i64 n, .int .u64 (k : Int), .slice A p.length c]] W fun e w' => e = .returned (.int .i64 0) ∧ Ext w w' → e = .returned (.int .i64 0) ∧ Ext W w' := fun W x => (c1 W x).mono fun e w' h _ => h
  have c1 : ∀ (W : World), Ext w W → Calls Tryz.prog 14 #[.agg #[.int .i64 t, .int .i64 n, .int .u64 (k : Int), .slice A p.length c]] W fun e w' => e = .returned (.int .i64 0) ∧ Ext W w' := fun W x => rquCheck_any t n k v.k64 p v.p64 A c hc v.pn W ((hp.below x.out).more x.size) |>.mono fun e w' h => by rw [← hE1] at h; exact h
  simp only [if_true]
  obtain ⟨E2, hE2⟩ : ∃ E, E = comE id x ss := ⟨_, rfl⟩
  unfold comV at c2
  rw [← hE2] at c2 ⊢
  by_cases h2 : E2 = 0
  case neg =>
    have hz : comS id x ss m = (0, 0) := by unfold comS; rw [← hE2, if_neg h2]
    rw [hz] at c2
    have hrw : (if E2 = 0 then enN t n l else E2) = E2 := if_neg h2
    simp only [hrw, if_neg h2]
    have d1 : ((E2 : Int) != 0) = true := by simp; omega
    rw [← e0] at a0 a1 a2 a3 a4 a5 x0 HB HR
    have c2 : ∀ (W : World), Ext w W → Calls Tryz.prog 16 #[.agg #[.int .i64 id, .int .u64 (x : Int)], .int .i64 ss, .slice M m.length d] W fun e w' => e = .returned (.tuple #[.agg #[.int .i64 0, .int .u64 0], .int .i64 (E2 : Int)]) ∧ Ext W w' := c2
    clear v hx64 hc hd hp hm hl c3 c4 hE1 hE2 b1 b2 b3 e0 HRB hrw hz
    go_enter Tryz.func20, Tryz.ntmps20
    go_wp2_with (first
      | (go_at_call 14; refine (c1 _ x0).mono ?_; clear c1; rintro e w1 ⟨rfl, x1⟩; obtain ⟨-, i4, i5⟩ := HB.out _ x1)
      | (go_at_call 16; refine (c2 _ (x0.trans x1)).mono ?_; clear c2; rintro e w2 ⟨rfl, x2⟩; have X2 := (x1.trans x2).alloc (.cells #[.int .i64 0, .int .u64 0] 37); obtain ⟨p0, p1, f0, f1⟩ := HR.out _ X2))
    refine bodyPost_ret (v := .tuple #[.agg #[.int .i64 0, .int .u64 0], .int .i64 (E2 : Int)]) (by simp [results, Tryz.results20, go_sem, p0, p1]) rfl ⟨rfl, ?_⟩
    exact ((x0.trans X2).setCell (p := ⟨w.heap.size + 1 + 1, 0, none⟩) (by simp only; omega) _).setCell (p := ⟨w.heap.size + 1 + 1, 1, none⟩) (by simp only; omega) _
  have hcz : comE id x ss = 0 := by rw [← hE2]; exact h2
  obtain ⟨hi1, hi7, hxR, hs0, hst⟩ := com_zero hcz
  have hz : comS id x ss m = (id, powM bQ 4 (qnN x id.toNat ss.toNat m)) := by unfold comS; rw [if_pos hcz]
  rw [hz] at c2 ⊢
  rw [h2] at c2 ⊢
  simp only [if_true]
  obtain ⟨y, hy⟩ : ∃ y, y = powM bQ 4 (qnN x id.toNat ss.toNat m) := ⟨_, rfl⟩
  rw [← hy] at c2 ⊢
  have c2 : ∀ (W : World), Ext w W → Calls Tryz.prog 16 #[.agg #[.int .i64 id, .int .u64 (x : Int)], .int .i64 ss, .slice M m.length d] W fun e w' => e = .returned (.tuple #[.agg #[.int .i64 id, .int .u64 (y : Int)], .int .i64 0]) ∧ Ext W w' := c2
  obtain ⟨E3, hE3⟩ : ∃ E, E = enN t n l := ⟨_, rfl⟩
  rw [← hE3] at c3 ⊢
  by_cases h3 : E3 = 0
  case neg =>
    simp only [if_neg h3]
    have d1 : ((E3 : Int) != 0) = true := by simp; omega
    rw [← e0] at a0 a1 a2 a3 a4 a5 x0 HB HR
    clear v hx64 hc hd hp hm hl c4 hE1 hE2 hE3 b1 b2 b3 e0 HRB hz hy hi1 hi7 hxR hs0 hst hcz
    go_enter Tryz.func20, Tryz.ntmps20
    go_wp2_with (first
      | (go_at_call 14; refine (c1 _ x0).mono ?_; clear c1; rintro e w1 ⟨rfl, x1⟩; obtain ⟨-, i4, i5⟩ := HB.out _ x1)
      | (go_at_call 16; refine (c2 _ (x0.trans x1)).mono ?_; clear c2; rintro e w2 ⟨rfl, x2⟩; have X2 := (x1.trans x2).alloc (.cells #[.int .i64 id, .int .u64 (y : Int)] 37); obtain ⟨⟨j0, j1, j2, j3⟩, -, -⟩ := HB.out _ X2)
      | (go_at_call 57; refine (c3 _ (x0.trans X2)).mono ?_; clear c3; rintro e w3 ⟨rfl, x3⟩; obtain ⟨p0, p1, f0, f1⟩ := HR.out _ (X2.trans x3)))
    refine bodyPost_ret (v := .tuple #[.agg #[.int .i64 0, .int .u64 0], .int .i64 (E3 : Int)]) (by simp [results, Tryz.results20, go_sem, p0, p1]) rfl ⟨rfl, ?_⟩
    exact ((x0.trans (X2.trans x3)).setCell (p := ⟨w.heap.size + 1 + 1, 0, none⟩) (by simp only; omega) _).setCell (p := ⟨w.heap.size + 1 + 1, 1, none⟩) (by simp only; omega) _
  rw [h3] at c3 ⊢
  simp only [if_true]
  have c3 : ∀ (W : World), Ext w W → Calls Tryz.prog 57 #[.agg #[.int .i64 t, .int .i64 n, .int .u64 (k : Int), .slice A p.length c], .slice B l.length e] W fun e w' => e = .returned (.int .i64 0) ∧ Ext W w' := c3
  have hse := eqSh
  cases ho : ofC l id with
  | none =>
    rw [ofC_none ho] at c4
    simp only [reduceCtorEq, if_false]
    rw [← e0] at a0 a1 a2 a3 a4 a5 x0 HB HR
    clear v hx64 hc hd hp hm hl hE1 hE2 hE3 b1 b2 b3 e0 HRB hz hy hi1 hi7 hxR hs0 hst hcz ho h2 h3
    go_enter Tryz.func20, Tryz.ntmps20
    go_wp2_with (first
      | (go_at_call 14; refine (c1 _ x0).mono ?_; clear c1; rintro e w1 ⟨rfl, x1⟩; obtain ⟨-, i4, i5⟩ := HB.out _ x1)
      | (go_at_call 16; refine (c2 _ (x0.trans x1)).mono ?_; clear c2; rintro e w2 ⟨rfl, x2⟩; have X2 := (x1.trans x2).alloc (.cells #[.int .i64 id, .int .u64 (y : Int)] 37); obtain ⟨⟨j0, j1, j2, j3⟩, -, -⟩ := HB.out _ X2)
      | (go_at_call 57; refine (c3 _ (x0.trans X2)).mono ?_; clear c3; rintro e w3 ⟨rfl, x3⟩; have X3 := X2.trans x3; obtain ⟨-, k4, k5⟩ := HB.out _ X3)
      | (go_at_call 64; refine (c4 _ (x0.trans X3)).mono ?_; clear c4; rintro e w4 ⟨rfl, x4⟩; have X4 := X3.trans x4; obtain ⟨p0, p1, f0, f1⟩ := HR.out _ X4))
    go_quiet (fail)
    go_wp2
    refine bodyPost_ret (v := .tuple #[.agg #[.int .i64 0, .int .u64 0], .int .i64 60]) (by simp [results, Tryz.results20, go_sem, p0, p1]) rfl ⟨rfl, ?_⟩
    exact (((x0.trans X4).drewN _).setCell (p := ⟨w.heap.size + 1 + 1, 0, none⟩) (by simp only; omega) _).setCell (p := ⟨w.heap.size + 1 + 1, 1, none⟩) (by simp only; omega) _
  | some s =>
    obtain ⟨hs1, hsm, i, hi, hix⟩ := ofC_some ho
    rw [hix] at c4
    have hil : i < l.length := (List.getElem?_eq_some_iff.1 hi).1
    have giL : (i : Int) < (l.length : Int) := by omega
    obtain ⟨ad, rfl, -, -, -⟩ := reads_share hl hi
    have HRL := Lib.hid fun (W : World) (x : Ext W0 W) => reads_share (hl.below (x0.trans x).out) hi
    obtain ⟨sid, sx⟩ := s
    simp only at hs1
    subst hs1
    simp only at HRL
    by_cases hq : sx = y
    case neg =>
      have hne : ¬ (some (sid, sx) = some (sid, y)) := fun h => hq (by injection h with h; injection h)
      rw [if_neg hne]
      simp only [show ¬ (60 : Nat) = 0 by decide, if_false]
      have d3 : decide ((sx : Int) = (y : Int)) = false := decide_eq_false fun h => hq (Int.ofNat_inj.1 h)
      have d4 : decide (sx = y) = false := decide_eq_false hq
      rw [← e0] at a0 a1 a2 a3 a4 a5 x0 HB HR HRL
      clear v hx64 hc hd hp hm hl hE1 hE2 hE3 b1 b2 b3 e0 HRB hz hy hi1 hi7 hxR hs0 hst hcz ho h2 h3 hne hsm hi hix hil hq
      go_enter Tryz.func20, Tryz.ntmps20
      go_wp2_with (first
        | (go_at_call 14; refine (c1 _ x0).mono ?_; clear c1; rintro e w1 ⟨rfl, x1⟩; obtain ⟨-, i4, i5⟩ := HB.out _ x1)
        | (go_at_call 16; refine (c2 _ (x0.trans x1)).mono ?_; clear c2; rintro e w2 ⟨rfl, x2⟩; have X2 := (x1.trans x2).alloc (.cells #[.int .i64 sid, .int .u64 (y : Int)] 37); obtain ⟨⟨j0, j1, j2, j3⟩, -, -⟩ := HB.out _ X2; have bo := Blk.new w2 37 #[.int .i64 sid, .int .u64 (y : Int)])
        | (go_at_call 57; refine (c3 _ (x0.trans X2)).mono ?_; clear c3; rintro e w3 ⟨rfl, x3⟩; have X3 := X2.trans x3; have bo3 := ext_blk x3 bo; obtain ⟨-, k4, k5⟩ := HB.out _ X3)
        | (go_at_call 64; refine (c4 _ (x0.trans X3)).mono ?_; clear c4; rintro e w4 ⟨rfl, x4⟩; have X4 := X3.trans x4; obtain ⟨p0, p1, f0, f1⟩ := HR.out _ X4; obtain ⟨o0, o1⟩ := two (ext_blk x4 bo3)))
      obtain ⟨_, e', -, q0, q1⟩ := HRL.out _ X4
      cases e'
      have q0' := fun nq : Nat => show (w4.drewN nq).cell? _ = _ from q0
      have q1' := fun nq : Nat => show (w4.drewN nq).cell? _ = _ from q1
      have o0' := fun nq : Nat => show (w4.drewN nq).cell? _ = _ from o0
      have o1' := fun nq : Nat => show (w4.drewN nq).cell? _ = _ from o1
      clear a0 a1 a2 a3 a4 a5 i4 i5 j0 j1 j2 j3 k4 k5 bo bo3
      go_quiet (fail)
      go_wp2
      refine bodyPost_ret (v := .tuple #[.agg #[.int .i64 0, .int .u64 0], .int .i64 60]) (by simp [results, Tryz.results20, go_sem, p0, p1]) rfl ⟨rfl, ?_⟩
      exact (((x0.trans X4).drewN _).setCell (p := ⟨w.heap.size + 1 + 1, 0, none⟩) (by simp only; omega) _).setCell (p := ⟨w.heap.size + 1 + 1, 1, none⟩) (by simp only; omega) _
    · subst hq
      simp only [if_true]
      obtain ⟨idn, rfl⟩ : ∃ n : Nat, sid = n := ⟨sid.toNat, by omega⟩
      obtain ⟨sn, rfl⟩ : ∃ n : Nat, ss = n := ⟨ss.toNat, by omega⟩
      unfold partS
      rw [Int.toNat_natCast, Int.toNat_natCast]
      have cN := fun (W : World) (x' : Ext w W) => rnonce6_any x idn sn hx64 (by omega) (by omega) m v.mb v.mn M d hd W ((hm.below x'.out).more x'.size)
      have cS := fun (W : World) (x' : Ext w W) => rscaled_any (.int .i64 t) (.int .i64 n) k v.k64 (.slice A p.length c) m v.mb v.mn l v.l64 v.ln (idn : Int) M (some ad) d e hd W ((hm.below x'.out).more x'.size) ((hl.below x'.out).more x'.size)
      have cM := fun W => rMulR_any (scN k m l (idn : Int)) x hx64 W
      obtain ⟨sc, hsc⟩ : ∃ q, q = scN k m l (idn : Int) := ⟨_, rfl⟩
      rw [← hsc] at cS cM ⊢
      obtain ⟨no, hno⟩ : ∃ q, q = qnN x idn sn m := ⟨_, rfl⟩
      rw [← hno] at cN ⊢
      obtain ⟨mu, hmu⟩ : ∃ q, q = mulM bR sc x := ⟨_, rfl⟩
      rw [← hmu] at cM ⊢
      have cA := fun W => rAddR_any no mu W
      obtain ⟨su, hsu⟩ : ∃ q, q = addM bR no mu := ⟨_, rfl⟩
      rw [← hsu] at cA ⊢
      have d3 : decide ((sx : Int) = (sx : Int)) = true := decide_eq_true rfl
      have hse2 := fun w => (eqSh (idn : Int) (idn : Int) (sx : Int) (sx : Int) w).trans (by rw [decide_eq_true ⟨rfl, rfl⟩])
      rw [← e0] at a0 a1 a2 a3 a4 a5 x0 HB HR HRL HRB
      clear v hx64 hc hd hp hm hl hE1 hE2 hE3 b1 b2 b3 e0 hz hy hi1 hi7 hxR hs0 hst hcz ho h2 h3 hsm hi hix hil hsc hno hmu hsu HX0
      go_enter Tryz.func20, Tryz.ntmps20
      go_wp2_with (first
        | (go_at_call 14; refine (c1 _ x0).mono ?_; clear c1; rintro e w1 ⟨rfl, x1⟩; obtain ⟨-, i4, i5⟩ := HB.out _ x1)
        | (go_at_call 16; refine (c2 _ (x0.trans x1)).mono ?_; clear c2; rintro e w2 ⟨rfl, x2⟩; have X2 := (x1.trans x2).alloc (.cells #[.int .i64 (idn : Int), .int .u64 (sx : Int)] 37); obtain ⟨⟨j0, j1, j2, j3⟩, -, -⟩ := HB.out _ X2; have bo := Blk.new w2 37 #[.int .i64 (idn : Int), .int .u64 (sx : Int)])
        | (go_at_call 57; refine (c3 _ (x0.trans X2)).mono ?_; clear c3; rintro e w3 ⟨rfl, x3⟩; have X3 := X2.trans x3; have bo3 := ext_blk x3 bo; obtain ⟨-, k4, k5⟩ := HB.out _ X3)
        | (go_at_call 64; refine (c4 _ (x0.trans X3)).mono ?_; clear c4; rintro e w4 ⟨rfl, x4⟩; have X4 := X3.trans x4; obtain ⟨o0, o1⟩ := two (ext_blk x4 bo3)))
      obtain ⟨_, e', -, q0, q1⟩ := HRL.out _ X4
      cases e'
      have q0' := fun nq : Nat => show (w4.drewN nq).cell? _ = _ from q0
      have q1' := fun nq : Nat => show (w4.drewN nq).cell? _ = _ from q1
      have o0' := fun nq : Nat => show (w4.drewN nq).cell? _ = _ from o0
      have o1' := fun nq : Nat => show (w4.drewN nq).cell? _ = _ from o1
      clear a0 a1 a2 a3 a4 a5 i4 i5 j0 j1 j2 j3 k4 k5 bo bo3
      go_quiet (fail)
      have X5 := X4.drewN nq
      obtain ⟨W5, e5⟩ : ∃ W, W = w4.drewN nq := ⟨_, rfl⟩
      rw [← e5] at X5 ⊢
      have HX5 := Lib.hid X5
      clear e5 X4 x1 x2 x3 x4 X2 X3 X5 q0 q1 q0' q1' o0 o1 o0' o1' hse hse2
      obtain ⟨⟨m0, m1, m2, m3⟩, m4, m5⟩ := HB.out _ HX5.out
      go_wp2
      go_region_held3 (fun w' => w'.cell? ⟨w.heap.size, 0, none⟩ = some (.int .i64 t) ∧ w'.cell? ⟨w.heap.size, 1, none⟩ = some (.int .i64 n) ∧ w'.cell? ⟨w.heap.size, 2, none⟩ = some (.int .u64 (k : Int)) ∧ w'.cell? ⟨w.heap.size, 3, none⟩ = some (.slice A p.length c) ∧ w'.cell? ⟨w.heap.size + 1, 0, none⟩ = some (.int .i64 (idn : Int)) ∧ w'.cell? ⟨w.heap.size + 1, 1, none⟩ = some (.int .u64 (x : Int))) (go_keep) (first
        | (go_at_call 66; refine (cS _ (x0.trans (HX5.out.trans (Ext.refl W5).drew))).mono ?_; clear cS; rintro e w6 ⟨rfl, x6⟩; have X6 := HX5.out.trans ((Ext.refl W5).drew.trans x6); obtain ⟨⟨r0, r1, r2, r3⟩, r4, r5⟩ := HB.out _ X6)
        | (go_at_call 65; refine (cM _).mono ?_; clear cM; rintro e w7 ⟨rfl, rfl⟩))
      have HX6 := Lib.hid X6
      clear m0 m1 m2 m3 m4 m5 r0 r1 r2 r3 X6 x6
      go_wp2
      go_region_held3 (fun w' => w'.cell? ⟨w.heap.size + 1, 0, none⟩ = some (.int .i64 (idn : Int)) ∧ w'.cell? ⟨w.heap.size + 1, 1, none⟩ = some (.int .u64 (x : Int))) (go_keep) (first
        | (go_at_call 46; refine (cN _ (x0.trans (HX6.out.trans (Ext.refl w6).drew))).mono ?_; clear cN; rintro e w8 ⟨rfl, x8⟩; have X8 := Lib.hid (HX6.out.trans ((Ext.refl w6).drew.trans x8)); obtain ⟨-, s4, s5⟩ := HB.out _ X8.out; obtain ⟨p0, p1, f0, f1⟩ := HR.out _ X8.out; have n0 := fun a b => keepS w8 (g := w.heap.size + 1 + 1) (by omega) a b s4; have n1 := fun a b => keepS w8 (g := w.heap.size + 1 + 1) (by omega) a b s5)
        | (go_at_call 58; refine (cA _).mono ?_; clear cA; rintro e w9 ⟨rfl, rfl⟩))
      go_wp2
      obtain ⟨z0, z1⟩ := two (((HRB.out _ X8.out).set_ 0 (.int .i64 (idn : Int))).set_ 1 (.int .u64 (su : Int)))
      refine bodyPost_ret (v := .tuple #[.agg #[.int .i64 (idn : Int), .int .u64 (su : Int)], .int .i64 0]) (by simp [results, Tryz.results20, go_sem, z0, z1]) rfl ⟨rfl, ?_⟩
      exact ((x0.trans X8.out).setCell (p := ⟨w.heap.size + 1 + 1, 0, none⟩) (by simp only; omega) _).setCell (p := ⟨w.heap.size + 1 + 1, 1, none⟩) (by simp only; omega) _
end Go.Proofs.YtiecfamjnnmpaaaGreat

/- Shares, walked: Split of the program. -/
namespace Go.Proofs.YtiecfamjnnmpaaaGreat
set_option linter.unusedVariables false
open Go.RowKit Go.Shelf Go.Maps
attribute [local irreducible] atN prodN sumN wantN mix hSum hNum coefN evZ

def spB (secret : Nat) (t n : Int) : Bool := decide (1 ≤ t ∧ t ≤ n ∧ n ≤ 7 ∧ secret < bR)
def spO (secret : Nat) (t n : Int) (seed : List Nat) : List (Int × Nat) := if spB secret t n = true then splitL secret t.toNat n.toNat seed else []
def spE (secret : Nat) (t n : Int) : Nat := if spB secret t n = true then 0 else 1
theorem coded_share (seed : List Nat) (i : Nat) : (coded (strN shareS) [seed, [i]]).length = seed.length + 15 := by
  have h5 : (strN shareS).length = 5 := by rw [strN_length]; rfl
  simp only [coded, List.flatMap_cons, List.flatMap_nil, List.length_cons, List.length_append, be_length, List.length_nil, h5]
  omega
theorem lts_share {seed : List Nat} (hs : ∀ x ∈ seed, x < 256) {i : Nat} (hi : i < 256) : ∀ p ∈ [seed, [i]], ∀ x ∈ p, x < 256 := by
  intro p hp x hx
  simp only [List.mem_cons, List.not_mem_nil, or_false] at hp
  rcases hp with rfl | rfl
  · exact hs x hx
  · simp only [List.mem_cons, List.not_mem_nil, or_false] at hx; omega
theorem parts_share {W : World} {T : TypeId} {A B : Option Addr} {c d i : Nat} {l : List Nat} (hc : l.length ≤ c) (hr : Reads W W.heap.size 1 A l.length (bv l)) (hd : 1 ≤ d) (hb : Reads W W.heap.size 1 B 1 (bv [i])) :
    Parts (W.alloc (.cells #[.slice A l.length c, .slice B 1 d] T)) (W.alloc (.cells #[.slice A l.length c, .slice B 1 d] T)).heap.size (some ⟨W.heap.size, 0, none⟩) [l, [i]] :=
  parts_new rfl fun j p hj => match j, hj with
    | 0, hj => by cases hj; exact ⟨A, c, rfl, hc, hr⟩
    | 1, hj => by cases hj; exact ⟨B, d, rfl, hd, hb⟩
/-- What is hashed for a coefficient. -/
theorem TagShare (seed : List Nat) (hs : ∀ x ∈ seed, x < 256) (hl : seed.length ≤ 1000) (i : Nat) (hi : i < 256) : ∃ a b : Nat, a < 18446744073709551616 ∧ b < 18446744073709551616 ∧ numM a b bR = coefN seed i ∧
    (∀ (W : World) (A : Option Addr), Parts W W.heap.size A [seed, [i]] → Calls Tryz.prog 76 #[.string shareS, .slice A 2 2] W fun e w' => e = .returned (.agg #[.int .u64 (a : Int), .int .u64 (b : Int)]) ∧ Ext W w') :=
  ⟨_, _, (hSum_w (coded (strN shareS) [seed, [i]])).1, (hSum_w _).2, by unfold coefN hNum; rfl, fun W A h => Tagged_any shareS [seed, [i]] (lts_share hs hi) A 2 W h (by rw [coded_share]; omega)⟩
theorem rTagShare (seed : List Nat) (hs : ∀ x ∈ seed, x < 256) (hl : seed.length ≤ 1000) (i : Nat) (hi : i < 256) : ∃ a b : Nat, a < 18446744073709551616 ∧ b < 18446744073709551616 ∧ numM a b bR = coefN seed i ∧
    (∀ (W : World) (A : Option Addr), Parts W W.heap.size A [seed, [i]] → Calls Tryz.prog 82 #[.string shareS, .slice A 2 2] W fun e w' => e = .returned (.agg #[.int .u64 (a : Int), .int .u64 (b : Int)]) ∧ Ext W w') :=
  ⟨_, _, (hSum_w (coded (strN shareS) [seed, [i]])).1, (hSum_w _).2, by unfold coefN hNum; rfl, fun W A h => rTagged_any shareS [seed, [i]] (lts_share hs hi) A 2 (Nat.le_refl 2) W h (by rw [coded_share]; omega)⟩
theorem byte_reads (W : World) (T : TypeId) (i : Nat) : Reads (W.alloc (.cells #[.int .u8 (i : Int)] T)) (W.alloc (.cells #[.int .u8 (i : Int)] T)).heap.size 1 (some ⟨W.heap.size, 0, none⟩) 1 (bv [i]) := blk_reads (Blk.new W T #[.int .u8 (i : Int)])

set_option maxRecDepth 100000 in
set_option maxHeartbeats 4000000 in
theorem Split_okF (secret tn nn : Nat) (seed : List Nat) (h1 : 1 ≤ tn) (h2 : tn ≤ nn) (h3 : nn ≤ 7) (hs : secret < bR) (hseed : ∀ x ∈ seed, x < 256) (hl : seed.length ≤ 1000) (A : Option Addr) (c : Nat) (hc : seed.length ≤ c) (w : World) (hr : Reads w w.heap.size 1 A seed.length (bv seed)) :
    Calls Tryz.prog 27 #[.int .u64 (secret : Int), .int .i64 (tn : Int), .int .i64 (nn : Int), .slice A seed.length c] w fun e w' => ∃ A' c', e = .returned (.tuple #[.slice A' nn c', .int .i64 0]) ∧ nn ≤ c' ∧ Reads w' w'.heap.size 2 A' nn (sv (splitL secret tn nn seed)) ∧ Ext w w' ∧ (∀ ad, A' = some ad → w.heap.size ≤ ad.block) := by
  obtain ⟨i0, hi, hz0, hz1, hz2⟩ := info_parts Tryz.infoU64
  obtain ⟨i1, hi1, hz3, hz4, hz5⟩ := info_parts Tryz.infoSh
  have z1 : ¬ (tn : Int) < 1 := by omega
  have z2 : ¬ (nn : Int) < (tn : Int) := by omega
  have z3 : ¬ (7 : Int) < (nn : Int) := by omega
  have z4 : decide ((1152921504606845789 : Int) ≤ (secret : Int)) = false := dec_nge (by unfold bR at hs; omega)
  have ht7 : tn ≤ 7 := by omega
  have HR := Lib.hid hr
  have HSD := Lib.hid hseed
  have HL := Lib.hid hl
  have HC := Lib.hid hc
  have HS := Lib.hid hs
  have H1 := Lib.hid h1
  clear hr hseed hl hc hs h1 h2
  go_enter Tryz.func27, Tryz.ntmps27
  go_wp2_with (at_make; refine wpList_make_full _ rfl _ _ 90 rfl w.heap.size 23 i0 (.int .u64 0) 1 Tryz.underlying90 hi hz0 hz1 .i64 .i64 (tn : Int) (tn : Int) tn rfl rfl rfl rfl (by rw [hz2]; omega) (by simp only [maxLen]; omega) (Nat.le_refl _) ?_; intro w1 hown1 hg1)
  have hB1 := (own_blk hown1).1
  rw [make_words] at hB1
  have HB1 := Lib.hid hB1
  have X1 : Hid (Ext w w1) := Ext.of ((Below.refl _ _).grown hg1 (Nat.le_refl _) (fun k h => by cases h))
  obtain ⟨g, hg⟩ : ∃ g, g = w.heap.size := ⟨_, rfl⟩
  have HG := Lib.hid hg
  rw [← hg] at HB1 ⊢
  clear hown1 hg1 hB1 z1 z2 z4 hg
  go_loopg [36] tn (fun m s36 wr => ∃ j : Nat, j + m = tn ∧ s36 = .int .i64 j ∧ Blk wr g 23 (uv ((polyN secret tn seed).take j ++ List.replicate (tn - j) 0)).toArray ∧ Ext w wr)
  case atStart => exact ⟨0, by omega, rfl, HB1.out, X1.out⟩
  case round =>
    obtain ⟨j, hj, rfl, hb, hx⟩ := hrel
    have hlen : ((polyN secret tn seed).take j).length = j := by rw [List.length_take, polyN_length]; omega
    by_cases h : j < tn
    · have hjb : (j : Int) ≤ 7 := by omega
      have hjt : (j : Int) < tn := by omega
      have pa := polyN_at secret tn seed h
      have e1 : (polyN secret tn seed).take (j + 1) = (polyN secret tn seed).take j ++ [if j = 0 then secret else coefN seed j] := by rw [List.take_add_one, pa]; rfl
      obtain ⟨pre, hpre⟩ : ∃ q, q = (polyN secret tn seed).take j := ⟨_, rfl⟩
      rw [← hpre] at hlen e1 hb
      have q0 : wr.cell? ⟨g, j, none⟩ = some (.int .u64 ((0 : Nat) : Int)) := blk_word hb (by rw [List.getElem?_append_right (by omega), hlen, Nat.sub_self, List.getElem?_replicate, if_pos (by omega)])
      have f0 := hb.frozen j
      have hb2 := hb.set_ j (.int .u64 (secret : Int))
      rw [uv_set, set_row _ _ _ _ hlen h] at hb2
      have q1 : (wr.setCell ⟨g, j, none⟩ (.int .u64 (secret : Int))).cell? ⟨g, j, none⟩ = some (.int .u64 (secret : Int)) := blk_word hb2 (by rw [List.getElem?_append_right (by omega), hlen, Nat.sub_self]; rfl)
      have x2 : Ext w (wr.setCell ⟨g, j, none⟩ (.int .u64 (secret : Int))) := hx.setCell (p := ⟨g, j, none⟩) (by rw [HG.out]; exact Nat.le_refl _) _
      have HE := Lib.hid e1
      have HX2 := Lib.hid x2
      have HB2 := Lib.hid hb2
      have HJ := Lib.hid hj
      have HLEN := Lib.hid hlen
      clear hj hb hx hpre hlen pa e1 hb2 x2
      by_cases hj0 : j = 0
      · subst hj0
        rw [if_pos rfl] at HE
        go_wp2
        have hj := HJ.out
        go_roundg (gk - 1)
        case measure => omega
        case rel => exact ⟨1, by omega, rfl, by rw [HE.out, List.append_assoc]; exact HB2.out, HX2.out⟩
      · rw [if_neg hj0] at HE
        have hj1 : (0 : Int) < j := by omega
        obtain ⟨ta, tb, ha, hb', hnm, cT⟩ := TagShare seed HSD.out HL.out j (by omega)
        have cN := fun W => Num_any ta tb bR ha hb' (by decide) W
        rw [hnm, show bR = 1152921504606845789 from rfl] at cN
        simp only [Int.cast_ofNat_Int] at cN
        have kw : IntKind.u8.wrap (j : Int) = (j : Int) := by rw [IntKind.wrap_u8]; omega
        obtain ⟨co, hco⟩ : ∃ q, q = coefN seed j := ⟨_, rfl⟩
        rw [← hco] at cN HE
        unfold shareS at cT
        have xV : Ext w ((wr.setCell ⟨g, j, none⟩ (.int .u64 (secret : Int))).alloc (.cells #[.int .u8 (j : Int)] 5)) := HX2.out.alloc _
        have pT := fun T => parts_share (T := T) HC.out ((HR.out.below xV.out).more xV.size) (Nat.le_refl 1) (byte_reads (wr.setCell ⟨g, j, none⟩ (.int .u64 (secret : Int))) 5 j)
        rw [World.size_alloc, World.size_setCell] at pT
        have cT1 := fun T => cT _ _ (pT T)
        have HP := Lib.hid xV
        clear ha hb' hnm hco hj0 cT pT xV
        go_wp2_with (first
          | (go_at_call 76; refine (cT1 _).mono ?_; clear cT1; rintro e w2 ⟨rfl, x2⟩; have B2 := Lib.hid (ext_blk x2 ((HB2.out.alloc _).alloc _)); have X2 := Lib.hid ((HP.out.alloc _).trans x2))
          | (go_at_call 75; refine (cN _).mono ?_; clear cN; rintro e w3 ⟨rfl, x3⟩; have B3 := Lib.hid (ext_blk x3 B2.out); have q3 := blk_word B3.out (k := j) (v := secret) (by rw [List.getElem?_append_right (by rw [HLEN.out]; exact Nat.le_refl _), HLEN.out, Nat.sub_self]; rfl); have f3 := B3.out.frozen j))
        have hb4 := B3.out.set_ j (.int .u64 (co : Int))
        rw [uv_set, set_row' _ _ _ _ _ HLEN.out] at hb4
        have x4 : Ext w (w3.setCell ⟨g, j, none⟩ (.int .u64 (co : Int))) := (X2.out.trans x3).setCell (p := ⟨g, j, none⟩) (by rw [HG.out]; exact Nat.le_refl _) _
        have hj := HJ.out
        go_roundg (gk - 1)
        case measure => omega
        case rel => exact ⟨j + 1, by omega, int_congr (by omega), by rw [HE.out, List.append_assoc]; exact hb4, x4⟩
    · obtain rfl : j = tn := by omega
      rw [List.take_of_length_le (by rw [polyN_length]; exact Nat.le_refl _), Nat.sub_self, List.replicate_zero, List.append_nil] at hb
      have hpl := polyN_length secret j seed
      have hpr := polyN_lt HS.out j seed
      have hsp : ∀ k, k < nn → (splitL secret j nn seed)[k]? = some (((k + 1 : Nat) : Int), evZ (polyN secret j seed) (k + 1) % bR) := fun k hk => splitL_at secret j nn seed hk
      have hsl := splitL_length secret j nn seed
      obtain ⟨poly, hpoly⟩ : ∃ q, q = polyN secret j seed := ⟨_, rfl⟩
      obtain ⟨sl, hslq⟩ : ∃ q, q = splitL secret j nn seed := ⟨_, rfl⟩
      rw [← hpoly] at hb hpl hpr hsp
      rw [← hslq] at hsp hsl
      have HB := Lib.hid hb
      have HX := Lib.hid hx
      have HPL := Lib.hid hpl
      have HPR := Lib.hid hpr
      have HSP := Lib.hid hsp
      have HSL := Lib.hid hsl
      have HSLQ := Lib.hid hslq
      clear hb hx hj hlen hpl hpr hsp hsl hslq hpoly
      go_wp2_with (at_make; refine wpList_make_full _ rfl _ _ 24 rfl wr.heap.size 37 i1 (.agg #[.int .i64 0, .int .u64 0]) 2 Tryz.underlying24 hi1 hz3 hz4 .i64 .i64 (nn : Int) (nn : Int) nn rfl rfl rfl rfl (by rw [hz5]; omega) (by simp only [maxLen]; omega) (Nat.le_refl _) ?_; intro w2 hown2 hg2)
      have hB2 := (own_blk hown2).1
      rw [make_shares] at hB2
      have HBP := Lib.hid (HB.out.grown hg2 (by simp))
      have hx2 : Ext wr w2 := Ext.of ((Below.refl _ _).grown hg2 (Nat.le_refl _) (fun k h => by cases h))
      have HX2 := Lib.hid (HX.out.trans hx2)
      obtain ⟨g2, hg2'⟩ : ∃ g, g = wr.heap.size := ⟨_, rfl⟩
      have hgg : w.heap.size ≤ g2 := by rw [hg2']; exact HX.out.size
      have hne : g ≠ g2 := by have := HB.out.lt; omega
      rw [← hg2'] at hB2 ⊢
      have HB2 := Lib.hid hB2
      have HGG := Lib.hid hgg
      have HNE := Lib.hid hne
      clear hown2 hg2 hB2 hx2 hg2' hgg hne
      go_loopg [60] nn (fun m s60 wr => ∃ k : Nat, k + m = nn ∧ s60 = .int .i64 k ∧ Blk wr g2 37 (sv (sl.take k ++ List.replicate (nn - k) (0, 0))).toArray ∧ Blk wr g 23 (uv poly).toArray ∧ Ext w wr)
      case atStart => exact ⟨0, by omega, rfl, HB2.out, HBP.out, HX2.out⟩
      case round =>
        obtain ⟨k, hk, rfl, hb, hbp, hx⟩ := hrel
        by_cases h : k < nn
        · have hkb : (k : Int) ≤ 7 := by omega
          have hkn : (k : Int) < nn := by omega
          have hlen : (sl.take k).length = k := by rw [List.length_take, HSL.out]; omega
          have e1 : sl.take (k + 1) = sl.take k ++ [(((k + 1 : Nat) : Int), evZ poly (k + 1) % bR)] := by rw [List.take_add_one, HSP.out k h]; rfl
          obtain ⟨pre, hpre⟩ : ∃ q, q = sl.take k := ⟨_, rfl⟩
          rw [← hpre] at hlen e1 hb
          have e2 : List.replicate (nn - k) ((0 : Int), 0) = ((0 : Int), 0) :: List.replicate (nn - (k + 1)) (0, 0) := by rw [← List.replicate_succ]; congr 1; omega
          rw [e2] at hb
          obtain ⟨post, hpost⟩ : ∃ q, q = List.replicate (nn - (k + 1)) ((0 : Int), 0) := ⟨_, rfl⟩
          rw [← hpost] at hb
          have hat : ∀ s : Int × Nat, (pre ++ s :: post)[k]? = some s := fun s => by rw [List.getElem?_append_right (by omega), hlen, Nat.sub_self]; rfl
          obtain ⟨q0, -⟩ := blk_row hb (hat _)
          have f0 := hb.frozen (k * 2)
          have hb2 := hb.set_ (k * 2) (.int .i64 (((k + 1 : Nat) : Int)))
          rw [sv_set0 _ _ _ hlen] at hb2
          have kc : ((k + 1 : Nat) : Int) = (k : Int) + 1 := by omega
          rw [kc] at hb2 e1
          have hbp2 := hbp.far (p := ⟨g2, k * 2, none⟩) HNE.out (.int .i64 ((k : Int) + 1))
          have x2 : Ext w (wr.setCell ⟨g2, k * 2, none⟩ (.int .i64 ((k : Int) + 1))) := hx.setCell (p := ⟨g2, k * 2, none⟩) HGG.out _
          have kx : IntKind.u64.wrap ((k : Int) + 1) = ((k + 1 : Nat) : Int) := by rw [IntKind.wrap_u64]; omega
          obtain ⟨x, hxk⟩ : ∃ x, x = k + 1 := ⟨_, rfl⟩
          rw [← hxk] at kx e1
          have HE := Lib.hid e1
          have HX3 := Lib.hid x2
          have HB3 := Lib.hid hb2
          have HBP3 := Lib.hid hbp2
          have HK := Lib.hid hk
          have HLEN := Lib.hid hlen
          have HPOST := Lib.hid hpost
          have HAT := Lib.hid hat
          obtain ⟨G, hG⟩ : ∃ G, G = gk - 1 := ⟨_, rfl⟩
          have HG2 := Lib.hid hG
          have hxb : x < bR := by unfold bR; omega
          have HXB := Lib.hid hxb
          have HXK := Lib.hid hxk
          clear hk hb hbp hx hpre hlen e1 e2 hpost hat hb2 hbp2 x2 hxk hG hxb kc
          go_wp2
          go_loopg [14, 71] j (fun m s14 s71 wr => ∃ i : Nat, i + m = j ∧ s71 = .int .i64 i ∧ s14 = .int .u64 ((x ^ i % bR : Nat) : Int) ∧ Blk wr g2 37 (sv (pre ++ ((k : Int) + 1, evZ (poly.take i) x % bR) :: post)).toArray ∧ Blk wr g 23 (uv poly).toArray ∧ Ext w wr)
          case atStart =>
            refine ⟨0, by omega, rfl, ?_, ?_, HBP3.out, HX3.out⟩
            · rw [Nat.pow_zero]; rfl
            · have e : evZ (poly.take 0) x % bR = 0 := by unfold evZ; rfl
              rw [e]; exact HB3.out
          case round =>
            obtain ⟨i, hi, rfl, rfl, hb, hbp, hx⟩ := hrel
            by_cases h' : i < j
            · have hib : (i : Int) ≤ 7 := by omega
              have hij : (i : Int) < j := by omega
              obtain ⟨co, hco⟩ : ∃ s, poly[i]? = some s := ⟨_, List.getElem?_eq_getElem (by rw [HPL.out]; exact h')⟩
              have p0 := blk_word hbp hco
              have hcb := HPR.out co (List.mem_of_getElem? hco)
              have hlt : (poly.take i).length = i := by rw [List.length_take, HPL.out]; omega
              have e1 : poly.take (i + 1) = poly.take i ++ [co] := by rw [List.take_add_one, hco]; rfl
              have e2 := value_step (poly.take i) co x
              rw [← e1, hlt] at e2
              have e3 := shpow_step x i
              obtain ⟨z0, z1⟩ := blk_row hb (HAT.out _)
              obtain ⟨z2, z3⟩ : wr.frozen? ⟨g2, k * 2, none⟩ = false ∧ wr.frozen? ⟨g2, k * 2 + 1, none⟩ = false := ⟨hb.frozen _, hb.frozen _⟩
              obtain ⟨v, hv⟩ : ∃ t, t = evZ (poly.take i) x % bR := ⟨_, rfl⟩
              obtain ⟨v', hv'⟩ : ∃ t, t = evZ (poly.take (i + 1)) x % bR := ⟨_, rfl⟩
              obtain ⟨p, hp⟩ : ∃ t, t = x ^ i % bR := ⟨_, rfl⟩
              obtain ⟨p', hp'⟩ : ∃ t, t = x ^ (i + 1) % bR := ⟨_, rfl⟩
              have hpb : p < bR := by rw [hp]; exact Nat.mod_lt _ (by decide)
              rw [← hv, ← hv', ← hp] at e2
              rw [← hp, ← hp'] at e3
              rw [← hv] at z1 hb
              have c1 := fun W => MulRE co p (lt64_R hcb) (lt64_R hpb) W
              have c2 := fun W => AddRE v (mulM bR co p) W
              have c3 := fun W => MulRE p x (lt64_R hpb) (lt64_R HXB.out) W
              rw [e2] at c2
              rw [e3] at c3
              obtain ⟨mm, hmm⟩ : ∃ t, t = mulM bR co p := ⟨_, rfl⟩
              rw [← hmm] at c1 c2
              rw [← hp]
              have HV := Lib.hid hv'
              have HP := Lib.hid hp'
              have HB4 := Lib.hid hb
              have HBP4 := Lib.hid hbp
              have HX4 := Lib.hid hx
              have HI := Lib.hid hi
              clear hi hb hbp hx hco hcb hlt e1 e2 e3 hv hv' hp hp' hpb hmm
              go_wp2
              go_region_with (first
                | (go_at_call 62; refine (c1 _).mono ?_; clear c1; rintro e w3 ⟨rfl, x3⟩; have B3 := Lib.hid (ext_blk x3 (by first | exact HB4.out.drew | exact HB4.out | exact HB4.out.drewN _)); have P3 := Lib.hid (ext_blk x3 (by first | exact HBP4.out.drew | exact HBP4.out | exact HBP4.out.drewN _)); have y3 := (blk_row B3.out (HAT.out _)).2; have t3 := B3.out.frozen (k * 2 + 1))
                | (go_at_call 24; refine (c2 _).mono ?_; clear c2; rintro e w4 ⟨rfl, x4⟩; have B4 := Lib.hid (ext_blk x4 (by first | exact B3.out | exact B3.out.drew | exact B3.out.drewN _)); have P4 := Lib.hid (ext_blk x4 (by first | exact P3.out | exact P3.out.drew | exact P3.out.drewN _)); have y4 := (blk_row B4.out (HAT.out _)).2; have t4 := B4.out.frozen (k * 2 + 1)))
              all_goals (
                have b5 := B4.out.set_ (k * 2 + 1) (.int .u64 (v' : Int))
                rw [sv_set1 _ _ _ HLEN.out] at b5
                have p5 := P4.out.far (p := ⟨g2, k * 2 + 1, none⟩) HNE.out (.int .u64 (v' : Int))
                have x5 : Ext w (w4.setCell ⟨g2, k * 2 + 1, none⟩ (.int .u64 (v' : Int))) := ((HX4.out.drew.trans x3).trans x4).setCell (p := ⟨g2, k * 2 + 1, none⟩) HGG.out _
                have B5 := Lib.hid b5
                have P5 := Lib.hid p5
                have X5 := Lib.hid x5
                clear b5 p5 x5
                go_wp2_with (go_at_call 62; refine (c3 _).mono ?_; clear c3; rintro e w6 ⟨rfl, x6⟩)
                have hi := HI.out
                go_roundg (gk - 1))
              all_goals first
                | (case measure => omega)
                | (case rel => exact ⟨i + 1, by omega, int_congr (by omega), by rw [HP.out], by rw [← HV.out]; exact ext_blk x6 B5.out, ext_blk x6 P5.out, X5.out.trans x6⟩)
            · obtain rfl : i = j := by omega
              rw [List.take_of_length_le (by rw [HPL.out]; exact Nat.le_refl _)] at hb
              have HB5 := Lib.hid hb
              have HBP5 := Lib.hid hbp
              have HX5 := Lib.hid hx
              have e4 : sl.take (k + 1) = pre ++ [((k : Int) + 1, evZ poly x % bR)] := by rw [← HXK.out]; exact HE.out
              have HE4 := Lib.hid e4
              clear hi hb hbp hx e4
              go_wp2
              have hk := HK.out
              have hG := HG2.out
              go_roundg G
              case measure => omega
              case rel => exact ⟨k + 1, by omega, int_congr (by omega), by rw [HE4.out, List.append_assoc, ← HPOST.out]; exact HB5.out, HBP5.out, HX5.out⟩
        · obtain rfl : k = nn := by omega
          rw [List.take_of_length_le (by rw [HSL.out]; exact Nat.le_refl _), Nat.sub_self, List.replicate_zero, List.append_nil] at hb
          have hr' := blk_reads2 hb
          rw [HSL.out] at hr'
          have HRR := Lib.hid hr'
          have HX5 := Lib.hid hx
          clear hk hb hbp hx hr'
          go_wp2
          go_ret2
          exact ⟨_, _, rfl, Nat.le_refl _, by rw [← HSLQ.out]; exact HRR.out, HX5.out, fun ad h => by cases h; exact HGG.out⟩
theorem Split_ok (secret tn nn : Nat) (seed : List Nat) (h1 : 1 ≤ tn) (h2 : tn ≤ nn) (h3 : nn ≤ 7) (hs : secret < bR) (hseed : ∀ x ∈ seed, x < 256) (hl : seed.length ≤ 1000) (A : Option Addr) (c : Nat) (hc : seed.length ≤ c) (w : World) (hr : Reads w w.heap.size 1 A seed.length (bv seed)) :
    Calls Tryz.prog 27 #[.int .u64 (secret : Int), .int .i64 (tn : Int), .int .i64 (nn : Int), .slice A seed.length c] w fun e w' => ∃ A' c', e = .returned (.tuple #[.slice A' nn c', .int .i64 0]) ∧ nn ≤ c' ∧ Reads w' w'.heap.size 2 A' nn (sv (splitL secret tn nn seed)) ∧ Ext w w' :=
  (Split_okF secret tn nn seed h1 h2 h3 hs hseed hl A c hc w hr).mono fun _ _ ⟨A', c', a, b, d, e, _⟩ => ⟨A', c', a, b, d, e⟩
end Go.Proofs.YtiecfamjnnmpaaaGreat

/- Shares, walked: value and Split of the document; Split of whatever. -/
namespace Go.Proofs.YtiecfamjnnmpaaaGreat
set_option linter.unusedVariables false
open Go.RowKit Go.Shelf Go.Maps
attribute [local irreducible] atN prodN sumN wantN mix hSum hNum coefN evZ

theorem reads_uv {w : World} {B n : Nat} {A : Option Addr} {l : List Nat} (h : Reads w B 1 A n (uv l)) {k : Nat} {x : Nat} (hk : l[k]? = some x) : ∃ ad, A = some ad ∧ w.cell? (ad.add k) = some (.int .u64 (x : Int)) :=
  reads_word (l := l) h hk
theorem horner_drop {l : List Nat} {k c : Nat} (h : l[k]? = some c) (x : Nat) : addM bR (mulM bR (evZ (l.drop (k + 1)) x % bR) x) c = evZ (l.drop k) x % bR := by
  rw [horner_step, List.drop_eq_getElem_cons (List.getElem?_eq_some_iff.1 h).1, (List.getElem?_eq_some_iff.1 h).2]

set_option maxRecDepth 100000 in
set_option maxHeartbeats 2000000 in
theorem value_any (l : List Nat) (hl : ∀ c ∈ l, c < bR) (x : Nat) (hx : x < bR) (A : Option Addr) (c : Nat) (hn : l.length ≤ 7) (w : World) (hr : Reads w w.heap.size 1 A l.length (uv l)) :
    Calls Tryz.prog 83 #[.slice A l.length c, .int .u64 (x : Int)] w fun e w' => e = .returned (.int .u64 ((evZ l x % bR : Nat) : Int)) ∧ Ext w w' := by
  have hr0 : Hid (Reads w w.heap.size 1 A l.length (uv l)) := Lib.hid hr
  have HL := Lib.hid hl
  have HXX := Lib.hid hx
  clear hr hl hx
  have hn' : (l.length : Int) ≤ 7 := by omega
  go_enter Tryz.func83, Tryz.ntmps83
  go_wp2
  go_loopg [5, 6] l.length (fun m s5 s6 wr => m ≤ l.length ∧ s6 = .int .i64 ((m : Int) - 1) ∧ s5 = .int .u64 ((evZ (l.drop m) x % bR : Nat) : Int) ∧ Ext w wr)
  case atStart => exact ⟨Nat.le_refl _, int_congr (by omega), by rw [List.drop_length]; unfold evZ; rfl, Ext.refl w⟩
  case round =>
    obtain ⟨hm, rfl, rfl, hx⟩ := hrel
    rcases Nat.eq_zero_or_pos gk with h | h
    · subst h
      rw [List.drop_zero]
      have d0 : ((0 : Nat) : Int) - 1 = -1 := by omega
      rw [d0]
      have HX := Lib.hid hx
      clear hx hm
      go_wp2
      go_ret
      exact ⟨rfl, HX.out⟩
    · obtain ⟨j, rfl⟩ : ∃ j, gk = j + 1 := ⟨gk - 1, by omega⟩
      have d0 : ((j + 1 : Nat) : Int) - 1 = (j : Int) := by omega
      rw [d0]
      have hjl : (j : Int) < l.length := by omega
      obtain ⟨co, hs⟩ : ∃ s, l[j]? = some s := ⟨_, List.getElem?_eq_getElem (by omega)⟩
      obtain ⟨ad, rfl, q0⟩ := reads_uv (hr0.out.below hx.out) hs
      have e1 := horner_drop hs x
      have c1 := fun W => rMulR_any (evZ (l.drop (j + 1)) x % bR) x (lt64_R HXX.out) W
      have c2 := fun W => rAddR_any (mulM bR (evZ (l.drop (j + 1)) x % bR) x) co W
      rw [e1] at c2
      obtain ⟨mm, hmm⟩ : ∃ t, t = mulM bR (evZ (l.drop (j + 1)) x % bR) x := ⟨_, rfl⟩
      rw [← hmm] at c1 c2
      obtain ⟨v, hv⟩ : ∃ t, t = evZ (l.drop (j + 1)) x % bR := ⟨_, rfl⟩
      rw [← hv] at c1 ⊢
      obtain ⟨v', hv'⟩ : ∃ t, t = evZ (l.drop j) x % bR := ⟨_, rfl⟩
      rw [← hv'] at c2
      have HV := Lib.hid hv'
      have HX := Lib.hid hx
      have HM := Lib.hid hm
      clear hx hm e1 hs hmm hv hv' d0
      go_wp2
      go_region_with (first
        | (go_at_call 65; refine (c1 _).mono ?_; clear c1; rintro e w' ⟨rfl, rfl⟩)
        | (go_at_call 58; refine (c2 _).mono ?_; clear c2; rintro e w' ⟨rfl, rfl⟩))
      all_goals go_wp2
      all_goals go_roundg j
      all_goals first
        | (case measure => omega)
        | (case rel => exact ⟨by have := HM.out; omega, int_congr (by omega), by rw [HV.out], HX.out.drew⟩)
        | (case rel => exact ⟨by have := HM.out; omega, int_congr (by omega), by rw [HV.out], HX.out.drewN _⟩)
end Go.Proofs.YtiecfamjnnmpaaaGreat

/- Shares, walked: Split of the document; Split of whatever. -/
namespace Go.Proofs.YtiecfamjnnmpaaaGreat
set_option linter.unusedVariables false
open Go.RowKit Go.Shelf Go.Maps
attribute [local irreducible] atN prodN sumN wantN mix hSum hNum coefN evZ

set_option maxRecDepth 100000 in
set_option maxHeartbeats 4000000 in
theorem rSplit_ok (secret tn nn : Nat) (seed : List Nat) (h1 : 1 ≤ tn) (h2 : tn ≤ nn) (h3 : nn ≤ 7) (hs : secret < bR) (hseed : ∀ x ∈ seed, x < 256) (hl : seed.length ≤ 1000) (A : Option Addr) (c : Nat) (hc : seed.length ≤ c) (w : World) (hr : Reads w w.heap.size 1 A seed.length (bv seed)) :
    Calls Tryz.prog 31 #[.int .u64 (secret : Int), .int .i64 (tn : Int), .int .i64 (nn : Int), .slice A seed.length c] w fun e w' => ∃ A' c', e = .returned (.tuple #[.slice A' nn c', .int .i64 0]) ∧ nn ≤ c' ∧ Reads w' w'.heap.size 2 A' nn (sv (splitL secret tn nn seed)) ∧ Ext w w' := by
  obtain ⟨i0, hi, hz0, hz1, hz2⟩ := info_parts Tryz.infoU64
  obtain ⟨i1, hi1, hz3, hz4, hz5⟩ := info_parts Tryz.infoSh
  have z1 : ¬ (tn : Int) < 1 := by omega
  have z2 : ¬ (nn : Int) < (tn : Int) := by omega
  have z3 : ¬ (7 : Int) < (nn : Int) := by omega
  have z4 : decide ((1152921504606845789 : Int) ≤ (secret : Int)) = false := dec_nge (by unfold bR at hs; omega)
  have ht7 : tn ≤ 7 := by omega
  have HR := Lib.hid hr
  have HSD := Lib.hid hseed
  have HL := Lib.hid hl
  have HC := Lib.hid hc
  have HS := Lib.hid hs
  have H1 := Lib.hid h1
  clear hr hseed hl hc hs h1 h2
  go_enter Tryz.func31, Tryz.ntmps31
  go_wp2
  clear z1 z2 z4
  go_loopg [10, 11] tn (fun m s10 s11 wr => ∃ j : Nat, 1 ≤ j ∧ j + m = tn + 1 ∧ s11 = .int .i64 j ∧ wr.ownsRow w.heap.size 23 1 s10 ((polyN secret tn seed).take j).length (uv ((polyN secret tn seed).take j)) ∧ Ext w wr)
  case atStart =>
    refine ⟨1, Nat.le_refl _, by omega, rfl, ?_, (Ext.refl w).alloc _⟩
    have e : (polyN secret tn seed).take 1 = [secret] := by rw [List.take_add_one, polyN_at secret tn seed (by have := H1.out; omega)]; rfl
    rw [e]
    exact own_new w w.heap.size w.heap.size rfl (Nat.le_refl _) 23 (.int .u64 (secret : Int))
  case round =>
    obtain ⟨j, hj1, hj, rfl, hown, hx⟩ := hrel
    have hlen : ((polyN secret tn seed).take j).length ≤ 7 := by rw [List.length_take, polyN_length]; omega
    by_cases h : j < tn
    · have hjb : (j : Int) ≤ 7 := by omega
      have hjt : (j : Int) < tn := by omega
      have pa := polyN_at secret tn seed h
      rw [if_neg (by omega)] at pa
      have e1 : (polyN secret tn seed).take (j + 1) = (polyN secret tn seed).take j ++ [coefN seed j] := by rw [List.take_add_one, pa]; rfl
      obtain ⟨ta, tb, ha, hb', hnm, cT⟩ := rTagShare seed HSD.out HL.out j (by omega)
      have cN := fun W => rNum_any ta tb bR (by decide) W
      rw [hnm, show bR = 1152921504606845789 from rfl] at cN
      simp only [Int.cast_ofNat_Int] at cN
      have kw : IntKind.u8.wrap (j : Int) = (j : Int) := by rw [IntKind.wrap_u8]; omega
      obtain ⟨co, hco⟩ : ∃ q, q = coefN seed j := ⟨_, rfl⟩
      rw [← hco] at cN e1
      obtain ⟨pre, hpre⟩ : ∃ q, q = (polyN secret tn seed).take j := ⟨_, rfl⟩
      rw [← hpre] at hlen e1 hown
      unfold shareS at cT
      have xV : Ext w (wr.alloc (.cells #[.int .u8 (j : Int)] 5)) := hx.alloc _
      have pT := fun T => parts_share (T := T) HC.out ((HR.out.below xV.out).more xV.size) (Nat.le_refl 1) (byte_reads wr 5 j)
      rw [World.size_alloc] at pT
      have cT1 := fun T => cT _ _ (pT T)
      have HP := Lib.hid xV
      have HE := Lib.hid e1
      have HX := Lib.hid hx
      have HJ := Lib.hid hj
      have HLEN := Lib.hid hlen
      clear ha hb' hnm hco cT pT xV hj hx pa e1 hlen hpre
      go_wp2_with (first
        | (go_at_call 82; refine (cT1 _).mono ?_; clear cT1; rintro e w2 ⟨rfl, x2⟩; have O2 := own_ext ((hown.alloc _).alloc _) x2; have X2 := Lib.hid ((HP.out.alloc _).trans x2))
        | (go_at_call 81; refine (cN _).mono ?_; clear cN; rintro e w3 ⟨rfl, x3⟩; have O3 := own_ext O2 x3; have X3 := Lib.hid (X2.out.trans x3))
        | (at_builtin; refine wpList_append_own _ rfl (.tmp 36) (.tmp 44) 90 rfl w.heap.size 23 i0 (.int .u64 0) 1 8 Tryz.underlying90 hi hz0 hz1 hz2 rfl (by decide) _ _ _ rfl (O3.alloc _) ⟨w3.heap.size, 0, none⟩ 1 1 [.int .u64 (co : Int)] rfl rfl (cell_one_new _ _ _) (by simp [Value.oneCell']) (by have := HLEN.out; simp only [maxLen]; omega) (by have := HLEN.out; omega) (by have := X3.out.size; simp; omega) ?_; intro v4 w4 hown4 hg4 _))
      have X4 := ext_grown (X3.out.alloc _) (O3.alloc _) hg4
      have O4 : Hid (w4.ownsRow w.heap.size 23 1 v4 ((polyN secret tn seed).take (j + 1)).length (uv ((polyN secret tn seed).take (j + 1)))) := by
        show World.ownsRow _ _ _ _ _ _ _
        rw [HE.out, List.length_append, uv_append]
        exact hown4
      clear hown4 hg4 O3 O2 hown
      have hj := HJ.out
      go_wp2
      go_roundg (gk - 1)
      case measure => omega
      case rel => exact ⟨j + 1, by omega, by omega, int_congr (by omega), O4.out, X4⟩
    · have hjt : ¬ (j : Int) < tn := by omega
      have e1 : (polyN secret tn seed).take j = polyN secret tn seed := List.take_of_length_le (by rw [polyN_length]; omega)
      rw [e1] at hown
      obtain ⟨wo, hwo⟩ : ∃ wo : World, wo = wr := ⟨_, rfl⟩
      rw [← hwo] at hown hx ⊢
      clear hwo
      obtain ⟨A', c', rfl, hc', hr'⟩ := own_slice hown
      have hpl := polyN_length secret tn seed
      have hpr := polyN_lt HS.out tn seed
      have hsp : ∀ k, k < nn → (splitL secret tn nn seed)[k]? = some (((k + 1 : Nat) : Int), evZ (polyN secret tn seed) (k + 1) % bR) := fun k hk => splitL_at secret tn nn seed hk
      have hsl := splitL_length secret tn nn seed
      obtain ⟨poly, hpoly⟩ : ∃ q, q = polyN secret tn seed := ⟨_, rfl⟩
      obtain ⟨sl, hslq⟩ : ∃ q, q = splitL secret tn nn seed := ⟨_, rfl⟩
      rw [← hpoly] at hpl hpr hsp hr' hc' ⊢
      rw [← hslq] at hsp hsl
      have HSLQ := Lib.hid hslq
      have HSP := Lib.hid hsp
      have HSL := Lib.hid hsl
      have HRP := Lib.hid hr'
      have HPL := Lib.hid hpl
      have HPR := Lib.hid hpr
      have HX := Lib.hid hx
      clear hown hr' hpl hpr hsp hsl hx hj hlen e1 hslq hpoly
      go_wp2
      go_loopg [12, 13] nn (fun m s12 s13 wz => ∃ k : Nat, k + m = nn ∧ s13 = .int .i64 ((k + 1 : Nat) : Int) ∧ wz.ownsRow wo.heap.size 37 2 s12 (sl.take k).length (sv (sl.take k)) ∧ Ext wo wz)
      case atStart => exact ⟨0, by omega, rfl, own_empty wo _ _ rfl (Nat.le_refl _) _ _, (Ext.refl wo).alloc _⟩
      case round =>
        obtain ⟨k, hk, rfl, hown, hx⟩ := hrel
        by_cases h' : k < nn
        · have e1 : sl.take (k + 1) = sl.take k ++ [(((k + 1 : Nat) : Int), evZ poly (k + 1) % bR)] := by rw [List.take_add_one, HSP.out k h']; rfl
          have hlen : (sl.take k).length ≤ 7 := by rw [List.length_take, HSL.out]; omega
          obtain ⟨x, hxk⟩ : ∃ x, x = k + 1 := ⟨_, rfl⟩
          rw [← hxk]
          have hxb : x < bR := by unfold bR; omega
          have hxn : (x : Int) ≤ nn := by omega
          have hn7 : (nn : Int) ≤ 7 := by omega
          have kx : IntKind.u64.wrap (x : Int) = (x : Int) := by rw [IntKind.wrap_u64]; omega
          have cv := fun (W : World) (xW : Ext wo W) => value_any poly HPR.out x hxb A' c' (by rw [HPL.out]; exact ht7) W ((HRP.out.below xW.out).more xW.size)
          have e2 : sl.take x = sl.take k ++ [((x : Int), evZ poly x % bR)] := by rw [hxk]; exact e1
          obtain ⟨v, hv⟩ : ∃ t, t = evZ poly x % bR := ⟨_, rfl⟩
          rw [← hv] at cv e2
          obtain ⟨pre, hpre⟩ : ∃ q, q = sl.take k := ⟨_, rfl⟩
          rw [← hpre] at hlen e2 hown
          have HE := Lib.hid e2
          have HX2 := Lib.hid hx
          have HK := Lib.hid hk
          have HLEN := Lib.hid hlen
          have HXK := Lib.hid hxk
          clear e1 e2 hx hk hlen hxk hxb hv hpre
          go_wp2_with (first
            | (go_at_call 83; refine (cv _ HX2.out).mono ?_; clear cv; rintro e w2 ⟨rfl, x2⟩; have O2 := own_ext hown x2; have X2 := Lib.hid (HX2.out.trans x2))
            | (at_builtin; refine wpList_append_own _ rfl (.tmp 52) (.tmp 59) 24 rfl wo.heap.size 37 i1 (.agg #[.int .i64 0, .int .u64 0]) 2 16 Tryz.underlying24 hi1 hz3 hz4 hz5 rfl (by decide) _ _ _ rfl (O2.alloc _) ⟨w2.heap.size, 0, none⟩ 1 1 [.int .i64 (x : Int), .int .u64 (v : Int)] rfl rfl (cell_two_new _ _ _ _) (by simp [Value.oneCell']) (by have := HLEN.out; simp only [maxLen]; omega) (by have := HLEN.out; omega) (by have := X2.out.size; simp; omega) ?_; intro v4 w4 hown4 hg4 _))
          have X4 := ext_grown (X2.out.alloc _) (O2.alloc _) hg4
          have O4 : Hid (w4.ownsRow wo.heap.size 37 2 v4 (sl.take (k + 1)).length (sv (sl.take (k + 1)))) := by
            show World.ownsRow _ _ _ _ _ _ _
            rw [← HXK.out, HE.out, List.length_append, sv_append]
            exact hown4
          clear hown4 hg4 O2 hown
          have hk := HK.out
          have hxk := HXK.out
          go_wp2
          go_roundg (gk - 1)
          case measure => omega
          case rel => exact ⟨k + 1, by omega, int_congr (by omega), O4.out, X4⟩
        · have hkk : ¬ (((k + 1 : Nat)) : Int) ≤ (nn : Int) := by omega
          obtain rfl : k = nn := by omega
          rw [List.take_of_length_le (by rw [HSL.out]; exact Nat.le_refl _)] at hown
          rw [HSL.out] at hown
          obtain ⟨A2, c2, rfl, hc2, hr2⟩ := own_slice2 hown
          have HRR := Lib.hid hr2
          have HX5 := Lib.hid (HX.out.trans hx)
          clear hown hr2 hx hk
          go_wp2
          go_ret2
          exact ⟨_, _, rfl, hc2, by rw [← HSLQ.out]; exact HRR.out, HX5.out⟩
end Go.Proofs.YtiecfamjnnmpaaaGreat

/- Shares, walked: Split of whatever; the chapter's examples. Printed by gen_sh14.py. -/
namespace Go.Proofs.YtiecfamjnnmpaaaGreat
set_option linter.unusedVariables false
open Go.RowKit Go.Shelf Go.Maps
attribute [local irreducible] atN prodN sumN wantN mix hSum hNum coefN evZ

set_option maxRecDepth 100000 in
set_option maxHeartbeats 2000000 in
theorem Split_any (secret : Nat) (t n : Int) (seed : List Nat) (hseed : ∀ x ∈ seed, x < 256) (hl : seed.length ≤ 1000) (A : Option Addr) (c : Nat) (hc : seed.length ≤ c) (w : World) (hr : Reads w w.heap.size 1 A seed.length (bv seed)) :
    Calls Tryz.prog 27 #[.int .u64 (secret : Int), .int .i64 t, .int .i64 n, .slice A seed.length c] w fun e w' => ∃ A' c', e = .returned (.tuple #[.slice A' (spO secret t n seed).length c', .int .i64 (spE secret t n : Nat)]) ∧ (spO secret t n seed).length ≤ c' ∧ Reads w' w'.heap.size 2 A' (spO secret t n seed).length (sv (spO secret t n seed)) ∧ Ext w w' := by
  by_cases hb : spB secret t n = true
  · obtain ⟨h1, h2, h3, h4⟩ := of_decide_eq_true hb
    have e1 : spO secret t n seed = splitL secret t.toNat n.toNat seed := by unfold spO; rw [if_pos hb]
    have e2 : spE secret t n = 0 := by unfold spE; rw [if_pos hb]
    obtain ⟨tn, rfl⟩ : ∃ q : Nat, t = q := ⟨t.toNat, by omega⟩
    obtain ⟨nn, rfl⟩ : ∃ q : Nat, n = q := ⟨n.toNat, by omega⟩
    rw [e1, e2, splitL_length, Int.toNat_natCast, Int.toNat_natCast]
    exact Split_ok secret tn nn seed (by omega) (by omega) (by omega) h4 hseed hl A c hc w hr
  · have e1 : spO secret t n seed = [] := by unfold spO; rw [if_neg hb]
    have e2 : spE secret t n = 1 := by unfold spE; rw [if_neg hb]
    rw [e1, e2]
    have x0 := Ext.refl w
    by_cases h1 : t < 1
    · clear hr hseed hl hc hb e1 e2
      go_enter Tryz.func27, Tryz.ntmps27
      go_wp2
      go_ret2
      first | exact ⟨none, ⟨0, rfl⟩, Reads.none_, x0⟩ | exact ⟨none, 0, rfl, Nat.le_refl _, Reads.none_, x0⟩
    by_cases h2 : n < t
    · clear hr hseed hl hc hb e1 e2
      go_enter Tryz.func27, Tryz.ntmps27
      go_wp2
      go_ret2
      first | exact ⟨none, ⟨0, rfl⟩, Reads.none_, x0⟩ | exact ⟨none, 0, rfl, Nat.le_refl _, Reads.none_, x0⟩
    by_cases h3 : 7 < n
    · clear hr hseed hl hc hb e1 e2
      go_enter Tryz.func27, Tryz.ntmps27
      go_wp2
      go_ret2
      first | exact ⟨none, ⟨0, rfl⟩, Reads.none_, x0⟩ | exact ⟨none, 0, rfl, Nat.le_refl _, Reads.none_, x0⟩
    · have h4 : bR ≤ secret := Nat.le_of_not_lt fun h => hb (decide_eq_true ⟨by omega, by omega, by omega, h⟩)
      have d1 : decide ((secret : Int) ≥ 1152921504606845789) = true := dec_ge (by unfold bR at h4; omega)
      have d2 : (1152921504606845789 : Int) ≤ (secret : Int) := by unfold bR at h4; omega
      clear hr hseed hl hc hb e1 e2 h4
      go_enter Tryz.func27, Tryz.ntmps27
      go_wp2
      go_ret2
      first | exact ⟨none, ⟨0, rfl⟩, Reads.none_, x0⟩ | exact ⟨none, 0, rfl, Nat.le_refl _, Reads.none_, x0⟩

set_option maxRecDepth 100000 in
set_option maxHeartbeats 2000000 in
theorem rSplit_any (secret : Nat) (t n : Int) (seed : List Nat) (hseed : ∀ x ∈ seed, x < 256) (hl : seed.length ≤ 1000) (A : Option Addr) (c : Nat) (hc : seed.length ≤ c) (w : World) (hr : Reads w w.heap.size 1 A seed.length (bv seed)) :
    Calls Tryz.prog 31 #[.int .u64 (secret : Int), .int .i64 t, .int .i64 n, .slice A seed.length c] w fun e w' => ∃ A' c', e = .returned (.tuple #[.slice A' (spO secret t n seed).length c', .int .i64 (spE secret t n : Nat)]) ∧ (spO secret t n seed).length ≤ c' ∧ Reads w' w'.heap.size 2 A' (spO secret t n seed).length (sv (spO secret t n seed)) ∧ Ext w w' := by
  by_cases hb : spB secret t n = true
  · obtain ⟨h1, h2, h3, h4⟩ := of_decide_eq_true hb
    have e1 : spO secret t n seed = splitL secret t.toNat n.toNat seed := by unfold spO; rw [if_pos hb]
    have e2 : spE secret t n = 0 := by unfold spE; rw [if_pos hb]
    obtain ⟨tn, rfl⟩ : ∃ q : Nat, t = q := ⟨t.toNat, by omega⟩
    obtain ⟨nn, rfl⟩ : ∃ q : Nat, n = q := ⟨n.toNat, by omega⟩
    rw [e1, e2, splitL_length, Int.toNat_natCast, Int.toNat_natCast]
    exact rSplit_ok secret tn nn seed (by omega) (by omega) (by omega) h4 hseed hl A c hc w hr
  · have e1 : spO secret t n seed = [] := by unfold spO; rw [if_neg hb]
    have e2 : spE secret t n = 1 := by unfold spE; rw [if_neg hb]
    rw [e1, e2]
    have x0 := Ext.refl w
    by_cases h1 : t < 1
    · clear hr hseed hl hc hb e1 e2
      go_enter Tryz.func31, Tryz.ntmps31
      go_wp2
      go_ret2
      first | exact ⟨none, ⟨0, rfl⟩, Reads.none_, x0⟩ | exact ⟨none, 0, rfl, Nat.le_refl _, Reads.none_, x0⟩
    by_cases h2 : n < t
    · clear hr hseed hl hc hb e1 e2
      go_enter Tryz.func31, Tryz.ntmps31
      go_wp2
      go_ret2
      first | exact ⟨none, ⟨0, rfl⟩, Reads.none_, x0⟩ | exact ⟨none, 0, rfl, Nat.le_refl _, Reads.none_, x0⟩
    by_cases h3 : 7 < n
    · clear hr hseed hl hc hb e1 e2
      go_enter Tryz.func31, Tryz.ntmps31
      go_wp2
      go_ret2
      first | exact ⟨none, ⟨0, rfl⟩, Reads.none_, x0⟩ | exact ⟨none, 0, rfl, Nat.le_refl _, Reads.none_, x0⟩
    · have h4 : bR ≤ secret := Nat.le_of_not_lt fun h => hb (decide_eq_true ⟨by omega, by omega, by omega, h⟩)
      have d1 : decide ((secret : Int) ≥ 1152921504606845789) = true := dec_ge (by unfold bR at h4; omega)
      have d2 : (1152921504606845789 : Int) ≤ (secret : Int) := by unfold bR at h4; omega
      clear hr hseed hl hc hb e1 e2 h4
      go_enter Tryz.func31, Tryz.ntmps31
      go_wp2
      go_ret2
      first | exact ⟨none, ⟨0, rfl⟩, Reads.none_, x0⟩ | exact ⟨none, 0, rfl, Nat.le_refl _, Reads.none_, x0⟩
end Go.Proofs.YtiecfamjnnmpaaaGreat
