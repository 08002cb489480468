/- Parts of the proofs, put together: Sh9, SiMath, HaOfS, HaRefOf, HaRefS, HaRefT, Si, Sh10, Qu, Si2, Si3, Qu2, Qu3. -/
import Derived.IntWalk
import Derived.Shelf.Abstract
import Derived.Test.YtiecfamjnnmpaaaGreatR1
import Derived.Test.YtiecfamjnnmpaaaGreatR4
import Derived.Test.YtiecfamjnnmpaaaGreatR7
import Derived.Test.YtiecfamjnnmpaaaGreatR10
import Derived.Test.YtiecfamjnnmpaaaGreatR11
import Derived.Test.YtiecfamjnnmpaaaGreatR12
/- Shares, walked: Check of the document. -/
namespace Go.Proofs.YtiecfamjnnmpaaaGreat
set_option linter.unusedVariables false
open Go.RowKit Go.Shelf Go.Maps
attribute [local irreducible] atN prodN sumN wantN

set_option maxRecDepth 100000 in
set_option maxHeartbeats 4000000 in
theorem rshCheck_any (t : Int) (l : List (Int × Nat)) (hX : ∀ s ∈ l, s.2 < 18446744073709551616) (A : Option Addr) (c : Nat) (hc : l.length ≤ c) (hn : l.length ≤ 1099511627776) (w : World) (hr : Reads w w.heap.size 2 A l.length (sv l)) :
    Calls Tryz.prog 41 #[.int .i64 t, .slice A l.length c] w fun e w' => e = .returned (.int .i64 (chkN t l : Nat)) ∧ Ext w w' := by
  have x0 := Ext.refl w
  by_cases t1 : t < 1
  · rw [chk_low t1]
    clear hr hX hn hc
    go_enter Tryz.func41, Tryz.ntmps41
    go_wp2
    go_ret
    exact ⟨rfl, x0⟩
  by_cases t7 : 7 < t
  · rw [chk_high t7]
    clear hr hX hn hc
    go_enter Tryz.func41, Tryz.ntmps41
    go_wp2
    go_ret
    exact ⟨rfl, x0⟩
  by_cases hl0 : l.length = 0
  · have hl := List.eq_nil_of_length_eq_zero hl0
    subst hl
    rw [chk_few (l := []) (by omega) (by omega) (.inl rfl) rfl (by simp; omega)]
    clear hr hX hn hc hl0
    go_enter Tryz.func41, Tryz.ntmps41
    go_wp2
    go_loopg [5] 0 (fun m s5 wr => m = 0 ∧ s5 = .int .i64 0 ∧ Ext w wr)
    case atStart => exact ⟨rfl, rfl, x0⟩
    case round =>
      obtain ⟨-, rfl, hx⟩ := hrel
      go_wp2
      go_ret
      exact ⟨rfl, hx⟩
  have d0 : (0 : Int) < (l.length : Int) := by omega
  have cm := Ids_any l A c hn w hr
  have cr := fun (W : World) A' c' (hr : Reads W W.heap.size 1 A' (l.map fun s : Int × Nat => s.1).length (iv (l.map fun s : Int × Nat => s.1))) => Right_any (l.map fun s : Int × Nat => s.1) A' c' (by rw [List.length_map]; exact hn) W hr
  rw [List.length_map] at cr
  cases hri : rightB (l.map fun s : Int × Nat => s.1) with
  | false =>
    rw [hri] at cr
    rw [chk_ids (by omega) hri]
    clear hr hX hn hri hc hl0
    go_enter Tryz.func41, Tryz.ntmps41
    go_wp2_with (first
      | (go_at_call 85; refine cm.mono ?_; clear cm; rintro e w1 ⟨A', c', rfl, _, r1, x1⟩)
      | (go_at_call 84; refine (cr _ _ _ r1).mono ?_; clear cr; rintro e w2 ⟨rfl, x2⟩))
    go_ret
    exact ⟨rfl, x1.trans x2⟩
  | true =>
    rw [hri] at cr
    have hr0 : Hid (Reads w w.heap.size 2 A l.length (sv l)) := Lib.hid hr
    have HXL := Lib.hid hX
    have HN := Lib.hid hn
    have HC := Lib.hid hc
    have HR := Lib.hid hri
    have HT1 := Lib.hid t1
    have HT7 := Lib.hid t7
    have HL0 := Lib.hid hl0
    clear hr hX hn hri hc hl0
    go_enter Tryz.func41, Tryz.ntmps41
    go_wp2_with (first
      | (go_at_call 85; refine cm.mono ?_; clear cm; rintro e w1 ⟨A', c', rfl, _, r1, x1⟩)
      | (go_at_call 84; refine (cr _ _ _ r1).mono ?_; clear cr; rintro e w2 ⟨rfl, x2⟩))
    have X2 := Lib.hid (x1.trans x2)
    clear x1 x2 r1 d0 x0 t1 t7
    go_loopg [5] l.length (fun m s5 wr => ∃ j : Nat, j + m = l.length ∧ s5 = .int .i64 j ∧ allIn (l.take j) = true ∧ Ext w wr)
    case atStart => exact ⟨0, by omega, rfl, rfl, X2.out⟩
    case round =>
      obtain ⟨j, hj, rfl, hok, hx⟩ := hrel
      have hjm : l.length ≤ 7 := by have := (right_range HR.out).2; rwa [List.length_map] at this
      by_cases h : j < l.length
      · obtain ⟨s, hs⟩ : ∃ s, l[j]? = some s := ⟨_, List.getElem?_eq_getElem h⟩
        obtain ⟨ad, rfl, hlt, q0, q1⟩ := reads_share (hr0.out.below hx.out) hs
        have hjb : (j : Int) ≤ 7 := by omega
        have ci := fun W => rIn_any s.2 (HXL.out s (List.mem_of_getElem? hs)) W
        have HX := Lib.hid hx
        have HJ := Lib.hid hj
        cases hb : inB s.2 with
        | false =>
          have k := chk_out (t := t) (List.mem_of_getElem? hs) hb
          rw [hb] at ci
          have HK := Lib.hid k
          clear hx hj hok hs k hb hjm
          go_wp2_with (go_at_call 40; refine (ci _).mono ?_; clear ci; rintro e w3 ⟨rfl, rfl⟩)
          go_ret
          exact ⟨by rw [HK.out]; rfl, HX.out⟩
        | true =>
          have hok' := Lib.hid (all_take (f := fun s : Int × Nat => inB s.2) hs hb hok)
          rw [hb] at ci
          clear hx hj hok hs hb hjm
          go_wp2_with (go_at_call 40; refine (ci _).mono ?_; clear ci; rintro e w3 ⟨rfl, rfl⟩)
          have hj := HJ.out
          go_roundg (gk - 1)
          case measure => omega
          case rel => exact ⟨j + 1, by omega, int_congr (by omega), hok'.out, HX.out⟩
      · obtain rfl : j = l.length := by omega
        rw [List.take_length] at hok
        by_cases hlt : (l.length : Int) < t
        · have k := chk_few (t := t) (l := l) (by have := HT1.out; omega) (by have := HT7.out; omega) (.inr HR.out) hok hlt
          have HK := Lib.hid k
          have HX := Lib.hid hx
          clear hx hj hok k hjm
          go_wp2
          go_ret
          exact ⟨by rw [HK.out]; rfl, HX.out⟩
        · have hin : ∀ s ∈ l, inB s.2 = true := fun s hs => List.all_eq_true.1 hok s hs
          have k := chk_rest (t := t) (l := l) (by have := HT1.out; omega) (by have := HT7.out; omega) HR.out hok hlt
          obtain ⟨tn, rfl⟩ : ∃ n : Nat, t = n := ⟨t.toNat, by have := HT1.out; omega⟩
          rw [show ((tn : Nat) : Int).toNat = tn from Int.toNat_natCast tn] at k
          have hk : tn ≤ l.length := by omega
          obtain ⟨A1, e1, r1⟩ := first_reads hr0.out hk HC.out
          have s1 : ∀ W : World, (Instr.slice 24 (.slice A l.length c) none (some (.int .i64 (tn : Int))) none).run Tryz.prog W = .ok (.slice A1 (l.take tn).length c) W := fun W => by rw [slice_hS A l.length c tn (Nat.le_trans hk HC.out), e1]
          obtain ⟨fl, hfl⟩ : ∃ q, q = l.take tn := ⟨_, rfl⟩
          obtain ⟨rl, hrl⟩ : ∃ q, q = l.drop tn := ⟨_, rfl⟩
          have hrange : ∀ s ∈ l, (1 ≤ s.1 ∧ s.1 < 1152921504606845789) ∧ inB s.2 = true := fun s hs => ⟨(right_range HR.out).1 _ (List.mem_map.2 ⟨s, hs, rfl⟩), hin s hs⟩
          have hf7 : fl.length = tn := by rw [hfl, List.length_take]; omega
          have hrle : tn + rl.length = l.length := by rw [hrl, List.length_drop]; omega
          have hfa : ∀ i, i < tn → fl[i]? = l[i]? := fun i hi => by rw [hfl, List.getElem?_take, if_pos hi]
          have hra : ∀ i, rl[i]? = l[tn + i]? := fun i => by rw [hrl, List.getElem?_drop]
          rw [← hfl] at s1 r1 k
          rw [← hrl] at k
          obtain ⟨ids, hids⟩ : ∃ q, q = fl.map fun s : Int × Nat => s.1 := ⟨_, rfl⟩
          have hil : ids.length = fl.length := by rw [hids, List.length_map]
          have gr : ∀ i ∈ ids, 1 ≤ i ∧ i < 1152921504606845789 := fun i hi => by
            rw [hids] at hi
            obtain ⟨s, hs, rfl⟩ := List.mem_map.1 hi
            rw [hfl] at hs
            exact (hrange s (List.mem_of_mem_take hs)).1
          have hia : ∀ (i : Nat) (s : Int × Nat), fl[i]? = some s → ids[i]? = some s.1 := fun i s h => by rw [hids, List.getElem?_map, h]; rfl
          rw [← hids] at k
          have cmf := fun (W : World) (x : Ext w W) => Ids_any fl A1 c (by omega) W ((r1.below x.out).more x.size)
          rw [← hids] at cmf
          have ca := fun A' c' (W : World) (x : Nat) id hid (hr' : Reads W W.heap.size 1 A' ids.length (iv ids)) => at_any ids gr id hid x A' c' W (by rw [hil, hf7]; omega) hr'
          rw [hil] at ca
          have HK := Lib.hid k
          have HRG := Lib.hid hrange
          have HF7 := Lib.hid hf7
          have HRL := Lib.hid hrle
          have HFA := Lib.hid hfa
          have HRA := Lib.hid hra
          have HIA := Lib.hid hia
          have HX := Lib.hid hx
          have HJM := Lib.hid hjm
          clear hx hj hok k hjm hin hrange hf7 hrle r1 hfl hrl hk e1 hids gr hil hfa hra hia
          go_wp2_with (go_at_call 85; refine (cmf _ HX.out).mono ?_; clear cmf; rintro e w3 ⟨A', c', rfl, _, r3, x3⟩)
          have X3 : Hid (Ext w w3) := Lib.hid (HX.out.trans x3)
          have R3 := Lib.hid r3
          clear s1 r3 x3
          go_loopg [7] rl.length (fun m s7 wr => ∃ j : Nat, j + m = rl.length ∧ s7 = .int .i64 ((tn + j : Nat) : Int) ∧ (rl.take j).all (fun s => decide (wantN ids s.1.toNat fl = s.2)) = true ∧ Ext w3 wr)
          case atStart => exact ⟨0, by omega, rfl, rfl, Ext.refl _⟩
          case round =>
            obtain ⟨j, hj, rfl, hok, hx⟩ := hrel
            obtain ⟨n, hn⟩ : ∃ n, n = tn + j := ⟨_, rfl⟩
            rw [← hn]
            by_cases h : j < rl.length
            · obtain ⟨s, hs⟩ : ∃ s, rl[j]? = some s := ⟨_, List.getElem?_eq_getElem h⟩
              have hs' : l[n]? = some s := by rw [hn, ← HRA.out j]; exact hs
              obtain ⟨ad, rfl, hlt, q0, q1⟩ := reads_share (hr0.out.below (X3.out.trans hx).out) hs'
              have hmem := List.mem_of_getElem? hs
              obtain ⟨hsr, hsi⟩ := HRG.out s (List.mem_of_getElem? hs')
              have hnl : (n : Int) < l.length := by have := HRL.out; omega
              have hl7 : (l.length : Int) ≤ 7 := by have := HJM.out; omega
              have kx := wrap_id hsr
              have hat := fun (hp : wantN ids s.1.toNat fl = s.2) => all_take (f := fun s : Int × Nat => decide (wantN ids s.1.toNat fl = s.2)) hs (by simpa using hp) hok
              have hno := fun (hp : wantN ids s.1.toNat fl ≠ s.2) => all_not (f := fun s : Int × Nat => decide (wantN ids s.1.toNat fl = s.2)) hmem (by simpa using hp)
              obtain ⟨x, hxn⟩ : ∃ x, x = s.1.toNat := ⟨_, rfl⟩
              rw [← hxn] at kx hat hno
              have HAT := Lib.hid hat
              have HNO := Lib.hid hno
              have HJ := Lib.hid hj
              have HX4 := Lib.hid hx
              have HN' := Lib.hid hn
              have hqs : Hid (∀ W, Ext w3 W → W.cell? (ad.add (n * 2)) = some (.int .i64 s.1) ∧ W.cell? ⟨(ad.add (n * 2)).block, (ad.add (n * 2)).off + 1, none⟩ = some (.int .u64 (s.2 : Int))) := fun W x => by
                obtain ⟨ad', e', _, a, b⟩ := reads_share (hr0.out.below (X3.out.trans x).out) hs'
                cases e'
                exact ⟨a, b⟩
              obtain ⟨G, hG⟩ : ∃ G, G = gk - 1 := ⟨_, rfl⟩
              have HG := Lib.hid hG
              clear hx hj hok hs hs' hmem hsr hsi hat hno hxn hG hn q0 q1
              go_wp2
              go_loopg [8, 9] fl.length (fun m s8 s9 wr => ∃ i : Nat, i + m = fl.length ∧ s9 = .int .i64 i ∧ s8 = .int .u64 (wantN ids x (fl.take i) : Nat) ∧ Ext w3 wr)
              case atStart => exact ⟨0, by omega, rfl, by unfold wantN; rfl, HX4.out⟩
              case round =>
                obtain ⟨i, hi, rfl, rfl, hx⟩ := hrel
                by_cases h' : i < fl.length
                · obtain ⟨r, hs⟩ : ∃ s, fl[i]? = some s := ⟨_, List.getElem?_eq_getElem h'⟩
                  have hit : i < tn := by rw [← HF7.out]; exact h'
                  have hs' : l[i]? = some r := by rw [← HFA.out i hit]; exact hs
                  obtain ⟨ad', e', -, q0, q1⟩ := reads_share (hr0.out.below (X3.out.trans hx).out) hs'
                  cases e'
                  obtain ⟨bd, rfl, p0⟩ := reads_id (R3.out.below hx.out) (HIA.out i r hs)
                  obtain ⟨z0, z1⟩ := hqs.out wr hx
                  obtain ⟨hrr, hri⟩ := HRG.out r (List.mem_of_getElem? hs')
                  have hitI : (i : Int) < tn := by omega
                  have hilI : (i : Int) < l.length := by have := HRL.out; omega
                  have hifI : (i : Int) < fl.length := by omega
                  have hr2 := ((inB_iff _).1 hri).2.1
                  have c1 := fun (W : World) (xW : Ext w3 W) => ca (some bd) c' W x r.1 hrr ((R3.out.below xW.out).more xW.size)
                  have c2 := fun W => rPow_any r.2 (atN ids r.1 x) (lt64_Q hr2) (lt64_R (atN_lt _ _ _)) W
                  have c3 := fun W => rMul_any (wantN ids x (fl.take i)) (powM bQ r.2 (atN ids r.1 x)) (lt64_Q (powM_lt (by decide) _ _)) W
                  have e1 := wantN_take (ids := ids) hs x
                  obtain ⟨v, hv⟩ : ∃ t, t = atN ids r.1 x := ⟨_, rfl⟩
                  obtain ⟨u, hu⟩ : ∃ t, t = wantN ids x (fl.take i) := ⟨_, rfl⟩
                  rw [← hv] at c1 c2 c3 e1
                  rw [← hu] at c3 e1 ⊢
                  have HE := Lib.hid e1
                  have HX6 := Lib.hid hx
                  have HI := Lib.hid hi
                  clear e1 hx hi hs hs' hv hu hrr hri hr2 ca hit
                  go_wp2
                  have i0 := fun i : Later wr => i.cell q0
                  have i1 := fun i : Later wr => i.cell q1
                  have i2 := fun i : Later wr => i.cell p0
                  have i3 := fun i : Later wr => i.cell z0
                  have i4 := fun i : Later wr => i.cell z1
                  refine wp_region_later (by kernel_rfl) (by kernel_rfl) ?_
                  repeat (go_big_quiet_step (first
                    | (go_at_call 97; exact Later.calls (c1 _ (HX6.out.trans (Later.ext _))))
                    | (go_at_call 69; exact Later.same (c2 _))
                    | (go_at_call 68; exact Later.same (c3 _))))
                  refine wpQuiet_nil ?_
                  rintro W2 ⟨q, hq⟩
                  have x5 : Ext w3 W2 := by rw [hq]; exact HX6.out.trans q.ext
                  clear hq q i0 i1 i2 i3 i4 q0 q1 p0 z0 z1
                  go_wp2
                  have hi := HI.out
                  go_roundg (gk - 1)
                  case measure => omega
                  case rel => exact ⟨i + 1, by omega, int_congr (by omega), by rw [HE.out], x5⟩
                · obtain rfl : i = fl.length := by omega
                  rw [List.take_length]
                  have hit : ¬ ((fl.length : Nat) : Int) < (tn : Int) := by have := HF7.out; omega
                  obtain ⟨z0, z1⟩ := hqs.out wr hx
                  have HX6 := Lib.hid hx
                  obtain ⟨u, hu⟩ : ∃ t, t = wantN ids x fl := ⟨_, rfl⟩
                  rw [← hu] at HAT HNO ⊢
                  clear hx hi hu ca
                  by_cases hus : u = s.2
                  · have hok' := Lib.hid (HAT.out hus)
                    subst hus
                    go_wp2
                    have hj := HJ.out
                    have hG := HG.out
                    have hN := HN'.out
                    go_roundg G
                    case measure => omega
                    case rel => exact ⟨j + 1, by omega, int_congr (by omega), hok'.out, HX6.out⟩
                  · have d1 : ((u : Int) != (s.2 : Int)) = true := by simp; omega
                    have k : Hid (chkN (tn : Int) l = 60) := by show _ = _; rw [HK.out, if_neg (by rw [HNO.out hus]; decide)]
                    go_wp2
                    go_ret
                    exact ⟨by rw [k.out]; rfl, X3.out.trans HX6.out⟩
            · obtain rfl : j = rl.length := by omega
              rw [List.take_length] at hok
              have hnl : ¬ (n : Int) < l.length := by have := HRL.out; omega
              have HX5 := Lib.hid hx
              have k : Hid (chkN (tn : Int) l = 0) := by show _ = _; rw [HK.out, if_pos hok]
              clear hx hj hok ca hn
              go_wp2
              go_ret
              exact ⟨by rw [k.out]; rfl, X3.out.trans HX5.out⟩
end Go.Proofs.YtiecfamjnnmpaaaGreat

/- Plain: signing. No program in sight. -/
namespace Go.Proofs.YtiecfamjnnmpaaaGreat
set_option linter.unusedVariables false

def secretS : ByteArray := { data := #[115, 101, 99, 114, 101, 116] }
def nonceS : ByteArray := { data := #[110, 111, 110, 99, 101] }
def signS : ByteArray := { data := #[115, 105, 103, 110] }
/-- The number of what is hashed of a tag and parts. -/
def hNum (tag : ByteArray) (ps : List (List Nat)) (m : Nat) : Nat := numM (hSum (coded (strN tag) ps)).1 (hSum (coded (strN tag) ps)).2 m
def someN (tag : ByteArray) (ps : List (List Nat)) : Nat := hNum tag ps (bR - 1) + 1
def chalN (commit pub : Nat) (msg : List Nat) : Nat := hNum signS [be commit 8, be pub 8, msg] bR
def secN (seed : List Nat) : Nat := someN secretS [seed]
def nonceN (s : Nat) (msg : List Nat) : Nat := someN nonceS [be s 8, msg]
def oddN (s : Nat) : Bool := decide (s = 0) || decide (bR ≤ s)
def sgE (s : Nat) (msg : List Nat) : Nat := chalN (powM bQ 4 (nonceN s msg)) (powM bQ 4 s) msg
def sgS (s : Nat) (msg : List Nat) : Nat := addM bR (mulM bR (sgE s msg) s) (nonceN s msg)
def checkN (p : Nat) (msg : List Nat) (E S : Nat) : Nat :=
  if inB p = false then 1 else if bR ≤ E ∨ bR ≤ S then 40 else if chalN (mulM bQ (powM bQ 4 S) (invM bQ (powM bQ p E))) p msg = E then 0 else 40

theorem numM_lt (a b : Nat) {m : Nat} (h : 0 < m) : numM a b m < m := by
  unfold numM; rw [if_neg (by omega)]; exact Nat.mod_lt _ h
theorem hNum_lt (tag : ByteArray) (ps : List (List Nat)) {m : Nat} (h : 0 < m) : hNum tag ps m < m := numM_lt _ _ h
theorem someN_pos (tag : ByteArray) (ps : List (List Nat)) : 1 ≤ someN tag ps := Nat.le_add_left 1 _
theorem someN_lt (tag : ByteArray) (ps : List (List Nat)) : someN tag ps < bR := by
  have := hNum_lt tag ps (m := bR - 1) (by decide)
  unfold someN bR at *; omega
theorem chalN_lt (commit pub : Nat) (msg : List Nat) : chalN commit pub msg < bR := hNum_lt _ _ (by decide)
theorem oddN_some (tag : ByteArray) (ps : List (List Nat)) : oddN (someN tag ps) = false := by
  have h1 := someN_pos tag ps
  have h2 := someN_lt tag ps
  unfold oddN; simp; omega
theorem inv_pow {p : Nat} (h : inB p = true) (E : Nat) (hE : E ≤ bR) : invM bQ (powM bQ p E) = powM bQ p (bR - E) := by
  obtain ⟨h1, h2, h3⟩ := (inB_iff p).1 h
  have hne : powM bQ p E % bQ ≠ 0 := inB_ne (inB_pow h E)
  have e := inv_unique (b := invM bQ (powM bQ p E)) (c := powM bQ p (bR - E)) pr_Q hne (by rw [invM_mul pr_Q hne, powM_add, show E + (bR - E) = bR by omega, h3])
  rwa [Nat.mod_eq_of_lt (invM_lt (by decide) _), Nat.mod_eq_of_lt (powM_lt (by decide) _ _)] at e
/-- What a signature's numbers come back to. -/
theorem commit_back (s k c : Nat) (hc : c ≤ bR) : mulM bQ (powM bQ 4 (addM bR (mulM bR c s) k)) (invM bQ (powM bQ (powM bQ 4 s) c)) = powM bQ 4 k := by
  rw [inv_pow (inB_base s) c hc]
  have e1 : addM bR (mulM bR c s) k = (c * s + k) % bR := by unfold addM mulM; rw [Nat.mod_add_mod]
  rw [e1, base_period, powM_pow, powM_add, ← base_period]
  have e2 : c * s + k + s * (bR - c) = k + bR * s := by
    have : s * (bR - c) + c * s = bR * s := by rw [Nat.mul_comm c s, ← Nat.mul_add, Nat.sub_add_cancel hc, Nat.mul_comm]
    omega
  rw [e2, Nat.add_mul_mod_self_left, base_period]
theorem check_right (s k : Nat) (msg : List Nat) (c : Nat) (hc : c = chalN (powM bQ 4 k) (powM bQ 4 s) msg) : checkN (powM bQ 4 s) msg c (addM bR (mulM bR c s) k) = 0 := by
  have hlt : c < bR := by rw [hc]; exact chalN_lt _ _ _
  unfold checkN
  rw [if_neg (by rw [inB_base]; decide), if_neg (by have := addM_lt' (m := bR) (by decide) (mulM bR c s) k; omega), commit_back s k c (by omega), if_pos hc.symm]
theorem check_sign (s : Nat) (msg : List Nat) : checkN (powM bQ 4 s) msg (sgE s msg) (sgS s msg) = 0 := check_right s _ msg _ rfl
theorem check_nonce (s k : Nat) (msg : List Nat) (c : Nat) (hc : c = chalN (powM bQ 4 k) (powM bQ 4 s) msg) : checkN (powM bQ 4 s) msg c (addM bR k (mulM bR c s)) = 0 := by
  rw [addM_comm]; exact check_right s k msg c hc
theorem sgE_lt (s : Nat) (msg : List Nat) : sgE s msg < bR := chalN_lt _ _ _
theorem sgS_lt (s : Nat) (msg : List Nat) : sgS s msg < bR := addM_lt' (by decide) _ _
theorem pow_eq_iff {x y : Nat} (hx : x < bR) (hy : y < bR) : powM bQ 4 x = powM bQ 4 y ↔ x = y := by
  constructor
  · intro h
    have := base_inj h
    rwa [Nat.mod_eq_of_lt hx, Nat.mod_eq_of_lt hy] at this
  · intro h; rw [h]
theorem subM_mulM (c d s : Nat) : mulM bR (subM bR c d) s = subM bR (mulM bR c s) (mulM bR d s) := by
  have h1 := mulM_addM bR (subM bR c d) d s
  have h2 : addM bR (subM bR c d) d = c % bR := by unfold addM subM bR; omega
  rw [h2, mulM_mod_left] at h1
  rw [h1, subM_addM _ _ _ (by decide), Nat.mod_eq_of_lt (mulM_lt (by decide) _ _)]
theorem subM_both (k u v : Nat) : subM bR (addM bR k u) (addM bR k v) = subM bR u v := by unfold subM addM bR; omega
/-- Who uses a nonce twice gives the secret away. -/
theorem twice (k s c d : Nat) (hs : s < bR) (hc : c < bR) (hd : d < bR) (hne : c ≠ d) :
    mulM bR (subM bR (addM bR k (mulM bR c s)) (addM bR k (mulM bR d s))) (invM bR (subM bR c d)) = s := by
  have h0 : subM bR c d % bR ≠ 0 := by
    intro h
    rw [Nat.mod_eq_of_lt (subM_lt (by decide) _ _), subM_zero_iff _ _ _ (by decide), Nat.mod_eq_of_lt hc, Nat.mod_eq_of_lt hd] at h
    exact hne h
  rw [subM_both, ← subM_mulM, mulM_comm bR (subM bR c d) s, mul_inv_back pr_R h0, Nat.mod_eq_of_lt hs]
/-- A secret of any number. -/
def secretN (n : Nat) : Nat := 1 + n % (bR - 1)
theorem secretN_lt (n : Nat) : secretN n < bR := by unfold secretN bR; omega
theorem secretN_pos (n : Nat) : 1 ≤ secretN n := Nat.le_add_right 1 _
theorem oddN_secret (n : Nat) : oddN (secretN n) = false := by
  have h1 := secretN_pos n
  have h2 := secretN_lt n
  unfold oddN; simp; omega
end Go.Proofs.YtiecfamjnnmpaaaGreat

/- The hash that bytes are, walked: hash.Of. -/
namespace Go.Proofs.YtiecfamjnnmpaaaGreat
set_option linter.unusedVariables false
open Go.RowKit Go.Shelf

theorem Reads.get {w : World} {B n : Nat} {A : Option Addr} {l : List Nat} (h : Reads w B 1 A n (bv l)) {k b : Nat} (hb : l[k]? = some b) (ad : Addr) (hA : A = some ad) (hn : 0 < n) : w.cell? (ad.add k) = some (.int .u8 (b : Int)) := by
  obtain ⟨ad', e, _, hc⟩ := h.2 hn
  rw [hA] at e
  cases e
  exact hc k _ (by simp [bv, hb])

end Go.Proofs.YtiecfamjnnmpaaaGreat

/- The document's elements of bytes (greatsealref01.Of), walked. -/
namespace Go.Proofs.YtiecfamjnnmpaaaGreat
set_option linter.unusedVariables false
open Go.RowKit Go.Shelf

theorem unit_ok (i : Nat) (hi : i ≤ 7) : 256 ^ i ≤ 72057594037927936 := by
  have : 256 ^ i ≤ 256 ^ 7 := Nat.pow_le_pow_right (by decide) hi
  have e : (256 : Nat) ^ 7 = 72057594037927936 := by decide
  omega
theorem ck_lt (l : List Nat) (h : ∀ x ∈ l, x < 256) (j i : Nat) : le ((ck l j).take i) < 256 ^ ((ck l j).take i).length :=
  le_lt _ (fun y hy => h y (List.mem_of_mem_drop (List.mem_of_mem_take (List.mem_of_mem_take hy))))
theorem ck_step (l : List Nat) (h : ∀ x ∈ l, x < 256) (j i b : Nat) (hb : l[7 * j + i]? = some b) (hi : i < cLen l.length j) :
    le ((ck l j).take (i + 1)) = le ((ck l j).take i) + 256 ^ i * b ∧ le ((ck l j).take i) < 256 ^ i ∧ i < 7 := by
  have h7 : i < 7 := by unfold cLen at hi; omega
  have e1 := ck_get l j i hi
  rw [hb] at e1
  have el : ((ck l j).take i).length = i := by rw [List.length_take, ck_length]; omega
  have h2 := ck_lt l h j i
  rw [el] at h2
  refine ⟨?_, h2, h7⟩
  rw [List.take_add_one, e1]
  show le (_ ++ [b]) = _
  rw [le_snoc, el, Nat.mul_comm]
theorem fOf_snoc (l : List Nat) (j : Nat) : (List.range (j + 1)).map (fun j => le (ck l j)) = (List.range j).map (fun j => le (ck l j)) ++ [le (ck l j)] := by simp [List.range_succ]
theorem step_num (n u b : Nat) (hn : n < u) (hu : 256 * u ≤ 72057594037927936) (hb : b < 256) :
    IntKind.u64.wrap ((n : Int) + IntKind.u64.wrap ((u : Int) * (b : Int))) = ((n + u * b : Nat) : Int) ∧ IntKind.u64.wrap ((u : Int) * 256) = ((u * 256 : Nat) : Int) := by
  have h1 : u * b ≤ u * 255 := Nat.mul_le_mul_left _ (by omega)
  have e : (u : Int) * (b : Int) = ((u * b : Nat) : Int) := by simp
  refine ⟨?_, by rw [IntKind.wrap_u64]; omega⟩
  rw [e]
  generalize u * b = t at *
  rw [IntKind.wrap_u64, IntKind.wrap_u64]; omega

set_option maxRecDepth 100000 in
set_option maxHeartbeats 2000000 in
theorem rfOf_any (l : List Nat) (hl : ∀ x ∈ l, x < 256) (hm : l.length ≤ 1099511627776) (A : Option Addr) (c : Nat) (hmc : l.length ≤ c) (w : World) (hr : Reads w w.heap.size 1 A l.length (bv l)) :
    Calls Tryz.prog 130 #[.slice A l.length c] w fun e w' => ∃ v, e = .returned v ∧ w'.ownsRow w.heap.size 23 1 v (fOf l).length (uv (fOf l)) ∧ Below w.heap.size w w' := by
  obtain ⟨i0, hi, hz0, hz1, hz2⟩ := info_parts Tryz.infoU64
  obtain ⟨m, hml⟩ : ∃ m, m = l.length := ⟨_, rfl⟩
  rw [← hml] at hm hmc ⊢
  obtain ⟨ad, had⟩ : ∃ ad, 0 < m → A = some ad := by
    rcases A with _ | ad
    · exact ⟨⟨0, 0, none⟩, fun h => by obtain ⟨_, h, _⟩ := hr.2 (by omega); cases h⟩
    · exact ⟨ad, fun _ => rfl⟩
  have HR : Hid (∀ (W : World) (k b : Nat), Below w.heap.size w W → l[k]? = some b → A = some ad ∧ W.cell? (ad.add k) = some (.int .u8 (b : Int))) := Lib.hid (fun W k b hx hb => by
    have hk : k < l.length := (List.getElem?_eq_some_iff.1 hb).1
    have e := had (by omega)
    exact ⟨e, Reads.get (hr.below hx) hb ad e (by omega)⟩)
  have hmi : (m : Int) ≤ 1099511627776 := by omega
  have HM := Lib.hid hml
  have HL := Lib.hid hl
  clear hr hml hl had
  go_enter Tryz.func130, Tryz.ntmps130
  go_wp2
  go_loopg [3, 4] (cnt m) (fun g s3 s4 wr => ∃ j : Nat, j + g = cnt m ∧ s4 = .int .i64 ((7 * j : Nat) : Int) ∧ wr.ownsRow w.heap.size 23 1 s3 j (uv ((List.range j).map fun j => le (ck l j))) ∧ Below w.heap.size w wr)
  case atStart => exact ⟨0, by omega, rfl, World.ownsRow_nil _ _ _ _, Below.refl _ _⟩
  case round =>
    obtain ⟨j, hj, rfl, hown, hB⟩ := hrel
    by_cases hlt : 7 * j < m
    · obtain ⟨q, hq⟩ : ∃ q, q = 7 * j := ⟨_, rfl⟩
      rw [← hq] at hlt ⊢
      have HQ := Lib.hid hq
      have HJ := Lib.hid hj
      have z1 : (q : Int) < m := by omega
      obtain ⟨wo, hwo⟩ : ∃ wo : World, wo = wr := ⟨_, rfl⟩
      rw [← hwo] at hown hB ⊢
      have HB := Lib.hid hB
      obtain ⟨G, hG⟩ : ∃ G, G = gk - 1 := ⟨_, rfl⟩
      have HG := Lib.hid hG
      clear hwo hq hj hB hG
      go_wp2
      go_loopg [5, 6, 7] 8 (fun g s5 s6 s7 w2 => ∃ i : Nat, i + g = 8 ∧ i ≤ cLen m j ∧ s5 = .int .u64 ((le ((ck l j).take i) : Nat) : Int) ∧ s6 = .int .u64 ((256 ^ i : Nat) : Int) ∧ s7 = .int .i64 ((q + i : Nat) : Int) ∧ w2 = wo)
      case atStart => exact ⟨0, rfl, Nat.zero_le _, by simp [le], by simp, by simp, rfl⟩
      case round =>
        obtain ⟨i, hi8, hin, rfl, rfl, rfl, rfl⟩ := hrel
        by_cases h : i < cLen m j
        · have hcl := h
          have hqi : q + i < m := by have := HQ.out; unfold cLen at hcl; omega
          obtain ⟨b, hb⟩ : ∃ b, l[q + i]? = some b := ⟨_, List.getElem?_eq_getElem (by rw [← HM.out]; exact hqi)⟩
          obtain ⟨hA, hcell⟩ := HR.out _ (q + i) b HB.out hb
          have hb256 : b < 256 := HL.out b (List.mem_of_getElem? hb)
          obtain ⟨e1, e2, h7⟩ := ck_step l HL.out j i b (by rw [← HQ.out]; exact hb) (by rw [← HM.out]; exact h)
          have hu : 256 * 256 ^ i ≤ 72057594037927936 := by have := unit_ok (i + 1) (by omega); rw [Nat.pow_succ] at this; omega
          obtain ⟨k1, k2⟩ := step_num _ _ b e2 hu hb256
          rw [← e1] at k1
          rw [show 256 ^ i * 256 = 256 ^ (i + 1) from (Nat.pow_succ ..).symm] at k2
          obtain ⟨x, hx⟩ : ∃ x, x = le ((ck l j).take i) := ⟨_, rfl⟩
          obtain ⟨y, hy⟩ : ∃ y, y = le ((ck l j).take (i + 1)) := ⟨_, rfl⟩
          obtain ⟨u, hu'⟩ : ∃ u, u = 256 ^ i := ⟨_, rfl⟩
          obtain ⟨u2, hu2⟩ : ∃ u, u = 256 ^ (i + 1) := ⟨_, rfl⟩
          obtain ⟨p, hp⟩ : ∃ p, p = q + i := ⟨_, rfl⟩
          rw [← hx, ← hu', ← hy] at k1
          rw [← hu', ← hu2] at k2
          rw [← hp] at hcell hqi
          rw [← hx, ← hu', ← hp]
          have z2 : (p : Int) < m := by omega
          have z3 : (p : Int) < (q : Int) + 7 := by omega
          have HY := Lib.hid hy
          have HU := Lib.hid hu2
          have HP := Lib.hid hp
          have H8 := Lib.hid hi8
          have HC := Lib.hid hcl
          have K1 := Lib.hid k1
          have K2 := Lib.hid k2
          have zb : (b : Int) < 256 := by omega
          subst hA
          clear hx hy hu' hu2 hp e1 e2 hu hb hb256 hqi hlt hi8 hcl h hin k1 k2
          go_wp2
          have hi8 := H8.out
          have hcl := HC.out
          have hp := HP.out
          go_roundg (gk - 1)
          case measure => omega
          case rel => exact ⟨i + 1, by omega, by omega, by rw [K1.out, HY.out], by rw [K2.out, HU.out], int_congr (by omega), rfl⟩
        · obtain rfl : i = cLen m j := by omega
          have e1 : (ck l j).take (cLen m j) = ck l j := List.take_of_length_le (by rw [ck_length, ← HM.out]; exact Nat.le_refl _)
          rw [e1]
          have hfs := fOf_snoc l j
          obtain ⟨x, hx⟩ : ∃ x, x = le (ck l j) := ⟨_, rfl⟩
          obtain ⟨p, hp⟩ : ∃ p, p = q + cLen m j := ⟨_, rfl⟩
          rw [← hx] at hfs ⊢
          rw [← hp]
          have hx' : p ≤ m ∧ (p < m → ¬ p < q + 7) := by have := HQ.out; unfold cLen at hp; omega
          obtain ⟨hpm, hp7⟩ := hx'
          have z5 : (p : Int) ≤ m := by omega
          have HF := Lib.hid hfs
          have hjm : j + 1 ≤ cnt m ∧ cnt m ≤ 1099511627776 := by have := HQ.out; unfold cnt; omega
          obtain ⟨hjc, hcm⟩ := hjm
          have HJC := Lib.hid hjc
          have HCM := Lib.hid hcm
          have HO := hown
          generalize (256 ^ cLen m j : Nat) = u at *
          clear hx hfs hp e1 hi8 hin h hlt hjc hcm hown hm hmc
          have q1 : ∀ u ∈ [Value.int .u64 (x : Int)], u.oneCell' = true := by simp [Value.oneCell']
          by_cases hpl : p < m
          all_goals (
            have hd : decide ((p : Int) < (m : Int)) = decide (p < m) := by simp
            first
              | (have z6 : (p : Int) < m := by omega)
              | (have z6 : ¬ (p : Int) < m := by omega)
            try (have z7 : ¬ (p : Int) < (q : Int) + 7 := by have := hp7 hpl; omega)
            clear hd hp7 hpl hpm
            go_wp2_with (at_builtin; refine wpList_append_own _ rfl (.tmp 38) (.tmp 40) 90 rfl w.heap.size 23 i0 (.int .u64 0) 1 8 Tryz.underlying90 hi hz0 hz1 hz2 rfl (by decide) _ _ _ rfl (HO.alloc _) ⟨_, 0, none⟩ 1 1 [.int .u64 (x : Int)] rfl rfl (cell_one_new _ _ _) q1 (by have := HJC.out; have := HCM.out; unfold maxLen; omega) (by have := HJC.out; have := HCM.out; omega) (by have := HB.out.size; simp; omega) ?_; intro v' w1 hown1 hg1 _)
            have B1 : Hid (Below w.heap.size w w1) := Lib.hid ((HB.out.alloc HB.out.size _).grown hg1 (by have := HB.out.size; simp; omega) (own_ge HO))
            have O1 : Hid (w1.ownsRow w.heap.size 23 1 v' (j + 1) (uv ((List.range (j + 1)).map fun j => le (ck l j)))) := by
              show World.ownsRow _ _ _ _ _ _ _
              rw [HF.out, uv_append]; exact hown1
            clear hown1 hg1 HO
            go_roundg G
            case measure => have := HG.out; have := HJ.out; have := HJC.out; omega
            case rel => exact ⟨j + 1, by have := HG.out; have := HJ.out; have := HJC.out; omega, int_congr (by have := HQ.out; omega), O1.out, B1.out⟩)
    · obtain rfl : j = cnt m := by unfold cnt at hj ⊢; omega
      have HO : Hid (wr.ownsRow w.heap.size 23 1 u3 (fOf l).length (uv (fOf l))) := by
        show World.ownsRow _ _ _ _ _ _ _
        unfold fOf; rw [← HM.out, List.length_map, List.length_range]; exact hown
      have HB := Lib.hid hB
      obtain ⟨q, hq⟩ : ∃ q, q = 7 * cnt m := ⟨_, rfl⟩
      rw [← hq] at hlt ⊢
      have z1 : ¬ (q : Int) < m := by omega
      clear hq hlt hown hB hj
      go_wp2
      go_ret
      exact ⟨_, rfl, HO.out, HB.out⟩
end Go.Proofs.YtiecfamjnnmpaaaGreat

/- The document's Sum, walked. -/
namespace Go.Proofs.YtiecfamjnnmpaaaGreat
set_option linter.unusedVariables false
open Go.RowKit Go.Shelf
attribute [local irreducible] mix

/-- A list of words in a row of its own, which is not block B. -/
def Row (W : World) (B : Nat) (A : Option Addr) (c : Nat) (l : List Nat) : Prop :=
  l.length ≤ c ∧ (0 < l.length → ∃ g cs, A = some ⟨g, 0, none⟩ ∧ g ≠ B ∧ Blk W g 23 cs ∧ ∀ (j x : Nat), l[j]? = some x → cs[j]? = some (.int .u64 (x : Int)))
theorem Row.keep {W W' : World} {B : Nat} {A : Option Addr} {c : Nat} {l : List Nat} (h : Row W B A c l) (hk : ∀ g cs, g ≠ B → Blk W g 23 cs → Blk W' g 23 cs) : Row W' B A c l :=
  ⟨h.1, fun hp => by obtain ⟨g, cs, e, hb, hB, hc⟩ := h.2 hp; exact ⟨g, cs, e, hb, hk g cs hb hB, hc⟩⟩
theorem Row.of_own {W : World} {B : Nat} {v : Value} {l : List Nat} (h : W.ownsRow B 23 1 v l.length (uv l)) : ∃ A c, v = .slice A l.length c ∧ ∀ o, Row (W.alloc o) W.heap.size A c l := by
  rcases h.2 with ⟨rfl, h0⟩ | ⟨g, cap, cur, rfl, hb, hh, hc⟩
  · exact ⟨none, 0, by rw [h0], fun o => ⟨by omega, fun h => by omega⟩⟩
  · refine ⟨_, cap, rfl, fun o => ⟨hc.1, fun _ => ⟨g, cur, rfl, by have := Blk.lt hh; omega, Blk.alloc hh o, fun j x hj => ?_⟩⟩⟩
    have hj' : (uv l)[j]? = some (.int .u64 (x : Int)) := by simp [uv, hj]
    rw [← hc.2.2.2, List.getElem?_take] at hj'
    split at hj'
    · rw [← Array.getElem?_toList]; exact hj'
    · cases hj'
theorem Row.set {W : World} {B : Nat} {A : Option Addr} {c : Nat} {l : List Nat} (h : Row W B A c l) {p : Addr} (hp : p.block = B) (u : Value) : Row (W.setCell p u) B A c l :=
  h.keep fun _ _ hb hB => hB.far (by rw [hp]; exact hb) u
theorem Row.ext {W W' : World} {B : Nat} {A : Option Addr} {c : Nat} {l : List Nat} (h : Row W B A c l) (he : Ext W W') : Row W' B A c l :=
  h.keep fun _ _ _ hB => hB.below he.out hB.lt
theorem Row.ptr {W : World} {B : Nat} {A : Option Addr} {c : Nat} {l : List Nat} (h : Row W B A c l) (hp : 0 < l.length) : ∃ g, A = some ⟨g, 0, none⟩ ∧ g ≠ B := by
  obtain ⟨g, cs, e, hb, _⟩ := h.2 hp
  exact ⟨g, e, hb⟩
theorem Row.at_ {W : World} {B g c : Nat} {l : List Nat} (h : Row W B (some ⟨g, 0, none⟩) c l) {j x : Nat} (hj : l[j]? = some x) : W.cell? ⟨g, j, none⟩ = some (.int .u64 (x : Int)) := by
  obtain ⟨g', cs, e, hb, hB, hc⟩ := h.2 (by have := (List.getElem?_eq_some_iff.1 hj).1; omega)
  cases e
  rw [hB.cell]
  exact hc j x hj

/-- The world of a round: the result's box, the sponge, the row of words. -/
structure Spo (w W : World) (rb sb : Nat) (s : Nat × Nat × Nat) (A : Option Addr) (c : Nat) (L : List Nat) : Prop where
  res : Blk W rb 93 #[.int .u64 0, .int .u64 0]
  sp : Blk W sb 127 (val3 s)
  row : Row W sb A c L
  ext : Ext w W
section
variable {w W W' : World} {rb sb c : Nat} {s m : Nat × Nat × Nat} {A : Option Addr} {L : List Nat}
theorem Spo.set (h : Spo w W rb sb s A c L) (hrs : rb ≠ sb) (hws : w.heap.size ≤ sb) (k : Nat) (u : Value) (s' : Nat × Nat × Nat) (e : (val3 s).setIfInBounds k u = val3 s') : Spo w (W.setCell ⟨sb, k, none⟩ u) rb sb s' A c L :=
  ⟨h.res.far hrs u, by have := h.sp.set_ k u; rw [e] at this; exact this, h.row.set (p := ⟨sb, k, none⟩) rfl u, h.ext.setCell hws u⟩
theorem Spo.draw (h : Spo w W rb sb s A c L) (n : Nat) : Spo w (W.drewN n) rb sb s A c L := ⟨h.res, h.sp, h.row, h.ext.drewN n⟩
theorem Spo.draw1 (h : Spo w W rb sb s A c L) : Spo w W.drew rb sb s A c L := ⟨h.res, h.sp, h.row, h.ext.drew⟩
theorem Spo.next (h : Spo w W rb sb s A c L) (x : Ext W W') : Spo w W' rb sb s A c L := ⟨ext_blk x h.res, ext_blk x h.sp, h.row.ext x, h.ext.trans x⟩
/-- Behind the mixing. -/
theorem Spo.mixed (h : Spo w W rb sb s A c L) (hrs : rb ≠ sb) (hws : w.heap.size ≤ sb) :
    Spo w (((W.setCell ⟨sb, 0, none⟩ (.int .u64 (m.1 : Int))).setCell ⟨sb, 1, none⟩ (.int .u64 (m.2.1 : Int))).setCell ⟨sb, 2, none⟩ (.int .u64 (m.2.2 : Int))) rb sb m A c L :=
  ((h.set hrs hws 0 _ (m.1, s.2.1, s.2.2) rfl).set hrs hws 1 _ (m.1, m.2.1, s.2.2) rfl).set hrs hws 2 _ m rfl
theorem Spo.facts (h : Spo w W rb sb s A c L) : W.cell? ⟨sb, 0, none⟩ = some (.int .u64 (s.1 : Int)) ∧ W.cell? ⟨sb, 1, none⟩ = some (.int .u64 (s.2.1 : Int)) ∧ W.cell? ⟨sb, 2, none⟩ = some (.int .u64 (s.2.2 : Int)) ∧
    W.frozen? ⟨sb, 0, none⟩ = false ∧ W.frozen? ⟨sb, 1, none⟩ = false ∧ W.frozen? ⟨sb, 2, none⟩ = false := arr_facts h.sp
end

set_option maxRecDepth 100000 in
set_option maxHeartbeats 2000000 in
theorem rSum_any (b : List Nat) (hl : ∀ x ∈ b, x < 256) (hm : b.length ≤ 1099511627776) (A : Option Addr) (c : Nat) (hmc : b.length ≤ c) (w : World) (hr : Reads w w.heap.size 1 A b.length (bv b)) :
    Calls Tryz.prog 117 #[.slice A b.length c] w fun e w' => e = .returned (.agg #[.int .u64 ((hSum b).1 : Int), .int .u64 ((hSum b).2 : Int)]) ∧ Ext w w' := by
  have hm1 : (b.length : Int) ≤ 1099511627776 := by omega
  go_enter Tryz.func117, Tryz.ntmps117
  have cOf := rfOf_any b hl hm A c hmc (w.alloc (.cells #[.int .u64 0, .int .u64 0] 93)) ((hr.alloc (Nat.le_refl _) _).more (by simp))
  obtain ⟨s, hs⟩ : ∃ s, s = (0, 0, b.length) := ⟨_, rfl⟩
  obtain ⟨T, hT⟩ : ∃ T, T = soakE true s (fOf b) := ⟨_, rfl⟩
  have hTT : Hid (hSum b = (T.1, T.2.1)) := by show _ = _; rw [hT, hs]; rfl
  obtain ⟨L, hL⟩ : ∃ L, L = fOf b := ⟨_, rfl⟩
  have hL1 : L.length ≤ 1099511627776 := by rw [hL]; unfold fOf; simp [cnt]; omega
  have HV : Hid (val3 s = #[.int .u64 0, .int .u64 0, .int .u64 (b.length : Int)]) := by show _ = _; rw [hs]; rfl
  rw [← hL] at cOf hT
  have HT := Lib.hid hT
  clear hT hL hs hr hl
  go_wp2_with (go_at_call 130; refine cOf.mono ?_; clear cOf; rintro e W2 ⟨v, rfl, ho, hb⟩; obtain ⟨A2, c2, rfl, hrow⟩ := Row.of_own ho; clear ho)
  have hz : w.heap.size < W2.heap.size := by have := hb.size; simp at this; omega
  obtain ⟨W3, e3, SP⟩ : ∃ W3, W2.alloc (.cells #[.int .u64 0, .int .u64 0, .int .u64 (b.length : Int)] 127) = W3 ∧ Spo w W3 w.heap.size W2.heap.size s A2 c2 L := by
    refine ⟨_, rfl, ?_, ?_, ?_, ?_⟩
    · exact ((Blk.new w _ _).below hb (by simp)).alloc _
    · rw [HV.out]; exact Blk.new _ _ _
    · exact hrow _
    · exact ((((Ext.refl w).alloc _).trans (Ext.of hb))).alloc _
  rw [e3]
  obtain ⟨sb, hsb⟩ : ∃ sb, sb = W2.heap.size := ⟨_, rfl⟩
  obtain ⟨rb, hrb⟩ : ∃ rb, rb = w.heap.size := ⟨_, rfl⟩
  have hrs : rb ≠ sb := by omega
  have hws : w.heap.size ≤ sb := by omega
  have hwr : w.heap.size ≤ rb := by omega
  rw [← hrb, ← hsb] at SP
  rw [← hrb, ← hsb]
  clear hrow hb e3 hsb hrb hz HV
  obtain ⟨n, hn⟩ : ∃ n, n = L.length := ⟨_, rfl⟩
  have hni : (n : Int) ≤ 1099511627776 := by omega
  rw [← hn]
  have HN := Lib.hid hn
  have HTT := hTT
  clear hn hL1 hTT
  go_loopg [5] (n + 2) (fun g s5 wr => ∃ (i : Nat) (s : Nat × Nat × Nat), s5 = .int .i64 i ∧ i + g = n + 2 ∧ T = soakE (decide (i = 0)) s (L.drop i) ∧ Spo w wr rb sb s A2 c2 L)
  case atStart => exact ⟨0, s, rfl, by omega, HT.out, SP⟩
  case round =>
    obtain ⟨i, s, rfl, hi, hT, hsp⟩ := hrel
    clear SP HT
    obtain ⟨s0, s1, s2, f0, f1, f2⟩ := hsp.facts
    have HS := Lib.hid hsp
    have HI := Lib.hid hi
    have c2n : (n : Int) ≤ c2 := by have := hsp.row.1; rw [← HN.out] at this; omega
    by_cases hin : i < n
    · obtain ⟨x, hx⟩ : ∃ x, L[i]? = some x := ⟨_, List.getElem?_eq_getElem (by rw [← HN.out]; exact hin)⟩
      obtain ⟨g, rfl, hgs⟩ := hsp.row.ptr (by rw [← HN.out]; omega)
      have hcx := hsp.row.at_ hx
      have hd : L.drop i = x :: L.drop (i + 1) := by rw [List.drop_eq_getElem_cons (by rw [← HN.out]; exact hin)]; congr 1; rw [List.getElem?_eq_some_iff] at hx; exact hx.2
      rw [hd, soakE_cons] at hT
      have z1 : (i : Int) < n := by omega
      have cA := fun W => r1Add_any s.1 x W
      obtain ⟨p, hp⟩ : ∃ p, p = addM bP s.1 x := ⟨_, rfl⟩
      rw [← hp] at cA
      by_cases hin1 : i + 1 < n
      · obtain ⟨y, hy⟩ : ∃ y, L[i + 1]? = some y := ⟨_, List.getElem?_eq_getElem (by rw [← HN.out]; exact hin1)⟩
        have hcy := hsp.row.at_ hy
        have hd1 : L.drop (i + 1) = y :: L.drop (i + 2) := by rw [List.drop_eq_getElem_cons (by rw [← HN.out]; exact hin1)]; congr 1; rw [List.getElem?_eq_some_iff] at hy; exact hy.2
        have cB := fun W => r1Add_any s.2.1 y W
        obtain ⟨q, hq⟩ : ∃ q, q = addM bP s.2.1 y := ⟨_, rfl⟩
        rw [← hq] at cB
        rw [hd1, soak_two, ← hp, ← hq] at hT
        obtain ⟨m, hm⟩ : ∃ m, m = mix (p, q, s.2.2) := ⟨_, rfl⟩
        have mx := fun W => rmix_any (p, q, s.2.2) W
        rw [← hm] at hT mx
        unfold val3 at mx
        have HT : Hid (T = soakE (decide (i + 2 = 0)) m (L.drop (i + 2))) := by show _ = _; rw [hT, show decide (i + 2 = 0) = false by simp, soakE_false]
        have z2 : (i : Int) + 1 < n := by omega
        have hp1 := hsp.set hrs hws 0 (.int .u64 (p : Int)) (p, s.2.1, s.2.2) rfl
        obtain ⟨-, t1, t2, -, g1, g2⟩ := hp1.facts
        have hcy' := hp1.row.at_ hy
        obtain ⟨W4, e4⟩ : ∃ W4, (wr.setCell ⟨sb, 0, none⟩ (.int .u64 (p : Int))).drew = W4 := ⟨_, rfl⟩
        have hp1' := hp1.draw1
        rw [e4] at hp1'
        obtain ⟨v0, v1, v2, k0, k1, k2⟩ := hp1'.facts
        have hcy2 := hp1'.row.at_ hy
        have hp2 := (hp1'.set hrs hws 1 (.int .u64 (q : Int)) (p, q, s.2.2) rfl).draw1
        have HP2 := Lib.hid hp2
        clear hT hm hp hq hd hd1 hsp hx hy hi hin hin1 hcy s1 s2 f1 f2 t1 t2 g1 g2 hcy' hp1 hp1' hp2
        go_wp2
        go_region_with ((go_at_call 131; refine (cA _).mono ?_; clear cA; rintro e w' ⟨rfl, rfl⟩))
        all_goals (
          clear e4 s0 f0 hcx
          go_wp2
          have y1 : IntKind.i64.wrap ((i : Int) + 1) = (i : Int) + 1 := IntWalk.i64_in _ (by omega)
          have y2 : 0 ≤ (i : Int) + 1 := by omega
          have y3 : ((i : Int) + 1).toNat = i + 1 := by omega
          go_region_with ((go_at_call 131; refine (cB _).mono ?_; clear cB; rintro e w' ⟨rfl, rfl⟩)))
        all_goals (
          obtain ⟨W5, e5⟩ : ∃ W5, (W4.setCell ⟨sb, 1, none⟩ (.int .u64 (q : Int))).drew = W5 := ⟨_, rfl⟩
          rw [e5] at HP2
          rw [e5]
          obtain ⟨s0, s1, s2, f0, f1, f2⟩ := HP2.out.facts
          clear e5 v0 v1 v2 k0 k1 k2 hcy2 y1 y2 y3
          go_wp2_with (go_at_call 132; refine (mx _).mono ?_; clear mx; rintro e W6 ⟨rfl, hx6⟩; obtain ⟨s0, s1, s2, f0, f1, f2⟩ := (HP2.out.next hx6).facts)
          have hi := HI.out
          go_roundg (gk - 2)
          case measure => omega
          case rel => exact ⟨i + 2, m, int_congr (by omega), by omega, HT.out, (HP2.out.next hx6).mixed hrs hws⟩)
      · have hL1 : L.drop (i + 1) = [] := List.drop_eq_nil_of_le (by rw [← HN.out]; omega)
        rw [hL1, soak_one, ← hp] at hT
        obtain ⟨m, hm⟩ : ∃ m, m = mix (p, s.2.1, s.2.2) := ⟨_, rfl⟩
        have mx := fun W => rmix_any (p, s.2.1, s.2.2) W
        rw [← hm] at hT mx
        unfold val3 at mx
        have HT : Hid (T = soakE (decide (i + 2 = 0)) m (L.drop (i + 2))) := by show _ = _; rw [hT, show decide (i + 2 = 0) = false by simp, soakE_false, List.drop_eq_nil_of_le (by rw [← HN.out]; omega)]; rfl
        have hi1 : i + 1 = n := by omega
        have z2 : ¬ (i : Int) + 1 < n := by omega
        have HI1 := Lib.hid hi1
        have hp1 := (hsp.set hrs hws 0 (.int .u64 (p : Int)) (p, s.2.1, s.2.2) rfl).draw1
        have HP2 := Lib.hid hp1
        clear hT hm hp hd hsp hL1 hx hi hin hin1 hi1 f1 f2 hp1
        go_wp2
        go_region_with ((go_at_call 131; refine (cA _).mono ?_; clear cA; rintro e w' ⟨rfl, rfl⟩))
        all_goals (
          obtain ⟨W5, e5⟩ : ∃ W5, (wr.setCell ⟨sb, 0, none⟩ (.int .u64 (p : Int))).drew = W5 := ⟨_, rfl⟩
          rw [e5] at HP2
          rw [e5]
          obtain ⟨s0, s1, s2, f0, f1, f2⟩ := HP2.out.facts
          clear e5
          go_wp2_with (go_at_call 132; refine (mx _).mono ?_; clear mx; rintro e W6 ⟨rfl, hx6⟩; obtain ⟨s0, s1, s2, f0, f1, f2⟩ := (HP2.out.next hx6).facts)
          have hi := HI.out
          have hi1 := HI1.out
          go_roundg (gk - 2)
          case measure => omega
          case rel => exact ⟨i + 2, m, int_congr (by omega), by omega, HT.out, (HP2.out.next hx6).mixed hrs hws⟩)
    · have hd : L.drop i = [] := List.drop_eq_nil_of_le (by rw [← HN.out]; omega)
      rw [hd] at hT
      have z1 : ¬ (i : Int) < n := by omega
      by_cases h0 : i = 0
      · subst h0
        have hT' : T = mix s := by rw [hT]; rfl
        obtain ⟨m, hm⟩ : ∃ m, m = mix s := ⟨_, rfl⟩
        have mx := fun W => rmix_any s W
        rw [← hm] at hT' mx
        unfold val3 at mx
        have HT : Hid (T = soakE (decide (0 + 2 = 0)) m (L.drop (0 + 2))) := by show _ = _; rw [hT', show decide (0 + 2 = 0) = false by decide, soakE_false, List.drop_eq_nil_of_le (by rw [← HN.out]; omega)]; rfl
        obtain rfl : n = 0 := by omega
        clear hT hT' hm hd hsp hi hin z1
        go_wp2_with (go_at_call 132; refine (mx _).mono ?_; clear mx; rintro e W6 ⟨rfl, hx6⟩; obtain ⟨s0, s1, s2, f0, f1, f2⟩ := (HS.out.next hx6).facts)
        have hi := HI.out
        go_roundg (gk - 2)
        case measure => omega
        case rel => exact ⟨2, m, rfl, by omega, HT.out, (HS.out.next hx6).mixed hrs hws⟩
      · have hT' : T = s := by rw [hT, show decide (i = 0) = false by simp [h0], soakE_false]; rfl
        have HT' := Lib.hid hT'
        have q0 := hsp.res.cell 0
        have q1 := hsp.res.cell 1
        have p0 := hsp.res.frozen 0
        have p1 := hsp.res.frozen 1
        simp at q0 q1
        have z2 : ((i : Int) == 0) = false := by simp; omega
        have z3 : 1 ≤ (i : Int) := by omega
        have hx := HS.out.ext
        clear hT hT' hd hsp hi hin h0
        go_wp2
        refine bodyPost_ret (v := .agg #[.int .u64 (s.1 : Int), .int .u64 (s.2.1 : Int)]) (by simp [results, Tryz.results117, go_sem, q0, q1]) rfl ⟨by rw [HTT.out, HT'.out], ?_⟩
        exact (hx.setCell (p := ⟨rb, 0, none⟩) hwr _).setCell (p := ⟨rb, 1, none⟩) hwr _
end Go.Proofs.YtiecfamjnnmpaaaGreat

/- The document's Coded, Tagged, Pair, walked. -/
namespace Go.Proofs.YtiecfamjnnmpaaaGreat
set_option linter.unusedVariables false
open Go.RowKit Go.Shelf

theorem be_drop4 (n : Nat) : (be n 8).drop 4 = be n 4 := by simp [be, beN, List.range_succ]
theorem cut4 {W : World} {A : Option Addr} {c n : Nat} (h : Reads W W.heap.size 1 A 8 (bv (be n 8))) (hc : 8 ≤ c) :
    ∃ A', (∀ w : World, (Instr.slice 22 (.slice A 8 c) (some (.int .i64 4)) none none).run Tryz.prog w = .ok (.slice A' 4 (c - 4)) w) ∧ Reads W W.heap.size 1 A' 4 (bv (be n 4)) := by
  have h1 := h.cut (k := 4) (cap := c) (by decide) hc
  refine ⟨_, fun w => slice_l8 A 8 c 4 (by decide) w, ?_⟩
  have e : (bv (be n 8)).drop (4 * 1) = bv (be n 4) := by rw [← be_drop4]; simp [bv]
  rw [e] at h1
  exact h1

set_option maxRecDepth 100000 in
set_option maxHeartbeats 1000000 in
theorem rCoded_any (tag : ByteArray) (ps : List (List Nat)) (A : Option Addr) (c : Nat) (hpc0 : ps.length ≤ c) (w : World) (hr : Parts w w.heap.size A ps) (htot : (coded (strN tag) ps).length ≤ 1099511627776) :
    Calls Tryz.prog 118 #[.string tag, .slice A ps.length c] w fun e w' => ∃ A' c', e = .returned (.slice A' (coded (strN tag) ps).length c') ∧ (coded (strN tag) ps).length ≤ c' ∧ Reads w' w'.heap.size 1 A' (coded (strN tag) ps).length (bv (coded (strN tag) ps)) ∧ Ext w w' := by
  obtain ⟨i0, hi, hz0, hz1, hz2⟩ := info_parts Tryz.infoU8
  have htl : tag.size + 1 ≤ (coded (strN tag) ps).length := by
    have := coded_take_le (strN tag) ps 0
    rw [List.take_zero, coded_nil, List.length_cons, strN_length] at this
    exact this
  have hcc := coded_take_le (strN tag) ps
  have hc0 : coded (strN tag) [] = tag.size % 256 :: strN tag := by rw [coded_nil, strN_length]
  obtain ⟨tot, ht⟩ : ∃ tot, tot = (coded (strN tag) ps).length := ⟨_, rfl⟩
  rw [← ht] at htot htl hcc
  have hpl : ps.length ≤ tot := by
    rw [ht, coded, List.length_append, List.length_flatMap]
    have : ps.length ≤ (ps.map fun p => (be p.length 4 ++ p).length).sum := by
      clear ht hcc hc0 htl hr htot hpc0
      induction ps with
      | nil => simp
      | cons p ps ih =>
        simp only [List.length_cons, List.map_cons, List.sum_cons]
        rw [List.length_append, be_length]
        omega
    omega
  have k1 : IntKind.u8.wrap (tag.size : Int) = ((tag.size % 256 : Nat) : Int) := by rw [IntKind.wrap_u8]; omega
  obtain ⟨d, hd⟩ : ∃ d, d = tag.size % 256 := ⟨_, rfl⟩
  rw [← hd] at k1 hc0
  have HT := Lib.hid ht
  have HC := Lib.hid hcc
  have HR := Lib.hid hr
  have hpi : (ps.length : Int) ≤ 1099511627776 := by omega
  have hpc : (ps.length : Int) ≤ c := by omega
  clear hd ht hcc hr hpc0
  go_enter Tryz.func118, Tryz.ntmps118
  go_wp2_with (at_builtin; refine wpList_append_own_src _ rfl (.tmp 10) (.tmp 11) 22 9 rfl w.heap.size 5 i0 (.int .u8 0) 1 1 Tryz.underlying22 hi hz0 hz1 hz2 rfl (.slice (some ⟨w.heap.size, 0, none⟩) 1 1) _ _ rfl (own_new w w.heap.size w.heap.size rfl (Nat.le_refl _) 5 (.int .u8 (d : Int))) (.string tag) tag.size (byteCells tag) rfl (Src.ofString _ Tryz.underlying9 tag) (by simp only [maxLen]; omega) (by omega) (by simp) (by simp) ?_; intro v1 w1 hown1 hg1 _)
  have hx1 : Hid (Ext w w1) := Lib.hid (Ext.of (((Below.refl _ _).alloc (Nat.le_refl _) _).grown hg1 (by simp) (fun k e => by simp [Value.ownBlock] at e; omega)))
  have ho : Hid (w1.ownsRow w.heap.size 5 1 v1 (coded (strN tag) (ps.take 0)).length (bv (coded (strN tag) (ps.take 0)))) := by
    show World.ownsRow _ _ _ _ _ _ _
    rw [List.take_zero, hc0, List.length_cons, strN_length, Nat.add_comm tag.size 1]
    have e : bv (d :: strN tag) = [.int .u8 (d : Int)] ++ byteCells tag := by rw [byteCells_strN]; rfl
    rw [e]
    exact hown1
  clear hown1 hg1 hc0 k1
  go_loopg [5, 6] ps.length (fun m s5 s6 wr => ∃ j : Nat, j + m = ps.length ∧ s6 = .int .i64 j ∧ wr.ownsRow w.heap.size 5 1 s5 (coded (strN tag) (ps.take j)).length (bv (coded (strN tag) (ps.take j))) ∧ Ext w wr)
  case atStart => exact ⟨0, by omega, rfl, ho.out, hx1.out⟩
  case round =>
    obtain ⟨j, hj, rfl, hown, hx⟩ := hrel
    clear ho hx1
    by_cases h : j < ps.length
    · obtain ⟨p, hp⟩ : ∃ p, ps[j]? = some p := ⟨_, List.getElem?_eq_getElem h⟩
      obtain ⟨ad, a, c', rfl, hcell0, hpc, hrp0⟩ := HR.out.at_ hp
      have HCW : Hid (∀ W, Ext w W → W.cell? (ad.add j) = some (.slice a p.length c')) := Lib.hid (fun W x => x.cell hcell0)
      have HRW : Hid (∀ W, Ext w W → Reads W w.heap.size 1 a p.length (bv p)) := Lib.hid (fun W x => hrp0.below x.out)
      have hcell := HCW.out wr hx
      have hle := HC.out (j + 1)
      have ht1 : ps.take (j + 1) = ps.take j ++ [p] := by rw [List.take_add_one, hp]; rfl
      rw [ht1, coded_snoc] at hle
      simp only [List.length_append, be_length] at hle
      obtain ⟨l, hl⟩ : ∃ l, l = coded (strN tag) (ps.take j) := ⟨_, rfl⟩
      rw [← hl] at hown hle
      have HN : Hid (coded (strN tag) (ps.take (j + 1)) = l ++ be p.length 4 ++ p) := by show _ = _; rw [ht1, coded_snoc, hl]
      have cE := fun W => Eight_any p.length W
      have hpt : (p.length : Int) ≤ 1099511627776 := by omega
      have z1 : (j : Int) < ps.length := by omega
      have HLE := Lib.hid hle
      have HJ := Lib.hid hj
      have HX := Lib.hid hx
      clear hle hj hx ht1 hl hp htl hrp0 hcell0 h
      go_wp2_with (first
        | (go_at_call 101; refine (cE _).mono ?_; clear cE; rintro e w2 ⟨v2, rfl, o2, x2⟩; obtain ⟨AE, kE, rfl, hkE, rE⟩ := own_slice o2; obtain ⟨AF, hAF, rF⟩ := cut4 rE hkE; clear o2 rE)
        | (at_builtin; refine wpList_append_any _ rfl (.tmp 19) (.tmp 27) 22 rfl w.heap.size 5 i0 (.int .u8 0) 1 1 Tryz.underlying22 hi hz0 hz1 hz2 rfl (by decide) u5 l.length (bv l) rfl (own_ext hown x2) w2.heap.size AF 4 (kE - 4) (bv (be p.length 4)) rfl rF (bv_one _) (by have := HLE.out; simp only [maxLen]; omega) (by have := HLE.out; omega) (Nat.le_trans HX.out.size x2.size) ?_; intro v3 w3 hown3 hg3 _;
            have x3 : Ext w w3 := Ext.of (Below.grown (HX.out.trans x2).out hg3 (HX.out.trans x2).size (own_ge hown)); have hcell3 := HCW.out w3 x3)
        | (at_builtin; refine wpList_append_any _ rfl (.tmp 29) (.tmp 33) 22 rfl w.heap.size 5 i0 (.int .u8 0) 1 1 Tryz.underlying22 hi hz0 hz1 hz2 rfl (by decide) v3 (l.length + 4) (bv l ++ bv (be p.length 4)) rfl hown3 w.heap.size a p.length c' (bv p) rfl (HRW.out w3 x3) (bv_one _) (by have := HLE.out; simp only [maxLen]; omega) (by have := HLE.out; omega) x3.size ?_; intro v4 w4 hown4 hg4 _))
      have x4 : Hid (Ext w w4) := Lib.hid (Ext.of (Below.grown x3.out hg4 x3.size (own_ge hown3)))
      have O4 : Hid (w4.ownsRow w.heap.size 5 1 v4 (coded (strN tag) (ps.take (j + 1))).length (bv (coded (strN tag) (ps.take (j + 1))))) := by
        show World.ownsRow _ _ _ _ _ _ _
        rw [HN.out, show (l ++ be p.length 4 ++ p).length = l.length + 4 + p.length by simp only [List.length_append, be_length], show bv (l ++ be p.length 4 ++ p) = bv l ++ bv (be p.length 4) ++ bv p by rw [bv_append, bv_append]]
        exact hown4
      have hj := HJ.out
      clear hown4 hg4 hown3 hg3 x3 x2 hown rF hAF hcell hcell3
      go_roundg (gk - 1)
      case measure => omega
      case rel => exact ⟨j + 1, by omega, int_congr (by omega), O4.out, x4.out⟩
    · obtain rfl : j = ps.length := by omega
      rw [List.take_length] at hown
      obtain ⟨A', c', rfl, hc', hr'⟩ := own_slice hown
      have HX := Lib.hid hx
      have HRR := Lib.hid hr'
      have HCC := Lib.hid hc'
      obtain ⟨n, hn⟩ : ∃ n, n = (coded (strN tag) ps).length := ⟨_, rfl⟩
      rw [← hn]
      have HNN := Lib.hid hn
      clear hown hr' hx hc' hj h hn
      go_wp2
      go_ret
      exact ⟨A', c', by rw [← HNN.out]; rfl, HCC.out, HRR.out, HX.out⟩

set_option maxRecDepth 100000 in
set_option maxHeartbeats 1000000 in
theorem rTagged_any (tag : ByteArray) (ps : List (List Nat)) (hps : ∀ p ∈ ps, ∀ x ∈ p, x < 256) (A : Option Addr) (c : Nat) (hpc0 : ps.length ≤ c) (w : World) (hr : Parts w w.heap.size A ps) (htot : (coded (strN tag) ps).length ≤ 1099511627776) :
    Calls Tryz.prog 82 #[.string tag, .slice A ps.length c] w fun e w' => e = .returned (.agg #[.int .u64 ((hSum (coded (strN tag) ps)).1 : Int), .int .u64 ((hSum (coded (strN tag) ps)).2 : Int)]) ∧ Ext w w' := by
  have hall := coded_lt (strN tag) (strN_lt tag) ps hps
  have cC := rCoded_any tag ps A c hpc0 (w.alloc (.cells #[.int .u64 0, .int .u64 0] 93)) (by
    obtain ⟨vs, h1, h2⟩ := hr
    exact ⟨vs, (h1.alloc (Nat.le_refl _) _).more (by simp), fun j p hj => by obtain ⟨a, c, e, hc, hr⟩ := h2 j p hj; exact ⟨a, c, e, hc, (hr.alloc (Nat.le_refl _) _).more (by simp)⟩⟩) htot
  have cS := fun A' c' hc' W hr' => rSum_any (coded (strN tag) ps) hall htot A' c' hc' W hr'
  obtain ⟨l, hl⟩ : ∃ l, l = coded (strN tag) ps := ⟨_, rfl⟩
  rw [← hl] at cC cS ⊢
  obtain ⟨r1, hr1⟩ : ∃ r, r = (hSum l).1 := ⟨_, rfl⟩
  obtain ⟨r2, hr2⟩ : ∃ r, r = (hSum l).2 := ⟨_, rfl⟩
  rw [← hr1, ← hr2] at cS ⊢
  have x0 : Ext w (w.alloc (.cells #[.int .u64 0, .int .u64 0] 93)) := (Ext.refl w).alloc _
  clear hr1 hr2 hl hr hps htot hall
  go_enter Tryz.func82, Tryz.ntmps82
  go_wp2_with (first
    | (go_at_call 118; refine cC.mono ?_; clear cC; rintro e w2 ⟨A2, c2, rfl, hc2, hr2, x2⟩)
    | (go_at_call 117; refine (cS _ _ hc2 _ hr2).mono ?_; clear cS; rintro e w3 ⟨rfl, x3⟩; obtain ⟨q0, q1, p0, p1⟩ := arr2 (ext_blk (x2.trans x3) (Blk.new w _ _))))
  refine bodyPost_ret (v := .agg #[.int .u64 (r1 : Int), .int .u64 (r2 : Int)]) (by simp [results, Tryz.results82, go_sem, q0, q1]) rfl ⟨rfl, ?_⟩
  exact (((x0.trans x2).trans x3).setCell (p := ⟨w.heap.size, 0, none⟩) (Nat.le_refl _) _).setCell (p := ⟨w.heap.size, 1, none⟩) (Nat.le_refl _) _

end Go.Proofs.YtiecfamjnnmpaaaGreat

/- Signing, walked: Secret, Public, Challenge (sign and greatsealref04). Printed by gen_si.py. -/
namespace Go.Proofs.YtiecfamjnnmpaaaGreat
set_option linter.unusedVariables false
open Go.RowKit Go.Shelf
attribute [local irreducible] mix hSum hNum

theorem mix_w (s : Nat × Nat × Nat) : (mix s).1 < 18446744073709551616 ∧ (mix s).2.1 < 18446744073709551616 := by
  obtain ⟨p, q, _⟩ := rnd_lt 7 (rnds 7 s)
  have e : mix s = rnd 7 (rnds 7 s) := by unfold mix; rfl
  rw [e]
  exact ⟨Nat.lt_trans p (by decide), Nat.lt_trans q (by decide)⟩
theorem soak_w : ∀ (l : List Nat) (s : Nat × Nat × Nat), s.1 < 18446744073709551616 → s.2.1 < 18446744073709551616 → (soak s l).1 < 18446744073709551616 ∧ (soak s l).2.1 < 18446744073709551616
  | [], s, h1, h2 => by rw [soak]; exact ⟨h1, h2⟩
  | [x], s, _, _ => by rw [soak_one]; exact mix_w _
  | x :: y :: l, s, _, _ => by rw [soak_two]; exact soak_w l _ (mix_w _).1 (mix_w _).2
theorem hSum_w (l : List Nat) : (hSum l).1 < 18446744073709551616 ∧ (hSum l).2 < 18446744073709551616 := by
  unfold hSum soakE
  split
  · exact mix_w _
  · exact soak_w _ _ (show 0 < 18446744073709551616 by decide) (show 0 < 18446744073709551616 by decide)

/-- Slices built one after another, as parts. -/
theorem parts_new {W : World} {T : TypeId} {vs : Array Value} {ps : List (List Nat)} (hl : vs.size = ps.length) (h : ∀ (j : Nat) (p : List Nat), ps[j]? = some p → ∃ a c, vs[j]? = some (Value.slice a p.length c) ∧ p.length ≤ c ∧ Reads W W.heap.size 1 a p.length (bv p)) :
    Parts (W.alloc (.cells vs T)) (W.alloc (.cells vs T)).heap.size (some ⟨W.heap.size, 0, none⟩) ps := by
  refine ⟨vs.toList, by rw [← hl]; exact blk_reads (Blk.new W T vs), fun j p hj => ?_⟩
  obtain ⟨a, c, h1, h2, h3⟩ := h j p hj
  exact ⟨a, c, by simpa using h1, h2, (h3.alloc (Nat.le_refl _) _).more (by simp)⟩
theorem parts_1 {W : World} {T : TypeId} {A : Option Addr} {c : Nat} {l : List Nat} (hc : l.length ≤ c) (hr : Reads W W.heap.size 1 A l.length (bv l)) :
    Parts (W.alloc (.cells #[.slice A l.length c] T)) (W.alloc (.cells #[.slice A l.length c] T)).heap.size (some ⟨W.heap.size, 0, none⟩) [l] :=
  parts_new rfl fun j p hj => match j, hj with | 0, hj => by cases hj; exact ⟨A, c, rfl, hc, hr⟩
theorem parts_2 {W : World} {T : TypeId} {A B : Option Addr} {c n : Nat} {l : List Nat} (hb : Reads W W.heap.size 1 B 8 (bv (be n 8))) (hc : l.length ≤ c) (hr : Reads W W.heap.size 1 A l.length (bv l)) :
    Parts (W.alloc (.cells #[.slice B 8 8, .slice A l.length c] T)) (W.alloc (.cells #[.slice B 8 8, .slice A l.length c] T)).heap.size (some ⟨W.heap.size, 0, none⟩) [be n 8, l] :=
  parts_new rfl fun j p hj => match j, hj with
    | 0, hj => by cases hj; exact ⟨B, 8, by rw [be_length]; rfl, by rw [be_length]; exact Nat.le_refl _, by rw [be_length]; exact hb⟩
    | 1, hj => by cases hj; exact ⟨A, c, rfl, hc, hr⟩
theorem parts_3 {W : World} {T : TypeId} {A B C : Option Addr} {c n m : Nat} {l : List Nat} (hb : Reads W W.heap.size 1 B 8 (bv (be n 8))) (hd : Reads W W.heap.size 1 C 8 (bv (be m 8))) (hc : l.length ≤ c) (hr : Reads W W.heap.size 1 A l.length (bv l)) :
    Parts (W.alloc (.cells #[.slice B 8 8, .slice C 8 8, .slice A l.length c] T)) (W.alloc (.cells #[.slice B 8 8, .slice C 8 8, .slice A l.length c] T)).heap.size (some ⟨W.heap.size, 0, none⟩) [be n 8, be m 8, l] :=
  parts_new rfl fun j p hj => match j, hj with
    | 0, hj => by cases hj; exact ⟨B, 8, by rw [be_length]; rfl, by rw [be_length]; exact Nat.le_refl _, by rw [be_length]; exact hb⟩
    | 1, hj => by cases hj; exact ⟨C, 8, by rw [be_length]; rfl, by rw [be_length]; exact Nat.le_refl _, by rw [be_length]; exact hd⟩
    | 2, hj => by cases hj; exact ⟨A, c, rfl, hc, hr⟩
theorem be_lt8 (n : Nat) : ∀ x ∈ be n 8, x < 256 := be_lt n 8
theorem lts1 {l : List Nat} (hl : ∀ x ∈ l, x < 256) : ∀ p ∈ [l], ∀ x ∈ p, x < 256 := by intro p hp; simp only [List.mem_cons, List.not_mem_nil, or_false] at hp; subst hp; exact hl
theorem lts2 (n : Nat) {l : List Nat} (hl : ∀ x ∈ l, x < 256) : ∀ p ∈ [be n 8, l], ∀ x ∈ p, x < 256 := by
  intro p hp; simp only [List.mem_cons, List.not_mem_nil, or_false] at hp
  rcases hp with rfl | rfl
  · exact be_lt8 n
  · exact hl
theorem lts3 (n m : Nat) {l : List Nat} (hl : ∀ x ∈ l, x < 256) : ∀ p ∈ [be n 8, be m 8, l], ∀ x ∈ p, x < 256 := by
  intro p hp; simp only [List.mem_cons, List.not_mem_nil, or_false] at hp
  rcases hp with rfl | rfl | rfl
  · exact be_lt8 n
  · exact be_lt8 m
  · exact hl
theorem strN6 (s : ByteArray) : (strN s).length = s.size := strN_length s
theorem len1 (tag : ByteArray) (ht : tag.size ≤ 10) {l : List Nat} (h : l.length ≤ 1000) : (coded (strN tag) [l]).length ≤ 1099511627776 := by simp [coded, be_length, strN_length]; omega
theorem len2 (tag : ByteArray) (ht : tag.size ≤ 10) (n : Nat) {l : List Nat} (h : l.length ≤ 1000) : (coded (strN tag) [be n 8, l]).length ≤ 1099511627776 := by simp [coded, be_length, strN_length]; omega
theorem len3 (tag : ByteArray) (ht : tag.size ≤ 10) (n m : Nat) {l : List Nat} (h : l.length ≤ 1000) : (coded (strN tag) [be n 8, be m 8, l]).length ≤ 1099511627776 := by simp [coded, be_length, strN_length]; omega
theorem wrap_one {n : Nat} (h : n < bR) : IntKind.u64.wrap ((n : Int) + 1) = ((n + 1 : Nat) : Int) ∧ IntKind.u64.wrap (1 + (n : Int)) = ((n + 1 : Nat) : Int) := by
  unfold bR at h
  rw [IntKind.wrap_u64, IntKind.wrap_u64]; omega

theorem tagNum (tag : ByteArray) (ps : List (List Nat)) (m : Nat) (hm : m < 18446744073709551616) (hps : ∀ p ∈ ps, ∀ x ∈ p, x < 256) (htot : (coded (strN tag) ps).length ≤ 1099511627776) : ∃ x y : Nat,
    (∀ A c W, ps.length ≤ c → Parts W W.heap.size A ps → Calls Tryz.prog 76 #[.string tag, .slice A ps.length c] W fun e w' => e = .returned (.agg #[.int .u64 (x : Int), .int .u64 (y : Int)]) ∧ Ext W w') ∧
    (∀ W, Calls Tryz.prog 75 #[.agg #[.int .u64 (x : Int), .int .u64 (y : Int)], .int .u64 (m : Nat)] W fun e w' => e = .returned (.int .u64 (hNum tag ps m : Nat)) ∧ Ext W w') := by
  refine ⟨(hSum (coded (strN tag) ps)).1, (hSum (coded (strN tag) ps)).2, fun A c W hc h => Tagged_any tag ps hps A c W h htot, fun W => ?_⟩
  unfold hNum
  exact Num_any _ _ m (hSum_w _).1 (hSum_w _).2 hm W

set_option maxRecDepth 100000 in
set_option maxHeartbeats 1000000 in
theorem some_any (tag : ByteArray) (ps : List (List Nat)) (hps : ∀ p ∈ ps, ∀ x ∈ p, x < 256) (htot : (coded (strN tag) ps).length ≤ 1099511627776) (A : Option Addr) (c : Nat) (hc : ps.length ≤ c) (w : World) (hr : Parts w w.heap.size A ps) :
    Calls Tryz.prog 74 #[.string tag, .slice A ps.length c] w fun e w' => e = .returned (.int .u64 (someN tag ps : Nat)) ∧ Ext w w' := by
  obtain ⟨x, y, c1, c2⟩ := tagNum tag ps (bR - 1) (by decide) hps htot
  have c1 := c1 A c w hc hr
  have hlt := hNum_lt tag ps (m := bR - 1) (by decide)
  unfold someN
  obtain ⟨n, hn⟩ : ∃ n, n = hNum tag ps (bR - 1) := ⟨_, rfl⟩
  rw [← hn] at hlt c2 ⊢
  rw [show bR - 1 = 1152921504606845788 from rfl] at c2
  simp only [Int.cast_ofNat_Int] at c2
  have e1 := (wrap_one (n := n) (by unfold bR at *; omega)).1
  clear hn hlt hr hps htot
  go_enter Tryz.func74, Tryz.ntmps74
  go_wp2_with (first | (go_at_call 76; refine c1.mono ?_; clear c1; rintro e w' ⟨rfl, x1⟩) | (go_at_call 75; refine (c2 _).mono ?_; clear c2; rintro e w' ⟨rfl, x2⟩))
  go_ret
  exact ⟨rfl, x1.trans x2⟩

set_option maxRecDepth 100000 in
set_option maxHeartbeats 1000000 in
theorem Secret_any (l : List Nat) (hl : ∀ x ∈ l, x < 256) (h : l.length ≤ 1000) (A : Option Addr) (c : Nat) (hc : l.length ≤ c) (w : World) (hr : Reads w w.heap.size 1 A l.length (bv l)) :
    Calls Tryz.prog 26 #[.slice A l.length c] w fun e w' => e = .returned (.int .u64 (secN l : Nat)) ∧ Ext w w' := by
  have c1 := fun T => some_any secretS [l] (lts1 hl) (len1 secretS (by decide) h) _ 1 (Nat.le_refl 1) _ (parts_1 (T := T) hc hr)
  unfold secN
  generalize someN secretS [l] = v at *
  have x0 := fun o => (Ext.refl w).alloc o
  clear hl h hc hr
  go_enter Tryz.func26, Tryz.ntmps26
  go_wp2_with (go_at_call 74; refine (c1 _).mono ?_; clear c1; rintro e w' ⟨rfl, x1⟩)
  go_ret
  exact ⟨rfl, (x0 _).trans x1⟩

set_option maxRecDepth 100000 in
set_option maxHeartbeats 1000000 in
theorem odd_any (s : Nat) (w : World) : Calls Tryz.prog 77 #[.int .u64 s] w fun e w' => e = .returned (.bool (oddN s)) ∧ w = w' := by
  rcases Nat.eq_zero_or_pos s with rfl | h0
  · have e : oddN 0 = true := rfl
    rw [e]
    go_enter Tryz.func77, Tryz.ntmps77
    go_wp2
    go_ret
    exact ⟨rfl, rfl⟩
  · have k0 : ((s : Int) == 0) = false := by simp; omega
    have k1 : decide ((1 : Int) ≤ (s : Int)) = true := by simp; omega
    by_cases h : bR ≤ s
    · have e : oddN s = true := by unfold oddN; simp [h]
      rw [e]
      have k2 : decide ((1152921504606845789 : Int) ≤ (s : Int)) = true := by unfold bR at h; simp; omega
      have k3 : decide ((s : Int) < 1152921504606845789) = false := by unfold bR at h; simp; omega
      clear h h0 e
      go_enter Tryz.func77, Tryz.ntmps77
      go_wp2
      go_ret
      exact ⟨rfl, rfl⟩
    · have e : oddN s = false := by unfold oddN; simp; omega
      rw [e]
      have k2 : decide ((1152921504606845789 : Int) ≤ (s : Int)) = false := by unfold bR at h; simp; omega
      have k3 : decide ((s : Int) < 1152921504606845789) = true := by unfold bR at h; simp; omega
      clear h h0 e
      go_enter Tryz.func77, Tryz.ntmps77
      go_wp2
      go_ret
      exact ⟨rfl, rfl⟩

set_option maxRecDepth 100000 in
set_option maxHeartbeats 1000000 in
theorem Public_any (s : Nat) (hs : s < 18446744073709551616) (w : World) :
    Calls Tryz.prog 28 #[.int .u64 s] w fun e w' => e = .returned (if oddN s = true then .tuple #[.int .u64 0, .int .i64 1] else .tuple #[.int .u64 (powM bQ 4 s : Nat), .int .i64 0]) ∧ Ext w w' := by
  have c1 := fun w => odd_any s w
  have c2 := fun w => Base_any s hs w
  generalize powM bQ 4 s = v at *
  clear hs
  rcases h : oddN s
  · rw [h] at c1
    clear h
    try simp only [Bool.not_false] at c1
    rw [if_neg (by decide)]
    go_enter Tryz.func28, Tryz.ntmps28
    go_wp2_with (first | (go_at_call 77; refine (c1 _).mono ?_; clear c1; rintro e w' ⟨rfl, rfl⟩) | (go_at_call 43; refine (c2 _).mono ?_; clear c2; rintro e w' ⟨rfl, x1⟩))
    go_ret2
    exact ⟨rfl, x1⟩
  · rw [h] at c1
    clear h
    try simp only [Bool.not_true] at c1
    rw [if_pos rfl]
    go_enter Tryz.func28, Tryz.ntmps28
    go_wp2_with (go_at_call 77; refine (c1 _).mono ?_; clear c1; rintro e w' ⟨rfl, rfl⟩)
    go_ret2
    exact ⟨rfl, Ext.refl _⟩

set_option maxRecDepth 100000 in
set_option maxHeartbeats 1000000 in
theorem Challenge_any (n m : Nat) (hn : n < 18446744073709551616) (hm : m < 18446744073709551616) (l : List Nat) (hl : ∀ x ∈ l, x < 256) (h : l.length ≤ 1000) (A : Option Addr) (c : Nat) (hc : l.length ≤ c) (w : World) (hr : Reads w w.heap.size 1 A l.length (bv l)) :
    Calls Tryz.prog 72 #[.int .u64 n, .int .u64 m, .slice A l.length c] w fun e w' => e = .returned (.int .u64 (chalN n m l : Nat)) ∧ Ext w w' := by
  obtain ⟨x, y, c1, c2⟩ := tagNum signS [be n 8, be m 8, l] bR (by decide) (lts3 n m hl) (len3 signS (by decide) n m h)
  have cB := fun w => sbytes_any n hn w
  have cC := fun w => sbytes_any m hm w
  have c1 : ∀ W B C T, Ext w W → Reads W W.heap.size 1 B 8 (bv (be n 8)) → Reads W W.heap.size 1 C 8 (bv (be m 8)) → Calls Tryz.prog 76 #[.string signS, .slice (some ⟨W.heap.size, 0, none⟩) 3 3] (W.alloc (.cells #[.slice B 8 8, .slice C 8 8, .slice A l.length c] T)) fun e w' => e = .returned (.agg #[.int .u64 (x : Int), .int .u64 (y : Int)]) ∧ Ext (W.alloc (.cells #[.slice B 8 8, .slice C 8 8, .slice A l.length c] T)) w' :=
    fun W B C T xw hb hd => c1 _ 3 _ (Nat.le_refl 3) (parts_3 (T := T) hb hd hc ((hr.below xw.out).more xw.size))
  unfold chalN
  obtain ⟨v, hv⟩ : ∃ v, v = hNum signS [be n 8, be m 8, l] bR := ⟨_, rfl⟩
  rw [← hv] at c2 ⊢
  rw [show bR = 1152921504606845789 from rfl] at c2
  simp only [Int.cast_ofNat_Int] at c2
  clear hv hr hl h hc hn hm
  go_enter Tryz.func72, Tryz.ntmps72
  go_wp2_with (first
    | (go_at_call 111; (with_reducible refine (cB _).mono ?_); clear cB; rintro e w1 ⟨B, rfl, rB, xB⟩)
    | (go_at_call 111; (with_reducible refine (cC _).mono ?_); clear cC; rintro e w2 ⟨C, rfl, rC, xC⟩)
    | (go_at_call 76; refine (c1 _ _ _ _ (xB.trans xC) ((rB.below xC.out).more xC.size) rC).mono ?_; clear c1; rintro e w3 ⟨rfl, xT⟩)
    | (go_at_call 75; refine (c2 _).mono ?_; clear c2; rintro e w4 ⟨rfl, xN⟩))
  go_ret
  exact ⟨rfl, (((xB.trans xC).alloc _).trans xT).trans xN⟩

theorem rtagNum (tag : ByteArray) (ps : List (List Nat)) (m : Nat) (hm : m < 18446744073709551616) (hps : ∀ p ∈ ps, ∀ x ∈ p, x < 256) (htot : (coded (strN tag) ps).length ≤ 1099511627776) : ∃ x y : Nat,
    (∀ A c W, ps.length ≤ c → Parts W W.heap.size A ps → Calls Tryz.prog 82 #[.string tag, .slice A ps.length c] W fun e w' => e = .returned (.agg #[.int .u64 (x : Int), .int .u64 (y : Int)]) ∧ Ext W w') ∧
    (∀ W, Calls Tryz.prog 81 #[.agg #[.int .u64 (x : Int), .int .u64 (y : Int)], .int .u64 (m : Nat)] W fun e w' => e = .returned (.int .u64 (hNum tag ps m : Nat)) ∧ Ext W w') := by
  refine ⟨(hSum (coded (strN tag) ps)).1, (hSum (coded (strN tag) ps)).2, fun A c W hc h => rTagged_any tag ps hps A c hc W h htot, fun W => ?_⟩
  unfold hNum
  exact rNum_any _ _ m hm W

set_option maxRecDepth 100000 in
set_option maxHeartbeats 1000000 in
theorem rSecret_any (l : List Nat) (hl : ∀ x ∈ l, x < 256) (h : l.length ≤ 1000) (A : Option Addr) (c : Nat) (hc : l.length ≤ c) (w : World) (hr : Reads w w.heap.size 1 A l.length (bv l)) :
    Calls Tryz.prog 30 #[.slice A l.length c] w fun e w' => e = .returned (.int .u64 (secN l : Nat)) ∧ Ext w w' := by
  obtain ⟨x, y, c1, c2⟩ := rtagNum secretS [l] (bR - 1) (by decide) (lts1 hl) (len1 secretS (by decide) h)
  have c1 := fun T => c1 _ 1 _ (Nat.le_refl 1) (parts_1 (T := T) hc hr)
  have hlt := hNum_lt secretS [l] (m := bR - 1) (by decide)
  unfold secN someN
  obtain ⟨n, hn⟩ : ∃ n, n = hNum secretS [l] (bR - 1) := ⟨_, rfl⟩
  rw [← hn] at hlt c2 ⊢
  rw [show bR - 1 = 1152921504606845788 from rfl] at c2
  simp only [Int.cast_ofNat_Int] at c2
  have e1 := (wrap_one (n := n) (by unfold bR at *; omega)).2
  have x0 := fun o => (Ext.refl w).alloc o
  clear hn hlt hr hl h hc
  go_enter Tryz.func30, Tryz.ntmps30
  go_wp2_with (first | (go_at_call 82; refine (c1 _).mono ?_; clear c1; rintro e w' ⟨rfl, x1⟩) | (go_at_call 81; refine (c2 _).mono ?_; clear c2; rintro e w' ⟨rfl, x2⟩))
  go_ret
  exact ⟨rfl, ((x0 _).trans x1).trans x2⟩

set_option maxRecDepth 100000 in
set_option maxHeartbeats 1000000 in
theorem rodd_any (s : Nat) (w : World) : Calls Tryz.prog 87 #[.int .u64 s] w fun e w' => e = .returned (.bool (!oddN s)) ∧ w = w' := by
  rcases Nat.eq_zero_or_pos s with rfl | h0
  · have e : oddN 0 = true := rfl
    rw [e]
    go_enter Tryz.func87, Tryz.ntmps87
    go_wp2
    go_ret
    exact ⟨rfl, rfl⟩
  · have k0 : ((s : Int) == 0) = false := by simp; omega
    have k1 : decide ((1 : Int) ≤ (s : Int)) = true := by simp; omega
    by_cases h : bR ≤ s
    · have e : oddN s = true := by unfold oddN; simp [h]
      rw [e]
      have k2 : decide ((1152921504606845789 : Int) ≤ (s : Int)) = true := by unfold bR at h; simp; omega
      have k3 : decide ((s : Int) < 1152921504606845789) = false := by unfold bR at h; simp; omega
      clear h h0 e
      go_enter Tryz.func87, Tryz.ntmps87
      go_wp2
      go_ret
      exact ⟨rfl, rfl⟩
    · have e : oddN s = false := by unfold oddN; simp; omega
      rw [e]
      have k2 : decide ((1152921504606845789 : Int) ≤ (s : Int)) = false := by unfold bR at h; simp; omega
      have k3 : decide ((s : Int) < 1152921504606845789) = true := by unfold bR at h; simp; omega
      clear h h0 e
      go_enter Tryz.func87, Tryz.ntmps87
      go_wp2
      go_ret
      exact ⟨rfl, rfl⟩

set_option maxRecDepth 100000 in
set_option maxHeartbeats 1000000 in
theorem rPublic_any (s : Nat) (hs : s < 18446744073709551616) (w : World) :
    Calls Tryz.prog 33 #[.int .u64 s] w fun e w' => e = .returned (if oddN s = true then .tuple #[.int .u64 0, .int .i64 1] else .tuple #[.int .u64 (powM bQ 4 s : Nat), .int .i64 0]) ∧ Ext w w' := by
  have c1 := fun w => rodd_any s w
  have c2 := fun w => rBase_any s hs w
  generalize powM bQ 4 s = v at *
  clear hs
  rcases h : oddN s
  · rw [h] at c1
    clear h
    try simp only [Bool.not_false] at c1
    rw [if_neg (by decide)]
    go_enter Tryz.func33, Tryz.ntmps33
    go_wp2_with (first | (go_at_call 87; refine (c1 _).mono ?_; clear c1; rintro e w' ⟨rfl, rfl⟩) | (go_at_call 45; refine (c2 _).mono ?_; clear c2; rintro e w' ⟨rfl, rfl⟩))
    go_ret2
    exact ⟨rfl, Ext.refl _⟩
  · rw [h] at c1
    clear h
    try simp only [Bool.not_true] at c1
    rw [if_pos rfl]
    go_enter Tryz.func33, Tryz.ntmps33
    go_wp2_with (go_at_call 87; refine (c1 _).mono ?_; clear c1; rintro e w' ⟨rfl, rfl⟩)
    go_ret2
    exact ⟨rfl, Ext.refl _⟩

set_option maxRecDepth 100000 in
set_option maxHeartbeats 1000000 in
theorem rChallenge_any (n m : Nat) (hn : n < 18446744073709551616) (hm : m < 18446744073709551616) (l : List Nat) (hl : ∀ x ∈ l, x < 256) (h : l.length ≤ 1000) (A : Option Addr) (c : Nat) (hc : l.length ≤ c) (w : World) (hr : Reads w w.heap.size 1 A l.length (bv l)) :
    Calls Tryz.prog 104 #[.int .u64 n, .int .u64 m, .slice A l.length c] w fun e w' => e = .returned (.int .u64 (chalN n m l : Nat)) ∧ Ext w w' := by
  obtain ⟨x, y, c1, c2⟩ := rtagNum signS [be n 8, be m 8, l] bR (by decide) (lts3 n m hl) (len3 signS (by decide) n m h)
  have cB := fun w => Eight4_any n hn w
  have cC := fun w => Eight4_any m hm w
  have c1 : ∀ W B C T, Ext w W → Reads W W.heap.size 1 B 8 (bv (be n 8)) → Reads W W.heap.size 1 C 8 (bv (be m 8)) → Calls Tryz.prog 82 #[.string signS, .slice (some ⟨W.heap.size, 0, none⟩) 3 3] (W.alloc (.cells #[.slice B 8 8, .slice C 8 8, .slice A l.length c] T)) fun e w' => e = .returned (.agg #[.int .u64 (x : Int), .int .u64 (y : Int)]) ∧ Ext (W.alloc (.cells #[.slice B 8 8, .slice C 8 8, .slice A l.length c] T)) w' :=
    fun W B C T xw hb hd => c1 _ 3 _ (Nat.le_refl 3) (parts_3 (T := T) hb hd hc ((hr.below xw.out).more xw.size))
  unfold chalN
  obtain ⟨v, hv⟩ : ∃ v, v = hNum signS [be n 8, be m 8, l] bR := ⟨_, rfl⟩
  rw [← hv] at c2 ⊢
  rw [show bR = 1152921504606845789 from rfl] at c2
  simp only [Int.cast_ofNat_Int] at c2
  clear hv hr hl h hc hn hm
  go_enter Tryz.func104, Tryz.ntmps104
  go_wp2_with (first
    | (go_at_call 125; (with_reducible refine (cB _).mono ?_); clear cB; rintro e w1 ⟨B, rfl, rB, xB⟩)
    | (go_at_call 125; (with_reducible refine (cC _).mono ?_); clear cC; rintro e w2 ⟨C, rfl, rC, xC⟩)
    | (go_at_call 82; refine (c1 _ _ _ _ (xB.trans xC) ((rB.below xC.out).more xC.size) rC).mono ?_; clear c1; rintro e w3 ⟨rfl, xT⟩)
    | (go_at_call 81; refine (c2 _).mono ?_; clear c2; rintro e w4 ⟨rfl, xN⟩))
  go_ret
  exact ⟨rfl, (((xB.trans xC).alloc _).trans xT).trans xN⟩

end Go.Proofs.YtiecfamjnnmpaaaGreat

/- Shares: the polynomial and its shares, as lists and as cells. -/
namespace Go.Proofs.YtiecfamjnnmpaaaGreat
set_option linter.unusedVariables false
open Go.RowKit Go.Shelf Go.Maps
attribute [local irreducible] atN prodN sumN wantN mix hSum hNum

def shareS : ByteArray := { data := #[115, 104, 97, 114, 101] }
/-- A polynomial's coefficient. -/
def coefN (seed : List Nat) (i : Nat) : Nat := hNum shareS [seed, [i]] bR
def polyN (secret t : Nat) (seed : List Nat) : List Nat := (List.range t).map fun i => if i = 0 then secret else coefN seed i
def splitL (secret t n : Nat) (seed : List Nat) : List (Int × Nat) := (List.range n).map fun k => (((k + 1 : Nat) : Int), evZ (polyN secret t seed) (k + 1) % bR)
theorem polyN_length (secret t : Nat) (seed : List Nat) : (polyN secret t seed).length = t := by simp [polyN]
theorem splitL_length (secret t n : Nat) (seed : List Nat) : (splitL secret t n seed).length = n := by simp [splitL]
theorem polyN_at (secret t : Nat) (seed : List Nat) {i : Nat} (h : i < t) : (polyN secret t seed)[i]? = some (if i = 0 then secret else coefN seed i) := by simp [polyN, h]
theorem splitL_at (secret t n : Nat) (seed : List Nat) {k : Nat} (h : k < n) : (splitL secret t n seed)[k]? = some (((k + 1 : Nat) : Int), evZ (polyN secret t seed) (k + 1) % bR) := by simp [splitL, h]
theorem coefN_lt (seed : List Nat) (i : Nat) : coefN seed i < bR := hNum_lt _ _ (by decide)
theorem polyN_lt {secret : Nat} (h : secret < bR) (t : Nat) (seed : List Nat) : ∀ c ∈ polyN secret t seed, c < bR := by
  intro c hc
  obtain ⟨i, -, rfl⟩ := List.mem_map.1 hc
  split
  · exact h
  · exact coefN_lt _ _

/-! ### cells -/
theorem uv_set (l : List Nat) (j v : Nat) : (uv l).toArray.setIfInBounds j (.int .u64 (v : Int)) = (uv (l.set j v)).toArray := by
  simp [uv, List.map_set]
theorem set_row (l : List Nat) (n j v : Nat) (hl : l.length = j) (hj : j < n) : (l ++ List.replicate (n - j) 0).set j v = l ++ v :: List.replicate (n - (j + 1)) 0 := by
  rw [List.set_append_right _ _ (by omega), hl, Nat.sub_self]
  have : n - j = n - (j + 1) + 1 := by omega
  rw [this, List.replicate_succ, List.set_cons_zero]
theorem set_row' (l r : List Nat) (j u v : Nat) (hl : l.length = j) : (l ++ u :: r).set j v = l ++ v :: r := by
  rw [List.set_append_right _ _ (by omega), hl, Nat.sub_self, List.set_cons_zero]
theorem sv_cons (s : Int × Nat) (l : List (Int × Nat)) : sv (s :: l) = .int .i64 s.1 :: .int .u64 (s.2 : Int) :: sv l := rfl
theorem sv_set0 (l r : List (Int × Nat)) (j : Nat) (hl : l.length = j) (x y : Int) (v : Nat) : (sv (l ++ (x, v) :: r)).toArray.setIfInBounds (j * 2) (.int .i64 y) = (sv (l ++ (y, v) :: r)).toArray := by
  rw [List.setIfInBounds_toArray, sv_append, sv_append, List.set_append_right _ _ (by rw [sv_length, hl]; exact Nat.le_refl _), sv_length, hl, Nat.sub_self]
  rfl
theorem sv_set1 (l r : List (Int × Nat)) (j : Nat) (hl : l.length = j) (x : Int) (u v : Nat) : (sv (l ++ (x, u) :: r)).toArray.setIfInBounds (j * 2 + 1) (.int .u64 (v : Int)) = (sv (l ++ (x, v) :: r)).toArray := by
  rw [List.setIfInBounds_toArray, sv_append, sv_append, List.set_append_right _ _ (by rw [sv_length, hl]; omega), sv_length, hl, show j * 2 + 1 - j * 2 = 1 by omega]
  rfl
theorem blk_row {w : World} {g : Nat} {T : TypeId} {l : List (Int × Nat)} (h : Blk w g T (sv l).toArray) {k : Nat} {s : Int × Nat} (hs : l[k]? = some s) :
    w.cell? ⟨g, k * 2, none⟩ = some (.int .i64 s.1) ∧ w.cell? ⟨g, k * 2 + 1, none⟩ = some (.int .u64 (s.2 : Int)) :=
  ⟨by rw [h.cell]; simpa using (sv_at hs).1, by rw [h.cell]; simpa using (sv_at hs).2⟩
theorem blk_reads2 {w : World} {g : Nat} {T : TypeId} {l : List (Int × Nat)} (h : Blk w g T (sv l).toArray) : Reads w w.heap.size 2 (some ⟨g, 0, none⟩) l.length (sv l) := by
  refine ⟨sv_length l, fun _ => ⟨_, rfl, h.lt, fun j u hj => ?_⟩⟩
  have e : (Addr.mk g 0 none).add j = ⟨g, j, none⟩ := by
    unfold Addr.add
    split <;> simp_all
  rw [e, h.cell]
  simpa using hj
theorem blk_word {w : World} {g : Nat} {T : TypeId} {l : List Nat} (h : Blk w g T (uv l).toArray) {k v : Nat} (hk : l[k]? = some v) : w.cell? ⟨g, k, none⟩ = some (.int .u64 (v : Int)) := by
  rw [h.cell]; simp [uv, hk]
/-- What 'make' lays. -/
theorem make_words (n : Nat) : (madeCells (Value.int .u64 0).cells (n * 1)).toList = uv (List.replicate n 0) := by
  have e : (Value.int .u64 0).cells = #[Value.int .u64 0] := rfl
  rw [e, toList_madeCells_one, Nat.mul_one]
  simp [uv]
theorem make_shares (n : Nat) : (madeCells (Value.agg #[.int .i64 0, .int .u64 0]).cells (n * 2)).toList = sv (List.replicate n (0, 0)) := by
  have e : (Value.agg #[.int .i64 0, .int .u64 0]).cells = #[.int .i64 0, .int .u64 0] := rfl
  rw [e]
  refine List.ext_getElem? fun i => ?_
  have hs : (madeCells #[.int .i64 0, .int .u64 0] (n * 2)).toList[i]? = if i < n * 2 then some (#[Value.int .i64 0, .int .u64 0][i % 2]!) else none := by
    unfold madeCells
    rw [Array.getElem?_toList, Array.getElem?_map, Array.getElem?_range]
    split
    · rfl
    · rfl
  rw [hs]
  by_cases h : i < n * 2
  · rw [if_pos h]
    have hk : (List.replicate n ((0 : Int), 0))[i / 2]? = some (0, 0) := by simp [List.getElem?_replicate]; omega
    obtain ⟨h0, h1⟩ := sv_at hk
    rcases Nat.mod_two_eq_zero_or_one i with hm | hm
    · rw [hm]
      rw [show i / 2 * 2 = i by omega] at h0
      rw [h0]; rfl
    · rw [hm]
      rw [show i / 2 * 2 + 1 = i by omega] at h1
      rw [h1]; rfl
  · rw [if_neg h, List.getElem?_eq_none (by rw [sv_length, List.length_replicate]; omega)]
theorem own_blk {w : World} {base g n size : Nat} {e : TypeId} {xs : List Value} (h : w.ownsRow base e size (.slice (some ⟨g, 0, none⟩) n n) n xs) : Blk w g e xs.toArray ∧ base ≤ g := by
  rcases h.2 with ⟨h0, _⟩ | ⟨g', cap, cur, e1, hb, hg, h1, h2, h3, h4⟩
  · cases h0
  · injection e1 with e1 _ e2
    injection e1 with e1
    injection e1 with e1
    subst e1; subst e2
    rw [← h3, List.take_of_length_le (by simp)] at h4
    refine ⟨?_, hb⟩
    unfold Blk
    rw [hg, ← h4]
end Go.Proofs.YtiecfamjnnmpaaaGreat

/- Crews, walked: who, over, product, weight, and what they are told by. -/
namespace Go.Proofs.YtiecfamjnnmpaaaGreat
set_option linter.unusedVariables false
open Go.RowKit Go.Shelf Go.Maps
attribute [local irreducible] atN prodN sumN wantN

theorem own_nil (w : World) (base : Nat) (e : TypeId) (size : Nat) : w.ownsRow base e size (.slice none 0 0) 0 [] := ⟨by simp, .inl ⟨rfl, rfl⟩⟩
theorem cell_one_new' (w : World) (o : Obj) (x : Value) (t : TypeId) : ∀ j u, [x][j]? = some u → ((w.alloc o).alloc (.cells #[x] t)).cell? ((⟨w.heap.size + 1, 0, none⟩ : Addr).add j) = some u := by
  intro j u hj
  have := cell_one_new (w.alloc o) x t j u hj
  rw [World.size_alloc] at this
  exact this

set_option maxRecDepth 100000 in
set_option maxHeartbeats 1000000 in
theorem who_any (l : List (Int × Nat)) (A : Option Addr) (c : Nat) (hn : l.length ≤ 1099511627776) (w : World) (hr : Reads w w.heap.size 2 A l.length (sv l)) :
    Calls Tryz.prog 49 #[.slice A l.length c] w fun e w' => ∃ A' c', e = .returned (.slice A' l.length c') ∧ l.length ≤ c' ∧ Reads w' w'.heap.size 1 A' l.length (iv (l.map (·.1))) ∧ Ext w w' := by
  obtain ⟨i0, hi, hz0, hz1, hz2⟩ := info_parts Tryz.infoI64
  have hr0 : Hid (Reads w w.heap.size 2 A l.length (sv l)) := Lib.hid hr
  have HN := Lib.hid hn
  clear hr hn
  go_enter Tryz.func49, Tryz.ntmps49
  go_wp2
  go_loopg [3, 8] l.length (fun m s3 s8 wr => ∃ j : Nat, j + m = l.length ∧ s8 = .int .i64 j ∧ wr.ownsRow w.heap.size 3 1 s3 (l.take j).length (iv ((l.take j).map (·.1))) ∧ Ext w wr)
  case atStart => exact ⟨0, by omega, rfl, own_nil w _ _ _, Ext.refl w⟩
  case round =>
    obtain ⟨j, hj, rfl, hown, hx⟩ := hrel
    by_cases h : j < l.length
    · obtain ⟨s, hs⟩ : ∃ s, l[j]? = some s := ⟨_, List.getElem?_eq_getElem h⟩
      obtain ⟨ad, rfl, hlt, q0, q1⟩ := reads_share (hr0.out.below hx.out) hs
      have e1 : l.take (j + 1) = l.take j ++ [s] := by rw [List.take_add_one, hs]; rfl
      have hjb : (j : Int) ≤ 1099511627776 := by have := HN.out; omega
      have HE := Lib.hid e1
      have HX := Lib.hid hx
      have HJ := Lib.hid hj
      clear e1 hx hj hs
      go_wp2_with (at_builtin; refine wpList_append_own _ rfl (.tmp 12) (.tmp 15) 71 rfl w.heap.size 3 i0 (.int .i64 0) 1 8 Tryz.underlying71 hi hz0 hz1 hz2 rfl (by decide) _ _ _ rfl ((hown.alloc _).alloc _) ⟨wr.heap.size + 1, 0, none⟩ 1 1 [.int .i64 s.1] rfl rfl (cell_one_new' _ _ _ _) (by simp [Value.oneCell']) (by have := HN.out; have := HJ.out; simp only [maxLen, List.length_take]; omega) (by have := HN.out; simp only [List.length_take]; omega) (by have := HX.out.size; simp; omega) ?_; intro v2 w2 hown2 hg2 _)
      have X2 := ext_grown ((HX.out.alloc _).alloc _) ((hown.alloc _).alloc _) hg2
      have O2 : Hid (w2.ownsRow w.heap.size 3 1 v2 (l.take (j + 1)).length (iv ((l.take (j + 1)).map (·.1)))) := by
        show World.ownsRow _ _ _ _ _ _ _
        rw [HE.out, List.length_append, List.map_append, iv_append]
        exact hown2
      clear hown2 hg2 hown
      have hj := HJ.out
      go_wp2
      go_roundg (gk - 1)
      case measure => omega
      case rel => exact ⟨j + 1, by omega, int_congr (by omega), O2.out, X2⟩
    · obtain rfl : j = l.length := by omega
      rw [List.take_length] at hown
      obtain ⟨A', c', rfl, hc', hr'⟩ := own_slice hown
      have HR := Lib.hid hr'
      have HX := Lib.hid hx
      clear hr' hx hown hj h
      go_wp2
      go_ret
      exact ⟨A', c', rfl, hc', HR.out, HX.out⟩

theorem foldl_take {α : Type} {l : List α} {k : Nat} {s : α} (hs : l[k]? = some s) (f : Nat → α → Nat) (n : Nat) : (l.take (k + 1)).foldl f n = f ((l.take k).foldl f n) s := by
  rw [List.take_add_one, hs]; simp [List.foldl_append]

set_option maxRecDepth 100000 in
set_option maxHeartbeats 1000000 in
theorem over_any (F : FuncId) (hE : Enters Tryz.prog F) (cap : Array Value) (f : Nat → Int × Nat → Nat) (l : List (Int × Nat)) (n0 : Nat) (hn : l.length ≤ 1099511627776) (A : Option Addr) (c : Nat) (w : World) (hr : Reads w w.heap.size 2 A l.length (sv l))
    (hstep : ∀ (W : World) (k : Nat) (s : Int × Nat), l[k]? = some s → Ext w W → Calls Tryz.prog F (#[.int .u64 (((l.take k).foldl f n0 : Nat) : Int), .agg #[.int .i64 s.1, .int .u64 (s.2 : Int)]] ++ cap) W fun e w' => e = .returned (.int .u64 ((f ((l.take k).foldl f n0) s : Nat) : Int)) ∧ Ext W w') :
    Calls Tryz.prog 54 #[.slice A l.length c, .int .u64 (n0 : Int), .func (.func F) #[] cap] w fun e w' => e = .returned (.int .u64 ((l.foldl f n0 : Nat) : Int)) ∧ Ext w w' := by
  have hr0 : Hid (Reads w w.heap.size 2 A l.length (sv l)) := Lib.hid hr
  have HN := Lib.hid hn
  have HS := Lib.hid hstep
  unfold Enters at hE
  clear hr hn hstep
  go_enter Tryz.func54, Tryz.ntmps54
  go_wp2
  go_loopg [1, 11] l.length (fun m s1 s11 wr => ∃ j : Nat, j + m = l.length ∧ s11 = .int .i64 j ∧ s1 = .int .u64 (((l.take j).foldl f n0 : Nat) : Int) ∧ Ext w wr)
  case atStart => exact ⟨0, by omega, rfl, rfl, Ext.refl w⟩
  case round =>
    obtain ⟨j, hj, rfl, rfl, hx⟩ := hrel
    by_cases h : j < l.length
    · obtain ⟨s, hs⟩ : ∃ s, l[j]? = some s := ⟨_, List.getElem?_eq_getElem h⟩
      obtain ⟨ad, rfl, hlt, q0, q1⟩ := reads_share (hr0.out.below hx.out) hs
      have e1 := foldl_take hs f n0
      have hjb : (j : Int) ≤ 1099511627776 := by have := HN.out; omega
      have c1 := fun (W : World) => HS.out W j s hs
      obtain ⟨u, hu⟩ : ∃ u, u = (l.take j).foldl f n0 := ⟨_, rfl⟩
      rw [← hu] at c1 e1 ⊢
      obtain ⟨v, hv⟩ : ∃ v, v = f u s := ⟨_, rfl⟩
      rw [← hv] at c1 e1
      have HE := Lib.hid e1
      have HX := Lib.hid hx
      have HJ := Lib.hid hj
      clear e1 hx hj hs hu hv
      go_wp2_with (go_at_fn F; refine (c1 _ (HX.out.alloc _)).mono ?_; clear c1; rintro e w1 ⟨rfl, x1⟩)
      have X2 := (HX.out.alloc _).trans x1
      have hj := HJ.out
      go_roundg (gk - 1)
      case measure => omega
      case rel => exact ⟨j + 1, by omega, int_congr (by omega), by rw [HE.out], X2⟩
    · obtain rfl : j = l.length := by omega
      rw [List.take_length]
      have HX := Lib.hid hx
      clear hx hj h
      go_wp2
      go_ret
      exact ⟨rfl, HX.out⟩
end Go.Proofs.YtiecfamjnnmpaaaGreat

/- Signing, walked: Sign, Check (sign and greatsealref04). Printed by gen_si2.py. -/
namespace Go.Proofs.YtiecfamjnnmpaaaGreat
set_option linter.unusedVariables false
open Go.RowKit Go.Shelf
attribute [local irreducible] mix hSum hNum

theorem toExt {P : Program} {f : FuncId} {args : Array Value} {w : World} {v : Ending} (h : Calls P f args w fun e w' => e = v ∧ w = w') : Calls P f args w fun e w' => e = v ∧ Ext w w' :=
  h.mono fun _ _ ⟨a, b⟩ => ⟨a, by rw [← b]; exact Ext.refl _⟩
theorem two {W : World} {g : Nat} {T : TypeId} {a b : Value} (h : Blk W g T #[a, b]) : W.cell? ⟨g, 0, none⟩ = some a ∧ W.cell? ⟨g, 1, none⟩ = some b := ⟨h.cell 0, h.cell 1⟩
theorem pw64 (x n : Nat) : powM bQ x n < 18446744073709551616 := Nat.lt_trans (powM_lt (by decide) _ _) (by decide)
theorem r64 {x : Nat} (h : x < bR) : x < 18446744073709551616 := Nat.lt_trans h (by decide)

end Go.Proofs.YtiecfamjnnmpaaaGreat

/- Signing, walked: Check (sign and greatsealref04). Printed by gen_si3.py. -/
namespace Go.Proofs.YtiecfamjnnmpaaaGreat
set_option linter.unusedVariables false
open Go.RowKit Go.Shelf
attribute [local irreducible] mix hSum hNum

theorem checkN_out {p : Nat} (h : inB p = false) (l : List Nat) (E S : Nat) : checkN p l E S = 1 := by unfold checkN; rw [if_pos h]
theorem checkN_high {p : Nat} (h : inB p = true) (l : List Nat) {E S : Nat} (hE : bR ≤ E ∨ bR ≤ S) : checkN p l E S = 40 := by unfold checkN; rw [if_neg (by rw [h]; decide), if_pos hE]
theorem checkN_in {p : Nat} (h : inB p = true) (l : List Nat) {E S : Nat} (hE : E < bR) (hS : S < bR) : checkN p l E S = if chalN (mulM bQ (powM bQ 4 S) (invM bQ (powM bQ p E))) p l = E then 0 else 40 := by
  unfold checkN; rw [if_neg (by rw [h]; decide), if_neg (by omega)]
theorem checkN_ref {p : Nat} (h : inB p = true) (l : List Nat) {E S : Nat} (hE : E < bR) (hS : S < bR) : checkN p l E S = if chalN (mulM bQ (powM bQ 4 S) (powM bQ p (bR - E))) p l = E then 0 else 40 := by
  rw [checkN_in h l hE hS, inv_pow h E (Nat.le_of_lt hE)]

set_option maxRecDepth 100000 in
set_option maxHeartbeats 1000000 in
theorem Check_any (p : Nat) (hp : p < 18446744073709551616) (E S : Nat) (hE : E < 18446744073709551616) (hS : S < 18446744073709551616) (l : List Nat) (hl : ∀ x ∈ l, x < 256) (h : l.length ≤ 1000) (A : Option Addr) (c0 : Nat) (hc : l.length ≤ c0) (w : World) (hr : Reads w w.heap.size 1 A l.length (bv l)) :
    Calls Tryz.prog 25 #[.int .u64 p, .slice A l.length c0, .agg #[.int .u64 E, .int .u64 S]] w fun e w' => e = .returned (.int .i64 (checkN p l E S : Nat)) ∧ Ext w w' := by
  have cI := fun w => In_any p hp w
  rcases hi : inB p
  · rw [hi] at cI
    rw [checkN_out hi]
    clear hi hp hE hS hl h hc hr
    go_enter Tryz.func25, Tryz.ntmps25
    go_wp2_with (go_at_call 34; refine (cI _).mono ?_; clear cI; rintro e w1 ⟨rfl, x1⟩)
    go_ret
    exact ⟨rfl, ((Ext.refl w).alloc _).trans x1⟩
  · rw [hi] at cI
    by_cases hh : bR ≤ E ∨ bR ≤ S
    · rw [checkN_high hi l hh]
      have k0 : decide ((1152921504606845789 : Int) ≤ max (E : Int) (S : Int)) = true := by unfold bR at hh; simp; omega
      have k1 : (1152921504606845789 : Int) ≤ max (E : Int) (S : Int) := by unfold bR at hh; omega
      clear hi hp hE hS hl h hc hr hh
      go_enter Tryz.func25, Tryz.ntmps25
      go_wp2_with (go_at_call 34; refine (cI _).mono ?_; clear cI; rintro e w1 ⟨rfl, x1⟩; have hb := ext_blk x1 (Blk.new w _ _); obtain ⟨p0, p1⟩ := two hb; have HB := Lib.hid hb; clear hb)
      go_ret
      exact ⟨rfl, ((Ext.refl w).alloc _).trans x1⟩
    · have lE : E < bR := by omega
      have lS : S < bR := by omega
      clear hh
      rw [checkN_in hi l lE lS]
      have k0 : decide ((1152921504606845789 : Int) ≤ max (E : Int) (S : Int)) = false := by unfold bR at lE lS; simp; omega
      have k1 : ¬ (1152921504606845789 : Int) ≤ max (E : Int) (S : Int) := by unfold bR at lE lS; omega
      have c1 := fun w => Pow_any p E hp hE w
      have c2 : ∀ w, Calls Tryz.prog 71 #[.int .u64 (powM bQ p E : Nat)] w fun e w' => e = .returned (.tuple #[.int .u64 (invM bQ (powM bQ p E) : Nat), .int .i64 0]) ∧ Ext w w' := fun w => by
        have := Inv_any (powM bQ p E) w
        rw [invE_ok (inB_ne (inB_pow hi E))] at this
        exact toExt this
      obtain ⟨u, hu⟩ : ∃ u, u = powM bQ p E := ⟨_, rfl⟩
      have lu : u < 18446744073709551616 := by rw [hu]; exact pw64 _ _
      rw [← hu] at c1 c2 ⊢
      obtain ⟨v, hv⟩ : ∃ v, v = invM bQ u := ⟨_, rfl⟩
      have lv : v < 18446744073709551616 := by rw [hv]; exact Nat.lt_trans (invM_lt (by decide) _) (by decide)
      rw [← hv] at c2 ⊢
      have c3 := fun w => Base_any S hS w
      obtain ⟨b, hb⟩ : ∃ b, b = powM bQ 4 S := ⟨_, rfl⟩
      have lb : b < 18446744073709551616 := by rw [hb]; exact pw64 _ _
      rw [← hb] at c3 ⊢
      have c4 := fun w => MulE b v lb lv w
      obtain ⟨m, hm⟩ : ∃ m, m = mulM bQ b v := ⟨_, rfl⟩
      have lm : m < 18446744073709551616 := by rw [hm]; exact Nat.lt_trans (mulM_lt (by decide) _ _) (by decide)
      rw [← hm] at c4 ⊢
      have c5 : ∀ W, Ext w W → Calls Tryz.prog 72 #[.int .u64 (m : Nat), .int .u64 (p : Nat), .slice A l.length c0] W fun e w' => e = .returned (.int .u64 (chalN m p l : Nat)) ∧ Ext W w' := fun W xw =>
        Challenge_any m p lm hp l hl h A c0 hc W ((hr.below xw.out).more xw.size)
      obtain ⟨ch, hch⟩ : ∃ ch, ch = chalN m p l := ⟨_, rfl⟩
      rw [← hch] at c5 ⊢
      clear hch lm hm lb hb lv hv hl h hc hr hp hE hS lE lS lu hu
      rcases Nat.decEq ch E with hne | heq
      · rw [if_neg hne]
        have q0 : ((ch : Int) != (E : Int)) = true := by simp; omega
        have q1 : ((ch : Int) == (E : Int)) = false := by simp; omega
        clear hne hi
        go_enter Tryz.func25, Tryz.ntmps25
        go_wp2_with (first
          | (go_at_call 34; refine (cI _).mono ?_; clear cI; rintro e w1 ⟨rfl, x1⟩; have hb := ext_blk x1 (Blk.new w _ _); obtain ⟨p0, p1⟩ := two hb; have HB := Lib.hid hb; clear hb)
          | (go_at_call 38; refine (c1 _).mono ?_; clear c1; rintro e w2 ⟨rfl, x2⟩)
          | (go_at_call 71; refine (c2 _).mono ?_; clear c2; rintro e w3 ⟨rfl, x3⟩; have hb := ext_blk (x2.trans x3) HB.out; obtain ⟨p2, p3⟩ := two hb; clear hb))
        have y3 : Ext w w3 := ((((Ext.refl w).alloc _).trans x1).trans x2).trans x3
        have i0 := fun i : Later w3 => i.cell p2
        have i1 := fun i : Later w3 => i.cell p3
        clear p0 p1 p2 p3
        refine wp_region_later (by kernel_rfl) (by kernel_rfl) ?_
        repeat (go_big_quiet_step (first
          | (go_at_call 43; exact Later.calls (c3 _))
          | (go_at_call 73; exact Later.calls (c4 _))
          | (go_at_call 72; exact Later.calls (c5 _ (y3.trans (Later.ext _))))))
        refine wpQuiet_nil ?_
        rintro w4 ⟨i, hi⟩
        have x4 : Ext w3 w4 := by rw [hi]; exact i.ext
        clear hi i i0 i1
        go_wp2
        go_ret
        exact ⟨rfl, y3.trans x4⟩
      · subst heq
        rw [if_pos rfl]
        have q0 : ((ch : Int) != (ch : Int)) = false := by simp
        clear hi
        go_enter Tryz.func25, Tryz.ntmps25
        go_wp2_with (first
          | (go_at_call 34; refine (cI _).mono ?_; clear cI; rintro e w1 ⟨rfl, x1⟩; have hb := ext_blk x1 (Blk.new w _ _); obtain ⟨p0, p1⟩ := two hb; have HB := Lib.hid hb; clear hb)
          | (go_at_call 38; refine (c1 _).mono ?_; clear c1; rintro e w2 ⟨rfl, x2⟩)
          | (go_at_call 71; refine (c2 _).mono ?_; clear c2; rintro e w3 ⟨rfl, x3⟩; have hb := ext_blk (x2.trans x3) HB.out; obtain ⟨p2, p3⟩ := two hb; clear hb))
        have y3 : Ext w w3 := ((((Ext.refl w).alloc _).trans x1).trans x2).trans x3
        have i0 := fun i : Later w3 => i.cell p2
        have i1 := fun i : Later w3 => i.cell p3
        clear p0 p1 p2 p3
        refine wp_region_later (by kernel_rfl) (by kernel_rfl) ?_
        repeat (go_big_quiet_step (first
          | (go_at_call 43; exact Later.calls (c3 _))
          | (go_at_call 73; exact Later.calls (c4 _))
          | (go_at_call 72; exact Later.calls (c5 _ (y3.trans (Later.ext _))))))
        refine wpQuiet_nil ?_
        rintro w4 ⟨i, hi⟩
        have x4 : Ext w3 w4 := by rw [hi]; exact i.ext
        clear hi i i0 i1
        go_wp2
        go_ret
        exact ⟨rfl, y3.trans x4⟩
end Go.Proofs.YtiecfamjnnmpaaaGreat

/- Crews, walked: product and what it is told by; weight. -/
namespace Go.Proofs.YtiecfamjnnmpaaaGreat
set_option linter.unusedVariables false
open Go.RowKit Go.Shelf Go.Maps
attribute [local irreducible] atN prodN sumN wantN

set_option maxRecDepth 100000 in
set_option maxHeartbeats 1000000 in
theorem weight_any (l : List (Int × Nat)) (hw : idsWf l) (id : Int) (A : Option Addr) (c : Nat) (hn : l.length ≤ 1099511627776) (w : World) (hr : Reads w w.heap.size 2 A l.length (sv l)) :
    Calls Tryz.prog 39 #[.slice A l.length c, .int .i64 id] w fun e w' => e = .returned (.int .u64 (wgtV (l.map (·.1)) id : Nat)) ∧ Ext w w' := by
  have c1 := who_any l A c hn w hr
  have c2 := fun (W : World) A' c' (hr : Reads W W.heap.size 1 A' (l.map fun s : Int × Nat => s.1).length (iv (l.map fun s : Int × Nat => s.1))) => Weight_any (l.map fun s : Int × Nat => s.1) hw id A' c' (by rw [List.length_map]; exact hn) W hr
  rw [List.length_map] at c2
  unfold wgtR at c2
  obtain ⟨v, hv⟩ : ∃ v, v = wgtV (l.map fun s : Int × Nat => s.1) id := ⟨_, rfl⟩
  obtain ⟨e, he⟩ : ∃ v, v = wgtE (l.map fun s : Int × Nat => s.1) id := ⟨_, rfl⟩
  rw [← hv, ← he] at c2
  rw [← hv]
  clear hr hn hw hv he
  go_enter Tryz.func39, Tryz.ntmps39
  go_wp2_with (first
    | (go_at_call 49; refine c1.mono ?_; clear c1; rintro e w1 ⟨A', c', rfl, _, r1, x1⟩)
    | (go_at_call 95; refine (c2 _ _ _ r1).mono ?_; clear c2; rintro e w2 ⟨rfl, x2⟩))
  go_ret
  exact ⟨rfl, x1.trans x2⟩

theorem chalX_any (x : Int) (n : Nat) (w : World) : Calls Tryz.prog 102 #[.agg #[.int .i64 x, .int .u64 (n : Int)]] w fun e w' => e = .returned (.int .u64 (n : Int)) ∧ Ext w w' := by
  go_enter Tryz.func102, Tryz.ntmps102
  go_wp2
  go_ret
  exact ⟨rfl, (Ext.refl w).alloc _⟩
theorem chalX_enters : Enters Tryz.prog 102 := enters_of Tryz.func102 (by kernel_rfl) rfl

set_option maxRecDepth 100000 in
set_option maxHeartbeats 1000000 in
theorem sumX_any (x : Int) (n u : Nat) (w : World) : Calls Tryz.prog 55 #[.int .u64 (u : Int), .agg #[.int .i64 x, .int .u64 (n : Int)]] w fun e w' => e = .returned (.int .u64 (addM bR u n : Nat)) ∧ Ext w w' := by
  have c1 := fun w => AddRE u n w
  go_enter Tryz.func55, Tryz.ntmps55
  go_wp2_with (go_at_call 24; refine (c1 _).mono ?_; clear c1; rintro e w1 ⟨rfl, x1⟩)
  go_ret
  exact ⟨rfl, ((Ext.refl w).alloc _).trans x1⟩
theorem sumX_enters : Enters Tryz.prog 55 := enters_of Tryz.func55 (by kernel_rfl) rfl

set_option maxRecDepth 100000 in
set_option maxHeartbeats 1000000 in
/-- A part to the power of its weight. -/
theorem chkX_any (l : List (Int × Nat)) (hw : idsWf l) (x : Int) (n : Nat) (hx : n < 18446744073709551616) (p : Nat) (A : Option Addr) (c : Nat) (hn : l.length ≤ 1099511627776) (w : World) (hp : w.cell? ⟨p, 0, none⟩ = some (.slice A l.length c)) (hr : Reads w w.heap.size 2 A l.length (sv l)) :
    Calls Tryz.prog 37 #[.agg #[.int .i64 x, .int .u64 (n : Int)], .pointer (some ⟨p, 0, none⟩)] w fun e w' => e = .returned (.int .u64 (powM bQ n (wgtV (l.map (·.1)) x) : Nat)) ∧ Ext w w' := by
  have c1 := fun (W : World) (h : Ext w W) => weight_any l hw x A c hn W ((hr.below h.out).more h.size)
  have hwl : wgtV (l.map (·.1)) x < bR := by
    unfold wgtV
    split
    · exact atN_lt _ _ _
    · decide
  obtain ⟨v, hv⟩ : ∃ v, v = wgtV (l.map fun s : Int × Nat => s.1) x := ⟨_, rfl⟩
  rw [← hv] at c1 hwl
  have c2 := fun w => Pow_any n v hx (r64 hwl) w
  rw [← hv]
  have HP := Lib.hid hp
  clear hr hn hw hv hwl hp
  go_enter Tryz.func37, Tryz.ntmps37
  have hx0 : Ext w (w.alloc (.cells #[.int .i64 x, .int .u64 (n : Int)] 37)) := (Ext.refl w).alloc _
  have hb := Blk.new w 37 #[.int .i64 x, .int .u64 (n : Int)]
  obtain ⟨q0, q1⟩ := two hb
  have q2 := hx0.cell HP.out
  clear hb hx0
  go_wp2
  obtain ⟨W0, e0⟩ : ∃ W, W = w.alloc (.cells #[.int .i64 x, .int .u64 (n : Int)] 37) := ⟨_, rfl⟩
  have x0 : Ext w W0 := by rw [e0]; exact (Ext.refl w).alloc _
  rw [← e0] at q0 q1 q2 ⊢
  clear e0
  have i0 := fun i : Later W0 => i.cell q0
  have i1 := fun i : Later W0 => i.cell q1
  have i2 := fun i : Later W0 => i.cell q2
  clear q0 q1 q2
  refine wp_region_later (by kernel_rfl) (by kernel_rfl) ?_
  repeat (go_big_quiet_step (first
    | (go_at_call 39; exact Later.calls (c1 _ (x0.trans (Later.ext _))))
    | (go_at_call 38; exact Later.calls (c2 _))))
  refine wpQuiet_nil ?_
  rintro W2 ⟨q, hq⟩
  have x5 : Ext w W2 := by rw [hq]; exact x0.trans q.ext
  clear hq q i0 i1 i2
  go_wp2
  go_ret
  exact ⟨rfl, x5⟩
theorem chkX_enters : Enters Tryz.prog 37 := enters_of Tryz.func37 (by kernel_rfl) rfl

set_option maxRecDepth 100000 in
set_option maxHeartbeats 1000000 in
/-- Times what 'as' tells of one. -/
theorem mulX_any (G : FuncId) (hE : Enters Tryz.prog G) (cap : Array Value) (u x : Nat) (hu : u < 18446744073709551616) (hx : x < 18446744073709551616) (a : Int) (n : Nat) (p : Nat) (w : World) (hp : w.cell? ⟨p, 0, none⟩ = some (.func (.func G) #[] cap))
    (hs : ∀ W, Ext w W → Calls Tryz.prog G (#[.agg #[.int .i64 a, .int .u64 (n : Int)]] ++ cap) W fun e w' => e = .returned (.int .u64 (x : Int)) ∧ Ext W w') :
    Calls Tryz.prog 92 #[.int .u64 (u : Int), .agg #[.int .i64 a, .int .u64 (n : Int)], .pointer (some ⟨p, 0, none⟩)] w fun e w' => e = .returned (.int .u64 (mulM bQ u x : Nat)) ∧ Ext w w' := by
  have c2 := fun w => MulE u x hu hx w
  have x0 : Ext w (w.alloc (.cells #[.int .i64 a, .int .u64 (n : Int)] 37)) := (Ext.refl w).alloc _
  have q2 := x0.cell hp
  unfold Enters at hE
  clear hp hu hx
  go_enter Tryz.func92, Tryz.ntmps92
  go_wp2_with (first
    | (go_at_fn G; refine (hs _ x0).mono ?_; clear hs; rintro e w1 ⟨rfl, x1⟩)
    | (go_at_call 73; refine (c2 _).mono ?_; clear c2; rintro e w2 ⟨rfl, x2⟩))
  go_ret
  exact ⟨rfl, (x0.trans x1).trans x2⟩
theorem mulX_enters : Enters Tryz.prog 92 := enters_of Tryz.func92 (by kernel_rfl) rfl

/-- The product of all, as they are told. -/
def prodBy (g : Int × Nat → Nat) (l : List (Int × Nat)) : Nat := l.foldl (fun o s => mulM bQ o (g s)) 1
theorem prodBy_lt (g : Int × Nat → Nat) (l : List (Int × Nat)) : prodBy g l < bQ := foldl_lt _ bQ (fun o k ho => mulM_lt (by decide) _ _) l 1 (by decide)

set_option maxRecDepth 100000 in
set_option maxHeartbeats 1000000 in
theorem product_any (G : FuncId) (hE : Enters Tryz.prog G) (cap : Array Value) (g : Int × Nat → Nat) (l : List (Int × Nat)) (hg : ∀ s ∈ l, g s < 18446744073709551616) (hn : l.length ≤ 1099511627776) (A : Option Addr) (c : Nat) (w : World) (hr : Reads w w.heap.size 2 A l.length (sv l))
    (hs : ∀ (W : World) (s : Int × Nat), s ∈ l → Ext w W → Calls Tryz.prog G (#[.agg #[.int .i64 s.1, .int .u64 (s.2 : Int)]] ++ cap) W fun e w' => e = .returned (.int .u64 ((g s : Nat) : Int)) ∧ Ext W w') :
    Calls Tryz.prog 36 #[.slice A l.length c, .func (.func G) #[] cap] w fun e w' => e = .returned (.int .u64 (prodBy g l : Nat)) ∧ Ext w w' := by
  have hmf := makeFunc_run
  have c1 : ∀ T, Calls Tryz.prog 54 #[.slice A l.length c, .int .u64 1, .func (.func 92) #[] #[.pointer (some ⟨w.heap.size, 0, none⟩)]] (w.alloc (.cells #[.func (.func G) #[] cap] T)) fun e w' => e = .returned (.int .u64 (prodBy g l : Nat)) ∧ Ext w w' := fun T => by
    have x0 : Ext w (w.alloc (.cells #[.func (.func G) #[] cap] T)) := (Ext.refl w).alloc _
    have hb := (Blk.new w T #[.func (.func G) #[] cap]).cell 0
    refine (over_any _ mulX_enters #[.pointer (some ⟨w.heap.size, 0, none⟩)] (fun o s => mulM bQ o (g s)) l 1 hn A c _ ((hr.below x0.out).more x0.size) fun W k s hk hx => ?_).mono fun e w' h => ⟨h.1, x0.trans h.2⟩
    have hm := List.mem_of_getElem? hk
    exact mulX_any G hE cap _ (g s) (Nat.lt_trans (foldl_lt _ bQ (fun o k ho => mulM_lt (by decide) _ _) _ 1 (by decide)) (by decide)) (hg s hm) s.1 s.2 _ W (hx.cell hb) fun W' hx' => hs W' s hm ((x0.trans hx).trans hx')
  clear hE hr hn hs hg
  go_enter Tryz.func36, Tryz.ntmps36
  go_wp2_with (go_at_call 54; refine (c1 _).mono ?_; clear c1; rintro e w1 ⟨rfl, x1⟩)
  go_ret
  exact ⟨rfl, x1⟩
end Go.Proofs.YtiecfamjnnmpaaaGreat

/- Crews, walked: Check. -/
namespace Go.Proofs.YtiecfamjnnmpaaaGreat
set_option linter.unusedVariables false
open Go.RowKit Go.Shelf Go.Maps
attribute [local irreducible] atN prodN sumN wantN chkN

def idsN (n : Nat) : List Int := (List.range n).map fun i => ((i + 1 : Nat) : Int)
theorem idsN_succ (n : Nat) : idsN (n + 1) = idsN n ++ [((n + 1 : Nat) : Int)] := by simp [idsN, List.range_succ]
theorem idsN_length (n : Nat) : (idsN n).length = n := by simp [idsN]
/-- A crew's parts: in order, and of the group. -/
def rowP (p : List (Int × Nat)) : Prop := p.map (·.1) = idsN p.length ∧ p.all (fun s => inB s.2) = true
instance (p : List (Int × Nat)) : Decidable (rowP p) := by unfold rowP; infer_instance
theorem rowP_nil : rowP [] := ⟨rfl, rfl⟩
theorem rowP_snoc (l : List (Int × Nat)) (s : Int × Nat) : rowP (l ++ [s]) ↔ rowP l ∧ s.1 = ((l.length + 1 : Nat) : Int) ∧ inB s.2 = true := by
  unfold rowP
  rw [List.map_append, List.length_append, List.all_append, List.length_singleton, idsN_succ]
  constructor
  · rintro ⟨h1, h2⟩
    have h3 := List.append_inj h1 (by simp [idsN_length])
    simp at h2 h3
    exact ⟨⟨h3.1, List.all_eq_true.2 fun x hx => by simpa using h2.1 x.1 x.2 hx⟩, by simpa using h3.2, h2.2⟩
  · rintro ⟨⟨h1, h2⟩, h3, h4⟩
    refine ⟨?_, by simp [h2, h4]⟩
    rw [h1]; simp [h3]
theorem rowP_take_succ {l : List (Int × Nat)} {k : Nat} {s : Int × Nat} (hs : l[k]? = some s) : rowP (l.take (k + 1)) ↔ rowP (l.take k) ∧ s.1 = ((k + 1 : Nat) : Int) ∧ inB s.2 = true := by
  have hk := (List.getElem?_eq_some_iff.1 hs).1
  have e : (l.take k).length = k := by rw [List.length_take]; omega
  rw [List.take_add_one, hs, ← e]
  show rowP (l.take (l.take k).length ++ [s]) ↔ _
  rw [e, rowP_snoc, e]
theorem rowP_append {l m : List (Int × Nat)} (h : rowP (l ++ m)) : rowP l := by
  obtain ⟨h1, h2⟩ := h
  rw [List.map_append, List.length_append] at h1
  have e : idsN (l.length + m.length) = idsN l.length ++ (List.range m.length).map fun i => ((l.length + i + 1 : Nat) : Int) := by
    simp [idsN, List.range_add]
  rw [e] at h1
  rw [List.all_append] at h2
  exact ⟨(List.append_inj h1 (by simp [idsN_length])).1, by simp at h2 ⊢; exact h2.1⟩
theorem rowP_not {l : List (Int × Nat)} {k : Nat} (h : ¬ rowP (l.take k)) : ¬ rowP l := fun h' => h (rowP_append (m := l.drop k) (by rw [List.take_append_drop]; exact h'))
/-- The product of all, each to the power of its weight. -/
def jointN (l : List (Int × Nat)) : Nat := prodBy (fun s => powM bQ s.2 (wgtV (l.map (·.1)) s.1)) l
/-- What is wrong with a crew. -/
def crewN (t n : Int) (k : Nat) (p : List (Int × Nat)) : Nat :=
  if t < 1 ∨ n < t ∨ 7 < n ∨ (p.length : Int) ≠ n ∨ inB k = false then 1
  else if ¬ rowP p then 1
  else if chkN t p ≠ 0 then chkN t p
  else if jointN (p.take t.toNat) = k then 0 else 60
theorem crew_out {t n : Int} {k : Nat} {p : List (Int × Nat)} (h : t < 1 ∨ n < t ∨ 7 < n ∨ (p.length : Int) ≠ n ∨ inB k = false) : crewN t n k p = 1 := by unfold crewN; rw [if_pos h]
theorem crew_row {t n : Int} {k : Nat} {p : List (Int × Nat)} (h : ¬ rowP p) : crewN t n k p = 1 := by unfold crewN; split; rfl; first | rfl | rw [if_pos h]
theorem crew_rest {t n : Int} {k : Nat} {p : List (Int × Nat)} (h1 : ¬ t < 1) (h2 : ¬ n < t) (h3 : ¬ 7 < n) (h4 : (p.length : Int) = n) (h5 : inB k = true) (h : rowP p) : crewN t n k p = if chkN t p ≠ 0 then chkN t p else if jointN (p.take t.toNat) = k then 0 else 60 := by
  unfold crewN
  rw [if_neg (by rintro (h | h | h | h | h); exact h1 h; exact h2 h; exact h3 h; exact h h4; rw [h5] at h; cases h), if_neg (by simpa using h)]
theorem arr4 {W : World} {g : Nat} {T : TypeId} {a b c d : Value} (h : Blk W g T #[a, b, c, d]) : W.cell? ⟨g, 0, none⟩ = some a ∧ W.cell? ⟨g, 1, none⟩ = some b ∧ W.cell? ⟨g, 2, none⟩ = some c ∧ W.cell? ⟨g, 3, none⟩ = some d := ⟨h.cell 0, h.cell 1, h.cell 2, h.cell 3⟩

theorem jointN_lt (l : List (Int × Nat)) : jointN l < bQ := prodBy_lt _ _

set_option maxRecDepth 100000 in
set_option maxHeartbeats 4000000 in
theorem quCheck_any (t n : Int) (k : Nat) (hk : k < 18446744073709551616) (p : List (Int × Nat)) (hw : idsWf p) (hX : ∀ s ∈ p, s.2 < 18446744073709551616) (A : Option Addr) (c : Nat) (hc : p.length ≤ c) (hn : p.length ≤ 1099511627776) (w : World) (hr : Reads w w.heap.size 2 A p.length (sv p)) :
    Calls Tryz.prog 13 #[.agg #[.int .i64 t, .int .i64 n, .int .u64 (k : Int), .slice A p.length c]] w fun e w' => e = .returned (.int .i64 (crewN t n k p : Nat)) ∧ Ext w w' := by
  by_cases t1 : t < 1
  · rw [crew_out (.inl t1)]
    clear hr hX hw hn hc hk
    go_enter Tryz.func13, Tryz.ntmps13
    go_wp2
    go_ret
    exact ⟨rfl, (Ext.refl w).alloc _⟩
  by_cases t2 : n < t
  · rw [crew_out (.inr (.inl t2))]
    clear hr hX hw hn hc hk
    go_enter Tryz.func13, Tryz.ntmps13
    go_wp2
    go_ret
    exact ⟨rfl, (Ext.refl w).alloc _⟩
  by_cases t3 : 7 < n
  · rw [crew_out (.inr (.inr (.inl t3)))]
    clear hr hX hw hn hc hk
    go_enter Tryz.func13, Tryz.ntmps13
    go_wp2
    go_ret
    exact ⟨rfl, (Ext.refl w).alloc _⟩
  by_cases t4 : (p.length : Int) = n
  case neg =>
    rw [crew_out (.inr (.inr (.inr (.inl t4))))]
    have d : ((p.length : Int) != n) = true := by simpa using t4
    clear hr hX hw hn hc hk
    go_enter Tryz.func13, Tryz.ntmps13
    go_wp2
    go_ret
    exact ⟨rfl, (Ext.refl w).alloc _⟩
  subst t4
  have cI := fun w => In_any k hk w
  cases hi : inB k with
  | false =>
    rw [hi] at cI
    rw [crew_out (.inr (.inr (.inr (.inr hi))))]
    clear hr hX hw hn hc hk hi
    go_enter Tryz.func13, Tryz.ntmps13
    go_wp2_with (go_at_call 34; refine (cI _).mono ?_; clear cI; rintro e w1 ⟨rfl, x1⟩)
    go_ret
    exact ⟨rfl, ((Ext.refl w).alloc _).trans x1⟩
  | true =>
    rw [hi] at cI
    obtain ⟨tn, rfl⟩ : ∃ n : Nat, t = n := ⟨t.toNat, by omega⟩
    have hk7 : tn ≤ p.length ∧ p.length ≤ 7 ∧ 1 ≤ tn := by omega
    have kr := fun h => crew_rest (t := tn) (n := p.length) (k := k) (p := p) t1 t2 t3 rfl hi h
    rw [Int.toNat_natCast] at kr
    have HK := Lib.hid kr
    have H7 := Lib.hid hk7
    have hr0 : Hid (Reads w w.heap.size 2 A p.length (sv p)) := Lib.hid hr
    have HXL := Lib.hid hX
    have HN := Lib.hid hn
    have HC := Lib.hid hc
    have HW := Lib.hid hw
    clear hr hX hn hc hw hi kr hk7 hk
    go_enter Tryz.func13, Tryz.ntmps13
    go_wp2_with (go_at_call 34; refine (cI _).mono ?_; clear cI; rintro e w1 ⟨rfl, x1⟩; have X1 := Lib.hid (((Ext.refl w).alloc _).trans x1); have hb := ext_blk x1 (Blk.new w _ _); obtain ⟨b0, b1, b2, b3⟩ := arr4 hb; have HB := Lib.hid hb; clear hb x1)
    go_loopg [39] p.length (fun m s39 wr => ∃ j : Nat, j + m = p.length ∧ s39 = .int .i64 j ∧ rowP (p.take j) ∧ Ext w1 wr)
    case atStart => exact ⟨0, by omega, rfl, rowP_nil, Ext.refl _⟩
    case round =>
      obtain ⟨j, hj, rfl, hok, hx⟩ := hrel
      by_cases h : j < p.length
      · obtain ⟨s, hs⟩ : ∃ s, p[j]? = some s := ⟨_, List.getElem?_eq_getElem h⟩
        obtain ⟨ad, rfl, hlt, q0, q1⟩ := reads_share (hr0.out.below (X1.out.trans hx).out) hs
        have hjb : (j : Int) ≤ 7 := by have := H7.out; omega
        have ci := fun W => In_any s.2 (HXL.out s (List.mem_of_getElem? hs)) W
        have hst := rowP_take_succ hs
        have HX := Lib.hid hx
        have HJ := Lib.hid hj
        have HO := Lib.hid hok
        have HT := Lib.hid hst
        have kw : IntKind.i64.wrap ((j : Int) + 1) = ((j + 1 : Nat) : Int) := by rw [IntKind.wrap_i64] <;> omega
        clear hx hj hok hst hs
        by_cases h1 : s.1 = ((j + 1 : Nat) : Int)
        · cases hb : inB s.2 with
          | false =>
            have kk : Hid (crewN tn p.length k p = 1) := Lib.hid (crew_row (rowP_not (k := j + 1) fun h => by have := (HT.out.1 h).2.2; rw [hb] at this; cases this))
            rw [hb] at ci
            rw [h1] at q0
            have d1 : decide (s.1 = (j : Int) + 1) = true := by simp [h1]
            clear hb
            go_wp2_with (go_at_call 34; refine (ci _).mono ?_; clear ci; rintro e w3 ⟨rfl, x3⟩)
            go_ret
            exact ⟨by rw [kk.out]; rfl, X1.out.trans ((HX.out.alloc _).trans x3)⟩
          | true =>
            have hok' : Hid (rowP (p.take (j + 1))) := Lib.hid (HT.out.2 ⟨HO.out, h1, hb⟩)
            rw [hb] at ci
            rw [h1] at q0
            clear hb h1
            go_wp2_with (go_at_call 34; refine (ci _).mono ?_; clear ci; rintro e w3 ⟨rfl, x3⟩)
            have hj := HJ.out
            go_roundg (gk - 1)
            case measure => omega
            case rel => exact ⟨j + 1, by omega, int_congr (by omega), hok'.out, (HX.out.alloc _).trans x3⟩
        · have kk : Hid (crewN tn p.length k p = 1) := Lib.hid (crew_row (rowP_not (k := j + 1) fun h => h1 (HT.out.1 h).2.1))
          have d1 : (s.1 != (j : Int) + 1) = true := by simp; omega
          clear ci
          go_wp2
          go_ret
          exact ⟨by rw [kk.out]; rfl, X1.out.trans (HX.out.alloc _)⟩
      · obtain rfl : j = p.length := by omega
        rw [List.take_length] at hok
        have kk := HK.out hok
        have c2 := fun (W : World) (x : Ext w W) => shCheck_any (tn : Int) p HW.out HXL.out A c HC.out HN.out W ((hr0.out.below x.out).more x.size)
        obtain ⟨u, hu⟩ : ∃ u, u = chkN (tn : Int) p := ⟨_, rfl⟩
        rw [← hu] at c2 kk
        have X2 := Lib.hid (X1.out.trans hx)
        have B2 := Lib.hid (ext_blk hx HB.out)
        obtain ⟨a0, a1, a2, a3⟩ := arr4 B2.out
        clear b0 b1 b2 b3 hx hj hok hu
        by_cases h0 : u = 0
        · rw [h0] at c2
          rw [if_neg (by rw [h0]; decide)] at kk
          obtain ⟨A1, e1, r1⟩ := first_reads hr0.out H7.out.1 HC.out
          have s1 : ∀ W : World, (Instr.slice 24 (.slice A p.length c) none (some (.int .i64 (tn : Int))) none).run Tryz.prog W = .ok (.slice A1 (p.take tn).length c) W := fun W => by rw [slice_hS A p.length c tn (Nat.le_trans H7.out.1 HC.out), e1]
          obtain ⟨fl, hfl⟩ : ∃ q, q = p.take tn := ⟨_, rfl⟩
          have hfx : ∀ s ∈ fl, s.2 < 18446744073709551616 := fun s hs => by rw [hfl] at hs; exact HXL.out s (List.mem_of_mem_take hs)
          have hfw : idsWf fl := fun i hi => by
            rw [hfl] at hi
            obtain ⟨s, hs, rfl⟩ := List.mem_map.1 hi
            exact HW.out _ (List.mem_map.2 ⟨s, List.mem_of_mem_take hs, rfl⟩)
          have hfn : fl.length ≤ 1099511627776 := by have := HN.out; rw [hfl, List.length_take]; omega
          rw [← hfl] at s1 r1 kk
          have c3 := fun (W : World) (pp : Nat) (x : Ext w W) (hp : W.cell? ⟨pp, 0, none⟩ = some (.slice A1 fl.length c)) =>
            product_any _ chkX_enters #[.pointer (some ⟨pp, 0, none⟩)] (fun s : Int × Nat => powM bQ s.2 (wgtV (fl.map fun s : Int × Nat => s.1) s.1)) fl (fun s _ => pw64 _ _) hfn A1 c W ((r1.below x.out).more x.size)
              (fun W' s hs x' => chkX_any fl hfw s.1 s.2 (hfx s hs) pp A1 c hfn W' (x'.cell hp) ((r1.below (x.trans x').out).more (x.trans x').size))
          obtain ⟨v, hv⟩ : ∃ v, v = jointN fl := ⟨_, rfl⟩
          unfold jointN at hv
          rw [← hv] at c3
          rw [show jointN fl = v from hv.symm] at kk
          have HKK := Lib.hid kk
          clear hfl hfx hfw hfn kk hv h0 r1 e1
          have hmf := makeFunc_run
          go_wp2_with (go_at_call 35; refine (c2 _ X2.out).mono ?_; clear c2; rintro e w4 ⟨rfl, x4⟩; have B4 := Lib.hid (ext_blk x4 B2.out); obtain ⟨d0, d1, d2, d3⟩ := arr4 B4.out)
          obtain ⟨W0, e0⟩ : ∃ W, W = w4.alloc (.cells #[.slice A1 fl.length c] 24) := ⟨_, rfl⟩
          have g0 := (Blk.new w4 24 #[.slice A1 fl.length c]).cell 0
          rw [← e0] at g0 ⊢
          have x0 : Ext w4 W0 := by rw [e0]; exact (Ext.refl w4).alloc _
          have X0 := Lib.hid ((X2.out.trans x4).trans x0)
          have k0 := x0.cell d2
          clear x4 x0 e0 d0 d1 d2 d3 a0 a1 a2 a3
          have g0' : W0.drew.cell? ⟨w4.heap.size, 0, none⟩ = some (.slice A1 fl.length c) := g0
          by_cases hvk : v = k
          · have d5 : ((v : Int) != (k : Int)) = false := by simp [hvk]
            have HKK2 : Hid (crewN (tn : Int) p.length k p = 0) := Lib.hid (by rw [HKK.out, if_pos hvk])
            clear hvk
            go_region_with (go_at_call 36; refine (c3 W0.drew w4.heap.size X0.out.drew g0').mono ?_; clear c3; rintro e w5 ⟨rfl, x5⟩; have k1 := x5.cell k0)
            all_goals (
              go_wp2
              go_ret
              exact ⟨by rw [HKK2.out]; rfl, X0.out.drew.trans x5⟩)
          · have d5 : ((v : Int) != (k : Int)) = true := by simp; omega
            have HKK2 : Hid (crewN (tn : Int) p.length k p = 60) := Lib.hid (by rw [HKK.out, if_neg hvk])
            clear hvk
            go_region_with (go_at_call 36; refine (c3 W0.drew w4.heap.size X0.out.drew g0').mono ?_; clear c3; rintro e w5 ⟨rfl, x5⟩; have k1 := x5.cell k0)
            all_goals (
              go_wp2
              go_ret
              exact ⟨by rw [HKK2.out]; rfl, X0.out.drew.trans x5⟩)
        · have h1 : ((u : Int) != 0) = true := by simp; omega
          rw [if_pos h0] at kk
          have HKK := Lib.hid kk
          clear kk h0
          go_wp2_with (go_at_call 35; refine (c2 _ X2.out).mono ?_; clear c2; rintro e w4 ⟨rfl, x4⟩)
          go_ret
          exact ⟨by rw [HKK.out]; rfl, X2.out.trans x4⟩
end Go.Proofs.YtiecfamjnnmpaaaGreat
