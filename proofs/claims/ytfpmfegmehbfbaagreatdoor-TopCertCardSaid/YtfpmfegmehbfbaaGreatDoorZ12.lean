/- Parts of the proofs, put together: HaTag, ShB, HaPair, HaRefB, Sh, SiMath, HaRefN, HaOfS, HaRefOf, HaRefS, HaRefT, Si, Si2, KSet. -/
import Derived.Maps.OwnSet
import Derived.Maps.OwnOps
import Derived.Maps.Views
import Derived.Deep.RegionWith
import Derived.BigRegion
import Derived.Deep.RegionHeld3
import Derived.Maps.Own
import Derived.IntWalk
import Derived.StringKeys
import Derived.Test.YtfpmfegmehbfbaaGreatDoorZ1
import Derived.Test.YtfpmfegmehbfbaaGreatDoorZ5
import Derived.Test.YtfpmfegmehbfbaaGreatDoorZ9
import Derived.Test.YtfpmfegmehbfbaaGreatDoorZ10
import Derived.Test.YtfpmfegmehbfbaaGreatDoorZ11
import Derived.Test.YtfpmfegmehbfbaaGreatDoorZ16
import Derived.Test.YtfpmfegmehbfbaaGreatDoorZ18
/- The hash, walked: Tagged. -/
namespace Go.Proofs.YtfpmfegmehbfbaaGreatDoor
open Go.RowKit Go.Shelf

/-- What a tag and parts are hashed as. -/
def coded (tag : List Nat) (parts : List (List Nat)) : List Nat := tag.length % 256 :: tag ++ parts.flatMap fun p => be p.length 4 ++ p
theorem coded_snoc (tag : List Nat) (ps : List (List Nat)) (p : List Nat) : coded tag (ps ++ [p]) = coded tag ps ++ be p.length 4 ++ p := by simp [coded, List.flatMap_append]
theorem coded_nil (tag : List Nat) : coded tag [] = tag.length % 256 :: tag := by simp [coded]
theorem be_lt (n k : Nat) : ∀ x ∈ be n k, x < 256 := by
  intro x hx
  simp only [be, beN, List.mem_map] at hx
  obtain ⟨_, _, rfl⟩ := hx
  exact Nat.mod_lt _ (by decide)
theorem coded_lt (tag : List Nat) (ht : ∀ x ∈ tag, x < 256) (ps : List (List Nat)) (hp : ∀ p ∈ ps, ∀ x ∈ p, x < 256) : ∀ x ∈ coded tag ps, x < 256 := by
  intro x hx
  simp only [coded, List.cons_append, List.mem_cons, List.mem_append, List.mem_flatMap] at hx
  rcases hx with rfl | hx | ⟨p, hp', hx | hx⟩
  · exact Nat.mod_lt _ (by decide)
  · exact ht x hx
  · exact be_lt _ _ x hx
  · exact hp p hp' x hx

/-- Parts that lie in memory. -/
def Parts (w : World) (B : Nat) (A : Option Addr) (ps : List (List Nat)) : Prop :=
  ∃ vs : List Value, Reads w B 1 A ps.length vs ∧ ∀ (j : Nat) (p : List Nat), ps[j]? = some p → ∃ a c, vs[j]? = some (Value.slice a p.length c) ∧ p.length ≤ c ∧ Reads w B 1 a p.length (bv p)
theorem Parts.keep {w w' : World} {B : Nat} {A : Option Addr} {ps : List (List Nat)} (h : Parts w B A ps) (hk : ∀ p : Addr, p.block < B → w'.cell? p = w.cell? p) : Parts w' B A ps := by
  obtain ⟨vs, h1, h2⟩ := h
  exact ⟨vs, h1.keep hk, fun j p hj => by obtain ⟨a, c, e, hc, hr⟩ := h2 j p hj; exact ⟨a, c, e, hc, hr.keep hk⟩⟩
theorem Parts.below {w w' : World} {B : Nat} {A : Option Addr} {ps : List (List Nat)} (h : Parts w B A ps) (hb : Below B w w') : Parts w' B A ps := h.keep fun _ hp => hb.cell hp
theorem Parts.at_ {w : World} {B : Nat} {A : Option Addr} {ps : List (List Nat)} (h : Parts w B A ps) {j : Nat} {p : List Nat} (hj : ps[j]? = some p) :
    ∃ ad a c, A = some ad ∧ w.cell? (ad.add j) = some (.slice a p.length c) ∧ p.length ≤ c ∧ Reads w B 1 a p.length (bv p) := by
  obtain ⟨vs, h1, h2⟩ := h
  obtain ⟨a, c, e, hc, hr⟩ := h2 j p hj
  obtain ⟨ad, u, ha, _, hu, hcell⟩ := h1.at_ (k := j) (List.getElem?_eq_some_iff.1 hj).1
  rw [e] at hu
  cases hu
  exact ⟨ad, a, c, ha, hcell, hc, hr⟩
theorem own_slice {w : World} {base : Nat} {e : TypeId} {n : Nat} {v : Value} {xs : List Value} (h : w.ownsRow base e 1 v n xs) : ∃ A c, v = .slice A n c ∧ n ≤ c ∧ Reads w w.heap.size 1 A n xs := by
  rcases h.2 with ⟨rfl, h0⟩ | ⟨g, cap, cur, rfl, _, _, hc⟩
  · exact ⟨none, 0, by rw [h0], by omega, Reads.of_own (c := 0) (by rw [h0] at h ⊢; exact h)⟩
  · exact ⟨_, cap, rfl, hc.1, Reads.of_own h⟩
theorem own_new (w : World) (base g : Nat) (hg : g = w.heap.size) (hb : base ≤ g) (e : TypeId) (u : Value) : (w.alloc (.cells #[u] e)).ownsRow base e 1 (.slice (some ⟨g, 0, none⟩) 1 1) 1 [u] := by
  subst hg
  exact ⟨rfl, .inr ⟨w.heap.size, 1, #[u], rfl, hb, heap_alloc_new w _, Nat.le_refl _, by simp [maxLen], rfl, rfl⟩⟩

theorem coded_take_le (tag : List Nat) (ps : List (List Nat)) (j : Nat) : (coded tag (ps.take j)).length ≤ (coded tag ps).length := by
  have e : coded tag ps = coded tag (ps.take j) ++ (ps.drop j).flatMap fun p => be p.length 4 ++ p := by
    unfold coded
    rw [List.append_assoc, ← List.flatMap_append, List.take_append_drop]
  rw [e, List.length_append]
  omega

set_option maxRecDepth 100000 in
set_option maxHeartbeats 1000000 in
theorem Tagged_any (tag : ByteArray) (ps : List (List Nat)) (hps : ∀ p ∈ ps, ∀ x ∈ p, x < 256) (A : Option Addr) (c : Nat) (w : World) (hr : Parts w w.heap.size A ps) (htot : (coded (strN tag) ps).length ≤ 1099511627776) :
    Calls Tryz.prog 65 #[.string tag, .slice A ps.length c] w fun e w' => e = .returned (.agg #[.int .u64 ((hSum (coded (strN tag) ps)).1 : Int), .int .u64 ((hSum (coded (strN tag) ps)).2 : Int)]) ∧ Ext w w' := by
  obtain ⟨i0, hi, hz0, hz1, hz2⟩ := info_parts Tryz.infoU8
  have hall := coded_lt (strN tag) (strN_lt tag) ps hps
  have htl : tag.size + 1 ≤ (coded (strN tag) ps).length := by
    have := coded_take_le (strN tag) ps 0
    rw [List.take_zero, coded_nil, List.length_cons, strN_length] at this
    exact this
  have hcc := coded_take_le (strN tag) ps
  have hc0 : coded (strN tag) [] = tag.size % 256 :: strN tag := by rw [coded_nil, strN_length]
  obtain ⟨tot, ht⟩ : ∃ tot, tot = (coded (strN tag) ps).length := ⟨_, rfl⟩
  rw [← ht] at htot htl hcc
  have hpl : ps.length ≤ tot := by
    rw [ht, coded, List.length_append, List.length_flatMap]
    have : ps.length ≤ (ps.map fun p => (be p.length 4 ++ p).length).sum := by
      clear ht hcc hc0 htl hall hr hps htot
      induction ps with
      | nil => simp
      | cons p ps ih =>
        simp only [List.length_cons, List.map_cons, List.sum_cons]
        rw [List.length_append, be_length]
        omega
    omega
  have k1 : IntKind.u8.wrap (tag.size : Int) = ((tag.size % 256 : Nat) : Int) := by rw [IntKind.wrap_u8]; omega
  obtain ⟨d, hd⟩ : ∃ d, d = tag.size % 256 := ⟨_, rfl⟩
  rw [← hd] at k1 hc0
  have HD := Lib.hid hd
  have HT := Lib.hid ht
  have HC := Lib.hid hcc
  have HA := Lib.hid hall
  have HR := Lib.hid hr
  clear hd ht hcc hall hr
  go_enter Tryz.func65, Tryz.ntmps65
  go_wp2_with (at_builtin; refine wpList_append_own_src _ rfl (.tmp 11) (.tmp 12) 22 9 rfl (w.heap.size + 1) 5 i0 (.int .u8 0) 1 1 Tryz.underlying22 hi hz0 hz1 hz2 rfl (.slice (some ⟨w.heap.size + 1, 0, none⟩) 1 1) _ _ rfl (own_new (w.alloc (.cells #[.int .u64 0, .int .u64 0] 34)) (w.heap.size + 1) (w.heap.size + 1) (by simp) (Nat.le_refl _) 5 (.int .u8 (d : Int))) (.string tag) tag.size (byteCells tag) rfl (Src.ofString _ Tryz.underlying9 tag) (by simp only [maxLen]; omega) (by omega) (by simp) (by simp) ?_; intro v1 w1 hown1 hg1 _)
  have hb1 : Below (w.heap.size + 1) (w.alloc (.cells #[.int .u64 0, .int .u64 0] 34)) w1 := ((Below.refl _ _).alloc (by simp) _).grown hg1 (by simp) (fun k e => by simp [Value.ownBlock] at e; omega)
  have hx1 : Hid (Ext w w1) := Lib.hid (((Ext.refl w).alloc _).trans (Ext.of (by simpa using hb1)))
  have hbox : Hid (Blk w1 w.heap.size 34 #[.int .u64 0, .int .u64 0]) := Lib.hid ((Blk.new w _ _).below hb1 (Nat.lt_succ_self _))
  have hsz : w.heap.size + 1 ≤ w1.heap.size := by have := hb1.size; simp at this; omega
  have ho : Hid (w1.ownsRow (w.heap.size + 1) 5 1 v1 (coded (strN tag) (ps.take 0)).length (bv (coded (strN tag) (ps.take 0)))) := by
    show World.ownsRow _ _ _ _ _ _ _
    rw [List.take_zero, hc0, List.length_cons, strN_length, Nat.add_comm tag.size 1]
    have e : bv (d :: strN tag) = [.int .u8 (d : Int)] ++ byteCells tag := by rw [byteCells_strN]; rfl
    rw [e]
    exact hown1
  clear hown1 hg1 hb1 hc0 k1
  go_loopg [5, 16] ps.length (fun m s5 s16 wr => ∃ j : Nat, j + m = ps.length ∧ s16 = .int .i64 j ∧ wr.ownsRow (w.heap.size + 1) 5 1 s5 (coded (strN tag) (ps.take j)).length (bv (coded (strN tag) (ps.take j))) ∧ Ext w wr ∧ Blk wr w.heap.size 34 #[.int .u64 0, .int .u64 0] ∧ w.heap.size + 1 ≤ wr.heap.size)
  case atStart => exact ⟨0, by omega, rfl, ho.out, hx1.out, hbox.out, hsz⟩
  case round =>
    obtain ⟨j, hj, rfl, hown, hx, hb, hs⟩ := hrel
    clear ho hx1 hbox hsz
    by_cases h : j < ps.length
    · obtain ⟨p, hp⟩ : ∃ p, ps[j]? = some p := ⟨_, List.getElem?_eq_getElem h⟩
      obtain ⟨ad, a, c', rfl, hcell, hpc, hrp⟩ := (HR.out.below hx.out).at_ hp
      have hle := HC.out (j + 1)
      have ht1 : ps.take (j + 1) = ps.take j ++ [p] := by rw [List.take_add_one, hp]; rfl
      rw [ht1, coded_snoc] at hle
      simp only [List.length_append, be_length] at hle
      obtain ⟨l, hl⟩ : ∃ l, l = coded (strN tag) (ps.take j) := ⟨_, rfl⟩
      rw [← hl] at hown hle
      have HN : Hid (coded (strN tag) (ps.take (j + 1)) = l ++ be p.length 4 ++ p) := by show _ = _; rw [ht1, coded_snoc, hl]
      have c1 := put_any (w.heap.size + 1) u5 l p.length 4 (by decide) wr hown hs (by omega)
      have hpt : (p.length : Int) ≤ 1099511627776 := by omega
      have HLE := Lib.hid hle
      have HJ := Lib.hid hj
      have HX := Lib.hid hx
      have HB := Lib.hid hb
      have HS := Lib.hid hs
      clear hle hj hx hb hs ht1 hl hp htl
      go_wp2_with (first
        | (go_at_call 142; refine c1.mono ?_; clear c1; rintro e w2 ⟨v2, rfl, o2, b2⟩)
        | (at_builtin; refine wpList_append_any _ rfl (.tmp 24) (.tmp 25) 22 rfl (w.heap.size + 1) 5 i0 (.int .u8 0) 1 1 Tryz.underlying22 hi hz0 hz1 hz2 rfl (by decide) v2 _ _ rfl o2 w.heap.size a p.length c' (bv p) rfl (hrp.below (b2.mono (Nat.le_succ _))) (bv_one p) (by have := HLE.out; simp only [maxLen, List.length_append, be_length]; omega) (by have := HLE.out; simp only [List.length_append, be_length]; omega) (by have := HS.out; have := b2.size; omega) ?_; intro v3 w3 hown3 hg3 _))
      have hb3 : Below (w.heap.size + 1) wr w3 := b2.grown hg3 (by have := HS.out; have := b2.size; omega) (own_ge o2)
      have O3 : Hid (w3.ownsRow (w.heap.size + 1) 5 1 v3 (coded (strN tag) (ps.take (j + 1))).length (bv (coded (strN tag) (ps.take (j + 1))))) := by
        show World.ownsRow _ _ _ _ _ _ _
        rw [HN.out, show (l ++ be p.length 4 ++ p).length = (l ++ be p.length 4).length + p.length from List.length_append, show bv (l ++ be p.length 4 ++ p) = bv (l ++ be p.length 4) ++ bv p from bv_append _ _]
        exact hown3
      have X3 : Ext w w3 := Below.trans HX.out (hb3.mono (Nat.le_succ _))
      have B3 := HB.out.below hb3 (Nat.lt_succ_self _)
      have hj := HJ.out
      have S3 : w.heap.size + 1 ≤ w3.heap.size := Nat.le_trans HS.out hb3.size
      clear hown3 hg3 hb3 o2 b2 hown
      go_roundg (gk - 1)
      case measure => omega
      case rel => exact ⟨j + 1, by omega, int_congr (by omega), O3.out, X3, B3, S3⟩
    · obtain rfl : j = ps.length := by omega
      rw [List.take_length] at hown
      obtain ⟨A', c', rfl, hc', hr'⟩ := own_slice hown
      have cS := Sum_any (coded (strN tag) ps) HA.out (by rw [← HT.out]; exact htot) A' c' hc' wr hr'
      have q0 := hb.cell 0
      have q1 := hb.cell 1
      have p0 := hb.frozen 0
      have p1 := hb.frozen 1
      simp at q0 q1
      obtain ⟨n, hn⟩ : ∃ n, n = (coded (strN tag) ps).length := ⟨_, rfl⟩
      obtain ⟨r1, hr1⟩ : ∃ r, r = (hSum (coded (strN tag) ps)).1 := ⟨_, rfl⟩
      obtain ⟨r2, hr2⟩ : ∃ r, r = (hSum (coded (strN tag) ps)).2 := ⟨_, rfl⟩
      rw [← hn, ← hr1, ← hr2] at cS
      rw [← hn]
      have HR1 := Lib.hid hr1
      have HR2 := Lib.hid hr2
      have HX := Lib.hid hx
      have HB := Lib.hid hb
      clear hn hr1 hr2 hown hr' hx hc' hj h
      go_wp2_with (go_at_call 143; refine cS.mono ?_; clear cS; rintro e w2 ⟨rfl, x2⟩; have q0 := (HB.out.below x2.out HB.out.lt).cell 0; have q1 := (HB.out.below x2.out HB.out.lt).cell 1; have p0 := (HB.out.below x2.out HB.out.lt).frozen 0; have p1 := (HB.out.below x2.out HB.out.lt).frozen 1; simp at q0 q1)
      refine bodyPost_ret (v := .agg #[.int .u64 (r1 : Int), .int .u64 (r2 : Int)]) (by simp [results, Tryz.results65, go_sem, q0, q1]) rfl ⟨by rw [HR1.out, HR2.out], ?_⟩
      exact ((HX.out.trans x2).setCell (p := ⟨w.heap.size, 0, none⟩) (Nat.le_refl _) _).setCell (p := ⟨w.heap.size, 1, none⟩) (Nat.le_refl _) _
end Go.Proofs.YtfpmfegmehbfbaaGreatDoor

/- Shares in memory; a set of numbers as a map to bool. -/
namespace Go.Proofs.YtfpmfegmehbfbaaGreatDoor
set_option linter.unusedVariables false
set_option linter.unusedSimpArgs false
open Go.RowKit Go.Shelf Go.Maps

/-! ### lists of ids, of shares, as cells -/
def iv (l : List Int) : List Value := l.map (Value.int .i64)
section
variable {w : World} {B n : Nat} {A : Option Addr}
end

/-! ### a set of numbers -/
section
variable {H : Type} {P : Program}
theorem plainElem_bool_inv {e : TypeId} (he : P.underlying e = some .bool) {v : Value} {z : DataW H × List MemPlace} (h : plainElem P e v = some z) : ∃ a, v = .bool a ∧ z = (.lit (.bool a), []) := by
  unfold plainElem at h
  rw [he] at h
  cases v <;> simp at h
  exact ⟨_, rfl, h.symm⟩
def keys (l : List Int) : List Lit := l.map (Lit.int .i64)
end
def tt : DataW Unit := .lit (.bool true)
theorem zeroB (w : World) : (zeroValue 4).run Tryz.prog w = .ok (.bool false) w := by kernel_rfl
end Go.Proofs.YtfpmfegmehbfbaaGreatDoor

/- The hash, walked: Pair. -/
namespace Go.Proofs.YtfpmfegmehbfbaaGreatDoor
open Go.RowKit Go.Shelf

theorem ext_blk {W W' : World} {g : Nat} {T : TypeId} {cs : Array Value} (x : Ext W W') (h : Blk W g T cs) : Blk W' g T cs := h.below x.out h.lt
end Go.Proofs.YtfpmfegmehbfbaaGreatDoor

/- The document's hash, walked: Eight, Bytes, number. -/
namespace Go.Proofs.YtfpmfegmehbfbaaGreatDoor
set_option linter.unusedVariables false
set_option linter.unusedSimpArgs false
open Go.RowKit Go.Shelf

/-- The number of eight bytes. -/
def num8 (l : List Nat) : Nat := l.foldl (fun n b => n * 256 + b) 0
theorem own_ext {w w' : World} {base : Nat} {e : TypeId} {size n : Nat} {v : Value} {xs : List Value} (h : w.ownsRow base e size v n xs) (x : Ext w w') : w'.ownsRow base e size v n xs := by
  refine ⟨h.1, ?_⟩
  rcases h.2 with h0 | ⟨g, cap, cur, e1, hb, hg, hc⟩
  · exact .inl h0
  · exact .inr ⟨g, cap, cur, e1, hb, (x.out.block g (Array.getElem?_eq_some_iff.1 hg).1).trans hg, hc⟩
theorem own_base {w : World} {base base' : Nat} {e : TypeId} {size n : Nat} {v : Value} {xs : List Value} (h : w.ownsRow base e size v n xs) (hb : base' ≤ base) : w.ownsRow base' e size v n xs := by
  refine ⟨h.1, ?_⟩
  rcases h.2 with h0 | ⟨g, cap, cur, e1, hb', hg⟩
  · exact .inl h0
  · exact .inr ⟨g, cap, cur, e1, Nat.le_trans hb hb', hg⟩

end Go.Proofs.YtfpmfegmehbfbaaGreatDoor

/- Shares, walked: id, mapped, right, Ids, Right, below. -/
namespace Go.Proofs.YtfpmfegmehbfbaaGreatDoor
set_option linter.unusedVariables false
set_option linter.unusedSimpArgs false
open Go.RowKit Go.Shelf Go.Maps

/-- A literal of no elements. -/
theorem own_empty (w : World) (base g : Nat) (hg : g = w.heap.size) (hb : base ≤ g) (e : TypeId) (size : Nat) : (w.alloc (.cells #[] e)).ownsRow base e size (.slice (some ⟨g, 0, none⟩) 0 0) 0 [] := by
  subst hg
  exact ⟨by simp, .inr ⟨w.heap.size, 0, #[], rfl, hb, heap_alloc_new w _, Nat.le_refl _, by simp [maxLen], by simp, by simp⟩⟩
theorem own_slice2 {w : World} {base : Nat} {e : TypeId} {n size : Nat} {v : Value} {xs : List Value} (h : w.ownsRow base e size v n xs) : ∃ A c, v = .slice A n c ∧ n ≤ c ∧ Reads w w.heap.size size A n xs := by
  rcases h.2 with ⟨rfl, h0⟩ | ⟨g, cap, cur, rfl, _, _, hc⟩
  · exact ⟨none, 0, by rw [h0], by omega, Reads.of_own (c := 0) (by rw [h0] at h ⊢; exact h)⟩
  · exact ⟨_, cap, rfl, hc.1, Reads.of_own h⟩

theorem ext_grown {w W w2 : World} {e : TypeId} {size n : Nat} {v : Value} {xs : List Value} (hx : Ext w W) (ho : W.ownsRow w.heap.size e size v n xs) (hg : W.grownBy w2 v.ownBlock) : Ext w w2 :=
  Ext.of (hx.out.grown hg hx.size (own_ge ho))

end Go.Proofs.YtfpmfegmehbfbaaGreatDoor

/- Plain: signing. No program in sight. -/
namespace Go.Proofs.YtfpmfegmehbfbaaGreatDoor
set_option linter.unusedVariables false
set_option linter.unusedSimpArgs false

def secretS : ByteArray := { data := #[115, 101, 99, 114, 101, 116] }
def nonceS : ByteArray := { data := #[110, 111, 110, 99, 101] }
def signS : ByteArray := { data := #[115, 105, 103, 110] }
/-- The number of what is hashed of a tag and parts. -/
def hNum (tag : ByteArray) (ps : List (List Nat)) (m : Nat) : Nat := numM (hSum (coded (strN tag) ps)).1 (hSum (coded (strN tag) ps)).2 m
def someN (tag : ByteArray) (ps : List (List Nat)) : Nat := hNum tag ps (bR - 1) + 1
def chalN (commit pub : Nat) (msg : List Nat) : Nat := hNum signS [be commit 8, be pub 8, msg] bR
def secN (seed : List Nat) : Nat := someN secretS [seed]
def nonceN (s : Nat) (msg : List Nat) : Nat := someN nonceS [be s 8, msg]
def oddN (s : Nat) : Bool := decide (s = 0) || decide (bR ≤ s)
def sgE (s : Nat) (msg : List Nat) : Nat := chalN (powM bQ 4 (nonceN s msg)) (powM bQ 4 s) msg
def sgS (s : Nat) (msg : List Nat) : Nat := addM bR (mulM bR (sgE s msg) s) (nonceN s msg)
def checkN (p : Nat) (msg : List Nat) (E S : Nat) : Nat :=
  if inB p = false then 1 else if bR ≤ E ∨ bR ≤ S then 40 else if chalN (mulM bQ (powM bQ 4 S) (invM bQ (powM bQ p E))) p msg = E then 0 else 40

theorem numM_lt (a b : Nat) {m : Nat} (h : 0 < m) : numM a b m < m := by
  unfold numM; rw [if_neg (by omega)]; exact Nat.mod_lt _ h
theorem hNum_lt (tag : ByteArray) (ps : List (List Nat)) {m : Nat} (h : 0 < m) : hNum tag ps m < m := numM_lt _ _ h
theorem someN_pos (tag : ByteArray) (ps : List (List Nat)) : 1 ≤ someN tag ps := Nat.le_add_left 1 _
theorem someN_lt (tag : ByteArray) (ps : List (List Nat)) : someN tag ps < bR := by
  have := hNum_lt tag ps (m := bR - 1) (by decide)
  unfold someN bR at *; omega
theorem chalN_lt (commit pub : Nat) (msg : List Nat) : chalN commit pub msg < bR := hNum_lt _ _ (by decide)
theorem oddN_some (tag : ByteArray) (ps : List (List Nat)) : oddN (someN tag ps) = false := by
  have h1 := someN_pos tag ps
  have h2 := someN_lt tag ps
  unfold oddN; simp; omega
theorem inv_pow {p : Nat} (h : inB p = true) (E : Nat) (hE : E ≤ bR) : invM bQ (powM bQ p E) = powM bQ p (bR - E) := by
  obtain ⟨h1, h2, h3⟩ := (inB_iff p).1 h
  have hne : powM bQ p E % bQ ≠ 0 := inB_ne (inB_pow h E)
  have e := inv_unique (b := invM bQ (powM bQ p E)) (c := powM bQ p (bR - E)) pr_Q hne (by rw [invM_mul pr_Q hne, powM_add, show E + (bR - E) = bR by omega, h3])
  rwa [Nat.mod_eq_of_lt (invM_lt (by decide) _), Nat.mod_eq_of_lt (powM_lt (by decide) _ _)] at e
/-- What a signature's numbers come back to. -/
theorem commit_back (s k c : Nat) (hc : c ≤ bR) : mulM bQ (powM bQ 4 (addM bR (mulM bR c s) k)) (invM bQ (powM bQ (powM bQ 4 s) c)) = powM bQ 4 k := by
  rw [inv_pow (inB_base s) c hc]
  have e1 : addM bR (mulM bR c s) k = (c * s + k) % bR := by unfold addM mulM; rw [Nat.mod_add_mod]
  rw [e1, base_period, powM_pow, powM_add, ← base_period]
  have e2 : c * s + k + s * (bR - c) = k + bR * s := by
    have : s * (bR - c) + c * s = bR * s := by rw [Nat.mul_comm c s, ← Nat.mul_add, Nat.sub_add_cancel hc, Nat.mul_comm]
    omega
  rw [e2, Nat.add_mul_mod_self_left, base_period]
theorem check_right (s k : Nat) (msg : List Nat) (c : Nat) (hc : c = chalN (powM bQ 4 k) (powM bQ 4 s) msg) : checkN (powM bQ 4 s) msg c (addM bR (mulM bR c s) k) = 0 := by
  have hlt : c < bR := by rw [hc]; exact chalN_lt _ _ _
  unfold checkN
  rw [if_neg (by rw [inB_base]; decide), if_neg (by have := addM_lt' (m := bR) (by decide) (mulM bR c s) k; omega), commit_back s k c (by omega), if_pos hc.symm]
theorem check_sign (s : Nat) (msg : List Nat) : checkN (powM bQ 4 s) msg (sgE s msg) (sgS s msg) = 0 := check_right s _ msg _ rfl
theorem sgE_lt (s : Nat) (msg : List Nat) : sgE s msg < bR := chalN_lt _ _ _
theorem sgS_lt (s : Nat) (msg : List Nat) : sgS s msg < bR := addM_lt' (by decide) _ _
end Go.Proofs.YtfpmfegmehbfbaaGreatDoor

/- The document's hash, walked: number, Of; and Of of the hash. -/
namespace Go.Proofs.YtfpmfegmehbfbaaGreatDoor
set_option linter.unusedVariables false
set_option linter.unusedSimpArgs false
open Go.RowKit Go.Shelf

/-- The two halves of what was read so far. -/
def h0 (l : List Nat) (k : Nat) : Nat := num8 ((l.take 8).take k)
def h1 (l : List Nat) (k : Nat) : Nat := num8 (((l.drop 8).take 8).take (k - 8))
end Go.Proofs.YtfpmfegmehbfbaaGreatDoor

/- The hash that bytes are, walked: hash.Of. -/
namespace Go.Proofs.YtfpmfegmehbfbaaGreatDoor
set_option linter.unusedVariables false
set_option linter.unusedSimpArgs false
open Go.RowKit Go.Shelf

end Go.Proofs.YtfpmfegmehbfbaaGreatDoor

/- The document's elements of bytes (greatsealref01.Of), walked. -/
namespace Go.Proofs.YtfpmfegmehbfbaaGreatDoor
set_option linter.unusedVariables false
set_option linter.unusedSimpArgs false
open Go.RowKit Go.Shelf

end Go.Proofs.YtfpmfegmehbfbaaGreatDoor

/- The document's Sum, walked. -/
namespace Go.Proofs.YtfpmfegmehbfbaaGreatDoor
set_option linter.unusedVariables false
set_option linter.unusedSimpArgs false
open Go.RowKit Go.Shelf
attribute [local irreducible] mix

section
variable {w W W' : World} {rb sb c : Nat} {s m : Nat × Nat × Nat} {A : Option Addr} {L : List Nat}
end

end Go.Proofs.YtfpmfegmehbfbaaGreatDoor

/- The document's Coded, Tagged, Pair, walked. -/
namespace Go.Proofs.YtfpmfegmehbfbaaGreatDoor
set_option linter.unusedVariables false
set_option linter.unusedSimpArgs false
open Go.RowKit Go.Shelf

end Go.Proofs.YtfpmfegmehbfbaaGreatDoor

/- Signing, walked: Secret, Public, Challenge (sign and greatsealref04). Printed by gen_si.py. -/
namespace Go.Proofs.YtfpmfegmehbfbaaGreatDoor
set_option linter.unusedVariables false
set_option linter.unusedSimpArgs false
open Go.RowKit Go.Shelf
attribute [local irreducible] mix hSum hNum

theorem mix_w (s : Nat × Nat × Nat) : (mix s).1 < 18446744073709551616 ∧ (mix s).2.1 < 18446744073709551616 := by
  obtain ⟨p, q, _⟩ := rnd_lt 7 (rnds 7 s)
  have e : mix s = rnd 7 (rnds 7 s) := by unfold mix; rfl
  rw [e]
  exact ⟨Nat.lt_trans p (by decide), Nat.lt_trans q (by decide)⟩
theorem soak_w : ∀ (l : List Nat) (s : Nat × Nat × Nat), s.1 < 18446744073709551616 → s.2.1 < 18446744073709551616 → (soak s l).1 < 18446744073709551616 ∧ (soak s l).2.1 < 18446744073709551616
  | [], s, h1, h2 => by rw [soak]; exact ⟨h1, h2⟩
  | [x], s, _, _ => by rw [soak_one]; exact mix_w _
  | x :: y :: l, s, _, _ => by rw [soak_two]; exact soak_w l _ (mix_w _).1 (mix_w _).2
theorem hSum_w (l : List Nat) : (hSum l).1 < 18446744073709551616 ∧ (hSum l).2 < 18446744073709551616 := by
  unfold hSum soakE
  split
  · exact mix_w _
  · exact soak_w _ _ (show 0 < 18446744073709551616 by decide) (show 0 < 18446744073709551616 by decide)

/-- Slices built one after another, as parts. -/
theorem parts_new {W : World} {T : TypeId} {vs : Array Value} {ps : List (List Nat)} (hl : vs.size = ps.length) (h : ∀ (j : Nat) (p : List Nat), ps[j]? = some p → ∃ a c, vs[j]? = some (Value.slice a p.length c) ∧ p.length ≤ c ∧ Reads W W.heap.size 1 a p.length (bv p)) :
    Parts (W.alloc (.cells vs T)) (W.alloc (.cells vs T)).heap.size (some ⟨W.heap.size, 0, none⟩) ps := by
  refine ⟨vs.toList, by rw [← hl]; exact blk_reads (Blk.new W T vs), fun j p hj => ?_⟩
  obtain ⟨a, c, h1, h2, h3⟩ := h j p hj
  exact ⟨a, c, by simpa using h1, h2, (h3.alloc (Nat.le_refl _) _).more (by simp)⟩
theorem parts_1 {W : World} {T : TypeId} {A : Option Addr} {c : Nat} {l : List Nat} (hc : l.length ≤ c) (hr : Reads W W.heap.size 1 A l.length (bv l)) :
    Parts (W.alloc (.cells #[.slice A l.length c] T)) (W.alloc (.cells #[.slice A l.length c] T)).heap.size (some ⟨W.heap.size, 0, none⟩) [l] :=
  parts_new rfl fun j p hj => match j, hj with | 0, hj => by cases hj; exact ⟨A, c, rfl, hc, hr⟩
theorem parts_2 {W : World} {T : TypeId} {A B : Option Addr} {c n : Nat} {l : List Nat} (hb : Reads W W.heap.size 1 B 8 (bv (be n 8))) (hc : l.length ≤ c) (hr : Reads W W.heap.size 1 A l.length (bv l)) :
    Parts (W.alloc (.cells #[.slice B 8 8, .slice A l.length c] T)) (W.alloc (.cells #[.slice B 8 8, .slice A l.length c] T)).heap.size (some ⟨W.heap.size, 0, none⟩) [be n 8, l] :=
  parts_new rfl fun j p hj => match j, hj with
    | 0, hj => by cases hj; exact ⟨B, 8, by rw [be_length]; rfl, by rw [be_length]; exact Nat.le_refl _, by rw [be_length]; exact hb⟩
    | 1, hj => by cases hj; exact ⟨A, c, rfl, hc, hr⟩
theorem parts_3 {W : World} {T : TypeId} {A B C : Option Addr} {c n m : Nat} {l : List Nat} (hb : Reads W W.heap.size 1 B 8 (bv (be n 8))) (hd : Reads W W.heap.size 1 C 8 (bv (be m 8))) (hc : l.length ≤ c) (hr : Reads W W.heap.size 1 A l.length (bv l)) :
    Parts (W.alloc (.cells #[.slice B 8 8, .slice C 8 8, .slice A l.length c] T)) (W.alloc (.cells #[.slice B 8 8, .slice C 8 8, .slice A l.length c] T)).heap.size (some ⟨W.heap.size, 0, none⟩) [be n 8, be m 8, l] :=
  parts_new rfl fun j p hj => match j, hj with
    | 0, hj => by cases hj; exact ⟨B, 8, by rw [be_length]; rfl, by rw [be_length]; exact Nat.le_refl _, by rw [be_length]; exact hb⟩
    | 1, hj => by cases hj; exact ⟨C, 8, by rw [be_length]; rfl, by rw [be_length]; exact Nat.le_refl _, by rw [be_length]; exact hd⟩
    | 2, hj => by cases hj; exact ⟨A, c, rfl, hc, hr⟩
theorem be_lt8 (n : Nat) : ∀ x ∈ be n 8, x < 256 := be_lt n 8
theorem lts1 {l : List Nat} (hl : ∀ x ∈ l, x < 256) : ∀ p ∈ [l], ∀ x ∈ p, x < 256 := by intro p hp; simp only [List.mem_cons, List.not_mem_nil, or_false] at hp; subst hp; exact hl
theorem lts2 (n : Nat) {l : List Nat} (hl : ∀ x ∈ l, x < 256) : ∀ p ∈ [be n 8, l], ∀ x ∈ p, x < 256 := by
  intro p hp; simp only [List.mem_cons, List.not_mem_nil, or_false] at hp
  rcases hp with rfl | rfl
  · exact be_lt8 n
  · exact hl
theorem lts3 (n m : Nat) {l : List Nat} (hl : ∀ x ∈ l, x < 256) : ∀ p ∈ [be n 8, be m 8, l], ∀ x ∈ p, x < 256 := by
  intro p hp; simp only [List.mem_cons, List.not_mem_nil, or_false] at hp
  rcases hp with rfl | rfl | rfl
  · exact be_lt8 n
  · exact be_lt8 m
  · exact hl
theorem len1 (tag : ByteArray) (ht : tag.size ≤ 10) {l : List Nat} (h : l.length ≤ 1000) : (coded (strN tag) [l]).length ≤ 1099511627776 := by simp [coded, be_length, strN_length]; omega
theorem len2 (tag : ByteArray) (ht : tag.size ≤ 10) (n : Nat) {l : List Nat} (h : l.length ≤ 1000) : (coded (strN tag) [be n 8, l]).length ≤ 1099511627776 := by simp [coded, be_length, strN_length]; omega
theorem len3 (tag : ByteArray) (ht : tag.size ≤ 10) (n m : Nat) {l : List Nat} (h : l.length ≤ 1000) : (coded (strN tag) [be n 8, be m 8, l]).length ≤ 1099511627776 := by simp [coded, be_length, strN_length]; omega
theorem wrap_one {n : Nat} (h : n < bR) : IntKind.u64.wrap ((n : Int) + 1) = ((n + 1 : Nat) : Int) ∧ IntKind.u64.wrap (1 + (n : Int)) = ((n + 1 : Nat) : Int) := by
  unfold bR at h
  rw [IntKind.wrap_u64, IntKind.wrap_u64]; omega

theorem tagNum (tag : ByteArray) (ps : List (List Nat)) (m : Nat) (hm : m < 18446744073709551616) (hps : ∀ p ∈ ps, ∀ x ∈ p, x < 256) (htot : (coded (strN tag) ps).length ≤ 1099511627776) : ∃ x y : Nat,
    (∀ A c W, ps.length ≤ c → Parts W W.heap.size A ps → Calls Tryz.prog 65 #[.string tag, .slice A ps.length c] W fun e w' => e = .returned (.agg #[.int .u64 (x : Int), .int .u64 (y : Int)]) ∧ Ext W w') ∧
    (∀ W, Calls Tryz.prog 170 #[.agg #[.int .u64 (x : Int), .int .u64 (y : Int)], .int .u64 (m : Nat)] W fun e w' => e = .returned (.int .u64 (hNum tag ps m : Nat)) ∧ Ext W w') := by
  refine ⟨(hSum (coded (strN tag) ps)).1, (hSum (coded (strN tag) ps)).2, fun A c W hc h => Tagged_any tag ps hps A c W h htot, fun W => ?_⟩
  unfold hNum
  exact Num_any _ _ m (hSum_w _).1 (hSum_w _).2 hm W

set_option maxRecDepth 100000 in
set_option maxHeartbeats 1000000 in
theorem some_any (tag : ByteArray) (ps : List (List Nat)) (hps : ∀ p ∈ ps, ∀ x ∈ p, x < 256) (htot : (coded (strN tag) ps).length ≤ 1099511627776) (A : Option Addr) (c : Nat) (hc : ps.length ≤ c) (w : World) (hr : Parts w w.heap.size A ps) :
    Calls Tryz.prog 87 #[.string tag, .slice A ps.length c] w fun e w' => e = .returned (.int .u64 (someN tag ps : Nat)) ∧ Ext w w' := by
  obtain ⟨x, y, c1, c2⟩ := tagNum tag ps (bR - 1) (by decide) hps htot
  have c1 := c1 A c w hc hr
  have hlt := hNum_lt tag ps (m := bR - 1) (by decide)
  unfold someN
  obtain ⟨n, hn⟩ : ∃ n, n = hNum tag ps (bR - 1) := ⟨_, rfl⟩
  rw [← hn] at hlt c2 ⊢
  rw [show bR - 1 = 1152921504606845788 from rfl] at c2
  simp only [Int.cast_ofNat_Int] at c2
  have e1 := (wrap_one (n := n) (by unfold bR at *; omega)).1
  clear hn hlt hr hps htot
  go_enter Tryz.func87, Tryz.ntmps87
  go_wp2_with (first | (go_at_call 65; refine c1.mono ?_; clear c1; rintro e w' ⟨rfl, x1⟩) | (go_at_call 170; refine (c2 _).mono ?_; clear c2; rintro e w' ⟨rfl, x2⟩))
  go_ret
  exact ⟨rfl, x1.trans x2⟩

set_option maxRecDepth 100000 in
set_option maxHeartbeats 1000000 in
theorem Secret_any (l : List Nat) (hl : ∀ x ∈ l, x < 256) (h : l.length ≤ 1000) (A : Option Addr) (c : Nat) (hc : l.length ≤ c) (w : World) (hr : Reads w w.heap.size 1 A l.length (bv l)) :
    Calls Tryz.prog 34 #[.slice A l.length c] w fun e w' => e = .returned (.int .u64 (secN l : Nat)) ∧ Ext w w' := by
  have c1 := fun T => some_any secretS [l] (lts1 hl) (len1 secretS (by decide) h) _ 1 (Nat.le_refl 1) _ (parts_1 (T := T) hc hr)
  unfold secN
  generalize someN secretS [l] = v at *
  have x0 := fun o => (Ext.refl w).alloc o
  clear hl h hc hr
  go_enter Tryz.func34, Tryz.ntmps34
  go_wp2_with (go_at_call 87; refine (c1 _).mono ?_; clear c1; rintro e w' ⟨rfl, x1⟩)
  go_ret
  exact ⟨rfl, (x0 _).trans x1⟩

set_option maxRecDepth 100000 in
set_option maxHeartbeats 1000000 in
theorem odd_any (s : Nat) (w : World) : Calls Tryz.prog 88 #[.int .u64 s] w fun e w' => e = .returned (.bool (oddN s)) ∧ w = w' := by
  rcases Nat.eq_zero_or_pos s with rfl | h0
  · have e : oddN 0 = true := rfl
    rw [e]
    go_enter Tryz.func88, Tryz.ntmps88
    go_wp2
    go_ret
    exact ⟨rfl, rfl⟩
  · have k0 : ((s : Int) == 0) = false := by simp; omega
    have k1 : decide ((1 : Int) ≤ (s : Int)) = true := by simp; omega
    by_cases h : bR ≤ s
    · have e : oddN s = true := by unfold oddN; simp [h]
      rw [e]
      have k2 : decide ((1152921504606845789 : Int) ≤ (s : Int)) = true := by unfold bR at h; simp; omega
      have k3 : decide ((s : Int) < 1152921504606845789) = false := by unfold bR at h; simp; omega
      clear h h0 e
      go_enter Tryz.func88, Tryz.ntmps88
      go_wp2
      go_ret
      exact ⟨rfl, rfl⟩
    · have e : oddN s = false := by unfold oddN; simp; omega
      rw [e]
      have k2 : decide ((1152921504606845789 : Int) ≤ (s : Int)) = false := by unfold bR at h; simp; omega
      have k3 : decide ((s : Int) < 1152921504606845789) = true := by unfold bR at h; simp; omega
      clear h h0 e
      go_enter Tryz.func88, Tryz.ntmps88
      go_wp2
      go_ret
      exact ⟨rfl, rfl⟩

set_option maxRecDepth 100000 in
set_option maxHeartbeats 1000000 in
theorem Public_any (s : Nat) (hs : s < 18446744073709551616) (w : World) :
    Calls Tryz.prog 35 #[.int .u64 s] w fun e w' => e = .returned (if oddN s = true then .tuple #[.int .u64 0, .int .i64 1] else .tuple #[.int .u64 (powM bQ 4 s : Nat), .int .i64 0]) ∧ Ext w w' := by
  have c1 := fun w => odd_any s w
  have c2 := fun w => Base_any s hs w
  generalize powM bQ 4 s = v at *
  clear hs
  rcases h : oddN s
  · rw [h] at c1
    clear h
    try simp only [Bool.not_false] at c1
    rw [if_neg (by decide)]
    go_enter Tryz.func35, Tryz.ntmps35
    go_wp2_with (first | (go_at_call 88; refine (c1 _).mono ?_; clear c1; rintro e w' ⟨rfl, rfl⟩) | (go_at_call 89; refine (c2 _).mono ?_; clear c2; rintro e w' ⟨rfl, x1⟩))
    go_ret2
    exact ⟨rfl, x1⟩
  · rw [h] at c1
    clear h
    try simp only [Bool.not_true] at c1
    rw [if_pos rfl]
    go_enter Tryz.func35, Tryz.ntmps35
    go_wp2_with (go_at_call 88; refine (c1 _).mono ?_; clear c1; rintro e w' ⟨rfl, rfl⟩)
    go_ret2
    exact ⟨rfl, Ext.refl _⟩

set_option maxRecDepth 100000 in
set_option maxHeartbeats 1000000 in
theorem Challenge_any (n m : Nat) (hn : n < 18446744073709551616) (hm : m < 18446744073709551616) (l : List Nat) (hl : ∀ x ∈ l, x < 256) (h : l.length ≤ 1000) (A : Option Addr) (c : Nat) (hc : l.length ≤ c) (w : World) (hr : Reads w w.heap.size 1 A l.length (bv l)) :
    Calls Tryz.prog 107 #[.int .u64 n, .int .u64 m, .slice A l.length c] w fun e w' => e = .returned (.int .u64 (chalN n m l : Nat)) ∧ Ext w w' := by
  obtain ⟨x, y, c1, c2⟩ := tagNum signS [be n 8, be m 8, l] bR (by decide) (lts3 n m hl) (len3 signS (by decide) n m h)
  have cB := fun w => sbytes_any n hn w
  have cC := fun w => sbytes_any m hm w
  have c1 : ∀ W B C T, Ext w W → Reads W W.heap.size 1 B 8 (bv (be n 8)) → Reads W W.heap.size 1 C 8 (bv (be m 8)) → Calls Tryz.prog 65 #[.string signS, .slice (some ⟨W.heap.size, 0, none⟩) 3 3] (W.alloc (.cells #[.slice B 8 8, .slice C 8 8, .slice A l.length c] T)) fun e w' => e = .returned (.agg #[.int .u64 (x : Int), .int .u64 (y : Int)]) ∧ Ext (W.alloc (.cells #[.slice B 8 8, .slice C 8 8, .slice A l.length c] T)) w' :=
    fun W B C T xw hb hd => c1 _ 3 _ (Nat.le_refl 3) (parts_3 (T := T) hb hd hc ((hr.below xw.out).more xw.size))
  unfold chalN
  obtain ⟨v, hv⟩ : ∃ v, v = hNum signS [be n 8, be m 8, l] bR := ⟨_, rfl⟩
  rw [← hv] at c2 ⊢
  rw [show bR = 1152921504606845789 from rfl] at c2
  simp only [Int.cast_ofNat_Int] at c2
  clear hv hr hl h hc hn hm
  go_enter Tryz.func107, Tryz.ntmps107
  go_wp2_with (first
    | (go_at_call 106; (with_reducible refine (cB _).mono ?_); clear cB; rintro e w1 ⟨B, rfl, rB, xB⟩)
    | (go_at_call 106; (with_reducible refine (cC _).mono ?_); clear cC; rintro e w2 ⟨C, rfl, rC, xC⟩)
    | (go_at_call 65; refine (c1 _ _ _ _ (xB.trans xC) ((rB.below xC.out).more xC.size) rC).mono ?_; clear c1; rintro e w3 ⟨rfl, xT⟩)
    | (go_at_call 170; refine (c2 _).mono ?_; clear c2; rintro e w4 ⟨rfl, xN⟩))
  go_ret
  exact ⟨rfl, (((xB.trans xC).alloc _).trans xT).trans xN⟩

end Go.Proofs.YtfpmfegmehbfbaaGreatDoor

/- Signing, walked: Sign, Check (sign and greatsealref04). Printed by gen_si2.py. -/
namespace Go.Proofs.YtfpmfegmehbfbaaGreatDoor
set_option linter.unusedVariables false
set_option linter.unusedSimpArgs false
open Go.RowKit Go.Shelf
attribute [local irreducible] mix hSum hNum

theorem toExt {P : Program} {f : FuncId} {args : Array Value} {w : World} {v : Ending} (h : Calls P f args w fun e w' => e = v ∧ w = w') : Calls P f args w fun e w' => e = v ∧ Ext w w' :=
  h.mono fun _ _ ⟨a, b⟩ => ⟨a, by rw [← b]; exact Ext.refl _⟩
theorem two {W : World} {g : Nat} {T : TypeId} {a b : Value} (h : Blk W g T #[a, b]) : W.cell? ⟨g, 0, none⟩ = some a ∧ W.cell? ⟨g, 1, none⟩ = some b := ⟨h.cell 0, h.cell 1⟩
theorem pw64 (x n : Nat) : powM bQ x n < 18446744073709551616 := Nat.lt_trans (powM_lt (by decide) _ _) (by decide)
theorem r64 {x : Nat} (h : x < bR) : x < 18446744073709551616 := Nat.lt_trans h (by decide)

set_option maxRecDepth 100000 in
set_option maxHeartbeats 1000000 in
theorem Sign_odd (s : Nat) (ho : oddN s = true) (hs : s < 18446744073709551616) (A : Option Addr) (n c : Nat) (w : World) :
    Calls Tryz.prog 41 #[.int .u64 s, .slice A n c] w fun e w' => e = .returned (.tuple #[.agg #[.int .u64 0, .int .u64 0], .int .i64 1]) ∧ Ext w w' := by
  have c1 := fun w => Public_any s hs w
  rw [if_pos ho] at c1
  clear ho hs
  go_enter Tryz.func41, Tryz.ntmps41
  go_wp2_with (go_at_call 35; refine (c1 _).mono ?_; clear c1; rintro e w1 ⟨rfl, x1⟩; have hb := ext_blk x1 (Blk.new w _ _); obtain ⟨p0, p1⟩ := two hb; have f0 := hb.frozen 0; have f1 := hb.frozen 1; have HB := Lib.hid hb; clear hb)
  refine bodyPost_ret (v := .tuple #[.agg #[.int .u64 0, .int .u64 0], .int .i64 1]) (by simp [results, Tryz.results41, go_sem, p0, p1]) rfl ⟨rfl, ?_⟩
  exact ((((Ext.refl w).alloc _).trans x1).setCell (p := ⟨w.heap.size, 0, none⟩) (Nat.le_refl _) _).setCell (p := ⟨w.heap.size, 1, none⟩) (Nat.le_refl _) _

set_option maxRecDepth 100000 in
set_option maxHeartbeats 1000000 in
theorem Sign_any (s : Nat) (ho : oddN s = false) (l : List Nat) (hl : ∀ x ∈ l, x < 256) (h : l.length ≤ 1000) (A : Option Addr) (c0 : Nat) (hc : l.length ≤ c0) (w : World) (hr : Reads w w.heap.size 1 A l.length (bv l)) :
    Calls Tryz.prog 41 #[.int .u64 s, .slice A l.length c0] w fun e w' => e = .returned (.tuple #[.agg #[.int .u64 (sgE s l : Nat), .int .u64 (sgS s l : Nat)], .int .i64 0]) ∧ Ext w w' := by
  have ls : s < bR := by unfold oddN at ho; simp at ho; omega
  have c1 := fun w => Public_any s (r64 ls) w
  rw [if_neg (by rw [ho]; decide)] at c1
  have c2 := fun w => sbytes_any s (r64 ls) w
  obtain ⟨k, hk⟩ : ∃ k, k = nonceN s l := ⟨_, rfl⟩
  have lk : k < bR := by rw [hk]; exact someN_lt _ _
  have c3 : ∀ W B T, Ext w W → Reads W W.heap.size 1 B 8 (bv (be s 8)) → Calls Tryz.prog 87 #[.string nonceS, .slice (some ⟨W.heap.size, 0, none⟩) 2 2] (W.alloc (.cells #[.slice B 8 8, .slice A l.length c0] T)) fun e w' => e = .returned (.int .u64 (k : Nat)) ∧ Ext (W.alloc (.cells #[.slice B 8 8, .slice A l.length c0] T)) w' := fun W B T xw hb => by
    rw [hk]; exact some_any nonceS [be s 8, l] (lts2 s hl) (len2 nonceS (by decide) s h) _ 2 (Nat.le_refl 2) _ (parts_2 (T := T) hb hc ((hr.below xw.out).more xw.size))
  have c4 := fun w => Base_any k (r64 lk) w
  have c5 : ∀ W, Ext w W → Calls Tryz.prog 107 #[.int .u64 (powM bQ 4 k : Nat), .int .u64 (powM bQ 4 s : Nat), .slice A l.length c0] W fun e w' => e = .returned (.int .u64 (sgE s l : Nat)) ∧ Ext W w' := fun W xw => by
    unfold sgE; rw [← hk]; exact Challenge_any (powM bQ 4 k) (powM bQ 4 s) (pw64 _ _) (pw64 _ _) l hl h A c0 hc W ((hr.below xw.out).more xw.size)
  obtain ⟨c, hcc⟩ : ∃ c, c = sgE s l := ⟨_, rfl⟩
  have lc : c < 18446744073709551616 := by rw [hcc]; exact r64 (sgE_lt s l)
  have c6 := fun w => MulRE c s lc (r64 ls) w
  obtain ⟨q, hq⟩ : ∃ q, q = mulM bR c s := ⟨_, rfl⟩
  have c7 := fun w => AddRE q k w
  have hz : addM bR q k = sgS s l := by unfold sgS; rw [← hcc, ← hk, ← hq]
  rw [hz] at c7
  rw [← hcc] at c5 ⊢
  rw [← hq] at c6
  obtain ⟨z, hz'⟩ : ∃ z, z = sgS s l := ⟨_, rfl⟩
  rw [← hz'] at c7 ⊢
  obtain ⟨p, hp⟩ : ∃ p, p = powM bQ 4 s := ⟨_, rfl⟩
  obtain ⟨b, hb⟩ : ∃ b, b = powM bQ 4 k := ⟨_, rfl⟩
  rw [← hb] at c4 c5
  rw [← hp] at c1 c5
  clear hb hp hz hz' hq hcc lc lk hk hr hl h hc ls ho
  go_enter Tryz.func41, Tryz.ntmps41
  have x0 : Ext w (w.alloc (.cells #[.int .u64 0, .int .u64 0] 36)) := (Ext.refl w).alloc _
  have HB := Lib.hid (Blk.new w 36 #[.int .u64 0, .int .u64 0])
  go_wp2_with (first
    | (go_at_call 35; refine (c1 _).mono ?_; clear c1; rintro e w1 ⟨rfl, x1⟩)
    | (go_at_call 106; refine (c2 _).mono ?_; clear c2; rintro e w2 ⟨B, rfl, rB, x2⟩)
    | (go_at_call 87; refine (c3 _ _ _ ((x0.trans x1).trans x2) rB).mono ?_; clear c3; rintro e w3 ⟨rfl, x3⟩)
    | (go_at_call 89; refine (c4 _).mono ?_; clear c4; rintro e w4 ⟨rfl, x4⟩; have y4 := ((((x0.trans x1).trans x2).alloc _).trans x3).trans x4; have z4 := (((x1.trans x2).alloc _).trans x3).trans x4)
    | (go_at_call 107; refine (c5 _ y4).mono ?_; clear c5; rintro e w5 ⟨rfl, x5⟩)
    | (go_at_call 109; refine (c6 _).mono ?_; clear c6; rintro e w6 ⟨rfl, x6⟩)
    | (go_at_call 108; refine (c7 _).mono ?_; clear c7; rintro e w7 ⟨rfl, x7⟩; have hb := ext_blk (((z4.trans x5).trans x6).trans x7) HB.out; obtain ⟨p0, p1⟩ := two hb; have f0 := hb.frozen 0; have f1 := hb.frozen 1; clear hb))
  refine bodyPost_ret (v := .tuple #[.agg #[.int .u64 (c : Int), .int .u64 (z : Int)], .int .i64 0]) (by simp [results, Tryz.results41, go_sem, p0, p1]) rfl ⟨rfl, ?_⟩
  exact ((((y4.trans x5).trans x6).trans x7).setCell (p := ⟨w.heap.size, 0, none⟩) (Nat.le_refl _) _).setCell (p := ⟨w.heap.size, 1, none⟩) (Nat.le_refl _) _

end Go.Proofs.YtfpmfegmehbfbaaGreatDoor

/- A set of keys as a map to bool, whatever the keys' type. -/
namespace Go.Proofs.YtfpmfegmehbfbaaGreatDoor
set_option linter.unusedVariables false
set_option linter.unusedSimpArgs false
open Go.RowKit Go.Shelf Go.Maps
section
variable {H : Type} {P : Program}
theorem atKey_foldL (u z : DataW H) (x : Lit) (hx : WideAt.IsKeyLit x) : ∀ (l : List Lit) (m : DataW H), IsMap m → (x ∈ l → (l.foldl (fun m x => m.put x u) m).atKey x z = u) ∧ (x ∉ l → (l.foldl (fun m x => m.put x u) m).atKey x z = m.atKey x z)
  | [], m, _ => ⟨fun h => by simp at h, fun _ => rfl⟩
  | y :: l, m, hm => by
    obtain ⟨i1, i2⟩ := atKey_foldL u z x hx l _ (hm.put y u)
    refine ⟨fun h => ?_, fun h => ?_⟩
    · show (l.foldl (fun m x => m.put x u) (m.put y u)).atKey x z = _
      by_cases h2 : x ∈ l
      · exact i1 h2
      · rw [i2 h2]
        have e : x = y := by rcases List.mem_cons.1 h with h | h; exact h; exact absurd h h2
        subst e
        exact atKey_put_same hm hx u z
    · show (l.foldl (fun m x => m.put x u) (m.put y u)).atKey x z = _
      rw [i2 (fun h2 => h (List.mem_cons_of_mem _ h2)), atKey_put_other (fun e => h (by rw [e]; exact List.mem_cons_self)) u z]
theorem atKey_setL (u z : DataW H) (x : Lit) (hx : WideAt.IsKeyLit x) (l : List Lit) : (x ∈ l → (setOf u l).atKey x z = u) ∧ (x ∉ l → (setOf u l).atKey x z = z) := atKey_foldL u z x hx l (.map []) isMap_empty
end
def KSet (k : TypeId) (w : World) (b : Nat) (l : List Lit) : Prop := w.ownsMap Tryz.prog k (plainElem (H := Unit) Tryz.prog 4) b l.length (setOf tt l)
theorem KSet.look {k T : TypeId} (K : Keyed Tryz.prog k) (hT : Tryz.prog.underlying T = some (.map k 4)) {w : World} {b : Nat} {l : List Lit} (h : KSet k w b l) {key : Value} {x : Lit} (hk : keyOf Tryz.prog k key = some x) (hx : WideAt.IsKeyLit x) {bb : Bool} (hb : bb = true ↔ x ∈ l) :
    (Instr.lookup T (.map (some b)) key false).run Tryz.prog w = .ok (.bool bb) w := by
  obtain ⟨v, ps, hrun, hv⟩ := World.ownsMap.lookup h K hT (zeroB w) (zd := .lit (.bool false)) (zp := []) (plainElem_bool Tryz.underlying4 false) hk
  obtain ⟨a, rfl, e⟩ := plainElem_bool_inv Tryz.underlying4 hv
  rw [hrun]
  have : a = bb := by
    by_cases hm : x ∈ l
    · rw [(atKey_setL _ _ _ hx l).1 hm] at e
      simp [tt] at e
      rw [e.1, hb.2 hm]
    · rw [(atKey_setL _ _ _ hx l).2 hm] at e
      simp at e
      have : bb = false := by cases bb; rfl; exact absurd (hb.1 rfl) hm
      rw [e.1, this]
  rw [this]
theorem KSet.put_ {k : TypeId} {w' : World} {b : Nat} {l : List Lit} {x : Lit} (h : w'.ownsMap Tryz.prog k (plainElem (H := Unit) Tryz.prog 4) b (l.length + 1) ((setOf tt l).put x tt)) : KSet k w' b (l ++ [x]) := by
  unfold KSet
  rw [setOf_snoc, List.length_append]
  exact h
theorem KSet.new (k : TypeId) (w : World) : KSet k (w.alloc (.map #[] 0)) w.heap.size [] := World.ownsMap_made w Tryz.prog k _
end Go.Proofs.YtfpmfegmehbfbaaGreatDoor
