/- Parts of the proofs, put together: HaTag, ShB, HaPair, HaRefB, Sh, Sh2, Sh3, Sh4, Sh5, Sh6, Sh7, Sh8, HaRefN. -/
import Derived.Maps.OwnSet
import Derived.Maps.OwnOps
import Derived.Maps.Views
import Derived.Deep.RegionWith
import Derived.BigRegion
import Derived.Deep.RegionHeld3
import Derived.Maps.Own
import Derived.Test.YtiecfamjnnmpaaaGreatR1
import Derived.Test.YtiecfamjnnmpaaaGreatR2
import Derived.Test.YtiecfamjnnmpaaaGreatR4
import Derived.Test.YtiecfamjnnmpaaaGreatR8
import Derived.Test.YtiecfamjnnmpaaaGreatR9
import Derived.Test.YtiecfamjnnmpaaaGreatR11
import Derived.Test.YtiecfamjnnmpaaaGreatR12
import Derived.Test.YtiecfamjnnmpaaaGreatR13
/- The hash, walked: Tagged. -/
namespace Go.Proofs.YtiecfamjnnmpaaaGreat
open Go.RowKit Go.Shelf

/-- What a tag and parts are hashed as. -/
def coded (tag : List Nat) (parts : List (List Nat)) : List Nat := tag.length % 256 :: tag ++ parts.flatMap fun p => be p.length 4 ++ p
theorem coded_snoc (tag : List Nat) (ps : List (List Nat)) (p : List Nat) : coded tag (ps ++ [p]) = coded tag ps ++ be p.length 4 ++ p := by simp [coded, List.flatMap_append]
theorem coded_nil (tag : List Nat) : coded tag [] = tag.length % 256 :: tag := by simp [coded]
theorem be_lt (n k : Nat) : ∀ x ∈ be n k, x < 256 := by
  intro x hx
  simp only [be, beN, List.mem_map] at hx
  obtain ⟨_, _, rfl⟩ := hx
  exact Nat.mod_lt _ (by decide)
theorem coded_lt (tag : List Nat) (ht : ∀ x ∈ tag, x < 256) (ps : List (List Nat)) (hp : ∀ p ∈ ps, ∀ x ∈ p, x < 256) : ∀ x ∈ coded tag ps, x < 256 := by
  intro x hx
  simp only [coded, List.cons_append, List.mem_cons, List.mem_append, List.mem_flatMap] at hx
  rcases hx with rfl | hx | ⟨p, hp', hx | hx⟩
  · exact Nat.mod_lt _ (by decide)
  · exact ht x hx
  · exact be_lt _ _ x hx
  · exact hp p hp' x hx

/-- Parts that lie in memory. -/
def Parts (w : World) (B : Nat) (A : Option Addr) (ps : List (List Nat)) : Prop :=
  ∃ vs : List Value, Reads w B 1 A ps.length vs ∧ ∀ (j : Nat) (p : List Nat), ps[j]? = some p → ∃ a c, vs[j]? = some (Value.slice a p.length c) ∧ p.length ≤ c ∧ Reads w B 1 a p.length (bv p)
theorem Parts.keep {w w' : World} {B : Nat} {A : Option Addr} {ps : List (List Nat)} (h : Parts w B A ps) (hk : ∀ p : Addr, p.block < B → w'.cell? p = w.cell? p) : Parts w' B A ps := by
  obtain ⟨vs, h1, h2⟩ := h
  exact ⟨vs, h1.keep hk, fun j p hj => by obtain ⟨a, c, e, hc, hr⟩ := h2 j p hj; exact ⟨a, c, e, hc, hr.keep hk⟩⟩
theorem Parts.below {w w' : World} {B : Nat} {A : Option Addr} {ps : List (List Nat)} (h : Parts w B A ps) (hb : Below B w w') : Parts w' B A ps := h.keep fun _ hp => hb.cell hp
theorem Parts.at_ {w : World} {B : Nat} {A : Option Addr} {ps : List (List Nat)} (h : Parts w B A ps) {j : Nat} {p : List Nat} (hj : ps[j]? = some p) :
    ∃ ad a c, A = some ad ∧ w.cell? (ad.add j) = some (.slice a p.length c) ∧ p.length ≤ c ∧ Reads w B 1 a p.length (bv p) := by
  obtain ⟨vs, h1, h2⟩ := h
  obtain ⟨a, c, e, hc, hr⟩ := h2 j p hj
  obtain ⟨ad, u, ha, _, hu, hcell⟩ := h1.at_ (k := j) (List.getElem?_eq_some_iff.1 hj).1
  rw [e] at hu
  cases hu
  exact ⟨ad, a, c, ha, hcell, hc, hr⟩
theorem own_slice {w : World} {base : Nat} {e : TypeId} {n : Nat} {v : Value} {xs : List Value} (h : w.ownsRow base e 1 v n xs) : ∃ A c, v = .slice A n c ∧ n ≤ c ∧ Reads w w.heap.size 1 A n xs := by
  rcases h.2 with ⟨rfl, h0⟩ | ⟨g, cap, cur, rfl, _, _, hc⟩
  · exact ⟨none, 0, by rw [h0], by omega, Reads.of_own (c := 0) (by rw [h0] at h ⊢; exact h)⟩
  · exact ⟨_, cap, rfl, hc.1, Reads.of_own h⟩
theorem own_new (w : World) (base g : Nat) (hg : g = w.heap.size) (hb : base ≤ g) (e : TypeId) (u : Value) : (w.alloc (.cells #[u] e)).ownsRow base e 1 (.slice (some ⟨g, 0, none⟩) 1 1) 1 [u] := by
  subst hg
  exact ⟨rfl, .inr ⟨w.heap.size, 1, #[u], rfl, hb, heap_alloc_new w _, Nat.le_refl _, by simp [maxLen], rfl, rfl⟩⟩

theorem coded_take_le (tag : List Nat) (ps : List (List Nat)) (j : Nat) : (coded tag (ps.take j)).length ≤ (coded tag ps).length := by
  have e : coded tag ps = coded tag (ps.take j) ++ (ps.drop j).flatMap fun p => be p.length 4 ++ p := by
    unfold coded
    rw [List.append_assoc, ← List.flatMap_append, List.take_append_drop]
  rw [e, List.length_append]
  omega

set_option maxRecDepth 100000 in
set_option maxHeartbeats 1000000 in
theorem Tagged_any (tag : ByteArray) (ps : List (List Nat)) (hps : ∀ p ∈ ps, ∀ x ∈ p, x < 256) (A : Option Addr) (c : Nat) (w : World) (hr : Parts w w.heap.size A ps) (htot : (coded (strN tag) ps).length ≤ 1099511627776) :
    Calls Tryz.prog 76 #[.string tag, .slice A ps.length c] w fun e w' => e = .returned (.agg #[.int .u64 ((hSum (coded (strN tag) ps)).1 : Int), .int .u64 ((hSum (coded (strN tag) ps)).2 : Int)]) ∧ Ext w w' := by
  obtain ⟨i0, hi, hz0, hz1, hz2⟩ := info_parts Tryz.infoU8
  have hall := coded_lt (strN tag) (strN_lt tag) ps hps
  have htl : tag.size + 1 ≤ (coded (strN tag) ps).length := by
    have := coded_take_le (strN tag) ps 0
    rw [List.take_zero, coded_nil, List.length_cons, strN_length] at this
    exact this
  have hcc := coded_take_le (strN tag) ps
  have hc0 : coded (strN tag) [] = tag.size % 256 :: strN tag := by rw [coded_nil, strN_length]
  obtain ⟨tot, ht⟩ : ∃ tot, tot = (coded (strN tag) ps).length := ⟨_, rfl⟩
  rw [← ht] at htot htl hcc
  have hpl : ps.length ≤ tot := by
    rw [ht, coded, List.length_append, List.length_flatMap]
    have : ps.length ≤ (ps.map fun p => (be p.length 4 ++ p).length).sum := by
      clear ht hcc hc0 htl hall hr hps htot
      induction ps with
      | nil => simp
      | cons p ps ih =>
        simp only [List.length_cons, List.map_cons, List.sum_cons]
        rw [List.length_append, be_length]
        omega
    omega
  have k1 : IntKind.u8.wrap (tag.size : Int) = ((tag.size % 256 : Nat) : Int) := by rw [IntKind.wrap_u8]; omega
  obtain ⟨d, hd⟩ : ∃ d, d = tag.size % 256 := ⟨_, rfl⟩
  rw [← hd] at k1 hc0
  have HD := Lib.hid hd
  have HT := Lib.hid ht
  have HC := Lib.hid hcc
  have HA := Lib.hid hall
  have HR := Lib.hid hr
  clear hd ht hcc hall hr
  go_enter Tryz.func76, Tryz.ntmps76
  go_wp2_with (at_builtin; refine wpList_append_own_src _ rfl (.tmp 11) (.tmp 12) 22 9 rfl (w.heap.size + 1) 5 i0 (.int .u8 0) 1 1 Tryz.underlying22 hi hz0 hz1 hz2 rfl (.slice (some ⟨w.heap.size + 1, 0, none⟩) 1 1) _ _ rfl (own_new (w.alloc (.cells #[.int .u64 0, .int .u64 0] 93)) (w.heap.size + 1) (w.heap.size + 1) (by simp) (Nat.le_refl _) 5 (.int .u8 (d : Int))) (.string tag) tag.size (byteCells tag) rfl (Src.ofString _ Tryz.underlying9 tag) (by simp only [maxLen]; omega) (by omega) (by simp) (by simp) ?_; intro v1 w1 hown1 hg1 _)
  have hb1 : Below (w.heap.size + 1) (w.alloc (.cells #[.int .u64 0, .int .u64 0] 93)) w1 := ((Below.refl _ _).alloc (by simp) _).grown hg1 (by simp) (fun k e => by simp [Value.ownBlock] at e; omega)
  have hx1 : Hid (Ext w w1) := Lib.hid (((Ext.refl w).alloc _).trans (Ext.of (by simpa using hb1)))
  have hbox : Hid (Blk w1 w.heap.size 93 #[.int .u64 0, .int .u64 0]) := Lib.hid ((Blk.new w _ _).below hb1 (Nat.lt_succ_self _))
  have hsz : w.heap.size + 1 ≤ w1.heap.size := by have := hb1.size; simp at this; omega
  have ho : Hid (w1.ownsRow (w.heap.size + 1) 5 1 v1 (coded (strN tag) (ps.take 0)).length (bv (coded (strN tag) (ps.take 0)))) := by
    show World.ownsRow _ _ _ _ _ _ _
    rw [List.take_zero, hc0, List.length_cons, strN_length, Nat.add_comm tag.size 1]
    have e : bv (d :: strN tag) = [.int .u8 (d : Int)] ++ byteCells tag := by rw [byteCells_strN]; rfl
    rw [e]
    exact hown1
  clear hown1 hg1 hb1 hc0 k1
  go_loopg [5, 16] ps.length (fun m s5 s16 wr => ∃ j : Nat, j + m = ps.length ∧ s16 = .int .i64 j ∧ wr.ownsRow (w.heap.size + 1) 5 1 s5 (coded (strN tag) (ps.take j)).length (bv (coded (strN tag) (ps.take j))) ∧ Ext w wr ∧ Blk wr w.heap.size 93 #[.int .u64 0, .int .u64 0] ∧ w.heap.size + 1 ≤ wr.heap.size)
  case atStart => exact ⟨0, by omega, rfl, ho.out, hx1.out, hbox.out, hsz⟩
  case round =>
    obtain ⟨j, hj, rfl, hown, hx, hb, hs⟩ := hrel
    clear ho hx1 hbox hsz
    by_cases h : j < ps.length
    · obtain ⟨p, hp⟩ : ∃ p, ps[j]? = some p := ⟨_, List.getElem?_eq_getElem h⟩
      obtain ⟨ad, a, c', rfl, hcell, hpc, hrp⟩ := (HR.out.below hx.out).at_ hp
      have hle := HC.out (j + 1)
      have ht1 : ps.take (j + 1) = ps.take j ++ [p] := by rw [List.take_add_one, hp]; rfl
      rw [ht1, coded_snoc] at hle
      simp only [List.length_append, be_length] at hle
      obtain ⟨l, hl⟩ : ∃ l, l = coded (strN tag) (ps.take j) := ⟨_, rfl⟩
      rw [← hl] at hown hle
      have HN : Hid (coded (strN tag) (ps.take (j + 1)) = l ++ be p.length 4 ++ p) := by show _ = _; rw [ht1, coded_snoc, hl]
      have c1 := put_any (w.heap.size + 1) u5 l p.length 4 (by decide) wr hown hs (by omega)
      have hpt : (p.length : Int) ≤ 1099511627776 := by omega
      have HLE := Lib.hid hle
      have HJ := Lib.hid hj
      have HX := Lib.hid hx
      have HB := Lib.hid hb
      have HS := Lib.hid hs
      clear hle hj hx hb hs ht1 hl hp htl
      go_wp2_with (first
        | (go_at_call 114; refine c1.mono ?_; clear c1; rintro e w2 ⟨v2, rfl, o2, b2⟩)
        | (at_builtin; refine wpList_append_any _ rfl (.tmp 24) (.tmp 25) 22 rfl (w.heap.size + 1) 5 i0 (.int .u8 0) 1 1 Tryz.underlying22 hi hz0 hz1 hz2 rfl (by decide) v2 _ _ rfl o2 w.heap.size a p.length c' (bv p) rfl (hrp.below (b2.mono (Nat.le_succ _))) (bv_one p) (by have := HLE.out; simp only [maxLen, List.length_append, be_length]; omega) (by have := HLE.out; simp only [List.length_append, be_length]; omega) (by have := HS.out; have := b2.size; omega) ?_; intro v3 w3 hown3 hg3 _))
      have hb3 : Below (w.heap.size + 1) wr w3 := b2.grown hg3 (by have := HS.out; have := b2.size; omega) (own_ge o2)
      have O3 : Hid (w3.ownsRow (w.heap.size + 1) 5 1 v3 (coded (strN tag) (ps.take (j + 1))).length (bv (coded (strN tag) (ps.take (j + 1))))) := by
        show World.ownsRow _ _ _ _ _ _ _
        rw [HN.out, show (l ++ be p.length 4 ++ p).length = (l ++ be p.length 4).length + p.length from List.length_append, show bv (l ++ be p.length 4 ++ p) = bv (l ++ be p.length 4) ++ bv p from bv_append _ _]
        exact hown3
      have X3 : Ext w w3 := Below.trans HX.out (hb3.mono (Nat.le_succ _))
      have B3 := HB.out.below hb3 (Nat.lt_succ_self _)
      have hj := HJ.out
      have S3 : w.heap.size + 1 ≤ w3.heap.size := Nat.le_trans HS.out hb3.size
      clear hown3 hg3 hb3 o2 b2 hown
      go_roundg (gk - 1)
      case measure => omega
      case rel => exact ⟨j + 1, by omega, int_congr (by omega), O3.out, X3, B3, S3⟩
    · obtain rfl : j = ps.length := by omega
      rw [List.take_length] at hown
      obtain ⟨A', c', rfl, hc', hr'⟩ := own_slice hown
      have cS := Sum_any (coded (strN tag) ps) HA.out (by rw [← HT.out]; exact htot) A' c' hc' wr hr'
      have q0 := hb.cell 0
      have q1 := hb.cell 1
      have p0 := hb.frozen 0
      have p1 := hb.frozen 1
      simp at q0 q1
      obtain ⟨n, hn⟩ : ∃ n, n = (coded (strN tag) ps).length := ⟨_, rfl⟩
      obtain ⟨r1, hr1⟩ : ∃ r, r = (hSum (coded (strN tag) ps)).1 := ⟨_, rfl⟩
      obtain ⟨r2, hr2⟩ : ∃ r, r = (hSum (coded (strN tag) ps)).2 := ⟨_, rfl⟩
      rw [← hn, ← hr1, ← hr2] at cS
      rw [← hn]
      have HR1 := Lib.hid hr1
      have HR2 := Lib.hid hr2
      have HX := Lib.hid hx
      have HB := Lib.hid hb
      clear hn hr1 hr2 hown hr' hx hc' hj h
      go_wp2_with (go_at_call 115; refine cS.mono ?_; clear cS; rintro e w2 ⟨rfl, x2⟩; have q0 := (HB.out.below x2.out HB.out.lt).cell 0; have q1 := (HB.out.below x2.out HB.out.lt).cell 1; have p0 := (HB.out.below x2.out HB.out.lt).frozen 0; have p1 := (HB.out.below x2.out HB.out.lt).frozen 1; simp at q0 q1)
      refine bodyPost_ret (v := .agg #[.int .u64 (r1 : Int), .int .u64 (r2 : Int)]) (by simp [results, Tryz.results76, go_sem, q0, q1]) rfl ⟨by rw [HR1.out, HR2.out], ?_⟩
      exact ((HX.out.trans x2).setCell (p := ⟨w.heap.size, 0, none⟩) (Nat.le_refl _) _).setCell (p := ⟨w.heap.size, 1, none⟩) (Nat.le_refl _) _
end Go.Proofs.YtiecfamjnnmpaaaGreat

/- Shares in memory; a set of numbers as a map to bool. -/
namespace Go.Proofs.YtiecfamjnnmpaaaGreat
set_option linter.unusedVariables false
open Go.RowKit Go.Shelf Go.Maps

/-! ### lists of ids, of shares, as cells -/
def iv (l : List Int) : List Value := l.map (Value.int .i64)
def sv (l : List (Int × Nat)) : List Value := l.flatMap fun s => [.int .i64 s.1, .int .u64 (s.2 : Int)]
def idsWf (l : List (Int × Nat)) : Prop := ∀ i ∈ l.map (·.1), (Lit.int .i64 i).wf = true
def wv (l : List Nat) : List Value := l.map fun (n : Nat) => Value.int .u64 (n : Int)
theorem iv_length (l : List Int) : (iv l).length = l.length := by simp [iv]
theorem wv_length (l : List Nat) : (wv l).length = l.length := by simp [wv]
theorem sv_length (l : List (Int × Nat)) : (sv l).length = l.length * 2 := by
  induction l with
  | nil => rfl
  | cons s l ih =>
    have e : sv (s :: l) = [.int .i64 s.1, .int .u64 (s.2 : Int)] ++ sv l := rfl
    rw [e, List.length_append, ih]; simp; omega
theorem iv_append (l m : List Int) : iv (l ++ m) = iv l ++ iv m := by simp [iv]
theorem wv_append (l m : List Nat) : wv (l ++ m) = wv l ++ wv m := by simp [wv]
theorem sv_append (l m : List (Int × Nat)) : sv (l ++ m) = sv l ++ sv m := by simp [sv]
theorem iv_one (l : List Int) : ∀ u ∈ iv l, u.oneCell' = true := by
  intro u hu; obtain ⟨a, _, rfl⟩ := List.mem_map.1 hu; rfl
theorem wv_one (l : List Nat) : ∀ u ∈ wv l, u.oneCell' = true := by
  intro u hu; obtain ⟨a, _, rfl⟩ := List.mem_map.1 hu; rfl
theorem sv_one (l : List (Int × Nat)) : ∀ u ∈ sv l, u.oneCell' = true := by
  intro u hu
  obtain ⟨a, _, h⟩ := List.mem_flatMap.1 hu
  simp at h
  rcases h with rfl | rfl <;> rfl
theorem iv_at {l : List Int} {k : Nat} {x : Int} (h : l[k]? = some x) : (iv l)[k]? = some (.int .i64 x) := by simp [iv, h]
theorem wv_at {l : List Nat} {k : Nat} {x : Nat} (h : l[k]? = some x) : (wv l)[k]? = some (.int .u64 (x : Int)) := by simp [wv, h]
theorem sv_at : ∀ {l : List (Int × Nat)} {k : Nat} {s : Int × Nat}, l[k]? = some s → (sv l)[k * 2]? = some (.int .i64 s.1) ∧ (sv l)[k * 2 + 1]? = some (.int .u64 (s.2 : Int))
  | [], k, s, h => by simp at h
  | a :: l, 0, s, h => by
    simp at h
    subst h
    exact ⟨rfl, rfl⟩
  | a :: l, k + 1, s, h => by
    simp at h
    have e : sv (a :: l) = .int .i64 a.1 :: .int .u64 (a.2 : Int) :: sv l := rfl
    rw [e, show (k + 1) * 2 = k * 2 + 1 + 1 by omega]
    simpa using sv_at h
theorem add_one_eq (a : Addr) : a.add 1 = ⟨a.block, a.off + 1, none⟩ := by unfold Addr.add; simp
section
variable {w : World} {B n : Nat} {A : Option Addr}
theorem reads_id {l : List Int} (h : Reads w B 1 A n (iv l)) {k : Nat} {x : Int} (hk : l[k]? = some x) : ∃ ad, A = some ad ∧ w.cell? (ad.add k) = some (.int .i64 x) := by
  have hl := (List.getElem?_eq_some_iff.1 hk).1
  have h1 := h.1
  rw [iv_length] at h1
  obtain ⟨ad, e, _, hc⟩ := h.2 (by omega)
  exact ⟨ad, e, hc _ _ (iv_at hk)⟩
theorem reads_word {l : List Nat} (h : Reads w B 1 A n (wv l)) {k : Nat} {x : Nat} (hk : l[k]? = some x) : ∃ ad, A = some ad ∧ w.cell? (ad.add k) = some (.int .u64 (x : Int)) := by
  have hl := (List.getElem?_eq_some_iff.1 hk).1
  have h1 := h.1
  rw [wv_length] at h1
  obtain ⟨ad, e, _, hc⟩ := h.2 (by omega)
  exact ⟨ad, e, hc _ _ (wv_at hk)⟩
theorem reads_share {l : List (Int × Nat)} (h : Reads w B 2 A n (sv l)) {k : Nat} {s : Int × Nat} (hk : l[k]? = some s) :
    ∃ ad, A = some ad ∧ ad.block < B ∧ w.cell? (ad.add (k * 2)) = some (.int .i64 s.1) ∧ w.cell? ⟨(ad.add (k * 2)).block, (ad.add (k * 2)).off + 1, none⟩ = some (.int .u64 (s.2 : Int)) := by
  have hl := (List.getElem?_eq_some_iff.1 hk).1
  have h1 := h.1
  rw [sv_length] at h1
  obtain ⟨ad, e, hb, hc⟩ := h.2 (by omega)
  exact ⟨ad, e, hb, hc _ _ (sv_at hk).1, by rw [← add_one_eq, add_of_add]; exact hc _ _ (sv_at hk).2⟩
end

/-! ### a set of numbers -/
section
variable {H : Type} {P : Program}
theorem plainElem_bool_inv {e : TypeId} (he : P.underlying e = some .bool) {v : Value} {z : DataW H × List MemPlace} (h : plainElem P e v = some z) : ∃ a, v = .bool a ∧ z = (.lit (.bool a), []) := by
  unfold plainElem at h
  rw [he] at h
  cases v <;> simp at h
  exact ⟨_, rfl, h.symm⟩
def keys (l : List Int) : List Lit := l.map (Lit.int .i64)
theorem keys_key (l : List Int) : ∀ x ∈ keys l, WideAt.IsKeyLit x := by
  intro x hx; obtain ⟨a, _, rfl⟩ := List.mem_map.1 hx; trivial
theorem isMap_fold (u : DataW H) : ∀ (acc : List Lit) (m : DataW H), IsMap m → IsMap (acc.foldl (fun m x => m.put x u) m)
  | [], _, h => h
  | x :: acc, m, h => isMap_fold u acc _ (h.put x u)
theorem atKey_fold (u z : DataW H) (x : Int) : ∀ (l : List Int) (m : DataW H), IsMap m → m.atKey (.int .i64 x) z = (if x ∈ ([] : List Int) then u else m.atKey (.int .i64 x) z) →
    ((keys l).foldl (fun m x => m.put x u) m).atKey (.int .i64 x) z = if x ∈ l then u else m.atKey (.int .i64 x) z
  | [], m, _, h => h
  | y :: l, m, hm, h => by
    show ((keys l).foldl (fun m x => m.put x u) (m.put (.int .i64 y) u)).atKey (.int .i64 x) z = _
    rw [atKey_fold u z x l _ (hm.put _ u) (by simp)]
    by_cases hx : x ∈ l
    · rw [if_pos hx, if_pos (List.mem_cons_of_mem _ hx)]
    · rw [if_neg hx]
      by_cases e : x = y
      · subst e
        rw [atKey_put_same hm (by trivial) u z, if_pos List.mem_cons_self]
      · rw [atKey_put_other (by simpa using e) u z, if_neg (by simp [e, hx])]
theorem atKey_set (u z : DataW H) (x : Int) (l : List Int) : (setOf u (keys l)).atKey (.int .i64 x) z = if x ∈ l then u else z := by
  have := atKey_fold u z x l (.map []) isMap_empty (by simp)
  exact this
end
def tt : DataW Unit := .lit (.bool true)
def SetIs (w : World) (b : Nat) (l : List Int) : Prop := w.ownsMap Tryz.prog 3 (plainElem (H := Unit) Tryz.prog 4) b l.length (setOf tt (keys l))
theorem zeroB (w : World) : (zeroValue 4).run Tryz.prog w = .ok (.bool false) w := by kernel_rfl
theorem keyInt : Keyed Tryz.prog 3 := int_keyed Tryz.underlying3
theorem SetIs.look {w : World} {b : Nat} {l : List Int} (h : SetIs w b l) (x : Int) (hx : (Lit.int .i64 x).wf = true) :
    (Instr.lookup 119 (.map (some b)) (.int .i64 x) false).run Tryz.prog w = .ok (.bool (decide (x ∈ l))) w := by
  obtain ⟨v, ps, hrun, hv⟩ := World.ownsMap.lookup h keyInt Tryz.underlying119 (zeroB w) (zd := .lit (.bool false)) (zp := []) (plainElem_bool Tryz.underlying4 false) (keyOf_int_mk Tryz.underlying3 hx)
  obtain ⟨a, rfl, e⟩ := plainElem_bool_inv Tryz.underlying4 hv
  rw [hrun]
  rw [atKey_set] at e
  have : a = decide (x ∈ l) := by
    by_cases hm : x ∈ l
    · rw [if_pos hm] at e
      simp [tt] at e
      simp [hm, ← e.1]
    · rw [if_neg hm] at e
      simp at e
      simp [hm, ← e.1]
  rw [this]
theorem SetIs.put_ {w' : World} {b : Nat} {l : List Int} {x : Int} (h : w'.ownsMap Tryz.prog 3 (plainElem (H := Unit) Tryz.prog 4) b (l.length + 1) ((setOf tt (keys l)).put (.int .i64 x) tt)) : SetIs w' b (l ++ [x]) := by
  have e : setOf tt (keys (l ++ [x])) = (setOf tt (keys l)).put (.int .i64 x) tt := by rw [← setOf_snoc]; simp [keys]
  unfold SetIs
  rw [e, List.length_append]
  exact h
theorem SetIs.new (w : World) : SetIs (w.alloc (.map #[] 0)) w.heap.size [] := World.ownsMap_made w Tryz.prog 3 _
end Go.Proofs.YtiecfamjnnmpaaaGreat

/- The hash, walked: Pair. -/
namespace Go.Proofs.YtiecfamjnnmpaaaGreat
open Go.RowKit Go.Shelf

def nodeS : ByteArray := { data := #[110, 111, 100, 101] }
def pairB (a1 a2 b1 b2 : Nat) : List Nat := coded (strN nodeS) [bytes2 a1 a2, bytes2 b1 b2]
theorem pairB_len (a1 a2 b1 b2 : Nat) : (pairB a1 a2 b1 b2).length ≤ 1099511627776 := by
  have : (strN nodeS).length = 4 := by decide
  simp [pairB, coded, be_length, bytes2_length, this]
theorem bytes2_lt (a b : Nat) : ∀ x ∈ bytes2 a b, x < 256 := by
  intro x hx
  rcases List.mem_append.1 hx with h | h <;> exact be_lt _ _ x h
theorem two_lt (a1 a2 b1 b2 : Nat) : ∀ p ∈ [bytes2 a1 a2, bytes2 b1 b2], ∀ x ∈ p, x < 256 := by
  intro p hp
  simp only [List.mem_cons, List.not_mem_nil, or_false] at hp
  rcases hp with rfl | rfl
  · exact bytes2_lt _ _
  · exact bytes2_lt _ _
theorem parts2 {W : World} {T : TypeId} {A A' : Option Addr} {c c' a1 a2 b1 b2 : Nat} (h1 : Reads W W.heap.size 1 A 16 (bv (bytes2 a1 a2))) (hc1 : 16 ≤ c) (h2 : Reads W W.heap.size 1 A' 16 (bv (bytes2 b1 b2))) (hc2 : 16 ≤ c') (g : Nat) (hg : g = W.heap.size) :
    Parts (W.alloc (.cells #[.slice A 16 c, .slice A' 16 c'] T)) (W.alloc (.cells #[.slice A 16 c, .slice A' 16 c'] T)).heap.size (some ⟨g, 0, none⟩) [bytes2 a1 a2, bytes2 b1 b2] := by
  subst hg
  have hb := Blk.new W T #[.slice A 16 c, .slice A' 16 c']
  refine ⟨[.slice A 16 c, .slice A' 16 c'], ⟨rfl, fun _ => ⟨_, rfl, by simp, fun j u hj => ?_⟩⟩, fun j p hj => ?_⟩
  · match j, hj with
    | 0, hj => cases hj; exact hb.cell 0
    | 1, hj => cases hj; exact hb.cell 1
  · match j, hj with
    | 0, hj => cases hj; exact ⟨A, c, by rw [bytes2_length]; rfl, by rw [bytes2_length]; exact hc1, by rw [bytes2_length]; exact (h1.alloc (Nat.le_refl _) _).more (by simp)⟩
    | 1, hj => cases hj; exact ⟨A', c', by rw [bytes2_length]; rfl, by rw [bytes2_length]; exact hc2, by rw [bytes2_length]; exact (h2.alloc (Nat.le_refl _) _).more (by simp)⟩

theorem ext_blk {W W' : World} {g : Nat} {T : TypeId} {cs : Array Value} (x : Ext W W') (h : Blk W g T cs) : Blk W' g T cs := h.below x.out h.lt
theorem arr2 {W : World} {g : Nat} {T : TypeId} {a b : Value} (h : Blk W g T #[a, b]) : W.cell? ⟨g, 0, none⟩ = some a ∧ W.cell? ⟨g, 1, none⟩ = some b ∧ W.frozen? ⟨g, 0, none⟩ = false ∧ W.frozen? ⟨g, 1, none⟩ = false :=
  ⟨h.cell 0, h.cell 1, h.frozen 0, h.frozen 1⟩
theorem start_pair (w : World) (x y z : Array Value) (T : TypeId) : ∃ W, ((w.alloc (.cells x T)).alloc (.cells y T)).alloc (.cells z T) = W ∧ Blk W w.heap.size T x ∧ Blk W (w.heap.size + 1) T y ∧ Blk W (w.heap.size + 1 + 1) T z ∧ Ext w W := by
  refine ⟨_, rfl, ((Blk.new w T x).alloc _).alloc _, ?_, ?_, (((Ext.refl w).alloc _).alloc _).alloc _⟩
  · have := (Blk.new (w.alloc (.cells x T)) T y).alloc (.cells z T)
    simpa using this
  · have := Blk.new ((w.alloc (.cells x T)).alloc (.cells y T)) T z
    simpa using this

end Go.Proofs.YtiecfamjnnmpaaaGreat

/- The document's hash, walked: Eight, Bytes, number. -/
namespace Go.Proofs.YtiecfamjnnmpaaaGreat
set_option linter.unusedVariables false
open Go.RowKit Go.Shelf

set_option maxRecDepth 100000 in
set_option maxHeartbeats 1000000 in
theorem Eight_any (n : Nat) (w : World) :
    Calls Tryz.prog 101 #[.int .u64 n] w fun e w' => ∃ v, e = .returned v ∧ w'.ownsRow w.heap.size 5 1 v 8 (bv (be n 8)) ∧ Ext w w' := by
  obtain ⟨i0, hi, hz0, hz1, hz2⟩ := info_parts Tryz.infoU8
  go_enter Tryz.func101, Tryz.ntmps101
  go_wp2
  go_loopg [3, 4] 8 (fun m s3 s4 wr => ∃ j : Nat, j + m = 8 ∧ s4 = .int .i64 ((7 : Int) - j) ∧ wr.ownsRow w.heap.size 5 1 s3 (beN n 8 j).length (bv (beN n 8 j)) ∧ Below w.heap.size w wr)
  case atStart => exact ⟨0, rfl, int_congr (by omega), World.ownsRow_nil _ _ _ _, Below.refl _ _⟩
  case round =>
    obtain ⟨j, hj, rfl, ho, hB⟩ := hrel
    by_cases h : j < 8
    · obtain ⟨i, hij⟩ : ∃ i : Nat, (7 : Int) - j = i := ⟨7 - j, by omega⟩
      rw [hij]
      have hi7 : (i : Int) ≤ 7 := by omega
      obtain ⟨q, hq⟩ : ∃ q, q = n / 2 ^ (8 * i) := ⟨_, rfl⟩
      have k1 : (n : Int) / 2 ^ (8 * i) = (q : Int) := by rw [hq]; simp
      obtain ⟨r, hr⟩ : ∃ r, r = q % 256 := ⟨_, rfl⟩
      have k2 : IntKind.u8.wrap (q : Int) = (r : Int) := by rw [IntKind.wrap_u8, hr]; omega
      have hrb : r = n / 2 ^ (8 * (8 - 1 - j)) % 256 := by rw [hr, hq]; congr 4; omega
      have HR := Lib.hid hrb
      have HJ := Lib.hid hj
      have HI := Lib.hid hij
      have hlen : (beN n 8 j).length ≤ 8 := by rw [beN_length]; omega
      have HLN := Lib.hid hlen
      have HB := Lib.hid hB
      clear hq hr hrb hj hij hlen hB
      go_wp2_with (at_builtin; refine wpList_append_own _ rfl (.tmp 9) (.tmp 16) 22 rfl w.heap.size 5 i0 (.int .u8 0) 1 1 Tryz.underlying22 hi hz0 hz1 hz2 rfl (by decide) _ _ _ rfl (ho.alloc _) ⟨wr.heap.size, 0, none⟩ 1 1 [.int .u8 (r : Int)] rfl rfl (cell_one_new _ _ _) (by simp [Value.oneCell']) (by have := HLN.out; simp only [maxLen]; omega) (by have := HLN.out; omega) (by have := HB.out.size; simp; omega) ?_; intro v' w1 hown1 hg1 _)
      have B1 : Hid (Below w.heap.size w w1) := Lib.hid ((HB.out.alloc HB.out.size _).grown hg1 (by have := HB.out.size; simp; omega) (own_ge ho))
      have O1 : Hid (w1.ownsRow w.heap.size 5 1 v' (beN n 8 (j + 1)).length (bv (beN n 8 (j + 1)))) := by
        show World.ownsRow _ _ _ _ _ _ _
        rw [beN_succ, List.length_append, bv_append, ← HR.out]
        exact hown1
      clear hown1 hg1 ho
      have hij := HI.out
      have hj := HJ.out
      go_wp2
      go_roundg (gk - 1)
      case measure => omega
      case rel => exact ⟨j + 1, by omega, int_congr (by omega), O1.out, B1.out⟩
    · obtain rfl : j = 8 := by omega
      have O := Lib.hid ho
      have HB := Lib.hid hB
      clear ho hB hj hi hz0 hz1 hz2
      go_wp2
      go_ret
      exact ⟨_, rfl, O.out, HB.out⟩

/-- The number of eight bytes. -/
def num8 (l : List Nat) : Nat := l.foldl (fun n b => n * 256 + b) 0
theorem num8_snoc (l : List Nat) (b : Nat) : num8 (l ++ [b]) = num8 l * 256 + b := by simp [num8]
theorem num8_aux (l : List Nat) : ∀ n, (∀ x ∈ l, x < 256) → l.foldl (fun n b => n * 256 + b) n < (n + 1) * 256 ^ l.length := by
  induction l with
  | nil => intro n _; simp
  | cons b l ih =>
    intro n h
    have h1 := ih (n * 256 + b) fun x hx => h x (List.mem_cons_of_mem _ hx)
    have h2 := h b (List.mem_cons_self ..)
    rw [List.foldl_cons, List.length_cons, Nat.pow_succ]
    refine Nat.lt_of_lt_of_le h1 ?_
    rw [Nat.mul_comm (256 ^ l.length) 256, ← Nat.mul_assoc]
    exact Nat.mul_le_mul_right _ (by omega)
theorem num8_lt (l : List Nat) (h : ∀ x ∈ l, x < 256) : num8 l < 256 ^ l.length := by
  have := num8_aux l 0 h
  rwa [Nat.zero_add, Nat.one_mul] at this

theorem own_ext {w w' : World} {base : Nat} {e : TypeId} {size n : Nat} {v : Value} {xs : List Value} (h : w.ownsRow base e size v n xs) (x : Ext w w') : w'.ownsRow base e size v n xs := by
  refine ⟨h.1, ?_⟩
  rcases h.2 with h0 | ⟨g, cap, cur, e1, hb, hg, hc⟩
  · exact .inl h0
  · exact .inr ⟨g, cap, cur, e1, hb, (x.out.block g (Array.getElem?_eq_some_iff.1 hg).1).trans hg, hc⟩
theorem own_base {w : World} {base base' : Nat} {e : TypeId} {size n : Nat} {v : Value} {xs : List Value} (h : w.ownsRow base e size v n xs) (hb : base' ≤ base) : w.ownsRow base' e size v n xs := by
  refine ⟨h.1, ?_⟩
  rcases h.2 with h0 | ⟨g, cap, cur, e1, hb', hg⟩
  · exact .inl h0
  · exact .inr ⟨g, cap, cur, e1, Nat.le_trans hb hb', hg⟩

end Go.Proofs.YtiecfamjnnmpaaaGreat

/- Shares, walked: id, mapped, right, Ids, Right, below. -/
namespace Go.Proofs.YtiecfamjnnmpaaaGreat
set_option linter.unusedVariables false
open Go.RowKit Go.Shelf Go.Maps

theorem Tryz.infoI64 : (Tryz.prog.info? 3).map (fun i => (i.zero, i.size, i.bytes)) = some (some (.int .i64 0), 1, 8) := by kernel_rfl
theorem Tryz.infoSh : (Tryz.prog.info? 37).map (fun i => (i.zero, i.size, i.bytes)) = some (some (.agg #[.int .i64 0, .int .u64 0]), 2, 16) := by kernel_rfl

/-- A literal of no elements. -/
theorem own_empty (w : World) (base g : Nat) (hg : g = w.heap.size) (hb : base ≤ g) (e : TypeId) (size : Nat) : (w.alloc (.cells #[] e)).ownsRow base e size (.slice (some ⟨g, 0, none⟩) 0 0) 0 [] := by
  subst hg
  exact ⟨by simp, .inr ⟨w.heap.size, 0, #[], rfl, hb, heap_alloc_new w _, Nat.le_refl _, by simp [maxLen], by simp, by simp⟩⟩
theorem cell_two_new (w : World) (x y : Value) (t : TypeId) : ∀ j u, [x, y][j]? = some u → (w.alloc (.cells #[x, y] t)).cell? ((⟨w.heap.size, 0, none⟩ : Addr).add j) = some u := by
  intro j u hj
  match j, hj with
  | 0, hj => simp at hj; subst hj; simp [Addr.add]
  | 1, hj => simp at hj; subst hj; simp [Addr.add]
theorem own_slice2 {w : World} {base : Nat} {e : TypeId} {n size : Nat} {v : Value} {xs : List Value} (h : w.ownsRow base e size v n xs) : ∃ A c, v = .slice A n c ∧ n ≤ c ∧ Reads w w.heap.size size A n xs := by
  rcases h.2 with ⟨rfl, h0⟩ | ⟨g, cap, cur, rfl, _, _, hc⟩
  · exact ⟨none, 0, by rw [h0], by omega, Reads.of_own (c := 0) (by rw [h0] at h ⊢; exact h)⟩
  · exact ⟨_, cap, rfl, hc.1, Reads.of_own h⟩

theorem ext_grown {w W w2 : World} {e : TypeId} {size n : Nat} {v : Value} {xs : List Value} (hx : Ext w W) (ho : W.ownsRow w.heap.size e size v n xs) (hg : W.grownBy w2 v.ownBlock) : Ext w w2 :=
  Ext.of (hx.out.grown hg hx.size (own_ge ho))

theorem id_any (x : Int) (n : Nat) (w : World) : Calls Tryz.prog 90 #[.agg #[.int .i64 x, .int .u64 (n : Int)]] w fun e w' => e = .returned (.int .i64 x) ∧ Ext w w' := by
  go_enter Tryz.func90, Tryz.ntmps90
  go_wp2
  go_ret
  exact ⟨rfl, (Ext.refl w).alloc _⟩

set_option maxRecDepth 100000 in
set_option maxHeartbeats 1000000 in
theorem mapI_any (l : List (Int × Nat)) (A : Option Addr) (c : Nat) (hn : l.length ≤ 1099511627776) (w : World) (hr : Reads w w.heap.size 2 A l.length (sv l)) :
    Calls Tryz.prog 89 #[.slice A l.length c, .func (.func 90) #[] #[]] w fun e w' => ∃ A' c', e = .returned (.slice A' l.length c') ∧ l.length ≤ c' ∧ Reads w' w'.heap.size 1 A' l.length (iv (l.map (·.1))) ∧ Ext w w' := by
  obtain ⟨i0, hi, hz0, hz1, hz2⟩ := info_parts Tryz.infoI64
  have hr0 : Hid (Reads w w.heap.size 2 A l.length (sv l)) := Lib.hid hr
  have HN := Lib.hid hn
  clear hr hn
  go_enter Tryz.func89, Tryz.ntmps89
  go_wp2
  go_loopg [5, 11] l.length (fun m s5 s11 wr => ∃ j : Nat, j + m = l.length ∧ s11 = .int .i64 j ∧ wr.ownsRow w.heap.size 3 1 s5 (l.take j).length (iv ((l.take j).map (·.1))) ∧ Ext w wr)
  case atStart => exact ⟨0, by omega, rfl, own_empty w _ _ rfl (Nat.le_refl _) _ _, (Ext.refl w).alloc _⟩
  case round =>
    obtain ⟨j, hj, rfl, hown, hx⟩ := hrel
    by_cases h : j < l.length
    · obtain ⟨s, hs⟩ : ∃ s, l[j]? = some s := ⟨_, List.getElem?_eq_getElem h⟩
      obtain ⟨ad, rfl, hlt, q0, q1⟩ := reads_share (hr0.out.below hx.out) hs
      have e1 : l.take (j + 1) = l.take j ++ [s] := by rw [List.take_add_one, hs]; rfl
      have hjb : (j : Int) ≤ 1099511627776 := by have := HN.out; omega
      have ci := fun W => id_any s.1 s.2 W
      have HE := Lib.hid e1
      have HX := Lib.hid hx
      have HJ := Lib.hid hj
      clear e1 hx hj hs
      go_wp2_with (first
        | (go_at_call 90; refine (ci _).mono ?_; clear ci; rintro e w1 ⟨rfl, x1⟩; have O1 := own_ext (hown.alloc _) x1; have X1 := (HX.out.alloc _).trans x1)
        | (at_builtin; refine wpList_append_own _ rfl (.tmp 15) (.tmp 19) 71 rfl w.heap.size 3 i0 (.int .i64 0) 1 8 Tryz.underlying71 hi hz0 hz1 hz2 rfl (by decide) _ _ _ rfl (O1.alloc _) ⟨w1.heap.size, 0, none⟩ 1 1 [.int .i64 s.1] rfl rfl (cell_one_new _ _ _) (by simp [Value.oneCell']) (by have := HN.out; have := HJ.out; simp only [maxLen, List.length_take]; omega) (by have := HN.out; simp only [List.length_take]; omega) (by have := X1.size; simp; omega) ?_; intro v2 w2 hown2 hg2 _))
      have X2 := ext_grown (X1.alloc _) (O1.alloc _) hg2
      have O2 : Hid (w2.ownsRow w.heap.size 3 1 v2 (l.take (j + 1)).length (iv ((l.take (j + 1)).map (·.1)))) := by
        show World.ownsRow _ _ _ _ _ _ _
        rw [HE.out, List.length_append, List.map_append, iv_append]
        exact hown2
      clear hown2 hg2 O1 hown
      have hj := HJ.out
      go_wp2
      go_roundg (gk - 1)
      case measure => omega
      case rel => exact ⟨j + 1, by omega, int_congr (by omega), O2.out, X2⟩
    · obtain rfl : j = l.length := by omega
      rw [List.take_length] at hown
      obtain ⟨A', c', rfl, hc', hr'⟩ := own_slice hown
      have HR := Lib.hid hr'
      have HX := Lib.hid hx
      clear hr' hx hown hj h
      go_wp2
      go_ret
      exact ⟨A', c', rfl, hc', HR.out, HX.out⟩

set_option maxRecDepth 100000 in
set_option maxHeartbeats 1000000 in
theorem Ids_any (l : List (Int × Nat)) (A : Option Addr) (c : Nat) (hn : l.length ≤ 1099511627776) (w : World) (hr : Reads w w.heap.size 2 A l.length (sv l)) :
    Calls Tryz.prog 85 #[.slice A l.length c] w fun e w' => ∃ A' c', e = .returned (.slice A' l.length c') ∧ l.length ≤ c' ∧ Reads w' w'.heap.size 1 A' l.length (iv (l.map (·.1))) ∧ Ext w w' := by
  obtain ⟨i0, hi, hz0, hz1, hz2⟩ := info_parts Tryz.infoI64
  have hr0 : Hid (Reads w w.heap.size 2 A l.length (sv l)) := Lib.hid hr
  have HN := Lib.hid hn
  clear hr hn
  go_enter Tryz.func85, Tryz.ntmps85
  go_wp2
  go_loopg [3, 4] l.length (fun m s3 s4 wr => ∃ j : Nat, j + m = l.length ∧ s4 = .int .i64 j ∧ wr.ownsRow w.heap.size 3 1 s3 (l.take j).length (iv ((l.take j).map (·.1))) ∧ Ext w wr)
  case atStart => exact ⟨0, by omega, rfl, own_empty w _ _ rfl (Nat.le_refl _) _ _, (Ext.refl w).alloc _⟩
  case round =>
    obtain ⟨j, hj, rfl, hown, hx⟩ := hrel
    by_cases h : j < l.length
    · obtain ⟨s, hs⟩ : ∃ s, l[j]? = some s := ⟨_, List.getElem?_eq_getElem h⟩
      obtain ⟨ad, rfl, hlt, q0, q1⟩ := reads_share (hr0.out.below hx.out) hs
      have e1 : l.take (j + 1) = l.take j ++ [s] := by rw [List.take_add_one, hs]; rfl
      have hjb : (j : Int) ≤ 1099511627776 := by have := HN.out; omega
      have HE := Lib.hid e1
      have HX := Lib.hid hx
      have HJ := Lib.hid hj
      clear e1 hx hj hs
      go_wp2_with (at_builtin; refine wpList_append_own _ rfl (.tmp 12) (.tmp 18) 71 rfl w.heap.size 3 i0 (.int .i64 0) 1 8 Tryz.underlying71 hi hz0 hz1 hz2 rfl (by decide) _ _ _ rfl (hown.alloc _) ⟨wr.heap.size, 0, none⟩ 1 1 [.int .i64 s.1] rfl rfl (cell_one_new _ _ _) (by simp [Value.oneCell']) (by have := HN.out; have := HJ.out; simp only [maxLen, List.length_take]; omega) (by have := HN.out; simp only [List.length_take]; omega) (by have := HX.out.size; simp; omega) ?_; intro v2 w2 hown2 hg2 _)
      have X2 := ext_grown (HX.out.alloc _) (hown.alloc _) hg2
      have O2 : Hid (w2.ownsRow w.heap.size 3 1 v2 (l.take (j + 1)).length (iv ((l.take (j + 1)).map (·.1)))) := by
        show World.ownsRow _ _ _ _ _ _ _
        rw [HE.out, List.length_append, List.map_append, iv_append]
        exact hown2
      clear hown2 hg2 hown
      have hj := HJ.out
      go_wp2
      go_roundg (gk - 1)
      case measure => omega
      case rel => exact ⟨j + 1, by omega, int_congr (by omega), O2.out, X2⟩
    · obtain rfl : j = l.length := by omega
      rw [List.take_length] at hown
      obtain ⟨A', c', rfl, hc', hr'⟩ := own_slice hown
      have HR := Lib.hid hr'
      have HX := Lib.hid hx
      clear hr' hx hown hj h
      go_wp2
      go_ret
      exact ⟨A', c', rfl, hc', HR.out, HX.out⟩

theorem wf_i64 {x : Int} (h : (Lit.int .i64 x).wf = true) : -9223372036854775808 ≤ x ∧ x ≤ 9223372036854775807 := by
  simp [Lit.wf, IntKind.min, IntKind.max, IntKind.signed, IntKind.bits] at h
  omega
theorem dec_ge {x : Int} (h : 1152921504606845789 ≤ x) : decide (x ≥ 1152921504606845789) = true := by simpa using h
theorem dec_nge {x : Int} (h : x < 1152921504606845789) : decide (1152921504606845789 ≤ x) = false := by simp; omega

set_option maxRecDepth 100000 in
set_option maxHeartbeats 1000000 in
theorem right_any (l : List Int) (hw : ∀ i ∈ l, (Lit.int .i64 i).wf = true) (A : Option Addr) (c : Nat) (hn : l.length ≤ 1099511627776) (w : World) (hr : Reads w w.heap.size 1 A l.length (iv l)) :
    Calls Tryz.prog 88 #[.slice A l.length c] w fun e w' => e = .returned (.bool (rightB l)) ∧ Ext w w' := by
  have hmm := @run_makeMap Tryz.prog
  have hr0 : Hid (Reads w w.heap.size 1 A l.length (iv l)) := Lib.hid hr
  have HN := Lib.hid hn
  have HW := Lib.hid hw
  clear hr hn hw
  go_enter Tryz.func88, Tryz.ntmps88
  go_wp2
  go_loopg [9] l.length (fun m s9 wr => ∃ j : Nat, j + m = l.length ∧ s9 = .int .i64 j ∧ SetIs wr w.heap.size (l.take j) ∧ okP (l.take j) ∧ Ext w wr)
  case atStart => exact ⟨0, by omega, rfl, SetIs.new w, okP_nil, (Ext.refl w).alloc _⟩
  case round =>
    obtain ⟨j, hj, rfl, hset, hok, hx⟩ := hrel
    by_cases h : j < l.length
    · obtain ⟨x, hs⟩ : ∃ s, l[j]? = some s := ⟨_, List.getElem?_eq_getElem h⟩
      obtain ⟨ad, rfl, q0⟩ := reads_id (hr0.out.below hx.out) hs
      have hwx := HW.out x (List.mem_of_getElem? hs)
      have hst := okP_take_succ hs
      have hjb : (j : Int) ≤ 1099511627776 := by have := HN.out; omega
      have hlk := SetIs.look hset x hwx
      have e1 : l.take (j + 1) = l.take j ++ [x] := by rw [List.take_add_one, hs]; rfl
      have HE := Lib.hid e1
      have HX := Lib.hid hx
      have HJ := Lib.hid hj
      have HO := Lib.hid hok
      have HT := Lib.hid hst
      have HS := Lib.hid hset
      have HWX := Lib.hid hwx
      clear hx hj hs hok hst e1 hset hwx
      by_cases h1 : x < 1
      · have k : rightB l = false := rightB_not (okP_not (k := j + 1) fun hp => by have := (HT.out.1 hp).2.1; omega)
        clear hlk
        go_wp2
        go_ret
        first | exact ⟨ret_bool k.symm, HX.out⟩ | exact ⟨rfl, HX.out⟩
      · by_cases h2 : 1152921504606845789 ≤ x
        · have k : rightB l = false := rightB_not (okP_not (k := j + 1) fun hp => by have := (HT.out.1 hp).2.2.1; omega)
          clear hlk
          have d2 := dec_ge h2
          go_wp2
          go_ret
          first | exact ⟨ret_bool k.symm, HX.out⟩ | exact ⟨rfl, HX.out⟩
        · have d2 := dec_nge (Int.not_le.1 h2)
          by_cases h3 : x ∈ l.take j
          · have k : rightB l = false := rightB_not (okP_not (k := j + 1) fun hp => (HT.out.1 hp).2.2.2 h3)
            rw [decide_eq_true h3] at hlk
            clear h3 h2
            go_wp2
            go_ret
            first | exact ⟨ret_bool k.symm, HX.out⟩ | exact ⟨rfl, HX.out⟩
          · rw [decide_eq_false h3] at hlk
            have hok' : Hid (okP (l.take (j + 1))) := HT.out.2 ⟨HO.out, by omega, by omega, h3⟩
            clear h3 h2
            go_wp2_with (at_mapUpdate; refine wpList_mapUpdate_own _ rfl _ _ _ 119 rfl 3 4 keyInt Tryz.underlying119 _ w.heap.size _ _ rfl HS.out (by have := HN.out; have := HJ.out; simp only [maxLen, List.length_take]; omega) _ _ _ rfl rfl (keyOf_int_mk Tryz.underlying3 HWX.out) tt [] (plainElem_bool Tryz.underlying4 true) ?_; intro w1 hown1 hgrow1)
            have S1 : Hid (SetIs w1 w.heap.size (l.take (j + 1))) := by
              show SetIs _ _ _
              rw [HE.out]
              exact SetIs.put_ hown1
            have X1 : Ext w w1 := Ext.of (HX.out.out.grown hgrow1 HX.out.size (fun k hk => by cases hk; exact Nat.le_refl _))
            clear hown1 hgrow1
            have hj := HJ.out
            go_wp2
            go_roundg (gk - 1)
            case measure => omega
            case rel => exact ⟨j + 1, by omega, int_congr (by omega), S1.out, hok'.out, X1⟩
    · obtain rfl : j = l.length := by omega
      rw [List.take_length] at hok
      have HX := Lib.hid hx
      have HS := Lib.hid hset
      have HO := Lib.hid hok
      clear hx hset hok hj
      by_cases h1 : 0 < l.length
      · have d1 : (0 : Int) < (l.length : Int) := by omega
        by_cases h2 : l.length ≤ 7
        · have k : rightB l = true := (rightB_iff l).2 ⟨HO.out, h1, h2⟩
          have d2 : (l.length : Int) ≤ 7 := by omega
          go_wp2
          go_ret
          first | exact ⟨ret_bool k.symm, HX.out⟩ | exact ⟨rfl, HX.out⟩
        · have k : rightB l = false := by unfold rightB; simp [h2]
          have d2 : ¬ (l.length : Int) ≤ 7 := by omega
          go_wp2
          go_ret
          first | exact ⟨ret_bool k.symm, HX.out⟩ | exact ⟨rfl, HX.out⟩
      · have k : rightB l = false := by unfold rightB; simp [h1]
        have d1 : ¬ (0 : Int) < (l.length : Int) := by omega
        go_wp2
        go_ret
        first | exact ⟨ret_bool k.symm, HX.out⟩ | exact ⟨rfl, HX.out⟩

set_option maxRecDepth 100000 in
set_option maxHeartbeats 2000000 in
theorem Right_any (l : List Int) (A : Option Addr) (c : Nat) (hn : l.length ≤ 1099511627776) (w : World) (hr : Reads w w.heap.size 1 A l.length (iv l)) :
    Calls Tryz.prog 84 #[.slice A l.length c] w fun e w' => e = .returned (.bool (rightB l)) ∧ Ext w w' := by
  have hr0 : Hid (Reads w w.heap.size 1 A l.length (iv l)) := Lib.hid hr
  have HN := Lib.hid hn
  clear hr hn
  by_cases h0 : l.length < 1
  · have k : rightB l = false := by unfold rightB; simp; omega
    rw [k]
    go_enter Tryz.func84, Tryz.ntmps84
    go_wp2
    go_ret
    exact ⟨rfl, Ext.refl w⟩
  by_cases h7 : 7 < l.length
  · have k : rightB l = false := by unfold rightB; simp; omega
    rw [k]
    go_enter Tryz.func84, Tryz.ntmps84
    go_wp2
    go_ret
    exact ⟨rfl, Ext.refl w⟩
  have hj8 : ∀ j : Nat, j < l.length → (j : Int) ≤ 7 := fun j hj => by omega
  have HJ8 := Lib.hid hj8
  have H0 := Lib.hid h0
  have H7 := Lib.hid h7
  have h0' : ¬ (l.length : Int) < 1 := by omega
  have h7' : ¬ (7 : Int) < (l.length : Int) := by omega
  clear hj8 h0 h7
  go_enter Tryz.func84, Tryz.ntmps84
  go_wp2
  clear h0' h7'
  go_loopg [3] l.length (fun m s3 wr => ∃ j : Nat, j + m = l.length ∧ s3 = .int .i64 j ∧ okP (l.take j) ∧ Ext w wr)
  case atStart => exact ⟨0, by omega, rfl, okP_nil, Ext.refl w⟩
  case round =>
    obtain ⟨j, hj, rfl, hok, hx⟩ := hrel
    by_cases h : j < l.length
    · obtain ⟨x, hs⟩ : ∃ s, l[j]? = some s := ⟨_, List.getElem?_eq_getElem h⟩
      obtain ⟨ad, rfl, q0⟩ := reads_id (hr0.out.below hx.out) hs
      have hst := okP_take_succ hs
      have hjb := HJ8.out j h
      have HX := Lib.hid hx
      have HJ := Lib.hid hj
      have HO := Lib.hid hok
      have HT := Lib.hid hst
      have HXS := Lib.hid hs
      clear hx hj hok hst hs
      by_cases h1 : x < 1
      · have k : rightB l = false := rightB_not (okP_not (k := j + 1) fun hp => by have := (HT.out.1 hp).2.1; omega)
        go_wp2
        go_ret
        first | exact ⟨ret_bool k.symm, HX.out⟩ | exact ⟨rfl, HX.out⟩
      · by_cases h2 : 1152921504606845789 ≤ x
        · have k : rightB l = false := rightB_not (okP_not (k := j + 1) fun hp => by have := (HT.out.1 hp).2.2.1; omega)
          have d2 := dec_ge h2
          go_wp2
          go_ret
          first | exact ⟨ret_bool k.symm, HX.out⟩ | exact ⟨rfl, HX.out⟩
        · have d2 := dec_nge (Int.not_le.1 h2)
          have HI : Hid (1 ≤ x ∧ x < 1152921504606845789) := Lib.hid ⟨by omega, by omega⟩
          clear h2
          go_wp2
          clear d2 h1
          obtain ⟨G, hG⟩ : ∃ G, G = gk - 1 := ⟨_, rfl⟩
          have HG := Lib.hid hG
          clear hG
          go_loopg [4] j (fun m s4 wq => ∃ i : Nat, i + m = j ∧ s4 = .int .i64 i ∧ x ∉ l.take i ∧ Ext w wq)
          case atStart => exact ⟨0, by omega, rfl, by simp, HX.out⟩
          case round =>
            obtain ⟨i, hi, rfl, hni, hxq⟩ := hrel
            have HXQ := Lib.hid hxq
            have HIJ := Lib.hid hi
            have HNI := Lib.hid hni
            by_cases h' : i < j
            · obtain ⟨y, hy⟩ : ∃ s, l[i]? = some s := ⟨_, List.getElem?_eq_getElem (by omega)⟩
              obtain ⟨ad', e', q2⟩ := reads_id (hr0.out.below hxq.out) hy
              cases e'
              obtain ⟨ad', e', q3⟩ := reads_id (hr0.out.below hxq.out) HXS.out
              cases e'
              have q2' := fun n : Nat => show (wr.drewN n).cell? _ = _ from q2
              have q3' := fun n : Nat => show (wr.drewN n).cell? _ = _ from q3
              have hil : (i : Int) < l.length := by omega
              have e1 : l.take (i + 1) = l.take i ++ [y] := by rw [List.take_add_one, hy]; rfl
              have HE := Lib.hid e1
              have HYM := Lib.hid (List.mem_take_iff_getElem.2 ⟨i, by omega, by have := List.getElem?_eq_some_iff.1 hy; exact this.2⟩ : y ∈ l.take j)
              clear hxq hi hni hy e1
              by_cases h5 : y = x
              · have k : rightB l = false := rightB_not (okP_not (k := j + 1) fun hp => (HT.out.1 hp).2.2.2 (h5 ▸ HYM.out))
                have d1 : (y == x) = true := by simpa using h5
                go_wp2
                go_region
                all_goals go_wp2
                all_goals go_ret
                all_goals first | exact ⟨ret_bool k.symm, HXQ.out.drew⟩ | exact ⟨rfl, HXQ.out.drew⟩
              · have d1 : (y == x) = false := by simpa using h5
                have hni' : Hid (x ∉ l.take (i + 1)) := by
                  show _ ∉ _
                  rw [HE.out, List.mem_append, List.mem_singleton]
                  rintro (h6 | h6)
                  · exact HNI.out h6
                  · exact h5 h6.symm
                have hi := HIJ.out
                go_wp2
                go_region
                all_goals go_wp2
                all_goals go_roundg (gk - 1)
                case measure => omega
                case rel => exact ⟨i + 1, by omega, int_congr (by omega), hni'.out, HXQ.out.drew⟩
            · obtain rfl : i = j := by omega
              have hok' : Hid (okP (l.take (i + 1))) := HT.out.2 ⟨HO.out, HI.out.1, HI.out.2, hni⟩
              clear hxq hi hni
              go_wp2
              have hj := HJ.out
              have hG := HG.out
              go_roundg G
              case measure => omega
              case rel => exact ⟨i + 1, by omega, int_congr (by omega), hok'.out, HXQ.out⟩
    · obtain rfl : j = l.length := by omega
      rw [List.take_length] at hok
      have k : rightB l = true := (rightB_iff l).2 ⟨hok, by have := H0.out; omega, by have := H7.out; omega⟩
      have HX := Lib.hid hx
      clear hx hok hj
      go_wp2
      go_ret
      first | exact ⟨ret_bool k.symm, HX.out⟩ | exact ⟨rfl, HX.out⟩
end Go.Proofs.YtiecfamjnnmpaaaGreat

/- Shares, walked: weights and its closure, at, Weight. -/
namespace Go.Proofs.YtiecfamjnnmpaaaGreat
set_option linter.unusedVariables false
open Go.RowKit Go.Shelf Go.Maps
attribute [local irreducible] atN prodN

theorem lt64_R {n : Nat} (h : n < bR) : n < 18446744073709551616 := by unfold bR at h; omega
theorem lt64_Q {n : Nat} (h : n < bQ) : n < 18446744073709551616 := by unfold bQ at h; omega
theorem wrap_id {k : Int} (h : 1 ≤ k ∧ k < 1152921504606845789) : IntKind.u64.wrap k = ((k.toNat : Nat) : Int) := by rw [IntKind.wrap_u64]; omega
theorem prodN_take {l : List Int} {j : Nat} {k : Int} (hk : l[j]? = some k) (id : Int) (x : Nat) : prodN (l.take (j + 1)) id x = if k = id then prodN (l.take j) id x else mulM bR (prodN (l.take j) id x) (subM bR x k.toNat) := by
  rw [List.take_add_one, hk]; exact prodN_snoc _ _ _ _
theorem atN_take {l : List Int} {j : Nat} {k : Int} (hk : l[j]? = some k) (id : Int) (x : Nat) : atN (l.take (j + 1)) id x = if k = id then atN (l.take j) id x else mulM bR (atN (l.take j) id x) (mulM bR (subM bR x k.toNat) (invM bR (subM bR id.toNat k.toNat))) := by
  rw [List.take_add_one, hk]; exact atN_snoc' _ _ _ _

set_option maxRecDepth 100000 in
set_option maxHeartbeats 2000000 in
theorem clo_any (l : List Int) (hl : ∀ i ∈ l, 1 ≤ i ∧ i < 1152921504606845789) (id : Int) (hid : 1 ≤ id ∧ id < 1152921504606845789) (x : Nat) (A : Option Addr) (c : Nat) (g h0 : Nat) (w : World)
    (hp : w.cell? ⟨g, 0, none⟩ = some (.slice A l.length c)) (hq : w.cell? ⟨h0, 0, none⟩ = some (.int .u64 (x : Int))) (hn : l.length ≤ 7) (hr : Reads w w.heap.size 1 A l.length (iv l)) :
    Calls Tryz.prog 119 #[.int .i64 id, .pointer (some ⟨g, 0, none⟩), .pointer (some ⟨h0, 0, none⟩)] w fun e w' => e = .returned (.int .u64 (atN l id x : Nat)) ∧ Ext w w' := by
  have hr0 : Hid (Reads w w.heap.size 1 A l.length (iv l)) := Lib.hid hr
  have HN := Lib.hid hn
  have HL := Lib.hid hl
  have HQ := Lib.hid hq
  have ki := wrap_id hid
  clear hr hn hl hid
  have hwt : Hid (atN l id x = mulM bR (prodN l id x) (invM bR (prodN l id id.toNat))) := (wtN_eq l id x).symm
  go_enter Tryz.func119, Tryz.ntmps119
  go_wp2
  clear hq hp
  go_loopg [5, 6, 13] l.length (fun m s5 s6 s13 wr => ∃ j : Nat, j + m = l.length ∧ s13 = .int .i64 j ∧ s5 = .int .u64 (prodN (l.take j) id x : Nat) ∧ s6 = .int .u64 (prodN (l.take j) id id.toNat : Nat) ∧ Ext w wr)
  case atStart => exact ⟨0, by omega, rfl, by unfold prodN; rfl, by unfold prodN; rfl, Ext.refl w⟩
  case round =>
    obtain ⟨j, hj, rfl, rfl, rfl, hx⟩ := hrel
    have hq := hx.cell HQ.out
    by_cases h : j < l.length
    · obtain ⟨k, hs⟩ : ∃ s, l[j]? = some s := ⟨_, List.getElem?_eq_getElem h⟩
      obtain ⟨ad, rfl, q0⟩ := reads_id (hr0.out.below hx.out) hs
      have kk := wrap_id (HL.out k (List.mem_of_getElem? hs))
      have hjb : (j : Int) ≤ 7 := by have := HN.out; omega
      have e1 := prodN_take hs id x
      have e2 := prodN_take hs id id.toNat
      have b1 := lt64_R (prodN_lt (l.take j) id x)
      have b2 := lt64_R (prodN_lt (l.take j) id id.toNat)
      obtain ⟨kn, hkn⟩ : ∃ n : Nat, n = k.toNat := ⟨_, rfl⟩
      obtain ⟨idn, hidn⟩ : ∃ n : Nat, n = id.toNat := ⟨_, rfl⟩
      obtain ⟨u, hu⟩ : ∃ u, u = prodN (l.take j) id x := ⟨_, rfl⟩
      obtain ⟨v, hv⟩ : ∃ v, v = prodN (l.take j) id id.toNat := ⟨_, rfl⟩
      rw [← hu] at e1 b1 ⊢
      rw [← hv] at e2 b2 ⊢
      rw [← hkn] at kk e1 e2
      rw [← hidn] at ki
      have c1 := fun W => SubRE x kn W
      have c2 := fun W => MulRE u (subM bR x kn) b1 (lt64_R (subM_lt (by decide) _ _)) W
      have c3 := fun W => SubRE idn kn W
      have c4 := fun W => MulRE v (subM bR idn kn) b2 (lt64_R (subM_lt (by decide) _ _)) W
      have HE1 := Lib.hid e1
      have HE2 := Lib.hid e2
      have HX := Lib.hid hx
      have HJ := Lib.hid hj
      have HI := Lib.hid hidn
      clear e1 e2 hx hj hs hu hv hkn hidn b1 b2
      by_cases hk : k = id
      · have d1 : (k != id) = false := by simpa using hk
        rw [if_pos hk] at HE1 HE2
        clear c1 c2 c3 c4
        go_wp2
        have hj := HJ.out
        go_roundg (gk - 1)
        case measure => omega
        case rel => exact ⟨j + 1, by omega, int_congr (by omega), by rw [HE1.out], by rw [HE2.out], HX.out⟩
      · have d1 : (k != id) = true := by simpa using hk
        rw [if_neg hk] at HE1 HE2
        go_wp2_with (first
          | (go_at_call 120; refine (c1 _).mono ?_; clear c1; rintro e w1 ⟨rfl, x1⟩)
          | (go_at_call 62; refine (c2 _).mono ?_; clear c2; rintro e w2 ⟨rfl, x2⟩)
          | (go_at_call 120; refine (c3 _).mono ?_; clear c3; rintro e w3 ⟨rfl, x3⟩)
          | (go_at_call 62; refine (c4 _).mono ?_; clear c4; rintro e w4 ⟨rfl, x4⟩))
        have hj := HJ.out
        have X4 := (((HX.out.trans x1).trans x2).trans x3).trans x4
        go_roundg (gk - 1)
        case measure => omega
        case rel => exact ⟨j + 1, by omega, int_congr (by omega), by rw [HE1.out], by rw [HE2.out, HI.out], X4⟩
    · obtain rfl : j = l.length := by omega
      have b1 := lt64_R (prodN_lt l id x)
      have b2 := lt64_R (mulM_lt (m := bR) (by decide) 0 0)
      rw [List.take_length]
      have c1 := fun W => InvR_any (prodN l id id.toNat) W
      have c2 := fun W => MulRE (prodN l id x) (invM bR (prodN l id id.toNat)) b1 (lt64_R (invM_lt (by decide) _)) W
      obtain ⟨u, hu⟩ : ∃ u, u = prodN l id x := ⟨_, rfl⟩
      obtain ⟨v, hv⟩ : ∃ v, v = prodN l id id.toNat := ⟨_, rfl⟩
      obtain ⟨iv, hiv⟩ : ∃ v, v = invM bR (prodN l id id.toNat) := ⟨_, rfl⟩
      rw [← hiv] at c1 c2 hwt
      rw [← hu] at c2 hwt ⊢
      rw [← hv] at c1 ⊢
      have HX := Lib.hid hx
      clear hx hu hv hiv b1 b2 hj
      go_wp2_with (first
          | (go_at_call 121; refine (c1 _).mono ?_; clear c1; rintro e w1 ⟨rfl, rfl⟩)
          | (go_at_call 62; refine (c2 _).mono ?_; clear c2; rintro e w2 ⟨rfl, x2⟩))
      go_ret
      exact ⟨by rw [hwt.out]; rfl, HX.out.trans x2⟩

theorem makeFunc_run (fn : Fn) (first cap : Array Value) (w : World) : (Instr.makeFunc fn first cap).run Tryz.prog w = .ok (.func fn first cap) w := rfl
theorem weights_any (A : Option Addr) (n c x : Nat) (w : World) :
    Calls Tryz.prog 91 #[.slice A n c, .int .u64 (x : Int)] w fun e w' => e = .returned (.func (.func 119) #[] #[.pointer (some ⟨w.heap.size, 0, none⟩), .pointer (some ⟨w.heap.size + 1, 0, none⟩)]) ∧ w'.cell? ⟨w.heap.size, 0, none⟩ = some (.slice A n c) ∧ w'.cell? ⟨w.heap.size + 1, 0, none⟩ = some (.int .u64 (x : Int)) ∧ Ext w w' := by
  have hmf := makeFunc_run
  go_enter Tryz.func91, Tryz.ntmps91
  go_wp2
  go_ret
  refine ⟨rfl, ?_, ?_, ((Ext.refl w).alloc _).alloc _⟩
  · exact ((Blk.new w 71 #[.slice A n c]).alloc _).cell 0
  · have := (Blk.new (w.alloc (.cells #[.slice A n c] 71)) 23 #[.int .u64 (x : Int)]).cell 0
    rw [World.size_alloc] at this
    exact this
/-- A call of it in a later world. -/
theorem clo_later (l : List Int) (hl : ∀ i ∈ l, 1 ≤ i ∧ i < 1152921504606845789) (hn : l.length ≤ 7) (id : Int) (hid : 1 ≤ id ∧ id < 1152921504606845789) (x : Nat) (A : Option Addr) (c g : Nat) (w : World)
    (hp : w.cell? ⟨g, 0, none⟩ = some (.slice A l.length c)) (hq : w.cell? ⟨g + 1, 0, none⟩ = some (.int .u64 (x : Int))) (hr : Reads w w.heap.size 1 A l.length (iv l)) (W : World) (hx : Ext w W) :
    Calls Tryz.prog 119 #[.int .i64 id, .pointer (some ⟨g, 0, none⟩), .pointer (some ⟨g + 1, 0, none⟩)] W fun e w' => e = .returned (.int .u64 (atN l id x : Nat)) ∧ Ext W w' :=
  clo_any l hl id hid x A c g (g + 1) W (hx.cell hp) (hx.cell hq) hn ((hr.below hx.out).more hx.size)

def wgtR (l : List Int) (id : Int) : Value := .tuple #[.int .u64 (wgtV l id : Nat), .int .i64 (wgtE l id : Nat)]
theorem right_range {l : List Int} (h : rightB l = true) : (∀ i ∈ l, 1 ≤ i ∧ i < 1152921504606845789) ∧ l.length ≤ 7 := ⟨((rightB_iff l).1 h).1.1, ((rightB_iff l).1 h).2.2⟩

set_option maxRecDepth 100000 in
set_option maxHeartbeats 2000000 in
theorem Weight_any (l : List Int) (hw : ∀ i ∈ l, (Lit.int .i64 i).wf = true) (id : Int) (A : Option Addr) (c : Nat) (hn : l.length ≤ 1099511627776) (w : World) (hr : Reads w w.heap.size 1 A l.length (iv l)) :
    Calls Tryz.prog 95 #[.slice A l.length c, .int .i64 id] w fun e w' => e = .returned (wgtR l id) ∧ Ext w w' := by
  have hr0 : Hid (Reads w w.heap.size 1 A l.length (iv l)) := Lib.hid hr
  have cr := fun W (hx : Ext w W) => right_any l hw A c hn W ((hr.below hx.out).more hx.size)
  have HN := Lib.hid hn
  clear hr hn hw
  obtain ⟨rb, hrb⟩ : ∃ b, b = rightB l := ⟨_, rfl⟩
  rw [← hrb] at cr
  have HB := Lib.hid hrb
  clear hrb
  go_enter Tryz.func95, Tryz.ntmps95
  go_wp2
  go_loopg [10] l.length (fun m s10 wr => ∃ j : Nat, j + m = l.length ∧ s10 = .int .i64 j ∧ (rb = true → id ∉ l.take j) ∧ Ext w wr)
  case atStart => exact ⟨0, by omega, rfl, by simp, Ext.refl w⟩
  case round =>
    obtain ⟨j, hj, rfl, hni, hx⟩ := hrel
    by_cases h : j < l.length
    · obtain ⟨k, hs⟩ : ∃ s, l[j]? = some s := ⟨_, List.getElem?_eq_getElem h⟩
      obtain ⟨ad, rfl, q0⟩ := reads_id (hr0.out.below hx.out) hs
      have hjb : (j : Int) ≤ 1099511627776 := by have := HN.out; omega
      have e1 : l.take (j + 1) = l.take j ++ [k] := by rw [List.take_add_one, hs]; rfl
      have hm := List.mem_of_getElem? hs
      have HX := Lib.hid hx
      have HJ := Lib.hid hj
      have HI := Lib.hid hni
      have HE := Lib.hid e1
      have cr1 := cr wr hx
      clear hx hj hni e1 hs
      by_cases hk : k = id
      · subst hk
        have d1 : (k == k) = true := by simp
        cases rb with
        | true =>
          obtain ⟨h1, h2⟩ := right_range HB.out.symm
          have e2 : wgtR l k = .tuple #[.int .u64 (atN l k 0 : Nat), .int .i64 0] := by
            unfold wgtR wgtV wgtE; rw [if_pos ⟨HB.out.symm, hm⟩, if_pos ⟨HB.out.symm, hm⟩]; rfl
          have cw := fun W => weights_any (some ad) l.length c 0 W
          have cc := fun (W : World) (hW : Ext w W) g (hp : W.cell? ⟨g, 0, none⟩ = some (.slice (some ad) l.length c)) (hq : W.cell? ⟨g + 1, 0, none⟩ = some (.int .u64 ((0 : Nat) : Int))) => clo_later l h1 h2 k (h1 k hm) 0 (some ad) c g W hp hq ((hr0.out.below hW.out).more hW.size) W (Ext.refl W)
          have HE2 := Lib.hid e2
          clear e2 h1 h2 hm cr
          simp only [Int.cast_ofNat_Int] at cw cc
          go_wp2_with (first
            | (go_at_call 88; refine cr1.mono ?_; clear cr1; rintro e w1 ⟨rfl, x1⟩; have X1 := HX.out.trans x1)
            | (go_at_call 91; refine (cw _).mono ?_; clear cw; rintro e w2 ⟨rfl, p2, q2, x2⟩; have X2 := X1.trans x2)
            | (go_at_call 119; refine (cc _ X2 _ p2 q2).mono ?_; clear cc; rintro e w3 ⟨rfl, x3⟩; have X3 := X2.trans x3))
          go_ret2
          exact ⟨by rw [HE2.out]; rfl, X3⟩
        | false =>
          clear cr
          go_wp2_with (go_at_call 88; refine cr1.mono ?_; clear cr1; rintro e w1 ⟨rfl, x1⟩; have X1 := HX.out.trans x1)
          have hj := HJ.out
          go_roundg (gk - 1)
          case measure => omega
          case rel => exact ⟨j + 1, by omega, int_congr (by omega), by simp, X1⟩
      · have d1 : (k == id) = false := by simpa using hk
        have hni' : Hid (rb = true → id ∉ l.take (j + 1)) := by
          intro hb
          rw [HE.out, List.mem_append, List.mem_singleton]
          rintro (h6 | h6)
          · exact HI.out hb h6
          · exact hk h6.symm
        clear cr cr1 hm
        go_wp2
        have hj := HJ.out
        go_roundg (gk - 1)
        case measure => omega
        case rel => exact ⟨j + 1, by omega, int_congr (by omega), hni'.out, HX.out⟩
    · obtain rfl : j = l.length := by omega
      rw [List.take_length] at hni
      have e2 : wgtR l id = .tuple #[.int .u64 0, .int .i64 1] := by
        have hc : ¬ (rightB l = true ∧ id ∈ l) := fun ⟨h1, h2⟩ => hni (HB.out.trans h1) h2
        unfold wgtR wgtV wgtE; rw [if_neg hc, if_neg hc]; rfl
      have HX := Lib.hid hx
      have HE2 := Lib.hid e2
      clear hx hni e2 cr hj
      go_wp2
      go_ret2
      exact ⟨by rw [HE2.out]; rfl, HX.out⟩

set_option maxRecDepth 100000 in
set_option maxHeartbeats 2000000 in
theorem at_any (l : List Int) (hl : ∀ i ∈ l, 1 ≤ i ∧ i < 1152921504606845789) (id : Int) (hid : 1 ≤ id ∧ id < 1152921504606845789) (x : Nat) (A : Option Addr) (c : Nat) (w : World) (hn : l.length ≤ 7) (hr : Reads w w.heap.size 1 A l.length (iv l)) :
    Calls Tryz.prog 97 #[.slice A l.length c, .int .i64 id, .int .u64 (x : Int)] w fun e w' => e = .returned (.int .u64 (atN l id x : Nat)) ∧ Ext w w' := by
  have hr0 : Hid (Reads w w.heap.size 1 A l.length (iv l)) := Lib.hid hr
  have HN := Lib.hid hn
  have HL := Lib.hid hl
  have ki := wrap_id hid
  clear hr hn hl hid
  go_enter Tryz.func97, Tryz.ntmps97
  go_wp2
  go_loopg [7, 8] l.length (fun m s7 s8 wr => ∃ j : Nat, j + m = l.length ∧ s8 = .int .i64 j ∧ s7 = .int .u64 (atN (l.take j) id x : Nat) ∧ Ext w wr)
  case atStart => exact ⟨0, by omega, rfl, by unfold atN; rfl, Ext.refl w⟩
  case round =>
    obtain ⟨j, hj, rfl, rfl, hx⟩ := hrel
    by_cases h : j < l.length
    · obtain ⟨k, hs⟩ : ∃ s, l[j]? = some s := ⟨_, List.getElem?_eq_getElem h⟩
      obtain ⟨ad, rfl, q0⟩ := reads_id (hr0.out.below hx.out) hs
      have kk := wrap_id (HL.out k (List.mem_of_getElem? hs))
      have hjb : (j : Int) ≤ 7 := by have := HN.out; omega
      have e1 := atN_take hs id x
      have b1 := lt64_R (atN_lt (l.take j) id x)
      obtain ⟨kn, hkn⟩ : ∃ n : Nat, n = k.toNat := ⟨_, rfl⟩
      obtain ⟨idn, hidn⟩ : ∃ n : Nat, n = id.toNat := ⟨_, rfl⟩
      obtain ⟨u, hu⟩ : ∃ u, u = atN (l.take j) id x := ⟨_, rfl⟩
      rw [← hu] at e1 b1 ⊢
      rw [← hkn] at kk e1
      rw [← hidn] at ki e1
      have c1 := fun W => rSubR_any idn kn W
      have c2 := fun W => rInvR_any (subM bR idn kn) (lt64_R (subM_lt (by decide) _ _)) W
      have c3 := fun W => rSubR_any x kn W
      have c4 := fun W => rMulR_any (subM bR x kn) (invM bR (subM bR idn kn)) (lt64_R (invM_lt (by decide) _)) W
      have c5 := fun W => rMulR_any u (mulM bR (subM bR x kn) (invM bR (subM bR idn kn))) (lt64_R (mulM_lt (by decide) _ _)) W
      have HE1 := Lib.hid e1
      have HX := Lib.hid hx
      have HJ := Lib.hid hj
      have HI := Lib.hid hidn
      clear e1 hx hj hs hu hkn hidn b1
      by_cases hk : k = id
      · have d1 : (k == id) = true := by simpa using hk
        rw [if_pos hk] at HE1
        clear c1 c2 c3 c4 c5
        go_wp2
        have hj := HJ.out
        go_roundg (gk - 1)
        case measure => omega
        case rel => exact ⟨j + 1, by omega, int_congr (by omega), by rw [HE1.out], HX.out⟩
      · have d1 : (k == id) = false := by simpa using hk
        rw [if_neg hk] at HE1
        go_wp2_with (first
          | (go_at_call 124; refine (c1 _).mono ?_; clear c1; rintro e w' ⟨rfl, rfl⟩)
          | (go_at_call 123; refine (c2 _).mono ?_; clear c2; rintro e w' ⟨rfl, rfl⟩)
          | (go_at_call 124; refine (c3 _).mono ?_; clear c3; rintro e w' ⟨rfl, rfl⟩)
          | (go_at_call 65; refine (c4 _).mono ?_; clear c4; rintro e w' ⟨rfl, rfl⟩)
          | (go_at_call 65; refine (c5 _).mono ?_; clear c5; rintro e w' ⟨rfl, rfl⟩))
        have hj := HJ.out
        go_roundg (gk - 1)
        case measure => omega
        case rel => exact ⟨j + 1, by omega, int_congr (by omega), by rw [HE1.out], HX.out⟩
    · obtain rfl : j = l.length := by omega
      rw [List.take_length]
      have HX := Lib.hid hx
      clear hx hj
      go_wp2
      go_ret
      exact ⟨rfl, HX.out⟩

set_option maxRecDepth 100000 in
set_option maxHeartbeats 2000000 in
theorem rWeight_any (l : List Int) (id : Int) (A : Option Addr) (c : Nat) (hn : l.length ≤ 1099511627776) (w : World) (hr : Reads w w.heap.size 1 A l.length (iv l)) :
    Calls Tryz.prog 98 #[.slice A l.length c, .int .i64 id] w fun e w' => e = .returned (wgtR l id) ∧ Ext w w' := by
  have hr0 : Hid (Reads w w.heap.size 1 A l.length (iv l)) := Lib.hid hr
  have HN := Lib.hid hn
  clear hr hn
  go_enter Tryz.func98, Tryz.ntmps98
  go_wp2
  go_loopg [6, 7] l.length (fun m s6 s7 wr => ∃ j : Nat, j + m = l.length ∧ s7 = .int .i64 j ∧ s6 = .bool (decide (id ∈ l.take j)) ∧ Ext w wr)
  case atStart => exact ⟨0, by omega, rfl, by simp, Ext.refl w⟩
  case round =>
    obtain ⟨j, hj, rfl, rfl, hx⟩ := hrel
    by_cases h : j < l.length
    · obtain ⟨k, hs⟩ : ∃ s, l[j]? = some s := ⟨_, List.getElem?_eq_getElem h⟩
      obtain ⟨ad, rfl, q0⟩ := reads_id (hr0.out.below hx.out) hs
      have hjb : (j : Int) ≤ 1099511627776 := by have := HN.out; omega
      have e1 : decide (id ∈ l.take (j + 1)) = (decide (id ∈ l.take j) || decide (k = id)) := by
        have e0 : id ∈ l.take (j + 1) ↔ (id ∈ l.take j ∨ k = id) := by
          rw [List.take_add_one, hs]
          show id ∈ l.take j ++ [k] ↔ _
          rw [List.mem_append, List.mem_singleton, eq_comm (a := id)]
        rw [decide_eq_decide.2 e0, Bool.decide_or]
      have HX := Lib.hid hx
      have HJ := Lib.hid hj
      have HE := Lib.hid e1
      clear hx hj e1 hs
      obtain ⟨b, hb⟩ : ∃ b, b = decide (id ∈ l.take j) := ⟨_, rfl⟩
      rw [← hb] at HE ⊢
      clear hb
      cases b with
      | true =>
        go_wp2
        have hj := HJ.out
        go_roundg (gk - 1)
        case measure => omega
        case rel => exact ⟨j + 1, by omega, int_congr (by omega), by rw [HE.out]; simp, HX.out⟩
      | false =>
        by_cases hk : k = id
        · have d1 : (k == id) = true := by simpa using hk
          go_wp2
          have hj := HJ.out
          go_roundg (gk - 1)
          case measure => omega
          case rel => exact ⟨j + 1, by omega, int_congr (by omega), by rw [HE.out]; simp [hk], HX.out⟩
        · have d1 : (k == id) = false := by simpa using hk
          go_wp2
          have hj := HJ.out
          go_roundg (gk - 1)
          case measure => omega
          case rel => exact ⟨j + 1, by omega, int_congr (by omega), by rw [HE.out]; simp [hk], HX.out⟩
    · obtain rfl : j = l.length := by omega
      rw [List.take_length]
      have cr := Right_any l A c HN.out wr ((hr0.out.below hx.out).more hx.size)
      have HX := Lib.hid hx
      clear hj hx
      by_cases hin : id ∈ l
      · rw [decide_eq_true hin]
        cases hrb : rightB l with
        | true =>
          have e2 : wgtR l id = .tuple #[.int .u64 (atN l id 0 : Nat), .int .i64 0] := by
            unfold wgtR wgtV wgtE; rw [if_pos ⟨hrb, hin⟩, if_pos ⟨hrb, hin⟩]; rfl
          obtain ⟨h1, h2⟩ := right_range hrb
          have ca := fun (W : World) (hW : Ext w W) => at_any l h1 id (h1 id hin) 0 A c W h2 ((hr0.out.below hW.out).more hW.size)
          simp only [Int.cast_ofNat_Int] at ca
          have HE2 := Lib.hid e2
          rw [hrb] at cr
          clear e2 h1 h2 hin hrb
          go_wp2_with (first
            | (go_at_call 84; refine cr.mono ?_; clear cr; rintro e w1 ⟨rfl, x1⟩; have X1 := HX.out.trans x1)
            | (go_at_call 97; refine (ca _ X1).mono ?_; clear ca; rintro e w3 ⟨rfl, x3⟩; have X3 := X1.trans x3))
          go_ret2
          exact ⟨by rw [HE2.out]; rfl, X3⟩
        | false =>
          have e2 : wgtR l id = .tuple #[.int .u64 0, .int .i64 1] := by
            have hc : ¬ (rightB l = true ∧ id ∈ l) := fun ⟨h1, h2⟩ => by rw [hrb] at h1; cases h1
            unfold wgtR wgtV wgtE; rw [if_neg hc, if_neg hc]; rfl
          have HE2 := Lib.hid e2
          rw [hrb] at cr
          clear e2 hin hrb
          go_wp2_with (go_at_call 84; refine cr.mono ?_; clear cr; rintro e w1 ⟨rfl, x1⟩; have X1 := HX.out.trans x1)
          go_ret2
          exact ⟨by rw [HE2.out]; rfl, X1⟩
      · rw [decide_eq_false hin]
        have e2 : wgtR l id = .tuple #[.int .u64 0, .int .i64 1] := by
          have hc : ¬ (rightB l = true ∧ id ∈ l) := fun ⟨h1, h2⟩ => hin h2
          unfold wgtR wgtV wgtE; rw [if_neg hc, if_neg hc]; rfl
        have HE2 := Lib.hid e2
        clear e2 hin
        cases hrb : rightB l with
        | true =>
          rw [hrb] at cr
          clear hrb
          go_wp2_with (go_at_call 84; refine cr.mono ?_; clear cr; rintro e w1 ⟨rfl, x1⟩; have X1 := HX.out.trans x1)
          go_ret2
          exact ⟨by rw [HE2.out]; rfl, X1⟩
        | false =>
          rw [hrb] at cr
          clear hrb
          go_wp2_with (go_at_call 84; refine cr.mono ?_; clear cr; rintro e w1 ⟨rfl, x1⟩; have X1 := HX.out.trans x1)
          go_ret2
          exact ⟨by rw [HE2.out]; rfl, X1⟩

/-! ### are the numbers below R, and the ids right? -/
def lowB (l : List (Int × Nat)) : Bool := l.all (fun s => decide (s.2 < bR))
theorem mayB_eq (l : List (Int × Nat)) : mayB l = (lowB l && rightB (l.map (·.1))) := rfl
theorem lowB_not {l : List (Int × Nat)} {s : Int × Nat} (hs : s ∈ l) (h : bR ≤ s.2) : lowB l = false := by
  refine Bool.eq_false_iff.2 fun hc => ?_
  have := List.all_eq_true.1 hc s hs
  simp at this; omega
theorem lowB_take {l : List (Int × Nat)} {j : Nat} {s : Int × Nat} (hs : l[j]? = some s) (h : s.2 < bR) (h0 : lowB (l.take j) = true) : lowB (l.take (j + 1)) = true := by
  rw [List.take_add_one, hs]
  unfold lowB at *
  simp [List.all_append, h0, h]

set_option maxRecDepth 100000 in
set_option maxHeartbeats 2000000 in
theorem below_any (l : List (Int × Nat)) (A : Option Addr) (c : Nat) (hn : l.length ≤ 1099511627776) (w : World) (hr : Reads w w.heap.size 2 A l.length (sv l)) :
    Calls Tryz.prog 86 #[.slice A l.length c] w fun e w' => e = .returned (.bool (lowB l)) ∧ Ext w w' := by
  have hr0 : Hid (Reads w w.heap.size 2 A l.length (sv l)) := Lib.hid hr
  have HN := Lib.hid hn
  clear hr hn
  go_enter Tryz.func86, Tryz.ntmps86
  go_wp2
  go_loopg [3] l.length (fun m s3 wr => ∃ j : Nat, j + m = l.length ∧ s3 = .int .i64 j ∧ lowB (l.take j) = true ∧ Ext w wr)
  case atStart => exact ⟨0, by omega, rfl, rfl, Ext.refl w⟩
  case round =>
    obtain ⟨j, hj, rfl, hok, hx⟩ := hrel
    by_cases h : j < l.length
    · obtain ⟨s, hs⟩ : ∃ s, l[j]? = some s := ⟨_, List.getElem?_eq_getElem h⟩
      obtain ⟨ad, rfl, hlt, q0, q1⟩ := reads_share (hr0.out.below hx.out) hs
      have hjb : (j : Int) ≤ 1099511627776 := by have := HN.out; omega
      have HX := Lib.hid hx
      have HJ := Lib.hid hj
      by_cases h1 : bR ≤ s.2
      · have k := lowB_not (List.mem_of_getElem? hs) h1
        have d1 : decide ((s.2 : Int) ≥ 1152921504606845789) = true := dec_ge (by unfold bR at h1; omega)
        have d2 : (1152921504606845789 : Int) ≤ (s.2 : Int) := by unfold bR at h1; omega
        clear hx hj hok hs h1
        go_wp2
        go_ret
        first | exact ⟨ret_bool k.symm, HX.out⟩ | exact ⟨rfl, HX.out⟩
      · have hok' := Lib.hid (lowB_take hs (by omega) hok)
        have d1 : decide ((1152921504606845789 : Int) ≤ (s.2 : Int)) = false := dec_nge (by unfold bR at h1; omega)
        clear hx hj hok hs h1
        go_wp2
        have hj := HJ.out
        go_roundg (gk - 1)
        case measure => omega
        case rel => exact ⟨j + 1, by omega, int_congr (by omega), hok'.out, HX.out⟩
    · obtain rfl : j = l.length := by omega
      rw [List.take_length] at hok
      have HX := Lib.hid hx
      have HO := Lib.hid hok
      clear hx hok hj
      go_wp2
      go_ret
      exact ⟨ret_bool HO.out.symm, HX.out⟩

set_option maxRecDepth 100000 in
set_option maxHeartbeats 2000000 in
theorem may_any (l : List (Int × Nat)) (hw : idsWf l) (A : Option Addr) (c : Nat) (hn : l.length ≤ 1099511627776) (w : World) (hr : Reads w w.heap.size 2 A l.length (sv l)) :
    Calls Tryz.prog 78 #[.slice A l.length c] w fun e w' => e = .returned (.bool (mayB l)) ∧ Ext w w' := by
  have hr0 : Hid (Reads w w.heap.size 2 A l.length (sv l)) := Lib.hid hr
  have HN := Lib.hid hn
  have HW := Lib.hid hw
  clear hr hn hw
  go_enter Tryz.func78, Tryz.ntmps78
  go_wp2
  go_loopg [7] l.length (fun m s7 wr => ∃ j : Nat, j + m = l.length ∧ s7 = .int .i64 j ∧ lowB (l.take j) = true ∧ Ext w wr)
  case atStart => exact ⟨0, by omega, rfl, rfl, Ext.refl w⟩
  case round =>
    obtain ⟨j, hj, rfl, hok, hx⟩ := hrel
    by_cases h : j < l.length
    · obtain ⟨s, hs⟩ : ∃ s, l[j]? = some s := ⟨_, List.getElem?_eq_getElem h⟩
      obtain ⟨ad, rfl, hlt, q0, q1⟩ := reads_share (hr0.out.below hx.out) hs
      have hjb : (j : Int) ≤ 1099511627776 := by have := HN.out; omega
      have HX := Lib.hid hx
      have HJ := Lib.hid hj
      by_cases h1 : bR ≤ s.2
      · have k : mayB l = false := by rw [mayB_eq, lowB_not (List.mem_of_getElem? hs) h1]; rfl
        have d1 : decide ((s.2 : Int) ≥ 1152921504606845789) = true := dec_ge (by unfold bR at h1; omega)
        have d2 : (1152921504606845789 : Int) ≤ (s.2 : Int) := by unfold bR at h1; omega
        clear hx hj hok hs h1
        go_wp2
        go_ret
        first | exact ⟨ret_bool k.symm, HX.out.alloc _⟩ | exact ⟨rfl, HX.out.alloc _⟩
      · have hok' := Lib.hid (lowB_take hs (by omega) hok)
        have d1 : decide ((1152921504606845789 : Int) ≤ (s.2 : Int)) = false := dec_nge (by unfold bR at h1; omega)
        clear hx hj hok hs h1
        go_wp2
        have hj := HJ.out
        go_roundg (gk - 1)
        case measure => omega
        case rel => exact ⟨j + 1, by omega, int_congr (by omega), hok'.out, HX.out.alloc _⟩
    · obtain rfl : j = l.length := by omega
      rw [List.take_length] at hok
      have k : Hid (mayB l = rightB (l.map (·.1))) := by show _ = _; rw [mayB_eq, hok]; rfl
      have cm := mapI_any l A c HN.out wr ((hr0.out.below hx.out).more hx.size)
      have cr := fun (W : World) A' c' (hr : Reads W W.heap.size 1 A' (l.map (·.1)).length (iv (l.map (·.1)))) => right_any (l.map fun s : Int × Nat => s.1) HW.out A' c' (by rw [List.length_map]; exact HN.out) W hr
      rw [List.length_map] at cr
      have HX := Lib.hid hx
      clear hx hok hj
      go_wp2_with (first
        | (go_at_call 89; refine cm.mono ?_; clear cm; rintro e w1 ⟨A', c', rfl, _, r1, x1⟩)
        | (go_at_call 88; refine (cr _ _ _ r1).mono ?_; clear cr; rintro e w2 ⟨rfl, x2⟩))
      go_ret
      exact ⟨by rw [k.out]; rfl, (HX.out.trans x1).trans x2⟩
end Go.Proofs.YtiecfamjnnmpaaaGreat

/- Shares, walked: Join, of the program and of the document. -/
namespace Go.Proofs.YtiecfamjnnmpaaaGreat
set_option linter.unusedVariables false
open Go.RowKit Go.Shelf Go.Maps
attribute [local irreducible] atN prodN sumN

def joinR (l : List (Int × Nat)) : Value := .tuple #[.int .u64 (joinV l : Nat), .int .i64 (joinE l : Nat)]
theorem joinR_none : joinR [] = .tuple #[.int .u64 0, .int .i64 50] := rfl
theorem joinR_bad {l : List (Int × Nat)} (h0 : l.length ≠ 0) (h : mayB l = false) : joinR l = .tuple #[.int .u64 0, .int .i64 1] := by
  unfold joinR joinV joinE; rw [if_neg h0, if_neg h0, h]; rfl
theorem joinR_ok {l : List (Int × Nat)} (h0 : l.length ≠ 0) (h : mayB l = true) : joinR l = .tuple #[.int .u64 (sumN (l.map fun s : Int × Nat => s.1) 0 l : Nat), .int .i64 0] := by
  unfold joinR joinV joinE; rw [if_neg h0, if_neg h0, h, joinN_eq]; rfl
theorem may_facts {l : List (Int × Nat)} (h : mayB l = true) : rightB (l.map fun s : Int × Nat => s.1) = true ∧ (∀ s ∈ l, s.2 < bR) ∧ (∀ s ∈ l, 1 ≤ s.1 ∧ s.1 < 1152921504606845789) ∧ l.length ≤ 7 := by
  rw [mayB_eq, Bool.and_eq_true] at h
  obtain ⟨h1, h2⟩ := h
  have h3 := right_range h2
  refine ⟨h2, fun s hs => by simpa using List.all_eq_true.1 h1 s hs, fun s hs => h3.1 _ (List.mem_map.2 ⟨s, hs, rfl⟩), by simpa using h3.2⟩
theorem sumN_take {ids : List Int} {l : List (Int × Nat)} {j : Nat} {s : Int × Nat} (hs : l[j]? = some s) (x : Nat) : sumN ids x (l.take (j + 1)) = addM bR (sumN ids x (l.take j)) (mulM bR s.2 (atN ids s.1 x)) := by
  rw [List.take_add_one, hs]; exact sumN_snoc _ _ _ _
theorem new_share (w : World) (T : TypeId) (x : Int) (n : Nat) : (w.alloc (.cells #[.int .i64 x, .int .u64 (n : Int)] T)).cell? ⟨w.heap.size, 0, none⟩ = some (.int .i64 x) ∧ (w.alloc (.cells #[.int .i64 x, .int .u64 (n : Int)] T)).cell? ⟨w.heap.size, 1, none⟩ = some (.int .u64 (n : Int)) :=
  ⟨(Blk.new w T #[.int .i64 x, .int .u64 (n : Int)]).cell 0, (Blk.new w T #[.int .i64 x, .int .u64 (n : Int)]).cell 1⟩

end Go.Proofs.YtiecfamjnnmpaaaGreat

/- Shares, walked: Join of the document; Public, of the program and of the document; Same. -/
namespace Go.Proofs.YtiecfamjnnmpaaaGreat
set_option linter.unusedVariables false
open Go.RowKit Go.Shelf Go.Maps
attribute [local irreducible] atN prodN sumN

/-! ### Public -/
set_option maxRecDepth 100000 in
set_option maxHeartbeats 2000000 in
theorem pub1_any (x : Int) (n : Nat) (hn : n < 18446744073709551616) (w : World) :
    Calls Tryz.prog 80 #[.agg #[.int .i64 x, .int .u64 (n : Int)]] w fun e w' => e = .returned (.agg #[.int .i64 x, .int .u64 (powM bQ 4 n : Nat)]) ∧ Ext w w' := by
  have cb := fun W => Base_any n hn W
  obtain ⟨p, hp⟩ : ∃ p, p = powM bQ 4 n := ⟨_, rfl⟩
  rw [← hp] at cb ⊢
  clear hp hn
  go_enter Tryz.func80, Tryz.ntmps80
  go_wp2
  have h1 := (Blk.new w 37 #[.int .i64 x, .int .u64 (n : Int)]).alloc (.cells #[.int .i64 0, .int .u64 0] 37)
  have h2 := Blk.new (w.alloc (.cells #[.int .i64 x, .int .u64 (n : Int)] 37)) 37 #[.int .i64 0, .int .u64 0]
  rw [World.size_alloc] at h2
  obtain ⟨W0, e0⟩ : ∃ W0, W0 = (w.alloc (.cells #[.int .i64 x, .int .u64 (n : Int)] 37)).alloc (.cells #[.int .i64 0, .int .u64 0] 37) := ⟨_, rfl⟩
  have x0 : Ext w W0 := by rw [e0]; exact ((Ext.refl w).alloc _).alloc _
  rw [← e0] at h1 h2 ⊢
  obtain ⟨q1, q2, q3, q4⟩ := arr2 h1
  obtain ⟨r1, r2, r3, r4⟩ := arr2 h2
  have H1 := Lib.hid h1
  have H2 := Lib.hid h2
  clear h1 h2 e0
  go_region_with (go_at_call 43; refine (cb _).mono ?_; clear cb; rintro e w1 ⟨rfl, x1⟩; have z1 := Lib.hid (ext_blk x1 (by first | exact H1.out | exact H1.out.drew | exact H1.out.drewN _)); have z2 := Lib.hid (ext_blk x1 (by first | exact H2.out | exact H2.out.drew | exact H2.out.drewN _)); obtain ⟨q1A, q2A, q3A, q4A⟩ := arr2 z1.out; obtain ⟨r1A, r2A, r3A, r4A⟩ := arr2 z2.out)
  all_goals (
    go_wp2
    refine bodyPost_ret (v := .agg #[.int .i64 x, .int .u64 (p : Int)]) (by simp [results, Tryz.results80, go_sem, r1A, r2A]) rfl ⟨rfl, ?_⟩
    exact ((x0.drew.trans x1).setCell (p := ⟨w.heap.size + 1, 0, none⟩) (by simp) _).setCell (p := ⟨w.heap.size + 1, 1, none⟩) (by simp) _)

set_option maxRecDepth 100000 in
set_option maxHeartbeats 1000000 in
theorem mapS_any (l : List (Int × Nat)) (hX : ∀ s ∈ l, s.2 < 18446744073709551616) (A : Option Addr) (c : Nat) (hn : l.length ≤ 1099511627776) (w : World) (hr : Reads w w.heap.size 2 A l.length (sv l)) :
    Calls Tryz.prog 79 #[.slice A l.length c, .func (.func 80) #[] #[]] w fun e w' => ∃ A' c', e = .returned (.slice A' l.length c') ∧ l.length ≤ c' ∧ Reads w' w'.heap.size 2 A' l.length (sv (pubL l)) ∧ Ext w w' ∧ w'.ownsRow w.heap.size 37 2 (.slice A' l.length c') l.length (sv (pubL l)) := by
  obtain ⟨i0, hi, hz0, hz1, hz2⟩ := info_parts Tryz.infoSh
  have hr0 : Hid (Reads w w.heap.size 2 A l.length (sv l)) := Lib.hid hr
  have HN := Lib.hid hn
  have HXL := Lib.hid hX
  clear hr hn hX
  go_enter Tryz.func79, Tryz.ntmps79
  go_wp2
  go_loopg [5, 11] l.length (fun m s5 s11 wr => ∃ j : Nat, j + m = l.length ∧ s11 = .int .i64 j ∧ wr.ownsRow w.heap.size 37 2 s5 (l.take j).length (sv (pubL (l.take j))) ∧ Ext w wr)
  case atStart => exact ⟨0, by omega, rfl, own_empty w _ _ rfl (Nat.le_refl _) _ _, (Ext.refl w).alloc _⟩
  case round =>
    obtain ⟨j, hj, rfl, hown, hx⟩ := hrel
    by_cases h : j < l.length
    · obtain ⟨s, hs⟩ : ∃ s, l[j]? = some s := ⟨_, List.getElem?_eq_getElem h⟩
      obtain ⟨ad, rfl, hlt, q0, q1⟩ := reads_share (hr0.out.below hx.out) hs
      have e1 : l.take (j + 1) = l.take j ++ [s] := by rw [List.take_add_one, hs]; rfl
      have hjb : (j : Int) ≤ 1099511627776 := by have := HN.out; omega
      have ci := fun W => pub1_any s.1 s.2 (HXL.out s (List.mem_of_getElem? hs)) W
      obtain ⟨p, hp⟩ : ∃ p, p = powM bQ 4 s.2 := ⟨_, rfl⟩
      rw [← hp] at ci
      have HE := Lib.hid e1
      have HX := Lib.hid hx
      have HJ := Lib.hid hj
      have HP := Lib.hid hp
      clear e1 hx hj hs hp
      go_wp2_with (first
        | (go_at_call 80; refine (ci _).mono ?_; clear ci; rintro e w1 ⟨rfl, x1⟩; have O1 := own_ext (hown.alloc _) x1; have X1 := (HX.out.alloc _).trans x1)
        | (at_builtin; refine wpList_append_own _ rfl (.tmp 15) (.tmp 19) 24 rfl w.heap.size 37 i0 (.agg #[.int .i64 0, .int .u64 0]) 2 16 Tryz.underlying24 hi hz0 hz1 hz2 rfl (by decide) _ _ _ rfl (O1.alloc _) ⟨w1.heap.size, 0, none⟩ 1 1 [.int .i64 s.1, .int .u64 (p : Int)] rfl rfl (cell_two_new _ _ _ _) (by simp [Value.oneCell']) (by have := HN.out; have := HJ.out; simp only [maxLen, List.length_take]; omega) (by have := HN.out; simp only [List.length_take]; omega) (by have := X1.size; simp; omega) ?_; intro v2 w2 hown2 hg2 _))
      have X2 := ext_grown (X1.alloc _) (O1.alloc _) hg2
      have O2 : Hid (w2.ownsRow w.heap.size 37 2 v2 (l.take (j + 1)).length (sv (pubL (l.take (j + 1))))) := by
        show World.ownsRow _ _ _ _ _ _ _
        have e3 : sv (pubL (l.take j ++ [s])) = sv (pubL (l.take j)) ++ [.int .i64 s.1, .int .u64 (p : Int)] := by
          rw [show pubL (l.take j ++ [s]) = pubL (l.take j) ++ [(s.1, p)] by simp [pubL, HP.out], sv_append]; rfl
        rw [HE.out, List.length_append, e3]
        exact hown2
      clear hown2 hg2 O1 hown
      have hj := HJ.out
      go_wp2
      go_roundg (gk - 1)
      case measure => omega
      case rel => exact ⟨j + 1, by omega, int_congr (by omega), O2.out, X2⟩
    · obtain rfl : j = l.length := by omega
      rw [List.take_length] at hown
      obtain ⟨A', c', rfl, hc', hr'⟩ := own_slice2 hown
      have HR := Lib.hid hr'
      have HX := Lib.hid hx
      have HO := Lib.hid hown
      clear hr' hx hown hj h
      go_wp2
      go_ret
      exact ⟨A', c', rfl, hc', HR.out, HX.out, HO.out⟩
end Go.Proofs.YtiecfamjnnmpaaaGreat

/- Shares, walked: Public, of the program and of the document; Same. -/
namespace Go.Proofs.YtiecfamjnnmpaaaGreat
set_option linter.unusedVariables false
open Go.RowKit Go.Shelf Go.Maps
attribute [local irreducible] atN prodN sumN

/-- Public shares, or none; and why. -/
def pubO (l : List (Int × Nat)) : List (Int × Nat) := if mayB l = true then pubL l else []
def pubE (l : List (Int × Nat)) : Nat := if mayB l = true then 0 else 1

set_option maxRecDepth 100000 in
set_option maxHeartbeats 2000000 in
theorem shPublic_any (l : List (Int × Nat)) (hw : idsWf l) (hX : ∀ s ∈ l, s.2 < 18446744073709551616) (A : Option Addr) (c : Nat) (hn : l.length ≤ 1099511627776) (w : World) (hr : Reads w w.heap.size 2 A l.length (sv l)) :
    Calls Tryz.prog 29 #[.slice A l.length c] w fun e w' => ∃ A' c', e = .returned (.tuple #[.slice A' (pubO l).length c', .int .i64 (pubE l : Nat)]) ∧ (pubO l).length ≤ c' ∧ Reads w' w'.heap.size 2 A' (pubO l).length (sv (pubO l)) ∧ Ext w w' ∧ (mayB l = true → w'.ownsRow w.heap.size 37 2 (.slice A' (pubO l).length c') (pubO l).length (sv (pubO l))) := by
  have cm := may_any l hw A c hn w hr
  have cp := fun (W : World) (x : Ext w W) => mapS_any l hX A c hn W ((hr.below x.out).more x.size)
  cases hm : mayB l with
  | false =>
    have e1 : pubO l = [] := by unfold pubO; rw [hm]; rfl
    have e2 : pubE l = 1 := by unfold pubE; rw [hm]; rfl
    rw [hm] at cm
    rw [e1, e2]
    clear hr cp e1 e2 hm
    go_enter Tryz.func29, Tryz.ntmps29
    go_wp2_with (go_at_call 78; refine cm.mono ?_; clear cm; rintro e w1 ⟨rfl, x1⟩)
    go_ret2
    exact ⟨none, 0, rfl, Nat.le_refl _, Reads.none_, x1, fun h => by cases h⟩
  | true =>
    have e1 : pubO l = pubL l := by unfold pubO; rw [hm]; rfl
    have e2 : pubE l = 0 := by unfold pubE; rw [hm]; rfl
    rw [hm] at cm
    rw [e1, e2, pubL_length]
    clear hr e1 e2 hm
    go_enter Tryz.func29, Tryz.ntmps29
    go_wp2_with (first
      | (go_at_call 78; refine cm.mono ?_; clear cm; rintro e w1 ⟨rfl, x1⟩)
      | (go_at_call 79; refine (cp _ x1).mono ?_; clear cp; rintro e w2 ⟨A', c', rfl, hc', r2, x2, o2⟩))
    go_ret2
    exact ⟨A', c', rfl, hc', r2, x1.trans x2, fun _ => own_base o2 x1.size⟩

theorem new_reads2 (W : World) (T : TypeId) (x y : Value) : Reads (W.alloc (.cells #[x, y] T)) (W.alloc (.cells #[x, y] T)).heap.size 2 (some ⟨W.heap.size, 0, none⟩) 1 [x, y] :=
  ⟨rfl, fun _ => ⟨_, rfl, by simp, cell_two_new W x y T⟩⟩

set_option maxRecDepth 100000 in
set_option maxHeartbeats 2000000 in
theorem rshPublic_any (l : List (Int × Nat)) (hX : ∀ s ∈ l, s.2 < 18446744073709551616) (A : Option Addr) (c : Nat) (hn : l.length ≤ 1099511627776) (w : World) (hr : Reads w w.heap.size 2 A l.length (sv l)) :
    Calls Tryz.prog 32 #[.slice A l.length c] w fun e w' => ∃ A' c', e = .returned (.tuple #[.slice A' (pubO l).length c', .int .i64 (pubE l : Nat)]) ∧ (pubO l).length ≤ c' ∧ Reads w' w'.heap.size 2 A' (pubO l).length (sv (pubO l)) ∧ Ext w w' := by
  have ci := fun (W : World) (x : Ext w W) => Ids_any l A c hn W ((hr.below x.out).more x.size)
  have cb := fun (W : World) (x : Ext w W) => below_any l A c hn W ((hr.below x.out).more x.size)
  have cr := fun (W : World) A' c' (hr : Reads W W.heap.size 1 A' (l.map fun s : Int × Nat => s.1).length (iv (l.map fun s : Int × Nat => s.1))) => Right_any (l.map fun s : Int × Nat => s.1) A' c' (by rw [List.length_map]; exact hn) W hr
  rw [List.length_map] at cr
  have x0 := Ext.refl w
  cases hri : rightB (l.map fun s : Int × Nat => s.1) with
  | false =>
    have hm : mayB l = false := by rw [mayB_eq, hri]; simp
    have e1 : pubO l = [] := by unfold pubO; rw [hm]; rfl
    have e2 : pubE l = 1 := by unfold pubE; rw [hm]; rfl
    rw [hri] at cr
    rw [e1, e2]
    clear hr hm hn hri cb e1 e2
    go_enter Tryz.func32, Tryz.ntmps32
    go_wp2_with (first
      | (go_at_call 85; refine (ci _ x0).mono ?_; clear ci; rintro e w1 ⟨A', c', rfl, _, r1, x1⟩)
      | (go_at_call 84; refine (cr _ _ _ r1).mono ?_; clear cr; rintro e w2 ⟨rfl, x2⟩))
    go_ret2
    exact ⟨none, 0, rfl, Nat.le_refl _, Reads.none_, x1.trans x2⟩
  | true =>
    rw [hri] at cr
    cases hlo : lowB l with
    | false =>
      have hm : mayB l = false := by rw [mayB_eq, hlo]; rfl
      have e1 : pubO l = [] := by unfold pubO; rw [hm]; rfl
      have e2 : pubE l = 1 := by unfold pubE; rw [hm]; rfl
      rw [hlo] at cb
      rw [e1, e2]
      clear hr hm hn hri hlo e1 e2
      go_enter Tryz.func32, Tryz.ntmps32
      go_wp2_with (first
        | (go_at_call 85; refine (ci _ x0).mono ?_; clear ci; rintro e w1 ⟨A', c', rfl, _, r1, x1⟩)
        | (go_at_call 84; refine (cr _ _ _ r1).mono ?_; clear cr; rintro e w2 ⟨rfl, x2⟩)
        | (go_at_call 86; refine (cb _ (x1.trans x2)).mono ?_; clear cb; rintro e w3 ⟨rfl, x3⟩))
      go_ret2
      exact ⟨none, 0, rfl, Nat.le_refl _, Reads.none_, (x1.trans x2).trans x3⟩
    | true =>
      have hm : mayB l = true := by rw [mayB_eq, hlo, hri]; rfl
      have e1 : pubO l = pubL l := by unfold pubO; rw [hm]; rfl
      have e2 : pubE l = 0 := by unfold pubE; rw [hm]; rfl
      rw [hlo] at cb
      rw [e1, e2, pubL_length]
      obtain ⟨i0, hi, hz0, hz1, hz2⟩ := info_parts Tryz.infoSh
      have hr0 : Hid (Reads w w.heap.size 2 A l.length (sv l)) := Lib.hid hr
      have HN := Lib.hid hn
      have HXL := Lib.hid hX
      clear hr hm hn hri hlo hX e1 e2
      go_enter Tryz.func32, Tryz.ntmps32
      go_wp2_with (first
        | (go_at_call 85; refine (ci _ x0).mono ?_; clear ci; rintro e w1 ⟨A', c', rfl, _, r1, x1⟩)
        | (go_at_call 84; refine (cr _ _ _ r1).mono ?_; clear cr; rintro e w2 ⟨rfl, x2⟩)
        | (go_at_call 86; refine (cb _ (x1.trans x2)).mono ?_; clear cb; rintro e w3 ⟨rfl, x3⟩))
      have X3 := Lib.hid ((x1.trans x2).trans x3)
      clear r1 x1 x2 x3
      go_loopg [4, 5] l.length (fun m s4 s5 wr => ∃ j : Nat, j + m = l.length ∧ s5 = .int .i64 j ∧ wr.ownsRow w.heap.size 37 2 s4 (l.take j).length (sv (pubL (l.take j))) ∧ Ext w wr)
      case atStart => exact ⟨0, by omega, rfl, own_empty w3 _ _ rfl X3.out.size _ _, X3.out.alloc _⟩
      case round =>
        obtain ⟨j, hj, rfl, hown, hx⟩ := hrel
        by_cases h : j < l.length
        · obtain ⟨s, hs⟩ : ∃ s, l[j]? = some s := ⟨_, List.getElem?_eq_getElem h⟩
          obtain ⟨ad, rfl, hlt, q0, q1⟩ := reads_share (hr0.out.below hx.out) hs
          have e1 : l.take (j + 1) = l.take j ++ [s] := by rw [List.take_add_one, hs]; rfl
          have hjb : (j : Int) ≤ 1099511627776 := by have := HN.out; omega
          have cB := fun W => rBase_any s.2 (HXL.out s (List.mem_of_getElem? hs)) W
          obtain ⟨p, hp⟩ : ∃ p, p = powM bQ 4 s.2 := ⟨_, rfl⟩
          rw [← hp] at cB
          have HE := Lib.hid e1
          have HX := Lib.hid hx
          have HJ := Lib.hid hj
          have HP := Lib.hid hp
          have hqs : Hid (∀ W, Ext w W → W.cell? (ad.add (j * 2)) = some (.int .i64 s.1) ∧ W.cell? ⟨(ad.add (j * 2)).block, (ad.add (j * 2)).off + 1, none⟩ = some (.int .u64 (s.2 : Int))) := fun W x => by
            obtain ⟨ad', e', _, a, b⟩ := reads_share (hr0.out.below x.out) hs
            cases e'
            exact ⟨a, b⟩
          clear e1 hx hj hs hp
          go_wp2
          go_region_held3 (fun w' => w'.cell? (ad.add (j * 2)) = some (.int .i64 s.1) ∧ w'.cell? ⟨(ad.add (j * 2)).block, (ad.add (j * 2)).off + 1, none⟩ = some (.int .u64 (s.2 : Int))) (go_keep) (first
            | (go_at_call 45; refine (cB _).mono ?_; clear cB; rintro e w' ⟨rfl, rfl⟩)
            | (refine step_append_any _ rfl (.tmp 22) (.tmp 35) 24 rfl w.heap.size 37 i0 (.agg #[.int .i64 0, .int .u64 0]) 2 16 Tryz.underlying24 hi hz0 hz1 hz2 rfl (by decide) _ _ _ rfl (hown.drew.alloc _) _ _ 1 1 [.int .i64 s.1, .int .u64 (p : Int)] rfl (new_reads2 _ _ _ _) (by simp [Value.oneCell']) (by have := HN.out; have := HJ.out; simp only [maxLen, List.length_take]; omega) (by have := HN.out; simp only [List.length_take]; omega) (by have := HX.out.size; simp; omega) ?_; intro v2 w2 hown2 hg2 _; have X2 := ext_grown (HX.out.drew.alloc _) (hown.drew.alloc _) hg2; obtain ⟨z0, z1⟩ := hqs.out w2 X2))
          have O2 : Hid (w2.ownsRow w.heap.size 37 2 v2 (l.take (j + 1)).length (sv (pubL (l.take (j + 1))))) := by
            show World.ownsRow _ _ _ _ _ _ _
            have e3 : sv (pubL (l.take j ++ [s])) = sv (pubL (l.take j)) ++ [.int .i64 s.1, .int .u64 (p : Int)] := by
              rw [show pubL (l.take j ++ [s]) = pubL (l.take j) ++ [(s.1, p)] by simp [pubL, HP.out], sv_append]; rfl
            rw [HE.out, List.length_append, e3]
            exact hown2
          clear hown2 hg2 hown z0 z1
          have hj := HJ.out
          go_wp2
          go_roundg (gk - 1)
          case measure => omega
          case rel => exact ⟨j + 1, by omega, int_congr (by omega), O2.out, X2⟩
        · obtain rfl : j = l.length := by omega
          rw [List.take_length] at hown
          obtain ⟨A', c', rfl, hc', hr'⟩ := own_slice2 hown
          have HR := Lib.hid hr'
          have HX := Lib.hid hx
          clear hr' hx hown hj h
          go_wp2
          go_ret2
          exact ⟨A', c', rfl, hc', HR.out, HX.out⟩
end Go.Proofs.YtiecfamjnnmpaaaGreat

/- Shares, walked: Same; equality of shares. -/
namespace Go.Proofs.YtiecfamjnnmpaaaGreat
set_option linter.unusedVariables false
open Go.RowKit Go.Shelf Go.Maps

theorem eqSh (a b n m : Int) (w : World) : (Op.equalIn 10000 37 (.agg #[.int .i64 a, .int .u64 n]) (.agg #[.int .i64 b, .int .u64 m])).run Tryz.prog w = .ok (decide (a = b ∧ n = m)) w := by
  have hf : (Tryz.prog.fieldsOf 37).toList.map (fun f => (f.name != "_", f.type, f.offset)) = [(true, 3, 0), (true, 23, 1)] := by kernel_rfl
  have key : ∀ fs : List Field, fs.map (fun f => (f.name != "_", f.type, f.offset)) = [(true, 3, 0), (true, 23, 1)] → (Op.eqFields 9999 #[.int .i64 a, .int .u64 n] #[.int .i64 b, .int .u64 m] fs).run Tryz.prog w = .ok (decide (a = b ∧ n = m)) w := by
    intro fs h
    rcases fs with _ | ⟨f, _ | ⟨g, _ | ⟨e, r⟩⟩⟩
    · simp at h
    · simp at h
    · simp only [List.map_cons, List.map_nil, List.cons.injEq, Prod.mk.injEq, and_true, bne_iff_ne, ne_eq] at h
      obtain ⟨⟨f1, f2, f3⟩, g1, g2, g3⟩ := h
      have p1 : ∀ (x y : Value) (w : World), (part 3 #[x, y] 0).run Tryz.prog w = .ok x w := fun x y w => by kernel_rfl
      have p2 : ∀ (x y : Value) (w : World), (part 23 #[x, y] 1).run Tryz.prog w = .ok y w := fun x y w => by kernel_rfl
      have p3 := fun w => run_equalIn_int (P := Tryz.prog) w 9998 3 .i64 .i64 a b Tryz.underlying3
      have p4 := fun w => run_equalIn_int (P := Tryz.prog) w 9998 23 .u64 .u64 n m Tryz.underlying23
      simp only [Op.eqFields, ne_eq, f1, g1, not_false_eq_true, if_true, f2, f3, g2, g3, Sem.run_bind, p1, Result.andThen_ok, p3]
      by_cases h1 : a = b
      · subst h1
        by_cases h2 : n = m
        · subst h2
          simp [p2, p4]
        · simp [p2, p4, h2]
      · simp [h1]
    · simp at h
  rw [run_equalIn_struct w 9999 37 _ _ (by kernel_rfl) (by kernel_rfl)]
  exact key _ hf

end Go.Proofs.YtiecfamjnnmpaaaGreat

/- Shares, walked: Check of the program. -/
namespace Go.Proofs.YtiecfamjnnmpaaaGreat
set_option linter.unusedVariables false
open Go.RowKit Go.Shelf Go.Maps
attribute [local irreducible] atN prodN sumN wantN

set_option maxRecDepth 100000 in
theorem slice_hS (A : Option Addr) (n c m : Nat) (hm : m ≤ c) (w : World) : (Instr.slice 24 (.slice A n c) none (some (.int .i64 (m : Int))) none).run Tryz.prog w = .ok (sliced A 0 m c 2) w := by
  rw [run_slice_h w 24 A n c Tryz.underlying24 .i64 (m : Int) (by omega) (by omega)]
  have : (sizeOf (Tryz.prog.elem 24)).run Tryz.prog w = .ok 2 w := by kernel_rfl
  rw [this]
  rfl
set_option maxRecDepth 100000 in
theorem slice_lS (A : Option Addr) (n c m : Nat) (hm : m ≤ n) (w : World) : (Instr.slice 24 (.slice A n c) (some (.int .i64 (m : Int))) none none).run Tryz.prog w = .ok (sliced A m n c 2) w := by
  rw [run_slice_l w 24 A n c Tryz.underlying24 .i64 (m : Int) (by omega) (by omega)]
  have : (sizeOf (Tryz.prog.elem 24)).run Tryz.prog w = .ok 2 w := by kernel_rfl
  rw [this]
  rfl
theorem sv_take (l : List (Int × Nat)) (k : Nat) : (sv l).take (k * 2) = sv (l.take k) := by
  induction k generalizing l with
  | zero => simp [sv]
  | succ k ih =>
    cases l with
    | nil => rfl
    | cons s l =>
      have e : sv (s :: l) = .int .i64 s.1 :: .int .u64 (s.2 : Int) :: sv l := rfl
      have e2 : sv (s :: l.take k) = .int .i64 s.1 :: .int .u64 (s.2 : Int) :: sv (l.take k) := rfl
      rw [e, show (k + 1) * 2 = k * 2 + 1 + 1 by omega, List.take_succ_cons, List.take_succ_cons, ih, List.take_succ_cons, e2]
theorem sv_drop (l : List (Int × Nat)) (k : Nat) : (sv l).drop (k * 2) = sv (l.drop k) := by
  induction k generalizing l with
  | zero => simp
  | succ k ih =>
    cases l with
    | nil => rfl
    | cons s l =>
      have e : sv (s :: l) = .int .i64 s.1 :: .int .u64 (s.2 : Int) :: sv l := rfl
      rw [e, show (k + 1) * 2 = k * 2 + 1 + 1 by omega, List.drop_succ_cons, List.drop_succ_cons, ih, List.drop_succ_cons]
/-- The first of some shares, as a slice. -/
theorem first_reads {w : World} {B : Nat} {A : Option Addr} {l : List (Int × Nat)} {c k : Nat} (h : Reads w B 2 A l.length (sv l)) (hk : k ≤ l.length) (hc : l.length ≤ c) :
    ∃ A', sliced A 0 k c 2 = .slice A' (l.take k).length c ∧ Reads w B 2 A' (l.take k).length (sv (l.take k)) := by
  have hlk : (l.take k).length = k := by rw [List.length_take]; omega
  rw [hlk]
  refine ⟨_, by unfold sliced; rw [Nat.sub_zero, Nat.sub_zero], by rw [sv_length, hlk], fun h0 => ?_⟩
  obtain ⟨ad, e, hb, hcell⟩ := h.2 (by omega)
  subst e
  refine ⟨ad, ?_, hb, fun j u hj => hcell j u ?_⟩
  · split
    · rfl
    · simp [Addr.add]
  · rw [← sv_take, List.getElem?_take] at hj
    split at hj
    · exact hj
    · cases hj
/-- The rest of some shares. -/
theorem rest_reads {w : World} {B : Nat} {A : Option Addr} {l : List (Int × Nat)} {c k : Nat} (h : Reads w B 2 A l.length (sv l)) (hk : k ≤ l.length) (hc : l.length ≤ c) :
    ∃ A', sliced A k l.length c 2 = .slice A' (l.drop k).length (c - k) ∧ Reads w B 2 A' (l.drop k).length (sv (l.drop k)) := by
  have h1 := h.cut hk hc
  rw [sv_drop] at h1
  rw [List.length_drop]
  exact ⟨_, by unfold sliced; rfl, h1⟩

theorem chk_low {t : Int} {l : List (Int × Nat)} (h : t < 1) : chkN t l = 1 := by unfold chkN; rw [if_pos (.inl h)]
theorem chk_high {t : Int} {l : List (Int × Nat)} (h : 7 < t) : chkN t l = 1 := by unfold chkN; rw [if_pos (.inr (.inl h))]
theorem chk_ids {t : Int} {l : List (Int × Nat)} (h0 : 0 < l.length) (h : rightB (l.map fun s : Int × Nat => s.1) = false) : chkN t l = 1 := by unfold chkN; rw [if_pos (.inr (.inr ⟨h0, h⟩))]
theorem chk_out {t : Int} {l : List (Int × Nat)} {s : Int × Nat} (hs : s ∈ l) (h : inB s.2 = false) : chkN t l = 1 := by
  have : l.all (fun s => inB s.2) = false := by
    refine Bool.eq_false_iff.2 fun hc => ?_
    rw [List.all_eq_true.1 hc s hs] at h
    cases h
  unfold chkN
  split
  · rfl
  · first | rfl | rw [if_pos this]
theorem chk_few {t : Int} {l : List (Int × Nat)} (h1 : 1 ≤ t) (h7 : t ≤ 7) (hr : l.length = 0 ∨ rightB (l.map fun s : Int × Nat => s.1) = true) (hin : l.all (fun s => inB s.2) = true) (h : (l.length : Int) < t) : chkN t l = 50 := by
  unfold chkN
  rw [if_neg (by
    rintro (h' | h' | ⟨h', h''⟩)
    · omega
    · omega
    · rcases hr with hr | hr
      · omega
      · rw [hr] at h''; cases h''), if_neg (by rw [hin]; decide), if_pos h]
theorem chk_rest {t : Int} {l : List (Int × Nat)} (h1 : 1 ≤ t) (h7 : t ≤ 7) (hr : rightB (l.map fun s : Int × Nat => s.1) = true) (hin : l.all (fun s => inB s.2) = true) (h : ¬ (l.length : Int) < t) :
    chkN t l = if (l.drop t.toNat).all (fun s => decide (wantN ((l.take t.toNat).map (·.1)) s.1.toNat (l.take t.toNat) = s.2)) = true then 0 else 60 := by
  unfold chkN
  rw [if_neg (by
    rintro (h' | h' | ⟨h', h''⟩)
    · omega
    · omega
    · rw [hr] at h''; cases h''), if_neg (by rw [hin]; decide), if_neg h]
theorem all_not {α : Type} {l : List α} {f : α → Bool} {x : α} (hx : x ∈ l) (h : f x = false) : l.all f = false := by
  refine Bool.eq_false_iff.2 fun hc => ?_
  rw [List.all_eq_true.1 hc x hx] at h
  cases h
theorem all_take {α : Type} {l : List α} {f : α → Bool} {j : Nat} {x : α} (hx : l[j]? = some x) (h : f x = true) (h0 : (l.take j).all f = true) : (l.take (j + 1)).all f = true := by
  rw [List.take_add_one, hx]
  simp [List.all_append, h0, h]
theorem wantN_take {ids : List Int} {l : List (Int × Nat)} {j : Nat} {s : Int × Nat} (hs : l[j]? = some s) (x : Nat) : wantN ids x (l.take (j + 1)) = mulM bQ (wantN ids x (l.take j)) (powM bQ s.2 (atN ids s.1 x)) := by
  rw [List.take_add_one, hs]; exact wantN_snoc _ _ _ _

/-- Each is of the group. -/
def allIn (l : List (Int × Nat)) : Bool := l.all fun s => inB s.2
end Go.Proofs.YtiecfamjnnmpaaaGreat

/- Shares, walked: Check of the program. -/
namespace Go.Proofs.YtiecfamjnnmpaaaGreat
set_option linter.unusedVariables false
open Go.RowKit Go.Shelf Go.Maps
attribute [local irreducible] atN prodN sumN wantN

set_option maxRecDepth 100000 in
set_option maxHeartbeats 4000000 in
theorem shCheck_any (t : Int) (l : List (Int × Nat)) (hw : idsWf l) (hX : ∀ s ∈ l, s.2 < 18446744073709551616) (A : Option Addr) (c : Nat) (hc : l.length ≤ c) (hn : l.length ≤ 1099511627776) (w : World) (hr : Reads w w.heap.size 2 A l.length (sv l)) :
    Calls Tryz.prog 35 #[.int .i64 t, .slice A l.length c] w fun e w' => e = .returned (.int .i64 (chkN t l : Nat)) ∧ Ext w w' := by
  have x0 := Ext.refl w
  by_cases t1 : t < 1
  · rw [chk_low t1]
    clear hr hX hw hn hc
    go_enter Tryz.func35, Tryz.ntmps35
    go_wp2
    go_ret
    exact ⟨rfl, x0⟩
  by_cases t7 : 7 < t
  · rw [chk_high t7]
    clear hr hX hw hn hc
    go_enter Tryz.func35, Tryz.ntmps35
    go_wp2
    go_ret
    exact ⟨rfl, x0⟩
  by_cases hl0 : l.length = 0
  · have hl := List.eq_nil_of_length_eq_zero hl0
    subst hl
    rw [chk_few (l := []) (by omega) (by omega) (.inl rfl) rfl (by simp; omega)]
    clear hr hX hw hn hc hl0
    go_enter Tryz.func35, Tryz.ntmps35
    go_wp2
    go_loopg [34] 0 (fun m s34 wr => m = 0 ∧ s34 = .int .i64 0 ∧ Ext w wr)
    case atStart => exact ⟨rfl, rfl, x0⟩
    case round =>
      obtain ⟨-, rfl, hx⟩ := hrel
      go_wp2
      go_ret
      exact ⟨rfl, hx⟩
  have d0 : (0 : Int) < (l.length : Int) := by omega
  have cm := mapI_any l A c hn w hr
  have cr := fun (W : World) A' c' (hr : Reads W W.heap.size 1 A' (l.map fun s : Int × Nat => s.1).length (iv (l.map fun s : Int × Nat => s.1))) => right_any (l.map fun s : Int × Nat => s.1) hw A' c' (by rw [List.length_map]; exact hn) W hr
  rw [List.length_map] at cr
  cases hri : rightB (l.map fun s : Int × Nat => s.1) with
  | false =>
    rw [hri] at cr
    rw [chk_ids (by omega) hri]
    clear hr hX hw hn hri hc hl0
    go_enter Tryz.func35, Tryz.ntmps35
    go_wp2_with (first
      | (go_at_call 89; refine cm.mono ?_; clear cm; rintro e w1 ⟨A', c', rfl, _, r1, x1⟩)
      | (go_at_call 88; refine (cr _ _ _ r1).mono ?_; clear cr; rintro e w2 ⟨rfl, x2⟩))
    go_ret
    exact ⟨rfl, x1.trans x2⟩
  | true =>
    rw [hri] at cr
    have hr0 : Hid (Reads w w.heap.size 2 A l.length (sv l)) := Lib.hid hr
    have HXL := Lib.hid hX
    have HN := Lib.hid hn
    have HC := Lib.hid hc
    have HR := Lib.hid hri
    have HT1 := Lib.hid t1
    have HT7 := Lib.hid t7
    have HL0 := Lib.hid hl0
    clear hr hX hn hri hw hc hl0
    go_enter Tryz.func35, Tryz.ntmps35
    go_wp2_with (first
      | (go_at_call 89; refine cm.mono ?_; clear cm; rintro e w1 ⟨A', c', rfl, _, r1, x1⟩)
      | (go_at_call 88; refine (cr _ _ _ r1).mono ?_; clear cr; rintro e w2 ⟨rfl, x2⟩))
    have X2 := Lib.hid (x1.trans x2)
    clear x1 x2 r1 d0 x0 t1 t7
    go_loopg [34] l.length (fun m s34 wr => ∃ j : Nat, j + m = l.length ∧ s34 = .int .i64 j ∧ allIn (l.take j) = true ∧ Ext w wr)
    case atStart => exact ⟨0, by omega, rfl, rfl, X2.out⟩
    case round =>
      obtain ⟨j, hj, rfl, hok, hx⟩ := hrel
      have hjm : l.length ≤ 7 := by have := (right_range HR.out).2; rwa [List.length_map] at this
      by_cases h : j < l.length
      · obtain ⟨s, hs⟩ : ∃ s, l[j]? = some s := ⟨_, List.getElem?_eq_getElem h⟩
        obtain ⟨ad, rfl, hlt, q0, q1⟩ := reads_share (hr0.out.below hx.out) hs
        have hjb : (j : Int) ≤ 7 := by omega
        have ci := fun W => In_any s.2 (HXL.out s (List.mem_of_getElem? hs)) W
        have HX := Lib.hid hx
        have HJ := Lib.hid hj
        cases hb : inB s.2 with
        | false =>
          have k := chk_out (t := t) (List.mem_of_getElem? hs) hb
          rw [hb] at ci
          have HK := Lib.hid k
          clear hx hj hok hs k hb hjm
          go_wp2_with (go_at_call 34; refine (ci _).mono ?_; clear ci; rintro e w3 ⟨rfl, x3⟩)
          go_ret
          exact ⟨by rw [HK.out]; rfl, (HX.out.alloc _).trans x3⟩
        | true =>
          have hok' := Lib.hid (all_take (f := fun s : Int × Nat => inB s.2) hs hb hok)
          rw [hb] at ci
          clear hx hj hok hs hb hjm
          go_wp2_with (go_at_call 34; refine (ci _).mono ?_; clear ci; rintro e w3 ⟨rfl, x3⟩)
          have hj := HJ.out
          go_roundg (gk - 1)
          case measure => omega
          case rel => exact ⟨j + 1, by omega, int_congr (by omega), hok'.out, (HX.out.alloc _).trans x3⟩
      · obtain rfl : j = l.length := by omega
        rw [List.take_length] at hok
        by_cases hlt : (l.length : Int) < t
        · have k := chk_few (t := t) (l := l) (by have := HT1.out; omega) (by have := HT7.out; omega) (.inr HR.out) hok hlt
          have HK := Lib.hid k
          have HX := Lib.hid hx
          clear hx hj hok k hjm
          go_wp2
          go_ret
          exact ⟨by rw [HK.out]; rfl, HX.out⟩
        · have hin : ∀ s ∈ l, inB s.2 = true := fun s hs => List.all_eq_true.1 hok s hs
          have k := chk_rest (t := t) (l := l) (by have := HT1.out; omega) (by have := HT7.out; omega) HR.out hok hlt
          obtain ⟨tn, rfl⟩ : ∃ n : Nat, t = n := ⟨t.toNat, by have := HT1.out; omega⟩
          rw [show ((tn : Nat) : Int).toNat = tn from Int.toNat_natCast tn] at k
          have hk : tn ≤ l.length := by omega
          obtain ⟨A1, e1, r1⟩ := first_reads hr0.out hk HC.out
          obtain ⟨A2, e2, r2⟩ := rest_reads hr0.out hk HC.out
          have s1 : ∀ W : World, (Instr.slice 24 (.slice A l.length c) none (some (.int .i64 (tn : Int))) none).run Tryz.prog W = .ok (.slice A1 (l.take tn).length c) W := fun W => by rw [slice_hS A l.length c tn (Nat.le_trans hk HC.out), e1]
          have s2 : ∀ W : World, (Instr.slice 24 (.slice A l.length c) (some (.int .i64 (tn : Int))) none none).run Tryz.prog W = .ok (.slice A2 (l.drop tn).length (c - tn)) W := fun W => by rw [slice_lS A l.length c tn hk, e2]
          obtain ⟨fl, hfl⟩ : ∃ q, q = l.take tn := ⟨_, rfl⟩
          obtain ⟨rl, hrl⟩ : ∃ q, q = l.drop tn := ⟨_, rfl⟩
          obtain ⟨c2, hc2⟩ : ∃ q, q = c - tn := ⟨_, rfl⟩
          have hrange : ∀ s ∈ l, 1 ≤ s.1 ∧ s.1 < 1152921504606845789 := fun s hs => (right_range HR.out).1 _ (List.mem_map.2 ⟨s, hs, rfl⟩)
          have hfr : ∀ s ∈ fl, (1 ≤ s.1 ∧ s.1 < 1152921504606845789) ∧ inB s.2 = true := fun s hs => by rw [hfl] at hs; exact ⟨hrange s (List.mem_of_mem_take hs), hin s (List.mem_of_mem_take hs)⟩
          have hrr : ∀ s ∈ rl, (1 ≤ s.1 ∧ s.1 < 1152921504606845789) ∧ inB s.2 = true := fun s hs => by rw [hrl] at hs; exact ⟨hrange s (List.mem_of_mem_drop hs), hin s (List.mem_of_mem_drop hs)⟩
          have hf7 : fl.length ≤ 7 := by rw [hfl, List.length_take]; omega
          have hr7 : rl.length ≤ 7 := by rw [hrl, List.length_drop]; omega
          rw [← hfl] at s1 r1 k
          rw [← hrl] at s2 r2 k
          rw [← hc2] at s2
          obtain ⟨ids, hids⟩ : ∃ q, q = fl.map fun s : Int × Nat => s.1 := ⟨_, rfl⟩
          have hil : ids.length = fl.length := by rw [hids, List.length_map]
          have gr : ∀ i ∈ ids, 1 ≤ i ∧ i < 1152921504606845789 := fun i hi => by
            rw [hids] at hi
            obtain ⟨s, hs, rfl⟩ := List.mem_map.1 hi
            exact (hfr s hs).1
          rw [← hids] at k
          have cmf := fun (W : World) (x : Ext w W) => mapI_any fl A1 c (by omega) W ((r1.below x.out).more x.size)
          rw [← hids] at cmf
          have cc := fun A' c' g (w3 : World) (x : Nat) hp hq hr' id hid W xw => clo_later ids gr (by rw [hil]; exact hf7) id hid x A' c' g w3 hp hq hr' W xw
          rw [hil] at cc
          have R1 := Lib.hid r1
          have R2 := Lib.hid r2
          have HK := Lib.hid k
          have HF := Lib.hid hfr
          have HRR := Lib.hid hrr
          have HF7 := Lib.hid hf7
          have HR7 := Lib.hid hr7
          have HX := Lib.hid hx
          clear hx hj hok k hjm hin hrange hfr hrr hf7 hr7 r1 r2 hfl hrl hc2 hk e1 e2 hids gr hil
          go_wp2
          go_region
          all_goals go_wp2
          have X3 : Hid (Ext w wr.drew) := Lib.hid HX.out.drew
          clear s1 s2
          go_loopg [55] rl.length (fun m s55 wr => ∃ j : Nat, j + m = rl.length ∧ s55 = .int .i64 j ∧ (rl.take j).all (fun s => decide (wantN ids s.1.toNat fl = s.2)) = true ∧ Ext w wr)
          case atStart => exact ⟨0, by omega, rfl, rfl, X3.out⟩
          case round =>
            obtain ⟨j, hj, rfl, hok, hx⟩ := hrel
            by_cases h : j < rl.length
            · obtain ⟨s, hs⟩ : ∃ s, rl[j]? = some s := ⟨_, List.getElem?_eq_getElem h⟩
              obtain ⟨ad, rfl, hlt, q0, q1⟩ := reads_share (R2.out.below hx.out) hs
              have hmem := List.mem_of_getElem? hs
              obtain ⟨hsr, hsi⟩ := HRR.out s hmem
              have hjb : (j : Int) ≤ 7 := by have := HR7.out; omega
              have kx := wrap_id hsr
              have hat := fun (hp : wantN ids s.1.toNat fl = s.2) => all_take (f := fun s : Int × Nat => decide (wantN ids s.1.toNat fl = s.2)) hs (by simpa using hp) hok
              have hno := fun (hp : wantN ids s.1.toNat fl ≠ s.2) => all_not (f := fun s : Int × Nat => decide (wantN ids s.1.toNat fl = s.2)) hmem (by simpa using hp)
              obtain ⟨x, hxn⟩ : ∃ x, x = s.1.toNat := ⟨_, rfl⟩
              rw [← hxn] at kx hat hno
              have cw := fun A' n c' W => weights_any A' n c' x W
              obtain ⟨W1, hW1⟩ : ∃ W1, W1 = wr.alloc (.cells #[.int .i64 s.1, .int .u64 (s.2 : Int)] 37) := ⟨_, rfl⟩
              have b1 := Blk.new wr 37 #[.int .i64 s.1, .int .u64 (s.2 : Int)]
              rw [← hW1] at b1
              have x4 : Ext w W1 := by rw [hW1]; exact hx.alloc _
              obtain ⟨k0, k1, -, -⟩ := arr2 b1
              obtain ⟨gs, hgs⟩ : ∃ g, g = wr.heap.size := ⟨_, rfl⟩
              have HAT := Lib.hid hat
              have HNO := Lib.hid hno
              have HW := Lib.hid hW1
              have B1 := Lib.hid b1
              have HJ := Lib.hid hj
              have HX4 := Lib.hid x4
              have cm1 := fun (W : World) (xW : Ext W1 W) => cmf W (x4.trans xW)
              obtain ⟨G, hG⟩ : ∃ G, G = gk - 1 := ⟨_, rfl⟩
              have HG := Lib.hid hG
              clear hx hj hok hs hmem hsr hsi hat hno hxn hW1 b1 x4 hG hgs
              go_wp2
              rw [← HW.out]
              go_region_held3 (fun w' => w'.cell? ⟨wr.heap.size, 0, none⟩ = some (.int .i64 s.1) ∧ w'.cell? ⟨wr.heap.size, 1, none⟩ = some (.int .u64 (s.2 : Int))) (go_keep) (first
                | (go_at_call 89; refine (cm1 _ (Ext.refl W1).drew).mono ?_; clear cm1; rintro e w2 ⟨A', c', rfl, _, r2, x2⟩; have B2 := Lib.hid (ext_blk x2 B1.out.drew); obtain ⟨k2, k3, -, -⟩ := arr2 B2.out)
                | (go_at_call 91; refine (cw _ _ _ _).mono ?_; clear cw; rintro e w3 ⟨rfl, p3, q3, x3⟩; have B3 := Lib.hid (ext_blk x3 B2.out); obtain ⟨k4, k5, -, -⟩ := arr2 B3.out))
              have X5 : Hid (Ext w w3) := Lib.hid ((HX4.out.drew.trans x2).trans x3)
              have r3 := (r2.below x3.out).more x3.size
              obtain ⟨g, hg⟩ : ∃ g, g = w2.heap.size := ⟨_, rfl⟩
              rw [← hg] at p3 q3 ⊢
              have ck := fun id hid W xW => cc A' c' g w3 x p3 q3 r3 id hid W xW
              clear k0 k1 k2 k3 k4 k5 p3 q3 r2 r3 x2 x3 hg cc q0 q1 cmf
              go_wp2
              go_loopg [12, 67] fl.length (fun m s12 s67 wr => ∃ i : Nat, i + m = fl.length ∧ s67 = .int .i64 i ∧ s12 = .int .u64 (wantN ids x (fl.take i) : Nat) ∧ Ext w3 wr)
              case atStart => exact ⟨0, by omega, rfl, by unfold wantN; rfl, Ext.refl _⟩
              case round =>
                obtain ⟨i, hi, rfl, rfl, hx⟩ := hrel
                by_cases h' : i < fl.length
                · obtain ⟨r, hs⟩ : ∃ s, fl[i]? = some s := ⟨_, List.getElem?_eq_getElem h'⟩
                  obtain ⟨bd, rfl, hltb, q0, q1⟩ := reads_share (R1.out.below (X5.out.trans hx).out) hs
                  obtain ⟨hrr, hri⟩ := HF.out r (List.mem_of_getElem? hs)
                  have hib : (i : Int) ≤ 7 := by have := HF7.out; omega
                  have hr2 := ((inB_iff _).1 hri).2.1
                  have c1 := fun W xW => ck r.1 hrr W xW
                  have c2 := fun W => Pow_any r.2 (atN ids r.1 x) (lt64_Q hr2) (lt64_R (atN_lt _ _ _)) W
                  have c3 := fun W => MulE (wantN ids x (fl.take i)) (powM bQ r.2 (atN ids r.1 x)) (lt64_Q (wantN_lt _ _ _)) (lt64_Q (powM_lt (by decide) _ _)) W
                  have e1 := wantN_take (ids := ids) hs x
                  obtain ⟨v, hv⟩ : ∃ t, t = atN ids r.1 x := ⟨_, rfl⟩
                  obtain ⟨u, hu⟩ : ∃ t, t = wantN ids x (fl.take i) := ⟨_, rfl⟩
                  rw [← hv] at c1 c2 c3 e1
                  rw [← hu] at c3 e1 ⊢
                  have HE := Lib.hid e1
                  have HX6 := Lib.hid hx
                  have HI := Lib.hid hi
                  obtain ⟨W5, hW5⟩ : ∃ W1, W1 = wr.alloc (.cells #[.int .i64 r.1, .int .u64 (r.2 : Int)] 37) := ⟨_, rfl⟩
                  obtain ⟨k0, k1⟩ := new_share wr 37 r.1 r.2
                  rw [← hW5] at k0 k1
                  have HW5 := Lib.hid hW5
                  have x4 : Ext w3 W5 := by rw [hW5]; exact hx.alloc _
                  clear e1 hx hi hs hv hu hrr hri hr2 hW5 ck
                  go_wp2
                  rw [← HW5.out]
                  have i0 := fun i : Later W5 => i.cell k0
                  have i1 := fun i : Later W5 => i.cell k1
                  refine wp_region_later (by kernel_rfl) (by kernel_rfl) ?_
                  repeat (go_big_quiet_step (first
                    | (go_at_call 119; exact Later.calls (c1 _ (x4.trans (Later.ext _))))
                    | (go_at_call 38; exact Later.calls (c2 _))
                    | (go_at_call 73; exact Later.calls (c3 _))))
                  refine wpQuiet_nil ?_
                  rintro W2 ⟨q, hq⟩
                  have x5 : Ext w3 W2 := by rw [hq]; exact x4.trans q.ext
                  clear hq q i0 i1 q0 q1 k0 k1
                  go_wp2
                  have hi := HI.out
                  go_roundg (gk - 1)
                  case measure => omega
                  case rel => exact ⟨i + 1, by omega, int_congr (by omega), by rw [HE.out], x5⟩
                · obtain rfl : i = fl.length := by omega
                  rw [List.take_length]
                  have B6 := Lib.hid (ext_blk hx B3.out)
                  obtain ⟨k6, k7, -, -⟩ := arr2 B6.out
                  have HX6 := Lib.hid (X5.out.trans hx)
                  obtain ⟨u, hu⟩ : ∃ t, t = wantN ids x fl := ⟨_, rfl⟩
                  rw [← hu] at HAT HNO ⊢
                  clear hx hi hu ck
                  by_cases hus : u = s.2
                  · have hok' := Lib.hid (HAT.out hus)
                    subst hus
                    go_wp2
                    have hj := HJ.out
                    have hG := HG.out
                    go_roundg G
                    case measure => omega
                    case rel => exact ⟨j + 1, by omega, int_congr (by omega), hok'.out, HX6.out⟩
                  · have d1 : ((u : Int) != (s.2 : Int)) = true := by simp; omega
                    have k : Hid (chkN (tn : Int) l = 60) := by show _ = _; rw [HK.out, if_neg (by rw [HNO.out hus]; decide)]
                    go_wp2
                    go_ret
                    exact ⟨by rw [k.out]; rfl, HX6.out⟩
            · obtain rfl : j = rl.length := by omega
              rw [List.take_length] at hok
              have HX5 := Lib.hid hx
              have k : Hid (chkN (tn : Int) l = 0) := by show _ = _; rw [HK.out, if_pos hok]
              clear hx hj hok
              go_wp2
              go_ret
              exact ⟨by rw [k.out]; rfl, HX5.out⟩
end Go.Proofs.YtiecfamjnnmpaaaGreat

/- The document's hash, walked: number, Of; and Of of the hash. -/
namespace Go.Proofs.YtiecfamjnnmpaaaGreat
set_option linter.unusedVariables false
open Go.RowKit Go.Shelf

theorem num8_bound (l : List Nat) (h : ∀ x ∈ l, x < 256) (k : Nat) (hk : k ≤ 7) : num8 (l.take k) < 72057594037927936 := by
  have h1 := num8_lt (l.take k) fun x hx => h x (List.mem_of_mem_take hx)
  have h2 : (l.take k).length ≤ 7 := by rw [List.length_take]; omega
  have h3 : 256 ^ (l.take k).length ≤ 256 ^ 7 := Nat.pow_le_pow_right (by decide) h2
  have h4 : (256 : Nat) ^ 7 = 72057594037927936 := by decide
  omega
theorem num8_64 (l : List Nat) (h : ∀ x ∈ l, x < 256) (hl : l.length ≤ 8) : num8 l < 18446744073709551616 := by
  have h1 := num8_lt l h
  have h3 : 256 ^ l.length ≤ 256 ^ 8 := Nat.pow_le_pow_right (by decide) hl
  have h4 : (256 : Nat) ^ 8 = 18446744073709551616 := by decide
  omega

/-- The hash that bytes are, and why there is none. -/
def ofS (l : List Nat) : (Nat × Nat) × Nat :=
  if l.length < 16 then ((0, 0), 70) else if 16 < l.length ∨ bP ≤ num8 (l.take 8) ∨ bP ≤ num8 ((l.drop 8).take 8) then ((0, 0), 71) else ((num8 (l.take 8), num8 ((l.drop 8).take 8)), 0)
def ofV (r : (Nat × Nat) × Nat) : Value := .tuple #[.agg #[.int .u64 (r.1.1 : Int), .int .u64 (r.1.2 : Int)], .int .i64 (r.2 : Int)]

set_option maxRecDepth 100000 in
theorem slice_h8 (A : Option Addr) (n c m : Nat) (hm : m ≤ c) (w : World) : (Instr.slice 22 (.slice A n c) none (some (.int .i64 (m : Int))) none).run Tryz.prog w = .ok (sliced A 0 m c 1) w := by
  rw [run_slice_h w 22 A n c Tryz.underlying22 .i64 (m : Int) (by omega) (by omega)]
  have : (sizeOf (Tryz.prog.elem 22)).run Tryz.prog w = .ok 1 w := by kernel_rfl
  rw [this]
  rfl
set_option maxRecDepth 100000 in
theorem slice_l8 (A : Option Addr) (n c m : Nat) (hm : m ≤ n) (w : World) : (Instr.slice 22 (.slice A n c) (some (.int .i64 (m : Int))) none none).run Tryz.prog w = .ok (sliced A m n c 1) w := by
  rw [run_slice_l w 22 A n c Tryz.underlying22 .i64 (m : Int) (by omega) (by omega)]
  have : (sizeOf (Tryz.prog.elem 22)).run Tryz.prog w = .ok 1 w := by kernel_rfl
  rw [this]
  rfl
theorem sliced_at (ad : Addr) (m n c : Nat) (h : m < c) : sliced (some ad) m n c 1 = .slice (some (ad.add m)) (n - m) (c - m) := by
  unfold sliced
  rw [if_neg (by omega)]
  simp
theorem add_zero' (ad : Addr) : ad.add 0 = ad := by unfold Addr.add; simp

/-- The two halves of what was read so far. -/
def h0 (l : List Nat) (k : Nat) : Nat := num8 ((l.take 8).take k)
def h1 (l : List Nat) (k : Nat) : Nat := num8 (((l.drop 8).take 8).take (k - 8))
theorem h0_step (l : List Nat) (k b : Nat) (hb : l[k]? = some b) (hk : k < 8) : h0 l (k + 1) = h0 l k * 256 + b ∧ h1 l (k + 1) = h1 l k := by
  unfold h0 h1
  refine ⟨?_, by rw [show k + 1 - 8 = 0 by omega, show k - 8 = 0 by omega]⟩
  have : (l.take 8)[k]? = some b := by rw [List.getElem?_take, if_pos hk]; exact hb
  rw [List.take_add_one, this]; exact num8_snoc _ _
theorem h1_step (l : List Nat) (k b : Nat) (hb : l[k]? = some b) (hk : 8 ≤ k) (hk' : k < 16) : h0 l (k + 1) = h0 l k ∧ h1 l (k + 1) = h1 l k * 256 + b := by
  unfold h0 h1
  refine ⟨by rw [List.take_take, List.take_take]; congr 2; omega, ?_⟩
  have : ((l.drop 8).take 8)[k - 8]? = some b := by rw [List.getElem?_take, if_pos (by omega), List.getElem?_drop, show 8 + (k - 8) = k by omega]; exact hb
  rw [show k + 1 - 8 = k - 8 + 1 by omega, List.take_add_one, this]; exact num8_snoc _ _
theorem h_more (l : List Nat) (k : Nat) (hk : 16 ≤ k) : h0 l (k + 1) = h0 l k ∧ h1 l (k + 1) = h1 l k := by
  unfold h0 h1
  refine ⟨by rw [List.take_take, List.take_take]; congr 2; omega, by rw [List.take_take, List.take_take]; congr 2; omega⟩
theorem h_all (l : List Nat) (k : Nat) (hk : 16 ≤ k) : h0 l k = num8 (l.take 8) ∧ h1 l k = num8 ((l.drop 8).take 8) := by
  unfold h0 h1
  refine ⟨by rw [List.take_take]; congr 2; omega, by rw [List.take_take]; congr 2; omega⟩
theorem h0_lt (l : List Nat) (h : ∀ x ∈ l, x < 256) (k : Nat) : h0 l k < 18446744073709551616 ∧ h1 l k < 18446744073709551616 :=
  ⟨num8_64 _ (fun x hx => h x (List.mem_of_mem_take (List.mem_of_mem_take hx))) (by simp; omega), num8_64 _ (fun x hx => h x (List.mem_of_mem_drop (List.mem_of_mem_take (List.mem_of_mem_take hx)))) (by simp; omega)⟩
theorem h0_b (l : List Nat) (h : ∀ x ∈ l, x < 256) (k : Nat) (hk : k < 8) : h0 l k < 72057594037927936 :=
  num8_bound (l.take 8) (fun x hx => h x (List.mem_of_mem_take hx)) k (by omega)
theorem h1_b (l : List Nat) (h : ∀ x ∈ l, x < 256) (k : Nat) (hk : k < 16) : h1 l k < 72057594037927936 :=
  num8_bound ((l.drop 8).take 8) (fun x hx => h x (List.mem_of_mem_drop (List.mem_of_mem_take hx))) (k - 8) (by omega)
theorem or8 (a b : Nat) (ha : a < 72057594037927936) (hb : b < 256) : bits .or .u64 (IntKind.u64.wrap ((a : Int) * 256)) (b : Int) = ((a * 256 + b : Nat) : Int) := by
  have e1 : IntKind.u64.wrap ((a : Int) * 256) = ((a * 256 : Nat) : Int) := by rw [IntKind.wrap_u64]; omega
  rw [e1, bits_or_u64_nat (a * 256) b (by omega) (by omega)]
  congr 1
  have h := Nat.two_pow_add_eq_or_of_lt (i := 8) (b := b) (show b < 2 ^ 8 from hb) a
  rw [show (2 : Nat) ^ 8 = 256 from rfl] at h
  rw [Nat.mul_comm a 256]; exact h.symm
end Go.Proofs.YtiecfamjnnmpaaaGreat
