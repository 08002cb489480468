/- Parts of the proofs, put together: HaTag, ShB, HaPair, HaRefB, Sh, Sh2, Sh3, SiMath. -/
import Derived.Maps.OwnSet
import Derived.Maps.OwnOps
import Derived.Maps.Views
import Derived.Deep.RegionWith
import Derived.BigRegion
import Derived.Deep.RegionHeld3
import Derived.Maps.Own
import Derived.Test.YtaibpldolbemfaaH1
import Derived.Test.YtaibpldolbemfaaH4
import Derived.Test.YtaibpldolbemfaaH7
import Derived.Test.YtaibpldolbemfaaH8
import Derived.Test.YtaibpldolbemfaaH9
import Derived.Test.YtaibpldolbemfaaH11
import Derived.Test.YtaibpldolbemfaaH12
/- The hash, walked: Tagged. -/
namespace Go.Proofs.Ytaibpldolbemfaa
open Go.RowKit Go.Shelf

/-- What a tag and parts are hashed as. -/
def coded (tag : List Nat) (parts : List (List Nat)) : List Nat := tag.length % 256 :: tag ++ parts.flatMap fun p => be p.length 4 ++ p
theorem coded_snoc (tag : List Nat) (ps : List (List Nat)) (p : List Nat) : coded tag (ps ++ [p]) = coded tag ps ++ be p.length 4 ++ p := by simp [coded, List.flatMap_append]
theorem coded_nil (tag : List Nat) : coded tag [] = tag.length % 256 :: tag := by simp [coded]
theorem be_lt (n k : Nat) : ∀ x ∈ be n k, x < 256 := by
  intro x hx
  simp only [be, beN, List.mem_map] at hx
  obtain ⟨_, _, rfl⟩ := hx
  exact Nat.mod_lt _ (by decide)
theorem coded_lt (tag : List Nat) (ht : ∀ x ∈ tag, x < 256) (ps : List (List Nat)) (hp : ∀ p ∈ ps, ∀ x ∈ p, x < 256) : ∀ x ∈ coded tag ps, x < 256 := by
  intro x hx
  simp only [coded, List.cons_append, List.mem_cons, List.mem_append, List.mem_flatMap] at hx
  rcases hx with rfl | hx | ⟨p, hp', hx | hx⟩
  · exact Nat.mod_lt _ (by decide)
  · exact ht x hx
  · exact be_lt _ _ x hx
  · exact hp p hp' x hx

/-- Parts that lie in memory. -/
def Parts (w : World) (B : Nat) (A : Option Addr) (ps : List (List Nat)) : Prop :=
  ∃ vs : List Value, Reads w B 1 A ps.length vs ∧ ∀ (j : Nat) (p : List Nat), ps[j]? = some p → ∃ a c, vs[j]? = some (Value.slice a p.length c) ∧ p.length ≤ c ∧ Reads w B 1 a p.length (bv p)
theorem Parts.keep {w w' : World} {B : Nat} {A : Option Addr} {ps : List (List Nat)} (h : Parts w B A ps) (hk : ∀ p : Addr, p.block < B → w'.cell? p = w.cell? p) : Parts w' B A ps := by
  obtain ⟨vs, h1, h2⟩ := h
  exact ⟨vs, h1.keep hk, fun j p hj => by obtain ⟨a, c, e, hc, hr⟩ := h2 j p hj; exact ⟨a, c, e, hc, hr.keep hk⟩⟩
theorem Parts.below {w w' : World} {B : Nat} {A : Option Addr} {ps : List (List Nat)} (h : Parts w B A ps) (hb : Below B w w') : Parts w' B A ps := h.keep fun _ hp => hb.cell hp
theorem Parts.at_ {w : World} {B : Nat} {A : Option Addr} {ps : List (List Nat)} (h : Parts w B A ps) {j : Nat} {p : List Nat} (hj : ps[j]? = some p) :
    ∃ ad a c, A = some ad ∧ w.cell? (ad.add j) = some (.slice a p.length c) ∧ p.length ≤ c ∧ Reads w B 1 a p.length (bv p) := by
  obtain ⟨vs, h1, h2⟩ := h
  obtain ⟨a, c, e, hc, hr⟩ := h2 j p hj
  obtain ⟨ad, u, ha, _, hu, hcell⟩ := h1.at_ (k := j) (List.getElem?_eq_some_iff.1 hj).1
  rw [e] at hu
  cases hu
  exact ⟨ad, a, c, ha, hcell, hc, hr⟩
theorem own_slice {w : World} {base : Nat} {e : TypeId} {n : Nat} {v : Value} {xs : List Value} (h : w.ownsRow base e 1 v n xs) : ∃ A c, v = .slice A n c ∧ n ≤ c ∧ Reads w w.heap.size 1 A n xs := by
  rcases h.2 with ⟨rfl, h0⟩ | ⟨g, cap, cur, rfl, _, _, hc⟩
  · exact ⟨none, 0, by rw [h0], by omega, Reads.of_own (c := 0) (by rw [h0] at h ⊢; exact h)⟩
  · exact ⟨_, cap, rfl, hc.1, Reads.of_own h⟩
theorem own_new (w : World) (base g : Nat) (hg : g = w.heap.size) (hb : base ≤ g) (e : TypeId) (u : Value) : (w.alloc (.cells #[u] e)).ownsRow base e 1 (.slice (some ⟨g, 0, none⟩) 1 1) 1 [u] := by
  subst hg
  exact ⟨rfl, .inr ⟨w.heap.size, 1, #[u], rfl, hb, heap_alloc_new w _, Nat.le_refl _, by simp [maxLen], rfl, rfl⟩⟩

theorem coded_take_le (tag : List Nat) (ps : List (List Nat)) (j : Nat) : (coded tag (ps.take j)).length ≤ (coded tag ps).length := by
  have e : coded tag ps = coded tag (ps.take j) ++ (ps.drop j).flatMap fun p => be p.length 4 ++ p := by
    unfold coded
    rw [List.append_assoc, ← List.flatMap_append, List.take_append_drop]
  rw [e, List.length_append]
  omega

set_option maxRecDepth 100000 in
set_option maxHeartbeats 1000000 in
theorem Tagged_any (tag : ByteArray) (ps : List (List Nat)) (hps : ∀ p ∈ ps, ∀ x ∈ p, x < 256) (A : Option Addr) (c : Nat) (w : World) (hr : Parts w w.heap.size A ps) (htot : (coded (strN tag) ps).length ≤ 1099511627776) :
    Calls Try.prog 34 #[.string tag, .slice A ps.length c] w fun e w' => e = .returned (.agg #[.int .u64 ((hSum (coded (strN tag) ps)).1 : Int), .int .u64 ((hSum (coded (strN tag) ps)).2 : Int)]) ∧ Ext w w' := by
  obtain ⟨i0, hi, hz0, hz1, hz2⟩ := info_parts Try.infoU8
  have hall := coded_lt (strN tag) (strN_lt tag) ps hps
  have htl : tag.size + 1 ≤ (coded (strN tag) ps).length := by
    have := coded_take_le (strN tag) ps 0
    rw [List.take_zero, coded_nil, List.length_cons, strN_length] at this
    exact this
  have hcc := coded_take_le (strN tag) ps
  have hc0 : coded (strN tag) [] = tag.size % 256 :: strN tag := by rw [coded_nil, strN_length]
  obtain ⟨tot, ht⟩ : ∃ tot, tot = (coded (strN tag) ps).length := ⟨_, rfl⟩
  rw [← ht] at htot htl hcc
  have hpl : ps.length ≤ tot := by
    rw [ht, coded, List.length_append, List.length_flatMap]
    have : ps.length ≤ (ps.map fun p => (be p.length 4 ++ p).length).sum := by
      clear ht hcc hc0 htl hall hr hps htot
      induction ps with
      | nil => simp
      | cons p ps ih =>
        simp only [List.length_cons, List.map_cons, List.sum_cons]
        rw [List.length_append, be_length]
        omega
    omega
  have k1 : IntKind.u8.wrap (tag.size : Int) = ((tag.size % 256 : Nat) : Int) := by rw [IntKind.wrap_u8]; omega
  obtain ⟨d, hd⟩ : ∃ d, d = tag.size % 256 := ⟨_, rfl⟩
  rw [← hd] at k1 hc0
  have HD := Lib.hid hd
  have HT := Lib.hid ht
  have HC := Lib.hid hcc
  have HA := Lib.hid hall
  have HR := Lib.hid hr
  clear hd ht hcc hall hr
  go_enter Try.func34, Try.ntmps34
  go_wp2_with (at_builtin; refine wpList_append_own_src _ rfl (.tmp 11) (.tmp 12) 23 9 rfl (w.heap.size + 1) 5 i0 (.int .u8 0) 1 1 Try.underlying23 hi hz0 hz1 hz2 rfl (.slice (some ⟨w.heap.size + 1, 0, none⟩) 1 1) _ _ rfl (own_new (w.alloc (.cells #[.int .u64 0, .int .u64 0] 55)) (w.heap.size + 1) (w.heap.size + 1) (by simp) (Nat.le_refl _) 5 (.int .u8 (d : Int))) (.string tag) tag.size (byteCells tag) rfl (Src.ofString _ Try.underlying9 tag) (by simp only [maxLen]; omega) (by omega) (by simp) (by simp) ?_; intro v1 w1 hown1 hg1 _)
  have hb1 : Below (w.heap.size + 1) (w.alloc (.cells #[.int .u64 0, .int .u64 0] 55)) w1 := ((Below.refl _ _).alloc (by simp) _).grown hg1 (by simp) (fun k e => by simp [Value.ownBlock] at e; omega)
  have hx1 : Hid (Ext w w1) := Lib.hid (((Ext.refl w).alloc _).trans (Ext.of (by simpa using hb1)))
  have hbox : Hid (Blk w1 w.heap.size 55 #[.int .u64 0, .int .u64 0]) := Lib.hid ((Blk.new w _ _).below hb1 (Nat.lt_succ_self _))
  have hsz : w.heap.size + 1 ≤ w1.heap.size := by have := hb1.size; simp at this; omega
  have ho : Hid (w1.ownsRow (w.heap.size + 1) 5 1 v1 (coded (strN tag) (ps.take 0)).length (bv (coded (strN tag) (ps.take 0)))) := by
    show World.ownsRow _ _ _ _ _ _ _
    rw [List.take_zero, hc0, List.length_cons, strN_length, Nat.add_comm tag.size 1]
    have e : bv (d :: strN tag) = [.int .u8 (d : Int)] ++ byteCells tag := by rw [byteCells_strN]; rfl
    rw [e]
    exact hown1
  clear hown1 hg1 hb1 hc0 k1
  go_loopg [5, 16] ps.length (fun m s5 s16 wr => ∃ j : Nat, j + m = ps.length ∧ s16 = .int .i64 j ∧ wr.ownsRow (w.heap.size + 1) 5 1 s5 (coded (strN tag) (ps.take j)).length (bv (coded (strN tag) (ps.take j))) ∧ Ext w wr ∧ Blk wr w.heap.size 55 #[.int .u64 0, .int .u64 0] ∧ w.heap.size + 1 ≤ wr.heap.size)
  case atStart => exact ⟨0, by omega, rfl, ho.out, hx1.out, hbox.out, hsz⟩
  case round =>
    obtain ⟨j, hj, rfl, hown, hx, hb, hs⟩ := hrel
    clear ho hx1 hbox hsz
    by_cases h : j < ps.length
    · obtain ⟨p, hp⟩ : ∃ p, ps[j]? = some p := ⟨_, List.getElem?_eq_getElem h⟩
      obtain ⟨ad, a, c', rfl, hcell, hpc, hrp⟩ := (HR.out.below hx.out).at_ hp
      have hle := HC.out (j + 1)
      have ht1 : ps.take (j + 1) = ps.take j ++ [p] := by rw [List.take_add_one, hp]; rfl
      rw [ht1, coded_snoc] at hle
      simp only [List.length_append, be_length] at hle
      obtain ⟨l, hl⟩ : ∃ l, l = coded (strN tag) (ps.take j) := ⟨_, rfl⟩
      rw [← hl] at hown hle
      have HN : Hid (coded (strN tag) (ps.take (j + 1)) = l ++ be p.length 4 ++ p) := by show _ = _; rw [ht1, coded_snoc, hl]
      have c1 := put_any (w.heap.size + 1) u5 l p.length 4 (by decide) wr hown hs (by omega)
      have hpt : (p.length : Int) ≤ 1099511627776 := by omega
      have HLE := Lib.hid hle
      have HJ := Lib.hid hj
      have HX := Lib.hid hx
      have HB := Lib.hid hb
      have HS := Lib.hid hs
      clear hle hj hx hb hs ht1 hl hp htl
      go_wp2_with (first
        | (go_at_call 62; refine c1.mono ?_; clear c1; rintro e w2 ⟨v2, rfl, o2, b2⟩)
        | (at_builtin; refine wpList_append_any _ rfl (.tmp 24) (.tmp 25) 23 rfl (w.heap.size + 1) 5 i0 (.int .u8 0) 1 1 Try.underlying23 hi hz0 hz1 hz2 rfl (by decide) v2 _ _ rfl o2 w.heap.size a p.length c' (bv p) rfl (hrp.below (b2.mono (Nat.le_succ _))) (bv_one p) (by have := HLE.out; simp only [maxLen, List.length_append, be_length]; omega) (by have := HLE.out; simp only [List.length_append, be_length]; omega) (by have := HS.out; have := b2.size; omega) ?_; intro v3 w3 hown3 hg3 _))
      have hb3 : Below (w.heap.size + 1) wr w3 := b2.grown hg3 (by have := HS.out; have := b2.size; omega) (own_ge o2)
      have O3 : Hid (w3.ownsRow (w.heap.size + 1) 5 1 v3 (coded (strN tag) (ps.take (j + 1))).length (bv (coded (strN tag) (ps.take (j + 1))))) := by
        show World.ownsRow _ _ _ _ _ _ _
        rw [HN.out, show (l ++ be p.length 4 ++ p).length = (l ++ be p.length 4).length + p.length from List.length_append, show bv (l ++ be p.length 4 ++ p) = bv (l ++ be p.length 4) ++ bv p from bv_append _ _]
        exact hown3
      have X3 : Ext w w3 := Below.trans HX.out (hb3.mono (Nat.le_succ _))
      have B3 := HB.out.below hb3 (Nat.lt_succ_self _)
      have hj := HJ.out
      have S3 : w.heap.size + 1 ≤ w3.heap.size := Nat.le_trans HS.out hb3.size
      clear hown3 hg3 hb3 o2 b2 hown
      go_roundg (gk - 1)
      case measure => omega
      case rel => exact ⟨j + 1, by omega, int_congr (by omega), O3.out, X3, B3, S3⟩
    · obtain rfl : j = ps.length := by omega
      rw [List.take_length] at hown
      obtain ⟨A', c', rfl, hc', hr'⟩ := own_slice hown
      have cS := Sum_any (coded (strN tag) ps) HA.out (by rw [← HT.out]; exact htot) A' c' hc' wr hr'
      have q0 := hb.cell 0
      have q1 := hb.cell 1
      have p0 := hb.frozen 0
      have p1 := hb.frozen 1
      simp at q0 q1
      obtain ⟨n, hn⟩ : ∃ n, n = (coded (strN tag) ps).length := ⟨_, rfl⟩
      obtain ⟨r1, hr1⟩ : ∃ r, r = (hSum (coded (strN tag) ps)).1 := ⟨_, rfl⟩
      obtain ⟨r2, hr2⟩ : ∃ r, r = (hSum (coded (strN tag) ps)).2 := ⟨_, rfl⟩
      rw [← hn, ← hr1, ← hr2] at cS
      rw [← hn]
      have HR1 := Lib.hid hr1
      have HR2 := Lib.hid hr2
      have HX := Lib.hid hx
      have HB := Lib.hid hb
      clear hn hr1 hr2 hown hr' hx hc' hj h
      go_wp2_with (go_at_call 63; refine cS.mono ?_; clear cS; rintro e w2 ⟨rfl, x2⟩; have q0 := (HB.out.below x2.out HB.out.lt).cell 0; have q1 := (HB.out.below x2.out HB.out.lt).cell 1; have p0 := (HB.out.below x2.out HB.out.lt).frozen 0; have p1 := (HB.out.below x2.out HB.out.lt).frozen 1; simp at q0 q1)
      refine bodyPost_ret (v := .agg #[.int .u64 (r1 : Int), .int .u64 (r2 : Int)]) (by simp [results, Try.results34, go_sem, q0, q1]) rfl ⟨by rw [HR1.out, HR2.out], ?_⟩
      exact ((HX.out.trans x2).setCell (p := ⟨w.heap.size, 0, none⟩) (Nat.le_refl _) _).setCell (p := ⟨w.heap.size, 1, none⟩) (Nat.le_refl _) _
end Go.Proofs.Ytaibpldolbemfaa

/- Shares in memory; a set of numbers as a map to bool. -/
namespace Go.Proofs.Ytaibpldolbemfaa
set_option linter.unusedVariables false
open Go.RowKit Go.Shelf Go.Maps

/-! ### lists of ids, of shares, as cells -/
def iv (l : List Int) : List Value := l.map (Value.int .i64)
def sv (l : List (Int × Nat)) : List Value := l.flatMap fun s => [.int .i64 s.1, .int .u64 (s.2 : Int)]
def idsWf (l : List (Int × Nat)) : Prop := ∀ i ∈ l.map (·.1), (Lit.int .i64 i).wf = true
def wv (l : List Nat) : List Value := l.map fun (n : Nat) => Value.int .u64 (n : Int)
theorem iv_length (l : List Int) : (iv l).length = l.length := by simp [iv]
theorem wv_length (l : List Nat) : (wv l).length = l.length := by simp [wv]
theorem sv_length (l : List (Int × Nat)) : (sv l).length = l.length * 2 := by
  induction l with
  | nil => rfl
  | cons s l ih =>
    have e : sv (s :: l) = [.int .i64 s.1, .int .u64 (s.2 : Int)] ++ sv l := rfl
    rw [e, List.length_append, ih]; simp; omega
theorem iv_append (l m : List Int) : iv (l ++ m) = iv l ++ iv m := by simp [iv]
theorem wv_append (l m : List Nat) : wv (l ++ m) = wv l ++ wv m := by simp [wv]
theorem sv_append (l m : List (Int × Nat)) : sv (l ++ m) = sv l ++ sv m := by simp [sv]
theorem iv_one (l : List Int) : ∀ u ∈ iv l, u.oneCell' = true := by
  intro u hu; obtain ⟨a, _, rfl⟩ := List.mem_map.1 hu; rfl
theorem wv_one (l : List Nat) : ∀ u ∈ wv l, u.oneCell' = true := by
  intro u hu; obtain ⟨a, _, rfl⟩ := List.mem_map.1 hu; rfl
theorem sv_one (l : List (Int × Nat)) : ∀ u ∈ sv l, u.oneCell' = true := by
  intro u hu
  obtain ⟨a, _, h⟩ := List.mem_flatMap.1 hu
  simp at h
  rcases h with rfl | rfl <;> rfl
theorem iv_at {l : List Int} {k : Nat} {x : Int} (h : l[k]? = some x) : (iv l)[k]? = some (.int .i64 x) := by simp [iv, h]
theorem wv_at {l : List Nat} {k : Nat} {x : Nat} (h : l[k]? = some x) : (wv l)[k]? = some (.int .u64 (x : Int)) := by simp [wv, h]
theorem sv_at : ∀ {l : List (Int × Nat)} {k : Nat} {s : Int × Nat}, l[k]? = some s → (sv l)[k * 2]? = some (.int .i64 s.1) ∧ (sv l)[k * 2 + 1]? = some (.int .u64 (s.2 : Int))
  | [], k, s, h => by simp at h
  | a :: l, 0, s, h => by
    simp at h
    subst h
    exact ⟨rfl, rfl⟩
  | a :: l, k + 1, s, h => by
    simp at h
    have e : sv (a :: l) = .int .i64 a.1 :: .int .u64 (a.2 : Int) :: sv l := rfl
    rw [e, show (k + 1) * 2 = k * 2 + 1 + 1 by omega]
    simpa using sv_at h
theorem add_one_eq (a : Addr) : a.add 1 = ⟨a.block, a.off + 1, none⟩ := by unfold Addr.add; simp
section
variable {w : World} {B n : Nat} {A : Option Addr}
theorem reads_id {l : List Int} (h : Reads w B 1 A n (iv l)) {k : Nat} {x : Int} (hk : l[k]? = some x) : ∃ ad, A = some ad ∧ w.cell? (ad.add k) = some (.int .i64 x) := by
  have hl := (List.getElem?_eq_some_iff.1 hk).1
  have h1 := h.1
  rw [iv_length] at h1
  obtain ⟨ad, e, _, hc⟩ := h.2 (by omega)
  exact ⟨ad, e, hc _ _ (iv_at hk)⟩
theorem reads_word {l : List Nat} (h : Reads w B 1 A n (wv l)) {k : Nat} {x : Nat} (hk : l[k]? = some x) : ∃ ad, A = some ad ∧ w.cell? (ad.add k) = some (.int .u64 (x : Int)) := by
  have hl := (List.getElem?_eq_some_iff.1 hk).1
  have h1 := h.1
  rw [wv_length] at h1
  obtain ⟨ad, e, _, hc⟩ := h.2 (by omega)
  exact ⟨ad, e, hc _ _ (wv_at hk)⟩
theorem reads_share {l : List (Int × Nat)} (h : Reads w B 2 A n (sv l)) {k : Nat} {s : Int × Nat} (hk : l[k]? = some s) :
    ∃ ad, A = some ad ∧ ad.block < B ∧ w.cell? (ad.add (k * 2)) = some (.int .i64 s.1) ∧ w.cell? ⟨(ad.add (k * 2)).block, (ad.add (k * 2)).off + 1, none⟩ = some (.int .u64 (s.2 : Int)) := by
  have hl := (List.getElem?_eq_some_iff.1 hk).1
  have h1 := h.1
  rw [sv_length] at h1
  obtain ⟨ad, e, hb, hc⟩ := h.2 (by omega)
  exact ⟨ad, e, hb, hc _ _ (sv_at hk).1, by rw [← add_one_eq, add_of_add]; exact hc _ _ (sv_at hk).2⟩
end

/-! ### a set of numbers -/
section
variable {H : Type} {P : Program}
theorem plainElem_bool_inv {e : TypeId} (he : P.underlying e = some .bool) {v : Value} {z : DataW H × List MemPlace} (h : plainElem P e v = some z) : ∃ a, v = .bool a ∧ z = (.lit (.bool a), []) := by
  unfold plainElem at h
  rw [he] at h
  cases v <;> simp at h
  exact ⟨_, rfl, h.symm⟩
def keys (l : List Int) : List Lit := l.map (Lit.int .i64)
theorem keys_key (l : List Int) : ∀ x ∈ keys l, WideAt.IsKeyLit x := by
  intro x hx; obtain ⟨a, _, rfl⟩ := List.mem_map.1 hx; trivial
theorem isMap_fold (u : DataW H) : ∀ (acc : List Lit) (m : DataW H), IsMap m → IsMap (acc.foldl (fun m x => m.put x u) m)
  | [], _, h => h
  | x :: acc, m, h => isMap_fold u acc _ (h.put x u)
theorem atKey_fold (u z : DataW H) (x : Int) : ∀ (l : List Int) (m : DataW H), IsMap m → m.atKey (.int .i64 x) z = (if x ∈ ([] : List Int) then u else m.atKey (.int .i64 x) z) →
    ((keys l).foldl (fun m x => m.put x u) m).atKey (.int .i64 x) z = if x ∈ l then u else m.atKey (.int .i64 x) z
  | [], m, _, h => h
  | y :: l, m, hm, h => by
    show ((keys l).foldl (fun m x => m.put x u) (m.put (.int .i64 y) u)).atKey (.int .i64 x) z = _
    rw [atKey_fold u z x l _ (hm.put _ u) (by simp)]
    by_cases hx : x ∈ l
    · rw [if_pos hx, if_pos (List.mem_cons_of_mem _ hx)]
    · rw [if_neg hx]
      by_cases e : x = y
      · subst e
        rw [atKey_put_same hm (by trivial) u z, if_pos List.mem_cons_self]
      · rw [atKey_put_other (by simpa using e) u z, if_neg (by simp [e, hx])]
theorem atKey_set (u z : DataW H) (x : Int) (l : List Int) : (setOf u (keys l)).atKey (.int .i64 x) z = if x ∈ l then u else z := by
  have := atKey_fold u z x l (.map []) isMap_empty (by simp)
  exact this
end
def tt : DataW Unit := .lit (.bool true)
def SetIs (w : World) (b : Nat) (l : List Int) : Prop := w.ownsMap Try.prog 3 (plainElem (H := Unit) Try.prog 4) b l.length (setOf tt (keys l))
theorem zeroB (w : World) : (zeroValue 4).run Try.prog w = .ok (.bool false) w := by kernel_rfl
theorem keyInt : Keyed Try.prog 3 := int_keyed Try.underlying3
theorem SetIs.look {w : World} {b : Nat} {l : List Int} (h : SetIs w b l) (x : Int) (hx : (Lit.int .i64 x).wf = true) :
    (Instr.lookup 78 (.map (some b)) (.int .i64 x) false).run Try.prog w = .ok (.bool (decide (x ∈ l))) w := by
  obtain ⟨v, ps, hrun, hv⟩ := World.ownsMap.lookup h keyInt Try.underlying78 (zeroB w) (zd := .lit (.bool false)) (zp := []) (plainElem_bool Try.underlying4 false) (keyOf_int_mk Try.underlying3 hx)
  obtain ⟨a, rfl, e⟩ := plainElem_bool_inv Try.underlying4 hv
  rw [hrun]
  rw [atKey_set] at e
  have : a = decide (x ∈ l) := by
    by_cases hm : x ∈ l
    · rw [if_pos hm] at e
      simp [tt] at e
      simp [hm, ← e.1]
    · rw [if_neg hm] at e
      simp at e
      simp [hm, ← e.1]
  rw [this]
theorem SetIs.put_ {w' : World} {b : Nat} {l : List Int} {x : Int} (h : w'.ownsMap Try.prog 3 (plainElem (H := Unit) Try.prog 4) b (l.length + 1) ((setOf tt (keys l)).put (.int .i64 x) tt)) : SetIs w' b (l ++ [x]) := by
  have e : setOf tt (keys (l ++ [x])) = (setOf tt (keys l)).put (.int .i64 x) tt := by rw [← setOf_snoc]; simp [keys]
  unfold SetIs
  rw [e, List.length_append]
  exact h
theorem SetIs.new (w : World) : SetIs (w.alloc (.map #[] 0)) w.heap.size [] := World.ownsMap_made w Try.prog 3 _
end Go.Proofs.Ytaibpldolbemfaa

/- The hash, walked: Pair. -/
namespace Go.Proofs.Ytaibpldolbemfaa
open Go.RowKit Go.Shelf

def nodeS : ByteArray := { data := #[110, 111, 100, 101] }
def pairB (a1 a2 b1 b2 : Nat) : List Nat := coded (strN nodeS) [bytes2 a1 a2, bytes2 b1 b2]
theorem pairB_len (a1 a2 b1 b2 : Nat) : (pairB a1 a2 b1 b2).length ≤ 1099511627776 := by
  have : (strN nodeS).length = 4 := by decide
  simp [pairB, coded, be_length, bytes2_length, this]
theorem bytes2_lt (a b : Nat) : ∀ x ∈ bytes2 a b, x < 256 := by
  intro x hx
  rcases List.mem_append.1 hx with h | h <;> exact be_lt _ _ x h
theorem two_lt (a1 a2 b1 b2 : Nat) : ∀ p ∈ [bytes2 a1 a2, bytes2 b1 b2], ∀ x ∈ p, x < 256 := by
  intro p hp
  simp only [List.mem_cons, List.not_mem_nil, or_false] at hp
  rcases hp with rfl | rfl
  · exact bytes2_lt _ _
  · exact bytes2_lt _ _
theorem parts2 {W : World} {T : TypeId} {A A' : Option Addr} {c c' a1 a2 b1 b2 : Nat} (h1 : Reads W W.heap.size 1 A 16 (bv (bytes2 a1 a2))) (hc1 : 16 ≤ c) (h2 : Reads W W.heap.size 1 A' 16 (bv (bytes2 b1 b2))) (hc2 : 16 ≤ c') (g : Nat) (hg : g = W.heap.size) :
    Parts (W.alloc (.cells #[.slice A 16 c, .slice A' 16 c'] T)) (W.alloc (.cells #[.slice A 16 c, .slice A' 16 c'] T)).heap.size (some ⟨g, 0, none⟩) [bytes2 a1 a2, bytes2 b1 b2] := by
  subst hg
  have hb := Blk.new W T #[.slice A 16 c, .slice A' 16 c']
  refine ⟨[.slice A 16 c, .slice A' 16 c'], ⟨rfl, fun _ => ⟨_, rfl, by simp, fun j u hj => ?_⟩⟩, fun j p hj => ?_⟩
  · match j, hj with
    | 0, hj => cases hj; exact hb.cell 0
    | 1, hj => cases hj; exact hb.cell 1
  · match j, hj with
    | 0, hj => cases hj; exact ⟨A, c, by rw [bytes2_length]; rfl, by rw [bytes2_length]; exact hc1, by rw [bytes2_length]; exact (h1.alloc (Nat.le_refl _) _).more (by simp)⟩
    | 1, hj => cases hj; exact ⟨A', c', by rw [bytes2_length]; rfl, by rw [bytes2_length]; exact hc2, by rw [bytes2_length]; exact (h2.alloc (Nat.le_refl _) _).more (by simp)⟩

theorem ext_blk {W W' : World} {g : Nat} {T : TypeId} {cs : Array Value} (x : Ext W W') (h : Blk W g T cs) : Blk W' g T cs := h.below x.out h.lt
theorem arr2 {W : World} {g : Nat} {T : TypeId} {a b : Value} (h : Blk W g T #[a, b]) : W.cell? ⟨g, 0, none⟩ = some a ∧ W.cell? ⟨g, 1, none⟩ = some b ∧ W.frozen? ⟨g, 0, none⟩ = false ∧ W.frozen? ⟨g, 1, none⟩ = false :=
  ⟨h.cell 0, h.cell 1, h.frozen 0, h.frozen 1⟩
theorem start_pair (w : World) (x y z : Array Value) (T : TypeId) : ∃ W, ((w.alloc (.cells x T)).alloc (.cells y T)).alloc (.cells z T) = W ∧ Blk W w.heap.size T x ∧ Blk W (w.heap.size + 1) T y ∧ Blk W (w.heap.size + 1 + 1) T z ∧ Ext w W := by
  refine ⟨_, rfl, ((Blk.new w T x).alloc _).alloc _, ?_, ?_, (((Ext.refl w).alloc _).alloc _).alloc _⟩
  · have := (Blk.new (w.alloc (.cells x T)) T y).alloc (.cells z T)
    simpa using this
  · have := Blk.new ((w.alloc (.cells x T)).alloc (.cells y T)) T z
    simpa using this

end Go.Proofs.Ytaibpldolbemfaa

/- The document's hash, walked: Eight, Bytes, number. -/
namespace Go.Proofs.Ytaibpldolbemfaa
set_option linter.unusedVariables false
open Go.RowKit Go.Shelf

set_option maxRecDepth 100000 in
set_option maxHeartbeats 1000000 in
theorem Eight_any (n : Nat) (w : World) :
    Calls Try.prog 82 #[.int .u64 n] w fun e w' => ∃ v, e = .returned v ∧ w'.ownsRow w.heap.size 5 1 v 8 (bv (be n 8)) ∧ Ext w w' := by
  obtain ⟨i0, hi, hz0, hz1, hz2⟩ := info_parts Try.infoU8
  go_enter Try.func82, Try.ntmps82
  go_wp2
  go_loopg [3, 4] 8 (fun m s3 s4 wr => ∃ j : Nat, j + m = 8 ∧ s4 = .int .i64 ((7 : Int) - j) ∧ wr.ownsRow w.heap.size 5 1 s3 (beN n 8 j).length (bv (beN n 8 j)) ∧ Below w.heap.size w wr)
  case atStart => exact ⟨0, rfl, int_congr (by omega), World.ownsRow_nil _ _ _ _, Below.refl _ _⟩
  case round =>
    obtain ⟨j, hj, rfl, ho, hB⟩ := hrel
    by_cases h : j < 8
    · obtain ⟨i, hij⟩ : ∃ i : Nat, (7 : Int) - j = i := ⟨7 - j, by omega⟩
      rw [hij]
      have hi7 : (i : Int) ≤ 7 := by omega
      obtain ⟨q, hq⟩ : ∃ q, q = n / 2 ^ (8 * i) := ⟨_, rfl⟩
      have k1 : (n : Int) / 2 ^ (8 * i) = (q : Int) := by rw [hq]; simp
      obtain ⟨r, hr⟩ : ∃ r, r = q % 256 := ⟨_, rfl⟩
      have k2 : IntKind.u8.wrap (q : Int) = (r : Int) := by rw [IntKind.wrap_u8, hr]; omega
      have hrb : r = n / 2 ^ (8 * (8 - 1 - j)) % 256 := by rw [hr, hq]; congr 4; omega
      have HR := Lib.hid hrb
      have HJ := Lib.hid hj
      have HI := Lib.hid hij
      have hlen : (beN n 8 j).length ≤ 8 := by rw [beN_length]; omega
      have HLN := Lib.hid hlen
      have HB := Lib.hid hB
      clear hq hr hrb hj hij hlen hB
      go_wp2_with (at_builtin; refine wpList_append_own _ rfl (.tmp 9) (.tmp 16) 23 rfl w.heap.size 5 i0 (.int .u8 0) 1 1 Try.underlying23 hi hz0 hz1 hz2 rfl (by decide) _ _ _ rfl (ho.alloc _) ⟨wr.heap.size, 0, none⟩ 1 1 [.int .u8 (r : Int)] rfl rfl (cell_one_new _ _ _) (by simp [Value.oneCell']) (by have := HLN.out; simp only [maxLen]; omega) (by have := HLN.out; omega) (by have := HB.out.size; simp; omega) ?_; intro v' w1 hown1 hg1 _)
      have B1 : Hid (Below w.heap.size w w1) := Lib.hid ((HB.out.alloc HB.out.size _).grown hg1 (by have := HB.out.size; simp; omega) (own_ge ho))
      have O1 : Hid (w1.ownsRow w.heap.size 5 1 v' (beN n 8 (j + 1)).length (bv (beN n 8 (j + 1)))) := by
        show World.ownsRow _ _ _ _ _ _ _
        rw [beN_succ, List.length_append, bv_append, ← HR.out]
        exact hown1
      clear hown1 hg1 ho
      have hij := HI.out
      have hj := HJ.out
      go_wp2
      go_roundg (gk - 1)
      case measure => omega
      case rel => exact ⟨j + 1, by omega, int_congr (by omega), O1.out, B1.out⟩
    · obtain rfl : j = 8 := by omega
      have O := Lib.hid ho
      have HB := Lib.hid hB
      clear ho hB hj hi hz0 hz1 hz2
      go_wp2
      go_ret
      exact ⟨_, rfl, O.out, HB.out⟩

/-- The number of eight bytes. -/
def num8 (l : List Nat) : Nat := l.foldl (fun n b => n * 256 + b) 0
theorem num8_snoc (l : List Nat) (b : Nat) : num8 (l ++ [b]) = num8 l * 256 + b := by simp [num8]
theorem num8_aux (l : List Nat) : ∀ n, (∀ x ∈ l, x < 256) → l.foldl (fun n b => n * 256 + b) n < (n + 1) * 256 ^ l.length := by
  induction l with
  | nil => intro n _; simp
  | cons b l ih =>
    intro n h
    have h1 := ih (n * 256 + b) fun x hx => h x (List.mem_cons_of_mem _ hx)
    have h2 := h b (List.mem_cons_self ..)
    rw [List.foldl_cons, List.length_cons, Nat.pow_succ]
    refine Nat.lt_of_lt_of_le h1 ?_
    rw [Nat.mul_comm (256 ^ l.length) 256, ← Nat.mul_assoc]
    exact Nat.mul_le_mul_right _ (by omega)
theorem num8_lt (l : List Nat) (h : ∀ x ∈ l, x < 256) : num8 l < 256 ^ l.length := by
  have := num8_aux l 0 h
  rwa [Nat.zero_add, Nat.one_mul] at this

theorem own_ext {w w' : World} {base : Nat} {e : TypeId} {size n : Nat} {v : Value} {xs : List Value} (h : w.ownsRow base e size v n xs) (x : Ext w w') : w'.ownsRow base e size v n xs := by
  refine ⟨h.1, ?_⟩
  rcases h.2 with h0 | ⟨g, cap, cur, e1, hb, hg, hc⟩
  · exact .inl h0
  · exact .inr ⟨g, cap, cur, e1, hb, (x.out.block g (Array.getElem?_eq_some_iff.1 hg).1).trans hg, hc⟩
theorem own_base {w : World} {base base' : Nat} {e : TypeId} {size n : Nat} {v : Value} {xs : List Value} (h : w.ownsRow base e size v n xs) (hb : base' ≤ base) : w.ownsRow base' e size v n xs := by
  refine ⟨h.1, ?_⟩
  rcases h.2 with h0 | ⟨g, cap, cur, e1, hb', hg⟩
  · exact .inl h0
  · exact .inr ⟨g, cap, cur, e1, Nat.le_trans hb hb', hg⟩

end Go.Proofs.Ytaibpldolbemfaa

/- Shares, walked: id, mapped, right, Ids, Right, below. -/
namespace Go.Proofs.Ytaibpldolbemfaa
set_option linter.unusedVariables false
open Go.RowKit Go.Shelf Go.Maps

theorem Try.infoI64 : (Try.prog.info? 3).map (fun i => (i.zero, i.size, i.bytes)) = some (some (.int .i64 0), 1, 8) := by kernel_rfl
theorem Try.infoSh : (Try.prog.info? 43).map (fun i => (i.zero, i.size, i.bytes)) = some (some (.agg #[.int .i64 0, .int .u64 0]), 2, 16) := by kernel_rfl

/-- A literal of no elements. -/
theorem own_empty (w : World) (base g : Nat) (hg : g = w.heap.size) (hb : base ≤ g) (e : TypeId) (size : Nat) : (w.alloc (.cells #[] e)).ownsRow base e size (.slice (some ⟨g, 0, none⟩) 0 0) 0 [] := by
  subst hg
  exact ⟨by simp, .inr ⟨w.heap.size, 0, #[], rfl, hb, heap_alloc_new w _, Nat.le_refl _, by simp [maxLen], by simp, by simp⟩⟩
theorem cell_two_new (w : World) (x y : Value) (t : TypeId) : ∀ j u, [x, y][j]? = some u → (w.alloc (.cells #[x, y] t)).cell? ((⟨w.heap.size, 0, none⟩ : Addr).add j) = some u := by
  intro j u hj
  match j, hj with
  | 0, hj => simp at hj; subst hj; simp [Addr.add]
  | 1, hj => simp at hj; subst hj; simp [Addr.add]
theorem own_slice2 {w : World} {base : Nat} {e : TypeId} {n size : Nat} {v : Value} {xs : List Value} (h : w.ownsRow base e size v n xs) : ∃ A c, v = .slice A n c ∧ n ≤ c ∧ Reads w w.heap.size size A n xs := by
  rcases h.2 with ⟨rfl, h0⟩ | ⟨g, cap, cur, rfl, _, _, hc⟩
  · exact ⟨none, 0, by rw [h0], by omega, Reads.of_own (c := 0) (by rw [h0] at h ⊢; exact h)⟩
  · exact ⟨_, cap, rfl, hc.1, Reads.of_own h⟩

theorem ext_grown {w W w2 : World} {e : TypeId} {size n : Nat} {v : Value} {xs : List Value} (hx : Ext w W) (ho : W.ownsRow w.heap.size e size v n xs) (hg : W.grownBy w2 v.ownBlock) : Ext w w2 :=
  Ext.of (hx.out.grown hg hx.size (own_ge ho))

theorem id_any (x : Int) (n : Nat) (w : World) : Calls Try.prog 46 #[.agg #[.int .i64 x, .int .u64 (n : Int)]] w fun e w' => e = .returned (.int .i64 x) ∧ Ext w w' := by
  go_enter Try.func46, Try.ntmps46
  go_wp2
  go_ret
  exact ⟨rfl, (Ext.refl w).alloc _⟩

set_option maxRecDepth 100000 in
set_option maxHeartbeats 1000000 in
theorem mapI_any (l : List (Int × Nat)) (A : Option Addr) (c : Nat) (hn : l.length ≤ 1099511627776) (w : World) (hr : Reads w w.heap.size 2 A l.length (sv l)) :
    Calls Try.prog 45 #[.slice A l.length c, .func (.func 46) #[] #[]] w fun e w' => ∃ A' c', e = .returned (.slice A' l.length c') ∧ l.length ≤ c' ∧ Reads w' w'.heap.size 1 A' l.length (iv (l.map (·.1))) ∧ Ext w w' := by
  obtain ⟨i0, hi, hz0, hz1, hz2⟩ := info_parts Try.infoI64
  have hr0 : Hid (Reads w w.heap.size 2 A l.length (sv l)) := Lib.hid hr
  have HN := Lib.hid hn
  clear hr hn
  go_enter Try.func45, Try.ntmps45
  go_wp2
  go_loopg [5, 11] l.length (fun m s5 s11 wr => ∃ j : Nat, j + m = l.length ∧ s11 = .int .i64 j ∧ wr.ownsRow w.heap.size 3 1 s5 (l.take j).length (iv ((l.take j).map (·.1))) ∧ Ext w wr)
  case atStart => exact ⟨0, by omega, rfl, own_empty w _ _ rfl (Nat.le_refl _) _ _, (Ext.refl w).alloc _⟩
  case round =>
    obtain ⟨j, hj, rfl, hown, hx⟩ := hrel
    by_cases h : j < l.length
    · obtain ⟨s, hs⟩ : ∃ s, l[j]? = some s := ⟨_, List.getElem?_eq_getElem h⟩
      obtain ⟨ad, rfl, hlt, q0, q1⟩ := reads_share (hr0.out.below hx.out) hs
      have e1 : l.take (j + 1) = l.take j ++ [s] := by rw [List.take_add_one, hs]; rfl
      have hjb : (j : Int) ≤ 1099511627776 := by have := HN.out; omega
      have ci := fun W => id_any s.1 s.2 W
      have HE := Lib.hid e1
      have HX := Lib.hid hx
      have HJ := Lib.hid hj
      clear e1 hx hj hs
      go_wp2_with (first
        | (go_at_call 46; refine (ci _).mono ?_; clear ci; rintro e w1 ⟨rfl, x1⟩; have O1 := own_ext (hown.alloc _) x1; have X1 := (HX.out.alloc _).trans x1)
        | (at_builtin; refine wpList_append_own _ rfl (.tmp 15) (.tmp 19) 32 rfl w.heap.size 3 i0 (.int .i64 0) 1 8 Try.underlying32 hi hz0 hz1 hz2 rfl (by decide) _ _ _ rfl (O1.alloc _) ⟨w1.heap.size, 0, none⟩ 1 1 [.int .i64 s.1] rfl rfl (cell_one_new _ _ _) (by simp [Value.oneCell']) (by have := HN.out; have := HJ.out; simp only [maxLen, List.length_take]; omega) (by have := HN.out; simp only [List.length_take]; omega) (by have := X1.size; simp; omega) ?_; intro v2 w2 hown2 hg2 _))
      have X2 := ext_grown (X1.alloc _) (O1.alloc _) hg2
      have O2 : Hid (w2.ownsRow w.heap.size 3 1 v2 (l.take (j + 1)).length (iv ((l.take (j + 1)).map (·.1)))) := by
        show World.ownsRow _ _ _ _ _ _ _
        rw [HE.out, List.length_append, List.map_append, iv_append]
        exact hown2
      clear hown2 hg2 O1 hown
      have hj := HJ.out
      go_wp2
      go_roundg (gk - 1)
      case measure => omega
      case rel => exact ⟨j + 1, by omega, int_congr (by omega), O2.out, X2⟩
    · obtain rfl : j = l.length := by omega
      rw [List.take_length] at hown
      obtain ⟨A', c', rfl, hc', hr'⟩ := own_slice hown
      have HR := Lib.hid hr'
      have HX := Lib.hid hx
      clear hr' hx hown hj h
      go_wp2
      go_ret
      exact ⟨A', c', rfl, hc', HR.out, HX.out⟩

set_option maxRecDepth 100000 in
set_option maxHeartbeats 1000000 in
theorem Ids_any (l : List (Int × Nat)) (A : Option Addr) (c : Nat) (hn : l.length ≤ 1099511627776) (w : World) (hr : Reads w w.heap.size 2 A l.length (sv l)) :
    Calls Try.prog 25 #[.slice A l.length c] w fun e w' => ∃ A' c', e = .returned (.slice A' l.length c') ∧ l.length ≤ c' ∧ Reads w' w'.heap.size 1 A' l.length (iv (l.map (·.1))) ∧ Ext w w' := by
  obtain ⟨i0, hi, hz0, hz1, hz2⟩ := info_parts Try.infoI64
  have hr0 : Hid (Reads w w.heap.size 2 A l.length (sv l)) := Lib.hid hr
  have HN := Lib.hid hn
  clear hr hn
  go_enter Try.func25, Try.ntmps25
  go_wp2
  go_loopg [3, 4] l.length (fun m s3 s4 wr => ∃ j : Nat, j + m = l.length ∧ s4 = .int .i64 j ∧ wr.ownsRow w.heap.size 3 1 s3 (l.take j).length (iv ((l.take j).map (·.1))) ∧ Ext w wr)
  case atStart => exact ⟨0, by omega, rfl, own_empty w _ _ rfl (Nat.le_refl _) _ _, (Ext.refl w).alloc _⟩
  case round =>
    obtain ⟨j, hj, rfl, hown, hx⟩ := hrel
    by_cases h : j < l.length
    · obtain ⟨s, hs⟩ : ∃ s, l[j]? = some s := ⟨_, List.getElem?_eq_getElem h⟩
      obtain ⟨ad, rfl, hlt, q0, q1⟩ := reads_share (hr0.out.below hx.out) hs
      have e1 : l.take (j + 1) = l.take j ++ [s] := by rw [List.take_add_one, hs]; rfl
      have hjb : (j : Int) ≤ 1099511627776 := by have := HN.out; omega
      have HE := Lib.hid e1
      have HX := Lib.hid hx
      have HJ := Lib.hid hj
      clear e1 hx hj hs
      go_wp2_with (at_builtin; refine wpList_append_own _ rfl (.tmp 12) (.tmp 18) 32 rfl w.heap.size 3 i0 (.int .i64 0) 1 8 Try.underlying32 hi hz0 hz1 hz2 rfl (by decide) _ _ _ rfl (hown.alloc _) ⟨wr.heap.size, 0, none⟩ 1 1 [.int .i64 s.1] rfl rfl (cell_one_new _ _ _) (by simp [Value.oneCell']) (by have := HN.out; have := HJ.out; simp only [maxLen, List.length_take]; omega) (by have := HN.out; simp only [List.length_take]; omega) (by have := HX.out.size; simp; omega) ?_; intro v2 w2 hown2 hg2 _)
      have X2 := ext_grown (HX.out.alloc _) (hown.alloc _) hg2
      have O2 : Hid (w2.ownsRow w.heap.size 3 1 v2 (l.take (j + 1)).length (iv ((l.take (j + 1)).map (·.1)))) := by
        show World.ownsRow _ _ _ _ _ _ _
        rw [HE.out, List.length_append, List.map_append, iv_append]
        exact hown2
      clear hown2 hg2 hown
      have hj := HJ.out
      go_wp2
      go_roundg (gk - 1)
      case measure => omega
      case rel => exact ⟨j + 1, by omega, int_congr (by omega), O2.out, X2⟩
    · obtain rfl : j = l.length := by omega
      rw [List.take_length] at hown
      obtain ⟨A', c', rfl, hc', hr'⟩ := own_slice hown
      have HR := Lib.hid hr'
      have HX := Lib.hid hx
      clear hr' hx hown hj h
      go_wp2
      go_ret
      exact ⟨A', c', rfl, hc', HR.out, HX.out⟩

theorem wf_i64 {x : Int} (h : (Lit.int .i64 x).wf = true) : -9223372036854775808 ≤ x ∧ x ≤ 9223372036854775807 := by
  simp [Lit.wf, IntKind.min, IntKind.max, IntKind.signed, IntKind.bits] at h
  omega
theorem dec_ge {x : Int} (h : 1152921504606845789 ≤ x) : decide (x ≥ 1152921504606845789) = true := by simpa using h
theorem dec_nge {x : Int} (h : x < 1152921504606845789) : decide (1152921504606845789 ≤ x) = false := by simp; omega

set_option maxRecDepth 100000 in
set_option maxHeartbeats 1000000 in
theorem right_any (l : List Int) (hw : ∀ i ∈ l, (Lit.int .i64 i).wf = true) (A : Option Addr) (c : Nat) (hn : l.length ≤ 1099511627776) (w : World) (hr : Reads w w.heap.size 1 A l.length (iv l)) :
    Calls Try.prog 50 #[.slice A l.length c] w fun e w' => e = .returned (.bool (rightB l)) ∧ Ext w w' := by
  have hmm := @run_makeMap Try.prog
  have hr0 : Hid (Reads w w.heap.size 1 A l.length (iv l)) := Lib.hid hr
  have HN := Lib.hid hn
  have HW := Lib.hid hw
  clear hr hn hw
  go_enter Try.func50, Try.ntmps50
  go_wp2
  go_loopg [9] l.length (fun m s9 wr => ∃ j : Nat, j + m = l.length ∧ s9 = .int .i64 j ∧ SetIs wr w.heap.size (l.take j) ∧ okP (l.take j) ∧ Ext w wr)
  case atStart => exact ⟨0, by omega, rfl, SetIs.new w, okP_nil, (Ext.refl w).alloc _⟩
  case round =>
    obtain ⟨j, hj, rfl, hset, hok, hx⟩ := hrel
    by_cases h : j < l.length
    · obtain ⟨x, hs⟩ : ∃ s, l[j]? = some s := ⟨_, List.getElem?_eq_getElem h⟩
      obtain ⟨ad, rfl, q0⟩ := reads_id (hr0.out.below hx.out) hs
      have hwx := HW.out x (List.mem_of_getElem? hs)
      have hst := okP_take_succ hs
      have hjb : (j : Int) ≤ 1099511627776 := by have := HN.out; omega
      have hlk := SetIs.look hset x hwx
      have e1 : l.take (j + 1) = l.take j ++ [x] := by rw [List.take_add_one, hs]; rfl
      have HE := Lib.hid e1
      have HX := Lib.hid hx
      have HJ := Lib.hid hj
      have HO := Lib.hid hok
      have HT := Lib.hid hst
      have HS := Lib.hid hset
      have HWX := Lib.hid hwx
      clear hx hj hs hok hst e1 hset hwx
      by_cases h1 : x < 1
      · have k : rightB l = false := rightB_not (okP_not (k := j + 1) fun hp => by have := (HT.out.1 hp).2.1; omega)
        clear hlk
        go_wp2
        go_ret
        first | exact ⟨ret_bool k.symm, HX.out⟩ | exact ⟨rfl, HX.out⟩
      · by_cases h2 : 1152921504606845789 ≤ x
        · have k : rightB l = false := rightB_not (okP_not (k := j + 1) fun hp => by have := (HT.out.1 hp).2.2.1; omega)
          clear hlk
          have d2 := dec_ge h2
          go_wp2
          go_ret
          first | exact ⟨ret_bool k.symm, HX.out⟩ | exact ⟨rfl, HX.out⟩
        · have d2 := dec_nge (Int.not_le.1 h2)
          by_cases h3 : x ∈ l.take j
          · have k : rightB l = false := rightB_not (okP_not (k := j + 1) fun hp => (HT.out.1 hp).2.2.2 h3)
            rw [decide_eq_true h3] at hlk
            clear h3 h2
            go_wp2
            go_ret
            first | exact ⟨ret_bool k.symm, HX.out⟩ | exact ⟨rfl, HX.out⟩
          · rw [decide_eq_false h3] at hlk
            have hok' : Hid (okP (l.take (j + 1))) := HT.out.2 ⟨HO.out, by omega, by omega, h3⟩
            clear h3 h2
            go_wp2_with (at_mapUpdate; refine wpList_mapUpdate_own _ rfl _ _ _ 78 rfl 3 4 keyInt Try.underlying78 _ w.heap.size _ _ rfl HS.out (by have := HN.out; have := HJ.out; simp only [maxLen, List.length_take]; omega) _ _ _ rfl rfl (keyOf_int_mk Try.underlying3 HWX.out) tt [] (plainElem_bool Try.underlying4 true) ?_; intro w1 hown1 hgrow1)
            have S1 : Hid (SetIs w1 w.heap.size (l.take (j + 1))) := by
              show SetIs _ _ _
              rw [HE.out]
              exact SetIs.put_ hown1
            have X1 : Ext w w1 := Ext.of (HX.out.out.grown hgrow1 HX.out.size (fun k hk => by cases hk; exact Nat.le_refl _))
            clear hown1 hgrow1
            have hj := HJ.out
            go_wp2
            go_roundg (gk - 1)
            case measure => omega
            case rel => exact ⟨j + 1, by omega, int_congr (by omega), S1.out, hok'.out, X1⟩
    · obtain rfl : j = l.length := by omega
      rw [List.take_length] at hok
      have HX := Lib.hid hx
      have HS := Lib.hid hset
      have HO := Lib.hid hok
      clear hx hset hok hj
      by_cases h1 : 0 < l.length
      · have d1 : (0 : Int) < (l.length : Int) := by omega
        by_cases h2 : l.length ≤ 7
        · have k : rightB l = true := (rightB_iff l).2 ⟨HO.out, h1, h2⟩
          have d2 : (l.length : Int) ≤ 7 := by omega
          go_wp2
          go_ret
          first | exact ⟨ret_bool k.symm, HX.out⟩ | exact ⟨rfl, HX.out⟩
        · have k : rightB l = false := by unfold rightB; simp [h2]
          have d2 : ¬ (l.length : Int) ≤ 7 := by omega
          go_wp2
          go_ret
          first | exact ⟨ret_bool k.symm, HX.out⟩ | exact ⟨rfl, HX.out⟩
      · have k : rightB l = false := by unfold rightB; simp [h1]
        have d1 : ¬ (0 : Int) < (l.length : Int) := by omega
        go_wp2
        go_ret
        first | exact ⟨ret_bool k.symm, HX.out⟩ | exact ⟨rfl, HX.out⟩

set_option maxRecDepth 100000 in
set_option maxHeartbeats 2000000 in
theorem Right_any (l : List Int) (A : Option Addr) (c : Nat) (hn : l.length ≤ 1099511627776) (w : World) (hr : Reads w w.heap.size 1 A l.length (iv l)) :
    Calls Try.prog 41 #[.slice A l.length c] w fun e w' => e = .returned (.bool (rightB l)) ∧ Ext w w' := by
  have hr0 : Hid (Reads w w.heap.size 1 A l.length (iv l)) := Lib.hid hr
  have HN := Lib.hid hn
  clear hr hn
  by_cases h0 : l.length < 1
  · have k : rightB l = false := by unfold rightB; simp; omega
    rw [k]
    go_enter Try.func41, Try.ntmps41
    go_wp2
    go_ret
    exact ⟨rfl, Ext.refl w⟩
  by_cases h7 : 7 < l.length
  · have k : rightB l = false := by unfold rightB; simp; omega
    rw [k]
    go_enter Try.func41, Try.ntmps41
    go_wp2
    go_ret
    exact ⟨rfl, Ext.refl w⟩
  have hj8 : ∀ j : Nat, j < l.length → (j : Int) ≤ 7 := fun j hj => by omega
  have HJ8 := Lib.hid hj8
  have H0 := Lib.hid h0
  have H7 := Lib.hid h7
  have h0' : ¬ (l.length : Int) < 1 := by omega
  have h7' : ¬ (7 : Int) < (l.length : Int) := by omega
  clear hj8 h0 h7
  go_enter Try.func41, Try.ntmps41
  go_wp2
  clear h0' h7'
  go_loopg [3] l.length (fun m s3 wr => ∃ j : Nat, j + m = l.length ∧ s3 = .int .i64 j ∧ okP (l.take j) ∧ Ext w wr)
  case atStart => exact ⟨0, by omega, rfl, okP_nil, Ext.refl w⟩
  case round =>
    obtain ⟨j, hj, rfl, hok, hx⟩ := hrel
    by_cases h : j < l.length
    · obtain ⟨x, hs⟩ : ∃ s, l[j]? = some s := ⟨_, List.getElem?_eq_getElem h⟩
      obtain ⟨ad, rfl, q0⟩ := reads_id (hr0.out.below hx.out) hs
      have hst := okP_take_succ hs
      have hjb := HJ8.out j h
      have HX := Lib.hid hx
      have HJ := Lib.hid hj
      have HO := Lib.hid hok
      have HT := Lib.hid hst
      have HXS := Lib.hid hs
      clear hx hj hok hst hs
      by_cases h1 : x < 1
      · have k : rightB l = false := rightB_not (okP_not (k := j + 1) fun hp => by have := (HT.out.1 hp).2.1; omega)
        go_wp2
        go_ret
        first | exact ⟨ret_bool k.symm, HX.out⟩ | exact ⟨rfl, HX.out⟩
      · by_cases h2 : 1152921504606845789 ≤ x
        · have k : rightB l = false := rightB_not (okP_not (k := j + 1) fun hp => by have := (HT.out.1 hp).2.2.1; omega)
          have d2 := dec_ge h2
          go_wp2
          go_ret
          first | exact ⟨ret_bool k.symm, HX.out⟩ | exact ⟨rfl, HX.out⟩
        · have d2 := dec_nge (Int.not_le.1 h2)
          have HI : Hid (1 ≤ x ∧ x < 1152921504606845789) := Lib.hid ⟨by omega, by omega⟩
          clear h2
          go_wp2
          clear d2 h1
          obtain ⟨G, hG⟩ : ∃ G, G = gk - 1 := ⟨_, rfl⟩
          have HG := Lib.hid hG
          clear hG
          go_loopg [4] j (fun m s4 wq => ∃ i : Nat, i + m = j ∧ s4 = .int .i64 i ∧ x ∉ l.take i ∧ Ext w wq)
          case atStart => exact ⟨0, by omega, rfl, by simp, HX.out⟩
          case round =>
            obtain ⟨i, hi, rfl, hni, hxq⟩ := hrel
            have HXQ := Lib.hid hxq
            have HIJ := Lib.hid hi
            have HNI := Lib.hid hni
            by_cases h' : i < j
            · obtain ⟨y, hy⟩ : ∃ s, l[i]? = some s := ⟨_, List.getElem?_eq_getElem (by omega)⟩
              obtain ⟨ad', e', q2⟩ := reads_id (hr0.out.below hxq.out) hy
              cases e'
              obtain ⟨ad', e', q3⟩ := reads_id (hr0.out.below hxq.out) HXS.out
              cases e'
              have q2' := fun n : Nat => show (wr.drewN n).cell? _ = _ from q2
              have q3' := fun n : Nat => show (wr.drewN n).cell? _ = _ from q3
              have hil : (i : Int) < l.length := by omega
              have e1 : l.take (i + 1) = l.take i ++ [y] := by rw [List.take_add_one, hy]; rfl
              have HE := Lib.hid e1
              have HYM := Lib.hid (List.mem_take_iff_getElem.2 ⟨i, by omega, by have := List.getElem?_eq_some_iff.1 hy; exact this.2⟩ : y ∈ l.take j)
              clear hxq hi hni hy e1
              by_cases h5 : y = x
              · have k : rightB l = false := rightB_not (okP_not (k := j + 1) fun hp => (HT.out.1 hp).2.2.2 (h5 ▸ HYM.out))
                have d1 : (y == x) = true := by simpa using h5
                go_wp2
                go_region
                all_goals go_wp2
                all_goals go_ret
                all_goals first | exact ⟨ret_bool k.symm, HXQ.out.drew⟩ | exact ⟨rfl, HXQ.out.drew⟩
              · have d1 : (y == x) = false := by simpa using h5
                have hni' : Hid (x ∉ l.take (i + 1)) := by
                  show _ ∉ _
                  rw [HE.out, List.mem_append, List.mem_singleton]
                  rintro (h6 | h6)
                  · exact HNI.out h6
                  · exact h5 h6.symm
                have hi := HIJ.out
                go_wp2
                go_region
                all_goals go_wp2
                all_goals go_roundg (gk - 1)
                case measure => omega
                case rel => exact ⟨i + 1, by omega, int_congr (by omega), hni'.out, HXQ.out.drew⟩
            · obtain rfl : i = j := by omega
              have hok' : Hid (okP (l.take (i + 1))) := HT.out.2 ⟨HO.out, HI.out.1, HI.out.2, hni⟩
              clear hxq hi hni
              go_wp2
              have hj := HJ.out
              have hG := HG.out
              go_roundg G
              case measure => omega
              case rel => exact ⟨i + 1, by omega, int_congr (by omega), hok'.out, HXQ.out⟩
    · obtain rfl : j = l.length := by omega
      rw [List.take_length] at hok
      have k : rightB l = true := (rightB_iff l).2 ⟨hok, by have := H0.out; omega, by have := H7.out; omega⟩
      have HX := Lib.hid hx
      clear hx hok hj
      go_wp2
      go_ret
      first | exact ⟨ret_bool k.symm, HX.out⟩ | exact ⟨rfl, HX.out⟩
end Go.Proofs.Ytaibpldolbemfaa

/- Shares, walked: weights and its closure, at, Weight. -/
namespace Go.Proofs.Ytaibpldolbemfaa
set_option linter.unusedVariables false
open Go.RowKit Go.Shelf Go.Maps
attribute [local irreducible] atN prodN

theorem lt64_R {n : Nat} (h : n < bR) : n < 18446744073709551616 := by unfold bR at h; omega
theorem lt64_Q {n : Nat} (h : n < bQ) : n < 18446744073709551616 := by unfold bQ at h; omega
theorem wrap_id {k : Int} (h : 1 ≤ k ∧ k < 1152921504606845789) : IntKind.u64.wrap k = ((k.toNat : Nat) : Int) := by rw [IntKind.wrap_u64]; omega
theorem prodN_take {l : List Int} {j : Nat} {k : Int} (hk : l[j]? = some k) (id : Int) (x : Nat) : prodN (l.take (j + 1)) id x = if k = id then prodN (l.take j) id x else mulM bR (prodN (l.take j) id x) (subM bR x k.toNat) := by
  rw [List.take_add_one, hk]; exact prodN_snoc _ _ _ _
theorem atN_take {l : List Int} {j : Nat} {k : Int} (hk : l[j]? = some k) (id : Int) (x : Nat) : atN (l.take (j + 1)) id x = if k = id then atN (l.take j) id x else mulM bR (atN (l.take j) id x) (mulM bR (subM bR x k.toNat) (invM bR (subM bR id.toNat k.toNat))) := by
  rw [List.take_add_one, hk]; exact atN_snoc' _ _ _ _

set_option maxRecDepth 100000 in
set_option maxHeartbeats 2000000 in
theorem clo_any (l : List Int) (hl : ∀ i ∈ l, 1 ≤ i ∧ i < 1152921504606845789) (id : Int) (hid : 1 ≤ id ∧ id < 1152921504606845789) (x : Nat) (A : Option Addr) (c : Nat) (g h0 : Nat) (w : World)
    (hp : w.cell? ⟨g, 0, none⟩ = some (.slice A l.length c)) (hq : w.cell? ⟨h0, 0, none⟩ = some (.int .u64 (x : Int))) (hn : l.length ≤ 7) (hr : Reads w w.heap.size 1 A l.length (iv l)) :
    Calls Try.prog 68 #[.int .i64 id, .pointer (some ⟨g, 0, none⟩), .pointer (some ⟨h0, 0, none⟩)] w fun e w' => e = .returned (.int .u64 (atN l id x : Nat)) ∧ Ext w w' := by
  have hr0 : Hid (Reads w w.heap.size 1 A l.length (iv l)) := Lib.hid hr
  have HN := Lib.hid hn
  have HL := Lib.hid hl
  have HQ := Lib.hid hq
  have ki := wrap_id hid
  clear hr hn hl hid
  have hwt : Hid (atN l id x = mulM bR (prodN l id x) (invM bR (prodN l id id.toNat))) := (wtN_eq l id x).symm
  go_enter Try.func68, Try.ntmps68
  go_wp2
  clear hq hp
  go_loopg [5, 6, 13] l.length (fun m s5 s6 s13 wr => ∃ j : Nat, j + m = l.length ∧ s13 = .int .i64 j ∧ s5 = .int .u64 (prodN (l.take j) id x : Nat) ∧ s6 = .int .u64 (prodN (l.take j) id id.toNat : Nat) ∧ Ext w wr)
  case atStart => exact ⟨0, by omega, rfl, by unfold prodN; rfl, by unfold prodN; rfl, Ext.refl w⟩
  case round =>
    obtain ⟨j, hj, rfl, rfl, rfl, hx⟩ := hrel
    have hq := hx.cell HQ.out
    by_cases h : j < l.length
    · obtain ⟨k, hs⟩ : ∃ s, l[j]? = some s := ⟨_, List.getElem?_eq_getElem h⟩
      obtain ⟨ad, rfl, q0⟩ := reads_id (hr0.out.below hx.out) hs
      have kk := wrap_id (HL.out k (List.mem_of_getElem? hs))
      have hjb : (j : Int) ≤ 7 := by have := HN.out; omega
      have e1 := prodN_take hs id x
      have e2 := prodN_take hs id id.toNat
      have b1 := lt64_R (prodN_lt (l.take j) id x)
      have b2 := lt64_R (prodN_lt (l.take j) id id.toNat)
      obtain ⟨kn, hkn⟩ : ∃ n : Nat, n = k.toNat := ⟨_, rfl⟩
      obtain ⟨idn, hidn⟩ : ∃ n : Nat, n = id.toNat := ⟨_, rfl⟩
      obtain ⟨u, hu⟩ : ∃ u, u = prodN (l.take j) id x := ⟨_, rfl⟩
      obtain ⟨v, hv⟩ : ∃ v, v = prodN (l.take j) id id.toNat := ⟨_, rfl⟩
      rw [← hu] at e1 b1 ⊢
      rw [← hv] at e2 b2 ⊢
      rw [← hkn] at kk e1 e2
      rw [← hidn] at ki
      have c1 := fun W => SubRE x kn W
      have c2 := fun W => MulRE u (subM bR x kn) b1 (lt64_R (subM_lt (by decide) _ _)) W
      have c3 := fun W => SubRE idn kn W
      have c4 := fun W => MulRE v (subM bR idn kn) b2 (lt64_R (subM_lt (by decide) _ _)) W
      have HE1 := Lib.hid e1
      have HE2 := Lib.hid e2
      have HX := Lib.hid hx
      have HJ := Lib.hid hj
      have HI := Lib.hid hidn
      clear e1 e2 hx hj hs hu hv hkn hidn b1 b2
      by_cases hk : k = id
      · have d1 : (k != id) = false := by simpa using hk
        rw [if_pos hk] at HE1 HE2
        clear c1 c2 c3 c4
        go_wp2
        have hj := HJ.out
        go_roundg (gk - 1)
        case measure => omega
        case rel => exact ⟨j + 1, by omega, int_congr (by omega), by rw [HE1.out], by rw [HE2.out], HX.out⟩
      · have d1 : (k != id) = true := by simpa using hk
        rw [if_neg hk] at HE1 HE2
        go_wp2_with (first
          | (go_at_call 29; refine (c1 _).mono ?_; clear c1; rintro e w1 ⟨rfl, x1⟩)
          | (go_at_call 28; refine (c2 _).mono ?_; clear c2; rintro e w2 ⟨rfl, x2⟩)
          | (go_at_call 29; refine (c3 _).mono ?_; clear c3; rintro e w3 ⟨rfl, x3⟩)
          | (go_at_call 28; refine (c4 _).mono ?_; clear c4; rintro e w4 ⟨rfl, x4⟩))
        have hj := HJ.out
        have X4 := (((HX.out.trans x1).trans x2).trans x3).trans x4
        go_roundg (gk - 1)
        case measure => omega
        case rel => exact ⟨j + 1, by omega, int_congr (by omega), by rw [HE1.out], by rw [HE2.out, HI.out], X4⟩
    · obtain rfl : j = l.length := by omega
      have b1 := lt64_R (prodN_lt l id x)
      have b2 := lt64_R (mulM_lt (m := bR) (by decide) 0 0)
      rw [List.take_length]
      have c1 := fun W => InvR_any (prodN l id id.toNat) W
      have c2 := fun W => MulRE (prodN l id x) (invM bR (prodN l id id.toNat)) b1 (lt64_R (invM_lt (by decide) _)) W
      obtain ⟨u, hu⟩ : ∃ u, u = prodN l id x := ⟨_, rfl⟩
      obtain ⟨v, hv⟩ : ∃ v, v = prodN l id id.toNat := ⟨_, rfl⟩
      obtain ⟨iv, hiv⟩ : ∃ v, v = invM bR (prodN l id id.toNat) := ⟨_, rfl⟩
      rw [← hiv] at c1 c2 hwt
      rw [← hu] at c2 hwt ⊢
      rw [← hv] at c1 ⊢
      have HX := Lib.hid hx
      clear hx hu hv hiv b1 b2 hj
      go_wp2_with (first
          | (go_at_call 26; refine (c1 _).mono ?_; clear c1; rintro e w1 ⟨rfl, rfl⟩)
          | (go_at_call 28; refine (c2 _).mono ?_; clear c2; rintro e w2 ⟨rfl, x2⟩))
      go_ret
      exact ⟨by rw [hwt.out]; rfl, HX.out.trans x2⟩

theorem makeFunc_run (fn : Fn) (first cap : Array Value) (w : World) : (Instr.makeFunc fn first cap).run Try.prog w = .ok (.func fn first cap) w := rfl
theorem weights_any (A : Option Addr) (n c x : Nat) (w : World) :
    Calls Try.prog 44 #[.slice A n c, .int .u64 (x : Int)] w fun e w' => e = .returned (.func (.func 68) #[] #[.pointer (some ⟨w.heap.size, 0, none⟩), .pointer (some ⟨w.heap.size + 1, 0, none⟩)]) ∧ w'.cell? ⟨w.heap.size, 0, none⟩ = some (.slice A n c) ∧ w'.cell? ⟨w.heap.size + 1, 0, none⟩ = some (.int .u64 (x : Int)) ∧ Ext w w' := by
  have hmf := makeFunc_run
  go_enter Try.func44, Try.ntmps44
  go_wp2
  go_ret
  refine ⟨rfl, ?_, ?_, ((Ext.refl w).alloc _).alloc _⟩
  · exact ((Blk.new w 32 #[.slice A n c]).alloc _).cell 0
  · have := (Blk.new (w.alloc (.cells #[.slice A n c] 32)) 22 #[.int .u64 (x : Int)]).cell 0
    rw [World.size_alloc] at this
    exact this
/-- A call of it in a later world. -/
theorem clo_later (l : List Int) (hl : ∀ i ∈ l, 1 ≤ i ∧ i < 1152921504606845789) (hn : l.length ≤ 7) (id : Int) (hid : 1 ≤ id ∧ id < 1152921504606845789) (x : Nat) (A : Option Addr) (c g : Nat) (w : World)
    (hp : w.cell? ⟨g, 0, none⟩ = some (.slice A l.length c)) (hq : w.cell? ⟨g + 1, 0, none⟩ = some (.int .u64 (x : Int))) (hr : Reads w w.heap.size 1 A l.length (iv l)) (W : World) (hx : Ext w W) :
    Calls Try.prog 68 #[.int .i64 id, .pointer (some ⟨g, 0, none⟩), .pointer (some ⟨g + 1, 0, none⟩)] W fun e w' => e = .returned (.int .u64 (atN l id x : Nat)) ∧ Ext W w' :=
  clo_any l hl id hid x A c g (g + 1) W (hx.cell hp) (hx.cell hq) hn ((hr.below hx.out).more hx.size)

def wgtR (l : List Int) (id : Int) : Value := .tuple #[.int .u64 (wgtV l id : Nat), .int .i64 (wgtE l id : Nat)]
theorem right_range {l : List Int} (h : rightB l = true) : (∀ i ∈ l, 1 ≤ i ∧ i < 1152921504606845789) ∧ l.length ≤ 7 := ⟨((rightB_iff l).1 h).1.1, ((rightB_iff l).1 h).2.2⟩

set_option maxRecDepth 100000 in
set_option maxHeartbeats 2000000 in
theorem Weight_any (l : List Int) (hw : ∀ i ∈ l, (Lit.int .i64 i).wf = true) (id : Int) (A : Option Addr) (c : Nat) (hn : l.length ≤ 1099511627776) (w : World) (hr : Reads w w.heap.size 1 A l.length (iv l)) :
    Calls Try.prog 20 #[.slice A l.length c, .int .i64 id] w fun e w' => e = .returned (wgtR l id) ∧ Ext w w' := by
  have hr0 : Hid (Reads w w.heap.size 1 A l.length (iv l)) := Lib.hid hr
  have cr := fun W (hx : Ext w W) => right_any l hw A c hn W ((hr.below hx.out).more hx.size)
  have HN := Lib.hid hn
  clear hr hn hw
  obtain ⟨rb, hrb⟩ : ∃ b, b = rightB l := ⟨_, rfl⟩
  rw [← hrb] at cr
  have HB := Lib.hid hrb
  clear hrb
  go_enter Try.func20, Try.ntmps20
  go_wp2
  go_loopg [10] l.length (fun m s10 wr => ∃ j : Nat, j + m = l.length ∧ s10 = .int .i64 j ∧ (rb = true → id ∉ l.take j) ∧ Ext w wr)
  case atStart => exact ⟨0, by omega, rfl, by simp, Ext.refl w⟩
  case round =>
    obtain ⟨j, hj, rfl, hni, hx⟩ := hrel
    by_cases h : j < l.length
    · obtain ⟨k, hs⟩ : ∃ s, l[j]? = some s := ⟨_, List.getElem?_eq_getElem h⟩
      obtain ⟨ad, rfl, q0⟩ := reads_id (hr0.out.below hx.out) hs
      have hjb : (j : Int) ≤ 1099511627776 := by have := HN.out; omega
      have e1 : l.take (j + 1) = l.take j ++ [k] := by rw [List.take_add_one, hs]; rfl
      have hm := List.mem_of_getElem? hs
      have HX := Lib.hid hx
      have HJ := Lib.hid hj
      have HI := Lib.hid hni
      have HE := Lib.hid e1
      have cr1 := cr wr hx
      clear hx hj hni e1 hs
      by_cases hk : k = id
      · subst hk
        have d1 : (k == k) = true := by simp
        cases rb with
        | true =>
          obtain ⟨h1, h2⟩ := right_range HB.out.symm
          have e2 : wgtR l k = .tuple #[.int .u64 (atN l k 0 : Nat), .int .i64 0] := by
            unfold wgtR wgtV wgtE; rw [if_pos ⟨HB.out.symm, hm⟩, if_pos ⟨HB.out.symm, hm⟩]; rfl
          have cw := fun W => weights_any (some ad) l.length c 0 W
          have cc := fun (W : World) (hW : Ext w W) g (hp : W.cell? ⟨g, 0, none⟩ = some (.slice (some ad) l.length c)) (hq : W.cell? ⟨g + 1, 0, none⟩ = some (.int .u64 ((0 : Nat) : Int))) => clo_later l h1 h2 k (h1 k hm) 0 (some ad) c g W hp hq ((hr0.out.below hW.out).more hW.size) W (Ext.refl W)
          have HE2 := Lib.hid e2
          clear e2 h1 h2 hm cr
          simp only [Int.cast_ofNat_Int] at cw cc
          go_wp2_with (first
            | (go_at_call 50; refine cr1.mono ?_; clear cr1; rintro e w1 ⟨rfl, x1⟩; have X1 := HX.out.trans x1)
            | (go_at_call 44; refine (cw _).mono ?_; clear cw; rintro e w2 ⟨rfl, p2, q2, x2⟩; have X2 := X1.trans x2)
            | (go_at_call 68; refine (cc _ X2 _ p2 q2).mono ?_; clear cc; rintro e w3 ⟨rfl, x3⟩; have X3 := X2.trans x3))
          go_ret2
          exact ⟨by rw [HE2.out]; rfl, X3⟩
        | false =>
          clear cr
          go_wp2_with (go_at_call 50; refine cr1.mono ?_; clear cr1; rintro e w1 ⟨rfl, x1⟩; have X1 := HX.out.trans x1)
          have hj := HJ.out
          go_roundg (gk - 1)
          case measure => omega
          case rel => exact ⟨j + 1, by omega, int_congr (by omega), by simp, X1⟩
      · have d1 : (k == id) = false := by simpa using hk
        have hni' : Hid (rb = true → id ∉ l.take (j + 1)) := by
          intro hb
          rw [HE.out, List.mem_append, List.mem_singleton]
          rintro (h6 | h6)
          · exact HI.out hb h6
          · exact hk h6.symm
        clear cr cr1 hm
        go_wp2
        have hj := HJ.out
        go_roundg (gk - 1)
        case measure => omega
        case rel => exact ⟨j + 1, by omega, int_congr (by omega), hni'.out, HX.out⟩
    · obtain rfl : j = l.length := by omega
      rw [List.take_length] at hni
      have e2 : wgtR l id = .tuple #[.int .u64 0, .int .i64 1] := by
        have hc : ¬ (rightB l = true ∧ id ∈ l) := fun ⟨h1, h2⟩ => hni (HB.out.trans h1) h2
        unfold wgtR wgtV wgtE; rw [if_neg hc, if_neg hc]; rfl
      have HX := Lib.hid hx
      have HE2 := Lib.hid e2
      clear hx hni e2 cr hj
      go_wp2
      go_ret2
      exact ⟨by rw [HE2.out]; rfl, HX.out⟩

set_option maxRecDepth 100000 in
set_option maxHeartbeats 2000000 in
theorem at_any (l : List Int) (hl : ∀ i ∈ l, 1 ≤ i ∧ i < 1152921504606845789) (id : Int) (hid : 1 ≤ id ∧ id < 1152921504606845789) (x : Nat) (A : Option Addr) (c : Nat) (w : World) (hn : l.length ≤ 7) (hr : Reads w w.heap.size 1 A l.length (iv l)) :
    Calls Try.prog 49 #[.slice A l.length c, .int .i64 id, .int .u64 (x : Int)] w fun e w' => e = .returned (.int .u64 (atN l id x : Nat)) ∧ Ext w w' := by
  have hr0 : Hid (Reads w w.heap.size 1 A l.length (iv l)) := Lib.hid hr
  have HN := Lib.hid hn
  have HL := Lib.hid hl
  have ki := wrap_id hid
  clear hr hn hl hid
  go_enter Try.func49, Try.ntmps49
  go_wp2
  go_loopg [7, 8] l.length (fun m s7 s8 wr => ∃ j : Nat, j + m = l.length ∧ s8 = .int .i64 j ∧ s7 = .int .u64 (atN (l.take j) id x : Nat) ∧ Ext w wr)
  case atStart => exact ⟨0, by omega, rfl, by unfold atN; rfl, Ext.refl w⟩
  case round =>
    obtain ⟨j, hj, rfl, rfl, hx⟩ := hrel
    by_cases h : j < l.length
    · obtain ⟨k, hs⟩ : ∃ s, l[j]? = some s := ⟨_, List.getElem?_eq_getElem h⟩
      obtain ⟨ad, rfl, q0⟩ := reads_id (hr0.out.below hx.out) hs
      have kk := wrap_id (HL.out k (List.mem_of_getElem? hs))
      have hjb : (j : Int) ≤ 7 := by have := HN.out; omega
      have e1 := atN_take hs id x
      have b1 := lt64_R (atN_lt (l.take j) id x)
      obtain ⟨kn, hkn⟩ : ∃ n : Nat, n = k.toNat := ⟨_, rfl⟩
      obtain ⟨idn, hidn⟩ : ∃ n : Nat, n = id.toNat := ⟨_, rfl⟩
      obtain ⟨u, hu⟩ : ∃ u, u = atN (l.take j) id x := ⟨_, rfl⟩
      rw [← hu] at e1 b1 ⊢
      rw [← hkn] at kk e1
      rw [← hidn] at ki e1
      have c1 := fun W => rSubR_any idn kn W
      have c2 := fun W => rInvR_any (subM bR idn kn) (lt64_R (subM_lt (by decide) _ _)) W
      have c3 := fun W => rSubR_any x kn W
      have c4 := fun W => rMulR_any (subM bR x kn) (invM bR (subM bR idn kn)) (lt64_R (invM_lt (by decide) _)) W
      have c5 := fun W => rMulR_any u (mulM bR (subM bR x kn) (invM bR (subM bR idn kn))) (lt64_R (mulM_lt (by decide) _ _)) W
      have HE1 := Lib.hid e1
      have HX := Lib.hid hx
      have HJ := Lib.hid hj
      have HI := Lib.hid hidn
      clear e1 hx hj hs hu hkn hidn b1
      by_cases hk : k = id
      · have d1 : (k == id) = true := by simpa using hk
        rw [if_pos hk] at HE1
        clear c1 c2 c3 c4 c5
        go_wp2
        have hj := HJ.out
        go_roundg (gk - 1)
        case measure => omega
        case rel => exact ⟨j + 1, by omega, int_congr (by omega), by rw [HE1.out], HX.out⟩
      · have d1 : (k == id) = false := by simpa using hk
        rw [if_neg hk] at HE1
        go_wp2_with (first
          | (go_at_call 72; refine (c1 _).mono ?_; clear c1; rintro e w' ⟨rfl, rfl⟩)
          | (go_at_call 71; refine (c2 _).mono ?_; clear c2; rintro e w' ⟨rfl, rfl⟩)
          | (go_at_call 72; refine (c3 _).mono ?_; clear c3; rintro e w' ⟨rfl, rfl⟩)
          | (go_at_call 48; refine (c4 _).mono ?_; clear c4; rintro e w' ⟨rfl, rfl⟩)
          | (go_at_call 48; refine (c5 _).mono ?_; clear c5; rintro e w' ⟨rfl, rfl⟩))
        have hj := HJ.out
        go_roundg (gk - 1)
        case measure => omega
        case rel => exact ⟨j + 1, by omega, int_congr (by omega), by rw [HE1.out], HX.out⟩
    · obtain rfl : j = l.length := by omega
      rw [List.take_length]
      have HX := Lib.hid hx
      clear hx hj
      go_wp2
      go_ret
      exact ⟨rfl, HX.out⟩

set_option maxRecDepth 100000 in
set_option maxHeartbeats 2000000 in
theorem rWeight_any (l : List Int) (id : Int) (A : Option Addr) (c : Nat) (hn : l.length ≤ 1099511627776) (w : World) (hr : Reads w w.heap.size 1 A l.length (iv l)) :
    Calls Try.prog 21 #[.slice A l.length c, .int .i64 id] w fun e w' => e = .returned (wgtR l id) ∧ Ext w w' := by
  have hr0 : Hid (Reads w w.heap.size 1 A l.length (iv l)) := Lib.hid hr
  have HN := Lib.hid hn
  clear hr hn
  go_enter Try.func21, Try.ntmps21
  go_wp2
  go_loopg [6, 7] l.length (fun m s6 s7 wr => ∃ j : Nat, j + m = l.length ∧ s7 = .int .i64 j ∧ s6 = .bool (decide (id ∈ l.take j)) ∧ Ext w wr)
  case atStart => exact ⟨0, by omega, rfl, by simp, Ext.refl w⟩
  case round =>
    obtain ⟨j, hj, rfl, rfl, hx⟩ := hrel
    by_cases h : j < l.length
    · obtain ⟨k, hs⟩ : ∃ s, l[j]? = some s := ⟨_, List.getElem?_eq_getElem h⟩
      obtain ⟨ad, rfl, q0⟩ := reads_id (hr0.out.below hx.out) hs
      have hjb : (j : Int) ≤ 1099511627776 := by have := HN.out; omega
      have e1 : decide (id ∈ l.take (j + 1)) = (decide (id ∈ l.take j) || decide (k = id)) := by
        have e0 : id ∈ l.take (j + 1) ↔ (id ∈ l.take j ∨ k = id) := by
          rw [List.take_add_one, hs]
          show id ∈ l.take j ++ [k] ↔ _
          rw [List.mem_append, List.mem_singleton, eq_comm (a := id)]
        rw [decide_eq_decide.2 e0, Bool.decide_or]
      have HX := Lib.hid hx
      have HJ := Lib.hid hj
      have HE := Lib.hid e1
      clear hx hj e1 hs
      obtain ⟨b, hb⟩ : ∃ b, b = decide (id ∈ l.take j) := ⟨_, rfl⟩
      rw [← hb] at HE ⊢
      clear hb
      cases b with
      | true =>
        go_wp2
        have hj := HJ.out
        go_roundg (gk - 1)
        case measure => omega
        case rel => exact ⟨j + 1, by omega, int_congr (by omega), by rw [HE.out]; simp, HX.out⟩
      | false =>
        by_cases hk : k = id
        · have d1 : (k == id) = true := by simpa using hk
          go_wp2
          have hj := HJ.out
          go_roundg (gk - 1)
          case measure => omega
          case rel => exact ⟨j + 1, by omega, int_congr (by omega), by rw [HE.out]; simp [hk], HX.out⟩
        · have d1 : (k == id) = false := by simpa using hk
          go_wp2
          have hj := HJ.out
          go_roundg (gk - 1)
          case measure => omega
          case rel => exact ⟨j + 1, by omega, int_congr (by omega), by rw [HE.out]; simp [hk], HX.out⟩
    · obtain rfl : j = l.length := by omega
      rw [List.take_length]
      have cr := Right_any l A c HN.out wr ((hr0.out.below hx.out).more hx.size)
      have HX := Lib.hid hx
      clear hj hx
      by_cases hin : id ∈ l
      · rw [decide_eq_true hin]
        cases hrb : rightB l with
        | true =>
          have e2 : wgtR l id = .tuple #[.int .u64 (atN l id 0 : Nat), .int .i64 0] := by
            unfold wgtR wgtV wgtE; rw [if_pos ⟨hrb, hin⟩, if_pos ⟨hrb, hin⟩]; rfl
          obtain ⟨h1, h2⟩ := right_range hrb
          have ca := fun (W : World) (hW : Ext w W) => at_any l h1 id (h1 id hin) 0 A c W h2 ((hr0.out.below hW.out).more hW.size)
          simp only [Int.cast_ofNat_Int] at ca
          have HE2 := Lib.hid e2
          rw [hrb] at cr
          clear e2 h1 h2 hin hrb
          go_wp2_with (first
            | (go_at_call 41; refine cr.mono ?_; clear cr; rintro e w1 ⟨rfl, x1⟩; have X1 := HX.out.trans x1)
            | (go_at_call 49; refine (ca _ X1).mono ?_; clear ca; rintro e w3 ⟨rfl, x3⟩; have X3 := X1.trans x3))
          go_ret2
          exact ⟨by rw [HE2.out]; rfl, X3⟩
        | false =>
          have e2 : wgtR l id = .tuple #[.int .u64 0, .int .i64 1] := by
            have hc : ¬ (rightB l = true ∧ id ∈ l) := fun ⟨h1, h2⟩ => by rw [hrb] at h1; cases h1
            unfold wgtR wgtV wgtE; rw [if_neg hc, if_neg hc]; rfl
          have HE2 := Lib.hid e2
          rw [hrb] at cr
          clear e2 hin hrb
          go_wp2_with (go_at_call 41; refine cr.mono ?_; clear cr; rintro e w1 ⟨rfl, x1⟩; have X1 := HX.out.trans x1)
          go_ret2
          exact ⟨by rw [HE2.out]; rfl, X1⟩
      · rw [decide_eq_false hin]
        have e2 : wgtR l id = .tuple #[.int .u64 0, .int .i64 1] := by
          have hc : ¬ (rightB l = true ∧ id ∈ l) := fun ⟨h1, h2⟩ => hin h2
          unfold wgtR wgtV wgtE; rw [if_neg hc, if_neg hc]; rfl
        have HE2 := Lib.hid e2
        clear e2 hin
        cases hrb : rightB l with
        | true =>
          rw [hrb] at cr
          clear hrb
          go_wp2_with (go_at_call 41; refine cr.mono ?_; clear cr; rintro e w1 ⟨rfl, x1⟩; have X1 := HX.out.trans x1)
          go_ret2
          exact ⟨by rw [HE2.out]; rfl, X1⟩
        | false =>
          rw [hrb] at cr
          clear hrb
          go_wp2_with (go_at_call 41; refine cr.mono ?_; clear cr; rintro e w1 ⟨rfl, x1⟩; have X1 := HX.out.trans x1)
          go_ret2
          exact ⟨by rw [HE2.out]; rfl, X1⟩

/-! ### are the numbers below R, and the ids right? -/
def lowB (l : List (Int × Nat)) : Bool := l.all (fun s => decide (s.2 < bR))
theorem mayB_eq (l : List (Int × Nat)) : mayB l = (lowB l && rightB (l.map (·.1))) := rfl
theorem lowB_not {l : List (Int × Nat)} {s : Int × Nat} (hs : s ∈ l) (h : bR ≤ s.2) : lowB l = false := by
  refine Bool.eq_false_iff.2 fun hc => ?_
  have := List.all_eq_true.1 hc s hs
  simp at this; omega
theorem lowB_take {l : List (Int × Nat)} {j : Nat} {s : Int × Nat} (hs : l[j]? = some s) (h : s.2 < bR) (h0 : lowB (l.take j) = true) : lowB (l.take (j + 1)) = true := by
  rw [List.take_add_one, hs]
  unfold lowB at *
  simp [List.all_append, h0, h]

set_option maxRecDepth 100000 in
set_option maxHeartbeats 2000000 in
theorem below_any (l : List (Int × Nat)) (A : Option Addr) (c : Nat) (hn : l.length ≤ 1099511627776) (w : World) (hr : Reads w w.heap.size 2 A l.length (sv l)) :
    Calls Try.prog 42 #[.slice A l.length c] w fun e w' => e = .returned (.bool (lowB l)) ∧ Ext w w' := by
  have hr0 : Hid (Reads w w.heap.size 2 A l.length (sv l)) := Lib.hid hr
  have HN := Lib.hid hn
  clear hr hn
  go_enter Try.func42, Try.ntmps42
  go_wp2
  go_loopg [3] l.length (fun m s3 wr => ∃ j : Nat, j + m = l.length ∧ s3 = .int .i64 j ∧ lowB (l.take j) = true ∧ Ext w wr)
  case atStart => exact ⟨0, by omega, rfl, rfl, Ext.refl w⟩
  case round =>
    obtain ⟨j, hj, rfl, hok, hx⟩ := hrel
    by_cases h : j < l.length
    · obtain ⟨s, hs⟩ : ∃ s, l[j]? = some s := ⟨_, List.getElem?_eq_getElem h⟩
      obtain ⟨ad, rfl, hlt, q0, q1⟩ := reads_share (hr0.out.below hx.out) hs
      have hjb : (j : Int) ≤ 1099511627776 := by have := HN.out; omega
      have HX := Lib.hid hx
      have HJ := Lib.hid hj
      by_cases h1 : bR ≤ s.2
      · have k := lowB_not (List.mem_of_getElem? hs) h1
        have d1 : decide ((s.2 : Int) ≥ 1152921504606845789) = true := dec_ge (by unfold bR at h1; omega)
        have d2 : (1152921504606845789 : Int) ≤ (s.2 : Int) := by unfold bR at h1; omega
        clear hx hj hok hs h1
        go_wp2
        go_ret
        first | exact ⟨ret_bool k.symm, HX.out⟩ | exact ⟨rfl, HX.out⟩
      · have hok' := Lib.hid (lowB_take hs (by omega) hok)
        have d1 : decide ((1152921504606845789 : Int) ≤ (s.2 : Int)) = false := dec_nge (by unfold bR at h1; omega)
        clear hx hj hok hs h1
        go_wp2
        have hj := HJ.out
        go_roundg (gk - 1)
        case measure => omega
        case rel => exact ⟨j + 1, by omega, int_congr (by omega), hok'.out, HX.out⟩
    · obtain rfl : j = l.length := by omega
      rw [List.take_length] at hok
      have HX := Lib.hid hx
      have HO := Lib.hid hok
      clear hx hok hj
      go_wp2
      go_ret
      exact ⟨ret_bool HO.out.symm, HX.out⟩

set_option maxRecDepth 100000 in
set_option maxHeartbeats 2000000 in
theorem may_any (l : List (Int × Nat)) (hw : idsWf l) (A : Option Addr) (c : Nat) (hn : l.length ≤ 1099511627776) (w : World) (hr : Reads w w.heap.size 2 A l.length (sv l)) :
    Calls Try.prog 38 #[.slice A l.length c] w fun e w' => e = .returned (.bool (mayB l)) ∧ Ext w w' := by
  have hr0 : Hid (Reads w w.heap.size 2 A l.length (sv l)) := Lib.hid hr
  have HN := Lib.hid hn
  have HW := Lib.hid hw
  clear hr hn hw
  go_enter Try.func38, Try.ntmps38
  go_wp2
  go_loopg [7] l.length (fun m s7 wr => ∃ j : Nat, j + m = l.length ∧ s7 = .int .i64 j ∧ lowB (l.take j) = true ∧ Ext w wr)
  case atStart => exact ⟨0, by omega, rfl, rfl, Ext.refl w⟩
  case round =>
    obtain ⟨j, hj, rfl, hok, hx⟩ := hrel
    by_cases h : j < l.length
    · obtain ⟨s, hs⟩ : ∃ s, l[j]? = some s := ⟨_, List.getElem?_eq_getElem h⟩
      obtain ⟨ad, rfl, hlt, q0, q1⟩ := reads_share (hr0.out.below hx.out) hs
      have hjb : (j : Int) ≤ 1099511627776 := by have := HN.out; omega
      have HX := Lib.hid hx
      have HJ := Lib.hid hj
      by_cases h1 : bR ≤ s.2
      · have k : mayB l = false := by rw [mayB_eq, lowB_not (List.mem_of_getElem? hs) h1]; rfl
        have d1 : decide ((s.2 : Int) ≥ 1152921504606845789) = true := dec_ge (by unfold bR at h1; omega)
        have d2 : (1152921504606845789 : Int) ≤ (s.2 : Int) := by unfold bR at h1; omega
        clear hx hj hok hs h1
        go_wp2
        go_ret
        first | exact ⟨ret_bool k.symm, HX.out.alloc _⟩ | exact ⟨rfl, HX.out.alloc _⟩
      · have hok' := Lib.hid (lowB_take hs (by omega) hok)
        have d1 : decide ((1152921504606845789 : Int) ≤ (s.2 : Int)) = false := dec_nge (by unfold bR at h1; omega)
        clear hx hj hok hs h1
        go_wp2
        have hj := HJ.out
        go_roundg (gk - 1)
        case measure => omega
        case rel => exact ⟨j + 1, by omega, int_congr (by omega), hok'.out, HX.out.alloc _⟩
    · obtain rfl : j = l.length := by omega
      rw [List.take_length] at hok
      have k : Hid (mayB l = rightB (l.map (·.1))) := by show _ = _; rw [mayB_eq, hok]; rfl
      have cm := mapI_any l A c HN.out wr ((hr0.out.below hx.out).more hx.size)
      have cr := fun (W : World) A' c' (hr : Reads W W.heap.size 1 A' (l.map (·.1)).length (iv (l.map (·.1)))) => right_any (l.map fun s : Int × Nat => s.1) HW.out A' c' (by rw [List.length_map]; exact HN.out) W hr
      rw [List.length_map] at cr
      have HX := Lib.hid hx
      clear hx hok hj
      go_wp2_with (first
        | (go_at_call 45; refine cm.mono ?_; clear cm; rintro e w1 ⟨A', c', rfl, _, r1, x1⟩)
        | (go_at_call 50; refine (cr _ _ _ r1).mono ?_; clear cr; rintro e w2 ⟨rfl, x2⟩))
      go_ret
      exact ⟨by rw [k.out]; rfl, (HX.out.trans x1).trans x2⟩
end Go.Proofs.Ytaibpldolbemfaa

/- Shares, walked: Join, of the program and of the document. -/
namespace Go.Proofs.Ytaibpldolbemfaa
set_option linter.unusedVariables false
open Go.RowKit Go.Shelf Go.Maps
attribute [local irreducible] atN prodN sumN

def joinR (l : List (Int × Nat)) : Value := .tuple #[.int .u64 (joinV l : Nat), .int .i64 (joinE l : Nat)]
theorem joinR_none : joinR [] = .tuple #[.int .u64 0, .int .i64 50] := rfl
theorem joinR_bad {l : List (Int × Nat)} (h0 : l.length ≠ 0) (h : mayB l = false) : joinR l = .tuple #[.int .u64 0, .int .i64 1] := by
  unfold joinR joinV joinE; rw [if_neg h0, if_neg h0, h]; rfl
theorem joinR_ok {l : List (Int × Nat)} (h0 : l.length ≠ 0) (h : mayB l = true) : joinR l = .tuple #[.int .u64 (sumN (l.map fun s : Int × Nat => s.1) 0 l : Nat), .int .i64 0] := by
  unfold joinR joinV joinE; rw [if_neg h0, if_neg h0, h, joinN_eq]; rfl
theorem may_facts {l : List (Int × Nat)} (h : mayB l = true) : rightB (l.map fun s : Int × Nat => s.1) = true ∧ (∀ s ∈ l, s.2 < bR) ∧ (∀ s ∈ l, 1 ≤ s.1 ∧ s.1 < 1152921504606845789) ∧ l.length ≤ 7 := by
  rw [mayB_eq, Bool.and_eq_true] at h
  obtain ⟨h1, h2⟩ := h
  have h3 := right_range h2
  refine ⟨h2, fun s hs => by simpa using List.all_eq_true.1 h1 s hs, fun s hs => h3.1 _ (List.mem_map.2 ⟨s, hs, rfl⟩), by simpa using h3.2⟩
theorem sumN_take {ids : List Int} {l : List (Int × Nat)} {j : Nat} {s : Int × Nat} (hs : l[j]? = some s) (x : Nat) : sumN ids x (l.take (j + 1)) = addM bR (sumN ids x (l.take j)) (mulM bR s.2 (atN ids s.1 x)) := by
  rw [List.take_add_one, hs]; exact sumN_snoc _ _ _ _
theorem new_share (w : World) (T : TypeId) (x : Int) (n : Nat) : (w.alloc (.cells #[.int .i64 x, .int .u64 (n : Int)] T)).cell? ⟨w.heap.size, 0, none⟩ = some (.int .i64 x) ∧ (w.alloc (.cells #[.int .i64 x, .int .u64 (n : Int)] T)).cell? ⟨w.heap.size, 1, none⟩ = some (.int .u64 (n : Int)) :=
  ⟨(Blk.new w T #[.int .i64 x, .int .u64 (n : Int)]).cell 0, (Blk.new w T #[.int .i64 x, .int .u64 (n : Int)]).cell 1⟩

set_option maxRecDepth 100000 in
set_option maxHeartbeats 2000000 in
theorem Join_any (l : List (Int × Nat)) (hw : idsWf l) (A : Option Addr) (c : Nat) (hn : l.length ≤ 1099511627776) (w : World) (hr : Reads w w.heap.size 2 A l.length (sv l)) :
    Calls Try.prog 18 #[.slice A l.length c] w fun e w' => e = .returned (joinR l) ∧ Ext w w' := by
  by_cases h0 : l.length = 0
  · have k := List.eq_nil_of_length_eq_zero h0
    subst k
    rw [joinR_none]
    clear hr
    go_enter Try.func18, Try.ntmps18
    go_wp2
    go_ret2
    exact ⟨rfl, Ext.refl w⟩
  have d0 : ((l.length : Int) == 0) = false := by rw [beq_eq_false_iff_ne]; omega
  have cm := may_any l hw A c hn w hr
  cases hm : mayB l with
  | false =>
    rw [hm] at cm
    rw [joinR_bad h0 hm]
    clear hr hm h0 hn hw
    go_enter Try.func18, Try.ntmps18
    go_wp2_with (go_at_call 38; refine cm.mono ?_; clear cm; rintro e w1 ⟨rfl, x1⟩)
    go_ret2
    exact ⟨rfl, x1⟩
  | true =>
    rw [hm] at cm
    rw [joinR_ok h0 hm]
    obtain ⟨hri, hlow, hrg, h7⟩ := may_facts hm
    obtain ⟨g1, g2⟩ := right_range hri
    have cp := fun (W : World) (x : Ext w W) => mapI_any l A c hn W ((hr.below x.out).more x.size)
    have cw := fun A' n c' W => weights_any A' n c' 0 W
    obtain ⟨ids, hids⟩ : ∃ ids, ids = l.map fun s : Int × Nat => s.1 := ⟨_, rfl⟩
    have hil : ids.length = l.length := by rw [hids, List.length_map]
    rw [← hids] at g1 g2 hri ⊢
    have cc := fun A' c' g (w3 : World) hp hq hr' id hid W x => clo_later ids g1 g2 id hid 0 A' c' g w3 hp hq hr' W x
    rw [hil] at cc
    simp only [Int.cast_ofNat_Int] at cw cc
    have hr0 : Hid (Reads w w.heap.size 2 A l.length (sv l)) := Lib.hid hr
    have HLOW := Lib.hid hlow
    have HRG := Lib.hid hrg
    have H7 := Lib.hid h7
    have HID := Lib.hid hids
    clear hr hm h0 hn hw hri g1 g2 h7 hlow hrg hids
    go_enter Try.func18, Try.ntmps18
    go_wp2_with (first
      | (go_at_call 38; refine cm.mono ?_; clear cm; rintro e w1 ⟨rfl, x1⟩)
      | (go_at_call 45; refine (cp _ x1).mono ?_; clear cp; rintro e w2 ⟨A', c', rfl, _, r2, x2⟩)
      | (go_at_call 44; refine (cw _ _ _ _).mono ?_; clear cw; rintro e w3 ⟨rfl, p3, q3, x3⟩; have r3 := (r2.below x3.out).more x3.size))
    obtain ⟨g, hg⟩ : ∃ g, g = w2.heap.size := ⟨_, rfl⟩
    rw [← hg] at p3 q3 ⊢
    have X3 := Lib.hid ((x1.trans x2).trans x3)
    rw [show (l.map fun s : Int × Nat => s.1) = ids from HID.out.symm] at r3
    have ck := fun id hid W x => cc A' c' g w3 p3 q3 r3 id hid W x
    clear cc p3 q3 r3 r2 x1 x2 x3 hg d0
    go_loopg [2, 20] l.length (fun m s2 s20 wr => ∃ j : Nat, j + m = l.length ∧ s20 = .int .i64 j ∧ s2 = .int .u64 (sumN ids 0 (l.take j) : Nat) ∧ Ext w3 wr)
    case atStart => exact ⟨0, by omega, rfl, by unfold sumN; rfl, Ext.refl _⟩
    case round =>
      obtain ⟨j, hj, rfl, rfl, hx⟩ := hrel
      by_cases h : j < l.length
      · obtain ⟨s, hs⟩ : ∃ s, l[j]? = some s := ⟨_, List.getElem?_eq_getElem h⟩
        obtain ⟨ad, rfl, hlt, q0, q1⟩ := reads_share (hr0.out.below (X3.out.trans hx).out) hs
        have hmem := List.mem_of_getElem? hs
        have hjb : (j : Int) ≤ 7 := by have := H7.out; omega
        have c1 := fun W x => ck s.1 (HRG.out s hmem) W x
        have c2 := fun W => MulRE s.2 (atN ids s.1 0) (lt64_R (HLOW.out s hmem)) (lt64_R (atN_lt _ _ _)) W
        have c3 := fun W => AddRE (sumN ids 0 (l.take j)) (mulM bR s.2 (atN ids s.1 0)) W
        have e1 := sumN_take (ids := ids) hs 0
        obtain ⟨t, ht⟩ : ∃ t, t = atN ids s.1 0 := ⟨_, rfl⟩
        obtain ⟨u, hu⟩ : ∃ t, t = sumN ids 0 (l.take j) := ⟨_, rfl⟩
        rw [← ht] at c1 c2 c3 e1
        rw [← hu] at c3 e1 ⊢
        have HE := Lib.hid e1
        have HX := Lib.hid hx
        have HJ := Lib.hid hj
        obtain ⟨W1, hW1⟩ : ∃ W1, W1 = wr.alloc (.cells #[.int .i64 s.1, .int .u64 (s.2 : Int)] 43) := ⟨_, rfl⟩
        obtain ⟨k0, k1⟩ := new_share wr 43 s.1 s.2
        rw [← hW1] at k0 k1
        have HW := Lib.hid hW1
        have x4 : Ext w3 W1 := by rw [hW1]; exact hx.alloc _
        clear e1 hx hj hs ht hu hmem hW1
        go_wp2
        rw [← HW.out]
        have i0 := fun i : Later W1 => i.cell k0
        have i1 := fun i : Later W1 => i.cell k1
        refine wp_region_later (by kernel_rfl) (by kernel_rfl) ?_
        repeat (go_big_quiet_step (first
          | (go_at_call 68; exact Later.calls (c1 _ (x4.trans (Later.ext _))))
          | (go_at_call 28; exact Later.calls (c2 _))
          | (go_at_call 27; exact Later.calls (c3 _))))
        refine wpQuiet_nil ?_
        rintro W2 ⟨i, hi⟩
        have x5 : Ext w3 W2 := by rw [hi]; exact x4.trans i.ext
        clear hi i i0 i1 q0 q1 k0 k1
        go_wp2
        have hj := HJ.out
        go_roundg (gk - 1)
        case measure => omega
        case rel => exact ⟨j + 1, by omega, int_congr (by omega), by rw [HE.out], x5⟩
      · obtain rfl : j = l.length := by omega
        rw [List.take_length]
        have HX := Lib.hid hx
        clear hx hj
        go_wp2
        go_ret2
        exact ⟨rfl, X3.out.trans HX.out⟩
end Go.Proofs.Ytaibpldolbemfaa

/- Plain: signing. No program in sight. -/
namespace Go.Proofs.Ytaibpldolbemfaa
set_option linter.unusedVariables false

def secretS : ByteArray := { data := #[115, 101, 99, 114, 101, 116] }
def nonceS : ByteArray := { data := #[110, 111, 110, 99, 101] }
def signS : ByteArray := { data := #[115, 105, 103, 110] }
/-- The number of what is hashed of a tag and parts. -/
def hNum (tag : ByteArray) (ps : List (List Nat)) (m : Nat) : Nat := numM (hSum (coded (strN tag) ps)).1 (hSum (coded (strN tag) ps)).2 m
def someN (tag : ByteArray) (ps : List (List Nat)) : Nat := hNum tag ps (bR - 1) + 1
def chalN (commit pub : Nat) (msg : List Nat) : Nat := hNum signS [be commit 8, be pub 8, msg] bR
def secN (seed : List Nat) : Nat := someN secretS [seed]
def nonceN (s : Nat) (msg : List Nat) : Nat := someN nonceS [be s 8, msg]
def oddN (s : Nat) : Bool := decide (s = 0) || decide (bR ≤ s)
def sgE (s : Nat) (msg : List Nat) : Nat := chalN (powM bQ 4 (nonceN s msg)) (powM bQ 4 s) msg
def sgS (s : Nat) (msg : List Nat) : Nat := addM bR (mulM bR (sgE s msg) s) (nonceN s msg)
def checkN (p : Nat) (msg : List Nat) (E S : Nat) : Nat :=
  if inB p = false then 1 else if bR ≤ E ∨ bR ≤ S then 40 else if chalN (mulM bQ (powM bQ 4 S) (invM bQ (powM bQ p E))) p msg = E then 0 else 40

theorem numM_lt (a b : Nat) {m : Nat} (h : 0 < m) : numM a b m < m := by
  unfold numM; rw [if_neg (by omega)]; exact Nat.mod_lt _ h
theorem hNum_lt (tag : ByteArray) (ps : List (List Nat)) {m : Nat} (h : 0 < m) : hNum tag ps m < m := numM_lt _ _ h
theorem someN_pos (tag : ByteArray) (ps : List (List Nat)) : 1 ≤ someN tag ps := Nat.le_add_left 1 _
theorem someN_lt (tag : ByteArray) (ps : List (List Nat)) : someN tag ps < bR := by
  have := hNum_lt tag ps (m := bR - 1) (by decide)
  unfold someN bR at *; omega
theorem chalN_lt (commit pub : Nat) (msg : List Nat) : chalN commit pub msg < bR := hNum_lt _ _ (by decide)
theorem oddN_some (tag : ByteArray) (ps : List (List Nat)) : oddN (someN tag ps) = false := by
  have h1 := someN_pos tag ps
  have h2 := someN_lt tag ps
  unfold oddN; simp; omega
theorem inv_pow {p : Nat} (h : inB p = true) (E : Nat) (hE : E ≤ bR) : invM bQ (powM bQ p E) = powM bQ p (bR - E) := by
  obtain ⟨h1, h2, h3⟩ := (inB_iff p).1 h
  have hne : powM bQ p E % bQ ≠ 0 := inB_ne (inB_pow h E)
  have e := inv_unique (b := invM bQ (powM bQ p E)) (c := powM bQ p (bR - E)) pr_Q hne (by rw [invM_mul pr_Q hne, powM_add, show E + (bR - E) = bR by omega, h3])
  rwa [Nat.mod_eq_of_lt (invM_lt (by decide) _), Nat.mod_eq_of_lt (powM_lt (by decide) _ _)] at e
/-- What a signature's numbers come back to. -/
theorem commit_back (s k c : Nat) (hc : c ≤ bR) : mulM bQ (powM bQ 4 (addM bR (mulM bR c s) k)) (invM bQ (powM bQ (powM bQ 4 s) c)) = powM bQ 4 k := by
  rw [inv_pow (inB_base s) c hc]
  have e1 : addM bR (mulM bR c s) k = (c * s + k) % bR := by unfold addM mulM; rw [Nat.mod_add_mod]
  rw [e1, base_period, powM_pow, powM_add, ← base_period]
  have e2 : c * s + k + s * (bR - c) = k + bR * s := by
    have : s * (bR - c) + c * s = bR * s := by rw [Nat.mul_comm c s, ← Nat.mul_add, Nat.sub_add_cancel hc, Nat.mul_comm]
    omega
  rw [e2, Nat.add_mul_mod_self_left, base_period]
theorem check_right (s k : Nat) (msg : List Nat) (c : Nat) (hc : c = chalN (powM bQ 4 k) (powM bQ 4 s) msg) : checkN (powM bQ 4 s) msg c (addM bR (mulM bR c s) k) = 0 := by
  have hlt : c < bR := by rw [hc]; exact chalN_lt _ _ _
  unfold checkN
  rw [if_neg (by rw [inB_base]; decide), if_neg (by have := addM_lt' (m := bR) (by decide) (mulM bR c s) k; omega), commit_back s k c (by omega), if_pos hc.symm]
theorem check_sign (s : Nat) (msg : List Nat) : checkN (powM bQ 4 s) msg (sgE s msg) (sgS s msg) = 0 := check_right s _ msg _ rfl
theorem check_nonce (s k : Nat) (msg : List Nat) (c : Nat) (hc : c = chalN (powM bQ 4 k) (powM bQ 4 s) msg) : checkN (powM bQ 4 s) msg c (addM bR k (mulM bR c s)) = 0 := by
  rw [addM_comm]; exact check_right s k msg c hc
theorem sgE_lt (s : Nat) (msg : List Nat) : sgE s msg < bR := chalN_lt _ _ _
theorem sgS_lt (s : Nat) (msg : List Nat) : sgS s msg < bR := addM_lt' (by decide) _ _
theorem pow_eq_iff {x y : Nat} (hx : x < bR) (hy : y < bR) : powM bQ 4 x = powM bQ 4 y ↔ x = y := by
  constructor
  · intro h
    have := base_inj h
    rwa [Nat.mod_eq_of_lt hx, Nat.mod_eq_of_lt hy] at this
  · intro h; rw [h]
theorem subM_mulM (c d s : Nat) : mulM bR (subM bR c d) s = subM bR (mulM bR c s) (mulM bR d s) := by
  have h1 := mulM_addM bR (subM bR c d) d s
  have h2 : addM bR (subM bR c d) d = c % bR := by unfold addM subM bR; omega
  rw [h2, mulM_mod_left] at h1
  rw [h1, subM_addM _ _ _ (by decide), Nat.mod_eq_of_lt (mulM_lt (by decide) _ _)]
theorem subM_both (k u v : Nat) : subM bR (addM bR k u) (addM bR k v) = subM bR u v := by unfold subM addM bR; omega
/-- Who uses a nonce twice gives the secret away. -/
theorem twice (k s c d : Nat) (hs : s < bR) (hc : c < bR) (hd : d < bR) (hne : c ≠ d) :
    mulM bR (subM bR (addM bR k (mulM bR c s)) (addM bR k (mulM bR d s))) (invM bR (subM bR c d)) = s := by
  have h0 : subM bR c d % bR ≠ 0 := by
    intro h
    rw [Nat.mod_eq_of_lt (subM_lt (by decide) _ _), subM_zero_iff _ _ _ (by decide), Nat.mod_eq_of_lt hc, Nat.mod_eq_of_lt hd] at h
    exact hne h
  rw [subM_both, ← subM_mulM, mulM_comm bR (subM bR c d) s, mul_inv_back pr_R h0, Nat.mod_eq_of_lt hs]
/-- A secret of any number. -/
def secretN (n : Nat) : Nat := 1 + n % (bR - 1)
theorem secretN_lt (n : Nat) : secretN n < bR := by unfold secretN bR; omega
theorem secretN_pos (n : Nat) : 1 ≤ secretN n := Nat.le_add_right 1 _
theorem oddN_secret (n : Nat) : oddN (secretN n) = false := by
  have h1 := secretN_pos n
  have h2 := secretN_lt n
  unfold oddN; simp; omega
end Go.Proofs.Ytaibpldolbemfaa
