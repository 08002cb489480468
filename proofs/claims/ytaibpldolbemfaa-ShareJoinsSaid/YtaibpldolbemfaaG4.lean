/- Parts of the proofs, put together: HaTag, ShB, Rem, Cy, CyPow, CyIn, CyRef, CyE. -/
import Derived.Maps.OwnSet
import Derived.Maps.OwnOps
import Derived.Maps.Views
import Derived.RangeFuncNested
import Derived.RangeFuncBound
import Derived.RangeFuncCalls
import Derived.RangeFuncLeaves
import Derived.Shelf.Abstract
import Derived.Shelf.RegionOpen
import Derived.OwnWalkIn
import Derived.TacticsInMore
import Derived.LoopNIn
import Derived.LoopIn
import Derived.Test.YtaibpldolbemfaaG1
import Derived.Test.YtaibpldolbemfaaG2
import Derived.Test.YtaibpldolbemfaaG3
/- The hash, walked: Tagged. -/
namespace Go.Proofs.Ytaibpldolbemfaa
open Go.RowKit Go.Shelf

/-- What a tag and parts are hashed as. -/
def coded (tag : List Nat) (parts : List (List Nat)) : List Nat := tag.length % 256 :: tag ++ parts.flatMap fun p => be p.length 4 ++ p
theorem coded_snoc (tag : List Nat) (ps : List (List Nat)) (p : List Nat) : coded tag (ps ++ [p]) = coded tag ps ++ be p.length 4 ++ p := by simp [coded, List.flatMap_append]
theorem coded_nil (tag : List Nat) : coded tag [] = tag.length % 256 :: tag := by simp [coded]
theorem be_lt (n k : Nat) : ∀ x ∈ be n k, x < 256 := by
  intro x hx
  simp only [be, beN, List.mem_map] at hx
  obtain ⟨_, _, rfl⟩ := hx
  exact Nat.mod_lt _ (by decide)
theorem coded_lt (tag : List Nat) (ht : ∀ x ∈ tag, x < 256) (ps : List (List Nat)) (hp : ∀ p ∈ ps, ∀ x ∈ p, x < 256) : ∀ x ∈ coded tag ps, x < 256 := by
  intro x hx
  simp only [coded, List.cons_append, List.mem_cons, List.mem_append, List.mem_flatMap] at hx
  rcases hx with rfl | hx | ⟨p, hp', hx | hx⟩
  · exact Nat.mod_lt _ (by decide)
  · exact ht x hx
  · exact be_lt _ _ x hx
  · exact hp p hp' x hx

/-- Parts that lie in memory. -/
def Parts (w : World) (B : Nat) (A : Option Addr) (ps : List (List Nat)) : Prop :=
  ∃ vs : List Value, Reads w B 1 A ps.length vs ∧ ∀ (j : Nat) (p : List Nat), ps[j]? = some p → ∃ a c, vs[j]? = some (Value.slice a p.length c) ∧ p.length ≤ c ∧ Reads w B 1 a p.length (bv p)
theorem Parts.keep {w w' : World} {B : Nat} {A : Option Addr} {ps : List (List Nat)} (h : Parts w B A ps) (hk : ∀ p : Addr, p.block < B → w'.cell? p = w.cell? p) : Parts w' B A ps := by
  obtain ⟨vs, h1, h2⟩ := h
  exact ⟨vs, h1.keep hk, fun j p hj => by obtain ⟨a, c, e, hc, hr⟩ := h2 j p hj; exact ⟨a, c, e, hc, hr.keep hk⟩⟩
theorem Parts.below {w w' : World} {B : Nat} {A : Option Addr} {ps : List (List Nat)} (h : Parts w B A ps) (hb : Below B w w') : Parts w' B A ps := h.keep fun _ hp => hb.cell hp
theorem Parts.at_ {w : World} {B : Nat} {A : Option Addr} {ps : List (List Nat)} (h : Parts w B A ps) {j : Nat} {p : List Nat} (hj : ps[j]? = some p) :
    ∃ ad a c, A = some ad ∧ w.cell? (ad.add j) = some (.slice a p.length c) ∧ p.length ≤ c ∧ Reads w B 1 a p.length (bv p) := by
  obtain ⟨vs, h1, h2⟩ := h
  obtain ⟨a, c, e, hc, hr⟩ := h2 j p hj
  obtain ⟨ad, u, ha, _, hu, hcell⟩ := h1.at_ (k := j) (List.getElem?_eq_some_iff.1 hj).1
  rw [e] at hu
  cases hu
  exact ⟨ad, a, c, ha, hcell, hc, hr⟩
theorem own_slice {w : World} {base : Nat} {e : TypeId} {n : Nat} {v : Value} {xs : List Value} (h : w.ownsRow base e 1 v n xs) : ∃ A c, v = .slice A n c ∧ n ≤ c ∧ Reads w w.heap.size 1 A n xs := by
  rcases h.2 with ⟨rfl, h0⟩ | ⟨g, cap, cur, rfl, _, _, hc⟩
  · exact ⟨none, 0, by rw [h0], by omega, Reads.of_own (c := 0) (by rw [h0] at h ⊢; exact h)⟩
  · exact ⟨_, cap, rfl, hc.1, Reads.of_own h⟩
theorem own_new (w : World) (base g : Nat) (hg : g = w.heap.size) (hb : base ≤ g) (e : TypeId) (u : Value) : (w.alloc (.cells #[u] e)).ownsRow base e 1 (.slice (some ⟨g, 0, none⟩) 1 1) 1 [u] := by
  subst hg
  exact ⟨rfl, .inr ⟨w.heap.size, 1, #[u], rfl, hb, heap_alloc_new w _, Nat.le_refl _, by simp [maxLen], rfl, rfl⟩⟩

theorem coded_take_le (tag : List Nat) (ps : List (List Nat)) (j : Nat) : (coded tag (ps.take j)).length ≤ (coded tag ps).length := by
  have e : coded tag ps = coded tag (ps.take j) ++ (ps.drop j).flatMap fun p => be p.length 4 ++ p := by
    unfold coded
    rw [List.append_assoc, ← List.flatMap_append, List.take_append_drop]
  rw [e, List.length_append]
  omega

set_option maxRecDepth 100000 in
set_option maxHeartbeats 1000000 in
theorem Tagged_any (tag : ByteArray) (ps : List (List Nat)) (hps : ∀ p ∈ ps, ∀ x ∈ p, x < 256) (A : Option Addr) (c : Nat) (w : World) (hr : Parts w w.heap.size A ps) (htot : (coded (strN tag) ps).length ≤ 1099511627776) :
    Calls Try.prog 34 #[.string tag, .slice A ps.length c] w fun e w' => e = .returned (.agg #[.int .u64 ((hSum (coded (strN tag) ps)).1 : Int), .int .u64 ((hSum (coded (strN tag) ps)).2 : Int)]) ∧ Ext w w' := by
  obtain ⟨i0, hi, hz0, hz1, hz2⟩ := info_parts Try.infoU8
  have hall := coded_lt (strN tag) (strN_lt tag) ps hps
  have htl : tag.size + 1 ≤ (coded (strN tag) ps).length := by
    have := coded_take_le (strN tag) ps 0
    rw [List.take_zero, coded_nil, List.length_cons, strN_length] at this
    exact this
  have hcc := coded_take_le (strN tag) ps
  have hc0 : coded (strN tag) [] = tag.size % 256 :: strN tag := by rw [coded_nil, strN_length]
  obtain ⟨tot, ht⟩ : ∃ tot, tot = (coded (strN tag) ps).length := ⟨_, rfl⟩
  rw [← ht] at htot htl hcc
  have hpl : ps.length ≤ tot := by
    rw [ht, coded, List.length_append, List.length_flatMap]
    have : ps.length ≤ (ps.map fun p => (be p.length 4 ++ p).length).sum := by
      clear ht hcc hc0 htl hall hr hps htot
      induction ps with
      | nil => simp
      | cons p ps ih =>
        simp only [List.length_cons, List.map_cons, List.sum_cons]
        rw [List.length_append, be_length]
        omega
    omega
  have k1 : IntKind.u8.wrap (tag.size : Int) = ((tag.size % 256 : Nat) : Int) := by rw [IntKind.wrap_u8]; omega
  obtain ⟨d, hd⟩ : ∃ d, d = tag.size % 256 := ⟨_, rfl⟩
  rw [← hd] at k1 hc0
  have HD := Lib.hid hd
  have HT := Lib.hid ht
  have HC := Lib.hid hcc
  have HA := Lib.hid hall
  have HR := Lib.hid hr
  clear hd ht hcc hall hr
  go_enter Try.func34, Try.ntmps34
  go_wp2_with (at_builtin; refine wpList_append_own_src _ rfl (.tmp 11) (.tmp 12) 23 9 rfl (w.heap.size + 1) 5 i0 (.int .u8 0) 1 1 Try.underlying23 hi hz0 hz1 hz2 rfl (.slice (some ⟨w.heap.size + 1, 0, none⟩) 1 1) _ _ rfl (own_new (w.alloc (.cells #[.int .u64 0, .int .u64 0] 55)) (w.heap.size + 1) (w.heap.size + 1) (by simp) (Nat.le_refl _) 5 (.int .u8 (d : Int))) (.string tag) tag.size (byteCells tag) rfl (Src.ofString _ Try.underlying9 tag) (by simp only [maxLen]; omega) (by omega) (by simp) (by simp) ?_; intro v1 w1 hown1 hg1 _)
  have hb1 : Below (w.heap.size + 1) (w.alloc (.cells #[.int .u64 0, .int .u64 0] 55)) w1 := ((Below.refl _ _).alloc (by simp) _).grown hg1 (by simp) (fun k e => by simp [Value.ownBlock] at e; omega)
  have hx1 : Hid (Ext w w1) := Lib.hid (((Ext.refl w).alloc _).trans (Ext.of (by simpa using hb1)))
  have hbox : Hid (Blk w1 w.heap.size 55 #[.int .u64 0, .int .u64 0]) := Lib.hid ((Blk.new w _ _).below hb1 (Nat.lt_succ_self _))
  have hsz : w.heap.size + 1 ≤ w1.heap.size := by have := hb1.size; simp at this; omega
  have ho : Hid (w1.ownsRow (w.heap.size + 1) 5 1 v1 (coded (strN tag) (ps.take 0)).length (bv (coded (strN tag) (ps.take 0)))) := by
    show World.ownsRow _ _ _ _ _ _ _
    rw [List.take_zero, hc0, List.length_cons, strN_length, Nat.add_comm tag.size 1]
    have e : bv (d :: strN tag) = [.int .u8 (d : Int)] ++ byteCells tag := by rw [byteCells_strN]; rfl
    rw [e]
    exact hown1
  clear hown1 hg1 hb1 hc0 k1
  go_loopg [5, 16] ps.length (fun m s5 s16 wr => ∃ j : Nat, j + m = ps.length ∧ s16 = .int .i64 j ∧ wr.ownsRow (w.heap.size + 1) 5 1 s5 (coded (strN tag) (ps.take j)).length (bv (coded (strN tag) (ps.take j))) ∧ Ext w wr ∧ Blk wr w.heap.size 55 #[.int .u64 0, .int .u64 0] ∧ w.heap.size + 1 ≤ wr.heap.size)
  case atStart => exact ⟨0, by omega, rfl, ho.out, hx1.out, hbox.out, hsz⟩
  case round =>
    obtain ⟨j, hj, rfl, hown, hx, hb, hs⟩ := hrel
    clear ho hx1 hbox hsz
    by_cases h : j < ps.length
    · obtain ⟨p, hp⟩ : ∃ p, ps[j]? = some p := ⟨_, List.getElem?_eq_getElem h⟩
      obtain ⟨ad, a, c', rfl, hcell, hpc, hrp⟩ := (HR.out.below hx.out).at_ hp
      have hle := HC.out (j + 1)
      have ht1 : ps.take (j + 1) = ps.take j ++ [p] := by rw [List.take_add_one, hp]; rfl
      rw [ht1, coded_snoc] at hle
      simp only [List.length_append, be_length] at hle
      obtain ⟨l, hl⟩ : ∃ l, l = coded (strN tag) (ps.take j) := ⟨_, rfl⟩
      rw [← hl] at hown hle
      have HN : Hid (coded (strN tag) (ps.take (j + 1)) = l ++ be p.length 4 ++ p) := by show _ = _; rw [ht1, coded_snoc, hl]
      have c1 := put_any (w.heap.size + 1) u5 l p.length 4 (by decide) wr hown hs (by omega)
      have hpt : (p.length : Int) ≤ 1099511627776 := by omega
      have HLE := Lib.hid hle
      have HJ := Lib.hid hj
      have HX := Lib.hid hx
      have HB := Lib.hid hb
      have HS := Lib.hid hs
      clear hle hj hx hb hs ht1 hl hp htl
      go_wp2_with (first
        | (go_at_call 62; refine c1.mono ?_; clear c1; rintro e w2 ⟨v2, rfl, o2, b2⟩)
        | (at_builtin; refine wpList_append_any _ rfl (.tmp 24) (.tmp 25) 23 rfl (w.heap.size + 1) 5 i0 (.int .u8 0) 1 1 Try.underlying23 hi hz0 hz1 hz2 rfl (by decide) v2 _ _ rfl o2 w.heap.size a p.length c' (bv p) rfl (hrp.below (b2.mono (Nat.le_succ _))) (bv_one p) (by have := HLE.out; simp only [maxLen, List.length_append, be_length]; omega) (by have := HLE.out; simp only [List.length_append, be_length]; omega) (by have := HS.out; have := b2.size; omega) ?_; intro v3 w3 hown3 hg3 _))
      have hb3 : Below (w.heap.size + 1) wr w3 := b2.grown hg3 (by have := HS.out; have := b2.size; omega) (own_ge o2)
      have O3 : Hid (w3.ownsRow (w.heap.size + 1) 5 1 v3 (coded (strN tag) (ps.take (j + 1))).length (bv (coded (strN tag) (ps.take (j + 1))))) := by
        show World.ownsRow _ _ _ _ _ _ _
        rw [HN.out, show (l ++ be p.length 4 ++ p).length = (l ++ be p.length 4).length + p.length from List.length_append, show bv (l ++ be p.length 4 ++ p) = bv (l ++ be p.length 4) ++ bv p from bv_append _ _]
        exact hown3
      have X3 : Ext w w3 := Below.trans HX.out (hb3.mono (Nat.le_succ _))
      have B3 := HB.out.below hb3 (Nat.lt_succ_self _)
      have hj := HJ.out
      have S3 : w.heap.size + 1 ≤ w3.heap.size := Nat.le_trans HS.out hb3.size
      clear hown3 hg3 hb3 o2 b2 hown
      go_roundg (gk - 1)
      case measure => omega
      case rel => exact ⟨j + 1, by omega, int_congr (by omega), O3.out, X3, B3, S3⟩
    · obtain rfl : j = ps.length := by omega
      rw [List.take_length] at hown
      obtain ⟨A', c', rfl, hc', hr'⟩ := own_slice hown
      have cS := Sum_any (coded (strN tag) ps) HA.out (by rw [← HT.out]; exact htot) A' c' hc' wr hr'
      have q0 := hb.cell 0
      have q1 := hb.cell 1
      have p0 := hb.frozen 0
      have p1 := hb.frozen 1
      simp at q0 q1
      obtain ⟨n, hn⟩ : ∃ n, n = (coded (strN tag) ps).length := ⟨_, rfl⟩
      obtain ⟨r1, hr1⟩ : ∃ r, r = (hSum (coded (strN tag) ps)).1 := ⟨_, rfl⟩
      obtain ⟨r2, hr2⟩ : ∃ r, r = (hSum (coded (strN tag) ps)).2 := ⟨_, rfl⟩
      rw [← hn, ← hr1, ← hr2] at cS
      rw [← hn]
      have HR1 := Lib.hid hr1
      have HR2 := Lib.hid hr2
      have HX := Lib.hid hx
      have HB := Lib.hid hb
      clear hn hr1 hr2 hown hr' hx hc' hj h
      go_wp2_with (go_at_call 63; refine cS.mono ?_; clear cS; rintro e w2 ⟨rfl, x2⟩; have q0 := (HB.out.below x2.out HB.out.lt).cell 0; have q1 := (HB.out.below x2.out HB.out.lt).cell 1; have p0 := (HB.out.below x2.out HB.out.lt).frozen 0; have p1 := (HB.out.below x2.out HB.out.lt).frozen 1; simp at q0 q1)
      refine bodyPost_ret (v := .agg #[.int .u64 (r1 : Int), .int .u64 (r2 : Int)]) (by simp [results, Try.results34, go_sem, q0, q1]) rfl ⟨by rw [HR1.out, HR2.out], ?_⟩
      exact ((HX.out.trans x2).setCell (p := ⟨w.heap.size, 0, none⟩) (Nat.le_refl _) _).setCell (p := ⟨w.heap.size, 1, none⟩) (Nat.le_refl _) _
end Go.Proofs.Ytaibpldolbemfaa

/- Shares in memory; a set of numbers as a map to bool. -/
namespace Go.Proofs.Ytaibpldolbemfaa
set_option linter.unusedVariables false
open Go.RowKit Go.Shelf Go.Maps

/-! ### lists of ids, of shares, as cells -/
def iv (l : List Int) : List Value := l.map (Value.int .i64)
def sv (l : List (Int × Nat)) : List Value := l.flatMap fun s => [.int .i64 s.1, .int .u64 (s.2 : Int)]
def idsWf (l : List (Int × Nat)) : Prop := ∀ i ∈ l.map (·.1), (Lit.int .i64 i).wf = true
def wv (l : List Nat) : List Value := l.map fun (n : Nat) => Value.int .u64 (n : Int)
theorem iv_length (l : List Int) : (iv l).length = l.length := by simp [iv]
theorem wv_length (l : List Nat) : (wv l).length = l.length := by simp [wv]
theorem sv_length (l : List (Int × Nat)) : (sv l).length = l.length * 2 := by
  induction l with
  | nil => rfl
  | cons s l ih =>
    have e : sv (s :: l) = [.int .i64 s.1, .int .u64 (s.2 : Int)] ++ sv l := rfl
    rw [e, List.length_append, ih]; simp; omega
theorem iv_append (l m : List Int) : iv (l ++ m) = iv l ++ iv m := by simp [iv]
theorem wv_append (l m : List Nat) : wv (l ++ m) = wv l ++ wv m := by simp [wv]
theorem sv_append (l m : List (Int × Nat)) : sv (l ++ m) = sv l ++ sv m := by simp [sv]
theorem iv_one (l : List Int) : ∀ u ∈ iv l, u.oneCell' = true := by
  intro u hu; obtain ⟨a, _, rfl⟩ := List.mem_map.1 hu; rfl
theorem wv_one (l : List Nat) : ∀ u ∈ wv l, u.oneCell' = true := by
  intro u hu; obtain ⟨a, _, rfl⟩ := List.mem_map.1 hu; rfl
theorem sv_one (l : List (Int × Nat)) : ∀ u ∈ sv l, u.oneCell' = true := by
  intro u hu
  obtain ⟨a, _, h⟩ := List.mem_flatMap.1 hu
  simp at h
  rcases h with rfl | rfl <;> rfl
theorem iv_at {l : List Int} {k : Nat} {x : Int} (h : l[k]? = some x) : (iv l)[k]? = some (.int .i64 x) := by simp [iv, h]
theorem wv_at {l : List Nat} {k : Nat} {x : Nat} (h : l[k]? = some x) : (wv l)[k]? = some (.int .u64 (x : Int)) := by simp [wv, h]
theorem sv_at : ∀ {l : List (Int × Nat)} {k : Nat} {s : Int × Nat}, l[k]? = some s → (sv l)[k * 2]? = some (.int .i64 s.1) ∧ (sv l)[k * 2 + 1]? = some (.int .u64 (s.2 : Int))
  | [], k, s, h => by simp at h
  | a :: l, 0, s, h => by
    simp at h
    subst h
    exact ⟨rfl, rfl⟩
  | a :: l, k + 1, s, h => by
    simp at h
    have e : sv (a :: l) = .int .i64 a.1 :: .int .u64 (a.2 : Int) :: sv l := rfl
    rw [e, show (k + 1) * 2 = k * 2 + 1 + 1 by omega]
    simpa using sv_at h
theorem add_one_eq (a : Addr) : a.add 1 = ⟨a.block, a.off + 1, none⟩ := by unfold Addr.add; simp
section
variable {w : World} {B n : Nat} {A : Option Addr}
theorem reads_id {l : List Int} (h : Reads w B 1 A n (iv l)) {k : Nat} {x : Int} (hk : l[k]? = some x) : ∃ ad, A = some ad ∧ w.cell? (ad.add k) = some (.int .i64 x) := by
  have hl := (List.getElem?_eq_some_iff.1 hk).1
  have h1 := h.1
  rw [iv_length] at h1
  obtain ⟨ad, e, _, hc⟩ := h.2 (by omega)
  exact ⟨ad, e, hc _ _ (iv_at hk)⟩
theorem reads_word {l : List Nat} (h : Reads w B 1 A n (wv l)) {k : Nat} {x : Nat} (hk : l[k]? = some x) : ∃ ad, A = some ad ∧ w.cell? (ad.add k) = some (.int .u64 (x : Int)) := by
  have hl := (List.getElem?_eq_some_iff.1 hk).1
  have h1 := h.1
  rw [wv_length] at h1
  obtain ⟨ad, e, _, hc⟩ := h.2 (by omega)
  exact ⟨ad, e, hc _ _ (wv_at hk)⟩
theorem reads_share {l : List (Int × Nat)} (h : Reads w B 2 A n (sv l)) {k : Nat} {s : Int × Nat} (hk : l[k]? = some s) :
    ∃ ad, A = some ad ∧ ad.block < B ∧ w.cell? (ad.add (k * 2)) = some (.int .i64 s.1) ∧ w.cell? ⟨(ad.add (k * 2)).block, (ad.add (k * 2)).off + 1, none⟩ = some (.int .u64 (s.2 : Int)) := by
  have hl := (List.getElem?_eq_some_iff.1 hk).1
  have h1 := h.1
  rw [sv_length] at h1
  obtain ⟨ad, e, hb, hc⟩ := h.2 (by omega)
  exact ⟨ad, e, hb, hc _ _ (sv_at hk).1, by rw [← add_one_eq, add_of_add]; exact hc _ _ (sv_at hk).2⟩
end

/-! ### a set of numbers -/
section
variable {H : Type} {P : Program}
theorem plainElem_bool_inv {e : TypeId} (he : P.underlying e = some .bool) {v : Value} {z : DataW H × List MemPlace} (h : plainElem P e v = some z) : ∃ a, v = .bool a ∧ z = (.lit (.bool a), []) := by
  unfold plainElem at h
  rw [he] at h
  cases v <;> simp at h
  exact ⟨_, rfl, h.symm⟩
def keys (l : List Int) : List Lit := l.map (Lit.int .i64)
theorem keys_key (l : List Int) : ∀ x ∈ keys l, WideAt.IsKeyLit x := by
  intro x hx; obtain ⟨a, _, rfl⟩ := List.mem_map.1 hx; trivial
theorem isMap_fold (u : DataW H) : ∀ (acc : List Lit) (m : DataW H), IsMap m → IsMap (acc.foldl (fun m x => m.put x u) m)
  | [], _, h => h
  | x :: acc, m, h => isMap_fold u acc _ (h.put x u)
theorem atKey_fold (u z : DataW H) (x : Int) : ∀ (l : List Int) (m : DataW H), IsMap m → m.atKey (.int .i64 x) z = (if x ∈ ([] : List Int) then u else m.atKey (.int .i64 x) z) →
    ((keys l).foldl (fun m x => m.put x u) m).atKey (.int .i64 x) z = if x ∈ l then u else m.atKey (.int .i64 x) z
  | [], m, _, h => h
  | y :: l, m, hm, h => by
    show ((keys l).foldl (fun m x => m.put x u) (m.put (.int .i64 y) u)).atKey (.int .i64 x) z = _
    rw [atKey_fold u z x l _ (hm.put _ u) (by simp)]
    by_cases hx : x ∈ l
    · rw [if_pos hx, if_pos (List.mem_cons_of_mem _ hx)]
    · rw [if_neg hx]
      by_cases e : x = y
      · subst e
        rw [atKey_put_same hm (by trivial) u z, if_pos List.mem_cons_self]
      · rw [atKey_put_other (by simpa using e) u z, if_neg (by simp [e, hx])]
theorem atKey_set (u z : DataW H) (x : Int) (l : List Int) : (setOf u (keys l)).atKey (.int .i64 x) z = if x ∈ l then u else z := by
  have := atKey_fold u z x l (.map []) isMap_empty (by simp)
  exact this
end
def tt : DataW Unit := .lit (.bool true)
def SetIs (w : World) (b : Nat) (l : List Int) : Prop := w.ownsMap Try.prog 3 (plainElem (H := Unit) Try.prog 4) b l.length (setOf tt (keys l))
theorem zeroB (w : World) : (zeroValue 4).run Try.prog w = .ok (.bool false) w := by kernel_rfl
theorem keyInt : Keyed Try.prog 3 := int_keyed Try.underlying3
theorem SetIs.look {w : World} {b : Nat} {l : List Int} (h : SetIs w b l) (x : Int) (hx : (Lit.int .i64 x).wf = true) :
    (Instr.lookup 78 (.map (some b)) (.int .i64 x) false).run Try.prog w = .ok (.bool (decide (x ∈ l))) w := by
  obtain ⟨v, ps, hrun, hv⟩ := World.ownsMap.lookup h keyInt Try.underlying78 (zeroB w) (zd := .lit (.bool false)) (zp := []) (plainElem_bool Try.underlying4 false) (keyOf_int_mk Try.underlying3 hx)
  obtain ⟨a, rfl, e⟩ := plainElem_bool_inv Try.underlying4 hv
  rw [hrun]
  rw [atKey_set] at e
  have : a = decide (x ∈ l) := by
    by_cases hm : x ∈ l
    · rw [if_pos hm] at e
      simp [tt] at e
      simp [hm, ← e.1]
    · rw [if_neg hm] at e
      simp at e
      simp [hm, ← e.1]
  rw [this]
theorem SetIs.put_ {w' : World} {b : Nat} {l : List Int} {x : Int} (h : w'.ownsMap Try.prog 3 (plainElem (H := Unit) Try.prog 4) b (l.length + 1) ((setOf tt (keys l)).put (.int .i64 x) tt)) : SetIs w' b (l ++ [x]) := by
  have e : setOf tt (keys (l ++ [x])) = (setOf tt (keys l)).put (.int .i64 x) tt := by rw [← setOf_snoc]; simp [keys]
  unfold SetIs
  rw [e, List.length_append]
  exact h
theorem SetIs.new (w : World) : SetIs (w.alloc (.map #[] 0)) w.heap.size [] := World.ownsMap_made w Try.prog 3 _
end Go.Proofs.Ytaibpldolbemfaa

/- math/bits.Rem64, walked. -/
namespace Go.Proofs.Ytaibpldolbemfaa
open Go.RowKit Go.Shelf

/-- math/bits.Rem64, EVERY y but 0. -/
theorem rem64 (hi lo y : Nat) (h0 : 0 < y) (hhi : hi < 18446744073709551616) (hlo : lo < 18446744073709551616) (hy : y < 18446744073709551616) (w : World) :
    Calls Try.prog 73 #[.int .u64 hi, .int .u64 lo, .int .u64 y] w fun e w' => e = .returned (.int .u64 (((hi * 18446744073709551616 + lo) % y : Nat) : Int)) ∧ ∃ n, w' = w.drewN n := by
  have hm : hi % y < y := Nat.mod_lt _ h0
  obtain ⟨r, hr⟩ : ∃ r, r = hi % y := ⟨_, rfl⟩
  have k1 : (hi : Int) % (y : Int) = (r : Int) := by rw [hr]; simp
  have he : (hi * 18446744073709551616 + lo) % y = (r * 18446744073709551616 + lo) % y := by rw [hr]; simp [Nat.add_mod, Nat.mul_mod]
  rw [← hr] at hm
  have HE := Lib.hid he
  clear hr he
  have y0 : ((y : Int) == 0) = false := by simp; omega
  have c := fun w => div64 r lo y hm hlo hy w
  go_enter Try.func73, Try.ntmps73
  go_wp2_with (go_at_call 61; refine (c _).mono ?_; rintro e w' ⟨rfl, n, rfl⟩)
  go_ret
  exact ⟨ret_one (by rw [HE.out]; simp), _, rfl⟩
end Go.Proofs.Ytaibpldolbemfaa

/- The layer 'cyclic', walked: each function's contract. -/
namespace Go.Proofs.Ytaibpldolbemfaa
open Go.RowKit Go.Shelf

theorem cyAdd64_0 (x y : Nat) (w : World) : (callFunc 60 #[.int .u64 (x : Int), .int .u64 (y : Int), .int .u64 0]).run Try.prog w =
    .ok (.value (.tuple #[.int .u64 (((x + y) % 18446744073709551616 : Nat) : Int), .int .u64 (((x + y) / 18446744073709551616 : Nat) : Int)])) w := by
  have h := Any7.bits_Add64 Try.lays25 x y 0 (by decide) w
  rw [Nat.add_zero] at h
  exact h

/-- (ring).mul: the product modulo m. -/
theorem ring_mul (m a b : Nat) (h0 : 0 < m) (hm : m < 18446744073709551616) (ha : a < 18446744073709551616) (hb : b < 18446744073709551616) (w : World) :
    Calls Try.prog 57 #[.int .u64 m, .int .u64 a, .int .u64 b] w fun e w' => e = .returned (.int .u64 (mulM m a b : Nat)) ∧ ∃ n, w' = w.drewN n := by
  obtain ⟨hi, hhi⟩ : ∃ hi, hi = a * b / 18446744073709551616 := ⟨_, rfl⟩
  obtain ⟨lo, hlo⟩ : ∃ lo, lo = a * b % 18446744073709551616 := ⟨_, rfl⟩
  have b1 : hi < 18446744073709551616 := by
    rw [hhi, Nat.div_lt_iff_lt_mul (by omega)]; exact Nat.mul_lt_mul'' ha hb
  have b2 : lo < 18446744073709551616 := by rw [hlo]; exact Nat.mod_lt _ (by omega)
  have c1 : ∀ w, Calls Try.prog 59 #[.int .u64 (a : Int), .int .u64 (b : Int)] w fun e w' => e = .returned (.tuple #[.int .u64 (hi : Int), .int .u64 (lo : Int)]) ∧ w = w' := fun w => by
    rw [hhi, hlo]; exact (Try.bits_Mul64 a b ha hb w).mono fun e w' ⟨he, hw⟩ => ⟨he, hw.symm⟩
  have E : (hi * 18446744073709551616 + lo) % m = mulM m a b := by
    have := Nat.div_add_mod (a * b) 18446744073709551616
    have e : hi * 18446744073709551616 + lo = a * b := by rw [hhi, hlo]; omega
    rw [e]; rfl
  have c2 := fun w => E ▸ rem64 hi lo m h0 b1 b2 hm w
  clear E
  clear hhi hlo b1 b2 ha hb hm
  go_enter Try.func57, Try.ntmps57
  go_wp2_with (first | (go_at_call 59; refine (c1 _).mono ?_; rintro e w' ⟨rfl, rfl⟩) | (go_at_call 73; refine (c2 _).mono ?_; rintro e w' ⟨rfl, n, rfl⟩))
  go_ret
  exact ⟨rfl, _, rfl⟩

/-- (ring).add: the sum modulo m. -/
theorem ring_add (m a b : Nat) (h0 : 0 < m) (hm : m < 18446744073709551616) (w : World) :
    Calls Try.prog 56 #[.int .u64 m, .int .u64 a, .int .u64 b] w fun e w' => e = .returned (.int .u64 (addM m a b : Nat)) ∧ ∃ n, w' = w.drewN n := by
  obtain ⟨x, hx⟩ : ∃ x, x = a % m := ⟨_, rfl⟩
  obtain ⟨y, hy⟩ : ∃ y, y = b % m := ⟨_, rfl⟩
  have k1 : (a : Int) % (m : Int) = (x : Int) := by rw [hx]; simp
  have k2 : (b : Int) % (m : Int) = (y : Int) := by rw [hy]; simp
  have hxm : x < m := by rw [hx]; exact Nat.mod_lt _ h0
  have hym : y < m := by rw [hy]; exact Nat.mod_lt _ h0
  have c1 := fun w => cyAdd64_0 x y w
  obtain ⟨hi, hhi⟩ : ∃ hi, hi = (x + y) / 18446744073709551616 := ⟨_, rfl⟩
  obtain ⟨lo, hlo⟩ : ∃ lo, lo = (x + y) % 18446744073709551616 := ⟨_, rfl⟩
  rw [← hhi, ← hlo] at c1
  have E : (hi * 18446744073709551616 + lo) % m = addM m a b := by
    have e : hi * 18446744073709551616 + lo = x + y := by omega
    rw [e, hx, hy]; simp [addM]
  have c2 := fun w => E ▸ rem64 hi lo m h0 (by omega) (by omega) hm w
  clear E
  have m0 : ((m : Int) == 0) = false := by simp; omega
  clear hx hy hhi hlo hm hxm hym
  go_enter Try.func56, Try.ntmps56
  go_wp2
  go_quiet (fail)
  go_wp2_with (go_at_call 73; refine (c2 _).mono ?_; rintro e w' ⟨rfl, n, rfl⟩)
  go_ret
  exact ⟨rfl, _, rfl⟩

/-- (ring).inverse: m a prime. -/
theorem ring_inverse (m a : Nat) (hm : m < 4611686018427387904) (hp : Pr m) (w : World) :
    Calls Try.prog 55 #[.int .u64 m, .int .u64 a] w fun e w' => e = .returned (.tuple #[.int .u64 (invM m a : Nat), .int .i64 (invE m a : Nat)]) ∧ w = w' := by
  have h1 : 1 < m := hp.1
  have m0 : ((m : Int) == 0) = false := by simp; omega
  obtain ⟨x, hx⟩ : ∃ x, x = a % m := ⟨_, rfl⟩
  have k1 : (a : Int) % (m : Int) = (x : Int) := by rw [hx]; simp
  have hxm : x < m := by rw [hx]; exact Nat.mod_lt _ (by omega)
  by_cases h0 : x = 0
  · have ei : invM m a = 0 := by unfold invM; rw [if_pos (hx ▸ h0)]
    have ee : invE m a = 10 := by unfold invE; rw [if_pos (hx ▸ h0)]
    rw [ei, ee]
    subst h0
    clear hx hm hxm
    go_enter Try.func55, Try.ntmps55
    go_wp2
    go_ret2
    exact ⟨rfl, rfl⟩
  · have ee : invE m a = 0 := by unfold invE; rw [if_neg (hx ▸ h0)]
    have ha : a % m ≠ 0 := hx ▸ h0
    have G0 := GcdAt.start h1 hp ha
    rw [← hx] at G0
    have hG := Lib.hid G0
    have hA := Lib.hid ha
    have HM := Lib.hid hm
    have x0 : ((x : Int) == 0) = false := by simp; omega
    rw [ee]
    have x1 : (x : Int) < 4611686018427387904 := by omega
    have x2 : (m : Int) < 4611686018427387904 := by omega
    clear hx ha ee G0 hm
    go_enter Try.func55, Try.ntmps55
    go_wp2
    go_loop [6, 7, 8, 9, 10] (fun s6 s7 s8 s9 _ => ∃ x y : Nat, ∃ u v : Int, s6 = .int .u64 x ∧ s7 = .int .u64 y ∧ s8 = .int .i64 u ∧ s9 = .int .i64 v ∧ Hid (GcdAt m a x y u v) ∧ (-(m : Int) ≤ u ∧ u ≤ m)) (fun _ s7 _ _ _ => (intOf s7).toNat)
    case atStart => exact ⟨x, m, 1, 0, by rw [k1], rfl, rfl, rfl, hG, by omega, by omega⟩
    case round =>
      obtain ⟨x, y, u, v, rfl, rfl, rfl, rfl, HG, b1, b2⟩ := hrel
      have hg := HG.out
      have bv := hg.bounds
      have b3 := hg.xm
      have b4 := hg.ym
      by_cases hy : y = 0
      · subst hy
        obtain ⟨d1, d2⟩ := hg.done h1 hp hA.out ⟨b1, b2⟩
        have D := Lib.hid d2
        clear hg d2 k1
        by_cases hu : u < 0
        · have d3 := d1 hu
          clear d1
          go_wp2
          go_ret2
          exact ⟨ret_two (by rw [← D.out, if_pos hu]) rfl, rfl⟩
        · clear d1
          go_wp2
          go_ret2
          exact ⟨ret_two (by rw [← D.out, if_neg (by omega)]) rfl, rfl⟩
      · obtain ⟨hn, hle, hlt⟩ := hg.next (Nat.pos_of_ne_zero hy)
        have bn := hn.bounds
        obtain ⟨q, hq⟩ : ∃ q, q = x / y := ⟨_, rfl⟩
        have k3 : (x : Int) / (y : Int) = (q : Int) := by rw [hq]; simp
        have hqx : q ≤ x := by rw [hq]; exact Nat.div_le_self x y
        rw [← hq] at hn hle bn hlt
        obtain ⟨r, hr⟩ : ∃ r, r = q * y := ⟨_, rfl⟩
        have k4 : (q : Int) * (y : Int) = (r : Int) := by rw [hr]; simp
        rw [← hr] at hn hle hlt
        have HL := Lib.hid hlt
        obtain ⟨t, ht⟩ : ∃ t, t = (q : Int) * v := ⟨_, rfl⟩
        rw [← ht] at hn bn
        have HN := Lib.hid hn
        have y0 : ((y : Int) == 0) = false := by simp; omega
        have y0' : ((y : Int) != 0) = true := by simp; omega
        have k5 : (q : Int) * v = t := ht.symm
        have x3 : (x : Int) < 4611686018427387904 := by omega
        have x4 : (q : Int) < 4611686018427387904 := by omega
        have x5 : (r : Int) ≤ x := by omega
        obtain ⟨t1, t2⟩ : -(9223372036854775808 : Int) < t ∧ t < 9223372036854775808 := by omega
        have y1 : 1 ≤ (y : Int) := by omega
        clear hg hn hq hr ht k1 hle hqx hlt
        go_wp2
        go_round
        case rel => exact ⟨y, x - r, v, u - t, rfl, int_congr (by omega), rfl, rfl, HN, bv⟩
        case measure => have := HL.out; simp [intOf]; omega

/-! ### the exported functions of the two rings -/
theorem Mul_any (a b : Nat) (ha : a < 18446744073709551616) (hb : b < 18446744073709551616) (w : World) :
    Calls Try.prog 30 #[.int .u64 a, .int .u64 b] w fun e w' => e = .returned (.int .u64 (mulM bQ a b : Nat)) ∧ ∃ n, w' = w.drewN n := by
  have c := fun w => ring_mul bQ a b (by decide) (by decide) ha hb w
  go_enter Try.func30, Try.ntmps30
  go_wp2_with (go_at_call 57; refine (c _).mono ?_; rintro e w' ⟨rfl, n, rfl⟩)
  go_ret
  exact ⟨rfl, _, rfl⟩
theorem MulR_any (a b : Nat) (ha : a < 18446744073709551616) (hb : b < 18446744073709551616) (w : World) :
    Calls Try.prog 28 #[.int .u64 a, .int .u64 b] w fun e w' => e = .returned (.int .u64 (mulM bR a b : Nat)) ∧ ∃ n, w' = w.drewN n := by
  have c := fun w => ring_mul bR a b (by decide) (by decide) ha hb w
  go_enter Try.func28, Try.ntmps28
  go_wp2_with (go_at_call 57; refine (c _).mono ?_; rintro e w' ⟨rfl, n, rfl⟩)
  go_ret
  exact ⟨rfl, _, rfl⟩
theorem AddR_any (a b : Nat) (w : World) :
    Calls Try.prog 27 #[.int .u64 a, .int .u64 b] w fun e w' => e = .returned (.int .u64 (addM bR a b : Nat)) ∧ ∃ n, w' = w.drewN n := by
  have c := fun w => ring_add bR a b (by decide) (by decide) w
  go_enter Try.func27, Try.ntmps27
  go_wp2_with (go_at_call 56; refine (c _).mono ?_; rintro e w' ⟨rfl, n, rfl⟩)
  go_ret
  exact ⟨rfl, _, rfl⟩
theorem SubR_any (a b : Nat) (w : World) :
    Calls Try.prog 29 #[.int .u64 a, .int .u64 b] w fun e w' => e = .returned (.int .u64 (subM bR a b : Nat)) ∧ ∃ n, w' = w.drewN n := by
  have hlt : b % bR < bR := Nat.mod_lt _ (by decide)
  rw [show subM bR a b = addM bR a (bR - b % bR) from rfl]
  have c := fun w => ring_add bR a (bR - b % bR) (by decide) (by decide) w
  have k0 : (b : Int) % 1152921504606845789 = ((b % bR : Nat) : Int) := by simp [bR]
  have k1 : (1152921504606845789 : Int) - ((b % bR : Nat) : Int) = ((bR - b % bR : Nat) : Int) := by unfold bR at *; omega
  have k2 : ((b % bR : Nat) : Int) < 1152921504606845789 := by unfold bR at *; omega
  clear hlt
  generalize b % bR = y at *
  generalize hz : bR - y = z at *
  go_enter Try.func29, Try.ntmps29
  go_wp2_with (go_at_call 56; refine (c _).mono ?_; rintro e w' ⟨rfl, n, rfl⟩)
  go_ret
  exact ⟨rfl, _, rfl⟩
theorem InvR_any (a : Nat) (w : World) :
    Calls Try.prog 26 #[.int .u64 a] w fun e w' => e = .returned (.tuple #[.int .u64 (invM bR a : Nat), .int .i64 (invE bR a : Nat)]) ∧ w = w' := by
  have c := fun w => ring_inverse bR a (by decide) pr_R w
  go_enter Try.func26, Try.ntmps26
  go_wp2_with (go_at_call 55; refine (c _).mono ?_; rintro e w' ⟨rfl, rfl⟩)
  go_ret2
  exact ⟨rfl, rfl⟩
end Go.Proofs.Ytaibpldolbemfaa

/- The layer 'cyclic', walked: powers, by a range over a function. -/
namespace Go.Proofs.Ytaibpldolbemfaa
open Go.RowKit Go.Shelf
attribute [local go_sem] Oper.semAt_some

theorem places_any (n : Nat) (w : World) :
    Calls Try.prog 74 #[.int .u64 n] w fun e w' => e = .returned (.func (.func 83) #[] #[.pointer (some ⟨w.heap.size, 0, none⟩)]) ∧ w.alloc (.cells #[.int .u64 n] 22) = w' := by
  go_enter Try.func74, Try.ntmps74
  go_wp2
  go_ret
  exact ⟨rfl, rfl⟩

def bitAt (n : Nat) : Nat → Bool := fun j => n.testBit (Lib.bitLen n - 1 - j)


set_option maxRecDepth 100000 in
set_option maxHeartbeats 1000000 in
/-- The bits of x, the highest that is set first, WHATEVER THE LOOP's BODY. -/
theorem places1_in (n : Nat) (hn : 1 ≤ n) (l B x : Nat) (hx : x < 18446744073709551616) (J Jx : List Bool → World → Prop)
    (hY : ∀ pre b W, J pre W → pre.length < Lib.bitLen x → YieldAt Fence.wide (n - 1) Try.prog l #[.bool b] W fun e W' =>
      (e = .returned (.bool true) ∧ J (pre ++ [b]) W' ∧ W'.cell? ⟨B, 0, none⟩ = W.cell? ⟨B, 0, none⟩) ∨ (e = .returned (.bool false) ∧ Jx (pre ++ [b]) W'))
    (hJd : ∀ pre W, J pre W → J pre W.drew)
    (W : World) (hB : W.cell? ⟨B, 0, none⟩ = some (.int .u64 x)) (h0 : J [] W) :
    CallsIn Fence.wide n Try.prog 83 #[.func (.yield l) #[] #[], .pointer (some ⟨B, 0, none⟩)] W fun e W' => (∃ v, e = .returned v) ∧
      ((∃ ys, ys = upto (bitAt x) (Lib.bitLen x) ∧ J ys W') ∨ (∃ pre, True ∧ Jx pre W')) := by
  obtain ⟨L, hL⟩ : ∃ L, L = Lib.bitLen x := ⟨_, rfl⟩
  have hL64 : L ≤ 64 := by rw [hL]; exact Lib.bitLen_le x 64 (by omega) hx
  have c0 : ∀ m w, CallsIn Fence.wide m Try.prog 84 #[.int .u64 (x : Int)] w fun e w' => e = .returned (.int .i64 (L : Int)) ∧ w = w' := fun m w => by
    rw [hL]; exact callsIn_wide.2 ((Try.bits_Len64 x w (by omega) (by omega)).mono fun e w' ⟨he, hw⟩ => ⟨by rw [he]; simp, hw.symm⟩)
  rw [← hL] at hY ⊢
  have HL := Lib.hid hL
  clear hL
  refine callsIn_of_wp Try.func83 rfl trivial ?_ rfl
  simp only [Try.ntmps83, List.size_toArray, List.length_cons, List.length_nil, Nat.reduceAdd, Nat.reduceSub, Array.replicate_succ, Array.replicate_zero, List.push_toArray, List.append_toArray, List.nil_append, List.cons_append]
  gi_wp2_with (refine ⟨trivial, ?_⟩; gi_at_call 84; refine (c0 _ _).mono ?_; rintro e w' ⟨rfl, rfl⟩)
  gi_loopw [3] (fun i wr => ∃ k : Nat, k ≤ L ∧ i = .int .i64 ((L : Int) - 1 - k) ∧ J (upto (bitAt x) k) wr ∧ wr.cell? ⟨B, 0, none⟩ = some (.int .u64 x))
    (fun i _ => (intOf i + 1).toNat)
  case atStart => exact ⟨0, Nat.zero_le _, int_congr (by omega), h0, hB⟩
  case round =>
    obtain ⟨k, hk, rfl, hJs, hc⟩ := hrel
    by_cases hlt : k < L
    · obtain ⟨j, hj⟩ : ∃ j : Nat, (L : Int) - 1 - k = j := ⟨L - 1 - k, by omega⟩
      have hb : bitAt x k = x.testBit j := by unfold bitAt; rw [← HL.out]; congr 1; omega
      obtain ⟨fn, tmps, assign, body, hy, hR⟩ := hY _ (bitAt x k) wr.drew (hJd _ _ hJs) (by rw [upto_length]; exact hlt)
      rw [hj]
      have hj64 : j < 64 := by omega
      obtain ⟨p, hp⟩ : ∃ p, p = 2 ^ j := ⟨_, rfl⟩
      have hp64 : p < 18446744073709551616 := by rw [hp]; exact Nat.pow_lt_pow_right (by omega) hj64
      obtain ⟨v, hv⟩ : ∃ v, v = x &&& p := ⟨_, rfl⟩
      have k2 : IntKind.u64.wrap (2 ^ j : Int) = (p : Int) := by
        have e : (2 ^ j : Int) = ((2 ^ j : Nat) : Int) := by simp
        rw [e, ← hp, IntKind.wrap_u64]; omega
      have k3 : bits .and .u64 (x : Int) (p : Int) = (v : Int) := by rw [bits_and_u64_nat x p hx hp64, hv]
      have k4 : ((v : Int) != 0) = bitAt x k := by
        have e : v = (x.testBit j).toNat * p := by rw [hv, hp, and_two_pow]
        have hp0 : 0 < p := by rw [hp]; exact Nat.two_pow_pos j
        rw [hb, e]
        cases x.testBit j <;> simp <;> omega
      clear hp hv hx hb
      have HJ := Lib.hid hj
      clear hj
      have hR' := hR.mono (R' := fun e W' => ∃ b : Bool, e = .returned (.bool b) ∧ Hid ((b = true ∧ J (upto (bitAt x) (k + 1)) W' ∧ W'.cell? ⟨B, 0, none⟩ = some (.int .u64 x)) ∨ (b = false ∧ Jx (upto (bitAt x) k ++ [bitAt x k]) W'))) (fun e W' h => by
        rcases h with ⟨he, hj, hc'⟩ | ⟨he, hj⟩
        · exact ⟨true, he, Or.inl ⟨rfl, by rw [upto_succ]; exact hj, hc'.trans hc⟩⟩
        · exact ⟨false, he, Or.inr ⟨rfl, hj⟩⟩)
      clear hR
      have hmx : Try.prog.follows .mixedOrders = true := by kernel_rfl
      gi_wp2
      gi_region_with_o (refine hR'.mono ?_; rintro e W' ⟨b, rfl, hE⟩)
      cases b with
      | true =>
        obtain ⟨hJ', hc'⟩ : J (upto (bitAt x) (k + 1)) W' ∧ W'.cell? ⟨B, 0, none⟩ = some (.int .u64 x) := by
          rcases hE.out with ⟨_, h⟩ | ⟨h, _⟩
          · exact h
          · cases h
        clear hE
        have hjj := HJ.out
        gi_wp2
        go_roundw
        case rel => exact ⟨k + 1, by omega, int_congr (by omega), hJ', hc'⟩
        case measure => simp [intOf]
      | false =>
        have hx' : Jx (upto (bitAt x) k ++ [bitAt x k]) W' := by
          rcases hE.out with ⟨h, _⟩ | ⟨_, h⟩
          · cases h
          · exact h
        clear hE
        gi_wp2
        refine bodyPost_ret (results_none rfl _ _ _) rfl ?_
        exact ⟨⟨_, rfl⟩, .inr ⟨_, trivial, hx'⟩⟩
    · obtain rfl : k = L := by omega
      gi_wp2
      go_end0
      exact ⟨⟨_, rfl⟩, .inl ⟨_, rfl, hJs⟩⟩

/-- J abides a draw. -/
theorem abides_drew {J : List Bool → World → Prop} {B : Nat} (h : AbidesFrom B J) (pre : List Bool) (W : World) (hJ : J pre W) : J pre W.drew :=
  h pre W W.drew none hJ ⟨rfl, rfl, rfl, Nat.le_refl _, fun _ _ _ => rfl⟩ (fun _ e => by cases e)

/-- A store into a box behind draws. -/
theorem wr_box {W : World} {q B : Nat} {v v0 : Value} (hc : W.cell? ⟨B, 0, none⟩ = some v0) :
    KeepsOthers W ((W.drewN q).setCell ⟨B, 0, none⟩ v) ∧ (∀ b, b ≠ B → ((W.drewN q).setCell ⟨B, 0, none⟩ v).cell? ⟨b, 0, none⟩ = W.cell? ⟨b, 0, none⟩) ∧
    ((W.drewN q).setCell ⟨B, 0, none⟩ v).cell? ⟨B, 0, none⟩ = some v ∧ (∀ p, ((W.drewN q).setCell ⟨B, 0, none⟩ v).frozen? p = W.frozen? p) ∧
    (∀ n₀ w, n₀ ≤ B → Below n₀ w W → Below n₀ w ((W.drewN q).setCell ⟨B, 0, none⟩ v)) := by
  refine ⟨KeepsOthers.trans (B := W.drewN q) ⟨Nat.le_refl _, fun _ _ h _ => h⟩ (KeepsOthers.setCell _ _ _), fun b hb => ?_, ?_, fun p => ?_, fun n₀ w hn h => ?_⟩
  · exact (World.cell?_setCell_other (w := W.drewN q) (a := ⟨B, 0, none⟩) (b := ⟨b, 0, none⟩) (v := v) (fun h => hb (by cases h; rfl))).trans rfl
  · exact World.cell?_setCell_same' _ _ _ (by rw [World.cell?_drewN, hc]; rfl)
  · rw [World.frozen?_setCell]; rfl
  · exact (below_drewN h q).setCell (p := ⟨B, 0, none⟩) hn v

theorem lt_bitLen (n : Nat) (hn : n < 18446744073709551616) : n < 2 ^ Lib.bitLen n := by
  rcases Nat.eq_zero_or_pos n with rfl | h
  · exact Nat.two_pow_pos _
  · exact (Lib.bitLenAux_bounds 64 n hn (by omega)).2.2

set_option maxRecDepth 100000 in
set_option maxHeartbeats 1000000 in
/-- power: the n-th power modulo m. -/
theorem power_any (m a n : Nat) (h1 : 1 < m) (hm : m < 18446744073709551616) (ha : a < 18446744073709551616) (hn : n < 18446744073709551616) (w : World) :
    Calls Try.prog 58 #[.func (.func 57) #[.int .u64 m] #[], .int .u64 a, .int .u64 n] w fun e w' => e = .returned (.int .u64 (powM m a n : Nat)) ∧ Ext w w' := by
  refine (callsIn_wide (n := 5)).1 ?_
  have cm : ∀ k x y, x < 18446744073709551616 → y < 18446744073709551616 → ∀ w, CallsIn Fence.wide k Try.prog 57 #[.int .u64 (m : Int), .int .u64 (x : Nat), .int .u64 (y : Nat)] w fun e w' => e = .returned (.int .u64 (mulM m x y : Nat)) ∧ ∃ n, w' = w.drewN n :=
    fun k x y hx hy w => callsIn_wide.2 (ring_mul m x y (by omega) hm hx hy w)
  have cp : ∀ k w, CallsIn Fence.wide k Try.prog 74 #[.int .u64 n] w fun e w' => e = .returned (.func (.func 83) #[] #[.pointer (some ⟨w.heap.size, 0, none⟩)]) ∧ w.alloc (.cells #[.int .u64 n] 22) = w' :=
    fun k w => callsIn_wide.2 (places_any n w)
  refine callsIn_of_wp_marks Try.func58 rfl trivial ?_ rfl
  simp only [Try.ntmps58, List.size_toArray, List.length_cons, List.length_nil, Nat.reduceAdd, Nat.reduceSub, Array.replicate_succ, Array.replicate_zero, List.push_toArray, List.append_toArray, List.nil_append, List.cons_append]
  gi_wp2_with (refine ⟨trivial, ?_⟩; gi_at_call 74; refine (cp _ _).mono ?_; rintro e w' ⟨rfl, rfl⟩)
  obtain ⟨s0, hs0⟩ : ∃ s0, s0 = w.heap.size := ⟨_, rfl⟩
  have f0 : (((((w.alloc (.cells #[.func (.func 57) #[.int .u64 m] #[]] 45)).alloc (.cells #[.int .u64 a] 22)).alloc (.cells #[.int .u64 1] 22)).alloc (.cells #[.int .u64 n] 22)).cell? ⟨s0, 0, none⟩ = some (.func (.func 57) #[.int .u64 m] #[])) ∧
    (((((w.alloc (.cells #[.func (.func 57) #[.int .u64 m] #[]] 45)).alloc (.cells #[.int .u64 a] 22)).alloc (.cells #[.int .u64 1] 22)).alloc (.cells #[.int .u64 n] 22)).cell? ⟨s0 + 1, 0, none⟩ = some (.int .u64 a)) ∧
    (((((w.alloc (.cells #[.func (.func 57) #[.int .u64 m] #[]] 45)).alloc (.cells #[.int .u64 a] 22)).alloc (.cells #[.int .u64 1] 22)).alloc (.cells #[.int .u64 n] 22)).cell? ⟨s0 + 1 + 1, 0, none⟩ = some (.int .u64 1)) ∧
    (((((w.alloc (.cells #[.func (.func 57) #[.int .u64 m] #[]] 45)).alloc (.cells #[.int .u64 a] 22)).alloc (.cells #[.int .u64 1] 22)).alloc (.cells #[.int .u64 n] 22)).frozen? ⟨s0 + 1 + 1, 0, none⟩ = false) ∧
    (((((w.alloc (.cells #[.func (.func 57) #[.int .u64 m] #[]] 45)).alloc (.cells #[.int .u64 a] 22)).alloc (.cells #[.int .u64 1] 22)).alloc (.cells #[.int .u64 n] 22)).cell? ⟨s0 + 1 + 1 + 1, 0, none⟩ = some (.int .u64 n)) := by
    subst hs0
    refine ⟨?_, ?_, ?_, ?_, ?_⟩ <;> simp [go_sem]
  obtain ⟨W0, hW0⟩ : ∃ W0, ((((w.alloc (.cells #[.func (.func 57) #[.int .u64 m] #[]] 45)).alloc (.cells #[.int .u64 a] 22)).alloc (.cells #[.int .u64 1] 22)).alloc (.cells #[.int .u64 n] 22)) = W0 := ⟨_, rfl⟩
  have hE : Ext w W0 := by rw [← hW0]; exact ((((Ext.refl w).alloc _).alloc _).alloc _).alloc _
  have hsz : W0.heap.size = s0 + 4 := by rw [← hW0, hs0]; simp
  rw [hW0] at f0 ⊢
  rw [← hs0]
  obtain ⟨c0, c1, c2, z2, c3⟩ := f0
  have hlt : s0 = w.heap.size := hs0
  have hE' : Below s0 w W0 := hs0 ▸ hE
  have Hs0 := Lib.hid hs0
  clear hs0 hW0 hE hlt
  refine wpIn_rangeFunc_ownF rfl (by omega) (gf := 83) (lb := #[.pointer (some ⟨s0 + 1 + 1 + 1, 0, none⟩)]) rfl trivial (enters_of Try.func83 (by kernel_rfl) rfl)
    (encs := fun b : Bool => #[Value.bool b]) (Kp := fun A B => B.cell? ⟨s0 + 1 + 1 + 1, 0, none⟩ = A.cell? ⟨s0 + 1 + 1 + 1, 0, none⟩) (S := fun ys => ys = upto (bitAt n) (Lib.bitLen n)) (Sp := fun _ => True) (N := Lib.bitLen n) (w0 := W0)
    (fun l J Jx W hW hJ _ hY h0 => places1_in 4 (by omega) l (s0 + 1 + 1 + 1) n hn J Jx hY (abides_drew hJ) W ((Below.cell hW (p := ⟨s0 + 1 + 1 + 1, 0, none⟩) (by rw [hsz]; simp)).trans c3) h0)
    (fun h k => k.trans h)
    (fun W l o o' hl _ _ _ => World.cell?_of_block (w := W) (World.putObj_heap_other (by rw [hsz] at hl; simp; omega)))
    (Below.refl _ _) (fun _ => rfl)
    (fun pre W => (W.cell? ⟨s0, 0, none⟩ = some (.func (.func 57) #[.int .u64 m] #[]) ∧ W.cell? ⟨s0 + 1, 0, none⟩ = some (.int .u64 a) ∧ W.cell? ⟨s0 + 1 + 1, 0, none⟩ = some (.int .u64 (horner m a pre : Nat)) ∧ W.frozen? ⟨s0 + 1 + 1, 0, none⟩ = false ∧ horner m a pre < m) ∧ Below s0 w W)
    (fun _ _ _ => False)
    (OwnFrom.and (Own.from (fun s A B row hs hg hr => ⟨cell_kept hs.1 hg hr, cell_kept hs.2.1 hg hr, cell_kept hs.2.2.1 hg hr, (frozen_kept hs.2.2.1 hg hr).trans hs.2.2.2.1, hs.2.2.2.2⟩) _) (ownFrom_below (by rw [Hs0.out]; exact Nat.le_refl _) (by rw [hsz]; omega)))
    (fun _ _ _ _ _ hs _ _ => hs)
    ⟨⟨c0, c1, c2, z2, h1⟩, hE'⟩
    (fun x => { tmps := #[Value.func (Fn.func 57) #[Value.int IntKind.u64 m] #[], Value.int IntKind.u64 a, Value.int IntKind.u64 n, Value.pointer (some { block := s0, off := 0 }), Value.pointer (some { block := s0 + 1, off := 0 }), undef, Value.int IntKind.u64 0, Value.pointer (some { block := s0 + 1 + 1, off := 0 }), Value.bool x, Value.int IntKind.u64 n, Value.func (Fn.func 83) #[] #[Value.pointer (some { block := s0 + 1 + 1 + 1, off := 0 })], Value.bool x, undef, undef, undef, undef, undef, undef, undef, undef, undef, undef], defers := [] }) ?assign ?body ?done ?stop
  case assign =>
    intro l x W K hK
    gi_wp2
    exact hK
  case body =>
    rintro l pre x W ⟨⟨d0, d1, d2, y2, hlt⟩, hB⟩ _
    obtain ⟨o, ho⟩ : ∃ o, o = horner m a pre := ⟨_, rfl⟩
    rw [← ho] at d2 hlt
    obtain ⟨p, hp⟩ : ∃ p, p = mulM m o o := ⟨_, rfl⟩
    have hpm : p < m := by rw [hp]; exact Nat.mod_lt _ (by omega)
    have cm1 := fun k w => cm k o o (by omega) (by omega) w
    have cm2 := fun k w => cm k p a (by omega) ha w
    rw [← hp] at cm1
    have hs : (x = true → horner m a (pre ++ [x]) = mulM m p a) ∧ (x = false → horner m a (pre ++ [x]) = p) := by
      rw [horner_snoc, ← ho]
      constructor <;> (intro h; subst h; simp [stepM, hp, mulM])
    have HS := Lib.hid hs
    clear hs ho hp cm cp
    cases x with
    | true =>
      gi_wp2_with (first | (refine ⟨trivial, ?_⟩; gi_at_call 57; refine (CallsIn.inRound l (cm1 _ _)).mono ?_; clear cm1; rintro e w' ⟨rfl, QQ, rfl⟩) | (refine ⟨trivial, ?_⟩; gi_at_call 57; refine (CallsIn.inRound l (cm2 _ _)).mono ?_; clear cm2; rintro e w' ⟨rfl, q, rfl⟩))
      obtain ⟨r1, r2, r3, r4, r5⟩ := wr_box (q := QQ) (v := .int .u64 (p : Int)) d2
      obtain ⟨t1, t2, t3, t4, t5⟩ := wr_box (q := q) (v := .int .u64 ((mulM m p a : Nat) : Int)) r3
      exact ⟨r1.trans t1, (t2 _ (by omega)).trans (r2 _ (by omega)), ⟨(t2 _ (by omega)).trans ((r2 _ (by omega)).trans d0), (t2 _ (by omega)).trans ((r2 _ (by omega)).trans d1), by rw [t3, HS.out.1 (by trivial)], by rw [t4, r4]; exact y2, by rw [HS.out.1 (by trivial)]; exact Nat.mod_lt _ (by omega)⟩, t5 _ _ (by omega) (r5 _ _ (by omega) hB)⟩
    | false =>
      gi_wp2_with (refine ⟨trivial, ?_⟩; gi_at_call 57; refine (CallsIn.inRound l (cm1 _ _)).mono ?_; clear cm1; rintro e w' ⟨rfl, q, rfl⟩)
      obtain ⟨r1, r2, r3, r4, r5⟩ := wr_box (q := q) (v := .int .u64 (p : Int)) d2
      exact ⟨r1, r2 _ (by omega), ⟨(r2 _ (by omega)).trans d0, (r2 _ (by omega)).trans d1, by rw [r3, HS.out.2 (by trivial)], by rw [r4]; exact y2, by rw [HS.out.2 (by trivial)]; exact hpm⟩, r5 _ _ (by omega) hB⟩
  case done =>
    rintro D ys W hD rfl ⟨⟨_, _, d2, _, _⟩, hB⟩ hK
    gi_wp2
    refine ⟨by simp, .inl ⟨_, _, rfl, run_takeDeferred hK, ?_⟩⟩
    have e : horner m a (upto (bitAt n) (Lib.bitLen n)) = powM m a n := horner_all m a n _ h1 (lt_bitLen n hn)
    refine ⟨_, results_tmp rfl _ _ _, ?_, ?_⟩
    · exact ret_one (by rw [e])
    · exact Ext.of (Hs0.out ▸ hB.trans (belowK_b (n₀ := s0) (w := w) (by rw [Hs0.out]; exact Nat.le_refl _) W D _ _ (by rw [hsz, Hs0.out] at hD; omega) hK rfl rfl))
  case stop =>
    rintro D c pre W _ _ h _
    exact h.elim

/-! ### the exported ones -/
theorem Pow_any (a n : Nat) (ha : a < 18446744073709551616) (hn : n < 18446744073709551616) (w : World) :
    Calls Try.prog 31 #[.int .u64 a, .int .u64 n] w fun e w' => e = .returned (.int .u64 (powM bQ a n : Nat)) ∧ Ext w w' := by
  have c := fun w => power_any bQ a n (by decide) (by decide) ha hn w
  have hmf : ∀ (fn : Fn) (first cap : Array Value) (w : World), (Instr.makeFunc fn first cap).run Try.prog w = .ok (.func fn first cap) w := fun _ _ _ _ => rfl
  go_enter Try.func31, Try.ntmps31
  go_wp2_with (go_at_call 58; refine (c _).mono ?_; rintro e w' ⟨rfl, hw⟩)
  go_ret
  exact ⟨rfl, hw⟩
theorem Base_any (n : Nat) (hn : n < 18446744073709551616) (w : World) :
    Calls Try.prog 32 #[.int .u64 n] w fun e w' => e = .returned (.int .u64 (powM bQ 4 n : Nat)) ∧ Ext w w' := by
  have c := fun w => Pow_any 4 n (by decide) hn w
  go_enter Try.func32, Try.ntmps32
  go_wp2_with (go_at_call 31; refine (c _).mono ?_; rintro e w' ⟨rfl, hw⟩)
  go_ret
  exact ⟨rfl, hw⟩
end Go.Proofs.Ytaibpldolbemfaa

/- cyclic.In, walked. -/
namespace Go.Proofs.Ytaibpldolbemfaa
open Go.RowKit Go.Shelf

theorem In_any (x : Nat) (hx : x < 18446744073709551616) (w : World) :
    Calls Try.prog 51 #[.int .u64 x] w fun e w' => e = .returned (.bool (inB x)) ∧ Ext w w' := by
  have c := fun w => Pow_any x bR hx (by decide) w
  have hin : Hid (inB x = (decide (0 < x) && decide (x < bQ) && powM bQ x bR == 1)) := rfl
  by_cases h0 : 0 < x
  · have d0 : decide (0 < x) = true := by simpa using h0
    have d0' : decide (0 < (x : Int)) = true := by simp; omega
    by_cases h1 : x < bQ
    · have d1 : decide (x < 2305843009213691579) = true := by simpa [bQ] using h1
      have d1' : decide ((x : Int) < 2305843009213691579) = true := by unfold bQ at h1; simp; omega
      obtain ⟨p, hp⟩ : ∃ p, p = powM bQ x bR := ⟨_, rfl⟩
      rw [← hp] at c
      have hv : inB x = ((p : Int) == 1) := by
        have e2 : decide (x < bQ) = true := by simpa using h1
        rw [hin.out, d0, e2, ← hp, Bool.eq_iff_iff]
        simp
        omega
      have HV := Lib.hid hv
      clear hp h0 h1 hx hv
      go_enter Try.func51, Try.ntmps51
      go_wp2_with (go_at_call 31; refine (c _).mono ?_; rintro e w' ⟨rfl, hw⟩)
      go_ret
      exact ⟨ret_bool HV.out.symm, hw⟩
    · have d1 : decide (x < 2305843009213691579) = false := by simpa [bQ] using h1
      have d1' : decide ((x : Int) < 2305843009213691579) = false := by unfold bQ at h1; simp; omega
      have hv : inB x = false := by
        have e2 : decide (x < bQ) = false := by simpa using h1
        rw [hin.out, d0, e2]; rfl
      have HV := Lib.hid hv
      clear h0 h1 hx hv
      go_enter Try.func51, Try.ntmps51
      go_wp2
      go_ret
      exact ⟨ret_bool HV.out.symm, Ext.refl _⟩
  · obtain rfl : x = 0 := by omega
    have hv : inB 0 = false := by rw [hin.out]; rfl
    have HV := Lib.hid hv
    clear h0 hx hv
    go_enter Try.func51, Try.ntmps51
    go_wp2
    go_ret
    exact ⟨ret_bool HV.out.symm, Ext.refl _⟩
end Go.Proofs.Ytaibpldolbemfaa

/- The document's answer for the layer 'cyclic' (greatsealref03), walked. -/
namespace Go.Proofs.Ytaibpldolbemfaa
open Go.RowKit Go.Shelf

theorem addM_ge {a b m : Nat} (ha : a < m) (hb : b < m) (h : m - b ≤ a) : addM m a b = a - (m - b) := by
  unfold addM
  rw [show a + b = (a - (m - b)) + m by omega, Nat.add_mod_right, Nat.mod_eq_of_lt (by omega)]
theorem addM_lt {a b m : Nat} (h : a < m - b) : addM m a b = a + b := by
  unfold addM
  exact Nat.mod_eq_of_lt (by omega)

theorem ref_sum (a b m : Nat) (ha : a < m) (hb : b < m) (hm : m < 18446744073709551616) (w : World) :
    Calls Try.prog 69 #[.int .u64 a, .int .u64 b, .int .u64 m] w fun e w' => e = .returned (.int .u64 (addM m a b : Nat)) ∧ w = w' := by
  have z1 : (m : Int) < 18446744073709551616 := by omega
  have z2 : (b : Int) ≤ m := by omega
  by_cases h : m - b ≤ a
  · have e := addM_ge ha hb h
    have d : decide ((m : Int) - b ≤ a) = true := by simp; omega
    have z3 : (m : Int) - b ≤ a := by omega
    have E := Lib.hid e
    clear e h hm
    go_enter Try.func69, Try.ntmps69
    go_wp2
    go_ret
    exact ⟨ret_one (by rw [E.out]; omega), rfl⟩
  · have e := addM_lt (show a < m - b by omega)
    have d : decide ((m : Int) - b ≤ a) = false := by simp; omega
    have z3 : (a : Int) + b < m := by omega
    have E := Lib.hid e
    clear e h hm
    go_enter Try.func69, Try.ntmps69
    go_wp2
    go_ret
    exact ⟨ret_one (by rw [E.out]; omega), rfl⟩

/-- One bit more of b. -/
theorem times_step (a b m j : Nat) : addM m (addM m (b / 2 ^ (j + 1) * a % m) (b / 2 ^ (j + 1) * a % m)) (if b.testBit j then a else 0) = b / 2 ^ j * a % m := by
  have h := half_bit b j
  unfold addM
  rw [h]
  cases b.testBit j with
  | false =>
    simp only [Bool.false_eq_true, if_false, Bool.toNat_false, Nat.add_zero, Nat.mod_mod]
    rw [← Nat.add_mod]; congr 1; grind
  | true =>
    have e : (2 * (b / 2 ^ (j + 1)) + 1) * a = b / 2 ^ (j + 1) * a + b / 2 ^ (j + 1) * a + a := by grind
    simp only [if_true, Bool.toNat_true]
    rw [e, Nat.mod_add_mod, Nat.add_mod, ← Nat.add_mod (b / 2 ^ (j + 1) * a) (b / 2 ^ (j + 1) * a), ← Nat.add_mod]

theorem one_bit (b j : Nat) : bits .and .u64 ((b / 2 ^ j % 18446744073709551616 : Nat) : Int) 1 = ((b.testBit j).toNat : Int) := by
  have h := bits_and_u64_nat (b / 2 ^ j % 18446744073709551616) 1 (Nat.mod_lt _ (by omega)) (by omega)
  have e : b / 2 ^ j % 18446744073709551616 &&& 1 = (b.testBit j).toNat := by
    rw [Nat.and_one_is_mod, Nat.mod_mod_of_dvd _ (by omega), Nat.toNat_testBit]
  rw [e] at h
  exact h

set_option maxRecDepth 100000 in
theorem ref_times (a b m : Nat) (hm0 : 0 < m) (hb : b < 18446744073709551616) (hm : m < 18446744073709551616) (w : World) :
    Calls Try.prog 70 #[.int .u64 a, .int .u64 b, .int .u64 m] w fun e w' => e = .returned (.int .u64 (mulM m a b : Nat)) ∧ w = w' := by
  obtain ⟨x, hx⟩ : ∃ x, x = a % m := ⟨_, rfl⟩
  obtain ⟨y, hy⟩ : ∃ y, y = b % m := ⟨_, rfl⟩
  have k1 : (a : Int) % (m : Int) = (x : Int) := by rw [hx]; simp
  have k2 : (b : Int) % (m : Int) = (y : Int) := by rw [hy]; simp
  have hxm : x < m := by rw [hx]; exact Nat.mod_lt _ hm0
  have hym : y < m := by rw [hy]; exact Nat.mod_lt _ hm0
  have hy64 : y < 2 ^ 64 := by show y < 18446744073709551616; omega
  have E : y * x % m = mulM m a b := by rw [hx, hy, ← Nat.mul_mod]; unfold mulM; rw [Nat.mul_comm]
  have m0 : ((m : Int) == 0) = false := by simp; omega
  have cs : ∀ u v w, u < m → v < m → Calls Try.prog 69 #[.int .u64 (u : Nat), .int .u64 (v : Nat), .int .u64 m] w fun e w' => e = .returned (.int .u64 (addM m u v : Nat)) ∧ w = w' := fun u v w hu hv => ref_sum u v m hu hv hm w
  have H := Lib.hid (And.intro hx (And.intro hy (And.intro hm (And.intro hb (And.intro hy64 (And.intro hxm (And.intro hym E)))))))
  clear hx hy hm hb hy64 hxm hym E
  go_enter Try.func70, Try.ntmps70
  go_wp2
  simp only [k1, k2]
  clear k1 k2
  go_loopg [7, 8] 64 (fun g o i wr => wr = w ∧ o = .int .u64 ((y / 2 ^ g * x % m : Nat) : Int) ∧ i = .int .i64 ((g : Int) - 1) ∧ g ≤ 64)
  case atStart =>
    refine ⟨rfl, int_congr ?_, rfl, by omega⟩
    rw [Nat.div_eq_of_lt H.out.2.2.2.2.1]; simp
  case round =>
    obtain ⟨rfl, rfl, rfl, hg⟩ := hrel
    obtain ⟨g, rfl⟩ : ∃ g, g = gk := ⟨_, rfl⟩
    obtain ⟨hx, hy, hm, hb, hy64, hxm, hym, E⟩ := H.out
    by_cases h0 : g = 0
    · subst h0
      have e : y / 2 ^ 0 * x % m = mulM m a b := by rw [Nat.pow_zero, Nat.div_one, E]
      rw [e]
      clear e E hb hy64 hm hxm hym hx hy
      go_wp2
      go_ret
      exact ⟨rfl, rfl⟩
    · obtain ⟨j, rfl⟩ : ∃ j, g = j + 1 := ⟨g - 1, by omega⟩
      have hst := times_step x y m j
      obtain ⟨o, ho⟩ : ∃ o, o = y / 2 ^ (j + 1) * x % m := ⟨_, rfl⟩
      have hom : o < m := by rw [ho]; exact Nat.mod_lt _ hm0
      rw [← ho] at hst ⊢
      obtain ⟨p, hp⟩ : ∃ p, p = addM m o o := ⟨_, rfl⟩
      have hpm : p < m := by rw [hp]; exact Nat.mod_lt _ hm0
      have c1 := fun w => cs o o w hom hom
      have c2 := fun w => cs p x w hpm hxm
      rw [← hp] at c1 hst
      have k3 : (y : Int) / 2 ^ j = ((y / 2 ^ j : Nat) : Int) := by simp
      have k4 : bits .and .u64 ((y / 2 ^ j : Nat) : Int) 1 = ((y.testBit j).toNat : Int) := by
        have := one_bit y j
        rwa [Nat.mod_eq_of_lt (Nat.lt_of_le_of_lt (Nat.div_le_self _ _) hy64)] at this
      obtain ⟨z, hz⟩ : ∃ z, z = y / 2 ^ j := ⟨_, rfl⟩
      rw [← hz] at k3 k4
      have hi : (((j + 1 : Nat) : Int) - 1) = (j : Int) := by omega
      rw [hi]
      have hj : j < 64 := by omega
      by_cases hbit : y.testBit j = true
      · rw [hbit] at hst k4
        have k5 : bits .and .u64 (z : Int) 1 = 1 := k4
        have HST := Lib.hid hst
        clear hst k4 hz ho hp hbit hi E hb hy64 hm hx hy cs
        go_wp2_with (first | (go_at_call 69; refine (c1 _).mono ?_; clear c1; rintro e w' ⟨rfl, rfl⟩) | (go_at_call 69; refine (c2 _).mono ?_; clear c2; rintro e w' ⟨rfl, rfl⟩))
        go_roundg j
        case measure => omega
        case rel => exact ⟨rfl, int_congr (by rw [← HST.out]; rfl), rfl, by omega⟩
      · rw [if_neg hbit] at hst
        have hbit : y.testBit j = false := by simpa using hbit
        rw [hbit] at k4
        have k5 : bits .and .u64 (z : Int) 1 = 0 := k4
        have hst2 : p = y / 2 ^ j * x % m := by
          rw [← hst]; unfold addM; rw [Nat.add_zero, Nat.mod_eq_of_lt hpm]
        have HST := Lib.hid hst2
        clear hst hst2 k4 hz ho hp hbit hi E hb hy64 hm hx hy cs
        go_wp2_with (go_at_call 69; refine (c1 _).mono ?_; clear c1; rintro e w' ⟨rfl, rfl⟩)
        go_roundg j
        case measure => omega
        case rel => exact ⟨rfl, int_congr (by rw [← HST.out]), rfl, by omega⟩

/-- One bit more of n. -/
theorem power_step (a m n j : Nat) : (if n.testBit j then mulM m (mulM m (a ^ (n / 2 ^ (j + 1)) % m) (a ^ (n / 2 ^ (j + 1)) % m)) a else mulM m (a ^ (n / 2 ^ (j + 1)) % m) (a ^ (n / 2 ^ (j + 1)) % m)) = a ^ (n / 2 ^ j) % m := by
  have h := stepM_pow m a (n / 2 ^ (j + 1)) (n.testBit j)
  rw [← half_bit n j] at h
  rw [← h]
  rfl

set_option maxRecDepth 100000 in
theorem ref_power (a n m : Nat) (hm1 : 1 < m) (ha : a < 18446744073709551616) (hn : n < 18446744073709551616) (hm : m < 18446744073709551616) (w : World) :
    Calls Try.prog 67 #[.int .u64 a, .int .u64 n, .int .u64 m] w fun e w' => e = .returned (.int .u64 (powM m a n : Nat)) ∧ w = w' := by
  have cs : ∀ u v w, v < 18446744073709551616 → Calls Try.prog 70 #[.int .u64 (u : Nat), .int .u64 (v : Nat), .int .u64 m] w fun e w' => e = .returned (.int .u64 (mulM m u v : Nat)) ∧ w = w' := fun u v w hv => ref_times u v m (by omega) hv hm w
  have hn64 : n < 2 ^ 64 := hn
  have H := Lib.hid (And.intro ha (And.intro hn (And.intro hm hn64)))
  clear ha hn hm hn64
  go_enter Try.func67, Try.ntmps67
  go_wp2
  go_loopg [7, 8] 64 (fun g o i wr => wr = w ∧ o = .int .u64 ((a ^ (n / 2 ^ g) % m : Nat) : Int) ∧ i = .int .i64 ((g : Int) - 1) ∧ g ≤ 64)
  case atStart =>
    refine ⟨rfl, int_congr ?_, rfl, by omega⟩
    rw [Nat.div_eq_of_lt H.out.2.2.2, Nat.pow_zero, Nat.mod_eq_of_lt hm1]; rfl
  case round =>
    obtain ⟨rfl, rfl, rfl, hg⟩ := hrel
    obtain ⟨g, rfl⟩ : ∃ g, g = gk := ⟨_, rfl⟩
    obtain ⟨ha, hn, hm, hn64⟩ := H.out
    by_cases h0 : g = 0
    · subst h0
      have e : a ^ (n / 2 ^ 0) % m = powM m a n := by rw [Nat.pow_zero, Nat.div_one]; rfl
      rw [e]
      clear e ha hn hm hn64
      go_wp2
      go_ret
      exact ⟨rfl, rfl⟩
    · obtain ⟨j, rfl⟩ : ∃ j, g = j + 1 := ⟨g - 1, by omega⟩
      have hst := power_step a m n j
      obtain ⟨o, ho⟩ : ∃ o, o = a ^ (n / 2 ^ (j + 1)) % m := ⟨_, rfl⟩
      have hom : o < m := by rw [ho]; exact Nat.mod_lt _ (by omega)
      rw [← ho] at hst ⊢
      obtain ⟨p, hp⟩ : ∃ p, p = mulM m o o := ⟨_, rfl⟩
      have c1 := fun w => cs o o w (by omega)
      have c2 := fun w => cs p a w ha
      rw [← hp] at c1 hst
      have k3 : (n : Int) / 2 ^ j = ((n / 2 ^ j : Nat) : Int) := by simp
      have k4 : bits .and .u64 ((n / 2 ^ j : Nat) : Int) 1 = ((n.testBit j).toNat : Int) := by
        have := one_bit n j
        rwa [Nat.mod_eq_of_lt (Nat.lt_of_le_of_lt (Nat.div_le_self _ _) hn64)] at this
      obtain ⟨z, hz⟩ : ∃ z, z = n / 2 ^ j := ⟨_, rfl⟩
      rw [← hz] at k3 k4
      have hi : (((j + 1 : Nat) : Int) - 1) = (j : Int) := by omega
      rw [hi]
      have hj : j < 64 := by omega
      by_cases hbit : n.testBit j = true
      · rw [if_pos hbit] at hst
        rw [hbit] at k4
        have k5 : bits .and .u64 (z : Int) 1 = 1 := k4
        have HST := Lib.hid hst
        clear hst k4 hz ho hp hbit hi ha hn hm hn64 cs hom
        go_wp2_with (first | (go_at_call 70; refine (c1 _).mono ?_; clear c1; rintro e w' ⟨rfl, rfl⟩) | (go_at_call 70; refine (c2 _).mono ?_; clear c2; rintro e w' ⟨rfl, rfl⟩))
        go_roundg j
        case measure => omega
        case rel => exact ⟨rfl, int_congr (by rw [← HST.out]), rfl, by omega⟩
      · rw [if_neg hbit] at hst
        have hbit : n.testBit j = false := by simpa using hbit
        rw [hbit] at k4
        have k5 : bits .and .u64 (z : Int) 1 = 0 := k4
        have HST := Lib.hid hst
        clear hst k4 hz ho hp hbit hi ha hn hm hn64 cs hom
        go_wp2_with (go_at_call 70; refine (c1 _).mono ?_; clear c1; rintro e w' ⟨rfl, rfl⟩)
        go_roundg j
        case measure => omega
        case rel => exact ⟨rfl, int_congr (by rw [← HST.out]), rfl, by omega⟩

/-! ### the exported ones -/
theorem rMul_any (a b : Nat) (hb : b < 18446744073709551616) (w : World) :
    Calls Try.prog 53 #[.int .u64 a, .int .u64 b] w fun e w' => e = .returned (.int .u64 (mulM bQ a b : Nat)) ∧ w = w' := by
  have c := fun w => ref_times a b bQ (by decide) hb (by decide) w
  go_enter Try.func53, Try.ntmps53
  go_wp2_with (go_at_call 70; refine (c _).mono ?_; rintro e w' ⟨rfl, rfl⟩)
  go_ret
  exact ⟨rfl, rfl⟩
theorem rMulR_any (a b : Nat) (hb : b < 18446744073709551616) (w : World) :
    Calls Try.prog 48 #[.int .u64 a, .int .u64 b] w fun e w' => e = .returned (.int .u64 (mulM bR a b : Nat)) ∧ w = w' := by
  have c := fun w => ref_times a b bR (by decide) hb (by decide) w
  go_enter Try.func48, Try.ntmps48
  go_wp2_with (go_at_call 70; refine (c _).mono ?_; rintro e w' ⟨rfl, rfl⟩)
  go_ret
  exact ⟨rfl, rfl⟩
theorem rPow_any (a n : Nat) (ha : a < 18446744073709551616) (hn : n < 18446744073709551616) (w : World) :
    Calls Try.prog 54 #[.int .u64 a, .int .u64 n] w fun e w' => e = .returned (.int .u64 (powM bQ a n : Nat)) ∧ w = w' := by
  have c := fun w => ref_power a n bQ (by decide) ha hn (by decide) w
  go_enter Try.func54, Try.ntmps54
  go_wp2_with (go_at_call 67; refine (c _).mono ?_; rintro e w' ⟨rfl, rfl⟩)
  go_ret
  exact ⟨rfl, rfl⟩
theorem rBase_any (n : Nat) (hn : n < 18446744073709551616) (w : World) :
    Calls Try.prog 43 #[.int .u64 n] w fun e w' => e = .returned (.int .u64 (powM bQ 4 n : Nat)) ∧ w = w' := by
  have c := fun w => ref_power 4 n bQ (by decide) (by decide) hn (by decide) w
  go_enter Try.func43, Try.ntmps43
  go_wp2_with (go_at_call 67; refine (c _).mono ?_; rintro e w' ⟨rfl, rfl⟩)
  go_ret
  exact ⟨rfl, rfl⟩
theorem rIn_any (x : Nat) (hx : x < 18446744073709551616) (w : World) :
    Calls Try.prog 52 #[.int .u64 x] w fun e w' => e = .returned (.bool (inB x)) ∧ w = w' := by
  have c := fun w => ref_power x bR bQ (by decide) hx (by decide) (by decide) w
  have hin : Hid (inB x = (decide (0 < x) && decide (x < bQ) && powM bQ x bR == 1)) := rfl
  by_cases h0 : 0 < x
  · have d0 : decide (0 < x) = true := by simpa using h0
    have d0' : decide (0 < (x : Int)) = true := by simp; omega
    by_cases h1 : x < bQ
    · have d1 : decide (x < 2305843009213691579) = true := by simpa [bQ] using h1
      have d1' : decide ((x : Int) < 2305843009213691579) = true := by unfold bQ at h1; simp; omega
      obtain ⟨p, hp⟩ : ∃ p, p = powM bQ x bR := ⟨_, rfl⟩
      rw [← hp] at c
      have hv : inB x = ((p : Int) == 1) := by
        have e2 : decide (x < bQ) = true := by simpa using h1
        rw [hin.out, d0, e2, ← hp, Bool.eq_iff_iff]
        simp
        omega
      have HV := Lib.hid hv
      clear hp h0 h1 hx hv
      go_enter Try.func52, Try.ntmps52
      go_wp2_with (go_at_call 67; refine (c _).mono ?_; rintro e w' ⟨rfl, rfl⟩)
      go_ret
      exact ⟨ret_bool HV.out.symm, rfl⟩
    · have d1 : decide (x < 2305843009213691579) = false := by simpa [bQ] using h1
      have d1' : decide ((x : Int) < 2305843009213691579) = false := by unfold bQ at h1; simp; omega
      have hv : inB x = false := by
        have e2 : decide (x < bQ) = false := by simpa using h1
        rw [hin.out, d0, e2]; rfl
      have HV := Lib.hid hv
      clear h0 h1 hx hv
      go_enter Try.func52, Try.ntmps52
      go_wp2
      go_ret
      exact ⟨ret_bool HV.out.symm, rfl⟩
  · obtain rfl : x = 0 := by omega
    have hv : inB 0 = false := by rw [hin.out]; rfl
    have HV := Lib.hid hv
    clear h0 hx hv
    go_enter Try.func52, Try.ntmps52
    go_wp2
    go_ret
    exact ⟨ret_bool HV.out.symm, rfl⟩

theorem rInvR_any (a : Nat) (ha : a < 18446744073709551616) (w : World) :
    Calls Try.prog 71 #[.int .u64 a] w fun e w' => e = .returned (.tuple #[.int .u64 (invM bR a : Nat), .int .i64 (invE bR a : Nat)]) ∧ w = w' := by
  obtain ⟨x, hx⟩ : ∃ x, x = a % bR := ⟨_, rfl⟩
  have k1 : (a : Int) % 1152921504606845789 = (x : Int) := by rw [hx]; simp [bR]
  by_cases h0 : x = 0
  · have ei : invM bR a = 0 := by unfold invM; rw [if_pos (hx ▸ h0)]
    have ee : invE bR a = 10 := by unfold invE; rw [if_pos (hx ▸ h0)]
    rw [ei, ee]
    subst h0
    clear hx
    go_enter Try.func71, Try.ntmps71
    go_wp2
    go_ret2
    exact ⟨rfl, rfl⟩
  · have ei : invM bR a = powM bR a (bR - 2) := by unfold invM; rw [if_neg (hx ▸ h0)]; rfl
    have ee : invE bR a = 0 := by unfold invE; rw [if_neg (hx ▸ h0)]
    have c := fun w => ref_power a (bR - 2) bR (by decide) ha (by decide) (by decide) w
    rw [ei, ee]
    have x0 : ((x : Int) == 0) = false := by simp; omega
    clear hx
    generalize powM bR a (bR - 2) = z at *
    go_enter Try.func71, Try.ntmps71
    go_wp2_with (go_at_call 67; refine (c _).mono ?_; rintro e w' ⟨rfl, rfl⟩)
    go_ret2
    exact ⟨rfl, rfl⟩

theorem rAddR_any (a b : Nat) (w : World) :
    Calls Try.prog 47 #[.int .u64 a, .int .u64 b] w fun e w' => e = .returned (.int .u64 (addM bR a b : Nat)) ∧ w = w' := by
  obtain ⟨x, hx⟩ : ∃ x, x = a % bR := ⟨_, rfl⟩
  obtain ⟨y, hy⟩ : ∃ y, y = b % bR := ⟨_, rfl⟩
  have k1 : (a : Int) % 1152921504606845789 = (x : Int) := by rw [hx]; simp [bR]
  have k2 : (b : Int) % 1152921504606845789 = (y : Int) := by rw [hy]; simp [bR]
  have c := fun w => ref_sum x y bR (by rw [hx]; exact Nat.mod_lt _ (by decide)) (by rw [hy]; exact Nat.mod_lt _ (by decide)) (by decide) w
  have e : addM bR x y = addM bR a b := by rw [hx, hy]; simp [addM]
  rw [e] at c
  clear hx hy e
  go_enter Try.func47, Try.ntmps47
  go_wp2_with (go_at_call 69; refine (c _).mono ?_; rintro e w' ⟨rfl, rfl⟩)
  go_ret
  exact ⟨rfl, rfl⟩
theorem rSubR_any (a b : Nat) (w : World) :
    Calls Try.prog 72 #[.int .u64 a, .int .u64 b] w fun e w' => e = .returned (.int .u64 (subM bR a b : Nat)) ∧ w = w' := by
  obtain ⟨x, hx⟩ : ∃ x, x = a % bR := ⟨_, rfl⟩
  obtain ⟨y, hy⟩ : ∃ y, y = b % bR := ⟨_, rfl⟩
  have hyR : y < bR := by rw [hy]; exact Nat.mod_lt _ (by decide)
  obtain ⟨z, hz⟩ : ∃ z, z = bR - y := ⟨_, rfl⟩
  obtain ⟨v, hv⟩ : ∃ v, v = z % bR := ⟨_, rfl⟩
  have k1 : (a : Int) % 1152921504606845789 = (x : Int) := by rw [hx]; simp [bR]
  have k2 : (b : Int) % 1152921504606845789 = (y : Int) := by rw [hy]; simp [bR]
  have k3 : (1152921504606845789 : Int) - (y : Int) = (z : Int) := by rw [hz]; unfold bR at *; omega
  have k4 : (z : Int) % 1152921504606845789 = (v : Int) := by rw [hv]; simp [bR]
  have z2 : (y : Int) < 1152921504606845789 := by unfold bR at *; omega
  have c := fun w => ref_sum x v bR (by rw [hx]; exact Nat.mod_lt _ (by decide)) (by rw [hv]; exact Nat.mod_lt _ (by decide)) (by decide) w
  have e : addM bR x v = subM bR a b := by rw [hx, hv, hz, hy]; simp [addM, subM]
  rw [e] at c
  clear hx hy hz hv e hyR
  go_enter Try.func72, Try.ntmps72
  go_wp2_with (go_at_call 69; refine (c _).mono ?_; rintro e w' ⟨rfl, rfl⟩)
  go_ret
  exact ⟨rfl, rfl⟩
end Go.Proofs.Ytaibpldolbemfaa

/- The contracts of 'cyclic', the world behind told by 'Ext'. -/
namespace Go.Proofs.Ytaibpldolbemfaa
open Go.RowKit Go.Shelf

theorem inB_eq (x : Nat) : inB x = (decide (0 < x) && decide (x < bQ) && pwm bQ 64 x bR == 1) := by
  unfold inB; rw [powM_eq _ _ _ (by decide)]
theorem invM_eq (m a : Nat) (hm : m < 18446744073709551616) : invM m a = if a % m = 0 then 0 else pwm m 64 a (m - 2) := by
  unfold invM; split
  · rfl
  · exact (pwm_eq m 64 a (m - 2) (by show m - 2 < 18446744073709551616; omega)).symm

/-! ### the contracts, the world behind told by 'Ext' alone -/
theorem MulE (a b : Nat) (ha : a < 18446744073709551616) (hb : b < 18446744073709551616) (w : World) :
    Calls Try.prog 30 #[.int .u64 a, .int .u64 b] w fun e w' => e = .returned (.int .u64 (mulM bQ a b : Nat)) ∧ Ext w w' :=
  (Mul_any a b ha hb w).mono fun _ _ ⟨he, n, hw⟩ => ⟨he, by rw [hw]; exact (Ext.refl w).drewN n⟩
theorem MulRE (a b : Nat) (ha : a < 18446744073709551616) (hb : b < 18446744073709551616) (w : World) :
    Calls Try.prog 28 #[.int .u64 a, .int .u64 b] w fun e w' => e = .returned (.int .u64 (mulM bR a b : Nat)) ∧ Ext w w' :=
  (MulR_any a b ha hb w).mono fun _ _ ⟨he, n, hw⟩ => ⟨he, by rw [hw]; exact (Ext.refl w).drewN n⟩
theorem AddRE (a b : Nat) (w : World) :
    Calls Try.prog 27 #[.int .u64 a, .int .u64 b] w fun e w' => e = .returned (.int .u64 (addM bR a b : Nat)) ∧ Ext w w' :=
  (AddR_any a b w).mono fun _ _ ⟨he, n, hw⟩ => ⟨he, by rw [hw]; exact (Ext.refl w).drewN n⟩
theorem SubRE (a b : Nat) (w : World) :
    Calls Try.prog 29 #[.int .u64 a, .int .u64 b] w fun e w' => e = .returned (.int .u64 (subM bR a b : Nat)) ∧ Ext w w' :=
  (SubR_any a b w).mono fun _ _ ⟨he, n, hw⟩ => ⟨he, by rw [hw]; exact (Ext.refl w).drewN n⟩
end Go.Proofs.Ytaibpldolbemfaa
