/- The hash, walked: Tagged. -/
import Derived.Test.YtbomfnlipbdigaaHaSum
import Derived.Test.YtbomfnlipbdigaaStr
import Derived.Test.YtbomfnlipbdigaaHaBytes
namespace Go.Proofs.Ytbomfnlipbdigaa
open Go.RowKit Go.Shelf

/-- What a tag and parts are hashed as. -/
def coded (tag : List Nat) (parts : List (List Nat)) : List Nat := tag.length % 256 :: tag ++ parts.flatMap fun p => be p.length 4 ++ p
theorem coded_snoc (tag : List Nat) (ps : List (List Nat)) (p : List Nat) : coded tag (ps ++ [p]) = coded tag ps ++ be p.length 4 ++ p := by simp [coded, List.flatMap_append]
theorem coded_nil (tag : List Nat) : coded tag [] = tag.length % 256 :: tag := by simp [coded]
theorem be_lt (n k : Nat) : ∀ x ∈ be n k, x < 256 := by
  intro x hx
  simp only [be, beN, List.mem_map] at hx
  obtain ⟨_, _, rfl⟩ := hx
  exact Nat.mod_lt _ (by decide)
theorem coded_lt (tag : List Nat) (ht : ∀ x ∈ tag, x < 256) (ps : List (List Nat)) (hp : ∀ p ∈ ps, ∀ x ∈ p, x < 256) : ∀ x ∈ coded tag ps, x < 256 := by
  intro x hx
  simp only [coded, List.cons_append, List.mem_cons, List.mem_append, List.mem_flatMap] at hx
  rcases hx with rfl | hx | ⟨p, hp', hx | hx⟩
  · exact Nat.mod_lt _ (by decide)
  · exact ht x hx
  · exact be_lt _ _ x hx
  · exact hp p hp' x hx

/-- Parts that lie in memory. -/
def Parts (w : World) (B : Nat) (A : Option Addr) (ps : List (List Nat)) : Prop :=
  ∃ vs : List Value, Reads w B 1 A ps.length vs ∧ ∀ (j : Nat) (p : List Nat), ps[j]? = some p → ∃ a c, vs[j]? = some (Value.slice a p.length c) ∧ p.length ≤ c ∧ Reads w B 1 a p.length (bv p)
theorem Parts.keep {w w' : World} {B : Nat} {A : Option Addr} {ps : List (List Nat)} (h : Parts w B A ps) (hk : ∀ p : Addr, p.block < B → w'.cell? p = w.cell? p) : Parts w' B A ps := by
  obtain ⟨vs, h1, h2⟩ := h
  exact ⟨vs, h1.keep hk, fun j p hj => by obtain ⟨a, c, e, hc, hr⟩ := h2 j p hj; exact ⟨a, c, e, hc, hr.keep hk⟩⟩
theorem Parts.below {w w' : World} {B : Nat} {A : Option Addr} {ps : List (List Nat)} (h : Parts w B A ps) (hb : Below B w w') : Parts w' B A ps := h.keep fun _ hp => hb.cell hp
theorem Parts.at_ {w : World} {B : Nat} {A : Option Addr} {ps : List (List Nat)} (h : Parts w B A ps) {j : Nat} {p : List Nat} (hj : ps[j]? = some p) :
    ∃ ad a c, A = some ad ∧ w.cell? (ad.add j) = some (.slice a p.length c) ∧ p.length ≤ c ∧ Reads w B 1 a p.length (bv p) := by
  obtain ⟨vs, h1, h2⟩ := h
  obtain ⟨a, c, e, hc, hr⟩ := h2 j p hj
  obtain ⟨ad, u, ha, _, hu, hcell⟩ := h1.at_ (k := j) (List.getElem?_eq_some_iff.1 hj).1
  rw [e] at hu
  cases hu
  exact ⟨ad, a, c, ha, hcell, hc, hr⟩
theorem own_slice {w : World} {base : Nat} {e : TypeId} {n : Nat} {v : Value} {xs : List Value} (h : w.ownsRow base e 1 v n xs) : ∃ A c, v = .slice A n c ∧ n ≤ c ∧ Reads w w.heap.size 1 A n xs := by
  rcases h.2 with ⟨rfl, h0⟩ | ⟨g, cap, cur, rfl, _, _, hc⟩
  · exact ⟨none, 0, by rw [h0], by omega, Reads.of_own (c := 0) (by rw [h0] at h ⊢; exact h)⟩
  · exact ⟨_, cap, rfl, hc.1, Reads.of_own h⟩
theorem own_new (w : World) (base g : Nat) (hg : g = w.heap.size) (hb : base ≤ g) (e : TypeId) (u : Value) : (w.alloc (.cells #[u] e)).ownsRow base e 1 (.slice (some ⟨g, 0, none⟩) 1 1) 1 [u] := by
  subst hg
  exact ⟨rfl, .inr ⟨w.heap.size, 1, #[u], rfl, hb, heap_alloc_new w _, Nat.le_refl _, by simp [maxLen], rfl, rfl⟩⟩

theorem coded_take_le (tag : List Nat) (ps : List (List Nat)) (j : Nat) : (coded tag (ps.take j)).length ≤ (coded tag ps).length := by
  have e : coded tag ps = coded tag (ps.take j) ++ (ps.drop j).flatMap fun p => be p.length 4 ++ p := by
    unfold coded
    rw [List.append_assoc, ← List.flatMap_append, List.take_append_drop]
  rw [e, List.length_append]
  omega

set_option maxRecDepth 100000 in
set_option maxHeartbeats 1000000 in
theorem Tagged_any (tag : ByteArray) (ps : List (List Nat)) (hps : ∀ p ∈ ps, ∀ x ∈ p, x < 256) (A : Option Addr) (c : Nat) (w : World) (hr : Parts w w.heap.size A ps) (htot : (coded (strN tag) ps).length ≤ 1099511627776) :
    Calls Try.prog 39 #[.string tag, .slice A ps.length c] w fun e w' => e = .returned (.agg #[.int .u64 ((hSum (coded (strN tag) ps)).1 : Int), .int .u64 ((hSum (coded (strN tag) ps)).2 : Int)]) ∧ Ext w w' := by
  obtain ⟨i0, hi, hz0, hz1, hz2⟩ := info_parts Try.infoU8
  have hall := coded_lt (strN tag) (strN_lt tag) ps hps
  have htl : tag.size + 1 ≤ (coded (strN tag) ps).length := by
    have := coded_take_le (strN tag) ps 0
    rw [List.take_zero, coded_nil, List.length_cons, strN_length] at this
    exact this
  have hcc := coded_take_le (strN tag) ps
  have hc0 : coded (strN tag) [] = tag.size % 256 :: strN tag := by rw [coded_nil, strN_length]
  obtain ⟨tot, ht⟩ : ∃ tot, tot = (coded (strN tag) ps).length := ⟨_, rfl⟩
  rw [← ht] at htot htl hcc
  have hpl : ps.length ≤ tot := by
    rw [ht, coded, List.length_append, List.length_flatMap]
    have : ps.length ≤ (ps.map fun p => (be p.length 4 ++ p).length).sum := by
      clear ht hcc hc0 htl hall hr hps htot
      induction ps with
      | nil => simp
      | cons p ps ih =>
        simp only [List.length_cons, List.map_cons, List.sum_cons]
        rw [List.length_append, be_length]
        omega
    omega
  have k1 : IntKind.u8.wrap (tag.size : Int) = ((tag.size % 256 : Nat) : Int) := by rw [IntKind.wrap_u8]; omega
  obtain ⟨d, hd⟩ : ∃ d, d = tag.size % 256 := ⟨_, rfl⟩
  rw [← hd] at k1 hc0
  have HD := Lib.hid hd
  have HT := Lib.hid ht
  have HC := Lib.hid hcc
  have HA := Lib.hid hall
  have HR := Lib.hid hr
  clear hd ht hcc hall hr
  go_enter Try.func39, Try.ntmps39
  go_wp2_with (at_builtin; refine wpList_append_own_src _ rfl (.tmp 11) (.tmp 12) 22 9 rfl (w.heap.size + 1) 5 i0 (.int .u8 0) 1 1 Try.underlying22 hi hz0 hz1 hz2 rfl (.slice (some ⟨w.heap.size + 1, 0, none⟩) 1 1) _ _ rfl (own_new (w.alloc (.cells #[.int .u64 0, .int .u64 0] 50)) (w.heap.size + 1) (w.heap.size + 1) (by simp) (Nat.le_refl _) 5 (.int .u8 (d : Int))) (.string tag) tag.size (byteCells tag) rfl (Src.ofString _ Try.underlying9 tag) (by simp only [maxLen]; omega) (by omega) (by simp) (by simp) ?_; intro v1 w1 hown1 hg1 _)
  have hb1 : Below (w.heap.size + 1) (w.alloc (.cells #[.int .u64 0, .int .u64 0] 50)) w1 := ((Below.refl _ _).alloc (by simp) _).grown hg1 (by simp) (fun k e => by simp [Value.ownBlock] at e; omega)
  have hx1 : Hid (Ext w w1) := Lib.hid (((Ext.refl w).alloc _).trans (Ext.of (by simpa using hb1)))
  have hbox : Hid (Blk w1 w.heap.size 50 #[.int .u64 0, .int .u64 0]) := Lib.hid ((Blk.new w _ _).below hb1 (Nat.lt_succ_self _))
  have hsz : w.heap.size + 1 ≤ w1.heap.size := by have := hb1.size; simp at this; omega
  have ho : Hid (w1.ownsRow (w.heap.size + 1) 5 1 v1 (coded (strN tag) (ps.take 0)).length (bv (coded (strN tag) (ps.take 0)))) := by
    show World.ownsRow _ _ _ _ _ _ _
    rw [List.take_zero, hc0, List.length_cons, strN_length, Nat.add_comm tag.size 1]
    have e : bv (d :: strN tag) = [.int .u8 (d : Int)] ++ byteCells tag := by rw [byteCells_strN]; rfl
    rw [e]
    exact hown1
  clear hown1 hg1 hb1 hc0 k1
  go_loopg [5, 16] ps.length (fun m s5 s16 wr => ∃ j : Nat, j + m = ps.length ∧ s16 = .int .i64 j ∧ wr.ownsRow (w.heap.size + 1) 5 1 s5 (coded (strN tag) (ps.take j)).length (bv (coded (strN tag) (ps.take j))) ∧ Ext w wr ∧ Blk wr w.heap.size 50 #[.int .u64 0, .int .u64 0] ∧ w.heap.size + 1 ≤ wr.heap.size)
  case atStart => exact ⟨0, by omega, rfl, ho.out, hx1.out, hbox.out, hsz⟩
  case round =>
    obtain ⟨j, hj, rfl, hown, hx, hb, hs⟩ := hrel
    clear ho hx1 hbox hsz
    by_cases h : j < ps.length
    · obtain ⟨p, hp⟩ : ∃ p, ps[j]? = some p := ⟨_, List.getElem?_eq_getElem h⟩
      obtain ⟨ad, a, c', rfl, hcell, hpc, hrp⟩ := (HR.out.below hx.out).at_ hp
      have hle := HC.out (j + 1)
      have ht1 : ps.take (j + 1) = ps.take j ++ [p] := by rw [List.take_add_one, hp]; rfl
      rw [ht1, coded_snoc] at hle
      simp only [List.length_append, be_length] at hle
      obtain ⟨l, hl⟩ : ∃ l, l = coded (strN tag) (ps.take j) := ⟨_, rfl⟩
      rw [← hl] at hown hle
      have HN : Hid (coded (strN tag) (ps.take (j + 1)) = l ++ be p.length 4 ++ p) := by show _ = _; rw [ht1, coded_snoc, hl]
      have c1 := put_any (w.heap.size + 1) u5 l p.length 4 (by decide) wr hown hs (by omega)
      have hpt : (p.length : Int) ≤ 1099511627776 := by omega
      have HLE := Lib.hid hle
      have HJ := Lib.hid hj
      have HX := Lib.hid hx
      have HB := Lib.hid hb
      have HS := Lib.hid hs
      clear hle hj hx hb hs ht1 hl hp htl
      go_wp2_with (first
        | (go_at_call 59; refine c1.mono ?_; clear c1; rintro e w2 ⟨v2, rfl, o2, b2⟩)
        | (at_builtin; refine wpList_append_any _ rfl (.tmp 24) (.tmp 25) 22 rfl (w.heap.size + 1) 5 i0 (.int .u8 0) 1 1 Try.underlying22 hi hz0 hz1 hz2 rfl (by decide) v2 _ _ rfl o2 w.heap.size a p.length c' (bv p) rfl (hrp.below (b2.mono (Nat.le_succ _))) (bv_one p) (by have := HLE.out; simp only [maxLen, List.length_append, be_length]; omega) (by have := HLE.out; simp only [List.length_append, be_length]; omega) (by have := HS.out; have := b2.size; omega) ?_; intro v3 w3 hown3 hg3 _))
      have hb3 : Below (w.heap.size + 1) wr w3 := b2.grown hg3 (by have := HS.out; have := b2.size; omega) (own_ge o2)
      have O3 : Hid (w3.ownsRow (w.heap.size + 1) 5 1 v3 (coded (strN tag) (ps.take (j + 1))).length (bv (coded (strN tag) (ps.take (j + 1))))) := by
        show World.ownsRow _ _ _ _ _ _ _
        rw [HN.out, show (l ++ be p.length 4 ++ p).length = (l ++ be p.length 4).length + p.length from List.length_append, show bv (l ++ be p.length 4 ++ p) = bv (l ++ be p.length 4) ++ bv p from bv_append _ _]
        exact hown3
      have X3 : Ext w w3 := Below.trans HX.out (hb3.mono (Nat.le_succ _))
      have B3 := HB.out.below hb3 (Nat.lt_succ_self _)
      have hj := HJ.out
      have S3 : w.heap.size + 1 ≤ w3.heap.size := Nat.le_trans HS.out hb3.size
      clear hown3 hg3 hb3 o2 b2 hown
      go_roundg (gk - 1)
      case measure => omega
      case rel => exact ⟨j + 1, by omega, int_congr (by omega), O3.out, X3, B3, S3⟩
    · obtain rfl : j = ps.length := by omega
      rw [List.take_length] at hown
      obtain ⟨A', c', rfl, hc', hr'⟩ := own_slice hown
      have cS := Sum_any (coded (strN tag) ps) HA.out (by rw [← HT.out]; exact htot) A' c' hc' wr hr'
      have q0 := hb.cell 0
      have q1 := hb.cell 1
      have p0 := hb.frozen 0
      have p1 := hb.frozen 1
      simp at q0 q1
      obtain ⟨n, hn⟩ : ∃ n, n = (coded (strN tag) ps).length := ⟨_, rfl⟩
      obtain ⟨r1, hr1⟩ : ∃ r, r = (hSum (coded (strN tag) ps)).1 := ⟨_, rfl⟩
      obtain ⟨r2, hr2⟩ : ∃ r, r = (hSum (coded (strN tag) ps)).2 := ⟨_, rfl⟩
      rw [← hn, ← hr1, ← hr2] at cS
      rw [← hn]
      have HR1 := Lib.hid hr1
      have HR2 := Lib.hid hr2
      have HX := Lib.hid hx
      have HB := Lib.hid hb
      clear hn hr1 hr2 hown hr' hx hc' hj h
      go_wp2_with (go_at_call 60; refine cS.mono ?_; clear cS; rintro e w2 ⟨rfl, x2⟩; have q0 := (HB.out.below x2.out HB.out.lt).cell 0; have q1 := (HB.out.below x2.out HB.out.lt).cell 1; have p0 := (HB.out.below x2.out HB.out.lt).frozen 0; have p1 := (HB.out.below x2.out HB.out.lt).frozen 1; simp at q0 q1)
      refine bodyPost_ret (v := .agg #[.int .u64 (r1 : Int), .int .u64 (r2 : Int)]) (by simp [results, Try.results39, go_sem, q0, q1]) rfl ⟨by rw [HR1.out, HR2.out], ?_⟩
      exact ((HX.out.trans x2).setCell (p := ⟨w.heap.size, 0, none⟩) (Nat.le_refl _) _).setCell (p := ⟨w.heap.size, 1, none⟩) (Nat.le_refl _) _
end Go.Proofs.Ytbomfnlipbdigaa
