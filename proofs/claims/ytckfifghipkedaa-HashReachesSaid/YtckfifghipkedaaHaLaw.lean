/- The statements of the hash that ask for the document's answer, walked. -/
import Derived.Test.YtckfifghipkedaaHaLive
import Derived.Test.YtckfifghipkedaaLater
namespace Go.Proofs.Ytckfifghipkedaa
set_option linter.unusedVariables false
open Go.RowKit Go.Shelf
attribute [local irreducible] mix

theorem arr3f {W : World} {g : Nat} {T : TypeId} {a b c : Value} (h : Blk W g T #[a, b, c]) : W.cell? ⟨g, 0, none⟩ = some a ∧ W.cell? ⟨g, 1, none⟩ = some b ∧ W.cell? ⟨g, 2, none⟩ = some c := ⟨h.cell 0, h.cell 1, h.cell 2⟩

set_option maxRecDepth 100000 in
set_option maxHeartbeats 1000000 in
theorem walk_HashMixes (x y z : Nat) (hx : x < 18446744073709551616) (hy : y < 18446744073709551616) (hz : z < 18446744073709551616) (w : World) :
    Calls Try.prog 3 #[.agg #[.int .u64 x, .int .u64 y, .int .u64 z]] w fun e w' => e = .returned (.bool true) ∧ Ext w w' := by
  have cl := fun W => live_any W
  have c1 := fun W => mix_any (x, y, z) ⟨hx, hy, hz⟩ W
  have c2 := fun W => rmix_any (x, y, z) W
  obtain ⟨⟨a0, a1, a2⟩, ha⟩ : ∃ a, a = mix (x, y, z) := ⟨_, rfl⟩
  rw [← ha] at c1 c2
  simp only [val3] at c1 c2
  have q1 := eq3_same (a0 : Int) (a1 : Int) (a2 : Int)
  clear ha hx hy hz
  go_enter Try.func3, Try.ntmps3
  go_wp2_with (go_at_call 13; refine (cl _).mono ?_; clear cl; rintro e w1 ⟨rfl, x1⟩; have hb := ext_blk x1 (Blk.new w _ _); obtain ⟨p0, p1, p2⟩ := arr3f hb; have HB := Lib.hid hb; clear hb)
  go_region_held3 (fun w' => w'.cell? ⟨w.heap.size, 0, none⟩ = some (.int .u64 (x : Int)) ∧ w'.cell? ⟨w.heap.size, 1, none⟩ = some (.int .u64 (y : Int)) ∧ w'.cell? ⟨w.heap.size, 2, none⟩ = some (.int .u64 (z : Int))) (go_keep) (first
    | (go_at_call 14; refine (c1 _).mono ?_; clear c1; rintro e wA ⟨rfl, xA⟩; have zA := Lib.hid (ext_blk xA (by first | exact HB.out | exact HB.out.drewN _ | exact zB.out)); obtain ⟨s0, s1, s2⟩ := arr3f zA.out)
    | (go_at_call 15; refine (c2 _).mono ?_; clear c2; rintro e wB ⟨rfl, xB⟩; have zB := Lib.hid (ext_blk xB (by first | exact HB.out | exact HB.out.drewN _ | exact zA.out)); obtain ⟨t0, t1, t2⟩ := arr3f zB.out))
  all_goals go_wp2
  all_goals (
    go_ret
    refine ⟨rfl, ?_⟩
    first
      | exact ((((Ext.refl w).alloc _).trans x1).drew.trans xA).trans xB
      | exact ((((Ext.refl w).alloc _).trans x1).drew.trans xB).trans xA)

set_option maxRecDepth 100000 in
set_option maxHeartbeats 1000000 in
theorem walk_HashSums (A : Option Addr) (c : Nat) (l : List Nat) (hc : l.length ≤ c) (hcr : c ≤ 140737488351232) (hl : ∀ x ∈ l, x < 256) (w : World) (hr : Reads w w.heap.size 1 A l.length (bv l)) :
    Calls Try.prog 4 #[.slice A l.length c] w fun e w' => e = .returned (.bool true) ∧ Ext w w' := by
  have cl := fun W => live_any W
  by_cases h4 : 400 < l.length
  · have z1 : (400 : Int) < (l.length : Int) := by omega
    clear hr hl
    go_enter Try.func4, Try.ntmps4
    go_wp2_with (go_at_call 13; refine (cl _).mono ?_; clear cl; rintro e w1 ⟨rfl, x1⟩)
    go_ret
    exact ⟨rfl, x1⟩
  · have c1 := fun W (x : Ext w W) => Sum_any l hl (by omega) A c hc W ((hr.below x.out).more x.size)
    have c2 := fun W (x : Ext w W) => rSum_any l hl (by omega) A c hc W ((hr.below x.out).more x.size)
    have z1 : ¬ (400 : Int) < (l.length : Int) := by omega
    generalize (hSum l).1 = a at *
    generalize (hSum l).2 = b at *
    have q1 := eq2_same (a : Int) (b : Int)
    clear hr hl h4
    go_enter Try.func4, Try.ntmps4
    go_wp2_with (first
      | (go_at_call 13; refine (cl _).mono ?_; clear cl; rintro e w1 ⟨rfl, x1⟩)
      | (go_at_call 16; refine (c1 _ x1).mono ?_; clear c1; rintro e w2 ⟨rfl, x2⟩)
      | (go_at_call 17; refine (c2 _ (x1.trans x2)).mono ?_; clear c2; rintro e w3 ⟨rfl, x3⟩))
    go_ret
    exact ⟨rfl, (x1.trans x2).trans x3⟩

/-- What is counted of a tag and parts. -/
def fewN (t : Nat) (ps : List (List Nat)) : Nat := t + (ps.map fun p => 4 + p.length).sum
theorem fewN_snoc (t : Nat) (ps : List (List Nat)) (p : List Nat) : fewN t (ps ++ [p]) = fewN t ps + 4 + p.length := by simp [fewN]; omega
theorem fewN_take (t : Nat) (ps : List (List Nat)) (k : Nat) : fewN t (ps.take k) ≤ fewN t ps := by
  have e : fewN t ps = fewN t (ps.take k) + ((ps.drop k).map fun p => 4 + p.length).sum := by
    unfold fewN
    conv => lhs; rw [← List.take_append_drop k ps]
    rw [List.map_append, List.sum_append]
    omega
  omega
theorem fewN_coded (tag : ByteArray) (ps : List (List Nat)) : (coded (strN tag) ps).length = 1 + fewN tag.size ps := by
  unfold coded fewN
  rw [List.cons_append, List.length_cons, List.length_append, strN_length]
  have : (ps.flatMap fun p => be p.length 4 ++ p).length = (ps.map fun p => 4 + p.length).sum := by
    induction ps with
    | nil => rfl
    | cons p ps ih => rw [List.flatMap_cons, List.length_append, ih, List.map_cons, List.sum_cons, List.length_append, be_length]
  omega

set_option maxRecDepth 100000 in
theorem few_any (tag : ByteArray) (A : Option Addr) (c : Nat) (ps : List (List Nat)) (ht : tag.size ≤ 140737488351232) (hpc : ps.length ≤ c) (hcr : c * 24 ≤ 140737488351232) (hz : ∀ p ∈ ps, p.length ≤ 140737488351232) (w : World) (hr : Parts w w.heap.size A ps) :
    Calls Try.prog 18 #[.string tag, .slice A ps.length c] w fun e w' => e = .returned (.bool (decide (fewN tag.size ps ≤ 400))) ∧ w = w' := by
  have ht' : (tag.size : Int) ≤ 140737488351232 := by omega
  have hp' : (ps.length : Int) ≤ c := by omega
  have hc' : (c : Int) ≤ 140737488351232 := by omega
  have HR := Lib.hid hr
  have HZ := Lib.hid hz
  have HT := Lib.hid ht
  have H0 : Hid (fewN tag.size (ps.take 0) = tag.size) := by show _ = _; simp [fewN]
  clear hr hz ht hpc hcr
  go_enter Try.func18, Try.ntmps18
  go_wp2
  go_loopg [5, 6] ps.length (fun m s5 s6 wr => wr = w ∧ ∃ k : Nat, k + m = ps.length ∧ s5 = .int .i64 (fewN tag.size (ps.take k) : Nat) ∧ s6 = .int .i64 k ∧ (k = 0 ∨ fewN tag.size (ps.take k) ≤ 400))
  case atStart => exact ⟨rfl, 0, by omega, by rw [H0.out], rfl, .inl rfl⟩
  case round =>
    obtain ⟨rfl, k, hk, rfl, rfl, hn⟩ := hrel
    have hn' : fewN tag.size (ps.take k) ≤ 140737488351232 := by
      rcases hn with rfl | h
      · rw [H0.out]; exact HT.out
      · omega
    by_cases h : k < ps.length
    · obtain ⟨p, hp⟩ : ∃ p, ps[k]? = some p := ⟨_, List.getElem?_eq_getElem h⟩
      obtain ⟨ad, a, c', rfl, hcell, -, -⟩ := HR.out.at_ hp
      have hpl := HZ.out p (List.mem_of_getElem? hp)
      have e1 : fewN tag.size (ps.take (k + 1)) = fewN tag.size (ps.take k) + 4 + p.length := by rw [List.take_add_one, hp]; exact fewN_snoc _ _ _
      have e2 := fewN_take tag.size ps (k + 1)
      obtain ⟨n, hn0⟩ : ∃ n, n = fewN tag.size (ps.take k) := ⟨_, rfl⟩
      rw [← hn0] at hn' e1 ⊢
      have z1 : (n : Int) ≤ 140737488351232 := by omega
      have z2 : (p.length : Int) ≤ 140737488351232 := by omega
      have z3 : (k : Int) < ps.length := by omega
      have E1 := Lib.hid e1
      have HK := Lib.hid hk
      by_cases h4 : n + 4 + p.length ≤ 400
      · have z4 : ¬ (400 : Int) < (n : Int) + 4 + p.length := by omega
        have H4 := Lib.hid h4
        clear hn e1 e2 hn0 hk hn' hpl hp h h4
        go_wp2
        have hk := HK.out
        go_roundg (gk - 1)
        case measure => omega
        case rel => exact ⟨rfl, k + 1, by omega, int_congr (by rw [E1.out]; omega), int_congr (by omega), .inr (by rw [E1.out]; exact H4.out)⟩
      · have z4 : (400 : Int) < (n : Int) + 4 + p.length := by omega
        have HF : Hid (decide (fewN tag.size ps ≤ 400) = false) := by show _ = _; simp; omega
        clear hn e1 e2 hn0 hk hn' hpl hp h h4
        go_wp2
        go_ret
        exact ⟨ret_bool (by rw [HF.out]), rfl⟩
    · obtain rfl : k = ps.length := by omega
      rw [List.take_length] at hn hn' ⊢
      obtain ⟨n, hn0⟩ : ∃ n, n = fewN tag.size ps := ⟨_, rfl⟩
      rw [← hn0] at hn' ⊢
      have HN := Lib.hid hn0
      clear hn hn0 hk h
      go_wp2
      all_goals (
        go_ret
        refine ⟨ret_bool ?_, rfl⟩
        rw [← HN.out]
        first | exact decide_eq_decide.2 (by omega) | (simp; omega))

set_option maxRecDepth 100000 in
set_option maxHeartbeats 2000000 in
theorem walk_HashTags (tag : ByteArray) (A : Option Addr) (c : Nat) (ps : List (List Nat)) (a1 a2 b1 b2 : Nat) (ht : tag.size ≤ 140737488351232) (hpc : ps.length ≤ c) (hcr : c * 24 ≤ 140737488351232) (hz : ∀ p ∈ ps, p.length ≤ 140737488351232) (hps : ∀ p ∈ ps, ∀ x ∈ p, x < 256)
    (_ha1 : a1 < 18446744073709551616) (_ha2 : a2 < 18446744073709551616) (_hb1 : b1 < 18446744073709551616) (_hb2 : b2 < 18446744073709551616) (w : World) (hr : Parts w w.heap.size A ps) :
    Calls Try.prog 5 #[.string tag, .slice A ps.length c, .agg #[.int .u64 a1, .int .u64 a2], .agg #[.int .u64 b1, .int .u64 b2]] w fun e w' => e = .returned (.bool true) ∧ Ext w w' := by
  have cl := fun W => live_any W
  have HP : ∀ W, Ext w W → Parts W W.heap.size A ps := fun W x => by
    obtain ⟨vs, h1, h2⟩ := hr.below x.out
    exact ⟨vs, h1.more x.size, fun j p hj => by obtain ⟨a, c, e, hc, hr⟩ := h2 j p hj; exact ⟨a, c, e, hc, hr.more x.size⟩⟩
  have cf := fun W (x : Ext w W) => few_any tag A c ps ht hpc hcr hz W (HP W x)
  by_cases h4 : fewN tag.size ps ≤ 400
  · rw [decide_eq_true h4] at cf
    have htot : (coded (strN tag) ps).length ≤ 1099511627776 := by rw [fewN_coded]; omega
    have c1 := fun W (x : Ext w W) => Tagged_any tag ps hps A c W (HP W x) htot
    have c2 := fun W (x : Ext w W) => rTagged_any tag ps hps A c hpc W (HP W x) htot
    have c3 := fun W => Pair_any a1 a2 b1 b2 W
    have c4 := fun W => rPair_any a1 a2 b1 b2 W
    obtain ⟨x1, hx1⟩ : ∃ r, r = (hSum (coded (strN tag) ps)).1 := ⟨_, rfl⟩
    obtain ⟨x2, hx2⟩ : ∃ r, r = (hSum (coded (strN tag) ps)).2 := ⟨_, rfl⟩
    obtain ⟨y1, hy1⟩ : ∃ r, r = (hSum (pairB a1 a2 b1 b2)).1 := ⟨_, rfl⟩
    obtain ⟨y2, hy2⟩ : ∃ r, r = (hSum (pairB a1 a2 b1 b2)).2 := ⟨_, rfl⟩
    rw [← hx1, ← hx2] at c1 c2
    rw [← hy1, ← hy2] at c3 c4
    have q1 := eq2_same (x1 : Int) (x2 : Int)
    have q2 := eq2_same (y1 : Int) (y2 : Int)
    clear hr hps hz h4 htot hpc hcr ht HP hx1 hx2 hy1 hy2
    go_enter Try.func5, Try.ntmps5
    have x0 : Ext w ((w.alloc (.cells #[.int .u64 (a1 : Int), .int .u64 (a2 : Int)] 29)).alloc (.cells #[.int .u64 (b1 : Int), .int .u64 (b2 : Int)] 29)) := ((Ext.refl w).alloc _).alloc _
    have hA := (Blk.new w 29 #[.int .u64 (a1 : Int), .int .u64 (a2 : Int)]).alloc (.cells #[.int .u64 (b1 : Int), .int .u64 (b2 : Int)] 29)
    have hB := Blk.new (w.alloc (.cells #[.int .u64 (a1 : Int), .int .u64 (a2 : Int)] 29)) 29 #[.int .u64 (b1 : Int), .int .u64 (b2 : Int)]
    rw [World.size_alloc] at hB
    have HA := Lib.hid hA
    have HB := Lib.hid hB
    clear hA hB
    go_wp2_with (first
      | (go_at_call 13; refine (cl _).mono ?_; clear cl; rintro e w1 ⟨rfl, xl⟩; have x1' := x0.trans xl; have ZA := Lib.hid (ext_blk xl HA.out); have ZB := Lib.hid (ext_blk xl HB.out); obtain ⟨p0, p1⟩ := arr2' ZA.out; obtain ⟨p2, p3⟩ := arr2' ZB.out)
      | (go_at_call 18; refine (cf _ x1').mono ?_; clear cf; rintro e w' ⟨rfl, rfl⟩))
    have k0 := fun i : Later w1 => i.cell p0
    have k1 := fun i : Later w1 => i.cell p1
    have k2 := fun i : Later w1 => i.cell p2
    have k3 := fun i : Later w1 => i.cell p3
    refine wp_region_later (by kernel_rfl) (by kernel_rfl) ?_
    repeat (go_big_quiet_step (first
      | (go_at_call 19; exact Later.calls (c1 _ (x1'.trans (Later.ext _))))
      | (go_at_call 20; exact Later.calls (c2 _ (x1'.trans (Later.ext _))))
      | (go_at_call 21; exact Later.calls (c3 _))
      | (go_at_call 22; exact Later.calls (c4 _))))
    refine wpQuiet_nil ?_
    rintro _ ⟨⟨W', xW⟩, rfl⟩
    go_wp2
    go_ret
    exact ⟨rfl, x1'.trans xW⟩
  · rw [decide_eq_false h4] at cf
    clear hr hps hz h4 hpc hcr ht HP
    go_enter Try.func5, Try.ntmps5
    have x0 := fun o1 o2 => ((Ext.refl w).alloc o1).alloc o2
    go_wp2_with (first
      | (go_at_call 13; refine (cl _).mono ?_; clear cl; rintro e w1 ⟨rfl, xl⟩; have x1' := (x0 _ _).trans xl)
      | (go_at_call 18; refine (cf _ x1').mono ?_; clear cf; rintro e w' ⟨rfl, rfl⟩))
    go_ret
    exact ⟨rfl, x1'⟩
end Go.Proofs.Ytckfifghipkedaa
