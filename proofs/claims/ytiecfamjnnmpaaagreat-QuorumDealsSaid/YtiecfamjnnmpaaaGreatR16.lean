/- Parts of the proofs, put together: Qu4, Qu5, QuR, QuR2, QuR3, Qu6, Qu7, Qu8, Qu9, QuR4, Qu10, Qu11. -/
import Derived.Test.YtiecfamjnnmpaaaGreatR12
import Derived.Test.YtiecfamjnnmpaaaGreatR13
import Derived.Test.YtiecfamjnnmpaaaGreatR14
/- Sessions, walked: crew, enough, challenge, scaled. -/
namespace Go.Proofs.YtiecfamjnnmpaaaGreat
set_option linter.unusedVariables false
open Go.RowKit Go.Shelf Go.Maps
attribute [local irreducible] atN prodN sumN wantN chkN mix hSum hNum

/-- What is signed by some, in memory. -/
def Ses (w : World) (b : Nat) (t n : Int) (k : Nat) (p : List (Int × Nat)) (m : List Nat) (l : List (Int × Nat)) : Prop :=
  ∃ A c M d B e, Blk w b 69 #[.int .i64 t, .int .i64 n, .int .u64 (k : Int), .slice A p.length c, .slice M m.length d, .slice B l.length e] ∧ p.length ≤ c ∧ m.length ≤ d ∧ l.length ≤ e ∧
    Reads w w.heap.size 2 A p.length (sv p) ∧ Reads w w.heap.size 1 M m.length (bv m) ∧ Reads w w.heap.size 2 B l.length (sv l)
theorem Ses.ext {w W : World} {b : Nat} {t n : Int} {k : Nat} {p : List (Int × Nat)} {m : List Nat} {l : List (Int × Nat)} (h : Ses w b t n k p m l) (x : Ext w W) : Ses W b t n k p m l := by
  obtain ⟨A, c, M, d, B, e, h1, h2, h3, h4, h5, h6, h7⟩ := h
  exact ⟨A, c, M, d, B, e, ext_blk x h1, h2, h3, h4, (h5.below x.out).more x.size, (h6.below x.out).more x.size, (h7.below x.out).more x.size⟩
/-- What its values are. -/
structure SesV (k : Nat) (p : List (Int × Nat)) (m : List Nat) (l : List (Int × Nat)) : Prop where
  k64 : k < 18446744073709551616
  pw : idsWf p
  p64 : ∀ s ∈ p, s.2 < 18446744073709551616
  pn : p.length ≤ 1099511627776
  mb : ∀ x ∈ m, x < 256
  mn : m.length ≤ 1000
  lw : idsWf l
  l64 : ∀ s ∈ l, s.2 < 18446744073709551616
  ln : l.length ≤ 1099511627776
theorem arr6 {W : World} {g : Nat} {T : TypeId} {a b c d e f : Value} (h : Blk W g T #[a, b, c, d, e, f]) : W.cell? ⟨g, 0, none⟩ = some a ∧ W.cell? ⟨g, 1, none⟩ = some b ∧ W.cell? ⟨g, 2, none⟩ = some c ∧ W.cell? ⟨g, 3, none⟩ = some d ∧ W.cell? ⟨g, 4, none⟩ = some e ∧ W.cell? ⟨g, 5, none⟩ = some f := ⟨h.cell 0, h.cell 1, h.cell 2, h.cell 3, h.cell 4, h.cell 5⟩
/-- Its cells in every later world. -/
theorem later6 {W : World} {g : Nat} {T : TypeId} {a b c d e f : Value} (h : Blk W g T #[a, b, c, d, e, f]) : ∀ i : Later W, i.W.cell? ⟨g, 0, none⟩ = some a ∧ i.W.cell? ⟨g, 1, none⟩ = some b ∧ i.W.cell? ⟨g, 2, none⟩ = some c ∧ i.W.cell? ⟨g, 3, none⟩ = some d ∧ i.W.cell? ⟨g, 4, none⟩ = some e ∧ i.W.cell? ⟨g, 5, none⟩ = some f := fun i => arr6 (ext_blk i.ext h)

set_option maxRecDepth 100000 in
set_option maxHeartbeats 2000000 in
theorem crew_any (b : Nat) (t n : Int) (k : Nat) (p : List (Int × Nat)) (m : List Nat) (l : List (Int × Nat)) (v : SesV k p m l) (w : World) (h : Ses w b t n k p m l) :
    Calls Tryz.prog 52 #[.pointer (some ⟨b, 0, none⟩)] w fun e w' => e = .returned (.int .i64 (crewN t n k p : Nat)) ∧ Ext w w' := by
  obtain ⟨A, c, M, d, B, e, h1, h2, h3, h4, h5, h6, h7⟩ := h
  obtain ⟨a0, a1, a2, a3, a4, a5⟩ := arr6 h1
  have c1 := quCheck_any t n k v.k64 p v.pw v.p64 A c h2 v.pn w h5
  clear h1 h2 h3 h4 h5 h6 h7 v
  go_enter Tryz.func52, Tryz.ntmps52
  go_wp2_with (go_at_call 13; refine c1.mono ?_; clear c1; rintro e w1 ⟨rfl, x1⟩)
  go_ret
  exact ⟨rfl, x1⟩

/-- Commitments: they rise, are of the crew, and of the group. -/
def okC (n : Int) (l : List (Int × Nat)) : Prop := l.Pairwise (fun a b => a.1 < b.1) ∧ ∀ s ∈ l, 1 ≤ s.1 ∧ s.1 ≤ n ∧ inB s.2 = true
instance (n : Int) (l : List (Int × Nat)) : Decidable (okC n l) := by unfold okC; infer_instance
def lastI (l : List (Int × Nat)) : Int := match l.getLast? with | some s => s.1 | none => 0
theorem okC_nil (n : Int) : okC n [] := ⟨List.Pairwise.nil, by simp⟩
theorem lastI_snoc (l : List (Int × Nat)) (s : Int × Nat) : lastI (l ++ [s]) = s.1 := by simp [lastI]
theorem lastI_ge {n : Int} {l : List (Int × Nat)} (h : okC n l) : 0 ≤ lastI l ∧ ∀ s ∈ l, s.1 ≤ lastI l := by
  rcases List.eq_nil_or_concat l with rfl | ⟨l', s, rfl⟩
  · exact ⟨by simp [lastI], by simp⟩
  · rw [List.concat_eq_append] at h ⊢
    rw [lastI_snoc]
    have h1 := (h.2 s (by simp)).1
    refine ⟨by omega, fun r hr => ?_⟩
    rcases List.mem_append.1 hr with hr | hr
    · have := (List.pairwise_append.1 h.1).2.2 r hr s (by simp)
      omega
    · rw [List.mem_singleton] at hr; subst hr; exact Int.le_refl _
theorem okC_snoc {n : Int} (l : List (Int × Nat)) (s : Int × Nat) : okC n (l ++ [s]) ↔ okC n l ∧ lastI l < s.1 ∧ s.1 ≤ n ∧ inB s.2 = true := by
  constructor
  · intro h
    have hl : okC n l := ⟨(List.pairwise_append.1 h.1).1, fun r hr => h.2 r (List.mem_append.2 (.inl hr))⟩
    have hs := h.2 s (by simp)
    refine ⟨hl, ?_, hs.2⟩
    rcases List.eq_nil_or_concat l with rfl | ⟨l', r, rfl⟩
    · simp [lastI]; omega
    · rw [List.concat_eq_append] at h ⊢
      rw [lastI_snoc]
      exact (List.pairwise_append.1 h.1).2.2 r (by simp) s (by simp)
  · rintro ⟨hl, h1, h2, h3⟩
    obtain ⟨g1, g2⟩ := lastI_ge hl
    refine ⟨List.pairwise_append.2 ⟨hl.1, List.pairwise_singleton _ _, fun a ha c hc => ?_⟩, fun r hr => ?_⟩
    · rw [List.mem_singleton] at hc; subst hc
      have := g2 a ha
      omega
    · rcases List.mem_append.1 hr with hr | hr
      · exact hl.2 r hr
      · rw [List.mem_singleton] at hr; subst hr; exact ⟨by omega, h2, h3⟩
theorem okC_take_succ {n : Int} {l : List (Int × Nat)} {k : Nat} {s : Int × Nat} (hs : l[k]? = some s) : okC n (l.take (k + 1)) ↔ okC n (l.take k) ∧ lastI (l.take k) < s.1 ∧ s.1 ≤ n ∧ inB s.2 = true := by
  rw [List.take_add_one, hs]; exact okC_snoc _ _
theorem lastI_take_succ {l : List (Int × Nat)} {k : Nat} {s : Int × Nat} (hs : l[k]? = some s) : lastI (l.take (k + 1)) = s.1 := by
  rw [List.take_add_one, hs]; exact lastI_snoc _ _
theorem okC_not {n : Int} {l : List (Int × Nat)} {k : Nat} (h : ¬ okC n (l.take k)) : ¬ okC n l := fun h' => h (by
  rw [← List.take_append_drop k l] at h'
  exact ⟨(List.pairwise_append.1 h'.1).1, fun r hr => h'.2 r (List.mem_append.2 (.inl hr))⟩)
/-- What is wrong with commitments. -/
def enN (t n : Int) (l : List (Int × Nat)) : Nat := if okC n l then (if (l.length : Int) < t then 50 else 0) else 1

set_option maxRecDepth 100000 in
set_option maxHeartbeats 4000000 in
theorem enough_any (b : Nat) (t n : Int) (k : Nat) (p : List (Int × Nat)) (m : List Nat) (l : List (Int × Nat)) (v : SesV k p m l) (w : World) (h : Ses w b t n k p m l) :
    Calls Tryz.prog 53 #[.pointer (some ⟨b, 0, none⟩)] w fun e w' => e = .returned (.int .i64 (enN t n l : Nat)) ∧ Ext w w' := by
  obtain ⟨A, c, M, d, B, e, h1, h2, h3, h4, h5, h6, h7⟩ := h
  obtain ⟨a0, a1, a2, a3, a4, a5⟩ := arr6 h1
  have HB := Lib.hid h1
  have hr0 := Lib.hid h7
  have HXL := Lib.hid v.l64
  have HN := Lib.hid v.ln
  clear h1 h2 h3 h4 h5 h6 h7 v
  go_enter Tryz.func53, Tryz.ntmps53
  go_wp2
  go_step3
  go_wp2
  go_step3
  go_wp2
  clear a0 a1 a2 a3 a4 a5
  go_loopg [3, 11] l.length (fun g s3 s11 wr => ∃ j : Nat, j + g = l.length ∧ s11 = .int .i64 j ∧ s3 = .int .i64 (lastI (l.take j)) ∧ okC n (l.take j) ∧ Ext w wr)
  case atStart => exact ⟨0, by omega, rfl, rfl, okC_nil n, Ext.refl w⟩
  case round =>
    obtain ⟨j, hj, rfl, rfl, hok, hx⟩ := hrel
    obtain ⟨a0, a1, a2, a3, a4, a5⟩ := arr6 (ext_blk hx HB.out)
    by_cases h : j < l.length
    · obtain ⟨s, hs⟩ : ∃ s, l[j]? = some s := ⟨_, List.getElem?_eq_getElem h⟩
      obtain ⟨ad, rfl, hlt, q0, q1⟩ := reads_share (hr0.out.below hx.out) hs
      have hjb : (j : Int) ≤ 1099511627776 := by have := HN.out; omega
      have ci := fun W => In_any s.2 (HXL.out s (List.mem_of_getElem? hs)) W
      have HT := Lib.hid (okC_take_succ (n := n) hs)
      have HL := Lib.hid (lastI_take_succ hs)
      have HX := Lib.hid hx
      have HJ := Lib.hid hj
      have HO := Lib.hid hok
      obtain ⟨la, hla⟩ : ∃ q, q = lastI (l.take j) := ⟨_, rfl⟩
      rw [← hla] at HT ⊢
      obtain ⟨W0, hW0⟩ : ∃ W, W = wr.alloc (.cells #[.int .i64 s.1, .int .u64 (s.2 : Int)] 37) := ⟨_, rfl⟩
      have b1 := Blk.new wr 37 #[.int .i64 s.1, .int .u64 (s.2 : Int)]
      rw [← hW0] at b1
      have x4 : Ext wr W0 := by rw [hW0]; exact (Ext.refl wr).alloc _
      obtain ⟨k0, k1, -, -⟩ := arr2 b1
      have k2 := x4.cell a1
      have HW := Lib.hid hW0
      have X4 := Lib.hid (hx.trans x4)
      clear hx hj hok hs hla hW0 b1 x4 HX
      by_cases h1 : la < s.1
      · have d1 : decide (la < s.1) = true := decide_eq_true h1
        by_cases h2 : s.1 ≤ n
        · have d2 : decide (s.1 ≤ n) = true := decide_eq_true h2
          cases hb : inB s.2 with
          | true =>
            have hok' : Hid (okC n (l.take (j + 1))) := Lib.hid (HT.out.2 ⟨HO.out, h1, h2, hb⟩)
            rw [hb] at ci
            clear hb h1 h2
            go_wp2
            rw [← HW.out]
            have i0 := fun i : Later W0 => i.cell k0
            have i1 := fun i : Later W0 => i.cell k1
            have i2 := fun i : Later W0 => i.cell k2
            clear q0 q1 k0 k1 k2 a0 a1 a2 a3 a4 a5
            refine wp_region_later (by kernel_rfl) (by kernel_rfl) ?_
            repeat (go_big_quiet_step ((go_at_call 34; exact Later.calls (ci _))))
            refine wpQuiet_nil ?_
            rintro W2 ⟨q, hq⟩
            have x5 : Ext w W2 := by rw [hq]; exact X4.out.trans q.ext
            have k3 := i0 q
            rw [← hq] at k3
            clear hq q i0 i1 i2
            go_wp2
            have hj := HJ.out
            go_roundg (gk - 1)
            case measure => omega
            case rel => exact ⟨j + 1, by omega, int_congr (by omega), by rw [HL.out], hok'.out, x5⟩
          | false =>
            have kk : Hid (enN t n l = 1) := Lib.hid (if_neg (okC_not (k := j + 1) fun h => by have := (HT.out.1 h).2.2.2; rw [hb] at this; cases this))
            rw [hb] at ci
            clear hb h1 h2
            go_wp2
            rw [← HW.out]
            have i0 := fun i : Later W0 => i.cell k0
            have i1 := fun i : Later W0 => i.cell k1
            have i2 := fun i : Later W0 => i.cell k2
            clear q0 q1 k0 k1 k2 a0 a1 a2 a3 a4 a5
            refine wp_region_later (by kernel_rfl) (by kernel_rfl) ?_
            repeat (go_big_quiet_step ((go_at_call 34; exact Later.calls (ci _))))
            refine wpQuiet_nil ?_
            rintro W2 ⟨q, hq⟩
            have x5 : Ext w W2 := by rw [hq]; exact X4.out.trans q.ext
            clear hq q i0 i1 i2
            go_wp2
            try rw [Exit.noGoto_ret]
            go_ret
            exact ⟨by rw [kk.out]; rfl, x5⟩
        · have d2 : decide (s.1 ≤ n) = false := decide_eq_false h2
          have kk : Hid (enN t n l = 1) := Lib.hid (if_neg (okC_not (k := j + 1) fun h => h2 (HT.out.1 h).2.2.1))
          clear h1 h2 ci
          go_wp2
          rw [← HW.out]
          have i0 := fun i : Later W0 => i.cell k0
          have i1 := fun i : Later W0 => i.cell k1
          have i2 := fun i : Later W0 => i.cell k2
          clear q0 q1 k0 k1 k2 a0 a1 a2 a3 a4 a5
          refine wp_region_later (by kernel_rfl) (by kernel_rfl) ?_
          repeat (go_big_quiet_step (fail))
          refine wpQuiet_nil ?_
          rintro W2 ⟨q, hq⟩
          have x5 : Ext w W2 := by rw [hq]; exact X4.out.trans q.ext
          clear hq q i0 i1 i2
          go_wp2
          try rw [Exit.noGoto_ret]
          go_ret
          exact ⟨by rw [kk.out]; rfl, x5⟩
      · have d1 : decide (la < s.1) = false := decide_eq_false h1
        have kk : Hid (enN t n l = 1) := Lib.hid (if_neg (okC_not (k := j + 1) fun h => h1 (HT.out.1 h).2.1))
        clear h1 ci
        go_wp2
        rw [← HW.out]
        have i0 := fun i : Later W0 => i.cell k0
        have i1 := fun i : Later W0 => i.cell k1
        have i2 := fun i : Later W0 => i.cell k2
        clear q0 q1 k0 k1 k2 a0 a1 a2 a3 a4 a5
        refine wp_region_later (by kernel_rfl) (by kernel_rfl) ?_
        repeat (go_big_quiet_step (fail))
        refine wpQuiet_nil ?_
        rintro W2 ⟨q, hq⟩
        have x5 : Ext w W2 := by rw [hq]; exact X4.out.trans q.ext
        clear hq q i0 i1 i2
        go_wp2
        try rw [Exit.noGoto_ret]
        go_ret
        exact ⟨by rw [kk.out]; rfl, x5⟩
    · obtain rfl : j = l.length := by omega
      rw [List.take_length] at hok ⊢
      obtain ⟨la, hla⟩ : ∃ q, q = lastI l := ⟨_, rfl⟩
      rw [← hla]
      by_cases h1 : (l.length : Int) < t
      · have kk : Hid (enN t n l = 50) := Lib.hid (by unfold enN; rw [if_pos hok, if_pos h1])
        have HX := Lib.hid hx
        clear hx hok hla hj
        go_wp2
        go_region
        all_goals (
          go_wp2
          try rw [Exit.noGoto_ret]
          go_ret
          exact ⟨by rw [kk.out]; rfl, HX.out.drew⟩)
      · have kk : Hid (enN t n l = 0) := Lib.hid (by unfold enN; rw [if_pos hok, if_neg h1])
        have HX := Lib.hid hx
        clear hx hok hla hj
        go_wp2
        go_region
        all_goals (
          go_wp2
          try rw [Exit.noGoto_ret]
          go_ret
          exact ⟨by rw [kk.out]; rfl, HX.out.drew⟩)
end Go.Proofs.YtiecfamjnnmpaaaGreat

/- Sessions, walked: challenge, scaled, of. -/
namespace Go.Proofs.YtiecfamjnnmpaaaGreat
set_option linter.unusedVariables false
open Go.RowKit Go.Shelf Go.Maps
attribute [local irreducible] atN prodN sumN wantN chkN mix hSum hNum chalN

/-- What all answer. -/
def chN (k : Nat) (m : List Nat) (l : List (Int × Nat)) : Nat := chalN (prodBy (fun s => s.2) l) k m
theorem chN_lt (k : Nat) (m : List Nat) (l : List (Int × Nat)) : chN k m l < bR := by unfold chN chalN; exact hNum_lt _ _ (by decide)
/-- As somebody answers it. -/
def scN (k : Nat) (m : List Nat) (l : List (Int × Nat)) (id : Int) : Nat := mulM bR (chN k m l) (wgtV (l.map (·.1)) id)
theorem scN_lt (k : Nat) (m : List Nat) (l : List (Int × Nat)) (id : Int) : scN k m l id < bR := mulM_lt (by decide) _ _
theorem wgtV_lt (l : List Int) (id : Int) : wgtV l id < bR := by
  unfold wgtV
  split
  · exact atN_lt _ _ _
  · decide

set_option maxRecDepth 100000 in
set_option maxHeartbeats 2000000 in
theorem challenge_any (b : Nat) (t n : Int) (k : Nat) (p : List (Int × Nat)) (m : List Nat) (l : List (Int × Nat)) (v : SesV k p m l) (w : World) (h : Ses w b t n k p m l) :
    Calls Tryz.prog 56 #[.pointer (some ⟨b, 0, none⟩)] w fun e w' => e = .returned (.int .u64 (chN k m l : Nat)) ∧ Ext w w' := by
  obtain ⟨A, c, M, d, B, e, h1, h2, h3, h4, h5, h6, h7⟩ := h
  obtain ⟨a0, a1, a2, a3, a4, a5⟩ := arr6 h1
  have HB := Lib.hid h1
  have c1 := fun (W : World) (x : Ext w W) => product_any _ chalX_enters #[] (fun s : Int × Nat => s.2) l v.l64 v.ln B e W ((h7.below x.out).more x.size) (fun W' s hs x' => chalX_any s.1 s.2 W')
  have hlt := Nat.lt_trans (prodBy_lt (fun s : Int × Nat => s.2) l) (show bQ < 18446744073709551616 by decide)
  obtain ⟨x, hx⟩ : ∃ x, x = prodBy (fun s : Int × Nat => s.2) l := ⟨_, rfl⟩
  unfold chN
  rw [← hx] at c1 hlt ⊢
  have c2 := fun (W : World) (xW : Ext w W) => Challenge_any x k hlt v.k64 m v.mb v.mn M d h3 W ((h6.below xW.out).more xW.size)
  obtain ⟨y, hy⟩ : ∃ y, y = chalN x k m := ⟨_, rfl⟩
  rw [← hy] at c2 ⊢
  clear h1 h2 h3 h4 h5 h6 h7 v hx hlt hy
  go_enter Tryz.func56, Tryz.ntmps56
  go_wp2_with (go_at_call 36; refine (c1 _ (Ext.refl w)).mono ?_; clear c1; rintro e w1 ⟨rfl, x1⟩)
  have hl := later6 (ext_blk x1 HB.out)
  have i1 := fun i : Later w1 => (hl i).2.2.1
  have i2 := fun i : Later w1 => (hl i).2.2.2.2.1
  clear a0 a1 a2 a3 a4 a5 hl
  refine wp_region_later (by kernel_rfl) (by kernel_rfl) ?_
  repeat (go_big_quiet_step ((go_at_call 72; exact Later.calls (c2 _ (x1.trans (Later.ext _))))))
  refine wpQuiet_nil ?_
  rintro W2 ⟨q, hq⟩
  have x5 : Ext w W2 := by rw [hq]; exact x1.trans q.ext
  clear hq q i1 i2
  go_wp2
  go_ret
  exact ⟨rfl, x5⟩

set_option maxRecDepth 100000 in
set_option maxHeartbeats 2000000 in
theorem scaled_any (b : Nat) (t n : Int) (k : Nat) (p : List (Int × Nat)) (m : List Nat) (l : List (Int × Nat)) (v : SesV k p m l) (id : Int) (w : World) (h : Ses w b t n k p m l) :
    Calls Tryz.prog 63 #[.pointer (some ⟨b, 0, none⟩), .int .i64 id] w fun e w' => e = .returned (.int .u64 (scN k m l id : Nat)) ∧ Ext w w' := by
  have c1 := fun (W : World) (x : Ext w W) => challenge_any b t n k p m l v W (h.ext x)
  obtain ⟨A, c, M, d, B, e, h1, h2, h3, h4, h5, h6, h7⟩ := h
  have HB := Lib.hid h1
  have c2 := fun (W : World) (x : Ext w W) => weight_any l v.lw id B e v.ln W ((h7.below x.out).more x.size)
  have l1 := r64 (chN_lt k m l)
  have l2 := r64 (wgtV_lt (l.map (·.1)) id)
  unfold scN
  obtain ⟨x, hx⟩ : ∃ x, x = chN k m l := ⟨_, rfl⟩
  obtain ⟨y, hy⟩ : ∃ x, x = wgtV (l.map (·.1)) id := ⟨_, rfl⟩
  rw [← hx] at c1 l1 ⊢
  rw [← hy] at c2 l2 ⊢
  have c3 := fun w => MulRE x y l1 l2 w
  have hl := later6 h1
  have i1 := fun i : Later w => (hl i).2.2.2.2.2
  clear h1 h2 h3 h4 h5 h6 h7 v hx l1 l2 hy hl
  go_enter Tryz.func63, Tryz.ntmps63
  go_wp2
  refine wp_region_later (by kernel_rfl) (by kernel_rfl) ?_
  repeat (go_big_quiet_step (first
    | (go_at_call 56; exact Later.calls (c1 _ (Later.ext _)))
    | (go_at_call 39; exact Later.calls (c2 _ (Later.ext _)))
    | (go_at_call 62; exact Later.calls (c3 _))))
  refine wpQuiet_nil ?_
  rintro W2 ⟨q, hq⟩
  have x5 : Ext w W2 := by rw [hq]; exact q.ext
  clear hq q i1
  go_wp2
  go_ret
  exact ⟨rfl, x5⟩

/-- Where somebody's is. -/
def ixI (f : Int × Nat → Bool) (l : List (Int × Nat)) : Int := match l.findIdx? f with | some i => (i : Int) | none => -1

set_option maxRecDepth 100000 in
set_option maxHeartbeats 2000000 in
theorem index_any (F : FuncId) (hE : Enters Tryz.prog F) (cap : Array Value) (f : Int × Nat → Bool) (l : List (Int × Nat)) (hn : l.length ≤ 1099511627776) (A : Option Addr) (c : Nat) (w : World) (hr : Reads w w.heap.size 2 A l.length (sv l))
    (hstep : ∀ (W : World) (s : Int × Nat), s ∈ l → Ext w W → Calls Tryz.prog F (#[.agg #[.int .i64 s.1, .int .u64 (s.2 : Int)]] ++ cap) W fun e w' => e = .returned (.bool (f s)) ∧ Ext W w') :
    Calls Tryz.prog 105 #[.slice A l.length c, .func (.func F) #[] cap] w fun e w' => e = .returned (.int .i64 (ixI f l)) ∧ Ext w w' := by
  have hr0 : Hid (Reads w w.heap.size 2 A l.length (sv l)) := Lib.hid hr
  have HN := Lib.hid hn
  have HS := Lib.hid hstep
  unfold Enters at hE
  clear hr hn hstep
  go_enter Tryz.func105, Tryz.ntmps105
  go_wp2
  go_loopg [8] l.length (fun m s8 wr => ∃ j : Nat, j + m = l.length ∧ s8 = .int .i64 j ∧ (∀ s ∈ l.take j, f s = false) ∧ Ext w wr)
  case atStart => exact ⟨0, by omega, rfl, by simp, Ext.refl w⟩
  case round =>
    obtain ⟨j, hj, rfl, hok, hx⟩ := hrel
    by_cases h : j < l.length
    · obtain ⟨s, hs⟩ : ∃ s, l[j]? = some s := ⟨_, List.getElem?_eq_getElem h⟩
      obtain ⟨ad, rfl, hlt, q0, q1⟩ := reads_share (hr0.out.below hx.out) hs
      have hjb : (j : Int) ≤ 1099511627776 := by have := HN.out; omega
      have c1 := fun (W : World) => HS.out W s (List.mem_of_getElem? hs)
      have e1 : l.take (j + 1) = l.take j ++ [s] := by rw [List.take_add_one, hs]; rfl
      cases hf : f s with
      | true =>
        have kk : Hid (ixI f l = (j : Int)) := Lib.hid (by
          have : l.findIdx? f = some j := by
            rw [List.findIdx?_eq_some_iff_getElem]
            have hsg := (List.getElem?_eq_some_iff.1 hs).2
            refine ⟨h, by rw [hsg]; exact hf, fun i hi => ?_⟩
            have := hok (l[i]'(by omega)) (List.mem_take_iff_getElem.2 ⟨i, by omega, rfl⟩)
            rw [this]; decide
          unfold ixI; rw [this])
        rw [hf] at c1
        have HX := Lib.hid hx
        clear hx hj hs hf hok e1
        go_wp2_with (go_at_fn F; refine (c1 _ HX.out).mono ?_; clear c1; rintro e w1 ⟨rfl, x1⟩)
        go_ret
        exact ⟨by rw [kk.out]; rfl, HX.out.trans x1⟩
      | false =>
        have hok' : Hid (∀ s ∈ l.take (j + 1), f s = false) := Lib.hid fun r hr => by
          rw [e1] at hr
          rcases List.mem_append.1 hr with hr | hr
          · exact hok r hr
          · rw [List.mem_singleton] at hr; subst hr; exact hf
        rw [hf] at c1
        have HX := Lib.hid hx
        have HJ := Lib.hid hj
        clear hx hj hs hf hok e1
        go_wp2_with (go_at_fn F; refine (c1 _ HX.out).mono ?_; clear c1; rintro e w1 ⟨rfl, x1⟩)
        have hj := HJ.out
        go_roundg (gk - 1)
        case measure => omega
        case rel => exact ⟨j + 1, by omega, int_congr (by omega), hok'.out, HX.out.trans x1⟩
    · obtain rfl : j = l.length := by omega
      rw [List.take_length] at hok
      have kk : Hid (ixI f l = -1) := Lib.hid (by
        have : l.findIdx? f = none := List.findIdx?_eq_none_iff.2 hok
        unfold ixI; rw [this])
      have HX := Lib.hid hx
      clear hx hj h hok
      go_wp2
      go_ret
      exact ⟨by rw [kk.out]; rfl, HX.out⟩
end Go.Proofs.YtiecfamjnnmpaaaGreat

/- Crews by the document, walked: ids, joint, Check. -/
namespace Go.Proofs.YtiecfamjnnmpaaaGreat
set_option linter.unusedVariables false
open Go.RowKit Go.Shelf Go.Maps
attribute [local irreducible] atN prodN sumN wantN chkN mix hSum hNum chalN wgtV wgtE inB

set_option maxRecDepth 100000 in
set_option maxHeartbeats 2000000 in
theorem rids_any (l : List (Int × Nat)) (A : Option Addr) (c : Nat) (hn : l.length ≤ 1099511627776) (w : World) (hr : Reads w w.heap.size 2 A l.length (sv l)) :
    Calls Tryz.prog 99 #[.slice A l.length c] w fun e w' => ∃ A' c', e = .returned (.slice A' l.length c') ∧ l.length ≤ c' ∧ Reads w' w'.heap.size 1 A' l.length (iv (l.map (·.1))) ∧ Ext w w' := by
  obtain ⟨i0, hi, hz0, hz1, hz2⟩ := info_parts Tryz.infoI64
  have hr0 : Hid (Reads w w.heap.size 2 A l.length (sv l)) := Lib.hid hr
  have HN := Lib.hid hn
  clear hr hn
  go_enter Tryz.func99, Tryz.ntmps99
  go_wp2
  go_loopg [3, 4] l.length (fun m s3 s4 wr => ∃ j : Nat, j + m = l.length ∧ s4 = .int .i64 j ∧ wr.ownsRow w.heap.size 3 1 s3 (l.take j).length (iv ((l.take j).map (·.1))) ∧ Ext w wr)
  case atStart => exact ⟨0, by omega, rfl, own_nil w _ _ _, Ext.refl w⟩
  case round =>
    obtain ⟨j, hj, rfl, hown, hx⟩ := hrel
    by_cases h : j < l.length
    · obtain ⟨s, hs⟩ : ∃ s, l[j]? = some s := ⟨_, List.getElem?_eq_getElem h⟩
      obtain ⟨ad, rfl, hlt, q0, q1⟩ := reads_share (hr0.out.below hx.out) hs
      have e1 : l.take (j + 1) = l.take j ++ [s] := by rw [List.take_add_one, hs]; rfl
      have hjb : (j : Int) ≤ 1099511627776 := by have := HN.out; omega
      have HE := Lib.hid e1
      have HX := Lib.hid hx
      have HJ := Lib.hid hj
      clear e1 hx hj hs
      go_wp2_with (at_builtin; refine wpList_append_own _ rfl (.tmp 11) (.tmp 17) 71 rfl w.heap.size 3 i0 (.int .i64 0) 1 8 Tryz.underlying71 hi hz0 hz1 hz2 rfl (by decide) _ _ _ rfl (hown.alloc _) ⟨wr.heap.size, 0, none⟩ 1 1 [.int .i64 s.1] rfl rfl (cell_one_new _ _ _) (by simp [Value.oneCell']) (by have := HN.out; have := HJ.out; simp only [maxLen, List.length_take]; omega) (by have := HN.out; simp only [List.length_take]; omega) (by have := HX.out.size; simp; omega) ?_; intro v2 w2 hown2 hg2 _)
      have X2 := ext_grown (HX.out.alloc _) (hown.alloc _) hg2
      have O2 : Hid (w2.ownsRow w.heap.size 3 1 v2 (l.take (j + 1)).length (iv ((l.take (j + 1)).map (·.1)))) := by
        show World.ownsRow _ _ _ _ _ _ _
        rw [HE.out, List.length_append, List.map_append, iv_append]
        exact hown2
      clear hown2 hg2 hown
      have hj := HJ.out
      go_wp2
      go_roundg (gk - 1)
      case measure => omega
      case rel => exact ⟨j + 1, by omega, int_congr (by omega), O2.out, X2⟩
    · obtain rfl : j = l.length := by omega
      rw [List.take_length] at hown
      obtain ⟨A', c', rfl, hc', hr'⟩ := own_slice hown
      have HR := Lib.hid hr'
      have HX := Lib.hid hx
      clear hr' hx hown hj h
      go_wp2
      go_ret
      exact ⟨A', c', rfl, hc', HR.out, HX.out⟩


set_option maxRecDepth 100000 in
set_option maxHeartbeats 4000000 in
theorem rjoint_any (l : List (Int × Nat)) (hX : ∀ s ∈ l, s.2 < 18446744073709551616) (A : Option Addr) (c : Nat) (hn : l.length ≤ 1099511627776) (w : World) (hr : Reads w w.heap.size 2 A l.length (sv l)) :
    Calls Tryz.prog 42 #[.slice A l.length c] w fun e w' => e = .returned (.int .u64 (jointN l : Nat)) ∧ Ext w w' := by
  have HR := Lib.hid fun (W : World) (x : Ext w W) => (hr.below x.out).more x.size
  have HI := Lib.hid fun (W : World) (x : Ext w W) => rids_any l A c hn W ((hr.below x.out).more x.size)
  have HWG := Lib.hid fun (W : World) (id : Int) B b hb => rWeight_any (l.map fun s : Int × Nat => s.1) id B b (by rw [List.length_map]; exact hn) W hb
  simp only [List.length_map] at HWG
  have HXL := Lib.hid hX
  have HN := Lib.hid hn
  obtain ⟨g, hg⟩ : ∃ g : Int × Nat → Nat, g = fun s => powM bQ s.2 (wgtV (l.map fun s : Int × Nat => s.1) s.1) := ⟨_, rfl⟩
  have hjt : jointN l = l.foldl (fun o s => mulM bQ o (g s)) 1 := by rw [hg]; rfl
  rw [hjt]
  have HG := Lib.hid fun s : Int × Nat => congrFun hg s
  clear hr hn hX hg hjt
  go_enter Tryz.func42, Tryz.ntmps42
  go_wp2
  go_loopg [3, 4] l.length (fun m s3 s4 wr => ∃ j : Nat, j + m = l.length ∧ s4 = .int .i64 j ∧ s3 = .int .u64 ((l.take j).foldl (fun o s => mulM bQ o (g s)) 1 : Nat) ∧ Ext w wr)
  case atStart => exact ⟨0, by omega, rfl, rfl, Ext.refl w⟩
  case round =>
    obtain ⟨j, hj, rfl, rfl, hx⟩ := hrel
    by_cases h : j < l.length
    · obtain ⟨s, hs⟩ : ∃ s, l[j]? = some s := ⟨_, List.getElem?_eq_getElem h⟩
      have hjl : (j : Int) < l.length := by omega
      obtain ⟨ad, rfl, hlt, q0, q1⟩ := reads_share (HR.out wr hx) hs
      have hjb : (j : Int) ≤ 1099511627776 := by have := HN.out; omega
      have hft := foldl_take hs (fun o s => mulM bQ o (g s)) 1
      have hob : (l.take j).foldl (fun o s => mulM bQ o (g s)) 1 < bQ := foldl_lt _ bQ (fun o k ho => mulM_lt (by decide) _ _) _ 1 (by decide)
      obtain ⟨o, ho⟩ : ∃ o, o = (l.take j).foldl (fun o s => mulM bQ o (g s)) 1 := ⟨_, rfl⟩
      rw [← ho] at hft hob ⊢
      have cI := fun (W : World) (x : Ext w W) => HI.out W x
      have cW := fun (W : World) B b hb => HWG.out W s.1 B b hb
      unfold wgtR at cW
      have hgs := HG.out s
      have hwl := wgtV_lt (l.map fun s : Int × Nat => s.1) s.1
      obtain ⟨v, hv⟩ : ∃ v, v = wgtV (l.map fun s : Int × Nat => s.1) s.1 := ⟨_, rfl⟩
      obtain ⟨f, hf⟩ : ∃ f, f = wgtE (l.map fun s : Int × Nat => s.1) s.1 := ⟨_, rfl⟩
      rw [← hv] at cW hgs hwl
      rw [← hf] at cW
      have cP := fun W => rPow_any s.2 v (HXL.out s (List.mem_of_getElem? hs)) (lt64_R hwl) W
      have cM := fun W => rMul_any o (g s) (by rw [hgs]; exact pw64 _ _) W
      rw [← hgs] at cP
      have HX := Lib.hid hx
      have HJ := Lib.hid hj
      have HFT := Lib.hid hft
      clear hx hj hs h hft hob ho hgs hwl hv hf
      go_wp2
      go_region_held3 (fun w' => w'.cell? (ad.add (j * 2)) = some (.int .i64 s.1)) (go_keep) (first
        | (go_at_call 99; refine (cI _ (HX.out.trans (Ext.refl wr).drew)).mono ?_; clear cI; rintro e w1 ⟨B, b, rfl, -, rb, x1⟩; have x1 := (Ext.refl wr).drew.trans x1; have r0 := x1.cell q0)
        | (go_at_call 98; refine (cW _ _ _ rb).mono ?_; clear cW; rintro e w2 ⟨rfl, x2⟩; have x2 := x1.trans x2; have r1 := x2.cell q0; have r2 := x2.cell q1))
      have X2 := Lib.hid (HX.out.trans x2)
      clear q0 q1 r0 x1 x2 rb
      go_wp2_with (first
        | (go_at_call 69; refine (cP _).mono ?_; clear cP; rintro e w3 ⟨rfl, rfl⟩)
        | (go_at_call 68; refine (cM _).mono ?_; clear cM; rintro e w4 ⟨rfl, rfl⟩))
      have hj := HJ.out
      go_roundg (gk - 1)
      case measure => omega
      case rel => exact ⟨j + 1, by omega, int_congr (by omega), by rw [HFT.out], X2.out⟩
    · obtain rfl : j = l.length := by omega
      have HX := Lib.hid hx
      have e1 : l.take l.length = l := List.take_length
      rw [e1]
      clear hx hj h
      go_wp2
      go_ret
      exact ⟨rfl, HX.out⟩
end Go.Proofs.YtiecfamjnnmpaaaGreat

/- Crews by the document, walked: Check. -/
namespace Go.Proofs.YtiecfamjnnmpaaaGreat
set_option linter.unusedVariables false
open Go.RowKit Go.Shelf Go.Maps
attribute [local irreducible] atN prodN sumN wantN chkN mix hSum hNum chalN wgtV wgtE inB

set_option maxRecDepth 100000 in
set_option maxHeartbeats 4000000 in
theorem rquCheck_any (t n : Int) (k : Nat) (hk : k < 18446744073709551616) (p : List (Int × Nat)) (hX : ∀ s ∈ p, s.2 < 18446744073709551616) (A : Option Addr) (c : Nat) (hc : p.length ≤ c) (hn : p.length ≤ 1099511627776) (w : World) (hr : Reads w w.heap.size 2 A p.length (sv p)) :
    Calls Tryz.prog 14 #[.agg #[.int .i64 t, .int .i64 n, .int .u64 (k : Int), .slice A p.length c]] w fun e w' => e = .returned (.int .i64 (crewN t n k p : Nat)) ∧ Ext w w' := by
  by_cases t1 : t < 1
  · rw [crew_out (.inl t1)]
    clear hr hX hn hc hk
    go_enter Tryz.func14, Tryz.ntmps14
    go_wp2
    go_ret
    exact ⟨rfl, (Ext.refl w).alloc _⟩
  by_cases t2 : n < t
  · rw [crew_out (.inr (.inl t2))]
    clear hr hX hn hc hk
    go_enter Tryz.func14, Tryz.ntmps14
    go_wp2
    go_ret
    exact ⟨rfl, (Ext.refl w).alloc _⟩
  by_cases t3 : 7 < n
  · rw [crew_out (.inr (.inr (.inl t3)))]
    clear hr hX hn hc hk
    go_enter Tryz.func14, Tryz.ntmps14
    go_wp2
    go_ret
    exact ⟨rfl, (Ext.refl w).alloc _⟩
  have cI := fun w => rIn_any k hk w
  cases hi : inB k with
  | false =>
    rw [hi] at cI
    rw [crew_out (.inr (.inr (.inr (.inr hi))))]
    clear hr hX hn hc hk hi
    go_enter Tryz.func14, Tryz.ntmps14
    go_wp2_with (go_at_call 40; refine (cI _).mono ?_; clear cI; rintro e w1 ⟨rfl, rfl⟩)
    go_ret
    exact ⟨rfl, (Ext.refl w).alloc _⟩
  | true =>
    rw [hi] at cI
    by_cases t4 : (p.length : Int) = n
    case neg =>
      rw [crew_out (.inr (.inr (.inr (.inl t4))))]
      have d : ((p.length : Int) != n) = true := by simpa using t4
      clear hr hX hn hc hk hi
      go_enter Tryz.func14, Tryz.ntmps14
      go_wp2_with (go_at_call 40; refine (cI _).mono ?_; clear cI; rintro e w1 ⟨rfl, rfl⟩)
      go_ret
      exact ⟨rfl, (Ext.refl w).alloc _⟩
    subst t4
    obtain ⟨tn, rfl⟩ : ∃ n : Nat, t = n := ⟨t.toNat, by omega⟩
    have hk7 : tn ≤ p.length ∧ p.length ≤ 7 ∧ 1 ≤ tn := by omega
    have kr := fun h => crew_rest (t := tn) (n := p.length) (k := k) (p := p) t1 t2 t3 rfl hi h
    rw [Int.toNat_natCast] at kr
    have HK := Lib.hid kr
    have H7 := Lib.hid hk7
    have HR := Lib.hid fun (W : World) (x : Ext w W) => (hr.below x.out).more x.size
    have HXL := Lib.hid hX
    have HN := Lib.hid hn
    have HC := Lib.hid hc
    have dn : ((p.length : Int) != (p.length : Int)) = false := by simp
    have b1 := Blk.new w 26 #[.int .i64 (tn : Int), .int .i64 (p.length : Int), .int .u64 (k : Int), .slice A p.length c]
    have X1 := (Ext.refl w).alloc (.cells #[.int .i64 (tn : Int), .int .i64 (p.length : Int), .int .u64 (k : Int), .slice A p.length c] 26)
    have HB := Lib.hid fun (W : World) (x : Ext (w.alloc (.cells #[.int .i64 (tn : Int), .int .i64 (p.length : Int), .int .u64 (k : Int), .slice A p.length c] 26)) W) => arr4 (ext_blk x b1)
    have HX1 := Lib.hid X1
    clear hX hn hc hi kr hk7 hk hr X1 b1
    go_enter Tryz.func14, Tryz.ntmps14
    go_wp2_with (go_at_call 40; refine (cI _).mono ?_; clear cI; rintro e w1 ⟨rfl, rfl⟩)
    obtain ⟨W0, e0⟩ : ∃ W, W = w.alloc (.cells #[.int .i64 (tn : Int), .int .i64 (p.length : Int), .int .u64 (k : Int), .slice A p.length c] 26) := ⟨_, rfl⟩
    rw [← e0] at HB HX1 ⊢
    clear e0
    go_loopg [3] p.length (fun m s3 wr => ∃ j : Nat, j + m = p.length ∧ s3 = .int .i64 j ∧ rowP (p.take j) ∧ wr = W0)
    case atStart => exact ⟨0, by omega, rfl, rowP_nil, rfl⟩
    case round =>
      obtain ⟨j, hj, rfl, hok, rfl⟩ := hrel
      obtain ⟨b0, b1, b2, b3⟩ := HB.out wr (Ext.refl wr)
      by_cases h : j < p.length
      · obtain ⟨s, hs⟩ : ∃ s, p[j]? = some s := ⟨_, List.getElem?_eq_getElem h⟩
        obtain ⟨ad, rfl, hlt, q0, q1⟩ := reads_share (HR.out wr HX1.out) hs
        have hjb : (j : Int) ≤ 7 := by have := H7.out; omega
        have ci := fun W => rIn_any s.2 (HXL.out s (List.mem_of_getElem? hs)) W
        have hst := rowP_take_succ hs
        have HJ := Lib.hid hj
        have HO := Lib.hid hok
        have HT := Lib.hid hst
        have kw : IntKind.i64.wrap ((j : Int) + 1) = ((j + 1 : Nat) : Int) := by rw [IntKind.wrap_i64] <;> omega
        clear hj hok hst hs
        by_cases h1 : s.1 = ((j + 1 : Nat) : Int)
        · cases hb : inB s.2 with
          | false =>
            have kk : Hid (crewN tn p.length k p = 1) := Lib.hid (crew_row (rowP_not (k := j + 1) fun h => by have := (HT.out.1 h).2.2; rw [hb] at this; cases this))
            rw [hb] at ci
            rw [h1] at q0
            have d1 : decide (s.1 = (j : Int) + 1) = true := by simp [h1]
            clear hb
            go_wp2_with (go_at_call 40; refine (ci _).mono ?_; clear ci; rintro e w3 ⟨rfl, rfl⟩)
            go_ret
            exact ⟨by rw [kk.out]; rfl, HX1.out⟩
          | true =>
            have hok' : Hid (rowP (p.take (j + 1))) := Lib.hid (HT.out.2 ⟨HO.out, h1, hb⟩)
            rw [hb] at ci
            rw [h1] at q0
            clear hb h1
            go_wp2_with (go_at_call 40; refine (ci _).mono ?_; clear ci; rintro e w3 ⟨rfl, rfl⟩)
            have hj := HJ.out
            go_roundg (gk - 1)
            case measure => omega
            case rel => exact ⟨j + 1, by omega, int_congr (by omega), hok'.out, rfl⟩
        · have kk : Hid (crewN tn p.length k p = 1) := Lib.hid (crew_row (rowP_not (k := j + 1) fun h => h1 (HT.out.1 h).2.1))
          have d1 : (s.1 != (j : Int) + 1) = true := by simp; omega
          clear ci
          go_wp2
          go_ret
          exact ⟨by rw [kk.out]; rfl, HX1.out⟩
      · obtain rfl : j = p.length := by omega
        rw [List.take_length] at hok
        have kk := HK.out hok
        have c2 := fun (W : World) (x : Ext w W) => rshCheck_any (tn : Int) p HXL.out A c HC.out HN.out W (HR.out W x)
        obtain ⟨u, hu⟩ : ∃ u, u = chkN (tn : Int) p := ⟨_, rfl⟩
        rw [← hu] at c2 kk
        clear hj hok hu h
        by_cases h0 : u = 0
        · rw [h0] at c2
          rw [if_neg (by rw [h0]; decide)] at kk
          obtain ⟨A1, e1, r1⟩ := first_reads (HR.out w (Ext.refl w)) H7.out.1 HC.out
          have s1 : ∀ W : World, (Instr.slice 24 (.slice A p.length c) none (some (.int .i64 (tn : Int))) none).run Tryz.prog W = .ok (.slice A1 (p.take tn).length c) W := fun W => by rw [slice_hS A p.length c tn (Nat.le_trans H7.out.1 HC.out), e1]
          obtain ⟨fl, hfl⟩ : ∃ q, q = p.take tn := ⟨_, rfl⟩
          have hfx : ∀ s ∈ fl, s.2 < 18446744073709551616 := fun s hs => by rw [hfl] at hs; exact HXL.out s (List.mem_of_mem_take hs)
          have hfn : fl.length ≤ 1099511627776 := by have := HN.out; rw [hfl, List.length_take]; omega
          rw [← hfl] at s1 r1 kk
          have c3 := fun (W : World) (x : Ext w W) => rjoint_any fl hfx A1 c hfn W ((r1.below x.out).more x.size)
          obtain ⟨v, hv⟩ : ∃ v, v = jointN fl := ⟨_, rfl⟩
          rw [← hv] at c3 kk
          have HKK := Lib.hid kk
          clear hfl hfx hfn kk hv h0 r1 e1
          have sl0 := s1
          go_wp2_with (go_at_call 41; refine (c2 _ HX1.out).mono ?_; clear c2; rintro e w4 ⟨rfl, x4⟩; obtain ⟨d0, d1, d2, d3⟩ := HB.out _ x4; have X4 := Lib.hid (HX1.out.trans x4))
          by_cases hvk : v = k
          · have d5 : ((v : Int) != (k : Int)) = false := by simp [hvk]
            have HKK2 : Hid (crewN (tn : Int) p.length k p = 0) := Lib.hid (by rw [HKK.out, if_pos hvk])
            clear hvk b0 b1 b2 b3 x4
            go_region_held3 (fun w' => w'.cell? ⟨w.heap.size, 0, none⟩ = some (.int .i64 (tn : Int)) ∧ w'.cell? ⟨w.heap.size, 2, none⟩ = some (.int .u64 (k : Int)) ∧ w'.cell? ⟨w.heap.size, 3, none⟩ = some (.slice A p.length c)) (go_keep) (first
              | (go_at_call 42; refine (c3 _ (X4.out.trans (Ext.refl w4).drew)).mono ?_; clear c3; rintro e w5 ⟨rfl, x5⟩; have x5 := (Ext.refl w4).drew.trans x5; have r0 := x5.cell d0; have r2 := x5.cell d2; have r3 := x5.cell d3))
            go_wp2
            go_ret
            exact ⟨by rw [HKK2.out]; rfl, X4.out.trans x5⟩
          · have d5 : ((v : Int) != (k : Int)) = true := by simp; omega
            have HKK2 : Hid (crewN (tn : Int) p.length k p = 60) := Lib.hid (by rw [HKK.out, if_neg hvk])
            clear hvk b0 b1 b2 b3 x4
            go_region_held3 (fun w' => w'.cell? ⟨w.heap.size, 0, none⟩ = some (.int .i64 (tn : Int)) ∧ w'.cell? ⟨w.heap.size, 2, none⟩ = some (.int .u64 (k : Int)) ∧ w'.cell? ⟨w.heap.size, 3, none⟩ = some (.slice A p.length c)) (go_keep) (first
              | (go_at_call 42; refine (c3 _ (X4.out.trans (Ext.refl w4).drew)).mono ?_; clear c3; rintro e w5 ⟨rfl, x5⟩; have x5 := (Ext.refl w4).drew.trans x5; have r0 := x5.cell d0; have r2 := x5.cell d2; have r3 := x5.cell d3))
            go_wp2
            go_ret
            exact ⟨by rw [HKK2.out]; rfl, X4.out.trans x5⟩
        · have h1 : ((u : Int) != 0) = true := by simp; omega
          rw [if_pos h0] at kk
          have HKK := Lib.hid kk
          clear kk h0
          go_wp2_with (go_at_call 41; refine (c2 _ HX1.out).mono ?_; clear c2; rintro e w4 ⟨rfl, x4⟩)
          go_ret
          exact ⟨by rw [HKK.out]; rfl, HX1.out.trans x4⟩
end Go.Proofs.YtiecfamjnnmpaaaGreat

/- Crews by the document, walked: find, challenge, scaled, may. -/
namespace Go.Proofs.YtiecfamjnnmpaaaGreat
set_option linter.unusedVariables false
open Go.RowKit Go.Shelf Go.Maps
attribute [local irreducible] atN prodN sumN wantN chkN mix hSum hNum chalN wgtV wgtE inB okC

theorem ix_at {f : Int × Nat → Bool} {l : List (Int × Nat)} {j : Nat} {s : Int × Nat} (hs : l[j]? = some s) (hf : f s = true) (h0 : ∀ r ∈ l.take j, f r = false) : ixI f l = (j : Int) := by
  have : l.findIdx? f = some j := by
    rw [List.findIdx?_eq_some_iff_getElem]
    have hsg := (List.getElem?_eq_some_iff.1 hs).2
    refine ⟨(List.getElem?_eq_some_iff.1 hs).1, by rw [hsg]; exact hf, fun i hi => ?_⟩
    have hl := (List.getElem?_eq_some_iff.1 hs).1
    have := h0 (l[i]'(by omega)) (List.mem_take_iff_getElem.2 ⟨i, by omega, rfl⟩)
    rw [this]; decide
  unfold ixI; rw [this]
theorem ix_none {f : Int × Nat → Bool} {l : List (Int × Nat)} (h0 : ∀ r ∈ l, f r = false) : ixI f l = -1 := by
  have : l.findIdx? f = none := List.findIdx?_eq_none_iff.2 h0
  unfold ixI; rw [this]

set_option maxRecDepth 100000 in
set_option maxHeartbeats 2000000 in
theorem rfind_any (l : List (Int × Nat)) (id : Int) (A : Option Addr) (c : Nat) (hn : l.length ≤ 1099511627776) (w : World) (hr : Reads w w.heap.size 2 A l.length (sv l)) :
    Calls Tryz.prog 64 #[.slice A l.length c, .int .i64 id] w fun e w' => e = .returned (.int .i64 (ixI (fun s => decide (s.1 = id)) l)) ∧ Ext w w' := by
  have HR := Lib.hid fun (W : World) (x : Ext w W) => (hr.below x.out).more x.size
  have HN := Lib.hid hn
  clear hr hn
  go_enter Tryz.func64, Tryz.ntmps64
  go_wp2
  go_loopg [5] l.length (fun m s5 wr => ∃ j : Nat, j + m = l.length ∧ s5 = .int .i64 j ∧ (∀ s ∈ l.take j, decide (s.1 = id) = false) ∧ Ext w wr)
  case atStart => exact ⟨0, by omega, rfl, by simp, Ext.refl w⟩
  case round =>
    obtain ⟨j, hj, rfl, hok, hx⟩ := hrel
    by_cases h : j < l.length
    · obtain ⟨s, hs⟩ : ∃ s, l[j]? = some s := ⟨_, List.getElem?_eq_getElem h⟩
      obtain ⟨ad, rfl, hlt, q0, q1⟩ := reads_share (HR.out wr hx) hs
      have hjb : (j : Int) ≤ 1099511627776 := by have := HN.out; omega
      have e1 : l.take (j + 1) = l.take j ++ [s] := by rw [List.take_add_one, hs]; rfl
      have HX := Lib.hid hx
      have HJ := Lib.hid hj
      by_cases hf : s.1 = id
      · have kk : Hid (ixI (fun s => decide (s.1 = id)) l = (j : Int)) := Lib.hid (ix_at hs (decide_eq_true hf) hok)
        have d1 : (s.1 == id) = true := by simp [hf]
        clear hx hj hs hok e1
        go_wp2
        go_ret
        exact ⟨by rw [kk.out]; rfl, HX.out⟩
      · have hok' : Hid (∀ s ∈ l.take (j + 1), decide (s.1 = id) = false) := Lib.hid fun r hr => by
          rw [e1] at hr
          rcases List.mem_append.1 hr with hr | hr
          · exact hok r hr
          · rw [List.mem_singleton] at hr; subst hr; exact decide_eq_false hf
        have d1 : (s.1 == id) = false := by simp [hf]
        clear hx hj hs hok e1 hf
        go_wp2
        have hj := HJ.out
        go_roundg (gk - 1)
        case measure => omega
        case rel => exact ⟨j + 1, by omega, int_congr (by omega), hok'.out, HX.out⟩
    · obtain rfl : j = l.length := by omega
      rw [List.take_length] at hok
      have kk : Hid (ixI (fun s => decide (s.1 = id)) l = -1) := Lib.hid (ix_none hok)
      have HX := Lib.hid hx
      clear hx hj hok h
      go_wp2
      go_ret
      exact ⟨by rw [kk.out]; rfl, HX.out⟩

set_option maxRecDepth 100000 in
set_option maxHeartbeats 2000000 in
theorem rchallenge6_any (t n : Value) (k : Nat) (hk : k < 18446744073709551616) (P : Value) (m : List Nat) (hm : ∀ y ∈ m, y < 256) (hl : m.length ≤ 1000) (l : List (Int × Nat)) (hX : ∀ s ∈ l, s.2 < 18446744073709551616) (hn : l.length ≤ 1099511627776) (M B : Option Addr) (d e : Nat) (hd : m.length ≤ d) (w : World) (rm : Reads w w.heap.size 1 M m.length (bv m)) (rl : Reads w w.heap.size 2 B l.length (sv l)) :
    Calls Tryz.prog 59 #[.agg #[t, n, .int .u64 (k : Int), P], .slice M m.length d, .slice B l.length e] w fun e w' => e = .returned (.int .u64 (chN k m l : Nat)) ∧ Ext w w' := by
  have X0 := (Ext.refl w).alloc (.cells #[t, n, .int .u64 (k : Int), P] 26)
  have b0 := (Blk.new w 26 #[t, n, .int .u64 (k : Int), P]).cell 2
  have HR := Lib.hid fun (W : World) (x : Ext w W) => (rl.below x.out).more x.size
  have hlt := Nat.lt_trans (prodBy_lt (fun s : Int × Nat => s.2) l) (show bQ < 18446744073709551616 by decide)
  have hpb : prodBy (fun s : Int × Nat => s.2) l = l.foldl (fun o s => mulM bQ o s.2) 1 := rfl
  unfold chN
  obtain ⟨x, hx⟩ : ∃ x, x = prodBy (fun s : Int × Nat => s.2) l := ⟨_, rfl⟩
  rw [← hx] at hlt hpb ⊢
  have c2 := fun (W : World) (xW : Ext w W) => rChallenge_any x k hlt hk m hm hl M d hd W ((rm.below xW.out).more xW.size)
  obtain ⟨y, hy⟩ : ∃ y, y = chalN x k m := ⟨_, rfl⟩
  rw [← hy] at c2 ⊢
  have HPB := Lib.hid hpb
  have HXL := Lib.hid hX
  have HN := Lib.hid hn
  have HC2 := Lib.hid c2
  clear hk hm hl hX hn hd rm rl hx hy hpb hlt c2
  go_enter Tryz.func59, Tryz.ntmps59
  go_wp2
  obtain ⟨W0, e0⟩ : ∃ W, W = w.alloc (.cells #[t, n, .int .u64 (k : Int), P] 26) := ⟨_, rfl⟩
  rw [← e0] at X0 b0 ⊢
  have HX0 := Lib.hid X0
  have HB0 := Lib.hid b0
  clear e0 X0 b0
  go_loopg [7, 8] l.length (fun q s7 s8 wr => ∃ j : Nat, j + q = l.length ∧ s8 = .int .i64 j ∧ s7 = .int .u64 ((l.take j).foldl (fun o s => mulM bQ o s.2) 1 : Nat) ∧ wr = W0)
  case atStart => exact ⟨0, by omega, rfl, rfl, rfl⟩
  case round =>
    obtain ⟨j, hj, rfl, rfl, rfl⟩ := hrel
    by_cases h : j < l.length
    · obtain ⟨s, hs⟩ : ∃ s, l[j]? = some s := ⟨_, List.getElem?_eq_getElem h⟩
      obtain ⟨ad, rfl, hlt, q0, q1⟩ := reads_share (HR.out wr HX0.out) hs
      have hjb : (j : Int) ≤ 1099511627776 := by have := HN.out; omega
      have hft := foldl_take hs (fun o s => mulM bQ o s.2) 1
      obtain ⟨o, ho⟩ : ∃ o, o = (l.take j).foldl (fun o s => mulM bQ o s.2) 1 := ⟨_, rfl⟩
      rw [← ho] at hft ⊢
      have cM := fun W => rMul_any o s.2 (HXL.out s (List.mem_of_getElem? hs)) W
      have HJ := Lib.hid hj
      have HFT := Lib.hid hft
      clear hj hs hft ho
      go_wp2_with (go_at_call 68; refine (cM _).mono ?_; clear cM; rintro e w4 ⟨rfl, rfl⟩)
      have hj := HJ.out
      go_roundg (gk - 1)
      case measure => omega
      case rel => exact ⟨j + 1, by omega, int_congr (by omega), by rw [HFT.out], rfl⟩
    · obtain rfl : j = l.length := by omega
      have e1 : l.take l.length = l := List.take_length
      rw [e1, ← HPB.out]
      have b2 : wr.cell? ⟨w.heap.size, 2, none⟩ = some (.int .u64 (k : Int)) := HB0.out
      have c2 := HC2.out
      clear hj h e1
      go_wp2_with (go_at_call 104; refine (c2 _ HX0.out).mono ?_; clear c2; rintro e w5 ⟨rfl, x5⟩)
      go_ret
      exact ⟨rfl, HX0.out.trans x5⟩

set_option maxRecDepth 100000 in
set_option maxHeartbeats 2000000 in
theorem rscaled_any (t n : Value) (k : Nat) (hk : k < 18446744073709551616) (P : Value) (m : List Nat) (hm : ∀ y ∈ m, y < 256) (hl : m.length ≤ 1000) (l : List (Int × Nat)) (hX : ∀ s ∈ l, s.2 < 18446744073709551616) (hn : l.length ≤ 1099511627776) (id : Int) (M B : Option Addr) (d e : Nat) (hd : m.length ≤ d) (w : World) (rm : Reads w w.heap.size 1 M m.length (bv m)) (rl : Reads w w.heap.size 2 B l.length (sv l)) :
    Calls Tryz.prog 66 #[.agg #[t, n, .int .u64 (k : Int), P], .slice M m.length d, .slice B l.length e, .int .i64 id] w fun e w' => e = .returned (.int .u64 (scN k m l id : Nat)) ∧ Ext w w' := by
  have X0 := (Ext.refl w).alloc (.cells #[t, n, .int .u64 (k : Int), P] 26)
  have HB := Lib.hid fun (W : World) (x : Ext (w.alloc (.cells #[t, n, .int .u64 (k : Int), P] 26)) W) => arr4 (ext_blk x (Blk.new w 26 #[t, n, .int .u64 (k : Int), P]))
  have cI := fun (W : World) (x : Ext w W) => rids_any l B e hn W ((rl.below x.out).more x.size)
  have cW := fun (W : World) C b hb => rWeight_any (l.map fun s : Int × Nat => s.1) id C b (by rw [List.length_map]; exact hn) W hb
  unfold wgtR at cW
  simp only [List.length_map] at cW
  have cC := fun (W : World) (x : Ext w W) => rchallenge6_any t n k hk P m hm hl l hX hn M B d e hd W ((rm.below x.out).more x.size) ((rl.below x.out).more x.size)
  have hwl := wgtV_lt (l.map fun s : Int × Nat => s.1) id
  have cM := fun (W : World) => rMulR_any (chN k m l) (wgtV (l.map fun s : Int × Nat => s.1) id) (lt64_R hwl) W
  unfold scN
  have e0 : l.map (·.1) = l.map fun s : Int × Nat => s.1 := rfl
  rw [e0]
  obtain ⟨v, hv⟩ : ∃ v, v = wgtV (l.map fun s : Int × Nat => s.1) id := ⟨_, rfl⟩
  obtain ⟨f, hf⟩ : ∃ f, f = wgtE (l.map fun s : Int × Nat => s.1) id := ⟨_, rfl⟩
  obtain ⟨y, hy⟩ : ∃ y, y = chN k m l := ⟨_, rfl⟩
  rw [← hv] at cW cM ⊢
  rw [← hf] at cW
  rw [← hy] at cC cM ⊢
  clear hk hm hl hX hn hd rm rl hwl e0 hv hf hy
  go_enter Tryz.func66, Tryz.ntmps66
  go_wp2_with (first
    | (go_at_call 99; refine (cI _ X0).mono ?_; clear cI; rintro e w1 ⟨C, b, rfl, -, rb, x1⟩)
    | (go_at_call 98; refine (cW _ _ _ rb).mono ?_; clear cW; rintro e w2 ⟨rfl, x2⟩; have X2 := x1.trans x2; obtain ⟨a0, a1, a2, a3⟩ := HB.out _ X2)
    | (go_at_call 59; refine (cC _ (X0.trans X2)).mono ?_; clear cC; rintro e w3 ⟨rfl, x3⟩)
    | (go_at_call 65; refine (cM _).mono ?_; clear cM; rintro e w4 ⟨rfl, rfl⟩))
  go_ret
  exact ⟨rfl, (X0.trans X2).trans x3⟩

set_option maxRecDepth 100000 in
set_option maxHeartbeats 8000000 in
theorem rmay6_any (t n : Int) (K P : Value) (l : List (Int × Nat)) (hX : ∀ s ∈ l, s.2 < 18446744073709551616) (hn : l.length ≤ 1099511627776) (B : Option Addr) (e : Nat) (w : World) (rl : Reads w w.heap.size 2 B l.length (sv l)) :
    Calls Tryz.prog 57 #[.agg #[.int .i64 t, .int .i64 n, K, P], .slice B l.length e] w fun e w' => e = .returned (.int .i64 (enN t n l : Nat)) ∧ Ext w w' := by
  have X0 := (Ext.refl w).alloc (.cells #[.int .i64 t, .int .i64 n, K, P] 26)
  have b0 := Blk.new w 26 #[.int .i64 t, .int .i64 n, K, P]
  have HR := Lib.hid fun (W : World) (x : Ext w W) => (rl.below x.out).more x.size
  have HXL := Lib.hid hX
  have HN := Lib.hid hn
  clear hX hn rl
  go_enter Tryz.func57, Tryz.ntmps57
  go_wp2
  obtain ⟨W0, e0⟩ : ∃ W, W = w.alloc (.cells #[.int .i64 t, .int .i64 n, K, P] 26) := ⟨_, rfl⟩
  rw [← e0] at X0 b0 ⊢
  have HX0 := Lib.hid X0
  have HB := Lib.hid fun (W : World) (x : Ext W0 W) => arr4 (ext_blk x b0)
  clear e0 X0 b0
  go_loopg [5] l.length (fun g s5 wr => ∃ j : Nat, j + g = l.length ∧ s5 = .int .i64 j ∧ okC n (l.take j) ∧ Ext W0 wr)
  case atStart => exact ⟨0, by omega, rfl, okC_nil n, Ext.refl W0⟩
  case round =>
    obtain ⟨j, hj, rfl, hok, hx⟩ := hrel
    obtain ⟨a0, a1, a2, a3⟩ := HB.out wr hx
    by_cases h : j < l.length
    · obtain ⟨s, hs⟩ : ∃ s, l[j]? = some s := ⟨_, List.getElem?_eq_getElem h⟩
      have hrd := HR.out wr (HX0.out.trans hx)
      obtain ⟨ad, rfl, hlt, q0, q1⟩ := reads_share hrd hs
      have hjb : (j : Int) ≤ 1099511627776 := by have := HN.out; omega
      have hjl : (j : Int) < (l.length : Int) := by omega
      have ci := fun W => rIn_any s.2 (HXL.out s (List.mem_of_getElem? hs)) W
      have HT := Lib.hid (okC_take_succ (n := n) hs)
      have HX := Lib.hid hx
      have HJ := Lib.hid hj
      have HO := Lib.hid hok
      by_cases hj0 : j = 0
      · have HLA : Hid (lastI (l.take j) = 0) := Lib.hid (by rw [hj0]; rfl)
        have p1 : decide (0 < j) = false := by simp; omega
        clear hx hj hok hs hrd h hlt a0 a2 a3 hj0
        by_cases c1 : s.1 < 1
        · have Dc1 : decide (s.1 < 1) = true := decide_eq_true c1
          have kk : Hid (enN t n l = 1) := Lib.hid (if_neg (okC_not (k := j + 1) fun h => by have := (HT.out.1 h).2; rw [HLA.out] at this; omega))
          go_wp2
          go_quiet ((go_at_call 40; exact Calls.quiet_of_same ((ci _).mono fun _ _ h => ⟨h.1, h.2.symm⟩)))
          all_goals go_wp2
          all_goals go_ret
          all_goals exact ⟨by rw [kk.out]; rfl, HX0.out.trans (HX.out.drewN _)⟩
        have Dc1 : decide (s.1 < 1) = false := decide_eq_false c1
        by_cases c2 : n < s.1
        · have Dc2 : decide (n < s.1) = true := decide_eq_true c2
          have kk : Hid (enN t n l = 1) := Lib.hid (if_neg (okC_not (k := j + 1) fun h => by have := (HT.out.1 h).2; rw [HLA.out] at this; omega))
          have c3 : ¬ s.1 ≤ n := by omega
          go_wp2
          go_quiet ((go_at_call 40; exact Calls.quiet_of_same ((ci _).mono fun _ _ h => ⟨h.1, h.2.symm⟩)))
          all_goals go_wp2
          all_goals go_ret
          all_goals exact ⟨by rw [kk.out]; rfl, HX0.out.trans (HX.out.drewN _)⟩
        have Dc2 : decide (n < s.1) = false := decide_eq_false c2
        cases hb : inB s.2 with
        | false =>
          have kk : Hid (enN t n l = 1) := Lib.hid (if_neg (okC_not (k := j + 1) fun h => by have := (HT.out.1 h).2; rw [HLA.out] at this; (rw [hb] at this; exact absurd this.2.2 (by decide))))
          rw [hb] at ci
          clear hb
          go_wp2
          go_quiet ((go_at_call 40; exact Calls.quiet_of_same ((ci _).mono fun _ _ h => ⟨h.1, h.2.symm⟩)))
          all_goals go_wp2
          all_goals go_ret
          all_goals exact ⟨by rw [kk.out]; rfl, HX0.out.trans (HX.out.drewN _)⟩
        | true =>
          have hok' : Hid (okC n (l.take (j + 1))) := Lib.hid (HT.out.2 ⟨HO.out, by rw [HLA.out]; omega, by omega, hb⟩)
          rw [hb] at ci
          clear hb
          go_wp2
          go_quiet ((go_at_call 40; exact Calls.quiet_of_same ((ci _).mono fun _ _ h => ⟨h.1, h.2.symm⟩)))
          have hj := HJ.out
          go_wp2
          go_roundg (gk - 1)
          case measure => omega
          case rel => exact ⟨j + 1, by omega, int_congr (by omega), hok'.out, HX.out.drewN _⟩

      · obtain ⟨r, hr⟩ : ∃ r, l[j - 1]? = some r := ⟨_, List.getElem?_eq_getElem (by omega)⟩
        have HLA : Hid (lastI (l.take j) = r.1) := Lib.hid (by have := lastI_take_succ hr; rwa [show j - 1 + 1 = j by omega] at this)
        have hlr : Hid (1 ≤ r.1) := Lib.hid (by
          have hm : r ∈ l.take j := List.mem_of_getElem? (i := j - 1) (by rw [List.getElem?_take, if_pos (by omega)]; exact hr)
          have := lastI_ge hok
          unfold okC at hok
          exact (hok.2 r hm).1)
        obtain ⟨_, e', -, r0, r1⟩ := reads_share hrd hr
        cases e'
        have p1 : decide (0 < j) = true := by simp; omega
        have kj : (j : Int) - 1 = ((j - 1 : Nat) : Int) := by omega
        have kj2 : ((j - 1 : Nat) : Int) < (l.length : Int) := by omega
        clear hx hj hok hs hrd hr h hlt r1 a0 a2 a3 hj0
        by_cases c1 : s.1 < 1
        · have Dc1 : decide (s.1 < 1) = true := decide_eq_true c1
          have kk : Hid (enN t n l = 1) := Lib.hid (if_neg (okC_not (k := j + 1) fun h => by have := (HT.out.1 h).2; rw [HLA.out] at this; have := hlr.out; omega))
          go_wp2
          go_quiet ((go_at_call 40; exact Calls.quiet_of_same ((ci _).mono fun _ _ h => ⟨h.1, h.2.symm⟩)))
          all_goals go_wp2
          all_goals go_ret
          all_goals exact ⟨by rw [kk.out]; rfl, HX0.out.trans (HX.out.drewN _)⟩
        have Dc1 : decide (s.1 < 1) = false := decide_eq_false c1
        by_cases c2 : n < s.1
        · have Dc2 : decide (n < s.1) = true := decide_eq_true c2
          have kk : Hid (enN t n l = 1) := Lib.hid (if_neg (okC_not (k := j + 1) fun h => by have := (HT.out.1 h).2; rw [HLA.out] at this; omega))
          have c3 : ¬ s.1 ≤ n := by omega
          go_wp2
          go_quiet ((go_at_call 40; exact Calls.quiet_of_same ((ci _).mono fun _ _ h => ⟨h.1, h.2.symm⟩)))
          all_goals go_wp2
          all_goals go_ret
          all_goals exact ⟨by rw [kk.out]; rfl, HX0.out.trans (HX.out.drewN _)⟩
        have Dc2 : decide (n < s.1) = false := decide_eq_false c2
        by_cases c4 : s.1 ≤ r.1
        · have Dc4 : decide (s.1 ≤ r.1) = true := decide_eq_true c4
          have kk : Hid (enN t n l = 1) := Lib.hid (if_neg (okC_not (k := j + 1) fun h => by have := (HT.out.1 h).2; rw [HLA.out] at this; omega))
          go_wp2
          go_quiet ((go_at_call 40; exact Calls.quiet_of_same ((ci _).mono fun _ _ h => ⟨h.1, h.2.symm⟩)))
          all_goals go_wp2
          all_goals go_ret
          all_goals exact ⟨by rw [kk.out]; rfl, HX0.out.trans (HX.out.drewN _)⟩
        have Dc4 : decide (s.1 ≤ r.1) = false := decide_eq_false c4
        cases hb : inB s.2 with
        | false =>
          have kk : Hid (enN t n l = 1) := Lib.hid (if_neg (okC_not (k := j + 1) fun h => by have := (HT.out.1 h).2; rw [HLA.out] at this; (rw [hb] at this; exact absurd this.2.2 (by decide))))
          rw [hb] at ci
          clear hb
          go_wp2
          go_quiet ((go_at_call 40; exact Calls.quiet_of_same ((ci _).mono fun _ _ h => ⟨h.1, h.2.symm⟩)))
          all_goals go_wp2
          all_goals go_ret
          all_goals exact ⟨by rw [kk.out]; rfl, HX0.out.trans (HX.out.drewN _)⟩
        | true =>
          have hok' : Hid (okC n (l.take (j + 1))) := Lib.hid (HT.out.2 ⟨HO.out, by rw [HLA.out]; omega, by omega, hb⟩)
          rw [hb] at ci
          clear hb
          go_wp2
          go_quiet ((go_at_call 40; exact Calls.quiet_of_same ((ci _).mono fun _ _ h => ⟨h.1, h.2.symm⟩)))
          have hj := HJ.out
          go_wp2
          go_roundg (gk - 1)
          case measure => omega
          case rel => exact ⟨j + 1, by omega, int_congr (by omega), hok'.out, HX.out.drewN _⟩

    · obtain rfl : j = l.length := by omega
      rw [List.take_length] at hok
      have HX := Lib.hid hx
      by_cases hf : (l.length : Int) < t
      · have kk : Hid (enN t n l = 50) := Lib.hid (by unfold enN; rw [if_pos hok, if_pos hf])
        clear hx hj hok h a1 a2 a3
        go_wp2
        go_ret
        exact ⟨by rw [kk.out]; rfl, HX0.out.trans HX.out⟩
      · have kk : Hid (enN t n l = 0) := Lib.hid (by unfold enN; rw [if_pos hok, if_neg hf])
        clear hx hj hok h a1 a2 a3
        go_wp2
        go_ret
        exact ⟨by rw [kk.out]; rfl, HX0.out.trans HX.out⟩
end Go.Proofs.YtiecfamjnnmpaaaGreat

/- Sessions, walked: of, right. -/
namespace Go.Proofs.YtiecfamjnnmpaaaGreat
set_option linter.unusedVariables false
open Go.RowKit Go.Shelf Go.Maps
attribute [local irreducible] atN prodN sumN wantN chkN mix hSum hNum chalN chN scN

set_option maxRecDepth 100000 in
set_option maxHeartbeats 2000000 in
theorem ofX_any (id x : Int) (u : Nat) (g : Nat) (w : World) (hp : w.cell? ⟨g, 0, none⟩ = some (.int .i64 id)) :
    Calls Tryz.prog 106 #[.agg #[.int .i64 x, .int .u64 (u : Int)], .pointer (some ⟨g, 0, none⟩)] w fun e w' => e = .returned (.bool (decide (x = id))) ∧ Ext w w' := by
  have x0 : Ext w (w.alloc (.cells #[.int .i64 x, .int .u64 (u : Int)] 37)) := (Ext.refl w).alloc _
  have q := x0.cell hp
  clear hp
  by_cases h : x = id
  · have d : decide (x = id) = true := decide_eq_true h
    rw [d]
    subst h
    go_enter Tryz.func106, Tryz.ntmps106
    go_wp2
    go_ret
    exact ⟨rfl, x0⟩
  · have d : decide (x = id) = false := decide_eq_false h
    have d2 : (x == id) = false := by simpa using h
    rw [d]
    go_enter Tryz.func106, Tryz.ntmps106
    go_wp2
    go_ret
    exact ⟨rfl, x0⟩
theorem ofX_enters : Enters Tryz.prog 106 := enters_of Tryz.func106 (by kernel_rfl) rfl

/-- Somebody's commitment. -/
def ofC (l : List (Int × Nat)) (id : Int) : Option (Int × Nat) := l.find? fun s => decide (s.1 = id)
theorem ofC_some {l : List (Int × Nat)} {id : Int} {s : Int × Nat} (h : ofC l id = some s) : s.1 = id ∧ s ∈ l ∧ ∃ i : Nat, l[i]? = some s ∧ ixI (fun s => decide (s.1 = id)) l = i := by
  refine ⟨by have := List.find?_some h; simpa using this, List.mem_of_find?_eq_some h, ?_⟩
  obtain ⟨h1, i, hi, rfl, h2⟩ := List.find?_eq_some_iff_getElem.1 h
  refine ⟨i, List.getElem?_eq_getElem hi, ?_⟩
  have : l.findIdx? (fun s => decide (s.1 = id)) = some i := List.findIdx?_eq_some_iff_getElem.2 ⟨hi, h1, fun j hj => by have := h2 j hj; simpa using this⟩
  unfold ixI
  rw [this]
theorem ofC_none {l : List (Int × Nat)} {id : Int} (h : ofC l id = none) : ixI (fun s => decide (s.1 = id)) l = -1 := by
  have : l.findIdx? (fun s => decide (s.1 = id)) = none := List.findIdx?_eq_none_iff.2 fun s hs => by
    have := List.find?_eq_none.1 h s hs
    simpa using this
  unfold ixI
  rw [this]
def ofV2 (o : Option (Int × Nat)) : Value := match o with | some s => .tuple #[.agg #[.int .i64 s.1, .int .u64 (s.2 : Int)], .bool true] | none => .tuple #[.agg #[.int .i64 0, .int .u64 0], .bool false]

set_option maxRecDepth 100000 in
set_option maxHeartbeats 2000000 in
theorem of_any (b : Nat) (t n : Int) (k : Nat) (p : List (Int × Nat)) (m : List Nat) (l : List (Int × Nat)) (v : SesV k p m l) (id : Int) (w : World) (h : Ses w b t n k p m l) :
    Calls Tryz.prog 61 #[.pointer (some ⟨b, 0, none⟩), .int .i64 id] w fun e w' => e = .returned (ofV2 (ofC l id)) ∧ Ext w w' := by
  obtain ⟨A, c, M, d, B, e, h1, h2, h3, h4, h5, h6, h7⟩ := h
  have HB := Lib.hid h1
  have HN := Lib.hid v.ln
  obtain ⟨W0, hW0⟩ : ∃ W, W = (w.alloc (.cells #[.int .i64 id] 3)).alloc (.cells #[.int .i64 0, .int .u64 0] 37) := ⟨_, rfl⟩
  have x0 : Ext w W0 := by rw [hW0]; exact ((Ext.refl w).alloc _).alloc _
  have b0 : Blk W0 w.heap.size 3 #[.int .i64 id] := by rw [hW0]; exact (Blk.new w _ _).alloc _
  have b1 : Blk W0 (w.heap.size + 1) 37 #[.int .i64 0, .int .u64 0] := by
    have := Blk.new (w.alloc (.cells #[.int .i64 id] 3)) 37 #[.int .i64 0, .int .u64 0]
    rw [World.size_alloc] at this
    rw [hW0]; exact this
  have c1 := fun (W : World) (x : Ext w W) (hp : W.cell? ⟨w.heap.size, 0, none⟩ = some (.int .i64 id)) => index_any _ ofX_enters #[.pointer (some ⟨w.heap.size, 0, none⟩)] (fun s => decide (s.1 = id)) l v.ln B e W ((h7.below x.out).more x.size) (fun W' s hs x' => ofX_any id s.1 s.2 w.heap.size W' (x'.cell hp))
  have cell5 := (arr6 (ext_blk x0 h1)).2.2.2.2.2
  have HW := Lib.hid hW0
  have HR := Lib.hid h7
  have HB1 := Lib.hid b1
  have c1' := c1 W0 x0 (b0.cell 0)
  clear h1 h2 h3 h4 h5 h6 h7 v b0 b1 c1
  have hmf := makeFunc_run
  cases ho : ofC l id with
  | none =>
    rw [ofC_none ho] at c1'
    clear ho hW0 HR
    rw [HW.out] at c1' cell5
    go_enter Tryz.func61, Tryz.ntmps61
    go_wp2_with (go_at_call 105; refine c1'.mono ?_; clear c1'; rintro e w1 ⟨rfl, x1⟩; rw [← HW.out] at x1; have hb := ext_blk x1 HB1.out; obtain ⟨p0, p1⟩ := two hb; have f0 := hb.frozen 0; have f1 := hb.frozen 1; clear hb)
    refine bodyPost_ret (v := .tuple #[.agg #[.int .i64 0, .int .u64 0], .bool false]) (by simp [results, Tryz.results61, go_sem, p0, p1]) rfl ⟨rfl, ?_⟩
    exact (((x0.trans x1).setCell (p := ⟨w.heap.size + 1, 0, none⟩) (Nat.le_succ _) _).setCell (p := ⟨w.heap.size + 1, 1, none⟩) (Nat.le_succ _) _)
  | some s =>
    obtain ⟨-, -, i, hi, hix⟩ := ofC_some ho
    rw [hix] at c1'
    have hil := (List.getElem?_eq_some_iff.1 hi).1
    have hib : (i : Int) ≤ 1099511627776 := by have := HN.out; omega
    obtain ⟨ad, rfl, -, -, -⟩ := reads_share HR.out hi
    clear ho hW0 hix
    rw [HW.out] at c1' cell5
    go_enter Tryz.func61, Tryz.ntmps61
    go_wp2_with (go_at_call 105; refine c1'.mono ?_; clear c1'; rintro e w1 ⟨rfl, x1⟩; rw [← HW.out] at x1; have hb := ext_blk x1 HB1.out; obtain ⟨p0, p1⟩ := two hb; have f0 := hb.frozen 0; have f1 := hb.frozen 1; have cell6 := (arr6 (ext_blk (x0.trans x1) HB.out)).2.2.2.2.2; obtain ⟨_, e', -, q0, q1⟩ := reads_share (HR.out.below (x0.trans x1).out) hi; cases e'; clear hb)
    refine bodyPost_ret (v := .tuple #[.agg #[.int .i64 s.1, .int .u64 (s.2 : Int)], .bool true]) (by simp [results, Tryz.results61, go_sem, p0, p1]) rfl ⟨rfl, ?_⟩
    exact (((x0.trans x1).setCell (p := ⟨w.heap.size + 1, 0, none⟩) (Nat.le_succ _) _).setCell (p := ⟨w.heap.size + 1, 1, none⟩) (Nat.le_succ _) _)
end Go.Proofs.YtiecfamjnnmpaaaGreat

/- Sessions, walked: right. -/
namespace Go.Proofs.YtiecfamjnnmpaaaGreat
set_option linter.unusedVariables false
open Go.RowKit Go.Shelf Go.Maps
attribute [local irreducible] atN prodN sumN wantN chkN mix hSum hNum chalN chN scN

/-- A crew's public part. -/
def partX (p : List (Int × Nat)) (id : Int) : Nat := match p[id.toNat - 1]? with | some r => r.2 | none => 0
/-- What is wrong with a part. -/
def rightN (k : Nat) (p : List (Int × Nat)) (m : List Nat) (l : List (Int × Nat)) (id : Int) (x : Nat) : Nat :=
  match ofC l id with
  | none => 1
  | some s => if bR ≤ x then 1 else if powM bQ 4 x = mulM bQ s.2 (powM bQ (partX p id) (scN k m l id)) then 0 else 60

set_option maxRecDepth 100000 in
set_option maxHeartbeats 4000000 in
theorem qright_any (b : Nat) (t n : Int) (k : Nat) (p : List (Int × Nat)) (m : List Nat) (l : List (Int × Nat)) (v : SesV k p m l) (hrange : ∀ s ∈ l, 1 ≤ s.1 ∧ s.1 ≤ p.length) (id : Int) (x : Nat) (hx64 : x < 18446744073709551616) (w : World) (h : Ses w b t n k p m l) :
    Calls Tryz.prog 50 #[.pointer (some ⟨b, 0, none⟩), .agg #[.int .i64 id, .int .u64 (x : Int)]] w fun e w' => e = .returned (.int .i64 (rightN k p m l id x : Nat)) ∧ Ext w w' := by
  have c1 := fun (W : World) (x : Ext w W) => of_any b t n k p m l v id W (h.ext x)
  unfold rightN
  cases ho : ofC l id with
  | none =>
    rw [ho] at c1
    unfold ofV2 at c1
    simp only at c1 ⊢
    clear h v hrange ho hx64
    go_enter Tryz.func50, Tryz.ntmps50
    have x0 : Ext w (w.alloc (.cells #[.int .i64 id, .int .u64 (x : Int)] 37)) := (Ext.refl w).alloc _
    go_wp2_with (go_at_call 61; refine (c1 _ x0).mono ?_; clear c1; rintro e w1 ⟨rfl, x1⟩)
    go_ret
    exact ⟨rfl, (x0.trans x1).alloc _⟩
  | some s =>
    rw [ho] at c1
    unfold ofV2 at c1
    simp only at c1 ⊢
    by_cases hR : bR ≤ x
    · rw [if_pos hR]
      have d1 : decide ((1152921504606845789 : Int) ≤ (x : Int)) = true := by unfold bR at hR; simp; omega
      have d2 : (1152921504606845789 : Int) ≤ (x : Int) := by unfold bR at hR; omega
      clear h v hrange ho hx64 hR
      go_enter Tryz.func50, Tryz.ntmps50
      have x0 : Ext w (w.alloc (.cells #[.int .i64 id, .int .u64 (x : Int)] 37)) := (Ext.refl w).alloc _
      go_wp2_with (go_at_call 61; refine (c1 _ x0).mono ?_; clear c1; rintro e w1 ⟨rfl, x1⟩; have hb := Lib.hid (ext_blk x1 (Blk.new w 37 #[.int .i64 id, .int .u64 (x : Int)])); have g1 := fun o => (two (hb.out.alloc o)).1; have g2 := fun o => (two (hb.out.alloc o)).2)
      go_ret
      exact ⟨rfl, (x0.trans x1).alloc _⟩
    · rw [if_neg hR]
      have d1 : decide ((1152921504606845789 : Int) ≤ (x : Int)) = false := by unfold bR at hR; simp; omega
      have d2 : ¬ (1152921504606845789 : Int) ≤ (x : Int) := by unfold bR at hR; omega
      obtain ⟨he, hm, -⟩ := ofC_some ho
      have hs64 := v.l64 s hm
      have hidr := hrange s hm
      rw [he] at hidr
      obtain ⟨i, hi⟩ : ∃ i : Nat, id = ((i + 1 : Nat) : Int) := ⟨id.toNat - 1, by omega⟩
      have hil : i < p.length := by omega
      obtain ⟨r, hr⟩ : ∃ r, p[i]? = some r := ⟨_, List.getElem?_eq_getElem hil⟩
      have hpx : partX p id = r.2 := by
        unfold partX
        rw [hi, Int.toNat_natCast, Nat.add_sub_cancel, hr]
      rw [hpx]
      have hr64 := v.p64 r (List.mem_of_getElem? hr)
      have hpn := v.pn
      have kw : IntKind.i64.wrap (id - 1) = (i : Int) := by rw [IntKind.wrap_i64] <;> omega
      have hilI : (i : Int) < (p.length : Int) := by omega
      have cB := fun w => Base_any x hx64 w
      have cS := fun (W : World) (x : Ext w W) => scaled_any b t n k p m l v id W (h.ext x)
      have hsl := r64 (scN_lt k m l id)
      obtain ⟨sc, hsc⟩ : ∃ q, q = scN k m l id := ⟨_, rfl⟩
      rw [← hsc] at cS hsl ⊢
      have cP := fun w => Pow_any r.2 sc hr64 hsl w
      obtain ⟨pw, hpw⟩ : ∃ q, q = powM bQ r.2 sc := ⟨_, rfl⟩
      have lpw : pw < 18446744073709551616 := by rw [hpw]; exact pw64 _ _
      rw [← hpw] at cP ⊢
      have cM := fun w => MulE s.2 pw hs64 lpw w
      obtain ⟨mu, hmu⟩ : ∃ q, q = mulM bQ s.2 pw := ⟨_, rfl⟩
      obtain ⟨ba, hba⟩ : ∃ q, q = powM bQ 4 x := ⟨_, rfl⟩
      rw [← hmu] at cM ⊢
      rw [← hba] at cB ⊢
      obtain ⟨rv, hrv⟩ : ∃ q : Nat, q = if ba = mu then 0 else 60 := ⟨_, rfl⟩
      rw [← hrv]
      have HV := Lib.hid hrv
      clear hrv
      obtain ⟨A, c, M, d, B, e, h1, h2, h3, h4, h5, h6, h7⟩ := h
      have HB := Lib.hid h1
      have HRP := Lib.hid h5
      obtain ⟨ad, rfl, -, -, -⟩ := reads_share h5 hr
      clear h1 h2 h3 h4 h5 h6 h7 v hrange hx64 hR he hm hs64 hidr hpx hr64 hpn hsl hsc hpw lpw hmu hba ho
      have HI := Lib.hid hi
      clear hi
      go_enter Tryz.func50, Tryz.ntmps50
      have x0 : Ext w (w.alloc (.cells #[.int .i64 id, .int .u64 (x : Int)] 37)) := (Ext.refl w).alloc _
      go_wp2_with (go_at_call 61; refine (c1 _ x0).mono ?_; clear c1; rintro e w1 ⟨rfl, x1⟩; have hb := Lib.hid (ext_blk x1 (Blk.new w 37 #[.int .i64 id, .int .u64 (x : Int)])); have g1 := fun o => (two (hb.out.alloc o)).1; have g2 := fun o => (two (hb.out.alloc o)).2)
      obtain ⟨W0, e0⟩ : ∃ W, W = w1.alloc (.cells #[.int .i64 s.1, .int .u64 (s.2 : Int)] 37) := ⟨_, rfl⟩
      have b1 := Blk.new w1 37 #[.int .i64 s.1, .int .u64 (s.2 : Int)]
      have X0 : Ext w W0 := by rw [e0]; exact (x0.trans x1).alloc _
      have b2 : Blk W0 w.heap.size 37 #[.int .i64 id, .int .u64 (x : Int)] := by rw [e0]; exact hb.out.alloc _
      rw [← e0] at b1 ⊢
      obtain ⟨_, e', -, q0, q1⟩ := reads_share (HRP.out.below X0.out) hr
      cases e'
      have hl := later6 (ext_blk X0 HB.out)
      have j0 := fun i : Later W0 => (two (ext_blk i.ext b1)).2
      have j1 := fun i : Later W0 => (two (ext_blk i.ext b2)).1
      have j2 := fun i : Later W0 => (two (ext_blk i.ext b2)).2
      have j3 := fun i : Later W0 => (hl i).2.2.2.1
      have j4 := fun i : Later W0 => i.cell q1
      clear e0 g1 g2 hb b1 b2 q0 q1 hl
      by_cases hq : ba = mu
      · have hv : Hid (rv = 0) := Lib.hid (by rw [HV.out, if_pos hq])
        have d3 : ((ba : Int) != (mu : Int)) = false := by simp [hq]
        clear hq
        refine wp_region_later (by kernel_rfl) (by kernel_rfl) ?_
        repeat (go_big_quiet_step (first
          | (go_at_call 43; exact Later.calls (cB _))
          | (go_at_call 63; exact Later.calls (cS _ (X0.trans (Later.ext _))))
          | (go_at_call 38; exact Later.calls (cP _))
          | (go_at_call 73; exact Later.calls (cM _))))
        refine wpQuiet_nil ?_
        rintro W2 ⟨q, hq⟩
        have x5 : Ext w W2 := by rw [hq]; exact X0.trans q.ext
        clear hq q j0 j1 j2 j3 j4
        go_wp2
        go_ret
        exact ⟨by rw [hv.out]; rfl, x5⟩
      · have hv : Hid (rv = 60) := Lib.hid (by rw [HV.out, if_neg hq])
        have d3 : ((ba : Int) != (mu : Int)) = true := by simp; omega
        clear hq
        refine wp_region_later (by kernel_rfl) (by kernel_rfl) ?_
        repeat (go_big_quiet_step (first
          | (go_at_call 43; exact Later.calls (cB _))
          | (go_at_call 63; exact Later.calls (cS _ (X0.trans (Later.ext _))))
          | (go_at_call 38; exact Later.calls (cP _))
          | (go_at_call 73; exact Later.calls (cM _))))
        refine wpQuiet_nil ?_
        rintro W2 ⟨q, hq⟩
        have x5 : Ext w W2 := by rw [hq]; exact X0.trans q.ext
        clear hq q j0 j1 j2 j3 j4
        go_wp2
        go_ret
        exact ⟨by rw [hv.out]; rfl, x5⟩
end Go.Proofs.YtiecfamjnnmpaaaGreat

/- Signers, walked: nonce, Commit. -/
namespace Go.Proofs.YtiecfamjnnmpaaaGreat
set_option linter.unusedVariables false
open Go.RowKit Go.Shelf Go.Maps
attribute [local irreducible] atN prodN sumN wantN chkN mix hSum hNum chalN chN scN

def commitS : ByteArray := { data := #[99, 111, 109, 109, 105, 116] }
/-- A signer's nonce. -/
def qnN (x id sn : Nat) (m : List Nat) : Nat := hNum commitS [be x 8, be id 8, be sn 8, m] (bR - 1) + 1
theorem qnN_lt (x id sn : Nat) (m : List Nat) : qnN x id sn m < bR := by
  have := hNum_lt commitS [be x 8, be id 8, be sn 8, m] (m := bR - 1) (by decide)
  unfold qnN; unfold bR at *; omega
theorem first8 {w : World} {A : Option Addr} {l : List Nat} {c : Nat} (h : Reads w w.heap.size 1 A 16 (bv l)) (hc : 16 ≤ c) :
    ∃ A', (∀ W : World, (Instr.slice 22 (.slice A 16 c) none (some (.int .i64 8)) none).run Tryz.prog W = .ok (.slice A' 8 c) W) ∧ Reads w w.heap.size 1 A' 8 (bv (l.take 8)) := by
  obtain ⟨ad, rfl, hb, hcell⟩ := h.2 (by decide)
  refine ⟨some ad, fun W => ?_, ?_, fun _ => ⟨ad, rfl, hb, fun j u hj => hcell j u ?_⟩⟩
  · have := slice_h8 (some ad) 16 c 8 (by omega) W
    rw [show ((8 : Nat) : Int) = 8 from rfl] at this
    rw [this]
    unfold sliced
    rw [if_neg (by omega)]
    simp [Addr.add]
  · have := h.1
    rw [bv_length] at this ⊢
    rw [List.length_take]; omega
  · have e : bv (l.take 8) = (bv l).take 8 := by simp [bv]
    rw [e, List.getElem?_take] at hj
    split at hj
    · exact hj
    · cases hj
theorem last8 {w : World} {A : Option Addr} {l : List Nat} {c : Nat} (h : Reads w w.heap.size 1 A 16 (bv l)) (hc : 16 ≤ c) :
    ∃ A' c', (∀ W : World, (Instr.slice 22 (.slice A 16 c) (some (.int .i64 8)) none none).run Tryz.prog W = .ok (.slice A' 8 c') W) ∧ 8 ≤ c' ∧ Reads w w.heap.size 1 A' 8 (bv (l.drop 8)) := by
  obtain ⟨ad, rfl, -, -⟩ := h.2 (by decide)
  have h1 := h.cut (k := 8) (cap := c) (by decide) hc
  rw [if_neg (by omega)] at h1
  refine ⟨some (ad.add 8), c - 8, fun W => ?_, by omega, ?_⟩
  · have := slice_l8 (some ad) 16 c 8 (by decide) W
    rw [show ((8 : Nat) : Int) = 8 from rfl] at this
    rw [this, sliced_at ad 8 16 c (by omega)]
  · have e : bv (l.drop 8) = (bv l).drop 8 := by simp [bv]
    rw [e]
    exact h1
theorem parts_4 {W : World} {T : TypeId} {A B C D : Option Addr} {c cb cc cd x y z : Nat} {l : List Nat} (hb : Reads W W.heap.size 1 B 8 (bv (be x 8))) (hcb : 8 ≤ cb) (hC : Reads W W.heap.size 1 C 8 (bv (be y 8))) (hcc : 8 ≤ cc) (hD : Reads W W.heap.size 1 D 8 (bv (be z 8))) (hcd : 8 ≤ cd) (hc : l.length ≤ c) (hr : Reads W W.heap.size 1 A l.length (bv l)) :
    Parts (W.alloc (.cells #[.slice B 8 cb, .slice C 8 cc, .slice D 8 cd, .slice A l.length c] T)) (W.alloc (.cells #[.slice B 8 cb, .slice C 8 cc, .slice D 8 cd, .slice A l.length c] T)).heap.size (some ⟨W.heap.size, 0, none⟩) [be x 8, be y 8, be z 8, l] :=
  parts_new rfl fun j p hj => match j, hj with
    | 0, hj => by cases hj; exact ⟨B, cb, by rw [be_length]; rfl, by rw [be_length]; exact hcb, by rw [be_length]; exact hb⟩
    | 1, hj => by cases hj; exact ⟨C, cc, by rw [be_length]; rfl, by rw [be_length]; exact hcc, by rw [be_length]; exact hC⟩
    | 2, hj => by cases hj; exact ⟨D, cd, by rw [be_length]; rfl, by rw [be_length]; exact hcd, by rw [be_length]; exact hD⟩
    | 3, hj => by cases hj; exact ⟨A, c, rfl, hc, hr⟩
theorem lts4 (x y z : Nat) {l : List Nat} (hl : ∀ x ∈ l, x < 256) : ∀ p ∈ [be x 8, be y 8, be z 8, l], ∀ x ∈ p, x < 256 := by
  intro p hp; simp only [List.mem_cons, List.not_mem_nil, or_false] at hp
  rcases hp with rfl | rfl | rfl | rfl
  · exact be_lt8 x
  · exact be_lt8 y
  · exact be_lt8 z
  · exact hl
theorem len4 (tag : ByteArray) (ht : tag.size ≤ 10) (x y z : Nat) {l : List Nat} (h : l.length ≤ 1000) : (coded (strN tag) [be x 8, be y 8, be z 8, l]).length ≤ 1099511627776 := by simp [coded, be_length, strN_length]; omega
theorem bytes2_take (a b : Nat) : (bytes2 a b).take 8 = be a 8 := by unfold bytes2; rw [List.take_append_of_le_length (by rw [be_length]; omega), List.take_of_length_le (by rw [be_length]; omega)]
theorem bytes2_drop (a b : Nat) : (bytes2 a b).drop 8 = be b 8 := by unfold bytes2; rw [List.drop_append, List.drop_of_length_le (by rw [be_length]; omega), be_length]; rfl

set_option maxRecDepth 100000 in
set_option maxHeartbeats 4000000 in
theorem qnonce_any (x id sn : Nat) (hx : x < 18446744073709551616) (hid : id < 18446744073709551616) (hsn : sn < 9223372036854775808) (m : List Nat) (hm : ∀ y ∈ m, y < 256) (hl : m.length ≤ 1000) (M : Option Addr) (d : Nat) (hd : m.length ≤ d) (w : World) (hr : Reads w w.heap.size 1 M m.length (bv m)) :
    Calls Tryz.prog 44 #[.agg #[.int .i64 (id : Int), .int .u64 (x : Int)], .int .i64 (sn : Int), .slice M m.length d] w fun e w' => e = .returned (.int .u64 (qnN x id sn m : Nat)) ∧ Ext w w' := by
  have c1 := fun W => bytes_any x id W
  have c2 := fun W => bytes_any sn 0 W
  obtain ⟨tx, ty, c3, c4⟩ := tagNum commitS [be x 8, be id 8, be sn 8, m] (bR - 1) (by decide) (lts4 x id sn hm) (len4 commitS (by decide) x id sn hl)
  have hlt := hNum_lt commitS [be x 8, be id 8, be sn 8, m] (m := bR - 1) (by decide)
  unfold qnN
  obtain ⟨u, hu⟩ : ∃ u, u = hNum commitS [be x 8, be id 8, be sn 8, m] (bR - 1) := ⟨_, rfl⟩
  rw [← hu] at hlt c4 ⊢
  rw [show bR - 1 = 1152921504606845788 from rfl] at c4
  simp only [Int.cast_ofNat_Int] at c4 c2
  have e2 := (wrap_one (n := u) (by unfold bR at *; omega)).2
  have kw1 : IntKind.u64.wrap (id : Int) = (id : Int) := by rw [IntKind.wrap_u64]; omega
  have kw2 : IntKind.u64.wrap (sn : Int) = (sn : Int) := by rw [IntKind.wrap_u64]; omega
  have HR := Lib.hid hr
  have HD := Lib.hid hd
  clear hx hid hsn hm hl hr hd hlt hu
  go_enter Tryz.func44, Tryz.ntmps44
  have x0 : Ext w (w.alloc (.cells #[.int .i64 (id : Int), .int .u64 (x : Int)] 37)) := (Ext.refl w).alloc _
  go_wp2_with (first
    | (go_at_call 100; refine (c1 _).mono ?_; clear c1; rintro e w1 ⟨v1, rfl, o1, x1⟩; obtain ⟨A1, k1, rfl, hk1, r1⟩ := own_slice o1)
    | (go_at_call 100; refine (c2 _).mono ?_; clear c2; rintro e w2 ⟨v2, rfl, o2, x2⟩; obtain ⟨A2, k2, rfl, hk2, r2⟩ := own_slice o2))
  have r1' := (r1.below x2.out).more x2.size
  obtain ⟨B1, s1, q1⟩ := first8 r1' hk1
  obtain ⟨B2, k3, s2, hk3, q2⟩ := last8 r1' hk1
  obtain ⟨B3, s3, q3⟩ := first8 r2 hk2
  rw [bytes2_take] at q1 q3
  rw [bytes2_drop] at q2
  have X2 := Lib.hid ((x0.trans x1).trans x2)
  have rm := (HR.out.below X2.out.out).more X2.out.size
  have c3' := fun T => c3 (some ⟨w2.heap.size, 0, none⟩) 4 (w2.alloc (.cells #[.slice B1 8 k1, .slice B2 8 k3, .slice B3 8 k2, .slice M m.length d] T)).drew (Nat.le_refl 4) (parts_4 (W := w2) (T := T) q1 (by omega) q2 hk3 q3 (by omega) HD.out rm)
  simp only [List.length_cons, List.length_nil, Nat.reduceAdd, Nat.zero_add] at c3'
  clear r1' q1 q2 q3 rm r1 r2 o1 o2 x1 x2 x0 c3 hk1 hk2 hk3
  go_region_with (first
    | (go_at_call 76; refine (c3' _).mono ?_; clear c3'; rintro e w3 ⟨rfl, x3⟩)
    | (go_at_call 75; refine (c4 _).mono ?_; clear c4; rintro e w4 ⟨rfl, x4⟩))
  all_goals (
    go_wp2
    go_ret
    exact ⟨rfl, ((X2.out.alloc _).drew.trans x3).trans x4⟩)
end Go.Proofs.YtiecfamjnnmpaaaGreat

/- Signers, walked: Commit. -/
namespace Go.Proofs.YtiecfamjnnmpaaaGreat
set_option linter.unusedVariables false
open Go.RowKit Go.Shelf Go.Maps
attribute [local irreducible] atN prodN sumN wantN chkN mix hSum hNum chalN chN scN qnN

/-- What a signer commits to, and why not. -/
def comE (id : Int) (x : Nat) (ss : Int) : Nat := if id < 1 ∨ 7 < id ∨ bR ≤ x ∨ ss < 0 ∨ 1099511627776 < ss then 1 else 0
def comS (id : Int) (x : Nat) (ss : Int) (m : List Nat) : Int × Nat := if comE id x ss = 0 then (id, powM bQ 4 (qnN x id.toNat ss.toNat m)) else (0, 0)
def comV (id : Int) (x : Nat) (ss : Int) (m : List Nat) : Value := .tuple #[.agg #[.int .i64 (comS id x ss m).1, .int .u64 ((comS id x ss m).2 : Int)], .int .i64 (comE id x ss : Nat)]
theorem com_bad {id : Int} {x : Nat} {ss : Int} (h : id < 1 ∨ 7 < id ∨ bR ≤ x ∨ ss < 0 ∨ 1099511627776 < ss) (m : List Nat) : comV id x ss m = .tuple #[.agg #[.int .i64 0, .int .u64 0], .int .i64 1] := by
  have e : comE id x ss = 1 := if_pos h
  unfold comV comS
  rw [e]; rfl
theorem com_ok {id : Int} {x : Nat} {ss : Int} (h : ¬ (id < 1 ∨ 7 < id ∨ bR ≤ x ∨ ss < 0 ∨ 1099511627776 < ss)) (m : List Nat) : comV id x ss m = .tuple #[.agg #[.int .i64 id, .int .u64 (powM bQ 4 (qnN x id.toNat ss.toNat m) : Nat)], .int .i64 0] := by
  have e : comE id x ss = 0 := if_neg h
  unfold comV comS
  rw [e]; rfl

theorem start_two (w : World) (x y : Array Value) (T : TypeId) : ∃ W, (w.alloc (.cells x T)).alloc (.cells y T) = W ∧ Blk W w.heap.size T x ∧ Blk W (w.heap.size + 1) T y ∧ Ext w W := by
  refine ⟨_, rfl, (Blk.new w T x).alloc _, ?_, ((Ext.refl w).alloc _).alloc _⟩
  have := Blk.new (w.alloc (.cells x T)) T y
  rw [World.size_alloc] at this
  exact this

set_option maxRecDepth 100000 in
set_option maxHeartbeats 4000000 in
theorem Commit_any (id : Int) (x : Nat) (hx : x < 18446744073709551616) (ss : Int) (m : List Nat) (hm : ∀ y ∈ m, y < 256) (hl : m.length ≤ 1000) (M : Option Addr) (d : Nat) (hd : m.length ≤ d) (w : World) (hr : Reads w w.heap.size 1 M m.length (bv m)) :
    Calls Tryz.prog 15 #[.agg #[.int .i64 id, .int .u64 (x : Int)], .int .i64 ss, .slice M m.length d] w fun e w' => e = .returned (comV id x ss m) ∧ Ext w w' := by
  have xx : Ext w ((w.alloc (.cells #[.int .i64 id, .int .u64 (x : Int)] 37)).alloc (.cells #[.int .i64 0, .int .u64 0] 37)) := ((Ext.refl w).alloc _).alloc _
  obtain ⟨W1, e1, -, hb, -⟩ := start_two w #[.int .i64 id, .int .u64 (x : Int)] #[.int .i64 0, .int .u64 0] 37
  rw [← e1] at hb
  obtain ⟨p0, p1⟩ := two hb
  clear hb e1 W1
  by_cases t1 : id < 1
  · rw [com_bad (.inl t1)]
    clear hr hm hl hd hx
    go_enter Tryz.func15, Tryz.ntmps15
    go_wp2
    exact bodyPost_ret (v := .tuple #[.agg #[.int .i64 0, .int .u64 0], .int .i64 1]) (by simp [results, Tryz.results15, go_sem, p0, p1]) rfl ⟨rfl, xx⟩
  by_cases t2 : 7 < id
  · rw [com_bad (.inr (.inl t2))]
    clear hr hm hl hd hx
    go_enter Tryz.func15, Tryz.ntmps15
    go_wp2
    exact bodyPost_ret (v := .tuple #[.agg #[.int .i64 0, .int .u64 0], .int .i64 1]) (by simp [results, Tryz.results15, go_sem, p0, p1]) rfl ⟨rfl, xx⟩
  by_cases t3 : bR ≤ x
  · rw [com_bad (.inr (.inr (.inl t3)))]
    have d1 : decide ((1152921504606845789 : Int) ≤ (x : Int)) = true := by unfold bR at t3; simp; omega
    have d2 : (1152921504606845789 : Int) ≤ (x : Int) := by unfold bR at t3; omega
    clear hr hm hl hd hx t3
    go_enter Tryz.func15, Tryz.ntmps15
    go_wp2
    exact bodyPost_ret (v := .tuple #[.agg #[.int .i64 0, .int .u64 0], .int .i64 1]) (by simp [results, Tryz.results15, go_sem, p0, p1]) rfl ⟨rfl, xx⟩
  have d1 : decide ((1152921504606845789 : Int) ≤ (x : Int)) = false := by unfold bR at t3; simp; omega
  have d2 : ¬ (1152921504606845789 : Int) ≤ (x : Int) := by unfold bR at t3; omega
  by_cases t4 : ss < 0
  · rw [com_bad (.inr (.inr (.inr (.inl t4))))]
    clear hr hm hl hd hx t3
    go_enter Tryz.func15, Tryz.ntmps15
    go_wp2
    exact bodyPost_ret (v := .tuple #[.agg #[.int .i64 0, .int .u64 0], .int .i64 1]) (by simp [results, Tryz.results15, go_sem, p0, p1]) rfl ⟨rfl, xx⟩
  by_cases t5 : 1099511627776 < ss
  · rw [com_bad (.inr (.inr (.inr (.inr t5))))]
    clear hr hm hl hd hx t3
    go_enter Tryz.func15, Tryz.ntmps15
    go_wp2
    exact bodyPost_ret (v := .tuple #[.agg #[.int .i64 0, .int .u64 0], .int .i64 1]) (by simp [results, Tryz.results15, go_sem, p0, p1]) rfl ⟨rfl, xx⟩
  rw [com_ok (by rintro (h | h | h | h | h); exact t1 h; exact t2 h; exact t3 h; exact t4 h; exact t5 h)]
  obtain ⟨idn, rfl⟩ : ∃ n : Nat, id = n := ⟨id.toNat, by omega⟩
  obtain ⟨sn, rfl⟩ : ∃ n : Nat, ss = n := ⟨ss.toNat, by omega⟩
  rw [Int.toNat_natCast, Int.toNat_natCast]
  have c1 := fun (W : World) (x' : Ext w W) => qnonce_any x idn sn hx (by omega) (by omega) m hm hl M d hd W ((hr.below x'.out).more x'.size)
  have hlt := r64 (qnN_lt x idn sn m)
  obtain ⟨u, hu⟩ : ∃ u, u = qnN x idn sn m := ⟨_, rfl⟩
  rw [← hu] at c1 hlt ⊢
  have c2 := fun W => Base_any u hlt W
  obtain ⟨v, hv⟩ : ∃ v, v = powM bQ 4 u := ⟨_, rfl⟩
  rw [← hv] at c2 ⊢
  clear hr hm hl hd hx t3 hu hv hlt p0 p1 xx
  go_enter Tryz.func15, Tryz.ntmps15
  go_wp2
  obtain ⟨W0, e0, h1, h2, x0⟩ := start_two w #[.int .i64 (idn : Int), .int .u64 (x : Int)] #[.int .i64 0, .int .u64 0] 37
  rw [e0]
  obtain ⟨q1, q2, q3, q4⟩ := arr2 h1
  obtain ⟨r1, r2, r3, r4⟩ := arr2 h2
  have H1 := Lib.hid h1
  have H2 := Lib.hid h2
  clear h1 h2 e0
  go_region_with (first
    | (go_at_call 44; refine (c1 _ x0.drew).mono ?_; clear c1; rintro e w1 ⟨rfl, x1⟩; have z1 := Lib.hid (ext_blk x1 H1.out.drew); have z2 := Lib.hid (ext_blk x1 H2.out.drew); obtain ⟨q1A, q2A, q3A, q4A⟩ := arr2 z1.out; obtain ⟨r1A, r2A, r3A, r4A⟩ := arr2 z2.out)
    | (go_at_call 43; refine (c2 _).mono ?_; clear c2; rintro e w2 ⟨rfl, x2⟩; have y1 := Lib.hid (ext_blk x2 z1.out); have y2 := Lib.hid (ext_blk x2 z2.out); obtain ⟨q1B, q2B, q3B, q4B⟩ := arr2 y1.out; obtain ⟨r1B, r2B, r3B, r4B⟩ := arr2 y2.out))
  all_goals (
    go_wp2
    refine bodyPost_ret (v := .tuple #[.agg #[.int .i64 (idn : Int), .int .u64 (v : Int)], .int .i64 0]) (by simp [results, Tryz.results15, go_sem, r1B, r2B]) rfl ⟨rfl, ?_⟩
    exact (((x0.drew.trans x1).trans x2).setCell (p := ⟨w.heap.size + 1, 0, none⟩) (by simp) _).setCell (p := ⟨w.heap.size + 1, 1, none⟩) (by simp) _)
end Go.Proofs.YtiecfamjnnmpaaaGreat

/- Crews by the document, walked: nonce, Commit. -/
namespace Go.Proofs.YtiecfamjnnmpaaaGreat
set_option linter.unusedVariables false
open Go.RowKit Go.Shelf Go.Maps
attribute [local irreducible] atN prodN sumN wantN chkN mix hSum hNum chalN wgtV wgtE inB okC

theorem parts_ext {w w' : World} {A : Option Addr} {ps : List (List Nat)} (h : Parts w w.heap.size A ps) (x : Ext w w') : Parts w' w'.heap.size A ps := by
  obtain ⟨vs, h1, h2⟩ := h.below x.out
  exact ⟨vs, h1.more x.size, fun j p hj => by obtain ⟨a, c, e, hc, hr⟩ := h2 j p hj; exact ⟨a, c, e, hc, hr.more x.size⟩⟩
theorem blk_next (w : World) (o : Obj) (T : TypeId) (cs : Array Value) : Blk ((w.alloc o).alloc (.cells cs T)) (w.heap.size + 1) T cs := by
  have := Blk.new (w.alloc o) T cs
  rwa [World.size_alloc] at this
theorem parts_4b {W : World} {o : Obj} {T : TypeId} {A B C D : Option Addr} {c cb cc cd x y z : Nat} {l : List Nat} (hb : Reads W W.heap.size 1 B 8 (bv (be x 8))) (hcb : 8 ≤ cb) (hC : Reads W W.heap.size 1 C 8 (bv (be y 8))) (hcc : 8 ≤ cc) (hD : Reads W W.heap.size 1 D 8 (bv (be z 8))) (hcd : 8 ≤ cd) (hc : l.length ≤ c) (hr : Reads W W.heap.size 1 A l.length (bv l)) :
    Parts ((W.alloc o).alloc (.cells #[.slice B 8 cb, .slice C 8 cc, .slice D 8 cd, .slice A l.length c] T)) ((W.alloc o).alloc (.cells #[.slice B 8 cb, .slice C 8 cc, .slice D 8 cd, .slice A l.length c] T)).heap.size (some ⟨W.heap.size + 1, 0, none⟩) [be x 8, be y 8, be z 8, l] := by
  have x := (Ext.refl W).alloc o
  have := parts_4 (T := T) ((hb.below x.out).more x.size) hcb ((hC.below x.out).more x.size) hcc ((hD.below x.out).more x.size) hcd hc ((hr.below x.out).more x.size)
  rw [show (W.alloc o).heap.size = W.heap.size + 1 from World.size_alloc W o] at this
  exact this

set_option maxRecDepth 100000 in
set_option maxHeartbeats 8000000 in
theorem rnonce6_any (x id sn : Nat) (hx : x < 18446744073709551616) (hid : id < 18446744073709551616) (hsn : sn < 9223372036854775808) (m : List Nat) (hm : ∀ y ∈ m, y < 256) (hl : m.length ≤ 1000) (M : Option Addr) (d : Nat) (hd : m.length ≤ d) (w : World) (hr : Reads w w.heap.size 1 M m.length (bv m)) :
    Calls Tryz.prog 46 #[.agg #[.int .i64 (id : Int), .int .u64 (x : Int)], .int .i64 (sn : Int), .slice M m.length d] w fun e w' => e = .returned (.int .u64 (qnN x id sn m : Nat)) ∧ Ext w w' := by
  have cE1 := fun W => Eight_any x W
  have cE2 := fun W => Eight_any id W
  have cE3 := fun W => Eight_any sn W
  obtain ⟨tx, ty, c3, c4⟩ := rtagNum commitS [be x 8, be id 8, be sn 8, m] (bR - 1) (by decide) (lts4 x id sn hm) (len4 commitS (by decide) x id sn hl)
  have hlt := hNum_lt commitS [be x 8, be id 8, be sn 8, m] (m := bR - 1) (by decide)
  unfold qnN
  obtain ⟨u, hu⟩ : ∃ u, u = hNum commitS [be x 8, be id 8, be sn 8, m] (bR - 1) := ⟨_, rfl⟩
  rw [← hu] at hlt c4 ⊢
  rw [show bR - 1 = 1152921504606845788 from rfl] at c4
  simp only [Int.cast_ofNat_Int] at c4
  have e2 := (wrap_one (n := u) (by unfold bR at *; omega)).2
  have kw1 : IntKind.u64.wrap (id : Int) = (id : Int) := by rw [IntKind.wrap_u64]; omega
  have kw2 : IntKind.u64.wrap (sn : Int) = (sn : Int) := by rw [IntKind.wrap_u64]; omega
  have c3 : ∀ (A : Option Addr) (c : Nat) (W : World), 4 ≤ c → Parts W W.heap.size A [be x 8, be id 8, be sn 8, m] → Calls Tryz.prog 82 #[.string { data := #[99, 111, 109, 109, 105, 116] }, .slice A 4 c] W fun e w' => e = .returned (.agg #[.int .u64 (tx : Int), .int .u64 (ty : Int)]) ∧ Ext W w' := c3
  have HR := Lib.hid hr
  have HD := Lib.hid hd
  clear hx hid hsn hm hl hr hd hlt hu
  go_enter Tryz.func46, Tryz.ntmps46
  go_wp2
  obtain ⟨w4, e4⟩ : ∃ W, W = w.alloc (.cells #[.int .i64 (id : Int), .int .u64 (x : Int)] 37) := ⟨_, rfl⟩
  have x0 : Ext w w4 := by rw [e4]; exact (Ext.refl w).alloc _
  have hbb : Blk w4 w.heap.size 37 #[.int .i64 (id : Int), .int .u64 (x : Int)] := by rw [e4]; exact Blk.new _ _ _
  rw [← e4]
  obtain ⟨b0, b1⟩ := two hbb
  have nn0 := World.new_ne w4 ⟨w.heap.size, 0, none⟩ b0
  simp only at nn0
  have HBB := Lib.hid fun (W : World) (x : Ext w4 W) => two (ext_blk x hbb)
  clear e4 hbb
  go_region_held3 (fun w' => w'.cell? ⟨w.heap.size, 0, none⟩ = some (.int .i64 (id : Int)) ∧ w'.cell? ⟨w.heap.size, 1, none⟩ = some (.int .u64 (x : Int))) (first | exact ⟨m40, m41⟩ | exact ⟨m30, m31⟩ | exact ⟨m20, m21⟩ | exact ⟨m10, m11⟩ | exact HBB.out _ (((Ext.refl w4).alloc _).drew) | exact HBB.out _ ((Ext.refl w4).drew) | exact HBB.out _ (X1.alloc _) | exact HBB.out _ (X2.alloc _) | exact HBB.out _ (X3.alloc _) | exact HBB.out _ ((X3.alloc _).alloc _) | exact HBB.out _ (X4.alloc _) | go_keep) (first
    | (go_at_call 101; first | ((with_reducible refine (cE1 w4.drew).mono ?_); clear cE1; rintro e w5 ⟨v1, rfl, o1, x1⟩; obtain ⟨A1, k1, rfl, hk1, r1⟩ := own_slice o1; have X1 := (Ext.refl w4).drew.trans x1; obtain ⟨m10, m11⟩ := HBB.out _ X1; have nn1 := World.new_ne w5 ⟨w.heap.size, 0, none⟩ m10; simp only at nn1) | ((with_reducible refine (cE1 (w4.alloc (.cells #[.int .u64 0, .int .u64 0] 93)).drew).mono ?_); clear cE1; rintro e w5 ⟨v1, rfl, o1, x1⟩; obtain ⟨A1, k1, rfl, hk1, r1⟩ := own_slice o1; have X1 := ((Ext.refl w4).alloc (.cells #[.int .u64 0, .int .u64 0] 93)).drew.trans x1; have hbn := ext_blk x1 (Blk.new w4 93 #[.int .u64 0, .int .u64 0]).drew; have y0 := (two hbn).1; have y1 := (two hbn).2; have y2 := hbn.frozen 0; have y3 := hbn.frozen 1; obtain ⟨m10, m11⟩ := HBB.out _ X1; have nn1 := World.new_ne w5 ⟨w.heap.size, 0, none⟩ m10; simp only at nn1))
    | (go_at_call 101; first | ((with_reducible refine (cE2 w5).mono ?_); clear cE2; rintro e w6 ⟨v2, rfl, o2, x2⟩; obtain ⟨A2, k2, rfl, hk2, r2⟩ := own_slice o2; have ZZ := x2; have X2 := X1.trans ZZ; have r1 := (r1.below ZZ.out).more ZZ.size; obtain ⟨m20, m21⟩ := HBB.out _ X2; have nn2 := World.new_ne w6 ⟨w.heap.size, 0, none⟩ m20; simp only at nn2; try (have hbn2 := ext_blk ZZ hbn; have y0 := (two hbn2).1; have y1 := (two hbn2).2; have y2 := hbn2.frozen 0; have y3 := hbn2.frozen 1; clear hbn; have hbn := hbn2; clear hbn2)) | ((with_reducible refine (cE2 (w5.alloc (.cells #[.int .u64 0, .int .u64 0] 93))).mono ?_); clear cE2; rintro e w6 ⟨v2, rfl, o2, x2⟩; obtain ⟨A2, k2, rfl, hk2, r2⟩ := own_slice o2; have ZZ := ((Ext.refl w5).alloc (.cells #[.int .u64 0, .int .u64 0] 93)).trans x2; have X2 := X1.trans ZZ; have r1 := (r1.below ZZ.out).more ZZ.size; have hbn := ext_blk x2 (Blk.new w5 93 #[.int .u64 0, .int .u64 0]); have y0 := (two hbn).1; have y1 := (two hbn).2; have y2 := hbn.frozen 0; have y3 := hbn.frozen 1; obtain ⟨m20, m21⟩ := HBB.out _ X2; have nn2 := World.new_ne w6 ⟨w.heap.size, 0, none⟩ m20; simp only at nn2))
    | (go_at_call 101; first | ((with_reducible refine (cE3 w6).mono ?_); clear cE3; rintro e w7 ⟨v3, rfl, o3, x3⟩; obtain ⟨A3, k3, rfl, hk3, r3⟩ := own_slice o3; have ZZ := x3; have X3 := X2.trans ZZ; have r1 := (r1.below ZZ.out).more ZZ.size; have r2 := (r2.below ZZ.out).more ZZ.size; obtain ⟨m30, m31⟩ := HBB.out _ X3; have nn3 := World.new_ne w7 ⟨w.heap.size, 0, none⟩ m30; simp only at nn3; try (have hbn2 := ext_blk ZZ hbn; have y0 := (two hbn2).1; have y1 := (two hbn2).2; have y2 := hbn2.frozen 0; have y3 := hbn2.frozen 1; clear hbn; have hbn := hbn2; clear hbn2)) | ((with_reducible refine (cE3 (w6.alloc (.cells #[.int .u64 0, .int .u64 0] 93))).mono ?_); clear cE3; rintro e w7 ⟨v3, rfl, o3, x3⟩; obtain ⟨A3, k3, rfl, hk3, r3⟩ := own_slice o3; have ZZ := ((Ext.refl w6).alloc (.cells #[.int .u64 0, .int .u64 0] 93)).trans x3; have X3 := X2.trans ZZ; have r1 := (r1.below ZZ.out).more ZZ.size; have r2 := (r2.below ZZ.out).more ZZ.size; have hbn := ext_blk x3 (Blk.new w6 93 #[.int .u64 0, .int .u64 0]); have y0 := (two hbn).1; have y1 := (two hbn).2; have y2 := hbn.frozen 0; have y3 := hbn.frozen 1; obtain ⟨m30, m31⟩ := HBB.out _ X3; have nn3 := World.new_ne w7 ⟨w.heap.size, 0, none⟩ m30; simp only at nn3))
    | (go_at_call 82; first
        | ((with_reducible refine (c3 (some ⟨w7.heap.size, 0, none⟩) 4 (w7.alloc (.cells #[.slice A1 8 k1, .slice A2 8 k2, .slice A3 8 k3, .slice M m.length d] 22)) (Nat.le_refl 4) (parts_4 (T := 22) r1 hk1 r2 hk2 r3 hk3 HD.out ((HR.out.below (x0.trans X3).out).more (x0.trans X3).size))).mono ?_); clear c3; rintro e w8 ⟨rfl, x8⟩; have ZZ := ((Ext.refl w7).alloc (.cells #[.slice A1 8 k1, .slice A2 8 k2, .slice A3 8 k3, .slice M m.length d] 22)).trans x8; have nn5 : w7.heap.size + 1 ≠ w.heap.size := (by have h1 := x0.size; have h2 := X3.size; omega); have X4 := X3.trans ZZ; obtain ⟨m40, m41⟩ := HBB.out _ X4; try (have hbn2 := ext_blk ZZ hbn; have y0 := (two hbn2).1; have y1 := (two hbn2).2; have y2 := hbn2.frozen 0; have y3 := hbn2.frozen 1; clear hbn; have hbn := hbn2; clear hbn2))
        | ((with_reducible refine (c3 (some ⟨w7.heap.size, 0, none⟩) 4 ((w7.alloc (.cells #[.slice A1 8 k1, .slice A2 8 k2, .slice A3 8 k3, .slice M m.length d] 22)).alloc (.cells #[.int .u64 0, .int .u64 0] 93)) (Nat.le_refl 4) (parts_ext (parts_4 (T := 22) r1 hk1 r2 hk2 r3 hk3 HD.out ((HR.out.below (x0.trans X3).out).more (x0.trans X3).size)) ((Ext.refl _).alloc _))).mono ?_); clear c3; rintro e w8 ⟨rfl, x8⟩; have ZZ := (((Ext.refl w7).alloc (.cells #[.slice A1 8 k1, .slice A2 8 k2, .slice A3 8 k3, .slice M m.length d] 22)).alloc (.cells #[.int .u64 0, .int .u64 0] 93)).trans x8; have nn5 : w7.heap.size + 1 ≠ w.heap.size := (by have h1 := x0.size; have h2 := X3.size; omega); have X4 := X3.trans ZZ; obtain ⟨m40, m41⟩ := HBB.out _ X4; have hbn := ext_blk x8 (blk_next w7 _ 93 #[.int .u64 0, .int .u64 0]); have y0 := (two hbn).1; have y1 := (two hbn).2; have y2 := hbn.frozen 0; have y3 := hbn.frozen 1)
        | ((with_reducible refine (c3 (some ⟨w7.heap.size + 1, 0, none⟩) 4 ((w7.alloc (.cells #[.int .u64 0, .int .u64 0] 93)).alloc (.cells #[.slice A1 8 k1, .slice A2 8 k2, .slice A3 8 k3, .slice M m.length d] 22)) (Nat.le_refl 4) (parts_4b r1 hk1 r2 hk2 r3 hk3 HD.out ((HR.out.below (x0.trans X3).out).more (x0.trans X3).size))).mono ?_); clear c3; rintro e w8 ⟨rfl, x8⟩; have ZZ := (((Ext.refl w7).alloc (.cells #[.int .u64 0, .int .u64 0] 93)).alloc (.cells #[.slice A1 8 k1, .slice A2 8 k2, .slice A3 8 k3, .slice M m.length d] 22)).trans x8; have nn5 : w7.heap.size + 1 ≠ w.heap.size := (by have h1 := x0.size; have h2 := X3.size; omega); have X4 := X3.trans ZZ; obtain ⟨m40, m41⟩ := HBB.out _ X4; have hbn := ext_blk x8 ((Blk.new w7 93 #[.int .u64 0, .int .u64 0]).alloc (.cells #[.slice A1 8 k1, .slice A2 8 k2, .slice A3 8 k3, .slice M m.length d] 22)); have y0 := (two hbn).1; have y1 := (two hbn).2; have y2 := hbn.frozen 0; have y3 := hbn.frozen 1)))
  all_goals first
    | (obtain ⟨W2, e5⟩ : ∃ W, W = w8.alloc (.cells #[.int .u64 (tx : Int), .int .u64 (ty : Int)] 93) := ⟨_, rfl⟩
       have XW : Ext w4 W2 := by rw [e5]; exact X4.alloc _
       have b2 : Blk W2 w8.heap.size 93 #[.int .u64 (tx : Int), .int .u64 (ty : Int)] := by rw [e5]; exact Blk.new _ _ _
       rw [← e5]
       obtain ⟨g, hg⟩ : ∃ g, g = w8.heap.size := ⟨_, rfl⟩
       rw [← hg] at b2 ⊢
       clear e5 hg)
    | (obtain ⟨g, hg⟩ : ∃ g, g = w4.heap.size := ⟨_, rfl⟩
       rw [← hg] at hbn ⊢
       obtain ⟨W2, e5⟩ : ∃ W, W = (w8.setCell ⟨g, 0, none⟩ (.int .u64 (tx : Int))).setCell ⟨g, 1, none⟩ (.int .u64 (ty : Int)) := ⟨_, rfl⟩
       have XW : Ext w4 W2 := by rw [e5]; exact (X4.setCell (p := ⟨g, 0, none⟩) (by rw [hg]; exact Nat.le_refl _) _).setCell (p := ⟨g, 1, none⟩) (by rw [hg]; exact Nat.le_refl _) _
       have b2 : Blk W2 g 93 #[.int .u64 (tx : Int), .int .u64 (ty : Int)] := by rw [e5]; exact (hbn.set_ 0 _).set_ 1 _
       rw [← e5]
       clear e5 hg)
    | (obtain ⟨g, hg⟩ : ∃ g, g = w5.heap.size := ⟨_, rfl⟩
       rw [← hg] at hbn ⊢
       obtain ⟨W2, e5⟩ : ∃ W, W = (w8.setCell ⟨g, 0, none⟩ (.int .u64 (tx : Int))).setCell ⟨g, 1, none⟩ (.int .u64 (ty : Int)) := ⟨_, rfl⟩
       have XW : Ext w4 W2 := by rw [e5]; exact (X4.setCell (p := ⟨g, 0, none⟩) (by rw [hg]; exact X1.size) _).setCell (p := ⟨g, 1, none⟩) (by rw [hg]; exact X1.size) _
       have b2 : Blk W2 g 93 #[.int .u64 (tx : Int), .int .u64 (ty : Int)] := by rw [e5]; exact (hbn.set_ 0 _).set_ 1 _
       rw [← e5]
       clear e5 hg)
    | (obtain ⟨g, hg⟩ : ∃ g, g = w6.heap.size := ⟨_, rfl⟩
       rw [← hg] at hbn ⊢
       obtain ⟨W2, e5⟩ : ∃ W, W = (w8.setCell ⟨g, 0, none⟩ (.int .u64 (tx : Int))).setCell ⟨g, 1, none⟩ (.int .u64 (ty : Int)) := ⟨_, rfl⟩
       have XW : Ext w4 W2 := by rw [e5]; exact (X4.setCell (p := ⟨g, 0, none⟩) (by rw [hg]; exact X2.size) _).setCell (p := ⟨g, 1, none⟩) (by rw [hg]; exact X2.size) _
       have b2 : Blk W2 g 93 #[.int .u64 (tx : Int), .int .u64 (ty : Int)] := by rw [e5]; exact (hbn.set_ 0 _).set_ 1 _
       rw [← e5]
       clear e5 hg)
    | (obtain ⟨g, hg⟩ : ∃ g, g = w7.heap.size + 1 := ⟨_, rfl⟩
       rw [← hg] at hbn ⊢
       obtain ⟨W2, e5⟩ : ∃ W, W = (w8.setCell ⟨g, 0, none⟩ (.int .u64 (tx : Int))).setCell ⟨g, 1, none⟩ (.int .u64 (ty : Int)) := ⟨_, rfl⟩
       have XW : Ext w4 W2 := by rw [e5]; exact (X4.setCell (p := ⟨g, 0, none⟩) (by rw [hg]; exact Nat.le_succ_of_le X3.size) _).setCell (p := ⟨g, 1, none⟩) (by rw [hg]; exact Nat.le_succ_of_le X3.size) _
       have b2 : Blk W2 g 93 #[.int .u64 (tx : Int), .int .u64 (ty : Int)] := by rw [e5]; exact (hbn.set_ 0 _).set_ 1 _
       rw [← e5]
       clear e5 hg)
    | (obtain ⟨g, hg⟩ : ∃ g, g = w7.heap.size := ⟨_, rfl⟩
       rw [← hg] at hbn ⊢
       obtain ⟨W2, e5⟩ : ∃ W, W = (w8.setCell ⟨g, 0, none⟩ (.int .u64 (tx : Int))).setCell ⟨g, 1, none⟩ (.int .u64 (ty : Int)) := ⟨_, rfl⟩
       have XW : Ext w4 W2 := by rw [e5]; exact (X4.setCell (p := ⟨g, 0, none⟩) (by rw [hg]; exact X3.size) _).setCell (p := ⟨g, 1, none⟩) (by rw [hg]; exact X3.size) _
       have b2 : Blk W2 g 93 #[.int .u64 (tx : Int), .int .u64 (ty : Int)] := by rw [e5]; exact (hbn.set_ 0 _).set_ 1 _
       rw [← e5]
       clear e5 hg)
  all_goals
    have HXW := Lib.hid XW
    obtain ⟨t0, t1⟩ := two b2
    clear XW b2
    go_wp2_with (go_at_call 81; refine (c4 _).mono ?_; clear c4; rintro e w9 ⟨rfl, x9⟩)
    go_ret
    exact ⟨rfl, (x0.trans HXW.out).trans x9⟩
end Go.Proofs.YtiecfamjnnmpaaaGreat

/- Crews, walked: row (three checks, whatever they are). -/
namespace Go.Proofs.YtiecfamjnnmpaaaGreat
set_option linter.unusedVariables false
open Go.RowKit Go.Shelf Go.Maps

/-- The first error of three. -/
def rowN (a b c : Nat) : Nat := if a = 0 then (if b = 0 then c else b) else a
set_option maxRecDepth 100000 in
set_option maxHeartbeats 4000000 in
theorem row_any (F1 F2 F3 : FuncId) (hE1 : Enters Tryz.prog F1) (hE2 : Enters Tryz.prog F2) (hE3 : Enters Tryz.prog F3) (a1 b1 a2 b2 a3 b3 : Array Value) (n1 n2 n3 : Nat) (P1 P2 P3 : World → Prop) (g : Nat) (w : World)
    (hk : ∀ W, (W = w ∨ P1 W ∨ P2 W) → W.cell? ⟨g, 0, none⟩ = some (.func (.func F1) a1 b1) ∧ W.cell? ⟨g, 1, none⟩ = some (.func (.func F2) a2 b2) ∧ W.cell? ⟨g, 2, none⟩ = some (.func (.func F3) a3 b3))
    (c1 : Calls Tryz.prog F1 (a1 ++ b1) w fun e w' => e = .returned (.int .i64 (n1 : Int)) ∧ P1 w')
    (c2 : n1 = 0 → ∀ W, P1 W → Calls Tryz.prog F2 (a2 ++ b2) W fun e w' => e = .returned (.int .i64 (n2 : Int)) ∧ P2 w')
    (c3 : n1 = 0 → n2 = 0 → ∀ W, P2 W → Calls Tryz.prog F3 (a3 ++ b3) W fun e w' => e = .returned (.int .i64 (n3 : Int)) ∧ P3 w') :
    Calls Tryz.prog 51 #[.slice (some ⟨g, 0, none⟩) 3 3] w fun e w' => e = .returned (.int .i64 (rowN n1 n2 n3 : Nat)) ∧ ((n1 ≠ 0 ∧ P1 w') ∨ (n1 = 0 ∧ n2 ≠ 0 ∧ P2 w') ∨ (n1 = 0 ∧ n2 = 0 ∧ P3 w')) := by
  unfold Enters at hE1 hE2 hE3
  have HK := Lib.hid hk
  have C2 := Lib.hid c2
  have C3 := Lib.hid c3
  have C1 := Lib.hid c1
  clear hk c1 c2 c3
  go_enter Tryz.func51, Tryz.ntmps51
  go_wp2
  go_loopg [8] 3 (fun m s8 wr => (m = 3 ∧ s8 = .int .i64 0 ∧ wr = w) ∨ (m = 2 ∧ s8 = .int .i64 1 ∧ n1 = 0 ∧ P1 wr) ∨ (m = 1 ∧ s8 = .int .i64 2 ∧ n1 = 0 ∧ n2 = 0 ∧ P2 wr) ∨ (m = 0 ∧ s8 = .int .i64 3 ∧ n1 = 0 ∧ n2 = 0 ∧ n3 = 0 ∧ P3 wr))
  case atStart => exact .inl ⟨rfl, rfl, rfl⟩
  case round =>
    rcases hrel with ⟨rfl, rfl, rfl⟩ | ⟨rfl, rfl, h1, hp⟩ | ⟨rfl, rfl, h1, h2, hp⟩ | ⟨rfl, rfl, h1, h2, h3, hp⟩
    · obtain ⟨k0, k1, k2⟩ := HK.out wr (.inl rfl)
      by_cases h : n1 = 0
      · have c1 := C1.out
        rw [h] at c1
        go_wp2_with (go_at_fn F1; refine c1.mono ?_; clear c1; rintro e w1 ⟨rfl, p1⟩)
        go_roundg 2
        case measure => omega
        case rel => exact .inr (.inl ⟨rfl, rfl, h, p1⟩)
      · have d : ((n1 : Int) != 0) = true := by simp; omega
        have c1 := C1.out
        go_wp2_with (go_at_fn F1; refine c1.mono ?_; clear c1; rintro e w1 ⟨rfl, p1⟩)
        go_ret
        exact ⟨by unfold rowN; rw [if_neg h]; rfl, .inl ⟨h, p1⟩⟩
    · obtain ⟨k0, k1, k2⟩ := HK.out wr (.inr (.inl hp))
      by_cases h : n2 = 0
      · have c2 := C2.out h1 wr hp
        rw [h] at c2
        go_wp2_with (go_at_fn F2; refine c2.mono ?_; clear c2; rintro e w1 ⟨rfl, p1⟩)
        go_roundg 1
        case measure => omega
        case rel => exact .inr (.inr (.inl ⟨rfl, rfl, h1, h, p1⟩))
      · have d : ((n2 : Int) != 0) = true := by simp; omega
        have c2 := C2.out h1 wr hp
        go_wp2_with (go_at_fn F2; refine c2.mono ?_; clear c2; rintro e w1 ⟨rfl, p1⟩)
        go_ret
        exact ⟨by unfold rowN; rw [if_pos h1, if_neg h]; rfl, .inr (.inl ⟨h1, h, p1⟩)⟩
    · obtain ⟨k0, k1, k2⟩ := HK.out wr (.inr (.inr hp))
      by_cases h : n3 = 0
      · have c3 := C3.out h1 h2 wr hp
        rw [h] at c3
        go_wp2_with (go_at_fn F3; refine c3.mono ?_; clear c3; rintro e w1 ⟨rfl, p1⟩)
        go_roundg 0
        case measure => omega
        case rel => exact .inr (.inr (.inr ⟨rfl, rfl, h1, h2, h, p1⟩))
      · have d : ((n3 : Int) != 0) = true := by simp; omega
        have c3 := C3.out h1 h2 wr hp
        go_wp2_with (go_at_fn F3; refine c3.mono ?_; clear c3; rintro e w1 ⟨rfl, p1⟩)
        go_ret
        exact ⟨by unfold rowN; rw [if_pos h1, if_pos h2]; rfl, .inr (.inr ⟨h1, h2, p1⟩)⟩
    · go_wp2
      go_ret
      exact ⟨by unfold rowN; rw [if_pos h1, if_pos h2, h3]; rfl, .inr (.inr ⟨h1, h2, hp⟩)⟩
end Go.Proofs.YtiecfamjnnmpaaaGreat

/- Crews, walked: CheckPart. -/
namespace Go.Proofs.YtiecfamjnnmpaaaGreat
set_option linter.unusedVariables false
open Go.RowKit Go.Shelf Go.Maps
attribute [local irreducible] atN prodN sumN wantN chkN mix hSum hNum chalN chN scN qnN crewN enN rightN

theorem crew_zero {t n : Int} {k : Nat} {p : List (Int × Nat)} (h : crewN t n k p = 0) : 1 ≤ t ∧ t ≤ n ∧ n ≤ 7 ∧ (p.length : Int) = n ∧ inB k = true ∧ rowP p ∧ chkN t p = 0 ∧ jointN (p.take t.toNat) = k := by
  unfold crewN at h
  split at h
  · cases h
  rename_i h1
  split at h
  · cases h
  rename_i h2
  split at h
  · exact absurd h (by assumption)
  rename_i h3
  split at h
  · rename_i h4
    refine ⟨by omega, by omega, by omega, ?_, ?_, by simpa using h2, by simpa using h3, h4⟩
    · exact Decidable.byContradiction fun h5 => h1 (.inr (.inr (.inr (.inl h5))))
    · cases hk : inB k with
      | true => rfl
      | false => exact absurd (.inr (.inr (.inr (.inr hk)))) h1
  · cases h
theorem en_zero {t n : Int} {l : List (Int × Nat)} (h : enN t n l = 0) : okC n l ∧ ¬ (l.length : Int) < t := by
  unfold enN at h
  split at h
  · rename_i h1
    split at h
    · cases h
    · exact ⟨h1, by assumption⟩
  · cases h
theorem range_zero {t n : Int} {k : Nat} {p l : List (Int × Nat)} (h : crewN t n k p = 0) (h' : enN t n l = 0) : ∀ s ∈ l, 1 ≤ s.1 ∧ s.1 ≤ p.length := fun s hs => by
  have h1 := (crew_zero h).2.2.2.1
  have h2 := (en_zero h').1.2 s hs
  omega

theorem crew_enters : Enters Tryz.prog 52 := enters_of Tryz.func52 (by kernel_rfl) rfl
theorem enough_enters : Enters Tryz.prog 53 := enters_of Tryz.func53 (by kernel_rfl) rfl
theorem partX_enters : Enters Tryz.prog 67 := enters_of Tryz.func67 (by kernel_rfl) rfl

set_option maxRecDepth 100000 in
set_option maxHeartbeats 1000000 in
theorem chkPart1_any (b : Nat) (t n : Int) (k : Nat) (p : List (Int × Nat)) (m : List Nat) (l : List (Int × Nat)) (v : SesV k p m l) (hrange : ∀ s ∈ l, 1 ≤ s.1 ∧ s.1 ≤ p.length) (id : Int) (x : Nat) (hx64 : x < 18446744073709551616) (g h : Nat) (w : World) (hs : Ses w b t n k p m l)
    (hg : w.cell? ⟨g, 0, none⟩ = some (.pointer (some ⟨b, 0, none⟩))) (hh : w.cell? ⟨h, 0, none⟩ = some (.int .i64 id) ∧ w.cell? ⟨h, 1, none⟩ = some (.int .u64 (x : Int))) :
    Calls Tryz.prog 67 #[.pointer (some ⟨g, 0, none⟩), .pointer (some ⟨h, 0, none⟩)] w fun e w' => e = .returned (.int .i64 (rightN k p m l id x : Nat)) ∧ Ext w w' := by
  have c1 := qright_any b t n k p m l v hrange id x hx64 w hs
  obtain ⟨h0, h1⟩ := hh
  clear hs hrange v hx64
  go_enter Tryz.func67, Tryz.ntmps67
  go_wp2_with (go_at_call 50; refine c1.mono ?_; clear c1; rintro e w1 ⟨rfl, x1⟩)
  go_ret
  exact ⟨rfl, x1⟩

/-- What is wrong with a part, or with what it is told with. -/
def cpN (t n : Int) (k : Nat) (p : List (Int × Nat)) (m : List Nat) (l : List (Int × Nat)) (id : Int) (x : Nat) : Nat := rowN (crewN t n k p) (enN t n l) (rightN k p m l id x)

theorem start_five (w : World) (x y z u v : Array Value) (T1 T2 T3 T4 T5 : TypeId) : ∃ W, ((((w.alloc (.cells x T1)).alloc (.cells y T2)).alloc (.cells z T3)).alloc (.cells u T4)).alloc (.cells v T5) = W ∧ Blk W w.heap.size T1 x ∧ Blk W (w.heap.size + 1) T2 y ∧ Blk W (w.heap.size + 1 + 1) T3 z ∧ Blk W (w.heap.size + 1 + 1 + 1) T4 u ∧ Blk W (w.heap.size + 1 + 1 + 1 + 1) T5 v ∧ Ext w W := by
  have h2 := Blk.new (w.alloc (.cells x T1)) T2 y
  have h3 := Blk.new ((w.alloc (.cells x T1)).alloc (.cells y T2)) T3 z
  have h4 := Blk.new (((w.alloc (.cells x T1)).alloc (.cells y T2)).alloc (.cells z T3)) T4 u
  have h5 := Blk.new ((((w.alloc (.cells x T1)).alloc (.cells y T2)).alloc (.cells z T3)).alloc (.cells u T4)) T5 v
  simp only [World.size_alloc] at h2 h3 h4 h5
  exact ⟨_, rfl, ((((Blk.new w T1 x).alloc _).alloc _).alloc _).alloc _, ((h2.alloc _).alloc _).alloc _, (h3.alloc _).alloc _, h4.alloc _, h5, (((((Ext.refl w).alloc _).alloc _).alloc _).alloc _).alloc _⟩

set_option maxRecDepth 100000 in
set_option maxHeartbeats 4000000 in
theorem CheckPart_any (t n : Int) (k : Nat) (p : List (Int × Nat)) (m : List Nat) (l : List (Int × Nat)) (v : SesV k p m l) (id : Int) (x : Nat) (hx64 : x < 18446744073709551616) (A M B : Option Addr) (c d e : Nat) (hc : p.length ≤ c) (hd : m.length ≤ d) (he : l.length ≤ e) (w : World) (hp : Reads w w.heap.size 2 A p.length (sv p)) (hm : Reads w w.heap.size 1 M m.length (bv m)) (hl : Reads w w.heap.size 2 B l.length (sv l)) :
    Calls Tryz.prog 21 #[.agg #[.int .i64 t, .int .i64 n, .int .u64 (k : Int), .slice A p.length c], .slice M m.length d, .slice B l.length e, .agg #[.int .i64 id, .int .u64 (x : Int)]] w fun e w' => e = .returned (.int .i64 (cpN t n k p m l id x : Nat)) ∧ Ext w w' := by
  have hmf := makeFunc_run
  obtain ⟨W, eW, b1, b2, b3, b4, b5, x0⟩ := start_five w #[.int .i64 t, .int .i64 n, .int .u64 (k : Int), .slice A p.length c] #[.int .i64 id, .int .u64 (x : Int)] #[.int .i64 t, .int .i64 n, .int .u64 (k : Int), .slice A p.length c, .slice M m.length d, .slice B l.length e] #[.pointer (some ⟨w.heap.size + 1 + 1, 0, none⟩)]
    #[.func (.func 52) #[.pointer (some ⟨w.heap.size + 1 + 1, 0, none⟩)] #[], .func (.func 53) #[.pointer (some ⟨w.heap.size + 1 + 1, 0, none⟩)] #[], .func (.func 67) #[] #[.pointer (some ⟨w.heap.size + 1 + 1 + 1, 0, none⟩), .pointer (some ⟨w.heap.size + 1, 0, none⟩)]]
    26 37 69 67 74
  have ses : Ses W (w.heap.size + 1 + 1) t n k p m l := ⟨A, c, M, d, B, e, b3, hc, hd, he, (hp.below x0.out).more x0.size, (hm.below x0.out).more x0.size, (hl.below x0.out).more x0.size⟩
  have cr : Calls Tryz.prog 51 #[.slice (some ⟨w.heap.size + 1 + 1 + 1 + 1, 0, none⟩) 3 3] W fun e w' => e = .returned (.int .i64 (cpN t n k p m l id x : Nat)) ∧ Ext w w' := by
    refine (row_any _ _ _ crew_enters enough_enters partX_enters #[.pointer (some ⟨w.heap.size + 1 + 1, 0, none⟩)] #[] #[.pointer (some ⟨w.heap.size + 1 + 1, 0, none⟩)] #[] #[] #[.pointer (some ⟨w.heap.size + 1 + 1 + 1, 0, none⟩), .pointer (some ⟨w.heap.size + 1, 0, none⟩)] (crewN t n k p) (enN t n l) (rightN k p m l id x) (Ext W) (Ext W) (Ext W) _ W ?_
      (crew_any _ t n k p m l v W ses)
      (fun _ W' h => (enough_any _ t n k p m l v W' (ses.ext h)).mono fun _ _ h' => ⟨h'.1, h.trans h'.2⟩)
      (fun h1 h2 W' h => (chkPart1_any _ t n k p m l v (range_zero h1 h2) id x hx64 _ _ W' (ses.ext h) ((ext_blk h b4).cell 0) (two (ext_blk h b2))).mono fun _ _ h' => ⟨h'.1, h.trans h'.2⟩)).mono fun e w' h => ⟨h.1, ?_⟩
    · rintro W' (rfl | h | h)
      · exact ⟨b5.cell 0, b5.cell 1, b5.cell 2⟩
      · have b := ext_blk h b5
        exact ⟨b.cell 0, b.cell 1, b.cell 2⟩
      · have b := ext_blk h b5
        exact ⟨b.cell 0, b.cell 1, b.cell 2⟩
    · rcases h.2 with h | h | h
      · exact x0.trans h.2
      · exact x0.trans h.2.2
      · exact x0.trans h.2.2
  rw [← eW] at cr
  clear b1 b2 b3 b4 b5 x0 ses eW hp hm hl hc hd he v hx64
  go_enter Tryz.func21, Tryz.ntmps21
  go_wp2_with (go_at_call 51; refine cr.mono ?_; clear cr; rintro e w1 ⟨rfl, x1⟩)
  go_ret
  exact ⟨rfl, x1⟩
end Go.Proofs.YtiecfamjnnmpaaaGreat
