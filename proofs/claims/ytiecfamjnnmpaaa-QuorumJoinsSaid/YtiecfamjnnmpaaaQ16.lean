/- Parts of the proofs, put together: Qu12, Qu13, Qu14, Sh11, Sh12, Sh13, Sh14, ShP, ShP2, Qu15, QuP. -/
import Derived.Test.YtiecfamjnnmpaaaQ15
/- Crews, walked: slices.Equal at numbers; all parts. -/
namespace Go.Proofs.Ytiecfamjnnmpaaa
set_option linter.unusedVariables false
open Go.RowKit Go.Shelf Go.Maps
attribute [local irreducible] atN prodN sumN wantN chkN mix hSum hNum chalN chN scN qnN crewN enN rightN

set_option maxRecDepth 100000 in
set_option maxHeartbeats 2000000 in
theorem eqI_any (l m : List Int) (A B : Option Addr) (c d : Nat) (hn : l.length ≤ 1099511627776) (w : World) (hr : Reads w w.heap.size 1 A l.length (iv l)) (hs : Reads w w.heap.size 1 B m.length (iv m)) :
    Calls Try.prog 23 #[.slice A l.length c, .slice B m.length d] w fun e w' => e = .returned (.bool (decide (l = m))) ∧ Ext w w' := by
  by_cases hl : l.length = m.length
  · have hr0 : Hid (Reads w w.heap.size 1 A l.length (iv l)) := Lib.hid hr
    have hs0 : Hid (Reads w w.heap.size 1 B m.length (iv m)) := Lib.hid hs
    have HN := Lib.hid hn
    have HL := Lib.hid hl
    rw [← hl]
    clear hr hs hn hl
    go_enter Try.func23, Try.ntmps23
    go_wp2
    go_loopg [13] l.length (fun g s13 wr => ∃ j : Nat, j + g = l.length ∧ s13 = .int .i64 j ∧ l.take j = m.take j ∧ Ext w wr)
    case atStart => exact ⟨0, by omega, rfl, by simp, Ext.refl w⟩
    case round =>
      obtain ⟨j, hj, rfl, hok, hx⟩ := hrel
      by_cases h : j < l.length
      · obtain ⟨s, hs⟩ : ∃ s, l[j]? = some s := ⟨_, List.getElem?_eq_getElem h⟩
        obtain ⟨t, ht⟩ : ∃ s, m[j]? = some s := ⟨_, List.getElem?_eq_getElem (by rw [← HL.out]; exact h)⟩
        obtain ⟨ad, rfl, q0⟩ := reads_id (hr0.out.below hx.out) hs
        obtain ⟨bd, rfl, r0⟩ := reads_id (hs0.out.below hx.out) ht
        have hjb : (j : Int) ≤ 1099511627776 := by have := HN.out; omega
        have HX := Lib.hid hx
        have HJ := Lib.hid hj
        have e1 : l.take (j + 1) = l.take j ++ [s] := by rw [List.take_add_one, hs]; rfl
        have e2 : m.take (j + 1) = m.take j ++ [t] := by rw [List.take_add_one, ht]; rfl
        have q0' := fun n : Nat => show (wr.drewN n).cell? _ = _ from q0
        have r0' := fun n : Nat => show (wr.drewN n).cell? _ = _ from r0
        by_cases hst : s = t
        · have hok' : Hid (l.take (j + 1) = m.take (j + 1)) := by show _ = _; rw [e1, e2, hok, hst]
          have d1 : (s != t) = false := by simp [hst]
          subst hst
          clear hx hj hok hs ht e1 e2
          go_wp2
          go_region
          all_goals go_wp2
          have hj := HJ.out
          all_goals go_roundg (gk - 1)
          case measure => omega
          case rel => exact ⟨j + 1, by omega, int_congr (by omega), hok'.out, HX.out.drew⟩
        · have k : decide (l = m) = false := decide_eq_false fun e => hst (by rw [e, ht] at hs; exact (Option.some.inj hs).symm)
          have d1 : (s != t) = true := by simp [hst]
          clear hx hj hok hs ht e1 e2
          go_wp2
          go_region
          all_goals go_wp2
          all_goals go_ret
          all_goals first | exact ⟨ret_bool k.symm, HX.out.drew⟩ | exact ⟨rfl, HX.out.drew⟩
      · obtain rfl : j = l.length := by omega
        have k : decide (l = m) = true := decide_eq_true (by rw [List.take_length] at hok; rw [hok, HL.out, List.take_length])
        have HX := Lib.hid hx
        clear hx hok hj
        go_wp2
        go_ret
        first | exact ⟨ret_bool k.symm, HX.out⟩ | exact ⟨rfl, HX.out⟩
  · have k : decide (l = m) = false := decide_eq_false fun e => hl (by rw [e])
    have d1 : ((l.length : Int) != (m.length : Int)) = true := by simp; omega
    clear hr hs hn
    go_enter Try.func23, Try.ntmps23
    go_wp2
    go_ret
    first | exact ⟨ret_bool k.symm, Ext.refl w⟩ | exact ⟨rfl, Ext.refl w⟩

/-- What is wrong with all parts. -/
def allN (k : Nat) (p : List (Int × Nat)) (m : List Nat) (l q : List (Int × Nat)) : Nat :=
  if q.map (·.1) = l.map (·.1) then (match q.find? (fun s => rightN k p m l s.1 s.2 != 0) with | some s => rightN k p m l s.1 s.2 | none => 0) else 1
theorem all_ids {k : Nat} {p : List (Int × Nat)} {m : List Nat} {l q : List (Int × Nat)} (h : q.map (·.1) ≠ l.map (·.1)) : allN k p m l q = 1 := if_neg h
theorem all_bad {k : Nat} {p : List (Int × Nat)} {m : List Nat} {l q : List (Int × Nat)} (h : q.map (·.1) = l.map (·.1)) {j : Nat} {s : Int × Nat} (hs : q[j]? = some s) (h0 : ∀ r ∈ q.take j, rightN k p m l r.1 r.2 = 0) (h1 : rightN k p m l s.1 s.2 ≠ 0) : allN k p m l q = rightN k p m l s.1 s.2 := by
  obtain ⟨hj, rfl⟩ := List.getElem?_eq_some_iff.1 hs
  have : q.find? (fun s => rightN k p m l s.1 s.2 != 0) = some q[j] := List.find?_eq_some_iff_getElem.2 ⟨by simpa using h1, j, hj, rfl, fun i hi => by
    have := h0 q[i] (List.mem_take_iff_getElem.2 ⟨i, by omega, rfl⟩)
    simp [this]⟩
  unfold allN
  rw [if_pos h, this]
theorem all_ok {k : Nat} {p : List (Int × Nat)} {m : List Nat} {l q : List (Int × Nat)} (h : q.map (·.1) = l.map (·.1)) (h0 : ∀ r ∈ q, rightN k p m l r.1 r.2 = 0) : allN k p m l q = 0 := by
  have : q.find? (fun s => rightN k p m l s.1 s.2 != 0) = none := List.find?_eq_none.2 fun s hs => by simp [h0 s hs]
  unfold allN
  rw [if_pos h, this]

set_option maxRecDepth 100000 in
set_option maxHeartbeats 4000000 in
theorem cmb1_any (b : Nat) (t n : Int) (k : Nat) (p : List (Int × Nat)) (m : List Nat) (l : List (Int × Nat)) (v : SesV k p m l) (hrange : ∀ s ∈ l, 1 ≤ s.1 ∧ s.1 ≤ p.length) (q : List (Int × Nat)) (hqX : ∀ s ∈ q, s.2 < 18446744073709551616) (hqn : q.length ≤ 1099511627776) (D B : Option Addr) (cd cb : Nat) (g h f : Nat) (w : World) (hs : Ses w b t n k p m l)
    (hg : w.cell? ⟨g, 0, none⟩ = some (.slice D q.length cd)) (hh : w.cell? ⟨h, 0, none⟩ = some (.slice B l.length cb)) (hf : w.cell? ⟨f, 0, none⟩ = some (.pointer (some ⟨b, 0, none⟩))) (hq : Reads w w.heap.size 2 D q.length (sv q)) (hl : Reads w w.heap.size 2 B l.length (sv l)) :
    Calls Try.prog 22 #[.pointer (some ⟨g, 0, none⟩), .pointer (some ⟨h, 0, none⟩), .pointer (some ⟨f, 0, none⟩)] w fun e w' => e = .returned (.int .i64 (allN k p m l q : Nat)) ∧ Ext w w' := by
  have HG := Lib.hid fun (W : World) (x : Ext w W) => And.intro (x.cell hg) (x.cell hh)
  have c1 := fun (W : World) (x : Ext w W) => who_any q D cd hqn W ((hq.below x.out).more x.size)
  have c2 := fun (W : World) (x : Ext w W) => who_any l B cb v.ln W ((hl.below x.out).more x.size)
  have c3 := fun A A' c c' (W : World) (h1 : Reads W W.heap.size 1 A q.length (iv (q.map fun s : Int × Nat => s.1))) (h2 : Reads W W.heap.size 1 A' l.length (iv (l.map fun s : Int × Nat => s.1))) => eqI_any (q.map fun s : Int × Nat => s.1) (l.map fun s : Int × Nat => s.1) A A' c c' (by rw [List.length_map]; exact hqn) W (by rw [List.length_map]; exact h1) (by rw [List.length_map]; exact h2)
  simp only [List.length_map] at c3
  have cR := fun (W : World) (x : Ext w W) (s : Int × Nat) (hs' : s ∈ q) => qright_any b t n k p m l v hrange s.1 s.2 (hqX s hs') W (hs.ext x)
  have HQ := Lib.hid hq
  have HN := Lib.hid hqn
  have HC := Lib.hid cR
  clear hl hs hq v hrange hqX hqn cR
  by_cases hi : (q.map fun s : Int × Nat => s.1) = (l.map fun s : Int × Nat => s.1)
  · rw [decide_eq_true hi] at c3
    have HI := Lib.hid hi
    clear hi
    go_enter Try.func22, Try.ntmps22
    go_wp2
    go_region_held3 (fun w' => w'.cell? ⟨g, 0, none⟩ = some (.slice D q.length cd) ∧ w'.cell? ⟨h, 0, none⟩ = some (.slice B l.length cb)) (go_keep) (first
      | (go_at_call 24; refine (c1 _ (Ext.refl w).drew).mono ?_; clear c1; rintro e w1 ⟨A1, k1, rfl, hk1, r1, x1⟩; have X1 := (Ext.refl w).drew.trans x1; obtain ⟨z0, z1⟩ := HG.out w1 X1)
      | (go_at_call 24; refine (c2 _ X1).mono ?_; clear c2; rintro e w2 ⟨A2, k2, rfl, hk2, r2, x2⟩; have X2 := X1.trans x2; obtain ⟨z2, z3⟩ := HG.out w2 X2)
      | (go_at_call 23; refine (c3 _ _ _ _ _ ((r1.below x2.out).more x2.size) r2).mono ?_; clear c3; rintro e w3 ⟨rfl, x3⟩; have X3 := X2.trans x3; obtain ⟨z4, z5⟩ := HG.out w3 X3))
    have X0 := Lib.hid X3
    clear z0 z1 z2 z3 z4 z5 x1 x2 x3 X1 X2 X3 r1 r2 hg hh
    have k3 := (HG.out w3 X0.out).1
    have HF := Lib.hid fun (W : World) (x : Ext w W) => x.cell hf
    clear hf
    go_wp2
    clear k3
    go_loopg [15] q.length (fun g s15 wr => ∃ j : Nat, j + g = q.length ∧ s15 = .int .i64 j ∧ (∀ r ∈ q.take j, rightN k p m l r.1 r.2 = 0) ∧ Ext w wr)
    case atStart => exact ⟨0, by omega, rfl, by simp, X0.out⟩
    case round =>
      obtain ⟨j, hj, rfl, hok, hx⟩ := hrel
      by_cases h : j < q.length
      · obtain ⟨s, hs⟩ : ∃ s, q[j]? = some s := ⟨_, List.getElem?_eq_getElem h⟩
        obtain ⟨ad, rfl, hlt, q0, q1⟩ := reads_share (HQ.out.below hx.out) hs
        have hjb : (j : Int) ≤ 1099511627776 := by have := HN.out; omega
        have cR := fun (W : World) (x : Ext w W) => HC.out W x s (List.mem_of_getElem? hs)
        have f0 := fun o => (hx.alloc o).cell (HF.out w (Ext.refl w))
        have e1 : q.take (j + 1) = q.take j ++ [s] := by rw [List.take_add_one, hs]; rfl
        by_cases h0 : rightN k p m l s.1 s.2 = 0
        · rw [h0] at cR
          have hok' : Hid (∀ r ∈ q.take (j + 1), rightN k p m l r.1 r.2 = 0) := Lib.hid fun r hr => by
            rw [e1] at hr
            rcases List.mem_append.1 hr with hr | hr
            · exact hok r hr
            · rw [List.mem_singleton] at hr; subst hr; exact h0
          have HX := Lib.hid hx
          have HJ := Lib.hid hj
          clear hx hj hok hs e1 h0
          go_wp2_with (go_at_call 25; refine (cR _ (HX.out.alloc _)).mono ?_; clear cR; rintro e w4 ⟨rfl, x4⟩)
          have hj := HJ.out
          go_roundg (gk - 1)
          case measure => omega
          case rel => exact ⟨j + 1, by omega, int_congr (by omega), hok'.out, (HX.out.alloc _).trans x4⟩
        · have HA := Lib.hid (all_bad HI.out hs hok h0)
          obtain ⟨u, hu⟩ : ∃ u, u = rightN k p m l s.1 s.2 := ⟨_, rfl⟩
          rw [← hu] at cR h0 HA
          have d : ((u : Int) != 0) = true := by simp; omega
          have HX := Lib.hid hx
          clear hx hj hok hs e1 h0 hu
          go_wp2_with (go_at_call 25; refine (cR _ (HX.out.alloc _)).mono ?_; clear cR; rintro e w4 ⟨rfl, x4⟩)
          go_ret
          exact ⟨by rw [HA.out]; rfl, (HX.out.alloc _).trans x4⟩
      · obtain rfl : j = q.length := by omega
        rw [List.take_length] at hok
        have HA := Lib.hid (all_ok HI.out hok)
        have HX := Lib.hid hx
        clear hx hj hok
        go_wp2
        go_ret
        exact ⟨by rw [HA.out]; rfl, HX.out⟩
  · rw [decide_eq_false hi] at c3
    have HA := Lib.hid (all_ids (k := k) (p := p) (m := m) hi)
    clear hi
    go_enter Try.func22, Try.ntmps22
    go_wp2
    go_region_held3 (fun w' => w'.cell? ⟨g, 0, none⟩ = some (.slice D q.length cd) ∧ w'.cell? ⟨h, 0, none⟩ = some (.slice B l.length cb)) (go_keep) (first
      | (go_at_call 24; refine (c1 _ (Ext.refl w).drew).mono ?_; clear c1; rintro e w1 ⟨A1, k1, rfl, hk1, r1, x1⟩; have X1 := (Ext.refl w).drew.trans x1; obtain ⟨z0, z1⟩ := HG.out w1 X1)
      | (go_at_call 24; refine (c2 _ X1).mono ?_; clear c2; rintro e w2 ⟨A2, k2, rfl, hk2, r2, x2⟩; have X2 := X1.trans x2; obtain ⟨z2, z3⟩ := HG.out w2 X2)
      | (go_at_call 23; refine (c3 _ _ _ _ _ ((r1.below x2.out).more x2.size) r2).mono ?_; clear c3; rintro e w3 ⟨rfl, x3⟩; have X3 := X2.trans x3; obtain ⟨z4, z5⟩ := HG.out w3 X3))
    go_wp2
    go_ret
    exact ⟨by rw [HA.out]; rfl, X3⟩
end Go.Proofs.Ytiecfamjnnmpaaa

/- Crews, walked: Combine. -/
namespace Go.Proofs.Ytiecfamjnnmpaaa
set_option linter.unusedVariables false
open Go.RowKit Go.Shelf Go.Maps
attribute [local irreducible] atN prodN sumN wantN chkN mix hSum hNum chalN chN scN qnN crewN enN rightN allN

theorem allX_enters : Enters Try.prog 22 := enters_of Try.func22 (by kernel_rfl) rfl
def sumQ (q : List (Int × Nat)) : Nat := q.foldl (fun o s => addM bR o s.2) 0
theorem sumQ_lt (q : List (Int × Nat)) : sumQ q < bR := foldl_lt _ bR (fun o k ho => addM_lt' (by decide) _ _) q 0 (by decide)
def cmbE (t n : Int) (k : Nat) (p : List (Int × Nat)) (m : List Nat) (l q : List (Int × Nat)) : Nat := rowN (crewN t n k p) (enN t n l) (allN k p m l q)
/-- What parts are combined to. -/
def cmbS (t n : Int) (k : Nat) (p : List (Int × Nat)) (m : List Nat) (l q : List (Int × Nat)) : Nat × Nat := if cmbE t n k p m l q = 0 then (chN k m l, sumQ q) else (0, 0)
def cmbV (t n : Int) (k : Nat) (p : List (Int × Nat)) (m : List Nat) (l q : List (Int × Nat)) : Value := .tuple #[.agg #[.int .u64 ((cmbS t n k p m l q).1 : Int), .int .u64 ((cmbS t n k p m l q).2 : Int)], .int .i64 (cmbE t n k p m l q : Nat)]

theorem start_seven (w : World) (x y z u v r s : Array Value) (T1 T2 T3 T4 T5 T6 T7 : TypeId) : ∃ W, ((((((w.alloc (.cells x T1)).alloc (.cells y T2)).alloc (.cells z T3)).alloc (.cells u T4)).alloc (.cells v T5)).alloc (.cells r T6)).alloc (.cells s T7) = W ∧ Blk W w.heap.size T1 x ∧ Blk W (w.heap.size + 1) T2 y ∧ Blk W (w.heap.size + 1 + 1) T3 z ∧ Blk W (w.heap.size + 1 + 1 + 1) T4 u ∧ Blk W (w.heap.size + 1 + 1 + 1 + 1) T5 v ∧ Blk W (w.heap.size + 1 + 1 + 1 + 1 + 1) T6 r ∧ Blk W (w.heap.size + 1 + 1 + 1 + 1 + 1 + 1) T7 s ∧ Ext w W := by
  obtain ⟨W5, e5, b1, b2, b3, b4, b5, x5⟩ := start_five w x y z u v T1 T2 T3 T4 T5
  have hz : W5.heap.size = w.heap.size + 1 + 1 + 1 + 1 + 1 := by rw [← e5]; simp only [World.size_alloc]
  rw [e5]
  have h6 := Blk.new W5 T6 r
  have h7 := Blk.new (W5.alloc (.cells r T6)) T7 s
  rw [World.size_alloc] at h7
  rw [hz] at h6 h7
  exact ⟨_, rfl, (b1.alloc _).alloc _, (b2.alloc _).alloc _, (b3.alloc _).alloc _, (b4.alloc _).alloc _, (b5.alloc _).alloc _, h6.alloc _, h7, (x5.alloc _).alloc _⟩

set_option maxRecDepth 100000 in
set_option maxHeartbeats 8000000 in
theorem Combine_any (t n : Int) (k : Nat) (p : List (Int × Nat)) (m : List Nat) (l : List (Int × Nat)) (v : SesV k p m l) (q : List (Int × Nat)) (hqX : ∀ s ∈ q, s.2 < 18446744073709551616) (hqn : q.length ≤ 1099511627776) (A M B D : Option Addr) (c d e f : Nat) (hc : p.length ≤ c) (hd : m.length ≤ d) (he : l.length ≤ e) (w : World) (hp : Reads w w.heap.size 2 A p.length (sv p)) (hm : Reads w w.heap.size 1 M m.length (bv m)) (hl : Reads w w.heap.size 2 B l.length (sv l)) (hq : Reads w w.heap.size 2 D q.length (sv q)) :
    Calls Try.prog 10 #[.agg #[.int .i64 t, .int .i64 n, .int .u64 (k : Int), .slice A p.length c], .slice M m.length d, .slice B l.length e, .slice D q.length f] w fun e w' => e = .returned (cmbV t n k p m l q) ∧ Ext w w' := by
  have hmf := makeFunc_run
  obtain ⟨W, eW, b1, b2, b3, b4, b5, b6, b7, x0⟩ := start_seven w #[.int .i64 t, .int .i64 n, .int .u64 (k : Int), .slice A p.length c] #[.slice B l.length e] #[.slice D q.length f] #[.int .u64 0, .int .u64 0] #[.int .i64 t, .int .i64 n, .int .u64 (k : Int), .slice A p.length c, .slice M m.length d, .slice B l.length e] #[.pointer (some ⟨w.heap.size + 1 + 1 + 1 + 1, 0, none⟩)]
    #[.func (.func 27) #[.pointer (some ⟨w.heap.size + 1 + 1 + 1 + 1, 0, none⟩)] #[], .func (.func 28) #[.pointer (some ⟨w.heap.size + 1 + 1 + 1 + 1, 0, none⟩)] #[], .func (.func 22) #[] #[.pointer (some ⟨w.heap.size + 1 + 1, 0, none⟩), .pointer (some ⟨w.heap.size + 1, 0, none⟩), .pointer (some ⟨w.heap.size + 1 + 1 + 1 + 1 + 1, 0, none⟩)]]
    25 23 23 30 59 57 64
  have ses : Ses W (w.heap.size + 1 + 1 + 1 + 1) t n k p m l := ⟨A, c, M, d, B, e, b5, hc, hd, he, (hp.below x0.out).more x0.size, (hm.below x0.out).more x0.size, (hl.below x0.out).more x0.size⟩
  have hl' := (hl.below x0.out).more x0.size
  have hq' := (hq.below x0.out).more x0.size
  have cr : Calls Try.prog 26 #[.slice (some ⟨w.heap.size + 1 + 1 + 1 + 1 + 1 + 1, 0, none⟩) 3 3] W fun e w' => e = .returned (.int .i64 (cmbE t n k p m l q : Nat)) ∧ Ext W w' := by
    refine (row_any _ _ _ crew_enters enough_enters allX_enters #[.pointer (some ⟨w.heap.size + 1 + 1 + 1 + 1, 0, none⟩)] #[] #[.pointer (some ⟨w.heap.size + 1 + 1 + 1 + 1, 0, none⟩)] #[] #[] #[.pointer (some ⟨w.heap.size + 1 + 1, 0, none⟩), .pointer (some ⟨w.heap.size + 1, 0, none⟩), .pointer (some ⟨w.heap.size + 1 + 1 + 1 + 1 + 1, 0, none⟩)] (crewN t n k p) (enN t n l) (allN k p m l q) (Ext W) (Ext W) (Ext W) _ W ?_
      (crew_any _ t n k p m l v W ses)
      (fun _ W' h => (enough_any _ t n k p m l v W' (ses.ext h)).mono fun _ _ h' => ⟨h'.1, h.trans h'.2⟩)
      (fun h1 h2 W' h => (cmb1_any _ t n k p m l v (range_zero h1 h2) q hqX hqn D B f e _ _ _ W' (ses.ext h) ((ext_blk h b3).cell 0) ((ext_blk h b2).cell 0) ((ext_blk h b6).cell 0) ((hq'.below h.out).more h.size) ((hl'.below h.out).more h.size)).mono fun _ _ h' => ⟨h'.1, h.trans h'.2⟩)).mono fun e w' h => ⟨h.1, ?_⟩
    · rintro W' (rfl | h | h)
      · exact ⟨b7.cell 0, b7.cell 1, b7.cell 2⟩
      · have b := ext_blk h b7
        exact ⟨b.cell 0, b.cell 1, b.cell 2⟩
      · have b := ext_blk h b7
        exact ⟨b.cell 0, b.cell 1, b.cell 2⟩
    · rcases h.2 with h | h | h
      · exact h.2
      · exact h.2.2
      · exact h.2.2
  have cO := fun (W' : World) (x : Ext W W') => over_any _ sumX_enters #[] (fun o s => addM bR o s.2) q 0 hqn D f W' ((hq'.below x.out).more x.size) (fun W2 k s hk _ => sumX_any s.1 s.2 _ W2)
  have cC := fun (W' : World) (x : Ext W W') => challenge_any _ t n k p m l v W' (ses.ext x)
  have HB := Lib.hid fun (W' : World) (x : Ext W W') => And.intro (ext_blk x b4) (And.intro ((ext_blk x b3).cell 0) ((ext_blk x b6).cell 0))
  unfold cmbV cmbS
  obtain ⟨E, hE⟩ : ∃ E, E = cmbE t n k p m l q := ⟨_, rfl⟩
  rw [← hE] at cr ⊢
  clear hE
  by_cases h0 : E = 0
  · subst h0
    rw [if_pos rfl]
    unfold sumQ
    obtain ⟨y, hy⟩ : ∃ y, y = q.foldl (fun o s => addM bR o s.2) 0 := ⟨_, rfl⟩
    obtain ⟨z, hz⟩ : ∃ z, z = chN k m l := ⟨_, rfl⟩
    rw [← hy] at cO ⊢
    rw [← hz] at cC ⊢
    clear b1 b2 b3 b4 b5 b6 b7 hy hz ses hp hm hl hc hd he v hq hq' hl' hqX hqn
    have HW := Lib.hid eW
    rw [← eW] at cr
    clear eW
    go_enter Try.func10, Try.ntmps10
    go_wp2_with (first
      | (go_at_call 26; refine cr.mono ?_; clear cr; rintro e w1 ⟨rfl, x1⟩; rw [HW.out] at x1; obtain ⟨-, g1, g2⟩ := HB.out w1 x1)
      | (go_at_call 29; refine (cO _ x1).mono ?_; clear cO; rintro e w2 ⟨rfl, x2⟩; have X2 := x1.trans x2; obtain ⟨-, g3, g4⟩ := HB.out w2 X2)
      | (go_at_call 31; refine (cC _ X2).mono ?_; clear cC; rintro e w3 ⟨rfl, x3⟩; have X3 := X2.trans x3; obtain ⟨hb, g5, g6⟩ := HB.out w3 X3; obtain ⟨p0, p1⟩ := two hb; have f0 := hb.frozen 0; have f1 := hb.frozen 1; clear hb))
    refine bodyPost_ret (v := .tuple #[.agg #[.int .u64 (z : Int), .int .u64 (y : Int)], .int .i64 0]) (by simp [results, Try.results10, go_sem, p0, p1]) rfl ⟨rfl, ?_⟩
    exact ((x0.trans X3).setCell (p := ⟨w.heap.size + 1 + 1 + 1, 0, none⟩) (by simp only; omega) _).setCell (p := ⟨w.heap.size + 1 + 1 + 1, 1, none⟩) (by simp only; omega) _
  · rw [if_neg h0]
    have d1 : ((E : Int) != 0) = true := by simp; omega
    clear b1 b2 b3 b4 b5 b6 b7 ses hp hm hl hc hd he v hq hq' hl' hqX hqn cO cC
    have HW := Lib.hid eW
    rw [← eW] at cr
    clear eW
    go_enter Try.func10, Try.ntmps10
    go_wp2_with (go_at_call 26; refine cr.mono ?_; clear cr; rintro e w1 ⟨rfl, x1⟩; rw [HW.out] at x1; obtain ⟨hb, g1, g2⟩ := HB.out w1 x1; obtain ⟨p0, p1⟩ := two hb; have f0 := hb.frozen 0; have f1 := hb.frozen 1; clear hb)
    refine bodyPost_ret (v := .tuple #[.agg #[.int .u64 0, .int .u64 0], .int .i64 (E : Int)]) (by simp [results, Try.results10, go_sem, p0, p1]) rfl ⟨rfl, ?_⟩
    exact ((x0.trans x1).setCell (p := ⟨w.heap.size + 1 + 1 + 1, 0, none⟩) (by simp only; omega) _).setCell (p := ⟨w.heap.size + 1 + 1 + 1, 1, none⟩) (by simp only; omega) _
end Go.Proofs.Ytiecfamjnnmpaaa

/- Crews, walked: Part. -/
namespace Go.Proofs.Ytiecfamjnnmpaaa
set_option linter.unusedVariables false
open Go.RowKit Go.Shelf Go.Maps
attribute [local irreducible] atN prodN sumN wantN chkN mix hSum hNum chalN chN scN qnN crewN enN rightN allN comE comS

theorem ownX_enters : Enters Try.prog 69 := enters_of Try.func69 (by kernel_rfl) rfl
/-- As before but for one share. -/
def Own (w : World) (g : Nat) (a b : Value) (w' : World) : Prop := ∃ w1, Ext w w1 ∧ w' = (w1.setCell ⟨g, 0, none⟩ a).setCell ⟨g, 1, none⟩ b
theorem Own.far {w w' : World} {g h : Nat} {a b : Value} {T : TypeId} {cs : Array Value} (x : Own w g a b w') (hb : Blk w h T cs) (hne : h ≠ g) : Blk w' h T cs := by
  obtain ⟨w1, x1, rfl⟩ := x
  exact ((ext_blk x1 hb).far hne _).far hne _
theorem Own.at_ {w w' : World} {g : Nat} {a b c d : Value} {T : TypeId} (x : Own w g a b w') (hb : Blk w g T #[c, d]) : Blk w' g T #[a, b] := by
  obtain ⟨w1, x1, rfl⟩ := x
  exact ((ext_blk x1 hb).set_ 0 a).set_ 1 b
theorem Own.ext {w0 w w' : World} {g : Nat} {a b : Value} (x : Own w g a b w') (x0 : Ext w0 w) (hg : w0.heap.size ≤ g) : Ext w0 w' := by
  obtain ⟨w1, x1, rfl⟩ := x
  exact ((x0.trans x1).setCell (p := ⟨g, 0, none⟩) hg _).setCell (p := ⟨g, 1, none⟩) hg _

set_option maxRecDepth 100000 in
set_option maxHeartbeats 2000000 in
theorem part1_any (id : Int) (x : Nat) (hx : x < 18446744073709551616) (ss : Int) (m : List Nat) (hm : ∀ y ∈ m, y < 256) (hl : m.length ≤ 1000) (M : Option Addr) (d : Nat) (hd : m.length ≤ d) (g1 g2 g3 g : Nat) (w : World) (hr : Reads w w.heap.size 1 M m.length (bv m))
    (T : TypeId) (c1 c2 : Value) (h1 : Blk w g1 45 #[.int .i64 id, .int .u64 (x : Int)]) (h2 : w.cell? ⟨g2, 0, none⟩ = some (.int .i64 ss)) (h3 : w.cell? ⟨g3, 0, none⟩ = some (.slice M m.length d)) (h : Blk w g T #[c1, c2]) :
    Calls Try.prog 69 #[.pointer (some ⟨g1, 0, none⟩), .pointer (some ⟨g2, 0, none⟩), .pointer (some ⟨g3, 0, none⟩), .pointer (some ⟨g, 0, none⟩)] w fun e w' => e = .returned (.int .i64 (comE id x ss : Nat)) ∧ Own w g (.int .i64 (comS id x ss m).1) (.int .u64 ((comS id x ss m).2 : Int)) w' := by
  have c1' := Commit_any id x hx ss m hm hl M d hd w hr
  unfold comV at c1'
  obtain ⟨k0, k1⟩ := two h1
  obtain ⟨E, hE⟩ : ∃ E, E = comE id x ss := ⟨_, rfl⟩
  obtain ⟨s, hs⟩ : ∃ E, E = comS id x ss m := ⟨_, rfl⟩
  rw [← hE, ← hs] at c1'
  rw [← hE, ← hs]
  have HB := Lib.hid h
  clear hr hd hl hm hx h1 h hE hs
  go_enter Try.func69, Try.ntmps69
  go_wp2_with (go_at_call 43; refine c1'.mono ?_; clear c1'; rintro e w1 ⟨rfl, x1⟩; have hb := ext_blk x1 HB.out; obtain ⟨p0, p1⟩ := two hb; have f0 := hb.frozen 0; have f1 := hb.frozen 1; clear hb)
  go_ret
  exact ⟨rfl, w1, x1, rfl⟩

theorem start_eight (w : World) (x y z u v r s q : Array Value) (T1 T2 T3 T4 T5 T6 T7 T8 : TypeId) : ∃ W, (((((((w.alloc (.cells x T1)).alloc (.cells y T2)).alloc (.cells z T3)).alloc (.cells u T4)).alloc (.cells v T5)).alloc (.cells r T6)).alloc (.cells s T7)).alloc (.cells q T8) = W ∧ Blk W w.heap.size T1 x ∧ Blk W (w.heap.size + 1) T2 y ∧ Blk W (w.heap.size + 1 + 1) T3 z ∧ Blk W (w.heap.size + 1 + 1 + 1) T4 u ∧ Blk W (w.heap.size + 1 + 1 + 1 + 1) T5 v ∧ Blk W (w.heap.size + 1 + 1 + 1 + 1 + 1) T6 r ∧ Blk W (w.heap.size + 1 + 1 + 1 + 1 + 1 + 1) T7 s ∧ Blk W (w.heap.size + 1 + 1 + 1 + 1 + 1 + 1 + 1) T8 q ∧ Ext w W := by
  obtain ⟨W7, e7, b1, b2, b3, b4, b5, b6, b7, x7⟩ := start_seven w x y z u v r s T1 T2 T3 T4 T5 T6 T7
  have hz : W7.heap.size = w.heap.size + 1 + 1 + 1 + 1 + 1 + 1 + 1 := by rw [← e7]; simp only [World.size_alloc]
  rw [e7]
  have h8 := Blk.new W7 T8 q
  rw [hz] at h8
  exact ⟨_, rfl, b1.alloc _, b2.alloc _, b3.alloc _, b4.alloc _, b5.alloc _, b6.alloc _, b7.alloc _, h8, x7.alloc _⟩

/-- What is wrong with who signs. -/
def preE (t n : Int) (k : Nat) (p : List (Int × Nat)) (l : List (Int × Nat)) (id : Int) (x : Nat) (ss : Int) : Nat := rowN (crewN t n k p) (comE id x ss) (enN t n l)
def partE (t n : Int) (k : Nat) (p : List (Int × Nat)) (m : List Nat) (l : List (Int × Nat)) (id : Int) (x : Nat) (ss : Int) : Nat :=
  if preE t n k p l id x ss = 0 then (if ofC l id = some (comS id x ss m) then 0 else 60) else preE t n k p l id x ss
/-- A signer's part. -/
def partS (k : Nat) (m : List Nat) (l : List (Int × Nat)) (id : Int) (x : Nat) (ss : Int) : Nat := addM bR (qnN x id.toNat ss.toNat m) (mulM bR (scN k m l id) x)
def partV (t n : Int) (k : Nat) (p : List (Int × Nat)) (m : List Nat) (l : List (Int × Nat)) (id : Int) (x : Nat) (ss : Int) : Value :=
  if partE t n k p m l id x ss = 0 then .tuple #[.agg #[.int .i64 id, .int .u64 (partS k m l id x ss : Nat)], .int .i64 0] else .tuple #[.agg #[.int .i64 0, .int .u64 0], .int .i64 (partE t n k p m l id x ss : Nat)]
theorem com_zero {id : Int} {x : Nat} {ss : Int} (h : comE id x ss = 0) : 1 ≤ id ∧ id ≤ 7 ∧ x < bR ∧ 0 ≤ ss ∧ ss ≤ 1099511627776 := by
  unfold comE at h
  split at h
  · cases h
  · omega

theorem keepS (w : World) {g h : Nat} (hne : h ≠ g) (a b : Value) {i : Nat} {v : Value} (hc : w.cell? ⟨h, i, none⟩ = some v) : ((w.setCell ⟨g, 0, none⟩ a).setCell ⟨g, 1, none⟩ b).cell? ⟨h, i, none⟩ = some v := by
  have e : ∀ (w : World) (j : Nat) (u : Value), (w.setCell ⟨g, j, none⟩ u).cell? ⟨h, i, none⟩ = w.cell? ⟨h, i, none⟩ := fun w j u => by
    unfold World.cell?
    simp only [Below.heap_setCell w ⟨g, j, none⟩ u h hne]
  rw [e, e]; exact hc

set_option maxRecDepth 100000 in
set_option maxHeartbeats 8000000 in
theorem Part_any (t n : Int) (k : Nat) (p : List (Int × Nat)) (m : List Nat) (l : List (Int × Nat)) (v : SesV k p m l) (id : Int) (x : Nat) (hx64 : x < 18446744073709551616) (ss : Int) (A M B : Option Addr) (c d e : Nat) (hc : p.length ≤ c) (hd : m.length ≤ d) (he : l.length ≤ e) (w : World) (hp : Reads w w.heap.size 2 A p.length (sv p)) (hm : Reads w w.heap.size 1 M m.length (bv m)) (hl : Reads w w.heap.size 2 B l.length (sv l)) :
    Calls Try.prog 44 #[.agg #[.int .i64 t, .int .i64 n, .int .u64 (k : Int), .slice A p.length c], .agg #[.int .i64 id, .int .u64 (x : Int)], .int .i64 ss, .slice M m.length d, .slice B l.length e] w fun e w' => e = .returned (partV t n k p m l id x ss) ∧ Ext w w' := by
  have hmf := makeFunc_run
  obtain ⟨W, eW, b1, b2, b3, b4, b5, b6, b7, b8, x0⟩ := start_eight w #[.int .i64 t, .int .i64 n, .int .u64 (k : Int), .slice A p.length c] #[.int .i64 id, .int .u64 (x : Int)] #[.int .i64 ss] #[.slice M m.length d] #[.int .i64 0, .int .u64 0] #[.int .i64 t, .int .i64 n, .int .u64 (k : Int), .slice A p.length c, .slice M m.length d, .slice B l.length e] #[.int .i64 0, .int .u64 0]
    #[.func (.func 27) #[.pointer (some ⟨w.heap.size + 1 + 1 + 1 + 1 + 1, 0, none⟩)] #[], .func (.func 69) #[] #[.pointer (some ⟨w.heap.size + 1, 0, none⟩), .pointer (some ⟨w.heap.size + 1 + 1, 0, none⟩), .pointer (some ⟨w.heap.size + 1 + 1 + 1, 0, none⟩), .pointer (some ⟨w.heap.size + 1 + 1 + 1 + 1 + 1 + 1, 0, none⟩)], .func (.func 28) #[.pointer (some ⟨w.heap.size + 1 + 1 + 1 + 1 + 1, 0, none⟩)] #[]]
    25 45 3 26 45 59 45 64
  -- the session, in any world that is as here but for the share
  have ses : ∀ W', Ext w W' → Blk W' (w.heap.size + 1 + 1 + 1 + 1 + 1) 59 #[.int .i64 t, .int .i64 n, .int .u64 (k : Int), .slice A p.length c, .slice M m.length d, .slice B l.length e] → Ses W' (w.heap.size + 1 + 1 + 1 + 1 + 1) t n k p m l :=
    fun W' h hb => ⟨A, c, M, d, B, e, hb, hc, hd, he, (hp.below h.out).more h.size, (hm.below h.out).more h.size, (hl.below h.out).more h.size⟩
  let g := w.heap.size + 1 + 1 + 1 + 1 + 1 + 1
  have hgw : w.heap.size ≤ g := by simp only [g]; omega
  let s := comS id x ss m
  let P2 : World → Prop := fun W' => ∃ W1 W2, Ext W W1 ∧ Own W1 g (.int .i64 s.1) (.int .u64 (s.2 : Int)) W2 ∧ Ext W2 W'
  have keep : ∀ W', P2 W' → ∀ (h : Nat) (T : TypeId) (cs : Array Value), h ≠ g → Blk W h T cs → Blk W' h T cs := by
    rintro W' ⟨W1, W2, h1, h2, h3⟩ h T cs hne hb
    exact ext_blk h3 (h2.far (ext_blk h1 hb) hne)
  have ext2 : ∀ W', P2 W' → Ext w W' := by
    rintro W' ⟨W1, W2, h1, h2, h3⟩
    exact (h2.ext (x0.trans h1) hgw).trans h3
  have own2 : ∀ W', P2 W' → Blk W' g 45 #[.int .i64 s.1, .int .u64 (s.2 : Int)] := by
    rintro W' ⟨W1, W2, h1, h2, h3⟩
    exact ext_blk h3 (h2.at_ (ext_blk h1 b7))
  have cr : Calls Try.prog 26 #[.slice (some ⟨w.heap.size + 1 + 1 + 1 + 1 + 1 + 1 + 1, 0, none⟩) 3 3] W fun e w' => e = .returned (.int .i64 (preE t n k p l id x ss : Nat)) ∧ (crewN t n k p ≠ 0 ∧ Ext W w' ∨ P2 w') := by
    refine (row_any _ _ _ crew_enters ownX_enters enough_enters #[.pointer (some ⟨w.heap.size + 1 + 1 + 1 + 1 + 1, 0, none⟩)] #[] #[] #[.pointer (some ⟨w.heap.size + 1, 0, none⟩), .pointer (some ⟨w.heap.size + 1 + 1, 0, none⟩), .pointer (some ⟨w.heap.size + 1 + 1 + 1, 0, none⟩), .pointer (some ⟨w.heap.size + 1 + 1 + 1 + 1 + 1 + 1, 0, none⟩)] #[.pointer (some ⟨w.heap.size + 1 + 1 + 1 + 1 + 1, 0, none⟩)] #[] (crewN t n k p) (comE id x ss) (enN t n l) (Ext W) P2 P2 _ W ?_
      (crew_any _ t n k p m l v W (ses W x0 b6))
      (fun _ W' h => (part1_any id x hx64 ss m v.mb v.mn M d hd _ _ _ _ W' ((hm.below (x0.trans h).out).more (x0.trans h).size) _ _ _ (ext_blk h b2) ((ext_blk h b3).cell 0) ((ext_blk h b4).cell 0) (ext_blk h b7)).mono fun _ w2 h' => ⟨h'.1, W', w2, h, h'.2, Ext.refl _⟩)
      (fun h1 h2 W' h => (enough_any _ t n k p m l v W' (ses W' (ext2 W' h) (keep W' h _ _ _ (by simp only [g]; omega) b6))).mono fun _ w3 h' => ⟨h'.1, by obtain ⟨W1, W2, h1, h2, h3⟩ := h; exact ⟨W1, W2, h1, h2, h3.trans h'.2⟩⟩)).mono fun e w' h => ⟨h.1, ?_⟩
    · rintro W' (rfl | h | h)
      · exact ⟨b8.cell 0, b8.cell 1, b8.cell 2⟩
      · have b := ext_blk h b8
        exact ⟨b.cell 0, b.cell 1, b.cell 2⟩
      · have b := keep W' h _ _ _ (by simp only [g]; omega) b8
        exact ⟨b.cell 0, b.cell 1, b.cell 2⟩
    · rcases h.2 with h | h | h
      · exact .inl h
      · exact .inr h.2.2
      · exact .inr h.2.2
  have res : ∀ W', (crewN t n k p ≠ 0 ∧ Ext W W' ∨ P2 W') → Blk W' (w.heap.size + 1 + 1 + 1 + 1) 45 #[.int .i64 0, .int .u64 0] ∧ Ext w W' := by
    rintro W' (h | h)
    · exact ⟨ext_blk h.2 b5, x0.trans h.2⟩
    · exact ⟨keep W' h _ _ _ (by simp only [g]; omega) b5, ext2 W' h⟩
  have HR := Lib.hid res
  clear res
  unfold partV partE
  by_cases hpre : preE t n k p l id x ss = 0
  case neg =>
    rw [if_neg hpre, if_neg hpre]
    obtain ⟨E, hE⟩ : ∃ E, E = preE t n k p l id x ss := ⟨_, rfl⟩
    rw [← hE] at cr hpre ⊢
    have d1 : ((E : Int) != 0) = true := by simp; omega
    have cr := cr.mono (R' := fun e w' => e = .returned (.int .i64 (E : Int)) ∧ Blk w' (w.heap.size + 1 + 1 + 1 + 1) 45 #[.int .i64 0, .int .u64 0] ∧ Ext w w') fun e w' h => ⟨h.1, HR.out w' h.2⟩
    rw [← eW] at cr
    clear b1 b2 b3 b4 b5 b6 b7 b8 hp hm hl hc hd he v keep ext2 own2 ses hE x0 eW hpre hx64
    go_enter Try.func44, Try.ntmps44
    go_wp2_with (go_at_call 26; refine cr.mono ?_; clear cr; rintro e w1 ⟨rfl, hb, x1⟩; obtain ⟨p0, p1⟩ := two hb; have f0 := hb.frozen 0; have f1 := hb.frozen 1; clear hb)
    refine bodyPost_ret (v := .tuple #[.agg #[.int .i64 0, .int .u64 0], .int .i64 (E : Int)]) (by simp [results, Try.results44, go_sem, p0, p1]) rfl ⟨rfl, ?_⟩
    exact (x1.setCell (p := ⟨w.heap.size + 1 + 1 + 1 + 1, 0, none⟩) (by simp only; omega) _).setCell (p := ⟨w.heap.size + 1 + 1 + 1 + 1, 1, none⟩) (by simp only; omega) _
  rw [if_pos hpre]
  have hz : crewN t n k p = 0 ∧ comE id x ss = 0 := by
    unfold preE rowN at hpre
    split at hpre
    · rename_i h1
      split at hpre
      · exact ⟨h1, by assumption⟩
      · exact absurd hpre (by assumption)
    · exact absurd hpre (by assumption)
  rw [hpre] at cr
  have cr2 := cr.mono (R' := fun e w' => e = .returned (.int .i64 0) ∧ P2 w') fun e w' h => ⟨h.1, by
    rcases h.2 with h2 | h2
    · exact absurd hz.1 h2.1
    · exact h2⟩
  rw [← eW] at cr2
  have cO := fun (W' : World) (h : P2 W') => of_any _ t n k p m l v id W' (ses W' (ext2 W' h) (keep W' h _ _ _ (by simp only [g]; omega) b6))
  have fact : ∀ W', P2 W' → (Blk W' (w.heap.size + 1) 45 #[.int .i64 id, .int .u64 (x : Int)] ∧ W'.cell? ⟨w.heap.size + 1 + 1, 0, none⟩ = some (.int .i64 ss) ∧ W'.cell? ⟨w.heap.size + 1 + 1 + 1, 0, none⟩ = some (.slice M m.length d) ∧ Blk W' (w.heap.size + 1 + 1 + 1 + 1) 45 #[.int .i64 0, .int .u64 0] ∧ Blk W' (w.heap.size + 1 + 1 + 1 + 1 + 1 + 1) 45 #[.int .i64 (comS id x ss m).1, .int .u64 ((comS id x ss m).2 : Int)]) ∧ Ext w W' := fun W' h =>
    ⟨⟨keep W' h _ _ _ (by simp only [g]; omega) b2, (keep W' h _ _ _ (by simp only [g]; omega) b3).cell 0, (keep W' h _ _ _ (by simp only [g]; omega) b4).cell 0, keep W' h _ _ _ (by simp only [g]; omega) b5, own2 W' h⟩, ext2 W' h⟩
  have later2 : ∀ W' W2, P2 W' → Ext W' W2 → P2 W2 := by
    rintro W' W2 ⟨W1, W3, h1, h2, h3⟩ h4
    exact ⟨W1, W3, h1, h2, h3.trans h4⟩
  have cN := fun (W' : World) (h : P2 W') (hi : 0 ≤ id) (hs : 0 ≤ ss ∧ ss < 9223372036854775808) (hi2 : id ≤ 7) => qnonce_any x id.toNat ss.toNat hx64 (by omega) (by omega) m v.mb v.mn M d hd W' ((hm.below (ext2 W' h).out).more (ext2 W' h).size)
  have cS := fun (W' : World) (h : P2 W') => scaled_any _ t n k p m l v id W' (ses W' (ext2 W' h) (keep W' h _ _ _ (by simp only [g]; omega) b6))
  have HF := Lib.hid fact
  have HL := Lib.hid later2
  have hcz := com_zero hz.2
  clear cr b1 b2 b3 b4 b5 b6 b7 b8 hp hm hl hc hd he v keep ext2 own2 ses x0 eW hpre HR hz fact later2
  have HP := Lib.hid hcz
  clear hcz
  cases ho : ofC l id with
  | none =>
    rw [ho] at cO
    unfold ofV2 at cO
    simp only at cO
    rw [if_neg (show ¬ (none : Option (Int × Nat)) = some (comS id x ss m) by simp), if_neg (by decide)]
    clear ho cN cS HP
    go_enter Try.func44, Try.ntmps44
    go_wp2_with (first
      | (go_at_call 26; refine cr2.mono ?_; clear cr2; rintro e w1 ⟨rfl, h1⟩; obtain ⟨⟨g2, g3, g4, g5, g7⟩, x1⟩ := HF.out w1 h1; obtain ⟨q0, q1⟩ := two g2; have H1 := Lib.hid h1; clear h1 g2 g3 g4 g5 g7)
      | (go_at_call 55; refine (cO _ H1.out).mono ?_; clear cO; rintro e w2 ⟨rfl, x2⟩; obtain ⟨⟨g2, g3, g4, g5, g7⟩, xx⟩ := HF.out w2 (HL.out _ _ H1.out x2); have p0 := fun o => (two (g5.alloc o)).1; have p1 := fun o => (two (g5.alloc o)).2; have f0 := fun o => (g5.alloc o).frozen 0; have f1 := fun o => (g5.alloc o).frozen 1; clear g2 g3 g4 g5 g7))
    refine bodyPost_ret (v := .tuple #[.agg #[.int .i64 0, .int .u64 0], .int .i64 60]) (by simp [results, Try.results44, go_sem, p0, p1]) rfl ⟨rfl, ?_⟩
    exact ((xx.alloc _).setCell (p := ⟨w.heap.size + 1 + 1 + 1 + 1, 0, none⟩) (by simp only; omega) _).setCell (p := ⟨w.heap.size + 1 + 1 + 1 + 1, 1, none⟩) (by simp only; omega) _
  | some r =>
    rw [ho] at cO
    unfold ofV2 at cO
    simp only at cO
    clear ho
    by_cases hrs : r = comS id x ss m
    case neg =>
      rw [if_neg (show ¬ some r = some (comS id x ss m) by simpa using hrs), if_neg (by decide)]
      have hse := fun w => (eqSh r.1 (comS id x ss m).1 r.2 (comS id x ss m).2 w).trans (by rw [decide_eq_false (fun h => hrs (Prod.ext h.1 (Int.ofNat_inj.1 h.2)))])
      clear cN cS HP hrs
      go_enter Try.func44, Try.ntmps44
      go_wp2_with (first
        | (go_at_call 26; refine cr2.mono ?_; clear cr2; rintro e w1 ⟨rfl, h1⟩; obtain ⟨⟨g2, g3, g4, g5, g7⟩, x1⟩ := HF.out w1 h1; obtain ⟨q0, q1⟩ := two g2; have H1 := Lib.hid h1; clear h1 g2 g3 g4 g5 g7)
        | (go_at_call 55; refine (cO _ H1.out).mono ?_; clear cO; rintro e w2 ⟨rfl, x2⟩; obtain ⟨⟨g2, g3, g4, g5, g7⟩, xx⟩ := HF.out w2 (HL.out _ _ H1.out x2); have p0 := fun o => (two (g5.alloc o)).1; have p1 := fun o => (two (g5.alloc o)).2; have f0 := fun o => (g5.alloc o).frozen 0; have f1 := fun o => (g5.alloc o).frozen 1; have y0 := fun o => (two (g7.alloc o)).1; have y1 := fun o => (two (g7.alloc o)).2; clear g2 g3 g4 g5 g7))
      refine bodyPost_ret (v := .tuple #[.agg #[.int .i64 0, .int .u64 0], .int .i64 60]) (by simp [results, Try.results44, go_sem, p0, p1]) rfl ⟨rfl, ?_⟩
      exact ((xx.alloc _).setCell (p := ⟨w.heap.size + 1 + 1 + 1 + 1, 0, none⟩) (by simp only; omega) _).setCell (p := ⟨w.heap.size + 1 + 1 + 1 + 1, 1, none⟩) (by simp only; omega) _
    case pos =>
      rw [if_pos (show some r = some (comS id x ss m) by rw [hrs]), if_pos rfl]
      have hse := fun w => (eqSh r.1 (comS id x ss m).1 r.2 (comS id x ss m).2 w).trans (by rw [decide_eq_true (And.intro (by rw [hrs]) (by rw [hrs]))])
      obtain ⟨hi1, hi7, hxR, hs0, hs1⟩ := HP.out
      obtain ⟨idn, rfl⟩ : ∃ n : Nat, id = n := ⟨id.toNat, by omega⟩
      obtain ⟨sn, rfl⟩ : ∃ n : Nat, ss = n := ⟨ss.toNat, by omega⟩
      have cN := fun (W' : World) (h : P2 W') => cN W' h (by omega) (by omega) hi7
      unfold partS
      rw [Int.toNat_natCast, Int.toNat_natCast] at cN ⊢
      have lsc := r64 (scN_lt k m l (idn : Int))
      obtain ⟨no, hno⟩ : ∃ q, q = qnN x idn sn m := ⟨_, rfl⟩
      obtain ⟨sc, hsc⟩ : ∃ q, q = scN k m l (idn : Int) := ⟨_, rfl⟩
      rw [← hno] at cN ⊢
      rw [← hsc] at cS lsc ⊢
      have cM := fun w => MulRE sc x lsc hx64 w
      obtain ⟨mu, hmu⟩ : ∃ q, q = mulM bR sc x := ⟨_, rfl⟩
      rw [← hmu] at cM ⊢
      have cA := fun w => AddRE no mu w
      obtain ⟨su, hsu⟩ : ∃ q, q = addM bR no mu := ⟨_, rfl⟩
      rw [← hsu] at cA ⊢
      clear hno hsc hmu hsu lsc hx64 hi1 hi7 hxR hs0 hs1 HP hrs
      go_enter Try.func44, Try.ntmps44
      go_wp2_with (first
        | (go_at_call 26; refine cr2.mono ?_; clear cr2; rintro e w1 ⟨rfl, h1⟩; obtain ⟨⟨g2, g3, g4, g5, g7⟩, x1⟩ := HF.out w1 h1; obtain ⟨q0, q1⟩ := two g2; have H1 := Lib.hid h1; clear h1 g2 g3 g4 g5 g7)
        | (go_at_call 55; refine (cO _ H1.out).mono ?_; clear cO; rintro e w2 ⟨rfl, x2⟩; have H2 := Lib.hid (HL.out _ _ H1.out x2); obtain ⟨⟨g2, g3, g4, g5, g7⟩, xx⟩ := HF.out w2 H2.out; have y0 := fun o => (two (g7.alloc o)).1; have y1 := fun o => (two (g7.alloc o)).2; clear g2 g3 g4 g5 g7))
      obtain ⟨W0, e0⟩ : ∃ W, W = w2.alloc (.cells #[.int .i64 r.1, .int .u64 (r.2 : Int)] 45) := ⟨_, rfl⟩
      have H0 := Lib.hid (HL.out _ W0 H2.out (by rw [e0]; exact (Ext.refl _).alloc _))
      rw [← e0]
      clear e0 y0 y1 q0 q1 hse H1 H2 x1 x2 xx
      have C := Lib.hid fun (W' : World) (h : P2 W') => And.intro (two (HF.out W' h).1.1).1 (And.intro (two (HF.out W' h).1.1).2 (And.intro (HF.out W' h).1.2.1 (HF.out W' h).1.2.2.1))
      obtain ⟨c0, c1, c2, c3⟩ := C.out W0 H0.out
      go_region_held3 (fun w' => w'.cell? ⟨w.heap.size + 1, 0, none⟩ = some (.int .i64 (idn : Int)) ∧ w'.cell? ⟨w.heap.size + 1, 1, none⟩ = some (.int .u64 (x : Int)) ∧ w'.cell? ⟨w.heap.size + 1 + 1, 0, none⟩ = some (.int .i64 (sn : Int)) ∧ w'.cell? ⟨w.heap.size + 1 + 1 + 1, 0, none⟩ = some (.slice M m.length d)) (go_keep) (first
        | (go_at_call 68; refine (cN _ (HL.out _ _ H0.out (Ext.refl W0).drew)).mono ?_; clear cN; rintro e w3 ⟨rfl, x3⟩; have H3 := Lib.hid (HL.out _ _ H0.out ((Ext.refl W0).drew.trans x3)); obtain ⟨c4, c5, c6, c7⟩ := C.out w3 H3.out)
        | (go_at_call 56; refine (cS _ H3.out).mono ?_; clear cS; rintro e w4 ⟨rfl, x4⟩; have H4 := Lib.hid (HL.out _ _ H3.out x4); obtain ⟨c8, c9, c10, c11⟩ := C.out w4 H4.out)
        | (go_at_call 51; refine (cM _).mono ?_; clear cM; rintro e w5 ⟨rfl, x5⟩; have H5 := Lib.hid (HL.out _ _ H4.out x5); obtain ⟨c12, c13, c14, c15⟩ := C.out w5 H5.out)
        | (go_at_call 16; refine (cA _).mono ?_; clear cA; rintro e w6 ⟨rfl, x6⟩; have H6 := Lib.hid (HL.out _ _ H5.out x6); obtain ⟨c16, c17, c18, c19⟩ := C.out w6 H6.out; obtain ⟨⟨-, -, -, hb, -⟩, xx⟩ := HF.out w6 H6.out; obtain ⟨p0, p1⟩ := two hb; have f0 := hb.frozen 0; have f1 := hb.frozen 1; clear hb; have n0 := fun a b => keepS w6 (g := w.heap.size + 1 + 1 + 1 + 1) (by omega) a b c16; have n1 := fun a b => keepS w6 (g := w.heap.size + 1 + 1 + 1 + 1) (by omega) a b c17; have n2 := fun a b => keepS w6 (g := w.heap.size + 1 + 1 + 1 + 1) (by omega) a b c18; have n3 := fun a b => keepS w6 (g := w.heap.size + 1 + 1 + 1 + 1) (by omega) a b c19))
      go_wp2
      refine bodyPost_ret (v := .tuple #[.agg #[.int .i64 (idn : Int), .int .u64 (su : Int)], .int .i64 0]) (by simp [results, Try.results44, go_sem, p0, p1]) rfl ⟨rfl, ?_⟩
      exact (xx.setCell (p := ⟨w.heap.size + 1 + 1 + 1 + 1, 0, none⟩) (by simp only; omega) _).setCell (p := ⟨w.heap.size + 1 + 1 + 1 + 1, 1, none⟩) (by simp only; omega) _
end Go.Proofs.Ytiecfamjnnmpaaa

/- Shares, walked: Split of the program. -/
namespace Go.Proofs.Ytiecfamjnnmpaaa
set_option linter.unusedVariables false
open Go.RowKit Go.Shelf Go.Maps
attribute [local irreducible] atN prodN sumN wantN mix hSum hNum coefN evZ

def spB (secret : Nat) (t n : Int) : Bool := decide (1 ≤ t ∧ t ≤ n ∧ n ≤ 7 ∧ secret < bR)
def spO (secret : Nat) (t n : Int) (seed : List Nat) : List (Int × Nat) := if spB secret t n = true then splitL secret t.toNat n.toNat seed else []
def spE (secret : Nat) (t n : Int) : Nat := if spB secret t n = true then 0 else 1
theorem coded_share (seed : List Nat) (i : Nat) : (coded (strN shareS) [seed, [i]]).length = seed.length + 15 := by
  have h5 : (strN shareS).length = 5 := by rw [strN_length]; rfl
  simp only [coded, List.flatMap_cons, List.flatMap_nil, List.length_cons, List.length_append, be_length, List.length_nil, h5]
  omega
theorem lts_share {seed : List Nat} (hs : ∀ x ∈ seed, x < 256) {i : Nat} (hi : i < 256) : ∀ p ∈ [seed, [i]], ∀ x ∈ p, x < 256 := by
  intro p hp x hx
  simp only [List.mem_cons, List.not_mem_nil, or_false] at hp
  rcases hp with rfl | rfl
  · exact hs x hx
  · simp only [List.mem_cons, List.not_mem_nil, or_false] at hx; omega
theorem parts_share {W : World} {T : TypeId} {A B : Option Addr} {c d i : Nat} {l : List Nat} (hc : l.length ≤ c) (hr : Reads W W.heap.size 1 A l.length (bv l)) (hd : 1 ≤ d) (hb : Reads W W.heap.size 1 B 1 (bv [i])) :
    Parts (W.alloc (.cells #[.slice A l.length c, .slice B 1 d] T)) (W.alloc (.cells #[.slice A l.length c, .slice B 1 d] T)).heap.size (some ⟨W.heap.size, 0, none⟩) [l, [i]] :=
  parts_new rfl fun j p hj => match j, hj with
    | 0, hj => by cases hj; exact ⟨A, c, rfl, hc, hr⟩
    | 1, hj => by cases hj; exact ⟨B, d, rfl, hd, hb⟩
/-- What is hashed for a coefficient. -/
theorem TagShare (seed : List Nat) (hs : ∀ x ∈ seed, x < 256) (hl : seed.length ≤ 1000) (i : Nat) (hi : i < 256) : ∃ a b : Nat, a < 18446744073709551616 ∧ b < 18446744073709551616 ∧ numM a b bR = coefN seed i ∧
    (∀ (W : World) (A : Option Addr), Parts W W.heap.size A [seed, [i]] → Calls Try.prog 62 #[.string shareS, .slice A 2 2] W fun e w' => e = .returned (.agg #[.int .u64 (a : Int), .int .u64 (b : Int)]) ∧ Ext W w') :=
  ⟨_, _, (hSum_w (coded (strN shareS) [seed, [i]])).1, (hSum_w _).2, by unfold coefN hNum; rfl, fun W A h => Tagged_any shareS [seed, [i]] (lts_share hs hi) A 2 W h (by rw [coded_share]; omega)⟩
theorem byte_reads (W : World) (T : TypeId) (i : Nat) : Reads (W.alloc (.cells #[.int .u8 (i : Int)] T)) (W.alloc (.cells #[.int .u8 (i : Int)] T)).heap.size 1 (some ⟨W.heap.size, 0, none⟩) 1 (bv [i]) := blk_reads (Blk.new W T #[.int .u8 (i : Int)])

set_option maxRecDepth 100000 in
set_option maxHeartbeats 4000000 in
theorem Split_okF (secret tn nn : Nat) (seed : List Nat) (h1 : 1 ≤ tn) (h2 : tn ≤ nn) (h3 : nn ≤ 7) (hs : secret < bR) (hseed : ∀ x ∈ seed, x < 256) (hl : seed.length ≤ 1000) (A : Option Addr) (c : Nat) (hc : seed.length ≤ c) (w : World) (hr : Reads w w.heap.size 1 A seed.length (bv seed)) :
    Calls Try.prog 37 #[.int .u64 (secret : Int), .int .i64 (tn : Int), .int .i64 (nn : Int), .slice A seed.length c] w fun e w' => ∃ A' c', e = .returned (.tuple #[.slice A' nn c', .int .i64 0]) ∧ nn ≤ c' ∧ Reads w' w'.heap.size 2 A' nn (sv (splitL secret tn nn seed)) ∧ Ext w w' ∧ (∀ ad, A' = some ad → w.heap.size ≤ ad.block) := by
  obtain ⟨i0, hi, hz0, hz1, hz2⟩ := info_parts Try.infoU64
  obtain ⟨i1, hi1, hz3, hz4, hz5⟩ := info_parts Try.infoSh
  have z1 : ¬ (tn : Int) < 1 := by omega
  have z2 : ¬ (nn : Int) < (tn : Int) := by omega
  have z3 : ¬ (7 : Int) < (nn : Int) := by omega
  have z4 : decide ((1152921504606845789 : Int) ≤ (secret : Int)) = false := dec_nge (by unfold bR at hs; omega)
  have ht7 : tn ≤ 7 := by omega
  have HR := Lib.hid hr
  have HSD := Lib.hid hseed
  have HL := Lib.hid hl
  have HC := Lib.hid hc
  have HS := Lib.hid hs
  have H1 := Lib.hid h1
  clear hr hseed hl hc hs h1 h2
  go_enter Try.func37, Try.ntmps37
  go_wp2_with (at_make; refine wpList_make_full _ rfl _ _ 98 rfl w.heap.size 22 i0 (.int .u64 0) 1 Try.underlying98 hi hz0 hz1 .i64 .i64 (tn : Int) (tn : Int) tn rfl rfl rfl rfl (by rw [hz2]; omega) (by simp only [maxLen]; omega) (Nat.le_refl _) ?_; intro w1 hown1 hg1)
  have hB1 := (own_blk hown1).1
  rw [make_words] at hB1
  have HB1 := Lib.hid hB1
  have X1 : Hid (Ext w w1) := Ext.of ((Below.refl _ _).grown hg1 (Nat.le_refl _) (fun k h => by cases h))
  obtain ⟨g, hg⟩ : ∃ g, g = w.heap.size := ⟨_, rfl⟩
  have HG := Lib.hid hg
  rw [← hg] at HB1 ⊢
  clear hown1 hg1 hB1 z1 z2 z4 hg
  go_loopg [36] tn (fun m s36 wr => ∃ j : Nat, j + m = tn ∧ s36 = .int .i64 j ∧ Blk wr g 22 (uv ((polyN secret tn seed).take j ++ List.replicate (tn - j) 0)).toArray ∧ Ext w wr)
  case atStart => exact ⟨0, by omega, rfl, HB1.out, X1.out⟩
  case round =>
    obtain ⟨j, hj, rfl, hb, hx⟩ := hrel
    have hlen : ((polyN secret tn seed).take j).length = j := by rw [List.length_take, polyN_length]; omega
    by_cases h : j < tn
    · have hjb : (j : Int) ≤ 7 := by omega
      have hjt : (j : Int) < tn := by omega
      have pa := polyN_at secret tn seed h
      have e1 : (polyN secret tn seed).take (j + 1) = (polyN secret tn seed).take j ++ [if j = 0 then secret else coefN seed j] := by rw [List.take_add_one, pa]; rfl
      obtain ⟨pre, hpre⟩ : ∃ q, q = (polyN secret tn seed).take j := ⟨_, rfl⟩
      rw [← hpre] at hlen e1 hb
      have q0 : wr.cell? ⟨g, j, none⟩ = some (.int .u64 ((0 : Nat) : Int)) := blk_word hb (by rw [List.getElem?_append_right (by omega), hlen, Nat.sub_self, List.getElem?_replicate, if_pos (by omega)])
      have f0 := hb.frozen j
      have hb2 := hb.set_ j (.int .u64 (secret : Int))
      rw [uv_set, set_row _ _ _ _ hlen h] at hb2
      have q1 : (wr.setCell ⟨g, j, none⟩ (.int .u64 (secret : Int))).cell? ⟨g, j, none⟩ = some (.int .u64 (secret : Int)) := blk_word hb2 (by rw [List.getElem?_append_right (by omega), hlen, Nat.sub_self]; rfl)
      have x2 : Ext w (wr.setCell ⟨g, j, none⟩ (.int .u64 (secret : Int))) := hx.setCell (p := ⟨g, j, none⟩) (by rw [HG.out]; exact Nat.le_refl _) _
      have HE := Lib.hid e1
      have HX2 := Lib.hid x2
      have HB2 := Lib.hid hb2
      have HJ := Lib.hid hj
      have HLEN := Lib.hid hlen
      clear hj hb hx hpre hlen pa e1 hb2 x2
      by_cases hj0 : j = 0
      · subst hj0
        rw [if_pos rfl] at HE
        go_wp2
        have hj := HJ.out
        go_roundg (gk - 1)
        case measure => omega
        case rel => exact ⟨1, by omega, rfl, by rw [HE.out, List.append_assoc]; exact HB2.out, HX2.out⟩
      · rw [if_neg hj0] at HE
        have hj1 : (0 : Int) < j := by omega
        obtain ⟨ta, tb, ha, hb', hnm, cT⟩ := TagShare seed HSD.out HL.out j (by omega)
        have cN := fun W => Num_any ta tb bR ha hb' (by decide) W
        rw [hnm, show bR = 1152921504606845789 from rfl] at cN
        simp only [Int.cast_ofNat_Int] at cN
        have kw : IntKind.u8.wrap (j : Int) = (j : Int) := by rw [IntKind.wrap_u8]; omega
        obtain ⟨co, hco⟩ : ∃ q, q = coefN seed j := ⟨_, rfl⟩
        rw [← hco] at cN HE
        unfold shareS at cT
        have xV : Ext w ((wr.setCell ⟨g, j, none⟩ (.int .u64 (secret : Int))).alloc (.cells #[.int .u8 (j : Int)] 5)) := HX2.out.alloc _
        have pT := fun T => parts_share (T := T) HC.out ((HR.out.below xV.out).more xV.size) (Nat.le_refl 1) (byte_reads (wr.setCell ⟨g, j, none⟩ (.int .u64 (secret : Int))) 5 j)
        rw [World.size_alloc, World.size_setCell] at pT
        have cT1 := fun T => cT _ _ (pT T)
        have HP := Lib.hid xV
        clear ha hb' hnm hco hj0 cT pT xV
        go_wp2_with (first
          | (go_at_call 62; refine (cT1 _).mono ?_; clear cT1; rintro e w2 ⟨rfl, x2⟩; have B2 := Lib.hid (ext_blk x2 ((HB2.out.alloc _).alloc _)); have X2 := Lib.hid ((HP.out.alloc _).trans x2))
          | (go_at_call 61; refine (cN _).mono ?_; clear cN; rintro e w3 ⟨rfl, x3⟩; have B3 := Lib.hid (ext_blk x3 B2.out); have q3 := blk_word B3.out (k := j) (v := secret) (by rw [List.getElem?_append_right (by rw [HLEN.out]; exact Nat.le_refl _), HLEN.out, Nat.sub_self]; rfl); have f3 := B3.out.frozen j))
        have hb4 := B3.out.set_ j (.int .u64 (co : Int))
        rw [uv_set, set_row' _ _ _ _ _ HLEN.out] at hb4
        have x4 : Ext w (w3.setCell ⟨g, j, none⟩ (.int .u64 (co : Int))) := (X2.out.trans x3).setCell (p := ⟨g, j, none⟩) (by rw [HG.out]; exact Nat.le_refl _) _
        have hj := HJ.out
        go_roundg (gk - 1)
        case measure => omega
        case rel => exact ⟨j + 1, by omega, int_congr (by omega), by rw [HE.out, List.append_assoc]; exact hb4, x4⟩
    · obtain rfl : j = tn := by omega
      rw [List.take_of_length_le (by rw [polyN_length]; exact Nat.le_refl _), Nat.sub_self, List.replicate_zero, List.append_nil] at hb
      have hpl := polyN_length secret j seed
      have hpr := polyN_lt HS.out j seed
      have hsp : ∀ k, k < nn → (splitL secret j nn seed)[k]? = some (((k + 1 : Nat) : Int), evZ (polyN secret j seed) (k + 1) % bR) := fun k hk => splitL_at secret j nn seed hk
      have hsl := splitL_length secret j nn seed
      obtain ⟨poly, hpoly⟩ : ∃ q, q = polyN secret j seed := ⟨_, rfl⟩
      obtain ⟨sl, hslq⟩ : ∃ q, q = splitL secret j nn seed := ⟨_, rfl⟩
      rw [← hpoly] at hb hpl hpr hsp
      rw [← hslq] at hsp hsl
      have HB := Lib.hid hb
      have HX := Lib.hid hx
      have HPL := Lib.hid hpl
      have HPR := Lib.hid hpr
      have HSP := Lib.hid hsp
      have HSL := Lib.hid hsl
      have HSLQ := Lib.hid hslq
      clear hb hx hj hlen hpl hpr hsp hsl hslq hpoly
      go_wp2_with (at_make; refine wpList_make_full _ rfl _ _ 23 rfl wr.heap.size 45 i1 (.agg #[.int .i64 0, .int .u64 0]) 2 Try.underlying23 hi1 hz3 hz4 .i64 .i64 (nn : Int) (nn : Int) nn rfl rfl rfl rfl (by rw [hz5]; omega) (by simp only [maxLen]; omega) (Nat.le_refl _) ?_; intro w2 hown2 hg2)
      have hB2 := (own_blk hown2).1
      rw [make_shares] at hB2
      have HBP := Lib.hid (HB.out.grown hg2 (by simp))
      have hx2 : Ext wr w2 := Ext.of ((Below.refl _ _).grown hg2 (Nat.le_refl _) (fun k h => by cases h))
      have HX2 := Lib.hid (HX.out.trans hx2)
      obtain ⟨g2, hg2'⟩ : ∃ g, g = wr.heap.size := ⟨_, rfl⟩
      have hgg : w.heap.size ≤ g2 := by rw [hg2']; exact HX.out.size
      have hne : g ≠ g2 := by have := HB.out.lt; omega
      rw [← hg2'] at hB2 ⊢
      have HB2 := Lib.hid hB2
      have HGG := Lib.hid hgg
      have HNE := Lib.hid hne
      clear hown2 hg2 hB2 hx2 hg2' hgg hne
      go_loopg [60] nn (fun m s60 wr => ∃ k : Nat, k + m = nn ∧ s60 = .int .i64 k ∧ Blk wr g2 45 (sv (sl.take k ++ List.replicate (nn - k) (0, 0))).toArray ∧ Blk wr g 22 (uv poly).toArray ∧ Ext w wr)
      case atStart => exact ⟨0, by omega, rfl, HB2.out, HBP.out, HX2.out⟩
      case round =>
        obtain ⟨k, hk, rfl, hb, hbp, hx⟩ := hrel
        by_cases h : k < nn
        · have hkb : (k : Int) ≤ 7 := by omega
          have hkn : (k : Int) < nn := by omega
          have hlen : (sl.take k).length = k := by rw [List.length_take, HSL.out]; omega
          have e1 : sl.take (k + 1) = sl.take k ++ [(((k + 1 : Nat) : Int), evZ poly (k + 1) % bR)] := by rw [List.take_add_one, HSP.out k h]; rfl
          obtain ⟨pre, hpre⟩ : ∃ q, q = sl.take k := ⟨_, rfl⟩
          rw [← hpre] at hlen e1 hb
          have e2 : List.replicate (nn - k) ((0 : Int), 0) = ((0 : Int), 0) :: List.replicate (nn - (k + 1)) (0, 0) := by rw [← List.replicate_succ]; congr 1; omega
          rw [e2] at hb
          obtain ⟨post, hpost⟩ : ∃ q, q = List.replicate (nn - (k + 1)) ((0 : Int), 0) := ⟨_, rfl⟩
          rw [← hpost] at hb
          have hat : ∀ s : Int × Nat, (pre ++ s :: post)[k]? = some s := fun s => by rw [List.getElem?_append_right (by omega), hlen, Nat.sub_self]; rfl
          obtain ⟨q0, -⟩ := blk_row hb (hat _)
          have f0 := hb.frozen (k * 2)
          have hb2 := hb.set_ (k * 2) (.int .i64 (((k + 1 : Nat) : Int)))
          rw [sv_set0 _ _ _ hlen] at hb2
          have kc : ((k + 1 : Nat) : Int) = (k : Int) + 1 := by omega
          rw [kc] at hb2 e1
          have hbp2 := hbp.far (p := ⟨g2, k * 2, none⟩) HNE.out (.int .i64 ((k : Int) + 1))
          have x2 : Ext w (wr.setCell ⟨g2, k * 2, none⟩ (.int .i64 ((k : Int) + 1))) := hx.setCell (p := ⟨g2, k * 2, none⟩) HGG.out _
          have kx : IntKind.u64.wrap ((k : Int) + 1) = ((k + 1 : Nat) : Int) := by rw [IntKind.wrap_u64]; omega
          obtain ⟨x, hxk⟩ : ∃ x, x = k + 1 := ⟨_, rfl⟩
          rw [← hxk] at kx e1
          have HE := Lib.hid e1
          have HX3 := Lib.hid x2
          have HB3 := Lib.hid hb2
          have HBP3 := Lib.hid hbp2
          have HK := Lib.hid hk
          have HLEN := Lib.hid hlen
          have HPOST := Lib.hid hpost
          have HAT := Lib.hid hat
          obtain ⟨G, hG⟩ : ∃ G, G = gk - 1 := ⟨_, rfl⟩
          have HG2 := Lib.hid hG
          have hxb : x < bR := by unfold bR; omega
          have HXB := Lib.hid hxb
          have HXK := Lib.hid hxk
          clear hk hb hbp hx hpre hlen e1 e2 hpost hat hb2 hbp2 x2 hxk hG hxb kc
          go_wp2
          go_loopg [14, 71] j (fun m s14 s71 wr => ∃ i : Nat, i + m = j ∧ s71 = .int .i64 i ∧ s14 = .int .u64 ((x ^ i % bR : Nat) : Int) ∧ Blk wr g2 45 (sv (pre ++ ((k : Int) + 1, evZ (poly.take i) x % bR) :: post)).toArray ∧ Blk wr g 22 (uv poly).toArray ∧ Ext w wr)
          case atStart =>
            refine ⟨0, by omega, rfl, ?_, ?_, HBP3.out, HX3.out⟩
            · rw [Nat.pow_zero]; rfl
            · have e : evZ (poly.take 0) x % bR = 0 := by unfold evZ; rfl
              rw [e]; exact HB3.out
          case round =>
            obtain ⟨i, hi, rfl, rfl, hb, hbp, hx⟩ := hrel
            by_cases h' : i < j
            · have hib : (i : Int) ≤ 7 := by omega
              have hij : (i : Int) < j := by omega
              obtain ⟨co, hco⟩ : ∃ s, poly[i]? = some s := ⟨_, List.getElem?_eq_getElem (by rw [HPL.out]; exact h')⟩
              have p0 := blk_word hbp hco
              have hcb := HPR.out co (List.mem_of_getElem? hco)
              have hlt : (poly.take i).length = i := by rw [List.length_take, HPL.out]; omega
              have e1 : poly.take (i + 1) = poly.take i ++ [co] := by rw [List.take_add_one, hco]; rfl
              have e2 := value_step (poly.take i) co x
              rw [← e1, hlt] at e2
              have e3 := shpow_step x i
              obtain ⟨z0, z1⟩ := blk_row hb (HAT.out _)
              obtain ⟨z2, z3⟩ : wr.frozen? ⟨g2, k * 2, none⟩ = false ∧ wr.frozen? ⟨g2, k * 2 + 1, none⟩ = false := ⟨hb.frozen _, hb.frozen _⟩
              obtain ⟨v, hv⟩ : ∃ t, t = evZ (poly.take i) x % bR := ⟨_, rfl⟩
              obtain ⟨v', hv'⟩ : ∃ t, t = evZ (poly.take (i + 1)) x % bR := ⟨_, rfl⟩
              obtain ⟨p, hp⟩ : ∃ t, t = x ^ i % bR := ⟨_, rfl⟩
              obtain ⟨p', hp'⟩ : ∃ t, t = x ^ (i + 1) % bR := ⟨_, rfl⟩
              have hpb : p < bR := by rw [hp]; exact Nat.mod_lt _ (by decide)
              rw [← hv, ← hv', ← hp] at e2
              rw [← hp, ← hp'] at e3
              rw [← hv] at z1 hb
              have c1 := fun W => MulRE co p (lt64_R hcb) (lt64_R hpb) W
              have c2 := fun W => AddRE v (mulM bR co p) W
              have c3 := fun W => MulRE p x (lt64_R hpb) (lt64_R HXB.out) W
              rw [e2] at c2
              rw [e3] at c3
              obtain ⟨mm, hmm⟩ : ∃ t, t = mulM bR co p := ⟨_, rfl⟩
              rw [← hmm] at c1 c2
              rw [← hp]
              have HV := Lib.hid hv'
              have HP := Lib.hid hp'
              have HB4 := Lib.hid hb
              have HBP4 := Lib.hid hbp
              have HX4 := Lib.hid hx
              have HI := Lib.hid hi
              clear hi hb hbp hx hco hcb hlt e1 e2 e3 hv hv' hp hp' hpb hmm
              go_wp2
              go_region_with (first
                | (go_at_call 51; refine (c1 _).mono ?_; clear c1; rintro e w3 ⟨rfl, x3⟩; have B3 := Lib.hid (ext_blk x3 (by first | exact HB4.out.drew | exact HB4.out | exact HB4.out.drewN _)); have P3 := Lib.hid (ext_blk x3 (by first | exact HBP4.out.drew | exact HBP4.out | exact HBP4.out.drewN _)); have y3 := (blk_row B3.out (HAT.out _)).2; have t3 := B3.out.frozen (k * 2 + 1))
                | (go_at_call 16; refine (c2 _).mono ?_; clear c2; rintro e w4 ⟨rfl, x4⟩; have B4 := Lib.hid (ext_blk x4 (by first | exact B3.out | exact B3.out.drew | exact B3.out.drewN _)); have P4 := Lib.hid (ext_blk x4 (by first | exact P3.out | exact P3.out.drew | exact P3.out.drewN _)); have y4 := (blk_row B4.out (HAT.out _)).2; have t4 := B4.out.frozen (k * 2 + 1)))
              all_goals (
                have b5 := B4.out.set_ (k * 2 + 1) (.int .u64 (v' : Int))
                rw [sv_set1 _ _ _ HLEN.out] at b5
                have p5 := P4.out.far (p := ⟨g2, k * 2 + 1, none⟩) HNE.out (.int .u64 (v' : Int))
                have x5 : Ext w (w4.setCell ⟨g2, k * 2 + 1, none⟩ (.int .u64 (v' : Int))) := ((HX4.out.drew.trans x3).trans x4).setCell (p := ⟨g2, k * 2 + 1, none⟩) HGG.out _
                have B5 := Lib.hid b5
                have P5 := Lib.hid p5
                have X5 := Lib.hid x5
                clear b5 p5 x5
                go_wp2_with (go_at_call 51; refine (c3 _).mono ?_; clear c3; rintro e w6 ⟨rfl, x6⟩)
                have hi := HI.out
                go_roundg (gk - 1))
              all_goals first
                | (case measure => omega)
                | (case rel => exact ⟨i + 1, by omega, int_congr (by omega), by rw [HP.out], by rw [← HV.out]; exact ext_blk x6 B5.out, ext_blk x6 P5.out, X5.out.trans x6⟩)
            · obtain rfl : i = j := by omega
              rw [List.take_of_length_le (by rw [HPL.out]; exact Nat.le_refl _)] at hb
              have HB5 := Lib.hid hb
              have HBP5 := Lib.hid hbp
              have HX5 := Lib.hid hx
              have e4 : sl.take (k + 1) = pre ++ [((k : Int) + 1, evZ poly x % bR)] := by rw [← HXK.out]; exact HE.out
              have HE4 := Lib.hid e4
              clear hi hb hbp hx e4
              go_wp2
              have hk := HK.out
              have hG := HG2.out
              go_roundg G
              case measure => omega
              case rel => exact ⟨k + 1, by omega, int_congr (by omega), by rw [HE4.out, List.append_assoc, ← HPOST.out]; exact HB5.out, HBP5.out, HX5.out⟩
        · obtain rfl : k = nn := by omega
          rw [List.take_of_length_le (by rw [HSL.out]; exact Nat.le_refl _), Nat.sub_self, List.replicate_zero, List.append_nil] at hb
          have hr' := blk_reads2 hb
          rw [HSL.out] at hr'
          have HRR := Lib.hid hr'
          have HX5 := Lib.hid hx
          clear hk hb hbp hx hr'
          go_wp2
          go_ret2
          exact ⟨_, _, rfl, Nat.le_refl _, by rw [← HSLQ.out]; exact HRR.out, HX5.out, fun ad h => by cases h; exact HGG.out⟩
theorem Split_ok (secret tn nn : Nat) (seed : List Nat) (h1 : 1 ≤ tn) (h2 : tn ≤ nn) (h3 : nn ≤ 7) (hs : secret < bR) (hseed : ∀ x ∈ seed, x < 256) (hl : seed.length ≤ 1000) (A : Option Addr) (c : Nat) (hc : seed.length ≤ c) (w : World) (hr : Reads w w.heap.size 1 A seed.length (bv seed)) :
    Calls Try.prog 37 #[.int .u64 (secret : Int), .int .i64 (tn : Int), .int .i64 (nn : Int), .slice A seed.length c] w fun e w' => ∃ A' c', e = .returned (.tuple #[.slice A' nn c', .int .i64 0]) ∧ nn ≤ c' ∧ Reads w' w'.heap.size 2 A' nn (sv (splitL secret tn nn seed)) ∧ Ext w w' :=
  (Split_okF secret tn nn seed h1 h2 h3 hs hseed hl A c hc w hr).mono fun _ _ ⟨A', c', a, b, d, e, _⟩ => ⟨A', c', a, b, d, e⟩
end Go.Proofs.Ytiecfamjnnmpaaa

/- Shares, walked: value and Split of the document; Split of whatever. -/
namespace Go.Proofs.Ytiecfamjnnmpaaa
set_option linter.unusedVariables false
open Go.RowKit Go.Shelf Go.Maps
attribute [local irreducible] atN prodN sumN wantN mix hSum hNum coefN evZ

theorem reads_uv {w : World} {B n : Nat} {A : Option Addr} {l : List Nat} (h : Reads w B 1 A n (uv l)) {k : Nat} {x : Nat} (hk : l[k]? = some x) : ∃ ad, A = some ad ∧ w.cell? (ad.add k) = some (.int .u64 (x : Int)) :=
  reads_word (l := l) h hk
theorem horner_drop {l : List Nat} {k c : Nat} (h : l[k]? = some c) (x : Nat) : addM bR (mulM bR (evZ (l.drop (k + 1)) x % bR) x) c = evZ (l.drop k) x % bR := by
  rw [horner_step, List.drop_eq_getElem_cons (List.getElem?_eq_some_iff.1 h).1, (List.getElem?_eq_some_iff.1 h).2]

end Go.Proofs.Ytiecfamjnnmpaaa

/- Shares, walked: Split of the document; Split of whatever. -/
namespace Go.Proofs.Ytiecfamjnnmpaaa
set_option linter.unusedVariables false
open Go.RowKit Go.Shelf Go.Maps
attribute [local irreducible] atN prodN sumN wantN mix hSum hNum coefN evZ

end Go.Proofs.Ytiecfamjnnmpaaa

/- Shares, walked: Split of whatever; the chapter's examples. Printed by gen_sh14.py. -/
namespace Go.Proofs.Ytiecfamjnnmpaaa
set_option linter.unusedVariables false
open Go.RowKit Go.Shelf Go.Maps
attribute [local irreducible] atN prodN sumN wantN mix hSum hNum coefN evZ

set_option maxRecDepth 100000 in
set_option maxHeartbeats 2000000 in
theorem Split_any (secret : Nat) (t n : Int) (seed : List Nat) (hseed : ∀ x ∈ seed, x < 256) (hl : seed.length ≤ 1000) (A : Option Addr) (c : Nat) (hc : seed.length ≤ c) (w : World) (hr : Reads w w.heap.size 1 A seed.length (bv seed)) :
    Calls Try.prog 37 #[.int .u64 (secret : Int), .int .i64 t, .int .i64 n, .slice A seed.length c] w fun e w' => ∃ A' c', e = .returned (.tuple #[.slice A' (spO secret t n seed).length c', .int .i64 (spE secret t n : Nat)]) ∧ (spO secret t n seed).length ≤ c' ∧ Reads w' w'.heap.size 2 A' (spO secret t n seed).length (sv (spO secret t n seed)) ∧ Ext w w' := by
  by_cases hb : spB secret t n = true
  · obtain ⟨h1, h2, h3, h4⟩ := of_decide_eq_true hb
    have e1 : spO secret t n seed = splitL secret t.toNat n.toNat seed := by unfold spO; rw [if_pos hb]
    have e2 : spE secret t n = 0 := by unfold spE; rw [if_pos hb]
    obtain ⟨tn, rfl⟩ : ∃ q : Nat, t = q := ⟨t.toNat, by omega⟩
    obtain ⟨nn, rfl⟩ : ∃ q : Nat, n = q := ⟨n.toNat, by omega⟩
    rw [e1, e2, splitL_length, Int.toNat_natCast, Int.toNat_natCast]
    exact Split_ok secret tn nn seed (by omega) (by omega) (by omega) h4 hseed hl A c hc w hr
  · have e1 : spO secret t n seed = [] := by unfold spO; rw [if_neg hb]
    have e2 : spE secret t n = 1 := by unfold spE; rw [if_neg hb]
    rw [e1, e2]
    have x0 := Ext.refl w
    by_cases h1 : t < 1
    · clear hr hseed hl hc hb e1 e2
      go_enter Try.func37, Try.ntmps37
      go_wp2
      go_ret2
      first | exact ⟨none, ⟨0, rfl⟩, Reads.none_, x0⟩ | exact ⟨none, 0, rfl, Nat.le_refl _, Reads.none_, x0⟩
    by_cases h2 : n < t
    · clear hr hseed hl hc hb e1 e2
      go_enter Try.func37, Try.ntmps37
      go_wp2
      go_ret2
      first | exact ⟨none, ⟨0, rfl⟩, Reads.none_, x0⟩ | exact ⟨none, 0, rfl, Nat.le_refl _, Reads.none_, x0⟩
    by_cases h3 : 7 < n
    · clear hr hseed hl hc hb e1 e2
      go_enter Try.func37, Try.ntmps37
      go_wp2
      go_ret2
      first | exact ⟨none, ⟨0, rfl⟩, Reads.none_, x0⟩ | exact ⟨none, 0, rfl, Nat.le_refl _, Reads.none_, x0⟩
    · have h4 : bR ≤ secret := Nat.le_of_not_lt fun h => hb (decide_eq_true ⟨by omega, by omega, by omega, h⟩)
      have d1 : decide ((secret : Int) ≥ 1152921504606845789) = true := dec_ge (by unfold bR at h4; omega)
      have d2 : (1152921504606845789 : Int) ≤ (secret : Int) := by unfold bR at h4; omega
      clear hr hseed hl hc hb e1 e2 h4
      go_enter Try.func37, Try.ntmps37
      go_wp2
      go_ret2
      first | exact ⟨none, ⟨0, rfl⟩, Reads.none_, x0⟩ | exact ⟨none, 0, rfl, Nat.le_refl _, Reads.none_, x0⟩

end Go.Proofs.Ytiecfamjnnmpaaa

/- Plain: what follows of shares (back, hides, sums, public, spoilt, ones). No walk here. -/
namespace Go.Proofs.Ytiecfamjnnmpaaa
set_option linter.unusedVariables false
attribute [local irreducible] mix hSum hNum coefN

def idOf (s : Int × Nat) : Int := s.1
theorem may_of {L : List (Int × Nat)} (h0 : 0 < L.length) (h7 : L.length ≤ 7) (hr : ∀ s ∈ L, (1 ≤ s.1 ∧ s.1 < 1152921504606845789) ∧ s.2 < bR) (hn : (L.map fun s : Int × Nat => s.1).Nodup) : mayB L = true := by
  rw [mayB_eq, Bool.and_eq_true]
  refine ⟨List.all_eq_true.2 fun s hs => by simpa using (hr s hs).2, (rightB_iff _).2 ⟨⟨fun i hi => ?_, hn⟩, by simpa using h0, by simpa using h7⟩⟩
  obtain ⟨s, hs, rfl⟩ := List.mem_map.1 hi
  exact (hr s hs).1
theorem ok_of_may {L : List (Int × Nat)} (h : mayB L = true) : okP (L.map fun s : Int × Nat => s.1) := by
  rw [mayB_eq, Bool.and_eq_true] at h
  exact ((rightB_iff _).1 h.2).1
/-- Shares on a polynomial make what it is at 0. -/
theorem join_on {L : List (Int × Nat)} (h : mayB L = true) {P : Int → Int} (hP : Pd bR L.length P) (hL : ∀ s ∈ L, Cg bR (s.2 : Int) (P s.1)) {v : Nat} (hv : v < bR) (h0 : Cg bR (v : Int) (P 0)) : sumN (L.map fun s : Int × Nat => s.1) 0 L = v :=
  eq_of_cg (sumN_lt _ _ _) hv ((sum_poly L (ok_of_may h) P hP hL 0).trans h0.symm)
theorem joinR_on {L : List (Int × Nat)} (h : mayB L = true) {P : Int → Int} (hP : Pd bR L.length P) (hL : ∀ s ∈ L, Cg bR (s.2 : Int) (P s.1)) {v : Nat} (hv : v < bR) (h0 : Cg bR (v : Int) (P 0)) : joinR L = .tuple #[.int .u64 (v : Int), .int .i64 0] := by
  have h7 := may_facts h
  have hne : L.length ≠ 0 := by
    intro he
    have := (rightB_iff _).1 h7.1
    rw [List.length_map] at this
    omega
  rw [joinR_ok hne h, join_on h hP hL hv h0]

/-- A share of a polynomial. -/
def OnP (poly : List Nat) (s : Int × Nat) : Prop := (1 ≤ s.1 ∧ s.1 ≤ 7) ∧ s.2 = evZ poly s.1.toNat % bR
theorem OnP.cg {poly : List Nat} {s : Int × Nat} (h : OnP poly s) : Cg bR (s.2 : Int) (evI poly s.1) := by
  obtain ⟨h1, h2⟩ := h
  rw [h2]
  have e : evI poly s.1 = (evZ poly s.1.toNat : Nat) := by rw [← evI_cast]; congr 1; omega
  rw [e]
  exact cg_mod _ _
theorem OnP.range {poly : List Nat} {s : Int × Nat} (h : OnP poly s) : (1 ≤ s.1 ∧ s.1 < 1152921504606845789) ∧ s.2 < bR := by
  obtain ⟨h1, h2⟩ := h
  refine ⟨by omega, ?_⟩
  rw [h2]
  exact Nat.mod_lt _ (by decide)
theorem split_onP {secret tn nn : Nat} {seed : List Nat} (h7 : nn ≤ 7) : ∀ s ∈ splitL secret tn nn seed, OnP (polyN secret tn seed) s := by
  intro s hs
  obtain ⟨k, hk, rfl⟩ := List.mem_map.1 hs
  rw [List.mem_range] at hk
  refine ⟨by dsimp only; omega, ?_⟩
  show _ = evZ _ (((k + 1 : Nat) : Int)).toNat % bR
  rw [Int.toNat_natCast]
theorem split_ids {secret tn nn : Nat} {seed : List Nat} : (splitL secret tn nn seed).map (fun s : Int × Nat => s.1) = (List.range nn).map fun k => ((k + 1 : Nat) : Int) := by
  simp [splitL, List.map_map]
theorem split_nodup {secret tn nn : Nat} {seed : List Nat} : ((splitL secret tn nn seed).map fun s : Int × Nat => s.1).Nodup := by
  rw [split_ids]
  exact List.Pairwise.map _ (fun a b (h : a ≠ b) e => h (by have : ((a + 1 : Nat) : Int) = ((b + 1 : Nat) : Int) := e; omega)) List.nodup_range
theorem poly_zero {secret tn : Nat} {seed : List Nat} (h : 1 ≤ tn) : evI (polyN secret tn seed) 0 = secret := by
  obtain ⟨k, rfl⟩ : ∃ k, tn = k + 1 := ⟨tn - 1, by omega⟩
  unfold polyN
  rw [List.range_succ_eq_map, List.map_cons]
  show ((if 0 = 0 then secret else coefN seed 0 : Nat) : Int) + 0 * _ = _
  rw [if_pos rfl]; omega
theorem poly_pd (secret tn : Nat) (seed : List Nat) {k : Nat} (h : tn ≤ k) : Pd bR k (evI (polyN secret tn seed)) := by
  have := evI_pd bR (polyN secret tn seed)
  rw [polyN_length] at this
  exact this.le h
/-- As many as are enough make the secret. -/
theorem join_split {secret tn : Nat} {seed : List Nat} (h1 : 1 ≤ tn) (hs : secret < bR) {L : List (Int × Nat)} (hL : ∀ s ∈ L, OnP (polyN secret tn seed) s) (hn : (L.map fun s : Int × Nat => s.1).Nodup) (ht : tn ≤ L.length) (h7 : L.length ≤ 7) :
    joinR L = .tuple #[.int .u64 (secret : Int), .int .i64 0] :=
  joinR_on (may_of (by omega) h7 (fun s hs => (hL s hs).range) hn) (poly_pd secret tn seed ht) (fun s hs => (hL s hs).cg) hs (Cg.of_eq (poly_zero h1).symm)

/-! ### some of them -/
def pickL (l : List (Int × Nat)) (f n : Nat) : List (Int × Nat) := (List.range n).map fun i => l.getD ((f + i) % l.length) (0, 0)
def someL (l : List (Int × Nat)) (f n : Nat) (turned : Bool) : List (Int × Nat) := if turned then (pickL l f n).reverse else pickL l f n
theorem pickL_length (l : List (Int × Nat)) (f n : Nat) : (pickL l f n).length = n := by simp [pickL]
theorem someL_length (l : List (Int × Nat)) (f n : Nat) (t : Bool) : (someL l f n t).length = n := by unfold someL; split <;> simp [pickL_length]
theorem pickL_succ (l : List (Int × Nat)) (f n : Nat) : pickL l f (n + 1) = pickL l f n ++ [l.getD ((f + n) % l.length) (0, 0)] := by simp [pickL, List.range_succ]
theorem someL_succ_f (l : List (Int × Nat)) (f n : Nat) : someL l f (n + 1) false = someL l f n false ++ [l.getD ((f + n) % l.length) (0, 0)] := pickL_succ l f n
theorem someL_succ_t (l : List (Int × Nat)) (f n : Nat) : someL l f (n + 1) true = l.getD ((f + n) % l.length) (0, 0) :: someL l f n true := by
  show (pickL l f (n + 1)).reverse = _
  rw [pickL_succ, List.reverse_append]; rfl
theorem mem_pick {l : List (Int × Nat)} (h : 0 < l.length) {f n : Nat} {s : Int × Nat} (hs : s ∈ pickL l f n) : s ∈ l := by
  obtain ⟨i, -, rfl⟩ := List.mem_map.1 hs
  have hlt : (f + i) % l.length < l.length := Nat.mod_lt _ h
  rw [List.getD_eq_getElem?_getD, List.getElem?_eq_getElem hlt]
  exact List.getElem_mem hlt
theorem mem_some {l : List (Int × Nat)} (h : 0 < l.length) {f n : Nat} {t : Bool} {s : Int × Nat} (hs : s ∈ someL l f n t) : s ∈ l := by
  unfold someL at hs
  split at hs
  · exact mem_pick h (List.mem_reverse.1 hs)
  · exact mem_pick h hs
theorem mod_inj {f i j n : Nat} (hi : i < n) (hj : j < n) (h : (f + i) % n = (f + j) % n) : i = j := by
  have e1 := Nat.div_add_mod (f + i) n
  have e2 := Nat.div_add_mod (f + j) n
  rw [h] at e1
  have hr := Nat.mod_lt (f + j) (show 0 < n by omega)
  obtain ⟨a, ha⟩ : ∃ a, a = (f + i) / n := ⟨_, rfl⟩
  obtain ⟨b, hb⟩ : ∃ a, a = (f + j) / n := ⟨_, rfl⟩
  rw [← ha] at e1
  rw [← hb] at e2
  rcases Nat.lt_trichotomy a b with hlt | rfl | hlt
  · have := Nat.mul_le_mul_left n (show a + 1 ≤ b from hlt)
    rw [Nat.mul_add, Nat.mul_one] at this
    omega
  · omega
  · have := Nat.mul_le_mul_left n (show b + 1 ≤ a from hlt)
    rw [Nat.mul_add, Nat.mul_one] at this
    omega
theorem nodup_inj {l : List Int} (h : l.Nodup) {i j : Nat} {x : Int} (hi : l[i]? = some x) (hj : l[j]? = some x) : i = j := by
  induction l generalizing i j with
  | nil => cases hi
  | cons a l ih =>
    rw [List.nodup_cons] at h
    cases i with
    | zero =>
      cases j with
      | zero => rfl
      | succ j =>
        rw [List.getElem?_cons_zero] at hi
        rw [List.getElem?_cons_succ] at hj
        cases hi
        exact absurd (List.mem_of_getElem? hj) h.1
    | succ i =>
      cases j with
      | zero =>
        rw [List.getElem?_cons_zero] at hj
        rw [List.getElem?_cons_succ] at hi
        cases hj
        exact absurd (List.mem_of_getElem? hi) h.1
      | succ j =>
        rw [List.getElem?_cons_succ] at hi hj
        rw [ih h.2 hi hj]
theorem nodup_rev {l : List Int} (h : l.Nodup) : l.reverse.Nodup := by
  unfold List.Nodup at *
  rw [List.pairwise_reverse]
  exact h.imp fun {a b} hne => Ne.symm hne
theorem pick_nodup {l : List (Int × Nat)} (hn : (l.map fun s : Int × Nat => s.1).Nodup) {f n : Nat} (h : n ≤ l.length) : ((pickL l f n).map fun s : Int × Nat => s.1).Nodup := by
  unfold pickL
  rw [List.map_map]
  refine List.Pairwise.map _ (R := fun a b => a ≠ b ∧ a < n ∧ b < n) (fun a b hab e => ?_) ?_
  · obtain ⟨hne, ha, hb⟩ := hab
    have hl : 0 < l.length := by omega
    have hla : (f + a) % l.length < l.length := Nat.mod_lt _ hl
    have hlb : (f + b) % l.length < l.length := Nat.mod_lt _ hl
    have e1 : (l.map fun s : Int × Nat => s.1)[(f + a) % l.length]? = some (l.getD ((f + a) % l.length) (0, 0)).1 := by
      rw [List.getElem?_map, List.getD_eq_getElem?_getD, List.getElem?_eq_getElem hla]; rfl
    have e2 : (l.map fun s : Int × Nat => s.1)[(f + b) % l.length]? = some (l.getD ((f + b) % l.length) (0, 0)).1 := by
      rw [List.getElem?_map, List.getD_eq_getElem?_getD, List.getElem?_eq_getElem hlb]; rfl
    have e' : (l.getD ((f + a) % l.length) (0, 0)).1 = (l.getD ((f + b) % l.length) (0, 0)).1 := e
    rw [← e'] at e2
    exact hne (mod_inj (by omega) (by omega) (nodup_inj hn e1 e2))
  · exact List.Pairwise.imp_of_mem (fun {a b} ha hb h => ⟨h, List.mem_range.1 ha, List.mem_range.1 hb⟩) List.nodup_range
theorem some_nodup {l : List (Int × Nat)} (hn : (l.map fun s : Int × Nat => s.1).Nodup) {f n : Nat} {t : Bool} (h : n ≤ l.length) : ((someL l f n t).map fun s : Int × Nat => s.1).Nodup := by
  unfold someL
  split
  · rw [List.map_reverse]; exact nodup_rev (pick_nodup hn h)
  · exact pick_nodup hn h
/-- The stage's theorem. -/
theorem back_plain {secret tn nn : Nat} {seed : List Nat} (h1 : 1 ≤ tn) (h2 : tn ≤ nn) (h7 : nn ≤ 7) (hs : secret < bR) (f k : Nat) (t : Bool) (hk : tn ≤ k) (hkn : k ≤ nn) :
    joinR (someL (splitL secret tn nn seed) f k t) = .tuple #[.int .u64 (secret : Int), .int .i64 0] :=
  join_split h1 hs (fun s hs => split_onP h7 s (mem_some (by rw [splitL_length]; omega) hs)) (some_nodup split_nodup (by rw [splitL_length]; exact hkn)) (by rw [someL_length]; exact hk) (by rw [someL_length]; omega)
end Go.Proofs.Ytiecfamjnnmpaaa

/- Plain: what follows of shares: hides, sums, public, spoilt, ones. No walk here. -/
namespace Go.Proofs.Ytiecfamjnnmpaaa
set_option linter.unusedVariables false
attribute [local irreducible] mix hSum hNum coefN

theorem split_take (secret tn nn : Nat) (seed : List Nat) {k : Nat} (h : k ≤ nn) : (splitL secret tn nn seed).take k = splitL secret tn k seed := by
  unfold splitL
  rw [← List.map_take]
  congr 1
  refine List.ext_getElem? fun i => ?_
  rw [List.getElem?_take]
  split
  · rw [List.getElem?_range (by omega), List.getElem?_range (by omega)]
  · rw [List.getElem?_eq_none (by simp; omega)]
theorem split_succ (secret tn k : Nat) (seed : List Nat) : splitL secret tn (k + 1) seed = splitL secret tn k seed ++ [(((k + 1 : Nat) : Int), evZ (polyN secret tn seed) (k + 1) % bR)] := by
  simp [splitL, List.range_succ]
theorem split_mem (secret tn seed) {nn k : Nat} (h : k < nn) : (((k + 1 : Nat) : Int), evZ (polyN secret tn seed) (k + 1) % bR) ∈ splitL secret tn nn seed := List.mem_of_getElem? (splitL_at secret tn nn seed h)
theorem split_may {secret tn nn : Nat} {seed : List Nat} (h0 : 1 ≤ nn) (h7 : nn ≤ 7) : mayB (splitL secret tn nn seed) = true :=
  may_of (by rw [splitL_length]; omega) (by rw [splitL_length]; exact h7) (fun s hs => (split_onP h7 s hs).range) split_nodup
theorem split_sum {secret tn nn : Nat} {seed : List Nat} (h1 : 1 ≤ tn) (h2 : tn ≤ nn) (h7 : nn ≤ 7) (x : Nat) : sumN ((splitL secret tn nn seed).map fun s : Int × Nat => s.1) x (splitL secret tn nn seed) = evZ (polyN secret tn seed) x % bR := by
  refine eq_of_cg (sumN_lt _ _ _) (Nat.mod_lt _ (by decide)) ?_
  refine (sum_poly _ (ok_of_may (split_may (by omega) h7)) (evI (polyN secret tn seed)) (poly_pd _ _ _ (by rw [splitL_length]; exact h2)) (fun s hs => (split_onP h7 s hs).cg) x).trans ?_
  rw [evI_cast]
  exact (cg_mod _ _).symm
theorem cg_range {x k : Nat} (h : x ≤ 7) (hk : k ≤ 7) (hne : x ≠ k) : ¬ Cg bR (x : Int) (k : Int) := ncg_of_ne (by omega) (by omega) (by omega)

/-- Fewer tell nothing. -/
theorem hides_plain {secret other tn : Nat} {seed : List Nat} (h1 : 1 ≤ tn) (h7 : tn ≤ 7) (hs : secret < bR) (ho : other < bR) :
    ∃ (pre : List (Int × Nat)) (x w : Nat) (ids : List Int), splitL secret tn tn seed = pre ++ [((tn : Int), x)] ∧ pre.length = tn - 1 ∧ x < bR ∧ w < bR ∧ ids = (pre ++ [((tn : Int), x)]).map (fun s : Int × Nat => s.1) ∧ wgtR ids tn = .tuple #[.int .u64 (w : Int), .int .i64 0] ∧ invE bR w = 0 ∧
      ∀ x', x' = addM bR x (mulM bR (subM bR other secret) (invM bR w)) → joinR (pre ++ [((tn : Int), x')]) = .tuple #[.int .u64 (other : Int), .int .i64 0] := by
  obtain ⟨k, rfl⟩ : ∃ k, tn = k + 1 := ⟨tn - 1, by omega⟩
  have hsum := split_sum (secret := secret) (seed := seed) h1 (Nat.le_refl _) h7 0
  have hmay := split_may (secret := secret) (tn := k + 1) (seed := seed) h1 h7
  rw [split_succ] at hsum hmay
  have hz : evZ (polyN secret (k + 1) seed) 0 % bR = secret := by
    have h := poly_zero (secret := secret) (seed := seed) h1
    have h' := evI_cast (polyN secret (k + 1) seed) 0
    have : (evZ (polyN secret (k + 1) seed) 0 : Int) = secret := by rw [← h', ← h]; rfl
    have : evZ (polyN secret (k + 1) seed) 0 = secret := by exact_mod_cast this
    rw [this, Nat.mod_eq_of_lt hs]
  rw [hz] at hsum
  obtain ⟨pre, hpre⟩ : ∃ p, p = splitL secret (k + 1) k seed := ⟨_, rfl⟩
  obtain ⟨x, hx⟩ : ∃ p, p = evZ (polyN secret (k + 1) seed) (k + 1) % bR := ⟨_, rfl⟩
  rw [← hpre, ← hx] at hsum hmay
  have hok := ok_of_may hmay
  have hmf := may_facts hmay
  obtain ⟨ids, hids⟩ : ∃ i, i = (pre ++ [(((k + 1 : Nat) : Int), x)]).map fun s : Int × Nat => s.1 := ⟨_, rfl⟩
  rw [← hids] at hsum hok hmf
  have hmem : ((k + 1 : Nat) : Int) ∈ ids := by rw [hids]; simp
  have hxb : x < bR := by rw [hx]; exact Nat.mod_lt _ (by decide)
  have hw : atN ids ((k + 1 : Nat) : Int) 0 % bR ≠ 0 := at_ne hok hmem fun j hj hne => ncg_of_ne (by omega) (by have := hok.1 j hj; omega) (by have := hok.1 j hj; omega)
  refine ⟨pre, x, atN ids ((k + 1 : Nat) : Int) 0, ids, by rw [split_succ, ← hpre, ← hx], by rw [hpre, splitL_length]; omega, hxb, atN_lt _ _ _, hids, ?_, invE_ok hw, ?_⟩
  · unfold wgtR wgtV wgtE
    rw [if_pos ⟨hmf.1, hmem⟩, if_pos ⟨hmf.1, hmem⟩]; rfl
  · intro x' hx'
    have hids' : ids = (pre ++ [(((k + 1 : Nat) : Int), x')]).map fun s : Int × Nat => s.1 := by rw [hids]; simp
    have hmay' : mayB (pre ++ [(((k + 1 : Nat) : Int), x')]) = true := by
      refine may_of (by simp) ?_ ?_ ?_
      · have := hmf.2.2.2; simp at this ⊢; exact this
      · intro s hs
        rcases List.mem_append.1 hs with h | h
        · exact ⟨hmf.2.2.1 s (List.mem_append.2 (.inl h)), hmf.2.1 s (List.mem_append.2 (.inl h))⟩
        · rw [List.mem_singleton] at h
          subst h
          exact ⟨hmf.2.2.1 ((((k + 1 : Nat) : Int), x)) (by simp), by rw [hx']; exact addM_lt' (by decide) _ _⟩
      · rw [← hids']; exact hok.2
    rw [joinR_ok (by simp) hmay', ← hids', sumN_snoc]
    rw [sumN_snoc] at hsum
    have hlt := addM_lt' (m := bR) (by decide) (sumN ids 0 pre) (mulM bR x' (atN ids ((k + 1 : Nat) : Int) 0))
    have key : addM bR (sumN ids 0 pre) (mulM bR x' (atN ids ((k + 1 : Nat) : Int) 0)) = other := by
      refine eq_of_cg hlt ho ?_
      have a1 := (cg_add bR (sumN ids 0 pre) (mulM bR x (atN ids ((k + 1 : Nat) : Int) 0))).trans ((Cg.refl _ _).add (cg_mul _ _ _))
      have e1 : ((addM bR (sumN ids 0 pre) (mulM bR x (atN ids ((k + 1 : Nat) : Int) 0)) : Nat) : Int) = secret := by exact_mod_cast hsum
      rw [e1] at a1
      have a2 := (cg_add bR (sumN ids 0 pre) (mulM bR x' (atN ids ((k + 1 : Nat) : Int) 0))).trans ((Cg.refl _ _).add (cg_mul _ _ _))
      have a3 : Cg bR (x' : Int) ((x : Int) + ((other : Int) - secret) * (invM bR (atN ids ((k + 1 : Nat) : Int) 0) : Nat)) := by
        rw [hx']
        exact (cg_add _ _ _).trans ((Cg.refl _ _).add ((cg_mul _ _ _).trans ((cg_sub _ _ _ (by decide)).mul (Cg.refl _ _))))
      have a4 := cg_inv hw
      have a5 := a2.trans ((Cg.refl _ _).add (a3.mul (Cg.refl _ _)))
      have a6 := ((Cg.refl bR ((other : Int) - secret)).mul a4)
      have a7 := a1.symm.add a6
      exact a5.trans ((Cg.of_eq (by grind)).trans (a7.trans (Cg.of_eq (by grind))))
    rw [key]

/-! ### sums -/
def sumsL (l m : List (Int × Nat)) (times : Nat) : List (Int × Nat) := l.zipWith (fun s r => (s.1, addM bR s.2 (mulM bR r.2 times))) m
theorem sums_plain {a b tn nn : Nat} {seed seed2 : List Nat} (times : Nat) (h1 : 1 ≤ tn) (h2 : tn ≤ nn) (h7 : nn ≤ 7) (ha : a < bR) (hb : b < bR) :
    joinR (sumsL ((splitL a tn nn seed).drop (nn - tn)) ((splitL b tn nn seed2).drop (nn - tn)) times) = .tuple #[.int .u64 ((addM bR a (mulM bR b times) : Nat) : Int), .int .i64 0] := by
  have hd : ∀ (c : Nat) (sd : List Nat), (splitL c tn nn sd).drop (nn - tn) = (List.range tn).map fun i => (((nn - tn + i + 1 : Nat) : Int), evZ (polyN c tn sd) (nn - tn + i + 1) % bR) := fun c sd => by
    refine List.ext_getElem? fun i => ?_
    rw [List.getElem?_drop]
    by_cases hi : i < tn
    · rw [splitL_at c tn nn sd (by omega)]; simp [hi]
    · rw [List.getElem?_eq_none (by rw [splitL_length]; omega), List.getElem?_eq_none (by simp; omega)]
  have e : sumsL ((splitL a tn nn seed).drop (nn - tn)) ((splitL b tn nn seed2).drop (nn - tn)) times = (List.range tn).map fun i => (((nn - tn + i + 1 : Nat) : Int), addM bR (evZ (polyN a tn seed) (nn - tn + i + 1) % bR) (mulM bR (evZ (polyN b tn seed2) (nn - tn + i + 1) % bR) times)) := by
    rw [hd, hd]
    unfold sumsL
    rw [List.zipWith_map]
    refine List.ext_getElem? fun i => ?_
    by_cases hi : i < tn
    · simp [hi]
    · rw [List.getElem?_eq_none (by simp; omega), List.getElem?_eq_none (by simp; omega)]
  rw [e]
  refine joinR_on (P := fun x => evI (polyN a tn seed) x + (times : Int) * evI (polyN b tn seed2) x) (may_of (by simp; omega) (by simp; omega) ?_ ?_) ?_ ?_ (addM_lt' (by decide) _ _) ?_
  · intro s hs
    obtain ⟨i, hi, rfl⟩ := List.mem_map.1 hs
    rw [List.mem_range] at hi
    exact ⟨by dsimp only; omega, addM_lt' (by decide) _ _⟩
  · rw [List.map_map]
    exact List.Pairwise.map _ (fun a b (h : a ≠ b) e => h (by have : ((nn - tn + a + 1 : Nat) : Int) = ((nn - tn + b + 1 : Nat) : Int) := e; omega)) List.nodup_range
  · rw [List.length_map, List.length_range]
    exact (poly_pd a tn seed (Nat.le_refl _)).add ((poly_pd b tn seed2 (Nat.le_refl _)).scale times)
  · intro s hs
    obtain ⟨i, hi, rfl⟩ := List.mem_map.1 hs
    rw [evI_cast, evI_cast]
    refine (cg_add _ _ _).trans ((cg_mod _ _).add ((cg_mul _ _ _).trans (((cg_mod _ _).mul (Cg.refl _ _)).trans (Cg.of_eq (by grind)))))
  · rw [poly_zero h1, poly_zero h1]
    exact (cg_add _ _ _).trans ((Cg.refl _ _).add ((cg_mul _ _ _).trans (Cg.of_eq (by grind))))

/-! ### what is public -/
theorem pub_at {l : List (Int × Nat)} {k : Nat} {s : Int × Nat} (h : l[k]? = some s) : (pubL l)[k]? = some (s.1, powM bQ 4 s.2) := by simp [pubL, h]
theorem pick_pub {l : List (Int × Nat)} (h : 0 < l.length) (f n : Nat) : pickL (pubL l) f n = pubL (pickL l f n) := by
  unfold pickL
  rw [pubL_length]
  show _ = ((List.range n).map _).map _
  rw [List.map_map]
  refine List.map_congr_left fun i hi => ?_
  have hlt : (f + i) % l.length < l.length := Nat.mod_lt _ h
  have e := pub_at (l := l) (List.getElem?_eq_getElem hlt)
  rw [List.getD_eq_getElem?_getD, e]
  simp only [Function.comp_apply, List.getD_eq_getElem?_getD, List.getElem?_eq_getElem hlt, Option.getD_some]
theorem public_x {secret tn nn : Nat} {seed : List Nat} (h1 : 1 ≤ tn) (h2 : tn ≤ nn) (h7 : nn ≤ 7) (hs : secret < bR) (f : Nat) :
    rightB ((pickL (splitL secret tn nn seed) f tn).map fun s : Int × Nat => s.1) = true ∧ wantN ((pickL (splitL secret tn nn seed) f tn).map fun s : Int × Nat => s.1) 0 (pubL (pickL (splitL secret tn nn seed) f tn)) = powM bQ 4 secret := by
  have hl : 0 < (splitL secret tn nn seed).length := by rw [splitL_length]; omega
  have hon : ∀ s ∈ pickL (splitL secret tn nn seed) f tn, OnP (polyN secret tn seed) s := fun s hs => split_onP h7 s (mem_pick hl hs)
  have hmay : mayB (pickL (splitL secret tn nn seed) f tn) = true := may_of (by rw [pickL_length]; omega) (by rw [pickL_length]; omega) (fun s hs => (hon s hs).range) (pick_nodup split_nodup (by rw [splitL_length]; exact h2))
  refine ⟨(may_facts hmay).1, ?_⟩
  rw [want_pub, join_on hmay (poly_pd secret tn seed (by rw [pickL_length]; exact Nat.le_refl _)) (fun s hs => (hon s hs).cg) hs (Cg.of_eq (poly_zero h1).symm)]
/-- What Check says of public shares whose exponents are known. -/
theorem chk_pub {tn : Nat} {l : List (Int × Nat)} (h1 : 1 ≤ tn) (h7 : tn ≤ 7) (ht : tn ≤ l.length) (hr : rightB (l.map fun s : Int × Nat => s.1) = true) :
    chkN tn (pubL l) = if (∀ s ∈ l.drop tn, sumN ((l.take tn).map fun s : Int × Nat => s.1) s.1.toNat (l.take tn) % bR = s.2 % bR) then 0 else 60 := by
  have hid : (pubL l).map (fun s : Int × Nat => s.1) = l.map fun s : Int × Nat => s.1 := pubL_ids l
  have hall : (pubL l).all (fun s => inB s.2) = true := by
    refine List.all_eq_true.2 fun s hs => ?_
    obtain ⟨r, -, rfl⟩ := List.mem_map.1 hs
    exact inB_base _
  rw [chk_rest (by omega) (by omega) (by rw [hid]; exact hr) hall (by rw [pubL_length]; omega), Int.toNat_natCast]
  have e1 : (pubL l).take tn = pubL (l.take tn) := by unfold pubL; rw [List.map_take]
  have e2 : (pubL l).drop tn = pubL (l.drop tn) := by unfold pubL; rw [List.map_drop]
  have e3 : (pubL (l.take tn)).map (fun x : Int × Nat => x.1) = (l.take tn).map fun s : Int × Nat => s.1 := pubL_ids _
  rw [e1, e2, e3]
  have hiff : ((pubL (l.drop tn)).all fun s => decide (wantN ((l.take tn).map fun s : Int × Nat => s.1) s.1.toNat (pubL (l.take tn)) = s.2)) = true ↔ (∀ s ∈ l.drop tn, sumN ((l.take tn).map fun s : Int × Nat => s.1) s.1.toNat (l.take tn) % bR = s.2 % bR) := by
    rw [List.all_eq_true]
    constructor
    · intro h s hs
      have := h (s.1, powM bQ 4 s.2) (List.mem_map.2 ⟨s, hs, rfl⟩)
      rw [decide_eq_true_eq, want_pub] at this
      exact base_inj this
    · intro h r hr
      obtain ⟨s, hs, rfl⟩ := List.mem_map.1 hr
      rw [decide_eq_true_eq, want_pub]
      show powM bQ 4 _ = powM bQ 4 s.2
      rw [← base_period, h s hs, base_period]
  by_cases hc : (∀ s ∈ l.drop tn, sumN ((l.take tn).map fun s : Int × Nat => s.1) s.1.toNat (l.take tn) % bR = s.2 % bR)
  · rw [if_pos hc, if_pos (hiff.2 hc)]
  · rw [if_neg hc, if_neg (fun h => hc (hiff.1 h))]
theorem public_chk {secret tn nn : Nat} {seed : List Nat} (h1 : 1 ≤ tn) (h2 : tn ≤ nn) (h7 : nn ≤ 7) : chkN tn (pubL (splitL secret tn nn seed)) = 0 := by
  rw [chk_pub h1 (by omega) (by rw [splitL_length]; exact h2) (may_facts (split_may (by omega) h7)).1, if_pos]
  intro s hs
  have hon := split_onP h7 s (List.mem_of_mem_drop hs)
  rw [split_take _ _ _ _ h2, split_sum h1 (Nat.le_refl _) (by omega), hon.2]

/-! ### one that is another -/
theorem sum_parts {ids : List Int} (h : okP ids) (x : Nat) (pre post : List (Int × Nat)) : ∃ A : Int, ∀ (id : Int) (v : Nat), Cg bR (sumN ids x (pre ++ (id, v) :: post) : Nat) (A + (v : Int) * (num ids id x * vI ids id)) :=
  ⟨(pre.map fun s => (s.2 : Int) * (num ids s.1 x * vI ids s.1)).sum + (post.map fun s => (s.2 : Int) * (num ids s.1 x * vI ids s.1)).sum, fun id v => by
    refine (cg_sum h x _).trans (Cg.of_eq ?_)
    rw [List.map_append, List.sum_append, List.map_cons, List.sum_cons]
    show _ + ((v : Int) * (num ids id x * vI ids id) + _) = _
    omega⟩
theorem spoilt_plain {secret tn nn other k : Nat} {seed : List Nat} (h1 : 1 ≤ tn) (h2 : tn < nn) (h7 : nn ≤ 7) (hk : k < nn) (hne : other % bR ≠ evZ (polyN secret tn seed) (k + 1) % bR) :
    chkN tn (pubL ((splitL secret tn nn seed).set k (((k + 1 : Nat) : Int), other))) = 60 := by
  have hlen : ((splitL secret tn nn seed).set k (((k + 1 : Nat) : Int), other)).length = nn := by rw [List.length_set, splitL_length]
  have hids : ((splitL secret tn nn seed).set k (((k + 1 : Nat) : Int), other)).map (fun s : Int × Nat => s.1) = (splitL secret tn nn seed).map fun s : Int × Nat => s.1 := by
    rw [List.map_set]
    refine List.ext_getElem? fun i => ?_
    rw [List.getElem?_set]
    split
    · rename_i hi
      subst hi
      rw [List.getElem?_map, splitL_at secret tn nn seed hk]
      simp [splitL_length, hk]
    · rfl
  have hright := (may_facts (split_may (secret := secret) (tn := tn) (seed := seed) (show 1 ≤ nn by omega) h7)).1
  rw [chk_pub h1 (by omega) (by rw [hlen]; omega) (by rw [hids]; exact hright), if_neg]
  intro hall
  have hmay := split_may (secret := secret) (tn := tn) (seed := seed) h1 (show tn ≤ 7 by omega)
  have hok := ok_of_may hmay
  have hidst : (((splitL secret tn nn seed).set k (((k + 1 : Nat) : Int), other)).take tn).map (fun s : Int × Nat => s.1) = (splitL secret tn tn seed).map fun s : Int × Nat => s.1 := by
    rw [List.map_take, hids, ← List.map_take, split_take _ _ _ _ (by omega)]
  rw [hidst] at hall
  rcases Nat.lt_or_ge k tn with hlt | hge
  · -- a share among the first: the next one does not fit
    have htk : ((splitL secret tn nn seed).set k (((k + 1 : Nat) : Int), other)).take tn = (splitL secret tn tn seed).set k (((k + 1 : Nat) : Int), other) := by
      rw [List.take_set, split_take _ _ _ _ (by omega)]
    rw [htk] at hall
    have hmem : (((tn + 1 : Nat) : Int), evZ (polyN secret tn seed) (tn + 1) % bR) ∈ ((splitL secret tn nn seed).set k (((k + 1 : Nat) : Int), other)).drop tn := by
      refine List.mem_of_getElem? (i := 0) ?_
      rw [List.getElem?_drop, List.getElem?_set, if_neg (by omega)]
      exact splitL_at secret tn nn seed h2
    have h := hall _ hmem
    rw [Int.toNat_natCast, Nat.mod_mod] at h
    have hsum := split_sum (secret := secret) (seed := seed) h1 (Nat.le_refl tn) (by omega) (tn + 1)
    -- the list, parted at k
    have hat := splitL_at secret tn tn seed hlt
    obtain ⟨pre, post, hpp⟩ : ∃ pre post, splitL secret tn tn seed = pre ++ (((k + 1 : Nat) : Int), evZ (polyN secret tn seed) (k + 1) % bR) :: post ∧ pre.length = k := by
      refine ⟨(splitL secret tn tn seed).take k, (splitL secret tn tn seed).drop (k + 1), ?_, by rw [List.length_take, splitL_length]; omega⟩
      have hkl : k < (splitL secret tn tn seed).length := by rw [splitL_length]; exact hlt
      have hg : (splitL secret tn tn seed)[k] = (((k + 1 : Nat) : Int), evZ (polyN secret tn seed) (k + 1) % bR) := by
        have := List.getElem?_eq_getElem hkl
        rw [hat] at this
        exact (Option.some.inj this).symm
      conv => lhs; rw [← List.take_append_drop k (splitL secret tn tn seed), List.drop_eq_getElem_cons hkl, hg]
    obtain ⟨hpp, hpl⟩ := hpp
    have hset : (splitL secret tn tn seed).set k (((k + 1 : Nat) : Int), other) = pre ++ (((k + 1 : Nat) : Int), other) :: post := by
      rw [hpp, List.set_append_right _ _ (by omega), hpl, Nat.sub_self, List.set_cons_zero]
    obtain ⟨ids, hid⟩ : ∃ i, i = (splitL secret tn tn seed).map fun s : Int × Nat => s.1 := ⟨_, rfl⟩
    rw [← hid] at h hsum hok
    obtain ⟨S, hS⟩ := sum_parts hok (tn + 1) pre post
    have c1 := hS ((k + 1 : Nat) : Int) (evZ (polyN secret tn seed) (k + 1) % bR)
    rw [← hpp, hsum] at c1
    have c2 := hS ((k + 1 : Nat) : Int) other
    rw [← hset] at c2
    have c3 := cg_of_mod (m := bR) (a := sumN ids (tn + 1) ((splitL secret tn tn seed).set k (((k + 1 : Nat) : Int), other))) (b := evZ (polyN secret tn seed) (tn + 1) % bR) (by rw [h, Nat.mod_mod])
    have c4 := (c2.symm.trans c3).trans c1
    have hmi : ((k + 1 : Nat) : Int) ∈ ids := by rw [hid]; exact List.mem_map.2 ⟨_, split_mem secret tn seed hlt, rfl⟩
    have hin : ∀ j ∈ ids, 1 ≤ j ∧ j ≤ tn := fun j hj => by
      rw [hid, split_ids] at hj
      obtain ⟨i, hi, rfl⟩ := List.mem_map.1 hj
      rw [List.mem_range] at hi
      omega
    have hw := at_ne hok hmi (x := tn + 1) fun j hj hne => ncg_of_ne (by omega) (by have := hin j hj; omega) (by have := hin j hj; omega)
    have hW := cg_at hok ((k + 1 : Nat) : Int) (tn + 1)
    obtain ⟨W, hWd⟩ : ∃ W, W = num ids ((k + 1 : Nat) : Int) ((tn + 1 : Nat) : Int) * vI ids ((k + 1 : Nat) : Int) := ⟨_, rfl⟩
    rw [← hWd] at c4 hW
    have c5 : ((bR : Nat) : Int) ∣ ((other : Int) - (evZ (polyN secret tn seed) (k + 1) % bR : Nat)) * W := by
      obtain ⟨q, hq⟩ := c4
      exact ⟨q, by grind⟩
    rcases pz_R _ _ c5 with hd | hd
    · exact hne ((mod_of_cg (by decide) (show Cg bR (other : Int) ((evZ (polyN secret tn seed) (k + 1) % bR : Nat) : Int) from hd)).trans (Nat.mod_mod _ _))
    · refine hw ?_
      have : Cg bR (W : Int) 0 := by unfold Cg; rwa [Int.sub_zero]
      have := mod_of_cg (m := bR) (a := atN ids ((k + 1 : Nat) : Int) (tn + 1)) (b := 0) (by decide) (hW.trans this)
      rw [this]; rfl
  · -- a share behind them
    have htk : ((splitL secret tn nn seed).set k (((k + 1 : Nat) : Int), other)).take tn = splitL secret tn tn seed := by
      rw [List.take_set_of_le hge, split_take _ _ _ _ (by omega)]
    rw [htk] at hall
    have hmem : (((k + 1 : Nat) : Int), other) ∈ ((splitL secret tn nn seed).set k (((k + 1 : Nat) : Int), other)).drop tn := by
      refine List.mem_of_getElem? (i := k - tn) ?_
      rw [List.getElem?_drop, show tn + (k - tn) = k by omega, List.getElem?_set, if_pos rfl, if_pos (by rw [splitL_length]; exact hk)]
    have h := hall _ hmem
    rw [Int.toNat_natCast, split_sum h1 (Nat.le_refl tn) (by omega), Nat.mod_mod] at h
    exact hne h.symm
theorem set_self {l : List (Int × Nat)} {k : Nat} {s : Int × Nat} (h : l[k]? = some s) : l.set k s = l := by
  refine List.ext_getElem? fun i => ?_
  rw [List.getElem?_set]
  split
  · rename_i hi
    subst hi
    rw [if_pos (List.getElem?_eq_some_iff.1 h).1, h]
  · rfl
theorem pub_set (l : List (Int × Nat)) (k : Nat) (id : Int) (v : Nat) : (pubL l).set k (id, powM bQ 4 v) = pubL (l.set k (id, v)) := by
  unfold pubL; rw [List.map_set]

/-! ### weights of all together -/
def onesL (ids : List Int) (x : Nat) : List (Int × Nat) := ids.map fun i => (i, x)
theorem ones_ids (ids : List Int) (x : Nat) : (onesL ids x).map (fun s : Int × Nat => s.1) = ids := by
  unfold onesL; rw [List.map_map]; exact List.map_id _
theorem ones_length (ids : List Int) (x : Nat) : (onesL ids x).length = ids.length := by simp [onesL]
theorem ones_may {ids : List Int} {x : Nat} (h : rightB ids = true) (hx : x < bR) : mayB (onesL ids x) = true := by
  rw [mayB_eq, ones_ids, h, Bool.and_true]
  refine List.all_eq_true.2 fun s hs => ?_
  obtain ⟨i, -, rfl⟩ := List.mem_map.1 hs
  simpa using hx
theorem ones_join {ids : List Int} {x : Nat} (h : rightB ids = true) (hx : x < bR) : joinR (onesL ids x) = .tuple #[.int .u64 (x : Int), .int .i64 0] := by
  have hl := ((rightB_iff ids).1 h).2.1
  refine joinR_on (P := fun _ => (x : Int)) (ones_may h hx) ((Pd.const _ _).le (by rw [ones_length]; omega)) ?_ hx (Cg.refl _ _)
  intro s hs
  obtain ⟨i, -, rfl⟩ := List.mem_map.1 hs
  exact Cg.refl _ _
theorem ones_high {ids : List Int} {x : Nat} (h : 0 < ids.length) (hx : bR ≤ x) : joinR (onesL ids x) = .tuple #[.int .u64 0, .int .i64 1] := by
  refine joinR_bad (by rw [ones_length]; omega) ?_
  rw [mayB_eq]
  have : lowB (onesL ids x) = false := by
    obtain ⟨i, hi⟩ : ∃ i, ids[0]? = some i := ⟨_, List.getElem?_eq_getElem h⟩
    exact lowB_not (s := (i, x)) (List.mem_map.2 ⟨i, List.mem_of_getElem? hi, rfl⟩) hx
  rw [this]; rfl
/-- The sum of the first weights. -/
def wsum (ids : List Int) (j : Nat) : Nat := sumN ids 0 (onesL (ids.take j) 1)
theorem wsum_succ {ids : List Int} {j : Nat} {i : Int} (h : ids[j]? = some i) : addM bR (wsum ids j) (atN ids i 0) = wsum ids (j + 1) := by
  unfold wsum
  have e : onesL (ids.take (j + 1)) 1 = onesL (ids.take j) 1 ++ [(i, 1)] := by rw [List.take_add_one, h]; simp [onesL]
  rw [e, sumN_snoc]
  congr 1
  unfold mulM
  rw [Nat.one_mul, Nat.mod_eq_of_lt (atN_lt _ _ _)]
theorem wsum_all {ids : List Int} (h : rightB ids = true) : wsum ids ids.length = 1 := by
  unfold wsum
  rw [List.take_length]
  have := join_on (L := onesL ids 1) (ones_may h (by decide)) (P := fun _ => 1) ((Pd.const _ _).le (by have := ((rightB_iff ids).1 h).2.1; rw [ones_length]; omega)) (fun s hs => by
    obtain ⟨i, -, rfl⟩ := List.mem_map.1 hs
    exact Cg.refl _ _) (v := 1) (by decide) (Cg.refl _ _)
  rw [ones_ids] at this
  exact this
theorem wgt_ok {ids : List Int} (h : rightB ids = true) {i : Int} (hi : i ∈ ids) : wgtR ids i = .tuple #[.int .u64 (atN ids i 0 : Nat), .int .i64 0] := by
  unfold wgtR wgtV wgtE; rw [if_pos ⟨h, hi⟩, if_pos ⟨h, hi⟩]; rfl
theorem wgt_bad {ids : List Int} (h : rightB ids = false) (i : Int) : wgtR ids i = .tuple #[.int .u64 0, .int .i64 1] := by
  have hc : ¬ (rightB ids = true ∧ i ∈ ids) := fun ⟨h1, _⟩ => by rw [h] at h1; cases h1
  unfold wgtR wgtV wgtE; rw [if_neg hc, if_neg hc]; rfl
/-- Of ids that are not right: the first one alone. -/
theorem ones_first {ids : List Int} (h : rightB ids = false) {i : Int} (hi : ids[0]? = some i) (x : Nat) : joinR [(i, x)] = .tuple #[.int .u64 0, .int .i64 1] ∨ (1 < ids.length ∧ joinR [(i, x)] = .tuple #[.int .u64 (x : Int), .int .i64 0]) := by
  have e : [(i, x)] = onesL [i] x := rfl
  rcases Nat.lt_or_ge x bR with hx | hx
  · cases hr : rightB [i] with
    | true =>
      right
      refine ⟨?_, by rw [e]; exact ones_join hr hx⟩
      rcases Nat.lt_or_ge 1 ids.length with h1 | h1
      · exact h1
      · have hl : ids = [i] := by
          match ids, hi, h1 with
          | [a], hi, _ => simp at hi; rw [hi]
        rw [hl, hr] at h
        cases h
    | false =>
      left
      refine joinR_bad (by simp) ?_
      rw [mayB_eq]
      show (lowB _ && rightB [i]) = false
      rw [hr]; simp
  · left
    rw [e]; exact ones_high (by simp) hx
end Go.Proofs.Ytiecfamjnnmpaaa

/- Crews, walked: Deal. -/
namespace Go.Proofs.Ytiecfamjnnmpaaa
set_option linter.unusedVariables false
open Go.RowKit Go.Shelf Go.Maps
attribute [local irreducible] atN prodN sumN wantN chkN mix hSum hNum chalN chN scN qnN crewN enN rightN allN comE comS splitL

theorem qsplit_wf {secret tn nn : Nat} {seed : List Nat} (h7 : nn ≤ 7) : idsWf (splitL secret tn nn seed) := by
  intro i hi
  obtain ⟨s, hs, rfl⟩ := List.mem_map.1 hi
  have := (split_onP h7 s hs).1
  simp [Lit.wf, IntKind.min, IntKind.max, IntKind.signed, IntKind.bits]; omega
theorem qpub_wf {l : List (Int × Nat)} (h : idsWf l) : idsWf (pubL l) := by
  intro i hi
  rw [show (pubL l).map (fun s : Int × Nat => s.1) = l.map fun s : Int × Nat => s.1 from pubL_ids l] at hi
  exact h i hi
theorem qpub_64 (l : List (Int × Nat)) : ∀ s ∈ pubL l, s.2 < 18446744073709551616 := by
  intro s hs
  obtain ⟨r, -, rfl⟩ := List.mem_map.1 hs
  exact lt64_Q (powM_lt (by decide) _ _)
theorem qpubO_split {secret tn nn : Nat} {seed : List Nat} (h0 : 1 ≤ nn) (h7 : nn ≤ 7) : pubO (splitL secret tn nn seed) = pubL (splitL secret tn nn seed) ∧ pubE (splitL secret tn nn seed) = 0 := by
  have h := split_may (secret := secret) (tn := tn) (seed := seed) h0 h7
  unfold pubO pubE
  rw [h]; exact ⟨rfl, rfl⟩
theorem qsplit_cases (secret : Nat) (t n : Int) (seed : List Nat) : (spO secret t n seed = [] ∧ spE secret t n = 1) ∨ ∃ tn nn : Nat, t = tn ∧ n = nn ∧ 1 ≤ tn ∧ tn ≤ nn ∧ nn ≤ 7 ∧ secret < bR ∧ spO secret t n seed = splitL secret tn nn seed ∧ spE secret t n = 0 := by
  cases hb : spB secret t n with
  | false => left; unfold spO spE; rw [hb]; exact ⟨rfl, rfl⟩
  | true =>
    right
    obtain ⟨h1, h2, h3, h4⟩ := of_decide_eq_true hb
    refine ⟨t.toNat, n.toNat, by omega, by omega, by omega, by omega, by omega, h4, ?_, ?_⟩
    · unfold spO; rw [hb]; rfl
    · unfold spE; rw [hb]; rfl
theorem setCell_far (w : World) (g i : Nat) (u : Value) (q : Addr) (hq : q.block ≠ g) : (w.setCell ⟨g, i, none⟩ u).cell? q = w.cell? q := by
  unfold World.cell?
  simp only [Below.heap_setCell w ⟨g, i, none⟩ u q.block hq]
theorem reads_far {w : World} {B size n : Nat} {A : Option Addr} {xs : List Value} (h : Reads w B size A n xs) {g : Nat} (hA : ∀ ad, A = some ad → ad.block ≠ g) (i : Nat) (u : Value) : Reads (w.setCell ⟨g, i, none⟩ u) B size A n xs := by
  refine ⟨h.1, fun hn => ?_⟩
  obtain ⟨ad, rfl, hb, hc⟩ := h.2 hn
  exact ⟨ad, rfl, hb, fun j v hj => by rw [setCell_far _ _ _ _ _ (by rw [show (ad.add j).block = ad.block by unfold Addr.add; split <;> rfl]; exact hA ad rfl)]; exact hc j v hj⟩
theorem reads_far2 {w : World} {size n : Nat} {A : Option Addr} {xs : List Value} (h : Reads w w.heap.size size A n xs) {g : Nat} (hA : ∀ ad, A = some ad → ad.block ≠ g) (i : Nat) (u : Value) : Reads (w.setCell ⟨g, i, none⟩ u) (w.setCell ⟨g, i, none⟩ u).heap.size size A n xs := by
  rw [World.size_setCell]; exact reads_far h hA i u
theorem blk4_01 {w : World} {g : Nat} {T : TypeId} {a b c d : Value} (h : Blk w g T #[a, b, c, d]) (x y : Value) : Blk ((w.setCell ⟨g, 0, none⟩ x).setCell ⟨g, 1, none⟩ y) g T #[x, y, c, d] := (h.set_ 0 x).set_ 1 y
theorem blk4_2 {w : World} {g : Nat} {T : TypeId} {a b c d : Value} (h : Blk w g T #[a, b, c, d]) (x : Value) : Blk (w.setCell ⟨g, 2, none⟩ x) g T #[a, b, x, d] := h.set_ 2 x
theorem blk4_3 {w : World} {g : Nat} {T : TypeId} {a b c d : Value} (h : Blk w g T #[a, b, c, d]) (x : Value) : Blk (w.setCell ⟨g, 3, none⟩ x) g T #[a, b, c, x] := h.set_ 3 x
theorem own_fresh {w : World} {base n size c : Nat} {e : TypeId} {A : Option Addr} {xs : List Value} (h : w.ownsRow base e size (.slice A n c) n xs) : ∀ ad, A = some ad → base ≤ ad.block := by
  intro ad e
  subst e
  rcases h.2 with ⟨h0, _⟩ | ⟨g', cap, cur, e1, hb, _⟩
  · cases h0
  · injection e1 with e1 _ _
    injection e1 with e1
    subst e1
    exact hb
theorem secN_odd (seed : List Nat) : oddN (secN seed) = false := oddN_some _ _
theorem secN_lt (seed : List Nat) : secN seed < bR := someN_lt _ _

set_option maxRecDepth 100000 in
set_option maxHeartbeats 4000000 in
theorem Deal_bad (seed : List Nat) (hseed : ∀ x ∈ seed, x < 256) (hl : seed.length ≤ 1000) (t n : Int) (hb : spB (secN seed) t n = false) (A : Option Addr) (c : Nat) (hc : seed.length ≤ c) (w : World) (hr : Reads w w.heap.size 1 A seed.length (bv seed)) :
    Calls Try.prog 12 #[.slice A seed.length c, .int .i64 t, .int .i64 n] w fun e w' => e = .returned (.tuple #[.agg #[.int .i64 0, .int .i64 0, .int .u64 0, .slice none 0 0], .slice none 0 0, .int .i64 1]) ∧ Ext w w' := by
  have x0 : Ext w (w.alloc (.cells #[.int .i64 0, .int .i64 0, .int .u64 0, .slice none 0 0] 25)) := (Ext.refl w).alloc _
  have c1 := fun (W : World) (x : Ext w W) => Secret_any seed hseed hl A c hc W ((hr.below x.out).more x.size)
  have c2 := fun (W : World) (x : Ext w W) => Split_any (secN seed) t n seed hseed hl A c hc W ((hr.below x.out).more x.size)
  have e1 : spO (secN seed) t n seed = [] := by unfold spO; rw [hb]; rfl
  have e2 : spE (secN seed) t n = 1 := by unfold spE; rw [hb]; rfl
  rw [e1, e2] at c2
  obtain ⟨u, hu⟩ : ∃ u, u = secN seed := ⟨_, rfl⟩
  rw [← hu] at c1 c2
  have HB := Lib.hid (Blk.new w 25 #[.int .i64 0, .int .i64 0, .int .u64 0, .slice none 0 0])
  clear hr hseed hl hc e1 e2 hb hu
  go_enter Try.func12, Try.ntmps12
  go_wp2_with (first
    | (go_at_call 20; refine (c1 _ x0).mono ?_; clear c1; rintro e w1 ⟨rfl, x1⟩)
    | (go_at_call 37; refine (c2 _ (x0.trans x1)).mono ?_; clear c2; rintro e w2 ⟨A2, d2, rfl, -, -, x2⟩; have hb := ext_blk (x1.trans x2) HB.out; obtain ⟨p0, p1, p2, p3⟩ := arr4 hb; have f0 := hb.frozen 0; have f1 := hb.frozen 1; have f2 := hb.frozen 2; have f3 := hb.frozen 3; clear hb))
  refine bodyPost_ret (v := .tuple #[.agg #[.int .i64 0, .int .i64 0, .int .u64 0, .slice none 0 0], .slice none 0 0, .int .i64 1]) (by simp [results, Try.results12, go_sem, p0, p1, p2, p3]) rfl ⟨rfl, ?_⟩
  exact ((((((x0.trans x1).trans x2).setCell (p := ⟨w.heap.size, 0, none⟩) (Nat.le_refl _) _).setCell (p := ⟨w.heap.size, 1, none⟩) (Nat.le_refl _) _).setCell (p := ⟨w.heap.size, 2, none⟩) (Nat.le_refl _) _).setCell (p := ⟨w.heap.size, 3, none⟩) (Nat.le_refl _) _)

set_option maxRecDepth 100000 in
set_option maxHeartbeats 4000000 in
theorem Deal_ok (seed : List Nat) (hseed : ∀ x ∈ seed, x < 256) (hl : seed.length ≤ 1000) (tn nn : Nat) (h1 : 1 ≤ tn) (h2 : tn ≤ nn) (h3 : nn ≤ 7) (A : Option Addr) (c : Nat) (hc : seed.length ≤ c) (w : World) (hr : Reads w w.heap.size 1 A seed.length (bv seed)) :
    Calls Try.prog 12 #[.slice A seed.length c, .int .i64 (tn : Int), .int .i64 (nn : Int)] w fun e w' => ∃ P c1 L c2, e = .returned (.tuple #[.agg #[.int .i64 (tn : Int), .int .i64 (nn : Int), .int .u64 (powM bQ 4 (secN seed) : Nat), .slice P nn c1], .slice L nn c2, .int .i64 0]) ∧ nn ≤ c1 ∧ nn ≤ c2 ∧ Reads w' w'.heap.size 2 P nn (sv (pubL (splitL (secN seed) tn nn seed))) ∧ Reads w' w'.heap.size 2 L nn (sv (splitL (secN seed) tn nn seed)) ∧ Ext w w' := by
  have x0 : Ext w (w.alloc (.cells #[.int .i64 0, .int .i64 0, .int .u64 0, .slice none 0 0] 25)) := (Ext.refl w).alloc _
  have hb : spB (secN seed) tn nn = true := by unfold spB; exact decide_eq_true ⟨by omega, by omega, by omega, secN_lt seed⟩
  have c1 := fun (W : World) (x : Ext w W) => Secret_any seed hseed hl A c hc W ((hr.below x.out).more x.size)
  have c2 := fun (W : World) (x : Ext w W) => Split_okF (secN seed) tn nn seed h1 h2 h3 (secN_lt seed) hseed hl A c hc W ((hr.below x.out).more x.size)
  have e1 : spO (secN seed) tn nn seed = splitL (secN seed) tn nn seed := by unfold spO; rw [hb]; rfl
  have e2 : spE (secN seed) tn nn = 0 := by unfold spE; rw [hb]; rfl
  have c3 := fun W => Public_any (secN seed) (r64 (secN_lt seed)) W
  rw [if_neg (by rw [secN_odd]; decide)] at c3
  obtain ⟨q1, q2⟩ := qpubO_split (secret := secN seed) (tn := tn) (seed := seed) (show 1 ≤ nn by omega) h3
  have c4 := fun A c (W : World) hq => shPublic_any (splitL (secN seed) tn nn seed) (qsplit_wf h3) (fun s hs => lt64_R (split_onP h3 s hs).range.2) A c (by rw [splitL_length]; omega) W hq
  rw [q1, q2, pubL_length, splitL_length] at c4
  obtain ⟨ls, hls⟩ : ∃ u, u = splitL (secN seed) tn nn seed := ⟨_, rfl⟩
  rw [← hls] at c2 c4 ⊢
  have hmay : mayB ls = true := by rw [hls]; exact split_may (by omega) h3
  obtain ⟨u, hu⟩ : ∃ u, u = secN seed := ⟨_, rfl⟩
  rw [← hu] at c1 c2 c3 ⊢
  have HM := Lib.hid hmay
  obtain ⟨k, hk⟩ : ∃ k, k = powM bQ 4 u := ⟨_, rfl⟩
  rw [← hk] at c3 ⊢
  have HB := Lib.hid (Blk.new w 25 #[.int .i64 0, .int .i64 0, .int .u64 0, .slice none 0 0])
  clear hr hseed hl hc e1 e2 hb hu hls hk q1 q2 h1 h2 h3
  go_enter Try.func12, Try.ntmps12
  go_wp2_with (first
    | (go_at_call 20; refine (c1 _ x0).mono ?_; clear c1; rintro e w1 ⟨rfl, x1⟩)
    | (go_at_call 37; refine (c2 _ (x0.trans x1)).mono ?_; clear c2; rintro e w2 ⟨A2, d2, rfl, hd2, r2, x2, n2⟩; have X2 := Lib.hid ((((x0.trans x1).trans x2).setCell (p := ⟨w.heap.size, 0, none⟩) (Nat.le_refl _) (.int .i64 (tn : Int))).setCell (p := ⟨w.heap.size, 1, none⟩) (Nat.le_refl _) (.int .i64 (nn : Int))); have N2 := Lib.hid (fun ad h => Nat.ne_of_gt (Nat.lt_of_lt_of_le (by rw [World.size_alloc]; omega) (Nat.le_trans x1.size (n2 ad h))) : ∀ ad, A2 = some ad → ad.block ≠ w.heap.size); have Z2 := Lib.hid (Nat.lt_of_lt_of_le (by rw [World.size_alloc]; omega) (Nat.le_trans x1.size x2.size) : w.heap.size < w2.heap.size); have hb := ext_blk (x1.trans x2) HB.out; obtain ⟨p0, p1, p2, p3⟩ := arr4 hb; have f0 := hb.frozen 0; have f1 := hb.frozen 1; have HB2 := Lib.hid (blk4_01 hb (.int .i64 (tn : Int)) (.int .i64 (nn : Int))); have R2 := Lib.hid (reads_far2 (reads_far2 r2 N2.out 0 (.int .i64 (tn : Int))) N2.out 1 (.int .i64 (nn : Int))); clear hb r2 n2 x1 x2)
    | (go_at_call 38; refine (c3 _).mono ?_; clear c3; rintro e w3 ⟨rfl, x3⟩; have X3 := Lib.hid ((X2.out.trans x3).setCell (p := ⟨w.heap.size, 2, none⟩) (Nat.le_refl _) (.int .u64 (k : Int))); have hb := ext_blk x3 HB2.out; have g2 := hb.cell 2; have f2 := hb.frozen 2; have HB3 := Lib.hid (blk4_2 hb (.int .u64 (k : Int))); have Z3 := Lib.hid (Nat.lt_of_lt_of_le Z2.out (by have := x3.size; simpa using this) : w.heap.size < w3.heap.size); have R3 := Lib.hid (reads_far2 ((R2.out.below x3.out).more x3.size) N2.out 2 (.int .u64 (k : Int))); clear hb x3)
    | (go_at_call 18; refine (c4 _ _ _ R3.out).mono ?_; clear c4; rintro e w4 ⟨P, c1', rfl, hc1, r4, x4, o4⟩; have o4 := o4 HM.out; have N4 := Lib.hid (fun ad h => Nat.ne_of_gt (Nat.lt_of_lt_of_le (by rw [World.size_setCell]; exact Z3.out) (own_fresh o4 ad h)) : ∀ ad, P = some ad → ad.block ≠ w.heap.size); have X4 := Lib.hid (X3.out.trans x4); have hb := ext_blk x4 HB3.out; have g3 := hb.cell 3; have f3 := hb.frozen 3; have hb5 := blk4_3 hb (.slice P nn c1'); have k0 := hb5.cell 0; have k1 := hb5.cell 1; have k2 := hb5.cell 2; have k3 := hb5.cell 3; have m0 := hb5.frozen 0; have m1 := hb5.frozen 1; have m2 := hb5.frozen 2; have m3 := hb5.frozen 3; have HB5 := Lib.hid hb5; have R4 := Lib.hid (reads_far2 r4 N4.out 3 (.slice P nn c1')); have R5 := Lib.hid (reads_far2 ((R3.out.below x4.out).more x4.size) N2.out 3 (.slice P nn c1')); clear hb hb5 x4 o4 r4))
  have hb6 := blk4_3 (blk4_2 (blk4_01 HB5.out (.int .i64 (tn : Int)) (.int .i64 (nn : Int))) (.int .u64 (k : Int))) (.slice P nn c1')
  obtain ⟨z0, z1, z2, z3⟩ := arr4 hb6
  have R6 := reads_far2 (reads_far2 (reads_far2 (reads_far2 R4.out N4.out 0 (.int .i64 (tn : Int))) N4.out 1 (.int .i64 (nn : Int))) N4.out 2 (.int .u64 (k : Int))) N4.out 3 (.slice P nn c1')
  have R7 := reads_far2 (reads_far2 (reads_far2 (reads_far2 R5.out N2.out 0 (.int .i64 (tn : Int))) N2.out 1 (.int .i64 (nn : Int))) N2.out 2 (.int .u64 (k : Int))) N2.out 3 (.slice P nn c1')
  have X7 := ((((X4.out.setCell (p := ⟨w.heap.size, 3, none⟩) (Nat.le_refl _) (.slice P nn c1')).setCell (p := ⟨w.heap.size, 0, none⟩) (Nat.le_refl _) (.int .i64 (tn : Int))).setCell (p := ⟨w.heap.size, 1, none⟩) (Nat.le_refl _) (.int .i64 (nn : Int))).setCell (p := ⟨w.heap.size, 2, none⟩) (Nat.le_refl _) (.int .u64 (k : Int))).setCell (p := ⟨w.heap.size, 3, none⟩) (Nat.le_refl _) (.slice P nn c1')
  exact bodyPost_ret (v := .tuple #[.agg #[.int .i64 (tn : Int), .int .i64 (nn : Int), .int .u64 (k : Int), .slice P nn c1'], .slice A2 nn d2, .int .i64 0]) (by simp [results, Try.results12, go_sem, z0, z1, z2, z3]) rfl ⟨P, c1', A2, d2, rfl, hc1, hd2, R6, R7, X7⟩
end Go.Proofs.Ytiecfamjnnmpaaa

/- Crews, plain: a crew that is right has a polynomial. No walk here. -/
namespace Go.Proofs.Ytiecfamjnnmpaaa
set_option linter.unusedVariables false
attribute [local irreducible] mix hSum hNum coefN chalN

theorem sum_pdA {α : Type} (m : Int) (n : Nat) (g : α → Int → Int) : ∀ l : List α, (∀ j ∈ l, Pd m n (g j)) → Pd m n (fun x => (l.map fun j => g j x).sum)
  | [], _ => (Pd.zero m n).congr fun x => by simp
  | j :: l, h => ((h j List.mem_cons_self).add (sum_pdA m n g l fun i hi => h i (List.mem_cons_of_mem _ hi))).congr fun x => by simp
theorem sum_zeroA {α : Type} (g : α → Int) : ∀ l : List α, (∀ j ∈ l, g j = 0) → (l.map g).sum = 0
  | [], _ => rfl
  | j :: l, h => by
    rw [List.map_cons, List.sum_cons, h j List.mem_cons_self, sum_zeroA g l fun i hi => h i (List.mem_cons_of_mem _ hi)]; rfl
/-- Of a sum but one is 0. -/
theorem sum_atA {m : Int} (g : Int × Nat → Int) (i : Int × Nat) (c : Int) (h1 : Cg m (g i) c) : ∀ l : List (Int × Nat), (l.map fun s : Int × Nat => s.1).Nodup → i ∈ l → (∀ j ∈ l, j.1 ≠ i.1 → g j = 0) → Cg m (l.map g).sum c
  | [], _, hi, _ => absurd hi (by simp)
  | j :: l, hd, hi, h0 => by
    rw [List.map_cons, List.nodup_cons] at hd
    rw [List.map_cons, List.sum_cons]
    rcases List.mem_cons.1 hi with rfl | hi
    · have hz : (l.map g).sum = 0 := sum_zeroA g l fun r hr => h0 r (List.mem_cons_of_mem _ hr) fun e => hd.1 (List.mem_map.2 ⟨r, hr, e⟩)
      rw [hz, Int.add_zero]; exact h1
    · have hj : g j = 0 := h0 j List.mem_cons_self fun e => hd.1 (List.mem_map.2 ⟨i, hi, e.symm⟩)
      rw [hj, Int.zero_add]
      exact sum_atA g i c h1 l hd.2 hi fun r hr => h0 r (List.mem_cons_of_mem _ hr)
/-- The polynomial through some shares. -/
def fI (L : List (Int × Nat)) (x : Int) : Int := (L.map fun s => (s.2 : Int) * (num (L.map fun s : Int × Nat => s.1) s.1 x * vI (L.map fun s : Int × Nat => s.1) s.1)).sum
theorem fI_pd {L : List (Int × Nat)} (h : okP (L.map fun s : Int × Nat => s.1)) : Pd bR L.length (fI L) := by
  have := sum_pdA (bR : Int) L.length (fun (s : Int × Nat) x => (s.2 : Int) * (num (L.map fun s : Int × Nat => s.1) s.1 x * vI (L.map fun s : Int × Nat => s.1) s.1)) L fun s hs => by
    have h1 := num_pd (bR : Int) h.2 (List.mem_map.2 ⟨s, hs, rfl⟩)
    rw [List.length_map] at h1
    exact (h1.scale ((s.2 : Int) * vI (L.map fun s : Int × Nat => s.1) s.1)).congr fun x => by grind
  exact this
theorem fI_at {L : List (Int × Nat)} (h : okP (L.map fun s : Int × Nat => s.1)) {s : Int × Nat} (hs : s ∈ L) : Cg bR (fI L s.1) s.2 := by
  refine sum_atA (m := bR) (fun r : Int × Nat => (r.2 : Int) * (num (L.map fun s : Int × Nat => s.1) r.1 s.1 * vI (L.map fun s : Int × Nat => s.1) r.1)) s s.2 ?_ L h.2 hs fun r hr hne => ?_
  · have h1 := vI_ok h (List.mem_map.2 ⟨s, hs, rfl⟩)
    exact ((Cg.refl bR (s.2 : Int)).mul h1).trans (Cg.of_eq (by rw [Int.mul_one]))
  · have h1 : num (L.map fun s : Int × Nat => s.1) r.1 s.1 = 0 := num_zero (List.mem_map.2 ⟨s, hs, rfl⟩) fun e => hne e.symm
    show (r.2 : Int) * (num _ r.1 s.1 * _) = 0
    rw [h1]; grind
theorem fI_sum {L : List (Int × Nat)} (h : okP (L.map fun s : Int × Nat => s.1)) (x : Nat) : Cg bR (sumN (L.map fun s : Int × Nat => s.1) x L : Nat) (fI L x) := cg_sum h x L

theorem idsN_mem {n : Nat} {i : Int} (h : i ∈ idsN n) : 1 ≤ i ∧ i ≤ n := by
  obtain ⟨j, hj, rfl⟩ := List.mem_map.1 h
  rw [List.mem_range] at hj
  omega
theorem idsN_nodup (n : Nat) : (idsN n).Nodup := by
  unfold idsN
  refine List.Pairwise.map _ (R := fun a b => a ≠ b) (fun a b h e => h (by omega)) ?_
  exact List.nodup_range
theorem idsN_ok {n : Nat} (h : n ≤ 7) : okP (idsN n) := ⟨fun i hi => by have := idsN_mem hi; omega, idsN_nodup n⟩
/-- Product and weights: as the exponents' sum. -/
theorem joint_want {l : List (Int × Nat)} (h : rightB (l.map fun s : Int × Nat => s.1) = true) : jointN l = wantN (l.map fun s : Int × Nat => s.1) 0 l := by
  have key : ∀ (m : List (Int × Nat)) (o : Nat), (∀ s ∈ m, s ∈ l) → m.foldl (fun o s => mulM bQ o (powM bQ s.2 (wgtV (l.map (·.1)) s.1))) o = m.foldl (fun o s => mulM bQ o (powM bQ s.2 (atN (l.map fun s : Int × Nat => s.1) s.1 0))) o := by
    intro m
    induction m with
    | nil => intro o _; rfl
    | cons s m ih =>
      intro o hm
      rw [List.foldl_cons, List.foldl_cons]
      have : wgtV (l.map (·.1)) s.1 = atN (l.map fun s : Int × Nat => s.1) s.1 0 := by
        unfold wgtV
        rw [if_pos ⟨h, List.mem_map.2 ⟨s, hm s List.mem_cons_self, rfl⟩⟩]
      rw [this]
      exact ih _ fun r hr => hm r (List.mem_cons_of_mem _ hr)
  exact key l 1 fun s hs => hs
/-- A crew that is right: exponents on a polynomial, the key at 0. -/
theorem crew_poly {t n : Int} {k : Nat} {p : List (Int × Nat)} (h : crewN t n k p = 0) : ∃ (f : Int → Int) (y : List (Int × Nat)) (z : Nat), Pd bR t.toNat f ∧ p = pubL y ∧ (∀ s ∈ y, s.2 < bR ∧ Cg bR (s.2 : Int) (f s.1)) ∧ z < bR ∧ k = powM bQ 4 z ∧ Cg bR (z : Int) (f 0) := by
  obtain ⟨h1, h2, h3, h4, h5, ⟨h6, h6'⟩, h7, h8⟩ := crew_zero h
  obtain ⟨y, rfl, hy⟩ := logs (l := p) fun s hs => List.all_eq_true.1 h6' s hs
  have hyids : y.map (fun s : Int × Nat => s.1) = idsN y.length := by
    have := h6
    rw [pubL_length] at this
    rw [← this]; exact (pubL_ids y).symm
  rw [pubL_length] at h4
  obtain ⟨tn, rfl⟩ : ∃ m : Nat, t = m := ⟨t.toNat, by omega⟩
  rw [Int.toNat_natCast] at h8 ⊢
  have hlen : (y.take tn).length = tn := by rw [List.length_take]; omega
  have hids : (y.take tn).map (fun s : Int × Nat => s.1) = idsN tn := by
    rw [List.map_take, hyids]
    unfold idsN
    rw [← List.map_take]
    congr 1
    rw [List.take_range]; congr 1; omega
  have hok : okP ((y.take tn).map fun s : Int × Nat => s.1) := by rw [hids]; exact idsN_ok (by omega)
  have htk : (pubL y).take tn = pubL (y.take tn) := by unfold pubL; rw [List.map_take]
  have hri : rightB ((y.take tn).map fun s : Int × Nat => s.1) = true := (rightB_iff _).2 ⟨hok, by rw [List.length_map, hlen]; omega, by rw [List.length_map, hlen]; omega⟩
  refine ⟨fI (y.take tn), y, sumN ((y.take tn).map fun s : Int × Nat => s.1) 0 (y.take tn), by have := fI_pd hok; rwa [hlen] at this, rfl, fun s hs => ⟨hy s hs, ?_⟩, sumN_lt _ _ _, ?_, fI_sum hok 0⟩
  · have hsid : 1 ≤ s.1 ∧ s.1 ≤ y.length := idsN_mem (by rw [← hyids]; exact List.mem_map.2 ⟨s, hs, rfl⟩)
    rw [← List.take_append_drop tn y] at hs
    rcases List.mem_append.1 hs with hs | hs
    · exact (fI_at hok hs).symm
    · have e0 : (pubL y).map (fun s : Int × Nat => s.1) = idsN y.length := by rw [← hyids]; exact pubL_ids y
      have hrA : rightB ((pubL y).map fun s : Int × Nat => s.1) = true := by
        rw [e0]
        exact (rightB_iff _).2 ⟨idsN_ok (by omega), by rw [idsN_length]; omega, by rw [idsN_length]; omega⟩
      have hc := chk_rest (t := (tn : Int)) (l := pubL y) h1 (by omega) hrA h6' (by rw [pubL_length]; omega)
      rw [h7, Int.toNat_natCast, htk] at hc
      have hall : ((pubL y).drop tn).all (fun s => decide (wantN ((pubL (y.take tn)).map (·.1)) s.1.toNat (pubL (y.take tn)) = s.2)) = true := by
        split at hc
        · assumption
        · cases hc
      have hm : (s.1, powM bQ 4 s.2) ∈ (pubL y).drop tn := by
        unfold pubL
        rw [← List.map_drop]
        exact List.mem_map.2 ⟨s, hs, rfl⟩
      have hw := List.all_eq_true.1 hall _ hm
      have hw := of_decide_eq_true hw
      have e1 : (pubL (y.take tn)).map (·.1) = (y.take tn).map fun s : Int × Nat => s.1 := pubL_ids _
      rw [e1, want_pub] at hw
      have hw := base_inj hw
      have hx : (s.1.toNat : Int) = s.1 := by omega
      have hf := fI_sum hok s.1.toNat
      rw [hx] at hf
      exact (cg_of_mod hw).symm.trans hf
  · rw [htk] at h8
    have e1 : (pubL (y.take tn)).map (fun s : Int × Nat => s.1) = (y.take tn).map fun s : Int × Nat => s.1 := pubL_ids _
    rw [joint_want (by rw [e1]; exact hri), e1, want_pub] at h8
    exact h8.symm
end Go.Proofs.Ytiecfamjnnmpaaa
