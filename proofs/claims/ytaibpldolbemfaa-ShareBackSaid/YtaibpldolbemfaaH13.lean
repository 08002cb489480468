/- Parts of the proofs, put together: Sh4, Sh5, Sh6, Sh7, Sh8, Sh9, HaRefN, HaOfS, HaRefOf. -/
import Derived.Deep.RegionWith
import Derived.Test.YtaibpldolbemfaaH2
import Derived.Test.YtaibpldolbemfaaH10
import Derived.Test.YtaibpldolbemfaaH14
/- Shares, walked: Join of the document; Public, of the program and of the document; Same. -/
namespace Go.Proofs.Ytaibpldolbemfaa
set_option linter.unusedVariables false
open Go.RowKit Go.Shelf Go.Maps
attribute [local irreducible] atN prodN sumN

set_option maxRecDepth 100000 in
set_option maxHeartbeats 2000000 in
theorem rJoin_any (l : List (Int × Nat)) (A : Option Addr) (c : Nat) (hn : l.length ≤ 1099511627776) (w : World) (hr : Reads w w.heap.size 2 A l.length (sv l)) :
    Calls Try.prog 19 #[.slice A l.length c] w fun e w' => e = .returned (joinR l) ∧ Ext w w' := by
  by_cases h0 : l.length = 0
  · have k := List.eq_nil_of_length_eq_zero h0
    subst k
    rw [joinR_none]
    clear hr
    go_enter Try.func19, Try.ntmps19
    go_wp2
    go_ret2
    exact ⟨rfl, Ext.refl w⟩
  have d0 : ((l.length : Int) == 0) = false := by rw [beq_eq_false_iff_ne]; omega
  have ci := fun (W : World) (x : Ext w W) => Ids_any l A c hn W ((hr.below x.out).more x.size)
  have cb := fun (W : World) (x : Ext w W) => below_any l A c hn W ((hr.below x.out).more x.size)
  have cr := fun (W : World) A' c' (hr : Reads W W.heap.size 1 A' (l.map fun s : Int × Nat => s.1).length (iv (l.map fun s : Int × Nat => s.1))) => Right_any (l.map fun s : Int × Nat => s.1) A' c' (by rw [List.length_map]; exact hn) W hr
  rw [List.length_map] at cr
  cases hri : rightB (l.map fun s : Int × Nat => s.1) with
  | false =>
    have hm : mayB l = false := by rw [mayB_eq, hri]; simp
    rw [hri] at cr
    rw [joinR_bad h0 hm]
    have x0 := Ext.refl w
    clear hr hm h0 hn hri cb
    go_enter Try.func19, Try.ntmps19
    go_wp2_with (first
      | (go_at_call 25; refine (ci _ x0).mono ?_; clear ci; rintro e w1 ⟨A', c', rfl, _, r1, x1⟩)
      | (go_at_call 41; refine (cr _ _ _ r1).mono ?_; clear cr; rintro e w2 ⟨rfl, x2⟩))
    go_ret2
    exact ⟨rfl, x1.trans x2⟩
  | true =>
    rw [hri] at cr
    cases hlo : lowB l with
    | false =>
      have hm : mayB l = false := by rw [mayB_eq, hlo]; rfl
      rw [hlo] at cb
      rw [joinR_bad h0 hm]
      have x0 := Ext.refl w
      clear hr hm h0 hn hri hlo
      go_enter Try.func19, Try.ntmps19
      go_wp2_with (first
        | (go_at_call 25; refine (ci _ x0).mono ?_; clear ci; rintro e w1 ⟨A', c', rfl, _, r1, x1⟩)
        | (go_at_call 41; refine (cr _ _ _ r1).mono ?_; clear cr; rintro e w2 ⟨rfl, x2⟩)
        | (go_at_call 42; refine (cb _ (x1.trans x2)).mono ?_; clear cb; rintro e w3 ⟨rfl, x3⟩))
      go_ret2
      exact ⟨rfl, (x1.trans x2).trans x3⟩
    | true =>
      have hm : mayB l = true := by rw [mayB_eq, hlo, hri]; rfl
      rw [hlo] at cb
      rw [joinR_ok h0 hm]
      obtain ⟨-, hlow, hrg, h7⟩ := may_facts hm
      obtain ⟨g1, g2⟩ := right_range hri
      obtain ⟨ids, hids⟩ : ∃ ids, ids = l.map fun s : Int × Nat => s.1 := ⟨_, rfl⟩
      have hil : ids.length = l.length := by rw [hids, List.length_map]
      rw [← hids] at g1 g2 hri ⊢
      have ca := fun A' c' (W : World) id hid (hr' : Reads W W.heap.size 1 A' ids.length (iv ids)) => at_any ids g1 id hid 0 A' c' W g2 hr'
      rw [hil] at ca
      simp only [Int.cast_ofNat_Int] at ca
      have hr0 : Hid (Reads w w.heap.size 2 A l.length (sv l)) := Lib.hid hr
      have HLOW := Lib.hid hlow
      have HRG := Lib.hid hrg
      have H7 := Lib.hid h7
      have HID := Lib.hid hids
      have x0 := Ext.refl w
      clear hr hm h0 hn hri g1 g2 h7 hlow hrg hids hlo
      go_enter Try.func19, Try.ntmps19
      go_wp2_with (first
        | (go_at_call 25; refine (ci _ x0).mono ?_; clear ci; rintro e w1 ⟨A', c', rfl, _, r1, x1⟩)
        | (go_at_call 41; refine (cr _ _ _ r1).mono ?_; clear cr; rintro e w2 ⟨rfl, x2⟩)
        | (go_at_call 42; refine (cb _ (x1.trans x2)).mono ?_; clear cb; rintro e w3 ⟨rfl, x3⟩))
      have r3 := (r1.below (x2.trans x3).out).more (x2.trans x3).size
      have X3 := Lib.hid ((x1.trans x2).trans x3)
      rw [show (l.map fun s : Int × Nat => s.1) = ids from HID.out.symm] at r3
      have R3 := Lib.hid r3
      clear r3 r1 x1 x2 x3 d0
      go_loopg [5, 6] l.length (fun m s5 s6 wr => ∃ j : Nat, j + m = l.length ∧ s6 = .int .i64 j ∧ s5 = .int .u64 (sumN ids 0 (l.take j) : Nat) ∧ Ext w3 wr)
      case atStart => exact ⟨0, by omega, rfl, by unfold sumN; rfl, Ext.refl _⟩
      case round =>
        obtain ⟨j, hj, rfl, rfl, hx⟩ := hrel
        by_cases h : j < l.length
        · obtain ⟨s, hs⟩ : ∃ s, l[j]? = some s := ⟨_, List.getElem?_eq_getElem h⟩
          obtain ⟨ad, rfl, hlt, q0, q1⟩ := reads_share (hr0.out.below (X3.out.trans hx).out) hs
          have hmem := List.mem_of_getElem? hs
          have hjb : (j : Int) ≤ 7 := by have := H7.out; omega
          have c1 := fun (W : World) (x : Ext w3 W) => ca A' c' W s.1 (HRG.out s hmem) ((R3.out.below x.out).more x.size)
          have c2 := fun W => rMulR_any s.2 (atN ids s.1 0) (lt64_R (atN_lt _ _ _)) W
          have c3 := fun W => rAddR_any (sumN ids 0 (l.take j)) (mulM bR s.2 (atN ids s.1 0)) W
          have e1 := sumN_take (ids := ids) hs 0
          obtain ⟨t, ht⟩ : ∃ t, t = atN ids s.1 0 := ⟨_, rfl⟩
          obtain ⟨u, hu⟩ : ∃ t, t = sumN ids 0 (l.take j) := ⟨_, rfl⟩
          rw [← ht] at c1 c2 c3 e1
          rw [← hu] at c3 e1 ⊢
          have HE := Lib.hid e1
          have HX := Lib.hid hx
          have HJ := Lib.hid hj
          clear e1 hx hj hs ht hu hmem ca
          go_wp2
          have i0 := fun i : Later wr => i.cell q0
          have i1 := fun i : Later wr => i.cell q1
          refine wp_region_later (by kernel_rfl) (by kernel_rfl) ?_
          repeat (go_big_quiet_step (first
            | (go_at_call 49; exact Later.calls (c1 _ (HX.out.trans (Later.ext _))))
            | (go_at_call 48; exact Later.same (c2 _))
            | (go_at_call 47; exact Later.same (c3 _))))
          refine wpQuiet_nil ?_
          rintro W2 ⟨i, hi⟩
          have x5 : Ext w3 W2 := by rw [hi]; exact HX.out.trans i.ext
          clear hi i i0 i1 q0 q1
          go_wp2
          have hj := HJ.out
          go_roundg (gk - 1)
          case measure => omega
          case rel => exact ⟨j + 1, by omega, int_congr (by omega), by rw [HE.out], x5⟩
        · obtain rfl : j = l.length := by omega
          rw [List.take_length]
          have HX := Lib.hid hx
          clear hx hj
          go_wp2
          go_ret2
          exact ⟨rfl, X3.out.trans HX.out⟩

/-! ### Public -/
set_option maxRecDepth 100000 in
set_option maxHeartbeats 2000000 in
theorem pub1_any (x : Int) (n : Nat) (hn : n < 18446744073709551616) (w : World) :
    Calls Try.prog 40 #[.agg #[.int .i64 x, .int .u64 (n : Int)]] w fun e w' => e = .returned (.agg #[.int .i64 x, .int .u64 (powM bQ 4 n : Nat)]) ∧ Ext w w' := by
  have cb := fun W => Base_any n hn W
  obtain ⟨p, hp⟩ : ∃ p, p = powM bQ 4 n := ⟨_, rfl⟩
  rw [← hp] at cb ⊢
  clear hp hn
  go_enter Try.func40, Try.ntmps40
  go_wp2
  have h1 := (Blk.new w 43 #[.int .i64 x, .int .u64 (n : Int)]).alloc (.cells #[.int .i64 0, .int .u64 0] 43)
  have h2 := Blk.new (w.alloc (.cells #[.int .i64 x, .int .u64 (n : Int)] 43)) 43 #[.int .i64 0, .int .u64 0]
  rw [World.size_alloc] at h2
  obtain ⟨W0, e0⟩ : ∃ W0, W0 = (w.alloc (.cells #[.int .i64 x, .int .u64 (n : Int)] 43)).alloc (.cells #[.int .i64 0, .int .u64 0] 43) := ⟨_, rfl⟩
  have x0 : Ext w W0 := by rw [e0]; exact ((Ext.refl w).alloc _).alloc _
  rw [← e0] at h1 h2 ⊢
  obtain ⟨q1, q2, q3, q4⟩ := arr2 h1
  obtain ⟨r1, r2, r3, r4⟩ := arr2 h2
  have H1 := Lib.hid h1
  have H2 := Lib.hid h2
  clear h1 h2 e0
  go_region_with (go_at_call 32; refine (cb _).mono ?_; clear cb; rintro e w1 ⟨rfl, x1⟩; have z1 := Lib.hid (ext_blk x1 (by first | exact H1.out | exact H1.out.drew | exact H1.out.drewN _)); have z2 := Lib.hid (ext_blk x1 (by first | exact H2.out | exact H2.out.drew | exact H2.out.drewN _)); obtain ⟨q1A, q2A, q3A, q4A⟩ := arr2 z1.out; obtain ⟨r1A, r2A, r3A, r4A⟩ := arr2 z2.out)
  all_goals (
    go_wp2
    refine bodyPost_ret (v := .agg #[.int .i64 x, .int .u64 (p : Int)]) (by simp [results, Try.results40, go_sem, r1A, r2A]) rfl ⟨rfl, ?_⟩
    exact ((x0.drew.trans x1).setCell (p := ⟨w.heap.size + 1, 0, none⟩) (by simp) _).setCell (p := ⟨w.heap.size + 1, 1, none⟩) (by simp) _)

set_option maxRecDepth 100000 in
set_option maxHeartbeats 1000000 in
theorem mapS_any (l : List (Int × Nat)) (hX : ∀ s ∈ l, s.2 < 18446744073709551616) (A : Option Addr) (c : Nat) (hn : l.length ≤ 1099511627776) (w : World) (hr : Reads w w.heap.size 2 A l.length (sv l)) :
    Calls Try.prog 39 #[.slice A l.length c, .func (.func 40) #[] #[]] w fun e w' => ∃ A' c', e = .returned (.slice A' l.length c') ∧ l.length ≤ c' ∧ Reads w' w'.heap.size 2 A' l.length (sv (pubL l)) ∧ Ext w w' ∧ w'.ownsRow w.heap.size 43 2 (.slice A' l.length c') l.length (sv (pubL l)) := by
  obtain ⟨i0, hi, hz0, hz1, hz2⟩ := info_parts Try.infoSh
  have hr0 : Hid (Reads w w.heap.size 2 A l.length (sv l)) := Lib.hid hr
  have HN := Lib.hid hn
  have HXL := Lib.hid hX
  clear hr hn hX
  go_enter Try.func39, Try.ntmps39
  go_wp2
  go_loopg [5, 11] l.length (fun m s5 s11 wr => ∃ j : Nat, j + m = l.length ∧ s11 = .int .i64 j ∧ wr.ownsRow w.heap.size 43 2 s5 (l.take j).length (sv (pubL (l.take j))) ∧ Ext w wr)
  case atStart => exact ⟨0, by omega, rfl, own_empty w _ _ rfl (Nat.le_refl _) _ _, (Ext.refl w).alloc _⟩
  case round =>
    obtain ⟨j, hj, rfl, hown, hx⟩ := hrel
    by_cases h : j < l.length
    · obtain ⟨s, hs⟩ : ∃ s, l[j]? = some s := ⟨_, List.getElem?_eq_getElem h⟩
      obtain ⟨ad, rfl, hlt, q0, q1⟩ := reads_share (hr0.out.below hx.out) hs
      have e1 : l.take (j + 1) = l.take j ++ [s] := by rw [List.take_add_one, hs]; rfl
      have hjb : (j : Int) ≤ 1099511627776 := by have := HN.out; omega
      have ci := fun W => pub1_any s.1 s.2 (HXL.out s (List.mem_of_getElem? hs)) W
      obtain ⟨p, hp⟩ : ∃ p, p = powM bQ 4 s.2 := ⟨_, rfl⟩
      rw [← hp] at ci
      have HE := Lib.hid e1
      have HX := Lib.hid hx
      have HJ := Lib.hid hj
      have HP := Lib.hid hp
      clear e1 hx hj hs hp
      go_wp2_with (first
        | (go_at_call 40; refine (ci _).mono ?_; clear ci; rintro e w1 ⟨rfl, x1⟩; have O1 := own_ext (hown.alloc _) x1; have X1 := (HX.out.alloc _).trans x1)
        | (at_builtin; refine wpList_append_own _ rfl (.tmp 15) (.tmp 19) 24 rfl w.heap.size 43 i0 (.agg #[.int .i64 0, .int .u64 0]) 2 16 Try.underlying24 hi hz0 hz1 hz2 rfl (by decide) _ _ _ rfl (O1.alloc _) ⟨w1.heap.size, 0, none⟩ 1 1 [.int .i64 s.1, .int .u64 (p : Int)] rfl rfl (cell_two_new _ _ _ _) (by simp [Value.oneCell']) (by have := HN.out; have := HJ.out; simp only [maxLen, List.length_take]; omega) (by have := HN.out; simp only [List.length_take]; omega) (by have := X1.size; simp; omega) ?_; intro v2 w2 hown2 hg2 _))
      have X2 := ext_grown (X1.alloc _) (O1.alloc _) hg2
      have O2 : Hid (w2.ownsRow w.heap.size 43 2 v2 (l.take (j + 1)).length (sv (pubL (l.take (j + 1))))) := by
        show World.ownsRow _ _ _ _ _ _ _
        have e3 : sv (pubL (l.take j ++ [s])) = sv (pubL (l.take j)) ++ [.int .i64 s.1, .int .u64 (p : Int)] := by
          rw [show pubL (l.take j ++ [s]) = pubL (l.take j) ++ [(s.1, p)] by simp [pubL, HP.out], sv_append]; rfl
        rw [HE.out, List.length_append, e3]
        exact hown2
      clear hown2 hg2 O1 hown
      have hj := HJ.out
      go_wp2
      go_roundg (gk - 1)
      case measure => omega
      case rel => exact ⟨j + 1, by omega, int_congr (by omega), O2.out, X2⟩
    · obtain rfl : j = l.length := by omega
      rw [List.take_length] at hown
      obtain ⟨A', c', rfl, hc', hr'⟩ := own_slice2 hown
      have HR := Lib.hid hr'
      have HX := Lib.hid hx
      have HO := Lib.hid hown
      clear hr' hx hown hj h
      go_wp2
      go_ret
      exact ⟨A', c', rfl, hc', HR.out, HX.out, HO.out⟩
end Go.Proofs.Ytaibpldolbemfaa

/- Shares, walked: Public, of the program and of the document; Same. -/
namespace Go.Proofs.Ytaibpldolbemfaa
set_option linter.unusedVariables false
open Go.RowKit Go.Shelf Go.Maps
attribute [local irreducible] atN prodN sumN

/-- Public shares, or none; and why. -/
def pubO (l : List (Int × Nat)) : List (Int × Nat) := if mayB l = true then pubL l else []
def pubE (l : List (Int × Nat)) : Nat := if mayB l = true then 0 else 1

set_option maxRecDepth 100000 in
set_option maxHeartbeats 2000000 in
theorem shPublic_any (l : List (Int × Nat)) (hw : idsWf l) (hX : ∀ s ∈ l, s.2 < 18446744073709551616) (A : Option Addr) (c : Nat) (hn : l.length ≤ 1099511627776) (w : World) (hr : Reads w w.heap.size 2 A l.length (sv l)) :
    Calls Try.prog 15 #[.slice A l.length c] w fun e w' => ∃ A' c', e = .returned (.tuple #[.slice A' (pubO l).length c', .int .i64 (pubE l : Nat)]) ∧ (pubO l).length ≤ c' ∧ Reads w' w'.heap.size 2 A' (pubO l).length (sv (pubO l)) ∧ Ext w w' ∧ (mayB l = true → w'.ownsRow w.heap.size 43 2 (.slice A' (pubO l).length c') (pubO l).length (sv (pubO l))) := by
  have cm := may_any l hw A c hn w hr
  have cp := fun (W : World) (x : Ext w W) => mapS_any l hX A c hn W ((hr.below x.out).more x.size)
  cases hm : mayB l with
  | false =>
    have e1 : pubO l = [] := by unfold pubO; rw [hm]; rfl
    have e2 : pubE l = 1 := by unfold pubE; rw [hm]; rfl
    rw [hm] at cm
    rw [e1, e2]
    clear hr cp e1 e2 hm
    go_enter Try.func15, Try.ntmps15
    go_wp2_with (go_at_call 38; refine cm.mono ?_; clear cm; rintro e w1 ⟨rfl, x1⟩)
    go_ret2
    exact ⟨none, 0, rfl, Nat.le_refl _, Reads.none_, x1, fun h => by cases h⟩
  | true =>
    have e1 : pubO l = pubL l := by unfold pubO; rw [hm]; rfl
    have e2 : pubE l = 0 := by unfold pubE; rw [hm]; rfl
    rw [hm] at cm
    rw [e1, e2, pubL_length]
    clear hr e1 e2 hm
    go_enter Try.func15, Try.ntmps15
    go_wp2_with (first
      | (go_at_call 38; refine cm.mono ?_; clear cm; rintro e w1 ⟨rfl, x1⟩)
      | (go_at_call 39; refine (cp _ x1).mono ?_; clear cp; rintro e w2 ⟨A', c', rfl, hc', r2, x2, o2⟩))
    go_ret2
    exact ⟨A', c', rfl, hc', r2, x1.trans x2, fun _ => own_base o2 x1.size⟩

theorem new_reads2 (W : World) (T : TypeId) (x y : Value) : Reads (W.alloc (.cells #[x, y] T)) (W.alloc (.cells #[x, y] T)).heap.size 2 (some ⟨W.heap.size, 0, none⟩) 1 [x, y] :=
  ⟨rfl, fun _ => ⟨_, rfl, by simp, cell_two_new W x y T⟩⟩

set_option maxRecDepth 100000 in
set_option maxHeartbeats 2000000 in
theorem rshPublic_any (l : List (Int × Nat)) (hX : ∀ s ∈ l, s.2 < 18446744073709551616) (A : Option Addr) (c : Nat) (hn : l.length ≤ 1099511627776) (w : World) (hr : Reads w w.heap.size 2 A l.length (sv l)) :
    Calls Try.prog 16 #[.slice A l.length c] w fun e w' => ∃ A' c', e = .returned (.tuple #[.slice A' (pubO l).length c', .int .i64 (pubE l : Nat)]) ∧ (pubO l).length ≤ c' ∧ Reads w' w'.heap.size 2 A' (pubO l).length (sv (pubO l)) ∧ Ext w w' := by
  have ci := fun (W : World) (x : Ext w W) => Ids_any l A c hn W ((hr.below x.out).more x.size)
  have cb := fun (W : World) (x : Ext w W) => below_any l A c hn W ((hr.below x.out).more x.size)
  have cr := fun (W : World) A' c' (hr : Reads W W.heap.size 1 A' (l.map fun s : Int × Nat => s.1).length (iv (l.map fun s : Int × Nat => s.1))) => Right_any (l.map fun s : Int × Nat => s.1) A' c' (by rw [List.length_map]; exact hn) W hr
  rw [List.length_map] at cr
  have x0 := Ext.refl w
  cases hri : rightB (l.map fun s : Int × Nat => s.1) with
  | false =>
    have hm : mayB l = false := by rw [mayB_eq, hri]; simp
    have e1 : pubO l = [] := by unfold pubO; rw [hm]; rfl
    have e2 : pubE l = 1 := by unfold pubE; rw [hm]; rfl
    rw [hri] at cr
    rw [e1, e2]
    clear hr hm hn hri cb e1 e2
    go_enter Try.func16, Try.ntmps16
    go_wp2_with (first
      | (go_at_call 25; refine (ci _ x0).mono ?_; clear ci; rintro e w1 ⟨A', c', rfl, _, r1, x1⟩)
      | (go_at_call 41; refine (cr _ _ _ r1).mono ?_; clear cr; rintro e w2 ⟨rfl, x2⟩))
    go_ret2
    exact ⟨none, 0, rfl, Nat.le_refl _, Reads.none_, x1.trans x2⟩
  | true =>
    rw [hri] at cr
    cases hlo : lowB l with
    | false =>
      have hm : mayB l = false := by rw [mayB_eq, hlo]; rfl
      have e1 : pubO l = [] := by unfold pubO; rw [hm]; rfl
      have e2 : pubE l = 1 := by unfold pubE; rw [hm]; rfl
      rw [hlo] at cb
      rw [e1, e2]
      clear hr hm hn hri hlo e1 e2
      go_enter Try.func16, Try.ntmps16
      go_wp2_with (first
        | (go_at_call 25; refine (ci _ x0).mono ?_; clear ci; rintro e w1 ⟨A', c', rfl, _, r1, x1⟩)
        | (go_at_call 41; refine (cr _ _ _ r1).mono ?_; clear cr; rintro e w2 ⟨rfl, x2⟩)
        | (go_at_call 42; refine (cb _ (x1.trans x2)).mono ?_; clear cb; rintro e w3 ⟨rfl, x3⟩))
      go_ret2
      exact ⟨none, 0, rfl, Nat.le_refl _, Reads.none_, (x1.trans x2).trans x3⟩
    | true =>
      have hm : mayB l = true := by rw [mayB_eq, hlo, hri]; rfl
      have e1 : pubO l = pubL l := by unfold pubO; rw [hm]; rfl
      have e2 : pubE l = 0 := by unfold pubE; rw [hm]; rfl
      rw [hlo] at cb
      rw [e1, e2, pubL_length]
      obtain ⟨i0, hi, hz0, hz1, hz2⟩ := info_parts Try.infoSh
      have hr0 : Hid (Reads w w.heap.size 2 A l.length (sv l)) := Lib.hid hr
      have HN := Lib.hid hn
      have HXL := Lib.hid hX
      clear hr hm hn hri hlo hX e1 e2
      go_enter Try.func16, Try.ntmps16
      go_wp2_with (first
        | (go_at_call 25; refine (ci _ x0).mono ?_; clear ci; rintro e w1 ⟨A', c', rfl, _, r1, x1⟩)
        | (go_at_call 41; refine (cr _ _ _ r1).mono ?_; clear cr; rintro e w2 ⟨rfl, x2⟩)
        | (go_at_call 42; refine (cb _ (x1.trans x2)).mono ?_; clear cb; rintro e w3 ⟨rfl, x3⟩))
      have X3 := Lib.hid ((x1.trans x2).trans x3)
      clear r1 x1 x2 x3
      go_loopg [4, 5] l.length (fun m s4 s5 wr => ∃ j : Nat, j + m = l.length ∧ s5 = .int .i64 j ∧ wr.ownsRow w.heap.size 43 2 s4 (l.take j).length (sv (pubL (l.take j))) ∧ Ext w wr)
      case atStart => exact ⟨0, by omega, rfl, own_empty w3 _ _ rfl X3.out.size _ _, X3.out.alloc _⟩
      case round =>
        obtain ⟨j, hj, rfl, hown, hx⟩ := hrel
        by_cases h : j < l.length
        · obtain ⟨s, hs⟩ : ∃ s, l[j]? = some s := ⟨_, List.getElem?_eq_getElem h⟩
          obtain ⟨ad, rfl, hlt, q0, q1⟩ := reads_share (hr0.out.below hx.out) hs
          have e1 : l.take (j + 1) = l.take j ++ [s] := by rw [List.take_add_one, hs]; rfl
          have hjb : (j : Int) ≤ 1099511627776 := by have := HN.out; omega
          have cB := fun W => rBase_any s.2 (HXL.out s (List.mem_of_getElem? hs)) W
          obtain ⟨p, hp⟩ : ∃ p, p = powM bQ 4 s.2 := ⟨_, rfl⟩
          rw [← hp] at cB
          have HE := Lib.hid e1
          have HX := Lib.hid hx
          have HJ := Lib.hid hj
          have HP := Lib.hid hp
          have hqs : Hid (∀ W, Ext w W → W.cell? (ad.add (j * 2)) = some (.int .i64 s.1) ∧ W.cell? ⟨(ad.add (j * 2)).block, (ad.add (j * 2)).off + 1, none⟩ = some (.int .u64 (s.2 : Int))) := fun W x => by
            obtain ⟨ad', e', _, a, b⟩ := reads_share (hr0.out.below x.out) hs
            cases e'
            exact ⟨a, b⟩
          clear e1 hx hj hs hp
          go_wp2
          go_region_held3 (fun w' => w'.cell? (ad.add (j * 2)) = some (.int .i64 s.1) ∧ w'.cell? ⟨(ad.add (j * 2)).block, (ad.add (j * 2)).off + 1, none⟩ = some (.int .u64 (s.2 : Int))) (go_keep) (first
            | (go_at_call 43; refine (cB _).mono ?_; clear cB; rintro e w' ⟨rfl, rfl⟩)
            | (refine step_append_any _ rfl (.tmp 22) (.tmp 35) 24 rfl w.heap.size 43 i0 (.agg #[.int .i64 0, .int .u64 0]) 2 16 Try.underlying24 hi hz0 hz1 hz2 rfl (by decide) _ _ _ rfl (hown.drew.alloc _) _ _ 1 1 [.int .i64 s.1, .int .u64 (p : Int)] rfl (new_reads2 _ _ _ _) (by simp [Value.oneCell']) (by have := HN.out; have := HJ.out; simp only [maxLen, List.length_take]; omega) (by have := HN.out; simp only [List.length_take]; omega) (by have := HX.out.size; simp; omega) ?_; intro v2 w2 hown2 hg2 _; have X2 := ext_grown (HX.out.drew.alloc _) (hown.drew.alloc _) hg2; obtain ⟨z0, z1⟩ := hqs.out w2 X2))
          have O2 : Hid (w2.ownsRow w.heap.size 43 2 v2 (l.take (j + 1)).length (sv (pubL (l.take (j + 1))))) := by
            show World.ownsRow _ _ _ _ _ _ _
            have e3 : sv (pubL (l.take j ++ [s])) = sv (pubL (l.take j)) ++ [.int .i64 s.1, .int .u64 (p : Int)] := by
              rw [show pubL (l.take j ++ [s]) = pubL (l.take j) ++ [(s.1, p)] by simp [pubL, HP.out], sv_append]; rfl
            rw [HE.out, List.length_append, e3]
            exact hown2
          clear hown2 hg2 hown z0 z1
          have hj := HJ.out
          go_wp2
          go_roundg (gk - 1)
          case measure => omega
          case rel => exact ⟨j + 1, by omega, int_congr (by omega), O2.out, X2⟩
        · obtain rfl : j = l.length := by omega
          rw [List.take_length] at hown
          obtain ⟨A', c', rfl, hc', hr'⟩ := own_slice2 hown
          have HR := Lib.hid hr'
          have HX := Lib.hid hx
          clear hr' hx hown hj h
          go_wp2
          go_ret2
          exact ⟨A', c', rfl, hc', HR.out, HX.out⟩
end Go.Proofs.Ytaibpldolbemfaa

/- Shares, walked: Same; equality of shares. -/
namespace Go.Proofs.Ytaibpldolbemfaa
set_option linter.unusedVariables false
open Go.RowKit Go.Shelf Go.Maps

theorem eqSh (a b n m : Int) (w : World) : (Op.equalIn 10000 43 (.agg #[.int .i64 a, .int .u64 n]) (.agg #[.int .i64 b, .int .u64 m])).run Try.prog w = .ok (decide (a = b ∧ n = m)) w := by
  have hf : (Try.prog.fieldsOf 43).toList.map (fun f => (f.name != "_", f.type, f.offset)) = [(true, 3, 0), (true, 22, 1)] := by kernel_rfl
  have key : ∀ fs : List Field, fs.map (fun f => (f.name != "_", f.type, f.offset)) = [(true, 3, 0), (true, 22, 1)] → (Op.eqFields 9999 #[.int .i64 a, .int .u64 n] #[.int .i64 b, .int .u64 m] fs).run Try.prog w = .ok (decide (a = b ∧ n = m)) w := by
    intro fs h
    rcases fs with _ | ⟨f, _ | ⟨g, _ | ⟨e, r⟩⟩⟩
    · simp at h
    · simp at h
    · simp only [List.map_cons, List.map_nil, List.cons.injEq, Prod.mk.injEq, and_true, bne_iff_ne, ne_eq] at h
      obtain ⟨⟨f1, f2, f3⟩, g1, g2, g3⟩ := h
      have p1 : ∀ (x y : Value) (w : World), (part 3 #[x, y] 0).run Try.prog w = .ok x w := fun x y w => by kernel_rfl
      have p2 : ∀ (x y : Value) (w : World), (part 22 #[x, y] 1).run Try.prog w = .ok y w := fun x y w => by kernel_rfl
      have p3 := fun w => run_equalIn_int (P := Try.prog) w 9998 3 .i64 .i64 a b Try.underlying3
      have p4 := fun w => run_equalIn_int (P := Try.prog) w 9998 22 .u64 .u64 n m Try.underlying22
      simp only [Op.eqFields, ne_eq, f1, g1, not_false_eq_true, if_true, f2, f3, g2, g3, Sem.run_bind, p1, Result.andThen_ok, p3]
      by_cases h1 : a = b
      · subst h1
        by_cases h2 : n = m
        · subst h2
          simp [p2, p4]
        · simp [p2, p4, h2]
      · simp [h1]
    · simp at h
  rw [run_equalIn_struct w 9999 43 _ _ (by kernel_rfl) (by kernel_rfl)]
  exact key _ hf

set_option maxRecDepth 100000 in
set_option maxHeartbeats 2000000 in
theorem Same_any (l m : List (Int × Nat)) (A B : Option Addr) (c d : Nat) (hn : l.length ≤ 1099511627776) (w : World) (hr : Reads w w.heap.size 2 A l.length (sv l)) (hs : Reads w w.heap.size 2 B m.length (sv m)) :
    Calls Try.prog 17 #[.slice A l.length c, .slice B m.length d] w fun e w' => e = .returned (.bool (decide (l = m))) ∧ Ext w w' := by
  by_cases hl : l.length = m.length
  · have hr0 : Hid (Reads w w.heap.size 2 A l.length (sv l)) := Lib.hid hr
    have hs0 : Hid (Reads w w.heap.size 2 B m.length (sv m)) := Lib.hid hs
    have HN := Lib.hid hn
    have HL := Lib.hid hl
    rw [← hl]
    clear hr hs hn hl
    have hse := eqSh
    go_enter Try.func17, Try.ntmps17
    go_wp2
    go_loopg [5] l.length (fun g s5 wr => ∃ j : Nat, j + g = l.length ∧ s5 = .int .i64 j ∧ l.take j = m.take j ∧ Ext w wr)
    case atStart => exact ⟨0, by omega, rfl, by simp, Ext.refl w⟩
    case round =>
      obtain ⟨j, hj, rfl, hok, hx⟩ := hrel
      by_cases h : j < l.length
      · obtain ⟨s, hs⟩ : ∃ s, l[j]? = some s := ⟨_, List.getElem?_eq_getElem h⟩
        obtain ⟨t, ht⟩ : ∃ s, m[j]? = some s := ⟨_, List.getElem?_eq_getElem (by rw [← HL.out]; exact h)⟩
        obtain ⟨ad, rfl, hlt, q0, q1⟩ := reads_share (hr0.out.below hx.out) hs
        obtain ⟨bd, rfl, hlt', r0, r1⟩ := reads_share (hs0.out.below hx.out) ht
        have hjb : (j : Int) ≤ 1099511627776 := by have := HN.out; omega
        have HX := Lib.hid hx
        have HJ := Lib.hid hj
        have e1 : l.take (j + 1) = l.take j ++ [s] := by rw [List.take_add_one, hs]; rfl
        have e2 : m.take (j + 1) = m.take j ++ [t] := by rw [List.take_add_one, ht]; rfl
        have q0' := fun n : Nat => show (wr.drewN n).cell? _ = _ from q0
        have q1' := fun n : Nat => show (wr.drewN n).cell? _ = _ from q1
        have r0' := fun n : Nat => show (wr.drewN n).cell? _ = _ from r0
        have r1' := fun n : Nat => show (wr.drewN n).cell? _ = _ from r1
        by_cases hst : s = t
        · have hok' : Hid (l.take (j + 1) = m.take (j + 1)) := by show _ = _; rw [e1, e2, hok, hst]
          subst hst
          have hse := fun w => (eqSh s.1 s.1 s.2 s.2 w).trans (by rw [decide_eq_true ⟨rfl, rfl⟩])
          clear hx hj hok hs ht e1 e2
          go_wp2
          go_region
          all_goals go_wp2
          have hj := HJ.out
          all_goals go_roundg (gk - 1)
          case measure => omega
          case rel => exact ⟨j + 1, by omega, int_congr (by omega), hok'.out, HX.out.drew⟩
        · have k : decide (l = m) = false := decide_eq_false fun e => hst (by rw [e, ht] at hs; exact (Option.some.inj hs).symm)
          clear hx hj hok hs ht e1 e2
          by_cases h1 : s.1 = t.1
          · have d1 : decide (s.1 = t.1) = true := decide_eq_true h1
            have d2 : decide ((s.2 : Int) = (t.2 : Int)) = false := decide_eq_false fun h2 => hst (Prod.ext h1 (Int.ofNat_inj.1 h2))
            clear hst h1
            go_wp2
            go_region
            all_goals go_wp2
            all_goals go_ret
            all_goals first | exact ⟨ret_bool k.symm, HX.out.drew⟩ | exact ⟨rfl, HX.out.drew⟩
          · have d1 : decide (s.1 = t.1) = false := decide_eq_false h1
            clear hst h1
            go_wp2
            go_region
            all_goals go_wp2
            all_goals go_ret
            all_goals first | exact ⟨ret_bool k.symm, HX.out.drew⟩ | exact ⟨rfl, HX.out.drew⟩
      · obtain rfl : j = l.length := by omega
        have k : decide (l = m) = true := decide_eq_true (by rw [List.take_length] at hok; rw [hok, HL.out, List.take_length])
        have HX := Lib.hid hx
        clear hx hok hj
        go_wp2
        go_ret
        first | exact ⟨ret_bool k.symm, HX.out⟩ | exact ⟨rfl, HX.out⟩
  · have k : decide (l = m) = false := decide_eq_false fun e => hl (by rw [e])
    have d1 : ((l.length : Int) != (m.length : Int)) = true := by simp; omega
    clear hr hs hn
    go_enter Try.func17, Try.ntmps17
    go_wp2
    go_ret
    first | exact ⟨ret_bool k.symm, Ext.refl w⟩ | exact ⟨rfl, Ext.refl w⟩
end Go.Proofs.Ytaibpldolbemfaa

/- Shares, walked: Check of the program. -/
namespace Go.Proofs.Ytaibpldolbemfaa
set_option linter.unusedVariables false
open Go.RowKit Go.Shelf Go.Maps
attribute [local irreducible] atN prodN sumN wantN

theorem slice_hS (A : Option Addr) (n c m : Nat) (hm : m ≤ c) (w : World) : (Instr.slice 24 (.slice A n c) none (some (.int .i64 (m : Int))) none).run Try.prog w = .ok (sliced A 0 m c 2) w := by
  rw [run_slice_h w 24 A n c Try.underlying24 .i64 (m : Int) (by omega) (by omega)]
  have : (sizeOf (Try.prog.elem 24)).run Try.prog w = .ok 2 w := by kernel_rfl
  rw [this]
  rfl
theorem slice_lS (A : Option Addr) (n c m : Nat) (hm : m ≤ n) (w : World) : (Instr.slice 24 (.slice A n c) (some (.int .i64 (m : Int))) none none).run Try.prog w = .ok (sliced A m n c 2) w := by
  rw [run_slice_l w 24 A n c Try.underlying24 .i64 (m : Int) (by omega) (by omega)]
  have : (sizeOf (Try.prog.elem 24)).run Try.prog w = .ok 2 w := by kernel_rfl
  rw [this]
  rfl
theorem sv_take (l : List (Int × Nat)) (k : Nat) : (sv l).take (k * 2) = sv (l.take k) := by
  induction k generalizing l with
  | zero => simp [sv]
  | succ k ih =>
    cases l with
    | nil => rfl
    | cons s l =>
      have e : sv (s :: l) = .int .i64 s.1 :: .int .u64 (s.2 : Int) :: sv l := rfl
      have e2 : sv (s :: l.take k) = .int .i64 s.1 :: .int .u64 (s.2 : Int) :: sv (l.take k) := rfl
      rw [e, show (k + 1) * 2 = k * 2 + 1 + 1 by omega, List.take_succ_cons, List.take_succ_cons, ih, List.take_succ_cons, e2]
theorem sv_drop (l : List (Int × Nat)) (k : Nat) : (sv l).drop (k * 2) = sv (l.drop k) := by
  induction k generalizing l with
  | zero => simp
  | succ k ih =>
    cases l with
    | nil => rfl
    | cons s l =>
      have e : sv (s :: l) = .int .i64 s.1 :: .int .u64 (s.2 : Int) :: sv l := rfl
      rw [e, show (k + 1) * 2 = k * 2 + 1 + 1 by omega, List.drop_succ_cons, List.drop_succ_cons, ih, List.drop_succ_cons]
/-- The first of some shares, as a slice. -/
theorem first_reads {w : World} {B : Nat} {A : Option Addr} {l : List (Int × Nat)} {c k : Nat} (h : Reads w B 2 A l.length (sv l)) (hk : k ≤ l.length) (hc : l.length ≤ c) :
    ∃ A', sliced A 0 k c 2 = .slice A' (l.take k).length c ∧ Reads w B 2 A' (l.take k).length (sv (l.take k)) := by
  have hlk : (l.take k).length = k := by rw [List.length_take]; omega
  rw [hlk]
  refine ⟨_, by unfold sliced; rw [Nat.sub_zero, Nat.sub_zero], by rw [sv_length, hlk], fun h0 => ?_⟩
  obtain ⟨ad, e, hb, hcell⟩ := h.2 (by omega)
  subst e
  refine ⟨ad, ?_, hb, fun j u hj => hcell j u ?_⟩
  · split
    · rfl
    · simp [Addr.add]
  · rw [← sv_take, List.getElem?_take] at hj
    split at hj
    · exact hj
    · cases hj
/-- The rest of some shares. -/
theorem rest_reads {w : World} {B : Nat} {A : Option Addr} {l : List (Int × Nat)} {c k : Nat} (h : Reads w B 2 A l.length (sv l)) (hk : k ≤ l.length) (hc : l.length ≤ c) :
    ∃ A', sliced A k l.length c 2 = .slice A' (l.drop k).length (c - k) ∧ Reads w B 2 A' (l.drop k).length (sv (l.drop k)) := by
  have h1 := h.cut hk hc
  rw [sv_drop] at h1
  rw [List.length_drop]
  exact ⟨_, by unfold sliced; rfl, h1⟩

theorem chk_low {t : Int} {l : List (Int × Nat)} (h : t < 1) : chkN t l = 1 := by unfold chkN; rw [if_pos (.inl h)]
theorem chk_high {t : Int} {l : List (Int × Nat)} (h : 7 < t) : chkN t l = 1 := by unfold chkN; rw [if_pos (.inr (.inl h))]
theorem chk_ids {t : Int} {l : List (Int × Nat)} (h0 : 0 < l.length) (h : rightB (l.map fun s : Int × Nat => s.1) = false) : chkN t l = 1 := by unfold chkN; rw [if_pos (.inr (.inr ⟨h0, h⟩))]
theorem chk_out {t : Int} {l : List (Int × Nat)} {s : Int × Nat} (hs : s ∈ l) (h : inB s.2 = false) : chkN t l = 1 := by
  have : l.all (fun s => inB s.2) = false := by
    refine Bool.eq_false_iff.2 fun hc => ?_
    rw [List.all_eq_true.1 hc s hs] at h
    cases h
  unfold chkN
  split
  · rfl
  · first | rfl | rw [if_pos this]
theorem chk_few {t : Int} {l : List (Int × Nat)} (h1 : 1 ≤ t) (h7 : t ≤ 7) (hr : l.length = 0 ∨ rightB (l.map fun s : Int × Nat => s.1) = true) (hin : l.all (fun s => inB s.2) = true) (h : (l.length : Int) < t) : chkN t l = 50 := by
  unfold chkN
  rw [if_neg (by
    rintro (h' | h' | ⟨h', h''⟩)
    · omega
    · omega
    · rcases hr with hr | hr
      · omega
      · rw [hr] at h''; cases h''), if_neg (by rw [hin]; decide), if_pos h]
theorem chk_rest {t : Int} {l : List (Int × Nat)} (h1 : 1 ≤ t) (h7 : t ≤ 7) (hr : rightB (l.map fun s : Int × Nat => s.1) = true) (hin : l.all (fun s => inB s.2) = true) (h : ¬ (l.length : Int) < t) :
    chkN t l = if (l.drop t.toNat).all (fun s => decide (wantN ((l.take t.toNat).map (·.1)) s.1.toNat (l.take t.toNat) = s.2)) = true then 0 else 60 := by
  unfold chkN
  rw [if_neg (by
    rintro (h' | h' | ⟨h', h''⟩)
    · omega
    · omega
    · rw [hr] at h''; cases h''), if_neg (by rw [hin]; decide), if_neg h]
theorem all_not {α : Type} {l : List α} {f : α → Bool} {x : α} (hx : x ∈ l) (h : f x = false) : l.all f = false := by
  refine Bool.eq_false_iff.2 fun hc => ?_
  rw [List.all_eq_true.1 hc x hx] at h
  cases h
theorem all_take {α : Type} {l : List α} {f : α → Bool} {j : Nat} {x : α} (hx : l[j]? = some x) (h : f x = true) (h0 : (l.take j).all f = true) : (l.take (j + 1)).all f = true := by
  rw [List.take_add_one, hx]
  simp [List.all_append, h0, h]
theorem wantN_take {ids : List Int} {l : List (Int × Nat)} {j : Nat} {s : Int × Nat} (hs : l[j]? = some s) (x : Nat) : wantN ids x (l.take (j + 1)) = mulM bQ (wantN ids x (l.take j)) (powM bQ s.2 (atN ids s.1 x)) := by
  rw [List.take_add_one, hs]; exact wantN_snoc _ _ _ _

/-- Each is of the group. -/
def allIn (l : List (Int × Nat)) : Bool := l.all fun s => inB s.2
end Go.Proofs.Ytaibpldolbemfaa

/- Shares, walked: Check of the program. -/
namespace Go.Proofs.Ytaibpldolbemfaa
set_option linter.unusedVariables false
open Go.RowKit Go.Shelf Go.Maps
attribute [local irreducible] atN prodN sumN wantN

set_option maxRecDepth 100000 in
set_option maxHeartbeats 4000000 in
theorem Check_any (t : Int) (l : List (Int × Nat)) (hw : idsWf l) (hX : ∀ s ∈ l, s.2 < 18446744073709551616) (A : Option Addr) (c : Nat) (hc : l.length ≤ c) (hn : l.length ≤ 1099511627776) (w : World) (hr : Reads w w.heap.size 2 A l.length (sv l)) :
    Calls Try.prog 22 #[.int .i64 t, .slice A l.length c] w fun e w' => e = .returned (.int .i64 (chkN t l : Nat)) ∧ Ext w w' := by
  have x0 := Ext.refl w
  by_cases t1 : t < 1
  · rw [chk_low t1]
    clear hr hX hw hn hc
    go_enter Try.func22, Try.ntmps22
    go_wp2
    go_ret
    exact ⟨rfl, x0⟩
  by_cases t7 : 7 < t
  · rw [chk_high t7]
    clear hr hX hw hn hc
    go_enter Try.func22, Try.ntmps22
    go_wp2
    go_ret
    exact ⟨rfl, x0⟩
  by_cases hl0 : l.length = 0
  · have hl := List.eq_nil_of_length_eq_zero hl0
    subst hl
    rw [chk_few (l := []) (by omega) (by omega) (.inl rfl) rfl (by simp; omega)]
    clear hr hX hw hn hc hl0
    go_enter Try.func22, Try.ntmps22
    go_wp2
    go_loopg [34] 0 (fun m s34 wr => m = 0 ∧ s34 = .int .i64 0 ∧ Ext w wr)
    case atStart => exact ⟨rfl, rfl, x0⟩
    case round =>
      obtain ⟨-, rfl, hx⟩ := hrel
      go_wp2
      go_ret
      exact ⟨rfl, hx⟩
  have d0 : (0 : Int) < (l.length : Int) := by omega
  have cm := mapI_any l A c hn w hr
  have cr := fun (W : World) A' c' (hr : Reads W W.heap.size 1 A' (l.map fun s : Int × Nat => s.1).length (iv (l.map fun s : Int × Nat => s.1))) => right_any (l.map fun s : Int × Nat => s.1) hw A' c' (by rw [List.length_map]; exact hn) W hr
  rw [List.length_map] at cr
  cases hri : rightB (l.map fun s : Int × Nat => s.1) with
  | false =>
    rw [hri] at cr
    rw [chk_ids (by omega) hri]
    clear hr hX hw hn hri hc hl0
    go_enter Try.func22, Try.ntmps22
    go_wp2_with (first
      | (go_at_call 45; refine cm.mono ?_; clear cm; rintro e w1 ⟨A', c', rfl, _, r1, x1⟩)
      | (go_at_call 50; refine (cr _ _ _ r1).mono ?_; clear cr; rintro e w2 ⟨rfl, x2⟩))
    go_ret
    exact ⟨rfl, x1.trans x2⟩
  | true =>
    rw [hri] at cr
    have hr0 : Hid (Reads w w.heap.size 2 A l.length (sv l)) := Lib.hid hr
    have HXL := Lib.hid hX
    have HN := Lib.hid hn
    have HC := Lib.hid hc
    have HR := Lib.hid hri
    have HT1 := Lib.hid t1
    have HT7 := Lib.hid t7
    have HL0 := Lib.hid hl0
    clear hr hX hn hri hw hc hl0
    go_enter Try.func22, Try.ntmps22
    go_wp2_with (first
      | (go_at_call 45; refine cm.mono ?_; clear cm; rintro e w1 ⟨A', c', rfl, _, r1, x1⟩)
      | (go_at_call 50; refine (cr _ _ _ r1).mono ?_; clear cr; rintro e w2 ⟨rfl, x2⟩))
    have X2 := Lib.hid (x1.trans x2)
    clear x1 x2 r1 d0 x0 t1 t7
    go_loopg [34] l.length (fun m s34 wr => ∃ j : Nat, j + m = l.length ∧ s34 = .int .i64 j ∧ allIn (l.take j) = true ∧ Ext w wr)
    case atStart => exact ⟨0, by omega, rfl, rfl, X2.out⟩
    case round =>
      obtain ⟨j, hj, rfl, hok, hx⟩ := hrel
      have hjm : l.length ≤ 7 := by have := (right_range HR.out).2; rwa [List.length_map] at this
      by_cases h : j < l.length
      · obtain ⟨s, hs⟩ : ∃ s, l[j]? = some s := ⟨_, List.getElem?_eq_getElem h⟩
        obtain ⟨ad, rfl, hlt, q0, q1⟩ := reads_share (hr0.out.below hx.out) hs
        have hjb : (j : Int) ≤ 7 := by omega
        have ci := fun W => In_any s.2 (HXL.out s (List.mem_of_getElem? hs)) W
        have HX := Lib.hid hx
        have HJ := Lib.hid hj
        cases hb : inB s.2 with
        | false =>
          have k := chk_out (t := t) (List.mem_of_getElem? hs) hb
          rw [hb] at ci
          have HK := Lib.hid k
          clear hx hj hok hs k hb hjm
          go_wp2_with (go_at_call 51; refine (ci _).mono ?_; clear ci; rintro e w3 ⟨rfl, x3⟩)
          go_ret
          exact ⟨by rw [HK.out]; rfl, (HX.out.alloc _).trans x3⟩
        | true =>
          have hok' := Lib.hid (all_take (f := fun s : Int × Nat => inB s.2) hs hb hok)
          rw [hb] at ci
          clear hx hj hok hs hb hjm
          go_wp2_with (go_at_call 51; refine (ci _).mono ?_; clear ci; rintro e w3 ⟨rfl, x3⟩)
          have hj := HJ.out
          go_roundg (gk - 1)
          case measure => omega
          case rel => exact ⟨j + 1, by omega, int_congr (by omega), hok'.out, (HX.out.alloc _).trans x3⟩
      · obtain rfl : j = l.length := by omega
        rw [List.take_length] at hok
        by_cases hlt : (l.length : Int) < t
        · have k := chk_few (t := t) (l := l) (by have := HT1.out; omega) (by have := HT7.out; omega) (.inr HR.out) hok hlt
          have HK := Lib.hid k
          have HX := Lib.hid hx
          clear hx hj hok k hjm
          go_wp2
          go_ret
          exact ⟨by rw [HK.out]; rfl, HX.out⟩
        · have hin : ∀ s ∈ l, inB s.2 = true := fun s hs => List.all_eq_true.1 hok s hs
          have k := chk_rest (t := t) (l := l) (by have := HT1.out; omega) (by have := HT7.out; omega) HR.out hok hlt
          obtain ⟨tn, rfl⟩ : ∃ n : Nat, t = n := ⟨t.toNat, by have := HT1.out; omega⟩
          rw [show ((tn : Nat) : Int).toNat = tn from Int.toNat_natCast tn] at k
          have hk : tn ≤ l.length := by omega
          obtain ⟨A1, e1, r1⟩ := first_reads hr0.out hk HC.out
          obtain ⟨A2, e2, r2⟩ := rest_reads hr0.out hk HC.out
          have s1 : ∀ W : World, (Instr.slice 24 (.slice A l.length c) none (some (.int .i64 (tn : Int))) none).run Try.prog W = .ok (.slice A1 (l.take tn).length c) W := fun W => by rw [slice_hS A l.length c tn (Nat.le_trans hk HC.out), e1]
          have s2 : ∀ W : World, (Instr.slice 24 (.slice A l.length c) (some (.int .i64 (tn : Int))) none none).run Try.prog W = .ok (.slice A2 (l.drop tn).length (c - tn)) W := fun W => by rw [slice_lS A l.length c tn hk, e2]
          obtain ⟨fl, hfl⟩ : ∃ q, q = l.take tn := ⟨_, rfl⟩
          obtain ⟨rl, hrl⟩ : ∃ q, q = l.drop tn := ⟨_, rfl⟩
          obtain ⟨c2, hc2⟩ : ∃ q, q = c - tn := ⟨_, rfl⟩
          have hrange : ∀ s ∈ l, 1 ≤ s.1 ∧ s.1 < 1152921504606845789 := fun s hs => (right_range HR.out).1 _ (List.mem_map.2 ⟨s, hs, rfl⟩)
          have hfr : ∀ s ∈ fl, (1 ≤ s.1 ∧ s.1 < 1152921504606845789) ∧ inB s.2 = true := fun s hs => by rw [hfl] at hs; exact ⟨hrange s (List.mem_of_mem_take hs), hin s (List.mem_of_mem_take hs)⟩
          have hrr : ∀ s ∈ rl, (1 ≤ s.1 ∧ s.1 < 1152921504606845789) ∧ inB s.2 = true := fun s hs => by rw [hrl] at hs; exact ⟨hrange s (List.mem_of_mem_drop hs), hin s (List.mem_of_mem_drop hs)⟩
          have hf7 : fl.length ≤ 7 := by rw [hfl, List.length_take]; omega
          have hr7 : rl.length ≤ 7 := by rw [hrl, List.length_drop]; omega
          rw [← hfl] at s1 r1 k
          rw [← hrl] at s2 r2 k
          rw [← hc2] at s2
          obtain ⟨ids, hids⟩ : ∃ q, q = fl.map fun s : Int × Nat => s.1 := ⟨_, rfl⟩
          have hil : ids.length = fl.length := by rw [hids, List.length_map]
          have gr : ∀ i ∈ ids, 1 ≤ i ∧ i < 1152921504606845789 := fun i hi => by
            rw [hids] at hi
            obtain ⟨s, hs, rfl⟩ := List.mem_map.1 hi
            exact (hfr s hs).1
          rw [← hids] at k
          have cmf := fun (W : World) (x : Ext w W) => mapI_any fl A1 c (by omega) W ((r1.below x.out).more x.size)
          rw [← hids] at cmf
          have cc := fun A' c' g (w3 : World) (x : Nat) hp hq hr' id hid W xw => clo_later ids gr (by rw [hil]; exact hf7) id hid x A' c' g w3 hp hq hr' W xw
          rw [hil] at cc
          have R1 := Lib.hid r1
          have R2 := Lib.hid r2
          have HK := Lib.hid k
          have HF := Lib.hid hfr
          have HRR := Lib.hid hrr
          have HF7 := Lib.hid hf7
          have HR7 := Lib.hid hr7
          have HX := Lib.hid hx
          clear hx hj hok k hjm hin hrange hfr hrr hf7 hr7 r1 r2 hfl hrl hc2 hk e1 e2 hids gr hil
          go_wp2
          go_region
          all_goals go_wp2
          have X3 : Hid (Ext w wr.drew) := Lib.hid HX.out.drew
          clear s1 s2
          go_loopg [55] rl.length (fun m s55 wr => ∃ j : Nat, j + m = rl.length ∧ s55 = .int .i64 j ∧ (rl.take j).all (fun s => decide (wantN ids s.1.toNat fl = s.2)) = true ∧ Ext w wr)
          case atStart => exact ⟨0, by omega, rfl, rfl, X3.out⟩
          case round =>
            obtain ⟨j, hj, rfl, hok, hx⟩ := hrel
            by_cases h : j < rl.length
            · obtain ⟨s, hs⟩ : ∃ s, rl[j]? = some s := ⟨_, List.getElem?_eq_getElem h⟩
              obtain ⟨ad, rfl, hlt, q0, q1⟩ := reads_share (R2.out.below hx.out) hs
              have hmem := List.mem_of_getElem? hs
              obtain ⟨hsr, hsi⟩ := HRR.out s hmem
              have hjb : (j : Int) ≤ 7 := by have := HR7.out; omega
              have kx := wrap_id hsr
              have hat := fun (hp : wantN ids s.1.toNat fl = s.2) => all_take (f := fun s : Int × Nat => decide (wantN ids s.1.toNat fl = s.2)) hs (by simpa using hp) hok
              have hno := fun (hp : wantN ids s.1.toNat fl ≠ s.2) => all_not (f := fun s : Int × Nat => decide (wantN ids s.1.toNat fl = s.2)) hmem (by simpa using hp)
              obtain ⟨x, hxn⟩ : ∃ x, x = s.1.toNat := ⟨_, rfl⟩
              rw [← hxn] at kx hat hno
              have cw := fun A' n c' W => weights_any A' n c' x W
              obtain ⟨W1, hW1⟩ : ∃ W1, W1 = wr.alloc (.cells #[.int .i64 s.1, .int .u64 (s.2 : Int)] 43) := ⟨_, rfl⟩
              have b1 := Blk.new wr 43 #[.int .i64 s.1, .int .u64 (s.2 : Int)]
              rw [← hW1] at b1
              have x4 : Ext w W1 := by rw [hW1]; exact hx.alloc _
              obtain ⟨k0, k1, -, -⟩ := arr2 b1
              obtain ⟨gs, hgs⟩ : ∃ g, g = wr.heap.size := ⟨_, rfl⟩
              have HAT := Lib.hid hat
              have HNO := Lib.hid hno
              have HW := Lib.hid hW1
              have B1 := Lib.hid b1
              have HJ := Lib.hid hj
              have HX4 := Lib.hid x4
              have cm1 := fun (W : World) (xW : Ext W1 W) => cmf W (x4.trans xW)
              obtain ⟨G, hG⟩ : ∃ G, G = gk - 1 := ⟨_, rfl⟩
              have HG := Lib.hid hG
              clear hx hj hok hs hmem hsr hsi hat hno hxn hW1 b1 x4 hG hgs
              go_wp2
              rw [← HW.out]
              go_region_held3 (fun w' => w'.cell? ⟨wr.heap.size, 0, none⟩ = some (.int .i64 s.1) ∧ w'.cell? ⟨wr.heap.size, 1, none⟩ = some (.int .u64 (s.2 : Int))) (go_keep) (first
                | (go_at_call 45; refine (cm1 _ (Ext.refl W1).drew).mono ?_; clear cm1; rintro e w2 ⟨A', c', rfl, _, r2, x2⟩; have B2 := Lib.hid (ext_blk x2 B1.out.drew); obtain ⟨k2, k3, -, -⟩ := arr2 B2.out)
                | (go_at_call 44; refine (cw _ _ _ _).mono ?_; clear cw; rintro e w3 ⟨rfl, p3, q3, x3⟩; have B3 := Lib.hid (ext_blk x3 B2.out); obtain ⟨k4, k5, -, -⟩ := arr2 B3.out))
              have X5 : Hid (Ext w w3) := Lib.hid ((HX4.out.drew.trans x2).trans x3)
              have r3 := (r2.below x3.out).more x3.size
              obtain ⟨g, hg⟩ : ∃ g, g = w2.heap.size := ⟨_, rfl⟩
              rw [← hg] at p3 q3 ⊢
              have ck := fun id hid W xW => cc A' c' g w3 x p3 q3 r3 id hid W xW
              clear k0 k1 k2 k3 k4 k5 p3 q3 r2 r3 x2 x3 hg cc q0 q1 cmf
              go_wp2
              go_loopg [12, 67] fl.length (fun m s12 s67 wr => ∃ i : Nat, i + m = fl.length ∧ s67 = .int .i64 i ∧ s12 = .int .u64 (wantN ids x (fl.take i) : Nat) ∧ Ext w3 wr)
              case atStart => exact ⟨0, by omega, rfl, by unfold wantN; rfl, Ext.refl _⟩
              case round =>
                obtain ⟨i, hi, rfl, rfl, hx⟩ := hrel
                by_cases h' : i < fl.length
                · obtain ⟨r, hs⟩ : ∃ s, fl[i]? = some s := ⟨_, List.getElem?_eq_getElem h'⟩
                  obtain ⟨bd, rfl, hltb, q0, q1⟩ := reads_share (R1.out.below (X5.out.trans hx).out) hs
                  obtain ⟨hrr, hri⟩ := HF.out r (List.mem_of_getElem? hs)
                  have hib : (i : Int) ≤ 7 := by have := HF7.out; omega
                  have hr2 := ((inB_iff _).1 hri).2.1
                  have c1 := fun W xW => ck r.1 hrr W xW
                  have c2 := fun W => Pow_any r.2 (atN ids r.1 x) (lt64_Q hr2) (lt64_R (atN_lt _ _ _)) W
                  have c3 := fun W => MulE (wantN ids x (fl.take i)) (powM bQ r.2 (atN ids r.1 x)) (lt64_Q (wantN_lt _ _ _)) (lt64_Q (powM_lt (by decide) _ _)) W
                  have e1 := wantN_take (ids := ids) hs x
                  obtain ⟨v, hv⟩ : ∃ t, t = atN ids r.1 x := ⟨_, rfl⟩
                  obtain ⟨u, hu⟩ : ∃ t, t = wantN ids x (fl.take i) := ⟨_, rfl⟩
                  rw [← hv] at c1 c2 c3 e1
                  rw [← hu] at c3 e1 ⊢
                  have HE := Lib.hid e1
                  have HX6 := Lib.hid hx
                  have HI := Lib.hid hi
                  obtain ⟨W5, hW5⟩ : ∃ W1, W1 = wr.alloc (.cells #[.int .i64 r.1, .int .u64 (r.2 : Int)] 43) := ⟨_, rfl⟩
                  obtain ⟨k0, k1⟩ := new_share wr 43 r.1 r.2
                  rw [← hW5] at k0 k1
                  have HW5 := Lib.hid hW5
                  have x4 : Ext w3 W5 := by rw [hW5]; exact hx.alloc _
                  clear e1 hx hi hs hv hu hrr hri hr2 hW5 ck
                  go_wp2
                  rw [← HW5.out]
                  have i0 := fun i : Later W5 => i.cell k0
                  have i1 := fun i : Later W5 => i.cell k1
                  refine wp_region_later (by kernel_rfl) (by kernel_rfl) ?_
                  repeat (go_big_quiet_step (first
                    | (go_at_call 68; exact Later.calls (c1 _ (x4.trans (Later.ext _))))
                    | (go_at_call 31; exact Later.calls (c2 _))
                    | (go_at_call 30; exact Later.calls (c3 _))))
                  refine wpQuiet_nil ?_
                  rintro W2 ⟨q, hq⟩
                  have x5 : Ext w3 W2 := by rw [hq]; exact x4.trans q.ext
                  clear hq q i0 i1 q0 q1 k0 k1
                  go_wp2
                  have hi := HI.out
                  go_roundg (gk - 1)
                  case measure => omega
                  case rel => exact ⟨i + 1, by omega, int_congr (by omega), by rw [HE.out], x5⟩
                · obtain rfl : i = fl.length := by omega
                  rw [List.take_length]
                  have B6 := Lib.hid (ext_blk hx B3.out)
                  obtain ⟨k6, k7, -, -⟩ := arr2 B6.out
                  have HX6 := Lib.hid (X5.out.trans hx)
                  obtain ⟨u, hu⟩ : ∃ t, t = wantN ids x fl := ⟨_, rfl⟩
                  rw [← hu] at HAT HNO ⊢
                  clear hx hi hu ck
                  by_cases hus : u = s.2
                  · have hok' := Lib.hid (HAT.out hus)
                    subst hus
                    go_wp2
                    have hj := HJ.out
                    have hG := HG.out
                    go_roundg G
                    case measure => omega
                    case rel => exact ⟨j + 1, by omega, int_congr (by omega), hok'.out, HX6.out⟩
                  · have d1 : ((u : Int) != (s.2 : Int)) = true := by simp; omega
                    have k : Hid (chkN (tn : Int) l = 60) := by show _ = _; rw [HK.out, if_neg (by rw [HNO.out hus]; decide)]
                    go_wp2
                    go_ret
                    exact ⟨by rw [k.out]; rfl, HX6.out⟩
            · obtain rfl : j = rl.length := by omega
              rw [List.take_length] at hok
              have HX5 := Lib.hid hx
              have k : Hid (chkN (tn : Int) l = 0) := by show _ = _; rw [HK.out, if_pos hok]
              clear hx hj hok
              go_wp2
              go_ret
              exact ⟨by rw [k.out]; rfl, HX5.out⟩
end Go.Proofs.Ytaibpldolbemfaa

/- Shares, walked: Check of the document. -/
namespace Go.Proofs.Ytaibpldolbemfaa
set_option linter.unusedVariables false
open Go.RowKit Go.Shelf Go.Maps
attribute [local irreducible] atN prodN sumN wantN

set_option maxRecDepth 100000 in
set_option maxHeartbeats 4000000 in
theorem rCheck_any (t : Int) (l : List (Int × Nat)) (hX : ∀ s ∈ l, s.2 < 18446744073709551616) (A : Option Addr) (c : Nat) (hc : l.length ≤ c) (hn : l.length ≤ 1099511627776) (w : World) (hr : Reads w w.heap.size 2 A l.length (sv l)) :
    Calls Try.prog 23 #[.int .i64 t, .slice A l.length c] w fun e w' => e = .returned (.int .i64 (chkN t l : Nat)) ∧ Ext w w' := by
  have x0 := Ext.refl w
  by_cases t1 : t < 1
  · rw [chk_low t1]
    clear hr hX hn hc
    go_enter Try.func23, Try.ntmps23
    go_wp2
    go_ret
    exact ⟨rfl, x0⟩
  by_cases t7 : 7 < t
  · rw [chk_high t7]
    clear hr hX hn hc
    go_enter Try.func23, Try.ntmps23
    go_wp2
    go_ret
    exact ⟨rfl, x0⟩
  by_cases hl0 : l.length = 0
  · have hl := List.eq_nil_of_length_eq_zero hl0
    subst hl
    rw [chk_few (l := []) (by omega) (by omega) (.inl rfl) rfl (by simp; omega)]
    clear hr hX hn hc hl0
    go_enter Try.func23, Try.ntmps23
    go_wp2
    go_loopg [5] 0 (fun m s5 wr => m = 0 ∧ s5 = .int .i64 0 ∧ Ext w wr)
    case atStart => exact ⟨rfl, rfl, x0⟩
    case round =>
      obtain ⟨-, rfl, hx⟩ := hrel
      go_wp2
      go_ret
      exact ⟨rfl, hx⟩
  have d0 : (0 : Int) < (l.length : Int) := by omega
  have cm := Ids_any l A c hn w hr
  have cr := fun (W : World) A' c' (hr : Reads W W.heap.size 1 A' (l.map fun s : Int × Nat => s.1).length (iv (l.map fun s : Int × Nat => s.1))) => Right_any (l.map fun s : Int × Nat => s.1) A' c' (by rw [List.length_map]; exact hn) W hr
  rw [List.length_map] at cr
  cases hri : rightB (l.map fun s : Int × Nat => s.1) with
  | false =>
    rw [hri] at cr
    rw [chk_ids (by omega) hri]
    clear hr hX hn hri hc hl0
    go_enter Try.func23, Try.ntmps23
    go_wp2_with (first
      | (go_at_call 25; refine cm.mono ?_; clear cm; rintro e w1 ⟨A', c', rfl, _, r1, x1⟩)
      | (go_at_call 41; refine (cr _ _ _ r1).mono ?_; clear cr; rintro e w2 ⟨rfl, x2⟩))
    go_ret
    exact ⟨rfl, x1.trans x2⟩
  | true =>
    rw [hri] at cr
    have hr0 : Hid (Reads w w.heap.size 2 A l.length (sv l)) := Lib.hid hr
    have HXL := Lib.hid hX
    have HN := Lib.hid hn
    have HC := Lib.hid hc
    have HR := Lib.hid hri
    have HT1 := Lib.hid t1
    have HT7 := Lib.hid t7
    have HL0 := Lib.hid hl0
    clear hr hX hn hri hc hl0
    go_enter Try.func23, Try.ntmps23
    go_wp2_with (first
      | (go_at_call 25; refine cm.mono ?_; clear cm; rintro e w1 ⟨A', c', rfl, _, r1, x1⟩)
      | (go_at_call 41; refine (cr _ _ _ r1).mono ?_; clear cr; rintro e w2 ⟨rfl, x2⟩))
    have X2 := Lib.hid (x1.trans x2)
    clear x1 x2 r1 d0 x0 t1 t7
    go_loopg [5] l.length (fun m s5 wr => ∃ j : Nat, j + m = l.length ∧ s5 = .int .i64 j ∧ allIn (l.take j) = true ∧ Ext w wr)
    case atStart => exact ⟨0, by omega, rfl, rfl, X2.out⟩
    case round =>
      obtain ⟨j, hj, rfl, hok, hx⟩ := hrel
      have hjm : l.length ≤ 7 := by have := (right_range HR.out).2; rwa [List.length_map] at this
      by_cases h : j < l.length
      · obtain ⟨s, hs⟩ : ∃ s, l[j]? = some s := ⟨_, List.getElem?_eq_getElem h⟩
        obtain ⟨ad, rfl, hlt, q0, q1⟩ := reads_share (hr0.out.below hx.out) hs
        have hjb : (j : Int) ≤ 7 := by omega
        have ci := fun W => rIn_any s.2 (HXL.out s (List.mem_of_getElem? hs)) W
        have HX := Lib.hid hx
        have HJ := Lib.hid hj
        cases hb : inB s.2 with
        | false =>
          have k := chk_out (t := t) (List.mem_of_getElem? hs) hb
          rw [hb] at ci
          have HK := Lib.hid k
          clear hx hj hok hs k hb hjm
          go_wp2_with (go_at_call 52; refine (ci _).mono ?_; clear ci; rintro e w3 ⟨rfl, rfl⟩)
          go_ret
          exact ⟨by rw [HK.out]; rfl, HX.out⟩
        | true =>
          have hok' := Lib.hid (all_take (f := fun s : Int × Nat => inB s.2) hs hb hok)
          rw [hb] at ci
          clear hx hj hok hs hb hjm
          go_wp2_with (go_at_call 52; refine (ci _).mono ?_; clear ci; rintro e w3 ⟨rfl, rfl⟩)
          have hj := HJ.out
          go_roundg (gk - 1)
          case measure => omega
          case rel => exact ⟨j + 1, by omega, int_congr (by omega), hok'.out, HX.out⟩
      · obtain rfl : j = l.length := by omega
        rw [List.take_length] at hok
        by_cases hlt : (l.length : Int) < t
        · have k := chk_few (t := t) (l := l) (by have := HT1.out; omega) (by have := HT7.out; omega) (.inr HR.out) hok hlt
          have HK := Lib.hid k
          have HX := Lib.hid hx
          clear hx hj hok k hjm
          go_wp2
          go_ret
          exact ⟨by rw [HK.out]; rfl, HX.out⟩
        · have hin : ∀ s ∈ l, inB s.2 = true := fun s hs => List.all_eq_true.1 hok s hs
          have k := chk_rest (t := t) (l := l) (by have := HT1.out; omega) (by have := HT7.out; omega) HR.out hok hlt
          obtain ⟨tn, rfl⟩ : ∃ n : Nat, t = n := ⟨t.toNat, by have := HT1.out; omega⟩
          rw [show ((tn : Nat) : Int).toNat = tn from Int.toNat_natCast tn] at k
          have hk : tn ≤ l.length := by omega
          obtain ⟨A1, e1, r1⟩ := first_reads hr0.out hk HC.out
          have s1 : ∀ W : World, (Instr.slice 24 (.slice A l.length c) none (some (.int .i64 (tn : Int))) none).run Try.prog W = .ok (.slice A1 (l.take tn).length c) W := fun W => by rw [slice_hS A l.length c tn (Nat.le_trans hk HC.out), e1]
          obtain ⟨fl, hfl⟩ : ∃ q, q = l.take tn := ⟨_, rfl⟩
          obtain ⟨rl, hrl⟩ : ∃ q, q = l.drop tn := ⟨_, rfl⟩
          have hrange : ∀ s ∈ l, (1 ≤ s.1 ∧ s.1 < 1152921504606845789) ∧ inB s.2 = true := fun s hs => ⟨(right_range HR.out).1 _ (List.mem_map.2 ⟨s, hs, rfl⟩), hin s hs⟩
          have hf7 : fl.length = tn := by rw [hfl, List.length_take]; omega
          have hrle : tn + rl.length = l.length := by rw [hrl, List.length_drop]; omega
          have hfa : ∀ i, i < tn → fl[i]? = l[i]? := fun i hi => by rw [hfl, List.getElem?_take, if_pos hi]
          have hra : ∀ i, rl[i]? = l[tn + i]? := fun i => by rw [hrl, List.getElem?_drop]
          rw [← hfl] at s1 r1 k
          rw [← hrl] at k
          obtain ⟨ids, hids⟩ : ∃ q, q = fl.map fun s : Int × Nat => s.1 := ⟨_, rfl⟩
          have hil : ids.length = fl.length := by rw [hids, List.length_map]
          have gr : ∀ i ∈ ids, 1 ≤ i ∧ i < 1152921504606845789 := fun i hi => by
            rw [hids] at hi
            obtain ⟨s, hs, rfl⟩ := List.mem_map.1 hi
            rw [hfl] at hs
            exact (hrange s (List.mem_of_mem_take hs)).1
          have hia : ∀ (i : Nat) (s : Int × Nat), fl[i]? = some s → ids[i]? = some s.1 := fun i s h => by rw [hids, List.getElem?_map, h]; rfl
          rw [← hids] at k
          have cmf := fun (W : World) (x : Ext w W) => Ids_any fl A1 c (by omega) W ((r1.below x.out).more x.size)
          rw [← hids] at cmf
          have ca := fun A' c' (W : World) (x : Nat) id hid (hr' : Reads W W.heap.size 1 A' ids.length (iv ids)) => at_any ids gr id hid x A' c' W (by rw [hil, hf7]; omega) hr'
          rw [hil] at ca
          have HK := Lib.hid k
          have HRG := Lib.hid hrange
          have HF7 := Lib.hid hf7
          have HRL := Lib.hid hrle
          have HFA := Lib.hid hfa
          have HRA := Lib.hid hra
          have HIA := Lib.hid hia
          have HX := Lib.hid hx
          have HJM := Lib.hid hjm
          clear hx hj hok k hjm hin hrange hf7 hrle r1 hfl hrl hk e1 hids gr hil hfa hra hia
          go_wp2_with (go_at_call 25; refine (cmf _ HX.out).mono ?_; clear cmf; rintro e w3 ⟨A', c', rfl, _, r3, x3⟩)
          have X3 : Hid (Ext w w3) := Lib.hid (HX.out.trans x3)
          have R3 := Lib.hid r3
          clear s1 r3 x3
          go_loopg [7] rl.length (fun m s7 wr => ∃ j : Nat, j + m = rl.length ∧ s7 = .int .i64 ((tn + j : Nat) : Int) ∧ (rl.take j).all (fun s => decide (wantN ids s.1.toNat fl = s.2)) = true ∧ Ext w3 wr)
          case atStart => exact ⟨0, by omega, rfl, rfl, Ext.refl _⟩
          case round =>
            obtain ⟨j, hj, rfl, hok, hx⟩ := hrel
            obtain ⟨n, hn⟩ : ∃ n, n = tn + j := ⟨_, rfl⟩
            rw [← hn]
            by_cases h : j < rl.length
            · obtain ⟨s, hs⟩ : ∃ s, rl[j]? = some s := ⟨_, List.getElem?_eq_getElem h⟩
              have hs' : l[n]? = some s := by rw [hn, ← HRA.out j]; exact hs
              obtain ⟨ad, rfl, hlt, q0, q1⟩ := reads_share (hr0.out.below (X3.out.trans hx).out) hs'
              have hmem := List.mem_of_getElem? hs
              obtain ⟨hsr, hsi⟩ := HRG.out s (List.mem_of_getElem? hs')
              have hnl : (n : Int) < l.length := by have := HRL.out; omega
              have hl7 : (l.length : Int) ≤ 7 := by have := HJM.out; omega
              have kx := wrap_id hsr
              have hat := fun (hp : wantN ids s.1.toNat fl = s.2) => all_take (f := fun s : Int × Nat => decide (wantN ids s.1.toNat fl = s.2)) hs (by simpa using hp) hok
              have hno := fun (hp : wantN ids s.1.toNat fl ≠ s.2) => all_not (f := fun s : Int × Nat => decide (wantN ids s.1.toNat fl = s.2)) hmem (by simpa using hp)
              obtain ⟨x, hxn⟩ : ∃ x, x = s.1.toNat := ⟨_, rfl⟩
              rw [← hxn] at kx hat hno
              have HAT := Lib.hid hat
              have HNO := Lib.hid hno
              have HJ := Lib.hid hj
              have HX4 := Lib.hid hx
              have HN' := Lib.hid hn
              have hqs : Hid (∀ W, Ext w3 W → W.cell? (ad.add (n * 2)) = some (.int .i64 s.1) ∧ W.cell? ⟨(ad.add (n * 2)).block, (ad.add (n * 2)).off + 1, none⟩ = some (.int .u64 (s.2 : Int))) := fun W x => by
                obtain ⟨ad', e', _, a, b⟩ := reads_share (hr0.out.below (X3.out.trans x).out) hs'
                cases e'
                exact ⟨a, b⟩
              obtain ⟨G, hG⟩ : ∃ G, G = gk - 1 := ⟨_, rfl⟩
              have HG := Lib.hid hG
              clear hx hj hok hs hs' hmem hsr hsi hat hno hxn hG hn q0 q1
              go_wp2
              go_loopg [8, 9] fl.length (fun m s8 s9 wr => ∃ i : Nat, i + m = fl.length ∧ s9 = .int .i64 i ∧ s8 = .int .u64 (wantN ids x (fl.take i) : Nat) ∧ Ext w3 wr)
              case atStart => exact ⟨0, by omega, rfl, by unfold wantN; rfl, HX4.out⟩
              case round =>
                obtain ⟨i, hi, rfl, rfl, hx⟩ := hrel
                by_cases h' : i < fl.length
                · obtain ⟨r, hs⟩ : ∃ s, fl[i]? = some s := ⟨_, List.getElem?_eq_getElem h'⟩
                  have hit : i < tn := by rw [← HF7.out]; exact h'
                  have hs' : l[i]? = some r := by rw [← HFA.out i hit]; exact hs
                  obtain ⟨ad', e', -, q0, q1⟩ := reads_share (hr0.out.below (X3.out.trans hx).out) hs'
                  cases e'
                  obtain ⟨bd, rfl, p0⟩ := reads_id (R3.out.below hx.out) (HIA.out i r hs)
                  obtain ⟨z0, z1⟩ := hqs.out wr hx
                  obtain ⟨hrr, hri⟩ := HRG.out r (List.mem_of_getElem? hs')
                  have hitI : (i : Int) < tn := by omega
                  have hilI : (i : Int) < l.length := by have := HRL.out; omega
                  have hifI : (i : Int) < fl.length := by omega
                  have hr2 := ((inB_iff _).1 hri).2.1
                  have c1 := fun (W : World) (xW : Ext w3 W) => ca (some bd) c' W x r.1 hrr ((R3.out.below xW.out).more xW.size)
                  have c2 := fun W => rPow_any r.2 (atN ids r.1 x) (lt64_Q hr2) (lt64_R (atN_lt _ _ _)) W
                  have c3 := fun W => rMul_any (wantN ids x (fl.take i)) (powM bQ r.2 (atN ids r.1 x)) (lt64_Q (powM_lt (by decide) _ _)) W
                  have e1 := wantN_take (ids := ids) hs x
                  obtain ⟨v, hv⟩ : ∃ t, t = atN ids r.1 x := ⟨_, rfl⟩
                  obtain ⟨u, hu⟩ : ∃ t, t = wantN ids x (fl.take i) := ⟨_, rfl⟩
                  rw [← hv] at c1 c2 c3 e1
                  rw [← hu] at c3 e1 ⊢
                  have HE := Lib.hid e1
                  have HX6 := Lib.hid hx
                  have HI := Lib.hid hi
                  clear e1 hx hi hs hs' hv hu hrr hri hr2 ca hit
                  go_wp2
                  have i0 := fun i : Later wr => i.cell q0
                  have i1 := fun i : Later wr => i.cell q1
                  have i2 := fun i : Later wr => i.cell p0
                  have i3 := fun i : Later wr => i.cell z0
                  have i4 := fun i : Later wr => i.cell z1
                  refine wp_region_later (by kernel_rfl) (by kernel_rfl) ?_
                  repeat (go_big_quiet_step (first
                    | (go_at_call 49; exact Later.calls (c1 _ (HX6.out.trans (Later.ext _))))
                    | (go_at_call 54; exact Later.same (c2 _))
                    | (go_at_call 53; exact Later.same (c3 _))))
                  refine wpQuiet_nil ?_
                  rintro W2 ⟨q, hq⟩
                  have x5 : Ext w3 W2 := by rw [hq]; exact HX6.out.trans q.ext
                  clear hq q i0 i1 i2 i3 i4 q0 q1 p0 z0 z1
                  go_wp2
                  have hi := HI.out
                  go_roundg (gk - 1)
                  case measure => omega
                  case rel => exact ⟨i + 1, by omega, int_congr (by omega), by rw [HE.out], x5⟩
                · obtain rfl : i = fl.length := by omega
                  rw [List.take_length]
                  have hit : ¬ ((fl.length : Nat) : Int) < (tn : Int) := by have := HF7.out; omega
                  obtain ⟨z0, z1⟩ := hqs.out wr hx
                  have HX6 := Lib.hid hx
                  obtain ⟨u, hu⟩ : ∃ t, t = wantN ids x fl := ⟨_, rfl⟩
                  rw [← hu] at HAT HNO ⊢
                  clear hx hi hu ca
                  by_cases hus : u = s.2
                  · have hok' := Lib.hid (HAT.out hus)
                    subst hus
                    go_wp2
                    have hj := HJ.out
                    have hG := HG.out
                    have hN := HN'.out
                    go_roundg G
                    case measure => omega
                    case rel => exact ⟨j + 1, by omega, int_congr (by omega), hok'.out, HX6.out⟩
                  · have d1 : ((u : Int) != (s.2 : Int)) = true := by simp; omega
                    have k : Hid (chkN (tn : Int) l = 60) := by show _ = _; rw [HK.out, if_neg (by rw [HNO.out hus]; decide)]
                    go_wp2
                    go_ret
                    exact ⟨by rw [k.out]; rfl, X3.out.trans HX6.out⟩
            · obtain rfl : j = rl.length := by omega
              rw [List.take_length] at hok
              have hnl : ¬ (n : Int) < l.length := by have := HRL.out; omega
              have HX5 := Lib.hid hx
              have k : Hid (chkN (tn : Int) l = 0) := by show _ = _; rw [HK.out, if_pos hok]
              clear hx hj hok ca hn
              go_wp2
              go_ret
              exact ⟨by rw [k.out]; rfl, X3.out.trans HX5.out⟩
end Go.Proofs.Ytaibpldolbemfaa

/- The document's hash, walked: number, Of; and Of of the hash. -/
namespace Go.Proofs.Ytaibpldolbemfaa
set_option linter.unusedVariables false
open Go.RowKit Go.Shelf

theorem num8_bound (l : List Nat) (h : ∀ x ∈ l, x < 256) (k : Nat) (hk : k ≤ 7) : num8 (l.take k) < 72057594037927936 := by
  have h1 := num8_lt (l.take k) fun x hx => h x (List.mem_of_mem_take hx)
  have h2 : (l.take k).length ≤ 7 := by rw [List.length_take]; omega
  have h3 : 256 ^ (l.take k).length ≤ 256 ^ 7 := Nat.pow_le_pow_right (by decide) h2
  have h4 : (256 : Nat) ^ 7 = 72057594037927936 := by decide
  omega
theorem num8_64 (l : List Nat) (h : ∀ x ∈ l, x < 256) (hl : l.length ≤ 8) : num8 l < 18446744073709551616 := by
  have h1 := num8_lt l h
  have h3 : 256 ^ l.length ≤ 256 ^ 8 := Nat.pow_le_pow_right (by decide) hl
  have h4 : (256 : Nat) ^ 8 = 18446744073709551616 := by decide
  omega

/-- The hash that bytes are, and why there is none. -/
def ofS (l : List Nat) : (Nat × Nat) × Nat :=
  if l.length < 16 then ((0, 0), 70) else if 16 < l.length ∨ bP ≤ num8 (l.take 8) ∨ bP ≤ num8 ((l.drop 8).take 8) then ((0, 0), 71) else ((num8 (l.take 8), num8 ((l.drop 8).take 8)), 0)
def ofV (r : (Nat × Nat) × Nat) : Value := .tuple #[.agg #[.int .u64 (r.1.1 : Int), .int .u64 (r.1.2 : Int)], .int .i64 (r.2 : Int)]

theorem slice_h8 (A : Option Addr) (n c m : Nat) (hm : m ≤ c) (w : World) : (Instr.slice 23 (.slice A n c) none (some (.int .i64 (m : Int))) none).run Try.prog w = .ok (sliced A 0 m c 1) w := by
  rw [run_slice_h w 23 A n c Try.underlying23 .i64 (m : Int) (by omega) (by omega)]
  have : (sizeOf (Try.prog.elem 23)).run Try.prog w = .ok 1 w := by kernel_rfl
  rw [this]
  rfl
theorem slice_l8 (A : Option Addr) (n c m : Nat) (hm : m ≤ n) (w : World) : (Instr.slice 23 (.slice A n c) (some (.int .i64 (m : Int))) none none).run Try.prog w = .ok (sliced A m n c 1) w := by
  rw [run_slice_l w 23 A n c Try.underlying23 .i64 (m : Int) (by omega) (by omega)]
  have : (sizeOf (Try.prog.elem 23)).run Try.prog w = .ok 1 w := by kernel_rfl
  rw [this]
  rfl
theorem sliced_at (ad : Addr) (m n c : Nat) (h : m < c) : sliced (some ad) m n c 1 = .slice (some (ad.add m)) (n - m) (c - m) := by
  unfold sliced
  rw [if_neg (by omega)]
  simp
theorem add_zero' (ad : Addr) : ad.add 0 = ad := by unfold Addr.add; simp

/-- The two halves of what was read so far. -/
def h0 (l : List Nat) (k : Nat) : Nat := num8 ((l.take 8).take k)
def h1 (l : List Nat) (k : Nat) : Nat := num8 (((l.drop 8).take 8).take (k - 8))
theorem h0_step (l : List Nat) (k b : Nat) (hb : l[k]? = some b) (hk : k < 8) : h0 l (k + 1) = h0 l k * 256 + b ∧ h1 l (k + 1) = h1 l k := by
  unfold h0 h1
  refine ⟨?_, by rw [show k + 1 - 8 = 0 by omega, show k - 8 = 0 by omega]⟩
  have : (l.take 8)[k]? = some b := by rw [List.getElem?_take, if_pos hk]; exact hb
  rw [List.take_add_one, this]; exact num8_snoc _ _
theorem h1_step (l : List Nat) (k b : Nat) (hb : l[k]? = some b) (hk : 8 ≤ k) (hk' : k < 16) : h0 l (k + 1) = h0 l k ∧ h1 l (k + 1) = h1 l k * 256 + b := by
  unfold h0 h1
  refine ⟨by rw [List.take_take, List.take_take]; congr 2; omega, ?_⟩
  have : ((l.drop 8).take 8)[k - 8]? = some b := by rw [List.getElem?_take, if_pos (by omega), List.getElem?_drop, show 8 + (k - 8) = k by omega]; exact hb
  rw [show k + 1 - 8 = k - 8 + 1 by omega, List.take_add_one, this]; exact num8_snoc _ _
theorem h_more (l : List Nat) (k : Nat) (hk : 16 ≤ k) : h0 l (k + 1) = h0 l k ∧ h1 l (k + 1) = h1 l k := by
  unfold h0 h1
  refine ⟨by rw [List.take_take, List.take_take]; congr 2; omega, by rw [List.take_take, List.take_take]; congr 2; omega⟩
theorem h_all (l : List Nat) (k : Nat) (hk : 16 ≤ k) : h0 l k = num8 (l.take 8) ∧ h1 l k = num8 ((l.drop 8).take 8) := by
  unfold h0 h1
  refine ⟨by rw [List.take_take]; congr 2; omega, by rw [List.take_take]; congr 2; omega⟩
theorem h0_lt (l : List Nat) (h : ∀ x ∈ l, x < 256) (k : Nat) : h0 l k < 18446744073709551616 ∧ h1 l k < 18446744073709551616 :=
  ⟨num8_64 _ (fun x hx => h x (List.mem_of_mem_take (List.mem_of_mem_take hx))) (by simp; omega), num8_64 _ (fun x hx => h x (List.mem_of_mem_drop (List.mem_of_mem_take (List.mem_of_mem_take hx)))) (by simp; omega)⟩
theorem h0_b (l : List Nat) (h : ∀ x ∈ l, x < 256) (k : Nat) (hk : k < 8) : h0 l k < 72057594037927936 :=
  num8_bound (l.take 8) (fun x hx => h x (List.mem_of_mem_take hx)) k (by omega)
theorem h1_b (l : List Nat) (h : ∀ x ∈ l, x < 256) (k : Nat) (hk : k < 16) : h1 l k < 72057594037927936 :=
  num8_bound ((l.drop 8).take 8) (fun x hx => h x (List.mem_of_mem_drop (List.mem_of_mem_take hx))) (k - 8) (by omega)
theorem or8 (a b : Nat) (ha : a < 72057594037927936) (hb : b < 256) : bits .or .u64 (IntKind.u64.wrap ((a : Int) * 256)) (b : Int) = ((a * 256 + b : Nat) : Int) := by
  have e1 : IntKind.u64.wrap ((a : Int) * 256) = ((a * 256 : Nat) : Int) := by rw [IntKind.wrap_u64]; omega
  rw [e1, bits_or_u64_nat (a * 256) b (by omega) (by omega)]
  congr 1
  have h := Nat.two_pow_add_eq_or_of_lt (i := 8) (b := b) (show b < 2 ^ 8 from hb) a
  rw [show (2 : Nat) ^ 8 = 256 from rfl] at h
  rw [Nat.mul_comm a 256]; exact h.symm
end Go.Proofs.Ytaibpldolbemfaa

/- The hash that bytes are, walked: hash.Of. -/
namespace Go.Proofs.Ytaibpldolbemfaa
set_option linter.unusedVariables false
open Go.RowKit Go.Shelf

theorem Reads.get {w : World} {B n : Nat} {A : Option Addr} {l : List Nat} (h : Reads w B 1 A n (bv l)) {k b : Nat} (hb : l[k]? = some b) (ad : Addr) (hA : A = some ad) (hn : 0 < n) : w.cell? (ad.add k) = some (.int .u8 (b : Int)) := by
  obtain ⟨ad', e, _, hc⟩ := h.2 hn
  rw [hA] at e
  cases e
  exact hc k _ (by simp [bv, hb])

end Go.Proofs.Ytaibpldolbemfaa

/- The document's elements of bytes (greatsealref01.Of), walked. -/
namespace Go.Proofs.Ytaibpldolbemfaa
set_option linter.unusedVariables false
open Go.RowKit Go.Shelf

theorem unit_ok (i : Nat) (hi : i ≤ 7) : 256 ^ i ≤ 72057594037927936 := by
  have : 256 ^ i ≤ 256 ^ 7 := Nat.pow_le_pow_right (by decide) hi
  have e : (256 : Nat) ^ 7 = 72057594037927936 := by decide
  omega
theorem ck_lt (l : List Nat) (h : ∀ x ∈ l, x < 256) (j i : Nat) : le ((ck l j).take i) < 256 ^ ((ck l j).take i).length :=
  le_lt _ (fun y hy => h y (List.mem_of_mem_drop (List.mem_of_mem_take (List.mem_of_mem_take hy))))
theorem ck_step (l : List Nat) (h : ∀ x ∈ l, x < 256) (j i b : Nat) (hb : l[7 * j + i]? = some b) (hi : i < cLen l.length j) :
    le ((ck l j).take (i + 1)) = le ((ck l j).take i) + 256 ^ i * b ∧ le ((ck l j).take i) < 256 ^ i ∧ i < 7 := by
  have h7 : i < 7 := by unfold cLen at hi; omega
  have e1 := ck_get l j i hi
  rw [hb] at e1
  have el : ((ck l j).take i).length = i := by rw [List.length_take, ck_length]; omega
  have h2 := ck_lt l h j i
  rw [el] at h2
  refine ⟨?_, h2, h7⟩
  rw [List.take_add_one, e1]
  show le (_ ++ [b]) = _
  rw [le_snoc, el, Nat.mul_comm]
theorem fOf_snoc (l : List Nat) (j : Nat) : (List.range (j + 1)).map (fun j => le (ck l j)) = (List.range j).map (fun j => le (ck l j)) ++ [le (ck l j)] := by simp [List.range_succ]
theorem step_num (n u b : Nat) (hn : n < u) (hu : 256 * u ≤ 72057594037927936) (hb : b < 256) :
    IntKind.u64.wrap ((n : Int) + IntKind.u64.wrap ((u : Int) * (b : Int))) = ((n + u * b : Nat) : Int) ∧ IntKind.u64.wrap ((u : Int) * 256) = ((u * 256 : Nat) : Int) := by
  have h1 : u * b ≤ u * 255 := Nat.mul_le_mul_left _ (by omega)
  have e : (u : Int) * (b : Int) = ((u * b : Nat) : Int) := by simp
  refine ⟨?_, by rw [IntKind.wrap_u64]; omega⟩
  rw [e]
  generalize u * b = t at *
  rw [IntKind.wrap_u64, IntKind.wrap_u64]; omega

set_option maxRecDepth 100000 in
set_option maxHeartbeats 2000000 in
theorem rfOf_any (l : List Nat) (hl : ∀ x ∈ l, x < 256) (hm : l.length ≤ 1099511627776) (A : Option Addr) (c : Nat) (hmc : l.length ≤ c) (w : World) (hr : Reads w w.heap.size 1 A l.length (bv l)) :
    Calls Try.prog 79 #[.slice A l.length c] w fun e w' => ∃ v, e = .returned v ∧ w'.ownsRow w.heap.size 22 1 v (fOf l).length (uv (fOf l)) ∧ Below w.heap.size w w' := by
  obtain ⟨i0, hi, hz0, hz1, hz2⟩ := info_parts Try.infoU64
  obtain ⟨m, hml⟩ : ∃ m, m = l.length := ⟨_, rfl⟩
  rw [← hml] at hm hmc ⊢
  obtain ⟨ad, had⟩ : ∃ ad, 0 < m → A = some ad := by
    rcases A with _ | ad
    · exact ⟨⟨0, 0, none⟩, fun h => by obtain ⟨_, h, _⟩ := hr.2 (by omega); cases h⟩
    · exact ⟨ad, fun _ => rfl⟩
  have HR : Hid (∀ (W : World) (k b : Nat), Below w.heap.size w W → l[k]? = some b → A = some ad ∧ W.cell? (ad.add k) = some (.int .u8 (b : Int))) := Lib.hid (fun W k b hx hb => by
    have hk : k < l.length := (List.getElem?_eq_some_iff.1 hb).1
    have e := had (by omega)
    exact ⟨e, Reads.get (hr.below hx) hb ad e (by omega)⟩)
  have hmi : (m : Int) ≤ 1099511627776 := by omega
  have HM := Lib.hid hml
  have HL := Lib.hid hl
  clear hr hml hl had
  go_enter Try.func79, Try.ntmps79
  go_wp2
  go_loopg [3, 4] (cnt m) (fun g s3 s4 wr => ∃ j : Nat, j + g = cnt m ∧ s4 = .int .i64 ((7 * j : Nat) : Int) ∧ wr.ownsRow w.heap.size 22 1 s3 j (uv ((List.range j).map fun j => le (ck l j))) ∧ Below w.heap.size w wr)
  case atStart => exact ⟨0, by omega, rfl, World.ownsRow_nil _ _ _ _, Below.refl _ _⟩
  case round =>
    obtain ⟨j, hj, rfl, hown, hB⟩ := hrel
    by_cases hlt : 7 * j < m
    · obtain ⟨q, hq⟩ : ∃ q, q = 7 * j := ⟨_, rfl⟩
      rw [← hq] at hlt ⊢
      have HQ := Lib.hid hq
      have HJ := Lib.hid hj
      have z1 : (q : Int) < m := by omega
      obtain ⟨wo, hwo⟩ : ∃ wo : World, wo = wr := ⟨_, rfl⟩
      rw [← hwo] at hown hB ⊢
      have HB := Lib.hid hB
      obtain ⟨G, hG⟩ : ∃ G, G = gk - 1 := ⟨_, rfl⟩
      have HG := Lib.hid hG
      clear hwo hq hj hB hG
      go_wp2
      go_loopg [5, 6, 7] 8 (fun g s5 s6 s7 w2 => ∃ i : Nat, i + g = 8 ∧ i ≤ cLen m j ∧ s5 = .int .u64 ((le ((ck l j).take i) : Nat) : Int) ∧ s6 = .int .u64 ((256 ^ i : Nat) : Int) ∧ s7 = .int .i64 ((q + i : Nat) : Int) ∧ w2 = wo)
      case atStart => exact ⟨0, rfl, Nat.zero_le _, by simp [le], by simp, by simp, rfl⟩
      case round =>
        obtain ⟨i, hi8, hin, rfl, rfl, rfl, rfl⟩ := hrel
        by_cases h : i < cLen m j
        · have hcl := h
          have hqi : q + i < m := by have := HQ.out; unfold cLen at hcl; omega
          obtain ⟨b, hb⟩ : ∃ b, l[q + i]? = some b := ⟨_, List.getElem?_eq_getElem (by rw [← HM.out]; exact hqi)⟩
          obtain ⟨hA, hcell⟩ := HR.out _ (q + i) b HB.out hb
          have hb256 : b < 256 := HL.out b (List.mem_of_getElem? hb)
          obtain ⟨e1, e2, h7⟩ := ck_step l HL.out j i b (by rw [← HQ.out]; exact hb) (by rw [← HM.out]; exact h)
          have hu : 256 * 256 ^ i ≤ 72057594037927936 := by have := unit_ok (i + 1) (by omega); rw [Nat.pow_succ] at this; omega
          obtain ⟨k1, k2⟩ := step_num _ _ b e2 hu hb256
          rw [← e1] at k1
          rw [show 256 ^ i * 256 = 256 ^ (i + 1) from (Nat.pow_succ ..).symm] at k2
          obtain ⟨x, hx⟩ : ∃ x, x = le ((ck l j).take i) := ⟨_, rfl⟩
          obtain ⟨y, hy⟩ : ∃ y, y = le ((ck l j).take (i + 1)) := ⟨_, rfl⟩
          obtain ⟨u, hu'⟩ : ∃ u, u = 256 ^ i := ⟨_, rfl⟩
          obtain ⟨u2, hu2⟩ : ∃ u, u = 256 ^ (i + 1) := ⟨_, rfl⟩
          obtain ⟨p, hp⟩ : ∃ p, p = q + i := ⟨_, rfl⟩
          rw [← hx, ← hu', ← hy] at k1
          rw [← hu', ← hu2] at k2
          rw [← hp] at hcell hqi
          rw [← hx, ← hu', ← hp]
          have z2 : (p : Int) < m := by omega
          have z3 : (p : Int) < (q : Int) + 7 := by omega
          have HY := Lib.hid hy
          have HU := Lib.hid hu2
          have HP := Lib.hid hp
          have H8 := Lib.hid hi8
          have HC := Lib.hid hcl
          have K1 := Lib.hid k1
          have K2 := Lib.hid k2
          have zb : (b : Int) < 256 := by omega
          subst hA
          clear hx hy hu' hu2 hp e1 e2 hu hb hb256 hqi hlt hi8 hcl h hin k1 k2
          go_wp2
          have hi8 := H8.out
          have hcl := HC.out
          have hp := HP.out
          go_roundg (gk - 1)
          case measure => omega
          case rel => exact ⟨i + 1, by omega, by omega, by rw [K1.out, HY.out], by rw [K2.out, HU.out], int_congr (by omega), rfl⟩
        · obtain rfl : i = cLen m j := by omega
          have e1 : (ck l j).take (cLen m j) = ck l j := List.take_of_length_le (by rw [ck_length, ← HM.out]; exact Nat.le_refl _)
          rw [e1]
          have hfs := fOf_snoc l j
          obtain ⟨x, hx⟩ : ∃ x, x = le (ck l j) := ⟨_, rfl⟩
          obtain ⟨p, hp⟩ : ∃ p, p = q + cLen m j := ⟨_, rfl⟩
          rw [← hx] at hfs ⊢
          rw [← hp]
          have hx' : p ≤ m ∧ (p < m → ¬ p < q + 7) := by have := HQ.out; unfold cLen at hp; omega
          obtain ⟨hpm, hp7⟩ := hx'
          have z5 : (p : Int) ≤ m := by omega
          have HF := Lib.hid hfs
          have hjm : j + 1 ≤ cnt m ∧ cnt m ≤ 1099511627776 := by have := HQ.out; unfold cnt; omega
          obtain ⟨hjc, hcm⟩ := hjm
          have HJC := Lib.hid hjc
          have HCM := Lib.hid hcm
          have HO := hown
          generalize (256 ^ cLen m j : Nat) = u at *
          clear hx hfs hp e1 hi8 hin h hlt hjc hcm hown hm hmc
          have q1 : ∀ u ∈ [Value.int .u64 (x : Int)], u.oneCell' = true := by simp [Value.oneCell']
          by_cases hpl : p < m
          all_goals (
            have hd : decide ((p : Int) < (m : Int)) = decide (p < m) := by simp
            first
              | (have z6 : (p : Int) < m := by omega)
              | (have z6 : ¬ (p : Int) < m := by omega)
            try (have z7 : ¬ (p : Int) < (q : Int) + 7 := by have := hp7 hpl; omega)
            clear hd hp7 hpl hpm
            go_wp2_with (at_builtin; refine wpList_append_own _ rfl (.tmp 38) (.tmp 40) 52 rfl w.heap.size 22 i0 (.int .u64 0) 1 8 Try.underlying52 hi hz0 hz1 hz2 rfl (by decide) _ _ _ rfl (HO.alloc _) ⟨_, 0, none⟩ 1 1 [.int .u64 (x : Int)] rfl rfl (cell_one_new _ _ _) q1 (by have := HJC.out; have := HCM.out; unfold maxLen; omega) (by have := HJC.out; have := HCM.out; omega) (by have := HB.out.size; simp; omega) ?_; intro v' w1 hown1 hg1 _)
            have B1 : Hid (Below w.heap.size w w1) := Lib.hid ((HB.out.alloc HB.out.size _).grown hg1 (by have := HB.out.size; simp; omega) (own_ge HO))
            have O1 : Hid (w1.ownsRow w.heap.size 22 1 v' (j + 1) (uv ((List.range (j + 1)).map fun j => le (ck l j)))) := by
              show World.ownsRow _ _ _ _ _ _ _
              rw [HF.out, uv_append]; exact hown1
            clear hown1 hg1 HO
            go_roundg G
            case measure => have := HG.out; have := HJ.out; have := HJC.out; omega
            case rel => exact ⟨j + 1, by have := HG.out; have := HJ.out; have := HJC.out; omega, int_congr (by have := HQ.out; omega), O1.out, B1.out⟩)
    · obtain rfl : j = cnt m := by unfold cnt at hj ⊢; omega
      have HO : Hid (wr.ownsRow w.heap.size 22 1 u3 (fOf l).length (uv (fOf l))) := by
        show World.ownsRow _ _ _ _ _ _ _
        unfold fOf; rw [← HM.out, List.length_map, List.length_range]; exact hown
      have HB := Lib.hid hB
      obtain ⟨q, hq⟩ : ∃ q, q = 7 * cnt m := ⟨_, rfl⟩
      rw [← hq] at hlt ⊢
      have z1 : ¬ (q : Int) < m := by omega
      clear hq hlt hown hB hj
      go_wp2
      go_ret
      exact ⟨_, rfl, HO.out, HB.out⟩
end Go.Proofs.Ytaibpldolbemfaa
