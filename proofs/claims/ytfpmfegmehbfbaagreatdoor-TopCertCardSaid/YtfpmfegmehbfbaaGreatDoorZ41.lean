/- Parts of the proofs, put together: CtG6. -/
import Derived.Test.YtfpmfegmehbfbaaGreatDoorZ40
/- A certificate's readers, walked: body. -/
namespace Go.Proofs.YtfpmfegmehbfbaaGreatDoor
set_option linter.unusedVariables false
set_option linter.unusedSimpArgs false
set_option linter.unusedSimpArgs false
open Go.RowKit Go.Shelf Go.Maps

theorem prm_nat {p : PrmR} (h : prmC p) : ∃ m1 m2 l0 l1 e s : Nat, p = ⟨(m1 : Int), (m2 : Int), l0, l1, e, s⟩ ∧ m1 < 9223372036854775808 ∧ m2 < 9223372036854775808 ∧ l0 < 9223372036854775808 ∧ l1 < 9223372036854775808 ∧ e < 9223372036854775808 ∧ s < 9223372036854775808 := by
  obtain ⟨lg, a, l0, l1, e, s⟩ := p
  obtain ⟨⟨h1, h1'⟩, ⟨h2, h2'⟩, h3, h4, h5, h6⟩ := h
  dsimp only at *
  obtain ⟨n, rfl⟩ : ∃ n : Nat, lg = n := ⟨lg.toNat, by omega⟩
  obtain ⟨m, rfl⟩ : ∃ n : Nat, a = n := ⟨a.toNat, by omega⟩
  exact ⟨n, m, l0, l1, e, s, rfl, by omega, by omega, by omega, by omega, by omega, by omega⟩
theorem Tryz.infoPrm : (Tryz.prog.info? 55).map (fun i => (i.zero, i.size, i.bytes)) = some (some (.agg #[.int .i64 0, .int .i64 0, .int .u64 0, .int .u64 0, .int .u64 0, .int .u64 0]), 6, 48) := by kernel_rfl
set_option maxRecDepth 100000 in
set_option maxHeartbeats 16000000 in
theorem rbody_any (c : CrtR) (hg : GoodC c) (P : List Nat) (p : Nat) (w : World) (h : RdrW w P p [preT c, .s (c.proms.map prmT)]) :
    Calls Tryz.prog 79 #[.pointer (some ⟨p, 0, none⟩)] w fun e w' => ∃ nA nc pA pc mA mc, e = .returned (crtV ⟨bareC c true, nA, nc, pA, pc, mA, mc⟩) ∧ RdS w' (fun b => w.heap.size ≤ b ∧ Mut P w' b) 1 nA c.names.length (c.names.map .string) ∧ RdS w' (fun b => w.heap.size ≤ b ∧ Mut P w' b) 1 pA c.perm.length (c.perm.map .string) ∧ RdS w' (fun b => w.heap.size ≤ b ∧ Mut P w' b) 6 mA c.proms.length (prmV c.proms) ∧ RdrW w' P p [] ∧ w.grownBy w' (some p) := by
  obtain ⟨i0, hi, hz0, hz1, hz2⟩ := info_parts Tryz.infoPrm
  obtain ⟨ser, iss, sub, key, names, frm, unt, ca, dep, perm, proms, e, s⟩ := c
  have hpw := h.pl p h.pm
  have HPL := Lib.hid h.pl
  have HPM := Lib.hid h.pm
  have hpr := hg.proms
  have hs0 := PrS.new #[.int .i64 0, .string ⟨#[]⟩, .string ⟨#[]⟩, .int .u64 0, .slice none 0 0, .int .i64 0, .int .i64 0, .bool false, .int .i64 0, .slice none 0 0, .slice none 0 0, .int .u64 0, .int .u64 0] h
  obtain ⟨W0, e0⟩ : ∃ W, w.alloc (.cells #[.int .i64 0, .string ⟨#[]⟩, .string ⟨#[]⟩, .int .u64 0, .slice none 0 0, .int .i64 0, .int .i64 0, .bool false, .int .i64 0, .slice none 0 0, .slice none 0 0, .int .u64 0, .int .u64 0] 67) = W := ⟨_, rfl⟩
  have hsz : W0.heap.size = w.heap.size + 1 := by rw [← e0]; exact World.size_alloc _ _
  have g0 : w.grownBy W0 (some p) := by rw [← e0]; exact World.grownBy_alloc _ _ _
  rw [e0] at hs0
  have c1 := sub_any (preL ⟨ser, iss, sub, key, names, frm, unt, ca, dep, perm, proms, e, s⟩) [.s (proms.map prmT)] (w.heap.size :: P) p W0 hs0.rd
  have c2 := fun (P : List Nat) (p : Nat) (w : World) (h : RdrW w P p (preL ⟨ser, iss, sub, key, names, frm, unt, ca, dep, perm, proms, e, s⟩)) => rpre_any ⟨ser, iss, sub, key, names, frm, unt, ca, dep, perm, proms, e, s⟩ hg P p w h
  unfold crtV crtC bareC at c2 ⊢
  dsimp only at c2 hpr ⊢
  simp only [if_true] at ⊢
  have HB0 := Lib.hid hs0.b
  have HG0 := Lib.hid g0
  have HSZ := Lib.hid hsz
  have HPR := Lib.hid hpr.1
  have HPW := Lib.hid hpw
  have hn4 : proms.length ≤ 4 := hpr.2
  clear h hg hs0 g0 hsz hpr hpw
  go_enter Tryz.func79, Tryz.ntmps79
  go_upto_region 1 with (fail)
  try rw [e0]
  clear e0
  go_upto_region 2 with (first | (go_at_call 151; refine c1.mono ?_; clear c1; rintro e w1 ⟨q1, rfl, hq1, hq1', h1, hp1, g1⟩; have c3 := c2 _ q1 w1 h1; clear c2) | (go_at_call 81; refine c3.mono ?_; clear c3; rintro e w2 ⟨nA, nc, pA, pc, rfl, r1, r2, -, g2⟩))
  have hqp : q1 ≠ p := by have := HPW.out; have := HSZ.out; omega
  have hp2 := hp1.to g2 (fun k e => by cases e; exact ⟨List.mem_cons_self .., hqp⟩) (fun b hb => .inl hb) hp1.pm
  have t12 := PrS.new #[.int .i64 ser, .string iss, .string sub, .int .u64 (key : Int), .slice nA names.length nc, .int .i64 frm, .int .i64 unt, .bool ca, .int .i64 dep, .slice pA perm.length pc, .slice none 0 0, .int .u64 0, .int .u64 0] hp2
  obtain ⟨U12, eU⟩ : ∃ W, w2.alloc (.cells #[.int .i64 ser, .string iss, .string sub, .int .u64 (key : Int), .slice nA names.length nc, .int .i64 frm, .int .i64 unt, .bool ca, .int .i64 dep, .slice pA perm.length pc, .slice none 0 0, .int .u64 0, .int .u64 0] 67) = W := ⟨_, rfl⟩
  rw [eU] at t12 ⊢
  clear eU
  have c4 := sub_any (proms.map prmT) [] _ p U12 t12.rd
  go_upto_region 3 with (go_at_call 151; refine c4.mono ?_; clear c4; rintro e w4 ⟨q2, rfl, hq2, hq2', h4, hp4, g4⟩)
  have hx0 : BoS w w4 P (q2 :: w2.heap.size :: q1 :: w.heap.size :: P) p w.heap.size w2.heap.size q2 [] (proms.map prmT) #[.int .i64 0, .string ⟨#[]⟩, .string ⟨#[]⟩, .int .u64 0, .slice none 0 0, .int .i64 0, .int .i64 0, .bool false, .int .i64 0, .slice none 0 0, .slice none 0 0, .int .u64 0, .int .u64 0] #[.int .i64 ser, .string iss, .string sub, .int .u64 (key : Int), .slice nA names.length nc, .int .i64 frm, .int .i64 unt, .bool ca, .int .i64 dep, .slice pA perm.length pc, .slice none 0 0, .int .u64 0, .int .u64 0] [⟨1, nA, names.length, names.map .string⟩, ⟨1, pA, perm.length, perm.map .string⟩] w4.heap.size 0 none 0 [] := by
    have hsz := HSZ.out
    have hpw := HPW.out
    have z1 := g1.size
    have z2 := g2.size
    have z3 := t12.b.lt
    have z4 := g4.size
    have gg : w.grownBy w2 (some p) := (HG0.out.trans g1).andThen g2 (fun j e => by cases e; exact .inl (by omega))
    refine ⟨hp4, h4, Blk.grown (Blk.grown (Blk.grown (Blk.grown HB0.out g1 ?_) g2 ?_) t12.g ?_) g4 ?_, Blk.grown t12.b g4 ?_, (gg.trans t12.g).trans g4, by simp, by simp, fun k e => (by cases e), fun b hb => by simp [hb], World.ownsRow_nil _ _ _ _, fun r hr => ?_, ⟨Nat.le_refl _, by omega, by omega, by omega⟩, ⟨by omega, by omega, by omega, by omega, by omega, by omega⟩, ⟨by omega, by omega, by omega, by omega, fun b hb => by have := HPL.out b hb; omega⟩⟩
    · intro e; injection e with e; omega
    · intro e; injection e with e; omega
    · intro e; injection e with e; omega
    · intro e; injection e with e; omega
    · intro e; injection e with e; omega
    · have key : ∀ (A : Option Addr) (n : Nat) (xs : List Value), RdS w2 (fun b => w1.heap.size ≤ b ∧ Mut (q1 :: w.heap.size :: P) w2 b) 1 A n xs → RdS w4 (fun b => w.heap.size ≤ b ∧ Mut (q2 :: w2.heap.size :: q1 :: w.heap.size :: P) w4 b) 1 A n xs := fun A n xs h5 => by
        have h6 : RdS w2 (fun b => w.heap.size ≤ b ∧ Mut (q1 :: w.heap.size :: P) w2 b) 1 A n xs := h5.keep (fun _ _ => rfl) (fun b hb => ⟨by have := hb.1; omega, hb.2⟩)
        have h7 : RdS U12 (fun b => w.heap.size ≤ b ∧ Mut (w2.heap.size :: q1 :: w.heap.size :: P) U12 b) 1 A n xs := h6.fresh t12.g (fun k e => by cases e; exact hp2.pm) (fun b hb => by
          rcases List.mem_cons.1 hb with e | e
          · exact .inr (by omega)
          · exact .inl e)
        exact h7.fresh g4 (fun k e => by cases e; exact t12.rd.pm) (fun b hb => by
          rcases List.mem_cons.1 hb with e | e
          · exact .inr (by omega)
          · exact .inl e)
      simp only [List.mem_cons, List.not_mem_nil, or_false] at hr
      rcases hr with rfl | rfl
      · exact key _ _ _ r1
      · exact key _ _ _ r2
  have HX0 := Lib.hid hx0
  clear hx0 h4 hp4 g4 t12 hp2 hp1 h1 g1 g2 r1 r2 hq1 hq1' hq2 hq2' hqp
  go_loopg [5] proms.length (fun gm s5 wr => ∃ (j : Nat) (AL : Option Addr) (cL : Nat) (PP : List Nat), j + gm = proms.length ∧ w4.heap.size ≤ wr.heap.size ∧ BoS w wr P PP p w.heap.size w2.heap.size q2 [] ((proms.drop j).map prmT) #[.int .i64 0, .string ⟨#[]⟩, .string ⟨#[]⟩, .int .u64 0, .slice none 0 0, .int .i64 0, .int .i64 0, .bool false, .int .i64 0, .slice none 0 0, .slice none 0 0, .int .u64 0, .int .u64 0] #[.int .i64 ser, .string iss, .string sub, .int .u64 (key : Int), .slice nA names.length nc, .int .i64 frm, .int .i64 unt, .bool ca, .int .i64 dep, .slice pA perm.length pc, .slice AL j cL, .int .u64 0, .int .u64 0] [⟨1, nA, names.length, names.map .string⟩, ⟨1, pA, perm.length, perm.map .string⟩] w4.heap.size j AL cL (prmV (proms.take j)))
  case atStart => exact ⟨0, none, 0, _, by omega, Nat.le_refl _, HX0.out⟩
  case round =>
    obtain ⟨j, AL, cL, PP, hj, hbw, hx⟩ := hrel
    obtain ⟨A, c, vs, b0, -, -, -⟩ := hx.rq.rd
    have hjb : (j : Int) ≤ 4 := by omega
    by_cases h : j < proms.length
    · obtain ⟨x, hsj⟩ : ∃ s, proms[j]? = some s := ⟨_, List.getElem?_eq_getElem h⟩
      have hd : proms.drop j = x :: proms.drop (j + 1) := by
        rw [List.drop_eq_getElem_cons h]
        rw [List.getElem?_eq_getElem h] at hsj
        injection hsj with e
        rw [e]
      have htk : prmV (proms.take (j + 1)) = prmV (proms.take j) ++ prmL x := by rw [List.take_add_one, hsj, prmV_append]; simp [prmV]
      have hpx := HPR.out x (List.mem_of_getElem? hsj)
      obtain ⟨m1, m2, l0, l1, xe, xs, rfl, hm1, hm2, hl0, hl1, hxe, hxs⟩ := prm_nat hpx
      have cS := sub_any [natT m1, natT m2, natT l0, natT l1, natT xe, natT xs] ((proms.drop (j + 1)).map prmT) PP q2 wr (by have := hx.rq; rw [hd] at this; exact this)
      obtain ⟨M, hM⟩ : ∃ M, ((proms.drop j).map prmT).length = M := ⟨_, rfl⟩
      rw [hM] at b0
      have e1 : decide (0 < M) = true := by
        rw [List.length_map, List.length_drop] at hM
        simp
        omega
      have y0 := b0.cell 0
      have HJ := Lib.hid hj
      have HT := Lib.hid htk
      have HXX := Lib.hid hx
      have hjn : j < proms.length := h
      clear b0 hM hd htk hsj hx hj h hpx
      go_upto_region 5 with (go_at_call 151; refine cS.mono ?_; clear cS; rintro e w5 ⟨q3, rfl, hq3, hq3', h5, hq5, g5⟩)
      clear y0
      have hx5 := BoS.chg HXX.out g5 (fun k e => by
        cases e
        have hx := HXX.out
        have d1 := hx.d1
        have d2 := hx.d2
        have d3 := hx.d3
        exact ⟨hx.rq.pm, d2.2.2.1, d2.2.2.2.2.1, d2.2.2.2.2.2, fun e => by have := own_ge hx.row _ e; omega, d1.2.2.1⟩) [q3] (fun b hb => by rw [List.mem_singleton.1 hb]; exact ⟨hq3, hq3'⟩) hq5
      have hq3n : w.heap.size ≤ q3 ∧ q3 ≠ p ∧ q3 ≠ w.heap.size ∧ q3 ≠ w2.heap.size ∧ q3 ≠ q2 ∧ (Value.slice AL j cL).ownBlock ≠ some q3 := by
        have hx := HXX.out
        have k0 := hx.b0.lt
        have k1 := hx.b1.lt
        have k2 := hx.rq.pl _ hx.rq.pm
        have k3 := hx.rp.pl _ hx.rp.pm
        exact ⟨by omega, by omega, by omega, by omega, by omega, fun e => by have := (hx.row.lt _ e).2; omega⟩
      have HN : Hid (some w2.heap.size ≠ some q3) := Lib.hid (fun e => by injection e with e; exact hq3n.2.2.2.1 e.symm)
      have HNO : Hid (some w2.heap.size ≠ (Value.slice AL j cL).ownBlock) := Lib.hid (fun e => by have hx := HXX.out; have := own_ge hx.row _ e.symm; have := hx.d3.2.1; omega)
      have HX5 := Lib.hid hx5
      have HBW : Hid (w4.heap.size ≤ w5.heap.size) := Lib.hid (by have := g5.size; have := hbw; omega)
      have HQ3 := Lib.hid hq3n
      clear hx5 hq3n hq5 g5 hq3 hq3'
      refine E_start (n := 21) (ls := #[false, false, false, false, false, false, false, false, false, false, false, false, false, false, false, false, false, false, false, false, false]) (fun w' => w'.cell? ⟨w2.heap.size, 10, none⟩ = some (.slice AL j cL)) 20 (by kernel_rfl) (by kernel_rfl) (by kernel_rfl) ((Blk.drew HX5.out.b1).cell 10) (fun hHeld => ?_)
      refine E_tk (i := 0) (some 19) (v := ?_) rfl rfl (by kernel_rfl) hHeld (fun w hSw => ?_) ?_; rotate_left 1
      · (try dsimp only at hSw); go_simp; try with_reducible rfl
      try simp only [Act.put, List.setIfInBounds_toArray, List.set_cons_zero, List.set_cons_succ]
      refine E_tk (i := 1) (some 20) (v := ?_) rfl rfl (by kernel_rfl) hHeld (fun w hSw => ?_) ?_; rotate_left 1
      · (try dsimp only at hSw); go_simp; try with_reducible rfl
      try simp only [Act.put, List.setIfInBounds_toArray, List.set_cons_zero, List.set_cons_succ]
      refine E_tk (i := 2) (some 21) (v := ?_) rfl rfl (by kernel_rfl) hHeld (fun w hSw => ?_) ?_; rotate_left 1
      · (try dsimp only at hSw); go_simp; try with_reducible rfl
      try simp only [Act.put, List.setIfInBounds_toArray, List.set_cons_zero, List.set_cons_succ]
      refine E_tk (i := 4) (some 23) (v := ?_) rfl rfl (by kernel_rfl) hHeld (fun w hSw => ?_) ?_; rotate_left 1
      · (try dsimp only at hSw); go_simp; try with_reducible rfl
      try simp only [Act.put, List.setIfInBounds_toArray, List.set_cons_zero, List.set_cons_succ]
      refine E_tk (i := 6) (some 25) (v := ?_) rfl rfl (by kernel_rfl) hHeld (fun w hSw => ?_) ?_; rotate_left 1
      · (try dsimp only at hSw); go_simp; try with_reducible rfl
      try simp only [Act.put, List.setIfInBounds_toArray, List.set_cons_zero, List.set_cons_succ]
      refine E_tk (i := 8) (some 27) (v := ?_) rfl rfl (by kernel_rfl) hHeld (fun w hSw => ?_) ?_; rotate_left 1
      · (try dsimp only at hSw); go_simp; try with_reducible rfl
      try simp only [Act.put, List.setIfInBounds_toArray, List.set_cons_zero, List.set_cons_succ]
      refine E_tk (i := 11) (some 30) (v := ?_) rfl rfl (by kernel_rfl) hHeld (fun w hSw => ?_) ?_; rotate_left 1
      · (try dsimp only at hSw); go_simp; try with_reducible rfl
      try simp only [Act.put, List.setIfInBounds_toArray, List.set_cons_zero, List.set_cons_succ]
      refine E_tk (i := 13) (some 32) (v := ?_) rfl rfl (by kernel_rfl) hHeld (fun w hSw => ?_) ?_; rotate_left 1
      · (try dsimp only at hSw); go_simp; try with_reducible rfl
      try simp only [Act.put, List.setIfInBounds_toArray, List.set_cons_zero, List.set_cons_succ]
      refine E_on (i := 3) rfl (by kernel_rfl) (by kernel_rfl) (fun K hK => ?_)
      go_simp
      go_at_call 156
      refine (count_any m1 hm1 _ _ q3 _ (h5.ext (Ext.refl w5).drew)).mono ?_
      rintro e w22 ⟨rfl, h22, g22⟩
      have G22 : w5.grownBy w22 (some q3) := (grown_drew w5 _).trans g22
      replace hHeld := (Blk.grown HX5.out.b1 G22 HN.out).cell 10
      refine hK _ _ (fun _ => hHeld) ?_
      clear hK K
      try simp only [Act.put, List.setIfInBounds_toArray, List.set_cons_zero, List.set_cons_succ]
      refine E_on (i := 5) rfl (by kernel_rfl) (by kernel_rfl) (fun K hK => ?_)
      go_simp
      go_at_call 156
      refine (count_any m2 hm2 _ _ q3 _ h22).mono ?_
      rintro e w24 ⟨rfl, h24, g24⟩
      have G24 : w5.grownBy w24 (some q3) := G22.trans g24
      replace hHeld := (Blk.grown HX5.out.b1 G24 HN.out).cell 10
      refine hK _ _ (fun _ => hHeld) ?_
      clear hK K
      try simp only [Act.put, List.setIfInBounds_toArray, List.set_cons_zero, List.set_cons_succ]
      refine E_on (i := 7) rfl (by kernel_rfl) (by kernel_rfl) (fun K hK => ?_)
      go_simp
      go_at_call 152
      refine (rbig_any l0 hl0 _ _ q3 _ h24).mono ?_
      rintro e w26 ⟨rfl, h26, g26⟩
      have G26 : w5.grownBy w26 (some q3) := G24.trans g26
      replace hHeld := (Blk.grown HX5.out.b1 G26 HN.out).cell 10
      refine hK _ _ (fun _ => hHeld) ?_
      clear hK K
      try simp only [Act.put, List.setIfInBounds_toArray, List.set_cons_zero, List.set_cons_succ]
      refine E_on (i := 9) rfl (by kernel_rfl) (by kernel_rfl) (fun K hK => ?_)
      go_simp
      go_at_call 152
      refine (rbig_any l1 hl1 _ _ q3 _ h26).mono ?_
      rintro e w28 ⟨rfl, h28, g28⟩
      have G28 : w5.grownBy w28 (some q3) := G26.trans g28
      replace hHeld := (Blk.grown HX5.out.b1 G28 HN.out).cell 10
      refine hK _ _ (fun _ => hHeld) ?_
      clear hK K
      try simp only [Act.put, List.setIfInBounds_toArray, List.set_cons_zero, List.set_cons_succ]
      refine E_tk (i := 10) (some 29) (v := ?_) rfl rfl (by kernel_rfl) hHeld (fun w hSw => ?_) ?_; rotate_left 1
      · (try dsimp only at hSw); go_simp; try with_reducible rfl
      try simp only [Act.put, List.setIfInBounds_toArray, List.set_cons_zero, List.set_cons_succ]
      refine E_on (i := 12) rfl (by kernel_rfl) (by kernel_rfl) (fun K hK => ?_)
      go_simp
      go_at_call 152
      refine (rbig_any xe hxe _ _ q3 _ h28).mono ?_
      rintro e w31 ⟨rfl, h31, g31⟩
      have G31 : w5.grownBy w31 (some q3) := G28.trans g31
      replace hHeld := (Blk.grown HX5.out.b1 G31 HN.out).cell 10
      refine hK _ _ (fun _ => hHeld) ?_
      clear hK K
      try simp only [Act.put, List.setIfInBounds_toArray, List.set_cons_zero, List.set_cons_succ]
      refine E_on (i := 14) rfl (by kernel_rfl) (by kernel_rfl) (fun K hK => ?_)
      go_simp
      go_at_call 152
      refine (rbig_any xs hxs _ _ q3 _ h31).mono ?_
      rintro e w33 ⟨rfl, h33, g33⟩
      have G33 : w5.grownBy w33 (some q3) := G31.trans g33
      replace hHeld := (Blk.grown HX5.out.b1 G33 HN.out).cell 10
      refine hK _ _ (fun _ => hHeld) ?_
      clear hK K
      try simp only [Act.put, List.setIfInBounds_toArray, List.set_cons_zero, List.set_cons_succ]
      refine E_tk (i := 15) (some 34) (v := ?_) rfl rfl (by kernel_rfl) hHeld (fun w hSw => ?_) ?_; rotate_left 1
      · (try dsimp only at hSw); go_simp; try with_reducible rfl
      try simp only [Act.put, List.setIfInBounds_toArray, List.set_cons_zero, List.set_cons_succ]
      refine E_tk (i := 16) (some 35) (v := ?_) rfl rfl (by kernel_rfl) hHeld (fun w hSw => ?_) ?_; rotate_left 1
      · (try dsimp only at hSw); go_simp; try with_reducible rfl
      try simp only [Act.put, List.setIfInBounds_toArray, List.set_cons_zero, List.set_cons_succ]
      refine E_on (i := 17) rfl (by kernel_rfl) (by kernel_rfl) (fun K hK => ?_)
      go_simp
      replace hHeld := ((Blk.grown HX5.out.b1 G33 HN.out).alloc (.cells #[.int .i64 (m1 : Int), .int .i64 (m2 : Int), .int .u64 (l0 : Int), .int .u64 (l1 : Int), .int .u64 (xe : Int), .int .u64 (xs : Int)] 55)).cell 10
      refine hK _ _ (fun _ => hHeld) ?_
      clear hK K
      try simp only [Act.put, List.setIfInBounds_toArray, List.set_cons_zero, List.set_cons_succ]
      refine E_on (i := 18) rfl (by kernel_rfl) (by kernel_rfl) (fun K hK => ?_)
      have hoR := own_ext (HX5.out.row.kept G33 (.inr HQ3.out.2.2.2.2.2)) ((Ext.refl w33).alloc (.cells #[.int .i64 (m1 : Int), .int .i64 (m2 : Int), .int .u64 (l0 : Int), .int .u64 (l1 : Int), .int .u64 (xe : Int), .int .u64 (xs : Int)] 55))
      have hHs : w4.heap.size ≤ (w33.alloc (.cells #[.int .i64 (m1 : Int), .int .i64 (m2 : Int), .int .u64 (l0 : Int), .int .u64 (l1 : Int), .int .u64 (xe : Int), .int .u64 (xs : Int)] 55)).heap.size := by rw [World.size_alloc]; have := HX5.out.row; have k1 := G33.size; have k2 := HXX.out.g; have k3 := HBW.out; omega
      refine wp_append_any _ (.tmp 20) (.tmp 36) 30 rfl w4.heap.size 55 i0 (.agg #[.int .i64 0, .int .i64 0, .int .u64 0, .int .u64 0, .int .u64 0, .int .u64 0]) 6 48 Tryz.underlying30 hi hz0 hz1 hz2 rfl (by decide) (.slice AL j cL) j (prmV (proms.take j)) rfl hoR _ (some ⟨w33.heap.size, 0, none⟩) 1 1 [.int .i64 (m1 : Int), .int .i64 (m2 : Int), .int .u64 (l0 : Int), .int .u64 (l1 : Int), .int .u64 (xe : Int), .int .u64 (xs : Int)] rfl (reads_rows w33 55 _) (by simp [Value.oneCell']) (by simp only [maxLen]; omega) (by omega) hHs ?_
      intro v37 w37 ho37 hg37 hb37
      obtain ⟨A6, c6, rfl, -, -⟩ := own_slice2 ho37
      have k3 := Blk.grown ((Blk.grown HX5.out.b1 G33 HN.out).alloc (.cells #[.int .i64 (m1 : Int), .int .i64 (m2 : Int), .int .u64 (l0 : Int), .int .u64 (l1 : Int), .int .u64 (xe : Int), .int .u64 (xs : Int)] 55)) hg37 HNO.out
      have n10 := k3.cell 10
      have f10 := k3.frozen 10
      replace hHeld := k3.cell 10
      refine hK _ _ (fun _ => hHeld) ?_
      clear hK K
      try simp only [Act.put, List.setIfInBounds_toArray, List.set_cons_zero, List.set_cons_succ]
      refine E_on (i := 19) rfl (by kernel_rfl) (by kernel_rfl) (fun K hK => ?_)
      go_simp
      refine hK _ _ (fun _ => hHeld) ?_
      clear hK K
      try simp only [Act.put, List.setIfInBounds_toArray, List.set_cons_zero, List.set_cons_succ]
      refine E_on (i := 20) rfl (by kernel_rfl) (by kernel_rfl) (fun K hK => ?_)
      go_simp
      refine hK _ _ (fun h => absurd rfl h) ?_
      clear hK K
      try simp only [Act.put, List.setIfInBounds_toArray, List.set_cons_zero, List.set_cons_succ]
      refine E_done (by kernel_rfl) ?_
      clear n10 f10 k3
      have ho38 : w37.ownsRow w4.heap.size 55 6 (.slice A6 (j + 1) c6) (j + 1) (prmV (proms.take (j + 1))) := by rw [HT.out]; exact ho37
      obtain ⟨PP', hx8, h8⟩ := BoS.round HX5.out HQ3.out h33 G33 ho38 hg37 hb37 (.slice A6 (j + 1) c6)
      obtain ⟨W8, e8⟩ : ∃ W, w37.setCell ⟨w2.heap.size, 10, none⟩ (.slice A6 (j + 1) c6) = W := ⟨_, rfl⟩
      rw [e8] at hx8 h8 ⊢
      have cE := end_any PP' q3 W8 h8
      have HX8 := Lib.hid hx8
      have HB8 : Hid (w4.heap.size ≤ W8.heap.size) := Lib.hid (by rw [← e8, World.size_setCell]; have := hg37.size; have := hHs; omega)
      clear hx8 h8 e8 ho38 ho37 hg37 hb37 h5 h22 h24 h26 h28 h31 h33 g22 g24 g26 g28 g31 g33 G22 G24 G26 G28 G31 G33 hoR hHs
      go_wp2_with (go_at_call 153; refine cE.mono ?_; clear cE; rintro e w9 ⟨rfl, rfl⟩)
      go_roundg (gk - 1)
      case measure => have := HJ.out; omega
      case rel => exact ⟨j + 1, A6, c6, PP', by have := HJ.out; omega, HB8.out, HX8.out⟩
    · obtain rfl : j = proms.length := by omega
      have e1 : decide (0 < ((proms.drop proms.length).map prmT).length) = false := by simp
      obtain ⟨M, hM⟩ : ∃ M, ((proms.drop proms.length).map prmT).length = M := ⟨_, rfl⟩
      rw [hM] at b0 e1
      have y0 := b0.cell 0
      have cE := end_any PP p wr hx.rp
      have HXX := Lib.hid hx
      have k0 := hx.b1.cell 0
      have z0 := hx.b0.cell 0
      have f0 := hx.b0.frozen 0
      have k1 := hx.b1.cell 1
      have z1 := hx.b0.cell 1
      have f1 := hx.b0.frozen 1
      have k2 := hx.b1.cell 2
      have z2 := hx.b0.cell 2
      have f2 := hx.b0.frozen 2
      have k3 := hx.b1.cell 3
      have z3 := hx.b0.cell 3
      have f3 := hx.b0.frozen 3
      have k4 := hx.b1.cell 4
      have z4 := hx.b0.cell 4
      have f4 := hx.b0.frozen 4
      have k5 := hx.b1.cell 5
      have z5 := hx.b0.cell 5
      have f5 := hx.b0.frozen 5
      have k6 := hx.b1.cell 6
      have z6 := hx.b0.cell 6
      have f6 := hx.b0.frozen 6
      have k7 := hx.b1.cell 7
      have z7 := hx.b0.cell 7
      have f7 := hx.b0.frozen 7
      have k8 := hx.b1.cell 8
      have z8 := hx.b0.cell 8
      have f8 := hx.b0.frozen 8
      have k9 := hx.b1.cell 9
      have z9 := hx.b0.cell 9
      have f9 := hx.b0.frozen 9
      have k10 := hx.b1.cell 10
      have z10 := hx.b0.cell 10
      have f10 := hx.b0.frozen 10
      have k11 := hx.b1.cell 11
      have z11 := hx.b0.cell 11
      have f11 := hx.b0.frozen 11
      have k12 := hx.b1.cell 12
      have z12 := hx.b0.cell 12
      have f12 := hx.b0.frozen 12
      clear b0 hM hx hj h
      go_wp2_with (go_at_call 153; refine cE.mono ?_; clear cE; rintro e w9 ⟨rfl, rfl⟩)
      clear k0 z0 f0 k1 z1 f1 k2 z2 f2 k3 z3 f3 k4 z4 f4 k5 z5 f5 k6 z6 f6 k7 z7 f7 k8 z8 f8 k9 z9 f9 k10 z10 f10 k11 z11 f11 k12 z12 f12
      have bb := HXX.out.b0
      have gg : wr.grownBy wr (some w.heap.size) := ⟨rfl, rfl, rfl, Nat.le_refl _, fun _ _ _ => rfl⟩
      obtain ⟨V0, eV0⟩ : ∃ W, wr.setCell ⟨w.heap.size, 0, none⟩ (.int .i64 ser) = W := ⟨_, rfl⟩
      have bb0 : Blk V0 w.heap.size 67 #[.int .i64 ser, .string ⟨#[]⟩, .string ⟨#[]⟩, .int .u64 0, .slice none 0 0, .int .i64 0, .int .i64 0, .bool false, .int .i64 0, .slice none 0 0, .slice none 0 0, .int .u64 0, .int .u64 0] := by rw [← eV0]; exact bb.set_ 0 _
      have gg0 : wr.grownBy V0 (some w.heap.size) := by rw [← eV0]; exact gg.trans (grown_cell _ _ _ _)
      clear bb gg
      rw [eV0]
      clear eV0
      obtain ⟨V1, eV1⟩ : ∃ W, V0.setCell ⟨w.heap.size, 1, none⟩ (.string iss) = W := ⟨_, rfl⟩
      have bb1 : Blk V1 w.heap.size 67 #[.int .i64 ser, .string iss, .string ⟨#[]⟩, .int .u64 0, .slice none 0 0, .int .i64 0, .int .i64 0, .bool false, .int .i64 0, .slice none 0 0, .slice none 0 0, .int .u64 0, .int .u64 0] := by rw [← eV1]; exact bb0.set_ 1 _
      have gg1 : wr.grownBy V1 (some w.heap.size) := by rw [← eV1]; exact gg0.trans (grown_cell _ _ _ _)
      clear bb0 gg0
      rw [eV1]
      clear eV1
      obtain ⟨V2, eV2⟩ : ∃ W, V1.setCell ⟨w.heap.size, 2, none⟩ (.string sub) = W := ⟨_, rfl⟩
      have bb2 : Blk V2 w.heap.size 67 #[.int .i64 ser, .string iss, .string sub, .int .u64 0, .slice none 0 0, .int .i64 0, .int .i64 0, .bool false, .int .i64 0, .slice none 0 0, .slice none 0 0, .int .u64 0, .int .u64 0] := by rw [← eV2]; exact bb1.set_ 2 _
      have gg2 : wr.grownBy V2 (some w.heap.size) := by rw [← eV2]; exact gg1.trans (grown_cell _ _ _ _)
      clear bb1 gg1
      rw [eV2]
      clear eV2
      obtain ⟨V3, eV3⟩ : ∃ W, V2.setCell ⟨w.heap.size, 3, none⟩ (.int .u64 (key : Int)) = W := ⟨_, rfl⟩
      have bb3 : Blk V3 w.heap.size 67 #[.int .i64 ser, .string iss, .string sub, .int .u64 (key : Int), .slice none 0 0, .int .i64 0, .int .i64 0, .bool false, .int .i64 0, .slice none 0 0, .slice none 0 0, .int .u64 0, .int .u64 0] := by rw [← eV3]; exact bb2.set_ 3 _
      have gg3 : wr.grownBy V3 (some w.heap.size) := by rw [← eV3]; exact gg2.trans (grown_cell _ _ _ _)
      clear bb2 gg2
      rw [eV3]
      clear eV3
      obtain ⟨V4, eV4⟩ : ∃ W, V3.setCell ⟨w.heap.size, 4, none⟩ (.slice nA names.length nc) = W := ⟨_, rfl⟩
      have bb4 : Blk V4 w.heap.size 67 #[.int .i64 ser, .string iss, .string sub, .int .u64 (key : Int), .slice nA names.length nc, .int .i64 0, .int .i64 0, .bool false, .int .i64 0, .slice none 0 0, .slice none 0 0, .int .u64 0, .int .u64 0] := by rw [← eV4]; exact bb3.set_ 4 _
      have gg4 : wr.grownBy V4 (some w.heap.size) := by rw [← eV4]; exact gg3.trans (grown_cell _ _ _ _)
      clear bb3 gg3
      rw [eV4]
      clear eV4
      obtain ⟨V5, eV5⟩ : ∃ W, V4.setCell ⟨w.heap.size, 5, none⟩ (.int .i64 frm) = W := ⟨_, rfl⟩
      have bb5 : Blk V5 w.heap.size 67 #[.int .i64 ser, .string iss, .string sub, .int .u64 (key : Int), .slice nA names.length nc, .int .i64 frm, .int .i64 0, .bool false, .int .i64 0, .slice none 0 0, .slice none 0 0, .int .u64 0, .int .u64 0] := by rw [← eV5]; exact bb4.set_ 5 _
      have gg5 : wr.grownBy V5 (some w.heap.size) := by rw [← eV5]; exact gg4.trans (grown_cell _ _ _ _)
      clear bb4 gg4
      rw [eV5]
      clear eV5
      obtain ⟨V6, eV6⟩ : ∃ W, V5.setCell ⟨w.heap.size, 6, none⟩ (.int .i64 unt) = W := ⟨_, rfl⟩
      have bb6 : Blk V6 w.heap.size 67 #[.int .i64 ser, .string iss, .string sub, .int .u64 (key : Int), .slice nA names.length nc, .int .i64 frm, .int .i64 unt, .bool false, .int .i64 0, .slice none 0 0, .slice none 0 0, .int .u64 0, .int .u64 0] := by rw [← eV6]; exact bb5.set_ 6 _
      have gg6 : wr.grownBy V6 (some w.heap.size) := by rw [← eV6]; exact gg5.trans (grown_cell _ _ _ _)
      clear bb5 gg5
      rw [eV6]
      clear eV6
      obtain ⟨V7, eV7⟩ : ∃ W, V6.setCell ⟨w.heap.size, 7, none⟩ (.bool ca) = W := ⟨_, rfl⟩
      have bb7 : Blk V7 w.heap.size 67 #[.int .i64 ser, .string iss, .string sub, .int .u64 (key : Int), .slice nA names.length nc, .int .i64 frm, .int .i64 unt, .bool ca, .int .i64 0, .slice none 0 0, .slice none 0 0, .int .u64 0, .int .u64 0] := by rw [← eV7]; exact bb6.set_ 7 _
      have gg7 : wr.grownBy V7 (some w.heap.size) := by rw [← eV7]; exact gg6.trans (grown_cell _ _ _ _)
      clear bb6 gg6
      rw [eV7]
      clear eV7
      obtain ⟨V8, eV8⟩ : ∃ W, V7.setCell ⟨w.heap.size, 8, none⟩ (.int .i64 dep) = W := ⟨_, rfl⟩
      have bb8 : Blk V8 w.heap.size 67 #[.int .i64 ser, .string iss, .string sub, .int .u64 (key : Int), .slice nA names.length nc, .int .i64 frm, .int .i64 unt, .bool ca, .int .i64 dep, .slice none 0 0, .slice none 0 0, .int .u64 0, .int .u64 0] := by rw [← eV8]; exact bb7.set_ 8 _
      have gg8 : wr.grownBy V8 (some w.heap.size) := by rw [← eV8]; exact gg7.trans (grown_cell _ _ _ _)
      clear bb7 gg7
      rw [eV8]
      clear eV8
      obtain ⟨V9, eV9⟩ : ∃ W, V8.setCell ⟨w.heap.size, 9, none⟩ (.slice pA perm.length pc) = W := ⟨_, rfl⟩
      have bb9 : Blk V9 w.heap.size 67 #[.int .i64 ser, .string iss, .string sub, .int .u64 (key : Int), .slice nA names.length nc, .int .i64 frm, .int .i64 unt, .bool ca, .int .i64 dep, .slice pA perm.length pc, .slice none 0 0, .int .u64 0, .int .u64 0] := by rw [← eV9]; exact bb8.set_ 9 _
      have gg9 : wr.grownBy V9 (some w.heap.size) := by rw [← eV9]; exact gg8.trans (grown_cell _ _ _ _)
      clear bb8 gg8
      rw [eV9]
      clear eV9
      obtain ⟨V10, eV10⟩ : ∃ W, V9.setCell ⟨w.heap.size, 10, none⟩ (.slice AL proms.length cL) = W := ⟨_, rfl⟩
      have bb10 : Blk V10 w.heap.size 67 #[.int .i64 ser, .string iss, .string sub, .int .u64 (key : Int), .slice nA names.length nc, .int .i64 frm, .int .i64 unt, .bool ca, .int .i64 dep, .slice pA perm.length pc, .slice AL proms.length cL, .int .u64 0, .int .u64 0] := by rw [← eV10]; exact bb9.set_ 10 _
      have gg10 : wr.grownBy V10 (some w.heap.size) := by rw [← eV10]; exact gg9.trans (grown_cell _ _ _ _)
      clear bb9 gg9
      rw [eV10]
      clear eV10
      obtain ⟨V11, eV11⟩ : ∃ W, V10.setCell ⟨w.heap.size, 11, none⟩ (.int .u64 0) = W := ⟨_, rfl⟩
      have bb11 : Blk V11 w.heap.size 67 #[.int .i64 ser, .string iss, .string sub, .int .u64 (key : Int), .slice nA names.length nc, .int .i64 frm, .int .i64 unt, .bool ca, .int .i64 dep, .slice pA perm.length pc, .slice AL proms.length cL, .int .u64 0, .int .u64 0] := by rw [← eV11]; exact bb10.set_ 11 _
      have gg11 : wr.grownBy V11 (some w.heap.size) := by rw [← eV11]; exact gg10.trans (grown_cell _ _ _ _)
      clear bb10 gg10
      rw [eV11]
      clear eV11
      obtain ⟨V12, eV12⟩ : ∃ W, V11.setCell ⟨w.heap.size, 12, none⟩ (.int .u64 0) = W := ⟨_, rfl⟩
      have bb12 : Blk V12 w.heap.size 67 #[.int .i64 ser, .string iss, .string sub, .int .u64 (key : Int), .slice nA names.length nc, .int .i64 frm, .int .i64 unt, .bool ca, .int .i64 dep, .slice pA perm.length pc, .slice AL proms.length cL, .int .u64 0, .int .u64 0] := by rw [← eV12]; exact bb11.set_ 12 _
      have gg12 : wr.grownBy V12 (some w.heap.size) := by rw [← eV12]; exact gg11.trans (grown_cell _ _ _ _)
      clear bb11 gg11
      rw [eV12]
      clear eV12
      have n0 := bb12.cell 0
      have n1 := bb12.cell 1
      have n2 := bb12.cell 2
      have n3 := bb12.cell 3
      have n4 := bb12.cell 4
      have n5 := bb12.cell 5
      have n6 := bb12.cell 6
      have n7 := bb12.cell 7
      have n8 := bb12.cell 8
      have n9 := bb12.cell 9
      have n10 := bb12.cell 10
      have n11 := bb12.cell 11
      have n12 := bb12.cell 12
      refine bodyPost_ret (v := .agg #[.int .i64 ser, .string iss, .string sub, .int .u64 (key : Int), .slice nA names.length nc, .int .i64 frm, .int .i64 unt, .bool ca, .int .i64 dep, .slice pA perm.length pc, .slice AL proms.length cL, .int .u64 0, .int .u64 0]) (by simp [results, Tryz.results79, go_sem, n0, n1, n2, n3, n4, n5, n6, n7, n8, n9, n10, n11, n12]) rfl ?_
      have hx := HXX.out
      have hrow := hx.row
      rw [List.take_length] at hrow
      have sub1 : ∀ b ∈ P, b ∈ PP ∨ wr.heap.size ≤ b := fun b hb => .inl (hx.mP b hb)
      have m0 : ∀ k, some w.heap.size = some k → k ∈ PP := fun k e => by cases e; exact hx.m0
      have q0 := HPW.out
      have z5 := hx.row
      have hf1 := (hx.rows _ (List.mem_cons_self ..)).fresh gg12 m0 sub1
      have hf2 := (hx.rows _ (List.mem_cons_of_mem _ (List.mem_cons_self ..))).fresh gg12 m0 sub1
      have hf3 : RdS wr (fun b => w.heap.size ≤ b ∧ Mut (w.heap.size :: P) wr b) 6 AL proms.length (prmV proms) := RdS.of_own hrow (fun b h1 h2 _ => ⟨by have := hx.d1; omega, h2, fun e => by
        have d3 := hx.d3
        rcases List.mem_cons.1 e with e | e
        · omega
        · have := d3.2.2.2.2 b e; omega⟩)
      have hf4 := hf3.fresh gg12 (fun k e => by cases e; exact List.mem_cons_self ..) (P' := P) (fun b hb => .inl (List.mem_cons_of_mem _ hb))
      have hrp := hx.rp.to gg12 (P' := P) (fun k e => by cases e; exact ⟨hx.m0, hx.d2.1⟩) (fun b hb => .inl (hx.mP b hb)) HPM.out
      have hgf := hx.g.andThen gg12 (fun k e => by cases e; exact .inl (Nat.le_refl _))
      exact ⟨nA, nc, pA, pc, AL, cL, rfl, hf1, hf2, hf4, hrp, hgf⟩
end Go.Proofs.YtfpmfegmehbfbaaGreatDoor
