/- Parts of the proofs, put together: OrLaw4. -/
import Derived.Test.YtbhdmfijdhcehaaGreatDoorO21
/- OrderStays, walked: a door stays one. -/
namespace Go.Proofs.YtbhdmfijdhcehaaGreatDoor
set_option linter.unusedVariables false
set_option linter.unusedSimpArgs false
set_option linter.unusedSimpArgs false
open Go.RowKit Go.Shelf Go.Maps

set_option maxRecDepth 100000 in
set_option maxHeartbeats 32000000 in
theorem walk_OrderStays (A : Option Addr) (c : Nat) (l : List OpX) (hc : l.length ≤ c) (hcr : c ≤ 140737488351232) (w : World) (hi : ∀ x ∈ l, OpI w x) (hr : Reads w w.heap.size 7 A l.length (opV l)) :
    Calls Tryz.prog 9 #[.slice A l.length c] w fun e w' => e = .returned (.bool true) ∧ Ext w w' := by
  have c0 := fun W => live_any W
  have c1 := fun W (x : Ext w W) => fewOps_any l A c W ((hr.below x.out).more x.size) hc hcr (fun y hy => (hi y hy).ext x)
  have cN := fun W => oNew_any W
  have HI := Lib.hid hi
  have HR := Lib.hid hr
  clear hi hr hc hcr
  by_cases hfew : fewS (l.map (·.o))
  case neg =>
    rw [decide_eq_false hfew] at c1
    clear hfew cN
    go_enter Tryz.func9, Tryz.ntmps9
    go_wp2_with (first
      | (go_at_call 12; refine (c0 _).mono ?_; clear c0; rintro e w1 ⟨rfl, x1⟩)
      | (go_at_call 33; refine (c1 _ x1).mono ?_; clear c1; rintro e w2 ⟨rfl, x2⟩))
    go_ret
    exact ⟨rfl, x1.trans x2⟩
  rw [decide_eq_true hfew] at c1
  have HF : Hid ((∀ y ∈ l, y.o.names.length ≤ 4) ∧ l.length ≤ 20) := Lib.hid ⟨fun y hy => (fewS_all hfew y.o (List.mem_map_of_mem hy)).1, by have := hfew.2; rwa [List.length_map] at this⟩
  clear hfew
  unfold frontV at cN
  go_enter Tryz.func9, Tryz.ntmps9
  go_upto_region 6 with (first
      | (go_at_call 12; refine (c0 _).mono ?_; clear c0; rintro e w1 ⟨rfl, x1⟩)
      | (go_at_call 33; refine (c1 _ x1).mono ?_; clear c1; rintro e w2 ⟨rfl, x2⟩)
      | (go_at_call 34; refine (cN _).mono ?_; clear cN; rintro e w3 ⟨rfl, x3⟩))
  obtain ⟨W3, e3⟩ : ∃ W, w3.alloc (.cells #[.int .i64 doorZ.next, .slice doorZ.oA doorZ.opn.length doorZ.oc, .slice doorZ.cA doorZ.accs.length doorZ.cc, .slice doorZ.uA doorZ.auts.length doorZ.uc, .slice doorZ.rA doorZ.ords.length doorZ.rc, .int .i64 doorZ.ser] 43) = W := ⟨_, rfl⟩
  first | rw [e3] | (simp only [doorZ] at e3; rw [e3])
  have HX3 : Hid (Ext w W3) := Lib.hid (by rw [← e3]; exact (x1.trans (x2.trans x3)).alloc _)
  have HB3 : Hid (Blk W3 w3.heap.size 43 #[.int .i64 doorZ.next, .slice doorZ.oA doorZ.opn.length doorZ.oc, .slice doorZ.cA doorZ.accs.length doorZ.cc, .slice doorZ.uA doorZ.auts.length doorZ.uc, .slice doorZ.rA doorZ.ords.length doorZ.rc, .int .i64 doorZ.ser]) := Lib.hid (by rw [← e3]; exact Blk.new _ _ _)
  have HS3 : Hid (w.heap.size ≤ w3.heap.size) := Lib.hid (x1.trans (x2.trans x3)).size
  obtain ⟨b3, hb3⟩ : ∃ b, b = w3.heap.size := ⟨_, rfl⟩
  rw [← hb3] at HB3 HS3 ⊢
  clear e3 x1 x2 x3 hb3
  go_wp2
  go_loopg [4, 5] l.length (fun g s4 s5 wr => ∃ (i : Nat) (nw : Int) (d : DoorX), i + g = l.length ∧ s4 = .int .i64 nw ∧ s5 = .int .i64 i ∧ ScrI b3 i nw d wr ∧ Ext w wr)
  case atStart => exact ⟨0, 0, doorZ, by omega, rfl, rfl, scr_new HB3.out, HX3.out⟩
  case round =>
    obtain ⟨i, nw, d, hi, rfl, rfl, hs, hx⟩ := hrel
    have HIG := Lib.hid hi
    have HS := Lib.hid hs
    have HX := Lib.hid hx
    have hlen := HF.out.2
    obtain ⟨G, hG⟩ : ∃ G, G = gk - 1 := ⟨_, rfl⟩
    have HGG := Lib.hid hG
    by_cases h : i < l.length
    case neg =>
      obtain rfl : i = l.length := by omega
      clear hs hx hi hG
      go_wp2
      go_ret
      exact ⟨rfl, HX.out⟩
    obtain ⟨x, hxl⟩ : ∃ s, l[i]? = some s := ⟨_, List.getElem?_eq_getElem h⟩
    have hxm := List.mem_of_getElem? hxl
    obtain ⟨ad, hA, hlt, q0, q1, q2, q3, q4, q5, q6⟩ := reads_op ((HR.out.below hx.out).more hx.size) hxl
    have HAD := Lib.hid hA
    rw [hA]
    obtain ⟨m, hm⟩ : ∃ m, m = x.o.later % 30 := ⟨_, rfl⟩
    have km : Int.tmod (x.o.later : Int) 30 = (m : Int) := by rw [Int.tmod_eq_emod_of_nonneg (by omega)]; omega
    have kw : IntKind.i64.wrap (m : Int) = (m : Int) := by rw [IntKind.wrap_i64]; omega
    obtain ⟨now, hnow⟩ : ∃ z, z = nw + (m : Int) := ⟨_, rfl⟩
    have kn : IntKind.i64.wrap (nw + (m : Int)) = now := by have := hs.n0; have := hs.n1; rw [IntKind.wrap_i64]; omega
    have HN : Hid (0 ≤ now ∧ now ≤ 30 * ((i : Int) + 1)) := Lib.hid (by have := hs.n0; have := hs.n1; omega)
    have hin : (i : Int) < (l.length : Int) := by omega
    have hib : (i : Int) ≤ 20 := by omega
    have cO := fun W (y : Ext wr W) => op_any d x now W (hs.door.ext y) hs.chk ((HI.out x hxm).ext (hx.trans y)) (by have := HF.out.1 x hxm; omega) (by have := hs.aut; omega) (by have := hs.acc; omega) (by have := hs.ord; omega)
    obtain ⟨E, hE⟩ : ∃ E, (opF sigR d.fro x.o now).2 = E := ⟨_, rfl⟩
    unfold outS at cO
    rw [hE] at cO
    unfold frontV opVal at cO
    have HE := Lib.hid hE
    have HX4 := Lib.hid (HF.out.1 x hxm)
    obtain ⟨m0, m1, m2, m3, m4, m5⟩ := arr6f (hs.blk)
    clear hs hx hi hG hE hA hlt h hm hnow hlen hxl hxm
    go_upto_region 11 with (fail)
    have HC : Hid (∀ W, Ext wr W → (W.cell? ⟨b3, 0, none⟩ = some (.int .i64 d.next) ∧ W.cell? ⟨b3, 1, none⟩ = some (.slice d.oA d.opn.length d.oc) ∧ W.cell? ⟨b3, 2, none⟩ = some (.slice d.cA d.accs.length d.cc) ∧ W.cell? ⟨b3, 3, none⟩ = some (.slice d.uA d.auts.length d.uc) ∧ W.cell? ⟨b3, 4, none⟩ = some (.slice d.rA d.ords.length d.rc) ∧ W.cell? ⟨b3, 5, none⟩ = some (.int .i64 d.ser) ∧ W.cell? (ad.add (i * 7)) = some (.int .u8 (x.o.kind : Int)) ∧ W.cell? ⟨(ad.add (i * 7)).block, (ad.add (i * 7)).off + 1, none⟩ = some (.int .u8 (x.o.seed : Int)) ∧ W.cell? ⟨(ad.add (i * 7)).block, (ad.add (i * 7)).off + 2, none⟩ = some (.int .i64 x.o.acc) ∧ W.cell? ⟨(ad.add (i * 7)).block, (ad.add (i * 7)).off + 3, none⟩ = some (.int .i64 x.o.id) ∧ W.cell? ⟨(ad.add (i * 7)).block, (ad.add (i * 7)).off + 4, none⟩ = some (.slice x.nA x.o.names.length x.nc) ∧ W.cell? ⟨(ad.add (i * 7)).block, (ad.add (i * 7)).off + 5, none⟩ = some (.bool x.o.ok) ∧ W.cell? ⟨(ad.add (i * 7)).block, (ad.add (i * 7)).off + 6, none⟩ = some (.int .u8 (x.o.later : Int)))) := Lib.hid fun W x => ⟨x.cell m0, x.cell m1, x.cell m2, x.cell m3, x.cell m4, x.cell m5, x.cell q0, x.cell q1, x.cell q2, x.cell q3, x.cell q4, x.cell q5, x.cell q6⟩
    clear m0 m1 m2 m3 m4 m5 q0 q1 q2 q3 q4 q5 q6
    go_cut [6, 7] (fun s6 s7 wx => ∃ b6 d5, s6 = .pointer (some ⟨b6, 0, none⟩) ∧ s7 = .int .i64 (E : Int) ∧ StpI b3 wr b6 d d5 (opF sigR d.fro x.o now).1 wx)
    case first =>
      refine F_start (n := 13) (ls := #[false, false, false, false, false, false, false, false, false, false, false, false, false]) (fun w' => w'.cell? ⟨b3, 0, none⟩ = some (.int .i64 d.next) ∧ w'.cell? ⟨b3, 1, none⟩ = some (.slice d.oA d.opn.length d.oc) ∧ w'.cell? ⟨b3, 2, none⟩ = some (.slice d.cA d.accs.length d.cc) ∧ w'.cell? ⟨b3, 3, none⟩ = some (.slice d.uA d.auts.length d.uc) ∧ w'.cell? ⟨b3, 4, none⟩ = some (.slice d.rA d.ords.length d.rc) ∧ w'.cell? ⟨b3, 5, none⟩ = some (.int .i64 d.ser) ∧ w'.cell? (ad.add (i * 7)) = some (.int .u8 (x.o.kind : Int)) ∧ w'.cell? ⟨(ad.add (i * 7)).block, (ad.add (i * 7)).off + 1, none⟩ = some (.int .u8 (x.o.seed : Int)) ∧ w'.cell? ⟨(ad.add (i * 7)).block, (ad.add (i * 7)).off + 2, none⟩ = some (.int .i64 x.o.acc) ∧ w'.cell? ⟨(ad.add (i * 7)).block, (ad.add (i * 7)).off + 3, none⟩ = some (.int .i64 x.o.id) ∧ w'.cell? ⟨(ad.add (i * 7)).block, (ad.add (i * 7)).off + 4, none⟩ = some (.slice x.nA x.o.names.length x.nc) ∧ w'.cell? ⟨(ad.add (i * 7)).block, (ad.add (i * 7)).off + 5, none⟩ = some (.bool x.o.ok) ∧ w'.cell? ⟨(ad.add (i * 7)).block, (ad.add (i * 7)).off + 6, none⟩ = some (.int .u8 (x.o.later : Int))) 11 (by kernel_rfl) (by kernel_rfl) (by kernel_rfl) (HC.out _ (Ext.refl wr).drew) (fun hHeld => ?_)
      refine F_take (i := 0) (some 33) (ls' := #[true, false, false, false, false, false, false, false, false, false, false, false, false]) rfl rfl (by kernel_rfl) (by kernel_rfl) (by kernel_rfl) (by kernel_rfl) (by kernel_rfl) (by rfl) (v := ?_) ?_ hHeld ?_
      rotate_left 1
      · intro w hSw; (try dsimp only at hSw); go_simp; try with_reducible rfl
      try simp only [Act.put, List.setIfInBounds_toArray, List.set_cons_zero, List.set_cons_succ]
      refine F_pure (i := 1) (some 34) (ls' := #[true, true, false, false, false, false, false, false, false, false, false, false, false]) rfl rfl (by kernel_rfl) (by kernel_rfl) (by kernel_rfl) (by kernel_rfl) (by rfl) (v := ?_) ?_ ?_
      rotate_left 1
      · intro w; go_simp; try with_reducible rfl
      try simp only [Act.put, List.setIfInBounds_toArray, List.set_cons_zero, List.set_cons_succ]
      refine F_pure (i := 2) (some 35) (ls' := #[true, true, true, false, false, false, false, false, false, false, false, false, false]) rfl rfl (by kernel_rfl) (by kernel_rfl) (by kernel_rfl) (by kernel_rfl) (by rfl) (v := ?_) ?_ ?_
      rotate_left 1
      · intro w; go_simp; try with_reducible rfl
      try simp only [Act.put, List.setIfInBounds_toArray, List.set_cons_zero, List.set_cons_succ]
      refine F_pure (i := 3) (some 36) (ls' := #[true, true, true, true, false, false, false, false, false, false, false, false, false]) rfl rfl (by kernel_rfl) (by kernel_rfl) (by kernel_rfl) (by kernel_rfl) (by rfl) (v := ?_) ?_ ?_
      rotate_left 1
      · intro w; go_simp; try with_reducible rfl
      try simp only [Act.put, List.setIfInBounds_toArray, List.set_cons_zero, List.set_cons_succ]
      refine F_take (i := 4) (some 37) (ls' := #[true, true, true, true, true, false, false, false, false, false, false, false, false]) rfl rfl (by kernel_rfl) (by kernel_rfl) (by kernel_rfl) (by kernel_rfl) (by kernel_rfl) (by rfl) (v := ?_) ?_ hHeld ?_
      rotate_left 1
      · intro w hSw; (try dsimp only at hSw); go_simp; try with_reducible rfl
      try simp only [Act.put, List.setIfInBounds_toArray, List.set_cons_zero, List.set_cons_succ]
      refine F_pure (i := 5) (some 38) (ls' := #[true, true, true, true, true, true, false, false, false, false, false, false, false]) rfl rfl (by kernel_rfl) (by kernel_rfl) (by kernel_rfl) (by kernel_rfl) (by rfl) (v := ?_) ?_ ?_
      rotate_left 1
      · intro w; go_simp; try with_reducible rfl
      try simp only [Act.put, List.setIfInBounds_toArray, List.set_cons_zero, List.set_cons_succ]
      refine F_some (is := [6, 10]) (by kernel_rfl) (by simp) (fun i hi => ?_)
      simp only [List.mem_cons, List.not_mem_nil, or_false] at hi
      rcases hi with rfl | rfl
      · refine F_way (S := fun w' => w'.cell? ⟨b3, 0, none⟩ = some (.int .i64 d.next) ∧ w'.cell? ⟨b3, 1, none⟩ = some (.slice d.oA d.opn.length d.oc) ∧ w'.cell? ⟨b3, 2, none⟩ = some (.slice d.cA d.accs.length d.cc) ∧ w'.cell? ⟨b3, 3, none⟩ = some (.slice d.uA d.auts.length d.uc) ∧ w'.cell? ⟨b3, 4, none⟩ = some (.slice d.rA d.ords.length d.rc) ∧ w'.cell? ⟨b3, 5, none⟩ = some (.int .i64 d.ser) ∧ w'.cell? (ad.add (i * 7)) = some (.int .u8 (x.o.kind : Int)) ∧ w'.cell? ⟨(ad.add (i * 7)).block, (ad.add (i * 7)).off + 1, none⟩ = some (.int .u8 (x.o.seed : Int)) ∧ w'.cell? ⟨(ad.add (i * 7)).block, (ad.add (i * 7)).off + 2, none⟩ = some (.int .i64 x.o.acc) ∧ w'.cell? ⟨(ad.add (i * 7)).block, (ad.add (i * 7)).off + 3, none⟩ = some (.int .i64 x.o.id) ∧ w'.cell? ⟨(ad.add (i * 7)).block, (ad.add (i * 7)).off + 4, none⟩ = some (.slice x.nA x.o.names.length x.nc) ∧ w'.cell? ⟨(ad.add (i * 7)).block, (ad.add (i * 7)).off + 5, none⟩ = some (.bool x.o.ok) ∧ w'.cell? ⟨(ad.add (i * 7)).block, (ad.add (i * 7)).off + 6, none⟩ = some (.int .u8 (x.o.later : Int))) (L := 11) (o := _) rfl (ls' := #[true, true, true, true, true, true, true, false, false, false, false, false, false]) (by kernel_rfl) (by rfl) (fun K hK => ?_)
        go_simp
        go_at_call 35
        refine (cO _ (Ext.refl wr).drew).mono ?_
        rintro e w5 ⟨d5, rfl, hf5, hw5, hl5, x5⟩
        have X5 : Ext wr w5 := (Ext.refl wr).drew.trans x5
        have hHeld2 := HC.out _ X5
        clear hHeld
        have hHeld := hHeld2
        clear hHeld2
        refine hK _ _ (fun _ _ => hHeld) ?_
        clear hK K
        try simp only [Act.put, List.setIfInBounds_toArray, List.set_cons_zero, List.set_cons_succ]
        refine F_pure (i := 7) (some 32) (ls' := #[true, true, true, true, true, true, true, true, false, false, false, false, false]) rfl rfl (by kernel_rfl) (by kernel_rfl) (by kernel_rfl) (by kernel_rfl) (by rfl) (v := ?_) ?_ ?_
        rotate_left 1
        · intro w; go_simp; try with_reducible rfl
        try simp only [Act.put, List.setIfInBounds_toArray, List.set_cons_zero, List.set_cons_succ]
        refine F_pure (i := 8) (some 40) (ls' := #[true, true, true, true, true, true, true, true, true, false, false, false, false]) rfl rfl (by kernel_rfl) (by kernel_rfl) (by kernel_rfl) (by kernel_rfl) (by rfl) (v := ?_) ?_ ?_
        rotate_left 1
        · intro w; go_simp; try with_reducible rfl
        try simp only [Act.put, List.setIfInBounds_toArray, List.set_cons_zero, List.set_cons_succ]
        refine F_pure (i := 9) (some 41) (ls' := #[true, true, true, true, true, true, true, true, true, true, false, false, false]) rfl rfl (by kernel_rfl) (by kernel_rfl) (by kernel_rfl) (by kernel_rfl) (by rfl) (v := ?_) ?_ ?_
        rotate_left 1
        · intro w; go_simp; try with_reducible rfl
        try simp only [Act.put, List.setIfInBounds_toArray, List.set_cons_zero, List.set_cons_succ]
        refine F_some (is := [10]) (by kernel_rfl) (by simp) (fun i hi => ?_)
        obtain rfl : i = 10 := by simpa using hi
        refine F_way (S := fun w' => w'.cell? ⟨b3, 0, none⟩ = some (.int .i64 d.next) ∧ w'.cell? ⟨b3, 1, none⟩ = some (.slice d.oA d.opn.length d.oc) ∧ w'.cell? ⟨b3, 2, none⟩ = some (.slice d.cA d.accs.length d.cc) ∧ w'.cell? ⟨b3, 3, none⟩ = some (.slice d.uA d.auts.length d.uc) ∧ w'.cell? ⟨b3, 4, none⟩ = some (.slice d.rA d.ords.length d.rc) ∧ w'.cell? ⟨b3, 5, none⟩ = some (.int .i64 d.ser) ∧ w'.cell? (ad.add (i * 7)) = some (.int .u8 (x.o.kind : Int)) ∧ w'.cell? ⟨(ad.add (i * 7)).block, (ad.add (i * 7)).off + 1, none⟩ = some (.int .u8 (x.o.seed : Int)) ∧ w'.cell? ⟨(ad.add (i * 7)).block, (ad.add (i * 7)).off + 2, none⟩ = some (.int .i64 x.o.acc) ∧ w'.cell? ⟨(ad.add (i * 7)).block, (ad.add (i * 7)).off + 3, none⟩ = some (.int .i64 x.o.id) ∧ w'.cell? ⟨(ad.add (i * 7)).block, (ad.add (i * 7)).off + 4, none⟩ = some (.slice x.nA x.o.names.length x.nc) ∧ w'.cell? ⟨(ad.add (i * 7)).block, (ad.add (i * 7)).off + 5, none⟩ = some (.bool x.o.ok) ∧ w'.cell? ⟨(ad.add (i * 7)).block, (ad.add (i * 7)).off + 6, none⟩ = some (.int .u8 (x.o.later : Int))) (L := 11) (o := _) rfl (ls' := #[true, true, true, true, true, true, true, true, true, true, true, false, false]) (by kernel_rfl) (by rfl) (fun K hK => ?_)
        go_simp
        have hHeld2 := HC.out _ (X5.alloc (.cells #[.int .i64 0, .slice none 0 0, .slice none 0 0, .slice none 0 0, .slice none 0 0, .int .i64 0] 43))
        clear hHeld
        have hHeld := hHeld2
        clear hHeld2
        refine hK _ _ (fun _ _ => hHeld) ?_
        clear hK K
        try simp only [Act.put, List.setIfInBounds_toArray, List.set_cons_zero, List.set_cons_succ]
        refine F_some (is := [11]) (by kernel_rfl) (by simp) (fun i hi => ?_)
        obtain rfl : i = 11 := by simpa using hi
        refine F_way (S := fun w' => w'.cell? ⟨b3, 0, none⟩ = some (.int .i64 d.next) ∧ w'.cell? ⟨b3, 1, none⟩ = some (.slice d.oA d.opn.length d.oc) ∧ w'.cell? ⟨b3, 2, none⟩ = some (.slice d.cA d.accs.length d.cc) ∧ w'.cell? ⟨b3, 3, none⟩ = some (.slice d.uA d.auts.length d.uc) ∧ w'.cell? ⟨b3, 4, none⟩ = some (.slice d.rA d.ords.length d.rc) ∧ w'.cell? ⟨b3, 5, none⟩ = some (.int .i64 d.ser) ∧ w'.cell? (ad.add (i * 7)) = some (.int .u8 (x.o.kind : Int)) ∧ w'.cell? ⟨(ad.add (i * 7)).block, (ad.add (i * 7)).off + 1, none⟩ = some (.int .u8 (x.o.seed : Int)) ∧ w'.cell? ⟨(ad.add (i * 7)).block, (ad.add (i * 7)).off + 2, none⟩ = some (.int .i64 x.o.acc) ∧ w'.cell? ⟨(ad.add (i * 7)).block, (ad.add (i * 7)).off + 3, none⟩ = some (.int .i64 x.o.id) ∧ w'.cell? ⟨(ad.add (i * 7)).block, (ad.add (i * 7)).off + 4, none⟩ = some (.slice x.nA x.o.names.length x.nc) ∧ w'.cell? ⟨(ad.add (i * 7)).block, (ad.add (i * 7)).off + 5, none⟩ = some (.bool x.o.ok) ∧ w'.cell? ⟨(ad.add (i * 7)).block, (ad.add (i * 7)).off + 6, none⟩ = some (.int .u8 (x.o.later : Int))) (L := 11) (o := _) rfl (ls' := #[true, true, true, true, true, true, true, true, true, true, true, true, false]) (by kernel_rfl) (by rfl) (fun K hK => ?_)
        go_simp
        refine hK _ _ (fun h _ => absurd h (by decide)) ?_
        clear hK K
        try simp only [Act.put, List.setIfInBounds_toArray, List.set_cons_zero, List.set_cons_succ]
        refine F_some (is := [12]) (by kernel_rfl) (by simp) (fun i hi => ?_)
        obtain rfl : i = 12 := by simpa using hi
        refine F_way (S := fun w' => w'.cell? ⟨b3, 0, none⟩ = some (.int .i64 d.next) ∧ w'.cell? ⟨b3, 1, none⟩ = some (.slice d.oA d.opn.length d.oc) ∧ w'.cell? ⟨b3, 2, none⟩ = some (.slice d.cA d.accs.length d.cc) ∧ w'.cell? ⟨b3, 3, none⟩ = some (.slice d.uA d.auts.length d.uc) ∧ w'.cell? ⟨b3, 4, none⟩ = some (.slice d.rA d.ords.length d.rc) ∧ w'.cell? ⟨b3, 5, none⟩ = some (.int .i64 d.ser) ∧ w'.cell? (ad.add (i * 7)) = some (.int .u8 (x.o.kind : Int)) ∧ w'.cell? ⟨(ad.add (i * 7)).block, (ad.add (i * 7)).off + 1, none⟩ = some (.int .u8 (x.o.seed : Int)) ∧ w'.cell? ⟨(ad.add (i * 7)).block, (ad.add (i * 7)).off + 2, none⟩ = some (.int .i64 x.o.acc) ∧ w'.cell? ⟨(ad.add (i * 7)).block, (ad.add (i * 7)).off + 3, none⟩ = some (.int .i64 x.o.id) ∧ w'.cell? ⟨(ad.add (i * 7)).block, (ad.add (i * 7)).off + 4, none⟩ = some (.slice x.nA x.o.names.length x.nc) ∧ w'.cell? ⟨(ad.add (i * 7)).block, (ad.add (i * 7)).off + 5, none⟩ = some (.bool x.o.ok) ∧ w'.cell? ⟨(ad.add (i * 7)).block, (ad.add (i * 7)).off + 6, none⟩ = some (.int .u8 (x.o.later : Int))) (L := 11) (o := _) rfl (ls' := #[true, true, true, true, true, true, true, true, true, true, true, true, true]) (by kernel_rfl) (by rfl) (fun K hK => ?_)
        go_simp
        refine hK _ _ (fun h _ => absurd h (by decide)) ?_
        clear hK K
        try simp only [Act.put, List.setIfInBounds_toArray, List.set_cons_zero, List.set_cons_succ]
        refine F_done (by kernel_rfl) ?_
        clear hHeld
        go_wp2
        go_meet
        exact ⟨_, d5, rfl, rfl, stp_new HS.out.blk.lt (Ext.refl wr).drew x5 hf5 hw5 hl5 HS.out.lies⟩
      · refine F_way (S := fun w' => w'.cell? ⟨b3, 0, none⟩ = some (.int .i64 d.next) ∧ w'.cell? ⟨b3, 1, none⟩ = some (.slice d.oA d.opn.length d.oc) ∧ w'.cell? ⟨b3, 2, none⟩ = some (.slice d.cA d.accs.length d.cc) ∧ w'.cell? ⟨b3, 3, none⟩ = some (.slice d.uA d.auts.length d.uc) ∧ w'.cell? ⟨b3, 4, none⟩ = some (.slice d.rA d.ords.length d.rc) ∧ w'.cell? ⟨b3, 5, none⟩ = some (.int .i64 d.ser) ∧ w'.cell? (ad.add (i * 7)) = some (.int .u8 (x.o.kind : Int)) ∧ w'.cell? ⟨(ad.add (i * 7)).block, (ad.add (i * 7)).off + 1, none⟩ = some (.int .u8 (x.o.seed : Int)) ∧ w'.cell? ⟨(ad.add (i * 7)).block, (ad.add (i * 7)).off + 2, none⟩ = some (.int .i64 x.o.acc) ∧ w'.cell? ⟨(ad.add (i * 7)).block, (ad.add (i * 7)).off + 3, none⟩ = some (.int .i64 x.o.id) ∧ w'.cell? ⟨(ad.add (i * 7)).block, (ad.add (i * 7)).off + 4, none⟩ = some (.slice x.nA x.o.names.length x.nc) ∧ w'.cell? ⟨(ad.add (i * 7)).block, (ad.add (i * 7)).off + 5, none⟩ = some (.bool x.o.ok) ∧ w'.cell? ⟨(ad.add (i * 7)).block, (ad.add (i * 7)).off + 6, none⟩ = some (.int .u8 (x.o.later : Int))) (L := 11) (o := _) rfl (ls' := #[true, true, true, true, true, true, false, false, false, false, true, false, false]) (by kernel_rfl) (by rfl) (fun K hK => ?_)
        go_simp
        have hHeld2 := HC.out _ (((Ext.refl wr).alloc (.cells #[.int .i64 0, .slice none 0 0, .slice none 0 0, .slice none 0 0, .slice none 0 0, .int .i64 0] 43)).drew)
        clear hHeld
        have hHeld := hHeld2
        clear hHeld2
        refine hK _ _ (fun _ _ => hHeld) ?_
        clear hK K
        try simp only [Act.put, List.setIfInBounds_toArray, List.set_cons_zero, List.set_cons_succ]
        refine F_some (is := [6]) (by kernel_rfl) (by simp) (fun i hi => ?_)
        obtain rfl : i = 6 := by simpa using hi
        refine F_way (S := fun w' => w'.cell? ⟨b3, 0, none⟩ = some (.int .i64 d.next) ∧ w'.cell? ⟨b3, 1, none⟩ = some (.slice d.oA d.opn.length d.oc) ∧ w'.cell? ⟨b3, 2, none⟩ = some (.slice d.cA d.accs.length d.cc) ∧ w'.cell? ⟨b3, 3, none⟩ = some (.slice d.uA d.auts.length d.uc) ∧ w'.cell? ⟨b3, 4, none⟩ = some (.slice d.rA d.ords.length d.rc) ∧ w'.cell? ⟨b3, 5, none⟩ = some (.int .i64 d.ser) ∧ w'.cell? (ad.add (i * 7)) = some (.int .u8 (x.o.kind : Int)) ∧ w'.cell? ⟨(ad.add (i * 7)).block, (ad.add (i * 7)).off + 1, none⟩ = some (.int .u8 (x.o.seed : Int)) ∧ w'.cell? ⟨(ad.add (i * 7)).block, (ad.add (i * 7)).off + 2, none⟩ = some (.int .i64 x.o.acc) ∧ w'.cell? ⟨(ad.add (i * 7)).block, (ad.add (i * 7)).off + 3, none⟩ = some (.int .i64 x.o.id) ∧ w'.cell? ⟨(ad.add (i * 7)).block, (ad.add (i * 7)).off + 4, none⟩ = some (.slice x.nA x.o.names.length x.nc) ∧ w'.cell? ⟨(ad.add (i * 7)).block, (ad.add (i * 7)).off + 5, none⟩ = some (.bool x.o.ok) ∧ w'.cell? ⟨(ad.add (i * 7)).block, (ad.add (i * 7)).off + 6, none⟩ = some (.int .u8 (x.o.later : Int))) (L := 11) (o := _) rfl (ls' := #[true, true, true, true, true, true, true, false, false, false, true, false, false]) (by kernel_rfl) (by rfl) (fun K hK => ?_)
        go_simp
        go_at_call 35
        refine (cO _ (((Ext.refl wr).alloc (.cells #[.int .i64 0, .slice none 0 0, .slice none 0 0, .slice none 0 0, .slice none 0 0, .int .i64 0] 43)).drew)).mono ?_
        rintro e w5 ⟨d5, rfl, hf5, hw5, hl5, x5⟩
        have X5 : Ext wr w5 := (((Ext.refl wr).alloc (.cells #[.int .i64 0, .slice none 0 0, .slice none 0 0, .slice none 0 0, .slice none 0 0, .int .i64 0] 43)).drew).trans x5
        have hz := ext_blk x5 (Blk.drew (Blk.new wr 43 #[.int .i64 0, .slice none 0 0, .slice none 0 0, .slice none 0 0, .slice none 0 0, .int .i64 0]))
        have hHeld2 := HC.out _ X5
        clear hHeld
        have hHeld := hHeld2
        clear hHeld2
        refine hK _ _ (fun _ _ => hHeld) ?_
        clear hK K
        try simp only [Act.put, List.setIfInBounds_toArray, List.set_cons_zero, List.set_cons_succ]
        refine F_pure (i := 7) (some 32) (ls' := #[true, true, true, true, true, true, true, true, false, false, true, false, false]) rfl rfl (by kernel_rfl) (by kernel_rfl) (by kernel_rfl) (by kernel_rfl) (by rfl) (v := ?_) ?_ ?_
        rotate_left 1
        · intro w; go_simp; try with_reducible rfl
        try simp only [Act.put, List.setIfInBounds_toArray, List.set_cons_zero, List.set_cons_succ]
        refine F_pure (i := 8) (some 40) (ls' := #[true, true, true, true, true, true, true, true, true, false, true, false, false]) rfl rfl (by kernel_rfl) (by kernel_rfl) (by kernel_rfl) (by kernel_rfl) (by rfl) (v := ?_) ?_ ?_
        rotate_left 1
        · intro w; go_simp; try with_reducible rfl
        try simp only [Act.put, List.setIfInBounds_toArray, List.set_cons_zero, List.set_cons_succ]
        refine F_pure (i := 9) (some 41) (ls' := #[true, true, true, true, true, true, true, true, true, true, true, false, false]) rfl rfl (by kernel_rfl) (by kernel_rfl) (by kernel_rfl) (by kernel_rfl) (by rfl) (v := ?_) ?_ ?_
        rotate_left 1
        · intro w; go_simp; try with_reducible rfl
        try simp only [Act.put, List.setIfInBounds_toArray, List.set_cons_zero, List.set_cons_succ]
        refine F_some (is := [11]) (by kernel_rfl) (by simp) (fun i hi => ?_)
        obtain rfl : i = 11 := by simpa using hi
        refine F_way (S := fun w' => w'.cell? ⟨b3, 0, none⟩ = some (.int .i64 d.next) ∧ w'.cell? ⟨b3, 1, none⟩ = some (.slice d.oA d.opn.length d.oc) ∧ w'.cell? ⟨b3, 2, none⟩ = some (.slice d.cA d.accs.length d.cc) ∧ w'.cell? ⟨b3, 3, none⟩ = some (.slice d.uA d.auts.length d.uc) ∧ w'.cell? ⟨b3, 4, none⟩ = some (.slice d.rA d.ords.length d.rc) ∧ w'.cell? ⟨b3, 5, none⟩ = some (.int .i64 d.ser) ∧ w'.cell? (ad.add (i * 7)) = some (.int .u8 (x.o.kind : Int)) ∧ w'.cell? ⟨(ad.add (i * 7)).block, (ad.add (i * 7)).off + 1, none⟩ = some (.int .u8 (x.o.seed : Int)) ∧ w'.cell? ⟨(ad.add (i * 7)).block, (ad.add (i * 7)).off + 2, none⟩ = some (.int .i64 x.o.acc) ∧ w'.cell? ⟨(ad.add (i * 7)).block, (ad.add (i * 7)).off + 3, none⟩ = some (.int .i64 x.o.id) ∧ w'.cell? ⟨(ad.add (i * 7)).block, (ad.add (i * 7)).off + 4, none⟩ = some (.slice x.nA x.o.names.length x.nc) ∧ w'.cell? ⟨(ad.add (i * 7)).block, (ad.add (i * 7)).off + 5, none⟩ = some (.bool x.o.ok) ∧ w'.cell? ⟨(ad.add (i * 7)).block, (ad.add (i * 7)).off + 6, none⟩ = some (.int .u8 (x.o.later : Int))) (L := 11) (o := _) rfl (ls' := #[true, true, true, true, true, true, true, true, true, true, true, true, false]) (by kernel_rfl) (by rfl) (fun K hK => ?_)
        obtain ⟨v0, v1, v2, v3, v4, v5, f0, f1, f2, f3, f4, f5⟩ := st6 hz
        go_simp
        refine hK _ _ (fun h _ => absurd h (by decide)) ?_
        clear hK K
        try simp only [Act.put, List.setIfInBounds_toArray, List.set_cons_zero, List.set_cons_succ]
        refine F_some (is := [12]) (by kernel_rfl) (by simp) (fun i hi => ?_)
        obtain rfl : i = 12 := by simpa using hi
        refine F_way (S := fun w' => w'.cell? ⟨b3, 0, none⟩ = some (.int .i64 d.next) ∧ w'.cell? ⟨b3, 1, none⟩ = some (.slice d.oA d.opn.length d.oc) ∧ w'.cell? ⟨b3, 2, none⟩ = some (.slice d.cA d.accs.length d.cc) ∧ w'.cell? ⟨b3, 3, none⟩ = some (.slice d.uA d.auts.length d.uc) ∧ w'.cell? ⟨b3, 4, none⟩ = some (.slice d.rA d.ords.length d.rc) ∧ w'.cell? ⟨b3, 5, none⟩ = some (.int .i64 d.ser) ∧ w'.cell? (ad.add (i * 7)) = some (.int .u8 (x.o.kind : Int)) ∧ w'.cell? ⟨(ad.add (i * 7)).block, (ad.add (i * 7)).off + 1, none⟩ = some (.int .u8 (x.o.seed : Int)) ∧ w'.cell? ⟨(ad.add (i * 7)).block, (ad.add (i * 7)).off + 2, none⟩ = some (.int .i64 x.o.acc) ∧ w'.cell? ⟨(ad.add (i * 7)).block, (ad.add (i * 7)).off + 3, none⟩ = some (.int .i64 x.o.id) ∧ w'.cell? ⟨(ad.add (i * 7)).block, (ad.add (i * 7)).off + 4, none⟩ = some (.slice x.nA x.o.names.length x.nc) ∧ w'.cell? ⟨(ad.add (i * 7)).block, (ad.add (i * 7)).off + 5, none⟩ = some (.bool x.o.ok) ∧ w'.cell? ⟨(ad.add (i * 7)).block, (ad.add (i * 7)).off + 6, none⟩ = some (.int .u8 (x.o.later : Int))) (L := 11) (o := _) rfl (ls' := #[true, true, true, true, true, true, true, true, true, true, true, true, true]) (by kernel_rfl) (by rfl) (fun K hK => ?_)
        go_simp
        refine hK _ _ (fun h _ => absurd h (by decide)) ?_
        clear hK K
        try simp only [Act.put, List.setIfInBounds_toArray, List.set_cons_zero, List.set_cons_succ]
        refine F_done (by kernel_rfl) ?_
        clear hHeld
        go_wp2
        go_meet
        exact ⟨_, d5, rfl, rfl, stp_set HS.out.blk.lt (((Ext.refl wr).alloc (.cells #[.int .i64 0, .slice none 0 0, .slice none 0 0, .slice none 0 0, .slice none 0 0, .int .i64 0] 43)).drew) (by simp) x5 hf5 hw5 hl5 HS.out.lies HS.out.door.lies hz⟩
    case rest =>
      obtain ⟨b6, d5, rfl, rfl, hst⟩ := hcut
      obtain ⟨W6, hW6⟩ : ∃ W, W = wc := ⟨_, rfl⟩
      rw [← hW6] at hst ⊢
      have HT := Lib.hid hst
      have HM6 := Lib.hid (ext_blk hst.ext HS.out.blk)
      obtain ⟨ho, ha5, hc5, hr5⟩ := HS.out.step HX4.out hst.fro
      have cK := oCheck_any d5 (by omega) (by omega) W6 hst.door
      rw [ho.chk] at cK
      have k1 : decide (d5.auts.length < d.auts.length) = false := decide_eq_false (by have := ho.autL; simp only [dfro_auts] at this; omega)
      have k2 : decide (d5.ords.length < d.ords.length) = false := decide_eq_false (by have := ho.ordL; simp only [dfro_ords, List.length_map] at this; omega)
      have HO := Lib.hid ho
      have HL5 : Hid (d5.auts.length ≤ 4 * (i + 1) ∧ d5.accs.length ≤ i + 1 ∧ d5.ords.length ≤ i + 1 ∧ i ≤ 20) := Lib.hid ⟨ha5, hc5, hr5, by omega⟩
      unfold frontV at cK
      clear hW6 hst ho ha5 hc5 hr5 HC
      obtain ⟨m0, m1, m2, m3, m4, m5⟩ := arr6f (ext_blk (Ext.refl W6) HM6.out); obtain ⟨n0, n1, n2, n3, n4, n5⟩ := arr6f (ext_blk (Ext.refl W6) HT.out.box)
      go_upto_region 14 with (go_at_call 21; refine cK.mono ?_; clear cK m0 m1 m2 m3 m4 m5 n0 n1 n2 n3 n4 n5; rintro e w7 ⟨rfl, x7⟩; obtain ⟨m0, m1, m2, m3, m4, m5⟩ := arr6f (ext_blk (x7) HM6.out); obtain ⟨n0, n1, n2, n3, n4, n5⟩ := arr6f (ext_blk (x7) HT.out.box))
      have HX7 := Lib.hid x7
      have m0o := fun o => ((ext_blk x7 HM6.out).alloc o).cell 0
      have m1o := fun o => ((ext_blk x7 HM6.out).alloc o).cell 1
      clear x7 k1 k2
      go_upto_region 16 with (fail)
      clear m0o m1o
      obtain ⟨W8, e8⟩ : ∃ W, w7.alloc (.cells #[.int .i64 d.next, .slice d.oA d.opn.length d.oc, .slice d5.cA d5.accs.length d5.cc, .slice d5.uA d5.auts.length d5.uc, .slice d5.rA d5.ords.length d5.rc, .int .i64 d5.ser] 43) = W := ⟨_, rfl⟩
      try rw [e8]
      have HX8 : Hid (Ext W6 W8) := Lib.hid (by rw [← e8]; exact HX7.out.alloc _)
      have HB8 : Hid (Blk W8 w7.heap.size 43 #[.int .i64 d.next, .slice d.oA d.opn.length d.oc, .slice d5.cA d5.accs.length d5.cc, .slice d5.uA d5.auts.length d5.uc, .slice d5.rA d5.ords.length d5.rc, .int .i64 d5.ser]) := Lib.hid (by rw [← e8]; exact Blk.new _ _ _)
      clear e8 m0 m1 m2 m3 m4 m5 n0 n1 n2 n3 n4 n5
      obtain ⟨m0, m1, m2, m3, m4, m5⟩ := arr6f (ext_blk (HX8.out) HM6.out); obtain ⟨n0, n1, n2, n3, n4, n5⟩ := arr6f (ext_blk (HX8.out) HT.out.box)
      obtain ⟨y0, y1, y2, y3, y4, y5⟩ := arr6f HB8.out
      go_cut [74] (fun s74 wx => s74 = .bool false ∧ Ext W8 wx)
      case first =>
        by_cases h0 : E = 0
        · subst h0
          go_wp2
          go_meet
          exact ⟨rfl, Ext.refl _⟩
        · have k0 := ne_beq h0
          have cS : Calls Tryz.prog 20 #[.agg #[.int .i64 d.next, .slice d.oA d.opn.length d.oc, .slice d5.cA d5.accs.length d5.cc, .slice d5.uA d5.auts.length d5.uc, .slice d5.rA d5.ords.length d5.rc, .int .i64 d5.ser], .agg #[.int .i64 d.next, .slice d.oA d.opn.length d.oc, .slice d.cA d.accs.length d.cc, .slice d.uA d.auts.length d.uc, .slice d.rA d.ords.length d.rc, .int .i64 d.ser]] W8 fun e w' => e = .returned (.bool true) ∧ Ext W8 w' := by
            have hb : butF d.fro d5.fro := by rw [HT.out.fro]; exact (op_step sigR_in HS.out.chk x.o now).2.1 (by rw [HE.out]; exact h0)
            have k := Same22_any (withN d5 d.next d.opn d.oA d.oc) d W8 (withN_w (HT.out.door.ext HX8.out) (HS.out.door.ext (HT.out.ext.trans HX8.out)).non) (HS.out.door.ext (HT.out.ext.trans HX8.out))
            rw [decide_eq_true (but_fro hb)] at k
            exact k
          clear h0
          go_wp2_with (go_at_call 20; refine cS.mono ?_; clear cS; rintro e w9 ⟨rfl, x9⟩)
          go_meet
          exact ⟨rfl, x9⟩
      case rest =>
        obtain ⟨rfl, hx9⟩ := hcut
        obtain ⟨W9, hW9⟩ : ∃ W, W = wc := ⟨_, rfl⟩
        rw [← hW9] at hx9 ⊢
        have HX9 := Lib.hid (HX8.out.trans hx9)
        clear hW9 hx9 m0 m1 m2 m3 m4 m5 n0 n1 n2 n3 n4 n5 y0 y1 y2 y3 y4 y5
        obtain ⟨m0, m1, m2, m3, m4, m5⟩ := arr6f (ext_blk (HX9.out) HM6.out); obtain ⟨n0, n1, n2, n3, n4, n5⟩ := arr6f (ext_blk (HX9.out) HT.out.box)
        go_wp2
        clear m0 m1 m2 m3 m4 m5 n0 n1 n2 n3 n4 n5
        go_loopg [9] d.auts.length (fun g s9 wr => ∃ j : Nat, j + g = d.auts.length ∧ s9 = .int .i64 j ∧ Ext W9 wr)
        case atStart => exact ⟨0, by omega, rfl, Ext.refl W9⟩
        case round =>
          obtain ⟨j, hj, rfl, hx⟩ := hrel
          have XW := Lib.hid (HX9.out.trans hx)
          obtain ⟨m0, m1, m2, m3, m4, m5⟩ := arr6f (ext_blk (XW.out) HM6.out); obtain ⟨n0, n1, n2, n3, n4, n5⟩ := arr6f (ext_blk (XW.out) HT.out.box)
          have hjb : (j : Int) ≤ 1000 := by have := HS.out.aut; have := HL5.out; omega
          by_cases h : j < d.auts.length
          · obtain ⟨s, hs⟩ : ∃ s, d.auts[j]? = some s := ⟨_, List.getElem?_eq_getElem h⟩
            have h5 : j < d5.auts.length := by have := HO.out.autL; simp only [dfro_auts] at this; omega
            obtain ⟨t, ht⟩ : ∃ s, d5.auts[j]? = some s := ⟨_, List.getElem?_eq_getElem h5⟩
            obtain ⟨ad2, hA, hlA, q0, q1, q2, q3, q4, q5, q6⟩ := reads_aut (HS.out.door.ext (HT.out.ext.trans XW.out)).aut hs
            obtain ⟨bd, hB, hlB, r0, r1, r2, r3, r4, r5, r6⟩ := reads_aut (HT.out.door.ext XW.out).aut ht
            rw [hA] at m3
            rw [hB] at n3
            have hjd : (j : Int) < (d.auts.length : Int) := by omega
            have hjf : (j : Int) < (d5.auts.length : Int) := by omega
            have HJ := Lib.hid hj
            have hXd := Lib.hid hx.drew
            have hG : Hid (autG s t) := Lib.hid (by
              have a1 : d.fro.auts[j]? = some s := hs
              have a2 : d5.fro.auts[j]? = some t := ht
              have := HO.out.aut j (List.getElem?_eq_some_iff.1 a1).1 (List.getElem?_eq_some_iff.1 a2).1
              rwa [(List.getElem?_eq_some_iff.1 a1).2, (List.getElem?_eq_some_iff.1 a2).2] at this)
            have m3' := fun n : Nat => show (wr.drewN n).cell? _ = _ from m3
            have n3' := fun n : Nat => show (wr.drewN n).cell? _ = _ from n3
            have q0' := fun n : Nat => show (wr.drewN n).cell? _ = _ from q0
            have q1' := fun n : Nat => show (wr.drewN n).cell? _ = _ from q1
            have q2' := fun n : Nat => show (wr.drewN n).cell? _ = _ from q2
            have q3' := fun n : Nat => show (wr.drewN n).cell? _ = _ from q3
            have q4' := fun n : Nat => show (wr.drewN n).cell? _ = _ from q4
            have q5' := fun n : Nat => show (wr.drewN n).cell? _ = _ from q5
            have q6' := fun n : Nat => show (wr.drewN n).cell? _ = _ from q6
            have r0' := fun n : Nat => show (wr.drewN n).cell? _ = _ from r0
            have r1' := fun n : Nat => show (wr.drewN n).cell? _ = _ from r1
            have r2' := fun n : Nat => show (wr.drewN n).cell? _ = _ from r2
            have r3' := fun n : Nat => show (wr.drewN n).cell? _ = _ from r3
            have r4' := fun n : Nat => show (wr.drewN n).cell? _ = _ from r4
            have r5' := fun n : Nat => show (wr.drewN n).cell? _ = _ from r5
            have r6' := fun n : Nat => show (wr.drewN n).cell? _ = _ from r6
            by_cases h3 : s.st = 3
            · have e3 : (s.st == 3) = true := by simp [h3]
              have hse := fun w : World => eqAut t s w
              rw [decide_eq_true (hG.out.2.2 h3)] at hse
              clear hx hj hs ht hA hB hlA hlB h h5 h3
              go_wp2
              go_region
              all_goals go_wp2
              have hj := HJ.out
              all_goals go_roundg (gk - 1)
              case measure => omega
              case rel => exact ⟨j + 1, by omega, int_congr (by omega), hXd.out⟩
            · have e3 : (s.st == 3) = false := by simp [h3]
              clear hx hj hs ht hA hB hlA hlB h h5 h3
              go_wp2
              go_region
              all_goals go_wp2
              have hj := HJ.out
              all_goals go_roundg (gk - 1)
              case measure => omega
              case rel => exact ⟨j + 1, by omega, int_congr (by omega), hXd.out⟩
          · obtain rfl : j = d.auts.length := by omega
            obtain ⟨W10, hW10⟩ : ∃ W, W = wr := ⟨_, rfl⟩
            rw [← hW10] at XW m0 m1 m2 m3 m4 m5 n0 n1 n2 n3 n4 n5 ⊢
            have X10 := XW
            clear hx hj hW10 h XW
            go_wp2
            clear m0 m1 m2 m3 m4 m5 n0 n1 n2 n3 n4 n5
            go_loopg [10] d.ords.length (fun g s10 wr => ∃ j : Nat, j + g = d.ords.length ∧ s10 = .int .i64 j ∧ Ext W10 wr)
            case atStart => exact ⟨0, by omega, rfl, Ext.refl W10⟩
            case round =>
              obtain ⟨j, hj, rfl, hx⟩ := hrel
              have HX10 := Lib.hid hx
              have XW := Lib.hid (X10.out.trans hx)
              obtain ⟨m0, m1, m2, m3, m4, m5⟩ := arr6f (ext_blk (XW.out) HM6.out); obtain ⟨n0, n1, n2, n3, n4, n5⟩ := arr6f (ext_blk (XW.out) HT.out.box)
              have hjb : (j : Int) ≤ 1000 := by have := HS.out.ord; have := HL5.out; omega
              by_cases h : j < d.ords.length
              · obtain ⟨s, hs⟩ : ∃ s, d.ords[j]? = some s := ⟨_, List.getElem?_eq_getElem h⟩
                have h5 : j < d5.ords.length := by have := HO.out.ordL; simp only [dfro_ords, List.length_map] at this; omega
                obtain ⟨t, ht⟩ : ∃ s, d5.ords[j]? = some s := ⟨_, List.getElem?_eq_getElem h5⟩
                have HDo := HS.out.door.ext (HT.out.ext.trans XW.out)
                have HWo := HT.out.door.ext XW.out
                obtain ⟨ad2, hA, hlA, q0, q1, q2, q3, q4, q5, q6, q7⟩ := reads_ord HDo.ord hs
                obtain ⟨bd, hB, hlB, r0, r1, r2, r3, r4, r5, r6, r7⟩ := reads_ord HWo.ord ht
                obtain ⟨ad3, hA3, RA⟩ := one_ord HDo.ord hs
                obtain ⟨bd3, hB3, RB⟩ := one_ord HWo.ord ht
                obtain rfl : ad3 = ad2 := by rw [hA] at hA3; exact (Option.some.inj hA3).symm
                obtain rfl : bd3 = bd := by rw [hB] at hB3; exact (Option.some.inj hB3).symm
                rw [hA] at m4
                rw [hB] at n4
                have hjd : (j : Int) < (d.ords.length : Int) := by omega
                have hjf : (j : Int) < (d5.ords.length : Int) := by omega
                have kw : IntKind.i64.wrap ((j : Int) + 1) = (j : Int) + 1 := by rw [IntKind.wrap_i64]; omega
                have HJ := Lib.hid hj
                have SA := fun w : World => slice_one ad3 d.ords.length d.rc j (by have := HDo.rc; omega) w
                have SB := fun w : World => slice_one bd3 d5.ords.length d5.rc j (by have := HWo.rc; omega) w
                have j1 := fun i : Later wr => i.cell m4
                have j2 := fun i : Later wr => i.cell n4
                have j3 := fun i : Later wr => i.cell q6
                have j4 := fun i : Later wr => i.cell r6
                have RA' := Lib.hid RA
                have RB' := Lib.hid RB
                have EA := Lib.hid (HDo.rw s (List.mem_of_getElem? hs))
                have EB := Lib.hid (HWo.rw t (List.mem_of_getElem? ht))
                have hG : Hid (ordG s.o t.o) := Lib.hid (by
                  have a1 : d.fro.ords[j]? = some s.o := by rw [dfro_ords, List.getElem?_map, hs]; rfl
                  have a2 : d5.fro.ords[j]? = some t.o := by rw [dfro_ords, List.getElem?_map, ht]; rfl
                  have := HO.out.ord j (List.getElem?_eq_some_iff.1 a1).1 (List.getElem?_eq_some_iff.1 a2).1
                  rwa [(List.getElem?_eq_some_iff.1 a1).2, (List.getElem?_eq_some_iff.1 a2).2] at this)
                clear hx hj h h5 hs ht HDo HWo hA hlA q0 q1 q2 q3 q4 q5 q6 q7 hA3 hB hlB r0 r1 r2 r3 r4 r5 r6 r7 hB3 RA RB
                by_cases h5 : s.o.st = 5
                · have e1 : (s.o.st == 5) = true := by simp [h5]
                  have hts := hG.out.1 h5
                  have e2 : (t.o.st == 5) = true := by rw [hts]; simp [h5]
                  have e3 : (s.o.st == 1) = false := by simp [h5]
                  have cO := fun i : Later wr => Orders22_any [t] [s] (some (bd3.add (j * 8))) (some (ad3.add (j * 8))) (d5.rc - j) (d.rc - j) i.W ⟨(RB'.out.below i.ext.out).more i.ext.size, (show 1 ≤ 140737488355328 by decide), (fun y hy => by rw [List.mem_singleton.1 hy]; exact EB.out.ext i.ext)⟩ ⟨(RA'.out.below i.ext.out).more i.ext.size, (show 1 ≤ 140737488355328 by decide), (fun y hy => by rw [List.mem_singleton.1 hy]; exact EA.out.ext i.ext)⟩
                  rw [show decide (List.map (·.o) [t] = List.map (·.o) [s]) = true from decide_eq_true (by rw [List.map_cons, List.map_cons, hts])] at cO
                  simp only [List.length_singleton] at cO
                  clear h5 hts
                  go_wp2
                  refine wp_region_later (by kernel_rfl) (by kernel_rfl) ?_
                  repeat (go_big_quiet_step ((go_at_call 37; exact Later.calls (cO _))))
                  refine wpQuiet_nil ?_
                  rintro W11 ⟨z, hz⟩
                  have HX11 : Hid (Ext W10 W11) := Lib.hid (by rw [hz]; exact HX10.out.trans z.ext)
                  clear hz z j1 j2 j3 j4
                  go_wp2
                  have hj := HJ.out
                  go_roundg (gk - 1)
                  case measure => omega
                  case rel => exact ⟨j + 1, by omega, int_congr (by omega), HX11.out⟩
                · have e1 : (s.o.st == 5) = false := by simp [h5]
                  by_cases h6 : t.o.st = 5
                  · have e2 : (t.o.st == 5) = true := by simp [h6]
                    have e3 : (s.o.st == 1) = false := by simp [hG.out.2 h6]
                    clear h5 h6
                    go_wp2
                    refine wp_region_later (by kernel_rfl) (by kernel_rfl) ?_
                    repeat (go_big_quiet_step ((fail)))
                    refine wpQuiet_nil ?_
                    rintro W11 ⟨z, hz⟩
                    have HX11 : Hid (Ext W10 W11) := Lib.hid (by rw [hz]; exact HX10.out.trans z.ext)
                    clear hz z j1 j2 j3 j4
                    go_wp2
                    have hj := HJ.out
                    go_roundg (gk - 1)
                    case measure => omega
                    case rel => exact ⟨j + 1, by omega, int_congr (by omega), HX11.out⟩
                  · have e2 : (t.o.st == 5) = false := by simp [h6]
                    clear h5 h6
                    go_wp2
                    refine wp_region_later (by kernel_rfl) (by kernel_rfl) ?_
                    repeat (go_big_quiet_step ((fail)))
                    refine wpQuiet_nil ?_
                    rintro W11 ⟨z, hz⟩
                    have HX11 : Hid (Ext W10 W11) := Lib.hid (by rw [hz]; exact HX10.out.trans z.ext)
                    clear hz z j1 j2 j3 j4
                    go_wp2
                    have hj := HJ.out
                    go_roundg (gk - 1)
                    case measure => omega
                    case rel => exact ⟨j + 1, by omega, int_congr (by omega), HX11.out⟩
              · obtain rfl : j = d.ords.length := by omega
                have z6 := ext_blk XW.out HM6.out
                obtain ⟨m0, m1, m2, m3, m4, m5, f0, f1, f2, f3, f4, f5⟩ := st6 z6
                have HSC : Hid (ScrI b3 (i + 1) now d5 ((((((wr.setCell ⟨b3, 0, none⟩ (.int .i64 d5.next)).setCell ⟨b3, 1, none⟩ (.slice d5.oA d5.opn.length d5.oc)).setCell ⟨b3, 2, none⟩ (.slice d5.cA d5.accs.length d5.cc)).setCell ⟨b3, 3, none⟩ (.slice d5.uA d5.auts.length d5.uc)).setCell ⟨b3, 4, none⟩ (.slice d5.rA d5.ords.length d5.rc)).setCell ⟨b3, 5, none⟩ (.int .i64 d5.ser))) := Lib.hid ⟨HN.out.1, by have := HN.out.2; omega, blk6 z6 (.int .i64 d5.next) (.slice d5.oA d5.opn.length d5.oc) (.slice d5.cA d5.accs.length d5.cc) (.slice d5.uA d5.auts.length d5.uc) (.slice d5.rA d5.ords.length d5.rc) (.int .i64 d5.ser), (HT.out.door.ext XW.out).grownTo HT.out.lies (grown6 wr b3 (.int .i64 d5.next) (.slice d5.oA d5.opn.length d5.oc) (.slice d5.cA d5.accs.length d5.cc) (.slice d5.uA d5.auts.length d5.uc) (.slice d5.rA d5.ords.length d5.rc) (.int .i64 d5.ser)), HT.out.lies, HO.out.chk, HL5.out.1, HL5.out.2.1, HL5.out.2.2.1⟩
                have HXE := Lib.hid (ext6 (HX.out.trans (HT.out.ext.trans XW.out)) HS3.out (.int .i64 d5.next) (.slice d5.oA d5.opn.length d5.oc) (.slice d5.cA d5.accs.length d5.cc) (.slice d5.uA d5.auts.length d5.uc) (.slice d5.rA d5.ords.length d5.rc) (.int .i64 d5.ser))
                clear hx hj h z6
                go_wp2
                have hi := HIG.out
                have hG := HGG.out
                have hAD := HAD.out
                rw [← hAD]
                go_roundg G
                case measure => omega
                case rel => exact ⟨i + 1, now, d5, by omega, rfl, int_congr (by omega), HSC.out, HXE.out⟩
end Go.Proofs.YtbhdmfijdhcehaaGreatDoor
