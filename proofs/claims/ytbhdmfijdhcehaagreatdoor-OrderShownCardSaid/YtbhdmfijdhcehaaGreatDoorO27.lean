/- Parts of the proofs, put together: OrLaw5. -/
import Derived.Test.YtbhdmfijdhcehaaGreatDoorO20
import Derived.Test.YtbhdmfijdhcehaaGreatDoorO21
/- OrderShown, walked: who is told a wish has shown that it controls its names. -/
namespace Go.Proofs.YtbhdmfijdhcehaaGreatDoor
set_option linter.unusedVariables false
set_option linter.unusedSimpArgs false
set_option linter.unusedSimpArgs false
open Go.RowKit Go.Shelf Go.Maps

theorem Tryz.infoShn : (Tryz.prog.info? 71).map (fun i => (i.zero, i.size, i.bytes)) = some (some (.agg #[.int .i64 0, .string ⟨#[]⟩, .int .i64 0]), 3, 32) := by kernel_rfl
theorem shnV_append (l m : List (Int × ByteArray × Int)) : shnV (l ++ m) = shnV l ++ shnV m := by unfold shnV; exact List.flatMap_append
theorem reads_new3 (W : World) (T : TypeId) (x y z : Value) : Reads (W.alloc (.cells #[x, y, z] T)) (W.alloc (.cells #[x, y, z] T)).heap.size 3 (some ⟨W.heap.size, 0, none⟩) 1 [x, y, z] :=
  ⟨rfl, fun _ => ⟨_, rfl, by simp, fun i u hu => by
    have hc := (Blk.new W T #[x, y, z]).cell i
    rw [show ((⟨W.heap.size, 0, none⟩ : Addr).add i) = ⟨W.heap.size, i, none⟩ by simp [Addr.add]; intro h; exact h.symm]
    rw [hc]
    simpa using hu⟩⟩
abbrev ShnL := List (Int × ByteArray × Int)
/-- What was seen, in a row of the script's own. -/
structure SeenI (b3 : Nat) (L : ShnL) (vA : Option Addr) (vc : Nat) (d : DoorX) (i : Nat) (w : World) : Prop where
  own : w.ownsRow (b3 + 1) 71 3 (.slice vA L.length vc) L.length (shnV L)
  shn : shownI d.fro L
  len : L.length ≤ i
  tim : ∀ x ∈ L, 0 ≤ x.2.2 ∧ x.2.2 ≤ 30 * (i : Int)
  lies : DoorL (fun k => Value.ownBlock (.slice vA L.length vc) ≠ some k) d
theorem kind5 {f : FroR} {o : OpR} {now : Int} (h : o.kind % 7 = 5) : ((opF sigR f o now).2 = 0 ↔ (sawF f o.id o.ok now).2 = 0) := by
  unfold opF
  rw [if_pos h]
  by_cases h1 : (sawF f o.id o.ok now).2 = 0
  · rw [if_neg (by simpa using h1)]
  · rw [if_pos h1]
def seeP (f : FroR) (o : OpR) (now : Int) : Prop := o.kind % 7 = 5 ∧ (opF sigR f o now).2 = 0 ∧ o.ok = true
instance (f : FroR) (o : OpR) (now : Int) : Decidable (seeP f o now) := by unfold seeP; infer_instance
theorem see_yes {f : FroR} {o : OpR} {now : Int} (h : seeP f o now) : ∃ (k : Nat) (a : AutR), o.id = (k : Int) + 1 ∧ f.auts[k]? = some a ∧ seenA f o now = [(a.acc, a.name, now)] := by
  obtain ⟨h1, h2, h3⟩ := h
  have h4 := (kind5 h1).1 h2
  obtain ⟨_, g2, g3, a, ha, _⟩ := saw_steps h4
  refine ⟨o.id.toNat - 1, a, by omega, ha, ?_⟩
  unfold seenA
  rw [if_pos ⟨h1, h4, h3⟩, ha]
theorem see_no {f : FroR} {o : OpR} {now : Int} (h : ¬ seeP f o now) : seenA f o now = [] := by
  unfold seenA
  rw [if_neg fun k => h ⟨k.1, (kind5 k.1).2 k.2.1, k.2.2⟩]
theorem ScrI.ext {b i : Nat} {nw : Int} {d : DoorX} {w w' : World} (h : ScrI b i nw d w) (x : Ext w w') : ScrI b i nw d w' := ⟨h.n0, h.n1, ext_blk x h.blk, h.door.ext x, h.lies, h.chk, h.aut, h.acc, h.ord⟩
theorem SeenI.ext {b3 : Nat} {L : ShnL} {vA : Option Addr} {vc : Nat} {d : DoorX} {i : Nat} {w w' : World} (h : SeenI b3 L vA vc d i w) (x : Ext w w') : SeenI b3 L vA vc d i w' := ⟨own_ext h.own x, h.shn, h.len, h.tim, h.lies⟩
/-- Behind what is seen, ahead of the step's end. -/
structure SeeJ (b3 b6 : Nat) (L : ShnL) (vA : Option Addr) (vc : Nat) (d d5 : DoorX) (w0 w : World) : Prop where
  own : w.ownsRow (b3 + 1) 71 3 (.slice vA L.length vc) L.length (shnV L)
  b3 : Blk w b3 43 #[.int .i64 d.next, .slice d.oA d.opn.length d.oc, .slice d.cA d.accs.length d.cc, .slice d.uA d.auts.length d.uc, .slice d.rA d.ords.length d.rc, .int .i64 d.ser]
  b6 : Blk w b6 43 #[.int .i64 d5.next, .slice d5.oA d5.opn.length d5.oc, .slice d5.cA d5.accs.length d5.cc, .slice d5.uA d5.auts.length d5.uc, .slice d5.rA d5.ords.length d5.rc, .int .i64 d5.ser]
  door : DoorW w w.heap.size d5
  lies : DoorL (fun k => Value.ownBlock (.slice vA L.length vc) ≠ some k) d5
  ext : Ext w0 w
theorem SeeJ.more {b3 b6 : Nat} {L : ShnL} {vA : Option Addr} {vc : Nat} {d d5 : DoorX} {w0 W w9 : World} (h : SeeJ b3 b6 L vA vc d d5 w0 W) (hb : w0.heap.size ≤ b3) (h6 : Value.ownBlock (.slice vA L.length vc) ≠ some b6) {t : Int × ByteArray × Int} {v9 : Value}
    (ho : w9.ownsRow (b3 + 1) 71 3 v9 (L.length + 1) (shnV L ++ shnC t)) (hg : W.grownBy w9 (Value.ownBlock (.slice vA L.length vc))) (hn : v9.ownBlock = Value.ownBlock (.slice vA L.length vc) ∨ v9.ownBlock = some W.heap.size) :
    ∃ vA' vc', v9 = .slice vA' (L ++ [t]).length vc' ∧ SeeJ b3 b6 (L ++ [t]) vA' vc' d d5 w0 w9 := by
  obtain ⟨vA', vc', rfl, hc, -⟩ := own_slice2 ho
  have el : (L ++ [t]).length = L.length + 1 := by rw [List.length_append]; rfl
  refine ⟨vA', vc', by rw [el], ?_, Blk.grown h.b3 hg (own_apart h.own (Nat.lt_succ_self _)), Blk.grown h.b6 hg (fun e => h6 e.symm), ?_, ?_, ?_⟩
  · rw [el, shnV_append, show shnV [t] = shnC t by simp [shnV]]; exact ho
  · exact h.door.stay h.lies hg.size (fun k hk hkb => hg.block k hkb (fun e => hk e.symm))
  · rw [el]
    rcases hn with e | e
    · rw [e]; exact h.lies
    · rw [e]; exact h.door.lies.mono (fun k hk => by simp; omega)
  · exact Ext.of (h.ext.out.grown hg h.ext.size (fun k hk => by have := own_ge h.own k hk; omega))
theorem SeeJ.ext8 {b3 b6 : Nat} {L : ShnL} {vA : Option Addr} {vc : Nat} {d d5 : DoorX} {w0 W w9 : World} (h : SeeJ b3 b6 L vA vc d d5 w0 W) (x : Ext W w9) : SeeJ b3 b6 L vA vc d d5 w0 w9 := ⟨own_ext h.own x, ext_blk x h.b3, ext_blk x h.b6, h.door.ext x, h.lies, h.ext.trans x⟩
theorem seen_le (f : FroR) (o : OpR) (now : Int) : (seenA f o now).length ≤ 1 := by
  unfold seenA
  split
  · split <;> simp
  · simp
theorem seen_tim {f : FroR} {o : OpR} {now : Int} : ∀ t ∈ seenA f o now, t.2.2 = now := by
  unfold seenA
  split
  · split <;> simp
  · simp
set_option maxRecDepth 100000 in
set_option maxHeartbeats 32000000 in
theorem walk_OrderShown (A : Option Addr) (c : Nat) (l : List OpX) (hc : l.length ≤ c) (hcr : c ≤ 140737488351232) (w : World) (hi : ∀ x ∈ l, OpI w x) (hr : Reads w w.heap.size 7 A l.length (opV l)) :
    Calls Tryz.prog 6 #[.slice A l.length c] w fun e w' => e = .returned (.bool true) ∧ Ext w w' := by
  have c0 := fun W => live_any W
  have c1 := fun W (x : Ext w W) => fewOps_any l A c W ((hr.below x.out).more x.size) hc hcr (fun y hy => (hi y hy).ext x)
  have cN := fun W => oNew_any W
  have HI := Lib.hid hi
  have HR := Lib.hid hr
  clear hi hr hc hcr
  by_cases hfew : fewS (l.map (·.o))
  case neg =>
    rw [decide_eq_false hfew] at c1
    clear hfew cN
    go_enter Tryz.func6, Tryz.ntmps6
    go_wp2_with (first
      | (go_at_call 12; refine (c0 _).mono ?_; clear c0; rintro e w1 ⟨rfl, x1⟩)
      | (go_at_call 33; refine (c1 _ x1).mono ?_; clear c1; rintro e w2 ⟨rfl, x2⟩))
    go_ret
    exact ⟨rfl, x1.trans x2⟩
  rw [decide_eq_true hfew] at c1
  have HF : Hid ((∀ y ∈ l, y.o.names.length ≤ 4) ∧ l.length ≤ 20) := Lib.hid ⟨fun y hy => (fewS_all hfew y.o (List.mem_map_of_mem hy)).1, by have := hfew.2; rwa [List.length_map] at this⟩
  clear hfew
  unfold frontV at cN
  go_enter Tryz.func6, Tryz.ntmps6
  go_upto_region 6 with (first
      | (go_at_call 12; refine (c0 _).mono ?_; clear c0; rintro e w1 ⟨rfl, x1⟩)
      | (go_at_call 33; refine (c1 _ x1).mono ?_; clear c1; rintro e w2 ⟨rfl, x2⟩)
      | (go_at_call 34; refine (cN _).mono ?_; clear cN; rintro e w3 ⟨rfl, x3⟩))
  obtain ⟨W3, e3⟩ : ∃ W, w3.alloc (.cells #[.int .i64 doorZ.next, .slice doorZ.oA doorZ.opn.length doorZ.oc, .slice doorZ.cA doorZ.accs.length doorZ.cc, .slice doorZ.uA doorZ.auts.length doorZ.uc, .slice doorZ.rA doorZ.ords.length doorZ.rc, .int .i64 doorZ.ser] 43) = W := ⟨_, rfl⟩
  first | rw [e3] | (simp only [doorZ] at e3; rw [e3])
  have HX3 : Hid (Ext w W3) := Lib.hid (by rw [← e3]; exact (x1.trans (x2.trans x3)).alloc _)
  have HB3 : Hid (Blk W3 w3.heap.size 43 #[.int .i64 doorZ.next, .slice doorZ.oA doorZ.opn.length doorZ.oc, .slice doorZ.cA doorZ.accs.length doorZ.cc, .slice doorZ.uA doorZ.auts.length doorZ.uc, .slice doorZ.rA doorZ.ords.length doorZ.rc, .int .i64 doorZ.ser]) := Lib.hid (by rw [← e3]; exact Blk.new _ _ _)
  have HS3 : Hid (w.heap.size ≤ w3.heap.size) := Lib.hid (x1.trans (x2.trans x3)).size
  obtain ⟨b3, hb3⟩ : ∃ b, b = w3.heap.size := ⟨_, rfl⟩
  rw [← hb3] at HB3 HS3 ⊢
  clear e3 x1 x2 x3 hb3
  go_upto_region 8 with (fail)
  obtain ⟨W4, e4⟩ : ∃ W, W3.alloc (.cells #[] 71) = W := ⟨_, rfl⟩
  try rw [e4]
  have HX4 : Hid (Ext w W4) := Lib.hid (by rw [← e4]; exact HX3.out.alloc _)
  have HX34 : Hid (Ext W3 W4) := Lib.hid (by rw [← e4]; exact (Ext.refl W3).alloc _)
  have HB34 := Lib.hid (ext_blk HX34.out HB3.out)
  have HSN : Hid (SeenI b3 [] (some ⟨W3.heap.size, 0, none⟩) 0 doorZ 0 W4) := Lib.hid ⟨by rw [← e4]; exact own_empty W3 _ _ rfl (by have := Blk.lt HB3.out; omega) _ _, shown_new, by simp, by simp, doorZ_l _⟩
  clear e4
  go_wp2
  go_loopg [4, 5, 6] l.length (fun g s4 s5 s6 wr => ∃ (i : Nat) (nw : Int) (d : DoorX) (L : ShnL) (vA : Option Addr) (vc : Nat), i + g = l.length ∧ s4 = .int .i64 nw ∧ s5 = .slice vA L.length vc ∧ s6 = .int .i64 i ∧ ScrI b3 i nw d wr ∧ SeenI b3 L vA vc d i wr ∧ Ext w wr)
  case atStart => exact ⟨0, 0, doorZ, [], some ⟨W3.heap.size, 0, none⟩, 0, by omega, rfl, rfl, rfl, scr_new HB34.out, HSN.out, HX4.out⟩
  case round =>
    obtain ⟨i, nw, d, L, vA, vc, hi, rfl, rfl, rfl, hs, hsn, hx⟩ := hrel
    have HIG := Lib.hid hi
    have HS := Lib.hid hs
    have HSN := Lib.hid hsn
    have HX := Lib.hid hx
    have hlen := HF.out.2
    obtain ⟨G, hG⟩ : ∃ G, G = gk - 1 := ⟨_, rfl⟩
    have HGG := Lib.hid hG
    by_cases h : i < l.length
    case neg =>
      obtain rfl : i = l.length := by omega
      have cK := oCheck_any d (by have := hs.aut; omega) (by have := hs.acc; omega) wr hs.door
      rw [hs.chk] at cK
      unfold frontV at cK
      obtain ⟨m0, m1, m2, m3, m4, m5⟩ := arr6f hs.blk
      clear hs hsn hx hi hG
      go_wp2_with (go_at_call 21; refine cK.mono ?_; clear cK; rintro e w9 ⟨rfl, x9⟩)
      go_ret
      exact ⟨rfl, HX.out.trans x9⟩
    obtain ⟨x, hxl⟩ : ∃ s, l[i]? = some s := ⟨_, List.getElem?_eq_getElem h⟩
    have hxm := List.mem_of_getElem? hxl
    obtain ⟨ad, hA, hlt, q0, q1, q2, q3, q4, q5, q6⟩ := reads_op ((HR.out.below hx.out).more hx.size) hxl
    have HAD := Lib.hid hA
    rw [hA]
    obtain ⟨m, hm⟩ : ∃ m, m = x.o.later % 30 := ⟨_, rfl⟩
    have km : Int.tmod (x.o.later : Int) 30 = (m : Int) := by rw [Int.tmod_eq_emod_of_nonneg (by omega)]; omega
    have kw : IntKind.i64.wrap (m : Int) = (m : Int) := by rw [IntKind.wrap_i64]; omega
    obtain ⟨now, hnow⟩ : ∃ z, z = nw + (m : Int) := ⟨_, rfl⟩
    have kn : IntKind.i64.wrap (nw + (m : Int)) = now := by have := hs.n0; have := hs.n1; rw [IntKind.wrap_i64]; omega
    have HN : Hid (0 ≤ now ∧ now ≤ 30 * ((i : Int) + 1)) := Lib.hid (by have := hs.n0; have := hs.n1; omega)
    have hin : (i : Int) < (l.length : Int) := by omega
    have hib : (i : Int) ≤ 20 := by omega
    have cO := fun W (y : Ext wr W) => op_any d x now W (hs.door.ext y) hs.chk ((HI.out x hxm).ext (hx.trans y)) (by have := HF.out.1 x hxm; omega) (by have := hs.aut; omega) (by have := hs.acc; omega) (by have := hs.ord; omega)
    obtain ⟨E, hE⟩ : ∃ E, (opF sigR d.fro x.o now).2 = E := ⟨_, rfl⟩
    unfold outS at cO
    rw [hE] at cO
    unfold frontV opVal at cO
    have HE := Lib.hid hE
    have HX4n := Lib.hid (HF.out.1 x hxm)
    obtain ⟨m0, m1, m2, m3, m4, m5⟩ := arr6f (hs.blk)

    clear hs hsn hx hi hG hE hA hlt h hm hnow hlen hxl hxm
    go_upto_region 12 with (fail)
    have HC : Hid (∀ W, Ext wr W → (W.cell? ⟨b3, 0, none⟩ = some (.int .i64 d.next) ∧ W.cell? ⟨b3, 1, none⟩ = some (.slice d.oA d.opn.length d.oc) ∧ W.cell? ⟨b3, 2, none⟩ = some (.slice d.cA d.accs.length d.cc) ∧ W.cell? ⟨b3, 3, none⟩ = some (.slice d.uA d.auts.length d.uc) ∧ W.cell? ⟨b3, 4, none⟩ = some (.slice d.rA d.ords.length d.rc) ∧ W.cell? ⟨b3, 5, none⟩ = some (.int .i64 d.ser) ∧ W.cell? (ad.add (i * 7)) = some (.int .u8 (x.o.kind : Int)) ∧ W.cell? ⟨(ad.add (i * 7)).block, (ad.add (i * 7)).off + 1, none⟩ = some (.int .u8 (x.o.seed : Int)) ∧ W.cell? ⟨(ad.add (i * 7)).block, (ad.add (i * 7)).off + 2, none⟩ = some (.int .i64 x.o.acc) ∧ W.cell? ⟨(ad.add (i * 7)).block, (ad.add (i * 7)).off + 3, none⟩ = some (.int .i64 x.o.id) ∧ W.cell? ⟨(ad.add (i * 7)).block, (ad.add (i * 7)).off + 4, none⟩ = some (.slice x.nA x.o.names.length x.nc) ∧ W.cell? ⟨(ad.add (i * 7)).block, (ad.add (i * 7)).off + 5, none⟩ = some (.bool x.o.ok) ∧ W.cell? ⟨(ad.add (i * 7)).block, (ad.add (i * 7)).off + 6, none⟩ = some (.int .u8 (x.o.later : Int)))) := Lib.hid fun W x => ⟨x.cell m0, x.cell m1, x.cell m2, x.cell m3, x.cell m4, x.cell m5, x.cell q0, x.cell q1, x.cell q2, x.cell q3, x.cell q4, x.cell q5, x.cell q6⟩
    clear m0 m1 m2 m3 m4 m5 q0 q1 q2 q3 q4 q5 q6
    go_cut [7, 8] (fun s7 s8 wx => ∃ b6 d5, s7 = .pointer (some ⟨b6, 0, none⟩) ∧ s8 = .int .i64 (E : Int) ∧ StpI b3 wr b6 d d5 (opF sigR d.fro x.o now).1 wx)
    case first =>
      refine F_start (n := 13) (ls := #[false, false, false, false, false, false, false, false, false, false, false, false, false]) (fun w' => w'.cell? ⟨b3, 0, none⟩ = some (.int .i64 d.next) ∧ w'.cell? ⟨b3, 1, none⟩ = some (.slice d.oA d.opn.length d.oc) ∧ w'.cell? ⟨b3, 2, none⟩ = some (.slice d.cA d.accs.length d.cc) ∧ w'.cell? ⟨b3, 3, none⟩ = some (.slice d.uA d.auts.length d.uc) ∧ w'.cell? ⟨b3, 4, none⟩ = some (.slice d.rA d.ords.length d.rc) ∧ w'.cell? ⟨b3, 5, none⟩ = some (.int .i64 d.ser) ∧ w'.cell? (ad.add (i * 7)) = some (.int .u8 (x.o.kind : Int)) ∧ w'.cell? ⟨(ad.add (i * 7)).block, (ad.add (i * 7)).off + 1, none⟩ = some (.int .u8 (x.o.seed : Int)) ∧ w'.cell? ⟨(ad.add (i * 7)).block, (ad.add (i * 7)).off + 2, none⟩ = some (.int .i64 x.o.acc) ∧ w'.cell? ⟨(ad.add (i * 7)).block, (ad.add (i * 7)).off + 3, none⟩ = some (.int .i64 x.o.id) ∧ w'.cell? ⟨(ad.add (i * 7)).block, (ad.add (i * 7)).off + 4, none⟩ = some (.slice x.nA x.o.names.length x.nc) ∧ w'.cell? ⟨(ad.add (i * 7)).block, (ad.add (i * 7)).off + 5, none⟩ = some (.bool x.o.ok) ∧ w'.cell? ⟨(ad.add (i * 7)).block, (ad.add (i * 7)).off + 6, none⟩ = some (.int .u8 (x.o.later : Int))) 11 (by kernel_rfl) (by kernel_rfl) (by kernel_rfl) (HC.out _ (Ext.refl wr).drew) (fun hHeld => ?_)
      refine F_take (i := 0) (some 37) (ls' := #[true, false, false, false, false, false, false, false, false, false, false, false, false]) rfl rfl (by kernel_rfl) (by kernel_rfl) (by kernel_rfl) (by kernel_rfl) (by kernel_rfl) (by rfl) (v := ?_) ?_ hHeld ?_
      rotate_left 1
      · intro w hSw; (try dsimp only at hSw); go_simp; try with_reducible rfl
      try simp only [Act.put, List.setIfInBounds_toArray, List.set_cons_zero, List.set_cons_succ]
      refine F_pure (i := 1) (some 38) (ls' := #[true, true, false, false, false, false, false, false, false, false, false, false, false]) rfl rfl (by kernel_rfl) (by kernel_rfl) (by kernel_rfl) (by kernel_rfl) (by rfl) (v := ?_) ?_ ?_
      rotate_left 1
      · intro w; go_simp; try with_reducible rfl
      try simp only [Act.put, List.setIfInBounds_toArray, List.set_cons_zero, List.set_cons_succ]
      refine F_pure (i := 2) (some 39) (ls' := #[true, true, true, false, false, false, false, false, false, false, false, false, false]) rfl rfl (by kernel_rfl) (by kernel_rfl) (by kernel_rfl) (by kernel_rfl) (by rfl) (v := ?_) ?_ ?_
      rotate_left 1
      · intro w; go_simp; try with_reducible rfl
      try simp only [Act.put, List.setIfInBounds_toArray, List.set_cons_zero, List.set_cons_succ]
      refine F_pure (i := 3) (some 40) (ls' := #[true, true, true, true, false, false, false, false, false, false, false, false, false]) rfl rfl (by kernel_rfl) (by kernel_rfl) (by kernel_rfl) (by kernel_rfl) (by rfl) (v := ?_) ?_ ?_
      rotate_left 1
      · intro w; go_simp; try with_reducible rfl
      try simp only [Act.put, List.setIfInBounds_toArray, List.set_cons_zero, List.set_cons_succ]
      refine F_take (i := 4) (some 41) (ls' := #[true, true, true, true, true, false, false, false, false, false, false, false, false]) rfl rfl (by kernel_rfl) (by kernel_rfl) (by kernel_rfl) (by kernel_rfl) (by kernel_rfl) (by rfl) (v := ?_) ?_ hHeld ?_
      rotate_left 1
      · intro w hSw; (try dsimp only at hSw); go_simp; try with_reducible rfl
      try simp only [Act.put, List.setIfInBounds_toArray, List.set_cons_zero, List.set_cons_succ]
      refine F_pure (i := 5) (some 42) (ls' := #[true, true, true, true, true, true, false, false, false, false, false, false, false]) rfl rfl (by kernel_rfl) (by kernel_rfl) (by kernel_rfl) (by kernel_rfl) (by rfl) (v := ?_) ?_ ?_
      rotate_left 1
      · intro w; go_simp; try with_reducible rfl
      try simp only [Act.put, List.setIfInBounds_toArray, List.set_cons_zero, List.set_cons_succ]
      refine F_some (is := [6, 10]) (by kernel_rfl) (by simp) (fun i hi => ?_)
      simp only [List.mem_cons, List.not_mem_nil, or_false] at hi
      rcases hi with rfl | rfl
      · refine F_way (S := fun w' => w'.cell? ⟨b3, 0, none⟩ = some (.int .i64 d.next) ∧ w'.cell? ⟨b3, 1, none⟩ = some (.slice d.oA d.opn.length d.oc) ∧ w'.cell? ⟨b3, 2, none⟩ = some (.slice d.cA d.accs.length d.cc) ∧ w'.cell? ⟨b3, 3, none⟩ = some (.slice d.uA d.auts.length d.uc) ∧ w'.cell? ⟨b3, 4, none⟩ = some (.slice d.rA d.ords.length d.rc) ∧ w'.cell? ⟨b3, 5, none⟩ = some (.int .i64 d.ser) ∧ w'.cell? (ad.add (i * 7)) = some (.int .u8 (x.o.kind : Int)) ∧ w'.cell? ⟨(ad.add (i * 7)).block, (ad.add (i * 7)).off + 1, none⟩ = some (.int .u8 (x.o.seed : Int)) ∧ w'.cell? ⟨(ad.add (i * 7)).block, (ad.add (i * 7)).off + 2, none⟩ = some (.int .i64 x.o.acc) ∧ w'.cell? ⟨(ad.add (i * 7)).block, (ad.add (i * 7)).off + 3, none⟩ = some (.int .i64 x.o.id) ∧ w'.cell? ⟨(ad.add (i * 7)).block, (ad.add (i * 7)).off + 4, none⟩ = some (.slice x.nA x.o.names.length x.nc) ∧ w'.cell? ⟨(ad.add (i * 7)).block, (ad.add (i * 7)).off + 5, none⟩ = some (.bool x.o.ok) ∧ w'.cell? ⟨(ad.add (i * 7)).block, (ad.add (i * 7)).off + 6, none⟩ = some (.int .u8 (x.o.later : Int))) (L := 11) (o := _) rfl (ls' := #[true, true, true, true, true, true, true, false, false, false, false, false, false]) (by kernel_rfl) (by rfl) (fun K hK => ?_)
        go_simp
        go_at_call 35
        refine (cO _ (Ext.refl wr).drew).mono ?_
        rintro e w5 ⟨d5, rfl, hf5, hw5, hl5, x5⟩
        have X5 : Ext wr w5 := (Ext.refl wr).drew.trans x5
        have hHeld2 := HC.out _ X5
        clear hHeld
        have hHeld := hHeld2
        clear hHeld2
        refine hK _ _ (fun _ _ => hHeld) ?_
        clear hK K
        try simp only [Act.put, List.setIfInBounds_toArray, List.set_cons_zero, List.set_cons_succ]
        refine F_pure (i := 7) (some 36) (ls' := #[true, true, true, true, true, true, true, true, false, false, false, false, false]) rfl rfl (by kernel_rfl) (by kernel_rfl) (by kernel_rfl) (by kernel_rfl) (by rfl) (v := ?_) ?_ ?_
        rotate_left 1
        · intro w; go_simp; try with_reducible rfl
        try simp only [Act.put, List.setIfInBounds_toArray, List.set_cons_zero, List.set_cons_succ]
        refine F_pure (i := 8) (some 44) (ls' := #[true, true, true, true, true, true, true, true, true, false, false, false, false]) rfl rfl (by kernel_rfl) (by kernel_rfl) (by kernel_rfl) (by kernel_rfl) (by rfl) (v := ?_) ?_ ?_
        rotate_left 1
        · intro w; go_simp; try with_reducible rfl
        try simp only [Act.put, List.setIfInBounds_toArray, List.set_cons_zero, List.set_cons_succ]
        refine F_pure (i := 9) (some 45) (ls' := #[true, true, true, true, true, true, true, true, true, true, false, false, false]) rfl rfl (by kernel_rfl) (by kernel_rfl) (by kernel_rfl) (by kernel_rfl) (by rfl) (v := ?_) ?_ ?_
        rotate_left 1
        · intro w; go_simp; try with_reducible rfl
        try simp only [Act.put, List.setIfInBounds_toArray, List.set_cons_zero, List.set_cons_succ]
        refine F_some (is := [10]) (by kernel_rfl) (by simp) (fun i hi => ?_)
        obtain rfl : i = 10 := by simpa using hi
        refine F_way (S := fun w' => w'.cell? ⟨b3, 0, none⟩ = some (.int .i64 d.next) ∧ w'.cell? ⟨b3, 1, none⟩ = some (.slice d.oA d.opn.length d.oc) ∧ w'.cell? ⟨b3, 2, none⟩ = some (.slice d.cA d.accs.length d.cc) ∧ w'.cell? ⟨b3, 3, none⟩ = some (.slice d.uA d.auts.length d.uc) ∧ w'.cell? ⟨b3, 4, none⟩ = some (.slice d.rA d.ords.length d.rc) ∧ w'.cell? ⟨b3, 5, none⟩ = some (.int .i64 d.ser) ∧ w'.cell? (ad.add (i * 7)) = some (.int .u8 (x.o.kind : Int)) ∧ w'.cell? ⟨(ad.add (i * 7)).block, (ad.add (i * 7)).off + 1, none⟩ = some (.int .u8 (x.o.seed : Int)) ∧ w'.cell? ⟨(ad.add (i * 7)).block, (ad.add (i * 7)).off + 2, none⟩ = some (.int .i64 x.o.acc) ∧ w'.cell? ⟨(ad.add (i * 7)).block, (ad.add (i * 7)).off + 3, none⟩ = some (.int .i64 x.o.id) ∧ w'.cell? ⟨(ad.add (i * 7)).block, (ad.add (i * 7)).off + 4, none⟩ = some (.slice x.nA x.o.names.length x.nc) ∧ w'.cell? ⟨(ad.add (i * 7)).block, (ad.add (i * 7)).off + 5, none⟩ = some (.bool x.o.ok) ∧ w'.cell? ⟨(ad.add (i * 7)).block, (ad.add (i * 7)).off + 6, none⟩ = some (.int .u8 (x.o.later : Int))) (L := 11) (o := _) rfl (ls' := #[true, true, true, true, true, true, true, true, true, true, true, false, false]) (by kernel_rfl) (by rfl) (fun K hK => ?_)
        go_simp
        have hHeld2 := HC.out _ (X5.alloc (.cells #[.int .i64 0, .slice none 0 0, .slice none 0 0, .slice none 0 0, .slice none 0 0, .int .i64 0] 43))
        clear hHeld
        have hHeld := hHeld2
        clear hHeld2
        refine hK _ _ (fun _ _ => hHeld) ?_
        clear hK K
        try simp only [Act.put, List.setIfInBounds_toArray, List.set_cons_zero, List.set_cons_succ]
        refine F_some (is := [11]) (by kernel_rfl) (by simp) (fun i hi => ?_)
        obtain rfl : i = 11 := by simpa using hi
        refine F_way (S := fun w' => w'.cell? ⟨b3, 0, none⟩ = some (.int .i64 d.next) ∧ w'.cell? ⟨b3, 1, none⟩ = some (.slice d.oA d.opn.length d.oc) ∧ w'.cell? ⟨b3, 2, none⟩ = some (.slice d.cA d.accs.length d.cc) ∧ w'.cell? ⟨b3, 3, none⟩ = some (.slice d.uA d.auts.length d.uc) ∧ w'.cell? ⟨b3, 4, none⟩ = some (.slice d.rA d.ords.length d.rc) ∧ w'.cell? ⟨b3, 5, none⟩ = some (.int .i64 d.ser) ∧ w'.cell? (ad.add (i * 7)) = some (.int .u8 (x.o.kind : Int)) ∧ w'.cell? ⟨(ad.add (i * 7)).block, (ad.add (i * 7)).off + 1, none⟩ = some (.int .u8 (x.o.seed : Int)) ∧ w'.cell? ⟨(ad.add (i * 7)).block, (ad.add (i * 7)).off + 2, none⟩ = some (.int .i64 x.o.acc) ∧ w'.cell? ⟨(ad.add (i * 7)).block, (ad.add (i * 7)).off + 3, none⟩ = some (.int .i64 x.o.id) ∧ w'.cell? ⟨(ad.add (i * 7)).block, (ad.add (i * 7)).off + 4, none⟩ = some (.slice x.nA x.o.names.length x.nc) ∧ w'.cell? ⟨(ad.add (i * 7)).block, (ad.add (i * 7)).off + 5, none⟩ = some (.bool x.o.ok) ∧ w'.cell? ⟨(ad.add (i * 7)).block, (ad.add (i * 7)).off + 6, none⟩ = some (.int .u8 (x.o.later : Int))) (L := 11) (o := _) rfl (ls' := #[true, true, true, true, true, true, true, true, true, true, true, true, false]) (by kernel_rfl) (by rfl) (fun K hK => ?_)
        go_simp
        refine hK _ _ (fun h _ => absurd h (by decide)) ?_
        clear hK K
        try simp only [Act.put, List.setIfInBounds_toArray, List.set_cons_zero, List.set_cons_succ]
        refine F_some (is := [12]) (by kernel_rfl) (by simp) (fun i hi => ?_)
        obtain rfl : i = 12 := by simpa using hi
        refine F_way (S := fun w' => w'.cell? ⟨b3, 0, none⟩ = some (.int .i64 d.next) ∧ w'.cell? ⟨b3, 1, none⟩ = some (.slice d.oA d.opn.length d.oc) ∧ w'.cell? ⟨b3, 2, none⟩ = some (.slice d.cA d.accs.length d.cc) ∧ w'.cell? ⟨b3, 3, none⟩ = some (.slice d.uA d.auts.length d.uc) ∧ w'.cell? ⟨b3, 4, none⟩ = some (.slice d.rA d.ords.length d.rc) ∧ w'.cell? ⟨b3, 5, none⟩ = some (.int .i64 d.ser) ∧ w'.cell? (ad.add (i * 7)) = some (.int .u8 (x.o.kind : Int)) ∧ w'.cell? ⟨(ad.add (i * 7)).block, (ad.add (i * 7)).off + 1, none⟩ = some (.int .u8 (x.o.seed : Int)) ∧ w'.cell? ⟨(ad.add (i * 7)).block, (ad.add (i * 7)).off + 2, none⟩ = some (.int .i64 x.o.acc) ∧ w'.cell? ⟨(ad.add (i * 7)).block, (ad.add (i * 7)).off + 3, none⟩ = some (.int .i64 x.o.id) ∧ w'.cell? ⟨(ad.add (i * 7)).block, (ad.add (i * 7)).off + 4, none⟩ = some (.slice x.nA x.o.names.length x.nc) ∧ w'.cell? ⟨(ad.add (i * 7)).block, (ad.add (i * 7)).off + 5, none⟩ = some (.bool x.o.ok) ∧ w'.cell? ⟨(ad.add (i * 7)).block, (ad.add (i * 7)).off + 6, none⟩ = some (.int .u8 (x.o.later : Int))) (L := 11) (o := _) rfl (ls' := #[true, true, true, true, true, true, true, true, true, true, true, true, true]) (by kernel_rfl) (by rfl) (fun K hK => ?_)
        go_simp
        refine hK _ _ (fun h _ => absurd h (by decide)) ?_
        clear hK K
        try simp only [Act.put, List.setIfInBounds_toArray, List.set_cons_zero, List.set_cons_succ]
        refine F_done (by kernel_rfl) ?_
        clear hHeld
        go_wp2
        go_meet
        exact ⟨_, d5, rfl, rfl, stp_new HS.out.blk.lt (Ext.refl wr).drew x5 hf5 hw5 hl5 HS.out.lies⟩
      · refine F_way (S := fun w' => w'.cell? ⟨b3, 0, none⟩ = some (.int .i64 d.next) ∧ w'.cell? ⟨b3, 1, none⟩ = some (.slice d.oA d.opn.length d.oc) ∧ w'.cell? ⟨b3, 2, none⟩ = some (.slice d.cA d.accs.length d.cc) ∧ w'.cell? ⟨b3, 3, none⟩ = some (.slice d.uA d.auts.length d.uc) ∧ w'.cell? ⟨b3, 4, none⟩ = some (.slice d.rA d.ords.length d.rc) ∧ w'.cell? ⟨b3, 5, none⟩ = some (.int .i64 d.ser) ∧ w'.cell? (ad.add (i * 7)) = some (.int .u8 (x.o.kind : Int)) ∧ w'.cell? ⟨(ad.add (i * 7)).block, (ad.add (i * 7)).off + 1, none⟩ = some (.int .u8 (x.o.seed : Int)) ∧ w'.cell? ⟨(ad.add (i * 7)).block, (ad.add (i * 7)).off + 2, none⟩ = some (.int .i64 x.o.acc) ∧ w'.cell? ⟨(ad.add (i * 7)).block, (ad.add (i * 7)).off + 3, none⟩ = some (.int .i64 x.o.id) ∧ w'.cell? ⟨(ad.add (i * 7)).block, (ad.add (i * 7)).off + 4, none⟩ = some (.slice x.nA x.o.names.length x.nc) ∧ w'.cell? ⟨(ad.add (i * 7)).block, (ad.add (i * 7)).off + 5, none⟩ = some (.bool x.o.ok) ∧ w'.cell? ⟨(ad.add (i * 7)).block, (ad.add (i * 7)).off + 6, none⟩ = some (.int .u8 (x.o.later : Int))) (L := 11) (o := _) rfl (ls' := #[true, true, true, true, true, true, false, false, false, false, true, false, false]) (by kernel_rfl) (by rfl) (fun K hK => ?_)
        go_simp
        have hHeld2 := HC.out _ (((Ext.refl wr).alloc (.cells #[.int .i64 0, .slice none 0 0, .slice none 0 0, .slice none 0 0, .slice none 0 0, .int .i64 0] 43)).drew)
        clear hHeld
        have hHeld := hHeld2
        clear hHeld2
        refine hK _ _ (fun _ _ => hHeld) ?_
        clear hK K
        try simp only [Act.put, List.setIfInBounds_toArray, List.set_cons_zero, List.set_cons_succ]
        refine F_some (is := [6]) (by kernel_rfl) (by simp) (fun i hi => ?_)
        obtain rfl : i = 6 := by simpa using hi
        refine F_way (S := fun w' => w'.cell? ⟨b3, 0, none⟩ = some (.int .i64 d.next) ∧ w'.cell? ⟨b3, 1, none⟩ = some (.slice d.oA d.opn.length d.oc) ∧ w'.cell? ⟨b3, 2, none⟩ = some (.slice d.cA d.accs.length d.cc) ∧ w'.cell? ⟨b3, 3, none⟩ = some (.slice d.uA d.auts.length d.uc) ∧ w'.cell? ⟨b3, 4, none⟩ = some (.slice d.rA d.ords.length d.rc) ∧ w'.cell? ⟨b3, 5, none⟩ = some (.int .i64 d.ser) ∧ w'.cell? (ad.add (i * 7)) = some (.int .u8 (x.o.kind : Int)) ∧ w'.cell? ⟨(ad.add (i * 7)).block, (ad.add (i * 7)).off + 1, none⟩ = some (.int .u8 (x.o.seed : Int)) ∧ w'.cell? ⟨(ad.add (i * 7)).block, (ad.add (i * 7)).off + 2, none⟩ = some (.int .i64 x.o.acc) ∧ w'.cell? ⟨(ad.add (i * 7)).block, (ad.add (i * 7)).off + 3, none⟩ = some (.int .i64 x.o.id) ∧ w'.cell? ⟨(ad.add (i * 7)).block, (ad.add (i * 7)).off + 4, none⟩ = some (.slice x.nA x.o.names.length x.nc) ∧ w'.cell? ⟨(ad.add (i * 7)).block, (ad.add (i * 7)).off + 5, none⟩ = some (.bool x.o.ok) ∧ w'.cell? ⟨(ad.add (i * 7)).block, (ad.add (i * 7)).off + 6, none⟩ = some (.int .u8 (x.o.later : Int))) (L := 11) (o := _) rfl (ls' := #[true, true, true, true, true, true, true, false, false, false, true, false, false]) (by kernel_rfl) (by rfl) (fun K hK => ?_)
        go_simp
        go_at_call 35
        refine (cO _ (((Ext.refl wr).alloc (.cells #[.int .i64 0, .slice none 0 0, .slice none 0 0, .slice none 0 0, .slice none 0 0, .int .i64 0] 43)).drew)).mono ?_
        rintro e w5 ⟨d5, rfl, hf5, hw5, hl5, x5⟩
        have X5 : Ext wr w5 := (((Ext.refl wr).alloc (.cells #[.int .i64 0, .slice none 0 0, .slice none 0 0, .slice none 0 0, .slice none 0 0, .int .i64 0] 43)).drew).trans x5
        have hz := ext_blk x5 (Blk.drew (Blk.new wr 43 #[.int .i64 0, .slice none 0 0, .slice none 0 0, .slice none 0 0, .slice none 0 0, .int .i64 0]))
        have hHeld2 := HC.out _ X5
        clear hHeld
        have hHeld := hHeld2
        clear hHeld2
        refine hK _ _ (fun _ _ => hHeld) ?_
        clear hK K
        try simp only [Act.put, List.setIfInBounds_toArray, List.set_cons_zero, List.set_cons_succ]
        refine F_pure (i := 7) (some 36) (ls' := #[true, true, true, true, true, true, true, true, false, false, true, false, false]) rfl rfl (by kernel_rfl) (by kernel_rfl) (by kernel_rfl) (by kernel_rfl) (by rfl) (v := ?_) ?_ ?_
        rotate_left 1
        · intro w; go_simp; try with_reducible rfl
        try simp only [Act.put, List.setIfInBounds_toArray, List.set_cons_zero, List.set_cons_succ]
        refine F_pure (i := 8) (some 44) (ls' := #[true, true, true, true, true, true, true, true, true, false, true, false, false]) rfl rfl (by kernel_rfl) (by kernel_rfl) (by kernel_rfl) (by kernel_rfl) (by rfl) (v := ?_) ?_ ?_
        rotate_left 1
        · intro w; go_simp; try with_reducible rfl
        try simp only [Act.put, List.setIfInBounds_toArray, List.set_cons_zero, List.set_cons_succ]
        refine F_pure (i := 9) (some 45) (ls' := #[true, true, true, true, true, true, true, true, true, true, true, false, false]) rfl rfl (by kernel_rfl) (by kernel_rfl) (by kernel_rfl) (by kernel_rfl) (by rfl) (v := ?_) ?_ ?_
        rotate_left 1
        · intro w; go_simp; try with_reducible rfl
        try simp only [Act.put, List.setIfInBounds_toArray, List.set_cons_zero, List.set_cons_succ]
        refine F_some (is := [11]) (by kernel_rfl) (by simp) (fun i hi => ?_)
        obtain rfl : i = 11 := by simpa using hi
        refine F_way (S := fun w' => w'.cell? ⟨b3, 0, none⟩ = some (.int .i64 d.next) ∧ w'.cell? ⟨b3, 1, none⟩ = some (.slice d.oA d.opn.length d.oc) ∧ w'.cell? ⟨b3, 2, none⟩ = some (.slice d.cA d.accs.length d.cc) ∧ w'.cell? ⟨b3, 3, none⟩ = some (.slice d.uA d.auts.length d.uc) ∧ w'.cell? ⟨b3, 4, none⟩ = some (.slice d.rA d.ords.length d.rc) ∧ w'.cell? ⟨b3, 5, none⟩ = some (.int .i64 d.ser) ∧ w'.cell? (ad.add (i * 7)) = some (.int .u8 (x.o.kind : Int)) ∧ w'.cell? ⟨(ad.add (i * 7)).block, (ad.add (i * 7)).off + 1, none⟩ = some (.int .u8 (x.o.seed : Int)) ∧ w'.cell? ⟨(ad.add (i * 7)).block, (ad.add (i * 7)).off + 2, none⟩ = some (.int .i64 x.o.acc) ∧ w'.cell? ⟨(ad.add (i * 7)).block, (ad.add (i * 7)).off + 3, none⟩ = some (.int .i64 x.o.id) ∧ w'.cell? ⟨(ad.add (i * 7)).block, (ad.add (i * 7)).off + 4, none⟩ = some (.slice x.nA x.o.names.length x.nc) ∧ w'.cell? ⟨(ad.add (i * 7)).block, (ad.add (i * 7)).off + 5, none⟩ = some (.bool x.o.ok) ∧ w'.cell? ⟨(ad.add (i * 7)).block, (ad.add (i * 7)).off + 6, none⟩ = some (.int .u8 (x.o.later : Int))) (L := 11) (o := _) rfl (ls' := #[true, true, true, true, true, true, true, true, true, true, true, true, false]) (by kernel_rfl) (by rfl) (fun K hK => ?_)
        obtain ⟨v0, v1, v2, v3, v4, v5, f0, f1, f2, f3, f4, f5⟩ := st6 hz
        go_simp
        refine hK _ _ (fun h _ => absurd h (by decide)) ?_
        clear hK K
        try simp only [Act.put, List.setIfInBounds_toArray, List.set_cons_zero, List.set_cons_succ]
        refine F_some (is := [12]) (by kernel_rfl) (by simp) (fun i hi => ?_)
        obtain rfl : i = 12 := by simpa using hi
        refine F_way (S := fun w' => w'.cell? ⟨b3, 0, none⟩ = some (.int .i64 d.next) ∧ w'.cell? ⟨b3, 1, none⟩ = some (.slice d.oA d.opn.length d.oc) ∧ w'.cell? ⟨b3, 2, none⟩ = some (.slice d.cA d.accs.length d.cc) ∧ w'.cell? ⟨b3, 3, none⟩ = some (.slice d.uA d.auts.length d.uc) ∧ w'.cell? ⟨b3, 4, none⟩ = some (.slice d.rA d.ords.length d.rc) ∧ w'.cell? ⟨b3, 5, none⟩ = some (.int .i64 d.ser) ∧ w'.cell? (ad.add (i * 7)) = some (.int .u8 (x.o.kind : Int)) ∧ w'.cell? ⟨(ad.add (i * 7)).block, (ad.add (i * 7)).off + 1, none⟩ = some (.int .u8 (x.o.seed : Int)) ∧ w'.cell? ⟨(ad.add (i * 7)).block, (ad.add (i * 7)).off + 2, none⟩ = some (.int .i64 x.o.acc) ∧ w'.cell? ⟨(ad.add (i * 7)).block, (ad.add (i * 7)).off + 3, none⟩ = some (.int .i64 x.o.id) ∧ w'.cell? ⟨(ad.add (i * 7)).block, (ad.add (i * 7)).off + 4, none⟩ = some (.slice x.nA x.o.names.length x.nc) ∧ w'.cell? ⟨(ad.add (i * 7)).block, (ad.add (i * 7)).off + 5, none⟩ = some (.bool x.o.ok) ∧ w'.cell? ⟨(ad.add (i * 7)).block, (ad.add (i * 7)).off + 6, none⟩ = some (.int .u8 (x.o.later : Int))) (L := 11) (o := _) rfl (ls' := #[true, true, true, true, true, true, true, true, true, true, true, true, true]) (by kernel_rfl) (by rfl) (fun K hK => ?_)
        go_simp
        refine hK _ _ (fun h _ => absurd h (by decide)) ?_
        clear hK K
        try simp only [Act.put, List.setIfInBounds_toArray, List.set_cons_zero, List.set_cons_succ]
        refine F_done (by kernel_rfl) ?_
        clear hHeld
        go_wp2
        go_meet
        exact ⟨_, d5, rfl, rfl, stp_set HS.out.blk.lt (((Ext.refl wr).alloc (.cells #[.int .i64 0, .slice none 0 0, .slice none 0 0, .slice none 0 0, .slice none 0 0, .int .i64 0] 43)).drew) (by simp) x5 hf5 hw5 hl5 HS.out.lies HS.out.door.lies hz⟩
    case rest =>
      obtain ⟨b6, d5, rfl, rfl, hst⟩ := hcut
      obtain ⟨W6, hW6⟩ : ∃ W, W = wc := ⟨_, rfl⟩
      rw [← hW6] at hst ⊢
      have HT := Lib.hid hst
      have HM6 := Lib.hid (ext_blk hst.ext HS.out.blk)
      obtain ⟨ho, ha5, hc5, hr5⟩ := HS.out.step HX4n.out hst.fro
      have HO := Lib.hid ho
      have HL5 : Hid (d5.auts.length ≤ 4 * (i + 1) ∧ d5.accs.length ≤ i + 1 ∧ d5.ords.length ≤ i + 1 ∧ i ≤ 20) := Lib.hid ⟨ha5, hc5, hr5, by omega⟩
      have HQ : Hid (∀ W, Ext wr W → (W.cell? (ad.add (i * 7)) = some (.int .u8 (x.o.kind : Int)) ∧ W.cell? ⟨(ad.add (i * 7)).block, (ad.add (i * 7)).off + 1, none⟩ = some (.int .u8 (x.o.seed : Int)) ∧ W.cell? ⟨(ad.add (i * 7)).block, (ad.add (i * 7)).off + 2, none⟩ = some (.int .i64 x.o.acc) ∧ W.cell? ⟨(ad.add (i * 7)).block, (ad.add (i * 7)).off + 3, none⟩ = some (.int .i64 x.o.id) ∧ W.cell? ⟨(ad.add (i * 7)).block, (ad.add (i * 7)).off + 4, none⟩ = some (.slice x.nA x.o.names.length x.nc) ∧ W.cell? ⟨(ad.add (i * 7)).block, (ad.add (i * 7)).off + 5, none⟩ = some (.bool x.o.ok) ∧ W.cell? ⟨(ad.add (i * 7)).block, (ad.add (i * 7)).off + 6, none⟩ = some (.int .u8 (x.o.later : Int)))) := Lib.hid fun W y => ⟨(HC.out W y).2.2.2.2.2.2.1, (HC.out W y).2.2.2.2.2.2.2.1, (HC.out W y).2.2.2.2.2.2.2.2.1, (HC.out W y).2.2.2.2.2.2.2.2.2.1, (HC.out W y).2.2.2.2.2.2.2.2.2.2.1, (HC.out W y).2.2.2.2.2.2.2.2.2.2.2.1, (HC.out W y).2.2.2.2.2.2.2.2.2.2.2.2⟩
      clear hW6 hst ho ha5 hc5 hr5 HC
      obtain ⟨q0, q1, q2, q3, q4, q5, q6⟩ := HQ.out W6 HT.out.ext
      have m3 := HM6.out.cell 3
      have jb0 := fun q : Later W6 => q.cell q0
      have jb3 := fun q : Later W6 => q.cell q3
      have jb5 := fun q : Later W6 => q.cell q5
      have jm3 := fun q : Later W6 => q.cell m3
      obtain ⟨k7, hk7⟩ : ∃ z, z = x.o.kind % 7 := ⟨_, rfl⟩
      have km7 : Int.tmod (x.o.kind : Int) 7 = (k7 : Int) := by rw [Int.tmod_eq_emod_of_nonneg (by omega)]; omega
      have HK7 := Lib.hid hk7
      have hinl : (i : Int) < (l.length : Int) := hin
      clear hk7 q0 q1 q2 q3 q4 q5 q6 m3
      go_upto_region 13 with (fail)
      go_cut [82] (fun s82 wx => s82 = .bool (decide (seeP d.fro x.o now)) ∧ Ext W6 wx)
      case first =>
        by_cases g1 : k7 = 5
        case neg =>
          have d1 : ((k7 : Int) == 5) = false := by simp; omega
          have HN5 := Lib.hid (show decide (seeP d.fro x.o now) = false from decide_eq_false fun k => g1 (by rw [HK7.out]; exact k.1))
          clear g1
          refine wp_region_later (by kernel_rfl) (by kernel_rfl) ?_
          repeat (go_big_quiet_step ((fail)))
          refine wpQuiet_nil ?_
          rintro W7 ⟨z, hz⟩
          go_wp2
          go_meet
          exact ⟨by rw [HN5.out], by rw [hz]; exact z.ext⟩
        have d1 : ((k7 : Int) == 5) = true := by simp [g1]
        by_cases g2 : E = 0
        case neg =>
          have d2 : ((E : Int) == 0) = false := by simp [g2]
          have HN5 := Lib.hid (show decide (seeP d.fro x.o now) = false from decide_eq_false fun k => g2 (by rw [← HE.out]; exact k.2.1))
          clear g1 g2
          refine wp_region_later (by kernel_rfl) (by kernel_rfl) ?_
          repeat (go_big_quiet_step ((fail)))
          refine wpQuiet_nil ?_
          rintro W7 ⟨z, hz⟩
          go_wp2
          go_meet
          exact ⟨by rw [HN5.out], by rw [hz]; exact z.ext⟩
        have d2 : ((E : Int) == 0) = true := by simp [g2]
        cases g3 : x.o.ok
        · have HN5 := Lib.hid (show decide (seeP d.fro x.o now) = false from decide_eq_false fun k => by have := k.2.2; rw [g3] at this; cases this)
          rw [g3] at jb5
          clear g1 g2 g3
          refine wp_region_later (by kernel_rfl) (by kernel_rfl) ?_
          repeat (go_big_quiet_step ((fail)))
          refine wpQuiet_nil ?_
          rintro W7 ⟨z, hz⟩
          go_wp2
          go_meet
          exact ⟨by rw [HN5.out], by rw [hz]; exact z.ext⟩
        · have hP : seeP d.fro x.o now := ⟨by rw [← HK7.out]; exact g1, by rw [HE.out]; exact g2, g3⟩
          obtain ⟨ka, s, hid, has, -⟩ := see_yes hP
          have HN5 := Lib.hid (show decide (seeP d.fro x.o now) = true from decide_eq_true hP)
          have hka : ka < d.auts.length := (List.getElem?_eq_some_iff.1 has).1
          have d3 : decide ((1 : Int) ≤ x.o.id) = true := decide_eq_true (by omega)
          have d4 : decide (x.o.id ≤ (d.auts.length : Int)) = true := decide_eq_true (by omega)
          rw [g3] at jb5
          clear g1 g2 g3 hP hid has hka
          refine wp_region_later (by kernel_rfl) (by kernel_rfl) ?_
          repeat (go_big_quiet_step ((fail)))
          refine wpQuiet_nil ?_
          rintro W7 ⟨z, hz⟩
          go_wp2
          go_meet
          exact ⟨by rw [HN5.out], by rw [hz]; exact z.ext⟩
      case rest =>
        obtain ⟨hs82, hx7⟩ := hcut
        rw [hs82]
        obtain ⟨W7, hW7⟩ : ∃ W, W = wc := ⟨_, rfl⟩
        rw [← hW7] at hx7 ⊢
        have HX7 := Lib.hid hx7
        clear hW7 hx7 hs82 jb0 jb3 jb5 jm3
      
        have H6N : Hid (Value.ownBlock (.slice vA L.length vc) ≠ some b6) := Lib.hid fun e => by have := (HSN.out.own.lt _ e).2; have := HT.out.hb; omega
        have HJ7 : Hid (SeeJ b3 b6 L vA vc d d5 w W7) := Lib.hid ⟨own_ext HSN.out.own (HT.out.ext.trans HX7.out), ext_blk HX7.out HM6.out, ext_blk HX7.out HT.out.box, HT.out.door.ext HX7.out, (HT.out.all _ HSN.out.lies).mono (fun k hk => by
          rcases hk with hk | hk
          · exact hk
          · intro e; have := (HSN.out.own.lt _ e).2; omega), HX.out.trans (HT.out.ext.trans HX7.out)⟩
        go_upto_if 82 with (fail)
        go_cut [5] (fun s5 wx => ∃ L' vA' vc', s5 = .slice vA' L'.length vc' ∧ L' = L ++ seenA d.fro x.o now ∧ SeeJ b3 b6 L' vA' vc' d d5 w wx)
        case first =>
          by_cases hP : seeP d.fro x.o now
          case neg =>
            rw [decide_eq_false hP]
            have HNO := Lib.hid (see_no hP)
            clear hP
            go_wp2
            go_meet
            exact ⟨L, vA, vc, rfl, by rw [HNO.out, List.append_nil], HJ7.out⟩
          rw [decide_eq_true hP]
          obtain ⟨ka, s, hid, has, hsa⟩ := see_yes hP
          have HSA := Lib.hid hsa
          have hka : ka < d.auts.length := (List.getElem?_eq_some_iff.1 has).1
          have hkl : (ka : Int) < (d.auts.length : Int) := by omega
          have hkb : (ka : Int) ≤ 1000 := by have := HS.out.aut; have := HL5.out; omega
          have kid : IntKind.i64.wrap (x.o.id - 1) = (ka : Int) := by rw [IntKind.wrap_i64]; omega
          obtain ⟨ad2, hA2, hlA2, r0, r1, r2, r3, r4, r5, r6⟩ := reads_aut (HS.out.door.ext (HT.out.ext.trans HX7.out)).aut has
          obtain ⟨q0, q1, q2, q3, q4, q5, q6⟩ := HQ.out W7 (HT.out.ext.trans HX7.out)
          have m3 := (ext_blk HX7.out HM6.out).cell 3
          rw [hA2] at m3
          have HC14 : Hid (∀ W, Ext W7 W → (W.cell? ⟨b3, 3, none⟩ = some (.slice (some ad2) d.auts.length d.uc) ∧ W.cell? ⟨(ad.add (i * 7)).block, (ad.add (i * 7)).off + 3, none⟩ = some (.int .i64 x.o.id) ∧ W.cell? (ad2.add (ka * 7)) = some (.int .i64 s.id) ∧ W.cell? ⟨(ad2.add (ka * 7)).block, (ad2.add (ka * 7)).off + 1, none⟩ = some (.int .i64 s.acc) ∧ W.cell? ⟨(ad2.add (ka * 7)).block, (ad2.add (ka * 7)).off + 2, none⟩ = some (.string s.name) ∧ W.cell? ⟨(ad2.add (ka * 7)).block, (ad2.add (ka * 7)).off + 3, none⟩ = some (.string s.tok) ∧ W.cell? ⟨(ad2.add (ka * 7)).block, (ad2.add (ka * 7)).off + 4, none⟩ = some (.int .i64 s.st) ∧ W.cell? ⟨(ad2.add (ka * 7)).block, (ad2.add (ka * 7)).off + 5, none⟩ = some (.int .i64 s.fr) ∧ W.cell? ⟨(ad2.add (ka * 7)).block, (ad2.add (ka * 7)).off + 6, none⟩ = some (.int .i64 s.un))) := Lib.hid fun W y => ⟨y.cell m3, y.cell q3, y.cell r0, y.cell r1, y.cell r2, y.cell r3, y.cell r4, y.cell r5, y.cell r6⟩
          clear hP hid has hsa hka hA2 hlA2 r0 r1 r2 r3 r4 r5 r6 q0 q1 q2 q3 q4 q5 q6 m3
          go_upto_region 14 with (fail)
          refine E_start (n := 12) (ls := #[false, false, false, false, false, false, false, false, false, false, false, false]) (fun w' => w'.cell? ⟨b3, 3, none⟩ = some (.slice (some ad2) d.auts.length d.uc) ∧ w'.cell? ⟨(ad.add (i * 7)).block, (ad.add (i * 7)).off + 3, none⟩ = some (.int .i64 x.o.id) ∧ w'.cell? (ad2.add (ka * 7)) = some (.int .i64 s.id) ∧ w'.cell? ⟨(ad2.add (ka * 7)).block, (ad2.add (ka * 7)).off + 1, none⟩ = some (.int .i64 s.acc) ∧ w'.cell? ⟨(ad2.add (ka * 7)).block, (ad2.add (ka * 7)).off + 2, none⟩ = some (.string s.name) ∧ w'.cell? ⟨(ad2.add (ka * 7)).block, (ad2.add (ka * 7)).off + 3, none⟩ = some (.string s.tok) ∧ w'.cell? ⟨(ad2.add (ka * 7)).block, (ad2.add (ka * 7)).off + 4, none⟩ = some (.int .i64 s.st) ∧ w'.cell? ⟨(ad2.add (ka * 7)).block, (ad2.add (ka * 7)).off + 5, none⟩ = some (.int .i64 s.fr) ∧ w'.cell? ⟨(ad2.add (ka * 7)).block, (ad2.add (ka * 7)).off + 6, none⟩ = some (.int .i64 s.un)) 11 (by kernel_rfl) (by kernel_rfl) (by kernel_rfl) (HC14.out _ (Ext.refl W7).drew) (fun hHeld => ?_)
          refine E_take (i := 0) (some 83) (ls' := #[true, false, false, false, false, false, false, false, false, false, false, false]) rfl rfl (by kernel_rfl) (by kernel_rfl) (by kernel_rfl) (by kernel_rfl) (by kernel_rfl) (by rfl) (v := ?_) ?_ hHeld ?_
          rotate_left 1
          · intro w hSw; (try dsimp only at hSw); go_simp; try with_reducible rfl
          try simp only [Act.put, List.setIfInBounds_toArray, List.set_cons_zero, List.set_cons_succ]
          refine E_take (i := 1) (some 84) (ls' := #[true, true, false, false, false, false, false, false, false, false, false, false]) rfl rfl (by kernel_rfl) (by kernel_rfl) (by kernel_rfl) (by kernel_rfl) (by kernel_rfl) (by rfl) (v := ?_) ?_ hHeld ?_
          rotate_left 1
          · intro w hSw; (try dsimp only at hSw); go_simp; try with_reducible rfl
          try simp only [Act.put, List.setIfInBounds_toArray, List.set_cons_zero, List.set_cons_succ]
          refine E_take (i := 2) (some 85) (ls' := #[true, true, true, false, false, false, false, false, false, false, false, false]) rfl rfl (by kernel_rfl) (by kernel_rfl) (by kernel_rfl) (by kernel_rfl) (by kernel_rfl) (by rfl) (v := ?_) ?_ hHeld ?_
          rotate_left 1
          · intro w hSw; (try dsimp only at hSw); go_simp; try with_reducible rfl
          try simp only [Act.put, List.setIfInBounds_toArray, List.set_cons_zero, List.set_cons_succ]
          refine E_take (i := 3) (some 86) (ls' := #[true, true, true, true, false, false, false, false, false, false, false, false]) rfl rfl (by kernel_rfl) (by kernel_rfl) (by kernel_rfl) (by kernel_rfl) (by kernel_rfl) (by rfl) (v := ?_) ?_ hHeld ?_
          rotate_left 1
          · intro w hSw; (try dsimp only at hSw); go_simp; try with_reducible rfl
          try simp only [Act.put, List.setIfInBounds_toArray, List.set_cons_zero, List.set_cons_succ]
          refine E_take (i := 4) (some 87) (ls' := #[true, true, true, true, true, false, false, false, false, false, false, false]) rfl rfl (by kernel_rfl) (by kernel_rfl) (by kernel_rfl) (by kernel_rfl) (by kernel_rfl) (by rfl) (v := ?_) ?_ hHeld ?_
          rotate_left 1
          · intro w hSw; (try dsimp only at hSw); go_simp; try with_reducible rfl
          try simp only [Act.put, List.setIfInBounds_toArray, List.set_cons_zero, List.set_cons_succ]
          refine E_take (i := 5) (some 88) (ls' := #[true, true, true, true, true, true, false, false, false, false, false, false]) rfl rfl (by kernel_rfl) (by kernel_rfl) (by kernel_rfl) (by kernel_rfl) (by kernel_rfl) (by rfl) (v := ?_) ?_ hHeld ?_
          rotate_left 1
          · intro w hSw; (try dsimp only at hSw); go_simp; try with_reducible rfl
          try simp only [Act.put, List.setIfInBounds_toArray, List.set_cons_zero, List.set_cons_succ]
          refine E_take (i := 6) (some 89) (ls' := #[true, true, true, true, true, true, true, false, false, false, false, false]) rfl rfl (by kernel_rfl) (by kernel_rfl) (by kernel_rfl) (by kernel_rfl) (by kernel_rfl) (by rfl) (v := ?_) ?_ hHeld ?_
          rotate_left 1
          · intro w hSw; (try dsimp only at hSw); go_simp; try with_reducible rfl
          try simp only [Act.put, List.setIfInBounds_toArray, List.set_cons_zero, List.set_cons_succ]
          refine E_take (i := 7) (some 90) (ls' := #[true, true, true, true, true, true, true, true, false, false, false, false]) rfl rfl (by kernel_rfl) (by kernel_rfl) (by kernel_rfl) (by kernel_rfl) (by kernel_rfl) (by rfl) (v := ?_) ?_ hHeld ?_
          rotate_left 1
          · intro w hSw; (try dsimp only at hSw); go_simp; try with_reducible rfl
          try simp only [Act.put, List.setIfInBounds_toArray, List.set_cons_zero, List.set_cons_succ]
          refine E_take (i := 8) (some 91) (ls' := #[true, true, true, true, true, true, true, true, true, false, false, false]) rfl rfl (by kernel_rfl) (by kernel_rfl) (by kernel_rfl) (by kernel_rfl) (by kernel_rfl) (by rfl) (v := ?_) ?_ hHeld ?_
          rotate_left 1
          · intro w hSw; (try dsimp only at hSw); go_simp; try with_reducible rfl
          try simp only [Act.put, List.setIfInBounds_toArray, List.set_cons_zero, List.set_cons_succ]
          refine E_take (i := 9) (some 92) (ls' := #[true, true, true, true, true, true, true, true, true, true, false, false]) rfl rfl (by kernel_rfl) (by kernel_rfl) (by kernel_rfl) (by kernel_rfl) (by kernel_rfl) (by rfl) (v := ?_) ?_ hHeld ?_
          rotate_left 1
          · intro w hSw; (try dsimp only at hSw); go_simp; try with_reducible rfl
          try simp only [Act.put, List.setIfInBounds_toArray, List.set_cons_zero, List.set_cons_succ]
          refine E_one (i := 10) (ls' := #[true, true, true, true, true, true, true, true, true, true, true, false]) rfl (by kernel_rfl) (by kernel_rfl) (by rfl) (fun K hK => ?_)
          go_simp
          have hHeld2 := HC14.out _ (((Ext.refl W7).alloc (.cells #[.int .i64 0, .int .i64 0, .string ⟨#[]⟩, .string ⟨#[]⟩, .int .i64 0, .int .i64 0, .int .i64 0] 69)).drew)
          clear hHeld
          have hHeld := hHeld2
          clear hHeld2
          refine hK _ _ (fun _ => hHeld) ?_
          clear hK K
          try simp only [Act.put, List.setIfInBounds_toArray, List.set_cons_zero, List.set_cons_succ]
          refine E_one (i := 11) (ls' := #[true, true, true, true, true, true, true, true, true, true, true, true]) rfl (by kernel_rfl) (by kernel_rfl) (by rfl) (fun K hK => ?_)
          clear hHeld
          go_simp
          refine hK _ _ (fun h => absurd rfl h) ?_
          clear hK K
          try simp only [Act.put, List.setIfInBounds_toArray, List.set_cons_zero, List.set_cons_succ]
          refine E_done (by kernel_rfl) ?_
          (try clear hHeld)
          obtain ⟨W8, hW8⟩ : ∃ W, W = (W7.alloc (.cells #[.int .i64 s.id, .int .i64 s.acc, .string s.name, .string s.tok, .int .i64 s.st, .int .i64 s.fr, .int .i64 s.un] 69)).drew := ⟨_, rfl⟩
          rw [← hW8]
          have hx78 : Ext W7 W8 := by rw [hW8]; exact ((Ext.refl W7).alloc _).drew
          have HBa : Hid (Blk W8 W7.heap.size 69 #[.int .i64 s.id, .int .i64 s.acc, .string s.name, .string s.tok, .int .i64 s.st, .int .i64 s.fr, .int .i64 s.un]) := Lib.hid (by rw [hW8]; exact (Blk.new W7 _ _).drew)
          have HJ8 : Hid (SeeJ b3 b6 L vA vc d d5 w W8) := Lib.hid (HJ7.out.ext8 hx78)
          clear hW8 hx78
          have ac1 := HBa.out.cell 1
          have ac2 := HBa.out.cell 2
          obtain ⟨i0, hi0, hz0, hz1, hz2⟩ := info_parts Tryz.infoShn
          go_upto_region 16 with (at_builtin; refine wpList_append_any _ rfl (.tmp 93) (.tmp 100) 64 rfl (b3 + 1) 71 i0 (.agg #[.int .i64 0, .string ⟨#[]⟩, .int .i64 0]) 3 32 Tryz.underlying64 hi0 hz0 hz1 hz2 rfl (by decide) (.slice vA L.length vc) L.length (shnV L) rfl (HJ8.out.own.alloc _) _ (some ⟨W8.heap.size, 0, none⟩) 1 1 [.int .i64 s.acc, .string s.name, .int .i64 now] rfl (reads_new3 W8 _ _ _ _) (by simp [Value.oneCell']) (by have := HSN.out.len; simp only [maxLen]; omega) (by have := HSN.out.len; omega) (by have := HJ8.out.b3.lt; simp; omega) ?_; intro v9 w9 hown9 hg9 hnw9; obtain ⟨vA9, vc9, rfl, hJ9⟩ := (HJ8.out.ext8 ((Ext.refl W8).alloc (.cells #[.int .i64 s.acc, .string s.name, .int .i64 now] 71))).more HS3.out H6N.out (t := (s.acc, s.name, now)) hown9 hg9 hnw9; have HJ9 := Lib.hid hJ9; clear hown9 hg9 hnw9 hJ9)
          go_meet
          exact ⟨_, vA9, vc9, by rw [List.length_append]; rfl, by rw [HSA.out], HJ9.out⟩
        case rest =>
          obtain ⟨L', vA', vc', rfl, hL', hj8⟩ := hcut
          obtain ⟨W8, hW8⟩ : ∃ W, W = wc := ⟨_, rfl⟩
          rw [← hW8] at hj8 ⊢
          have HJ8 := Lib.hid hj8
          have HL' := Lib.hid hL'
          obtain ⟨m0, m1, m2, m3, m4, m5, f0, f1, f2, f3, f4, f5⟩ := st6 hj8.b3
          obtain ⟨n0, n1, n2, n3, n4, n5⟩ := arr6f hj8.b6
          clear hW8 hj8 hL'
          go_upto_region 17 with (fail)
          obtain ⟨W9, hW9⟩ : ∃ W, W = ((((((W8.setCell ⟨b3, 0, none⟩ (.int .i64 d5.next)).setCell ⟨b3, 1, none⟩ (.slice d5.oA d5.opn.length d5.oc)).setCell ⟨b3, 2, none⟩ (.slice d5.cA d5.accs.length d5.cc)).setCell ⟨b3, 3, none⟩ (.slice d5.uA d5.auts.length d5.uc)).setCell ⟨b3, 4, none⟩ (.slice d5.rA d5.ords.length d5.rc)).setCell ⟨b3, 5, none⟩ (.int .i64 d5.ser)) := ⟨_, rfl⟩
          rw [← hW9]
          have HSC : Hid (ScrI b3 (i + 1) now d5 W9) := Lib.hid (by
            rw [hW9]
            exact ⟨HN.out.1, by have := HN.out.2; omega, blk6 HJ8.out.b3 (.int .i64 d5.next) (.slice d5.oA d5.opn.length d5.oc) (.slice d5.cA d5.accs.length d5.cc) (.slice d5.uA d5.auts.length d5.uc) (.slice d5.rA d5.ords.length d5.rc) (.int .i64 d5.ser), HJ8.out.door.grownTo HT.out.lies (grown6 W8 b3 (.int .i64 d5.next) (.slice d5.oA d5.opn.length d5.oc) (.slice d5.cA d5.accs.length d5.cc) (.slice d5.uA d5.auts.length d5.uc) (.slice d5.rA d5.ords.length d5.rc) (.int .i64 d5.ser)), HT.out.lies, HO.out.chk, HL5.out.1, HL5.out.2.1, HL5.out.2.2.1⟩)
          have HS9 : Hid (SeenI b3 L' vA' vc' d5 (i + 1) W9) := Lib.hid (by
            refine ⟨by rw [hW9]; exact own_far (own_far (own_far (own_far (own_far (own_far HJ8.out.own (Nat.lt_succ_self _) 0 _) (Nat.lt_succ_self _) 1 _) (Nat.lt_succ_self _) 2 _) (Nat.lt_succ_self _) 3 _) (Nat.lt_succ_self _) 4 _) (Nat.lt_succ_self _) 5 _, by rw [HT.out.fro, HL'.out]; exact shown_op sigR_in HSN.out.shn x.o now, by rw [HL'.out, List.length_append]; have := HSN.out.len; have := seen_le d.fro x.o now; omega, fun t ht => ?_, HJ8.out.lies⟩
            rw [HL'.out] at ht
            have hn := HN.out
            rcases List.mem_append.1 ht with ht | ht
            · have := HSN.out.tim t ht; omega
            · rw [seen_tim t ht]; omega)
          have HX9 : Hid (Ext w W9) := Lib.hid (by rw [hW9]; exact ext6 HJ8.out.ext HS3.out (.int .i64 d5.next) (.slice d5.oA d5.opn.length d5.oc) (.slice d5.cA d5.accs.length d5.cc) (.slice d5.uA d5.auts.length d5.uc) (.slice d5.rA d5.ords.length d5.rc) (.int .i64 d5.ser))
          clear hW9 m0 m1 m2 m3 m4 m5 f0 f1 f2 f3 f4 f5 n0 n1 n2 n3 n4 n5
          obtain ⟨m0, m1, m2, m3, m4, m5⟩ := arr6f HSC.out.blk
          go_wp2
          clear m0 m1 m2 m3 m4 m5
          go_loopg [10] d5.ords.length (fun g s10 wr => ∃ j : Nat, j + g = d5.ords.length ∧ s10 = .int .i64 ((j : Int) + 1) ∧ Ext W9 wr)
          case atStart => exact ⟨0, by omega, int_congr (by omega), Ext.refl W9⟩
          case round =>
            obtain ⟨j, hj, rfl, hx⟩ := hrel
            have HJ := Lib.hid hj
            have XW := Lib.hid hx
            obtain ⟨m0, m1, m2, m3, m4, m5⟩ := arr6f (ext_blk hx HSC.out.blk)
            have hjb : (j : Int) ≤ 1000 := by have := HSC.out.ord; have := HL5.out; omega
            obtain ⟨G2, hG2⟩ : ∃ G, G = gk - 1 := ⟨_, rfl⟩
            have HG2 := Lib.hid hG2
            by_cases h : j < d5.ords.length
            · have hjl : (j : Int) + 1 ≤ (d5.ords.length : Int) := by omega
              obtain ⟨R, hR⟩ : ∃ R, wisF d5.fro ((j : Int) + 1) now = R := ⟨_, rfl⟩
              obtain ⟨⟨wa, wn, wk, wl⟩, E2⟩ := R
              have cW := oWish_any d5 ((j : Int) + 1) now wr (HSC.out.door.ext hx) (by have := HSC.out.aut; have := HL5.out; omega) (by have := HSC.out.acc; have := HL5.out; omega)
              rw [hR] at cW
              have HR2 := Lib.hid hR
              unfold wisPost wisV at cW
              simp only at cW
              unfold frontV at cW
              clear hx hj h hR hG2
              go_upto_region 21 with (go_at_call 28; refine cW.mono ?_; clear cW m0 m1 m2 m3 m4 m5; rintro e w10 ⟨nA, nc, rfl, hrd, hnc, x10⟩)
              obtain ⟨W11, e11⟩ : ∃ W, w10.alloc (.cells #[.int .i64 wa, .slice nA wn.length nc, .int .u64 (wk : Int), .int .i64 wl] 55) = W := ⟨_, rfl⟩
              try rw [e11]
              have HX11 : Hid (Ext W9 W11) := Lib.hid (by rw [← e11]; exact (XW.out.trans x10).alloc _)
              have HBW : Hid (Blk W11 w10.heap.size 55 #[.int .i64 wa, .slice nA wn.length nc, .int .u64 (wk : Int), .int .i64 wl]) := Lib.hid (by rw [← e11]; exact Blk.new _ _ _)
              have HRD : Hid (Reads W11 W11.heap.size 1 nA wn.length (tv wn)) := Lib.hid (by rw [← e11]; have x11 := (Ext.refl w10).alloc (.cells #[.int .i64 wa, .slice nA wn.length nc, .int .u64 (wk : Int), .int .i64 wl] 55); exact (hrd.below x11.out).more x11.size)
              clear e11 hrd hnc x10
              go_wp2
              by_cases h2 : E2 = 0
              case neg =>
                have k0 : ((E2 : Int) == 0) = false := by simp [h2]
                clear h2
                go_loopg [13] 0 (fun g s13 wr => ∃ n : Nat, n + g = 0 ∧ s13 = .int .i64 n ∧ Ext W11 wr)
                case atStart => exact ⟨0, by omega, rfl, Ext.refl W11⟩
                case round =>
                  obtain ⟨n, hn, rfl, hx⟩ := hrel
                  have HXX := Lib.hid (HX11.out.trans hx)
                  clear hx hn
                  go_wp2
                  have hj := HJ.out
                  have hG2 := HG2.out
                  go_roundg G2
                  case measure => omega
                  case rel => exact ⟨j + 1, by omega, int_congr (by omega), HXX.out⟩
              have k0 : ((E2 : Int) == 0) = true := by simp [h2]
              have HSW := Lib.hid (shown_wish HS9.out.shn (id := (j : Int) + 1) (now := now) (by rw [HR2.out]; exact h2))
              have HWN : Hid (wn.length ≤ 1000000) := Lib.hid (by
                obtain ⟨_, _, o, ho, _, _, e⟩ := wis_steps (f := d5.fro) (id := (j : Int) + 1) (now := now) (by rw [HR2.out]; exact h2)
                rw [HR2.out] at e
                have e1 : wn = o.names := by have := congrArg (fun r : WisR × Nat => r.1.2.1) e; exact this
                have := (chkF_zero.1 HSC.out.chk).1.2.2.2.2.1
                obtain ⟨hi, eo⟩ := List.getElem?_eq_some_iff.1 ho
                have hp := (this _ hi).1.2.2.2.1.2.2.2
                rw [eo] at hp
                rw [e1]; omega)
              rw [HR2.out] at HSW
              clear h2
              go_loopg [13] wn.length (fun g s13 wr => ∃ n : Nat, n + g = wn.length ∧ s13 = .int .i64 n ∧ Ext W11 wr)
              case atStart => exact ⟨0, by omega, rfl, Ext.refl W11⟩
              case round =>
                obtain ⟨n, hn, rfl, hx⟩ := hrel
                have HXX := Lib.hid (HX11.out.trans hx)
                have HX1 := Lib.hid hx
                have HN2 := Lib.hid hn
                have hnb : (n : Int) ≤ 1000000 := by have := HWN.out; omega
                have bw := ext_blk hx HBW.out
                have w0 := bw.cell 0
                have w1_ := bw.cell 1
                by_cases h : n < wn.length
                · obtain ⟨t, ht⟩ : ∃ s, wn[n]? = some s := ⟨_, List.getElem?_eq_getElem h⟩
                  obtain ⟨ad4, hA4, p0⟩ := reads_text ((HRD.out.below hx.out).more hx.size) ht
                  rw [hA4] at w1_
                  have hnl : (n : Int) < (wn.length : Int) := by omega
                  have dn : decide (n < wn.length) = true := decide_eq_true h
                  have hh := HSW.out t (List.mem_of_getElem? ht)
                  have cH := fun z : Later wr => had_any L' vA' vc' wa t now z.W (Reads.of_own (HS9.out.ext (HXX.out.trans z.ext)).own) (by have := HS9.out.len; have := HL5.out; omega) (fun y hy => by have := HS9.out.tim y hy; have := HL5.out; omega) (by have := HN.out; have := HL5.out; omega)
                  rw [decide_eq_true hh] at cH
                  have j0 := fun z : Later wr => z.cell w0
                  have j1 := fun z : Later wr => z.cell w1_
                  have j2 := fun z : Later wr => z.cell p0
                  clear hx hn h ht hA4 hh bw
                  go_wp2
                  refine wp_region_later (by kernel_rfl) (by kernel_rfl) ?_
                  repeat (go_big_quiet_step ((go_at_call 36; exact Later.calls (cH _))))
                  refine wpQuiet_nil ?_
                  rintro W12 ⟨z, hz⟩
                  have HX12 : Hid (Ext W11 W12) := Lib.hid (by rw [hz]; exact HX1.out.trans z.ext)
                  clear hz z j0 j1 j2 cH
                  go_wp2
                  have hn := HN2.out
                  go_roundg (gk - 1)
                  case measure => omega
                  case rel => exact ⟨n + 1, by omega, int_congr (by omega), HX12.out⟩
                · obtain rfl : n = wn.length := by omega
                  have dn : decide (wn.length < wn.length) = false := decide_eq_false (Nat.lt_irrefl _)
                  clear hx hn h bw
                  go_wp2
                  have hj := HJ.out
                  have hG2 := HG2.out
                  go_roundg G2
                  case measure => omega
                  case rel => exact ⟨j + 1, by omega, int_congr (by omega), HXX.out⟩
            · obtain rfl : j = d5.ords.length := by omega
              have HSE := Lib.hid (HSC.out.ext hx)
              have HNE := Lib.hid (HS9.out.ext hx)
              have HXE := Lib.hid (HX9.out.trans hx)
              clear hx hj h hG2
              go_wp2
              have hi := HIG.out
              have hG := HGG.out
              have hAD := HAD.out
              rw [← hAD]
              go_roundg G
              case measure => omega
              case rel => exact ⟨i + 1, now, d5, L', vA', vc', by omega, rfl, rfl, int_congr (by omega), HSE.out, HNE.out, HXE.out⟩
end Go.Proofs.YtbhdmfijdhcehaaGreatDoor
