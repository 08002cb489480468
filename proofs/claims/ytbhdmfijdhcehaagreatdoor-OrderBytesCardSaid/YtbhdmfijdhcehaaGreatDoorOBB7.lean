/- Parts of the proofs, put together: what these laws need besides. -/
import Derived.Laws.IdiomStrings
import Derived.Lib.BufferRead
import Derived.Test.YtbhdmfijdhcehaaGreatDoorOBA
/- OrderBytes, walked: what is signed of a request. -/
namespace Go.Proofs.YtbhdmfijdhcehaaGreatDoor
set_option linter.unusedVariables false
set_option linter.unusedSimpArgs false
set_option linter.unusedSimpArgs false
open Go.RowKit Go.Shelf Go.Maps

/-- Bytes as a text. -/
def txtOf (l : List Nat) : ByteArray := ⟨(l.map UInt8.ofNat).toArray⟩
theorem txt_any {w : World} {A : Option Addr} {c B : Nat} {l : List Nat} (hl : ∀ x ∈ l, x < 256) (h : Reads w B 1 A l.length (bv l)) :
    (convert 30 9 (.slice A l.length c)).run Tryz.prog w = .ok (.string (txtOf l)) w := by
  rcases l with _ | ⟨x, l⟩
  · rcases A with _ | ad
    · exact Lib.run_convert_nil_bytes (P := Tryz.prog) w 30 9 5 c Tryz.underlying30 Tryz.underlying5 Tryz.underlying9
    · exact run_convert_bytes_back (P := Tryz.prog) w 30 9 5 ad c [] Tryz.underlying30 Tryz.underlying5 Tryz.underlying9 (fun j hj => by simp at hj)
  · obtain ⟨L, hL⟩ : ∃ L, L = x :: l := ⟨_, rfl⟩
    have h0 : 0 < L.length := by rw [hL]; simp
    rw [← hL] at h hl ⊢
    obtain ⟨ad, rfl, -, hc⟩ := h.2 h0
    have e := run_convert_bytes_back (P := Tryz.prog) w 30 9 5 ad c (L.map UInt8.ofNat) Tryz.underlying30 Tryz.underlying5 Tryz.underlying9 (fun j hj => by
      have hj' : j < L.length := by simpa using hj
      have := hc j (.int .u8 (L[j] : Int)) (by simp [bv, hj'])
      rw [this]
      simp
      have := hl L[j] (List.getElem_mem _)
      omega)
    rw [List.length_map] at e
    exact e
theorem txtOf_inj {l m : List Nat} (hl : ∀ x ∈ l, x < 256) (hm : ∀ x ∈ m, x < 256) (h : txtOf l = txtOf m) : l = m := by
  have h2 : l.map UInt8.ofNat = m.map UInt8.ofNat := by
    unfold txtOf at h
    simpa using h
  have key : ∀ l : List Nat, (∀ x ∈ l, x < 256) → (l.map UInt8.ofNat).map UInt8.toNat = l := fun l hl => by
    rw [List.map_map]
    conv => rhs; rw [← List.map_id l]
    refine List.map_congr_left fun x hx => ?_
    have := hl x hx
    simp
    omega
  rw [← key l hl, ← key m hm, h2]
theorem bytR_lt (q : QueR) : ∀ x ∈ bytR q, x < 256 := by
  unfold bytR
  split
  · exact byteL_lt q
  · simp
theorem bytes_say {a b : QueR} (ka : a.key < 18446744073709551616) (kb : b.key < 18446744073709551616) (ha : byteE a = 0) (hb : byteE b = 0) :
    (txtOf (bytR a) = txtOf (bytR b)) ↔ a.kind = b.kind ∧ a.acc = b.acc ∧ a.nonce = b.nonce ∧ a.key = b.key ∧ a.life = b.life ∧ a.id = b.id ∧ a.names = b.names := by
  have ea : bytR a = byteL a := by unfold bytR; rw [if_pos ha]
  have eb : bytR b = byteL b := by unfold bytR; rw [if_pos hb]
  rw [← byteL_inj ha hb ka kb, ← ea, ← eb]
  exact ⟨fun h => txtOf_inj (bytR_lt a) (bytR_lt b) h, fun h => by rw [h]⟩
set_option maxRecDepth 100000 in
set_option maxHeartbeats 16000000 in
theorem walk_OrderBytes (a : QueR) (A : Option Addr) (c : Nat) (b : QueR) (B : Option Addr) (d : Nat) (w : World) (ha : QueI w a A c) (hb : QueI w b B d) :
    Calls Tryz.prog 3 #[queV a A c, queV b B d] w fun e w' => e = .returned (.bool true) ∧ Ext w w' := by
  obtain ⟨W0, e0, b0, b1, x0, s0⟩ := startP w #[.int .i64 a.kind, .int .i64 a.acc, .int .i64 a.nonce, .int .u64 (a.key : Int), .slice A a.names.length c, .int .i64 a.life, .int .i64 a.id, .int .u64 (a.e : Int), .int .u64 (a.s : Int)] #[.int .i64 b.kind, .int .i64 b.acc, .int .i64 b.nonce, .int .u64 (b.key : Int), .slice B b.names.length d, .int .i64 b.life, .int .i64 b.id, .int .u64 (b.e : Int), .int .u64 (b.s : Int)] 27 27
  have c0 := fun W => live_any W
  have cF1 := fun W (x : Ext W0 W) => FewQ_any a A c W (ha.ext (x0.trans x))
  have cF2 := fun W (x : Ext W0 W) => FewQ_any b B d W (hb.ext (x0.trans x))
  have HA := Lib.hid ha
  have HB := Lib.hid hb
  have HB0 := Lib.hid b0
  have HB1 := Lib.hid b1
  have HX0 := Lib.hid x0
  obtain ⟨n0, n1, n2, n3, n4, n5, n6, n7, n8⟩ := arr9 b0
  obtain ⟨p0, p1, p2, p3, p4, p5, p6, p7, p8⟩ := arr9 b1
  unfold queV at cF1 cF2 ⊢
  clear b0 b1 x0 s0 ha hb
  go_enter Tryz.func3, Tryz.ntmps3
  go_upto_region 1 with (fail)
  try rw [e0]
  clear e0
  by_cases hfa : fewQ a
  case neg =>
    rw [decide_eq_false hfa] at cF1
    clear hfa cF2
    go_wp2_with (first | (go_at_call 12; refine (c0 _).mono ?_; clear c0 n0 n1 n2 n3 n4 n5 n6 n7 n8 p0 p1 p2 p3 p4 p5 p6 p7 p8; rintro e w1 ⟨rfl, x1⟩; have y1 := x1; obtain ⟨n0, n1, n2, n3, n4, n5, n6, n7, n8⟩ := arr9 (ext_blk y1 HB0.out); obtain ⟨p0, p1, p2, p3, p4, p5, p6, p7, p8⟩ := arr9 (ext_blk y1 HB1.out)) | (go_at_call 13; refine (cF1 _ y1).mono ?_; clear cF1 n0 n1 n2 n3 n4 n5 n6 n7 n8 p0 p1 p2 p3 p4 p5 p6 p7 p8; rintro e w2 ⟨rfl, x2⟩; have y2 := y1.trans x2; obtain ⟨n0, n1, n2, n3, n4, n5, n6, n7, n8⟩ := arr9 (ext_blk y2 HB0.out); obtain ⟨p0, p1, p2, p3, p4, p5, p6, p7, p8⟩ := arr9 (ext_blk y2 HB1.out)))
    go_ret
    exact ⟨rfl, HX0.out.trans y2⟩
  rw [decide_eq_true hfa] at cF1
  by_cases hfb : fewQ b
  case neg =>
    rw [decide_eq_false hfb] at cF2
    clear hfa hfb
    go_wp2_with (first | (go_at_call 12; refine (c0 _).mono ?_; clear c0 n0 n1 n2 n3 n4 n5 n6 n7 n8 p0 p1 p2 p3 p4 p5 p6 p7 p8; rintro e w1 ⟨rfl, x1⟩; have y1 := x1; obtain ⟨n0, n1, n2, n3, n4, n5, n6, n7, n8⟩ := arr9 (ext_blk y1 HB0.out); obtain ⟨p0, p1, p2, p3, p4, p5, p6, p7, p8⟩ := arr9 (ext_blk y1 HB1.out)) | (go_at_call 13; refine (cF1 _ y1).mono ?_; clear cF1 n0 n1 n2 n3 n4 n5 n6 n7 n8 p0 p1 p2 p3 p4 p5 p6 p7 p8; rintro e w2 ⟨rfl, x2⟩; have y2 := y1.trans x2; obtain ⟨n0, n1, n2, n3, n4, n5, n6, n7, n8⟩ := arr9 (ext_blk y2 HB0.out); obtain ⟨p0, p1, p2, p3, p4, p5, p6, p7, p8⟩ := arr9 (ext_blk y2 HB1.out)) | (go_at_call 13; refine (cF2 _ y2).mono ?_; clear cF2 n0 n1 n2 n3 n4 n5 n6 n7 n8 p0 p1 p2 p3 p4 p5 p6 p7 p8; rintro e w3 ⟨rfl, x3⟩; have y3 := y2.trans x3; obtain ⟨n0, n1, n2, n3, n4, n5, n6, n7, n8⟩ := arr9 (ext_blk y3 HB0.out); obtain ⟨p0, p1, p2, p3, p4, p5, p6, p7, p8⟩ := arr9 (ext_blk y3 HB1.out)))
    go_ret
    exact ⟨rfl, HX0.out.trans y3⟩
  rw [decide_eq_true hfb] at cF2
  have cB1 := fun W (x : Ext W0 W) => oBytes_any a A c W ((HA.out.que hfa).ext (HX0.out.trans x))
  have cB2 := fun W (x : Ext W0 W) => oBytes_any b B d W ((HB.out.que hfb).ext (HX0.out.trans x))
  have cB3 := fun W (x : Ext W0 W) => rBytes_any a A c W ((HA.out.que hfa).ext (HX0.out.trans x))
  have cT := fun W (x : Ext W0 W) => Texts22_any a.names b.names A B c d (by have := hfa.2; omega) W ((HA.out.que hfa).ext (HX0.out.trans x)).names ((HB.out.que hfb).ext (HX0.out.trans x)).names
  have HSAY := Lib.hid (bytes_say HA.out.key HB.out.key)
  obtain ⟨E1, hE1⟩ : ∃ E, byteE a = E := ⟨_, rfl⟩
  obtain ⟨E2, hE2⟩ : ∃ E, byteE b = E := ⟨_, rfl⟩
  obtain ⟨R1, hR1⟩ : ∃ R, bytR a = R := ⟨_, rfl⟩
  obtain ⟨R2, hR2⟩ : ∃ R, bytR b = R := ⟨_, rfl⟩
  have HL1 := Lib.hid (bytR_lt a)
  have HL2 := Lib.hid (bytR_lt b)
  unfold bytPost at cB1 cB2 cB3
  unfold queV at cB1 cB2 cB3
  rw [hE1, hE2, hR1, hR2] at HSAY
  rw [hE1, hR1] at cB1 cB3
  rw [hE2, hR2] at cB2
  rw [hR1] at HL1
  rw [hR2] at HL2
  obtain ⟨SA, hSA⟩ : ∃ S, txtOf R1 = S := ⟨_, rfl⟩
  obtain ⟨SB, hSB⟩ : ∃ S, txtOf R2 = S := ⟨_, rfl⟩
  rw [hSA, hSB] at HSAY
  have HSA := Lib.hid hSA
  have HSB := Lib.hid hSB
  clear hfa hfb hE1 hE2 hR1 hR2 hSA hSB
  go_upto_region 5 with (first | (go_at_call 12; refine (c0 _).mono ?_; clear c0 n0 n1 n2 n3 n4 n5 n6 n7 n8 p0 p1 p2 p3 p4 p5 p6 p7 p8; rintro e w1 ⟨rfl, x1⟩; have y1 := x1; obtain ⟨n0, n1, n2, n3, n4, n5, n6, n7, n8⟩ := arr9 (ext_blk y1 HB0.out); obtain ⟨p0, p1, p2, p3, p4, p5, p6, p7, p8⟩ := arr9 (ext_blk y1 HB1.out)) | (go_at_call 13; refine (cF1 _ y1).mono ?_; clear cF1 n0 n1 n2 n3 n4 n5 n6 n7 n8 p0 p1 p2 p3 p4 p5 p6 p7 p8; rintro e w2 ⟨rfl, x2⟩; have y2 := y1.trans x2; obtain ⟨n0, n1, n2, n3, n4, n5, n6, n7, n8⟩ := arr9 (ext_blk y2 HB0.out); obtain ⟨p0, p1, p2, p3, p4, p5, p6, p7, p8⟩ := arr9 (ext_blk y2 HB1.out)) | (go_at_call 13; refine (cF2 _ y2).mono ?_; clear cF2 n0 n1 n2 n3 n4 n5 n6 n7 n8 p0 p1 p2 p3 p4 p5 p6 p7 p8; rintro e w3 ⟨rfl, x3⟩; have y3 := y2.trans x3; obtain ⟨n0, n1, n2, n3, n4, n5, n6, n7, n8⟩ := arr9 (ext_blk y3 HB0.out); obtain ⟨p0, p1, p2, p3, p4, p5, p6, p7, p8⟩ := arr9 (ext_blk y3 HB1.out)))
  go_upto_region 8 with (first
    | (go_at_call 14; refine (cB1 _ y3).mono ?_; clear cB1 n0 n1 n2 n3 n4 n5 n6 n7 n8 p0 p1 p2 p3 p4 p5 p6 p7 p8; rintro e w4 ⟨v4, rfl, ho4, x4⟩; have y4 := y3.trans x4; obtain ⟨n0, n1, n2, n3, n4, n5, n6, n7, n8⟩ := arr9 (ext_blk y4 HB0.out); obtain ⟨p0, p1, p2, p3, p4, p5, p6, p7, p8⟩ := arr9 (ext_blk y4 HB1.out); obtain ⟨A4, c4, rfl, -, hr4⟩ := own_slice2 ho4; have HR4 := Lib.hid hr4; clear ho4 hr4)
    | (go_at_call 14; refine (cB2 _ y4).mono ?_; clear cB2 n0 n1 n2 n3 n4 n5 n6 n7 n8 p0 p1 p2 p3 p4 p5 p6 p7 p8; rintro e w5 ⟨v5, rfl, ho5, x5⟩; have y5 := y4.trans x5; obtain ⟨n0, n1, n2, n3, n4, n5, n6, n7, n8⟩ := arr9 (ext_blk y5 HB0.out); obtain ⟨p0, p1, p2, p3, p4, p5, p6, p7, p8⟩ := arr9 (ext_blk y5 HB1.out); obtain ⟨A5, c5, rfl, -, hr5⟩ := own_slice2 ho5; have HR5 := Lib.hid hr5; clear ho5 hr5)
    | (go_at_call 15; refine (cB3 _ y5).mono ?_; clear cB3 n0 n1 n2 n3 n4 n5 n6 n7 n8 p0 p1 p2 p3 p4 p5 p6 p7 p8; rintro e w6 ⟨v6, rfl, ho6, x6⟩; have y6 := y5.trans x6; obtain ⟨n0, n1, n2, n3, n4, n5, n6, n7, n8⟩ := arr9 (ext_blk y6 HB0.out); obtain ⟨p0, p1, p2, p3, p4, p5, p6, p7, p8⟩ := arr9 (ext_blk y6 HB1.out); obtain ⟨A6, c6, rfl, -, hr6⟩ := own_slice2 ho6; have HR6 := Lib.hid hr6; clear ho6 hr6))
  have HKA : Hid (∀ W, Ext w6 W → (convert 30 9 (.slice A4 R1.length c4)).run Tryz.prog W = .ok (.string SA) W) := Lib.hid fun W x => by rw [← HSA.out]; exact txt_any HL1.out (HR4.out.below ((x5.trans x6).trans x).out)
  have HKB : Hid (∀ W, Ext w6 W → (convert 30 9 (.slice A5 R2.length c5)).run Tryz.prog W = .ok (.string SB) W) := Lib.hid fun W x => by rw [← HSB.out]; exact txt_any HL2.out (HR5.out.below (x6.trans x).out)
  have HKC : Hid (∀ W, Ext w6 W → (convert 30 9 (.slice A6 R1.length c6)).run Tryz.prog W = .ok (.string SA) W) := Lib.hid fun W x => by rw [← HSA.out]; exact txt_any HL1.out (HR6.out.below x.out)
  have HY6 := Lib.hid y6
  clear x1 x2 x3 x4 x5 x6 y1 y2 y3 y4 y5 y6
  by_cases g0 : a.kind = b.kind
  case neg =>
    have HFIN : Hid (E1 = 0 → E2 = 0 → (SA.toList == SB.toList) = false) := Lib.hid fun z1 z2 => by
      refine str_beq_false fun h => ?_
      exact g0 ((HSAY.out z1 z2).1 h).1
    have d0 : (a.kind == b.kind) = false := by simp; omega
    clear g0 cT
    go_upto_region 9 with (fail)
    clear n0 n1 n2 n3 n4 n5 n6 n7 n8 p0 p1 p2 p3 p4 p5 p6 p7 p8
    have kA := HKA.out _ (Ext.refl _)
    have kB := HKB.out _ (Ext.refl _)
    have kC := HKC.out _ (Ext.refl _)
    by_cases z1 : E1 = 0
    case neg =>
      have u1 : ((E1 : Int) != 0) = true := by simp; omega
      have u2 : ((E1 : Int) == 0) = false := by simp; omega
      go_wp2
      go_ret
      exact ⟨rfl, HX0.out.trans HY6.out⟩
    by_cases z2 : E2 = 0
    case neg =>
      have u1 : ((E1 : Int) != 0) = false := by simp; omega
      have u2 : ((E1 : Int) == 0) = true := by simp; omega
      have u3 : ((E2 : Int) != 0) = true := by simp; omega
      have u4 : ((E2 : Int) == 0) = false := by simp; omega
      go_wp2
      go_ret
      exact ⟨rfl, HX0.out.trans HY6.out⟩
    have u1 : ((E1 : Int) != 0) = false := by simp; omega
    have u2 : ((E1 : Int) == 0) = true := by simp; omega
    have u3 : ((E2 : Int) != 0) = false := by simp; omega
    have u4 : ((E2 : Int) == 0) = true := by simp; omega
    have us : (SA.toList == SB.toList) = false := HFIN.out z1 z2
    go_wp2
    go_ret
    exact ⟨rfl, HX0.out.trans HY6.out⟩
  have d0 : (a.kind == b.kind) = true := by simp; omega
  by_cases g1 : a.acc = b.acc
  case neg =>
    have HFIN : Hid (E1 = 0 → E2 = 0 → (SA.toList == SB.toList) = false) := Lib.hid fun z1 z2 => by
      refine str_beq_false fun h => ?_
      exact g1 ((HSAY.out z1 z2).1 h).2.1
    have d1 : (a.acc == b.acc) = false := by simp; omega
    clear g0 g1 cT
    go_upto_region 9 with (fail)
    clear n0 n1 n2 n3 n4 n5 n6 n7 n8 p0 p1 p2 p3 p4 p5 p6 p7 p8
    have kA := HKA.out _ (Ext.refl _)
    have kB := HKB.out _ (Ext.refl _)
    have kC := HKC.out _ (Ext.refl _)
    by_cases z1 : E1 = 0
    case neg =>
      have u1 : ((E1 : Int) != 0) = true := by simp; omega
      have u2 : ((E1 : Int) == 0) = false := by simp; omega
      go_wp2
      go_ret
      exact ⟨rfl, HX0.out.trans HY6.out⟩
    by_cases z2 : E2 = 0
    case neg =>
      have u1 : ((E1 : Int) != 0) = false := by simp; omega
      have u2 : ((E1 : Int) == 0) = true := by simp; omega
      have u3 : ((E2 : Int) != 0) = true := by simp; omega
      have u4 : ((E2 : Int) == 0) = false := by simp; omega
      go_wp2
      go_ret
      exact ⟨rfl, HX0.out.trans HY6.out⟩
    have u1 : ((E1 : Int) != 0) = false := by simp; omega
    have u2 : ((E1 : Int) == 0) = true := by simp; omega
    have u3 : ((E2 : Int) != 0) = false := by simp; omega
    have u4 : ((E2 : Int) == 0) = true := by simp; omega
    have us : (SA.toList == SB.toList) = false := HFIN.out z1 z2
    go_wp2
    go_ret
    exact ⟨rfl, HX0.out.trans HY6.out⟩
  have d1 : (a.acc == b.acc) = true := by simp; omega
  by_cases g2 : a.nonce = b.nonce
  case neg =>
    have HFIN : Hid (E1 = 0 → E2 = 0 → (SA.toList == SB.toList) = false) := Lib.hid fun z1 z2 => by
      refine str_beq_false fun h => ?_
      exact g2 ((HSAY.out z1 z2).1 h).2.2.1
    have d2 : (a.nonce == b.nonce) = false := by simp; omega
    clear g0 g1 g2 cT
    go_upto_region 9 with (fail)
    clear n0 n1 n2 n3 n4 n5 n6 n7 n8 p0 p1 p2 p3 p4 p5 p6 p7 p8
    have kA := HKA.out _ (Ext.refl _)
    have kB := HKB.out _ (Ext.refl _)
    have kC := HKC.out _ (Ext.refl _)
    by_cases z1 : E1 = 0
    case neg =>
      have u1 : ((E1 : Int) != 0) = true := by simp; omega
      have u2 : ((E1 : Int) == 0) = false := by simp; omega
      go_wp2
      go_ret
      exact ⟨rfl, HX0.out.trans HY6.out⟩
    by_cases z2 : E2 = 0
    case neg =>
      have u1 : ((E1 : Int) != 0) = false := by simp; omega
      have u2 : ((E1 : Int) == 0) = true := by simp; omega
      have u3 : ((E2 : Int) != 0) = true := by simp; omega
      have u4 : ((E2 : Int) == 0) = false := by simp; omega
      go_wp2
      go_ret
      exact ⟨rfl, HX0.out.trans HY6.out⟩
    have u1 : ((E1 : Int) != 0) = false := by simp; omega
    have u2 : ((E1 : Int) == 0) = true := by simp; omega
    have u3 : ((E2 : Int) != 0) = false := by simp; omega
    have u4 : ((E2 : Int) == 0) = true := by simp; omega
    have us : (SA.toList == SB.toList) = false := HFIN.out z1 z2
    go_wp2
    go_ret
    exact ⟨rfl, HX0.out.trans HY6.out⟩
  have d2 : (a.nonce == b.nonce) = true := by simp; omega
  by_cases g3 : a.key = b.key
  case neg =>
    have HFIN : Hid (E1 = 0 → E2 = 0 → (SA.toList == SB.toList) = false) := Lib.hid fun z1 z2 => by
      refine str_beq_false fun h => ?_
      exact g3 ((HSAY.out z1 z2).1 h).2.2.2.1
    have d3 : ((a.key : Int) == (b.key : Int)) = false := by simp; omega
    have d3n : (a.key == b.key) = false := by simp [g3]
    clear g0 g1 g2 g3 cT
    go_upto_region 9 with (fail)
    clear n0 n1 n2 n3 n4 n5 n6 n7 n8 p0 p1 p2 p3 p4 p5 p6 p7 p8
    have kA := HKA.out _ (Ext.refl _)
    have kB := HKB.out _ (Ext.refl _)
    have kC := HKC.out _ (Ext.refl _)
    by_cases z1 : E1 = 0
    case neg =>
      have u1 : ((E1 : Int) != 0) = true := by simp; omega
      have u2 : ((E1 : Int) == 0) = false := by simp; omega
      go_wp2
      go_ret
      exact ⟨rfl, HX0.out.trans HY6.out⟩
    by_cases z2 : E2 = 0
    case neg =>
      have u1 : ((E1 : Int) != 0) = false := by simp; omega
      have u2 : ((E1 : Int) == 0) = true := by simp; omega
      have u3 : ((E2 : Int) != 0) = true := by simp; omega
      have u4 : ((E2 : Int) == 0) = false := by simp; omega
      go_wp2
      go_ret
      exact ⟨rfl, HX0.out.trans HY6.out⟩
    have u1 : ((E1 : Int) != 0) = false := by simp; omega
    have u2 : ((E1 : Int) == 0) = true := by simp; omega
    have u3 : ((E2 : Int) != 0) = false := by simp; omega
    have u4 : ((E2 : Int) == 0) = true := by simp; omega
    have us : (SA.toList == SB.toList) = false := HFIN.out z1 z2
    go_wp2
    go_ret
    exact ⟨rfl, HX0.out.trans HY6.out⟩
  have d3 : ((a.key : Int) == (b.key : Int)) = true := by simp; omega
  have d3n : (a.key == b.key) = true := by simp [g3]
  by_cases g4 : a.life = b.life
  case neg =>
    have HFIN : Hid (E1 = 0 → E2 = 0 → (SA.toList == SB.toList) = false) := Lib.hid fun z1 z2 => by
      refine str_beq_false fun h => ?_
      exact g4 ((HSAY.out z1 z2).1 h).2.2.2.2.1
    have d4 : (a.life == b.life) = false := by simp; omega
    clear g0 g1 g2 g3 g4 cT
    go_upto_region 9 with (fail)
    clear n0 n1 n2 n3 n4 n5 n6 n7 n8 p0 p1 p2 p3 p4 p5 p6 p7 p8
    have kA := HKA.out _ (Ext.refl _)
    have kB := HKB.out _ (Ext.refl _)
    have kC := HKC.out _ (Ext.refl _)
    by_cases z1 : E1 = 0
    case neg =>
      have u1 : ((E1 : Int) != 0) = true := by simp; omega
      have u2 : ((E1 : Int) == 0) = false := by simp; omega
      go_wp2
      go_ret
      exact ⟨rfl, HX0.out.trans HY6.out⟩
    by_cases z2 : E2 = 0
    case neg =>
      have u1 : ((E1 : Int) != 0) = false := by simp; omega
      have u2 : ((E1 : Int) == 0) = true := by simp; omega
      have u3 : ((E2 : Int) != 0) = true := by simp; omega
      have u4 : ((E2 : Int) == 0) = false := by simp; omega
      go_wp2
      go_ret
      exact ⟨rfl, HX0.out.trans HY6.out⟩
    have u1 : ((E1 : Int) != 0) = false := by simp; omega
    have u2 : ((E1 : Int) == 0) = true := by simp; omega
    have u3 : ((E2 : Int) != 0) = false := by simp; omega
    have u4 : ((E2 : Int) == 0) = true := by simp; omega
    have us : (SA.toList == SB.toList) = false := HFIN.out z1 z2
    go_wp2
    go_ret
    exact ⟨rfl, HX0.out.trans HY6.out⟩
  have d4 : (a.life == b.life) = true := by simp; omega
  by_cases g5 : a.id = b.id
  case neg =>
    have HFIN : Hid (E1 = 0 → E2 = 0 → (SA.toList == SB.toList) = false) := Lib.hid fun z1 z2 => by
      refine str_beq_false fun h => ?_
      exact g5 ((HSAY.out z1 z2).1 h).2.2.2.2.2.1
    have d5 : (a.id == b.id) = false := by simp; omega
    clear g0 g1 g2 g3 g4 g5 cT
    go_upto_region 9 with (fail)
    clear n0 n1 n2 n3 n4 n5 n6 n7 n8 p0 p1 p2 p3 p4 p5 p6 p7 p8
    have kA := HKA.out _ (Ext.refl _)
    have kB := HKB.out _ (Ext.refl _)
    have kC := HKC.out _ (Ext.refl _)
    by_cases z1 : E1 = 0
    case neg =>
      have u1 : ((E1 : Int) != 0) = true := by simp; omega
      have u2 : ((E1 : Int) == 0) = false := by simp; omega
      go_wp2
      go_ret
      exact ⟨rfl, HX0.out.trans HY6.out⟩
    by_cases z2 : E2 = 0
    case neg =>
      have u1 : ((E1 : Int) != 0) = false := by simp; omega
      have u2 : ((E1 : Int) == 0) = true := by simp; omega
      have u3 : ((E2 : Int) != 0) = true := by simp; omega
      have u4 : ((E2 : Int) == 0) = false := by simp; omega
      go_wp2
      go_ret
      exact ⟨rfl, HX0.out.trans HY6.out⟩
    have u1 : ((E1 : Int) != 0) = false := by simp; omega
    have u2 : ((E1 : Int) == 0) = true := by simp; omega
    have u3 : ((E2 : Int) != 0) = false := by simp; omega
    have u4 : ((E2 : Int) == 0) = true := by simp; omega
    have us : (SA.toList == SB.toList) = false := HFIN.out z1 z2
    go_wp2
    go_ret
    exact ⟨rfl, HX0.out.trans HY6.out⟩
  have d5 : (a.id == b.id) = true := by simp; omega
  by_cases g6 : a.names = b.names
  case neg =>
    have HFIN : Hid (E1 = 0 → E2 = 0 → (SA.toList == SB.toList) = false) := Lib.hid fun z1 z2 => by
      refine str_beq_false fun h => ?_
      exact g6 ((HSAY.out z1 z2).1 h).2.2.2.2.2.2
    rw [decide_eq_false g6] at cT
    clear g0 g1 g2 g3 g4 g5 g6
    go_upto_region 9 with (go_at_call 16; refine (cT _ HY6.out).mono ?_; clear cT n0 n1 n2 n3 n4 n5 n6 n7 n8 p0 p1 p2 p3 p4 p5 p6 p7 p8; rintro e w7 ⟨rfl, x7⟩)
    have kA := HKA.out _ x7
    have kB := HKB.out _ x7
    have kC := HKC.out _ x7
    have HX7 := Lib.hid x7
    clear x7
    by_cases z1 : E1 = 0
    case neg =>
      have u1 : ((E1 : Int) != 0) = true := by simp; omega
      have u2 : ((E1 : Int) == 0) = false := by simp; omega
      go_wp2
      go_ret
      exact ⟨rfl, HX0.out.trans (HY6.out.trans HX7.out)⟩
    by_cases z2 : E2 = 0
    case neg =>
      have u1 : ((E1 : Int) != 0) = false := by simp; omega
      have u2 : ((E1 : Int) == 0) = true := by simp; omega
      have u3 : ((E2 : Int) != 0) = true := by simp; omega
      have u4 : ((E2 : Int) == 0) = false := by simp; omega
      go_wp2
      go_ret
      exact ⟨rfl, HX0.out.trans (HY6.out.trans HX7.out)⟩
    have u1 : ((E1 : Int) != 0) = false := by simp; omega
    have u2 : ((E1 : Int) == 0) = true := by simp; omega
    have u3 : ((E2 : Int) != 0) = false := by simp; omega
    have u4 : ((E2 : Int) == 0) = true := by simp; omega
    have us : (SA.toList == SB.toList) = false := HFIN.out z1 z2
    go_wp2
    go_ret
    exact ⟨rfl, HX0.out.trans (HY6.out.trans HX7.out)⟩
  have HFIN : Hid (E1 = 0 → E2 = 0 → (SA.toList == SB.toList) = true) := Lib.hid fun z1 z2 => by
    refine str_beq_true ?_
    exact (HSAY.out z1 z2).2 ⟨g0, g1, g2, g3, g4, g5, g6⟩
  rw [decide_eq_true g6] at cT
  clear g0 g1 g2 g3 g4 g5 g6
  go_upto_region 9 with (go_at_call 16; refine (cT _ HY6.out).mono ?_; clear cT n0 n1 n2 n3 n4 n5 n6 n7 n8 p0 p1 p2 p3 p4 p5 p6 p7 p8; rintro e w7 ⟨rfl, x7⟩)
  have kA := HKA.out _ x7
  have kB := HKB.out _ x7
  have kC := HKC.out _ x7
  have HX7 := Lib.hid x7
  clear x7
  by_cases z1 : E1 = 0
  case neg =>
    have u1 : ((E1 : Int) != 0) = true := by simp; omega
    have u2 : ((E1 : Int) == 0) = false := by simp; omega
    go_wp2
    go_ret
    exact ⟨rfl, HX0.out.trans (HY6.out.trans HX7.out)⟩
  by_cases z2 : E2 = 0
  case neg =>
    have u1 : ((E1 : Int) != 0) = false := by simp; omega
    have u2 : ((E1 : Int) == 0) = true := by simp; omega
    have u3 : ((E2 : Int) != 0) = true := by simp; omega
    have u4 : ((E2 : Int) == 0) = false := by simp; omega
    go_wp2
    go_ret
    exact ⟨rfl, HX0.out.trans (HY6.out.trans HX7.out)⟩
  have u1 : ((E1 : Int) != 0) = false := by simp; omega
  have u2 : ((E1 : Int) == 0) = true := by simp; omega
  have u3 : ((E2 : Int) != 0) = false := by simp; omega
  have u4 : ((E2 : Int) == 0) = true := by simp; omega
  have us : (SA.toList == SB.toList) = true := HFIN.out z1 z2
  go_wp2
  go_ret
  exact ⟨rfl, HX0.out.trans (HY6.out.trans HX7.out)⟩
end Go.Proofs.YtbhdmfijdhcehaaGreatDoor
