/- Parts of the proofs, put together: what these laws need besides. -/
import Derived.Test.YtbhdmfijdhcehaaGreatDoorO1
import Derived.Test.YtbhdmfijdhcehaaGreatDoorO2
import Derived.Test.YtbhdmfijdhcehaaGreatDoorO3
import Derived.Test.YtbhdmfijdhcehaaGreatDoorO4
import Derived.Test.YtbhdmfijdhcehaaGreatDoorO5
import Derived.Test.YtbhdmfijdhcehaaGreatDoorO6
import Derived.Test.YtbhdmfijdhcehaaGreatDoorO7
import Derived.Test.YtbhdmfijdhcehaaGreatDoorO8
import Derived.Test.YtbhdmfijdhcehaaGreatDoorO9
import Derived.Test.YtbhdmfijdhcehaaGreatDoorO10
import Derived.Test.YtbhdmfijdhcehaaGreatDoorO11
import Derived.Test.YtbhdmfijdhcehaaGreatDoorO12
import Derived.Test.YtbhdmfijdhcehaaGreatDoorO13
import Derived.Test.YtbhdmfijdhcehaaGreatDoorO14
import Derived.Test.YtbhdmfijdhcehaaGreatDoorO15
import Derived.Test.YtbhdmfijdhcehaaGreatDoorO16
import Derived.Test.YtbhdmfijdhcehaaGreatDoorO17
import Derived.Test.YtbhdmfijdhcehaaGreatDoorO18
import Derived.Test.YtbhdmfijdhcehaaGreatDoorO19
import Derived.Test.YtbhdmfijdhcehaaGreatDoorO20
import Derived.Test.YtbhdmfijdhcehaaGreatDoorO21
import Derived.Test.YtbhdmfijdhcehaaGreatDoorO22
/- Plain: what a step leaves as it was; a request again; what is signed tells the request. No program in sight. -/
namespace Go.Proofs.YtbhdmfijdhcehaaGreatDoor
set_option linter.unusedVariables false
set_option linter.unusedSimpArgs false

theorem bigD_inj : ∀ (k : Nat) {a b : Nat}, a < 256 ^ k → b < 256 ^ k → bigD k a = bigD k b → a = b
  | 0, a, b, ha, hb, _ => by simp at ha hb; omega
  | k + 1, a, b, ha, hb, h => by
    rw [bigD, bigD] at h
    obtain ⟨h1, h2⟩ := List.append_inj h (by rw [bigD_length, bigD_length])
    rw [Nat.pow_succ] at ha hb
    have := bigD_inj k (Nat.div_lt_of_lt_mul (by omega)) (Nat.div_lt_of_lt_mul (by omega)) h1
    simp at h2
    omega
theorem eight_inj {a b : Int} (ha : 0 ≤ a) (ha' : a < 18446744073709551616) (hb : 0 ≤ b) (hb' : b < 18446744073709551616) (h : eightI a = eightI b) : a = b := by
  have := bigD_inj 8 (a := a.toNat) (b := b.toNat) (by omega) (by omega) h
  omega
theorem txN_inj {a b : ByteArray} (h : txN a = txN b) : a = b := by
  unfold txN at h
  have h2 := (List.map_inj_right (f := UInt8.toNat) (fun x y e => UInt8.toNat_inj.1 e)).1 h
  cases a; cases b
  simp at h2
  congr
theorem txN_length (s : ByteArray) : (txN s).length = s.size := by unfold txN; rw [List.length_map, Array.length_toList]; rfl
theorem namesB_inj : ∀ {a b : List ByteArray}, a.length = b.length → (∀ s ∈ a, s.size ≤ 64) → (∀ s ∈ b, s.size ≤ 64) → namesB a = namesB b → a = b
  | [], [], _, _, _, _ => rfl
  | x :: a, y :: b, hl, ha, hb, h => by
    unfold namesB at h
    rw [List.append_assoc, List.append_assoc] at h
    obtain ⟨h1, h2⟩ := List.append_inj h (by rw [eight_length, eight_length])
    have hx := ha x (by simp)
    have hy := hb y (by simp)
    have e := eight_inj (by omega) (by omega) (by omega) (by omega) h1
    obtain ⟨h3, h4⟩ := List.append_inj h2 (by rw [txN_length, txN_length]; omega)
    rw [txN_inj h3, namesB_inj (by simpa using hl) (fun s hs => ha s (by simp [hs])) (fun s hs => hb s (by simp [hs])) h4]
theorem byteL_inj {a b : QueR} (ha : byteE a = 0) (hb : byteE b = 0) (ka : a.key < 18446744073709551616) (kb : b.key < 18446744073709551616) :
    byteL a = byteL b ↔ a.kind = b.kind ∧ a.acc = b.acc ∧ a.nonce = b.nonce ∧ a.key = b.key ∧ a.life = b.life ∧ a.id = b.id ∧ a.names = b.names := by
  have P : ∀ q : QueR, byteE q = 0 → headP q ∧ ∀ s ∈ q.names, s.size ≤ 64 := fun q h => by unfold byteE at h; split at h; assumption; cases h
  obtain ⟨⟨a1, a2, a3, ⟨a4, a5⟩, ⟨a6, a7⟩, ⟨a8, a9⟩, a10, a11⟩, a12⟩ := P a ha
  obtain ⟨⟨b1, b2, b3, ⟨b4, b5⟩, ⟨b6, b7⟩, ⟨b8, b9⟩, b10, b11⟩, b12⟩ := P b hb
  constructor
  · intro h
    unfold byteL at h
    simp only [List.append_assoc] at h
    obtain ⟨h1, h⟩ := List.append_inj h (by rw [eight_length, eight_length])
    obtain ⟨h2, h⟩ := List.append_inj h (by rw [eight_length, eight_length])
    obtain ⟨h3, h⟩ := List.append_inj h (by rw [eight_length, eight_length])
    obtain ⟨h4, h⟩ := List.append_inj h (by rw [eight_length, eight_length])
    obtain ⟨h5, h⟩ := List.append_inj h (by rw [eight_length, eight_length])
    obtain ⟨h6, h⟩ := List.append_inj h (by rw [eight_length, eight_length])
    obtain ⟨h7, h⟩ := List.append_inj h (by rw [eight_length, eight_length])
    have e1 := eight_inj (by omega) (by omega) (by omega) (by omega) h1
    have e2 := eight_inj (by omega) (by omega) (by omega) (by omega) h2
    have e3 := eight_inj (by omega) (by omega) (by omega) (by omega) h3
    have e4 := eight_inj (by omega) (by omega) (by omega) (by omega) h4
    have e5 := eight_inj (by omega) (by omega) (by omega) (by omega) h5
    have e6 := eight_inj (by omega) (by omega) (by omega) (by omega) h6
    have e7 := eight_inj (by omega) (by omega) (by omega) (by omega) h7
    exact ⟨e1, e2, e3, by omega, e5, e6, namesB_inj (by omega) a12 b12 h⟩
  · rintro ⟨e1, e2, e3, e4, e5, e6, e7⟩
    unfold byteL
    rw [e1, e2, e3, e4, e5, e6, e7]
end Go.Proofs.YtbhdmfijdhcehaaGreatDoor

/- The door, walked: numbers, what may be ordered, tokens, whether there is an account. -/
namespace Go.Proofs.YtbhdmfijdhcehaaGreatDoor
set_option linter.unusedVariables false
set_option linter.unusedSimpArgs false
open Go.RowKit Go.Shelf Go.Maps

theorem rnum_any (n : Int) (w : World) : Calls Tryz.prog 43 #[.int .i64 n] w fun e w' => e = .returned (.bool (decide (numP n))) ∧ w = w' := by
  go_enter Tryz.func43, Tryz.ntmps43
  by_cases h1 : 0 ≤ n <;> by_cases h2 : n ≤ 1099511627776
  all_goals
    go_wp2
    go_ret
    exact ⟨ret_bool (by rw [eq_comm]; first | exact decide_eq_true (by unfold numP; omega) | exact decide_eq_false (by unfold numP; omega)), rfl⟩

end Go.Proofs.YtbhdmfijdhcehaaGreatDoor

/- The document's side of layer 22, walked: whether serial numbers may be. -/
namespace Go.Proofs.YtbhdmfijdhcehaaGreatDoor
set_option linter.unusedVariables false
set_option linter.unusedSimpArgs false
set_option linter.unusedSimpArgs false
open Go.RowKit Go.Shelf Go.Maps

def serQ (ser : Int) (o : OrdR) : Prop := if o.st = 5 then 1 ≤ o.ser ∧ o.ser ≤ ser else o.ser = 0
instance (ser : Int) (o : OrdR) : Decidable (serQ ser o) := by unfold serQ; infer_instance
def serTo (ser : Int) (l : List OrdR) : Prop := (∀ o ∈ l, serQ ser o) ∧ (issued l).Nodup
instance (ser : Int) (l : List OrdR) : Decidable (serTo ser l) := by unfold serTo; infer_instance
end Go.Proofs.YtbhdmfijdhcehaaGreatDoor

/- The document's side of layer 22, walked: eight. -/
namespace Go.Proofs.YtbhdmfijdhcehaaGreatDoor
set_option linter.unusedVariables false
set_option linter.unusedSimpArgs false
set_option linter.unusedSimpArgs false
open Go.RowKit Go.Shelf Go.Maps

set_option maxRecDepth 100000 in
set_option maxHeartbeats 8000000 in
theorem reight_any (n : Nat) (hn : n < 18446744073709551616) (w : World) :
    Calls Tryz.prog 44 #[.int .u64 n] w fun e w' => ∃ v, e = .returned v ∧ w'.ownsRow w.heap.size 5 1 v 8 (bv (bigD 8 n)) ∧ Ext w w' := by
  obtain ⟨i0, hi, hz0, hz1, hz2⟩ := info_parts Tryz.infoU8
  go_enter Tryz.func44, Tryz.ntmps44
  go_upto_region 3 with (fail)
  obtain ⟨W0, e0⟩ : ∃ W, w.alloc (.cells #[] 5) = W := ⟨_, rfl⟩
  try rw [e0]
  have HX0 : Hid (Ext w W0) := Lib.hid (by rw [← e0]; exact (Ext.refl w).alloc _)
  have HO0 : Hid (W0.ownsRow w.heap.size 5 1 (.slice (some ⟨w.heap.size, 0, none⟩) 0 0) 0 []) := Lib.hid (by rw [← e0]; exact own_empty w _ _ rfl (Nat.le_refl _) _ _)
  have HS0 : Hid (w.heap.size ≤ W0.heap.size) := Lib.hid HX0.out.size
  clear e0
  have HN := Lib.hid hn
  go_loopg [3, 4] 8 (fun m s3 s4 wr => ∃ (j : Nat) (v : Value), j + m = 8 ∧ s3 = v ∧ s4 = .int .i64 ((7 : Int) - j) ∧ wr.ownsRow w.heap.size 5 1 v (beN n 8 j).length (bv (beN n 8 j)) ∧ Ext w wr)
  case atStart => exact ⟨0, _, rfl, rfl, int_congr (by omega), by simpa [beN, bv] using HO0.out, HX0.out⟩
  case round =>
    obtain ⟨j, v, hj, hv, rfl, ho, hx⟩ := hrel
    rw [hv]
    clear hv
    by_cases h : j < 8
    · obtain ⟨i, hij⟩ : ∃ i : Nat, (7 : Int) - j = i := ⟨7 - j, by omega⟩
      rw [hij]
      have hi7 : (i : Int) ≤ 7 := by omega
      obtain ⟨q, hq⟩ : ∃ q, q = n / 2 ^ (8 * i) := ⟨_, rfl⟩
      obtain ⟨r, hr⟩ : ∃ r, r = q % 256 := ⟨_, rfl⟩
      have hql : q < 18446744073709551616 := by rw [hq]; exact Nat.lt_of_le_of_lt (Nat.div_le_self _ _) hn
      have k1 : (n : Int) / 2 ^ (8 * i) = (q : Int) := by rw [hq]; simp
      have k2 : bits BinOp.and IntKind.u64 (q : Int) 255 = (r : Int) := by
        rw [show (255 : Int) = ((255 : Nat) : Int) from rfl, bits_and_u64_nat q 255 hql (by decide), hr]
        congr 1
        exact Nat.and_two_pow_sub_one_eq_mod q 8
      have k3 : (r : Int) % 256 = (r : Int) := by omega
      have hrb : r = n / 2 ^ (8 * (8 - 1 - j)) % 256 := by rw [hr, hq]; congr 3; omega
      have hlen : (beN n 8 j).length ≤ 8 := by rw [beN_length]; omega
      obtain ⟨L, hLL⟩ : ∃ L, L = beN n 8 j := ⟨_, rfl⟩
      rw [← hLL] at ho hlen
      have HLL := Lib.hid hLL
      have HRB := Lib.hid hrb
      have HJ := Lib.hid hj
      have HI := Lib.hid hij
      have HLN := Lib.hid hlen
      have HO2 := Lib.hid ho
      have HX := Lib.hid hx
      clear hLL hrb hj hij hlen ho hx h hql hq hr
      go_wp2_with (at_builtin; refine wpList_append_any _ rfl (.tmp 10) (.tmp 18) 30 rfl w.heap.size 5 i0 (.int .u8 0) 1 1 Tryz.underlying30 hi hz0 hz1 hz2 rfl (by decide) v L.length (bv L) rfl (HO2.out.alloc _) _ (some ⟨wr.heap.size, 0, none⟩) 1 1 [.int .u8 (r : Int)] rfl (reads_newL wr _ _) (by simp [Value.oneCell']) (by have := HLN.out; simp only [maxLen]; omega) (by have := HLN.out; omega) (by have := HX.out.size; simp; omega) ?_; intro v9 w9 hown9 hg9 _; have HX9 : Hid (Ext w w9) := Lib.hid (ext_grown (HX.out.alloc _) (HO2.out.alloc _) hg9); have HO9 := Lib.hid hown9; clear hown9 hg9)
      have hj := HJ.out
      have hij := HI.out
      go_roundg (gk - 1)
      case measure => omega
      case rel =>
        refine ⟨j + 1, _, by omega, rfl, int_congr (by omega), ?_, HX9.out⟩
        have e : beN n 8 (j + 1) = L ++ [r] := by rw [beN_succ, HLL.out, HRB.out]
        rw [e, List.length_append, bv_append]
        exact HO9.out
    · obtain rfl : j = 8 := by omega
      have HO := Lib.hid ho
      have HX := Lib.hid hx
      clear ho hx hj h
      go_wp2
      refine bodyPost_ret (v := v) (by simp [results, Tryz.results44, go_sem]) rfl ⟨v, rfl, ?_, HX.out⟩
      rw [← be_big]
      have e := HO.out
      rw [beN_length] at e
      exact e
end Go.Proofs.YtbhdmfijdhcehaaGreatDoor

/- The document's side of layer 22, walked: Bytes. -/
namespace Go.Proofs.YtbhdmfijdhcehaaGreatDoor
set_option linter.unusedVariables false
set_option linter.unusedSimpArgs false
set_option linter.unusedSimpArgs false
open Go.RowKit Go.Shelf Go.Maps

theorem bv_cell (l : List Nat) : ∀ u ∈ bv l, u.oneCell' = true := by
  intro u hu
  simp only [bv, List.mem_map] at hu
  obtain ⟨x, _, rfl⟩ := hu
  rfl
set_option maxRecDepth 100000 in
set_option maxHeartbeats 8000000 in
theorem rBytes_any (q : QueR) (A : Option Addr) (c : Nat) (w : World) (hq : QueW w w.heap.size q A c) : Calls Tryz.prog 15 #[queV q A c] w (bytPost q w) := by
  unfold queV
  obtain ⟨W0, e0⟩ : ∃ W, w.alloc (.cells #[.int .i64 q.kind, .int .i64 q.acc, .int .i64 q.nonce, .int .u64 (q.key : Int), .slice A q.names.length c, .int .i64 q.life, .int .i64 q.id, .int .u64 (q.e : Int), .int .u64 (q.s : Int)] 27) = W := ⟨_, rfl⟩
  have HQ := Lib.hid hq
  have HX0 : Hid (Ext w W0) := Lib.hid (by rw [← e0]; exact (Ext.refl w).alloc _)
  have HBQ : Hid (Blk W0 w.heap.size 27 #[.int .i64 q.kind, .int .i64 q.acc, .int .i64 q.nonce, .int .u64 (q.key : Int), .slice A q.names.length c, .int .i64 q.life, .int .i64 q.id, .int .u64 (q.e : Int), .int .u64 (q.s : Int)]) := Lib.hid (by rw [← e0]; exact Blk.new _ _ _)
  have hnl : (q.names.length : Int) ≤ 1099511627776 := by have := hq.nl; omega
  obtain ⟨k0, k1, k2, k3, k4, k5, k6, k7, k8⟩ := arr9 HBQ.out
  obtain ⟨i0, hi, hz0, hz1, hz2⟩ := info_parts Tryz.infoU8
  have cA := rnum_any q.acc
  have cB := rnum_any q.nonce
  have cC := rnum_any q.life
  have cD := rnum_any q.id
  clear hq
  go_enter Tryz.func15, Tryz.ntmps15
  go_upto_region 1 with (fail)
  try rw [e0]
  clear e0
  by_cases g0 : 1 ≤ q.kind
  case neg =>
    have hno := Lib.hid (show ¬ (headP q ∧ ∀ s ∈ q.names, s.size ≤ 64) from fun h => g0 h.1.1)
    have d0 : decide (q.kind < 1) = true := decide_eq_true (by omega)
    clear g0
    go_wp2_with (first | (go_at_call 43; refine (cA _).mono ?_; clear cA; rintro e w5 ⟨rfl, rfl⟩) | (go_at_call 43; refine (cB _).mono ?_; clear cB; rintro e w5 ⟨rfl, rfl⟩) | (go_at_call 43; refine (cC _).mono ?_; clear cC; rintro e w5 ⟨rfl, rfl⟩) | (go_at_call 43; refine (cD _).mono ?_; clear cD; rintro e w5 ⟨rfl, rfl⟩))
    refine bodyPost_ret (v := .tuple #[.slice none 0 0, .int .i64 1]) (by simp [results, Tryz.results15, go_sem]) rfl (bytPost_no hno.out HX0.out)
  have d0 : decide (q.kind < 1) = false := decide_eq_false (by omega)
  by_cases g1 : q.kind ≤ 5
  case neg =>
    have hno := Lib.hid (show ¬ (headP q ∧ ∀ s ∈ q.names, s.size ≤ 64) from fun h => g1 h.1.2.1)
    have d1 : decide (5 < q.kind) = true := decide_eq_true (by omega)
    clear g0 g1
    go_wp2_with (first | (go_at_call 43; refine (cA _).mono ?_; clear cA; rintro e w5 ⟨rfl, rfl⟩) | (go_at_call 43; refine (cB _).mono ?_; clear cB; rintro e w5 ⟨rfl, rfl⟩) | (go_at_call 43; refine (cC _).mono ?_; clear cC; rintro e w5 ⟨rfl, rfl⟩) | (go_at_call 43; refine (cD _).mono ?_; clear cD; rintro e w5 ⟨rfl, rfl⟩))
    refine bodyPost_ret (v := .tuple #[.slice none 0 0, .int .i64 1]) (by simp [results, Tryz.results15, go_sem]) rfl (bytPost_no hno.out HX0.out)
  have d1 : decide (5 < q.kind) = false := decide_eq_false (by omega)
  by_cases g2 : numP q.acc
  case neg =>
    have hno := Lib.hid (show ¬ (headP q ∧ ∀ s ∈ q.names, s.size ≤ 64) from fun h => g2 h.1.2.2.2.1)
    rw [show decide (numP q.acc) = false from decide_eq_false g2] at cA
    clear g0 g1 g2
    go_wp2_with (first | (go_at_call 43; refine (cA _).mono ?_; clear cA; rintro e w5 ⟨rfl, rfl⟩) | (go_at_call 43; refine (cB _).mono ?_; clear cB; rintro e w5 ⟨rfl, rfl⟩) | (go_at_call 43; refine (cC _).mono ?_; clear cC; rintro e w5 ⟨rfl, rfl⟩) | (go_at_call 43; refine (cD _).mono ?_; clear cD; rintro e w5 ⟨rfl, rfl⟩))
    refine bodyPost_ret (v := .tuple #[.slice none 0 0, .int .i64 1]) (by simp [results, Tryz.results15, go_sem]) rfl (bytPost_no hno.out HX0.out)
  rw [show decide (numP q.acc) = true from decide_eq_true g2] at cA
  by_cases g3 : numP q.nonce
  case neg =>
    have hno := Lib.hid (show ¬ (headP q ∧ ∀ s ∈ q.names, s.size ≤ 64) from fun h => g3 h.1.2.2.2.2.1)
    rw [show decide (numP q.nonce) = false from decide_eq_false g3] at cB
    clear g0 g1 g2 g3
    go_wp2_with (first | (go_at_call 43; refine (cA _).mono ?_; clear cA; rintro e w5 ⟨rfl, rfl⟩) | (go_at_call 43; refine (cB _).mono ?_; clear cB; rintro e w5 ⟨rfl, rfl⟩) | (go_at_call 43; refine (cC _).mono ?_; clear cC; rintro e w5 ⟨rfl, rfl⟩) | (go_at_call 43; refine (cD _).mono ?_; clear cD; rintro e w5 ⟨rfl, rfl⟩))
    refine bodyPost_ret (v := .tuple #[.slice none 0 0, .int .i64 1]) (by simp [results, Tryz.results15, go_sem]) rfl (bytPost_no hno.out HX0.out)
  rw [show decide (numP q.nonce) = true from decide_eq_true g3] at cB
  by_cases g4 : numP q.life
  case neg =>
    have hno := Lib.hid (show ¬ (headP q ∧ ∀ s ∈ q.names, s.size ≤ 64) from fun h => g4 h.1.2.2.2.2.2.1)
    rw [show decide (numP q.life) = false from decide_eq_false g4] at cC
    clear g0 g1 g2 g3 g4
    go_wp2_with (first | (go_at_call 43; refine (cA _).mono ?_; clear cA; rintro e w5 ⟨rfl, rfl⟩) | (go_at_call 43; refine (cB _).mono ?_; clear cB; rintro e w5 ⟨rfl, rfl⟩) | (go_at_call 43; refine (cC _).mono ?_; clear cC; rintro e w5 ⟨rfl, rfl⟩) | (go_at_call 43; refine (cD _).mono ?_; clear cD; rintro e w5 ⟨rfl, rfl⟩))
    refine bodyPost_ret (v := .tuple #[.slice none 0 0, .int .i64 1]) (by simp [results, Tryz.results15, go_sem]) rfl (bytPost_no hno.out HX0.out)
  rw [show decide (numP q.life) = true from decide_eq_true g4] at cC
  by_cases g5 : numP q.id
  case neg =>
    have hno := Lib.hid (show ¬ (headP q ∧ ∀ s ∈ q.names, s.size ≤ 64) from fun h => g5 h.1.2.2.2.2.2.2)
    rw [show decide (numP q.id) = false from decide_eq_false g5] at cD
    clear g0 g1 g2 g3 g4 g5
    go_wp2_with (first | (go_at_call 43; refine (cA _).mono ?_; clear cA; rintro e w5 ⟨rfl, rfl⟩) | (go_at_call 43; refine (cB _).mono ?_; clear cB; rintro e w5 ⟨rfl, rfl⟩) | (go_at_call 43; refine (cC _).mono ?_; clear cC; rintro e w5 ⟨rfl, rfl⟩) | (go_at_call 43; refine (cD _).mono ?_; clear cD; rintro e w5 ⟨rfl, rfl⟩))
    refine bodyPost_ret (v := .tuple #[.slice none 0 0, .int .i64 1]) (by simp [results, Tryz.results15, go_sem]) rfl (bytPost_no hno.out HX0.out)
  rw [show decide (numP q.id) = true from decide_eq_true g5] at cD
  by_cases g6 : q.names.length ≤ 8
  case neg =>
    have hno := Lib.hid (show ¬ (headP q ∧ ∀ s ∈ q.names, s.size ≤ 64) from fun h => g6 h.1.2.2.1)
    have d6 : decide ((8 : Int) < (q.names.length : Int)) = true := decide_eq_true (by omega)
    clear g0 g1 g2 g3 g4 g5 g6
    go_wp2_with (first | (go_at_call 43; refine (cA _).mono ?_; clear cA; rintro e w5 ⟨rfl, rfl⟩) | (go_at_call 43; refine (cB _).mono ?_; clear cB; rintro e w5 ⟨rfl, rfl⟩) | (go_at_call 43; refine (cC _).mono ?_; clear cC; rintro e w5 ⟨rfl, rfl⟩) | (go_at_call 43; refine (cD _).mono ?_; clear cD; rintro e w5 ⟨rfl, rfl⟩))
    refine bodyPost_ret (v := .tuple #[.slice none 0 0, .int .i64 1]) (by simp [results, Tryz.results15, go_sem]) rfl (bytPost_no hno.out HX0.out)
  have d6 : decide ((8 : Int) < (q.names.length : Int)) = false := decide_eq_false (by omega)
  have hh : headP q := ⟨g0, g1, g6, g2, g3, g4, g5⟩
  have HH := Lib.hid hh
  clear hh g0 g1 g2 g3 g4 g5 g6
  go_upto_region 3 with (first | (go_at_call 43; refine (cA _).mono ?_; clear cA; rintro e w5 ⟨rfl, rfl⟩) | (go_at_call 43; refine (cB _).mono ?_; clear cB; rintro e w5 ⟨rfl, rfl⟩) | (go_at_call 43; refine (cC _).mono ?_; clear cC; rintro e w5 ⟨rfl, rfl⟩) | (go_at_call 43; refine (cD _).mono ?_; clear cD; rintro e w5 ⟨rfl, rfl⟩))
  obtain ⟨z1, z2, z3, z4, z5, z6, z7⟩ := id HH.out
  obtain ⟨nk, hk⟩ : ∃ k : Nat, q.kind = k := ⟨q.kind.toNat, by omega⟩
  obtain ⟨na, ha⟩ : ∃ k : Nat, q.acc = k := ⟨q.acc.toNat, by have := z4.1; omega⟩
  obtain ⟨nn, hn⟩ : ∃ k : Nat, q.nonce = k := ⟨q.nonce.toNat, by have := z5.1; omega⟩
  obtain ⟨nf, hf⟩ : ∃ k : Nat, q.life = k := ⟨q.life.toNat, by have := z6.1; omega⟩
  obtain ⟨ni, hi_⟩ : ∃ k : Nat, q.id = k := ⟨q.id.toNat, by have := z7.1; omega⟩
  have w1 : IntKind.u64.wrap (nk : Int) = (nk : Int) := by rw [IntKind.wrap_u64]; omega
  have w2 : IntKind.u64.wrap (na : Int) = (na : Int) := by rw [IntKind.wrap_u64]; have := z4.2; omega
  have w3 : IntKind.u64.wrap (nn : Int) = (nn : Int) := by rw [IntKind.wrap_u64]; have := z5.2; omega
  have w4 : IntKind.u64.wrap (nf : Int) = (nf : Int) := by rw [IntKind.wrap_u64]; have := z6.2; omega
  have w5 : IntKind.u64.wrap (ni : Int) = (ni : Int) := by rw [IntKind.wrap_u64]; have := z7.2; omega
  have w6 : IntKind.u64.wrap (q.names.length : Int) = (q.names.length : Int) := by rw [IntKind.wrap_u64]; omega
  have hall : ∀ x ∈ [nk, na, nn, q.key, nf, ni, q.names.length], x < 18446744073709551616 := by
    have h4 := z4.2
    have h5 := z5.2
    have h6 := z6.2
    have h7 := z7.2
    have hk := HQ.out.key
    intro x hx
    simp only [List.mem_cons, List.not_mem_nil, or_false] at hx
    rcases hx with rfl | rfl | rfl | rfl | rfl | rfl | rfl <;> omega
  rw [hk] at k0
  rw [ha] at k1
  rw [hn] at k2
  rw [hf] at k5
  rw [hi_] at k6
  have HK := Lib.hid (And.intro hk (And.intro ha (And.intro hn (And.intro hf hi_))))
  have HALL := Lib.hid hall
  clear z1 z2 z3 z4 z5 z6 z7 hk ha hn hf hi_ hall d0 d1 d6
  go_upto_region 4 with (fail)
  obtain ⟨uvl, huvl⟩ : ∃ l, l = [nk, na, nn, q.key, nf, ni, q.names.length] := ⟨_, rfl⟩
  have hul : uvl.length = 7 := by rw [huvl]; rfl
  obtain ⟨W1, e2⟩ : ∃ W, W0.alloc (.cells #[.int .u64 (nk : Int), .int .u64 (na : Int), .int .u64 (nn : Int), .int .u64 (q.key : Int), .int .u64 (nf : Int), .int .u64 (ni : Int), .int .u64 (q.names.length : Int)] 22) = W := ⟨_, rfl⟩
  try rw [e2]
  have HX1 : Hid (Ext W0 W1) := Lib.hid (by rw [← e2]; exact (Ext.refl W0).alloc _)
  have HB7 : Hid (Blk W1 W0.heap.size 22 (uv uvl).toArray) := Lib.hid (by rw [← e2, huvl]; exact Blk.new _ _ _)
  rw [← huvl] at HALL
  have HUV := Lib.hid huvl
  have HUL := Lib.hid hul
  clear e2 huvl hul k0 k1 k2 k3 k4 k5 k6 k7 k8 w1 w2 w3 w4 w5 w6
  go_upto_region 6 with (fail)
  obtain ⟨W2, e3⟩ : ∃ W, W1.alloc (.cells #[] 5) = W := ⟨_, rfl⟩
  try rw [e3]
  have HX2 : Hid (Ext W1 W2) := Lib.hid (by rw [← e3]; exact (Ext.refl W1).alloc _)
  have HO2 : Hid (W2.ownsRow W1.heap.size 5 1 (.slice (some ⟨W1.heap.size, 0, none⟩) 0 0) 0 []) := Lib.hid (by rw [← e3]; exact own_empty W1 _ _ rfl (Nat.le_refl _) _ _)
  clear e3
  go_loopg [5, 6] 7 (fun g s5 s6 wr => ∃ (j : Nat) (v : Value), j + g = 7 ∧ s5 = v ∧ s6 = .int .i64 j ∧ wr.ownsRow W1.heap.size 5 1 v ((uvl.take j).flatMap (bigD 8)).length (bv ((uvl.take j).flatMap (bigD 8))) ∧ Ext W1 wr)
  case atStart => exact ⟨0, _, rfl, rfl, rfl, by simpa [bv] using HO2.out, HX2.out⟩
  case round =>
    obtain ⟨j, v, hj, hv, rfl, ho, hx⟩ := hrel
    rw [hv]
    clear hv
    by_cases hjl : j < 7
    · obtain ⟨x, hxx⟩ : ∃ x, uvl[j]? = some x := ⟨_, List.getElem?_eq_getElem (by have := HUL.out; omega)⟩
      have p1 := uv_at (ext_blk hx HB7.out) hxx
      have hjb : (j : Int) < 7 := by omega
      obtain ⟨L, hL⟩ : ∃ L, L = (uvl.take j).flatMap (bigD 8) := ⟨_, rfl⟩
      have hfl : L.length ≤ 56 := by
        rw [hL, fm_len8, List.length_take]; omega
      rw [← hL] at ho
      have HE : Hid ((uvl.take (j + 1)).flatMap (bigD 8) = L ++ bigD 8 x) := Lib.hid (by rw [hL, tk_snoc hxx, List.flatMap_append]; simp)
      have HJ := Lib.hid hj
      have HX := Lib.hid hx
      have HO := Lib.hid ho
      have HLB := Lib.hid hfl
      have cE := reight_any x (HALL.out x (List.mem_of_getElem? hxx))
      clear hxx hj hx ho hfl hL
      go_wp2_with (first | (go_at_call 44; refine (cE _).mono ?_; clear cE; rintro e w5 ⟨v5, rfl, ho5, x5⟩; obtain ⟨A5, c5, rfl, -, hr5⟩ := own_slice2 ho5; have HR5 := Lib.hid hr5; have X5 := Lib.hid x5; clear ho5 x5 hr5) | (at_builtin; refine wpList_append_any _ rfl (.tmp 75) (.tmp 80) 30 rfl W1.heap.size 5 i0 (.int .u8 0) 1 1 Tryz.underlying30 hi hz0 hz1 hz2 rfl (by decide) v L.length (bv L) rfl (own_ext HO.out X5.out) _ A5 8 c5 (bv (bigD 8 x)) rfl (HR5.out) (bv_cell _) (by have := HLB.out; simp only [maxLen]; omega) (by have := HLB.out; omega) (by have := HX.out.size; have := X5.out.size; omega) ?_; intro v9 w9 hown9 hg9 _; have HX9 := Lib.hid (show Ext W1 w9 from ext_grown (HX.out.trans X5.out) (own_ext HO.out X5.out) hg9); have HO9 := Lib.hid hown9; clear hown9 hg9))
      have hj := HJ.out
      go_roundg (gk - 1)
      case measure => omega
      case rel =>
        refine ⟨j + 1, _, by omega, rfl, int_congr (by omega), ?_, HX9.out⟩
        rw [HE.out, bv_append, List.length_append, bigD_length]
        exact HO9.out
    · obtain rfl : j = 7 := by omega
      rw [List.take_of_length_le (by have := HUL.out; omega)] at ho
      have hpre : uvl.flatMap (bigD 8) ++ namesB q.names = byteL q := by
        obtain ⟨e1, e2, e3, e4, e5⟩ := HK.out
        unfold byteL eightI
        rw [HUV.out, e1, e2, e3, e4, e5]
        simp
      have hpl : (uvl.flatMap (bigD 8)).length = 56 := by rw [HUV.out]; simp [bigD_length]
      obtain ⟨P, hP⟩ : ∃ P, P = uvl.flatMap (bigD 8) := ⟨_, rfl⟩
      rw [← hP] at ho hpre hpl
      have HPR := Lib.hid hpre
      have HPL := Lib.hid hpl
      have HO := Lib.hid ho
      have HX := Lib.hid hx
      clear ho hx hj hjl hP hpre hpl
      go_upto_region 10 with (fail)
      go_loopg [5, 7] q.names.length (fun g s5 s7 wr => ∃ (j : Nat) (v : Value), j + g = q.names.length ∧ s5 = v ∧ s7 = .int .i64 j ∧ wr.ownsRow W1.heap.size 5 1 v (P ++ namesB (q.names.take j)).length (bv (P ++ namesB (q.names.take j))) ∧ Ext W1 wr ∧ ∀ s ∈ q.names.take j, s.size ≤ 64)
      case atStart => exact ⟨0, _, by omega, rfl, rfl, by simpa [namesB] using HO.out, HX.out, by simp⟩
      case round =>
        clear HO HX
        obtain ⟨j, v, hj, hv, rfl, ho, hx, hok⟩ := hrel
        rw [hv]
        clear hv
        have hxw := HX0.out.trans (HX1.out.trans hx)
        have hjb : (j : Int) ≤ 1099511627776 := by have := HQ.out.nl; omega
        have k4 := (ext_blk (HX1.out.trans hx) HBQ.out).cell 4
        by_cases hjl : j < q.names.length
        · obtain ⟨s, hs⟩ : ∃ s, q.names[j]? = some s := ⟨_, List.getElem?_eq_getElem hjl⟩
          obtain ⟨ad, hA, p1⟩ := reads_text (HQ.out.ext hxw).names hs
          have hA' := hA
          subst hA
          have hjl' : (j : Int) < (q.names.length : Int) := by omega
          by_cases h64 : s.size ≤ 64
          · have hlB : (P ++ namesB (q.names.take j)).length ≤ 1000 := by
              have := namesB_len hok
              rw [List.length_append, HPL.out]
              rw [List.length_take] at this
              have := HH.out.2.2.1
              omega
            have d1 : decide ((64 : Int) < (s.size : Int)) = false := decide_eq_false (by omega)
            have w1 : IntKind.u64.wrap (s.size : Int) = (s.size : Int) := by rw [IntKind.wrap_u64]; omega
            obtain ⟨L, hL⟩ : ∃ L, L = P ++ namesB (q.names.take j) := ⟨_, rfl⟩
            rw [← hL] at ho hlB
            have HE : Hid (P ++ namesB (q.names.take (j + 1)) = (L ++ bigD 8 s.size) ++ txN s) := Lib.hid (by
              rw [hL, tk_snoc hs, namesB_append]
              simp [namesB, eightI])
            have HOK : Hid (∀ x ∈ q.names.take (j + 1), x.size ≤ 64) := Lib.hid (by
              rw [tk_snoc hs]
              intro x hx
              rcases List.mem_append.1 hx with hx | hx
              · exact hok x hx
              · rw [List.mem_singleton] at hx; subst hx; exact h64)
            have HS64 := Lib.hid h64
            have HJ := Lib.hid hj
            have HX := Lib.hid hx
            have HO := Lib.hid ho
            have HLB := Lib.hid hlB
            have HS := Lib.hid hs
            have cE := reight_any s.size (by omega)
            clear hs hj hx ho hok h64 hlB hL hxw
            go_upto_region 15 with (first | (go_at_call 44; refine (cE _).mono ?_; clear cE; rintro e w5 ⟨v5, rfl, ho5, x5⟩; obtain ⟨A5, c5, rfl, -, hr5⟩ := own_slice2 ho5; have HR5 := Lib.hid hr5; have X5 := Lib.hid x5; have k4 := (ext_blk (HX1.out.trans (HX.out.trans x5)) HBQ.out).cell 4;  clear ho5 x5 hr5) | (at_builtin; refine wpList_append_any _ rfl (.tmp 96) (.tmp 104) 30 rfl W1.heap.size 5 i0 (.int .u8 0) 1 1 Tryz.underlying30 hi hz0 hz1 hz2 rfl (by decide) v L.length (bv L) rfl (own_ext HO.out X5.out) _ A5 8 c5 (bv (bigD 8 s.size)) rfl (HR5.out) (bv_cell _) (by have := HLB.out; simp only [maxLen]; omega) (by have := HLB.out; omega) (by have := HX.out.size; have := X5.out.size; omega) ?_; intro v9 w9 hown9 hg9 _; have HX9 := Lib.hid (show Ext W1 w9 from ext_grown (HX.out.trans X5.out) (own_ext HO.out X5.out) hg9); have HO9 := Lib.hid hown9; clear hown9 hg9))
            have k4 := (ext_blk (HX1.out.trans HX9.out) HBQ.out).cell 4
            obtain ⟨ad2, hA2, p2⟩ := reads_text (HQ.out.ext (HX0.out.trans (HX1.out.trans HX9.out))).names HS.out
            cases hA2
            have hv9 : v9 ≠ .slice none 0 0 := by
              obtain ⟨g, cap, e, _⟩ := HO9.out.form (by omega)
              rw [e]
              intro h
              cases h
            clear p1
            go_wp2_with (at_builtin; refine wpList_append_own_src _ rfl (.tmp 106) (.tmp 111) 30 9 rfl W1.heap.size 5 i0 (.int .u8 0) 1 1 Tryz.underlying30 hi hz0 hz1 hz2 rfl v9 (L.length + 8) (bv L ++ bv (bigD 8 s.size)) rfl HO9.out (.string s) s.size (byteCells s) rfl (Src.ofString _ Tryz.underlying9 s) (by have := HS64.out; have := HLB.out; simp only [maxLen]; omega) (by have := HS64.out; have := HLB.out; omega) (by have := HX9.out.size; omega) hv9 ?_; intro v6 w6 hown6 hg6 _; have HX6 := Lib.hid (show Ext W1 w6 from ext_grown HX9.out HO9.out hg6); have HO6 := Lib.hid hown6; clear hown6 hg6)
            have hj := HJ.out
            go_roundg (gk - 1)
            case measure => omega
            case rel =>
              refine ⟨j + 1, _, by omega, rfl, int_congr (by omega), ?_, HX6.out, HOK.out⟩
              have e1 : (txN s).length = s.size := strN_length s
              have e6 := HO6.out
              rw [byteCells_strN] at e6
              rw [HE.out, bv_append, bv_append, List.length_append, List.length_append, bigD_length, e1]
              exact e6
          · have hno : Hid (¬ (headP q ∧ ∀ s ∈ q.names, s.size ≤ 64)) := Lib.hid fun h => h64 (h.2 s (List.mem_of_getElem? hs))
            have d1 : decide ((64 : Int) < (s.size : Int)) = true := decide_eq_true (by omega)
            have HXW := Lib.hid hxw
            clear hs hj hok h64 hxw ho hx
            go_wp2
            refine bodyPost_ret (v := .tuple #[.slice none 0 0, .int .i64 1]) (by simp [results, Tryz.results15, go_sem]) rfl (bytPost_no hno.out HXW.out)
        · obtain rfl : j = q.names.length := by omega
          rw [List.take_length] at ho hok
          rw [HPR.out] at ho
          have hbe : byteE q = 0 := by unfold byteE; rw [if_pos ⟨HH.out, hok⟩]
          have HO := Lib.hid ho
          have HXW := Lib.hid hxw
          have HBE := Lib.hid hbe
          clear hok hj hjl hxw ho hx hbe
          go_wp2
          refine bodyPost_ret (v := .tuple #[v, .int .i64 0]) (by simp [results, Tryz.results15, go_sem]) rfl ⟨v, by rw [HBE.out]; rfl, ?_, HXW.out⟩
          rw [show bytR q = byteL q by unfold bytR; rw [HBE.out]; rfl]
          exact own_base HO.out (HX0.out.trans HX1.out).size
end Go.Proofs.YtbhdmfijdhcehaaGreatDoor
