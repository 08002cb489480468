/- Parts of the proofs, put together: CtD7, CtD8. -/
import Derived.Test.YtfpmfegmehbfbaaGreatDoorZ27
/- Items, walked: Put; items in memory, told where. -/
namespace Go.Proofs.YtfpmfegmehbfbaaGreatDoor
set_option linter.unusedVariables false
set_option linter.unusedSimpArgs false
set_option linter.unusedSimpArgs false
open Go.RowKit Go.Shelf Go.Maps

set_option maxRecDepth 100000 in
set_option maxHeartbeats 2000000 in
theorem dPut_any (t : It) (v : ItV) (w : World) (hok : itOk 8 t) (hl : (itB t).length ≤ 8192) (hw : ItW w w.heap.size t v) (hk : KindsW w) :
    Calls Tryz.prog 30 #[itV v] w fun e w' => ∃ A c, e = .returned (.tuple #[.slice A (itB t).length c, .int .i64 0]) ∧ (itB t).length ≤ c ∧ Reads w' w'.heap.size 1 A (itB t).length (bv (itB t)) ∧ Ext w w' := by
  obtain ⟨W0, e0⟩ : ∃ W, w.alloc (.cells #[.int .i64 (v.tag : Int), .slice v.A v.n v.c, .slice v.A2 v.n2 v.c2] 77) = W := ⟨_, rfl⟩
  have b0 : Blk W0 w.heap.size 77 #[.int .i64 (v.tag : Int), .slice v.A v.n v.c, .slice v.A2 v.n2 v.c2] := by rw [← e0]; exact Blk.new _ _ _
  have x0 : Ext w W0 := by rw [← e0]; exact (Ext.refl w).alloc _
  have c1 := may_all 8 (by decide) t v W0 hok hl (hw.ext x0) (hk.ext x0)
  have c2 := fun W (x : Ext W0 W) => put_all 8 t v W W0.heap.size (.slice none 0 0) [] hok hl (by decide) x.size ((hw.ext x0).below x.out) (World.ownsRow_nil _ _ _ _)
  rw [List.nil_append] at c2
  unfold itV at c1 c2 ⊢
  obtain ⟨N, hN⟩ : ∃ N, (itB t).length = N := ⟨_, rfl⟩
  obtain ⟨T, hT⟩ : ∃ T, itB t = T := ⟨_, rfl⟩
  rw [hN, hT] at c2 ⊢
  rw [hN] at hl
  have hn : ¬ (8192 : Int) < N := by omega
  have y0 := b0.cell 0
  have y1 := b0.cell 1
  have y2 := b0.cell 2
  have HB0 := Lib.hid b0
  have HX0 := Lib.hid x0
  clear b0 x0 hw hk hok hN hT hl
  simp only [List.length_nil, Nat.zero_add] at c2
  go_enter Tryz.func30, Tryz.ntmps30
  go_upto_region 1 with (fail)
  try rw [e0]
  clear e0
  go_wp2_with (first | (go_at_call 83; refine c1.mono ?_; clear c1; rintro e w1 ⟨rfl, x1⟩; clear y0 y1 y2; have z0 := ext_blk x1 HB0.out; have y0 := z0.cell 0; have y1 := z0.cell 1; have y2 := z0.cell 2) | (go_at_call 84; refine (c2 _ x1).mono ?_; clear c2; rintro e w2 ⟨v2, rfl, ho2, x2⟩; obtain ⟨A2, k2, rfl, hc2, hr2⟩ := own_slice ho2))
  go_ret2
  exact ⟨A2, k2, rfl, hc2, hr2, HX0.out.trans (Ext.of ((x1.out.trans (Below.mono x2 (Nat.le_refl _)))))⟩
/-- A slice that reads as a list, told in which blocks it lies. -/
def RdS (w : World) (S : Nat → Prop) (size : Nat) (A : Option Addr) (n : Nat) (xs : List Value) : Prop :=
  xs.length = n * size ∧ (0 < n → ∃ ad, A = some ad ∧ S ad.block ∧ ∀ j u, xs[j]? = some u → w.cell? (ad.add j) = some u)
theorem RdS.keep {w w' : World} {S S' : Nat → Prop} {size n : Nat} {A : Option Addr} {xs : List Value} (h : RdS w S size A n xs) (hk : ∀ p : Addr, S p.block → w'.cell? p = w.cell? p) (hS : ∀ b, S b → S' b) : RdS w' S' size A n xs :=
  ⟨h.1, fun hn => by
    obtain ⟨ad, e, hb, hc⟩ := h.2 hn
    exact ⟨ad, e, hS _ hb, fun j u hu => (hk _ (by rw [block_of_add]; exact hb)).trans (hc j u hu)⟩⟩
theorem RdS.reads {w : World} {S : Nat → Prop} {B size n : Nat} {A : Option Addr} {xs : List Value} (h : RdS w S size A n xs) (hS : ∀ b, S b → b < B) : Reads w B size A n xs :=
  ⟨h.1, fun hn => by
    obtain ⟨ad, e, hb, hc⟩ := h.2 hn
    exact ⟨ad, e, hS _ hb, hc⟩⟩
theorem RdS.of_own {w : World} {S : Nat → Prop} {base : Nat} {e : TypeId} {size n c : Nat} {A : Option Addr} {xs : List Value} (h : w.ownsRow base e size (.slice A n c) n xs) (hS : ∀ b, base ≤ b → b < w.heap.size → (Value.slice A n c).ownBlock = some b → S b) : RdS w S size A n xs := by
  refine ⟨h.1, fun hn => ?_⟩
  obtain ⟨g, cap, hv, hb, hlt⟩ := h.form hn
  have hA : A = some ⟨g, 0, none⟩ := by injection hv
  subst hA
  exact ⟨_, rfl, hS g hb hlt rfl, h.cells (g := g) rfl⟩
mutual
def ItS (w : World) (S : Nat → Prop) : It → ItV → Prop
  | .p tag b, v => v.tag = tag ∧ v.n = b.length ∧ b.length ≤ v.c ∧ RdS w S 1 v.A b.length (bv b) ∧ v.A2 = none ∧ v.n2 = 0 ∧ v.c2 = 0
  | .s l, v => v.tag = 48 ∧ v.A = none ∧ v.n = 0 ∧ v.c = 0 ∧ v.n2 = l.length ∧ l.length ≤ v.c2 ∧ ∃ vs, RdS w S 3 v.A2 l.length (itsV vs) ∧ ItsS w S l vs
def ItsS (w : World) (S : Nat → Prop) : List It → List ItV → Prop
  | [], vs => vs = []
  | t :: l, vs => ∃ v vs', vs = v :: vs' ∧ ItS w S t v ∧ ItsS w S l vs'
end
theorem ItS_p {w : World} {S : Nat → Prop} {tag : Nat} {b : List Nat} {v : ItV} : ItS w S (.p tag b) v ↔ v.tag = tag ∧ v.n = b.length ∧ b.length ≤ v.c ∧ RdS w S 1 v.A b.length (bv b) ∧ v.A2 = none ∧ v.n2 = 0 ∧ v.c2 = 0 := by rw [ItS]
theorem ItS_s {w : World} {S : Nat → Prop} {l : List It} {v : ItV} : ItS w S (.s l) v ↔ v.tag = 48 ∧ v.A = none ∧ v.n = 0 ∧ v.c = 0 ∧ v.n2 = l.length ∧ l.length ≤ v.c2 ∧ ∃ vs, RdS w S 3 v.A2 l.length (itsV vs) ∧ ItsS w S l vs := by rw [ItS]
theorem ItsS_nil {w : World} {S : Nat → Prop} {vs : List ItV} : ItsS w S [] vs ↔ vs = [] := by rw [ItsS]
theorem ItsS_cons {w : World} {S : Nat → Prop} {t : It} {l : List It} {vs : List ItV} : ItsS w S (t :: l) vs ↔ ∃ v vs', vs = v :: vs' ∧ ItS w S t v ∧ ItsS w S l vs' := by rw [ItsS]
mutual
theorem ItS.keep {w w' : World} {S S' : Nat → Prop} (hk : ∀ p : Addr, S p.block → w'.cell? p = w.cell? p) (hS : ∀ b, S b → S' b) : ∀ {t : It} {v : ItV}, ItS w S t v → ItS w' S' t v
  | .p _ _, _, h => by
    rw [ItS_p] at h ⊢
    exact ⟨h.1, h.2.1, h.2.2.1, h.2.2.2.1.keep hk hS, h.2.2.2.2⟩
  | .s _, _, h => by
    rw [ItS_s] at h ⊢
    obtain ⟨h1, h2, h3, h4, h5, h6, vs, h7, h8⟩ := h
    exact ⟨h1, h2, h3, h4, h5, h6, vs, h7.keep hk hS, ItsS.keep hk hS h8⟩
theorem ItsS.keep {w w' : World} {S S' : Nat → Prop} (hk : ∀ p : Addr, S p.block → w'.cell? p = w.cell? p) (hS : ∀ b, S b → S' b) : ∀ {l : List It} {vs : List ItV}, ItsS w S l vs → ItsS w' S' l vs
  | [], _, h => by
    rw [ItsS_nil] at h ⊢
    exact h
  | _ :: _, _, h => by
    rw [ItsS_cons] at h ⊢
    obtain ⟨v, vs', h1, h2, h3⟩ := h
    exact ⟨v, vs', h1, ItS.keep hk hS h2, ItsS.keep hk hS h3⟩
end
mutual
theorem ItS.itW {w : World} {S : Nat → Prop} {B : Nat} (hS : ∀ b, S b → b < B) : ∀ {t : It} {v : ItV}, ItS w S t v → ItW w B t v
  | .p _ _, _, h => by
    rw [ItS_p] at h
    rw [ItW_p]
    exact ⟨h.1, h.2.1, h.2.2.1, h.2.2.2.1.reads hS, h.2.2.2.2⟩
  | .s _, _, h => by
    rw [ItS_s] at h
    rw [ItW_s]
    obtain ⟨h1, h2, h3, h4, h5, h6, vs, h7, h8⟩ := h
    exact ⟨h1, h2, h3, h4, h5, h6, vs, h7.reads hS, ItsS.itsW hS h8⟩
theorem ItsS.itsW {w : World} {S : Nat → Prop} {B : Nat} (hS : ∀ b, S b → b < B) : ∀ {l : List It} {vs : List ItV}, ItsS w S l vs → ItsW w B l vs
  | [], _, h => by
    rw [ItsS_nil] at h
    rw [ItsW_nil]
    exact h
  | _ :: _, _, h => by
    rw [ItsS_cons] at h
    rw [ItsW_cons]
    obtain ⟨v, vs', h1, h2, h3⟩ := h
    exact ⟨v, vs', h1, ItS.itW hS h2, ItsS.itsW hS h3⟩
end
theorem ItsS.append {w : World} {S : Nat → Prop} : ∀ {l m : List It} {vs us : List ItV}, ItsS w S l vs → ItsS w S m us → ItsS w S (l ++ m) (vs ++ us)
  | [], _, _, _, h, k => by rw [ItsS_nil] at h; subst h; exact k
  | _ :: _, _, _, us, h, k => by
    rw [ItsS_cons] at h
    obtain ⟨v, vs', rfl, h2, h3⟩ := h
    rw [List.cons_append, ItsS_cons]
    exact ⟨v, vs' ++ us, rfl, h2, h3.append k⟩
theorem ItsS.one {w : World} {S : Nat → Prop} {t : It} {v : ItV} (h : ItS w S t v) : ItsS w S [t] [v] := by rw [ItsS_cons]; exact ⟨v, [], rfl, h, by rw [ItsS_nil]⟩
/-- A length's bytes. -/
def lenB (n : Nat) : List Nat := if n < 128 then [n] else if n < 256 then [129, n] else [130, n / 256, n % 256]
theorem itH_len_eq (tag n : Nat) : itH tag n = tag :: lenB n := by
  unfold itH lenB
  split
  · rfl
  · split <;> rfl
theorem lenB_len (n : Nat) : 1 ≤ (lenB n).length ∧ (lenB n).length ≤ 3 := by
  unfold lenB
  split
  · simp
  · split <;> simp
theorem length_any (n : Nat) (h : n < 65536) (r : List Nat) (A : Option Addr) (N c B : Nat) (hN : N = (lenB n ++ r).length) (hc : N ≤ c) (hm : N ≤ 100000) (w : World) (hr : Reads w B 1 A N (bv (lenB n ++ r))) :
    Calls Tryz.prog 166 #[.slice A N c] w fun e w' => e = .returned (.tuple #[.int .i64 (n : Int), .int .i64 ((lenB n).length : Int), .int .i64 0]) ∧ w = w' := by
  unfold lenB at *
  by_cases h1 : n < 128
  · rw [if_pos h1] at hr hN ⊢
    exact length1_any n h1 r A N c B (by rw [hN]; simp) hc hm w hr
  · rw [if_neg h1] at hr hN ⊢
    by_cases h2 : n < 256
    · rw [if_pos h2] at hr hN ⊢
      exact length2_any n (by omega) h2 r A N c B (by rw [hN]; simp) hc hm w hr
    · rw [if_neg h2] at hr hN ⊢
      exact length3_any n (by omega) h r A N c B (by rw [hN]; simp) hc hm w hr
end Go.Proofs.YtfpmfegmehbfbaaGreatDoor

/- Items, walked: read. -/
namespace Go.Proofs.YtfpmfegmehbfbaaGreatDoor
set_option linter.unusedVariables false
set_option linter.unusedSimpArgs false
set_option linter.unusedSimpArgs false
open Go.RowKit Go.Shelf Go.Maps

theorem reads_tail {w : World} {B N g k : Nat} {x : Value} {xs : List Value} (h : Reads w B 1 (some ⟨g, k, none⟩) N (x :: xs)) : Reads w B 1 (some ⟨g, k + 1, none⟩) (N - 1) xs := by
  have hl := h.1
  simp at hl
  refine ⟨by omega, fun _ => ?_⟩
  obtain ⟨ad, e, hb, hc⟩ := h.2 (by omega)
  cases e
  refine ⟨_, rfl, hb, fun j u hj => ?_⟩
  have := hc (j + 1) u (by simpa using hj)
  unfold Addr.add at this ⊢
  simp at this
  split
  · next h0 => subst h0; simpa using this
  · rw [show k + 1 + j = k + (j + 1) by omega]; exact this
set_option maxRecDepth 100000 in
set_option maxHeartbeats 4000000 in
theorem get_prim (tag : Nat) (F : FuncId) (hE : Enters Tryz.prog F) (hne : tag ≠ 48) (htag : tag < 256) (b rest : List Nat)
    (hfind : ∀ W, KindsW W → Calls Tryz.prog 165 #[.int .i64 (tag : Int)] W fun e w' => e = .returned (.tuple #[.agg #[.int .i64 (tag : Int), .func (.func F) #[] #[]], .bool true]) ∧ Ext W w')
    (hmay : ∀ W A c B, Reads W B 1 A b.length (bv b) → Calls Tryz.prog F #[.slice A b.length c] W fun e w' => e = .returned (.bool true) ∧ W = w')
    (hl : (itB (.p tag b)).length ≤ 8192) (d : Nat) (hd : 1 ≤ d) (A : Option Addr) (N c : Nat) (hN : N = (itB (.p tag b) ++ rest).length) (hmx : N ≤ 100000) (hc : N ≤ c) (w : World) (hk : KindsW w)
    (B : Nat) (hB : B ≤ w.heap.size) (hr : Reads w B 1 A N (bv (itB (.p tag b) ++ rest))) :
    Calls Tryz.prog 82 #[.slice A N c, .int .i64 (d : Int)] w fun e w' => ∃ v A' c', e = .returned (.tuple #[itV v, .slice A' rest.length c', .int .i64 0]) ∧ ItS w' (fun b => w.heap.size ≤ b ∧ b < w'.heap.size) (.p tag b) v ∧ rest.length ≤ c' ∧ Reads w' B 1 A' rest.length (bv rest) ∧ Ext w w' := by
  obtain ⟨i0, hi, hz0, hz1, hz2⟩ := info_parts Tryz.infoIt
  obtain ⟨n, hn⟩ : ∃ n, b.length = n := ⟨_, rfl⟩
  obtain ⟨L, hL⟩ : ∃ L, lenB n = L := ⟨_, rfl⟩
  have hby : itB (.p tag b) ++ rest = tag :: (L ++ (b ++ rest)) := by
    rw [itB_eq]
    show itH tag b.length ++ b ++ rest = _
    rw [itH_len_eq, hn, hL]
    simp
  have hlt : (itB (.p tag b)).length = 1 + L.length + n := by
    rw [itB_eq]
    show (itH tag b.length ++ b).length = _
    rw [itH_len_eq, hn, hL, List.length_append, List.length_cons, hn]
    omega
  obtain ⟨lg, hlg⟩ : ∃ lg, L.length = lg := ⟨_, rfl⟩
  have hlg1 := lenB_len n
  rw [hL, hlg] at hlg1
  rw [hlt, hlg] at hl
  rw [hby] at hr
  have hNN : N = 1 + lg + n + rest.length := by rw [hN, List.length_append, hlt, hlg]
  obtain ⟨m, hm1⟩ : ∃ m, 1 + lg = m := ⟨_, rfl⟩
  obtain ⟨g, k, rfl, hgB, hcl⟩ := reads_form hr (by omega)
  have h0 := hcl 0 _ rfl
  rw [Nat.add_zero] at h0
  have hr1 := reads_tail hr
  have hrm := hr.cut (k := m) (cap := c) (by omega) hc
  have hdr : (bv (tag :: (L ++ (b ++ rest)))).drop (m * 1) = bv (b ++ rest) := by
    rw [Nat.mul_one, ← hm1, ← hlg, Nat.add_comm]
    show (bv (L ++ (b ++ rest))).drop L.length = _
    rw [bv_append, List.drop_append_of_le_length (by rw [bv_length]; exact Nat.le_refl _), List.drop_eq_nil_of_le (by rw [bv_length]; exact Nat.le_refl _), List.nil_append]
  rw [hdr] at hrm
  have e0 : ((N : Int) == 0) = false := by rw [beq_eq_false_iff_ne]; omega
  have e1 : (0 : Int) < N := by omega
  have e2 : (1 : Int) ≤ N := by omega
  have e3 : ¬ c = 1 := by omega
  have e4 : ¬ (d : Int) < 1 := by omega
  have e5 : (1 : Int) + (lg : Int) = (m : Int) := by omega
  have e6 : ¬ (8192 : Int) < (m : Int) + (n : Int) := by omega
  have e7 : (m : Int) ≤ N := by omega
  have e8 : ¬ ((N - m : Nat) : Int) < (n : Int) := by omega
  have e9 : (m : Int) + (n : Int) ≤ 8192 := by omega
  have hsz : (N : Int) ≤ c := by omega
  have d4 : decide ((d : Int) < 1) = false := decide_eq_false e4
  have d6 : decide ((8192 : Int) < (m : Int) + (n : Int)) = false := decide_eq_false e6
  obtain ⟨W0, ew⟩ : ∃ W, w.alloc (.cells #[.int .i64 0, .slice none 0 0, .slice none 0 0] 77) = W := ⟨_, rfl⟩
  have b0 : Blk W0 w.heap.size 77 #[.int .i64 0, .slice none 0 0, .slice none 0 0] := by rw [← ew]; exact Blk.new _ _ _
  have x0 : Ext w W0 := by rw [← ew]; exact (Ext.refl w).alloc _
  have cF := hfind W0 (hk.ext x0)
  have y0 := x0.cell h0
  have HB0 := Lib.hid b0
  have HX0 := Lib.hid x0
  have HK := Lib.hid hk
  have HRM := Lib.hid hrm
  have HN := Lib.hid hNN
  have HM := Lib.hid hm1
  have hnn : n < 65536 := by omega
  have cL := fun W (x : Ext W0 W) => length_any n hnn (b ++ rest) (some ⟨g, k + 1, none⟩) (N - 1) (c - 1) B (by rw [hL, List.length_append, List.length_append, hlg, hn]; omega) (by omega) (by omega) W (by rw [hL]; exact hr1.below (Below.mono (x0.trans x).out hB))
  rw [hL, hlg] at cL
  have HLN := Lib.hid hn
  clear hfind b0 x0 hk hrm hNN hm1 hr hcl hr1 h0 hby hlt hdr hL hn hN hl hgB hlg hlg1
  go_enter Tryz.func82, Tryz.ntmps82
  go_upto_region 1 with (fail)
  try rw [ew]
  clear ew
  go_upto_region 4 with (go_at_call 165; refine cF.mono ?_; clear cF; rintro e w1 ⟨rfl, x1⟩; clear y0)
  obtain ⟨W2, e2'⟩ : ∃ W, w1.alloc (.cells #[.int .i64 (tag : Int), .func (.func F) #[] #[]] 253) = W := ⟨_, rfl⟩
  have x2 : Ext W0 W2 := by rw [← e2']; exact x1.alloc _
  have b2 : Blk W2 w1.heap.size 253 #[.int .i64 (tag : Int), .func (.func F) #[] #[]] := by rw [← e2']; exact Blk.new _ _ _
  try rw [e2']
  have cL2 := cL W2 x2
  have z0 := (ext_blk x2 HB0.out).cell 0
  have f0 := (ext_blk x2 HB0.out).frozen 0
  have v0 := b2.cell 0
  have hq2 : w1.heap.size ≠ w.heap.size := by have := HB0.out.lt; have := x1.size; omega
  have HX2 := Lib.hid x2
  have HB2 := Lib.hid b2
  have HQ2 := Lib.hid hq2
  clear e2' cL x1 x2 b2 hq2
  go_upto_region 12 with (go_at_call 166; refine cL2.mono ?_; clear cL2; rintro e w3 ⟨rfl, rfl⟩)
  have HA1 : Hid (∃ k1, (if c = m then some ⟨g, k, none⟩ else some ⟨g, k + m, none⟩ : Option Addr) = some ⟨g, k1, none⟩ ∧ Reads w B 1 (some ⟨g, k1, none⟩) (N - m) (bv (b ++ rest))) := Lib.hid (by
    have h := HRM.out
    have h2 := HM.out
    split at h
    · next hc => exact ⟨k, by rw [if_pos hc], h⟩
    · next hc =>
      refine ⟨k + m, by rw [if_neg hc], ?_⟩
      rw [Nat.mul_one] at h
      have e : (Addr.mk g k none).add m = ⟨g, k + m, none⟩ := by unfold Addr.add; rw [if_neg (by omega)]
      rw [Option.map_some, e] at h
      exact h)
  obtain ⟨k1, hk1, hrk⟩ := HA1.out
  rw [hk1]
  obtain ⟨q, hq⟩ : ∃ q, N - m = q := ⟨_, rfl⟩
  obtain ⟨cc, hcc⟩ : ∃ q, c - m = q := ⟨_, rfl⟩
  rw [hq] at hrk e8 ⊢
  rw [hcc]
  have hqn : q = n + rest.length := by have := HN.out; have := HM.out; omega
  have hqc : q ≤ cc := by have := HN.out; have := HM.out; omega
  have HQN := Lib.hid hqn
  have HQC := Lib.hid hqc
  have HRK := Lib.hid hrk
  have g1 : (n : Int) ≤ q := by omega
  have d8 : decide (q < n) = false := decide_eq_false (by omega)
  have g2 : (n : Int) ≤ cc := by omega
  have hrest : ∃ A', (if cc = n then some ⟨g, k1, none⟩ else some ⟨g, k1 + n, none⟩ : Option Addr) = A' ∧ Reads w B 1 A' (q - n) (bv rest) := by
    have h := hrk.cut (k := n) (cap := cc) (by omega) hqc
    have hd : (bv (b ++ rest)).drop (n * 1) = bv rest := by
      rw [Nat.mul_one, bv_append, ← HLN.out, List.drop_append_of_le_length (by rw [bv_length]; exact Nat.le_refl _), List.drop_eq_nil_of_le (by rw [bv_length]; exact Nat.le_refl _), List.nil_append]
    rw [hd] at h
    have e : (some ⟨g, k1, none⟩ : Option Addr).map (·.add (n * 1)) = some ⟨g, k1 + n, none⟩ := by
      rw [Nat.mul_one, Option.map_some]
      congr 1
      unfold Addr.add
      split
      · next h0 => rw [h0]; rfl
      · rfl
    rw [e] at h
    exact ⟨_, rfl, h⟩
  obtain ⟨A', hA', hrr⟩ := hrest
  have HAR := Lib.hid hA'
  have HRR := Lib.hid hrr
  have hin : ∀ W, Ext w W → Reads W B 1 (some ⟨g, k1, none⟩) n (bv b) := fun W x => by
    have h1 : Reads w B 1 (some ⟨g, k1, none⟩) n (bv b) := by
      refine ⟨by rw [bv_length, HLN.out, Nat.mul_one], fun h0 => ?_⟩
      obtain ⟨ad, e, hb, hc⟩ := hrk.2 (by omega)
      refine ⟨ad, e, hb, fun j u hj => hc j u ?_⟩
      rw [bv_append, List.getElem?_append_left (by exact (List.getElem?_eq_some_iff.1 hj).1)]
      exact hj
    exact (h1.below (Below.mono x.out hB))
  have HIN := Lib.hid hin
  clear HA1 hk1 hrk hq hcc hqn hqc hA' hrr hin HRM HN HM
  have hne1 : ((tag : Int) == 48) = false := by rw [beq_eq_false_iff_ne]; omega
  go_upto_region 15 with (fail)
  go_region
  obtain ⟨W3, e3⟩ : ∃ W, W = (W2.setCell ⟨w.heap.size, 0, none⟩ (.int .i64 (tag : Int))).drew := ⟨_, rfl⟩
  have b3 : Blk W3 w.heap.size 77 #[.int .i64 (tag : Int), .slice none 0 0, .slice none 0 0] := by rw [e3]; exact (Blk.set_ (ext_blk HX2.out HB0.out) 0 _).drew
  have x3 : Ext w W3 := by rw [e3]; exact ((HX0.out.trans HX2.out).setCell (p := ⟨w.heap.size, 0, none⟩) (Nat.le_refl _) _).drew
  try rw [← e3]
  have hb3 : Blk W3 w1.heap.size 253 #[.int .i64 (tag : Int), .func (.func F) #[] #[]] := by rw [e3]; exact (Blk.far HB2.out (by exact HQ2.out) _).drew
  have cM := hmay W3 (some ⟨g, k1, none⟩) cc _ (by rw [HLN.out]; exact HIN.out W3 x3)
  have cC := cloneB_any (some ⟨g, k1, none⟩) n cc (bv b) (bv_one b) (by omega) W3 ((HIN.out W3 x3).more (Nat.le_trans hB x3.size))
  rw [HLN.out] at cM
  rw [HAR.out]
  have z0 := b3.cell 0
  have v1 := hb3.cell 1
  have HB3 := Lib.hid b3
  have HX3 := Lib.hid x3
  unfold Enters at hE
  clear e3 hb3 b3 x3 f0 v0 hmay HIN
  go_wp2_with (first | (go_at_fn F; refine cM.mono ?_; clear cM; rintro e w4 ⟨rfl, rfl⟩) | (go_at_call 111; refine cC.mono ?_; clear cC; rintro e w5 ⟨v5, rfl, ho5, x5⟩; obtain ⟨A5, c5, rfl, hc5, hr5⟩ := own_slice ho5; have y5 := ext_blk x5 HB3.out; clear z0; have z0 := y5.cell 0; have z1 := y5.cell 1; have z2 := y5.cell 2; have f0 := y5.frozen 0; have f1 := y5.frozen 1; have f2 := y5.frozen 2))
  have hlt := HB3.out.lt
  obtain ⟨W7, e7, b7, x7, k7, s7⟩ := item_put (y5.set_ 1 (.slice A5 n c5)) ((HX3.out.trans x5).setCell (p := ⟨w.heap.size, 1, none⟩) (Nat.le_refl _) (.slice A5 n c5)) (.int .i64 (tag : Int)) (.slice A5 n c5) (.slice none 0 0)
  have ho7 : W7.ownsRow W3.heap.size 5 1 (.slice A5 n c5) n (bv b) := by rw [e7]; exact own_far (own_far (own_far (own_far ho5 hlt 1 _) hlt 0 _) hlt 1 _) hlt 2 _
  rw [← e7]
  clear e7 z0 z1 z2 f0 f1 f2
  have y0 := b7.cell 0
  have y1 := b7.cell 1
  have y2 := b7.cell 2
  have hqn := HQN.out
  have hqc := HQC.out
  have hrr := HRR.out.below (Below.mono x7.out hB)
  rw [show q - n = rest.length by omega] at hrr ⊢
  refine bodyPost_ret (v := .tuple #[.agg #[.int .i64 (tag : Int), .slice A5 n c5, .slice none 0 0], .slice A' rest.length (cc - n), .int .i64 0]) (by simp [results, Tryz.results82, go_sem, y0, y1, y2]) rfl ⟨⟨tag, A5, n, c5, none, 0, 0⟩, A', cc - n, rfl, ?_, by omega, hrr, x7⟩
  rw [ItS_p, HLN.out]
  exact ⟨rfl, rfl, hc5, RdS.of_own ho7 (fun b h1 h2 _ => ⟨by have := HX3.out.size; omega, h2⟩), rfl, rfl, rfl⟩
/-- While a sequence's items are read. -/
structure GtS (w wr : World) (l : List It) (i : Nat) (vL : Value) (vs : List ItV) : Prop where
  b0 : Blk wr w.heap.size 77 #[.int .i64 48, .slice none 0 0, vL]
  row : wr.ownsRow (w.heap.size + 1) 77 3 vL i (itsV vs)
  ch : ItsS wr (fun b => w.heap.size + 1 ≤ b ∧ b < wr.heap.size ∧ vL.ownBlock ≠ some b) (l.take i) vs
  x : Ext w wr
def getP (d : Nat) : Prop := ∀ (t : It) (rest : List Nat) (A : Option Addr) (N c B : Nat) (w : World), itOk d t → (itB t).length ≤ 8192 → N = (itB t ++ rest).length → N ≤ 100000 → N ≤ c → KindsW w → B ≤ w.heap.size → Reads w B 1 A N (bv (itB t ++ rest)) →
  Calls Tryz.prog 82 #[.slice A N c, .int .i64 (d : Int)] w fun e w' => ∃ v A' c', e = .returned (.tuple #[itV v, .slice A' rest.length c', .int .i64 0]) ∧ ItS w' (fun b => w.heap.size ≤ b ∧ b < w'.heap.size) t v ∧ rest.length ≤ c' ∧ Reads w' B 1 A' rest.length (bv rest) ∧ Ext w w'
set_option maxRecDepth 100000 in
set_option maxHeartbeats 8000000 in
theorem get_seq {d0 : Nat} (hg0 : getP d0) (l : List It) (rest : List Nat) (hok : ∀ t ∈ l, itOk d0 t)
    (hl : (itB (.s l)).length ≤ 8192) (d : Nat) (hd0 : d = d0 + 1) (hd : 1 ≤ d) (h8 : d ≤ 8) (A : Option Addr) (N c : Nat) (hN : N = (itB (.s l) ++ rest).length) (hmx : N ≤ 100000) (hc : N ≤ c) (w : World) (hk : KindsW w)
    (B : Nat) (hB : B ≤ w.heap.size) (hr : Reads w B 1 A N (bv (itB (.s l) ++ rest))) :
    Calls Tryz.prog 82 #[.slice A N c, .int .i64 (d : Int)] w fun e w' => ∃ v A' c', e = .returned (.tuple #[itV v, .slice A' rest.length c', .int .i64 0]) ∧ ItS w' (fun b => w.heap.size ≤ b ∧ b < w'.heap.size) (.s l) v ∧ rest.length ≤ c' ∧ Reads w' B 1 A' rest.length (bv rest) ∧ Ext w w' := by
  have hfind := find_48
  have HG0 := Lib.hid hg0
  have HOK := Lib.hid hok
  have HD0 := Lib.hid hd0
  have hd8 : (d : Int) ≤ 8 := by omega
  clear hg0 hok hd0
  obtain ⟨i0, hi, hz0, hz1, hz2⟩ := info_parts Tryz.infoIt
  obtain ⟨n, hn⟩ : ∃ n, (itsB l).length = n := ⟨_, rfl⟩
  obtain ⟨L, hL⟩ : ∃ L, lenB n = L := ⟨_, rfl⟩
  have hby : itB (.s l) ++ rest = 48 :: (L ++ ((itsB l) ++ rest)) := by
    rw [itB_eq]
    show itH 48 (itsB l).length ++ (itsB l) ++ rest = _
    rw [itH_len_eq, hn, hL]
    simp
  have hlt : (itB (.s l)).length = 1 + L.length + n := by
    rw [itB_eq]
    show (itH 48 (itsB l).length ++ (itsB l)).length = _
    rw [itH_len_eq, hn, hL, List.length_append, List.length_cons, hn]
    omega
  obtain ⟨lg, hlg⟩ : ∃ lg, L.length = lg := ⟨_, rfl⟩
  have hlg1 := lenB_len n
  rw [hL, hlg] at hlg1
  rw [hlt, hlg] at hl
  rw [hby] at hr
  have hNN : N = 1 + lg + n + rest.length := by rw [hN, List.length_append, hlt, hlg]
  obtain ⟨m, hm1⟩ : ∃ m, 1 + lg = m := ⟨_, rfl⟩
  obtain ⟨g, k, rfl, hgB, hcl⟩ := reads_form hr (by omega)
  have h0 := hcl 0 _ rfl
  rw [Nat.add_zero] at h0
  have hr1 := reads_tail hr
  have hrm := hr.cut (k := m) (cap := c) (by omega) hc
  have hdr : (bv (48 :: (L ++ ((itsB l) ++ rest)))).drop (m * 1) = bv ((itsB l) ++ rest) := by
    rw [Nat.mul_one, ← hm1, ← hlg, Nat.add_comm]
    show (bv (L ++ ((itsB l) ++ rest))).drop L.length = _
    rw [bv_append, List.drop_append_of_le_length (by rw [bv_length]; exact Nat.le_refl _), List.drop_eq_nil_of_le (by rw [bv_length]; exact Nat.le_refl _), List.nil_append]
  rw [hdr] at hrm
  have e0 : ((N : Int) == 0) = false := by rw [beq_eq_false_iff_ne]; omega
  have e1 : (0 : Int) < N := by omega
  have e2 : (1 : Int) ≤ N := by omega
  have e3 : ¬ c = 1 := by omega
  have e4 : ¬ (d : Int) < 1 := by omega
  have e5 : (1 : Int) + (lg : Int) = (m : Int) := by omega
  have e6 : ¬ (8192 : Int) < (m : Int) + (n : Int) := by omega
  have e7 : (m : Int) ≤ N := by omega
  have e8 : ¬ ((N - m : Nat) : Int) < (n : Int) := by omega
  have e9 : (m : Int) + (n : Int) ≤ 8192 := by omega
  have hsz : (N : Int) ≤ c := by omega
  have d4 : decide ((d : Int) < 1) = false := decide_eq_false e4
  have d6 : decide ((8192 : Int) < (m : Int) + (n : Int)) = false := decide_eq_false e6
  obtain ⟨W0, ew⟩ : ∃ W, w.alloc (.cells #[.int .i64 0, .slice none 0 0, .slice none 0 0] 77) = W := ⟨_, rfl⟩
  have b0 : Blk W0 w.heap.size 77 #[.int .i64 0, .slice none 0 0, .slice none 0 0] := by rw [← ew]; exact Blk.new _ _ _
  have x0 : Ext w W0 := by rw [← ew]; exact (Ext.refl w).alloc _
  have cF := hfind W0 (hk.ext x0)
  have y0 := x0.cell h0
  have HB0 := Lib.hid b0
  have HX0 := Lib.hid x0
  have HK := Lib.hid hk
  have HRM := Lib.hid hrm
  have HN := Lib.hid hNN
  have HM := Lib.hid hm1
  have hnn : n < 65536 := by omega
  have cL := fun W (x : Ext W0 W) => length_any n hnn ((itsB l) ++ rest) (some ⟨g, k + 1, none⟩) (N - 1) (c - 1) B (by rw [hL, List.length_append, List.length_append, hlg, hn]; omega) (by omega) (by omega) W (by rw [hL]; exact hr1.below (Below.mono (x0.trans x).out hB))
  rw [hL, hlg] at cL
  have HLN := Lib.hid hn
  clear hfind b0 x0 hk hrm hNN hm1 hr hcl hr1 h0 hby hlt hdr hL hn hN hl hgB hlg hlg1
  go_enter Tryz.func82, Tryz.ntmps82
  go_upto_region 1 with (fail)
  try rw [ew]
  clear ew
  go_upto_region 4 with (go_at_call 165; refine cF.mono ?_; clear cF; rintro e w1 ⟨rfl, x1⟩; clear y0)
  obtain ⟨W2, e2'⟩ : ∃ W, w1.alloc (.cells #[.int .i64 48, .func (.func 371) #[] #[]] 253) = W := ⟨_, rfl⟩
  have x2 : Ext W0 W2 := by rw [← e2']; exact x1.alloc _
  have b2 : Blk W2 w1.heap.size 253 #[.int .i64 48, .func (.func 371) #[] #[]] := by rw [← e2']; exact Blk.new _ _ _
  try rw [e2']
  have cL2 := cL W2 x2
  have z0 := (ext_blk x2 HB0.out).cell 0
  have f0 := (ext_blk x2 HB0.out).frozen 0
  have v0 := b2.cell 0
  have hq2 : w1.heap.size ≠ w.heap.size := by have := HB0.out.lt; have := x1.size; omega
  have HX2 := Lib.hid x2
  have HB2 := Lib.hid b2
  have HQ2 := Lib.hid hq2
  clear e2' cL x1 x2 b2 hq2
  go_upto_region 12 with (go_at_call 166; refine cL2.mono ?_; clear cL2; rintro e w3 ⟨rfl, rfl⟩)
  have HA1 : Hid (∃ k1, (if c = m then some ⟨g, k, none⟩ else some ⟨g, k + m, none⟩ : Option Addr) = some ⟨g, k1, none⟩ ∧ Reads w B 1 (some ⟨g, k1, none⟩) (N - m) (bv ((itsB l) ++ rest))) := Lib.hid (by
    have h := HRM.out
    have h2 := HM.out
    split at h
    · next hc => exact ⟨k, by rw [if_pos hc], h⟩
    · next hc =>
      refine ⟨k + m, by rw [if_neg hc], ?_⟩
      rw [Nat.mul_one] at h
      have e : (Addr.mk g k none).add m = ⟨g, k + m, none⟩ := by unfold Addr.add; rw [if_neg (by omega)]
      rw [Option.map_some, e] at h
      exact h)
  obtain ⟨k1, hk1, hrk⟩ := HA1.out
  rw [hk1]
  obtain ⟨q, hq⟩ : ∃ q, N - m = q := ⟨_, rfl⟩
  obtain ⟨cc, hcc⟩ : ∃ q, c - m = q := ⟨_, rfl⟩
  rw [hq] at hrk e8 ⊢
  rw [hcc]
  have hqn : q = n + rest.length := by have := HN.out; have := HM.out; omega
  have hqc : q ≤ cc := by have := HN.out; have := HM.out; omega
  have HQN := Lib.hid hqn
  have HQC := Lib.hid hqc
  have HRK := Lib.hid hrk
  have g1 : (n : Int) ≤ q := by omega
  have d8 : decide (q < n) = false := decide_eq_false (by omega)
  have g2 : (n : Int) ≤ cc := by omega
  have hrest : ∃ A', (if cc = n then some ⟨g, k1, none⟩ else some ⟨g, k1 + n, none⟩ : Option Addr) = A' ∧ Reads w B 1 A' (q - n) (bv rest) := by
    have h := hrk.cut (k := n) (cap := cc) (by omega) hqc
    have hd : (bv ((itsB l) ++ rest)).drop (n * 1) = bv rest := by
      rw [Nat.mul_one, bv_append, ← HLN.out, List.drop_append_of_le_length (by rw [bv_length]; exact Nat.le_refl _), List.drop_eq_nil_of_le (by rw [bv_length]; exact Nat.le_refl _), List.nil_append]
    rw [hd] at h
    have e : (some ⟨g, k1, none⟩ : Option Addr).map (·.add (n * 1)) = some ⟨g, k1 + n, none⟩ := by
      rw [Nat.mul_one, Option.map_some]
      congr 1
      unfold Addr.add
      split
      · next h0 => rw [h0]; rfl
      · rfl
    rw [e] at h
    exact ⟨_, rfl, h⟩
  obtain ⟨A', hA', hrr⟩ := hrest
  have HAR := Lib.hid hA'
  have HRR := Lib.hid hrr
  have hin : ∀ W, Ext w W → Reads W B 1 (some ⟨g, k1, none⟩) n (bv (itsB l)) := fun W x => by
    have h1 : Reads w B 1 (some ⟨g, k1, none⟩) n (bv (itsB l)) := by
      refine ⟨by rw [bv_length, HLN.out, Nat.mul_one], fun h0 => ?_⟩
      obtain ⟨ad, e, hb, hc⟩ := hrk.2 (by omega)
      refine ⟨ad, e, hb, fun j u hj => hc j u ?_⟩
      rw [bv_append, List.getElem?_append_left (by exact (List.getElem?_eq_some_iff.1 hj).1)]
      exact hj
    exact (h1.below (Below.mono x.out hB))
  have HIN := Lib.hid hin
  clear HA1 hk1 hrk hq hcc hqn hqc hA' hrr hin HRM HN HM
  go_upto_region 15 with (fail)
  go_region
  obtain ⟨W3, e3⟩ : ∃ W, W = (W2.setCell ⟨w.heap.size, 0, none⟩ (.int .i64 48)).drew := ⟨_, rfl⟩
  have b3 : Blk W3 w.heap.size 77 #[.int .i64 48, .slice none 0 0, .slice none 0 0] := by rw [e3]; exact (Blk.set_ (ext_blk HX2.out HB0.out) 0 _).drew
  have x3 : Ext w W3 := by rw [e3]; exact ((HX0.out.trans HX2.out).setCell (p := ⟨w.heap.size, 0, none⟩) (Nat.le_refl _) _).drew
  try rw [← e3]
  rw [HAR.out]
  have z0 := b3.cell 0
  have HB3 := Lib.hid b3
  have HX3 := Lib.hid x3
  have HI3 := Lib.hid (HIN.out W3 x3)
  clear e3 b3 x3 f0 v0 HIN
  have hlt3 : w.heap.size + 1 ≤ W3.heap.size := HB3.out.lt
  go_upto_region 21 with (fail)
  clear z0
  go_wp2
  go_loopg [5, 11] l.length (fun gm s5 s11 wr => s5 = .slice A' (q - n) (cc - n) ∧ ∃ (i : Nat) (Ai : Option Addr) (ci : Nat) (vL : Value) (vs : List ItV), i + gm = l.length ∧ Value.slice Ai (itsB (l.drop i)).length ci = s11 ∧ (itsB (l.drop i)).length ≤ ci ∧ Reads wr B 1 Ai (itsB (l.drop i)).length (bv (itsB (l.drop i))) ∧ GtS w wr l i vL vs)
  case atStart =>
    refine ⟨rfl, 0, _, _, .slice none 0 0, [], by omega, by rw [List.drop_zero, HLN.out], by rw [List.drop_zero, HLN.out]; have := HQC.out; have := HQN.out; omega, by rw [List.drop_zero, HLN.out]; exact HI3.out, HB3.out, World.ownsRow_nil _ _ _ _, by rw [List.take_zero, ItsS_nil], HX3.out⟩
  case round =>
    obtain ⟨rfl, i, Ai, ci, vL, vs, hgm, rfl, hci, hri, hgs⟩ := hrel
    obtain ⟨AL, cL, rfl, -, -⟩ := own_slice2 hgs.row
    by_cases h : i < l.length
    · obtain ⟨t, ht⟩ : ∃ s, l[i]? = some s := ⟨_, List.getElem?_eq_getElem h⟩
      have hdr : l.drop i = t :: l.drop (i + 1) := by rw [List.drop_eq_getElem_cons h]; congr 1; exact (List.getElem?_eq_some_iff.1 ht).2
      have htk : l.take (i + 1) = l.take i ++ [t] := by rw [List.take_add_one, ht]; rfl
      have hdi : itsB (l.drop i) = itB t ++ itsB (l.drop (i + 1)) := by rw [hdr, itsB_cons]
      have hML : (itsB (l.drop i)).length ≤ 8192 := by
        have h2 : itsB l = itsB (l.take i) ++ itsB (l.drop i) := by rw [← itsB_append, List.take_append_drop]
        have h3 := congrArg List.length h2
        rw [List.length_append, HLN.out] at h3
        omega
      obtain ⟨M, hM⟩ : ∃ M, (itsB (l.drop i)).length = M := ⟨_, rfl⟩
      have hMt : M = (itB t ++ itsB (l.drop (i + 1))).length := by rw [← hM, hdi]
      rw [hM] at hci hri hML ⊢
      rw [hdi] at hri
      have hM0 : 0 < M := by rw [hMt, List.length_append]; have := itB_pos t; omega
      have hMt2 := hMt
      rw [List.length_append] at hMt2
      obtain ⟨W1, e1'⟩ : ∃ W, wr.alloc (.cells #[.int .i64 0, .slice none 0 0, .slice none 0 0] 77) = W := ⟨_, rfl⟩
      have b1 : Blk W1 wr.heap.size 77 #[.int .i64 0, .slice none 0 0, .slice none 0 0] := by rw [← e1']; exact Blk.new _ _ _
      have x1 : Ext wr W1 := by rw [← e1']; exact (Ext.refl _).alloc _
      have s1 : W1.heap.size = wr.heap.size + 1 := by rw [← e1']; simp
      have hBr : B ≤ wr.heap.size := Nat.le_trans hB hgs.x.size
      have cG := HG0.out t (itsB (l.drop (i + 1))) Ai M ci B W1 (HOK.out t (List.mem_of_getElem? ht)) (by omega) hMt (by omega) hci (HK.out.ext (hgs.x.trans x1)) (Nat.le_trans hBr x1.size) (hri.below (Below.mono x1.out hBr))
      unfold itV at cG
      have g3 : (d : Int) - 1 = (d0 : Int) := by have := HD0.out; omega
      have g4 : (0 : Int) < M := by omega
      have HGS := Lib.hid hgs
      have HB1 := Lib.hid b1
      have HX1 := Lib.hid x1
      have HS1 := Lib.hid s1
      have HTK := Lib.hid htk
      have HGM := Lib.hid hgm
      have HBR := Lib.hid hBr
      have hiM : (i : Int) ≤ 100000 := by
        have : ∀ l : List It, l.length ≤ (itsB l).length := by
          intro l
          induction l with
          | nil => simp
          | cons t l ih => rw [itsB_cons, List.length_append, List.length_cons]; have := itB_pos t; omega
        have h1 := this l
        rw [HLN.out] at h1
        omega
      clear hgs b1 x1 s1 htk hgm hdi hMt hMt2 hri hdr ht hM hci hBr hML
      go_upto_region 23 with (fail)
      try rw [e1']
      clear e1'
      go_upto_region 24 with (go_at_call 82; refine cG.mono ?_; clear cG; rintro e w2 ⟨v, A2, c2, rfl, hv, hc2, hr2, x2⟩; have z3 := (ext_blk x2 HB1.out); have z0 := z3.cell 0; have z1 := z3.cell 1; have z2 := z3.cell 2; have f0 := z3.frozen 0; have f1 := z3.frozen 1; have f2 := z3.frozen 2)
      obtain ⟨W4, e4', b4, x4, k4, s4⟩ := item_put z3 (HX1.out.trans x2) (.int .i64 (v.tag : Int)) (.slice v.A v.n v.c) (.slice v.A2 v.n2 v.c2)
      rw [← e4']
      have hb0 := HGS.out.b0.below x4.out HGS.out.b0.lt
      have y0 := b4.cell 0
      have y1 := b4.cell 1
      have y2 := b4.cell 2
      have y3 := hb0.cell 2
      have hoR := (own_ext HGS.out.row x4).alloc (.cells #[.int .i64 (v.tag : Int), .slice v.A v.n v.c, .slice v.A2 v.n2 v.c2] 77)
      have hrN := reads_rows W4 77 [.int .i64 (v.tag : Int), .slice v.A v.n v.c, .slice v.A2 v.n2 v.c2]
      have hHs : w.heap.size + 1 ≤ (W4.alloc (.cells #[.int .i64 (v.tag : Int), .slice v.A v.n v.c, .slice v.A2 v.n2 v.c2] 77)).heap.size := by rw [World.size_alloc]; have := HGS.out.x.size; have := x4.size; omega
      have HS4 := Lib.hid s4
      have HK4 := Lib.hid k4
      clear e4' z0 z1 z2 z3 f0 f1 f2 s4 k4
      go_wp2_with (at_builtin; refine wpList_append_any _ rfl (.tmp 96) (.tmp 98) 75 rfl (w.heap.size + 1) 77 i0 (.agg #[.int .i64 0, .slice none 0 0, .slice none 0 0]) 3 56 Tryz.underlying75 hi hz0 hz1 hz2 rfl (by decide) _ i (itsV vs) rfl hoR _ _ 1 _ [.int .i64 (v.tag : Int), .slice v.A v.n v.c, .slice v.A2 v.n2 v.c2] rfl hrN (by simp [Value.oneCell']) (by simp only [maxLen]; omega) (by omega) hHs ?_; intro v6 w6 ho6 hg6 hb6; obtain ⟨A6, c6, rfl, -, -⟩ := own_slice2 ho6; have hb7 : Blk w6 w.heap.size 77 #[.int .i64 48, .slice none 0 0, .slice AL i cL] := Blk.grown (hb0.alloc _) hg6 (fun e => by have := own_ge HGS.out.row _ e.symm; omega); have z7 := hb7.cell 2; have f7 := hb7.frozen 2)
      obtain ⟨W7, e7'⟩ : ∃ W, W = w6.setCell ⟨w.heap.size, 2, none⟩ (.slice A6 (i + 1) c6) := ⟨_, rfl⟩
      have hgs := HGS.out
      have s4 := HS4.out
      have s1 := HS1.out
      have hlw : w.heap.size < wr.heap.size := hgs.b0.lt
      have hsz6 : (W4.alloc (.cells #[.int .i64 (v.tag : Int), .slice v.A v.n v.c, .slice v.A2 v.n2 v.c2] 77)).heap.size = W4.heap.size + 1 := World.size_alloc _ _
      have h67 : W7.heap.size = w6.heap.size := by rw [e7']; simp
      have h46 := hg6.size
      rw [hsz6] at h46
      have hx4 := x4.size
      have hx2 := x2.size
      -- a cell that no store and no row touches
      have hkp : ∀ p : Addr, p.block ≠ w.heap.size → p.block < W4.heap.size → (Value.slice AL i cL).ownBlock ≠ some p.block → W7.cell? p = W4.cell? p := fun p h1 h2 h3 => by
        rw [e7', World.cell?_setCell_other _ _ _ _ (fun e => h1 (by rw [← e]))]
        rw [World.cell?_of_block (hg6.block p.block (by rw [hsz6]; omega) (fun e => h3 e.symm))]
        exact World.cell?_alloc_lt _ _ _ h2
      have hnS : ∀ b, b < W4.heap.size → (Value.slice AL i cL).ownBlock ≠ some b → (Value.slice A6 (i + 1) c6).ownBlock ≠ some b := fun b h1 h2 e => by
        rcases hb6 with h | h
        · exact h2 (h ▸ e)
        · rw [h] at e
          cases e
          rw [hsz6] at h1
          omega
      have hvb : ∀ b, wr.heap.size ≤ b → (Value.slice AL i cL).ownBlock ≠ some b := fun b h1 e => by
        have := (hgs.row.lt b e).2
        omega
      have hrow : W7.ownsRow (w.heap.size + 1) 77 3 (.slice A6 (i + 1) c6) (i + 1) (itsV (vs ++ [v])) := by
        rw [e7', itsV_append]
        refine own_far ?_ (by omega) 2 (.slice A6 (i + 1) c6)
        have : itsV [v] = [.int .i64 (v.tag : Int), .slice v.A v.n v.c, .slice v.A2 v.n2 v.c2] := rfl
        rw [this]
        exact ho6
      have hgs7 : GtS w W7 l (i + 1) (.slice A6 (i + 1) c6) (vs ++ [v]) := by
        refine ⟨?_, hrow, ?_, ?_⟩
        · rw [e7']; exact Blk.set_ hb7 2 (.slice A6 (i + 1) c6)
        · rw [HTK.out]
          refine ItsS.append (hgs.ch.keep (fun p hp => ?_) (fun b hb => ⟨hb.1, by omega, hnS b (by omega) hb.2.2⟩)) (ItsS.one (hv.keep (fun p hp => ?_) (fun b hb => ⟨by omega, by omega, hnS b (by omega) (hvb b (by omega))⟩)))
          · rw [hkp p (by have := hp.1; omega) (by have := hp.2.1; omega) hp.2.2]
            exact x4.out.cell hp.2.1
          · rw [hkp p (by have := hp.1; omega) (by have := hp.2; omega) (hvb _ (by have := hp.1; omega))]
            exact HK4.out p (by have := hp.1; omega)
        · rw [e7']
          exact (ext_grown ((hgs.x.trans x4).alloc _) (own_base hoR (by omega)) hg6).setCell (p := ⟨w.heap.size, 2, none⟩) (Nat.le_refl _) _
      have hrB : Reads W7 B 1 A2 (itsB (l.drop (i + 1))).length (bv (itsB (l.drop (i + 1)))) := hr2.keep (fun p hp => by
        have h1 := HBR.out
        rw [hkp p (by omega) (by omega) (fun e => by have := own_ge hgs.row _ e; omega)]
        exact HK4.out p (by omega))
      try rw [← e7']
      clear e7' hkp hnS hvb hrow z7 f7
      go_roundg (gk - 1)
      case measure => have := HGM.out; omega
      case rel => exact ⟨rfl, i + 1, A2, c2, (.slice A6 (i + 1) c6), vs ++ [v], by have := HGM.out; omega, rfl, hc2, hrB, hgs7⟩
    · obtain rfl : i = l.length := by omega
      have hd0 : (itsB (l.drop l.length)).length = 0 := by rw [List.drop_length, itsB_nil]; rfl
      rw [hd0]
      have z3 := hgs.b0
      have z0 := z3.cell 0
      have z1 := z3.cell 1
      have z2 := z3.cell 2
      have f0 := z3.frozen 0
      have f1 := z3.frozen 1
      have f2 := z3.frozen 2
      have HGS := Lib.hid hgs
      clear hd0 hri hci z3 hgs
      go_wp2
      have hgs := HGS.out
      obtain ⟨W7, e7', b7, x7, k7, s7⟩ := item_put hgs.b0 hgs.x (.int .i64 48) (.slice none 0 0) (.slice AL l.length cL)
      rw [← e7']
      have hrow : W7.ownsRow (w.heap.size + 1) 77 3 (.slice AL l.length cL) l.length (itsV vs) := by rw [e7']; exact own_far (own_far (own_far hgs.row (by omega) 0 _) (by omega) 1 _) (by omega) 2 _
      have hch := hgs.ch
      rw [List.take_length] at hch
      have hch7 : ItsS W7 (fun b => w.heap.size ≤ b ∧ b < W7.heap.size) l vs := hch.keep (fun p hp => k7 p (by have := hp.1; omega)) (fun b hb => ⟨by omega, by rw [s7]; exact hb.2.1⟩)
      obtain ⟨_, _, hee, hcl, -⟩ := own_slice2 hrow
      cases hee
      clear e7' z0 z1 z2 f0 f1 f2
      have y0 := b7.cell 0
      have y1 := b7.cell 1
      have y2 := b7.cell 2
      have hqn := HQN.out
      have hqc := HQC.out
      have hrr := HRR.out.below (Below.mono x7.out hB)
      rw [show q - n = rest.length by omega] at hrr ⊢
      refine bodyPost_ret (v := .tuple #[.agg #[.int .i64 48, .slice none 0 0, .slice AL l.length cL], .slice A' rest.length (cc - n), .int .i64 0]) (by simp [results, Tryz.results82, go_sem, y0, y1, y2]) rfl ⟨⟨48, none, 0, 0, AL, l.length, cL⟩, A', cc - n, rfl, ?_, by omega, hrr, x7⟩
      rw [ItS_s]
      exact ⟨rfl, rfl, rfl, rfl, rfl, hcl, vs, RdS.of_own hrow (fun b h1 h2 _ => ⟨by omega, h2⟩), hch7⟩
theorem kind1_enters : Enters Tryz.prog 366 := enters_of Tryz.func366 (by kernel_rfl) rfl
theorem kind3_enters : Enters Tryz.prog 368 := enters_of Tryz.func368 (by kernel_rfl) rfl
theorem least_enters : Enters Tryz.prog 110 := enters_of Tryz.func110 (by kernel_rfl) rfl
theorem get_step {d : Nat} (hd : getP d) (h8 : d + 1 ≤ 8) : getP (d + 1) := by
  intro t rest A N c B w hok hl hN hm hc hk hB hr
  cases t with
  | p tag b =>
    have hbl : b.length ≤ 8192 := by rw [itB_p, List.length_append] at hl; omega
    rcases hok.2 with ⟨rfl, ho⟩ | ⟨rfl, ho⟩ | ⟨rfl, ho⟩
    · exact get_prim 1 366 kind1_enters (by decide) (by decide) b rest find_1 (fun W A c B h => kind1_r b ho A c B W h) hl (d + 1) (by omega) A N c hN hm hc w hk B hB hr
    · exact get_prim 2 110 least_enters (by decide) (by decide) b rest find_2 (fun W A c B h => by have := least_any b hok.1 (by omega) A c B W h; rwa [ho] at this) hl (d + 1) (by omega) A N c hN hm hc w hk B hB hr
    · exact get_prim 12 368 kind3_enters (by decide) (by decide) b rest find_12 (fun W A c B h => kind3_any b (by omega) ho A c B W h) hl (d + 1) (by omega) A N c hN hm hc w hk B hB hr
  | s l => exact get_seq hd l rest hok hl (d + 1) rfl (by omega) h8 A N c hN hm hc w hk B hB hr
theorem get_all : ∀ d : Nat, d ≤ 8 → getP d
  | 0, _ => fun t rest A N c B w h => h.elim
  | d + 1, h => get_step (get_all d (by omega)) h
set_option maxRecDepth 100000 in
set_option maxHeartbeats 2000000 in
theorem dGet_any (t : It) (A : Option Addr) (c B : Nat) (w : World) (hok : itOk 8 t) (hl : (itB t).length ≤ 8192) (hc : (itB t).length ≤ c) (hk : KindsW w) (hB : B ≤ w.heap.size) (hr : Reads w B 1 A (itB t).length (bv (itB t))) :
    Calls Tryz.prog 29 #[.slice A (itB t).length c, .int .i64 0] w fun e w' => ∃ v, e = .returned (.tuple #[itV v, .int .i64 ((itB t).length : Int), .int .i64 0]) ∧ ItW w' w'.heap.size t v ∧ Ext w w' := by
  obtain ⟨W0, e0⟩ : ∃ W, w.alloc (.cells #[.int .i64 0, .slice none 0 0, .slice none 0 0] 77) = W := ⟨_, rfl⟩
  have b0 : Blk W0 w.heap.size 77 #[.int .i64 0, .slice none 0 0, .slice none 0 0] := by rw [← e0]; exact Blk.new _ _ _
  have x0 : Ext w W0 := by rw [← e0]; exact (Ext.refl w).alloc _
  have hs0 : W0.heap.size = w.heap.size + 1 := by rw [← e0]; simp
  have hpos := itB_pos t
  have cG := get_all 8 (by decide) t [] A (itB t).length c B W0 hok hl (by simp) (by omega) hc (hk.ext x0) (Nat.le_trans hB x0.size) (by rw [List.append_nil]; exact hr.below (Below.mono x0.out hB))
  obtain ⟨N, hN⟩ : ∃ N, (itB t).length = N := ⟨_, rfl⟩
  rw [hN] at cG hc hpos hl ⊢
  obtain ⟨g, k, rfl, -, -⟩ := reads_form (hN ▸ hr) (by omega)
  have e1 : ¬ c = 0 := by omega
  have e2 : ¬ (N : Int) < 0 := by omega
  have e3 : (0 : Int) ≤ N := by omega
  have HB0 := Lib.hid b0
  have HX0 := Lib.hid x0
  have HS0 := Lib.hid hs0
  unfold itV at cG
  clear b0 x0 hk hr hB hok hN hs0
  go_enter Tryz.func29, Tryz.ntmps29
  go_upto_region 1 with (fail)
  try rw [e0]
  clear e0
  go_upto_region 4 with (go_at_call 82; refine cG.mono ?_; clear cG; rintro e w2 ⟨v, A2, c2, rfl, hv, hc2, hr2, x2⟩; have z3 := (ext_blk x2 HB0.out); have z0 := z3.cell 0; have z1 := z3.cell 1; have z2 := z3.cell 2; have f0 := z3.frozen 0; have f1 := z3.frozen 1; have f2 := z3.frozen 2)
  obtain ⟨W4, e4', b4, x4, k4, s4⟩ := item_put z3 (HX0.out.trans x2) (.int .i64 (v.tag : Int)) (.slice v.A v.n v.c) (.slice v.A2 v.n2 v.c2)
  rw [← e4']
  clear e4' z0 z1 z2 z3 f0 f1 f2
  have z0 := b4.cell 0
  have z1 := b4.cell 1
  have z2 := b4.cell 2
  have f0 := b4.frozen 0
  have f1 := b4.frozen 1
  have f2 := b4.frozen 2
  have HS4 := Lib.hid s4
  clear s4
  go_wp2
  obtain ⟨W7, e7, b7, x7, k7, s7⟩ := item_put b4 x4 (.int .i64 (v.tag : Int)) (.slice v.A v.n v.c) (.slice v.A2 v.n2 v.c2)
  rw [← e7]
  clear e7 z0 z1 z2 f0 f1 f2
  have y0 := b7.cell 0
  have y1 := b7.cell 1
  have y2 := b7.cell 2
  refine bodyPost_ret (v := .tuple #[.agg #[.int .i64 (v.tag : Int), .slice v.A v.n v.c, .slice v.A2 v.n2 v.c2], .int .i64 (N : Int), .int .i64 0]) (by simp [results, Tryz.results29, go_sem, y0, y1, y2]) rfl ⟨v, rfl, ?_, x7⟩
  have h0 := HS0.out
  have h4 := HS4.out
  exact (hv.keep (fun p hp => by rw [k7 p (by have := hp.1; omega), k4 p (by have := hp.1; omega)]) (fun b hb => hb)).itW (fun b hb => by rw [s7, h4]; exact hb.2)
end Go.Proofs.YtfpmfegmehbfbaaGreatDoor
