/- Parts of the proofs, put together: CtG1, CtG2, CtG3. -/
import Derived.Test.YtfpmfegmehbfbaaGreatDoorZ38
/- A certificate's readers, walked: must, in, next. -/
namespace Go.Proofs.YtfpmfegmehbfbaaGreatDoor
set_option linter.unusedVariables false
set_option linter.unusedSimpArgs false
set_option linter.unusedSimpArgs false
open Go.RowKit Go.Shelf Go.Maps

/-- A block that is not written to any more. -/
def Mut (P : List Nat) (w : World) (b : Nat) : Prop := b < w.heap.size ∧ b ∉ P
theorem mut_cell {w w' : World} {P : List Nat} {row : Option Nat} (g : w.grownBy w' row) (hr : ∀ q, row = some q → q ∈ P) (a : Addr) (h : Mut P w a.block) : w'.cell? a = w.cell? a :=
  World.cell?_of_block (g.block a.block h.1 (fun e => h.2 (hr _ e.symm)))
theorem KindsW.grown {w w' : World} {row : Option Nat} (h : KindsW w) (g : w.grownBy w' row) (hr : ∀ q, row = some q → q ≠ 2) : KindsW w' := by
  refine ⟨h.1, fun h0 => ?_⟩
  obtain ⟨ad, e, hb, hc⟩ := h.2 h0
  have hb2 : ad.block = 2 := by cases e; rfl
  exact ⟨ad, e, Nat.lt_of_lt_of_le hb g.size, fun j u hu => (World.cell?_of_block (by rw [block_of_add]; exact g.block _ hb (fun e => hr _ e.symm hb2.symm.symm))).trans (hc j u hu)⟩
/-- A reader of items, in its box. -/
structure RdrW (w : World) (P : List Nat) (p : Nat) (l : List It) : Prop where
  kd : KindsW w
  kg : 2 ∉ P
  pm : p ∈ P
  pl : ∀ b ∈ P, b < w.heap.size
  rd : ∃ A c vs, Blk w p 242 #[.slice A l.length c] ∧ l.length ≤ c ∧ RdS w (Mut P w) 3 A l.length (itsV vs) ∧ ItsS w (Mut P w) l vs
  ok : ∀ t ∈ l, itOk 8 t ∧ (itB t).length ≤ 8192
theorem kinds_lt {w : World} (h : KindsW w) : 2 < w.heap.size := by
  obtain ⟨ad, e, hb, hc⟩ := h.2 (by decide)
  cases e
  exact hb
theorem RdrW.to {w w' : World} {P P' : List Nat} {p : Nat} {l : List It} {row : Option Nat} (h : RdrW w P p l) (g : w.grownBy w' row) (hr : ∀ q, row = some q → q ∈ P ∧ q ≠ p) (hP : ∀ b ∈ P', b ∈ P ∨ (w.heap.size ≤ b ∧ b < w'.heap.size)) (hp : p ∈ P') : RdrW w' P' p l := by
  obtain ⟨A, c, vs, b0, hc, h1, h2⟩ := h.rd
  have hs := g.size
  have hm : ∀ b, Mut P w b → Mut P' w' b := fun b hb => ⟨Nat.lt_of_lt_of_le hb.1 hs, fun hb2 => by
    rcases hP b hb2 with h3 | h3
    · exact hb.2 h3
    · have := hb.1; omega⟩
  refine ⟨h.kd.grown g (fun q e e2 => h.kg (e2 ▸ (hr q e).1)), fun hk => ?_, hp, fun b hb => ?_, ⟨A, c, vs, Blk.grown b0 g (fun e => (hr p e.symm).2 rfl), hc, h1.keep (fun a ha => mut_cell g (fun q e => (hr q e).1) a ha) hm, h2.keep (fun a ha => mut_cell g (fun q e => (hr q e).1) a ha) hm⟩, h.ok⟩
  · rcases hP _ hk with h3 | h3
    · exact h.kg h3
    · have := kinds_lt h.kd; omega
  · rcases hP _ hb with h3 | h3
    · exact Nat.lt_of_lt_of_le (h.pl b h3) hs
    · exact h3.2
theorem RdrW.ext {w w' : World} {P : List Nat} {p : Nat} {l : List It} (h : RdrW w P p l) (x : Ext w w') : RdrW w' P p l :=
  h.to (row := none) ⟨x.out.os, x.out.tape, x.out.output, x.size, fun k hk _ => x.out.block k hk⟩ (fun q e => by cases e) (fun b hb => .inl hb) h.pm
theorem rds_form {w : World} {S : Nat → Prop} {size n : Nat} {A : Option Addr} {xs : List Value} (h : RdS w S size A n xs) (hn : 0 < n) (hs : 0 < size) : ∃ g k, A = some ⟨g, k, none⟩ ∧ S g ∧ ∀ j u, xs[j]? = some u → w.cell? ⟨g, k + j, none⟩ = some u := by
  obtain ⟨⟨g, k, s⟩, rfl, hb, hc⟩ := h.2 hn
  have hl : 0 < xs.length := by rw [h.1]; exact Nat.mul_pos hn hs
  have h0 := hc 0 _ (List.getElem?_eq_getElem hl)
  have e0 : (⟨g, k, s⟩ : Addr).add 0 = ⟨g, k, s⟩ := by simp [Addr.add]
  rw [e0] at h0
  have hs : s = none := World.cell?_spot h0
  subst hs
  refine ⟨g, k, rfl, hb, fun j u hj => ?_⟩
  have := hc j u hj
  unfold Addr.add at this
  split at this
  · next hj0 => rw [hj0, Nat.add_zero]; exact this
  · exact this
theorem itsV_len_of {w : World} {S : Nat → Prop} : ∀ {l : List It} {vs : List ItV}, ItsS w S l vs → (itsV vs).length = l.length * 3
  | [], _, h => by rw [ItsS_nil] at h; subst h; rfl
  | _ :: l, _, h => by
    rw [ItsS_cons] at h
    obtain ⟨v, vs', rfl, -, h3⟩ := h
    have := itsV_len_of h3
    rw [itsV_len] at this ⊢
    rw [List.length_cons, List.length_cons]
    omega
theorem itsV_cons (v : ItV) (vs : List ItV) : itsV (v :: vs) = itC v ++ itsV vs := rfl
theorem nxt_end {w w1 : World} {P : List Nat} {p g k c' : Nat} {t : It} {l : List It} {v : ItV} {vs : List ItV} {A' : Option Addr} (h : RdrW w P p (t :: l)) (hp : ∃ cs : Array Value, Blk w p 242 cs ∧ cs.size = 1)
    (hr : RdS w (Mut P w) 3 (some ⟨g, k, none⟩) (l.length + 1) (itsV (v :: vs))) (hvs : ItsS w (Mut P w) l vs) (x : Ext w w1) (hc : l.length ≤ c') (hA : 0 < l.length → A' = some ⟨g, k + 3, none⟩) :
    RdrW (w1.setCell ⟨p, 0, none⟩ (.slice A' l.length c')) P p l ∧ w.grownBy (w1.setCell ⟨p, 0, none⟩ (.slice A' l.length c')) (some p) := by
  have g1 : w.grownBy (w1.setCell ⟨p, 0, none⟩ (.slice A' l.length c')) (some p) :=
    ⟨x.out.os, x.out.tape, x.out.output, by rw [World.size_setCell]; exact x.size, fun b hb hb2 => (Below.heap_setCell w1 _ _ b (fun e => hb2 (by rw [show b = p from e]))).trans (x.out.block b hb)⟩
  refine ⟨⟨h.kd.grown g1 (fun q e e2 => ?_), h.kg, h.pm, fun b hb => Nat.lt_of_lt_of_le (h.pl b hb) g1.size, ⟨A', c', vs, ?_, hc, ?_, ?_⟩, fun t ht => h.ok t (List.mem_cons_of_mem _ ht)⟩, g1⟩
  · cases e
    exact h.kg (e2 ▸ h.pm)
  · obtain ⟨cs, hb, hcs⟩ := hp
    have := (ext_blk x hb).set_ 0 (.slice A' l.length c')
    match cs, hcs with
    | ⟨[a]⟩, _ => exact this
  · refine ⟨itsV_len_of hvs, fun hn => ?_⟩
    obtain ⟨ad, e, hb, hcl⟩ := hr.2 (by omega)
    cases e
    refine ⟨_, hA hn, ⟨Nat.lt_of_lt_of_le hb.1 g1.size, hb.2⟩, fun j u hu => ?_⟩
    have h3 := hcl (3 + j) u (by rw [itsV_cons, List.getElem?_append_right (by simp [itC])]; simpa [itC] using hu)
    rw [← add_of_add, show (⟨g, k, none⟩ : Addr).add 3 = ⟨g, k + 3, none⟩ by simp [Addr.add]] at h3
    rw [← h3]
    exact mut_cell g1 (fun q e => by cases e; exact h.pm) _ (by rw [block_of_add]; exact hb)
  · exact hvs.keep (fun a ha => mut_cell g1 (fun q e => by cases e; exact h.pm) a ha) (fun b hb => ⟨Nat.lt_of_lt_of_le hb.1 g1.size, hb.2⟩)
set_option maxRecDepth 100000 in
theorem must_any (w : World) : Calls Tryz.prog 149 #[.bool true] w fun e w' => e = .returned (.tuple #[]) ∧ w = w' := by
  go_enter Tryz.func149, Tryz.ntmps149
  go_wp2
  go_end0
  exact ⟨rfl, rfl⟩
set_option maxRecDepth 100000 in
theorem end_any (P : List Nat) (p : Nat) (w : World) (h : RdrW w P p []) : Calls Tryz.prog 153 #[.pointer (some ⟨p, 0, none⟩)] w fun e w' => e = .returned (.tuple #[]) ∧ w = w' := by
  obtain ⟨A, c, vs, b0, hc, -, -⟩ := h.rd
  have y0 := b0.cell 0
  have cM := must_any w
  clear h b0
  simp only [List.length_nil] at y0
  go_enter Tryz.func153, Tryz.ntmps153
  go_wp2_with (go_at_call 149; refine cM.mono ?_; clear cM; rintro e w1 ⟨rfl, rfl⟩)
  go_end0
  exact ⟨rfl, rfl⟩
set_option maxRecDepth 100000 in
set_option maxHeartbeats 4000000 in
theorem nextI_any (n : Nat) (hn : n < 9223372036854775808) (l : List It) (P : List Nat) (p : Nat) (w : World) (h : RdrW w P p (natT n :: l)) :
    Calls Tryz.prog 227 #[.pointer (some ⟨p, 0, none⟩), .func (.func 228) #[] #[]] w fun e w' => e = .returned (.int .i64 (n : Int)) ∧ RdrW w' P p l ∧ w.grownBy w' (some p) := by
  obtain ⟨A, c, vs, b0, hc, hr, hi⟩ := h.rd
  rw [ItsS_cons] at hi
  obtain ⟨v, vs', rfl, hv, hvs⟩ := hi
  have hok := h.ok _ (List.mem_cons_self ..)
  have hw := hv.itW (fun b hb => hb.1)
  have cA := asInt_any n hn v w hw h.kd
  have cM := must_any
  obtain ⟨g, k, rfl, hgS, hcl⟩ := rds_form hr (by rw [List.length_cons]; omega) (by decide)
  have k0 := hcl 0 (.int .i64 (v.tag : Int)) rfl
  have k1 := hcl 1 (.slice v.A v.n v.c) rfl
  have k2 := hcl 2 (.slice v.A2 v.n2 v.c2) rfl
  rw [Nat.add_zero] at k0
  have hH := h
  rw [List.length_cons] at b0 hc hr
  have HH := Lib.hid hH
  have HR := Lib.hid hr
  have HVS := Lib.hid hvs

  obtain ⟨N, hN⟩ : ∃ N, l.length + 1 = N := ⟨_, rfl⟩
  rw [hN] at b0 hc
  have y0 := b0.cell 0
  have f0 := b0.frozen 0
  have HB0 := Lib.hid b0
  have e1 : decide (0 < N) = true := by simp; omega
  have e2 : (1 : Int) ≤ N := by omega
  have hM : N - 1 = l.length := by omega
  unfold itV at cA
  clear h b0 hH hr hvs hv hw hok hgS hcl hN
  go_enter Tryz.func227, Tryz.ntmps227
  go_upto_region 4 with (first | (go_at_call 149; refine (cM _).mono ?_; rintro e w0 ⟨rfl, rfl⟩) | (go_at_call 228; refine cA.mono ?_; clear cA; rintro e w1 ⟨rfl, x1⟩; clear k0 k1 k2 y0 f0; have z3 := ext_blk x1 HB0.out; have y0 := z3.cell 0; have f0 := z3.frozen 0; clear z3))
  go_wp2
  all_goals (try rw [hM])
  all_goals go_ret
  · have hz := nxt_end HH.out ⟨_, HB0.out, rfl⟩ HR.out HVS.out x1 (A' := some ⟨g, k, none⟩) (c' := 0) (by omega) (fun h0 => by omega)
    exact ⟨rfl, hz.1, hz.2⟩
  · have hz := nxt_end HH.out ⟨_, HB0.out, rfl⟩ HR.out HVS.out x1 (A' := some ⟨g, k + 3, none⟩) (c' := c - 1) (by omega) (fun _ => rfl)
    exact ⟨rfl, hz.1, hz.2⟩
set_option maxRecDepth 100000 in
set_option maxHeartbeats 4000000 in
theorem nextT_any (s : ByteArray) (hs : putC s) (l : List It) (P : List Nat) (p : Nat) (w : World) (h : RdrW w P p (txtT s :: l)) :
    Calls Tryz.prog 160 #[.pointer (some ⟨p, 0, none⟩), .func (.func 161) #[] #[]] w fun e w' => e = .returned (.string s) ∧ RdrW w' P p l ∧ w.grownBy w' (some p) := by
  obtain ⟨A, c, vs, b0, hc, hr, hi⟩ := h.rd
  rw [ItsS_cons] at hi
  obtain ⟨v, vs', rfl, hv, hvs⟩ := hi
  have hok := h.ok _ (List.mem_cons_self ..)
  have hw := hv.itW (fun b hb => hb.1)
  have cA := asText_any s hs v w hw h.kd
  have cM := must_any
  obtain ⟨g, k, rfl, hgS, hcl⟩ := rds_form hr (by rw [List.length_cons]; omega) (by decide)
  have k0 := hcl 0 (.int .i64 (v.tag : Int)) rfl
  have k1 := hcl 1 (.slice v.A v.n v.c) rfl
  have k2 := hcl 2 (.slice v.A2 v.n2 v.c2) rfl
  rw [Nat.add_zero] at k0
  have hH := h
  rw [List.length_cons] at b0 hc hr
  have HH := Lib.hid hH
  have HR := Lib.hid hr
  have HVS := Lib.hid hvs

  obtain ⟨N, hN⟩ : ∃ N, l.length + 1 = N := ⟨_, rfl⟩
  rw [hN] at b0 hc
  have y0 := b0.cell 0
  have f0 := b0.frozen 0
  have HB0 := Lib.hid b0
  have e1 : decide (0 < N) = true := by simp; omega
  have e2 : (1 : Int) ≤ N := by omega
  have hM : N - 1 = l.length := by omega
  unfold itV at cA
  clear h b0 hH hr hvs hv hw hok hgS hcl hN
  go_enter Tryz.func160, Tryz.ntmps160
  go_upto_region 4 with (first | (go_at_call 149; refine (cM _).mono ?_; rintro e w0 ⟨rfl, rfl⟩) | (go_at_call 161; refine cA.mono ?_; clear cA; rintro e w1 ⟨rfl, x1⟩; clear k0 k1 k2 y0 f0; have z3 := ext_blk x1 HB0.out; have y0 := z3.cell 0; have f0 := z3.frozen 0; clear z3))
  go_wp2
  all_goals (try rw [hM])
  all_goals go_ret
  · have hz := nxt_end HH.out ⟨_, HB0.out, rfl⟩ HR.out HVS.out x1 (A' := some ⟨g, k, none⟩) (c' := 0) (by omega) (fun h0 => by omega)
    exact ⟨rfl, hz.1, hz.2⟩
  · have hz := nxt_end HH.out ⟨_, HB0.out, rfl⟩ HR.out HVS.out x1 (A' := some ⟨g, k + 3, none⟩) (c' := c - 1) (by omega) (fun _ => rfl)
    exact ⟨rfl, hz.1, hz.2⟩
set_option maxRecDepth 100000 in
set_option maxHeartbeats 4000000 in
theorem nextB_any (b : Bool) (l : List It) (P : List Nat) (p : Nat) (w : World) (h : RdrW w P p (boolT b :: l)) :
    Calls Tryz.prog 163 #[.pointer (some ⟨p, 0, none⟩), .func (.func 164) #[] #[]] w fun e w' => e = .returned (.bool b) ∧ RdrW w' P p l ∧ w.grownBy w' (some p) := by
  obtain ⟨A, c, vs, b0, hc, hr, hi⟩ := h.rd
  rw [ItsS_cons] at hi
  obtain ⟨v, vs', rfl, hv, hvs⟩ := hi
  have hok := h.ok _ (List.mem_cons_self ..)
  have hw := hv.itW (fun b hb => hb.1)
  have cA := asBool_any b v w hw h.kd
  have cM := must_any
  obtain ⟨g, k, rfl, hgS, hcl⟩ := rds_form hr (by rw [List.length_cons]; omega) (by decide)
  have k0 := hcl 0 (.int .i64 (v.tag : Int)) rfl
  have k1 := hcl 1 (.slice v.A v.n v.c) rfl
  have k2 := hcl 2 (.slice v.A2 v.n2 v.c2) rfl
  rw [Nat.add_zero] at k0
  have hH := h
  rw [List.length_cons] at b0 hc hr
  have HH := Lib.hid hH
  have HR := Lib.hid hr
  have HVS := Lib.hid hvs

  obtain ⟨N, hN⟩ : ∃ N, l.length + 1 = N := ⟨_, rfl⟩
  rw [hN] at b0 hc
  have y0 := b0.cell 0
  have f0 := b0.frozen 0
  have HB0 := Lib.hid b0
  have e1 : decide (0 < N) = true := by simp; omega
  have e2 : (1 : Int) ≤ N := by omega
  have hM : N - 1 = l.length := by omega
  unfold itV at cA
  clear h b0 hH hr hvs hv hw hok hgS hcl hN
  go_enter Tryz.func163, Tryz.ntmps163
  go_upto_region 4 with (first | (go_at_call 149; refine (cM _).mono ?_; rintro e w0 ⟨rfl, rfl⟩) | (go_at_call 164; refine cA.mono ?_; clear cA; rintro e w1 ⟨rfl, x1⟩; clear k0 k1 k2 y0 f0; have z3 := ext_blk x1 HB0.out; have y0 := z3.cell 0; have f0 := z3.frozen 0; clear z3))
  go_wp2
  all_goals (try rw [hM])
  all_goals go_ret
  · have hz := nxt_end HH.out ⟨_, HB0.out, rfl⟩ HR.out HVS.out x1 (A' := some ⟨g, k, none⟩) (c' := 0) (by omega) (fun h0 => by omega)
    exact ⟨rfl, hz.1, hz.2⟩
  · have hz := nxt_end HH.out ⟨_, HB0.out, rfl⟩ HR.out HVS.out x1 (A' := some ⟨g, k + 3, none⟩) (c' := c - 1) (by omega) (fun _ => rfl)
    exact ⟨rfl, hz.1, hz.2⟩
set_option maxRecDepth 100000 in
set_option maxHeartbeats 4000000 in
theorem nextS_any (l0 : List It) (l : List It) (P : List Nat) (p : Nat) (w : World) (h : RdrW w P p (.s l0 :: l)) :
    Calls Tryz.prog 226 #[.pointer (some ⟨p, 0, none⟩), .func (.func 225) #[] #[]] w fun e w' => ∃ A c, e = .returned (.slice A l0.length c) ∧ l0.length ≤ c ∧ ∃ vs, RdS w' (Mut P w') 3 A l0.length (itsV vs) ∧ ItsS w' (Mut P w') l0 vs ∧ RdrW w' P p l ∧ w.grownBy w' (some p) := by
  obtain ⟨A, c, vs, b0, hc, hr, hi⟩ := h.rd
  rw [ItsS_cons] at hi
  obtain ⟨v, vs', rfl, hv, hvs⟩ := hi
  have hok := h.ok _ (List.mem_cons_self ..)
  have hw := hv.itW (fun b hb => hb.1)
  rw [ItS_s] at hv
  obtain ⟨-, -, -, -, -, -, vs0, hr0, hi0⟩ := hv
  have cA := asSeq_any l0 hok.1 hok.2 vs0 v w hw (hr0.reads (fun b hb => hb.1)) h.kd
  have cM := must_any
  obtain ⟨g, k, rfl, hgS, hcl⟩ := rds_form hr (by rw [List.length_cons]; omega) (by decide)
  have k0 := hcl 0 (.int .i64 (v.tag : Int)) rfl
  have k1 := hcl 1 (.slice v.A v.n v.c) rfl
  have k2 := hcl 2 (.slice v.A2 v.n2 v.c2) rfl
  rw [Nat.add_zero] at k0
  have hH := h
  rw [List.length_cons] at b0 hc hr
  have HH := Lib.hid hH
  have HR := Lib.hid hr
  have HVS := Lib.hid hvs
  have HI0 := Lib.hid hi0
  obtain ⟨N, hN⟩ : ∃ N, l.length + 1 = N := ⟨_, rfl⟩
  rw [hN] at b0 hc
  have y0 := b0.cell 0
  have f0 := b0.frozen 0
  have HB0 := Lib.hid b0
  have e1 : decide (0 < N) = true := by simp; omega
  have e2 : (1 : Int) ≤ N := by omega
  have hM : N - 1 = l.length := by omega
  unfold itV at cA
  clear h b0 hH hr hvs hw hok hgS hcl hN hr0 hi0
  go_enter Tryz.func226, Tryz.ntmps226
  go_upto_region 4 with (first | (go_at_call 149; refine (cM _).mono ?_; rintro e w0 ⟨rfl, rfl⟩) | (go_at_call 225; refine cA.mono ?_; clear cA; rintro e w1 ⟨A5, c5, rfl, hc5, hr5, x1⟩; clear k0 k1 k2 y0 f0; have z3 := ext_blk x1 HB0.out; have y0 := z3.cell 0; have f0 := z3.frozen 0; clear z3))
  go_wp2
  all_goals (try rw [hM])
  all_goals go_ret
  · have hz := nxt_end HH.out ⟨_, HB0.out, rfl⟩ HR.out HVS.out x1 (A' := some ⟨g, k, none⟩) (c' := 0) (by omega) (fun h0 => by omega)
    refine ⟨A5, c5, rfl, hc5, vs0, hr5.keep (fun a ha => ?_) (fun b hb => ?_), HI0.out.keep (fun a ha => mut_cell hz.2 (fun q e => by cases e; exact HH.out.pm) a ha) (fun b hb => ⟨Nat.lt_of_lt_of_le hb.1 hz.2.size, hb.2⟩), hz.1, hz.2⟩
    · refine World.cell?_of_block (Below.heap_setCell w1 _ _ _ (fun e => ?_))
      have h1 := HH.out.pl p HH.out.pm
      have h2 : a.block = p := e
      have h3 := ha.1
      omega
    · exact ⟨by rw [World.size_setCell]; exact hb.2, fun e => by have h1 := HH.out.pl b e; have h2 := hb.1; omega⟩
  · have hz := nxt_end HH.out ⟨_, HB0.out, rfl⟩ HR.out HVS.out x1 (A' := some ⟨g, k + 3, none⟩) (c' := c - 1) (by omega) (fun _ => rfl)
    refine ⟨A5, c5, rfl, hc5, vs0, hr5.keep (fun a ha => ?_) (fun b hb => ?_), HI0.out.keep (fun a ha => mut_cell hz.2 (fun q e => by cases e; exact HH.out.pm) a ha) (fun b hb => ⟨Nat.lt_of_lt_of_le hb.1 hz.2.size, hb.2⟩), hz.1, hz.2⟩
    · refine World.cell?_of_block (Below.heap_setCell w1 _ _ _ (fun e => ?_))
      have h1 := HH.out.pl p HH.out.pm
      have h2 : a.block = p := e
      have h3 := ha.1
      omega
    · exact ⟨by rw [World.size_setCell]; exact hb.2, fun e => by have h1 := HH.out.pl b e; have h2 := hb.1; omega⟩
end Go.Proofs.YtfpmfegmehbfbaaGreatDoor

/- A certificate's readers, walked: in, count, big, sub, texts. -/
namespace Go.Proofs.YtfpmfegmehbfbaaGreatDoor
set_option linter.unusedVariables false
set_option linter.unusedSimpArgs false
set_option linter.unusedSimpArgs false
open Go.RowKit Go.Shelf Go.Maps

mutual
theorem ItW.itS {w : World} {B : Nat} : ∀ {t : It} {v : ItV}, ItW w B t v → ItS w (fun b => b < B) t v
  | .p _ _, _, h => by
    rw [ItW_p] at h
    rw [ItS_p]
    exact ⟨h.1, h.2.1, h.2.2.1, ⟨h.2.2.2.1.1, h.2.2.2.1.2⟩, h.2.2.2.2⟩
  | .s _, _, h => by
    rw [ItW_s] at h
    rw [ItS_s]
    obtain ⟨h1, h2, h3, h4, h5, h6, vs, h7, h8⟩ := h
    exact ⟨h1, h2, h3, h4, h5, h6, vs, ⟨h7.1, h7.2⟩, ItsW.itsS h8⟩
theorem ItsW.itsS {w : World} {B : Nat} : ∀ {l : List It} {vs : List ItV}, ItsW w B l vs → ItsS w (fun b => b < B) l vs
  | [], _, h => by
    rw [ItsW_nil] at h
    rw [ItsS_nil]
    exact h
  | _ :: _, _, h => by
    rw [ItsW_cons] at h
    rw [ItsS_cons]
    obtain ⟨v, vs', h1, h2, h3⟩ := h
    exact ⟨v, vs', h1, ItW.itS h2, ItsW.itsS h3⟩
end
theorem kid_ok {l : List It} (hok : itOk 8 (.s l)) (hl : (itB (.s l)).length ≤ 8192) : ∀ t ∈ l, itOk 8 t ∧ (itB t).length ≤ 8192 := fun t ht => by
  refine ⟨itOk_up (hok t ht), ?_⟩
  have h2 : ∀ l : List It, t ∈ l → (itB t).length ≤ (itsB l).length := by
    intro l
    induction l with
    | nil => intro h; cases h
    | cons u l ih =>
      intro h
      rw [itsB_cons, List.length_append]
      rcases List.mem_cons.1 h with rfl | h
      · omega
      · have := ih h; omega
  rw [itB_s, List.length_append] at hl
  have := h2 l ht
  omega
/-- A new reader in its box. -/
theorem rdr_new {w1 : World} {P : List Nat} {A : Option Addr} {c : Nat} {l : List It} {vs : List ItV} (hk : KindsW w1) (hg : 2 ∉ P) (hl : ∀ b ∈ P, b < w1.heap.size) (hc : l.length ≤ c) (hr : RdS w1 (Mut P w1) 3 A l.length (itsV vs)) (hi : ItsS w1 (Mut P w1) l vs) (ho : ∀ t ∈ l, itOk 8 t ∧ (itB t).length ≤ 8192) :
    RdrW (w1.alloc (.cells #[.slice A l.length c] 242)) (w1.heap.size :: P) w1.heap.size l := by
  have x : Ext w1 (w1.alloc (.cells #[.slice A l.length c] 242)) := (Ext.refl w1).alloc _
  have hm : ∀ b, Mut P w1 b → Mut (w1.heap.size :: P) (w1.alloc (.cells #[.slice A l.length c] 242)) b := fun b hb => ⟨Nat.lt_of_lt_of_le hb.1 x.size, fun e => by
    rcases List.mem_cons.1 e with h | h
    · have := hb.1; omega
    · exact hb.2 h⟩
  have hs : (w1.alloc (.cells #[.slice A l.length c] 242)).heap.size = w1.heap.size + 1 := World.size_alloc _ _
  refine ⟨hk.ext x, fun e => ?_, List.mem_cons_self .., fun b hb => ?_, ⟨A, c, vs, Blk.new _ _ _, hc, hr.keep (fun a ha => x.out.cell ha.1) hm, hi.keep (fun a ha => x.out.cell ha.1) hm⟩, ho⟩
  · rcases List.mem_cons.1 e with h | h
    · have := kinds_lt hk; omega
    · exact hg h
  · rw [hs]
    rcases List.mem_cons.1 hb with h | h
    · omega
    · have := hl b h; omega
set_option maxRecDepth 100000 in
set_option maxHeartbeats 4000000 in
theorem in_any (l : List It) (hok : itOk 8 (.s l)) (hl : (itB (.s l)).length ≤ 8192) (v : ItV) (w : World) (hw : ItW w w.heap.size (.s l) v) (hk : KindsW w) :
    Calls Tryz.prog 150 #[itV v] w fun e w' => ∃ q, e = .returned (.pointer (some ⟨q, 0, none⟩)) ∧ w.heap.size ≤ q ∧ RdrW w' [q] q l ∧ Ext w w' := by
  obtain ⟨W0, e0⟩ : ∃ W, w.alloc (.cells #[.int .i64 (v.tag : Int), .slice v.A v.n v.c, .slice v.A2 v.n2 v.c2] 77) = W := ⟨_, rfl⟩
  have b0 : Blk W0 w.heap.size 77 #[.int .i64 (v.tag : Int), .slice v.A v.n v.c, .slice v.A2 v.n2 v.c2] := by rw [← e0]; exact Blk.new _ _ _
  have x0 : Ext w W0 := by rw [← e0]; exact (Ext.refl w).alloc _
  have hv := (hw.ext x0).itS
  rw [ItS_s] at hv
  obtain ⟨-, -, -, -, -, -, vs, hr, hi⟩ := hv
  have c1 := asSeq_any l hok hl vs v W0 (hw.ext x0) ⟨hr.1, hr.2⟩ (hk.ext x0)
  have cM := must_any
  unfold itV at c1 ⊢
  have y0 := b0.cell 0
  have y1 := b0.cell 1
  have y2 := b0.cell 2
  have HX0 := Lib.hid x0
  have HK := Lib.hid (hk.ext x0)
  have HI := Lib.hid hi
  have HO := Lib.hid (kid_ok hok hl)
  clear b0 x0 hw hk hr hi hok hl
  go_enter Tryz.func150, Tryz.ntmps150
  go_upto_region 1 with (fail)
  try rw [e0]
  clear e0
  go_wp2_with (first | (go_at_call 149; refine (cM _).mono ?_; rintro e w9 ⟨rfl, rfl⟩) | (go_at_call 225; refine c1.mono ?_; clear c1; rintro e w2 ⟨A5, c5, rfl, hc5, hr5, x2⟩))
  go_ret
  have hz := rdr_new (HK.out.ext x2) (P := []) (by simp) (by simp) hc5 (hr5.keep (fun _ _ => rfl) (fun b hb => ⟨hb.2, by simp⟩)) (HI.out.keep (fun a ha => x2.out.cell ha) (fun b hb => ⟨Nat.lt_of_lt_of_le hb x2.size, by simp⟩)) HO.out
  exact ⟨w2.heap.size, rfl, (HX0.out.trans x2).size, hz, (HX0.out.trans x2).alloc _⟩
set_option maxRecDepth 100000 in
set_option maxHeartbeats 2000000 in
theorem count_any (n : Nat) (hn : n < 9223372036854775808) (l : List It) (P : List Nat) (p : Nat) (w : World) (h : RdrW w P p (natT n :: l)) :
    Calls Tryz.prog 156 #[.pointer (some ⟨p, 0, none⟩)] w fun e w' => e = .returned (.int .i64 (n : Int)) ∧ RdrW w' P p l ∧ w.grownBy w' (some p) := by
  have c1 := nextI_any n hn l P p w h
  have cM := must_any
  have e1 : (0 : Int) ≤ n := by omega
  clear h
  go_enter Tryz.func156, Tryz.ntmps156
  go_wp2_with (first | (go_at_call 149; refine (cM _).mono ?_; rintro e w9 ⟨rfl, rfl⟩) | (go_at_call 227; refine c1.mono ?_; clear c1; rintro e w2 ⟨rfl, h2⟩))
  go_ret
  exact ⟨rfl, h2⟩
set_option maxRecDepth 100000 in
set_option maxHeartbeats 2000000 in
theorem rbig_any (n : Nat) (hn : n < 9223372036854775808) (l : List It) (P : List Nat) (p : Nat) (w : World) (h : RdrW w P p (natT n :: l)) :
    Calls Tryz.prog 152 #[.pointer (some ⟨p, 0, none⟩)] w fun e w' => e = .returned (.int .u64 (n : Int)) ∧ RdrW w' P p l ∧ w.grownBy w' (some p) := by
  have c1 := count_any n hn l P p w h
  have hwr : IntKind.u64.wrap (n : Int) = n := by
    rw [IntKind.wrap_u64]; omega
  clear h
  go_enter Tryz.func152, Tryz.ntmps152
  go_wp2_with (go_at_call 156; refine c1.mono ?_; clear c1; rintro e w2 ⟨rfl, h2⟩)
  go_ret
  exact ⟨rfl, h2⟩
set_option maxRecDepth 100000 in
set_option maxHeartbeats 2000000 in
theorem sub_any (l0 l : List It) (P : List Nat) (p : Nat) (w : World) (h : RdrW w P p (.s l0 :: l)) :
    Calls Tryz.prog 151 #[.pointer (some ⟨p, 0, none⟩)] w fun e w' => ∃ q, e = .returned (.pointer (some ⟨q, 0, none⟩)) ∧ w.heap.size ≤ q ∧ q < w'.heap.size ∧ RdrW w' (q :: P) q l0 ∧ RdrW w' (q :: P) p l ∧ w.grownBy w' (some p) := by
  have c1 := nextS_any l0 l P p w h
  have hok := h.ok _ (List.mem_cons_self ..)
  have HO := Lib.hid (kid_ok hok.1 hok.2)
  clear h hok
  go_enter Tryz.func151, Tryz.ntmps151
  go_wp2_with (go_at_call 226; refine c1.mono ?_; clear c1; rintro e w2 ⟨A5, c5, rfl, hc5, vs, hr5, hi5, h5, g5⟩)
  go_ret
  have hz := rdr_new h5.kd h5.kg h5.pl hc5 hr5 hi5 HO.out
  have hs : (w2.alloc (.cells #[.slice A5 l0.length c5] 242)).heap.size = w2.heap.size + 1 := World.size_alloc _ _
  have ga : w2.grownBy (w2.alloc (.cells #[.slice A5 l0.length c5] 242)) (some p) := World.grownBy_alloc _ _ _
  have gn : w2.grownBy (w2.alloc (.cells #[.slice A5 l0.length c5] 242)) none := World.grownBy_alloc _ _ _
  exact ⟨w2.heap.size, rfl, g5.size, by omega, hz, h5.to gn (fun q e => by cases e) (fun b hb => by
    rcases List.mem_cons.1 hb with e | e
    · exact .inr ⟨by omega, by omega⟩
    · exact .inl e) (List.mem_cons_of_mem _ h5.pm), g5.trans ga⟩
end Go.Proofs.YtfpmfegmehbfbaaGreatDoor

/- A certificate's readers, walked: texts. -/
namespace Go.Proofs.YtfpmfegmehbfbaaGreatDoor
set_option linter.unusedVariables false
set_option linter.unusedSimpArgs false
set_option linter.unusedSimpArgs false
open Go.RowKit Go.Shelf Go.Maps

theorem Tryz.infoStrG : (Tryz.prog.info? 9).map (fun i => (i.zero, i.size, i.bytes)) = some (some (.string ⟨#[]⟩), 1, 16) := by kernel_rfl
/-- Some of a reader's items are read, into a row. -/
structure TxS (w2 wr : World) (P : List Nat) (q : Nat) (T : TypeId) (sz : Nat) (todo : List It) (n : Nat) (AL : Option Addr) (cL : Nat) (xs : List Value) : Prop where
  rd : RdrW wr ((Value.slice AL n cL).ownBlock.toList ++ q :: P) q todo
  row : wr.ownsRow w2.heap.size T sz (.slice AL n cL) n xs
  g : w2.grownBy wr (some q)
  qlt : q < w2.heap.size
theorem TxS.step {w2 wr w3 W6 : World} {P : List Nat} {q sz : Nat} {T : TypeId} {todo todo' : List It} {n n' : Nat} {AL A6 : Option Addr} {cL c6 : Nat} {xs ys : List Value} {o : Obj} (h : TxS w2 wr P q T sz todo n AL cL xs)
    (h3 : RdrW w3 ((Value.slice AL n cL).ownBlock.toList ++ q :: P) q todo') (g3 : wr.grownBy w3 (some q)) (ho : W6.ownsRow w2.heap.size T sz (.slice A6 n' c6) n' ys) (hg : (w3.alloc o).grownBy W6 (Value.slice AL n cL).ownBlock)
    (hb : (Value.slice A6 n' c6).ownBlock = (Value.slice AL n cL).ownBlock ∨ (Value.slice A6 n' c6).ownBlock = some (w3.alloc o).heap.size) : TxS w2 W6 P q T sz todo' n' A6 c6 ys := by
  have ga : w3.grownBy (w3.alloc o) none := World.grownBy_alloc _ _ _
  have gq : w3.grownBy (w3.alloc o) (some q) := World.grownBy_alloc _ _ _
  have h4 := h3.to ga (fun q e => by cases e) (fun b hb => .inl hb) h3.pm
  have hge := own_ge h.row
  refine ⟨h4.to hg (fun k e => ⟨List.mem_append_left _ (by rw [e]; simp), fun e2 => ?_⟩) (fun b hb2 => ?_) (List.mem_append_right _ (List.mem_cons_self ..)), ho, ((h.g.trans g3).trans gq).andThen hg (fun j e => .inl (hge j e)), h.qlt⟩
  · have := hge k e
    have := h.qlt
    omega
  · rcases List.mem_append.1 hb2 with h5 | h5
    · rcases hb with h6 | h6
      · rw [h6] at h5
        exact .inl (List.mem_append_left _ h5)
      · have h7 := ho.lt _ h6
        rw [h6] at h5
        simp at h5
        subst h5
        have h8 := h7.2
        rw [World.size_alloc] at h8
        exact .inr ⟨by rw [World.size_alloc]; exact Nat.le_refl _, h8⟩
    · exact .inl (List.mem_append_right _ h5)
theorem TxS.own {w2 wr w3 : World} {P : List Nat} {q sz : Nat} {T : TypeId} {todo : List It} {n : Nat} {AL : Option Addr} {cL : Nat} {xs : List Value} (h : TxS w2 wr P q T sz todo n AL cL xs) (g3 : wr.grownBy w3 (some q)) : w3.ownsRow w2.heap.size T sz (.slice AL n cL) n xs :=
  h.row.kept g3 (.inr (fun e => by have := own_ge h.row _ e; have := h.qlt; omega))
set_option maxRecDepth 100000 in
set_option maxHeartbeats 8000000 in
theorem texts_any (ss : List ByteArray) (hs : ∀ s ∈ ss, putC s) (hn : ss.length ≤ 1000) (l : List It) (P : List Nat) (p : Nat) (w : World) (h : RdrW w P p (.s (ss.map txtT) :: l)) :
    Calls Tryz.prog 162 #[.pointer (some ⟨p, 0, none⟩)] w fun e w' => ∃ A c, e = .returned (.slice A ss.length c) ∧ ss.length ≤ c ∧ RdS w' (fun b => w.heap.size ≤ b ∧ Mut P w' b) 1 A ss.length (ss.map .string) ∧ RdrW w' P p l ∧ w.grownBy w' (some p) := by
  obtain ⟨i0, hi, hz0, hz1, hz2⟩ := info_parts Tryz.infoStrG
  have c1 := sub_any (ss.map txtT) l P p w h
  have hpl := h.pl p h.pm
  have HPL := Lib.hid h.pl
  have HPM := Lib.hid h.pm
  have HS := Lib.hid hs
  have HN := Lib.hid hn
  clear h hs hn
  go_enter Tryz.func162, Tryz.ntmps162
  go_upto_region 3 with (go_at_call 151; refine c1.mono ?_; clear c1; rintro e w2 ⟨q, rfl, hq1, hq2, hrq, hrp, g2⟩)
  have hx0 : TxS w2 w2 P q 9 1 (ss.map txtT) 0 none 0 [] := ⟨hrq, World.ownsRow_nil _ _ _ _, ⟨rfl, rfl, rfl, Nat.le_refl _, fun _ _ _ => rfl⟩, hq2⟩
  have HRP := Lib.hid hrp
  have HG2 := Lib.hid g2
  have HX := Lib.hid hx0
  have HQ1 := Lib.hid hq1
  have HPL2 := Lib.hid hpl
  clear hrq hrp g2 hx0 hpl hq1
  go_loopg [3] ss.length (fun gm s3 wr => ∃ (j : Nat) (AL : Option Addr) (cL : Nat), j + gm = ss.length ∧ s3 = .slice AL j cL ∧ TxS w2 wr P q 9 1 ((ss.drop j).map txtT) j AL cL ((ss.take j).map .string))
  case atStart => exact ⟨0, none, 0, by omega, rfl, HX.out⟩
  case round =>
    obtain ⟨j, AL, cL, hj, rfl, hx⟩ := hrel
    have hjb : (j : Int) ≤ 1000 := by have := HN.out; omega
    obtain ⟨A, c, vs, b0, -, -, -⟩ := hx.rd.rd
    by_cases h : j < ss.length
    · obtain ⟨s, hsj⟩ : ∃ s, ss[j]? = some s := ⟨_, List.getElem?_eq_getElem h⟩
      have hd : ss.drop j = s :: ss.drop (j + 1) := by
        rw [List.drop_eq_getElem_cons h]
        rw [List.getElem?_eq_getElem h] at hsj
        injection hsj with e
        rw [e]
      have htk : (ss.take (j + 1)).map Value.string = (ss.take j).map .string ++ [.string s] := by rw [List.take_add_one, hsj]; simp
      have cN := nextT_any s (HS.out s (List.mem_of_getElem? hsj)) ((ss.drop (j + 1)).map txtT) _ q wr (by have := hx.rd; rw [hd] at this; exact this)
      obtain ⟨M, hM⟩ : ∃ M, ((ss.drop j).map txtT).length = M := ⟨_, rfl⟩
      rw [hM] at b0
      have e1 : decide (0 < M) = true := by
        rw [List.length_map, List.length_drop] at hM
        simp
        omega
      have y0 := b0.cell 0
      have HJ := Lib.hid hj
      have HT := Lib.hid htk
      have HXX := Lib.hid hx
      have hjn : j < ss.length := h
      clear b0 hM hd htk hsj hx hj h
      go_wp2_with (first | (go_at_call 160; refine cN.mono ?_; clear cN; rintro e w3 ⟨rfl, h3, g3⟩; have hoR := own_ext (HXX.out.own g3) ((Ext.refl w3).alloc (.cells #[.string s] 9)); have hrN := reads_rows w3 9 [.string s]; have hHs : w2.heap.size ≤ (w3.alloc (.cells #[.string s] 9)).heap.size := (by rw [World.size_alloc]; have := HXX.out.g.size; have := g3.size; omega); clear y0) | (at_builtin; refine wpList_append_any _ rfl (.tmp 13) (.tmp 16) 65 rfl w2.heap.size 9 i0 (.string ⟨#[]⟩) 1 16 Tryz.underlying65 hi hz0 hz1 hz2 rfl (by decide) _ j ((ss.take j).map .string) rfl hoR _ _ 1 _ [.string s] rfl hrN (by simp [Value.oneCell']) (by simp only [maxLen]; omega) (by omega) hHs ?_; intro v6 w6 ho6 hg6 hb6; obtain ⟨A6, c6, rfl, -, -⟩ := own_slice2 ho6))
      rw [← HT.out] at ho6
      have hx6 := HXX.out.step h3 g3 ho6 hg6 hb6
      clear h3 g3 ho6 hg6 hb6 hoR hrN hHs
      go_roundg (gk - 1)
      case measure => have := HJ.out; omega
      case rel => exact ⟨j + 1, A6, c6, by have := HJ.out; omega, rfl, hx6⟩
    · obtain rfl : j = ss.length := by omega
      obtain ⟨M, hM⟩ : ∃ M, ((ss.drop ss.length).map txtT).length = M := ⟨_, rfl⟩
      rw [hM] at b0
      have e1 : decide (0 < M) = false := by
        rw [List.length_map, List.length_drop] at hM
        simp
        omega
      have y0 := b0.cell 0
      have HXX := Lib.hid hx
      clear b0 hM hx hj h
      go_wp2
      go_ret
      have hxx := HXX.out
      have ho := hxx.row
      rw [List.take_length] at ho
      obtain ⟨A6, c6, e6, hc6, -⟩ := own_slice2 ho
      injection e6 with e7 e8 e9
      subst e7 e9
      have hqp : q ≠ p := by have := HPL2.out; have := HQ1.out; omega
      exact ⟨AL, cL, rfl, hc6, RdS.of_own ho (fun b h1 h2 _ => ⟨Nat.le_trans HG2.out.size h1, h2, fun e => by have := HPL.out b e; have := HG2.out.size; omega⟩), HRP.out.to hxx.g (fun k e => by cases e; exact ⟨List.mem_cons_self .., hqp⟩) (fun b hb => .inl (List.mem_cons_of_mem _ hb)) HPM.out, HG2.out.andThen hxx.g (fun k e => by cases e; exact .inl HQ1.out)⟩
end Go.Proofs.YtfpmfegmehbfbaaGreatDoor
