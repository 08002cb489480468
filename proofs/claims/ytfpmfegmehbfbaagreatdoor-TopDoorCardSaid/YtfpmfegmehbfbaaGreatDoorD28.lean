/- Parts of the proofs, put together: OrS, Or28, OrE, Or29, Or30, OrF. -/
import Derived.Deep.RegionLaw
import Derived.Deep.DrawnRows
import Derived.StillTail
import Derived.Test.YtfpmfegmehbfbaaGreatDoorD21
import Derived.Test.YtfpmfegmehbfbaaGreatDoorD27
/- A step of a region that draws its order: a call of a function, by its contract. -/
namespace Go.Proofs.YtfpmfegmehbfbaaGreatDoor
set_option linter.unusedVariables false
set_option linter.unusedSimpArgs false
set_option linter.unusedSimpArgs false
open Go.RowKit Go.Shelf Go.Maps

theorem step_call {P : Program} {ops : Array Oper} {o : Oper} {a : Act} {w : World} {K : Act → World → Prop} {Q : Exit → Act → World → Prop} {E : Prop} (hgd : o.guard = none) (F : FuncId) (xs : Array Operand) (ts : Array TypeId)
    (ho : o.op = Op.call { callee := Callee.value (Operand.func F), args := xs, argTypes := ts }) (hE : Enters P F) (vs : Array Value) (hv : xs.map a.eval = vs) {post : Ending → World → Prop} (hc : Calls P F vs w post)
    (h : ∀ e w', post e w' → ∃ v, e = .returned v ∧ K (a.put o.dst v) w') : if Region.wanted o (yielded ops a.tmps) = true then Oper.wp P o a w K Q else E := by
  have hw : Region.wanted o (yielded ops a.tmps) = true := by simp [Region.wanted, hgd]
  rw [if_pos hw]
  unfold Oper.wp execOp
  have hE2 := hE vs w
  simp only [ho, resolve, Deferred.ofValue, Act.eval, invoke, Sem.run_bind, Sem.run_pure, Result.andThen_ok, Array.append_empty]
  rw [show Array.map (Act.eval a) xs = vs from hv]
  simp only [Array.append_empty, Array.empty_append, hE2, Oper.upon]
  refine hc.mono fun e w' he => ?_
  obtain ⟨v, rfl, hk⟩ := h e w' he
  exact hk
theorem step_call1 {P : Program} {ops : Array Oper} {o : Oper} {a : Act} {w : World} {K : Act → World → Prop} {Q : Exit → Act → World → Prop} {E : Prop} (hgd : o.guard = none) (F : FuncId) (x : Operand) (ts : Array TypeId)
    (ho : o.op = Op.call { callee := Callee.value (Operand.func F), args := #[x], argTypes := ts }) (hE : Enters P F) (v : Value) (hv : a.eval x = v) {post : Ending → World → Prop} (hc : Calls P F #[v] w post)
    (h : ∀ e w', post e w' → ∃ v, e = .returned v ∧ K (a.put o.dst v) w') : if Region.wanted o (yielded ops a.tmps) = true then Oper.wp P o a w K Q else E :=
  step_call hgd F #[x] ts ho hE #[v] (by simp [hv]) hc h
end Go.Proofs.YtfpmfegmehbfbaaGreatDoor

/- The door, walked: joins. -/
namespace Go.Proofs.YtfpmfegmehbfbaaGreatDoor
set_option linter.unusedVariables false
set_option linter.unusedSimpArgs false
set_option linter.unusedSimpArgs false
open Go.RowKit Go.Shelf Go.Maps
attribute [local go_sem ↓] Go.wp_at_zero Go.wp_at_succ

def withC (d : DoorX) (l : List AccR) (A : Option Addr) (c : Nat) : DoorX := { d with accs := l, cA := A, cc := c }
theorem withC_w {w : World} {B : Nat} {d : DoorX} {l : List AccR} {A : Option Addr} {c : Nat} (h : DoorW w B d) (hr : Reads w B 2 A l.length (accV l)) (hc : l.length ≤ c) (hl : l.length ≤ 1099511627776) (hw : ∀ x ∈ l, AccW x) : DoorW w B (withC d l A c) :=
  ⟨h.non, h.ser, hr, hc, hl, hw, h.aut, h.uc, h.ul, h.uw, h.ord, h.rc, h.rl, h.rw⟩
theorem withC_l {S S' : Nat → Prop} {d : DoorX} {l : List AccR} {A : Option Addr} {c : Nat} (h : DoorL S d) (k : ∀ b, S b → S' b) (ha : Lies S' A l.length) : DoorL S' (withC d l A c) :=
  ⟨h.o.mono k, ha, h.u.mono k, h.r.mono k, fun x hx => (h.n x hx).mono k, fun x hx => (h.a x hx).mono k⟩
theorem joins1_enters : Enters Tryz.prog 185 := enters_of Tryz.func185 (by kernel_rfl) rfl
theorem joins1_any (x : AccR) (k : Nat) (g : Nat) (w : World) (h : w.cell? ⟨g, 3, none⟩ = some (.int .u64 (k : Int))) :
    Calls Tryz.prog 185 #[.agg #[.int .i64 x.id, .int .u64 (x.key : Int)], .pointer (some ⟨g, 0, none⟩)] w fun e w' => e = .returned (.bool (decide (x.key = k))) ∧ Ext w w' := by
  have h2 := (Ext.refl w).alloc (.cells #[.int .i64 x.id, .int .u64 (x.key : Int)] 103) |>.cell h
  go_enter Tryz.func185, Tryz.ntmps185
  go_wp2
  go_ret
  refine ⟨ret_bool ?_, (Ext.refl w).alloc _⟩
  rw [Bool.eq_iff_iff]; simp; omega
theorem reads_new2 (W : World) (T : TypeId) (x y : Value) : Reads (W.alloc (.cells #[x, y] T)) (W.alloc (.cells #[x, y] T)).heap.size 2 (some ⟨W.heap.size, 0, none⟩) 1 [x, y] :=
  ⟨rfl, fun _ => ⟨_, rfl, by simp, cell_two_new W x y T⟩⟩
theorem cloneA_enters : Enters Tryz.prog 186 := enters_of Tryz.func186 (by kernel_rfl) rfl
theorem dfro_accs (d : DoorX) : d.fro.accs = d.accs := rfl
set_option maxRecDepth 100000 in
set_option maxHeartbeats 8000000 in
theorem joins_any (b : Nat) (d : DoorX) (now : Int) (q : QueR) (A : Option Addr) (c : Nat) (w : World) (hw : DoorW w w.heap.size d) (hL : DoorL (fun k => k ≠ b) d) (h : DoorB w b d now) (hk : q.key < 18446744073709551616) (ha9 : d.accs.length < 100) :
    Calls Tryz.prog 97 #[.pointer (some ⟨b, 0, none⟩), queV q A c] w (methPost b d now (joinF d.fro q) w) := by
  obtain ⟨W0, e0⟩ : ∃ W, w.alloc (.cells #[.int .i64 q.kind, .int .i64 q.acc, .int .i64 q.nonce, .int .u64 (q.key : Int), .slice A q.names.length c, .int .i64 q.life, .int .i64 q.id, .int .u64 (q.e : Int), .int .u64 (q.s : Int)] 98) = W := ⟨_, rfl⟩
  have x0 : Ext w W0 := by rw [← e0]; exact (Ext.refl w).alloc _
  have b0 : QueB W0 w.heap.size q A c := by rw [← e0]; exact Blk.new w _ _
  have c1 := indexA_any _ joins1_enters #[.pointer (some ⟨w.heap.size, 0, none⟩)] (fun a => decide (a.key = q.key)) d.accs hw.cl d.cA d.cc W0 ((hw.acc.below x0.out).more x0.size)
    (fun W s hs x => joins1_any s q.key w.heap.size W (x.cell (Blk.cell b0 3)))
  have cC : ∀ W, Ext W0 W → Calls Tryz.prog 186 #[.slice d.cA d.accs.length d.cc] W fun e w' => ∃ v, e = .returned v ∧ w'.ownsRow W0.heap.size 103 2 v d.accs.length (accV d.accs) ∧ Ext W w' := fun W x =>
    (cloneA_any d.cA d.accs.length d.cc (accV d.accs) (accV_one _) hw.cl W ((hw.acc.below (x0.trans x).out).more (x0.trans x).size)).mono fun e w' ⟨v, h1, h2, h3⟩ => ⟨v, h1, own_base h2 x.size, h3⟩
  have s0 : w.heap.size < W0.heap.size := Blk.lt b0
  have HW := Lib.hid hw
  have HL := Lib.hid hL
  have HD := Lib.hid h
  have HB := Lib.hid b0
  have HX := Lib.hid x0
  have HS0 := Lib.hid s0
  have HK := Lib.hid hk
  have HA9 := Lib.hid ha9
  obtain ⟨a0, a1, a2, a3, a4, a5, a6⟩ := arr7 (DoorB.ext h x0)
  have hcl : (d.accs.length : Int) ≤ 1099511627776 := by have := hw.cl; omega
  unfold queV
  clear hw hL h b0 x0 s0 hk ha9
  go_enter Tryz.func97, Tryz.ntmps97
  go_upto_region 1 with (fail)
  try rw [e0]
  clear e0
  cases hf : d.accs.findIdx? (fun a => decide (a.key = q.key)) with
  | some i =>
    have HR : Hid (joinF d.fro q = (d.fro, (i : Int) + 1, 0)) := Lib.hid (by unfold joinF; rw [dfro_accs, hf])
    have hil := (List.findIdx?_eq_some_iff_getElem.1 hf).1
    have hib : (i : Int) ≤ 1099511627776 := by omega
    rw [show ixG (fun a : AccR => decide (a.key = q.key)) d.accs = (i : Int) by unfold ixG; rw [hf]] at c1
    clear hf hil cC
    go_wp2_with (go_at_call 184; refine c1.mono ?_; clear c1; rintro e w1 ⟨rfl, x1⟩)
    go_ret2
    rw [HR.out]
    have x9 := HX.out.trans x1
    exact ⟨rfl, grown_ext x9 (some b), fun _ => ⟨d, rfl, DoorB.ext HD.out x9, HW.out.ext x9, fun S hS => hS.mono (fun k hk => .inl hk)⟩⟩
  | none =>
    rw [show ixG (fun a : AccR => decide (a.key = q.key)) d.accs = -1 by unfold ixG; rw [hf]] at c1
    have hR0 : joinF d.fro q = if d.accs.length = 64 then bad 2 else ({ d.fro with accs := d.accs ++ [⟨(d.accs.length : Int) + 1, q.key⟩] }, (d.accs.length : Int) + 1, 0) := by unfold joinF; rw [dfro_accs, hf]
    clear hf
    by_cases g1 : d.accs.length = 64
    · rw [if_pos g1] at hR0
      have HR := Lib.hid hR0
      have d1 : ((d.accs.length : Int) == 64) = true := by rw [g1]; rfl
      clear g1 hR0 cC
      go_wp2_with (go_at_call 184; refine c1.mono ?_; clear c1; rintro e w1 ⟨rfl, x1⟩; clear a0 a1 a2 a3 a4 a5 a6; obtain ⟨a0, a1, a2, a3, a4, a5, a6⟩ := arr7 (DoorB.ext HD.out (HX.out.trans x1)))
      go_ret2
      rw [HR.out]
      exact methPost_bad (E := 2) (by decide) rfl (grown_ext (HX.out.trans x1) (some b))
    rw [if_neg g1] at hR0
    have HR := Lib.hid hR0
    have d1 : ((d.accs.length : Int) == 64) = false := by rw [beq_eq_false_iff_ne]; omega
    obtain ⟨i0, hi, hz0, hz1, hz2⟩ := info_parts Tryz.infoAcc
    clear g1 hR0
    go_wp2_with (go_at_call 184; refine c1.mono ?_; clear c1; rintro e w1 ⟨rfl, x1⟩; clear a0 a1 a2 a3 a4 a5 a6; obtain ⟨a0, a1, a2, a3, a4, a5, a6⟩ := arr7 (DoorB.ext HD.out (HX.out.trans x1)); have k3 := (ext_blk x1 HB.out).cell 3; have HX1 := Lib.hid x1; clear x1)
    have hsum : IntKind.i64.wrap ((d.accs.length : Int) + 1) = (d.accs.length : Int) + 1 := by rw [IntKind.wrap_i64]; omega
    have hb2 : Hid (b < W0.heap.size) := Lib.hid (by have := Blk.lt HD.out; have := HS0.out; omega)
    clear a0 a1 a3 a4 a5 a6
    have a2x := fun o => (((Ext.refl w1).alloc o).drew).cell a2
    have k3x := fun o => (((Ext.refl w1).alloc o).drew).cell k3
    go_region_law (first
      | ((first | (refine step_call1 (by rfl) 186 (.tmp 31) #[92] (by rfl) cloneA_enters (.slice d.cA d.accs.length d.cc) (by rfl) (cC _ (HX1.out.drew)) ?_) | (refine step_call1 (by rfl) 186 (.tmp 31) #[92] (by rfl) cloneA_enters (.slice d.cA d.accs.length d.cc) (by rfl) (cC _ (HX1.out.drew.alloc _)) ?_)); clear cC; rintro e w2 ⟨v, rfl, ho2, x2⟩; refine ⟨v, rfl, ?_⟩; have X2 : Ext W0 w2 := (by first | exact HX1.out.drew.trans x2 | exact (HX1.out.drew.alloc _).trans x2); clear a2 k3 a2x k3x; obtain ⟨-, -, a2, -⟩ := arr7 (DoorB.ext HD.out (HX.out.trans X2)); have k3 := (ext_blk X2 HB.out).cell 3; have HO2 := Lib.hid ho2; have HX2 := Lib.hid X2; have HY2 := Lib.hid x2; clear ho2 X2 x2)
      | ((first | ((refine step_append_any (w2.alloc (.cells #[.int .i64 ((d.accs.length : Int) + 1), .int .u64 (q.key : Int)] 103)) ?q1 (.tmp 32) (.tmp 38) 92 ?q2 W0.heap.size 103 i0 (.agg #[.int .i64 0, .int .u64 0]) 2 16 Tryz.underlying92 hi hz0 hz1 hz2 rfl (by decide) v d.accs.length (accV d.accs) ?q3 (HO2.out.alloc _) (w2.alloc (.cells #[.int .i64 ((d.accs.length : Int) + 1), .int .u64 (q.key : Int)] 103)).heap.size (some ⟨w2.heap.size, 0, none⟩) 1 1 [.int .i64 ((d.accs.length : Int) + 1), .int .u64 (q.key : Int)] ?q4 ?q5 ?q6 ?q7 ?q8 ?q9 ?_; (case q1 => rfl); (case q2 => rfl); (case q3 => rfl); (case q4 => rfl); (case q5 => exact (reads_new2 _ _ _ _)); (case q6 => simp [Value.oneCell']); (case q7 => simp only [maxLen]; omega); (case q8 => omega); (case q9 => (have := HX2.out.size; simp; omega)))) | (refine step_append_any w2 ?q1 (.tmp 32) (.tmp 38) 92 ?q2 W0.heap.size 103 i0 (.agg #[.int .i64 0, .int .u64 0]) 2 16 Tryz.underlying92 hi hz0 hz1 hz2 rfl (by decide) v d.accs.length (accV d.accs) ?q3 HO2.out w2.heap.size (some ⟨w1.heap.size, 0, none⟩) 1 1 [.int .i64 ((d.accs.length : Int) + 1), .int .u64 (q.key : Int)] ?q4 ?q5 ?q6 ?q7 ?q8 ?q9 ?_; (case q1 => rfl); (case q2 => rfl); (case q3 => rfl); (case q4 => rfl); (case q5 => exact ((reads_new2 _ _ _ _).drew.below HY2.out.out).more HY2.out.size); (case q6 => simp [Value.oneCell']); (case q7 => simp only [maxLen]; omega); (case q8 => omega); (case q9 => (have := HX2.out.size; simp; omega)))); intro v4 w4 hown4 hg4 _; obtain ⟨A4, c4, rfl, hc4, -⟩ := own_slice2 hown4; have HC4 := Lib.hid hc4; clear hc4; have X4 : Ext W0 w4 := (by first | exact ext_grown HX2.out HO2.out hg4 | exact ext_grown (HX2.out.alloc _) (HO2.out.alloc _) hg4); clear a2 k3; obtain ⟨-, -, a2, -⟩ := arr7 (DoorB.ext HD.out (HX.out.trans X4)); have k3 := (ext_blk X4 HB.out).cell 3; have f2 := (DoorB.ext HD.out (HX.out.trans X4)).frozen 2; have HO4 := Lib.hid hown4; have HX4 := Lib.hid X4; clear hown4 hg4 X4))
    all_goals (
      go_wp2
      go_ret2
      rw [HR.out]
      have hbb := hb2.out
      have hs0 := HS0.out
      have hlen : (d.accs ++ [AccR.mk ((d.accs.length : Int) + 1) q.key]).length = d.accs.length + 1 := by simp
      have ho5 := own_far HO4.out hbb 2 (.slice A4 (d.accs.length + 1) c4)
      rw [show accV d.accs ++ [.int .i64 ((d.accs.length : Int) + 1), .int .u64 (q.key : Int)] = accV (d.accs ++ [AccR.mk ((d.accs.length : Int) + 1) q.key]) by rw [accV_append]; rfl] at ho5
      have hg5 : w.grownBy (w4.setCell ⟨b, 2, none⟩ (.slice A4 (d.accs.length + 1) c4)) (some b) := (grown_ext (HX.out.trans HX4.out) (some b)).trans (grown_set _ _ _ _)
      refine ⟨rfl, hg5, fun _ => ⟨withC d (d.accs ++ [AccR.mk ((d.accs.length : Int) + 1) q.key]) A4 c4, rfl, ?_, ?_, fun S hS => ?_⟩⟩
      · have := (DoorB.ext HD.out (HX.out.trans HX4.out)).set_ 2 (.slice A4 (d.accs.length + 1) c4)
        unfold DoorB withC
        simp only
        rw [hlen]
        exact this
      · have hr := Reads.of_own ho5
        refine withC_w (HW.out.grownTo HL.out hg5) (by rw [hlen]; exact hr) (by rw [hlen]; exact HC4.out) (by rw [hlen]; have := HA9.out; omega) (fun y hy => ?_)
        rcases List.mem_append.1 hy with hy | hy
        · exact HW.out.cw y hy
        · rw [List.mem_singleton] at hy
          subst hy
          exact ⟨wf64_of (by simp only; omega) (by simp only; omega), HK.out⟩
      · refine withC_l hS (fun k hk => .inl hk) ?_
        rw [hlen]
        exact Lies.own ho5 (fun k hk => .inr (by omega)))
end Go.Proofs.YtfpmfegmehbfbaaGreatDoor

/- A region that draws its order and ends in a store into what it has read: the reads are taken first; the last operation, which waits for all, need not keep what they read. -/
namespace Go.Proofs.YtfpmfegmehbfbaaGreatDoor
set_option linter.unusedVariables false
set_option linter.unusedSimpArgs false
set_option linter.unusedSimpArgs false
open Go.RowKit

section
variable {P : Program} {ops : Array Oper} {Q : Exit → Act → World → Prop} {md : Region.Mode} {S : World → Prop} {L : Nat}
def wpAnyE (P : Program) (md : Region.Mode) (ops : Array Oper) (Q : Exit → Act → World → Prop) (S : World → Prop) (L : Nat) : Nat → Array Bool → Act → World → Prop
  | 0, listed, a, w => Region.ready md ops listed = [] ∧ Q .normal a w
  | fuel + 1, listed, a, w =>
    (Region.ready md ops listed = [] → Q .normal a w) ∧
    ∀ i ∈ Region.ready md ops listed, wpOp P ops Q i (fun a' w' => (i ≠ L → S w') ∧ wpAnyE P md ops Q S L fuel (listed.setIfInBounds i true) a' w') a w
theorem any_of_E : ∀ (fuel : Nat) (listed : Array Bool) (a : Act) (w : World), wpAnyE P md ops Q S L fuel listed a w → wpAny P md ops Q fuel listed a w
  | 0, _, _, _, h => h
  | fuel + 1, _, _, _, h => ⟨h.1, fun i hi => wpOp_mono (fun a' w' h' => any_of_E fuel _ a' w' h'.2) (h.2 i hi)⟩
theorem E_first {i : Nat} {oi : Oper} {v : Value} (hi : ops[i]? = some oi) (hsel : ∀ (j : Nat) (o : Oper) cs b, ops[j]? = some o → o.op ≠ .select cs b)
    (hQ : ∀ c a w, Q (.panic c) (a.put oi.dst v) w → Q (.panic c) a w) (hL : Region.waitsFor md ops L i = true) :
    ∀ (fuel : Nat) (listed : Array Bool) (a : Act) (w : World),
      (∀ j oj, ops[j]? = some oj → j ≠ i → listed.getD j true = false → (∀ e ∈ oj.after, Region.binds md e = true → e.on ≠ i) → oi.apart ops oj = true) →
      i ∈ Region.ready md ops listed → YieldsIf P ops S oi v a → S w →
      wpAnyE P md ops Q S L fuel (listed.setIfInBounds i true) (a.put oi.dst v) w → wpAnyE P md ops Q S L (fuel + 1) listed a w := by
  intro fuel
  induction fuel with
  | zero =>
    intro listed a w _ hr hy hS H
    refine ⟨fun h => (by rw [h] at hr; cases hr), fun j hj => ?_⟩
    by_cases hji : j = i
    · subst hji; exact hy.wpOp hi hS ⟨fun _ => hS, H⟩
    · have := ready_mono hj hji
      rw [H.1] at this
      cases this
  | succ fuel ih =>
    intro listed a w hfree hr hy hS H
    refine ⟨fun h => (by rw [h] at hr; cases hr), fun j hj => ?_⟩
    by_cases hji : j = i
    · subst hji; exact hy.wpOp hi hS ⟨fun _ => hS, H⟩
    · have h1 := H.2 j (ready_mono hj hji)
      obtain ⟨hjun, oj, hoj, hall⟩ := mem_ready.1 hj
      have hnot : ∀ e ∈ oj.after, Region.binds md e = true → e.on ≠ i := fun e he hb heq => by
        have h1 := hall e he hb
        have h0 := (mem_ready.1 hr).1
        rw [heq] at h1
        rcases Nat.lt_or_ge i listed.size with h' | h'
        · simp [h'] at h0 h1; rw [h0] at h1; cases h1
        · simp [Array.getElem?_eq_none h'] at h1
      have hjL : j ≠ L := fun e => by
        obtain ⟨ol, hol, x, hx, hb, hon⟩ := Region.waitsFor_spec hL
        rw [← e, hoj] at hol
        cases hol
        exact hnot x hx hb hon
      have h2 := wpOp_putIf hoj (hfree j oj hoj hji hjun hnot) (fun cs b => hsel i oi cs b hi) (fun cs b => hsel j oj cs b hoj) hQ hy h1
      have hfree' : ∀ k ok, ops[k]? = some ok → k ≠ i → (listed.setIfInBounds j true).getD k true = false →
          (∀ e ∈ ok.after, Region.binds md e = true → e.on ≠ i) → oi.apart ops ok = true := fun k ok hk hki hun hno => by
        refine hfree k ok hk hki ?_ hno
        by_cases hjk : j = k
        · subst hjk; exact hjun
        · rw [getD_set_ne true hjk] at hun; exact hun
      refine wpOp_mono (fun a' w' h3 => ⟨fun _ => h3.2.1 hjL, ih (listed.setIfInBounds j true) a' w' hfree' (ready_mono hr (Ne.symm hji)) h3.1 (h3.2.1 hjL) ?_⟩) h2
      rw [Array.setIfInBounds_comm _ _ hji]
      exact h3.2.2
theorem E_start {id n : Nat} {ls : Array Bool} {a : Act} {w : World} (S : World → Prop) (L : Nat) (hm : P.follows .mixedOrders = true) (hn : ops.size = n) (h0 : Array.replicate ops.size false = ls) (hS : S w.drew)
    (h : S w.drew → wpAnyE P .any ops (NoPanic Q) S L n ls a w.drew) : (Code.region id ops true).wp P Q a w := by
  refine wp_region_noPanic (wp_region_any hm (any_of_E (S := S) (L := L) _ _ _ _ ?_))
  rw [h0, hn]
  exact h hS
theorem E_take {i : Nat} {oi : Oper} (d : Option Tmp) {v : Value} {fuel : Nat} {ls ls' : Array Bool} {a : Act} {w : World} (hi : ops[i]? = some oi) (hd : oi.dst = d) (hs : Region.noSelect ops = true) (hf : Region.free .any ops ls i = true) (hr : (Region.ready .any ops ls).contains i = true) (hL : Region.waitsFor .any ops L i = true)
    (hl : ls.setIfInBounds i true = ls') (hw : Region.wanted oi (yielded ops a.tmps) = true) (hy : ∀ w, S w → (execOp a.eval oi).run P w = .ok (.value v) w) (hS : S w) (h : wpAnyE P .any ops (NoPanic Q) S L fuel ls' (a.put d v) w) :
    wpAnyE P .any ops (NoPanic Q) S L (fuel + 1) ls a w := by
  subst hl hd
  exact E_first hi (Region.noSelect_spec hs) (fun _ _ _ h => h) hL fuel ls a w (Region.free_spec hi hf) (by simpa using hr) (.inl ⟨hw, hy⟩) hS h
/-- One alone may come up: a call, an alloc, an append. -/
theorem E_one {i : Nat} {o : Oper} {fuel : Nat} {ls ls' : Array Bool} {a : Act} {w : World} (hi : ops[i]? = some o) (hr : Region.ready .any ops ls = [i]) (hl : ls.setIfInBounds i true = ls') (hw : Region.wanted o (yielded ops a.tmps) = true)
    (h : ∀ K : Act → World → Prop, (∀ a w, (i ≠ L → S w) → wpAnyE P .any ops (NoPanic Q) S L fuel ls' a w → K a w) → o.wp P a w K (NoPanic Q)) : wpAnyE P .any ops (NoPanic Q) S L (fuel + 1) ls a w := by
  subst hl
  refine ⟨(fun h0 => by rw [hr] at h0; cases h0), (fun j hj => ?_)⟩
  rw [hr] at hj
  obtain rfl : j = i := by simpa using hj
  unfold wpOp
  simp only [hi, hw, if_true]
  exact .inl (h _ fun a w h1 h2 => ⟨h1, h2⟩)
/-- Two may come up. -/
theorem E_two {i k : Nat} {o o' : Oper} {fuel : Nat} {ls ls1 ls2 : Array Bool} {a : Act} {w : World} (hi : ops[i]? = some o) (hk : ops[k]? = some o') (hr : Region.ready .any ops ls = [i, k]) (hl : ls.setIfInBounds i true = ls1) (hl' : ls.setIfInBounds k true = ls2)
    (hw : Region.wanted o (yielded ops a.tmps) = true) (hw' : Region.wanted o' (yielded ops a.tmps) = true)
    (h : ∀ K : Act → World → Prop, (∀ a w, (i ≠ L → S w) → wpAnyE P .any ops (NoPanic Q) S L fuel ls1 a w → K a w) → o.wp P a w K (NoPanic Q))
    (h' : ∀ K : Act → World → Prop, (∀ a w, (k ≠ L → S w) → wpAnyE P .any ops (NoPanic Q) S L fuel ls2 a w → K a w) → o'.wp P a w K (NoPanic Q)) : wpAnyE P .any ops (NoPanic Q) S L (fuel + 1) ls a w := by
  subst hl hl'
  refine ⟨(fun h0 => by rw [hr] at h0; cases h0), (fun j hj => ?_)⟩
  rw [hr] at hj
  rcases List.mem_cons.1 hj with rfl | hj
  · unfold wpOp
    simp only [hi, hw, if_true]
    exact .inl (h _ fun a w h1 h2 => ⟨h1, h2⟩)
  · obtain rfl : j = k := by simpa using hj
    unfold wpOp
    simp only [hk, hw', if_true]
    exact .inl (h' _ fun a w h1 h2 => ⟨h1, h2⟩)
theorem E_done {fuel : Nat} {ls : Array Bool} {a : Act} {w : World} (hr : Region.ready .any ops ls = []) (h : Q .normal a w) : wpAnyE P .any ops (NoPanic Q) S L fuel ls a w := by
  cases fuel with
  | zero => exact ⟨hr, NoPanic.normal h⟩
  | succ n => exact ⟨fun _ => NoPanic.normal h, by rw [hr]; simp⟩
end
section
variable {P : Program} {ops : Array Oper} {Q : Exit → Act → World → Prop} {S : World → Prop} {L : Nat}
theorem E_tk {i : Nat} {oi : Oper} (d : Option Tmp) {v : Value} {fuel : Nat} {ls : Array Bool} {a : Act} {w : World} (hi : ops[i]? = some oi) (hd : oi.dst = d)
    (hb : (Region.noSelect ops && Region.free .any ops ls i && (Region.ready .any ops ls).contains i && Region.waitsFor .any ops L i && Region.wanted oi (yielded ops a.tmps)) = true) (hS : S w)
    (hy : ∀ w, S w → (execOp a.eval oi).run P w = .ok (.value v) w) (h : wpAnyE P .any ops (NoPanic Q) S L fuel (ls.setIfInBounds i true) (a.put d v) w) :
    wpAnyE P .any ops (NoPanic Q) S L (fuel + 1) ls a w := by
  simp only [Bool.and_eq_true] at hb
  obtain ⟨⟨⟨⟨h1, h2⟩, h3⟩, h4⟩, h5⟩ := hb
  exact E_take d hi hd h1 h2 h3 h4 rfl h5 hy hS h
theorem E_on {i : Nat} {o : Oper} {fuel : Nat} {ls : Array Bool} {a : Act} {w : World} (hi : ops[i]? = some o) (hr : Region.ready .any ops ls = [i]) (hw : Region.wanted o (yielded ops a.tmps) = true)
    (h : ∀ K : Act → World → Prop, (∀ a w, (i ≠ L → S w) → wpAnyE P .any ops (NoPanic Q) S L fuel (ls.setIfInBounds i true) a w → K a w) → o.wp P a w K (NoPanic Q)) : wpAnyE P .any ops (NoPanic Q) S L (fuel + 1) ls a w :=
  E_one hi hr rfl hw h
theorem E_tw {i k : Nat} {o o' : Oper} {fuel : Nat} {ls : Array Bool} {a : Act} {w : World} (hi : ops[i]? = some o) (hk : ops[k]? = some o') (hr : Region.ready .any ops ls = [i, k])
    (hw : Region.wanted o (yielded ops a.tmps) = true) (hw' : Region.wanted o' (yielded ops a.tmps) = true)
    (h : ∀ K : Act → World → Prop, (∀ a w, (i ≠ L → S w) → wpAnyE P .any ops (NoPanic Q) S L fuel (ls.setIfInBounds i true) a w → K a w) → o.wp P a w K (NoPanic Q))
    (h' : ∀ K : Act → World → Prop, (∀ a w, (k ≠ L → S w) → wpAnyE P .any ops (NoPanic Q) S L fuel (ls.setIfInBounds k true) a w → K a w) → o'.wp P a w K (NoPanic Q)) : wpAnyE P .any ops (NoPanic Q) S L (fuel + 1) ls a w :=
  E_two hi hk hr rfl rfl hw hw' h h'
end
end Go.Proofs.YtfpmfegmehbfbaaGreatDoor

/- The door, walked: wants. -/
namespace Go.Proofs.YtfpmfegmehbfbaaGreatDoor
set_option linter.unusedVariables false
set_option linter.unusedSimpArgs false
set_option linter.unusedSimpArgs false
open Go.RowKit Go.Shelf Go.Maps

/-! ### a world that is as it was but for two blocks -/
structure But (b g : Nat) (w w' : World) : Prop where
  os : w'.os = w.os
  tape : w'.tape = w.tape
  output : w'.output = w.output
  size : w.heap.size ≤ w'.heap.size
  block : ∀ k, k < w.heap.size → k ≠ b → k ≠ g → w'.heap[k]? = w.heap[k]?
section
variable {b g : Nat} {w w1 w2 : World}
theorem But.refl (b g : Nat) (w : World) : But b g w w := ⟨rfl, rfl, rfl, Nat.le_refl _, fun _ _ _ _ => rfl⟩
theorem But.ext (h : But b g w w1) (x : Ext w1 w2) : But b g w w2 := ⟨x.out.os.trans h.os, x.out.tape.trans h.tape, x.out.output.trans h.output, Nat.le_trans h.size x.size, fun k hk h1 h2 => (x.out.block k (Nat.lt_of_lt_of_le hk h.size)).trans (h.block k hk h1 h2)⟩
theorem But.set (h : But b g w w1) {p : Addr} (hp : p.block = b ∨ p.block = g ∨ w.heap.size ≤ p.block) (u : Value) : But b g w (w1.setCell p u) :=
  ⟨h.os, h.tape, h.output, Nat.le_trans h.size (KeepsWalks.setCell w1 p u).size, fun k hk h1 h2 => (Below.heap_setCell w1 p u k (by omega)).trans (h.block k hk h1 h2)⟩
theorem But.grown (h : But b g w w1) {row : Option Nat} (x : w1.grownBy w2 row) (hr : ∀ k, row = some k → w.heap.size ≤ k) : But b g w w2 :=
  ⟨x.os.trans h.os, x.tape.trans h.tape, x.output.trans h.output, Nat.le_trans h.size x.size, fun k hk h1 h2 => (x.block k (Nat.lt_of_lt_of_le hk h.size) (fun e => by have := hr k e.symm; omega)).trans (h.block k hk h1 h2)⟩
theorem But.blk (h : But b g w w1) {k : Nat} {T : TypeId} {cs : Array Value} (hb : Blk w k T cs) (h1 : k ≠ b) (h2 : k ≠ g) : Blk w1 k T cs := (h.block k hb.lt h1 h2).trans hb
theorem But.out (h : But b g w w1) (hg : w.heap.size ≤ g) : w.grownBy w1 (some b) := ⟨h.os, h.tape, h.output, h.size, fun k hk hr => h.block k hk (by simpa using hr) (by omega)⟩
theorem But.from (h : But b g w1 w2) (x : Ext w w1) (hg : w.heap.size ≤ g) : w.grownBy w2 (some b) :=
  ⟨h.os.trans x.out.os, h.tape.trans x.out.tape, h.output.trans x.out.output, Nat.le_trans x.size h.size, fun k hk hr => (h.block k (Nat.lt_of_lt_of_le hk x.size) (by simpa using hr) (by omega)).trans (x.out.block k hk)⟩
end
theorem own_ne {w : World} {b1 b2 : Nat} {e1 e2 : TypeId} {s1 s2 n1 n2 : Nat} {v1 v2 : Value} {x1 x2 : List Value} (h1 : w.ownsRow b1 e1 s1 v1 n1 x1) (h2 : w.ownsRow b2 e2 s2 v2 n2 x2) (hne : e1 ≠ e2) : v1.ownBlock = none ∨ v1.ownBlock ≠ v2.ownBlock := by
  rcases h2.2 with ⟨rfl, _⟩ | ⟨g', cap, cur, rfl, _, hh, _⟩
  · cases h : v1.ownBlock with
    | none => exact .inl rfl
    | some k => exact .inr (by simp [Value.ownBlock])
  · exact .inr (fun e => own_blk_ne h1 (g := g') (t := e2) hh hne (by rw [e]; rfl))
/-- A row of one's own while a block of another type is written. -/
theorem own_setT {w : World} {base : Nat} {e : TypeId} {size n : Nat} {v : Value} {xs : List Value} (h : w.ownsRow base e size v n xs) {g : Nat} {t : TypeId} {cs : Array Value} (hg : Blk w g t cs) (hne : e ≠ t) (i : Nat) (u : Value) : (w.setCell ⟨g, i, none⟩ u).ownsRow base e size v n xs := by
  refine h.kept (grown_set w g i u) ?_
  cases hb : v.ownBlock with
  | none => exact .inl rfl
  | some k => exact .inr (fun e => own_blk_ne h hg hne (by rw [hb, e]))

/-! ### is there one that may be used again -/
def sameA (acc now : Int) (s : ByteArray) (a : AutR) : Bool := decide (a.acc = acc) && decide (a.name = s) && decide (a.st = 3) && decide (now < a.un)
theorem wants1_enters : Enters Tryz.prog 189 := enters_of Tryz.func189 (by kernel_rfl) rfl
set_option maxRecDepth 100000 in
set_option maxHeartbeats 4000000 in
theorem wants1_any (x : AutR) (acc now : Int) (s : ByteArray) (gq gs gd b : Nat) (w : World) (h1 : w.cell? ⟨gq, 1, none⟩ = some (.int .i64 acc)) (h2 : w.cell? ⟨gs, 0, none⟩ = some (.string s)) (h3 : w.cell? ⟨gd, 0, none⟩ = some (.pointer (some ⟨b, 0, none⟩))) (h4 : w.cell? ⟨b, 6, none⟩ = some (.int .i64 now)) :
    Calls Tryz.prog 189 #[.agg #[.int .i64 x.id, .int .i64 x.acc, .string x.name, .string x.tok, .int .i64 x.st, .int .i64 x.fr, .int .i64 x.un], .pointer (some ⟨gq, 0, none⟩), .pointer (some ⟨gs, 0, none⟩), .pointer (some ⟨gd, 0, none⟩)] w fun e w' =>
      e = .returned (.bool (sameA acc now s x)) ∧ Ext w w' := by
  obtain ⟨W1, e1⟩ : ∃ W, w.alloc (.cells #[.int .i64 x.id, .int .i64 x.acc, .string x.name, .string x.tok, .int .i64 x.st, .int .i64 x.fr, .int .i64 x.un] 192) = W := ⟨_, rfl⟩
  have HB : Blk W1 w.heap.size 192 #[.int .i64 x.id, .int .i64 x.acc, .string x.name, .string x.tok, .int .i64 x.st, .int .i64 x.fr, .int .i64 x.un] := by rw [← e1]; exact Blk.new _ _ _
  have HX1 : Hid (Ext w W1) := by rw [← e1]; exact (Ext.refl w).alloc _
  obtain ⟨k0, k1, k2, k3, k4, k5, k6⟩ := arr7 HB
  have j1 := fun j : Later W1 => j.cell k1
  have j2 := fun j : Later W1 => j.cell k2
  have j4 := fun j : Later W1 => j.cell k4
  have j6 := fun j : Later W1 => j.cell k6
  have i1 := fun j : Later W1 => j.cell (HX1.out.cell h1)
  have i2 := fun j : Later W1 => j.cell (HX1.out.cell h2)
  have i3 := fun j : Later W1 => j.cell (HX1.out.cell h3)
  have i4 := fun j : Later W1 => j.cell (HX1.out.cell h4)
  clear k0 k1 k2 k3 k4 k5 k6 h1 h2 h3 h4 HB
  go_enter Tryz.func189, Tryz.ntmps189
  go_upto_region 1 with (fail)
  try rw [e1]
  clear e1
  by_cases g1 : x.acc = acc
  case neg =>
    have HR : Hid (sameA acc now s x = false) := Lib.hid (by unfold sameA; rw [decide_eq_false g1]; rfl)
    have d1 : (x.acc == acc) = false := by simp [g1]
    clear g1
    refine wp_region_later (by kernel_rfl) (by kernel_rfl) ?_
    repeat (go_big_quiet_step ((fail)))
    refine wpQuiet_nil ?_
    rintro W2 ⟨q, hq⟩
    have x5 : Ext w W2 := by rw [hq]; exact HX1.out.trans q.ext
    clear hq q j1 j2 j4 j6 i1 i2 i3 i4
    go_wp2
    go_ret
    exact ⟨ret_bool HR.out.symm, x5⟩
  have d1 : (x.acc == acc) = true := by simp [g1]
  by_cases g2 : x.name = s
  case neg =>
    have HR : Hid (sameA acc now s x = false) := Lib.hid (by unfold sameA; rw [decide_eq_false g2]; simp)
    have d2 : (x.name.toList == s.toList) = false := str_beq_false g2
    clear g1 g2
    refine wp_region_later (by kernel_rfl) (by kernel_rfl) ?_
    repeat (go_big_quiet_step ((fail)))
    refine wpQuiet_nil ?_
    rintro W2 ⟨q, hq⟩
    have x5 : Ext w W2 := by rw [hq]; exact HX1.out.trans q.ext
    clear hq q j1 j2 j4 j6 i1 i2 i3 i4
    go_wp2
    go_ret
    exact ⟨ret_bool HR.out.symm, x5⟩
  have d2 : (x.name.toList == s.toList) = true := str_beq_true g2
  by_cases g3 : x.st = 3
  case neg =>
    have HR : Hid (sameA acc now s x = false) := Lib.hid (by unfold sameA; rw [decide_eq_false g3]; simp)
    have d3 : (x.st == 3) = false := by simp [g3]
    clear g1 g2 g3
    refine wp_region_later (by kernel_rfl) (by kernel_rfl) ?_
    repeat (go_big_quiet_step ((fail)))
    refine wpQuiet_nil ?_
    rintro W2 ⟨q, hq⟩
    have x5 : Ext w W2 := by rw [hq]; exact HX1.out.trans q.ext
    clear hq q j1 j2 j4 j6 i1 i2 i3 i4
    go_wp2
    go_ret
    exact ⟨ret_bool HR.out.symm, x5⟩
  have d3 : (x.st == 3) = true := by simp [g3]
  by_cases g4 : now < x.un
  · have HR : Hid (sameA acc now s x = true) := Lib.hid (by unfold sameA; rw [decide_eq_true g1, decide_eq_true g2, decide_eq_true g3, decide_eq_true g4]; rfl)
    have d4 : decide (now < x.un) = true := decide_eq_true g4
    clear g1 g2 g3 g4
    refine wp_region_later (by kernel_rfl) (by kernel_rfl) ?_
    repeat (go_big_quiet_step ((fail)))
    refine wpQuiet_nil ?_
    rintro W2 ⟨q, hq⟩
    have x5 : Ext w W2 := by rw [hq]; exact HX1.out.trans q.ext
    clear hq q j1 j2 j4 j6 i1 i2 i3 i4
    go_wp2
    go_ret
    exact ⟨ret_bool HR.out.symm, x5⟩
  · have HR : Hid (sameA acc now s x = false) := Lib.hid (by unfold sameA; rw [decide_eq_false g4]; simp)
    have d4 : decide (now < x.un) = false := decide_eq_false g4
    clear g1 g2 g3 g4
    refine wp_region_later (by kernel_rfl) (by kernel_rfl) ?_
    repeat (go_big_quiet_step ((fail)))
    refine wpQuiet_nil ?_
    rintro W2 ⟨q, hq⟩
    have x5 : Ext w W2 := by rw [hq]; exact HX1.out.trans q.ext
    clear hq q j1 j2 j4 j6 i1 i2 i3 i4
    go_wp2
    go_ret
    exact ⟨ret_bool HR.out.symm, x5⟩
end Go.Proofs.YtfpmfegmehbfbaaGreatDoor

/- The door, walked: wants. -/
namespace Go.Proofs.YtfpmfegmehbfbaaGreatDoor
set_option linter.unusedVariables false
set_option linter.unusedSimpArgs false
set_option linter.unusedSimpArgs false
open Go.RowKit Go.Shelf Go.Maps

structure WSt (W1 : World) (b g6 : Nat) (d : DoorX) (now : Int) (q : QueR) (nA : Option Addr) (nc : Nat) (L : List AutR) (ns : List Int) (uA : Option Addr) (uc : Nat) (aA : Option Addr) (ac : Nat) (wr : World) : Prop where
  but : But b g6 W1 wr
  door : DoorB wr b (withU d L uA uc) now
  own : wr.ownsRow W1.heap.size 192 7 (.slice uA L.length uc) L.length (autV L)
  ord : Blk wr g6 109 #[.int .i64 ((d.ords.length : Int) + 1), .int .i64 q.acc, .slice nA q.names.length nc, .int .u64 (q.key : Int), .int .i64 q.life, .slice aA ns.length ac, .int .i64 1, .int .i64 0]
  num : wr.ownsRow W1.heap.size 3 1 (.slice aA ns.length ac) ns.length (iv ns)
section
variable {W1 : World} {b g6 : Nat} {d : DoorX} {now : Int} {q : QueR} {nA : Option Addr} {nc : Nat} {L : List AutR} {ns : List Int} {uA : Option Addr} {uc : Nat} {aA : Option Addr} {ac : Nat} {wr wr' : World}
theorem WSt.ext (h : WSt W1 b g6 d now q nA nc L ns uA uc aA ac wr) (x : Ext wr wr') : WSt W1 b g6 d now q nA nc L ns uA uc aA ac wr' :=
  ⟨h.but.ext x, DoorB.ext h.door x, own_ext h.own x, ext_blk x h.ord, own_ext h.num x⟩
theorem own_apart {w : World} {base : Nat} {e : TypeId} {size n : Nat} {v : Value} {xs : List Value} (h : w.ownsRow base e size v n xs) {k : Nat} (hk : k < base) : some k ≠ v.ownBlock := fun e => by have := (h.lt k e.symm).1; omega
theorem WSt.addN (h : WSt W1 b g6 d now q nA nc L ns uA uc aA ac wr) (hb : b < W1.heap.size) (hg : g6 < W1.heap.size) (hbg : b ≠ g6) {v : Value} (n : Int) (ho : wr'.ownsRow W1.heap.size 3 1 v (ns.length + 1) (iv ns ++ [.int .i64 n])) (hgr : wr.grownBy wr' (Value.slice aA ns.length ac).ownBlock) :
    Blk wr' g6 109 #[.int .i64 ((d.ords.length : Int) + 1), .int .i64 q.acc, .slice nA q.names.length nc, .int .u64 (q.key : Int), .int .i64 q.life, .slice aA ns.length ac, .int .i64 1, .int .i64 0] ∧ ∃ A c, v = .slice A (ns.length + 1) c ∧ WSt W1 b g6 d now q nA nc L (ns ++ [n]) uA uc A c (wr'.setCell ⟨g6, 5, none⟩ (.slice A (ns.length + 1) c)) := by
  have ho6 : Blk wr' g6 109 #[.int .i64 ((d.ords.length : Int) + 1), .int .i64 q.acc, .slice nA q.names.length nc, .int .u64 (q.key : Int), .int .i64 q.life, .slice aA ns.length ac, .int .i64 1, .int .i64 0] := Blk.grown h.ord hgr (own_apart h.num hg)
  obtain ⟨A, c, rfl, hc, -⟩ := own_slice2 ho
  have hl : (ns ++ [n]).length = ns.length + 1 := by simp
  refine ⟨ho6, A, c, rfl, (h.but.grown hgr (own_out h.num)).set (.inr (.inl rfl)) _, Blk.far (DoorB.grown h.door hgr (own_apart h.num hb)) hbg _, own_far (h.own.kept hgr (own_ne h.own h.num (by decide))) hg 5 _, ?_, ?_⟩
  · have := ho6.set_ 5 (.slice A (ns.length + 1) c)
    rw [hl]
    exact this
  · rw [hl, iv_append]
    exact own_far ho hg 5 _
theorem WSt.addU (h : WSt W1 b g6 d now q nA nc L ns uA uc aA ac wr) (hb : b < W1.heap.size) (hg : g6 < W1.heap.size) (hbg : b ≠ g6) {v : Value} (x : AutR) (ho : wr'.ownsRow W1.heap.size 192 7 v (L.length + 1) (autV L ++ [.int .i64 x.id, .int .i64 x.acc, .string x.name, .string x.tok, .int .i64 x.st, .int .i64 x.fr, .int .i64 x.un])) (hgr : wr.grownBy wr' (Value.slice uA L.length uc).ownBlock) :
    DoorB wr' b (withU d L uA uc) now ∧ ∃ A c, v = .slice A (L.length + 1) c ∧ WSt W1 b g6 d now q nA nc (L ++ [x]) ns A c aA ac (wr'.setCell ⟨b, 3, none⟩ (.slice A (L.length + 1) c)) := by
  have hd : DoorB wr' b (withU d L uA uc) now := DoorB.grown h.door hgr (own_apart h.own hb)
  obtain ⟨A, c, rfl, hc, -⟩ := own_slice2 ho
  have hl : (L ++ [x]).length = L.length + 1 := by simp
  refine ⟨hd, A, c, rfl, (h.but.grown hgr (own_out h.own)).set (.inl rfl) _, ?_, ?_, Blk.far (Blk.grown h.ord hgr (own_apart h.own hg)) (Ne.symm hbg) _, own_far (h.num.kept hgr (own_ne h.num h.own (by decide))) hb 3 _⟩
  · have := Blk.set_ hd 3 (.slice A (L.length + 1) c)
    unfold DoorB withU
    simp only
    rw [hl]
    exact this
  · rw [hl, autV_append]
    exact own_far ho hb 3 _
end
def wantSt (W1 : World) (b g6 : Nat) (d : DoorX) (now : Int) (q : QueR) (nA : Option Addr) (nc : Nat) (j : Nat) (wr : World) : Prop :=
  ∃ L ns uA uc aA ac, (q.names.take j).foldl (wantA q.acc now) (d.auts, []) = (L, ns) ∧ WSt W1 b g6 d now q nA nc L ns uA uc aA ac wr ∧
    L.length ≤ d.auts.length + j ∧ (∀ x ∈ L, AutW x) ∧ (∀ n ∈ ns, 1 ≤ n ∧ n ≤ L.length) ∧ ns.length = j
section
variable {W w : World} {g : Nat} {T : TypeId} {x0 x1 x2 x3 x4 x5 x6 x7 : Value}
set_option maxHeartbeats 4000000 in
theorem set8_blk (k : Blk W g T #[x0, x1, x2, x3, x4, x5, x6, x7]) (y0 y1 y2 y3 y4 y5 y6 y7 : Value) : Blk ((((((((W.setCell ⟨g, 0, none⟩ y0).setCell ⟨g, 1, none⟩ y1).setCell ⟨g, 2, none⟩ y2).setCell ⟨g, 3, none⟩ y3).setCell ⟨g, 4, none⟩ y4).setCell ⟨g, 5, none⟩ y5).setCell ⟨g, 6, none⟩ y6).setCell ⟨g, 7, none⟩ y7) g T #[y0, y1, y2, y3, y4, y5, y6, y7] :=
  (((((((k.set_ 0 y0).set_ 1 y1).set_ 2 y2).set_ 3 y3).set_ 4 y4).set_ 5 y5).set_ 6 y6).set_ 7 y7
set_option maxHeartbeats 4000000 in
theorem set8_ext (h : Ext w W) (hg : w.heap.size ≤ g) (y0 y1 y2 y3 y4 y5 y6 y7 : Value) : Ext w ((((((((W.setCell ⟨g, 0, none⟩ y0).setCell ⟨g, 1, none⟩ y1).setCell ⟨g, 2, none⟩ y2).setCell ⟨g, 3, none⟩ y3).setCell ⟨g, 4, none⟩ y4).setCell ⟨g, 5, none⟩ y5).setCell ⟨g, 6, none⟩ y6).setCell ⟨g, 7, none⟩ y7) :=
  (((((((h.setCell (p := ⟨g, 0, none⟩) hg _).setCell (p := ⟨g, 1, none⟩) hg _).setCell (p := ⟨g, 2, none⟩) hg _).setCell (p := ⟨g, 3, none⟩) hg _).setCell (p := ⟨g, 4, none⟩) hg _).setCell (p := ⟨g, 5, none⟩) hg _).setCell (p := ⟨g, 6, none⟩) hg _).setCell (p := ⟨g, 7, none⟩) hg _
set_option maxHeartbeats 4000000 in
theorem set8_own {base : Nat} {e : TypeId} {size n : Nat} {v : Value} {xs : List Value} (h : W.ownsRow base e size v n xs) (k : Blk W g T #[x0, x1, x2, x3, x4, x5, x6, x7]) (hne : e ≠ T) (y0 y1 y2 y3 y4 y5 y6 y7 : Value) : World.ownsRow ((((((((W.setCell ⟨g, 0, none⟩ y0).setCell ⟨g, 1, none⟩ y1).setCell ⟨g, 2, none⟩ y2).setCell ⟨g, 3, none⟩ y3).setCell ⟨g, 4, none⟩ y4).setCell ⟨g, 5, none⟩ y5).setCell ⟨g, 6, none⟩ y6).setCell ⟨g, 7, none⟩ y7) base e size v n xs := by
  have k0 := k.set_ 0 y0
  have k1 := k0.set_ 1 y1
  have k2 := k1.set_ 2 y2
  have k3 := k2.set_ 3 y3
  have k4 := k3.set_ 4 y4
  have k5 := k4.set_ 5 y5
  have k6 := k5.set_ 6 y6
  exact own_setT (own_setT (own_setT (own_setT (own_setT (own_setT (own_setT (own_setT h k hne 0 y0) k0 hne 1 y1) k1 hne 2 y2) k2 hne 3 y3) k3 hne 4 y4) k4 hne 5 y5) k5 hne 6 y6) k6 hne 7 y7
end
theorem Tryz.infoInt : (Tryz.prog.info? 3).map (fun i => (i.zero, i.size, i.bytes)) = some (some (.int .i64 0), 1, 8) := by kernel_rfl
end Go.Proofs.YtfpmfegmehbfbaaGreatDoor

/- A region that draws its order and ends in a row of stores into what it has read: the reads are taken first; from place L on each operation waits for all that was read, and need not keep it. -/
namespace Go.Proofs.YtfpmfegmehbfbaaGreatDoor
set_option linter.unusedVariables false
set_option linter.unusedSimpArgs false
set_option linter.unusedSimpArgs false
open Go.RowKit

section
variable {P : Program} {ops : Array Oper} {Q : Exit → Act → World → Prop} {md : Region.Mode} {S : World → Prop} {L : Nat}
def wpAnyF (P : Program) (md : Region.Mode) (ops : Array Oper) (Q : Exit → Act → World → Prop) (S : World → Prop) (L : Nat) : Nat → Array Bool → Act → World → Prop
  | 0, listed, a, w => Region.ready md ops listed = [] ∧ Q .normal a w
  | fuel + 1, listed, a, w =>
    (Region.ready md ops listed = [] → Q .normal a w) ∧
    ∀ i ∈ Region.ready md ops listed, wpOp P ops Q i (fun a' w' => (i < L → S w → S w') ∧ wpAnyF P md ops Q S L fuel (listed.setIfInBounds i true) a' w') a w
/-- Whatever the world. -/
theorem F_pure_first {i : Nat} {oi : Oper} {v : Value} (hi : ops[i]? = some oi) (hsel : ∀ (j : Nat) (o : Oper) cs b, ops[j]? = some o → o.op ≠ .select cs b)
    (hQ : ∀ c a w, Q (.panic c) (a.put oi.dst v) w → Q (.panic c) a w) :
    ∀ (fuel : Nat) (listed : Array Bool) (a : Act) (w : World),
      (∀ j oj, ops[j]? = some oj → j ≠ i → listed.getD j true = false → (∀ e ∈ oj.after, Region.binds md e = true → e.on ≠ i) → oi.apart ops oj = true) →
      i ∈ Region.ready md ops listed → YieldsIf P ops (fun _ => True) oi v a →
      wpAnyF P md ops Q S L fuel (listed.setIfInBounds i true) (a.put oi.dst v) w → wpAnyF P md ops Q S L (fuel + 1) listed a w := by
  intro fuel
  induction fuel with
  | zero =>
    intro listed a w _ hr hy H
    refine ⟨fun h => (by rw [h] at hr; cases hr), fun j hj => ?_⟩
    by_cases hji : j = i
    · subst hji; exact hy.wpOp hi trivial ⟨fun _ h => h, H⟩
    · have := ready_mono hj hji
      rw [H.1] at this
      cases this
  | succ fuel ih =>
    intro listed a w hfree hr hy H
    refine ⟨fun h => (by rw [h] at hr; cases hr), fun j hj => ?_⟩
    by_cases hji : j = i
    · subst hji; exact hy.wpOp hi trivial ⟨fun _ h => h, H⟩
    · have h1 := H.2 j (ready_mono hj hji)
      obtain ⟨hjun, oj, hoj, hall⟩ := mem_ready.1 hj
      have hnot : ∀ e ∈ oj.after, Region.binds md e = true → e.on ≠ i := fun e he hb heq => by
        have h1 := hall e he hb
        have h0 := (mem_ready.1 hr).1
        rw [heq] at h1
        rcases Nat.lt_or_ge i listed.size with h' | h'
        · simp [h'] at h0 h1; rw [h0] at h1; cases h1
        · simp [Array.getElem?_eq_none h'] at h1
      have h2 := wpOp_putIf hoj (hfree j oj hoj hji hjun hnot) (fun cs b => hsel i oi cs b hi) (fun cs b => hsel j oj cs b hoj) hQ hy h1
      have hfree' : ∀ k ok, ops[k]? = some ok → k ≠ i → (listed.setIfInBounds j true).getD k true = false →
          (∀ e ∈ ok.after, Region.binds md e = true → e.on ≠ i) → oi.apart ops ok = true := fun k ok hk hki hun hno => by
        refine hfree k ok hk hki ?_ hno
        by_cases hjk : j = k
        · subst hjk; exact hjun
        · rw [getD_set_ne true hjk] at hun; exact hun
      refine wpOp_mono (fun a' w' h3 => ⟨h3.2.1, ih (listed.setIfInBounds j true) a' w' hfree' (ready_mono hr (Ne.symm hji)) h3.1 ?_⟩) h2
      rw [Array.setIfInBounds_comm _ _ hji]
      exact h3.2.2
theorem F_pure {i : Nat} {oi : Oper} (d : Option Tmp) {v : Value} {fuel : Nat} {ls ls' : Array Bool} {a : Act} {w : World} (hi : ops[i]? = some oi) (hd : oi.dst = d) (hs : Region.noSelect ops = true) (hf : Region.free .any ops ls i = true) (hr : (Region.ready .any ops ls).contains i = true)
    (hl : ls.setIfInBounds i true = ls') (hw : Region.wanted oi (yielded ops a.tmps) = true) (hy : ∀ w, (execOp a.eval oi).run P w = .ok (.value v) w) (h : wpAnyF P .any ops (NoPanic Q) S L fuel ls' (a.put d v) w) :
    wpAnyF P .any ops (NoPanic Q) S L (fuel + 1) ls a w := by
  subst hl hd
  exact F_pure_first hi (Region.noSelect_spec hs) (fun _ _ _ h => h) fuel ls a w (Region.free_spec hi hf) (by simpa using hr) (.inl ⟨hw, fun w _ => hy w⟩) h
theorem F_pr {i : Nat} {oi : Oper} (d : Option Tmp) {v : Value} {fuel : Nat} {ls : Array Bool} {a : Act} {w : World} (hi : ops[i]? = some oi) (hd : oi.dst = d)
    (hb : (Region.noSelect ops && Region.free .any ops ls i && (Region.ready .any ops ls).contains i && Region.wanted oi (yielded ops a.tmps)) = true)
    (hy : ∀ w, (execOp a.eval oi).run P w = .ok (.value v) w) (h : wpAnyF P .any ops (NoPanic Q) S L fuel (ls.setIfInBounds i true) (a.put d v) w) :
    wpAnyF P .any ops (NoPanic Q) S L (fuel + 1) ls a w := by
  simp only [Bool.and_eq_true] at hb
  obtain ⟨⟨⟨h1, h2⟩, h3⟩, h4⟩ := hb
  exact F_pure d hi hd h1 h2 h3 rfl h4 hy h
theorem F_wy {fuel : Nat} {ls : Array Bool} {a : Act} {w : World} {i : Nat} {o : Oper} (hi : ops[i]? = some o) (hw : Region.wanted o (yielded ops a.tmps) = true)
    (h : ∀ K : Act → World → Prop, (∀ a w', (i < L → S w → S w') → wpAnyF P .any ops (NoPanic Q) S L fuel (ls.setIfInBounds i true) a w' → K a w') → o.wp P a w K (NoPanic Q)) :
    ∃ o, ops[i]? = some o ∧ Region.wanted o (yielded ops a.tmps) = true ∧ ∀ K : Act → World → Prop, (∀ a w', (i < L → S w → S w') → wpAnyF P .any ops (NoPanic Q) S L fuel (ls.setIfInBounds i true) a w' → K a w') → o.wp P a w K (NoPanic Q) :=
  ⟨o, hi, hw, h⟩
end
end Go.Proofs.YtfpmfegmehbfbaaGreatDoor
