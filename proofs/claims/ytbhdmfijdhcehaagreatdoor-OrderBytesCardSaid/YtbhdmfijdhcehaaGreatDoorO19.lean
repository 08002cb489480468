/- Parts of the proofs, put together: OrS, Or28, OrE, Or29, Or30, Or31, Or32, Or33, Or34, OrLit, Or35, Or36, Or37, Or38, OrF. -/
import Derived.Deep.RegionLaw
import Derived.Deep.DrawnRows
import Derived.StillTail
import Derived.MapKept
import Derived.Test.YtbhdmfijdhcehaaGreatDoorO17
import Derived.Test.YtbhdmfijdhcehaaGreatDoorO18
/- A step of a region that draws its order: a call of a function, by its contract. -/
namespace Go.Proofs.YtbhdmfijdhcehaaGreatDoor
set_option linter.unusedVariables false
set_option linter.unusedSimpArgs false
set_option linter.unusedSimpArgs false
open Go.RowKit Go.Shelf Go.Maps

theorem step_call {P : Program} {ops : Array Oper} {o : Oper} {a : Act} {w : World} {K : Act → World → Prop} {Q : Exit → Act → World → Prop} {E : Prop} (hgd : o.guard = none) (F : FuncId) (xs : Array Operand) (ts : Array TypeId)
    (ho : o.op = Op.call { callee := Callee.value (Operand.func F), args := xs, argTypes := ts }) (hE : Enters P F) (vs : Array Value) (hv : xs.map a.eval = vs) {post : Ending → World → Prop} (hc : Calls P F vs w post)
    (h : ∀ e w', post e w' → ∃ v, e = .returned v ∧ K (a.put o.dst v) w') : if Region.wanted o (yielded ops a.tmps) = true then Oper.wp P o a w K Q else E := by
  have hw : Region.wanted o (yielded ops a.tmps) = true := by simp [Region.wanted, hgd]
  rw [if_pos hw]
  unfold Oper.wp execOp
  have hE2 := hE vs w
  simp only [ho, resolve, Deferred.ofValue, Act.eval, invoke, Sem.run_bind, Sem.run_pure, Result.andThen_ok, Array.append_empty]
  rw [show Array.map (Act.eval a) xs = vs from hv]
  simp only [Array.append_empty, Array.empty_append, hE2, Oper.upon]
  refine hc.mono fun e w' he => ?_
  obtain ⟨v, rfl, hk⟩ := h e w' he
  exact hk
theorem step_call1 {P : Program} {ops : Array Oper} {o : Oper} {a : Act} {w : World} {K : Act → World → Prop} {Q : Exit → Act → World → Prop} {E : Prop} (hgd : o.guard = none) (F : FuncId) (x : Operand) (ts : Array TypeId)
    (ho : o.op = Op.call { callee := Callee.value (Operand.func F), args := #[x], argTypes := ts }) (hE : Enters P F) (v : Value) (hv : a.eval x = v) {post : Ending → World → Prop} (hc : Calls P F #[v] w post)
    (h : ∀ e w', post e w' → ∃ v, e = .returned v ∧ K (a.put o.dst v) w') : if Region.wanted o (yielded ops a.tmps) = true then Oper.wp P o a w K Q else E :=
  step_call hgd F #[x] ts ho hE #[v] (by simp [hv]) hc h
end Go.Proofs.YtbhdmfijdhcehaaGreatDoor

/- The door, walked: joins. -/
namespace Go.Proofs.YtbhdmfijdhcehaaGreatDoor
set_option linter.unusedVariables false
set_option linter.unusedSimpArgs false
set_option linter.unusedSimpArgs false
open Go.RowKit Go.Shelf Go.Maps
attribute [local go_sem ↓] Go.wp_at_zero Go.wp_at_succ

def withC (d : DoorX) (l : List AccR) (A : Option Addr) (c : Nat) : DoorX := { d with accs := l, cA := A, cc := c }
theorem withC_w {w : World} {B : Nat} {d : DoorX} {l : List AccR} {A : Option Addr} {c : Nat} (h : DoorW w B d) (hr : Reads w B 2 A l.length (accV l)) (hc : l.length ≤ c) (hl : l.length ≤ 1099511627776) (hw : ∀ x ∈ l, AccW x) : DoorW w B (withC d l A c) :=
  ⟨h.non, h.ser, hr, hc, hl, hw, h.aut, h.uc, h.ul, h.uw, h.ord, h.rc, h.rl, h.rw⟩
theorem withC_l {S S' : Nat → Prop} {d : DoorX} {l : List AccR} {A : Option Addr} {c : Nat} (h : DoorL S d) (k : ∀ b, S b → S' b) (ha : Lies S' A l.length) : DoorL S' (withC d l A c) :=
  ⟨h.o.mono k, ha, h.u.mono k, h.r.mono k, fun x hx => (h.n x hx).mono k, fun x hx => (h.a x hx).mono k⟩
theorem joins1_enters : Enters Tryz.prog 99 := enters_of Tryz.func99 (by kernel_rfl) rfl
theorem joins1_any (x : AccR) (k : Nat) (g : Nat) (w : World) (h : w.cell? ⟨g, 3, none⟩ = some (.int .u64 (k : Int))) :
    Calls Tryz.prog 99 #[.agg #[.int .i64 x.id, .int .u64 (x.key : Int)], .pointer (some ⟨g, 0, none⟩)] w fun e w' => e = .returned (.bool (decide (x.key = k))) ∧ Ext w w' := by
  have h2 := (Ext.refl w).alloc (.cells #[.int .i64 x.id, .int .u64 (x.key : Int)] 75) |>.cell h
  go_enter Tryz.func99, Tryz.ntmps99
  go_wp2
  go_ret
  refine ⟨ret_bool ?_, (Ext.refl w).alloc _⟩
  rw [Bool.eq_iff_iff]; simp; omega
theorem reads_new2 (W : World) (T : TypeId) (x y : Value) : Reads (W.alloc (.cells #[x, y] T)) (W.alloc (.cells #[x, y] T)).heap.size 2 (some ⟨W.heap.size, 0, none⟩) 1 [x, y] :=
  ⟨rfl, fun _ => ⟨_, rfl, by simp, cell_two_new W x y T⟩⟩
theorem cloneA_enters : Enters Tryz.prog 100 := enters_of Tryz.func100 (by kernel_rfl) rfl
theorem dfro_accs (d : DoorX) : d.fro.accs = d.accs := rfl
set_option maxRecDepth 100000 in
set_option maxHeartbeats 8000000 in
theorem joins_any (b : Nat) (d : DoorX) (now : Int) (q : QueR) (A : Option Addr) (c : Nat) (w : World) (hw : DoorW w w.heap.size d) (hL : DoorL (fun k => k ≠ b) d) (h : DoorB w b d now) (hk : q.key < 18446744073709551616) (ha9 : d.accs.length < 100) :
    Calls Tryz.prog 49 #[.pointer (some ⟨b, 0, none⟩), queV q A c] w (methPost b d now (joinF d.fro q) w) := by
  obtain ⟨W0, e0⟩ : ∃ W, w.alloc (.cells #[.int .i64 q.kind, .int .i64 q.acc, .int .i64 q.nonce, .int .u64 (q.key : Int), .slice A q.names.length c, .int .i64 q.life, .int .i64 q.id, .int .u64 (q.e : Int), .int .u64 (q.s : Int)] 27) = W := ⟨_, rfl⟩
  have x0 : Ext w W0 := by rw [← e0]; exact (Ext.refl w).alloc _
  have b0 : QueB W0 w.heap.size q A c := by rw [← e0]; exact Blk.new w _ _
  have c1 := indexA_any _ joins1_enters #[.pointer (some ⟨w.heap.size, 0, none⟩)] (fun a => decide (a.key = q.key)) d.accs hw.cl d.cA d.cc W0 ((hw.acc.below x0.out).more x0.size)
    (fun W s hs x => joins1_any s q.key w.heap.size W (x.cell (Blk.cell b0 3)))
  have cC : ∀ W, Ext W0 W → Calls Tryz.prog 100 #[.slice d.cA d.accs.length d.cc] W fun e w' => ∃ v, e = .returned v ∧ w'.ownsRow W0.heap.size 75 2 v d.accs.length (accV d.accs) ∧ Ext W w' := fun W x =>
    (cloneA_any d.cA d.accs.length d.cc (accV d.accs) (accV_one _) hw.cl W ((hw.acc.below (x0.trans x).out).more (x0.trans x).size)).mono fun e w' ⟨v, h1, h2, h3⟩ => ⟨v, h1, own_base h2 x.size, h3⟩
  have s0 : w.heap.size < W0.heap.size := Blk.lt b0
  have HW := Lib.hid hw
  have HL := Lib.hid hL
  have HD := Lib.hid h
  have HB := Lib.hid b0
  have HX := Lib.hid x0
  have HS0 := Lib.hid s0
  have HK := Lib.hid hk
  have HA9 := Lib.hid ha9
  obtain ⟨a0, a1, a2, a3, a4, a5, a6⟩ := arr7 (DoorB.ext h x0)
  have hcl : (d.accs.length : Int) ≤ 1099511627776 := by have := hw.cl; omega
  unfold queV
  clear hw hL h b0 x0 s0 hk ha9
  go_enter Tryz.func49, Tryz.ntmps49
  go_upto_region 1 with (fail)
  try rw [e0]
  clear e0
  cases hf : d.accs.findIdx? (fun a => decide (a.key = q.key)) with
  | some i =>
    have HR : Hid (joinF d.fro q = (d.fro, (i : Int) + 1, 0)) := Lib.hid (by unfold joinF; rw [dfro_accs, hf])
    have hil := (List.findIdx?_eq_some_iff_getElem.1 hf).1
    have hib : (i : Int) ≤ 1099511627776 := by omega
    rw [show ixG (fun a : AccR => decide (a.key = q.key)) d.accs = (i : Int) by unfold ixG; rw [hf]] at c1
    clear hf hil cC
    go_wp2_with (go_at_call 98; refine c1.mono ?_; clear c1; rintro e w1 ⟨rfl, x1⟩)
    go_ret2
    rw [HR.out]
    have x9 := HX.out.trans x1
    exact ⟨rfl, grown_ext x9 (some b), fun _ => ⟨d, rfl, DoorB.ext HD.out x9, HW.out.ext x9, fun S hS => hS.mono (fun k hk => .inl hk)⟩⟩
  | none =>
    rw [show ixG (fun a : AccR => decide (a.key = q.key)) d.accs = -1 by unfold ixG; rw [hf]] at c1
    have hR0 : joinF d.fro q = if d.accs.length = 64 then bad 2 else ({ d.fro with accs := d.accs ++ [⟨(d.accs.length : Int) + 1, q.key⟩] }, (d.accs.length : Int) + 1, 0) := by unfold joinF; rw [dfro_accs, hf]
    clear hf
    by_cases g1 : d.accs.length = 64
    · rw [if_pos g1] at hR0
      have HR := Lib.hid hR0
      have d1 : ((d.accs.length : Int) == 64) = true := by rw [g1]; rfl
      clear g1 hR0 cC
      go_wp2_with (go_at_call 98; refine c1.mono ?_; clear c1; rintro e w1 ⟨rfl, x1⟩; clear a0 a1 a2 a3 a4 a5 a6; obtain ⟨a0, a1, a2, a3, a4, a5, a6⟩ := arr7 (DoorB.ext HD.out (HX.out.trans x1)))
      go_ret2
      rw [HR.out]
      exact methPost_bad (E := 2) (by decide) rfl (grown_ext (HX.out.trans x1) (some b))
    rw [if_neg g1] at hR0
    have HR := Lib.hid hR0
    have d1 : ((d.accs.length : Int) == 64) = false := by rw [beq_eq_false_iff_ne]; omega
    obtain ⟨i0, hi, hz0, hz1, hz2⟩ := info_parts Tryz.infoAcc
    clear g1 hR0
    go_wp2_with (go_at_call 98; refine c1.mono ?_; clear c1; rintro e w1 ⟨rfl, x1⟩; clear a0 a1 a2 a3 a4 a5 a6; obtain ⟨a0, a1, a2, a3, a4, a5, a6⟩ := arr7 (DoorB.ext HD.out (HX.out.trans x1)); have k3 := (ext_blk x1 HB.out).cell 3; have HX1 := Lib.hid x1; clear x1)
    have hsum : IntKind.i64.wrap ((d.accs.length : Int) + 1) = (d.accs.length : Int) + 1 := by rw [IntKind.wrap_i64]; omega
    have hb2 : Hid (b < W0.heap.size) := Lib.hid (by have := Blk.lt HD.out; have := HS0.out; omega)
    clear a0 a1 a3 a4 a5 a6
    have a2x := fun o => (((Ext.refl w1).alloc o).drew).cell a2
    have k3x := fun o => (((Ext.refl w1).alloc o).drew).cell k3
    go_region_law (first
      | ((first | (refine step_call1 (by rfl) 100 (.tmp 31) #[39] (by rfl) cloneA_enters (.slice d.cA d.accs.length d.cc) (by rfl) (cC _ (HX1.out.drew)) ?_) | (refine step_call1 (by rfl) 100 (.tmp 31) #[39] (by rfl) cloneA_enters (.slice d.cA d.accs.length d.cc) (by rfl) (cC _ (HX1.out.drew.alloc _)) ?_)); clear cC; rintro e w2 ⟨v, rfl, ho2, x2⟩; refine ⟨v, rfl, ?_⟩; have X2 : Ext W0 w2 := (by first | exact HX1.out.drew.trans x2 | exact (HX1.out.drew.alloc _).trans x2); clear a2 k3 a2x k3x; obtain ⟨-, -, a2, -⟩ := arr7 (DoorB.ext HD.out (HX.out.trans X2)); have k3 := (ext_blk X2 HB.out).cell 3; have HO2 := Lib.hid ho2; have HX2 := Lib.hid X2; have HY2 := Lib.hid x2; clear ho2 X2 x2)
      | ((first | ((refine step_append_any (w2.alloc (.cells #[.int .i64 ((d.accs.length : Int) + 1), .int .u64 (q.key : Int)] 75)) ?q1 (.tmp 32) (.tmp 38) 39 ?q2 W0.heap.size 75 i0 (.agg #[.int .i64 0, .int .u64 0]) 2 16 Tryz.underlying39 hi hz0 hz1 hz2 rfl (by decide) v d.accs.length (accV d.accs) ?q3 (HO2.out.alloc _) (w2.alloc (.cells #[.int .i64 ((d.accs.length : Int) + 1), .int .u64 (q.key : Int)] 75)).heap.size (some ⟨w2.heap.size, 0, none⟩) 1 1 [.int .i64 ((d.accs.length : Int) + 1), .int .u64 (q.key : Int)] ?q4 ?q5 ?q6 ?q7 ?q8 ?q9 ?_; (case q1 => rfl); (case q2 => rfl); (case q3 => rfl); (case q4 => rfl); (case q5 => exact (reads_new2 _ _ _ _)); (case q6 => simp [Value.oneCell']); (case q7 => simp only [maxLen]; omega); (case q8 => omega); (case q9 => (have := HX2.out.size; simp; omega)))) | (refine step_append_any w2 ?q1 (.tmp 32) (.tmp 38) 39 ?q2 W0.heap.size 75 i0 (.agg #[.int .i64 0, .int .u64 0]) 2 16 Tryz.underlying39 hi hz0 hz1 hz2 rfl (by decide) v d.accs.length (accV d.accs) ?q3 HO2.out w2.heap.size (some ⟨w1.heap.size, 0, none⟩) 1 1 [.int .i64 ((d.accs.length : Int) + 1), .int .u64 (q.key : Int)] ?q4 ?q5 ?q6 ?q7 ?q8 ?q9 ?_; (case q1 => rfl); (case q2 => rfl); (case q3 => rfl); (case q4 => rfl); (case q5 => exact ((reads_new2 _ _ _ _).drew.below HY2.out.out).more HY2.out.size); (case q6 => simp [Value.oneCell']); (case q7 => simp only [maxLen]; omega); (case q8 => omega); (case q9 => (have := HX2.out.size; simp; omega)))); intro v4 w4 hown4 hg4 _; obtain ⟨A4, c4, rfl, hc4, -⟩ := own_slice2 hown4; have HC4 := Lib.hid hc4; clear hc4; have X4 : Ext W0 w4 := (by first | exact ext_grown HX2.out HO2.out hg4 | exact ext_grown (HX2.out.alloc _) (HO2.out.alloc _) hg4); clear a2 k3; obtain ⟨-, -, a2, -⟩ := arr7 (DoorB.ext HD.out (HX.out.trans X4)); have k3 := (ext_blk X4 HB.out).cell 3; have f2 := (DoorB.ext HD.out (HX.out.trans X4)).frozen 2; have HO4 := Lib.hid hown4; have HX4 := Lib.hid X4; clear hown4 hg4 X4))
    all_goals (
      go_wp2
      go_ret2
      rw [HR.out]
      have hbb := hb2.out
      have hs0 := HS0.out
      have hlen : (d.accs ++ [AccR.mk ((d.accs.length : Int) + 1) q.key]).length = d.accs.length + 1 := by simp
      have ho5 := own_far HO4.out hbb 2 (.slice A4 (d.accs.length + 1) c4)
      rw [show accV d.accs ++ [.int .i64 ((d.accs.length : Int) + 1), .int .u64 (q.key : Int)] = accV (d.accs ++ [AccR.mk ((d.accs.length : Int) + 1) q.key]) by rw [accV_append]; rfl] at ho5
      have hg5 : w.grownBy (w4.setCell ⟨b, 2, none⟩ (.slice A4 (d.accs.length + 1) c4)) (some b) := (grown_ext (HX.out.trans HX4.out) (some b)).trans (grown_set _ _ _ _)
      refine ⟨rfl, hg5, fun _ => ⟨withC d (d.accs ++ [AccR.mk ((d.accs.length : Int) + 1) q.key]) A4 c4, rfl, ?_, ?_, fun S hS => ?_⟩⟩
      · have := (DoorB.ext HD.out (HX.out.trans HX4.out)).set_ 2 (.slice A4 (d.accs.length + 1) c4)
        unfold DoorB withC
        simp only
        rw [hlen]
        exact this
      · have hr := Reads.of_own ho5
        refine withC_w (HW.out.grownTo HL.out hg5) (by rw [hlen]; exact hr) (by rw [hlen]; exact HC4.out) (by rw [hlen]; have := HA9.out; omega) (fun y hy => ?_)
        rcases List.mem_append.1 hy with hy | hy
        · exact HW.out.cw y hy
        · rw [List.mem_singleton] at hy
          subst hy
          exact ⟨wf64_of (by simp only; omega) (by simp only; omega), HK.out⟩
      · refine withC_l hS (fun k hk => .inl hk) ?_
        rw [hlen]
        exact Lies.own ho5 (fun k hk => .inr (by omega)))
end Go.Proofs.YtbhdmfijdhcehaaGreatDoor

/- A region that draws its order and ends in a store into what it has read: the reads are taken first; the last operation, which waits for all, need not keep what they read. -/
namespace Go.Proofs.YtbhdmfijdhcehaaGreatDoor
set_option linter.unusedVariables false
set_option linter.unusedSimpArgs false
set_option linter.unusedSimpArgs false
open Go.RowKit

section
variable {P : Program} {ops : Array Oper} {Q : Exit → Act → World → Prop} {md : Region.Mode} {S : World → Prop} {L : Nat}
def wpAnyE (P : Program) (md : Region.Mode) (ops : Array Oper) (Q : Exit → Act → World → Prop) (S : World → Prop) (L : Nat) : Nat → Array Bool → Act → World → Prop
  | 0, listed, a, w => Region.ready md ops listed = [] ∧ Q .normal a w
  | fuel + 1, listed, a, w =>
    (Region.ready md ops listed = [] → Q .normal a w) ∧
    ∀ i ∈ Region.ready md ops listed, wpOp P ops Q i (fun a' w' => (i ≠ L → S w') ∧ wpAnyE P md ops Q S L fuel (listed.setIfInBounds i true) a' w') a w
theorem any_of_E : ∀ (fuel : Nat) (listed : Array Bool) (a : Act) (w : World), wpAnyE P md ops Q S L fuel listed a w → wpAny P md ops Q fuel listed a w
  | 0, _, _, _, h => h
  | fuel + 1, _, _, _, h => ⟨h.1, fun i hi => wpOp_mono (fun a' w' h' => any_of_E fuel _ a' w' h'.2) (h.2 i hi)⟩
theorem E_first {i : Nat} {oi : Oper} {v : Value} (hi : ops[i]? = some oi) (hsel : ∀ (j : Nat) (o : Oper) cs b, ops[j]? = some o → o.op ≠ .select cs b)
    (hQ : ∀ c a w, Q (.panic c) (a.put oi.dst v) w → Q (.panic c) a w) (hL : Region.waitsFor md ops L i = true) :
    ∀ (fuel : Nat) (listed : Array Bool) (a : Act) (w : World),
      (∀ j oj, ops[j]? = some oj → j ≠ i → listed.getD j true = false → (∀ e ∈ oj.after, Region.binds md e = true → e.on ≠ i) → oi.apart ops oj = true) →
      i ∈ Region.ready md ops listed → YieldsIf P ops S oi v a → S w →
      wpAnyE P md ops Q S L fuel (listed.setIfInBounds i true) (a.put oi.dst v) w → wpAnyE P md ops Q S L (fuel + 1) listed a w := by
  intro fuel
  induction fuel with
  | zero =>
    intro listed a w _ hr hy hS H
    refine ⟨fun h => (by rw [h] at hr; cases hr), fun j hj => ?_⟩
    by_cases hji : j = i
    · subst hji; exact hy.wpOp hi hS ⟨fun _ => hS, H⟩
    · have := ready_mono hj hji
      rw [H.1] at this
      cases this
  | succ fuel ih =>
    intro listed a w hfree hr hy hS H
    refine ⟨fun h => (by rw [h] at hr; cases hr), fun j hj => ?_⟩
    by_cases hji : j = i
    · subst hji; exact hy.wpOp hi hS ⟨fun _ => hS, H⟩
    · have h1 := H.2 j (ready_mono hj hji)
      obtain ⟨hjun, oj, hoj, hall⟩ := mem_ready.1 hj
      have hnot : ∀ e ∈ oj.after, Region.binds md e = true → e.on ≠ i := fun e he hb heq => by
        have h1 := hall e he hb
        have h0 := (mem_ready.1 hr).1
        rw [heq] at h1
        rcases Nat.lt_or_ge i listed.size with h' | h'
        · simp [h'] at h0 h1; rw [h0] at h1; cases h1
        · simp [Array.getElem?_eq_none h'] at h1
      have hjL : j ≠ L := fun e => by
        obtain ⟨ol, hol, x, hx, hb, hon⟩ := Region.waitsFor_spec hL
        rw [← e, hoj] at hol
        cases hol
        exact hnot x hx hb hon
      have h2 := wpOp_putIf hoj (hfree j oj hoj hji hjun hnot) (fun cs b => hsel i oi cs b hi) (fun cs b => hsel j oj cs b hoj) hQ hy h1
      have hfree' : ∀ k ok, ops[k]? = some ok → k ≠ i → (listed.setIfInBounds j true).getD k true = false →
          (∀ e ∈ ok.after, Region.binds md e = true → e.on ≠ i) → oi.apart ops ok = true := fun k ok hk hki hun hno => by
        refine hfree k ok hk hki ?_ hno
        by_cases hjk : j = k
        · subst hjk; exact hjun
        · rw [getD_set_ne true hjk] at hun; exact hun
      refine wpOp_mono (fun a' w' h3 => ⟨fun _ => h3.2.1 hjL, ih (listed.setIfInBounds j true) a' w' hfree' (ready_mono hr (Ne.symm hji)) h3.1 (h3.2.1 hjL) ?_⟩) h2
      rw [Array.setIfInBounds_comm _ _ hji]
      exact h3.2.2
theorem E_start {id n : Nat} {ls : Array Bool} {a : Act} {w : World} (S : World → Prop) (L : Nat) (hm : P.follows .mixedOrders = true) (hn : ops.size = n) (h0 : Array.replicate ops.size false = ls) (hS : S w.drew)
    (h : S w.drew → wpAnyE P .any ops (NoPanic Q) S L n ls a w.drew) : (Code.region id ops true).wp P Q a w := by
  refine wp_region_noPanic (wp_region_any hm (any_of_E (S := S) (L := L) _ _ _ _ ?_))
  rw [h0, hn]
  exact h hS
theorem E_take {i : Nat} {oi : Oper} (d : Option Tmp) {v : Value} {fuel : Nat} {ls ls' : Array Bool} {a : Act} {w : World} (hi : ops[i]? = some oi) (hd : oi.dst = d) (hs : Region.noSelect ops = true) (hf : Region.free .any ops ls i = true) (hr : (Region.ready .any ops ls).contains i = true) (hL : Region.waitsFor .any ops L i = true)
    (hl : ls.setIfInBounds i true = ls') (hw : Region.wanted oi (yielded ops a.tmps) = true) (hy : ∀ w, S w → (execOp a.eval oi).run P w = .ok (.value v) w) (hS : S w) (h : wpAnyE P .any ops (NoPanic Q) S L fuel ls' (a.put d v) w) :
    wpAnyE P .any ops (NoPanic Q) S L (fuel + 1) ls a w := by
  subst hl hd
  exact E_first hi (Region.noSelect_spec hs) (fun _ _ _ h => h) hL fuel ls a w (Region.free_spec hi hf) (by simpa using hr) (.inl ⟨hw, hy⟩) hS h
/-- One alone may come up: a call, an alloc, an append. -/
theorem E_one {i : Nat} {o : Oper} {fuel : Nat} {ls ls' : Array Bool} {a : Act} {w : World} (hi : ops[i]? = some o) (hr : Region.ready .any ops ls = [i]) (hl : ls.setIfInBounds i true = ls') (hw : Region.wanted o (yielded ops a.tmps) = true)
    (h : ∀ K : Act → World → Prop, (∀ a w, (i ≠ L → S w) → wpAnyE P .any ops (NoPanic Q) S L fuel ls' a w → K a w) → o.wp P a w K (NoPanic Q)) : wpAnyE P .any ops (NoPanic Q) S L (fuel + 1) ls a w := by
  subst hl
  refine ⟨(fun h0 => by rw [hr] at h0; cases h0), (fun j hj => ?_)⟩
  rw [hr] at hj
  obtain rfl : j = i := by simpa using hj
  unfold wpOp
  simp only [hi, hw, if_true]
  exact .inl (h _ fun a w h1 h2 => ⟨h1, h2⟩)
/-- Two may come up. -/
theorem E_two {i k : Nat} {o o' : Oper} {fuel : Nat} {ls ls1 ls2 : Array Bool} {a : Act} {w : World} (hi : ops[i]? = some o) (hk : ops[k]? = some o') (hr : Region.ready .any ops ls = [i, k]) (hl : ls.setIfInBounds i true = ls1) (hl' : ls.setIfInBounds k true = ls2)
    (hw : Region.wanted o (yielded ops a.tmps) = true) (hw' : Region.wanted o' (yielded ops a.tmps) = true)
    (h : ∀ K : Act → World → Prop, (∀ a w, (i ≠ L → S w) → wpAnyE P .any ops (NoPanic Q) S L fuel ls1 a w → K a w) → o.wp P a w K (NoPanic Q))
    (h' : ∀ K : Act → World → Prop, (∀ a w, (k ≠ L → S w) → wpAnyE P .any ops (NoPanic Q) S L fuel ls2 a w → K a w) → o'.wp P a w K (NoPanic Q)) : wpAnyE P .any ops (NoPanic Q) S L (fuel + 1) ls a w := by
  subst hl hl'
  refine ⟨(fun h0 => by rw [hr] at h0; cases h0), (fun j hj => ?_)⟩
  rw [hr] at hj
  rcases List.mem_cons.1 hj with rfl | hj
  · unfold wpOp
    simp only [hi, hw, if_true]
    exact .inl (h _ fun a w h1 h2 => ⟨h1, h2⟩)
  · obtain rfl : j = k := by simpa using hj
    unfold wpOp
    simp only [hk, hw', if_true]
    exact .inl (h' _ fun a w h1 h2 => ⟨h1, h2⟩)
theorem E_done {fuel : Nat} {ls : Array Bool} {a : Act} {w : World} (hr : Region.ready .any ops ls = []) (h : Q .normal a w) : wpAnyE P .any ops (NoPanic Q) S L fuel ls a w := by
  cases fuel with
  | zero => exact ⟨hr, NoPanic.normal h⟩
  | succ n => exact ⟨fun _ => NoPanic.normal h, by rw [hr]; simp⟩
end
end Go.Proofs.YtbhdmfijdhcehaaGreatDoor

/- The door, walked: wants. -/
namespace Go.Proofs.YtbhdmfijdhcehaaGreatDoor
set_option linter.unusedVariables false
set_option linter.unusedSimpArgs false
set_option linter.unusedSimpArgs false
open Go.RowKit Go.Shelf Go.Maps

/-! ### a world that is as it was but for two blocks -/
structure But (b g : Nat) (w w' : World) : Prop where
  os : w'.os = w.os
  tape : w'.tape = w.tape
  output : w'.output = w.output
  size : w.heap.size ≤ w'.heap.size
  block : ∀ k, k < w.heap.size → k ≠ b → k ≠ g → w'.heap[k]? = w.heap[k]?
section
variable {b g : Nat} {w w1 w2 : World}
theorem But.refl (b g : Nat) (w : World) : But b g w w := ⟨rfl, rfl, rfl, Nat.le_refl _, fun _ _ _ _ => rfl⟩
theorem But.ext (h : But b g w w1) (x : Ext w1 w2) : But b g w w2 := ⟨x.out.os.trans h.os, x.out.tape.trans h.tape, x.out.output.trans h.output, Nat.le_trans h.size x.size, fun k hk h1 h2 => (x.out.block k (Nat.lt_of_lt_of_le hk h.size)).trans (h.block k hk h1 h2)⟩
theorem But.set (h : But b g w w1) {p : Addr} (hp : p.block = b ∨ p.block = g ∨ w.heap.size ≤ p.block) (u : Value) : But b g w (w1.setCell p u) :=
  ⟨h.os, h.tape, h.output, Nat.le_trans h.size (KeepsWalks.setCell w1 p u).size, fun k hk h1 h2 => (Below.heap_setCell w1 p u k (by omega)).trans (h.block k hk h1 h2)⟩
theorem But.grown (h : But b g w w1) {row : Option Nat} (x : w1.grownBy w2 row) (hr : ∀ k, row = some k → w.heap.size ≤ k) : But b g w w2 :=
  ⟨x.os.trans h.os, x.tape.trans h.tape, x.output.trans h.output, Nat.le_trans h.size x.size, fun k hk h1 h2 => (x.block k (Nat.lt_of_lt_of_le hk h.size) (fun e => by have := hr k e.symm; omega)).trans (h.block k hk h1 h2)⟩
theorem But.blk (h : But b g w w1) {k : Nat} {T : TypeId} {cs : Array Value} (hb : Blk w k T cs) (h1 : k ≠ b) (h2 : k ≠ g) : Blk w1 k T cs := (h.block k hb.lt h1 h2).trans hb
theorem But.out (h : But b g w w1) (hg : w.heap.size ≤ g) : w.grownBy w1 (some b) := ⟨h.os, h.tape, h.output, h.size, fun k hk hr => h.block k hk (by simpa using hr) (by omega)⟩
theorem But.from (h : But b g w1 w2) (x : Ext w w1) (hg : w.heap.size ≤ g) : w.grownBy w2 (some b) :=
  ⟨h.os.trans x.out.os, h.tape.trans x.out.tape, h.output.trans x.out.output, Nat.le_trans x.size h.size, fun k hk hr => (h.block k (Nat.lt_of_lt_of_le hk x.size) (by simpa using hr) (by omega)).trans (x.out.block k hk)⟩
end
theorem own_ne {w : World} {b1 b2 : Nat} {e1 e2 : TypeId} {s1 s2 n1 n2 : Nat} {v1 v2 : Value} {x1 x2 : List Value} (h1 : w.ownsRow b1 e1 s1 v1 n1 x1) (h2 : w.ownsRow b2 e2 s2 v2 n2 x2) (hne : e1 ≠ e2) : v1.ownBlock = none ∨ v1.ownBlock ≠ v2.ownBlock := by
  rcases h2.2 with ⟨rfl, _⟩ | ⟨g', cap, cur, rfl, _, hh, _⟩
  · cases h : v1.ownBlock with
    | none => exact .inl rfl
    | some k => exact .inr (by simp [Value.ownBlock])
  · exact .inr (fun e => own_blk_ne h1 (g := g') (t := e2) hh hne (by rw [e]; rfl))
/-- A row of one's own while a block of another type is written. -/
theorem own_setT {w : World} {base : Nat} {e : TypeId} {size n : Nat} {v : Value} {xs : List Value} (h : w.ownsRow base e size v n xs) {g : Nat} {t : TypeId} {cs : Array Value} (hg : Blk w g t cs) (hne : e ≠ t) (i : Nat) (u : Value) : (w.setCell ⟨g, i, none⟩ u).ownsRow base e size v n xs := by
  refine h.kept (grown_set w g i u) ?_
  cases hb : v.ownBlock with
  | none => exact .inl rfl
  | some k => exact .inr (fun e => own_blk_ne h hg hne (by rw [hb, e]))

/-! ### is there one that may be used again -/
def sameA (acc now : Int) (s : ByteArray) (a : AutR) : Bool := decide (a.acc = acc) && decide (a.name = s) && decide (a.st = 3) && decide (now < a.un)
theorem wants1_enters : Enters Tryz.prog 103 := enters_of Tryz.func103 (by kernel_rfl) rfl
set_option maxRecDepth 100000 in
set_option maxHeartbeats 4000000 in
theorem wants1_any (x : AutR) (acc now : Int) (s : ByteArray) (gq gs gd b : Nat) (w : World) (h1 : w.cell? ⟨gq, 1, none⟩ = some (.int .i64 acc)) (h2 : w.cell? ⟨gs, 0, none⟩ = some (.string s)) (h3 : w.cell? ⟨gd, 0, none⟩ = some (.pointer (some ⟨b, 0, none⟩))) (h4 : w.cell? ⟨b, 6, none⟩ = some (.int .i64 now)) :
    Calls Tryz.prog 103 #[.agg #[.int .i64 x.id, .int .i64 x.acc, .string x.name, .string x.tok, .int .i64 x.st, .int .i64 x.fr, .int .i64 x.un], .pointer (some ⟨gq, 0, none⟩), .pointer (some ⟨gs, 0, none⟩), .pointer (some ⟨gd, 0, none⟩)] w fun e w' =>
      e = .returned (.bool (sameA acc now s x)) ∧ Ext w w' := by
  obtain ⟨W1, e1⟩ : ∃ W, w.alloc (.cells #[.int .i64 x.id, .int .i64 x.acc, .string x.name, .string x.tok, .int .i64 x.st, .int .i64 x.fr, .int .i64 x.un] 69) = W := ⟨_, rfl⟩
  have HB : Blk W1 w.heap.size 69 #[.int .i64 x.id, .int .i64 x.acc, .string x.name, .string x.tok, .int .i64 x.st, .int .i64 x.fr, .int .i64 x.un] := by rw [← e1]; exact Blk.new _ _ _
  have HX1 : Hid (Ext w W1) := by rw [← e1]; exact (Ext.refl w).alloc _
  obtain ⟨k0, k1, k2, k3, k4, k5, k6⟩ := arr7 HB
  have j1 := fun j : Later W1 => j.cell k1
  have j2 := fun j : Later W1 => j.cell k2
  have j4 := fun j : Later W1 => j.cell k4
  have j6 := fun j : Later W1 => j.cell k6
  have i1 := fun j : Later W1 => j.cell (HX1.out.cell h1)
  have i2 := fun j : Later W1 => j.cell (HX1.out.cell h2)
  have i3 := fun j : Later W1 => j.cell (HX1.out.cell h3)
  have i4 := fun j : Later W1 => j.cell (HX1.out.cell h4)
  clear k0 k1 k2 k3 k4 k5 k6 h1 h2 h3 h4 HB
  go_enter Tryz.func103, Tryz.ntmps103
  go_upto_region 1 with (fail)
  try rw [e1]
  clear e1
  by_cases g1 : x.acc = acc
  case neg =>
    have HR : Hid (sameA acc now s x = false) := Lib.hid (by unfold sameA; rw [decide_eq_false g1]; rfl)
    have d1 : (x.acc == acc) = false := by simp [g1]
    clear g1
    refine wp_region_later (by kernel_rfl) (by kernel_rfl) ?_
    repeat (go_big_quiet_step ((fail)))
    refine wpQuiet_nil ?_
    rintro W2 ⟨q, hq⟩
    have x5 : Ext w W2 := by rw [hq]; exact HX1.out.trans q.ext
    clear hq q j1 j2 j4 j6 i1 i2 i3 i4
    go_wp2
    go_ret
    exact ⟨ret_bool HR.out.symm, x5⟩
  have d1 : (x.acc == acc) = true := by simp [g1]
  by_cases g2 : x.name = s
  case neg =>
    have HR : Hid (sameA acc now s x = false) := Lib.hid (by unfold sameA; rw [decide_eq_false g2]; simp)
    have d2 : (x.name.toList == s.toList) = false := str_beq_false g2
    clear g1 g2
    refine wp_region_later (by kernel_rfl) (by kernel_rfl) ?_
    repeat (go_big_quiet_step ((fail)))
    refine wpQuiet_nil ?_
    rintro W2 ⟨q, hq⟩
    have x5 : Ext w W2 := by rw [hq]; exact HX1.out.trans q.ext
    clear hq q j1 j2 j4 j6 i1 i2 i3 i4
    go_wp2
    go_ret
    exact ⟨ret_bool HR.out.symm, x5⟩
  have d2 : (x.name.toList == s.toList) = true := str_beq_true g2
  by_cases g3 : x.st = 3
  case neg =>
    have HR : Hid (sameA acc now s x = false) := Lib.hid (by unfold sameA; rw [decide_eq_false g3]; simp)
    have d3 : (x.st == 3) = false := by simp [g3]
    clear g1 g2 g3
    refine wp_region_later (by kernel_rfl) (by kernel_rfl) ?_
    repeat (go_big_quiet_step ((fail)))
    refine wpQuiet_nil ?_
    rintro W2 ⟨q, hq⟩
    have x5 : Ext w W2 := by rw [hq]; exact HX1.out.trans q.ext
    clear hq q j1 j2 j4 j6 i1 i2 i3 i4
    go_wp2
    go_ret
    exact ⟨ret_bool HR.out.symm, x5⟩
  have d3 : (x.st == 3) = true := by simp [g3]
  by_cases g4 : now < x.un
  · have HR : Hid (sameA acc now s x = true) := Lib.hid (by unfold sameA; rw [decide_eq_true g1, decide_eq_true g2, decide_eq_true g3, decide_eq_true g4]; rfl)
    have d4 : decide (now < x.un) = true := decide_eq_true g4
    clear g1 g2 g3 g4
    refine wp_region_later (by kernel_rfl) (by kernel_rfl) ?_
    repeat (go_big_quiet_step ((fail)))
    refine wpQuiet_nil ?_
    rintro W2 ⟨q, hq⟩
    have x5 : Ext w W2 := by rw [hq]; exact HX1.out.trans q.ext
    clear hq q j1 j2 j4 j6 i1 i2 i3 i4
    go_wp2
    go_ret
    exact ⟨ret_bool HR.out.symm, x5⟩
  · have HR : Hid (sameA acc now s x = false) := Lib.hid (by unfold sameA; rw [decide_eq_false g4]; simp)
    have d4 : decide (now < x.un) = false := decide_eq_false g4
    clear g1 g2 g3 g4
    refine wp_region_later (by kernel_rfl) (by kernel_rfl) ?_
    repeat (go_big_quiet_step ((fail)))
    refine wpQuiet_nil ?_
    rintro W2 ⟨q, hq⟩
    have x5 : Ext w W2 := by rw [hq]; exact HX1.out.trans q.ext
    clear hq q j1 j2 j4 j6 i1 i2 i3 i4
    go_wp2
    go_ret
    exact ⟨ret_bool HR.out.symm, x5⟩
end Go.Proofs.YtbhdmfijdhcehaaGreatDoor

/- The door, walked: wants. -/
namespace Go.Proofs.YtbhdmfijdhcehaaGreatDoor
set_option linter.unusedVariables false
set_option linter.unusedSimpArgs false
set_option linter.unusedSimpArgs false
open Go.RowKit Go.Shelf Go.Maps

structure WSt (W1 : World) (b g6 : Nat) (d : DoorX) (now : Int) (q : QueR) (nA : Option Addr) (nc : Nat) (L : List AutR) (ns : List Int) (uA : Option Addr) (uc : Nat) (aA : Option Addr) (ac : Nat) (wr : World) : Prop where
  but : But b g6 W1 wr
  door : DoorB wr b (withU d L uA uc) now
  own : wr.ownsRow W1.heap.size 69 7 (.slice uA L.length uc) L.length (autV L)
  ord : Blk wr g6 78 #[.int .i64 ((d.ords.length : Int) + 1), .int .i64 q.acc, .slice nA q.names.length nc, .int .u64 (q.key : Int), .int .i64 q.life, .slice aA ns.length ac, .int .i64 1, .int .i64 0]
  num : wr.ownsRow W1.heap.size 3 1 (.slice aA ns.length ac) ns.length (iv ns)
section
variable {W1 : World} {b g6 : Nat} {d : DoorX} {now : Int} {q : QueR} {nA : Option Addr} {nc : Nat} {L : List AutR} {ns : List Int} {uA : Option Addr} {uc : Nat} {aA : Option Addr} {ac : Nat} {wr wr' : World}
theorem WSt.ext (h : WSt W1 b g6 d now q nA nc L ns uA uc aA ac wr) (x : Ext wr wr') : WSt W1 b g6 d now q nA nc L ns uA uc aA ac wr' :=
  ⟨h.but.ext x, DoorB.ext h.door x, own_ext h.own x, ext_blk x h.ord, own_ext h.num x⟩
theorem own_apart {w : World} {base : Nat} {e : TypeId} {size n : Nat} {v : Value} {xs : List Value} (h : w.ownsRow base e size v n xs) {k : Nat} (hk : k < base) : some k ≠ v.ownBlock := fun e => by have := (h.lt k e.symm).1; omega
theorem WSt.addN (h : WSt W1 b g6 d now q nA nc L ns uA uc aA ac wr) (hb : b < W1.heap.size) (hg : g6 < W1.heap.size) (hbg : b ≠ g6) {v : Value} (n : Int) (ho : wr'.ownsRow W1.heap.size 3 1 v (ns.length + 1) (iv ns ++ [.int .i64 n])) (hgr : wr.grownBy wr' (Value.slice aA ns.length ac).ownBlock) :
    Blk wr' g6 78 #[.int .i64 ((d.ords.length : Int) + 1), .int .i64 q.acc, .slice nA q.names.length nc, .int .u64 (q.key : Int), .int .i64 q.life, .slice aA ns.length ac, .int .i64 1, .int .i64 0] ∧ ∃ A c, v = .slice A (ns.length + 1) c ∧ WSt W1 b g6 d now q nA nc L (ns ++ [n]) uA uc A c (wr'.setCell ⟨g6, 5, none⟩ (.slice A (ns.length + 1) c)) := by
  have ho6 : Blk wr' g6 78 #[.int .i64 ((d.ords.length : Int) + 1), .int .i64 q.acc, .slice nA q.names.length nc, .int .u64 (q.key : Int), .int .i64 q.life, .slice aA ns.length ac, .int .i64 1, .int .i64 0] := Blk.grown h.ord hgr (own_apart h.num hg)
  obtain ⟨A, c, rfl, hc, -⟩ := own_slice2 ho
  have hl : (ns ++ [n]).length = ns.length + 1 := by simp
  refine ⟨ho6, A, c, rfl, (h.but.grown hgr (own_out h.num)).set (.inr (.inl rfl)) _, Blk.far (DoorB.grown h.door hgr (own_apart h.num hb)) hbg _, own_far (h.own.kept hgr (own_ne h.own h.num (by decide))) hg 5 _, ?_, ?_⟩
  · have := ho6.set_ 5 (.slice A (ns.length + 1) c)
    rw [hl]
    exact this
  · rw [hl, iv_append]
    exact own_far ho hg 5 _
theorem WSt.addU (h : WSt W1 b g6 d now q nA nc L ns uA uc aA ac wr) (hb : b < W1.heap.size) (hg : g6 < W1.heap.size) (hbg : b ≠ g6) {v : Value} (x : AutR) (ho : wr'.ownsRow W1.heap.size 69 7 v (L.length + 1) (autV L ++ [.int .i64 x.id, .int .i64 x.acc, .string x.name, .string x.tok, .int .i64 x.st, .int .i64 x.fr, .int .i64 x.un])) (hgr : wr.grownBy wr' (Value.slice uA L.length uc).ownBlock) :
    DoorB wr' b (withU d L uA uc) now ∧ ∃ A c, v = .slice A (L.length + 1) c ∧ WSt W1 b g6 d now q nA nc (L ++ [x]) ns A c aA ac (wr'.setCell ⟨b, 3, none⟩ (.slice A (L.length + 1) c)) := by
  have hd : DoorB wr' b (withU d L uA uc) now := DoorB.grown h.door hgr (own_apart h.own hb)
  obtain ⟨A, c, rfl, hc, -⟩ := own_slice2 ho
  have hl : (L ++ [x]).length = L.length + 1 := by simp
  refine ⟨hd, A, c, rfl, (h.but.grown hgr (own_out h.own)).set (.inl rfl) _, ?_, ?_, Blk.far (Blk.grown h.ord hgr (own_apart h.own hg)) (Ne.symm hbg) _, own_far (h.num.kept hgr (own_ne h.num h.own (by decide))) hb 3 _⟩
  · have := Blk.set_ hd 3 (.slice A (L.length + 1) c)
    unfold DoorB withU
    simp only
    rw [hl]
    exact this
  · rw [hl, autV_append]
    exact own_far ho hb 3 _
end
def wantSt (W1 : World) (b g6 : Nat) (d : DoorX) (now : Int) (q : QueR) (nA : Option Addr) (nc : Nat) (j : Nat) (wr : World) : Prop :=
  ∃ L ns uA uc aA ac, (q.names.take j).foldl (wantA q.acc now) (d.auts, []) = (L, ns) ∧ WSt W1 b g6 d now q nA nc L ns uA uc aA ac wr ∧
    L.length ≤ d.auts.length + j ∧ (∀ x ∈ L, AutW x) ∧ (∀ n ∈ ns, 1 ≤ n ∧ n ≤ L.length) ∧ ns.length = j
section
variable {W w : World} {g : Nat} {T : TypeId} {x0 x1 x2 x3 x4 x5 x6 x7 : Value}
set_option maxHeartbeats 4000000 in
theorem set8_blk (k : Blk W g T #[x0, x1, x2, x3, x4, x5, x6, x7]) (y0 y1 y2 y3 y4 y5 y6 y7 : Value) : Blk ((((((((W.setCell ⟨g, 0, none⟩ y0).setCell ⟨g, 1, none⟩ y1).setCell ⟨g, 2, none⟩ y2).setCell ⟨g, 3, none⟩ y3).setCell ⟨g, 4, none⟩ y4).setCell ⟨g, 5, none⟩ y5).setCell ⟨g, 6, none⟩ y6).setCell ⟨g, 7, none⟩ y7) g T #[y0, y1, y2, y3, y4, y5, y6, y7] :=
  (((((((k.set_ 0 y0).set_ 1 y1).set_ 2 y2).set_ 3 y3).set_ 4 y4).set_ 5 y5).set_ 6 y6).set_ 7 y7
set_option maxHeartbeats 4000000 in
theorem set8_ext (h : Ext w W) (hg : w.heap.size ≤ g) (y0 y1 y2 y3 y4 y5 y6 y7 : Value) : Ext w ((((((((W.setCell ⟨g, 0, none⟩ y0).setCell ⟨g, 1, none⟩ y1).setCell ⟨g, 2, none⟩ y2).setCell ⟨g, 3, none⟩ y3).setCell ⟨g, 4, none⟩ y4).setCell ⟨g, 5, none⟩ y5).setCell ⟨g, 6, none⟩ y6).setCell ⟨g, 7, none⟩ y7) :=
  (((((((h.setCell (p := ⟨g, 0, none⟩) hg _).setCell (p := ⟨g, 1, none⟩) hg _).setCell (p := ⟨g, 2, none⟩) hg _).setCell (p := ⟨g, 3, none⟩) hg _).setCell (p := ⟨g, 4, none⟩) hg _).setCell (p := ⟨g, 5, none⟩) hg _).setCell (p := ⟨g, 6, none⟩) hg _).setCell (p := ⟨g, 7, none⟩) hg _
set_option maxHeartbeats 4000000 in
theorem set8_own {base : Nat} {e : TypeId} {size n : Nat} {v : Value} {xs : List Value} (h : W.ownsRow base e size v n xs) (k : Blk W g T #[x0, x1, x2, x3, x4, x5, x6, x7]) (hne : e ≠ T) (y0 y1 y2 y3 y4 y5 y6 y7 : Value) : World.ownsRow ((((((((W.setCell ⟨g, 0, none⟩ y0).setCell ⟨g, 1, none⟩ y1).setCell ⟨g, 2, none⟩ y2).setCell ⟨g, 3, none⟩ y3).setCell ⟨g, 4, none⟩ y4).setCell ⟨g, 5, none⟩ y5).setCell ⟨g, 6, none⟩ y6).setCell ⟨g, 7, none⟩ y7) base e size v n xs := by
  have k0 := k.set_ 0 y0
  have k1 := k0.set_ 1 y1
  have k2 := k1.set_ 2 y2
  have k3 := k2.set_ 3 y3
  have k4 := k3.set_ 4 y4
  have k5 := k4.set_ 5 y5
  have k6 := k5.set_ 6 y6
  exact own_setT (own_setT (own_setT (own_setT (own_setT (own_setT (own_setT (own_setT h k hne 0 y0) k0 hne 1 y1) k1 hne 2 y2) k2 hne 3 y3) k3 hne 4 y4) k4 hne 5 y5) k5 hne 6 y6) k6 hne 7 y7
end
theorem Tryz.infoInt : (Tryz.prog.info? 3).map (fun i => (i.zero, i.size, i.bytes)) = some (some (.int .i64 0), 1, 8) := by kernel_rfl
end Go.Proofs.YtbhdmfijdhcehaaGreatDoor

/- The door, walked: what wants leaves. -/
namespace Go.Proofs.YtbhdmfijdhcehaaGreatDoor
set_option linter.unusedVariables false
set_option linter.unusedSimpArgs false
set_option linter.unusedSimpArgs false
open Go.RowKit Go.Shelf Go.Maps

theorem reads_newL (W : World) (T : TypeId) (xs : List Value) : Reads (W.alloc (.cells xs.toArray T)) (W.alloc (.cells xs.toArray T)).heap.size xs.length (some ⟨W.heap.size, 0, none⟩) 1 xs :=
  ⟨by simp, fun _ => ⟨_, rfl, by simp, fun j u hj => by
    rw [show (⟨W.heap.size, 0, none⟩ : Addr).add j = ⟨W.heap.size, j, none⟩ by simp [Addr.add]; exact fun h => h.symm, (Blk.new W T xs.toArray).cell j]
    simpa using hj⟩⟩
theorem WSt.fin {w W1 w9 : World} {b g6 B0 B1 : Nat} {d : DoorX} {now : Int} {q : QueR} {A nA : Option Addr} {c nc : Nat} {L : List AutR} {ns : List Int} {uA : Option Addr} {uc : Nat} {aA : Option Addr} {ac : Nat} (h : WSt W1 b g6 d now q nA nc L ns uA uc aA ac w9)
    (hb : b < w.heap.size) (hg : w.heap.size ≤ g6) (h6 : g6 < W1.heap.size) (X1 : Ext w W1) (hW : DoorW w w.heap.size d) (hL : DoorL (fun k => k ≠ b) d) (hq : QueW w w.heap.size q A c)
    {cs : Array Value} (ho6 : Blk W1 g6 78 cs) (hn : W1.ownsRow B0 9 1 (.slice nA q.names.length nc) q.names.length (tv q.names)) (hB0 : w.heap.size ≤ B0) (hB1 : W1.heap.size ≤ B1)
    (hfo : q.names.foldl (wantA q.acc now) (d.auts, []) = (L, ns)) (hLl : L.length ≤ d.auts.length + q.names.length) (hLw : ∀ x ∈ L, AutW x) (hns : ∀ n ∈ ns, 1 ≤ n ∧ n ≤ L.length) (hnl : ns.length = q.names.length) (hlen : d.auts.length + q.names.length < 99) (hol : d.ords.length < 100)
    {v : Value} (ho : w9.ownsRow B1 78 8 v (d.ords.length + 1) (ordV d.ords ++ [.int .i64 ((d.ords.length : Int) + 1), .int .i64 q.acc, .slice nA q.names.length nc, .int .u64 (q.key : Int), .int .i64 q.life, .slice aA ns.length ac, .int .i64 1, .int .i64 0])) :
    ∃ A9 c9, v = .slice A9 (d.ords.length + 1) c9 ∧ (w9.setCell ⟨b, 4, none⟩ (.slice A9 (d.ords.length + 1) c9)).cell? ⟨b, 3, none⟩ = some (.slice uA L.length uc) ∧
      (w9.setCell ⟨b, 4, none⟩ (.slice A9 (d.ords.length + 1) c9)).cell? ⟨b, 4, none⟩ = some (.slice A9 (d.ords.length + 1) c9) ∧ (w9.setCell ⟨b, 4, none⟩ (.slice A9 (d.ords.length + 1) c9)).cell? ⟨g6, 0, none⟩ = some (.int .i64 ((d.ords.length : Int) + 1)) ∧
      But b g6 W1 (w9.setCell ⟨b, 4, none⟩ (.slice A9 (d.ords.length + 1) c9)) ∧
      methPost b d now (wantF d.fro q now) w (.returned (.tuple #[.int .i64 ((d.ords.length : Int) + 1), .int .i64 0])) (w9.setCell ⟨b, 4, none⟩ (.slice A9 (d.ords.length + 1) c9)) := by
  obtain ⟨A9, c9, rfl, hc9, -⟩ := own_slice2 ho
  have hbW : b < W1.heap.size := by omega
  have hne : b ≠ g6 := by omega
  obtain ⟨nA', nc', he, hnc, -⟩ := own_slice2 hn
  cases he
  obtain ⟨uA', uc', he, huc, -⟩ := own_slice2 h.own
  cases he
  obtain ⟨aA', ac', he, hac, -⟩ := own_slice2 h.num
  cases he
  have hd4 := Blk.set_ h.door 4 (.slice A9 (d.ords.length + 1) c9)
  have hg6 := Blk.far h.ord (p := ⟨b, 4, none⟩) (show g6 ≠ b by omega) (.slice A9 (d.ords.length + 1) c9)
  have hbut := h.but.set (p := ⟨b, 4, none⟩) (.inl rfl) (.slice A9 (d.ords.length + 1) c9)
  have hou := own_far h.own hbW 4 (.slice A9 (d.ords.length + 1) c9)
  have hon := own_far h.num hbW 4 (.slice A9 (d.ords.length + 1) c9)
  have hor := own_far ho (show b < B1 by omega) 4 (.slice A9 (d.ords.length + 1) c9)
  have hgw : w.grownBy (w9.setCell ⟨b, 4, none⟩ (.slice A9 (d.ords.length + 1) c9)) (some b) := hbut.from X1 hg
  refine ⟨A9, c9, rfl, hd4.cell 3, hd4.cell 4, hg6.cell 0, hbut, ?_⟩
  have hR : wantF d.fro q now = ({ d.fro with auts := L, ords := d.fro.ords ++ [⟨(d.fro.ords.length : Int) + 1, q.acc, q.names, q.key, q.life, ns, 1, 0⟩] }, (d.fro.ords.length : Int) + 1, 0) := by
    unfold wantF wantL
    rw [dfro_auts, hfo]
    simp only
    rw [if_neg (by rw [dfro_ords, List.length_map]; omega)]
  have hdl : d.fro.ords.length = d.ords.length := by rw [dfro_ords, List.length_map]
  rw [hR]
  generalize w9.setCell ⟨b, 4, none⟩ (.slice A9 (d.ords.length + 1) c9) = W9 at hd4 hg6 hbut hou hon hor hgw ⊢
  have hlen2 : (d.ords ++ [OrdX.mk ⟨(d.ords.length : Int) + 1, q.acc, q.names, q.key, q.life, ns, 1, 0⟩ nA nc aA ac]).length = d.ords.length + 1 := by simp
  have hNB : Lies (fun k => k ≠ b ∧ k ≠ g6) nA q.names.length := fun h0 ad e => by
    obtain ⟨g, cap, hv, hgb, _⟩ := hn.form h0
    subst e
    cases hv
    exact ⟨by show g ≠ b; omega, fun e => own_blk_ne hn ho6 (by decide) (by simp only [Value.ownBlock]; exact congrArg some e)⟩
  have hnr : Reads W9 W9.heap.size 1 nA q.names.length (tv q.names) := (Reads.of_own hn).stay hNB hbut.size (fun k hk hb => hbut.block k hb hk.1 hk.2)
  have hW2 := withU_w (hW.grownTo hL hgw) (Reads.of_own hou) huc (by omega) hLw
  refine ⟨by rw [hdl]; rfl, hgw, fun _ => ⟨withO (withU d L uA uc) (d.ords ++ [OrdX.mk ⟨(d.ords.length : Int) + 1, q.acc, q.names, q.key, q.life, ns, 1, 0⟩ nA nc aA ac]) A9 c9, ?_, ?_, ?_, fun S hS => ?_⟩⟩
  · rw [hdl]
    unfold withO withU DoorX.fro
    simp
  · unfold DoorB withO
    simp only
    rw [hlen2]
    exact hd4
  · refine withO_w hW2 ?_ (by rw [hlen2]; exact hc9) (by rw [hlen2]; omega) (fun x hx => ?_)
    · rw [hlen2, ordV_append]
      exact Reads.of_own hor
    · rcases List.mem_append.1 hx with hx | hx
      · exact hW2.rw x hx
      · rw [List.mem_singleton] at hx
        subst hx
        exact ⟨wf64_of (by simp only; omega) (by simp only; omega), hq.acc, hq.key, hq.life, wf64_of (by simp only; omega) (by simp only; omega), wf64_of (by simp only; omega) (by simp only; omega), hnr, hnc, hq.nl, hq.ns, Reads.of_own hon, hac, by simp only; omega, fun n hn => by have := hns n hn; exact wf64_of (by omega) (by omega)⟩
  · refine withO_l (withU_l hS (fun k hk => .inl hk) (Lies.own hou (fun k hk => .inr (by have := X1.size; omega)))) (fun k hk => hk) ?_ (fun x hx => ?_)
    · rw [hlen2]
      exact Lies.own hor (fun k hk => .inr (by have := X1.size; omega))
    · rcases List.mem_append.1 hx with hx | hx
      · exact ⟨(hS.n x hx).mono (fun k hk => .inl hk), (hS.a x hx).mono (fun k hk => .inl hk)⟩
      · rw [List.mem_singleton] at hx
        subst hx
        exact ⟨Lies.own hn (fun k hk => .inr (by omega)), Lies.own hon (fun k hk => .inr (by have := X1.size; omega))⟩
theorem itoa_short : ∀ i : Fin 100, (Lib.itoa (i.val : Int)).length ≤ 3 := by decide +kernel
theorem tokS_size {id acc : Int} (h1 : 0 ≤ id) (h2 : id < 100) (h3 : 0 ≤ acc) (h4 : acc < 100) : (tokS id acc).size ≤ 140737488355328 := by
  obtain ⟨n, rfl⟩ := Int.eq_ofNat_of_zero_le h1
  obtain ⟨m, rfl⟩ := Int.eq_ofNat_of_zero_le h3
  have e1 := itoa_short ⟨n, by omega⟩
  have e2 := itoa_short ⟨m, by omega⟩
  simp only at e1 e2
  show ((Lib.itoa _ ++ [45] ++ Lib.itoa _).toArray).size ≤ _
  simp only [List.size_toArray, List.length_append, List.length_cons, List.length_nil]
  omega
theorem newA_w {n : Nat} {acc : Int} {s : ByteArray} (hn : n < 99) (ha : 0 ≤ acc ∧ acc < 100) (hs : s.size ≤ 140737488355328) : AutW (newA n acc s) :=
  ⟨wf64_of (by simp only [newA]; omega) (by simp only [newA]; omega), wf64_of (by simp only [newA]; omega) (by simp only [newA]; omega), wf64_of (by simp only [newA]; omega) (by simp only [newA]; omega), wf64_of (by simp only [newA]; omega) (by simp only [newA]; omega), wf64_of (by simp only [newA]; omega) (by simp only [newA]; omega), hs, tokS_size (by omega) (by omega) ha.1 ha.2⟩
end Go.Proofs.YtbhdmfijdhcehaaGreatDoor

/- The door, walked: wants. -/
namespace Go.Proofs.YtbhdmfijdhcehaaGreatDoor
set_option linter.unusedVariables false
set_option linter.unusedSimpArgs false
set_option linter.unusedSimpArgs false
open Go.RowKit Go.Shelf Go.Maps

set_option maxRecDepth 100000 in
set_option maxHeartbeats 32000000 in
theorem wants_any (b : Nat) (d : DoorX) (now : Int) (q : QueR) (A : Option Addr) (c : Nat) (w : World) (hw : DoorW w w.heap.size d) (hL : DoorL (fun k => k ≠ b) d) (h : DoorB w b d now) (hq : QueW w w.heap.size q A c) (hQ : Lies (fun k => k ≠ b) A q.names.length)
    (hacc : 0 ≤ q.acc ∧ q.acc < 100) (hlen : d.auts.length + q.names.length < 99) (hol : d.ords.length < 100) :
    Calls Tryz.prog 50 #[.pointer (some ⟨b, 0, none⟩), queV q A c] w (methPost b d now (wantF d.fro q now) w) := by
  unfold queV
  obtain ⟨W0, e0, bp, bq, x0, s0⟩ := startP w #[.pointer (some ⟨b, 0, none⟩)] #[.int .i64 q.kind, .int .i64 q.acc, .int .i64 q.nonce, .int .u64 (q.key : Int), .slice A q.names.length c, .int .i64 q.life, .int .i64 q.id, .int .u64 (q.e : Int), .int .u64 (q.s : Int)] 90 27
  have hbw : b < w.heap.size := Blk.lt h
  have HW := Lib.hid hw
  have HL := Lib.hid hL
  have HD := Lib.hid h
  have HQ := Lib.hid hq
  have HQL := Lib.hid hQ
  have HBP := Lib.hid bp
  have HBQ := Lib.hid bq
  have HX := Lib.hid x0
  have HS0 := Lib.hid s0
  have HBW := Lib.hid hbw
  have HLEN := Lib.hid hlen
  have HOL := Lib.hid hol
  have HACC := Lib.hid hacc
  have cN : ∀ W, Ext W0 W → Calls Tryz.prog 76 #[.slice A q.names.length c] W fun e w' => ∃ nA nc, e = .returned (.slice nA q.names.length nc) ∧ w'.ownsRow W0.heap.size 9 1 (.slice nA q.names.length nc) q.names.length (tv q.names) ∧ Ext W w' := fun W x =>
    (cloneT_any A q.names.length c (tv q.names) (tv_one _) hq.nl W (hq.ext (x0.trans x)).names).mono fun e w' ⟨v, h1, h2, h3⟩ => by
      obtain ⟨nA, nc, rfl, hc, hr⟩ := own_slice h2
      exact ⟨nA, nc, h1, own_base h2 x.size, h3⟩
  have HC : Hid (∀ W, Ext W0 W → (W.cell? ⟨w.heap.size, 0, none⟩ = some (.pointer (some ⟨b, 0, none⟩)) ∧ W.cell? ⟨b, 4, none⟩ = some (.slice d.rA d.ords.length d.rc) ∧ W.cell? ⟨w.heap.size + 1, 1, none⟩ = some (.int .i64 q.acc) ∧ W.cell? ⟨w.heap.size + 1, 4, none⟩ = some (.slice A q.names.length c) ∧ W.cell? ⟨w.heap.size + 1, 3, none⟩ = some (.int .u64 (q.key : Int)) ∧ W.cell? ⟨w.heap.size + 1, 5, none⟩ = some (.int .i64 q.life))) := Lib.hid fun W x =>
    ⟨(ext_blk x bp).cell 0, (DoorB.ext h (x0.trans x)).cell 4, (ext_blk x bq).cell 1, (ext_blk x bq).cell 4, (ext_blk x bq).cell 3, (ext_blk x bq).cell 5⟩
  have hob : (d.ords.length : Int) ≤ 100 := by omega
  clear hw hL h hq hQ bp bq x0 s0 hbw hlen hol hacc
  go_enter Tryz.func50, Tryz.ntmps50
  go_upto_region 1 with (fail)
  try rw [e0]
  clear e0
  go_cut [6] (fun s6 wx => ∃ g6 nA nc, s6 = .pointer (some ⟨g6, 0, none⟩) ∧ Blk wx g6 78 #[.int .i64 ((d.ords.length : Int) + 1), .int .i64 q.acc, .slice nA q.names.length nc, .int .u64 (q.key : Int), .int .i64 q.life, .slice none 0 0, .int .i64 1, .int .i64 0] ∧ wx.ownsRow W0.heap.size 9 1 (.slice nA q.names.length nc) q.names.length (tv q.names) ∧ W0.heap.size ≤ g6 ∧ Ext W0 wx)
  case first =>
    have hsum : IntKind.i64.wrap ((d.ords.length : Int) + 1) = (d.ords.length : Int) + 1 := by rw [IntKind.wrap_i64]; omega
    obtain ⟨c0, c1, c2, c3, c4, c5⟩ := HC.out W0 (Ext.refl W0)
    refine E_start (n := 19) (ls := #[false, false, false, false, false, false, false, false, false, false, false, false, false, false, false, false, false, false, false]) (fun w' => w'.cell? ⟨w.heap.size, 0, none⟩ = some (.pointer (some ⟨b, 0, none⟩)) ∧ w'.cell? ⟨b, 4, none⟩ = some (.slice d.rA d.ords.length d.rc) ∧ w'.cell? ⟨w.heap.size + 1, 1, none⟩ = some (.int .i64 q.acc) ∧ w'.cell? ⟨w.heap.size + 1, 4, none⟩ = some (.slice A q.names.length c) ∧ w'.cell? ⟨w.heap.size + 1, 3, none⟩ = some (.int .u64 (q.key : Int)) ∧ w'.cell? ⟨w.heap.size + 1, 5, none⟩ = some (.int .i64 q.life)) 18 (by kernel_rfl) (by kernel_rfl) (by kernel_rfl) (HC.out _ (Ext.refl W0).drew) (fun hHeld => ?_)
    refine E_take (i := 0) (some 10) (ls' := #[true, false, false, false, false, false, false, false, false, false, false, false, false, false, false, false, false, false, false]) rfl rfl (by kernel_rfl) (by kernel_rfl) (by kernel_rfl) (by kernel_rfl) (by kernel_rfl) (by rfl) (v := ?_) ?_ hHeld ?_
    rotate_left 1
    · intro w hSw; (try dsimp only at hSw); go_simp; try with_reducible rfl
    try simp only [Act.put, List.setIfInBounds_toArray, List.set_cons_zero, List.set_cons_succ]
    refine E_take (i := 1) (some 11) (ls' := #[true, true, false, false, false, false, false, false, false, false, false, false, false, false, false, false, false, false, false]) rfl rfl (by kernel_rfl) (by kernel_rfl) (by kernel_rfl) (by kernel_rfl) (by kernel_rfl) (by rfl) (v := ?_) ?_ hHeld ?_
    rotate_left 1
    · intro w hSw; (try dsimp only at hSw); go_simp; try with_reducible rfl
    try simp only [Act.put, List.setIfInBounds_toArray, List.set_cons_zero, List.set_cons_succ]
    refine E_take (i := 2) (some 12) (ls' := #[true, true, true, false, false, false, false, false, false, false, false, false, false, false, false, false, false, false, false]) rfl rfl (by kernel_rfl) (by kernel_rfl) (by kernel_rfl) (by kernel_rfl) (by kernel_rfl) (by rfl) (v := ?_) ?_ hHeld ?_
    rotate_left 1
    · intro w hSw; (try dsimp only at hSw); go_simp; try with_reducible rfl
    try simp only [Act.put, List.setIfInBounds_toArray, List.set_cons_zero, List.set_cons_succ]
    refine E_take (i := 3) (some 13) (ls' := #[true, true, true, true, false, false, false, false, false, false, false, false, false, false, false, false, false, false, false]) rfl rfl (by kernel_rfl) (by kernel_rfl) (by kernel_rfl) (by kernel_rfl) (by kernel_rfl) (by rfl) (v := ?_) ?_ hHeld ?_
    rotate_left 1
    · intro w hSw; (try dsimp only at hSw); go_simp; try with_reducible rfl
    try simp only [Act.put, List.setIfInBounds_toArray, List.set_cons_zero, List.set_cons_succ]
    refine E_take (i := 4) (some 14) (ls' := #[true, true, true, true, true, false, false, false, false, false, false, false, false, false, false, false, false, false, false]) rfl rfl (by kernel_rfl) (by kernel_rfl) (by kernel_rfl) (by kernel_rfl) (by kernel_rfl) (by rfl) (v := ?_) ?_ hHeld ?_
    rotate_left 1
    · intro w hSw; (try dsimp only at hSw); go_simp; try with_reducible rfl
    try simp only [Act.put, List.setIfInBounds_toArray, List.set_cons_zero, List.set_cons_succ]
    refine E_take (i := 5) (some 15) (ls' := #[true, true, true, true, true, true, false, false, false, false, false, false, false, false, false, false, false, false, false]) rfl rfl (by kernel_rfl) (by kernel_rfl) (by kernel_rfl) (by kernel_rfl) (by kernel_rfl) (by rfl) (v := ?_) ?_ hHeld ?_
    rotate_left 1
    · intro w hSw; (try dsimp only at hSw); go_simp; try with_reducible rfl
    try simp only [Act.put, List.setIfInBounds_toArray, List.set_cons_zero, List.set_cons_succ]
    refine E_take (i := 6) (some 16) (ls' := #[true, true, true, true, true, true, true, false, false, false, false, false, false, false, false, false, false, false, false]) rfl rfl (by kernel_rfl) (by kernel_rfl) (by kernel_rfl) (by kernel_rfl) (by kernel_rfl) (by rfl) (v := ?_) ?_ hHeld ?_
    rotate_left 1
    · intro w hSw; (try dsimp only at hSw); go_simp; try with_reducible rfl
    try simp only [Act.put, List.setIfInBounds_toArray, List.set_cons_zero, List.set_cons_succ]
    refine E_take (i := 7) (some 17) (ls' := #[true, true, true, true, true, true, true, true, false, false, false, false, false, false, false, false, false, false, false]) rfl rfl (by kernel_rfl) (by kernel_rfl) (by kernel_rfl) (by kernel_rfl) (by kernel_rfl) (by rfl) (v := ?_) ?_ hHeld ?_
    rotate_left 1
    · intro w hSw; (try dsimp only at hSw); go_simp; try with_reducible rfl
    try simp only [Act.put, List.setIfInBounds_toArray, List.set_cons_zero, List.set_cons_succ]
    refine E_take (i := 8) (some 18) (ls' := #[true, true, true, true, true, true, true, true, true, false, false, false, false, false, false, false, false, false, false]) rfl rfl (by kernel_rfl) (by kernel_rfl) (by kernel_rfl) (by kernel_rfl) (by kernel_rfl) (by rfl) (v := ?_) ?_ hHeld ?_
    rotate_left 1
    · intro w hSw; (try dsimp only at hSw); go_simp; try with_reducible rfl
    try simp only [Act.put, List.setIfInBounds_toArray, List.set_cons_zero, List.set_cons_succ]
    refine E_take (i := 9) (some 19) (ls' := #[true, true, true, true, true, true, true, true, true, true, false, false, false, false, false, false, false, false, false]) rfl rfl (by kernel_rfl) (by kernel_rfl) (by kernel_rfl) (by kernel_rfl) (by kernel_rfl) (by rfl) (v := ?_) ?_ hHeld ?_
    rotate_left 1
    · intro w hSw; (try dsimp only at hSw); go_simp; try with_reducible rfl
    try simp only [Act.put, List.setIfInBounds_toArray, List.set_cons_zero, List.set_cons_succ]
    refine E_take (i := 10) (some 20) (ls' := #[true, true, true, true, true, true, true, true, true, true, true, false, false, false, false, false, false, false, false]) rfl rfl (by kernel_rfl) (by kernel_rfl) (by kernel_rfl) (by kernel_rfl) (by kernel_rfl) (by rfl) (v := ?_) ?_ hHeld ?_
    rotate_left 1
    · intro w hSw; (try dsimp only at hSw); go_simp; try with_reducible rfl
    try simp only [Act.put, List.setIfInBounds_toArray, List.set_cons_zero, List.set_cons_succ]
    refine E_take (i := 12) (some 22) (ls' := #[true, true, true, true, true, true, true, true, true, true, true, false, true, false, false, false, false, false, false]) rfl rfl (by kernel_rfl) (by kernel_rfl) (by kernel_rfl) (by kernel_rfl) (by kernel_rfl) (by rfl) (v := ?_) ?_ hHeld ?_
    rotate_left 1
    · intro w hSw; (try dsimp only at hSw); go_simp; try with_reducible rfl
    try simp only [Act.put, List.setIfInBounds_toArray, List.set_cons_zero, List.set_cons_succ]
    refine E_take (i := 13) (some 23) (ls' := #[true, true, true, true, true, true, true, true, true, true, true, false, true, true, false, false, false, false, false]) rfl rfl (by kernel_rfl) (by kernel_rfl) (by kernel_rfl) (by kernel_rfl) (by kernel_rfl) (by rfl) (v := ?_) ?_ hHeld ?_
    rotate_left 1
    · intro w hSw; (try dsimp only at hSw); go_simp; try with_reducible rfl
    try simp only [Act.put, List.setIfInBounds_toArray, List.set_cons_zero, List.set_cons_succ]
    refine E_take (i := 14) (some 24) (ls' := #[true, true, true, true, true, true, true, true, true, true, true, false, true, true, true, false, false, false, false]) rfl rfl (by kernel_rfl) (by kernel_rfl) (by kernel_rfl) (by kernel_rfl) (by kernel_rfl) (by rfl) (v := ?_) ?_ hHeld ?_
    rotate_left 1
    · intro w hSw; (try dsimp only at hSw); go_simp; try with_reducible rfl
    try simp only [Act.put, List.setIfInBounds_toArray, List.set_cons_zero, List.set_cons_succ]
    refine E_take (i := 15) (some 25) (ls' := #[true, true, true, true, true, true, true, true, true, true, true, false, true, true, true, true, false, false, false]) rfl rfl (by kernel_rfl) (by kernel_rfl) (by kernel_rfl) (by kernel_rfl) (by kernel_rfl) (by rfl) (v := ?_) ?_ hHeld ?_
    rotate_left 1
    · intro w hSw; (try dsimp only at hSw); go_simp; try with_reducible rfl
    try simp only [Act.put, List.setIfInBounds_toArray, List.set_cons_zero, List.set_cons_succ]
    refine E_two (i := 11) (k := 17) (ls1 := #[true, true, true, true, true, true, true, true, true, true, true, true, true, true, true, true, false, false, false]) (ls2 := #[true, true, true, true, true, true, true, true, true, true, true, false, true, true, true, true, false, true, false]) rfl rfl (by kernel_rfl) (by kernel_rfl) (by kernel_rfl) (by rfl) (by rfl) (fun K hK => ?_) (fun K hK => ?_)
    · go_simp
      go_at_call 76
      refine (cN _ (Ext.refl W0).drew).mono ?_
      clear cN
      rintro e w2 ⟨nA, nc, rfl, ho2, x2⟩
      have X2 : Ext W0 w2 := (Ext.refl W0).drew.trans x2
      have HO2 := Lib.hid ho2
      clear ho2 x2
      have hHeld2 := HC.out _ X2
      clear hHeld
      have hHeld := hHeld2
      clear hHeld2
      refine hK _ _ (fun _ => hHeld) ?_
      clear hK K
      try simp only [Act.put, List.setIfInBounds_toArray, List.set_cons_zero, List.set_cons_succ]
      refine E_take (i := 16) (some 26) (ls' := #[true, true, true, true, true, true, true, true, true, true, true, true, true, true, true, true, true, false, false]) rfl rfl (by kernel_rfl) (by kernel_rfl) (by kernel_rfl) (by kernel_rfl) (by kernel_rfl) (by rfl) (v := ?_) ?_ hHeld ?_
      rotate_left 1
      · intro w hSw; (try dsimp only at hSw); go_simp; try with_reducible rfl
      try simp only [Act.put, List.setIfInBounds_toArray, List.set_cons_zero, List.set_cons_succ]
      refine E_one (i := 17) (ls' := #[true, true, true, true, true, true, true, true, true, true, true, true, true, true, true, true, true, true, false]) rfl (by kernel_rfl) (by kernel_rfl) (by rfl) (fun K hK => ?_)
      go_simp
      have hHeld2 := HC.out _ (X2.alloc (.cells #[.int .i64 0, .int .i64 0, .slice none 0 0, .int .u64 0, .int .i64 0, .slice none 0 0, .int .i64 0, .int .i64 0] 78))
      clear hHeld
      have hHeld := hHeld2
      clear hHeld2
      refine hK _ _ (fun _ => hHeld) ?_
      clear hK K
      try simp only [Act.put, List.setIfInBounds_toArray, List.set_cons_zero, List.set_cons_succ]
      refine E_one (i := 18) (ls' := #[true, true, true, true, true, true, true, true, true, true, true, true, true, true, true, true, true, true, true]) rfl (by kernel_rfl) (by kernel_rfl) (by rfl) (fun K hK => ?_)
      clear hHeld
      go_simp
      refine hK _ _ (fun h => absurd rfl h) ?_
      clear hK K
      try simp only [Act.put, List.setIfInBounds_toArray, List.set_cons_zero, List.set_cons_succ]
      refine E_done (by kernel_rfl) ?_
      go_wp2
      go_meet
      exact ⟨w2.heap.size, nA, nc, rfl, Blk.new _ _ _, HO2.out.alloc _, X2.size, X2.alloc _⟩
    · go_simp
      have hHeld2 := HC.out _ (((Ext.refl W0).alloc (.cells #[.int .i64 0, .int .i64 0, .slice none 0 0, .int .u64 0, .int .i64 0, .slice none 0 0, .int .i64 0, .int .i64 0] 78)).drew)
      clear hHeld
      have hHeld := hHeld2
      clear hHeld2
      refine hK _ _ (fun _ => hHeld) ?_
      clear hK K
      try simp only [Act.put, List.setIfInBounds_toArray, List.set_cons_zero, List.set_cons_succ]
      refine E_one (i := 11) (ls' := #[true, true, true, true, true, true, true, true, true, true, true, true, true, true, true, true, false, true, false]) rfl (by kernel_rfl) (by kernel_rfl) (by rfl) (fun K hK => ?_)
      go_simp
      go_at_call 76
      refine (cN _ (((Ext.refl W0).alloc _).drew)).mono ?_
      clear cN
      rintro e w2 ⟨nA, nc, rfl, ho2, x2⟩
      have X2 : Ext W0 w2 := (((Ext.refl W0).alloc _).drew).trans x2
      have hz := ext_blk x2 (Blk.drew (Blk.new W0 78 #[.int .i64 0, .int .i64 0, .slice none 0 0, .int .u64 0, .int .i64 0, .slice none 0 0, .int .i64 0, .int .i64 0]))
      have HO2 := Lib.hid ho2
      clear ho2 x2
      have hHeld2 := HC.out _ X2
      clear hHeld
      have hHeld := hHeld2
      clear hHeld2
      refine hK _ _ (fun _ => hHeld) ?_
      clear hK K
      try simp only [Act.put, List.setIfInBounds_toArray, List.set_cons_zero, List.set_cons_succ]
      refine E_take (i := 16) (some 26) (ls' := #[true, true, true, true, true, true, true, true, true, true, true, true, true, true, true, true, true, true, false]) rfl rfl (by kernel_rfl) (by kernel_rfl) (by kernel_rfl) (by kernel_rfl) (by kernel_rfl) (by rfl) (v := ?_) ?_ hHeld ?_
      rotate_left 1
      · intro w hSw; (try dsimp only at hSw); go_simp; try with_reducible rfl
      try simp only [Act.put, List.setIfInBounds_toArray, List.set_cons_zero, List.set_cons_succ]
      refine E_one (i := 18) (ls' := #[true, true, true, true, true, true, true, true, true, true, true, true, true, true, true, true, true, true, true]) rfl (by kernel_rfl) (by kernel_rfl) (by rfl) (fun K hK => ?_)
      clear hHeld
      obtain ⟨z0, z1, z2, z3, z4, z5, z6, z7⟩ := arr8 hz
      have f0 := hz.frozen 0
      have f1 := hz.frozen 1
      have f2 := hz.frozen 2
      have f3 := hz.frozen 3
      have f4 := hz.frozen 4
      have f5 := hz.frozen 5
      have f6 := hz.frozen 6
      have f7 := hz.frozen 7
      have HZ := Lib.hid hz
      clear hz
      go_simp
      refine hK _ _ (fun h => absurd rfl h) ?_
      clear hK K
      try simp only [Act.put, List.setIfInBounds_toArray, List.set_cons_zero, List.set_cons_succ]
      refine E_done (by kernel_rfl) ?_
      go_wp2
      go_meet
      exact ⟨W0.heap.size, nA, nc, rfl, set8_blk HZ.out _ _ _ _ _ _ _ _, set8_own HO2.out HZ.out (by decide) _ _ _ _ _ _ _ _, Nat.le_refl _, set8_ext X2 (Nat.le_refl _) _ _ _ _ _ _ _ _⟩
  case rest =>
    obtain ⟨g6, nA, nc, rfl, ho6, hn6, hg6, hx6⟩ := hcut
    obtain ⟨W1, hW1⟩ : ∃ W, W = wc := ⟨_, rfl⟩
    rw [← hW1] at ho6 hn6 hx6 ⊢
    clear hW1 cN
    have X1 := HX.out.trans hx6
    have hs1 : w.heap.size + 2 ≤ W1.heap.size := by have := hx6.size; have := HS0.out; omega
    have h61 : g6 < W1.heap.size := Blk.lt ho6
    have cU : ∀ W, Ext W1 W → Calls Tryz.prog 101 #[.slice d.uA d.auts.length d.uc] W fun e w' => ∃ uA uc, e = .returned (.slice uA d.auts.length uc) ∧ w'.ownsRow W1.heap.size 69 7 (.slice uA d.auts.length uc) d.auts.length (autV d.auts) ∧ Ext W w' := fun W x =>
      (cloneU_any d.uA d.auts.length d.uc (autV d.auts) (autV_one _) HW.out.ul W ((HW.out.aut.below (X1.trans x).out).more (X1.trans x).size)).mono fun e w' ⟨v, h1, h2, h3⟩ => by
        obtain ⟨uA, uc, rfl, hc, hr⟩ := own_slice2 h2
        exact ⟨uA, uc, h1, own_base h2 x.size, h3⟩
    have HBP1 := Lib.hid (ext_blk hx6 HBP.out)
    have HBQ1 := Lib.hid (ext_blk hx6 HBQ.out)
    have HD1 := Lib.hid (DoorB.ext HD.out X1)
    have HO1 := Lib.hid ho6
    have HN1 := Lib.hid hn6
    have HG6 := Lib.hid hg6
    have HX1 := Lib.hid X1
    have HS1 := Lib.hid hs1
    have H61 := Lib.hid h61
    have HC2 : Hid (∀ W, Ext W1 W → (W.cell? ⟨w.heap.size, 0, none⟩ = some (.pointer (some ⟨b, 0, none⟩)) ∧ W.cell? ⟨b, 3, none⟩ = some (.slice d.uA d.auts.length d.uc))) := Lib.hid fun W x => ⟨(ext_blk x HBP1.out).cell 0, (DoorB.ext HD1.out x).cell 3⟩
    clear ho6 hn6 hg6 hx6 X1 hs1 h61 HC
    go_upto_region 2 with (fail)
    refine E_start (n := 11) (ls := #[false, false, false, false, false, false, false, false, false, false, false]) (fun w' => w'.cell? ⟨w.heap.size, 0, none⟩ = some (.pointer (some ⟨b, 0, none⟩)) ∧ w'.cell? ⟨b, 3, none⟩ = some (.slice d.uA d.auts.length d.uc)) 10 (by kernel_rfl) (by kernel_rfl) (by kernel_rfl) (HC2.out _ (Ext.refl W1).drew) (fun hHeld => ?_)
    refine E_take (i := 0) (some 27) (ls' := #[true, false, false, false, false, false, false, false, false, false, false]) rfl rfl (by kernel_rfl) (by kernel_rfl) (by kernel_rfl) (by kernel_rfl) (by kernel_rfl) (by rfl) (v := ?_) ?_ hHeld ?_
    rotate_left 1
    · intro w hSw; (try dsimp only at hSw); go_simp; try with_reducible rfl
    try simp only [Act.put, List.setIfInBounds_toArray, List.set_cons_zero, List.set_cons_succ]
    refine E_take (i := 1) (some 28) (ls' := #[true, true, false, false, false, false, false, false, false, false, false]) rfl rfl (by kernel_rfl) (by kernel_rfl) (by kernel_rfl) (by kernel_rfl) (by kernel_rfl) (by rfl) (v := ?_) ?_ hHeld ?_
    rotate_left 1
    · intro w hSw; (try dsimp only at hSw); go_simp; try with_reducible rfl
    try simp only [Act.put, List.setIfInBounds_toArray, List.set_cons_zero, List.set_cons_succ]
    refine E_take (i := 2) (some 29) (ls' := #[true, true, true, false, false, false, false, false, false, false, false]) rfl rfl (by kernel_rfl) (by kernel_rfl) (by kernel_rfl) (by kernel_rfl) (by kernel_rfl) (by rfl) (v := ?_) ?_ hHeld ?_
    rotate_left 1
    · intro w hSw; (try dsimp only at hSw); go_simp; try with_reducible rfl
    try simp only [Act.put, List.setIfInBounds_toArray, List.set_cons_zero, List.set_cons_succ]
    refine E_take (i := 3) (some 30) (ls' := #[true, true, true, true, false, false, false, false, false, false, false]) rfl rfl (by kernel_rfl) (by kernel_rfl) (by kernel_rfl) (by kernel_rfl) (by kernel_rfl) (by rfl) (v := ?_) ?_ hHeld ?_
    rotate_left 1
    · intro w hSw; (try dsimp only at hSw); go_simp; try with_reducible rfl
    try simp only [Act.put, List.setIfInBounds_toArray, List.set_cons_zero, List.set_cons_succ]
    refine E_take (i := 4) (some 31) (ls' := #[true, true, true, true, true, false, false, false, false, false, false]) rfl rfl (by kernel_rfl) (by kernel_rfl) (by kernel_rfl) (by kernel_rfl) (by kernel_rfl) (by rfl) (v := ?_) ?_ hHeld ?_
    rotate_left 1
    · intro w hSw; (try dsimp only at hSw); go_simp; try with_reducible rfl
    try simp only [Act.put, List.setIfInBounds_toArray, List.set_cons_zero, List.set_cons_succ]
    refine E_take (i := 5) (some 32) (ls' := #[true, true, true, true, true, true, false, false, false, false, false]) rfl rfl (by kernel_rfl) (by kernel_rfl) (by kernel_rfl) (by kernel_rfl) (by kernel_rfl) (by rfl) (v := ?_) ?_ hHeld ?_
    rotate_left 1
    · intro w hSw; (try dsimp only at hSw); go_simp; try with_reducible rfl
    try simp only [Act.put, List.setIfInBounds_toArray, List.set_cons_zero, List.set_cons_succ]
    refine E_one (i := 6) (ls' := #[true, true, true, true, true, true, true, false, false, false, false]) rfl (by kernel_rfl) (by kernel_rfl) (by rfl) (fun K hK => ?_)
    go_simp
    go_at_call 101
    refine (cU _ (Ext.refl W1).drew).mono ?_
    clear cU
    rintro e w2 ⟨uA, uc, rfl, ho2, x2⟩
    have X2 : Ext W1 w2 := (Ext.refl W1).drew.trans x2
    have HO2 := Lib.hid ho2
    have HX2 := Lib.hid X2
    clear ho2 x2
    have hHeld2 := HC2.out _ X2
    clear hHeld
    have hHeld := hHeld2
    clear hHeld2
    refine hK _ _ (fun _ => hHeld) ?_
    clear hK K
    try simp only [Act.put, List.setIfInBounds_toArray, List.set_cons_zero, List.set_cons_succ]
    refine E_one (i := 7) (ls' := #[true, true, true, true, true, true, true, true, false, false, false]) rfl (by kernel_rfl) (by kernel_rfl) (by rfl) (fun K hK => ?_)
    go_simp
    refine hK _ _ (fun _ => hHeld) ?_
    clear hK K
    try simp only [Act.put, List.setIfInBounds_toArray, List.set_cons_zero, List.set_cons_succ]
    refine E_one (i := 8) (ls' := #[true, true, true, true, true, true, true, true, true, false, false]) rfl (by kernel_rfl) (by kernel_rfl) (by rfl) (fun K hK => ?_)
    go_simp
    refine hK _ _ (fun _ => hHeld) ?_
    clear hK K
    try simp only [Act.put, List.setIfInBounds_toArray, List.set_cons_zero, List.set_cons_succ]
    refine E_one (i := 9) (ls' := #[true, true, true, true, true, true, true, true, true, true, false]) rfl (by kernel_rfl) (by kernel_rfl) (by rfl) (fun K hK => ?_)
    go_simp
    refine hK _ _ (fun _ => hHeld) ?_
    clear hK K
    try simp only [Act.put, List.setIfInBounds_toArray, List.set_cons_zero, List.set_cons_succ]
    refine E_one (i := 10) (ls' := #[true, true, true, true, true, true, true, true, true, true, true]) rfl (by kernel_rfl) (by kernel_rfl) (by rfl) (fun K hK => ?_)
    have f3 := (DoorB.ext HD1.out X2).frozen 3
    go_simp
    refine hK _ _ (fun h => absurd rfl h) ?_
    clear hK K
    try simp only [Act.put, List.setIfInBounds_toArray, List.set_cons_zero, List.set_cons_succ]
    refine E_done (by kernel_rfl) ?_
    clear hHeld f3
    obtain ⟨W2, hW2⟩ : ∃ W, W = w2.setCell ⟨b, 3, none⟩ (.slice uA d.auts.length uc) := ⟨_, rfl⟩
    have HST : Hid (wantSt W1 b g6 d now q nA nc 0 W2) := Lib.hid (by
      have hs1 := HS1.out
      have hgx := HG6.out
      have hs0 := HS0.out
      have hbw := HBW.out
      rw [hW2]
      refine ⟨d.auts, [], uA, uc, none, 0, rfl, ⟨((But.refl b g6 W1).ext HX2.out).set (.inl rfl) _, (DoorB.ext HD1.out HX2.out).set_ 3 _, own_far HO2.out (by omega) 3 _, Blk.far (ext_blk HX2.out HO1.out) (show g6 ≠ b by omega) _, ⟨rfl, .inl ⟨rfl, rfl⟩⟩⟩, by omega, HW.out.uw, by simp, rfl⟩)
    rw [← hW2]
    clear hW2 HO2 HX2 X2
    have hbW := HBW.out
    have q4 : W2.cell? ⟨w.heap.size + 1, 4, none⟩ = some (.slice A q.names.length c) := by
      obtain ⟨L, ns, uA, uc, aA, ac, -, hb, -⟩ := HST.out
      exact (hb.but.blk HBQ1.out (by have := HBW.out; omega) (by have := HG6.out; have := HS0.out; omega)).cell 4
    clear hbW
    go_wp2
    clear q4
    go_loopg [40] q.names.length (fun g s40 wr => ∃ j : Nat, j + g = q.names.length ∧ s40 = .int .i64 j ∧ wantSt W1 b g6 d now q nA nc j wr)
    case atStart => exact ⟨0, by omega, rfl, HST.out⟩
    case round =>
      obtain ⟨j, hj, rfl, L, ns, uA2, uc2, aA, ac, hfo, hbu, hLl, hLw, hns, hnl⟩ := hrel
      have hjb : (j : Int) ≤ 1099511627776 := by have := HQ.out.nl; omega
      have hgx := HG6.out
      have hs0 := HS0.out
      have hs1 := HS1.out
      have hbw := HBW.out
      have h61 := H61.out
      have hgw : w.grownBy wr (some b) := hbu.but.from HX1.out (by omega)
      have bq3 := hbu.but.blk HBQ1.out (by omega) (by omega)
      have bp3 := hbu.but.blk HBP1.out (by omega) (by omega)
      have hLn : L.length < 99 := by have := HLEN.out; omega
      have HJ := Lib.hid hj
      have HFO := Lib.hid hfo
      have HST3 := Lib.hid hbu
      have HLL := Lib.hid hLl
      have HLW := Lib.hid hLw
      have HNS := Lib.hid hns
      have HNL := Lib.hid hnl
      have HLN := Lib.hid hLn
      have HGW := Lib.hid hgw
      have HB3 := Lib.hid bq3
      have HP3 := Lib.hid bp3
      have HBS : Hid (b < W1.heap.size) := Lib.hid (by omega)
      have HBG : Hid (b ≠ g6) := Lib.hid (by omega)
      have hso : Hid (w.heap.size + 2 ≤ wr.heap.size) := Lib.hid (by have := hbu.but.size; omega)
      by_cases hjl : j < q.names.length
      · obtain ⟨s, hs⟩ : ∃ s, q.names[j]? = some s := ⟨_, List.getElem?_eq_getElem hjl⟩
        have hN := HQ.out.names.stay HQL.out hgw.size (fun k hk hb => hgw.block k hb (by simpa using hk))
        obtain ⟨ad, hA, p1⟩ := reads_text hN hs
        subst hA
        have HSN : Hid (s.size ≤ 140737488355328) := Lib.hid (HQ.out.ns s (List.mem_of_getElem? hs))
        have HHS := Lib.hid (tk_snoc hs)
        clear hs hN hj hfo hLl hLw hns hnl hgx hs0 hs1 hbw h61 hgw bq3 bp3 hLn
        go_upto_region 6 with (fail)
        obtain ⟨W3, e3⟩ : ∃ W, wr.alloc (.cells #[.string s] 9) = W := ⟨_, rfl⟩
        try rw [e3]
        have X3 : Ext wr W3 := by rw [← e3]; exact (Ext.refl wr).alloc _
        have BS : Blk W3 wr.heap.size 9 #[.string s] := by rw [← e3]; exact Blk.new _ _ _
        clear e3 p1
        have c1 := indexU_any _ wants1_enters #[.pointer (some ⟨w.heap.size + 1, 0, none⟩), .pointer (some ⟨wr.heap.size, 0, none⟩), .pointer (some ⟨w.heap.size, 0, none⟩)] (sameA q.acc now s) L (by have := HLN.out; omega) uA2 uc2 W3 (Reads.of_own (own_ext hbu.own X3))
          (fun W x hx xx => wants1_any x q.acc now s (w.heap.size + 1) wr.heap.size w.heap.size b W ((ext_blk (X3.trans xx) HB3.out).cell 1) ((ext_blk xx BS).cell 0) ((ext_blk (X3.trans xx) HP3.out).cell 0) ((DoorB.ext hbu.door (X3.trans xx)).cell 6))
        have a0 := (ext_blk X3 HP3.out).cell 0
        have a3 : W3.cell? ⟨b, 3, none⟩ = some (.slice uA2 L.length uc2) := (DoorB.ext hbu.door X3).cell 3
        have HX3 := Lib.hid X3
        have HBS3 := Lib.hid BS
        clear X3 BS hbu
        go_upto_region 7 with (go_at_call 102; refine c1.mono ?_; clear c1 a0 a3; rintro e w5 ⟨rfl, x5⟩)
        have HT5 := Lib.hid (HST3.out.ext (HX3.out.trans x5))
        have HX5 := Lib.hid (HX3.out.trans x5)
        have HBS5 := Lib.hid (ext_blk x5 HBS3.out)
        clear x5
        obtain ⟨i0, hi, hz0, hz1, hz2⟩ := info_parts Tryz.infoInt
        cases hf : findA L q.acc s now with
        | some i =>
          have hil : i < L.length := (List.findIdx?_eq_some_iff_getElem.1 hf).1
          have hix : ixG (sameA q.acc now s) L = (i : Int) := by unfold ixG; rw [show L.findIdx? (sameA q.acc now s) = some i from hf]
          rw [hix]
          have hib : (i : Int) < 99 := by have := HLN.out; omega
          have f5 := HT5.out.ord.cell 5
          have HF := Lib.hid (wantA_some (ns := ns) hf)
          have HIL := Lib.hid hil
          clear hix hil hf
          go_wp2_with (at_builtin; refine wpList_append_own _ rfl (.tmp 82) (.tmp 85) 76 rfl W1.heap.size 3 i0 (.int .i64 0) 1 8 Tryz.underlying76 hi hz0 hz1 hz2 rfl (by decide) _ _ _ rfl (HT5.out.num.alloc _) ⟨w5.heap.size, 0, none⟩ 1 1 [.int .i64 ((i : Int) + 1)] rfl rfl (cell_one_new _ _ _) (by simp [Value.oneCell']) (by have := HNL.out; simp only [maxLen]; omega) (by have := HNL.out; omega) (by have := HT5.out.but.size; simp; omega) ?_; intro v6 w6 hown6 hg6 _; obtain ⟨b6, A6, c6, rfl, ht6⟩ := (HT5.out.ext ((Ext.refl _).alloc _)).addN HBS.out H61.out HBG.out ((i : Int) + 1) hown6 hg6; have f5 := b6.cell 5; have f6 := b6.frozen 5; have HT6 := Lib.hid ht6; clear b6 hown6 hg6 ht6)
          have hlen6 : (ns ++ [((i : Int) + 1)]).length = ns.length + 1 := by simp
          have hj := HJ.out
          have hll := HLL.out
          have hnl := HNL.out
          go_roundg (gk - 1)
          case measure => omega
          case rel => exact ⟨j + 1, by omega, int_congr (by omega), L, ns ++ [((i : Int) + 1)], _, _, A6, c6, by rw [HHS.out, List.foldl_append, HFO.out]; exact HF.out, HT6.out, (by omega), (fun x hx => HLW.out x hx), fun n hn => (by rcases List.mem_append.1 hn with hn | hn; exact HNS.out n hn; rw [List.mem_singleton] at hn; subst hn; have := HIL.out; omega), by rw [hlen6]; omega⟩
        | none =>
          have hix : ixG (sameA q.acc now s) L = -1 := by unfold ixG; rw [show L.findIdx? (sameA q.acc now s) = none from hf]
          rw [hix]
          have HF := Lib.hid (wantA_none (ns := ns) hf)
          have a0 := (ext_blk HX5.out HP3.out).cell 0
          have a3 : w5.cell? ⟨b, 3, none⟩ = some (.slice uA2 L.length uc2) := HT5.out.door.cell 3
          have hLb : (L.length : Int) < 99 := by have := HLN.out; omega
          have hsum : IntKind.i64.wrap ((L.length : Int) + 1) = (L.length : Int) + 1 := by rw [IntKind.wrap_i64]; omega
          have cT := fun W => token_any ((L.length : Int) + 1) q.acc (by omega) (by omega) HACC.out.1 HACC.out.2 W
          clear hix hf
          go_upto_region 9 with (fail)
          clear a0 a3
          have HC9 : Hid (∀ W, Ext w5 W → (W.cell? ⟨w.heap.size, 0, none⟩ = some (.pointer (some ⟨b, 0, none⟩)) ∧ W.cell? ⟨b, 3, none⟩ = some (.slice uA2 L.length uc2) ∧ W.cell? ⟨w.heap.size + 1, 1, none⟩ = some (.int .i64 q.acc) ∧ W.cell? ⟨wr.heap.size, 0, none⟩ = some (.string s))) := Lib.hid fun W x =>
            ⟨(ext_blk (HX5.out.trans x) HP3.out).cell 0, (DoorB.ext HT5.out.door x).cell 3, (ext_blk (HX5.out.trans x) HB3.out).cell 1, (ext_blk x HBS5.out).cell 0⟩
          obtain ⟨i1, hj1, hy0, hy1, hy2⟩ := info_parts Tryz.infoAut
          refine E_start (n := 23) (ls := #[false, false, false, false, false, false, false, false, false, false, false, false, false, false, false, false, false, false, false, false, false, false, false]) (fun w' => w'.cell? ⟨w.heap.size, 0, none⟩ = some (.pointer (some ⟨b, 0, none⟩)) ∧ w'.cell? ⟨b, 3, none⟩ = some (.slice uA2 L.length uc2) ∧ w'.cell? ⟨w.heap.size + 1, 1, none⟩ = some (.int .i64 q.acc) ∧ w'.cell? ⟨wr.heap.size, 0, none⟩ = some (.string s)) 22 (by kernel_rfl) (by kernel_rfl) (by kernel_rfl) (HC9.out _ (Ext.refl w5).drew) (fun hHeld => ?_)
          refine E_take (i := 0) (some 59) (ls' := #[true, false, false, false, false, false, false, false, false, false, false, false, false, false, false, false, false, false, false, false, false, false, false]) rfl rfl (by kernel_rfl) (by kernel_rfl) (by kernel_rfl) (by kernel_rfl) (by kernel_rfl) (by rfl) (v := ?_) ?_ hHeld ?_
          rotate_left 1
          · intro w hSw; (try dsimp only at hSw); go_simp; try with_reducible rfl
          try simp only [Act.put, List.setIfInBounds_toArray, List.set_cons_zero, List.set_cons_succ]
          refine E_take (i := 1) (some 60) (ls' := #[true, true, false, false, false, false, false, false, false, false, false, false, false, false, false, false, false, false, false, false, false, false, false]) rfl rfl (by kernel_rfl) (by kernel_rfl) (by kernel_rfl) (by kernel_rfl) (by kernel_rfl) (by rfl) (v := ?_) ?_ hHeld ?_
          rotate_left 1
          · intro w hSw; (try dsimp only at hSw); go_simp; try with_reducible rfl
          try simp only [Act.put, List.setIfInBounds_toArray, List.set_cons_zero, List.set_cons_succ]
          refine E_take (i := 2) (some 61) (ls' := #[true, true, true, false, false, false, false, false, false, false, false, false, false, false, false, false, false, false, false, false, false, false, false]) rfl rfl (by kernel_rfl) (by kernel_rfl) (by kernel_rfl) (by kernel_rfl) (by kernel_rfl) (by rfl) (v := ?_) ?_ hHeld ?_
          rotate_left 1
          · intro w hSw; (try dsimp only at hSw); go_simp; try with_reducible rfl
          try simp only [Act.put, List.setIfInBounds_toArray, List.set_cons_zero, List.set_cons_succ]
          refine E_take (i := 3) (some 62) (ls' := #[true, true, true, true, false, false, false, false, false, false, false, false, false, false, false, false, false, false, false, false, false, false, false]) rfl rfl (by kernel_rfl) (by kernel_rfl) (by kernel_rfl) (by kernel_rfl) (by kernel_rfl) (by rfl) (v := ?_) ?_ hHeld ?_
          rotate_left 1
          · intro w hSw; (try dsimp only at hSw); go_simp; try with_reducible rfl
          try simp only [Act.put, List.setIfInBounds_toArray, List.set_cons_zero, List.set_cons_succ]
          refine E_take (i := 4) (some 63) (ls' := #[true, true, true, true, true, false, false, false, false, false, false, false, false, false, false, false, false, false, false, false, false, false, false]) rfl rfl (by kernel_rfl) (by kernel_rfl) (by kernel_rfl) (by kernel_rfl) (by kernel_rfl) (by rfl) (v := ?_) ?_ hHeld ?_
          rotate_left 1
          · intro w hSw; (try dsimp only at hSw); go_simp; try with_reducible rfl
          try simp only [Act.put, List.setIfInBounds_toArray, List.set_cons_zero, List.set_cons_succ]
          refine E_take (i := 5) (some 64) (ls' := #[true, true, true, true, true, true, false, false, false, false, false, false, false, false, false, false, false, false, false, false, false, false, false]) rfl rfl (by kernel_rfl) (by kernel_rfl) (by kernel_rfl) (by kernel_rfl) (by kernel_rfl) (by rfl) (v := ?_) ?_ hHeld ?_
          rotate_left 1
          · intro w hSw; (try dsimp only at hSw); go_simp; try with_reducible rfl
          try simp only [Act.put, List.setIfInBounds_toArray, List.set_cons_zero, List.set_cons_succ]
          refine E_take (i := 6) (some 65) (ls' := #[true, true, true, true, true, true, true, false, false, false, false, false, false, false, false, false, false, false, false, false, false, false, false]) rfl rfl (by kernel_rfl) (by kernel_rfl) (by kernel_rfl) (by kernel_rfl) (by kernel_rfl) (by rfl) (v := ?_) ?_ hHeld ?_
          rotate_left 1
          · intro w hSw; (try dsimp only at hSw); go_simp; try with_reducible rfl
          try simp only [Act.put, List.setIfInBounds_toArray, List.set_cons_zero, List.set_cons_succ]
          refine E_take (i := 7) (some 66) (ls' := #[true, true, true, true, true, true, true, true, false, false, false, false, false, false, false, false, false, false, false, false, false, false, false]) rfl rfl (by kernel_rfl) (by kernel_rfl) (by kernel_rfl) (by kernel_rfl) (by kernel_rfl) (by rfl) (v := ?_) ?_ hHeld ?_
          rotate_left 1
          · intro w hSw; (try dsimp only at hSw); go_simp; try with_reducible rfl
          try simp only [Act.put, List.setIfInBounds_toArray, List.set_cons_zero, List.set_cons_succ]
          refine E_take (i := 8) (some 67) (ls' := #[true, true, true, true, true, true, true, true, true, false, false, false, false, false, false, false, false, false, false, false, false, false, false]) rfl rfl (by kernel_rfl) (by kernel_rfl) (by kernel_rfl) (by kernel_rfl) (by kernel_rfl) (by rfl) (v := ?_) ?_ hHeld ?_
          rotate_left 1
          · intro w hSw; (try dsimp only at hSw); go_simp; try with_reducible rfl
          try simp only [Act.put, List.setIfInBounds_toArray, List.set_cons_zero, List.set_cons_succ]
          refine E_take (i := 9) (some 68) (ls' := #[true, true, true, true, true, true, true, true, true, true, false, false, false, false, false, false, false, false, false, false, false, false, false]) rfl rfl (by kernel_rfl) (by kernel_rfl) (by kernel_rfl) (by kernel_rfl) (by kernel_rfl) (by rfl) (v := ?_) ?_ hHeld ?_
          rotate_left 1
          · intro w hSw; (try dsimp only at hSw); go_simp; try with_reducible rfl
          try simp only [Act.put, List.setIfInBounds_toArray, List.set_cons_zero, List.set_cons_succ]
          refine E_take (i := 10) (some 69) (ls' := #[true, true, true, true, true, true, true, true, true, true, true, false, false, false, false, false, false, false, false, false, false, false, false]) rfl rfl (by kernel_rfl) (by kernel_rfl) (by kernel_rfl) (by kernel_rfl) (by kernel_rfl) (by rfl) (v := ?_) ?_ hHeld ?_
          rotate_left 1
          · intro w hSw; (try dsimp only at hSw); go_simp; try with_reducible rfl
          try simp only [Act.put, List.setIfInBounds_toArray, List.set_cons_zero, List.set_cons_succ]
          refine E_take (i := 11) (some 70) (ls' := #[true, true, true, true, true, true, true, true, true, true, true, true, false, false, false, false, false, false, false, false, false, false, false]) rfl rfl (by kernel_rfl) (by kernel_rfl) (by kernel_rfl) (by kernel_rfl) (by kernel_rfl) (by rfl) (v := ?_) ?_ hHeld ?_
          rotate_left 1
          · intro w hSw; (try dsimp only at hSw); go_simp; try with_reducible rfl
          try simp only [Act.put, List.setIfInBounds_toArray, List.set_cons_zero, List.set_cons_succ]
          refine E_take (i := 12) (some 71) (ls' := #[true, true, true, true, true, true, true, true, true, true, true, true, true, false, false, false, false, false, false, false, false, false, false]) rfl rfl (by kernel_rfl) (by kernel_rfl) (by kernel_rfl) (by kernel_rfl) (by kernel_rfl) (by rfl) (v := ?_) ?_ hHeld ?_
          rotate_left 1
          · intro w hSw; (try dsimp only at hSw); go_simp; try with_reducible rfl
          try simp only [Act.put, List.setIfInBounds_toArray, List.set_cons_zero, List.set_cons_succ]
          refine E_take (i := 13) (some 72) (ls' := #[true, true, true, true, true, true, true, true, true, true, true, true, true, true, false, false, false, false, false, false, false, false, false]) rfl rfl (by kernel_rfl) (by kernel_rfl) (by kernel_rfl) (by kernel_rfl) (by kernel_rfl) (by rfl) (v := ?_) ?_ hHeld ?_
          rotate_left 1
          · intro w hSw; (try dsimp only at hSw); go_simp; try with_reducible rfl
          try simp only [Act.put, List.setIfInBounds_toArray, List.set_cons_zero, List.set_cons_succ]
          refine E_take (i := 14) (some 73) (ls' := #[true, true, true, true, true, true, true, true, true, true, true, true, true, true, true, false, false, false, false, false, false, false, false]) rfl rfl (by kernel_rfl) (by kernel_rfl) (by kernel_rfl) (by kernel_rfl) (by kernel_rfl) (by rfl) (v := ?_) ?_ hHeld ?_
          rotate_left 1
          · intro w hSw; (try dsimp only at hSw); go_simp; try with_reducible rfl
          try simp only [Act.put, List.setIfInBounds_toArray, List.set_cons_zero, List.set_cons_succ]
          refine E_one (i := 15) (ls' := #[true, true, true, true, true, true, true, true, true, true, true, true, true, true, true, true, false, false, false, false, false, false, false]) rfl (by kernel_rfl) (by kernel_rfl) (by rfl) (fun K hK => ?_)
          go_simp
          go_at_call 104
          refine (cT _).mono ?_
          clear cT
          rintro e w6 ⟨rfl, rfl⟩
          have hHeld2 := HC9.out _ (Ext.refl w5).drew
          clear hHeld
          have hHeld := hHeld2
          clear hHeld2
          refine hK _ _ (fun _ => hHeld) ?_
          clear hK K
          try simp only [Act.put, List.setIfInBounds_toArray, List.set_cons_zero, List.set_cons_succ]
          refine E_take (i := 16) (some 75) (ls' := #[true, true, true, true, true, true, true, true, true, true, true, true, true, true, true, true, true, false, false, false, false, false, false]) rfl rfl (by kernel_rfl) (by kernel_rfl) (by kernel_rfl) (by kernel_rfl) (by kernel_rfl) (by rfl) (v := ?_) ?_ hHeld ?_
          rotate_left 1
          · intro w hSw; (try dsimp only at hSw); go_simp; try with_reducible rfl
          try simp only [Act.put, List.setIfInBounds_toArray, List.set_cons_zero, List.set_cons_succ]
          refine E_one (i := 17) (ls' := #[true, true, true, true, true, true, true, true, true, true, true, true, true, true, true, true, true, true, false, false, false, false, false]) rfl (by kernel_rfl) (by kernel_rfl) (by rfl) (fun K hK => ?_)
          go_simp
          have hHeld2 := HC9.out _ ((Ext.refl w5).drew.alloc (.cells #[.int .i64 ((L.length : Int) + 1), .int .i64 q.acc, .string s, .string (tokS ((L.length : Int) + 1) q.acc), .int .i64 1, .int .i64 0, .int .i64 0] 69))
          clear hHeld
          have hHeld := hHeld2
          clear hHeld2
          refine hK _ _ (fun _ => hHeld) ?_
          clear hK K
          try simp only [Act.put, List.setIfInBounds_toArray, List.set_cons_zero, List.set_cons_succ]
          refine E_one (i := 18) (ls' := #[true, true, true, true, true, true, true, true, true, true, true, true, true, true, true, true, true, true, true, false, false, false, false]) rfl (by kernel_rfl) (by kernel_rfl) (by rfl) (fun K hK => ?_)
          clear hHeld
          refine wp_append_any _ (.tmp 64) (.tmp 76) 40 rfl W1.heap.size 69 i1 (.agg #[.int .i64 0, .int .i64 0, .string ⟨#[]⟩, .string ⟨#[]⟩, .int .i64 0, .int .i64 0, .int .i64 0]) 7 72 Tryz.underlying40 hj1 hy0 hy1 hy2 rfl (by decide) _ L.length (autV L) rfl ((HT5.out.own.drew).alloc _) _ (some ⟨w5.heap.size, 0, none⟩) 1 1 [.int .i64 ((L.length : Int) + 1), .int .i64 q.acc, .string s, .string (tokS ((L.length : Int) + 1) q.acc), .int .i64 1, .int .i64 0, .int .i64 0] rfl (reads_newL w5.drew _ _) (by simp [Value.oneCell']) (by have := HLN.out; simp only [maxLen]; omega) (by have := HLN.out; omega) (by have := HT5.out.but.size; simp; omega) ?_
          intro v7 w7 hown7 hg7 _
          have X7 : Ext w5 (w5.drew.alloc (.cells #[.int .i64 ((L.length : Int) + 1), .int .i64 q.acc, .string s, .string (tokS ((L.length : Int) + 1) q.acc), .int .i64 1, .int .i64 0, .int .i64 0] 69)) := (Ext.refl w5).drew.alloc _
          have s1 : Blk w7 w.heap.size 90 #[.pointer (some ⟨b, 0, none⟩)] := Blk.grown (ext_blk (HX5.out.trans X7) HP3.out) hg7 (own_apart HT5.out.own (by have := HS1.out; omega))
          have s2 := Blk.grown (ext_blk (HX5.out.trans X7) HB3.out) hg7 (own_apart HT5.out.own (by have := HS1.out; omega))
          have s3 := Blk.grown (ext_blk X7 HBS5.out) hg7 (fun e => own_blk_ne HT5.out.own HBS5.out (by decide) e.symm)
          obtain ⟨d7, A7, c7, rfl, ht7⟩ := (HT5.out.ext X7).addU HBS.out H61.out HBG.out (newA L.length q.acc s) hown7 hg7
          have hH7 : w7.cell? ⟨w.heap.size, 0, none⟩ = some (.pointer (some ⟨b, 0, none⟩)) ∧ w7.cell? ⟨b, 3, none⟩ = some (.slice uA2 L.length uc2) ∧ w7.cell? ⟨w.heap.size + 1, 1, none⟩ = some (.int .i64 q.acc) ∧ w7.cell? ⟨wr.heap.size, 0, none⟩ = some (.string s) := ⟨s1.cell 0, d7.cell 3, s2.cell 1, s3.cell 0⟩
          have f3 := d7.frozen 3
          have HT7 := Lib.hid ht7
          have hHeld := hH7
          clear s1 s2 s3 d7 ht7 hown7 hg7 X7
          have hHeld2 := hH7
          clear hHeld
          have hHeld := hHeld2
          clear hHeld2
          refine hK _ _ (fun _ => hHeld) ?_
          clear hK K
          try simp only [Act.put, List.setIfInBounds_toArray, List.set_cons_zero, List.set_cons_succ]
          refine E_one (i := 19) (ls' := #[true, true, true, true, true, true, true, true, true, true, true, true, true, true, true, true, true, true, true, true, false, false, false]) rfl (by kernel_rfl) (by kernel_rfl) (by rfl) (fun K hK => ?_)
          go_simp
          refine hK _ _ (fun _ => hHeld) ?_
          clear hK K
          try simp only [Act.put, List.setIfInBounds_toArray, List.set_cons_zero, List.set_cons_succ]
          refine E_one (i := 20) (ls' := #[true, true, true, true, true, true, true, true, true, true, true, true, true, true, true, true, true, true, true, true, true, false, false]) rfl (by kernel_rfl) (by kernel_rfl) (by rfl) (fun K hK => ?_)
          go_simp
          refine hK _ _ (fun _ => hHeld) ?_
          clear hK K
          try simp only [Act.put, List.setIfInBounds_toArray, List.set_cons_zero, List.set_cons_succ]
          refine E_one (i := 21) (ls' := #[true, true, true, true, true, true, true, true, true, true, true, true, true, true, true, true, true, true, true, true, true, true, false]) rfl (by kernel_rfl) (by kernel_rfl) (by rfl) (fun K hK => ?_)
          go_simp
          refine hK _ _ (fun _ => hHeld) ?_
          clear hK K
          try simp only [Act.put, List.setIfInBounds_toArray, List.set_cons_zero, List.set_cons_succ]
          refine E_one (i := 22) (ls' := #[true, true, true, true, true, true, true, true, true, true, true, true, true, true, true, true, true, true, true, true, true, true, true]) rfl (by kernel_rfl) (by kernel_rfl) (by rfl) (fun K hK => ?_)
          go_simp
          refine hK _ _ (fun h => absurd rfl h) ?_
          clear hK K
          try simp only [Act.put, List.setIfInBounds_toArray, List.set_cons_zero, List.set_cons_succ]
          refine E_done (by kernel_rfl) ?_
          clear hHeld f3 hH7 HC9
          obtain ⟨W8, hW8⟩ : ∃ W, W = w7.setCell ⟨b, 3, none⟩ (.slice A7 (L.length + 1) c7) := ⟨_, rfl⟩
          rw [← hW8] at HT7 ⊢
          clear hW8
          have f5 := HT7.out.ord.cell 5
          go_wp2_with (at_builtin; refine wpList_append_own _ rfl (.tmp 82) (.tmp 85) 76 rfl W1.heap.size 3 i0 (.int .i64 0) 1 8 Tryz.underlying76 hi hz0 hz1 hz2 rfl (by decide) _ _ _ rfl (HT7.out.num.alloc _) ⟨W8.heap.size, 0, none⟩ 1 1 [.int .i64 ((L.length : Int) + 1)] rfl rfl (cell_one_new _ _ _) (by simp [Value.oneCell']) (by have := HNL.out; simp only [maxLen]; omega) (by have := HNL.out; omega) (by have := HT7.out.but.size; simp; omega) ?_; intro v6 w6 hown6 hg6 _; obtain ⟨b6, A6, c6, rfl, ht6⟩ := (HT7.out.ext ((Ext.refl _).alloc _)).addN HBS.out H61.out HBG.out ((L.length : Int) + 1) hown6 hg6; have f5 := b6.cell 5; have f6 := b6.frozen 5; have HT6 := Lib.hid ht6; clear b6 hown6 hg6 ht6)
          have hlen6 : (ns ++ [((L.length : Int) + 1)]).length = ns.length + 1 := by simp
          have hj := HJ.out
          have hll := HLL.out
          have hnl := HNL.out
          go_roundg (gk - 1)
          case measure => omega
          case rel => exact ⟨j + 1, by omega, int_congr (by omega), L ++ [newA L.length q.acc s], ns ++ [((L.length : Int) + 1)], _, _, A6, c6, by rw [HHS.out, List.foldl_append, HFO.out]; exact HF.out, HT6.out, (by rw [List.length_append]; simp; omega), (fun x hx => (by rcases List.mem_append.1 hx with hx | hx; exact HLW.out x hx; rw [List.mem_singleton] at hx; subst hx; exact newA_w HLN.out HACC.out HSN.out)), fun n hn => (by rw [List.length_append]; rcases List.mem_append.1 hn with hn | hn; have := HNS.out n hn; simp; omega; rw [List.mem_singleton] at hn; subst hn; simp; omega), by rw [hlen6]; omega⟩
      · obtain rfl : j = q.names.length := by omega
        have HFO2 : Hid (q.names.foldl (wantA q.acc now) (d.auts, []) = (L, ns)) := Lib.hid (by rw [List.take_length] at hfo; exact hfo)
        have cO : ∀ W, Ext wr W → Calls Tryz.prog 105 #[.slice d.rA d.ords.length d.rc] W fun e w' => ∃ v, e = .returned v ∧ w'.ownsRow wr.heap.size 78 8 v d.ords.length (ordV d.ords) ∧ Ext W w' := fun W x =>
          (cloneO_any d.rA d.ords.length d.rc (ordV d.ords) (ordV_one _) HW.out.rl W (((HW.out.ord.stay HL.out.r HGW.out.size (fun k hk hb => HGW.out.block k hb (by simpa using hk))).below x.out).more x.size)).mono fun e w' ⟨v, h1, h2, h3⟩ => ⟨v, h1, own_base h2 x.size, h3⟩
        have HC12 : Hid (∀ W, Ext wr W → (W.cell? ⟨w.heap.size, 0, none⟩ = some (.pointer (some ⟨b, 0, none⟩)) ∧ W.cell? ⟨b, 4, none⟩ = some (.slice d.rA d.ords.length d.rc) ∧ W.cell? ⟨g6, 0, none⟩ = some (.int .i64 ((d.ords.length : Int) + 1)) ∧ W.cell? ⟨g6, 1, none⟩ = some (.int .i64 q.acc) ∧ W.cell? ⟨g6, 2, none⟩ = some (.slice nA q.names.length nc) ∧ W.cell? ⟨g6, 3, none⟩ = some (.int .u64 (q.key : Int)) ∧ W.cell? ⟨g6, 4, none⟩ = some (.int .i64 q.life) ∧ W.cell? ⟨g6, 5, none⟩ = some (.slice aA ns.length ac) ∧ W.cell? ⟨g6, 6, none⟩ = some (.int .i64 1) ∧ W.cell? ⟨g6, 7, none⟩ = some (.int .i64 0))) := Lib.hid fun W x =>
          ⟨(ext_blk x HP3.out).cell 0, (DoorB.ext HST3.out.door x).cell 4, (ext_blk x HST3.out.ord).cell 0, (ext_blk x HST3.out.ord).cell 1, (ext_blk x HST3.out.ord).cell 2, (ext_blk x HST3.out.ord).cell 3, (ext_blk x HST3.out.ord).cell 4, (ext_blk x HST3.out.ord).cell 5, (ext_blk x HST3.out.ord).cell 6, (ext_blk x HST3.out.ord).cell 7⟩
        obtain ⟨i2, hj1, hy0, hy1, hy2⟩ := info_parts Tryz.infoOrd
        clear hj hfo hbu hLl hLw hns hnl hgx hs0 hs1 hbw h61 hgw bq3 bp3 hLn
        go_upto_region 12 with (fail)
        refine E_start (n := 14) (ls := #[false, false, false, false, false, false, false, false, false, false, false, false, false, false]) (fun w' => w'.cell? ⟨w.heap.size, 0, none⟩ = some (.pointer (some ⟨b, 0, none⟩)) ∧ w'.cell? ⟨b, 4, none⟩ = some (.slice d.rA d.ords.length d.rc) ∧ w'.cell? ⟨g6, 0, none⟩ = some (.int .i64 ((d.ords.length : Int) + 1)) ∧ w'.cell? ⟨g6, 1, none⟩ = some (.int .i64 q.acc) ∧ w'.cell? ⟨g6, 2, none⟩ = some (.slice nA q.names.length nc) ∧ w'.cell? ⟨g6, 3, none⟩ = some (.int .u64 (q.key : Int)) ∧ w'.cell? ⟨g6, 4, none⟩ = some (.int .i64 q.life) ∧ w'.cell? ⟨g6, 5, none⟩ = some (.slice aA ns.length ac) ∧ w'.cell? ⟨g6, 6, none⟩ = some (.int .i64 1) ∧ w'.cell? ⟨g6, 7, none⟩ = some (.int .i64 0)) 13 (by kernel_rfl) (by kernel_rfl) (by kernel_rfl) (HC12.out _ (Ext.refl wr).drew) (fun hHeld => ?_)
        refine E_take (i := 0) (some 89) (ls' := #[true, false, false, false, false, false, false, false, false, false, false, false, false, false]) rfl rfl (by kernel_rfl) (by kernel_rfl) (by kernel_rfl) (by kernel_rfl) (by kernel_rfl) (by rfl) (v := ?_) ?_ hHeld ?_
        rotate_left 1
        · intro w hSw; (try dsimp only at hSw); go_simp; try with_reducible rfl
        try simp only [Act.put, List.setIfInBounds_toArray, List.set_cons_zero, List.set_cons_succ]
        refine E_take (i := 1) (some 90) (ls' := #[true, true, false, false, false, false, false, false, false, false, false, false, false, false]) rfl rfl (by kernel_rfl) (by kernel_rfl) (by kernel_rfl) (by kernel_rfl) (by kernel_rfl) (by rfl) (v := ?_) ?_ hHeld ?_
        rotate_left 1
        · intro w hSw; (try dsimp only at hSw); go_simp; try with_reducible rfl
        try simp only [Act.put, List.setIfInBounds_toArray, List.set_cons_zero, List.set_cons_succ]
        refine E_take (i := 2) (some 91) (ls' := #[true, true, true, false, false, false, false, false, false, false, false, false, false, false]) rfl rfl (by kernel_rfl) (by kernel_rfl) (by kernel_rfl) (by kernel_rfl) (by kernel_rfl) (by rfl) (v := ?_) ?_ hHeld ?_
        rotate_left 1
        · intro w hSw; (try dsimp only at hSw); go_simp; try with_reducible rfl
        try simp only [Act.put, List.setIfInBounds_toArray, List.set_cons_zero, List.set_cons_succ]
        refine E_take (i := 3) (some 92) (ls' := #[true, true, true, true, false, false, false, false, false, false, false, false, false, false]) rfl rfl (by kernel_rfl) (by kernel_rfl) (by kernel_rfl) (by kernel_rfl) (by kernel_rfl) (by rfl) (v := ?_) ?_ hHeld ?_
        rotate_left 1
        · intro w hSw; (try dsimp only at hSw); go_simp; try with_reducible rfl
        try simp only [Act.put, List.setIfInBounds_toArray, List.set_cons_zero, List.set_cons_succ]
        refine E_take (i := 4) (some 93) (ls' := #[true, true, true, true, true, false, false, false, false, false, false, false, false, false]) rfl rfl (by kernel_rfl) (by kernel_rfl) (by kernel_rfl) (by kernel_rfl) (by kernel_rfl) (by rfl) (v := ?_) ?_ hHeld ?_
        rotate_left 1
        · intro w hSw; (try dsimp only at hSw); go_simp; try with_reducible rfl
        try simp only [Act.put, List.setIfInBounds_toArray, List.set_cons_zero, List.set_cons_succ]
        refine E_take (i := 5) (some 94) (ls' := #[true, true, true, true, true, true, false, false, false, false, false, false, false, false]) rfl rfl (by kernel_rfl) (by kernel_rfl) (by kernel_rfl) (by kernel_rfl) (by kernel_rfl) (by rfl) (v := ?_) ?_ hHeld ?_
        rotate_left 1
        · intro w hSw; (try dsimp only at hSw); go_simp; try with_reducible rfl
        try simp only [Act.put, List.setIfInBounds_toArray, List.set_cons_zero, List.set_cons_succ]
        refine E_take (i := 7) (some 96) (ls' := #[true, true, true, true, true, true, false, true, false, false, false, false, false, false]) rfl rfl (by kernel_rfl) (by kernel_rfl) (by kernel_rfl) (by kernel_rfl) (by kernel_rfl) (by rfl) (v := ?_) ?_ hHeld ?_
        rotate_left 1
        · intro w hSw; (try dsimp only at hSw); go_simp; try with_reducible rfl
        try simp only [Act.put, List.setIfInBounds_toArray, List.set_cons_zero, List.set_cons_succ]
        refine E_two (i := 6) (k := 8) (ls1 := #[true, true, true, true, true, true, true, true, false, false, false, false, false, false]) (ls2 := #[true, true, true, true, true, true, false, true, true, false, false, false, false, false]) rfl rfl (by kernel_rfl) (by kernel_rfl) (by kernel_rfl) (by rfl) (by rfl) (fun K hK => ?_) (fun K hK => ?_)
        · go_simp
          go_at_call 105
          refine (cO _ (Ext.refl wr).drew).mono ?_
          clear cO
          rintro e w2 ⟨v, rfl, ho2, x2⟩
          have X2 : Ext wr w2 := (Ext.refl wr).drew.trans x2
          have HO2 := Lib.hid ho2
          have HX2 := Lib.hid X2
          clear ho2 x2
          have hHeld2 := HC12.out _ X2
          clear hHeld
          have hHeld := hHeld2
          clear hHeld2
          refine hK _ _ (fun _ => hHeld) ?_
          clear hK K
          try simp only [Act.put, List.setIfInBounds_toArray, List.set_cons_zero, List.set_cons_succ]
          refine E_one (i := 8) (ls' := #[true, true, true, true, true, true, true, true, true, false, false, false, false, false]) rfl (by kernel_rfl) (by kernel_rfl) (by rfl) (fun K hK => ?_)
          go_simp
          have hHeld2 := HC12.out _ (X2.alloc (.cells #[.int .i64 ((d.ords.length : Int) + 1), .int .i64 q.acc, .slice nA q.names.length nc, .int .u64 (q.key : Int), .int .i64 q.life, .slice aA ns.length ac, .int .i64 1, .int .i64 0] 78))
          clear hHeld
          have hHeld := hHeld2
          clear hHeld2
          refine hK _ _ (fun _ => hHeld) ?_
          clear hK K
          try simp only [Act.put, List.setIfInBounds_toArray, List.set_cons_zero, List.set_cons_succ]
          refine E_one (i := 9) (ls' := #[true, true, true, true, true, true, true, true, true, true, false, false, false, false]) rfl (by kernel_rfl) (by kernel_rfl) (by rfl) (fun K hK => ?_)
          clear hHeld
          refine wp_append_any _ (.tmp 95) (.tmp 97) 41 rfl wr.heap.size 78 i2 (.agg #[.int .i64 0, .int .i64 0, .slice none 0 0, .int .u64 0, .int .i64 0, .slice none 0 0, .int .i64 0, .int .i64 0]) 8 96 Tryz.underlying41 hj1 hy0 hy1 hy2 rfl (by decide) v d.ords.length (ordV d.ords) rfl (HO2.out.alloc _) _ (some ⟨w2.heap.size, 0, none⟩) 1 1 [.int .i64 ((d.ords.length : Int) + 1), .int .i64 q.acc, .slice nA q.names.length nc, .int .u64 (q.key : Int), .int .i64 q.life, .slice aA ns.length ac, .int .i64 1, .int .i64 0] rfl (reads_newL w2 _ _) (by simp [Value.oneCell']) (by have := HOL.out; simp only [maxLen]; omega) (by have := HOL.out; omega) (by have := HX2.out.size; simp; omega) ?_
          intro v9 w9 hown9 hg9 _
          have X9 : Ext wr w9 := ext_grown (HX2.out.alloc _) (HO2.out.alloc _) hg9
          have hH9 := HC12.out _ X9
          have f4 := (DoorB.ext HST3.out.door X9).frozen 4
          obtain ⟨A9, c9, rfl, z3, z4, z0, hbut9, hfin⟩ := (HST3.out.ext X9).fin HBW.out (by have := HG6.out; have := HS0.out; omega) H61.out HX1.out HW.out HL.out HQ.out HO1.out HN1.out (by have := HS0.out; omega) HST3.out.but.size HFO2.out HLL.out HLW.out HNS.out HNL.out HLEN.out HOL.out hown9
          have Z3 := Lib.hid z3
          have Z4 := Lib.hid z4
          have Z0 := Lib.hid z0
          have HB9 := Lib.hid hbut9
          have HFI := Lib.hid hfin
          have hHeld := hH9
          clear z3 z4 z0 hbut9 hfin hown9 hg9 X9
          have hHeld2 := hH9
          clear hHeld
          have hHeld := hHeld2
          clear hHeld2
          refine hK _ _ (fun _ => hHeld) ?_
          clear hK K
          try simp only [Act.put, List.setIfInBounds_toArray, List.set_cons_zero, List.set_cons_succ]
          refine E_one (i := 10) (ls' := #[true, true, true, true, true, true, true, true, true, true, true, false, false, false]) rfl (by kernel_rfl) (by kernel_rfl) (by rfl) (fun K hK => ?_)
          go_simp
          refine hK _ _ (fun _ => hHeld) ?_
          clear hK K
          try simp only [Act.put, List.setIfInBounds_toArray, List.set_cons_zero, List.set_cons_succ]
          refine E_one (i := 11) (ls' := #[true, true, true, true, true, true, true, true, true, true, true, true, false, false]) rfl (by kernel_rfl) (by kernel_rfl) (by rfl) (fun K hK => ?_)
          go_simp
          refine hK _ _ (fun _ => hHeld) ?_
          clear hK K
          try simp only [Act.put, List.setIfInBounds_toArray, List.set_cons_zero, List.set_cons_succ]
          refine E_one (i := 12) (ls' := #[true, true, true, true, true, true, true, true, true, true, true, true, true, false]) rfl (by kernel_rfl) (by kernel_rfl) (by rfl) (fun K hK => ?_)
          go_simp
          refine hK _ _ (fun _ => hHeld) ?_
          clear hK K
          try simp only [Act.put, List.setIfInBounds_toArray, List.set_cons_zero, List.set_cons_succ]
          refine E_one (i := 13) (ls' := #[true, true, true, true, true, true, true, true, true, true, true, true, true, true]) rfl (by kernel_rfl) (by kernel_rfl) (by rfl) (fun K hK => ?_)
          go_simp
          refine hK _ _ (fun h => absurd rfl h) ?_
          clear hK K
          try simp only [Act.put, List.setIfInBounds_toArray, List.set_cons_zero, List.set_cons_succ]
          refine E_done (by kernel_rfl) ?_
          clear hHeld f4 hH9
          obtain ⟨W9, hW9⟩ : ∃ W, W = w9.setCell ⟨b, 4, none⟩ (.slice A9 (d.ords.length + 1) c9) := ⟨_, rfl⟩
          rw [← hW9] at Z3 Z4 Z0 HB9 HFI ⊢
          clear hW9
          have z3 := Z3.out
          have z4 := Z4.out
          have z0 := Z0.out
          have zp := (HB9.out.blk HBP1.out (by have := HBW.out; omega) (by have := HG6.out; have := HS0.out; omega)).cell 0
          have d1 : decide ((256 : Int) < (L.length : Int)) = false := decide_eq_false (by have := HLN.out; omega)
          have d2 : decide ((128 : Int) < (d.ords.length : Int) + 1) = false := decide_eq_false (by have := HOL.out; omega)
          clear X2
          go_wp2
          go_ret2
          exact HFI.out
        · go_simp
          have hHeld2 := HC12.out _ ((Ext.refl wr).drew.alloc (.cells #[.int .i64 ((d.ords.length : Int) + 1), .int .i64 q.acc, .slice nA q.names.length nc, .int .u64 (q.key : Int), .int .i64 q.life, .slice aA ns.length ac, .int .i64 1, .int .i64 0] 78))
          clear hHeld
          have hHeld := hHeld2
          clear hHeld2
          refine hK _ _ (fun _ => hHeld) ?_
          clear hK K
          try simp only [Act.put, List.setIfInBounds_toArray, List.set_cons_zero, List.set_cons_succ]
          refine E_one (i := 6) (ls' := #[true, true, true, true, true, true, true, true, true, false, false, false, false, false]) rfl (by kernel_rfl) (by kernel_rfl) (by rfl) (fun K hK => ?_)
          go_simp
          go_at_call 105
          refine (cO _ ((Ext.refl wr).drew.alloc (.cells #[.int .i64 ((d.ords.length : Int) + 1), .int .i64 q.acc, .slice nA q.names.length nc, .int .u64 (q.key : Int), .int .i64 q.life, .slice aA ns.length ac, .int .i64 1, .int .i64 0] 78))).mono ?_
          clear cO
          rintro e w2 ⟨v, rfl, ho2, x2⟩
          have X2 : Ext wr w2 := ((Ext.refl wr).drew.alloc _).trans x2
          have HO2 := Lib.hid ho2
          have HX2 := Lib.hid X2
          have HY2 := Lib.hid x2
          clear ho2 x2
          have hHeld2 := HC12.out _ X2
          clear hHeld
          have hHeld := hHeld2
          clear hHeld2
          refine hK _ _ (fun _ => hHeld) ?_
          clear hK K
          try simp only [Act.put, List.setIfInBounds_toArray, List.set_cons_zero, List.set_cons_succ]
          refine E_one (i := 9) (ls' := #[true, true, true, true, true, true, true, true, true, true, false, false, false, false]) rfl (by kernel_rfl) (by kernel_rfl) (by rfl) (fun K hK => ?_)
          clear hHeld
          refine wp_append_any _ (.tmp 95) (.tmp 97) 41 rfl wr.heap.size 78 i2 (.agg #[.int .i64 0, .int .i64 0, .slice none 0 0, .int .u64 0, .int .i64 0, .slice none 0 0, .int .i64 0, .int .i64 0]) 8 96 Tryz.underlying41 hj1 hy0 hy1 hy2 rfl (by decide) v d.ords.length (ordV d.ords) rfl HO2.out _ (some ⟨wr.heap.size, 0, none⟩) 1 1 [.int .i64 ((d.ords.length : Int) + 1), .int .i64 q.acc, .slice nA q.names.length nc, .int .u64 (q.key : Int), .int .i64 q.life, .slice aA ns.length ac, .int .i64 1, .int .i64 0] rfl (((reads_newL wr.drew _ _).below HY2.out.out).more HY2.out.size) (by simp [Value.oneCell']) (by have := HOL.out; simp only [maxLen]; omega) (by have := HOL.out; omega) (by have := HX2.out.size; simp; omega) ?_
          intro v9 w9 hown9 hg9 _
          have X9 : Ext wr w9 := ext_grown HX2.out HO2.out hg9
          have hH9 := HC12.out _ X9
          have f4 := (DoorB.ext HST3.out.door X9).frozen 4
          obtain ⟨A9, c9, rfl, z3, z4, z0, hbut9, hfin⟩ := (HST3.out.ext X9).fin HBW.out (by have := HG6.out; have := HS0.out; omega) H61.out HX1.out HW.out HL.out HQ.out HO1.out HN1.out (by have := HS0.out; omega) HST3.out.but.size HFO2.out HLL.out HLW.out HNS.out HNL.out HLEN.out HOL.out hown9
          have Z3 := Lib.hid z3
          have Z4 := Lib.hid z4
          have Z0 := Lib.hid z0
          have HB9 := Lib.hid hbut9
          have HFI := Lib.hid hfin
          have hHeld := hH9
          clear z3 z4 z0 hbut9 hfin hown9 hg9 X9
          have hHeld2 := hH9
          clear hHeld
          have hHeld := hHeld2
          clear hHeld2
          refine hK _ _ (fun _ => hHeld) ?_
          clear hK K
          try simp only [Act.put, List.setIfInBounds_toArray, List.set_cons_zero, List.set_cons_succ]
          refine E_one (i := 10) (ls' := #[true, true, true, true, true, true, true, true, true, true, true, false, false, false]) rfl (by kernel_rfl) (by kernel_rfl) (by rfl) (fun K hK => ?_)
          go_simp
          refine hK _ _ (fun _ => hHeld) ?_
          clear hK K
          try simp only [Act.put, List.setIfInBounds_toArray, List.set_cons_zero, List.set_cons_succ]
          refine E_one (i := 11) (ls' := #[true, true, true, true, true, true, true, true, true, true, true, true, false, false]) rfl (by kernel_rfl) (by kernel_rfl) (by rfl) (fun K hK => ?_)
          go_simp
          refine hK _ _ (fun _ => hHeld) ?_
          clear hK K
          try simp only [Act.put, List.setIfInBounds_toArray, List.set_cons_zero, List.set_cons_succ]
          refine E_one (i := 12) (ls' := #[true, true, true, true, true, true, true, true, true, true, true, true, true, false]) rfl (by kernel_rfl) (by kernel_rfl) (by rfl) (fun K hK => ?_)
          go_simp
          refine hK _ _ (fun _ => hHeld) ?_
          clear hK K
          try simp only [Act.put, List.setIfInBounds_toArray, List.set_cons_zero, List.set_cons_succ]
          refine E_one (i := 13) (ls' := #[true, true, true, true, true, true, true, true, true, true, true, true, true, true]) rfl (by kernel_rfl) (by kernel_rfl) (by rfl) (fun K hK => ?_)
          go_simp
          refine hK _ _ (fun h => absurd rfl h) ?_
          clear hK K
          try simp only [Act.put, List.setIfInBounds_toArray, List.set_cons_zero, List.set_cons_succ]
          refine E_done (by kernel_rfl) ?_
          clear hHeld f4 hH9
          obtain ⟨W9, hW9⟩ : ∃ W, W = w9.setCell ⟨b, 4, none⟩ (.slice A9 (d.ords.length + 1) c9) := ⟨_, rfl⟩
          rw [← hW9] at Z3 Z4 Z0 HB9 HFI ⊢
          clear hW9
          have z3 := Z3.out
          have z4 := Z4.out
          have z0 := Z0.out
          have zp := (HB9.out.blk HBP1.out (by have := HBW.out; omega) (by have := HG6.out; have := HS0.out; omega)).cell 0
          have d1 : decide ((256 : Int) < (L.length : Int)) = false := decide_eq_false (by have := HLN.out; omega)
          have d2 : decide ((128 : Int) < (d.ords.length : Int) + 1) = false := decide_eq_false (by have := HOL.out; omega)
          clear X2
          go_wp2
          go_ret2
          exact HFI.out
end Go.Proofs.YtbhdmfijdhcehaaGreatDoor

/- The door, walked: Bytes$1. -/
namespace Go.Proofs.YtbhdmfijdhcehaaGreatDoor
set_option linter.unusedVariables false
set_option linter.unusedSimpArgs false
set_option linter.unusedSimpArgs false
open Go.RowKit Go.Shelf Go.Maps

/-! ### a world that is as it was but for a cell and a row of one's own -/
structure ButV (g : Nat) (v : Value) (w w' : World) : Prop where
  os : w'.os = w.os
  tape : w'.tape = w.tape
  output : w'.output = w.output
  size : w.heap.size ≤ w'.heap.size
  block : ∀ k, k < w.heap.size → k ≠ g → v.ownBlock ≠ some k → w'.heap[k]? = w.heap[k]?
/-- The row of one's own is the old one, or a new one. -/
def follows (v v' : Value) (w : World) : Prop := v'.ownBlock = v.ownBlock ∨ ∃ k, v'.ownBlock = some k ∧ w.heap.size ≤ k
section
variable {g : Nat} {v v1 v2 : Value} {w w1 w2 : World}
theorem ButV.refl (g : Nat) (v : Value) (w : World) : ButV g v w w := ⟨rfl, rfl, rfl, Nat.le_refl _, fun _ _ _ _ => rfl⟩
theorem follows.refl (v : Value) (w : World) : follows v v w := .inl rfl
theorem follows.trans (h : follows v v1 w) (k : follows v1 v2 w1) (hs : w.heap.size ≤ w1.heap.size) : follows v v2 w := by
  rcases k with e | ⟨k, e, hk⟩
  · rcases h with e' | ⟨k, e', hk⟩
    · exact .inl (e.trans e')
    · exact .inr ⟨k, e.trans e', hk⟩
  · exact .inr ⟨k, e, by omega⟩
theorem ButV.ext (h : ButV g v w w1) (x : Ext w1 w2) : ButV g v w w2 := ⟨x.out.os.trans h.os, x.out.tape.trans h.tape, x.out.output.trans h.output, Nat.le_trans h.size x.size, fun k hk h1 h2 => (x.out.block k (Nat.lt_of_lt_of_le hk h.size)).trans (h.block k hk h1 h2)⟩
theorem ButV.set (h : ButV g v w w1) (i : Nat) (u : Value) : ButV g v w (w1.setCell ⟨g, i, none⟩ u) :=
  ⟨h.os, h.tape, h.output, Nat.le_trans h.size (KeepsWalks.setCell w1 ⟨g, i, none⟩ u).size, fun k hk h1 h2 => (Below.heap_setCell w1 ⟨g, i, none⟩ u k h1).trans (h.block k hk h1 h2)⟩
theorem ButV.grown (h : ButV g v w w1) (hf : follows v v1 w) (x : w1.grownBy w2 v1.ownBlock) : ButV g v w w2 :=
  ⟨x.os.trans h.os, x.tape.trans h.tape, x.output.trans h.output, Nat.le_trans h.size x.size, fun k hk h1 h2 => (x.block k (Nat.lt_of_lt_of_le hk h.size) (fun e => by
    rcases hf with e' | ⟨k', e', hk'⟩
    · exact h2 (by rw [← e', e])
    · rw [e'] at e; cases e; omega)).trans (h.block k hk h1 h2)⟩
theorem ButV.blk (h : ButV g v w w1) {k : Nat} {T : TypeId} {cs : Array Value} (hb : Blk w k T cs) (h1 : k ≠ g) (h2 : v.ownBlock ≠ some k) : Blk w1 k T cs := (h.block k hb.lt h1 h2).trans hb
/-- Nothing but the cell, for who holds the row for one's own: what lies below. -/
theorem ButV.below (h : ButV g v w w1) {B : Nat} (hB : B ≤ w.heap.size) (hg : B ≤ g) (hv : ∀ k, v.ownBlock = some k → B ≤ k) : Below B w w1 :=
  ⟨h.os, h.tape, h.output, h.size, fun k hk => h.block k (by omega) (by omega) (fun e => by have := hv k e; omega)⟩
end

def longPost (g B : Nat) (v : Value) (l : List Nat) (w : World) (e : Ending) (w' : World) : Prop :=
  e = .returned (.tuple #[]) ∧ ∃ v', Blk w' g 30 #[v'] ∧ w'.ownsRow B 5 1 v' l.length (bv l) ∧ follows v v' w ∧ ButV g v w w'
set_option maxRecDepth 100000 in
set_option maxHeartbeats 4000000 in
theorem long_any (g B : Nat) (n : Nat) (v : Value) (l : List Nat) (w : World) (hg : Blk w g 30 #[v]) (ho : w.ownsRow B 5 1 v l.length (bv l)) (hB : B ≤ w.heap.size) (hl : l.length ≤ 1099511627776) :
    Calls Tryz.prog 41 #[.int .u64 n, .pointer (some ⟨g, 0, none⟩)] w (longPost g B v (l ++ be n 8) w) := by
  obtain ⟨i0, hi, hz0, hz1, hz2⟩ := info_parts Tryz.infoU8
  have HG := Lib.hid hg
  have HO := Lib.hid ho
  have HB := Lib.hid hB
  have HL := Lib.hid hl
  clear hg ho hB hl
  go_enter Tryz.func41, Tryz.ntmps41
  go_wp2
  go_loopg [3] 8 (fun m s3 wr => ∃ (j : Nat) (v' : Value), j + m = 8 ∧ s3 = .int .i64 ((56 : Int) - 8 * j) ∧ Blk wr g 30 #[v'] ∧ wr.ownsRow B 5 1 v' (l ++ beN n 8 j).length (bv (l ++ beN n 8 j)) ∧ follows v v' w ∧ ButV g v w wr)
  case atStart => exact ⟨0, v, rfl, int_congr (by omega), HG.out, by simpa [beN] using HO.out, follows.refl _ _, ButV.refl _ _ _⟩
  case round =>
    obtain ⟨j, v', hj, rfl, hg, ho, hf, hb⟩ := hrel
    by_cases h : j < 8
    · obtain ⟨i, hij⟩ : ∃ i : Nat, (56 : Int) - 8 * j = i := ⟨56 - 8 * j, by omega⟩
      rw [hij]
      have hi7 : (i : Int) ≤ 56 := by omega
      obtain ⟨q, hq⟩ : ∃ q, q = n / 2 ^ i := ⟨_, rfl⟩
      have k1 : (n : Int) / 2 ^ i = (q : Int) := by rw [hq]; simp
      obtain ⟨r, hr⟩ : ∃ r, r = q % 256 := ⟨_, rfl⟩
      have k2 : IntKind.u8.wrap (q : Int) = (r : Int) := by rw [IntKind.wrap_u8, hr]; omega
      have hrb : r = n / 2 ^ (8 * (8 - 1 - j)) % 256 := by rw [hr, hq]; congr 3; omega
      have hlen : (l ++ beN n 8 j).length ≤ 1099511627784 := by have := HL.out; rw [List.length_append, beN_length]; omega
      obtain ⟨L, hLL⟩ : ∃ L, L = l ++ beN n 8 j := ⟨_, rfl⟩
      rw [← hLL] at ho hlen
      have HLL := Lib.hid hLL
      have HR := Lib.hid hrb
      have HJ := Lib.hid hj
      have HI := Lib.hid hij
      have HLN := Lib.hid hlen
      have HG2 := Lib.hid hg
      have HO2 := Lib.hid ho
      have HF := Lib.hid hf
      have HV := Lib.hid hb
      have hS1 := fun (W : World) (x : Ext wr W) => (ext_blk x hg).cell 0
      clear hLL hq hr hrb hj hij hlen hg ho hf hb
      go_upto_region 3 with (fail)
      refine E_start (n := 8) (ls := #[false, false, false, false, false, false, false, false]) (fun w' => w'.cell? ⟨g, 0, none⟩ = some v') 7 (by kernel_rfl) (by kernel_rfl) (by kernel_rfl) (hS1 _ (Ext.refl wr).drew) (fun hHeld => ?_)
      refine E_take (i := 0) (some 8) (ls' := #[true, false, false, false, false, false, false, false]) rfl rfl (by kernel_rfl) (by kernel_rfl) (by kernel_rfl) (by kernel_rfl) (by kernel_rfl) (by rfl) (v := ?_) ?_ hHeld ?_
      rotate_left 1
      · intro w hSw; (try dsimp only at hSw); go_simp; try with_reducible rfl
      try simp only [Act.put, List.setIfInBounds_toArray, List.set_cons_zero, List.set_cons_succ]
      refine E_take (i := 1) (some 9) (ls' := #[true, true, false, false, false, false, false, false]) rfl rfl (by kernel_rfl) (by kernel_rfl) (by kernel_rfl) (by kernel_rfl) (by kernel_rfl) (by rfl) (v := ?_) ?_ hHeld ?_
      rotate_left 1
      · intro w hSw; (try dsimp only at hSw); go_simp; try with_reducible rfl
      try simp only [Act.put, List.setIfInBounds_toArray, List.set_cons_zero, List.set_cons_succ]
      refine E_take (i := 2) (some 10) (ls' := #[true, true, true, false, false, false, false, false]) rfl rfl (by kernel_rfl) (by kernel_rfl) (by kernel_rfl) (by kernel_rfl) (by kernel_rfl) (by rfl) (v := ?_) ?_ hHeld ?_
      rotate_left 1
      · intro w hSw; (try dsimp only at hSw); go_simp; try with_reducible rfl
      try simp only [Act.put, List.setIfInBounds_toArray, List.set_cons_zero, List.set_cons_succ]
      refine E_take (i := 3) (some 11) (ls' := #[true, true, true, true, false, false, false, false]) rfl rfl (by kernel_rfl) (by kernel_rfl) (by kernel_rfl) (by kernel_rfl) (by kernel_rfl) (by rfl) (v := ?_) ?_ hHeld ?_
      rotate_left 1
      · intro w hSw; (try dsimp only at hSw); go_simp; try with_reducible rfl
      try simp only [Act.put, List.setIfInBounds_toArray, List.set_cons_zero, List.set_cons_succ]
      refine E_take (i := 4) (some 12) (ls' := #[true, true, true, true, true, false, false, false]) rfl rfl (by kernel_rfl) (by kernel_rfl) (by kernel_rfl) (by kernel_rfl) (by kernel_rfl) (by rfl) (v := ?_) ?_ hHeld ?_
      rotate_left 1
      · intro w hSw; (try dsimp only at hSw); go_simp; try with_reducible rfl
      try simp only [Act.put, List.setIfInBounds_toArray, List.set_cons_zero, List.set_cons_succ]
      refine E_one (i := 5) (ls' := #[true, true, true, true, true, true, false, false]) rfl (by kernel_rfl) (by kernel_rfl) (by rfl) (fun K hK => ?_)
      go_simp
      have hHeld2 := hS1 _ ((Ext.refl wr).drew.alloc (.cells #[.int .u8 (r : Int)] 5))
      clear hHeld
      have hHeld := hHeld2
      clear hHeld2
      refine hK _ _ (fun _ => hHeld) ?_
      clear hK K
      try simp only [Act.put, List.setIfInBounds_toArray, List.set_cons_zero, List.set_cons_succ]
      refine E_one (i := 6) (ls' := #[true, true, true, true, true, true, true, false]) rfl (by kernel_rfl) (by kernel_rfl) (by rfl) (fun K hK => ?_)
      clear hHeld
      refine wp_append_any _ (.tmp 8) (.tmp 13) 30 rfl B 5 i0 (.int .u8 0) 1 1 Tryz.underlying30 hi hz0 hz1 hz2 rfl (by decide) v' L.length (bv L) rfl ((HO2.out.drew).alloc _) _ (some ⟨wr.heap.size, 0, none⟩) 1 1 [.int .u8 (r : Int)] rfl (reads_newL wr.drew _ _) (by simp [Value.oneCell']) (by have := HLN.out; simp only [maxLen]; omega) (by have := HLN.out; omega) (by have := HV.out.size; have := HB.out; simp; omega) ?_
      intro v9 w9 hown9 hg9 hfo9
      obtain ⟨A9, c9, rfl, hc9, -⟩ := own_slice2 hown9
      have X9 : Ext wr (wr.drew.alloc (.cells #[.int .u8 (r : Int)] 5)) := (Ext.refl wr).drew.alloc _
      have b9 := Blk.grown (ext_blk X9 HG2.out) hg9 (fun e => own_blk_ne HO2.out HG2.out (by decide) e.symm)
      have hH9 := b9.cell 0
      have f9 := b9.frozen 0
      have HB9 := Lib.hid b9
      have HF9 : Hid (follows v (.slice A9 (L.length + 1) c9) w) := Lib.hid (HF.out.trans (w1 := wr) (hfo9.imp id (fun e => ⟨_, e, by simp⟩)) HV.out.size)
      have HV9 := Lib.hid ((HV.out.ext X9).grown HF.out hg9)
      have HO9 := Lib.hid hown9
      have hHeld := hH9
      clear b9 hown9 hg9 hfo9 X9
      have hHeld2 := hH9
      clear hHeld
      have hHeld := hHeld2
      clear hHeld2
      refine hK _ _ (fun _ => hHeld) ?_
      clear hK K
      try simp only [Act.put, List.setIfInBounds_toArray, List.set_cons_zero, List.set_cons_succ]
      refine E_one (i := 7) (ls' := #[true, true, true, true, true, true, true, true]) rfl (by kernel_rfl) (by kernel_rfl) (by rfl) (fun K hK => ?_)
      go_simp
      refine hK _ _ (fun h => absurd rfl h) ?_
      clear hK K
      try simp only [Act.put, List.setIfInBounds_toArray, List.set_cons_zero, List.set_cons_succ]
      refine E_done (by kernel_rfl) ?_
      clear hHeld f9 hH9 hS1
      have HJJ := HJ.out
      have HII := HI.out
      go_wp2
      go_roundg (gk - 1)
      case measure => omega
      case rel =>
        refine ⟨j + 1, .slice A9 (L.length + 1) c9, by omega, int_congr (by omega), HB9.out.set_ 0 _, ?_, HF9.out, HV9.out.set 0 _⟩
        have e : l ++ beN n 8 (j + 1) = L ++ [r] := by rw [beN_succ, HLL.out, List.append_assoc, HR.out]
        rw [e, List.length_append, bv_append]
        exact own_setT HO9.out HB9.out (by decide) 0 _
    · obtain rfl : j = 8 := by omega
      have e : (56 : Int) - 8 * (8 : Nat) = -8 := by omega
      rw [e]
      have HO2 := Lib.hid ho
      have HG2 := Lib.hid hg
      have HV := Lib.hid hb
      have HF := Lib.hid hf
      clear ho hg hf hb hi hz0 hz1 hz2 hj
      go_wp2
      (try simp only [Exit.inBlock, Exit.then])
      refine bodyPost_end (results_none rfl _ _ _) rfl ?_
      exact ⟨rfl, v', HG2.out, HO2.out, HF.out, HV.out⟩
end Go.Proofs.YtbhdmfijdhcehaaGreatDoor

/- The door, walked: Bytes. -/
namespace Go.Proofs.YtbhdmfijdhcehaaGreatDoor
set_option linter.unusedVariables false
set_option linter.unusedSimpArgs false
set_option linter.unusedSimpArgs false
open Go.RowKit Go.Shelf Go.Maps

theorem be_big (n : Nat) : be n 8 = bigD 8 n := by
  simp [be, beN, bigD, List.range_succ, Nat.div_div_eq_div_mul]
theorem namesB_append : ∀ (a b : List ByteArray), namesB (a ++ b) = namesB a ++ namesB b
  | [], b => rfl
  | s :: a, b => by simp [namesB, namesB_append a b]
theorem fm_len8 : ∀ l : List Nat, (l.flatMap (bigD 8)).length = 8 * l.length
  | [] => rfl
  | a :: l => by rw [List.flatMap_cons, List.length_append, fm_len8 l, bigD_length, List.length_cons]; omega
theorem namesB_len : ∀ {l : List ByteArray}, (∀ s ∈ l, s.size ≤ 64) → (namesB l).length ≤ 72 * l.length
  | [], _ => by simp [namesB]
  | s :: l, h => by
    have := namesB_len (l := l) fun x hx => h x (by simp [hx])
    have h0 := h s (by simp)
    have e1 : (txN s).length = s.size := strN_length s
    simp only [namesB, List.length_append, List.length_cons, eight_length, e1]
    omega
/-- The bytes so far, in the cell. -/
structure BSt (w W0 : World) (l : List Nat) (wr : World) : Prop where
  row : ∃ v, Blk wr (w.heap.size + 1) 30 #[v] ∧ wr.ownsRow (w.heap.size + 2) 5 1 v l.length (bv l)
  below : Below (w.heap.size + 1) W0 wr
theorem long_st (w W0 : World) (l : List Nat) (n : Nat) (wr : World) (h0 : w.heap.size + 2 ≤ W0.heap.size) (h : BSt w W0 l wr) (hl : l.length ≤ 1099511627776) :
    Calls Tryz.prog 41 #[.int .u64 n, .pointer (some ⟨w.heap.size + 1, 0, none⟩)] wr fun e w' => e = .returned (.tuple #[]) ∧ BSt w W0 (l ++ bigD 8 n) w' ∧ ∀ k T cs, Blk wr k T cs → 5 ≠ T → k ≠ w.heap.size + 1 → Blk w' k T cs := by
  obtain ⟨⟨v, hb, ho⟩, hw⟩ := h
  refine (long_any (w.heap.size + 1) (w.heap.size + 2) n v l wr hb ho (by have := hw.size; omega) hl).mono ?_
  rintro e w' ⟨rfl, v', b', o', hf, hv⟩
  rw [be_big] at o'
  refine ⟨rfl, ⟨⟨v', b', o'⟩, hw.trans (hv.below (by have := hw.size; omega) (Nat.le_refl _) (fun k hk => by have := own_out ho k hk; omega))⟩, fun k T cs hk hT hne => hv.blk hk hne (own_blk_ne ho hk hT)⟩
theorem uv_at {W : World} {g : Nat} {T : TypeId} {l : List Nat} (h : Blk W g T (uv l).toArray) {j : Nat} {x : Nat} (hj : l[j]? = some x) : W.cell? ⟨g, j, none⟩ = some (.int .u64 (x : Int)) := by
  rw [h.cell j]; simp [uv, hj]
theorem iv_cell {W : World} {g : Nat} {T : TypeId} {l : List Int} (h : Blk W g T (iv l).toArray) {j : Nat} {x : Int} (hj : l[j]? = some x) : W.cell? ⟨g, j, none⟩ = some (.int .i64 x) := by
  rw [h.cell j]; simp [iv, hj]
def bytR (q : QueR) : List Nat := if byteE q = 0 then byteL q else []
def bytPost (q : QueR) (w : World) (e : Ending) (w' : World) : Prop := ∃ v, e = .returned (.tuple #[v, .int .i64 ((byteE q : Nat) : Int)]) ∧ w'.ownsRow w.heap.size 5 1 v (bytR q).length (bv (bytR q)) ∧ Ext w w'
theorem bytPost_no {q : QueR} {w w' : World} (h : ¬ (headP q ∧ ∀ s ∈ q.names, s.size ≤ 64)) (x : Ext w w') : bytPost q w (.returned (.tuple #[.slice none 0 0, .int .i64 1])) w' := by
  have h1 : byteE q = 1 := by unfold byteE; rw [if_neg h]
  have h2 : bytR q = [] := by unfold bytR; rw [h1]; rfl
  exact ⟨.slice none 0 0, by rw [h1]; rfl, by rw [h2]; exact ⟨rfl, .inl ⟨rfl, rfl⟩⟩, x⟩
theorem bytes_head_no {q : QueR} (h : ¬ (1 ≤ q.kind ∧ q.kind ≤ 5 ∧ q.names.length ≤ 8)) : ¬ (headP q ∧ ∀ s ∈ q.names, s.size ≤ 64) := fun k => h ⟨k.1.1, k.1.2.1, k.1.2.2.1⟩
theorem BSt.ext {w W0 : World} (x : Ext w W0) (h0 : w.heap.size + 2 ≤ W0.heap.size) {l : List Nat} {wr : World} (h : BSt w W0 l wr) : Ext w wr := Ext.of (x.out.trans ⟨h.below.os, h.below.tape, h.below.output, h.below.size, fun k hk => h.below.block k (by omega)⟩)
set_option maxRecDepth 100000 in
set_option maxHeartbeats 8000000 in
theorem oBytes_any (q : QueR) (A : Option Addr) (c : Nat) (w : World) (hq : QueW w w.heap.size q A c) : Calls Tryz.prog 14 #[queV q A c] w (bytPost q w) := by
  unfold queV
  obtain ⟨W0, e0, bq, bb, x0, s0⟩ := startP w #[.int .i64 q.kind, .int .i64 q.acc, .int .i64 q.nonce, .int .u64 (q.key : Int), .slice A q.names.length c, .int .i64 q.life, .int .i64 q.id, .int .u64 (q.e : Int), .int .u64 (q.s : Int)] #[.slice none 0 0] 27 30
  have HQ := Lib.hid hq
  have HX := Lib.hid x0
  have HS0 := Lib.hid s0
  have HBQ := Lib.hid bq
  have HBB := Lib.hid bb
  have hnl : (q.names.length : Int) ≤ 1099511627776 := by have := hq.nl; omega
  obtain ⟨k0, k1, k2, k3, k4, k5, k6, k7, k8⟩ := arr9 bq
  have c0 := bb.cell 0
  have f0 := bb.frozen 0
  clear hq x0 s0 bq bb
  go_enter Tryz.func14, Tryz.ntmps14
  go_upto_region 2 with (fail)
  try rw [e0]
  clear e0
  by_cases h1 : 1 ≤ q.kind ∧ q.kind ≤ 5 ∧ q.names.length ≤ 8
  case neg =>
    have hno := Lib.hid (bytes_head_no h1)
    have key : ∀ (d1 d2 d3 : Bool), decide (q.kind < 1) = d1 → decide (5 < q.kind) = d2 → decide ((8 : Int) < (q.names.length : Int)) = d3 → (d1 || d2 || d3) = true := by
      intro d1 d2 d3 e1 e2 e3
      subst e1 e2 e3
      simp
      omega
    cases e1 : decide (q.kind < 1) <;> cases e2 : decide (5 < q.kind) <;> cases e3 : decide ((8 : Int) < (q.names.length : Int))
    all_goals (try (have := key _ _ _ e1 e2 e3; cases this; done))
    all_goals
      clear key h1
      go_wp2
      refine bodyPost_ret (v := .tuple #[.slice none 0 0, .int .i64 1]) (by simp [results, Tryz.results14, go_sem, c0]) rfl (bytPost_no hno.out (HX.out.setCell (p := ⟨w.heap.size + 1, 0, none⟩) (Nat.le_succ _) _))
  have d1 : decide (q.kind < 1) = false := decide_eq_false (by omega)
  have d2 : decide (5 < q.kind) = false := decide_eq_false (by omega)
  have d3 : decide ((8 : Int) < (q.names.length : Int)) = false := decide_eq_false (by omega)
  have H1 := Lib.hid h1
  clear h1
  go_upto_region 4 with (fail)
  go_upto_if 5 with (fail)
  obtain ⟨W1, e1⟩ : ∃ W, W0.alloc (.cells #[.int .i64 q.acc, .int .i64 q.nonce, .int .i64 q.life, .int .i64 q.id] 3) = W := ⟨_, rfl⟩
  try rw [e1]
  have X1 : Ext W0 W1 := by rw [← e1]; exact (Ext.refl W0).alloc _
  have b4 : Blk W1 W0.heap.size 3 (iv [q.acc, q.nonce, q.life, q.id]).toArray := by rw [← e1]; exact Blk.new _ _ _
  clear e1 k0 k1 k2 k3 k4 k5 k6 k7 k8 c0 f0 d1 d2 d3
  have HX1 := Lib.hid X1
  have HB4 := Lib.hid b4
  clear X1 b4
  go_loopg [3, 36] 4 (fun g s3 s36 wr => ∃ j : Nat, j + g = 4 ∧ s3 = .int .i64 0 ∧ s36 = .int .i64 j ∧ wr = W1 ∧ ∀ (i : Nat) (x : Int), i < j → [q.acc, q.nonce, q.life, q.id][i]? = some x → numP x)
  case atStart => exact ⟨0, rfl, rfl, rfl, rfl, fun i x h => by omega⟩
  case round =>
    obtain ⟨j, hj, rfl, rfl, hw, hok⟩ := hrel
    obtain rfl : W1 = wr := hw.symm
    by_cases hjl : j < 4
    · obtain ⟨x, hx⟩ : ∃ x, [q.acc, q.nonce, q.life, q.id][j]? = some x := ⟨_, List.getElem?_eq_getElem (by simpa using hjl)⟩
      have p1 := iv_cell HB4.out hx
      have hjb : (j : Int) < 4 := by omega
      by_cases hn : numP x
      · have HOK : Hid (∀ (i : Nat) (y : Int), i < j + 1 → [q.acc, q.nonce, q.life, q.id][i]? = some y → numP y) := Lib.hid fun i y hi hy => by
          by_cases hij : i < j
          · exact hok i y hij hy
          · obtain rfl : i = j := by omega
            rw [hx] at hy; cases hy; exact hn
        have cN := onum_any x
        rw [show decide (numP x) = true from decide_eq_true hn] at cN
        have HJ := Lib.hid hj
        clear hok hx hn hj
        go_wp2_with (go_at_call 42; refine (cN _).mono ?_; clear cN; rintro e w5 ⟨rfl, rfl⟩)
        have hj := HJ.out
        go_roundg (gk - 1)
        case measure => omega
        case rel => exact ⟨j + 1, by omega, rfl, int_congr (by omega), rfl, HOK.out⟩
      · have hno : Hid (¬ (headP q ∧ ∀ s ∈ q.names, s.size ≤ 64)) := Lib.hid fun h => hn (by
          obtain ⟨⟨_, _, _, h1, h2, h3, h4⟩, _⟩ := h
          match j, hx with
          | 0, e => simp at e; exact e ▸ h1
          | 1, e => simp at e; exact e ▸ h2
          | 2, e => simp at e; exact e ▸ h3
          | 3, e => simp at e; exact e ▸ h4)
        have cN := onum_any x
        rw [show decide (numP x) = false from decide_eq_false hn] at cN
        have bb := ext_blk HX1.out HBB.out
        have c0 := bb.cell 0
        have f0 := bb.frozen 0
        clear hok hx hn hj bb
        go_wp2_with (go_at_call 42; refine (cN _).mono ?_; clear cN; rintro e w5 ⟨rfl, rfl⟩)
        refine bodyPost_ret (v := .tuple #[.slice none 0 0, .int .i64 1]) (by simp [results, Tryz.results14, go_sem, c0]) rfl (bytPost_no hno.out ((HX.out.trans HX1.out).setCell (p := ⟨w.heap.size + 1, 0, none⟩) (Nat.le_succ _) _))
    · obtain rfl : j = 4 := by omega
      have hh : headP q := ⟨H1.out.1, H1.out.2.1, H1.out.2.2, hok 0 _ (by omega) rfl, hok 1 _ (by omega) rfl, hok 2 _ (by omega) rfl, hok 3 _ (by omega) rfl⟩
      clear hok hj hjl
      obtain ⟨z1, z2, z3, z4, z5, z6, z7⟩ := id hh
      obtain ⟨nk, hk⟩ : ∃ k : Nat, q.kind = k := ⟨q.kind.toNat, by omega⟩
      obtain ⟨na, ha⟩ : ∃ k : Nat, q.acc = k := ⟨q.acc.toNat, by have := z4.1; omega⟩
      obtain ⟨nn, hn⟩ : ∃ k : Nat, q.nonce = k := ⟨q.nonce.toNat, by have := z5.1; omega⟩
      obtain ⟨nf, hf⟩ : ∃ k : Nat, q.life = k := ⟨q.life.toNat, by have := z6.1; omega⟩
      obtain ⟨ni, hi⟩ : ∃ k : Nat, q.id = k := ⟨q.id.toNat, by have := z7.1; omega⟩
      have w1 : IntKind.u64.wrap (nk : Int) = (nk : Int) := by rw [IntKind.wrap_u64]; omega
      have w2 : IntKind.u64.wrap (na : Int) = (na : Int) := by rw [IntKind.wrap_u64]; have := z4.2; omega
      have w3 : IntKind.u64.wrap (nn : Int) = (nn : Int) := by rw [IntKind.wrap_u64]; have := z5.2; omega
      have w4 : IntKind.u64.wrap (nf : Int) = (nf : Int) := by rw [IntKind.wrap_u64]; have := z6.2; omega
      have w5 : IntKind.u64.wrap (ni : Int) = (ni : Int) := by rw [IntKind.wrap_u64]; have := z7.2; omega
      have w6 : IntKind.u64.wrap (q.names.length : Int) = (q.names.length : Int) := by rw [IntKind.wrap_u64]; omega
      have bq := ext_blk HX1.out HBQ.out
      obtain ⟨k0, k1, k2, k3, k4, k5, k6, k7, k8⟩ := arr9 bq
      rw [hk] at k0
      rw [ha] at k1
      rw [hn] at k2
      rw [hf] at k5
      rw [hi] at k6
      have HK := Lib.hid (And.intro hk (And.intro ha (And.intro hn (And.intro hf hi))))
      have HH := Lib.hid hh
      clear hh z1 z2 z3 z4 z5 z6 z7 hk ha hn hf hi bq
      go_upto_region 11 with (fail)
      obtain ⟨uvl, huvl⟩ : ∃ l, l = [nk, na, nn, q.key, nf, ni, q.names.length] := ⟨_, rfl⟩
      have hul : uvl.length = 7 := by rw [huvl]; rfl
      obtain ⟨W2, e2⟩ : ∃ W, W1.alloc (.cells #[.int .u64 (nk : Int), .int .u64 (na : Int), .int .u64 (nn : Int), .int .u64 (q.key : Int), .int .u64 (nf : Int), .int .u64 (ni : Int), .int .u64 (q.names.length : Int)] 22) = W := ⟨_, rfl⟩
      try rw [e2]
      have X2 : Ext W1 W2 := by rw [← e2]; exact (Ext.refl W1).alloc _
      have b7 : Blk W2 W1.heap.size 22 (uv uvl).toArray := by rw [← e2, huvl]; exact Blk.new _ _ _
      have HX2 := Lib.hid (HX1.out.trans X2)
      have HB7 := Lib.hid b7
      have HUV := Lib.hid huvl
      have HUL := Lib.hid hul
      have HB2 : Hid (BSt w W0 [] W2) := Lib.hid ⟨⟨_, ext_blk HX2.out HBB.out, ⟨rfl, .inl ⟨rfl, rfl⟩⟩⟩, HX2.out.out.mono (by have := HS0.out; omega)⟩
      clear e2 X2 b7 huvl hul k0 k1 k2 k3 k4 k5 k6 k7 k8 w1 w2 w3 w4 w5 w6
      go_loopg [67] 7 (fun g s67 wr => ∃ j : Nat, j + g = 7 ∧ s67 = .int .i64 j ∧ BSt w W0 ((uvl.take j).flatMap (bigD 8)) wr ∧ Blk wr W1.heap.size 22 (uv uvl).toArray ∧ Blk wr w.heap.size 27 #[.int .i64 q.kind, .int .i64 q.acc, .int .i64 q.nonce, .int .u64 (q.key : Int), .slice A q.names.length c, .int .i64 q.life, .int .i64 q.id, .int .u64 (q.e : Int), .int .u64 (q.s : Int)])
      case atStart => exact ⟨0, rfl, rfl, HB2.out, HB7.out, ext_blk HX2.out HBQ.out⟩
      case round =>
        obtain ⟨j, hj, rfl, hst, hb7, hbq⟩ := hrel
        by_cases hjl : j < 7
        · obtain ⟨x, hx⟩ : ∃ x, uvl[j]? = some x := ⟨_, List.getElem?_eq_getElem (by have := HUL.out; omega)⟩
          have p1 := uv_at hb7 hx
          have hjb : (j : Int) < 7 := by omega
          have hfl : ((uvl.take j).flatMap (bigD 8)).length ≤ 1099511627776 := by
            rw [fm_len8, List.length_take]; omega
          have cL := long_st w W0 ((uvl.take j).flatMap (bigD 8)) x wr (by have := HS0.out; omega) hst hfl
          have HE : Hid ((uvl.take (j + 1)).flatMap (bigD 8) = (uvl.take j).flatMap (bigD 8) ++ bigD 8 x) := Lib.hid (by rw [tk_snoc hx, List.flatMap_append]; simp)
          have HJ := Lib.hid hj
          have H7 := Lib.hid hb7
          have HQ7 := Lib.hid hbq
          have hne : Hid (W1.heap.size ≠ w.heap.size + 1) := Lib.hid (by have := HS0.out; have := HX1.out.size; omega)
          clear hx hj hst hb7 hbq hfl
          go_wp2_with (go_at_call 41; refine cL.mono ?_; clear cL; rintro e w5 ⟨rfl, hst5, hk5⟩)
          have hj := HJ.out
          go_roundg (gk - 1)
          case measure => omega
          case rel => exact ⟨j + 1, by omega, int_congr (by omega), by rw [HE.out]; exact hst5, hk5 _ _ _ H7.out (by decide) hne.out, hk5 _ _ _ HQ7.out (by decide) (by omega)⟩
        · obtain rfl : j = 7 := by omega
          have hst2 : BSt w W0 (uvl.flatMap (bigD 8)) wr := by rw [List.take_of_length_le (by have := HUL.out; omega)] at hst; exact hst
          have hpre : uvl.flatMap (bigD 8) ++ namesB q.names = byteL q := by
            obtain ⟨e1, e2, e3, e4, e5⟩ := HK.out
            unfold byteL eightI
            rw [HUV.out, e1, e2, e3, e4, e5]
            simp
          have hpl : (uvl.flatMap (bigD 8)).length = 56 := by rw [HUV.out]; simp [bigD_length]
          obtain ⟨P, hP⟩ : ∃ P, P = uvl.flatMap (bigD 8) := ⟨_, rfl⟩
          rw [← hP] at hst2 hpre hpl
          have HPR := Lib.hid hpre
          have HPL := Lib.hid hpl
          have HST := Lib.hid hst2
          have bq9 := hbq.cell 4
          clear hst hst2 hb7 hbq hj hjl hP hpre hpl
          go_upto_region 16 with (fail)
          go_loopg [3, 78] q.names.length (fun g s3 s78 wr => ∃ j : Nat, j + g = q.names.length ∧ s3 = .int .i64 0 ∧ s78 = .int .i64 j ∧ BSt w W0 (P ++ namesB (q.names.take j)) wr ∧ ∀ s ∈ q.names.take j, s.size ≤ 64)
          case atStart => exact ⟨0, by omega, rfl, rfl, by simpa [namesB] using HST.out, by simp⟩
          case round =>
            obtain ⟨j, hj, rfl, rfl, hst, hok⟩ := hrel
            have hxw := hst.ext HX.out (by have := HS0.out; omega)
            have hjb : (j : Int) ≤ 1099511627776 := by have := HQ.out.nl; omega
            by_cases hjl : j < q.names.length
            · obtain ⟨s, hs⟩ : ∃ s, q.names[j]? = some s := ⟨_, List.getElem?_eq_getElem hjl⟩
              obtain ⟨ad, hA, p1⟩ := reads_text (HQ.out.ext hxw).names hs
              subst hA
              by_cases h64 : s.size ≤ 64
              · have hlB : (P ++ namesB (q.names.take j)).length ≤ 1000 := by
                  have := namesB_len hok
                  rw [List.length_append, HPL.out]
                  rw [List.length_take] at this
                  have := H1.out.2.2
                  omega
                have cL := long_st w W0 (P ++ namesB (q.names.take j)) s.size wr (by have := HS0.out; omega) hst (by omega)
                have d1 : decide ((64 : Int) < (s.size : Int)) = false := decide_eq_false (by omega)
                have w1 : IntKind.u64.wrap (s.size : Int) = (s.size : Int) := by rw [IntKind.wrap_u64]; omega
                have HE : Hid (P ++ namesB (q.names.take (j + 1)) = (P ++ namesB (q.names.take j) ++ bigD 8 s.size) ++ txN s) := Lib.hid (by
                  rw [tk_snoc hs, namesB_append]
                  simp [namesB, eightI])
                have HOK : Hid (∀ x ∈ q.names.take (j + 1), x.size ≤ 64) := Lib.hid (by
                  rw [tk_snoc hs]
                  intro x hx
                  rcases List.mem_append.1 hx with hx | hx
                  · exact hok x hx
                  · rw [List.mem_singleton] at hx; subst hx; exact h64)
                obtain ⟨Q, hQ⟩ : ∃ Q, Q = P ++ namesB (q.names.take j) ++ bigD 8 s.size := ⟨_, rfl⟩
                rw [← hQ] at cL HE
                have hQl : Q.length ≤ 1008 := by rw [hQ, List.length_append, bigD_length]; omega
                have hQ0 : 0 < Q.length := by rw [hQ, List.length_append, bigD_length]; omega
                have HQL := Lib.hid hQl
                have HQ0 := Lib.hid hQ0
                have HJ := Lib.hid hj
                have H64 := Lib.hid h64
                clear hs hj hst hok h64 hlB hQ hQl hQ0 hxw
                go_upto_region 21 with (go_at_call 41; refine cL.mono ?_; clear cL; rintro e w5 ⟨rfl, hst5, hk5⟩)
                obtain ⟨⟨v5, b5, o5⟩, hB5⟩ := id hst5
                have hv5 : v5 ≠ .slice none 0 0 := by
                  obtain ⟨g, cap, e, _⟩ := o5.form HQ0.out
                  rw [e]
                  intro h
                  cases h
                have c5 := b5.cell 0
                obtain ⟨i0, hi, hz0, hz1, hz2⟩ := info_parts Tryz.infoU8
                have HO5 := Lib.hid o5
                have HB5 := Lib.hid b5
                have HBL := Lib.hid hB5
                clear hst5 hk5 o5 b5 hB5
                go_wp2_with (at_builtin; refine wpList_append_own_src _ rfl (.tmp 90) (.tmp 91) 30 9 rfl (w.heap.size + 2) 5 i0 (.int .u8 0) 1 1 Tryz.underlying30 hi hz0 hz1 hz2 rfl v5 Q.length (bv Q) rfl HO5.out (.string s) s.size (byteCells s) rfl (Src.ofString _ Tryz.underlying9 s) (by have := H64.out; have := HQL.out; simp only [maxLen]; omega) (by have := H64.out; have := HQL.out; omega) (by have := HS0.out; have := HBL.out.size; omega) hv5 ?_; intro v6 w6 hown6 hg6 _; obtain ⟨A6, c6, rfl, hc6, -⟩ := own_slice2 hown6; have b6 := Blk.grown HB5.out hg6 (fun e => own_blk_ne HO5.out HB5.out (by decide) e.symm); have f6 := b6.frozen 0; have c6' := b6.cell 0; have HB6 := Lib.hid b6; have HO6 := Lib.hid hown6; have HBL6 := Lib.hid (HBL.out.grown hg6 (by have := HS0.out; have := HBL.out.size; omega) (fun k hk => by have := own_out HO5.out k hk; omega)); clear b6 hown6 hg6)
                have hj := HJ.out
                have hst9 : Hid (BSt w W0 (P ++ namesB (q.names.take (j + 1))) (w6.setCell ⟨w.heap.size + 1, 0, none⟩ (.slice A6 (Q.length + s.size) c6))) := Lib.hid (by
                  rw [HE.out]
                  have e1 : (txN s).length = s.size := strN_length s
                  refine ⟨⟨_, HB6.out.set_ 0 _, ?_⟩, HBL6.out.setCell (p := ⟨w.heap.size + 1, 0, none⟩) (Nat.le_refl _) _⟩
                  rw [List.length_append, e1, bv_append]
                  have := own_setT HO6.out HB6.out (by decide) 0 (.slice A6 (Q.length + s.size) c6)
                  rw [byteCells_strN] at this
                  exact this)
                go_roundg (gk - 1)
                case measure => omega
                case rel => exact ⟨j + 1, by omega, rfl, int_congr (by omega), hst9.out, HOK.out⟩
              · have hno : Hid (¬ (headP q ∧ ∀ s ∈ q.names, s.size ≤ 64)) := Lib.hid fun h => h64 (h.2 s (List.mem_of_getElem? hs))
                have d1 : decide ((64 : Int) < (s.size : Int)) = true := decide_eq_true (by omega)
                obtain ⟨⟨v5, b5, o5⟩, hB5⟩ := hst
                have c0 := b5.cell 0
                have f0 := b5.frozen 0
                have HXW := Lib.hid hxw
                have HB5 := Lib.hid b5
                clear hs hj hok h64 hxw b5 o5 hB5
                go_wp2
                have c9 := (HB5.out.set_ 0 (.slice none 0 0)).cell 0
                refine bodyPost_ret (v := .tuple #[.slice none 0 0, .int .i64 1]) (by simp [results, Tryz.results14, go_sem, c9]) rfl (bytPost_no hno.out (HXW.out.setCell (p := ⟨w.heap.size + 1, 0, none⟩) (Nat.le_succ _) _))
            · obtain rfl : j = q.names.length := by omega
              rw [List.take_length] at hst hok
              rw [HPR.out] at hst
              have hbe : byteE q = 0 := by unfold byteE; rw [if_pos ⟨HH.out, hok⟩]
              obtain ⟨⟨v5, b5, o5⟩, hB5⟩ := hst
              obtain ⟨A5, c5, rfl, hc5, -⟩ := own_slice2 o5
              have f0 := b5.frozen 0
              have c0 := b5.cell 0
              have HB5 := Lib.hid b5
              have HO5 := Lib.hid o5
              have HXW := Lib.hid hxw
              have HBE := Lib.hid hbe
              clear hok hj hjl hxw b5 o5 hB5 hbe
              go_wp2
              have c9 := (HB5.out.set_ 0 (.slice A5 (byteL q).length c5)).cell 0
              refine bodyPost_ret (v := .tuple #[.slice A5 (byteL q).length c5, .int .i64 0]) (by simp [results, Tryz.results14, go_sem, c9]) rfl ⟨_, by rw [HBE.out]; rfl, ?_, HXW.out.setCell (p := ⟨w.heap.size + 1, 0, none⟩) (Nat.le_succ _) _⟩
              rw [show bytR q = byteL q by unfold bytR; rw [HBE.out]; rfl]
              exact own_base (own_setT HO5.out HB5.out (by decide) 0 _) (by omega)
end Go.Proofs.YtbhdmfijdhcehaaGreatDoor

/- A map literal of a few integer keys, as the heap holds it: put, and looked up. -/
namespace Go.Proofs.YtbhdmfijdhcehaaGreatDoor
set_option linter.unusedVariables false
set_option linter.unusedSimpArgs false
set_option linter.unusedSimpArgs false
open Go.RowKit Go.Shelf Go.Maps

section
variable {P : Program} {T K E : TypeId} {w : World} {m : Nat} {l : List (Int × Value)}
def LitM (w : World) (m : Nat) (l : List (Int × Value)) : Prop := ∃ es n, w.heap[m]? = some (.map es n) ∧ es.toList.map (fun e => (e.key, e.val)) = l.map fun p => (Value.int .i64 p.1, p.2)
theorem findNow_none (k : Int) : ∀ (es : List MapEntry) (l : List (Int × Value)) (i : Nat), es.map (fun e => (e.key, e.val)) = l.map (fun p => (Value.int .i64 p.1, p.2)) → (∀ p ∈ l, k ≠ p.1) → Instr.findNow (.int .i64) (.int .i64 k) es i = some none
  | [], l, i, h, _ => rfl
  | e :: es, [], i, h, _ => by simp at h
  | e :: es, p :: l, i, h, hk => by
    simp only [List.map_cons, List.cons.injEq, Prod.mk.injEq] at h
    have := findNow_none k es l (i + 1) h.2 fun x hx => hk x (by simp [hx])
    have h1 := hk p (by simp)
    unfold Instr.findNow
    rw [h.1.1]
    have h2 : (k == p.1) = false := by simp [h1]
    simp [Instr.sameNow, h2, this]
theorem findNow_some (k : Int) (v : Value) : ∀ (es : List MapEntry) (l : List (Int × Value)) (i : Nat), es.map (fun e => (e.key, e.val)) = l.map (fun p => (Value.int .i64 p.1, p.2)) → (l.find? fun p => decide (k = p.1)).map (·.2) = some v → ∃ j, Instr.findNow (.int .i64) (.int .i64 k) es i = some (some (j, v))
  | [], l, i, h, hk => by
    cases l with
    | nil => simp at hk
    | cons => simp at h
  | e :: es, [], i, h, _ => by simp at h
  | e :: es, p :: l, i, h, hk => by
    simp only [List.map_cons, List.cons.injEq, Prod.mk.injEq] at h
    unfold Instr.findNow
    rw [h.1.1]
    by_cases h1 : k = p.1
    · rw [List.find?_cons_of_pos (by simpa using h1)] at hk
      simp at hk
      exact ⟨i, by simp [Instr.sameNow, h1, h.1.2, hk]⟩
    · rw [List.find?_cons_of_neg (by simpa using h1)] at hk
      obtain ⟨j, hj⟩ := findNow_some k v es l (i + 1) h.2 hk
      have h2 : (k == p.1) = false := by simp [h1]
      exact ⟨j, by simp [Instr.sameNow, h2, hj]⟩
theorem LitM.new (w : World) : LitM (w.alloc (.map #[] 0)) w.heap.size [] := ⟨#[], 0, heap_alloc_new w _, rfl⟩
theorem LitM.put (h : LitM w m l) (hT : P.underlying T = some (.map K E)) (hK : P.underlying K = some (.int .i64)) (k : Int) (v : Value) (hk : ∀ p ∈ l, k ≠ p.1) :
    ∃ w', (Instr.mapUpdate T (.map (some m)) (.int .i64 k) v).run P w = .ok () w' ∧ LitM w' m (l ++ [(k, v)]) ∧ w.grownBy w' (some m) := by
  obtain ⟨es, n, hb, he⟩ := h
  have h1 := findNow_none k es.toList l 0 he hk
  have hlt : m < w.heap.size := (Array.getElem?_eq_some_iff.1 hb).1
  refine ⟨{ w with heap := w.heap.setIfInBounds m (.map (es.push { key := .int .i64 k, val := v, born := n }) (n + 1)) }, ?_, ⟨es.push { key := .int .i64 k, val := v, born := n }, n + 1, (MapKept.heap_set hb).1, by simp [he]⟩, ⟨rfl, rfl, rfl, by simp, fun k hk hr => (MapKept.heap_set hb).2 k (by rintro rfl; exact hr rfl)⟩⟩
  simp [Instr.mapUpdate, run_underlying hT, MapKept.run_getObj_map hb, MapKept.run_checkKey hK (k := .int .i64 k) rfl, MapKept.run_findKey hK h1, MapKept.run_setObj_map _ hb, Result.andThen]
theorem LitM.look (h : LitM w m l) (hT : P.underlying T = some (.map K E)) (hK : P.underlying K = some (.int .i64)) (k : Int) (v : Value) (hk : (l.find? fun p => decide (k = p.1)).map (·.2) = some v) :
    (Instr.lookup T (.map (some m)) (.int .i64 k) false).run P w = .ok v w := by
  obtain ⟨es, n, hb, he⟩ := h
  obtain ⟨j, h1⟩ := findNow_some k v es.toList l 0 he hk
  simp [Instr.lookup, run_underlying hT, MapKept.run_getObj_map hb, MapKept.run_checkKey hK (k := .int .i64 k) rfl, MapKept.run_findKey hK h1, Result.andThen]
end
end Go.Proofs.YtbhdmfijdhcehaaGreatDoor

/- The door, walked: what Do needs. -/
namespace Go.Proofs.YtbhdmfijdhcehaaGreatDoor
set_option linter.unusedVariables false
set_option linter.unusedSimpArgs false
set_option linter.unusedSimpArgs false
open Go.RowKit Go.Shelf Go.Maps

theorem boxes3 (w : World) (x y z : Array Value) (T U V : TypeId) : ∃ W, ((w.alloc (.cells x T)).alloc (.cells y U)).alloc (.cells z V) = W ∧ Blk W w.heap.size T x ∧ Blk W (w.heap.size + 1) U y ∧ Blk W (w.heap.size + 2) V z ∧ Ext w W ∧ W.heap.size = w.heap.size + 3 := by
  refine ⟨_, rfl, ((Blk.new w T x).alloc _).alloc _, ?_, ?_, (((Ext.refl w).alloc _).alloc _).alloc _, by simp⟩
  · have := (Blk.new (w.alloc (.cells x T)) U y).alloc (.cells z V)
    rwa [World.size_alloc] at this
  · have := Blk.new ((w.alloc (.cells x T)).alloc (.cells y U)) V z
    rwa [World.size_alloc, World.size_alloc] at this
theorem joins_enters : Enters Tryz.prog 49 := enters_of Tryz.func49 (by kernel_rfl) rfl
theorem wants_enters : Enters Tryz.prog 50 := enters_of Tryz.func50 (by kernel_rfl) rfl
theorem looks_enters : Enters Tryz.prog 51 := enters_of Tryz.func51 (by kernel_rfl) rfl
theorem issues_enters : Enters Tryz.prog 52 := enters_of Tryz.func52 (by kernel_rfl) rfl
theorem revokes_enters : Enters Tryz.prog 53 := enters_of Tryz.func53 (by kernel_rfl) rfl
/-- The literal that tells the kinds apart. -/
def kindsL : List (Int × Value) := [(1, .func (.func 49) #[] #[]), (2, .func (.func 50) #[] #[]), (3, .func (.func 51) #[] #[]), (4, .func (.func 52) #[] #[]), (5, .func (.func 53) #[] #[])]
theorem meth_any (B : Nat) (d : DoorX) (now : Int) (q : QueR) (A : Option Addr) (c : Nat) (hk : 1 ≤ q.kind ∧ q.kind ≤ 5) : ∃ F, Enters Tryz.prog F ∧ (kindsL.find? fun p => decide (q.kind = p.1)).map (·.2) = some (.func (.func F) #[] #[]) ∧
    ∀ w : World, DoorW w w.heap.size d → DoorL (fun k => k ≠ B) d → DoorB w B d now → QueW w w.heap.size q A c → Lies (fun k => k ≠ B) A q.names.length → 0 ≤ q.acc ∧ q.acc < 100 → d.auts.length + q.names.length < 99 → d.ords.length < 100 → d.accs.length < 100 → (∀ x ∈ d.ords, ∀ s ∈ x.o.auths, 1 ≤ s ∧ s ≤ d.auts.length) →
      Calls Tryz.prog F #[.pointer (some ⟨B, 0, none⟩), queV q A c] w (methPost B d now (stepF d.fro q now) w) := by
  obtain ⟨qk, qa, qn, qy, qs, ql, qi, qe, qss⟩ := q
  simp only at hk
  have hk5 : qk = 1 ∨ qk = 2 ∨ qk = 3 ∨ qk = 4 ∨ qk = 5 := by omega
  rcases hk5 with rfl | rfl | rfl | rfl | rfl
  · exact ⟨_, joins_enters, rfl, fun w h1 h2 h3 h4 h5 h6 h7 h8 h9 h10 => joins_any B d now _ A c w h1 h2 h3 h4.key h9⟩
  · exact ⟨_, wants_enters, rfl, fun w h1 h2 h3 h4 h5 h6 h7 h8 h9 h10 => wants_any B d now _ A c w h1 h2 h3 h4 h5 h6 h7 h8⟩
  · exact ⟨_, looks_enters, rfl, fun w h1 h2 h3 h4 h5 h6 h7 h8 h9 h10 => looks_any B d now _ A c w h1 h2 h3⟩
  · exact ⟨_, issues_enters, rfl, fun w h1 h2 h3 h4 h5 h6 h7 h8 h9 h10 => issues_any B d now _ A c w h1 h2 h3 h10⟩
  · exact ⟨_, revokes_enters, rfl, fun w h1 h2 h3 h4 h5 h6 h7 h8 h9 h10 => revokes_any B d now _ A c w h1 h3⟩
/-- The literal, laid. -/
theorem kinds_laid (W : World) : ∃ w1 w2 w3 w4 w5 : World,
    (Instr.mapUpdate 98 (.map (some W.heap.size)) (.int .i64 1) (.func (.func 49) #[] #[])).run Tryz.prog (W.alloc (.map #[] 0)) = .ok () w1 ∧
    (Instr.mapUpdate 98 (.map (some W.heap.size)) (.int .i64 2) (.func (.func 50) #[] #[])).run Tryz.prog w1 = .ok () w2 ∧
    (Instr.mapUpdate 98 (.map (some W.heap.size)) (.int .i64 3) (.func (.func 51) #[] #[])).run Tryz.prog w2 = .ok () w3 ∧
    (Instr.mapUpdate 98 (.map (some W.heap.size)) (.int .i64 4) (.func (.func 52) #[] #[])).run Tryz.prog w3 = .ok () w4 ∧
    (Instr.mapUpdate 98 (.map (some W.heap.size)) (.int .i64 5) (.func (.func 53) #[] #[])).run Tryz.prog w4 = .ok () w5 ∧
    LitM w5 W.heap.size kindsL ∧ Ext W w5 := by
  have hT := Tryz.underlying98
  have hK := Tryz.underlying3
  obtain ⟨w1, r1, l1, g1⟩ := (LitM.new W).put hT hK 1 (.func (.func 49) #[] #[]) (by simp)
  obtain ⟨w2, r2, l2, g2⟩ := l1.put hT hK 2 (.func (.func 50) #[] #[]) (by simp)
  obtain ⟨w3, r3, l3, g3⟩ := l2.put hT hK 3 (.func (.func 51) #[] #[]) (by simp)
  obtain ⟨w4, r4, l4, g4⟩ := l3.put hT hK 4 (.func (.func 52) #[] #[]) (by simp)
  obtain ⟨w5, r5, l5, g5⟩ := l4.put hT hK 5 (.func (.func 53) #[] #[]) (by simp)
  refine ⟨w1, w2, w3, w4, w5, r1, r2, r3, r4, r5, l5, ?_⟩
  have hG := (((g1.trans g2).trans g3).trans g4).trans g5
  exact Ext.of (((Below.refl _ W).alloc (Nat.le_refl _) _).grown hG (by simp) (fun k hk => by cases hk; exact Nat.le_refl _))
theorem auths_in {d : DoorX} (h : chkF d.fro = 0) : ∀ x ∈ d.ords, ∀ s ∈ x.o.auths, 1 ≤ s ∧ s ≤ d.auts.length := by
  intro x hx s hs
  have hp := ((chkF_zero.1 h).1).2.2.2.2.1
  obtain ⟨i, hi, rfl⟩ := List.getElem_of_mem hx
  have h1 := (hp i (by rw [dfro_ords, List.length_map]; exact hi)).1
  obtain ⟨j, hj, rfl⟩ := List.getElem_of_mem hs
  have e : d.fro.ords[i]'(by rw [dfro_ords, List.length_map]; exact hi) = d.ords[i].o := by simp [dfro_ords]
  rw [e] at h1
  obtain ⟨_, _, _, _, _, _, _, hl, hh⟩ := h1
  have := hh j hj (by omega)
  exact ⟨this.1, this.2.1⟩
theorem byteL_lt (q : QueR) : ∀ x ∈ byteL q, x < 256 := by
  have h8 : ∀ (k n : Nat), ∀ x ∈ bigD k n, x < 256 := by
    intro k
    induction k with
    | zero => intro n x hx; simp [bigD] at hx
    | succ k ih => intro n x hx; simp only [bigD, List.mem_append, List.mem_singleton] at hx; rcases hx with hx | rfl; exact ih _ _ hx; omega
  have hN : ∀ l : List ByteArray, ∀ x ∈ namesB l, x < 256 := by
    intro l
    induction l with
    | nil => intro x hx; simp [namesB] at hx
    | cons s l ih =>
      intro x hx
      simp only [namesB, List.mem_append] at hx
      rcases hx with (hx | hx) | hx
      · exact h8 _ _ x hx
      · exact strN_lt s x hx
      · exact ih x hx
  intro x hx
  unfold byteL eightI at hx
  simp only [List.mem_append] at hx
  rcases hx with ((((((hx | hx) | hx) | hx) | hx) | hx) | hx) | hx
  all_goals first | exact h8 _ _ x hx | exact hN _ x hx
theorem byteL_len {q : QueR} (h : byteE q = 0) : (byteL q).length ≤ 1000 := by
  unfold byteE at h
  split at h
  · next hh =>
    have := namesB_len hh.2
    have h3 := hh.1.2.2.1
    unfold byteL
    simp only [List.length_append, eight_length]
    omega
  · cases h
theorem byteE_head {q : QueR} (h : byteE q = 0) : headP q := by
  unfold byteE at h
  split at h
  · next hh => exact hh.1
  · cases h
end Go.Proofs.YtbhdmfijdhcehaaGreatDoor

/- The door, walked: Do. -/
namespace Go.Proofs.YtbhdmfijdhcehaaGreatDoor
set_option linter.unusedVariables false
set_option linter.unusedSimpArgs false
set_option linter.unusedSimpArgs false
open Go.RowKit Go.Shelf Go.Maps

theorem doF_1 {sg : Nat → List Nat → Nat → Nat → Nat} {f : FroR} {q : QueR} {now : Int} {E : Nat} (h : chkF f = E) (h0 : E ≠ 0) : doF sg f q now = bad E := by unfold doF; rw [if_pos (by rw [h]; exact h0), h]
theorem doF_2 {sg : Nat → List Nat → Nat → Nat → Nat} {f : FroR} {q : QueR} {now : Int} (h : chkF f = 0) (h1 : byteE q ≠ 0 ∨ ¬ numP now ∨ ¬ fitsP q) : doF sg f q now = bad 1 := by unfold doF; rw [if_neg (by rw [h]; simp), if_pos h1]
theorem doF_3 {sg : Nat → List Nat → Nat → Nat → Nat} {f : FroR} {q : QueR} {now : Int} (h : chkF f = 0) (h1 : ¬ (byteE q ≠ 0 ∨ ¬ numP now ∨ ¬ fitsP q)) {E : Nat} (h2 : useE f.next f.opn q.nonce now = E) (h0 : E ≠ 0) : doF sg f q now = bad E := by unfold doF; rw [if_neg (by rw [h]; simp), if_neg h1, if_pos (by rw [h2]; exact h0), h2]
theorem doF_4 {sg : Nat → List Nat → Nat → Nat → Nat} {f : FroR} {q : QueR} {now : Int} (h : chkF f = 0) (h1 : ¬ (byteE q ≠ 0 ∨ ¬ numP now ∨ ¬ fitsP q)) (h2 : useE f.next f.opn q.nonce now = 0) (h3 : keyF f q = none) : doF sg f q now = bad 220 := by unfold doF; rw [if_neg (by rw [h]; simp), if_neg h1, if_neg (by rw [h2]; simp), h3]
theorem doF_5 {sg : Nat → List Nat → Nat → Nat → Nat} {f : FroR} {q : QueR} {now : Int} (h : chkF f = 0) (h1 : ¬ (byteE q ≠ 0 ∨ ¬ numP now ∨ ¬ fitsP q)) (h2 : useE f.next f.opn q.nonce now = 0) {k : Nat} (h3 : keyF f q = some k) {E : Nat} (h4 : sg k (byteL q) q.e q.s = E) (h0 : E ≠ 0) : doF sg f q now = bad E := by unfold doF; rw [if_neg (by rw [h]; simp), if_neg h1, if_neg (by rw [h2]; simp), h3]; simp only; rw [if_pos (by rw [h4]; exact h0), h4]
theorem doF_6 {sg : Nat → List Nat → Nat → Nat → Nat} {f : FroR} {q : QueR} {now : Int} (h : chkF f = 0) (h1 : ¬ (byteE q ≠ 0 ∨ ¬ numP now ∨ ¬ fitsP q)) (h2 : useE f.next f.opn q.nonce now = 0) {k : Nat} (h3 : keyF f q = some k) (h4 : sg k (byteL q) q.e q.s = 0) : doF sg f q now = stepF { f with opn := useL f.opn q.nonce } q now := by unfold doF; rw [if_neg (by rw [h]; simp), if_neg h1, if_neg (by rw [h2]; simp), h3]; simp only; rw [if_neg (by rw [h4]; simp)]
theorem use_parts {next : Int} {l : List NonR} {n now nx : Int} {op : List NonR} {ue : Nat} (h : useF next l n now = (nx, op, ue)) : useE next l n now = ue ∧ (ue = 0 → nx = next ∧ op = useL l n) := by
  unfold useF at h
  split at h
  · next h0 => cases h; exact ⟨h0, fun _ => ⟨rfl, rfl⟩⟩
  · next h0 => cases h; exact ⟨rfl, fun e => absurd e h0⟩
theorem grown6 (w : World) (g : Nat) (a b c d e f : Value) : w.grownBy ((((((w.setCell ⟨g, 0, none⟩ a).setCell ⟨g, 1, none⟩ b).setCell ⟨g, 2, none⟩ c).setCell ⟨g, 3, none⟩ d).setCell ⟨g, 4, none⟩ e).setCell ⟨g, 5, none⟩ f) (some g) :=
  (((((grown_set _ _ _ _).trans (grown_set _ _ _ _)).trans (grown_set _ _ _ _)).trans (grown_set _ _ _ _)).trans (grown_set _ _ _ _)).trans (grown_set _ _ _ _)
theorem ne_beq {E : Nat} (h : E ≠ 0) : ((E : Int) != 0) = true := by simp; omega
set_option maxRecDepth 100000 in
set_option maxHeartbeats 16000000 in
theorem oDo_any (d : DoorX) (q : QueR) (A : Option Addr) (c : Nat) (now : Int) (w : World) (hw : DoorW w w.heap.size d) (hq : QueW w w.heap.size q A c) (hu9 : d.auts.length + 8 < 99) (ha9 : d.accs.length < 100) (ho9 : d.ords.length < 100) :
    Calls Tryz.prog 18 #[frontV d, queV q A c, .int .i64 now] w (outD d (doF checkN d.fro q now) w) := by
  obtain ⟨W0, e0, b0, b1, b2, x0, s0⟩ := boxes3 w #[.int .i64 d.next, .slice d.oA d.opn.length d.oc, .slice d.cA d.accs.length d.cc, .slice d.uA d.auts.length d.uc, .slice d.rA d.ords.length d.rc, .int .i64 d.ser] #[.int .i64 q.kind, .int .i64 q.acc, .int .i64 q.nonce, .int .u64 (q.key : Int), .slice A q.names.length c, .int .i64 q.life, .int .i64 q.id, .int .u64 (q.e : Int), .int .u64 (q.s : Int)] #[.int .i64 0, .slice none 0 0, .slice none 0 0, .slice none 0 0, .slice none 0 0, .int .i64 0] 43 27 43
  have cC := oCheck_any d (by omega) ha9 W0 (hw.ext x0)
  have cB := fun W (h : Ext W0 W) => oBytes_any q A c W (hq.ext (x0.trans h))
  have cN := onum_any now
  have cF := fun W (h : Ext W0 W) => qfits_any q A c W (hq.ext (x0.trans h))
  obtain ⟨E, hE⟩ : ∃ E, chkF d.fro = E := ⟨_, rfl⟩
  rw [hE] at cC
  have HW := Lib.hid hw
  have HQ := Lib.hid hq
  have HB0 := Lib.hid b0
  have HB1 := Lib.hid b1
  have HB2 := Lib.hid b2
  have HX0 := Lib.hid x0
  have HS0 := Lib.hid s0
  have HE := Lib.hid hE
  have HU9 := Lib.hid hu9
  have HA9 := Lib.hid ha9
  have HO9 := Lib.hid ho9
  obtain ⟨m0, m1, m2, m3, m4, m5⟩ := arr6f b0
  unfold frontV at cC ⊢
  unfold queV at cB cF ⊢
  clear b0 b1 b2 x0 s0 hw hq hE hu9 ha9 ho9
  have hmm := @run_makeMap Tryz.prog
  go_enter Tryz.func18, Tryz.ntmps18
  go_upto_region 1 with (fail)
  try rw [e0]
  clear e0
  by_cases h0 : E = 0
  case neg =>
    have HR := Lib.hid (doF_1 (sg := checkN) (q := q) (now := now) HE.out h0)
    have k0 := ne_beq h0
    clear h0 cB cN cF
    go_wp2_with (go_at_call 21; refine cC.mono ?_; clear cC m0 m1 m2 m3 m4 m5; rintro e w1 ⟨rfl, x1⟩; have b2 := ext_blk (x1) HB2.out; obtain ⟨q0, q1, q2, q3, q4, q5, f0, f1, f2, f3, f4, f5⟩ := st6 b2; have BB := Lib.hid (blk6 b2 (.int .i64 0) (.slice none 0 0) (.slice none 0 0) (.slice none 0 0) (.slice none 0 0) (.int .i64 0)); clear b2)
    rw [HR.out]
    obtain ⟨r0, r1, r2, r3, r4, r5⟩ := arr6f BB.out
    refine bodyPost_ret (v := .tuple #[.agg #[.int .i64 0, .slice none 0 0, .slice none 0 0, .slice none 0 0, .slice none 0 0, .int .i64 0], .int .i64 0, .int .i64 (E : Int)]) (by simp [results, Tryz.results18, go_sem, r0, r1, r2, r3, r4, r5]) rfl (outD_bad rfl (ext6 (HX0.out.trans (x1)) (by omega) _ _ _ _ _ _))
  subst h0
  go_upto_region 4 with (go_at_call 21; refine cC.mono ?_; clear cC m0 m1 m2 m3 m4 m5; rintro e w1 ⟨rfl, x1⟩; have HX1 := Lib.hid x1)
  obtain ⟨k0, k1, k2, k3, k4, k5, k6, k7, k8⟩ := arr9 (ext_blk x1 HB1.out)
  have cB := cB w1 x1
  clear x1
  obtain ⟨BE, hBE⟩ : ∃ B, byteE q = B := ⟨_, rfl⟩
  unfold bytPost at cB
  rw [hBE] at cB
  have HBE := Lib.hid hBE
  clear hBE
  go_upto_region 5 with (go_at_call 14; refine cB.mono ?_; clear cB k0 k1 k2 k3 k4 k5 k6 k7 k8; rintro e w2 ⟨bv0, rfl, ho2, x2⟩; have HX2 := Lib.hid (HX1.out.trans x2); have HY2 := Lib.hid x2; have HO2 := Lib.hid ho2; clear ho2 x2)
  by_cases hb : BE = 0
  case neg =>
    have HR := Lib.hid (doF_2 (sg := checkN) (f := d.fro) (q := q) (now := now) HE.out (.inl (by rw [HBE.out]; exact hb)))
    have k0 := ne_beq hb
    clear hb cN cF
    have b2 := ext_blk (HX2.out) HB2.out; obtain ⟨q0, q1, q2, q3, q4, q5, f0, f1, f2, f3, f4, f5⟩ := st6 b2; have BB := Lib.hid (blk6 b2 (.int .i64 0) (.slice none 0 0) (.slice none 0 0) (.slice none 0 0) (.slice none 0 0) (.int .i64 0)); clear b2
    go_wp2
    rw [HR.out]
    obtain ⟨r0, r1, r2, r3, r4, r5⟩ := arr6f BB.out
    refine bodyPost_ret (v := .tuple #[.agg #[.int .i64 0, .slice none 0 0, .slice none 0 0, .slice none 0 0, .slice none 0 0, .int .i64 0], .int .i64 0, .int .i64 1]) (by simp [results, Tryz.results18, go_sem, r0, r1, r2, r3, r4, r5]) rfl (outD_bad rfl (ext6 (HX0.out.trans (HX2.out)) (by omega) _ _ _ _ _ _))
  subst hb
  by_cases hn : numP now
  case neg =>
    have HR := Lib.hid (doF_2 (sg := checkN) (f := d.fro) (q := q) (now := now) HE.out (.inr (.inl hn)))
    rw [show decide (numP now) = false from decide_eq_false hn] at cN
    clear hn cF
    have b2 := ext_blk (HX2.out) HB2.out; obtain ⟨q0, q1, q2, q3, q4, q5, f0, f1, f2, f3, f4, f5⟩ := st6 b2; have BB := Lib.hid (blk6 b2 (.int .i64 0) (.slice none 0 0) (.slice none 0 0) (.slice none 0 0) (.slice none 0 0) (.int .i64 0)); clear b2
    go_wp2_with (go_at_call 42; refine (cN _).mono ?_; clear cN; rintro e w3 ⟨rfl, rfl⟩)
    rw [HR.out]
    obtain ⟨r0, r1, r2, r3, r4, r5⟩ := arr6f BB.out
    refine bodyPost_ret (v := .tuple #[.agg #[.int .i64 0, .slice none 0 0, .slice none 0 0, .slice none 0 0, .slice none 0 0, .int .i64 0], .int .i64 0, .int .i64 1]) (by simp [results, Tryz.results18, go_sem, r0, r1, r2, r3, r4, r5]) rfl (outD_bad rfl (ext6 (HX0.out.trans (HX2.out)) (by omega) _ _ _ _ _ _))
  rw [show decide (numP now) = true from decide_eq_true hn] at cN
  obtain ⟨k0, k1, k2, k3, k4, k5, k6, k7, k8⟩ := arr9 (ext_blk HX2.out HB1.out)
  have cF := cF w2 HX2.out
  by_cases hf : fitsP q
  case neg =>
    have HR := Lib.hid (doF_2 (sg := checkN) (f := d.fro) (q := q) (now := now) HE.out (.inr (.inr hf)))
    rw [show decide (fitsP q) = false from decide_eq_false hf] at cF
    clear hn hf
    go_wp2_with (first | (go_at_call 42; refine (cN _).mono ?_; clear cN; rintro e w3 ⟨rfl, rfl⟩) | (go_at_call 45; refine cF.mono ?_; clear cF k0 k1 k2 k3 k4 k5 k6 k7 k8; rintro e w3 ⟨rfl, x3⟩; have b2 := ext_blk (HX2.out.trans x3) HB2.out; obtain ⟨q0, q1, q2, q3, q4, q5, f0, f1, f2, f3, f4, f5⟩ := st6 b2; have BB := Lib.hid (blk6 b2 (.int .i64 0) (.slice none 0 0) (.slice none 0 0) (.slice none 0 0) (.slice none 0 0) (.int .i64 0)); clear b2))
    rw [HR.out]
    obtain ⟨r0, r1, r2, r3, r4, r5⟩ := arr6f BB.out
    refine bodyPost_ret (v := .tuple #[.agg #[.int .i64 0, .slice none 0 0, .slice none 0 0, .slice none 0 0, .slice none 0 0, .int .i64 0], .int .i64 0, .int .i64 1]) (by simp [results, Tryz.results18, go_sem, r0, r1, r2, r3, r4, r5]) rfl (outD_bad rfl (ext6 (HX0.out.trans (HX2.out.trans x3)) (by omega) _ _ _ _ _ _))
  rw [show decide (fitsP q) = true from decide_eq_true hf] at cF
  have HOK := Lib.hid (show ¬ (byteE q ≠ 0 ∨ ¬ numP now ∨ ¬ fitsP q) by rw [HBE.out]; simp [hn, hf])
  have HN := Lib.hid hn
  have HF := Lib.hid hf
  have HH := Lib.hid (byteE_head HBE.out)
  clear hn hf
  go_upto_region 7 with (first | (go_at_call 42; refine (cN _).mono ?_; clear cN; rintro e w3 ⟨rfl, rfl⟩) | (go_at_call 45; refine cF.mono ?_; clear cF k0 k1 k2 k3 k4 k5 k6 k7 k8; rintro e w3 ⟨rfl, x3⟩))
  have HX3 := Lib.hid (HX2.out.trans x3)
  have HO3 := Lib.hid (own_ext HO2.out x3)
  have HS3 : Hid (w1.heap.size ≤ w3.heap.size) := Lib.hid (Nat.le_trans HY2.out.size x3.size)
  clear HO2 x3
  obtain ⟨m0, m1, m2, m3, m4, m5⟩ := arr6f (ext_blk HX3.out HB0.out)
  go_upto_region 8 with (fail)
  clear m0 m1 m2 m3 m4 m5
  obtain ⟨W4, e4⟩ : ∃ W, w3.alloc (.cells #[.int .i64 d.next, .slice d.oA d.opn.length d.oc, .slice d.cA d.accs.length d.cc, .slice d.uA d.auts.length d.uc, .slice d.rA d.ords.length d.rc, .int .i64 d.ser, .int .i64 now] 92) = W := ⟨_, rfl⟩
  try rw [e4]
  have HX4 : Hid (Ext W0 W4) := Lib.hid (by rw [← e4]; exact HX3.out.alloc _)
  have HY4 : Hid (Ext w3 W4) := Lib.hid (by rw [← e4]; exact (Ext.refl w3).alloc _)
  have HD4 : Hid (DoorB W4 w3.heap.size d now) := Lib.hid (by rw [← e4]; exact Blk.new _ _ _)
  clear e4
  obtain ⟨B, hB⟩ : ∃ B, B = w3.heap.size := ⟨_, rfl⟩
  rw [← hB] at HD4
  try rw [← hB]
  have HBB := Lib.hid hB
  clear hB
  have hnq : numP q.nonce := HH.out.2.2.2.2.1
  have cU := Use_any d.next d.opn d.oA d.oc q.nonce now hnq W4 (HW.out.non.ext (HX0.out.trans HX4.out))
  obtain ⟨r, hr⟩ : ∃ r, useF d.next d.opn q.nonce now = r := ⟨_, rfl⟩
  have HFE : Hid (fenN r.1 r.2.1 = 0) := Lib.hid (by rw [← hr]; exact fenN_use)
  rw [hr] at cU
  obtain ⟨nx, op, ue⟩ := r
  have HUF := Lib.hid hr
  unfold usePost fenV at cU
  simp only at cU HFE
  have m0 := (ext_blk HX4.out HB0.out).cell 0
  have m1 := (ext_blk HX4.out HB0.out).cell 1
  have k2 := (ext_blk HX4.out HB1.out).cell 2
  clear hr hnq
  go_upto_region 9 with (go_at_call 46; refine cU.mono ?_; clear cU m0 m1 k2; rintro e w5 ⟨A5, c5, rfl, ho5, x5⟩; have HX5 := Lib.hid (HX4.out.trans x5); have HZ5 := Lib.hid x5.size; have HT5 := Lib.hid x5; have HD5 := Lib.hid (DoorB.ext HD4.out x5); have n0 := Blk.frozen (DoorB.ext HD4.out x5) 0; have n1 := Blk.frozen (DoorB.ext HD4.out x5) 1; have p0 := Blk.cell (DoorB.ext HD4.out x5) 0; have p1 := Blk.cell (DoorB.ext HD4.out x5) 1; have HO5 := Lib.hid ho5; clear ho5 x5)
  obtain ⟨W6, e6⟩ : ∃ W, W = (w5.setCell ⟨B, 0, none⟩ (.int .i64 nx)).setCell ⟨B, 1, none⟩ (.slice A5 op.length c5) := ⟨_, rfl⟩
  have HX6 : Hid (Ext W0 W6) := Lib.hid (by
    have hB : W0.heap.size ≤ B := by rw [HBB.out]; exact HX3.out.size
    rw [e6]
    exact (HX5.out.setCell (p := ⟨B, 0, none⟩) hB _).setCell (p := ⟨B, 1, none⟩) hB _)
  have HD6 : Hid (DoorB W6 B (withN d nx op A5 c5) now) := Lib.hid (by rw [e6]; exact (Blk.set_ HD5.out 0 _).set_ 1 _)
  have HO6 : Hid (W6.ownsRow W4.heap.size 102 2 (.slice A5 op.length c5) op.length (nonV op)) := Lib.hid (by
    have hB : B < W4.heap.size := Blk.lt HD4.out
    rw [e6]; exact own_far (own_far HO5.out hB 0 _) hB 1 _)
  have HY6 : Hid (Ext w3 W6) := Lib.hid (by
    have hB : w3.heap.size ≤ B := by rw [HBB.out]; exact Nat.le_refl _
    rw [e6]
    exact ((HY4.out.trans HT5.out).setCell (p := ⟨B, 0, none⟩) hB _).setCell (p := ⟨B, 1, none⟩) hB _)
  have HS6 : Hid (W4.heap.size ≤ W6.heap.size ∧ W0.heap.size ≤ B ∧ B < W4.heap.size) := Lib.hid ⟨(by
    rw [e6]
    exact Nat.le_trans HZ5.out (by simp)), (by rw [HBB.out]; exact HX3.out.size), Blk.lt HD4.out⟩
  try rw [← e6]
  clear e6 n0 n1 p0 p1 HD5 HO5
  have HUE := Lib.hid (use_parts HUF.out)
  by_cases hue : ue = 0
  case neg =>
    have HR := Lib.hid (doF_3 (sg := checkN) (f := d.fro) HE.out HOK.out HUE.out.1 hue)
    have k0 := ne_beq hue
    clear hue
    have b2 := ext_blk (HX6.out) HB2.out; obtain ⟨q0, q1, q2, q3, q4, q5, f0, f1, f2, f3, f4, f5⟩ := st6 b2; have BB := Lib.hid (blk6 b2 (.int .i64 0) (.slice none 0 0) (.slice none 0 0) (.slice none 0 0) (.slice none 0 0) (.int .i64 0)); clear b2
    go_wp2
    rw [HR.out]
    obtain ⟨r0, r1, r2, r3, r4, r5⟩ := arr6f BB.out
    refine bodyPost_ret (v := .tuple #[.agg #[.int .i64 0, .slice none 0 0, .slice none 0 0, .slice none 0 0, .slice none 0 0, .int .i64 0], .int .i64 0, .int .i64 (ue : Int)]) (by simp [results, Tryz.results18, go_sem, r0, r1, r2, r3, r4, r5]) rfl (outD_bad rfl (ext6 (HX0.out.trans (HX6.out)) (by omega) _ _ _ _ _ _))
  subst hue
  obtain ⟨hu0, hu1⟩ := HUE.out
  obtain ⟨rfl, rfl⟩ := hu1 rfl
  have HU0 := Lib.hid hu0
  clear hu0 hu1 HUE
  obtain ⟨k0, k1, k2, k3, k4, k5, k6, k7, k8⟩ := arr9 (ext_blk HX6.out HB1.out)
  go_upto_if 62 with (fail)
  go_cut [11] (fun s11 wx => ∃ k : Nat, s11 = .int .u64 (k : Int) ∧ keyF d.fro q = some k ∧ k < 18446744073709551616 ∧ (0 ≤ q.acc ∧ q.acc < 100) ∧ Ext W6 wx)
  case first =>
    by_cases hk : q.kind = 1
    · have e1 : (q.kind != 1) = false := by simp [hk]
      have HK := Lib.hid hk
      clear hk
      go_wp2
      go_meet
      have hf := HF.out
      unfold fitsP at hf
      rw [if_pos HK.out] at hf
      exact ⟨q.key, rfl, by unfold keyF; rw [if_pos HK.out], HQ.out.key, ⟨by omega, by omega⟩, Ext.refl _⟩
    · have e1 : (q.kind != 1) = true := by simp [hk]
      have cA : Calls Tryz.prog 47 #[.pointer (some ⟨B, 0, none⟩), .int .i64 q.acc] W6 fun e w' => e = .returned (.bool (decide (1 ≤ q.acc ∧ q.acc ≤ d.accs.length))) ∧ W6 = w' := hasAcc_any B (withN d d.next (useL d.opn q.nonce) A5 c5) now q.acc W6 HD6.out
      by_cases ha : 1 ≤ q.acc ∧ q.acc ≤ (d.accs.length : Int)
      case neg =>
        have hkn : keyF d.fro q = none := by
          unfold keyF
          rw [if_neg hk]
          by_cases h1 : q.acc < 1
          · rw [if_pos h1]
          · rw [if_neg h1, show d.fro.accs = d.accs from rfl, List.getElem?_eq_none (by omega)]; rfl
        have HR := Lib.hid (doF_4 (sg := checkN) (f := d.fro) HE.out HOK.out HU0.out hkn)
        rw [decide_eq_false ha] at cA
        clear ha hk hkn
        have b2 := ext_blk (HX6.out) HB2.out; obtain ⟨q0, q1, q2, q3, q4, q5, f0, f1, f2, f3, f4, f5⟩ := st6 b2; have BB := Lib.hid (blk6 b2 (.int .i64 0) (.slice none 0 0) (.slice none 0 0) (.slice none 0 0) (.slice none 0 0) (.int .i64 0)); clear b2
        go_wp2_with (go_at_call 47; refine cA.mono ?_; clear cA; rintro e w7 ⟨rfl, rfl⟩)
        rw [HR.out]
        obtain ⟨r0, r1, r2, r3, r4, r5⟩ := arr6f BB.out
        refine bodyPost_ret (v := .tuple #[.agg #[.int .i64 0, .slice none 0 0, .slice none 0 0, .slice none 0 0, .slice none 0 0, .int .i64 0], .int .i64 0, .int .i64 220]) (by simp [results, Tryz.results18, go_sem, r0, r1, r2, r3, r4, r5]) rfl (outD_bad rfl (ext6 (HX0.out.trans (HX6.out)) (by omega) _ _ _ _ _ _))
      rw [decide_eq_true ha] at cA
      obtain ⟨a, hqa⟩ : ∃ a : Nat, q.acc = (a : Int) + 1 := ⟨(q.acc - 1).toNat, by omega⟩
      obtain ⟨x, hx⟩ : ∃ x, d.accs[a]? = some x := ⟨_, List.getElem?_eq_getElem (by omega)⟩
      obtain ⟨ad, hA, hlt, r0, r1⟩ := reads_acc (HW.out.ext (HX0.out.trans HX6.out)).acc hx
      have a2 : W6.cell? ⟨B, 2, none⟩ = some (.slice d.cA d.accs.length d.cc) := HD6.out.cell 2
      rw [hA] at a2
      have hal : (a : Int) < (d.accs.length : Int) := by omega
      have hab : (a : Int) < 100 := by have := HA9.out; omega
      have e2 : IntKind.i64.wrap ((a : Int) + 1 - 1) = (a : Int) := by rw [IntKind.wrap_i64]; omega
      have hkk : Hid (keyF d.fro q = some x.key) := Lib.hid (by
        unfold keyF
        rw [if_neg hk, if_neg (by omega), show d.fro.accs = d.accs from rfl, show q.acc.toNat - 1 = a by omega, hx]; rfl)
      have hxk : Hid (x.key < 18446744073709551616) := Lib.hid (HW.out.cw x (List.mem_of_getElem? hx)).2
      rw [hqa] at k1 cA
      have HQA := Lib.hid hqa
      have HAB : Hid ((a : Int) + 1 < 100) := Lib.hid (by have := HA9.out; omega)
      clear hk ha hqa hx hA hlt r0
      go_upto_region 15 with (go_at_call 47; refine cA.mono ?_; clear cA; rintro e w7 ⟨rfl, rfl⟩)
      have j0 := fun i : Later W6 => i.cell k1
      have j1 := fun i : Later W6 => i.cell a2
      have j2 := fun i : Later W6 => i.cell r1
      clear k0 k1 k2 k3 k4 k5 k6 k7 k8 a2 r1
      refine wp_region_later (by kernel_rfl) (by kernel_rfl) ?_
      repeat (go_big_quiet_step ((fail)))
      refine wpQuiet_nil ?_
      rintro W7 ⟨i, hi⟩
      have x7 : Hid (Ext W6 W7) := Lib.hid (by rw [hi]; exact i.ext)
      clear hi i j0 j1 j2
      go_wp2
      go_meet
      exact ⟨x.key, rfl, hkk.out, hxk.out, by have := HQA.out; have := HAB.out; omega, x7.out⟩
  case rest =>
    obtain ⟨k, rfl, hkey, hk64, hacc, x7⟩ := hcut
    have HX7 := Lib.hid (HX6.out.trans x7)
    have HD7 := Lib.hid (DoorB.ext HD6.out x7)
    have HO7 := Lib.hid (own_ext HO6.out x7)
    have HY7 := Lib.hid x7
    have hbr : bytR q = byteL q := by unfold bytR; rw [HBE.out]; rfl
    rw [hbr] at HO3
    obtain ⟨bA, bc, rfl, hbc, -⟩ := own_slice2 HO3.out
    obtain ⟨E3, hE3⟩ : ∃ E, checkN k (byteL q) q.e q.s = E := ⟨_, rfl⟩
    have HO37 := own_ext HO3.out (HY6.out.trans HY7.out)
    have cS := Check_any k hk64 q.e q.s HQ.out.e HQ.out.s (byteL q) (byteL_lt q) (byteL_len HBE.out) bA bc hbc wc (Reads.of_own HO37)
    rw [hE3] at cS
    have HE3 := Lib.hid hE3
    have HKEY := Lib.hid hkey
    have HACC := Lib.hid hacc
    obtain ⟨k0, k1, k2, k3, k4, k5, k6, k7, k8⟩ := arr9 (ext_blk HX7.out HB1.out)
    clear hkey hk64 hacc x7 hbr hbc hE3 HO37
    by_cases h3 : E3 = 0
    case neg =>
      have HR := Lib.hid (doF_5 (sg := checkN) (f := d.fro) HE.out HOK.out HU0.out HKEY.out HE3.out h3)
      have kk := ne_beq h3
      clear h3
      go_wp2_with (go_at_call 48; refine cS.mono ?_; clear cS k0 k1 k2 k3 k4 k5 k6 k7 k8; rintro e w8 ⟨rfl, x8⟩; have b2 := ext_blk (HX7.out.trans x8) HB2.out; obtain ⟨q0, q1, q2, q3, q4, q5, f0, f1, f2, f3, f4, f5⟩ := st6 b2; have BB := Lib.hid (blk6 b2 (.int .i64 0) (.slice none 0 0) (.slice none 0 0) (.slice none 0 0) (.slice none 0 0) (.int .i64 0)); clear b2)
      rw [HR.out]
      obtain ⟨r0, r1, r2, r3, r4, r5⟩ := arr6f BB.out
      refine bodyPost_ret (v := .tuple #[.agg #[.int .i64 0, .slice none 0 0, .slice none 0 0, .slice none 0 0, .slice none 0 0, .int .i64 0], .int .i64 0, .int .i64 (E3 : Int)]) (by simp [results, Tryz.results18, go_sem, r0, r1, r2, r3, r4, r5]) rfl (outD_bad rfl (ext6 (HX0.out.trans (HX7.out.trans x8)) (by omega) _ _ _ _ _ _))
    subst h3
    have HR := Lib.hid (doF_6 (sg := checkN) (f := d.fro) HE.out HOK.out HU0.out HKEY.out HE3.out)
    go_upto_region 19 with (go_at_call 48; refine cS.mono ?_; clear cS k0 k1 k2 k3 k4 k5 k6 k7 k8; rintro e w8 ⟨rfl, x8⟩)
    obtain ⟨v1, v2, v3, v4, v5, r1, r2, r3, r4, r5, hlit, x9⟩ := kinds_laid w8
    have HX9 := Lib.hid (HX7.out.trans (x8.trans x9))
    have HY9 := Lib.hid (HY7.out.trans (x8.trans x9))
    have HD9 := Lib.hid (DoorB.ext HD7.out (x8.trans x9))
    have HO9b := Lib.hid (own_ext HO7.out (x8.trans x9))
    obtain ⟨F, hEF, hlk0, cM0⟩ := meth_any B (withN d d.next (useL d.opn q.nonce) A5 c5) now q A c ⟨HH.out.1, HH.out.2.1⟩
    have hlk := hlit.look Tryz.underlying98 Tryz.underlying3 q.kind _ hlk0
    clear x8 x9 hlit hlk0
    go_upto_region 20 with (fail)
    have HW9 : Hid (DoorW v5 v5.heap.size (withN d d.next (useL d.opn q.nonce) A5 c5)) := Lib.hid (withN_w (HW.out.ext (HX0.out.trans HX9.out)) (nons_own HO9b.out HFE.out))
    have HSZ : Hid (W0.heap.size ≤ B ∧ B < W4.heap.size ∧ W4.heap.size ≤ v5.heap.size ∧ W0.heap.size = w.heap.size + 3) := Lib.hid ⟨HS6.out.2.1, HS6.out.2.2, Nat.le_trans HS6.out.1 HY9.out.size, HS0.out⟩
    have HL9 : Hid (∀ S : Nat → Prop, DoorL S d → DoorL (fun k => S k ∨ W4.heap.size ≤ k) (withN d d.next (useL d.opn q.nonce) A5 c5)) := Lib.hid fun S hS =>
      ⟨Lies.own HO9b.out (fun k hk => .inr hk), hS.c.mono (fun b h => .inl h), hS.u.mono (fun b h => .inl h), hS.r.mono (fun b h => .inl h), fun x hx => (hS.n x hx).mono (fun b h => .inl h), fun x hx => (hS.a x hx).mono (fun b h => .inl h)⟩
    have HLL : Hid (DoorL (fun k => k < w.heap.size ∨ W4.heap.size ≤ k) (withN d d.next (useL d.opn q.nonce) A5 c5)) := Lib.hid (HL9.out _ HW.out.lies)
    have cM := cM0 v5 HW9.out (HLL.out.mono (fun k hk => by have := HSZ.out; rcases hk with hk | hk <;> omega)) HD9.out (HQ.out.ext (HX0.out.trans HX9.out)) (HQ.out.names.lies.mono (fun k hk => by have := HSZ.out; omega)) HACC.out (by have := HU9.out; have := HH.out.2.2.1; simp only [withN]; omega) HO9.out HA9.out (auths_in (d := d) HE.out)
    obtain ⟨r, hr⟩ : ∃ r, stepF { d.fro with opn := useL d.opn q.nonce } q now = r := ⟨_, rfl⟩
    rw [show (withN d d.next (useL d.opn q.nonce) A5 c5).fro = { d.fro with opn := useL d.opn q.nonce } from rfl, hr] at cM
    have hbd : r.2.2 ≠ 0 → r = bad r.2.2 := by
      have := step_bd { d.fro with opn := useL d.opn q.nonce } q now
      rw [hr] at this
      exact this
    rw [show d.fro.opn = d.opn from rfl, hr] at HR
    obtain ⟨f', n', e'⟩ := r
    unfold methPost queV at cM
    simp only at cM hbd
    unfold Enters at hEF
    obtain ⟨k0, k1, k2, k3, k4, k5, k6, k7, k8⟩ := arr9 (ext_blk HX9.out HB1.out)
    have hxb : Hid (some (w.heap.size + 2) ≠ some B) := Lib.hid (by have := HSZ.out; simp; omega)
    clear cM0 hr
    by_cases h4 : e' = 0
    case neg =>
      have kk := ne_beq h4
      have HBD := Lib.hid (hbd h4)
      clear h4 hbd
      go_wp2_with (go_at_fn F; refine cM.mono ?_; clear cM k0 k1 k2 k3 k4 k5 k6 k7 k8 hlk; rintro e w9 ⟨rfl, hg9, -⟩; have HG9 := Lib.hid hg9; have b2 := Blk.grown (ext_blk HX9.out HB2.out) hg9 hxb.out; obtain ⟨q0, q1, q2, q3, q4, q5, f0, f1, f2, f3, f4, f5⟩ := st6 b2; have BB := Lib.hid (blk6 b2 (.int .i64 0) (.slice none 0 0) (.slice none 0 0) (.slice none 0 0) (.slice none 0 0) (.int .i64 0)); clear b2 hg9)
      have X9 : Ext W0 w9 := Ext.of (HX9.out.out.grown HG9.out HX9.out.size (fun k hk => by cases hk; exact HSZ.out.1))
      rw [HR.out, HBD.out]
      obtain ⟨r0, r1, r2, r3, r4, r5⟩ := arr6f BB.out
      refine bodyPost_ret (v := .tuple #[.agg #[.int .i64 0, .slice none 0 0, .slice none 0 0, .slice none 0 0, .slice none 0 0, .int .i64 0], .int .i64 0, .int .i64 (e' : Int)]) (by simp [results, Tryz.results18, go_sem, r0, r1, r2, r3, r4, r5]) rfl (outD_bad rfl (ext6 (HX0.out.trans (X9)) (by omega) _ _ _ _ _ _))
    subst h4
    go_wp2_with (go_at_fn F; refine cM.mono ?_; clear cM k0 k1 k2 k3 k4 k5 k6 k7 k8 hlk; rintro e w9 ⟨rfl, hg9, h9⟩; obtain ⟨d', hfro, hdb, hdw, hdl⟩ := h9 rfl; have HG9 := Lib.hid hg9; have b2 := Blk.grown (ext_blk HX9.out HB2.out) hg9 hxb.out; obtain ⟨q0, q1, q2, q3, q4, q5, f0, f1, f2, f3, f4, f5⟩ := st6 b2; obtain ⟨a0, a1, a2, a3, a4, a5, a6⟩ := arr7 hdb; have BB := Lib.hid (blk6 b2 (.int .i64 d'.next) (.slice d'.oA d'.opn.length d'.oc) (.slice d'.cA d'.accs.length d'.cc) (.slice d'.uA d'.auts.length d'.uc) (.slice d'.rA d'.ords.length d'.rc) (.int .i64 d'.ser)); have HFR := Lib.hid hfro; have HDW := Lib.hid hdw; have HDL := Lib.hid hdl; clear b2 hg9 h9 hfro hdb hdw hdl)
    have X9 : Ext W0 w9 := Ext.of (HX9.out.out.grown HG9.out HX9.out.size (fun k hk => by cases hk; exact HSZ.out.1))
    rw [HR.out]
    obtain ⟨r0, r1, r2, r3, r4, r5⟩ := arr6f BB.out
    have hs9 := HSZ.out
    refine bodyPost_ret (v := .tuple #[.agg #[.int .i64 d'.next, .slice d'.oA d'.opn.length d'.oc, .slice d'.cA d'.accs.length d'.cc, .slice d'.uA d'.auts.length d'.uc, .slice d'.rA d'.ords.length d'.rc, .int .i64 d'.ser], .int .i64 n', .int .i64 0]) (by simp [results, Tryz.results18, go_sem, r0, r1, r2, r3, r4, r5]) rfl ⟨d', rfl, HFR.out, ?_, ?_, ext6 (HX0.out.trans X9) (by omega) _ _ _ _ _ _⟩
    · exact HDW.out.grownTo ((HDL.out _ HLL.out).mono (fun k hk => by rcases hk with (hk | hk) | hk <;> omega)) (grown6 w9 (w.heap.size + 2) _ _ _ _ _ _)
    · intro S hS
      exact (HDL.out _ (HL9.out S hS)).mono (fun k hk => by rcases hk with (hk | hk) | hk; exact .inl hk; exact .inr (by omega); exact .inr (by omega))
end Go.Proofs.YtbhdmfijdhcehaaGreatDoor

/- The door, walked: New, asked. -/
namespace Go.Proofs.YtbhdmfijdhcehaaGreatDoor
set_option linter.unusedVariables false
set_option linter.unusedSimpArgs false
set_option linter.unusedSimpArgs false
open Go.RowKit Go.Shelf Go.Maps

theorem oNew_any (w : World) : Calls Tryz.prog 34 #[] w fun e w' => e = .returned (frontV doorZ) ∧ Ext w w' := by
  obtain ⟨W0, e0⟩ : ∃ W, w.alloc (.cells #[.int .i64 0, .slice none 0 0, .slice none 0 0, .slice none 0 0, .slice none 0 0, .int .i64 0] 43) = W := ⟨_, rfl⟩
  have x0 : Ext w W0 := by rw [← e0]; exact (Ext.refl w).alloc _
  have b0 : Blk W0 w.heap.size 43 #[.int .i64 0, .slice none 0 0, .slice none 0 0, .slice none 0 0, .slice none 0 0, .int .i64 0] := by rw [← e0]; exact Blk.new _ _ _
  obtain ⟨q0, q1, q2, q3, q4, q5, f0, f1, f2, f3, f4, f5⟩ := st6 b0
  have BB := Lib.hid (blk6 b0 (.int .i64 0) (.slice none 0 0) (.slice none 0 0) (.slice none 0 0) (.slice none 0 0) (.int .i64 0))
  clear b0
  go_enter Tryz.func34, Tryz.ntmps34
  go_upto_region 1 with (fail)
  try rw [e0]
  clear e0
  go_wp2
  obtain ⟨r0, r1, r2, r3, r4, r5⟩ := arr6f BB.out
  refine bodyPost_ret (v := .agg #[.int .i64 0, .slice none 0 0, .slice none 0 0, .slice none 0 0, .slice none 0 0, .int .i64 0]) (by simp [results, Tryz.results34, go_sem, r0, r1, r2, r3, r4, r5]) rfl ⟨rfl, ext6 x0 (Nat.le_refl _) _ _ _ _ _ _⟩
section
variable {W w : World} {g : Nat} {T : TypeId} {x0 x1 x2 x3 x4 x5 x6 x7 : Value}
theorem st8 (k : Blk W g T #[x0, x1, x2, x3, x4, x5, x6, x7]) : (W.cell? ⟨g, 0, none⟩ = some x0 ∧ W.cell? ⟨g, 1, none⟩ = some x1 ∧ W.cell? ⟨g, 2, none⟩ = some x2 ∧ W.cell? ⟨g, 3, none⟩ = some x3 ∧ W.cell? ⟨g, 4, none⟩ = some x4 ∧ W.cell? ⟨g, 5, none⟩ = some x5 ∧ W.cell? ⟨g, 6, none⟩ = some x6 ∧ W.cell? ⟨g, 7, none⟩ = some x7) ∧
    W.frozen? ⟨g, 0, none⟩ = false ∧ W.frozen? ⟨g, 1, none⟩ = false ∧ W.frozen? ⟨g, 2, none⟩ = false ∧ W.frozen? ⟨g, 3, none⟩ = false ∧ W.frozen? ⟨g, 4, none⟩ = false ∧ W.frozen? ⟨g, 5, none⟩ = false ∧ W.frozen? ⟨g, 6, none⟩ = false ∧ W.frozen? ⟨g, 7, none⟩ = false :=
  ⟨⟨k.cell 0, k.cell 1, k.cell 2, k.cell 3, k.cell 4, k.cell 5, k.cell 6, k.cell 7⟩, k.frozen 0, k.frozen 1, k.frozen 2, k.frozen 3, k.frozen 4, k.frozen 5, k.frozen 6, k.frozen 7⟩
end
/-- An order of a number, that is to be issued; with where its parts lie. -/
def askX (d : DoorX) (id : Int) : Nat × Option OrdX :=
  if id < 1 then (131, none) else match d.ords[id.toNat - 1]? with
  | none => (131, none)
  | some x => if x.o.st ≠ 2 then (221, none) else (0, some x)
theorem askX_f (d : DoorX) (id : Int) : askF d.fro id = ((askX d id).1, (askX d id).2.map (·.o)) := by
  unfold askF askX
  split
  · rfl
  · rw [dfro_ords, List.getElem?_map]
    cases d.ords[id.toNat - 1]? with
    | none => rfl
    | some x =>
      simp only [Option.map_some]
      split <;> rfl
def ordZ : Value := .agg #[.int .i64 0, .int .i64 0, .slice none 0 0, .int .u64 0, .int .i64 0, .slice none 0 0, .int .i64 0, .int .i64 0]
def ordXV (x : OrdX) : Value := .agg #[.int .i64 x.o.id, .int .i64 x.o.acc, .slice x.nA x.o.names.length x.nc, .int .u64 (x.o.key : Int), .int .i64 x.o.life, .slice x.aA x.o.auths.length x.ac, .int .i64 x.o.st, .int .i64 x.o.ser]
def askV : Option OrdX → Value
  | none => ordZ
  | some x => ordXV x
end Go.Proofs.YtbhdmfijdhcehaaGreatDoor

/- The door, walked: asked. -/
namespace Go.Proofs.YtbhdmfijdhcehaaGreatDoor
set_option linter.unusedVariables false
set_option linter.unusedSimpArgs false
set_option linter.unusedSimpArgs false
open Go.RowKit Go.Shelf Go.Maps

def askedPost (d : DoorX) (id : Int) (w : World) (e : Ending) (w' : World) : Prop := e = .returned (.tuple #[askV (askX d id).2, .int .i64 (((askX d id).1 : Nat) : Int)]) ∧ Ext w w'
set_option maxRecDepth 100000 in
set_option maxHeartbeats 8000000 in
theorem asked_any (b : Nat) (d : DoorX) (now id : Int) (w : World) (hl : d.ords.length ≤ 1099511627776) (h : DoorB w b d now) (hr : Reads w w.heap.size 8 d.rA d.ords.length (ordV d.ords)) :
    Calls Tryz.prog 74 #[.pointer (some ⟨b, 0, none⟩), .int .i64 id] w (askedPost d id w) := by
  obtain ⟨W0, e0⟩ : ∃ W, w.alloc (.cells #[.int .i64 0, .int .i64 0, .slice none 0 0, .int .u64 0, .int .i64 0, .slice none 0 0, .int .i64 0, .int .i64 0] 78) = W := ⟨_, rfl⟩
  have x0 : Ext w W0 := by rw [← e0]; exact (Ext.refl w).alloc _
  have b0 : Blk W0 w.heap.size 78 #[.int .i64 0, .int .i64 0, .slice none 0 0, .int .u64 0, .int .i64 0, .slice none 0 0, .int .i64 0, .int .i64 0] := by rw [← e0]; exact Blk.new _ _ _
  obtain ⟨⟨q0, q1, q2, q3, q4, q5, q6, q7⟩, f0, f1, f2, f3, f4, f5, f6, f7⟩ := st8 b0
  have a4 : W0.cell? ⟨b, 4, none⟩ = some (.slice d.rA d.ords.length d.rc) := (DoorB.ext h x0).cell 4
  have HB := Lib.hid b0
  have HX := Lib.hid x0
  have HR := Lib.hid hr
  have hlb : (d.ords.length : Int) ≤ 1099511627776 := by omega
  clear b0 x0 h hr
  go_enter Tryz.func74, Tryz.ntmps74
  go_upto_region 1 with (fail)
  try rw [e0]
  clear e0
  have hbad : ∀ E : Nat, Hid (askX d id = (E, none)) → Hid (askedPost d id w (.returned (.tuple #[.agg #[.int .i64 0, .int .i64 0, .slice none 0 0, .int .u64 0, .int .i64 0, .slice none 0 0, .int .i64 0, .int .i64 0], .int .i64 (E : Int)]))
      ((((((((W0.setCell ⟨w.heap.size, 0, none⟩ (.int .i64 0)).setCell ⟨w.heap.size, 1, none⟩ (.int .i64 0)).setCell ⟨w.heap.size, 2, none⟩ (.slice none 0 0)).setCell ⟨w.heap.size, 3, none⟩ (.int .u64 0)).setCell ⟨w.heap.size, 4, none⟩ (.int .i64 0)).setCell ⟨w.heap.size, 5, none⟩ (.slice none 0 0)).setCell ⟨w.heap.size, 6, none⟩ (.int .i64 0)).setCell ⟨w.heap.size, 7, none⟩ (.int .i64 0))) :=
    fun E hE => Lib.hid ⟨by rw [hE.out]; rfl, set8_ext HX.out (Nat.le_refl _) _ _ _ _ _ _ _ _⟩
  have BB := Lib.hid (set8_blk HB.out (.int .i64 0) (.int .i64 0) (.slice none 0 0) (.int .u64 0) (.int .i64 0) (.slice none 0 0) (.int .i64 0) (.int .i64 0))
  by_cases g1 : id < 1
  · have d1 : decide (id < 1) = true := decide_eq_true g1
    have hp := hbad 131 (Lib.hid (by unfold askX; rw [if_pos g1]))
    clear g1 hbad
    go_wp2
    obtain ⟨⟨r0, r1, r2, r3, r4, r5, r6, r7⟩, -⟩ := st8 BB.out
    refine bodyPost_ret (v := .tuple #[.agg #[.int .i64 0, .int .i64 0, .slice none 0 0, .int .u64 0, .int .i64 0, .slice none 0 0, .int .i64 0, .int .i64 0], .int .i64 131]) (by simp [results, Tryz.results74, go_sem, r0, r1, r2, r3, r4, r5, r6, r7]) rfl hp.out
  have d1 : decide (id < 1) = false := decide_eq_false g1
  obtain ⟨a, rfl⟩ : ∃ a : Nat, id = (a : Int) + 1 := ⟨(id - 1).toNat, by omega⟩
  by_cases g2 : (d.ords.length : Int) < (a : Int) + 1
  · have d2 : decide ((d.ords.length : Int) < (a : Int) + 1) = true := decide_eq_true g2
    have hp := hbad 131 (Lib.hid (by unfold askX; rw [if_neg g1, show ((a : Int) + 1).toNat - 1 = a by omega, List.getElem?_eq_none (by omega)]))
    clear g1 g2 hbad
    go_wp2
    obtain ⟨⟨r0, r1, r2, r3, r4, r5, r6, r7⟩, -⟩ := st8 BB.out
    refine bodyPost_ret (v := .tuple #[.agg #[.int .i64 0, .int .i64 0, .slice none 0 0, .int .u64 0, .int .i64 0, .slice none 0 0, .int .i64 0, .int .i64 0], .int .i64 131]) (by simp [results, Tryz.results74, go_sem, r0, r1, r2, r3, r4, r5, r6, r7]) rfl hp.out
  have d2 : decide ((d.ords.length : Int) < (a : Int) + 1) = false := decide_eq_false g2
  obtain ⟨x, hx⟩ : ∃ u, d.ords[a]? = some u := ⟨_, List.getElem?_eq_getElem (by omega)⟩
  obtain ⟨ad, hA, hlt, r0, r1, r2, r3, r4, r5, r6, r7⟩ := reads_ord HR.out hx
  rw [hA] at a4
  have c0 := HX.out.cell r0
  have c1 := HX.out.cell r1
  have c2 := HX.out.cell r2
  have c3 := HX.out.cell r3
  have c4 := HX.out.cell r4
  have c5 := HX.out.cell r5
  have c6 := HX.out.cell r6
  have c7 := HX.out.cell r7
  have hal : (a : Int) < (d.ords.length : Int) := by omega
  have hab : (a : Int) ≤ 1099511627776 := by omega
  have e2 : IntKind.i64.wrap ((a : Int) + 1 - 1) = (a : Int) := by rw [IntKind.wrap_i64]; omega
  by_cases g3 : x.o.st = 2
  case neg =>
    have d3 : (x.o.st != 2) = true := by simp [g3]
    have hp := hbad 221 (Lib.hid (by unfold askX; rw [if_neg g1, show ((a : Int) + 1).toNat - 1 = a by omega, hx]; simp only; rw [if_pos g3]))
    clear g1 g2 g3 hbad hx r0 r1 r2 r3 r4 r5 r6 r7 hA hlt
    go_wp2
    obtain ⟨⟨r0, r1, r2, r3, r4, r5, r6, r7⟩, -⟩ := st8 BB.out
    refine bodyPost_ret (v := .tuple #[.agg #[.int .i64 0, .int .i64 0, .slice none 0 0, .int .u64 0, .int .i64 0, .slice none 0 0, .int .i64 0, .int .i64 0], .int .i64 221]) (by simp [results, Tryz.results74, go_sem, r0, r1, r2, r3, r4, r5, r6, r7]) rfl hp.out
  have d3 : (x.o.st != 2) = false := by simp [g3]
  have hp : Hid (askX d ((a : Int) + 1) = (0, some x)) := Lib.hid (by unfold askX; rw [if_neg g1, show ((a : Int) + 1).toNat - 1 = a by omega, hx]; simp only; rw [if_neg (by simpa using g3)])
  clear BB hbad g1 g2 g3 hx r0 r1 r2 r3 r4 r5 r6 r7 hA hlt
  have BB := Lib.hid (set8_blk HB.out (.int .i64 x.o.id) (.int .i64 x.o.acc) (.slice x.nA x.o.names.length x.nc) (.int .u64 (x.o.key : Int)) (.int .i64 x.o.life) (.slice x.aA x.o.auths.length x.ac) (.int .i64 x.o.st) (.int .i64 x.o.ser))
  go_wp2
  obtain ⟨⟨r0, r1, r2, r3, r4, r5, r6, r7⟩, -⟩ := st8 BB.out
  refine bodyPost_ret (v := .tuple #[ordXV x, .int .i64 0]) (by simp [results, Tryz.results74, go_sem, ordXV, r0, r1, r2, r3, r4, r5, r6, r7]) rfl ⟨by rw [hp.out]; rfl, set8_ext HX.out (Nat.le_refl _) _ _ _ _ _ _ _ _⟩
end Go.Proofs.YtbhdmfijdhcehaaGreatDoor

/- A region that draws its order and ends in a row of stores into what it has read: the reads are taken first; from place L on each operation waits for all that was read, and need not keep it. -/
namespace Go.Proofs.YtbhdmfijdhcehaaGreatDoor
set_option linter.unusedVariables false
set_option linter.unusedSimpArgs false
set_option linter.unusedSimpArgs false
open Go.RowKit

section
variable {P : Program} {ops : Array Oper} {Q : Exit → Act → World → Prop} {md : Region.Mode} {S : World → Prop} {L : Nat}
def wpAnyF (P : Program) (md : Region.Mode) (ops : Array Oper) (Q : Exit → Act → World → Prop) (S : World → Prop) (L : Nat) : Nat → Array Bool → Act → World → Prop
  | 0, listed, a, w => Region.ready md ops listed = [] ∧ Q .normal a w
  | fuel + 1, listed, a, w =>
    (Region.ready md ops listed = [] → Q .normal a w) ∧
    ∀ i ∈ Region.ready md ops listed, wpOp P ops Q i (fun a' w' => (i < L → S w → S w') ∧ wpAnyF P md ops Q S L fuel (listed.setIfInBounds i true) a' w') a w
theorem any_of_F : ∀ (fuel : Nat) (listed : Array Bool) (a : Act) (w : World), wpAnyF P md ops Q S L fuel listed a w → wpAny P md ops Q fuel listed a w
  | 0, _, _, _, h => h
  | fuel + 1, _, _, _, h => ⟨h.1, fun i hi => wpOp_mono (fun a' w' h' => any_of_F fuel _ a' w' h'.2) (h.2 i hi)⟩
/-- From L on all wait for i. -/
def allWait (md : Region.Mode) (ops : Array Oper) (L i : Nat) : Bool := (List.range ops.size).all fun j => decide (j < L) || Region.waitsFor md ops j i
theorem F_first {i : Nat} {oi : Oper} {v : Value} (hi : ops[i]? = some oi) (hsel : ∀ (j : Nat) (o : Oper) cs b, ops[j]? = some o → o.op ≠ .select cs b)
    (hQ : ∀ c a w, Q (.panic c) (a.put oi.dst v) w → Q (.panic c) a w) (hL : allWait md ops L i = true) :
    ∀ (fuel : Nat) (listed : Array Bool) (a : Act) (w : World),
      (∀ j oj, ops[j]? = some oj → j ≠ i → listed.getD j true = false → (∀ e ∈ oj.after, Region.binds md e = true → e.on ≠ i) → oi.apart ops oj = true) →
      i ∈ Region.ready md ops listed → YieldsIf P ops S oi v a → S w →
      wpAnyF P md ops Q S L fuel (listed.setIfInBounds i true) (a.put oi.dst v) w → wpAnyF P md ops Q S L (fuel + 1) listed a w := by
  intro fuel
  induction fuel with
  | zero =>
    intro listed a w _ hr hy hS H
    refine ⟨fun h => (by rw [h] at hr; cases hr), fun j hj => ?_⟩
    by_cases hji : j = i
    · subst hji; exact hy.wpOp hi hS ⟨fun _ h => h, H⟩
    · have := ready_mono hj hji
      rw [H.1] at this
      cases this
  | succ fuel ih =>
    intro listed a w hfree hr hy hS H
    refine ⟨fun h => (by rw [h] at hr; cases hr), fun j hj => ?_⟩
    by_cases hji : j = i
    · subst hji; exact hy.wpOp hi hS ⟨fun _ h => h, H⟩
    · have h1 := H.2 j (ready_mono hj hji)
      obtain ⟨hjun, oj, hoj, hall⟩ := mem_ready.1 hj
      have hnot : ∀ e ∈ oj.after, Region.binds md e = true → e.on ≠ i := fun e he hb heq => by
        have h1 := hall e he hb
        have h0 := (mem_ready.1 hr).1
        rw [heq] at h1
        rcases Nat.lt_or_ge i listed.size with h' | h'
        · simp [h'] at h0 h1; rw [h0] at h1; cases h1
        · simp [Array.getElem?_eq_none h'] at h1
      have hjL : j < L := by
        have hjs : j < ops.size := (Array.getElem?_eq_some_iff.1 hoj).1
        have := List.all_eq_true.1 hL j (List.mem_range.2 hjs)
        rcases Bool.or_eq_true_iff.1 this with h | h
        · exact of_decide_eq_true h
        · exfalso
          obtain ⟨ol, hol, x, hx, hb, hon⟩ := Region.waitsFor_spec h
          rw [hoj] at hol
          cases hol
          exact hnot x hx hb hon
      have h2 := wpOp_putIf hoj (hfree j oj hoj hji hjun hnot) (fun cs b => hsel i oi cs b hi) (fun cs b => hsel j oj cs b hoj) hQ hy h1
      have hfree' : ∀ k ok, ops[k]? = some ok → k ≠ i → (listed.setIfInBounds j true).getD k true = false →
          (∀ e ∈ ok.after, Region.binds md e = true → e.on ≠ i) → oi.apart ops ok = true := fun k ok hk hki hun hno => by
        refine hfree k ok hk hki ?_ hno
        by_cases hjk : j = k
        · subst hjk; exact hjun
        · rw [getD_set_ne true hjk] at hun; exact hun
      refine wpOp_mono (fun a' w' h3 => ⟨h3.2.1, ih (listed.setIfInBounds j true) a' w' hfree' (ready_mono hr (Ne.symm hji)) h3.1 (h3.2.1 hjL hS) ?_⟩) h2
      rw [Array.setIfInBounds_comm _ _ hji]
      exact h3.2.2
/-- Whatever the world. -/
theorem F_pure_first {i : Nat} {oi : Oper} {v : Value} (hi : ops[i]? = some oi) (hsel : ∀ (j : Nat) (o : Oper) cs b, ops[j]? = some o → o.op ≠ .select cs b)
    (hQ : ∀ c a w, Q (.panic c) (a.put oi.dst v) w → Q (.panic c) a w) :
    ∀ (fuel : Nat) (listed : Array Bool) (a : Act) (w : World),
      (∀ j oj, ops[j]? = some oj → j ≠ i → listed.getD j true = false → (∀ e ∈ oj.after, Region.binds md e = true → e.on ≠ i) → oi.apart ops oj = true) →
      i ∈ Region.ready md ops listed → YieldsIf P ops (fun _ => True) oi v a →
      wpAnyF P md ops Q S L fuel (listed.setIfInBounds i true) (a.put oi.dst v) w → wpAnyF P md ops Q S L (fuel + 1) listed a w := by
  intro fuel
  induction fuel with
  | zero =>
    intro listed a w _ hr hy H
    refine ⟨fun h => (by rw [h] at hr; cases hr), fun j hj => ?_⟩
    by_cases hji : j = i
    · subst hji; exact hy.wpOp hi trivial ⟨fun _ h => h, H⟩
    · have := ready_mono hj hji
      rw [H.1] at this
      cases this
  | succ fuel ih =>
    intro listed a w hfree hr hy H
    refine ⟨fun h => (by rw [h] at hr; cases hr), fun j hj => ?_⟩
    by_cases hji : j = i
    · subst hji; exact hy.wpOp hi trivial ⟨fun _ h => h, H⟩
    · have h1 := H.2 j (ready_mono hj hji)
      obtain ⟨hjun, oj, hoj, hall⟩ := mem_ready.1 hj
      have hnot : ∀ e ∈ oj.after, Region.binds md e = true → e.on ≠ i := fun e he hb heq => by
        have h1 := hall e he hb
        have h0 := (mem_ready.1 hr).1
        rw [heq] at h1
        rcases Nat.lt_or_ge i listed.size with h' | h'
        · simp [h'] at h0 h1; rw [h0] at h1; cases h1
        · simp [Array.getElem?_eq_none h'] at h1
      have h2 := wpOp_putIf hoj (hfree j oj hoj hji hjun hnot) (fun cs b => hsel i oi cs b hi) (fun cs b => hsel j oj cs b hoj) hQ hy h1
      have hfree' : ∀ k ok, ops[k]? = some ok → k ≠ i → (listed.setIfInBounds j true).getD k true = false →
          (∀ e ∈ ok.after, Region.binds md e = true → e.on ≠ i) → oi.apart ops ok = true := fun k ok hk hki hun hno => by
        refine hfree k ok hk hki ?_ hno
        by_cases hjk : j = k
        · subst hjk; exact hjun
        · rw [getD_set_ne true hjk] at hun; exact hun
      refine wpOp_mono (fun a' w' h3 => ⟨h3.2.1, ih (listed.setIfInBounds j true) a' w' hfree' (ready_mono hr (Ne.symm hji)) h3.1 ?_⟩) h2
      rw [Array.setIfInBounds_comm _ _ hji]
      exact h3.2.2
theorem F_start {id n : Nat} {ls : Array Bool} {a : Act} {w : World} (S : World → Prop) (L : Nat) (hm : P.follows .mixedOrders = true) (hn : ops.size = n) (h0 : Array.replicate ops.size false = ls) (hS : S w.drew)
    (h : S w.drew → wpAnyF P .any ops (NoPanic Q) S L n ls a w.drew) : (Code.region id ops true).wp P Q a w := by
  refine wp_region_noPanic (wp_region_any hm (any_of_F (S := S) (L := L) _ _ _ _ ?_))
  rw [h0, hn]
  exact h hS
theorem F_take {i : Nat} {oi : Oper} (d : Option Tmp) {v : Value} {fuel : Nat} {ls ls' : Array Bool} {a : Act} {w : World} (hi : ops[i]? = some oi) (hd : oi.dst = d) (hs : Region.noSelect ops = true) (hf : Region.free .any ops ls i = true) (hr : (Region.ready .any ops ls).contains i = true) (hL : allWait .any ops L i = true)
    (hl : ls.setIfInBounds i true = ls') (hw : Region.wanted oi (yielded ops a.tmps) = true) (hy : ∀ w, S w → (execOp a.eval oi).run P w = .ok (.value v) w) (hS : S w) (h : wpAnyF P .any ops (NoPanic Q) S L fuel ls' (a.put d v) w) :
    wpAnyF P .any ops (NoPanic Q) S L (fuel + 1) ls a w := by
  subst hl hd
  exact F_first hi (Region.noSelect_spec hs) (fun _ _ _ h => h) hL fuel ls a w (Region.free_spec hi hf) (by simpa using hr) (.inl ⟨hw, hy⟩) hS h
theorem F_pure {i : Nat} {oi : Oper} (d : Option Tmp) {v : Value} {fuel : Nat} {ls ls' : Array Bool} {a : Act} {w : World} (hi : ops[i]? = some oi) (hd : oi.dst = d) (hs : Region.noSelect ops = true) (hf : Region.free .any ops ls i = true) (hr : (Region.ready .any ops ls).contains i = true)
    (hl : ls.setIfInBounds i true = ls') (hw : Region.wanted oi (yielded ops a.tmps) = true) (hy : ∀ w, (execOp a.eval oi).run P w = .ok (.value v) w) (h : wpAnyF P .any ops (NoPanic Q) S L fuel ls' (a.put d v) w) :
    wpAnyF P .any ops (NoPanic Q) S L (fuel + 1) ls a w := by
  subst hl hd
  exact F_pure_first hi (Region.noSelect_spec hs) (fun _ _ _ h => h) fuel ls a w (Region.free_spec hi hf) (by simpa using hr) (.inl ⟨hw, fun w _ => hy w⟩) h
/-- Some may come up. -/
theorem F_some {fuel : Nat} {ls : Array Bool} {a : Act} {w : World} {is : List Nat} (hr : Region.ready .any ops ls = is) (hne : is ≠ [])
    (h : ∀ i ∈ is, ∃ o, ops[i]? = some o ∧ Region.wanted o (yielded ops a.tmps) = true ∧ ∀ K : Act → World → Prop, (∀ a w', (i < L → S w → S w') → wpAnyF P .any ops (NoPanic Q) S L fuel (ls.setIfInBounds i true) a w' → K a w') → o.wp P a w K (NoPanic Q)) : wpAnyF P .any ops (NoPanic Q) S L (fuel + 1) ls a w := by
  refine ⟨(fun h0 => by rw [hr] at h0; exact absurd h0 hne), (fun j hj => ?_)⟩
  rw [hr] at hj
  obtain ⟨o, hi, hw, h⟩ := h j hj
  unfold wpOp
  simp only [hi, hw, if_true]
  exact .inl (h _ fun a w h1 h2 => ⟨h1, h2⟩)
/-- One of them. -/
theorem F_way {fuel : Nat} {ls ls' : Array Bool} {a : Act} {w : World} {i : Nat} {o : Oper} (hi : ops[i]? = some o) (hl : ls.setIfInBounds i true = ls') (hw : Region.wanted o (yielded ops a.tmps) = true)
    (h : ∀ K : Act → World → Prop, (∀ a w', (i < L → S w → S w') → wpAnyF P .any ops (NoPanic Q) S L fuel ls' a w' → K a w') → o.wp P a w K (NoPanic Q)) :
    ∃ o, ops[i]? = some o ∧ Region.wanted o (yielded ops a.tmps) = true ∧ ∀ K : Act → World → Prop, (∀ a w', (i < L → S w → S w') → wpAnyF P .any ops (NoPanic Q) S L fuel (ls.setIfInBounds i true) a w' → K a w') → o.wp P a w K (NoPanic Q) := by
  subst hl
  exact ⟨o, hi, hw, h⟩
theorem F_done {fuel : Nat} {ls : Array Bool} {a : Act} {w : World} (hr : Region.ready .any ops ls = []) (h : Q .normal a w) : wpAnyF P .any ops (NoPanic Q) S L fuel ls a w := by
  cases fuel with
  | zero => exact ⟨hr, NoPanic.normal h⟩
  | succ n => exact ⟨fun _ => NoPanic.normal h, by rw [hr]; simp⟩
end
end Go.Proofs.YtbhdmfijdhcehaaGreatDoor
