/- Parts of the proofs, put together: Or31. -/
import Derived.Test.YtfpmfegmehbfbaaGreatDoorD28
/- The door, walked: what wants leaves. -/
namespace Go.Proofs.YtfpmfegmehbfbaaGreatDoor
set_option linter.unusedVariables false
set_option linter.unusedSimpArgs false
set_option linter.unusedSimpArgs false
open Go.RowKit Go.Shelf Go.Maps

theorem reads_newL (W : World) (T : TypeId) (xs : List Value) : Reads (W.alloc (.cells xs.toArray T)) (W.alloc (.cells xs.toArray T)).heap.size xs.length (some ⟨W.heap.size, 0, none⟩) 1 xs :=
  ⟨by simp, fun _ => ⟨_, rfl, by simp, fun j u hj => by
    rw [show (⟨W.heap.size, 0, none⟩ : Addr).add j = ⟨W.heap.size, j, none⟩ by simp [Addr.add]; exact fun h => h.symm, (Blk.new W T xs.toArray).cell j]
    simpa using hj⟩⟩
theorem WSt.fin {w W1 w9 : World} {b g6 B0 B1 : Nat} {d : DoorX} {now : Int} {q : QueR} {A nA : Option Addr} {c nc : Nat} {L : List AutR} {ns : List Int} {uA : Option Addr} {uc : Nat} {aA : Option Addr} {ac : Nat} (h : WSt W1 b g6 d now q nA nc L ns uA uc aA ac w9)
    (hb : b < w.heap.size) (hg : w.heap.size ≤ g6) (h6 : g6 < W1.heap.size) (X1 : Ext w W1) (hW : DoorW w w.heap.size d) (hL : DoorL (fun k => k ≠ b) d) (hq : QueW w w.heap.size q A c)
    {cs : Array Value} (ho6 : Blk W1 g6 109 cs) (hn : W1.ownsRow B0 9 1 (.slice nA q.names.length nc) q.names.length (tv q.names)) (hB0 : w.heap.size ≤ B0) (hB1 : W1.heap.size ≤ B1)
    (hfo : q.names.foldl (wantA q.acc now) (d.auts, []) = (L, ns)) (hLl : L.length ≤ d.auts.length + q.names.length) (hLw : ∀ x ∈ L, AutW x) (hns : ∀ n ∈ ns, 1 ≤ n ∧ n ≤ L.length) (hnl : ns.length = q.names.length) (hlen : d.auts.length + q.names.length < 99) (hol : d.ords.length < 100)
    {v : Value} (ho : w9.ownsRow B1 109 8 v (d.ords.length + 1) (ordV d.ords ++ [.int .i64 ((d.ords.length : Int) + 1), .int .i64 q.acc, .slice nA q.names.length nc, .int .u64 (q.key : Int), .int .i64 q.life, .slice aA ns.length ac, .int .i64 1, .int .i64 0])) :
    ∃ A9 c9, v = .slice A9 (d.ords.length + 1) c9 ∧ (w9.setCell ⟨b, 4, none⟩ (.slice A9 (d.ords.length + 1) c9)).cell? ⟨b, 3, none⟩ = some (.slice uA L.length uc) ∧
      (w9.setCell ⟨b, 4, none⟩ (.slice A9 (d.ords.length + 1) c9)).cell? ⟨b, 4, none⟩ = some (.slice A9 (d.ords.length + 1) c9) ∧ (w9.setCell ⟨b, 4, none⟩ (.slice A9 (d.ords.length + 1) c9)).cell? ⟨g6, 0, none⟩ = some (.int .i64 ((d.ords.length : Int) + 1)) ∧
      But b g6 W1 (w9.setCell ⟨b, 4, none⟩ (.slice A9 (d.ords.length + 1) c9)) ∧
      methPost b d now (wantF d.fro q now) w (.returned (.tuple #[.int .i64 ((d.ords.length : Int) + 1), .int .i64 0])) (w9.setCell ⟨b, 4, none⟩ (.slice A9 (d.ords.length + 1) c9)) := by
  obtain ⟨A9, c9, rfl, hc9, -⟩ := own_slice2 ho
  have hbW : b < W1.heap.size := by omega
  have hne : b ≠ g6 := by omega
  obtain ⟨nA', nc', he, hnc, -⟩ := own_slice2 hn
  cases he
  obtain ⟨uA', uc', he, huc, -⟩ := own_slice2 h.own
  cases he
  obtain ⟨aA', ac', he, hac, -⟩ := own_slice2 h.num
  cases he
  have hd4 := Blk.set_ h.door 4 (.slice A9 (d.ords.length + 1) c9)
  have hg6 := Blk.far h.ord (p := ⟨b, 4, none⟩) (show g6 ≠ b by omega) (.slice A9 (d.ords.length + 1) c9)
  have hbut := h.but.set (p := ⟨b, 4, none⟩) (.inl rfl) (.slice A9 (d.ords.length + 1) c9)
  have hou := own_far h.own hbW 4 (.slice A9 (d.ords.length + 1) c9)
  have hon := own_far h.num hbW 4 (.slice A9 (d.ords.length + 1) c9)
  have hor := own_far ho (show b < B1 by omega) 4 (.slice A9 (d.ords.length + 1) c9)
  have hgw : w.grownBy (w9.setCell ⟨b, 4, none⟩ (.slice A9 (d.ords.length + 1) c9)) (some b) := hbut.from X1 hg
  refine ⟨A9, c9, rfl, hd4.cell 3, hd4.cell 4, hg6.cell 0, hbut, ?_⟩
  have hR : wantF d.fro q now = ({ d.fro with auts := L, ords := d.fro.ords ++ [⟨(d.fro.ords.length : Int) + 1, q.acc, q.names, q.key, q.life, ns, 1, 0⟩] }, (d.fro.ords.length : Int) + 1, 0) := by
    unfold wantF wantL
    rw [dfro_auts, hfo]
    simp only
    rw [if_neg (by rw [dfro_ords, List.length_map]; omega)]
  have hdl : d.fro.ords.length = d.ords.length := by rw [dfro_ords, List.length_map]
  rw [hR]
  generalize w9.setCell ⟨b, 4, none⟩ (.slice A9 (d.ords.length + 1) c9) = W9 at hd4 hg6 hbut hou hon hor hgw ⊢
  have hlen2 : (d.ords ++ [OrdX.mk ⟨(d.ords.length : Int) + 1, q.acc, q.names, q.key, q.life, ns, 1, 0⟩ nA nc aA ac]).length = d.ords.length + 1 := by simp
  have hNB : Lies (fun k => k ≠ b ∧ k ≠ g6) nA q.names.length := fun h0 ad e => by
    obtain ⟨g, cap, hv, hgb, _⟩ := hn.form h0
    subst e
    cases hv
    exact ⟨by show g ≠ b; omega, fun e => own_blk_ne hn ho6 (by decide) (by simp only [Value.ownBlock]; exact congrArg some e)⟩
  have hnr : Reads W9 W9.heap.size 1 nA q.names.length (tv q.names) := (Reads.of_own hn).stay hNB hbut.size (fun k hk hb => hbut.block k hb hk.1 hk.2)
  have hW2 := withU_w (hW.grownTo hL hgw) (Reads.of_own hou) huc (by omega) hLw
  refine ⟨by rw [hdl]; rfl, hgw, fun _ => ⟨withO (withU d L uA uc) (d.ords ++ [OrdX.mk ⟨(d.ords.length : Int) + 1, q.acc, q.names, q.key, q.life, ns, 1, 0⟩ nA nc aA ac]) A9 c9, ?_, ?_, ?_, fun S hS => ?_⟩⟩
  · rw [hdl]
    unfold withO withU DoorX.fro
    simp
  · unfold DoorB withO
    simp only
    rw [hlen2]
    exact hd4
  · refine withO_w hW2 ?_ (by rw [hlen2]; exact hc9) (by rw [hlen2]; omega) (fun x hx => ?_)
    · rw [hlen2, ordV_append]
      exact Reads.of_own hor
    · rcases List.mem_append.1 hx with hx | hx
      · exact hW2.rw x hx
      · rw [List.mem_singleton] at hx
        subst hx
        exact ⟨wf64_of (by simp only; omega) (by simp only; omega), hq.acc, hq.key, hq.life, wf64_of (by simp only; omega) (by simp only; omega), wf64_of (by simp only; omega) (by simp only; omega), hnr, hnc, hq.nl, hq.ns, Reads.of_own hon, hac, by simp only; omega, fun n hn => by have := hns n hn; exact wf64_of (by omega) (by omega)⟩
  · refine withO_l (withU_l hS (fun k hk => .inl hk) (Lies.own hou (fun k hk => .inr (by have := X1.size; omega)))) (fun k hk => hk) ?_ (fun x hx => ?_)
    · rw [hlen2]
      exact Lies.own hor (fun k hk => .inr (by have := X1.size; omega))
    · rcases List.mem_append.1 hx with hx | hx
      · exact ⟨(hS.n x hx).mono (fun k hk => .inl hk), (hS.a x hx).mono (fun k hk => .inl hk)⟩
      · rw [List.mem_singleton] at hx
        subst hx
        exact ⟨Lies.own hn (fun k hk => .inr (by omega)), Lies.own hon (fun k hk => .inr (by have := X1.size; omega))⟩
theorem itoa_short : ∀ i : Fin 100, (Lib.itoa (i.val : Int)).length ≤ 3 := by decide +kernel
theorem tokS_size {id acc : Int} (h1 : 0 ≤ id) (h2 : id < 100) (h3 : 0 ≤ acc) (h4 : acc < 100) : (tokS id acc).size ≤ 140737488355328 := by
  obtain ⟨n, rfl⟩ := Int.eq_ofNat_of_zero_le h1
  obtain ⟨m, rfl⟩ := Int.eq_ofNat_of_zero_le h3
  have e1 := itoa_short ⟨n, by omega⟩
  have e2 := itoa_short ⟨m, by omega⟩
  simp only at e1 e2
  show ((Lib.itoa _ ++ [45] ++ Lib.itoa _).toArray).size ≤ _
  simp only [List.size_toArray, List.length_append, List.length_cons, List.length_nil]
  omega
theorem newA_w {n : Nat} {acc : Int} {s : ByteArray} (hn : n < 99) (ha : 0 ≤ acc ∧ acc < 100) (hs : s.size ≤ 140737488355328) : AutW (newA n acc s) :=
  ⟨wf64_of (by simp only [newA]; omega) (by simp only [newA]; omega), wf64_of (by simp only [newA]; omega) (by simp only [newA]; omega), wf64_of (by simp only [newA]; omega) (by simp only [newA]; omega), wf64_of (by simp only [newA]; omega) (by simp only [newA]; omega), wf64_of (by simp only [newA]; omega) (by simp only [newA]; omega), hs, tokS_size (by omega) (by omega) ha.1 ha.2⟩
end Go.Proofs.YtfpmfegmehbfbaaGreatDoor
