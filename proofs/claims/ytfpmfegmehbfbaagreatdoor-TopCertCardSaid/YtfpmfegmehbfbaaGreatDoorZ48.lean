/- Parts of the proofs, put together: Kin. -/
import Derived.LaidMore
import Derived.OpenShut
import Derived.Test.YtfpmfegmehbfbaaGreatDoorZ26
/- The package's kinds, as the condition hands them over. -/
namespace Go.Proofs.YtfpmfegmehbfbaaGreatDoor
set_option linter.unusedVariables false
set_option linter.unusedSimpArgs false
open Go.RowKit Go.Shelf

theorem kin_elem {W : World} {m : Nat} {cs : List Value} {x : DataW (List UInt8) × List MemPlace} {n : Int} {b : UInt8} {r : List UInt8} {f0 : FuncId} (hl : cs.length = 2) (hone : ((List.range Tryz.prog.funcs.size).filter fun f => (Tryz.prog.funcs[f]?).any (·.name.toUTF8.data.toList == b :: r)) = [f0])
    (h : DataW.trod (funcToken Tryz.prog) Tryz.prog W 0 (fun _ => true) true m 253 cs = some x) (hx : x.1 = .agg [.lit (.int .i64 n), .held (b :: r)]) : cs = [.int .i64 n, .func (.func f0) #[] #[]] := by
  match cs, hl with
  | [c0, c1], _ =>
    obtain ⟨ys, k, _, rfl, _, hy, hf⟩ := DataW.trod_struct Tryz.underlying253 h
    have e0 : DataW.trod (funcToken Tryz.prog) Tryz.prog W 0 (fun _ => true) true k 3 (([c0, c1].drop 0).take (Tryz.prog.cellsOf 3)) = ys[0]? := hf 0 _ rfl
    have e1 : DataW.trod (funcToken Tryz.prog) Tryz.prog W 0 (fun _ => true) true k 199 (([c0, c1].drop 1).take (Tryz.prog.cellsOf 199)) = ys[1]? := hf 1 _ rfl
    rw [show Tryz.prog.cellsOf 3 = 1 by kernel_rfl] at e0
    rw [show Tryz.prog.cellsOf 199 = 1 by kernel_rfl] at e1
    simp only [DataW.agg.injEq] at hx
    match ys, hx with
    | [y0, y1], hx =>
      simp only [List.map_cons, List.map_nil, List.cons.injEq, and_true] at hx
      obtain ⟨hx0, hx1⟩ := hx
      obtain ⟨i, hi, hj, _⟩ := DataW.trod_int Tryz.underlying3 e0
      obtain ⟨z1, q1⟩ := y1
      subst hx1
      have h1 := func_of_trod Tryz.underlying199 hone e1
      have hi' : c0 = .int .i64 i := by simpa using hi
      rw [hj] at hx0
      simp only [DataW.lit.injEq, Lit.int.injEq, true_and] at hx0
      rw [hi', h1, hx0]
theorem kin_of {W : World} {d : DataW Unit} {s1 s2 s3 s4 s5 : UInt8} {r1 r2 r3 r4 r5 : List UInt8} (h : funcsAt Tryz.prog W "greatseal/der.kinds" d)
    (hd : d.funcsOut = .agg [.agg [.lit (.int .i64 1), .held (s1 :: r1)], .agg [.lit (.int .i64 2), .held (s2 :: r2)], .agg [.lit (.int .i64 4), .held (s3 :: r3)], .agg [.lit (.int .i64 12), .held (s4 :: r4)], .agg [.lit (.int .i64 48), .held (s5 :: r5)]])
    (h1 : ((List.range Tryz.prog.funcs.size).filter fun f => (Tryz.prog.funcs[f]?).any (·.name.toUTF8.data.toList == s1 :: r1)) = [366])
    (h2 : ((List.range Tryz.prog.funcs.size).filter fun f => (Tryz.prog.funcs[f]?).any (·.name.toUTF8.data.toList == s2 :: r2)) = [110])
    (h3 : ((List.range Tryz.prog.funcs.size).filter fun f => (Tryz.prog.funcs[f]?).any (·.name.toUTF8.data.toList == s3 :: r3)) = [367])
    (h4 : ((List.range Tryz.prog.funcs.size).filter fun f => (Tryz.prog.funcs[f]?).any (·.name.toUTF8.data.toList == s4 :: r4)) = [368])
    (h5 : ((List.range Tryz.prog.funcs.size).filter fun f => (Tryz.prog.funcs[f]?).any (·.name.toUTF8.data.toList == s5 :: r5)) = [371]) : KindsW W := by
  obtain ⟨g, t, cs, fuel, p, hg, ht, hv, hr⟩ := h
  obtain rfl := Option.some.inj ((show Tryz.prog.globalNamed "greatseal/der.kinds" = some 2 by kernel_rfl).symm.trans hg)
  obtain rfl := Option.some.inj ((show (Tryz.prog.globals[2]?).map (·.type) = some 326 by kernel_rfl).symm.trans ht)
  rw [hd] at hr
  obtain ⟨xs, m, _, hx, hl, hn, hf⟩ := DataW.trod_array Tryz.underlying326 hr
  have c2 : Tryz.prog.cellsOf 253 = 2 := by kernel_rfl
  have c10 : Tryz.prog.cellsOf 326 = 10 := by kernel_rfl
  rw [c10] at hl
  rw [c2] at hf
  obtain ⟨L, hL⟩ : ∃ L, L = cs.toList := ⟨_, rfl⟩
  rw [← hL] at hl hf
  have hL' := hL
  match L, hl, xs, hn with
  | [a0, a1, a2, a3, a4, a5, a6, a7, a8, a9], _, [x0, x1, x2, x3, x4], _ =>
    have f0 := hf 0 (by decide)
    have f1 := hf 1 (by decide)
    have f2 := hf 2 (by decide)
    have f3 := hf 3 (by decide)
    have f4 := hf 4 (by decide)
    simp only [List.map_cons, List.map_nil, Prod.mk.injEq, DataW.agg.injEq, List.cons.injEq, and_true] at hx
    obtain ⟨⟨e0, e1, e2, e3, e4⟩, _⟩ := hx
    have k0 := kin_elem rfl h1 f0 e0.symm
    have k1 := kin_elem rfl h2 f1 e1.symm
    have k2 := kin_elem rfl h3 f2 e2.symm
    have k3 := kin_elem rfl h4 f3 e3.symm
    have k4 := kin_elem rfl h5 f4 e4.symm
    simp only [Nat.reduceMul, List.drop_succ_cons, List.drop_zero, List.take_succ_cons, List.take_zero, List.cons.injEq, and_true] at k0 k1 k2 k3 k4
    obtain ⟨rfl, rfl⟩ := k0
    obtain ⟨rfl, rfl⟩ := k1
    obtain ⟨rfl, rfl⟩ := k2
    obtain ⟨rfl, rfl⟩ := k3
    obtain ⟨rfl, rfl⟩ := k4
    refine ⟨rfl, fun _ => ⟨_, rfl, ?_, fun j u hj => ?_⟩⟩
    · have := World.var?_cell hg hv 0
      have h0 : cs[0]? = some (.int .i64 1) := by rw [← Array.getElem?_toList]; rw [← hL']; rfl
      rw [h0] at this
      exact cell_lt this
    · have := World.var?_cell hg hv j
      rw [← Array.getElem?_toList, ← hL'] at this
      have e : ((⟨2, 0, none⟩ : Addr).add j) = ⟨2, j, none⟩ := by
        cases j with
        | zero => rfl
        | succ j => rw [add_succ_eq]; simp
      rw [e, this]
      exact hj
end Go.Proofs.YtfpmfegmehbfbaaGreatDoor
