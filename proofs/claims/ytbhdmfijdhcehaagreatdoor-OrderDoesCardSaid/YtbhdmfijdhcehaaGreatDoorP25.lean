/- Parts of the proofs, put together: Or40, Or41, Or42, Or43, Or44, OrR, Or46. -/
import Derived.Test.YtbhdmfijdhcehaaGreatDoorP12
import Derived.Test.YtbhdmfijdhcehaaGreatDoorP21
import Derived.Test.YtbhdmfijdhcehaaGreatDoorP22
import Derived.Test.YtbhdmfijdhcehaaGreatDoorP24
set_option maxRecDepth 100000
set_option maxHeartbeats 64000000
namespace Go.Proofs.YtbhdmfijdhcehaaGreatDoor
open Go.RowKit Go.Shelf Go.Maps
set_option linter.unusedSimpArgs false
set_option linter.unusedVariables false
theorem sawF_1 {f:FroR} {id now:Int} {ok:Bool} {E:Nat} (h:chkF f=E) (h0:E≠0):sawF f id ok now=(froZ,E):=by unfold sawF;rw [if_pos (by rw [h];exact h0),h]
theorem sawF_2 {f:FroR} {id now:Int} {ok:Bool} (h:chkF f=0) (h1:¬ (0≤now∧now+50≤1099511627776)):sawF f id ok now=(froZ,1):=by unfold sawF;rw [if_neg (by rw [h];simp),if_pos h1]
theorem sawF_3 {f:FroR} {id now:Int} {ok:Bool} (h:chkF f=0) (h1:0≤now∧now+50≤1099511627776):sawF f id ok now=if id<1 then (froZ,131) else match f.auts[id.toNat-1]? with
 | none=>(froZ,131)
 | some a=>if a.st≠2 then (froZ,221) else ({ f with auts:=f.auts.set (id.toNat-1) (if ok=true then { a with st:=3,fr:=now,un:=now+50 } else { a with st:=4 }) },0):=by unfold sawF;rw [if_neg (by rw [h];simp),if_neg (by simpa using h1)];rfl
theorem aut_put {w:World} {base g cap n:Nat} {l:List AutR} (h:w.ownsRow base 69 7 (.slice (some ⟨g,0,none⟩) n cap) n (autV l)) {a:Nat} {x y:AutR} (hx:l[a]?=some x) {i:Nat} {u:Value} (hi:i<7) (he:(autC x).set i u=autC y) :
  (w.setCell ⟨g,a*7+i,none⟩ u).ownsRow base 69 7 (.slice (some ⟨g,0,none⟩) n cap) n (autV (l.set a y))∧(l.set a y)[a]?=some y:=by
 obtain ⟨o4,-⟩:=h.stored (a*7+i) u
 have hset:=fm_set autC (k:=7) (fun _=>rfl) hx (i:=i) (u:=u) (y:=y) hi he
 rw [show autV l=l.flatMap autC from rfl,hset] at o4
 exact ⟨o4,by rw [List.getElem?_set_self (List.getElem?_eq_some_iff.1 hx).1]⟩
theorem oSaw_any (d:DoorX) (id:Int) (ok:Bool) (now:Int) (w:World) (hw:DoorW w w.heap.size d) (hu9:d.auts.length<100) (ha9:d.accs.length<100) :
  Calls Tryz.prog 26 #[frontV d,.int .i64 id,.bool ok,.int .i64 now] w (outS d (sawF d.fro id ok now) w):=by
 obtain ⟨W0,e0,b0,b1,x0,s0⟩:=startP w #[.int .i64 d.next,.slice d.oA d.opn.length d.oc,.slice d.cA d.accs.length d.cc,.slice d.uA d.auts.length d.uc,.slice d.rA d.ords.length d.rc,.int .i64 d.ser] #[.int .i64 0,.slice none 0 0,.slice none 0 0,.slice none 0 0,.slice none 0 0,.int .i64 0] 43 43
 have cC:=oCheck_any d hu9 ha9 W0 (hw.ext x0)
 have cN:=fun n=>onum_any n
 obtain ⟨E,hE⟩:∃ E,chkF d.fro=E:=⟨_,rfl⟩
 rw [hE] at cC
 have HW:=Lib.hid hw
 have HB0:=Lib.hid b0
 have HB1:=Lib.hid b1
 have HX0:=Lib.hid x0
 have HS0:=Lib.hid s0
 have HE:=Lib.hid hE
 have HU9:=Lib.hid hu9
 obtain ⟨m0,m1,m2,m3,m4,m5⟩:=arr6f b0
 unfold frontV at cC ⊢
 clear b0 b1 x0 s0 hw hE hu9 ha9
 go_enter Tryz.func26,Tryz.ntmps26
 go_upto_region 1 with (fail)
 try rw [e0]
 clear e0
 by_cases h0:E=0
 case neg =>
  have HR:=Lib.hid (sawF_1 (id:=id) (ok:=ok) (now:=now) HE.out h0)
  have k0:=ne_beq h0
  clear h0 cN
  go_wp2_with (go_at_call 21;refine cC.mono ?_;clear cC m0 m1 m2 m3 m4 m5;rintro e w1 ⟨rfl,x1⟩;have b2:=ext_blk (x1) HB1.out;obtain ⟨q0,q1,q2,q3,q4,q5,f0,f1,f2,f3,f4,f5⟩:=st6 b2;have BB:=Lib.hid (blk6 b2 (.int .i64 0) (.slice none 0 0) (.slice none 0 0) (.slice none 0 0) (.slice none 0 0) (.int .i64 0));clear b2)
  rw [HR.out]
  obtain ⟨r0,r1,r2,r3,r4,r5⟩:=arr6f BB.out
  refine bodyPost_ret (v:=.tuple #[.agg #[.int .i64 0,.slice none 0 0,.slice none 0 0,.slice none 0 0,.slice none 0 0,.int .i64 0],.int .i64 (E:Int)]) (by simp [results,Tryz.results26,go_sem,r0,r1,r2,r3,r4,r5]) rfl (outS_bad rfl (ext6 (HX0.out.trans (x1)) (by omega) _ _ _ _ _ _))
 subst h0
 by_cases hn:numP now
 case neg =>
  have HR:=Lib.hid (sawF_2 (id:=id) (ok:=ok) HE.out (show ¬ (0≤now∧now+50≤1099511627776) from fun h=>hn ⟨h.1,by omega⟩))
  have cN:=cN now
  rw [show decide (numP now)=false from decide_eq_false hn] at cN
  clear hn
  go_wp2_with (first|(go_at_call 21;refine cC.mono ?_;clear cC m0 m1 m2 m3 m4 m5;rintro e w1 ⟨rfl,x1⟩;have b2:=ext_blk (x1) HB1.out;obtain ⟨q0,q1,q2,q3,q4,q5,f0,f1,f2,f3,f4,f5⟩:=st6 b2;have BB:=Lib.hid (blk6 b2 (.int .i64 0) (.slice none 0 0) (.slice none 0 0) (.slice none 0 0) (.slice none 0 0) (.int .i64 0));clear b2)|(go_at_call 42;refine (cN _).mono ?_;clear cN;rintro e w2 ⟨rfl,rfl⟩))
  rw [HR.out]
  obtain ⟨r0,r1,r2,r3,r4,r5⟩:=arr6f BB.out
  refine bodyPost_ret (v:=.tuple #[.agg #[.int .i64 0,.slice none 0 0,.slice none 0 0,.slice none 0 0,.slice none 0 0,.int .i64 0],.int .i64 1]) (by simp [results,Tryz.results26,go_sem,r0,r1,r2,r3,r4,r5]) rfl (outS_bad rfl (ext6 (HX0.out.trans (x1)) (by omega) _ _ _ _ _ _))
 have e1:IntKind.i64.wrap (now+50)=now+50:=by rw [IntKind.wrap_i64];have:=hn.1;have:=hn.2;omega
 have c1:=cN now
 have c2:=cN (now+50)
 rw [show decide (numP now)=true from decide_eq_true hn] at c1
 by_cases h5:numP (now+50)
 case neg =>
  have HR:=Lib.hid (sawF_2 (id:=id) (ok:=ok) HE.out (show ¬ (0≤now∧now+50≤1099511627776) from fun h=>h5 ⟨by omega,h.2⟩))
  rw [show decide (numP (now+50))=false from decide_eq_false h5] at c2
  clear hn h5 cN
  go_wp2_with (first|(go_at_call 21;refine cC.mono ?_;clear cC m0 m1 m2 m3 m4 m5;rintro e w1 ⟨rfl,x1⟩;have b2:=ext_blk (x1) HB1.out;obtain ⟨q0,q1,q2,q3,q4,q5,f0,f1,f2,f3,f4,f5⟩:=st6 b2;have BB:=Lib.hid (blk6 b2 (.int .i64 0) (.slice none 0 0) (.slice none 0 0) (.slice none 0 0) (.slice none 0 0) (.int .i64 0));clear b2)|(go_at_call 42;refine (c1 _).mono ?_;clear c1;rintro e w2 ⟨rfl,rfl⟩)|(go_at_call 42;refine (c2 _).mono ?_;clear c2;rintro e w2 ⟨rfl,rfl⟩))
  rw [HR.out]
  obtain ⟨r0,r1,r2,r3,r4,r5⟩:=arr6f BB.out
  refine bodyPost_ret (v:=.tuple #[.agg #[.int .i64 0,.slice none 0 0,.slice none 0 0,.slice none 0 0,.slice none 0 0,.int .i64 0],.int .i64 1]) (by simp [results,Tryz.results26,go_sem,r0,r1,r2,r3,r4,r5]) rfl (outS_bad rfl (ext6 (HX0.out.trans (x1)) (by omega) _ _ _ _ _ _))
 rw [show decide (numP (now+50))=true from decide_eq_true h5] at c2
 have HR:=Lib.hid (sawF_3 (id:=id) (ok:=ok) (now:=now) HE.out ⟨hn.1,h5.2⟩)
 have HN:=Lib.hid (And.intro hn h5)
 clear hn h5 cN
 go_upto_region 7 with (first|(go_at_call 21;refine cC.mono ?_;clear cC m0 m1 m2 m3 m4 m5;rintro e w1 ⟨rfl,x1⟩)|(go_at_call 42;refine (c1 _).mono ?_;clear c1;rintro e w2 ⟨rfl,rfl⟩)|(go_at_call 42;refine (c2 _).mono ?_;clear c2;rintro e w2 ⟨rfl,rfl⟩))
 have HX1:=Lib.hid x1
 obtain ⟨m0,m1,m2,m3,m4,m5⟩:=arr6f (ext_blk x1 HB0.out)
 have hlb:(d.auts.length:Int)<100:=by have:=HU9.out;omega
 clear x1
 by_cases g1:id<1
 ·have d1:decide (id<1)=true:=decide_eq_true g1
  have HR:=HR.out
  rw [if_pos g1] at HR
  have HR1:=Lib.hid HR
  clear HR g1 m0 m1 m2 m3 m4 m5
  have b2:=ext_blk (HX1.out) HB1.out;obtain ⟨q0,q1,q2,q3,q4,q5,f0,f1,f2,f3,f4,f5⟩:=st6 b2;have BB:=Lib.hid (blk6 b2 (.int .i64 0) (.slice none 0 0) (.slice none 0 0) (.slice none 0 0) (.slice none 0 0) (.int .i64 0));clear b2
  go_wp2
  rw [HR1.out]
  obtain ⟨r0,r1,r2,r3,r4,r5⟩:=arr6f BB.out
  refine bodyPost_ret (v:=.tuple #[.agg #[.int .i64 0,.slice none 0 0,.slice none 0 0,.slice none 0 0,.slice none 0 0,.int .i64 0],.int .i64 131]) (by simp [results,Tryz.results26,go_sem,r0,r1,r2,r3,r4,r5]) rfl (outS_bad rfl (ext6 (HX0.out.trans (HX1.out)) (by omega) _ _ _ _ _ _))
 have d1:decide (id<1)=false:=decide_eq_false g1
 obtain ⟨a,rfl⟩:∃ a:Nat,id=(a:Int)+1:=⟨(id-1).toNat,by omega⟩
 have HR:=HR.out
 rw [if_neg g1,show ((a:Int)+1).toNat-1=a by omega,dfro_auts] at HR
 by_cases g2:(d.auts.length:Int)<(a:Int)+1
 ·have d2:decide ((d.auts.length:Int)<(a:Int)+1)=true:=decide_eq_true g2
  rw [List.getElem?_eq_none (by omega)] at HR
  have HR1:=Lib.hid HR
  clear HR g1 g2
  have b2:=ext_blk (HX1.out) HB1.out;obtain ⟨q0,q1,q2,q3,q4,q5,f0,f1,f2,f3,f4,f5⟩:=st6 b2;have BB:=Lib.hid (blk6 b2 (.int .i64 0) (.slice none 0 0) (.slice none 0 0) (.slice none 0 0) (.slice none 0 0) (.int .i64 0));clear b2
  go_wp2
  rw [HR1.out]
  obtain ⟨r0,r1,r2,r3,r4,r5⟩:=arr6f BB.out
  refine bodyPost_ret (v:=.tuple #[.agg #[.int .i64 0,.slice none 0 0,.slice none 0 0,.slice none 0 0,.slice none 0 0,.int .i64 0],.int .i64 131]) (by simp [results,Tryz.results26,go_sem,r0,r1,r2,r3,r4,r5]) rfl (outS_bad rfl (ext6 (HX0.out.trans (HX1.out)) (by omega) _ _ _ _ _ _))
 have d2:decide ((d.auts.length:Int)<(a:Int)+1)=false:=decide_eq_false g2
 obtain ⟨x,hx⟩:∃ u,d.auts[a]?=some u:=⟨_,List.getElem?_eq_getElem (by omega)⟩
 rw [hx] at HR
 simp only at HR
 obtain ⟨ad,hA,hlt,r0,r1,r2,r3,r4,r5,r6⟩:=reads_aut (HW.out.ext (HX0.out.trans HX1.out)).aut hx
 rw [hA] at m3
 have hal:(a:Int)<(d.auts.length:Int):=by omega
 have e2:IntKind.i64.wrap ((a:Int)+1-1)=(a:Int):=by rw [IntKind.wrap_i64];omega
 have HHX:=Lib.hid hx
 clear r0 r1 r2 r3 r5 r6 hlt hx g1 g2
 by_cases g3:x.st=2
 case neg =>
  have d3:(x.st != 2)=true:=by simp [g3]
  rw [if_pos g3] at HR
  have HR1:=Lib.hid HR
  clear HR g3
  have b2:=ext_blk (HX1.out) HB1.out;obtain ⟨q0,q1,q2,q3,q4,q5,f0,f1,f2,f3,f4,f5⟩:=st6 b2;have BB:=Lib.hid (blk6 b2 (.int .i64 0) (.slice none 0 0) (.slice none 0 0) (.slice none 0 0) (.slice none 0 0) (.int .i64 0));clear b2
  go_wp2
  rw [HR1.out]
  obtain ⟨r0,r1,r2,r3,r4,r5⟩:=arr6f BB.out
  refine bodyPost_ret (v:=.tuple #[.agg #[.int .i64 0,.slice none 0 0,.slice none 0 0,.slice none 0 0,.slice none 0 0,.int .i64 0],.int .i64 221]) (by simp [results,Tryz.results26,go_sem,r0,r1,r2,r3,r4,r5]) rfl (outS_bad rfl (ext6 (HX0.out.trans (HX1.out)) (by omega) _ _ _ _ _ _))
 rw [if_neg (by simpa using g3)] at HR
 have HR1:=Lib.hid HR
 have d3:(x.st != 2)=false:=by simp [g3]
 clear HR g3
 go_upto_region 12 with (fail)
 clear m0 m1 m2 m3 m4 m5 r4 hA
 obtain ⟨m0,m1,m2,m3,m4,m5⟩:=arr6f (ext_blk HX1.out HB0.out)
 go_upto_region 13 with (fail)
 clear m0 m1 m2 m3 m4 m5
 obtain ⟨W4,e4⟩:∃ W,w1.alloc (.cells #[.int .i64 d.next,.slice d.oA d.opn.length d.oc,.slice d.cA d.accs.length d.cc,.slice d.uA d.auts.length d.uc,.slice d.rA d.ords.length d.rc,.int .i64 d.ser,.int .i64 now] 92)=W:=⟨_,rfl⟩
 try rw [e4]
 have HX4:Hid (Ext W0 W4):=Lib.hid (by rw [← e4];exact HX1.out.alloc _)
 have HD4:Hid (DoorB W4 w1.heap.size d now):=Lib.hid (by rw [← e4];exact Blk.new _ _ _)
 have HSB:Hid (W0.heap.size≤w1.heap.size∧w1.heap.size<W4.heap.size):=Lib.hid ⟨HX1.out.size,Blk.lt HD4.out⟩
 clear e4
 have cA:=auth_any w1.heap.size d now a (by omega) HW.out.ul W4 HD4.out (HW.out.ext (HX0.out.trans HX4.out)).aut
 go_upto_region 14 with (go_at_call 72;refine cA.mono ?_;clear cA;rintro e w5 ⟨g,cap,rfl,hb5,ho5,hg5⟩)
 have HB5:=Lib.hid hb5
 have HO5:=Lib.hid ho5
 have HG5:=Lib.hid hg5
 have hgb:Hid (W4.heap.size≤g):=Lib.hid (own_ge ho5 g rfl)
 have p4:=own_fm autC (fun _=>rfl) ho5 HHX.out (i:=4) (by decide)
 have p5:=own_fm autC (fun _=>rfl) ho5 HHX.out (i:=5) (by decide)
 have p6:=own_fm autC (fun _=>rfl) ho5 HHX.out (i:=6) (by decide)
 simp only [autC,List.getElem?_cons_succ,List.getElem?_cons_zero] at p4 p5 p6
 have f4:=ho5.frozenAt (a*7+4)
 have f5:=ho5.frozenAt (a*7+5)
 have f6:=ho5.frozenAt (a*7+6)
 clear hb5 ho5 hg5
 have xw:=HW.out.uw x (List.mem_of_getElem? HHX.out)
 have HXW:=Lib.hid xw
 clear xw
 cases ok with
 | false =>
  go_upto_region 17 with (fail)
  obtain ⟨o1,h1⟩:=aut_put HO5.out HHX.out (i:=4) (u:=.int .i64 4) (y:={ x with st:=4 }) (by decide) rfl
  obtain ⟨W6,e6⟩:∃ W,W=w5.setCell ⟨g,a*7+4,none⟩ (.int .i64 4):=⟨_,rfl⟩
  have hBg:w1.heap.size≠g:=by have:=hgb.out;have:=HSB.out;omega
  have hlen:(d.auts.set a { x with st:=4 }).length=d.auts.length:=List.length_set
  obtain ⟨d6,hd6⟩:∃ y,y=withU d (d.auts.set a { x with st:=4 }) (some ⟨g,0,none⟩) cap:=⟨_,rfl⟩
  have HD6:Hid (DoorB W6 w1.heap.size d6 now):=Lib.hid (by
   have hb:=(Blk.far HB5.out (p:=⟨g,a*7+4,none⟩) hBg (.int .i64 4))
   rw [e6,hd6]
   unfold DoorB withU at hb ⊢
   simp only at hb ⊢
   rw [hlen]
   exact hb)
  have HG6:Hid (W4.grownBy W6 (some w1.heap.size)):=Lib.hid (by rw [e6];exact (grown_new HG5.out (p:=⟨g,a*7+4,none⟩) hgb.out (.int .i64 4)))
  rw [← e6] at o1
  try rw [← e6]
  have HO6:=Lib.hid o1
  have X6:Ext W0 W6:=Ext.of (HX4.out.out.grown HG6.out HX4.out.size (fun k hk=>by cases hk;exact HSB.out.1))
  have HX6:=Lib.hid X6
  have hs0:=HS0.out
  have hsb:=HSB.out
  have HDW:Hid (DoorW W6 W6.heap.size d6):=Lib.hid (by
   have hr:=Reads.of_own HO6.out
   rw [← hlen] at hr
   rw [hd6]
   refine withU_w (HW.out.ext (HX0.out.trans X6)) hr (by rw [hlen];exact own_cap HO5.out) (by rw [hlen];exact HW.out.ul) (fun y hy=>?_)
   rcases List.mem_or_eq_of_mem_set hy with hy|rfl
   ·exact HW.out.uw y hy
   ·exact ⟨HXW.out.id,HXW.out.acc,wf64_of (by simp) (by simp),HXW.out.fr,HXW.out.un,HXW.out.name,HXW.out.tok⟩)
  have HDL:Hid (∀ S:Nat→Prop,DoorL S d→DoorL (fun k=>S k∨W4.heap.size≤k) d6):=Lib.hid fun S hS=>by
   rw [hd6]
   refine withU_l hS (fun k hk=>.inl hk) ?_
   rw [hlen]
   exact Lies.own HO6.out (fun k hk=>.inr hk)
  have hfr:Hid (d6.fro={ d.fro with auts:=d.auts.set a { x with st:=4 } }):=Lib.hid (by rw [hd6];rfl)
  have b2:=ext_blk X6 HB1.out
  obtain ⟨q0,q1,q2,q3,q4,q5,f0,f1,f2,f3,f4,f5⟩:=st6 b2
  have BB:=Lib.hid (blk6 b2 (.int .i64 d6.next) (.slice d6.oA d6.opn.length d6.oc) (.slice d6.cA d6.accs.length d6.cc) (.slice d6.uA d6.auts.length d6.uc) (.slice d6.rA d6.ords.length d6.rc) (.int .i64 d6.ser))
  obtain ⟨a0,a1,a2,a3,a4,a5,a6⟩:=arr7 HD6.out
  clear b2 e6 hd6 X6 hlen o1
  go_wp2
  rw [HR1.out]
  obtain ⟨r0,r1,r2,r3,r4,r5⟩:=arr6f BB.out
  refine bodyPost_ret (v:=.tuple #[.agg #[.int .i64 d6.next,.slice d6.oA d6.opn.length d6.oc,.slice d6.cA d6.accs.length d6.cc,.slice d6.uA d6.auts.length d6.uc,.slice d6.rA d6.ords.length d6.rc,.int .i64 d6.ser],.int .i64 0]) (by simp [results,Tryz.results26,go_sem,r0,r1,r2,r3,r4,r5]) rfl ⟨d6,rfl,by rw [hfr.out];rfl,?_,?_,ext6 (HX0.out.trans HX6.out) (by omega) _ _ _ _ _ _⟩
  ·exact HDW.out.grownTo ((HDL.out _ HW.out.lies).mono (fun k hk=>by rcases hk with hk|hk <;> omega)) (grown6 W6 (w.heap.size+1) _ _ _ _ _ _)
  ·intro S hS
   exact (HDL.out S hS).mono (fun k hk=>by rcases hk with hk|hk;exact .inl hk;exact .inr (by omega))
 | true =>
  go_upto_region 17 with (fail)
  obtain ⟨o1,h1⟩:=aut_put HO5.out HHX.out (i:=4) (u:=.int .i64 4) (y:={ x with st:=4 }) (by decide) rfl
  obtain ⟨o2,h2⟩:=aut_put o1 h1 (i:=4) (u:=.int .i64 3) (y:={ x with st:=3 }) (by decide) rfl
  obtain ⟨o3,h3⟩:=aut_put o2 h2 (i:=5) (u:=.int .i64 now) (y:={ x with st:=3,fr:=now }) (by decide) rfl
  obtain ⟨o4,h4⟩:=aut_put o3 h3 (i:=6) (u:=.int .i64 (now+50)) (y:={ x with st:=3,fr:=now,un:=now+50 }) (by decide) rfl
  rw [List.set_set,List.set_set,List.set_set] at o4
  obtain ⟨W6,e6⟩:∃ W,W=(((w5.setCell ⟨g,a*7+4,none⟩ (.int .i64 4)).setCell ⟨g,a*7+4,none⟩ (.int .i64 3)).setCell ⟨g,a*7+5,none⟩ (.int .i64 now)).setCell ⟨g,a*7+6,none⟩ (.int .i64 (now+50)):=⟨_,rfl⟩
  have hBg:w1.heap.size≠g:=by have:=hgb.out;have:=HSB.out;omega
  have hlen:(d.auts.set a { x with st:=3,fr:=now,un:=now+50 }).length=d.auts.length:=List.length_set
  obtain ⟨d6,hd6⟩:∃ y,y=withU d (d.auts.set a { x with st:=3,fr:=now,un:=now+50 }) (some ⟨g,0,none⟩) cap:=⟨_,rfl⟩
  have HD6:Hid (DoorB W6 w1.heap.size d6 now):=Lib.hid (by
   have hb:=(Blk.far (Blk.far (Blk.far (Blk.far HB5.out (p:=⟨g,a*7+4,none⟩) hBg (.int .i64 4)) (p:=⟨g,a*7+4,none⟩) hBg (.int .i64 3)) (p:=⟨g,a*7+5,none⟩) hBg (.int .i64 now)) (p:=⟨g,a*7+6,none⟩) hBg (.int .i64 (now+50)))
   rw [e6,hd6]
   unfold DoorB withU at hb ⊢
   simp only at hb ⊢
   rw [hlen]
   exact hb)
  have HG6:Hid (W4.grownBy W6 (some w1.heap.size)):=Lib.hid (by rw [e6];exact (grown_new (grown_new (grown_new (grown_new HG5.out (p:=⟨g,a*7+4,none⟩) hgb.out (.int .i64 4)) (p:=⟨g,a*7+4,none⟩) hgb.out (.int .i64 3)) (p:=⟨g,a*7+5,none⟩) hgb.out (.int .i64 now)) (p:=⟨g,a*7+6,none⟩) hgb.out (.int .i64 (now+50))))
  rw [← e6] at o4
  try rw [← e6]
  have HO6:=Lib.hid o4
  have X6:Ext W0 W6:=Ext.of (HX4.out.out.grown HG6.out HX4.out.size (fun k hk=>by cases hk;exact HSB.out.1))
  have HX6:=Lib.hid X6
  have hs0:=HS0.out
  have hsb:=HSB.out
  have HDW:Hid (DoorW W6 W6.heap.size d6):=Lib.hid (by
   have hr:=Reads.of_own HO6.out
   rw [← hlen] at hr
   rw [hd6]
   refine withU_w (HW.out.ext (HX0.out.trans X6)) hr (by rw [hlen];exact own_cap HO5.out) (by rw [hlen];exact HW.out.ul) (fun y hy=>?_)
   rcases List.mem_or_eq_of_mem_set hy with hy|rfl
   ·exact HW.out.uw y hy
   ·exact ⟨HXW.out.id,HXW.out.acc,wf64_of (by simp) (by simp),wf64_of (by simp only;have:=HN.out.1.1;omega) (by simp only;have:=HN.out.1.2;omega),wf64_of (by simp only;have:=HN.out.2.1;omega) (by simp only;have:=HN.out.2.2;omega),HXW.out.name,HXW.out.tok⟩)
  have HDL:Hid (∀ S:Nat→Prop,DoorL S d→DoorL (fun k=>S k∨W4.heap.size≤k) d6):=Lib.hid fun S hS=>by
   rw [hd6]
   refine withU_l hS (fun k hk=>.inl hk) ?_
   rw [hlen]
   exact Lies.own HO6.out (fun k hk=>.inr hk)
  have hfr:Hid (d6.fro={ d.fro with auts:=d.auts.set a { x with st:=3,fr:=now,un:=now+50 } }):=Lib.hid (by rw [hd6];rfl)
  have b2:=ext_blk X6 HB1.out
  obtain ⟨q0,q1,q2,q3,q4,q5,f0,f1,f2,f3,f4,f5⟩:=st6 b2
  have BB:=Lib.hid (blk6 b2 (.int .i64 d6.next) (.slice d6.oA d6.opn.length d6.oc) (.slice d6.cA d6.accs.length d6.cc) (.slice d6.uA d6.auts.length d6.uc) (.slice d6.rA d6.ords.length d6.rc) (.int .i64 d6.ser))
  obtain ⟨a0,a1,a2,a3,a4,a5,a6⟩:=arr7 HD6.out
  clear b2 e6 hd6 X6 hlen o4
  go_wp2
  rw [HR1.out]
  obtain ⟨r0,r1,r2,r3,r4,r5⟩:=arr6f BB.out
  refine bodyPost_ret (v:=.tuple #[.agg #[.int .i64 d6.next,.slice d6.oA d6.opn.length d6.oc,.slice d6.cA d6.accs.length d6.cc,.slice d6.uA d6.auts.length d6.uc,.slice d6.rA d6.ords.length d6.rc,.int .i64 d6.ser],.int .i64 0]) (by simp [results,Tryz.results26,go_sem,r0,r1,r2,r3,r4,r5]) rfl ⟨d6,rfl,by rw [hfr.out];rfl,?_,?_,ext6 (HX0.out.trans HX6.out) (by omega) _ _ _ _ _ _⟩
  ·exact HDW.out.grownTo ((HDL.out _ HW.out.lies).mono (fun k hk=>by rcases hk with hk|hk <;> omega)) (grown6 W6 (w.heap.size+1) _ _ _ _ _ _)
  ·intro S hS
   exact (HDL.out S hS).mono (fun k hk=>by rcases hk with hk|hk;exact .inl hk;exact .inr (by omega))
theorem donF_1 {f:FroR} {id ser:Int} {E:Nat} (h:chkF f=E) (h0:E≠0):donF f id ser=(froZ,E):=by unfold donF;rw [if_pos (by rw [h];exact h0),h]
theorem donF_2 {f:FroR} {id ser:Int} (h:chkF f=0) {E:Nat} (h1:askF f id=(E,none)):donF f id ser=(froZ,E):=by unfold donF;rw [if_neg (by rw [h];simp),h1]
theorem donF_3 {f:FroR} {id ser:Int} (h:chkF f=0) {o:OrdR} (h1:askF f id=(0,some o)):donF f id ser=if ser≤f.ser∨1099511627776<ser then (froZ,1) else ({ f with ords:=f.ords.set (id.toNat-1) { o with st:=5,ser:=ser },ser:=ser },0):=by unfold donF;rw [if_neg (by rw [h];simp),h1]
theorem ord_put {w:World} {base g cap n:Nat} {l:List OrdX} (h:w.ownsRow base 78 8 (.slice (some ⟨g,0,none⟩) n cap) n (ordV l)) {a:Nat} {x y:OrdX} (hx:l[a]?=some x) {i:Nat} {u:Value} (hi:i<8) (he:(ordC x).set i u=ordC y) :
  (w.setCell ⟨g,a*8+i,none⟩ u).ownsRow base 78 8 (.slice (some ⟨g,0,none⟩) n cap) n (ordV (l.set a y))∧(l.set a y)[a]?=some y:=by
 obtain ⟨o4,-⟩:=h.stored (a*8+i) u
 have hset:=fm_set ordC (k:=8) (fun _=>rfl) hx (i:=i) (u:=u) (y:=y) hi he
 rw [show ordV l=l.flatMap ordC from rfl,hset] at o4
 exact ⟨o4,by rw [List.getElem?_set_self (List.getElem?_eq_some_iff.1 hx).1]⟩
theorem askX_at {d:DoorX} {id:Int} {x:OrdX} (h:askX d id=(0,some x)):∃ a:Nat,id=(a:Int)+1∧d.ords[a]?=some x:=by
 unfold askX at h
 split at h
 ·cases h
 ·next h1 =>
  refine ⟨(id-1).toNat,by omega,?_⟩
  split at h
  ·cases h
  ·next y hy =>
   split at h
   ·cases h
   ·cases h
    rw [show (id-1).toNat=id.toNat-1 by omega];exact hy
def withS (d:DoorX) (ser:Int):DoorX:={ d with ser:=ser }
theorem withS_w {w:World} {B:Nat} {d:DoorX} {ser:Int} (h:DoorW w B d) (hs:wf64 ser):DoorW w B (withS d ser):=⟨h.non,hs,h.acc,h.cc,h.cl,h.cw,h.aut,h.uc,h.ul,h.uw,h.ord,h.rc,h.rl,h.rw⟩
theorem withS_l {S:Nat→Prop} {d:DoorX} {ser:Int} (h:DoorL S d):DoorL S (withS d ser):=⟨h.o,h.c,h.u,h.r,h.n,h.a⟩
theorem oDone_any (d:DoorX) (id ser:Int) (w:World) (hw:DoorW w w.heap.size d) (hu9:d.auts.length<100) (ha9:d.accs.length<100) :
  Calls Tryz.prog 30 #[frontV d,.int .i64 id,.int .i64 ser] w (outS d (donF d.fro id ser) w):=by
 obtain ⟨W0,e0,b0,b1,x0,s0⟩:=startP w #[.int .i64 d.next,.slice d.oA d.opn.length d.oc,.slice d.cA d.accs.length d.cc,.slice d.uA d.auts.length d.uc,.slice d.rA d.ords.length d.rc,.int .i64 d.ser] #[.int .i64 0,.slice none 0 0,.slice none 0 0,.slice none 0 0,.slice none 0 0,.int .i64 0] 43 43
 have cC:=oCheck_any d hu9 ha9 W0 (hw.ext x0)
 obtain ⟨E,hE⟩:∃ E,chkF d.fro=E:=⟨_,rfl⟩
 rw [hE] at cC
 have HW:=Lib.hid hw
 have HB0:=Lib.hid b0
 have HB1:=Lib.hid b1
 have HX0:=Lib.hid x0
 have HS0:=Lib.hid s0
 have HE:=Lib.hid hE
 obtain ⟨m0,m1,m2,m3,m4,m5⟩:=arr6f b0
 unfold frontV at cC ⊢
 clear b0 b1 x0 s0 hw hE hu9 ha9
 go_enter Tryz.func30,Tryz.ntmps30
 go_upto_region 1 with (fail)
 try rw [e0]
 clear e0
 by_cases h0:E=0
 case neg =>
  have HR:=Lib.hid (donF_1 (id:=id) (ser:=ser) HE.out h0)
  have k0:=ne_beq h0
  clear h0
  go_wp2_with (go_at_call 21;refine cC.mono ?_;clear cC m0 m1 m2 m3 m4 m5;rintro e w1 ⟨rfl,x1⟩;have b2:=ext_blk (x1) HB1.out;obtain ⟨q0,q1,q2,q3,q4,q5,f0,f1,f2,f3,f4,f5⟩:=st6 b2;have BB:=Lib.hid (blk6 b2 (.int .i64 0) (.slice none 0 0) (.slice none 0 0) (.slice none 0 0) (.slice none 0 0) (.int .i64 0));clear b2)
  rw [HR.out]
  obtain ⟨r0,r1,r2,r3,r4,r5⟩:=arr6f BB.out
  refine bodyPost_ret (v:=.tuple #[.agg #[.int .i64 0,.slice none 0 0,.slice none 0 0,.slice none 0 0,.slice none 0 0,.int .i64 0],.int .i64 (E:Int)]) (by simp [results,Tryz.results30,go_sem,r0,r1,r2,r3,r4,r5]) rfl (outS_bad rfl (ext6 (HX0.out.trans (x1)) (by omega) _ _ _ _ _ _))
 subst h0
 go_upto_region 4 with (go_at_call 21;refine cC.mono ?_;clear cC m0 m1 m2 m3 m4 m5;rintro e w1 ⟨rfl,x1⟩)
 have HX1:=Lib.hid x1
 obtain ⟨m0,m1,m2,m3,m4,m5⟩:=arr6f (ext_blk x1 HB0.out)
 clear x1
 go_upto_region 5 with (fail)
 clear m0 m1 m2 m3 m4 m5
 obtain ⟨W4,e4⟩:∃ W,w1.alloc (.cells #[.int .i64 d.next,.slice d.oA d.opn.length d.oc,.slice d.cA d.accs.length d.cc,.slice d.uA d.auts.length d.uc,.slice d.rA d.ords.length d.rc,.int .i64 d.ser,.int .i64 0] 92)=W:=⟨_,rfl⟩
 try rw [e4]
 have HX4:Hid (Ext W0 W4):=Lib.hid (by rw [← e4];exact HX1.out.alloc _)
 have HD4:Hid (DoorB W4 w1.heap.size d 0):=Lib.hid (by rw [← e4];exact Blk.new _ _ _)
 have HSB:Hid (W0.heap.size≤w1.heap.size∧w1.heap.size<W4.heap.size):=Lib.hid ⟨HX1.out.size,Blk.lt HD4.out⟩
 clear e4
 have cA:=asked_any w1.heap.size d 0 id W4 HW.out.rl HD4.out (HW.out.ext (HX0.out.trans HX4.out)).ord
 unfold askedPost at cA
 cases hax:askX d id with
 | mk E2 ox =>
 have HAF:=askX_f d id
 rw [hax] at cA HAF
 have HP:=Lib.hid (askX_parts hax)
 cases ox with
 | none =>
  have h2:E2≠0:=HP.out.1 rfl
  have HR:=Lib.hid (donF_2 (ser:=ser) HE.out HAF)
  have k0:=ne_beq h2
  clear h2 hax HAF
  unfold askV ordZ at cA
  simp only at cA
  go_wp2_with (go_at_call 74;refine cA.mono ?_;clear cA;rintro e w5 ⟨rfl,x5⟩;have b2:=ext_blk (HX4.out.trans x5) HB1.out;obtain ⟨q0,q1,q2,q3,q4,q5,f0,f1,f2,f3,f4,f5⟩:=st6 b2;have BB:=Lib.hid (blk6 b2 (.int .i64 0) (.slice none 0 0) (.slice none 0 0) (.slice none 0 0) (.slice none 0 0) (.int .i64 0));clear b2)
  rw [HR.out]
  obtain ⟨r0,r1,r2,r3,r4,r5⟩:=arr6f BB.out
  refine bodyPost_ret (v:=.tuple #[.agg #[.int .i64 0,.slice none 0 0,.slice none 0 0,.slice none 0 0,.slice none 0 0,.int .i64 0],.int .i64 (E2:Int)]) (by simp [results,Tryz.results30,go_sem,r0,r1,r2,r3,r4,r5]) rfl (outS_bad rfl (ext6 (HX0.out.trans (HX4.out.trans x5)) (by omega) _ _ _ _ _ _))
 | some x =>
  obtain ⟨rfl,-,-⟩:=HP.out.2 x rfl
  obtain ⟨a,rfl,hx⟩:=askX_at hax
  have HHX:=Lib.hid hx
  have HR0:=Lib.hid (donF_3 (ser:=ser) HE.out HAF)
  have hal:=(List.getElem?_eq_some_iff.1 hx).1
  clear hax HAF HP hx
  unfold askV ordXV at cA
  simp only at cA
  go_upto_region 8 with (go_at_call 74;refine cA.mono ?_;clear cA;rintro e w5 ⟨rfl,x5⟩)
  have HX5:=Lib.hid (HX4.out.trans x5)
  have HD5:=Lib.hid (DoorB.ext HD4.out x5)
  have HS5:Hid (W4.heap.size≤w5.heap.size):=Lib.hid x5.size
  clear x5
  have m5:=(ext_blk HX5.out HB0.out).cell 5
  have HR:=HR0.out
  by_cases hs:ser≤d.ser∨1099511627776<ser
  ·rw [show d.fro.ser=d.ser from rfl,if_pos hs] at HR
   have HR1:=Lib.hid HR
   cases d1:decide (ser≤d.ser) <;> cases d2:decide ((1099511627776:Int)<ser)
   all_goals (try (exfalso;simp at d1 d2;omega;done))
   all_goals
    clear HR hs
    have b2:=ext_blk (HX5.out) HB1.out;obtain ⟨q0,q1,q2,q3,q4,q5,f0,f1,f2,f3,f4,f5⟩:=st6 b2;have BB:=Lib.hid (blk6 b2 (.int .i64 0) (.slice none 0 0) (.slice none 0 0) (.slice none 0 0) (.slice none 0 0) (.int .i64 0));clear b2
    go_wp2
    rw [HR1.out]
    obtain ⟨r0,r1,r2,r3,r4,r5⟩:=arr6f BB.out
    refine bodyPost_ret (v:=.tuple #[.agg #[.int .i64 0,.slice none 0 0,.slice none 0 0,.slice none 0 0,.slice none 0 0,.int .i64 0],.int .i64 1]) (by simp [results,Tryz.results30,go_sem,r0,r1,r2,r3,r4,r5]) rfl (outS_bad rfl (ext6 (HX0.out.trans (HX5.out)) (by omega) _ _ _ _ _ _))
  ·rw [show d.fro.ser=d.ser from rfl,if_neg hs] at HR
   have HR1:=Lib.hid HR
   have d1:decide (ser≤d.ser)=false:=decide_eq_false (by omega)
   have d2:decide ((1099511627776:Int)<ser)=false:=decide_eq_false (by omega)
   have HSR:=Lib.hid hs
   clear HR hs
   have cO:=order_any w1.heap.size d 0 a hal HW.out.rl w5 HD5.out (HW.out.ext (HX0.out.trans HX5.out)).ord
   go_upto_region 11 with (go_at_call 78;refine cO.mono ?_;clear cO m5;rintro e w6 ⟨g,cap,rfl,hb6,ho6,hg6⟩)
   have HB6:=Lib.hid hb6
   have HO6:=Lib.hid ho6
   have HG6:=Lib.hid hg6
   have hgb:Hid (w5.heap.size≤g):=Lib.hid (own_ge ho6 g rfl)
   have p6:=own_fm ordC (fun _=>rfl) ho6 HHX.out (i:=6) (by decide)
   have p7:=own_fm ordC (fun _=>rfl) ho6 HHX.out (i:=7) (by decide)
   simp only [ordC,List.getElem?_cons_succ,List.getElem?_cons_zero] at p6 p7
   have f6:=ho6.frozenAt (a*8+6)
   have f7:=ho6.frozenAt (a*8+7)
   have b5:=Blk.cell hb6 5
   have g5:=Blk.frozen hb6 5
   have hBg:w1.heap.size≠g:=by have:=hgb.out;have:=HSB.out;have:=HS5.out;omega
   obtain ⟨o1,h1⟩:=ord_put HO6.out HHX.out (i:=6) (u:=.int .i64 5) (y:={ x with o:={ x.o with st:=5 } }) (by decide) rfl
   obtain ⟨o2,h2⟩:=ord_put o1 h1 (i:=7) (u:=.int .i64 ser) (y:={ x with o:={ x.o with st:=5,ser:=ser } }) (by decide) rfl
   rw [List.set_set] at o2
   clear hb6 ho6 hg6 o1 h1 h2
   go_upto_region 12 with (fail)
   obtain ⟨W6,e6⟩:∃ W,W=((w6.setCell ⟨g,a*8+6,none⟩ (.int .i64 5)).setCell ⟨g,a*8+7,none⟩ (.int .i64 ser)).setCell ⟨w1.heap.size,5,none⟩ (.int .i64 ser):=⟨_,rfl⟩
   have hlen:(d.ords.set a { x with o:={ x.o with st:=5,ser:=ser } }).length=d.ords.length:=List.length_set
   obtain ⟨d6,hd6⟩:∃ y,y=withS (withO d (d.ords.set a { x with o:={ x.o with st:=5,ser:=ser } }) (some ⟨g,0,none⟩) cap) ser:=⟨_,rfl⟩
   have HD6:Hid (DoorB W6 w1.heap.size d6 0):=Lib.hid (by
    have hb:=Blk.set_ (Blk.far (Blk.far HB6.out (p:=⟨g,a*8+6,none⟩) hBg (.int .i64 5)) (p:=⟨g,a*8+7,none⟩) hBg (.int .i64 ser)) 5 (.int .i64 ser)
    rw [e6,hd6]
    unfold DoorB withS withO
    unfold withO at hb
    simp only at hb ⊢
    rw [hlen]
    exact hb)
   have HG7:Hid (w5.grownBy W6 (some w1.heap.size)):=Lib.hid (by
    rw [e6]
    exact (grown_new (grown_new HG6.out (p:=⟨g,a*8+6,none⟩) hgb.out (.int .i64 5)) (p:=⟨g,a*8+7,none⟩) hgb.out (.int .i64 ser)).trans (grown_set _ _ _ _))
   have o3:=own_far o2 (g:=w1.heap.size) (by have:=HS5.out;have:=HSB.out;omega) 5 (.int .i64 ser)
   rw [← e6] at o3
   try rw [← e6]
   have HO7:=Lib.hid o3
   have X6:Ext W0 W6:=Ext.of (HX5.out.out.grown HG7.out HX5.out.size (fun k hk=>by cases hk;exact HSB.out.1))
   have HX6:=Lib.hid X6
   have hs0:=HS0.out
   have hsb:=HSB.out
   have hs5:=HS5.out
   have HDW:Hid (DoorW W6 W6.heap.size d6):=Lib.hid (by
    have hr:=Reads.of_own HO7.out
    rw [← hlen] at hr
    have hW6:=HW.out.ext (HX0.out.trans X6)
    have hsr:wf64 ser:=by
     have h1:=wf64_out HW.out.ser
     have h2:=HSR.out
     exact wf64_of (by omega) (by omega)
    rw [hd6]
    refine withS_w (withO_w hW6 hr (by rw [hlen];exact own_cap HO6.out) (by rw [hlen];exact HW.out.rl) (fun y hy=>?_)) hsr
    rcases List.mem_or_eq_of_mem_set hy with hy|rfl
    ·exact hW6.rw y hy
    ·have xw:=hW6.rw x (List.mem_of_getElem? HHX.out)
     exact ⟨xw.id,xw.acc,xw.key,xw.life,wf64_of (by simp) (by simp),hsr,xw.names,xw.nc,xw.nl,xw.ns,xw.auths,xw.ac,xw.al,xw.aw⟩)
   have HDL:Hid (∀ S:Nat→Prop,DoorL S d→DoorL (fun k=>S k∨w5.heap.size≤k) d6):=Lib.hid fun S hS=>by
    rw [hd6]
    refine withS_l (withO_l hS (fun k hk=>.inl hk) ?_ (fun y hy=>?_))
    ·rw [hlen]
     exact Lies.own HO7.out (fun k hk=>.inr hk)
    ·rcases List.mem_or_eq_of_mem_set hy with hy|rfl
     ·exact ⟨(hS.n y hy).mono (fun k hk=>.inl hk),(hS.a y hy).mono (fun k hk=>.inl hk)⟩
     ·have hxm:=List.mem_of_getElem? HHX.out
      exact ⟨(hS.n x hxm).mono (fun k hk=>.inl hk),(hS.a x hxm).mono (fun k hk=>.inl hk)⟩
   have hfr:Hid (d6.fro={ d.fro with ords:=d.fro.ords.set (((a:Int)+1).toNat-1) { x.o with st:=5,ser:=ser },ser:=ser }):=Lib.hid (by
    rw [hd6,show ((a:Int)+1).toNat-1=a by omega,dfro_ords,← map_set_o d.ords a { x with o:={ x.o with st:=5,ser:=ser } }];rfl)
   have b2:=ext_blk X6 HB1.out
   obtain ⟨q0,q1,q2,q3,q4,q5,f0,f1,f2,f3,f4,f5⟩:=st6 b2
   have BB:=Lib.hid (blk6 b2 (.int .i64 d6.next) (.slice d6.oA d6.opn.length d6.oc) (.slice d6.cA d6.accs.length d6.cc) (.slice d6.uA d6.auts.length d6.uc) (.slice d6.rA d6.ords.length d6.rc) (.int .i64 d6.ser))
   obtain ⟨a0,a1,a2,a3,a4,a5,a6⟩:=arr7 HD6.out
   clear b2 e6 hd6 X6 hlen o2 o3 p6 p7 b5 g5 f6 f7
   go_wp2
   rw [HR1.out]
   obtain ⟨r0,r1,r2,r3,r4,r5⟩:=arr6f BB.out
   refine bodyPost_ret (v:=.tuple #[.agg #[.int .i64 d6.next,.slice d6.oA d6.opn.length d6.oc,.slice d6.cA d6.accs.length d6.cc,.slice d6.uA d6.auts.length d6.uc,.slice d6.rA d6.ords.length d6.rc,.int .i64 d6.ser],.int .i64 0]) (by simp [results,Tryz.results30,go_sem,r0,r1,r2,r3,r4,r5]) rfl ⟨d6,rfl,by rw [hfr.out],?_,?_,ext6 (HX0.out.trans HX6.out) (by omega) _ _ _ _ _ _⟩
   ·exact HDW.out.grownTo ((HDL.out _ HW.out.lies).mono (fun k hk=>by rcases hk with hk|hk <;> omega)) (grown6 W6 (w.heap.size+1) _ _ _ _ _ _)
   ·intro S hS
    exact (HDL.out S hS).mono (fun k hk=>by rcases hk with hk|hk;exact .inl hk;exact .inr (by omega))
section
variable {W w:World} {g:Nat} {T:TypeId} {x0 x1 x2 x3 x4 x5 x6 x7 x8:Value}
theorem st9 (k:Blk W g T #[x0,x1,x2,x3,x4,x5,x6,x7,x8]):(W.cell? ⟨g,0,none⟩=some x0∧W.cell? ⟨g,1,none⟩=some x1∧W.cell? ⟨g,2,none⟩=some x2∧W.cell? ⟨g,3,none⟩=some x3∧W.cell? ⟨g,4,none⟩=some x4∧W.cell? ⟨g,5,none⟩=some x5∧W.cell? ⟨g,6,none⟩=some x6∧W.cell? ⟨g,7,none⟩=some x7∧W.cell? ⟨g,8,none⟩=some x8)∧W.frozen? ⟨g,0,none⟩=false∧W.frozen? ⟨g,1,none⟩=false∧W.frozen? ⟨g,2,none⟩=false∧W.frozen? ⟨g,3,none⟩=false∧W.frozen? ⟨g,4,none⟩=false∧W.frozen? ⟨g,5,none⟩=false∧W.frozen? ⟨g,6,none⟩=false∧W.frozen? ⟨g,7,none⟩=false∧W.frozen? ⟨g,8,none⟩=false :=
 ⟨⟨k.cell 0,k.cell 1,k.cell 2,k.cell 3,k.cell 4,k.cell 5,k.cell 6,k.cell 7,k.cell 8⟩,k.frozen 0,k.frozen 1,k.frozen 2,k.frozen 3,k.frozen 4,k.frozen 5,k.frozen 6,k.frozen 7,k.frozen 8⟩
theorem set9_blk (k:Blk W g T #[x0,x1,x2,x3,x4,x5,x6,x7,x8]) (y0 y1 y2 y3 y4 y5 y6 y7 y8:Value):Blk (((((((((W.setCell ⟨g,0,none⟩ y0).setCell ⟨g,1,none⟩ y1).setCell ⟨g,2,none⟩ y2).setCell ⟨g,3,none⟩ y3).setCell ⟨g,4,none⟩ y4).setCell ⟨g,5,none⟩ y5).setCell ⟨g,6,none⟩ y6).setCell ⟨g,7,none⟩ y7).setCell ⟨g,8,none⟩ y8) g T #[y0,y1,y2,y3,y4,y5,y6,y7,y8]:=by
 have k1:Blk (W.setCell ⟨g,0,none⟩ y0) g T #[y0,x1,x2,x3,x4,x5,x6,x7,x8]:=k.set_ 0 y0
 have k2:Blk ((W.setCell ⟨g,0,none⟩ y0).setCell ⟨g,1,none⟩ y1) g T #[y0,y1,x2,x3,x4,x5,x6,x7,x8]:=k1.set_ 1 y1
 have k3:Blk (((W.setCell ⟨g,0,none⟩ y0).setCell ⟨g,1,none⟩ y1).setCell ⟨g,2,none⟩ y2) g T #[y0,y1,y2,x3,x4,x5,x6,x7,x8]:=k2.set_ 2 y2
 have k4:Blk ((((W.setCell ⟨g,0,none⟩ y0).setCell ⟨g,1,none⟩ y1).setCell ⟨g,2,none⟩ y2).setCell ⟨g,3,none⟩ y3) g T #[y0,y1,y2,y3,x4,x5,x6,x7,x8]:=k3.set_ 3 y3
 have k5:Blk (((((W.setCell ⟨g,0,none⟩ y0).setCell ⟨g,1,none⟩ y1).setCell ⟨g,2,none⟩ y2).setCell ⟨g,3,none⟩ y3).setCell ⟨g,4,none⟩ y4) g T #[y0,y1,y2,y3,y4,x5,x6,x7,x8]:=k4.set_ 4 y4
 have k6:Blk ((((((W.setCell ⟨g,0,none⟩ y0).setCell ⟨g,1,none⟩ y1).setCell ⟨g,2,none⟩ y2).setCell ⟨g,3,none⟩ y3).setCell ⟨g,4,none⟩ y4).setCell ⟨g,5,none⟩ y5) g T #[y0,y1,y2,y3,y4,y5,x6,x7,x8]:=k5.set_ 5 y5
 have k7:Blk (((((((W.setCell ⟨g,0,none⟩ y0).setCell ⟨g,1,none⟩ y1).setCell ⟨g,2,none⟩ y2).setCell ⟨g,3,none⟩ y3).setCell ⟨g,4,none⟩ y4).setCell ⟨g,5,none⟩ y5).setCell ⟨g,6,none⟩ y6) g T #[y0,y1,y2,y3,y4,y5,y6,x7,x8]:=k6.set_ 6 y6
 have k8:Blk ((((((((W.setCell ⟨g,0,none⟩ y0).setCell ⟨g,1,none⟩ y1).setCell ⟨g,2,none⟩ y2).setCell ⟨g,3,none⟩ y3).setCell ⟨g,4,none⟩ y4).setCell ⟨g,5,none⟩ y5).setCell ⟨g,6,none⟩ y6).setCell ⟨g,7,none⟩ y7) g T #[y0,y1,y2,y3,y4,y5,y6,y7,x8]:=k7.set_ 7 y7
 have k9:Blk (((((((((W.setCell ⟨g,0,none⟩ y0).setCell ⟨g,1,none⟩ y1).setCell ⟨g,2,none⟩ y2).setCell ⟨g,3,none⟩ y3).setCell ⟨g,4,none⟩ y4).setCell ⟨g,5,none⟩ y5).setCell ⟨g,6,none⟩ y6).setCell ⟨g,7,none⟩ y7).setCell ⟨g,8,none⟩ y8) g T #[y0,y1,y2,y3,y4,y5,y6,y7,y8]:=k8.set_ 8 y8
 exact k9
theorem set9_ext (h:Ext w W) (hg:w.heap.size≤g) (y0 y1 y2 y3 y4 y5 y6 y7 y8:Value):Ext w (((((((((W.setCell ⟨g,0,none⟩ y0).setCell ⟨g,1,none⟩ y1).setCell ⟨g,2,none⟩ y2).setCell ⟨g,3,none⟩ y3).setCell ⟨g,4,none⟩ y4).setCell ⟨g,5,none⟩ y5).setCell ⟨g,6,none⟩ y6).setCell ⟨g,7,none⟩ y7).setCell ⟨g,8,none⟩ y8):=(((((((((h.setCell (p:=⟨g,0,none⟩) hg y0).setCell (p:=⟨g,1,none⟩) hg y1).setCell (p:=⟨g,2,none⟩) hg y2).setCell (p:=⟨g,3,none⟩) hg y3).setCell (p:=⟨g,4,none⟩) hg y4).setCell (p:=⟨g,5,none⟩) hg y5).setCell (p:=⟨g,6,none⟩) hg y6).setCell (p:=⟨g,7,none⟩) hg y7).setCell (p:=⟨g,8,none⟩) hg y8)
end
def sigR:SigR:=⟨checkN,fun seed l=>(sgE (secN [seed]) l,sgS (secN [seed]) l),fun seed=>powM bQ 4 (secN [seed])⟩
theorem mk_pk (a:Nat→List Nat→Nat→Nat→Nat) (b:Nat→List Nat→Nat × Nat) (c:Nat→Nat) (n:Nat):(SigR.mk a b c).pk n=c n:=rfl
theorem mk_sgn (a:Nat→List Nat→Nat→Nat→Nat) (b:Nat→List Nat→Nat × Nat) (c:Nat→Nat) (n:Nat) (l:List Nat):(SigR.mk a b c).sgn n l=b n l:=rfl
theorem mk_sg (a:Nat→List Nat→Nat→Nat→Nat) (b:Nat→List Nat→Nat × Nat) (c:Nat→Nat) (k:Nat) (l:List Nat) (e s:Nat):(SigR.mk a b c).sg k l e s=a k l e s:=rfl
theorem sigR_pk (seed:Nat):sigR.pk seed=powM bQ 4 (secN [seed]):=mk_pk checkN (fun seed l=>(sgE (secN [seed]) l,sgS (secN [seed]) l)) (fun seed=>powM bQ 4 (secN [seed])) seed
theorem sigR_sgn (seed:Nat) (l:List Nat):sigR.sgn seed l=(sgE (secN [seed]) l,sgS (secN [seed]) l):=mk_sgn checkN (fun seed l=>(sgE (secN [seed]) l,sgS (secN [seed]) l)) (fun seed=>powM bQ 4 (secN [seed])) seed l
theorem sigR_sg (k:Nat) (l:List Nat) (e s:Nat):sigR.sg k l e s=checkN k l e s:=mk_sg checkN (fun seed l=>(sgE (secN [seed]) l,sgS (secN [seed]) l)) (fun seed=>powM bQ 4 (secN [seed])) k l e s
theorem one_read (W:World) (n:Nat):Reads (W.alloc (.cells #[.int .u8 (n:Int)] 5)) (W.alloc (.cells #[.int .u8 (n:Int)] 5)).heap.size 1 (some ⟨W.heap.size,0,none⟩) 1 (bv [n]):=reads_newL W 5 [.int .u8 (n:Int)]
theorem sec_any (n:Nat) (hn:n<256) (W:World):Calls Tryz.prog 83 #[.slice (some ⟨W.heap.size,0,none⟩) 1 1] (W.alloc (.cells #[.int .u8 (n:Int)] 5)) fun e w'=>e=.returned (.int .u64 (secN [n]:Nat))∧Ext W w' :=
 (Secret_any [n] (by simpa using hn) (by simp) (some ⟨W.heap.size,0,none⟩) 1 (Nat.le_refl _) _ (one_read W n)).mono fun e w' h=>⟨h.1,((Ext.refl W).alloc _).trans h.2⟩
theorem sec_odd (l:List Nat):oddN (secN l)=false:=oddN_some _ _
theorem sec_lt (l:List Nat):secN l<18446744073709551616:=r64 (someN_lt _ _)
theorem key_any (seed:Nat) (hs:seed<256) (w:World):Calls Tryz.prog 39 #[.int .u8 (seed:Int)] w fun e w'=>e=.returned (.int .u64 (sigR.pk seed:Nat))∧Ext w w':=by
 have c1:=fun W=>sec_any seed hs W
 have c2:=fun W=>Public_any (secN [seed]) (sec_lt _) W
 rw [if_neg (by rw [sec_odd];decide)] at c2
 obtain ⟨v,hv⟩:∃ v,v=powM bQ 4 (secN [seed]):=⟨_,rfl⟩
 have hR:sigR.pk seed=v:=(sigR_pk seed).trans hv.symm
 rw [← hv] at c2
 rw [hR]
 clear hR hv
 clear hs
 go_enter Tryz.func39,Tryz.ntmps39
 go_wp2_with (first|(go_at_call 83;refine (c1 _).mono ?_;clear c1;rintro e w1 ⟨rfl,x1⟩)|(go_at_call 82;refine (c2 _).mono ?_;clear c2;rintro e w2 ⟨rfl,x2⟩))
 go_ret
 exact ⟨rfl,x1.trans x2⟩
theorem sg_ends (q:QueR) (seed se ss:Nat) (h1:se=sgE (secN [seed]) (bytR q)) (h2:ss=sgS (secN [seed]) (bytR q)):(sigR.sgn seed (bytR q)).1=se∧(sigR.sgn seed (bytR q)).2=ss:=by rw [sigR_sgn];exact ⟨h1.symm,h2.symm⟩
def sigQ (q:QueR) (seed:Nat):QueR:={ q with e:=(sigR.sgn seed (bytR q)).1,s:=(sigR.sgn seed (bytR q)).2 }
theorem signed_any22 (q:QueR) (A:Option Addr) (c:Nat) (seed:Nat) (hs:seed<256) (w:World) (hq:QueW w w.heap.size q A c) :
  Calls Tryz.prog 84 #[queV q A c,.int .u8 (seed:Int)] w fun e w'=>e=.returned (.tuple #[queV (sigQ q seed) A c,.bool (decide (byteE q=0))])∧Ext w w':=by
 have HQ0:=Lib.hid hq
 obtain ⟨W0,e0,b0,b1,x0,s0⟩:=startP w #[.int .i64 q.kind,.int .i64 q.acc,.int .i64 q.nonce,.int .u64 (q.key:Int),.slice A q.names.length c,.int .i64 q.life,.int .i64 q.id,.int .u64 (q.e:Int),.int .u64 (q.s:Int)] #[.int .i64 0,.int .i64 0,.int .i64 0,.int .u64 0,.slice none 0 0,.int .i64 0,.int .i64 0,.int .u64 0,.int .u64 0] 27 27
 have cB:=oBytes_any q A c W0 (hq.ext x0)
 have c1:=fun W=>sec_any seed hs W
 unfold bytPost at cB
 have hbl:(bytR q).length≤1000:=by
  unfold bytR
  split
  ·next h=>exact byteL_len h
  ·simp
 have hbt:∀ x∈bytR q,x<256:=by
  unfold bytR
  split
  ·exact byteL_lt q
  ·intro x hx;simp at hx
 obtain ⟨n,hn⟩:∃ n,n=bytR q:=⟨_,rfl⟩
 have HN:=Lib.hid hn
 have c3:=fun (A':Option Addr) (c':Nat) (hc:(bytR q).length≤c') (W:World) (hr:Reads W W.heap.size 1 A' (bytR q).length (bv (bytR q)))=>Sign_any (secN [seed]) (sec_odd _) (bytR q) hbt hbl A' c' hc W hr
 obtain ⟨se,hse⟩:∃ v,v=sgE (secN [seed]) (bytR q):=⟨_,rfl⟩
 obtain ⟨ss,hss⟩:∃ v,v=sgS (secN [seed]) (bytR q):=⟨_,rfl⟩
 rw [← hse,← hss] at c3
 have hQ:sigQ q seed={ q with e:=se,s:=ss }:=by
  obtain ⟨h1,h2⟩:=sg_ends q seed se ss hse hss
  unfold sigQ;rw [h1,h2]
 rw [hQ]
 have HB0:=Lib.hid b0
 have HB1:=Lib.hid b1
 have HX0:=Lib.hid x0
 have HS0:=Lib.hid s0
 obtain ⟨k0,k1,k2,k3,k4,k5,k6,k7,k8⟩:=arr9 b0
 unfold queV at cB ⊢
 clear b0 b1 x0 s0 hq hs hn hse hss hbl hbt hQ
 go_enter Tryz.func84,Tryz.ntmps84
 go_upto_region 1 with (fail)
 try rw [e0]
 clear e0
 go_upto_region 2 with (go_at_call 14;refine cB.mono ?_;clear cB k0 k1 k2 k3 k4 k5 k6 k7 k8;rintro e w1 ⟨v,rfl,ho1,x1⟩)
 obtain ⟨A1,c1',rfl,hc1,hr1⟩:=own_slice2 ho1
 have HX1:=Lib.hid x1
 have HO1:=Lib.hid ho1
 clear x1 ho1 hr1
 have c4:=fun (W:World) (x:Ext w1 W)=>c3 A1 c1' hc1 W (Reads.of_own (own_ext HO1.out x))
 clear c3 hc1
 go_upto_region 3 with (first|(go_at_call 83;refine (c1 _).mono ?_;clear c1;rintro e w2 ⟨rfl,x2⟩)|(go_at_call 123;refine (c4 _ x2).mono ?_;clear c4;rintro e w3 ⟨rfl,x3⟩))
 obtain ⟨W4,e4⟩:∃ W,w3.alloc (.cells #[.int .u64 (se:Int),.int .u64 (ss:Int)] 25)=W:=⟨_,rfl⟩
 try rw [e4]
 have X4:Ext W0 W4:=by rw [← e4];exact (HX1.out.trans (x2.trans x3)).alloc _
 have b4:Blk W4 w3.heap.size 25 #[.int .u64 (se:Int),.int .u64 (ss:Int)]:=by rw [← e4];exact Blk.new _ _ _
 have HX4:=Lib.hid X4
 obtain ⟨s0,s1⟩:=two b4
 have bq:=ext_blk X4 HB0.out
 have c7:=bq.cell 7
 have c8:=bq.cell 8
 have f7:=bq.frozen 7
 have f8:=bq.frozen 8
 clear e4 X4 b4 bq x2 x3
 go_upto_region 4 with (fail)
 obtain ⟨W5,e5⟩:∃ W,W=(W4.setCell ⟨w.heap.size,7,none⟩ (.int .u64 (se:Int))).setCell ⟨w.heap.size,8,none⟩ (.int .u64 (ss:Int)):=⟨_,rfl⟩
 have b5:Blk W5 w.heap.size 27 #[.int .i64 q.kind,.int .i64 q.acc,.int .i64 q.nonce,.int .u64 (q.key:Int),.slice A q.names.length c,.int .i64 q.life,.int .i64 q.id,.int .u64 (se:Int),.int .u64 (ss:Int)]:=by
  rw [e5];exact ((ext_blk HX4.out HB0.out).set_ 7 _).set_ 8 _
 have b6:Blk W5 (w.heap.size+1) 27 #[.int .i64 0,.int .i64 0,.int .i64 0,.int .u64 0,.slice none 0 0,.int .i64 0,.int .i64 0,.int .u64 0,.int .u64 0]:=by
  rw [e5];exact ((ext_blk HX4.out HB1.out).far (p:=⟨w.heap.size,7,none⟩) (by simp) _).far (p:=⟨w.heap.size,8,none⟩) (by simp) _
 have HX5:Hid (Ext w W5):=Lib.hid (by
  rw [e5];exact ((HX0.out.trans HX4.out).setCell (p:=⟨w.heap.size,7,none⟩) (Nat.le_refl _) _).setCell (p:=⟨w.heap.size,8,none⟩) (Nat.le_refl _) _)
 try rw [← e5]
 clear e5 c7 c8 f7 f8 s0 s1
 obtain ⟨⟨k0,k1,k2,k3,k4,k5,k6,k7,k8⟩,-⟩:=st9 b5
 obtain ⟨⟨q0,q1,q2,q3,q4,q5,q6,q7,q8⟩,f0,f1,f2,f3,f4,f5,f6,f7,f8⟩:=st9 b6
 have BB:=Lib.hid (set9_blk b6 (.int .i64 q.kind) (.int .i64 q.acc) (.int .i64 q.nonce) (.int .u64 (q.key:Int)) (.slice A q.names.length c) (.int .i64 q.life) (.int .i64 q.id) (.int .u64 (se:Int)) (.int .u64 (ss:Int)))
 clear b5 b6
 have hbb:Hid ((((byteE q:Nat):Int)==0)=decide (byteE q=0)):=Lib.hid (by rw [Bool.eq_iff_iff];simp)
 cases hb:decide (byteE q=0) with
 | true =>
  have d1:(((byteE q:Nat):Int)==0)=true:=by rw [hbb.out,hb]
  have HBD:=Lib.hid hb
  clear hbb hb
  go_wp2
  obtain ⟨⟨r0,r1,r2,r3,r4,r5,r6,r7,r8⟩,-⟩:=st9 BB.out
  refine bodyPost_ret (v:=.tuple #[.agg #[.int .i64 q.kind,.int .i64 q.acc,.int .i64 q.nonce,.int .u64 (q.key:Int),.slice A q.names.length c,.int .i64 q.life,.int .i64 q.id,.int .u64 (se:Int),.int .u64 (ss:Int)],.bool true]) (by simp [results,Tryz.results84,go_sem,r0,r1,r2,r3,r4,r5,r6,r7,r8]) rfl ⟨by rw [HBD.out],set9_ext HX5.out (Nat.le_succ _) _ _ _ _ _ _ _ _ _⟩
 | false =>
  have d1:(((byteE q:Nat):Int)==0)=false:=by rw [hbb.out,hb]
  have HBD:=Lib.hid hb
  clear hbb hb
  go_wp2
  obtain ⟨⟨r0,r1,r2,r3,r4,r5,r6,r7,r8⟩,-⟩:=st9 BB.out
  refine bodyPost_ret (v:=.tuple #[.agg #[.int .i64 q.kind,.int .i64 q.acc,.int .i64 q.nonce,.int .u64 (q.key:Int),.slice A q.names.length c,.int .i64 q.life,.int .i64 q.id,.int .u64 (se:Int),.int .u64 (ss:Int)],.bool false]) (by simp [results,Tryz.results84,go_sem,r0,r1,r2,r3,r4,r5,r6,r7,r8]) rfl ⟨by rw [HBD.out],set9_ext HX5.out (Nat.le_succ _) _ _ _ _ _ _ _ _ _⟩
theorem boxes4 (w:World) (x y z u:Array Value) (T U V R:TypeId):∃ W,(((w.alloc (.cells x T)).alloc (.cells y U)).alloc (.cells z V)).alloc (.cells u R)=W∧Blk W w.heap.size T x∧Blk W (w.heap.size+1) U y∧Blk W (w.heap.size+2) V z∧Blk W (w.heap.size+3) R u∧Ext w W∧W.heap.size=w.heap.size+4:=by
 refine ⟨_,rfl,(((Blk.new w T x).alloc _).alloc _).alloc _,?_,?_,?_,((((Ext.refl w).alloc _).alloc _).alloc _).alloc _,by simp⟩
 ·have:=((Blk.new (w.alloc (.cells x T)) U y).alloc (.cells z V)).alloc (.cells u R)
  rwa [World.size_alloc] at this
 ·have:=(Blk.new ((w.alloc (.cells x T)).alloc (.cells y U)) V z).alloc (.cells u R)
  rwa [World.size_alloc,World.size_alloc] at this
 ·have:=Blk.new (((w.alloc (.cells x T)).alloc (.cells y U)).alloc (.cells z V)) R u
  rwa [World.size_alloc,World.size_alloc,World.size_alloc] at this
theorem QueW.with_ {w:World} {B:Nat} {q:QueR} {A:Option Addr} {c:Nat} (h:QueW w B q A c) {n:Int} {e s:Nat} (hn:wf64 n) (he:e<18446744073709551616) (hs:s<18446744073709551616):QueW w B { q with nonce:=n,e:=e,s:=s } A c :=
 ⟨h.kind,h.acc,hn,h.key,h.life,h.id,he,hs,h.names,h.nc,h.nl,h.ns⟩
theorem grown9 (w:World) (g:Nat) (y0 y1 y2 y3 y4 y5 y6 y7 y8:Value):w.grownBy (((((((((w.setCell ⟨g,0,none⟩ (y0)).setCell ⟨g,1,none⟩ (y1)).setCell ⟨g,2,none⟩ (y2)).setCell ⟨g,3,none⟩ (y3)).setCell ⟨g,4,none⟩ (y4)).setCell ⟨g,5,none⟩ (y5)).setCell ⟨g,6,none⟩ (y6)).setCell ⟨g,7,none⟩ (y7)).setCell ⟨g,8,none⟩ (y8)) (some g) :=
 ((((((((grown_set _ _ _ _).trans (grown_set _ _ _ _)).trans (grown_set _ _ _ _)).trans (grown_set _ _ _ _)).trans (grown_set _ _ _ _)).trans (grown_set _ _ _ _)).trans (grown_set _ _ _ _)).trans (grown_set _ _ _ _)).trans (grown_set _ _ _ _)
theorem asks_fin {w W:World} {d:DoorX} {q:QueR} {A:Option Addr} {c b2 b3:Nat} (x:Ext w W) (h2:w.heap.size≤b2) (h3:w.heap.size≤b3) (hd:DoorW W W.heap.size d) (hl:DoorL (fun k=>k≠b2∧k≠b3) d) (hq:QueW w w.heap.size q A c) :
  DoorW (((((((((((((((W.setCell ⟨b2,0,none⟩ (.int .i64 d.next)).setCell ⟨b2,1,none⟩ (.slice d.oA d.opn.length d.oc)).setCell ⟨b2,2,none⟩ (.slice d.cA d.accs.length d.cc)).setCell ⟨b2,3,none⟩ (.slice d.uA d.auts.length d.uc)).setCell ⟨b2,4,none⟩ (.slice d.rA d.ords.length d.rc)).setCell ⟨b2,5,none⟩ (.int .i64 d.ser)).setCell ⟨b3,0,none⟩ (.int .i64 q.kind)).setCell ⟨b3,1,none⟩ (.int .i64 q.acc)).setCell ⟨b3,2,none⟩ (.int .i64 q.nonce)).setCell ⟨b3,3,none⟩ (.int .u64 (q.key:Int))).setCell ⟨b3,4,none⟩ (.slice A q.names.length c)).setCell ⟨b3,5,none⟩ (.int .i64 q.life)).setCell ⟨b3,6,none⟩ (.int .i64 q.id)).setCell ⟨b3,7,none⟩ (.int .u64 (q.e:Int))).setCell ⟨b3,8,none⟩ (.int .u64 (q.s:Int))) (((((((((((((((W.setCell ⟨b2,0,none⟩ (.int .i64 d.next)).setCell ⟨b2,1,none⟩ (.slice d.oA d.opn.length d.oc)).setCell ⟨b2,2,none⟩ (.slice d.cA d.accs.length d.cc)).setCell ⟨b2,3,none⟩ (.slice d.uA d.auts.length d.uc)).setCell ⟨b2,4,none⟩ (.slice d.rA d.ords.length d.rc)).setCell ⟨b2,5,none⟩ (.int .i64 d.ser)).setCell ⟨b3,0,none⟩ (.int .i64 q.kind)).setCell ⟨b3,1,none⟩ (.int .i64 q.acc)).setCell ⟨b3,2,none⟩ (.int .i64 q.nonce)).setCell ⟨b3,3,none⟩ (.int .u64 (q.key:Int))).setCell ⟨b3,4,none⟩ (.slice A q.names.length c)).setCell ⟨b3,5,none⟩ (.int .i64 q.life)).setCell ⟨b3,6,none⟩ (.int .i64 q.id)).setCell ⟨b3,7,none⟩ (.int .u64 (q.e:Int))).setCell ⟨b3,8,none⟩ (.int .u64 (q.s:Int))).heap.size d∧QueW (((((((((((((((W.setCell ⟨b2,0,none⟩ (.int .i64 d.next)).setCell ⟨b2,1,none⟩ (.slice d.oA d.opn.length d.oc)).setCell ⟨b2,2,none⟩ (.slice d.cA d.accs.length d.cc)).setCell ⟨b2,3,none⟩ (.slice d.uA d.auts.length d.uc)).setCell ⟨b2,4,none⟩ (.slice d.rA d.ords.length d.rc)).setCell ⟨b2,5,none⟩ (.int .i64 d.ser)).setCell ⟨b3,0,none⟩ (.int .i64 q.kind)).setCell ⟨b3,1,none⟩ (.int .i64 q.acc)).setCell ⟨b3,2,none⟩ (.int .i64 q.nonce)).setCell ⟨b3,3,none⟩ (.int .u64 (q.key:Int))).setCell ⟨b3,4,none⟩ (.slice A q.names.length c)).setCell ⟨b3,5,none⟩ (.int .i64 q.life)).setCell ⟨b3,6,none⟩ (.int .i64 q.id)).setCell ⟨b3,7,none⟩ (.int .u64 (q.e:Int))).setCell ⟨b3,8,none⟩ (.int .u64 (q.s:Int))) (((((((((((((((W.setCell ⟨b2,0,none⟩ (.int .i64 d.next)).setCell ⟨b2,1,none⟩ (.slice d.oA d.opn.length d.oc)).setCell ⟨b2,2,none⟩ (.slice d.cA d.accs.length d.cc)).setCell ⟨b2,3,none⟩ (.slice d.uA d.auts.length d.uc)).setCell ⟨b2,4,none⟩ (.slice d.rA d.ords.length d.rc)).setCell ⟨b2,5,none⟩ (.int .i64 d.ser)).setCell ⟨b3,0,none⟩ (.int .i64 q.kind)).setCell ⟨b3,1,none⟩ (.int .i64 q.acc)).setCell ⟨b3,2,none⟩ (.int .i64 q.nonce)).setCell ⟨b3,3,none⟩ (.int .u64 (q.key:Int))).setCell ⟨b3,4,none⟩ (.slice A q.names.length c)).setCell ⟨b3,5,none⟩ (.int .i64 q.life)).setCell ⟨b3,6,none⟩ (.int .i64 q.id)).setCell ⟨b3,7,none⟩ (.int .u64 (q.e:Int))).setCell ⟨b3,8,none⟩ (.int .u64 (q.s:Int))).heap.size q A c∧Ext w (((((((((((((((W.setCell ⟨b2,0,none⟩ (.int .i64 d.next)).setCell ⟨b2,1,none⟩ (.slice d.oA d.opn.length d.oc)).setCell ⟨b2,2,none⟩ (.slice d.cA d.accs.length d.cc)).setCell ⟨b2,3,none⟩ (.slice d.uA d.auts.length d.uc)).setCell ⟨b2,4,none⟩ (.slice d.rA d.ords.length d.rc)).setCell ⟨b2,5,none⟩ (.int .i64 d.ser)).setCell ⟨b3,0,none⟩ (.int .i64 q.kind)).setCell ⟨b3,1,none⟩ (.int .i64 q.acc)).setCell ⟨b3,2,none⟩ (.int .i64 q.nonce)).setCell ⟨b3,3,none⟩ (.int .u64 (q.key:Int))).setCell ⟨b3,4,none⟩ (.slice A q.names.length c)).setCell ⟨b3,5,none⟩ (.int .i64 q.life)).setCell ⟨b3,6,none⟩ (.int .i64 q.id)).setCell ⟨b3,7,none⟩ (.int .u64 (q.e:Int))).setCell ⟨b3,8,none⟩ (.int .u64 (q.s:Int))):=by
 have h:=hd.grownTo (hl.mono fun k hk=>hk.1) (grown6 W b2 (.int .i64 d.next) (.slice d.oA d.opn.length d.oc) (.slice d.cA d.accs.length d.cc) (.slice d.uA d.auts.length d.uc) (.slice d.rA d.ords.length d.rc) (.int .i64 d.ser))
 have h':=h.grownTo (hl.mono fun k hk=>hk.2) (grown9 _ b3 (.int .i64 q.kind) (.int .i64 q.acc) (.int .i64 q.nonce) (.int .u64 (q.key:Int)) (.slice A q.names.length c) (.int .i64 q.life) (.int .i64 q.id) (.int .u64 (q.e:Int)) (.int .u64 (q.s:Int)))
 have x2:=set9_ext (ext6 x h2 (.int .i64 d.next) (.slice d.oA d.opn.length d.oc) (.slice d.cA d.accs.length d.cc) (.slice d.uA d.auts.length d.uc) (.slice d.rA d.ords.length d.rc) (.int .i64 d.ser)) h3 (.int .i64 q.kind) (.int .i64 q.acc) (.int .i64 q.nonce) (.int .u64 (q.key:Int)) (.slice A q.names.length c) (.int .i64 q.life) (.int .i64 q.id) (.int .u64 (q.e:Int)) (.int .u64 (q.s:Int))
 exact ⟨h',hq.ext x2,x2⟩
def asksPost (d0:DoorX) (A:Option Addr) (c:Nat) (r:FroR × QueR × Int × Nat) (w:World) (e:Ending) (w':World):Prop :=
 ∃ d,e=.returned (.tuple #[frontV d,queV r.2.1 A c,.int .i64 r.2.2.1,.int .i64 (r.2.2.2:Nat)])∧d.fro=r.1∧DoorW w' w'.heap.size d∧(∀ S,DoorL S d0→DoorL (orNew S w) d)∧QueW w' w'.heap.size r.2.1 A c∧Ext w w'
theorem asksF_1 {S:SigR} {f:FroR} {q:QueR} {seed:Nat} {now:Int} {E:Nat} (h:(nonF f now).2.2=E) (h0:E≠0):asksF S f q seed now=(f,q,0,E):=by
 unfold asksF;rw [if_pos (by rw [h];exact h0),h]
theorem asksF_2 {S:SigR} {f:FroR} {q q1:QueR} {seed:Nat} {now:Int} (h:(nonF f now).2.2=0) (hq:q1={ q with nonce:=(nonF f now).2.1 }) (h1:byteE q1≠0):asksF S f q seed now=(f,q1,0,1):=by
 subst hq;unfold asksF;rw [if_neg (by rw [h];simp)];dsimp only;rw [if_pos h1]
theorem bytR_ok {q:QueR} (h:byteE q=0):bytR q=byteL q:=by unfold bytR;rw [if_pos h]
theorem mk_sgf (a:Nat→List Nat→Nat→Nat→Nat) (b:Nat→List Nat→Nat × Nat) (c:Nat→Nat):(SigR.mk a b c).sg=a:=rfl
theorem sigR_sgf:sigR.sg=checkN:=mk_sgf checkN (fun seed l=>(sgE (secN [seed]) l,sgS (secN [seed]) l)) (fun seed=>powM bQ 4 (secN [seed]))
theorem asksF_3g {S:SigR} {f:FroR} {q q1 q2:QueR} {seed:Nat} {now:Int} (h:(nonF f now).2.2=0) (hq:q1={ q with nonce:=(nonF f now).2.1 }) (h1:byteE q1=0) (h2:q2={ q1 with e:=(S.sgn seed (byteL q1)).1,s:=(S.sgn seed (byteL q1)).2 }) :
  asksF S f q seed now=if (doF S.sg (nonF f now).1 q2 now).2.2≠0 then ((nonF f now).1,q2,0,(doF S.sg (nonF f now).1 q2 now).2.2) else ((doF S.sg (nonF f now).1 q2 now).1,q2,(doF S.sg (nonF f now).1 q2 now).2.1,0):=by
 subst h2;subst hq;unfold asksF;rw [if_neg (by rw [h];simp)];dsimp only;rw [if_neg (by rw [h1];simp)]
theorem asksF_3 {f:FroR} {q q1:QueR} {seed:Nat} {now:Int} (h:(nonF f now).2.2=0) (hq:q1={ q with nonce:=(nonF f now).2.1 }) (h1:byteE q1=0) :
  asksF sigR f q seed now=if (doF checkN (nonF f now).1 (sigQ q1 seed) now).2.2≠0 then ((nonF f now).1,sigQ q1 seed,0,(doF checkN (nonF f now).1 (sigQ q1 seed) now).2.2) else ((doF checkN (nonF f now).1 (sigQ q1 seed) now).1,sigQ q1 seed,(doF checkN (nonF f now).1 (sigQ q1 seed) now).2.1,0):=by
 have:=asksF_3g (S:=sigR) (seed:=seed) h hq h1 (q2:=sigQ q1 seed) (by unfold sigQ;rw [bytR_ok h1])
 rw [sigR_sgf] at this
 exact this
section
variable {W:World} {g:Nat} {T:TypeId} {cs:Array Value}
theorem z9_far {g':Nat} (k:Blk W (g'+1) T cs) (y0 y1 y2 y3 y4 y5:Value):Blk ((((((W.setCell ⟨g',0,none⟩ (y0)).setCell ⟨g',1,none⟩ (y1)).setCell ⟨g',2,none⟩ (y2)).setCell ⟨g',3,none⟩ (y3)).setCell ⟨g',4,none⟩ (y4)).setCell ⟨g',5,none⟩ (y5)) (g'+1) T cs :=
 ((((((k.far (p:=⟨g',0,none⟩) (by simp) _).far (p:=⟨g',1,none⟩) (by simp) _).far (p:=⟨g',2,none⟩) (by simp) _).far (p:=⟨g',3,none⟩) (by simp) _).far (p:=⟨g',4,none⟩) (by simp) _).far (p:=⟨g',5,none⟩) (by simp) _)
theorem z6_far {g':Nat} (k:Blk W g' T cs) (y0 y1 y2 y3 y4 y5 y6 y7 y8:Value):Blk (((((((((W.setCell ⟨g'+1,0,none⟩ (y0)).setCell ⟨g'+1,1,none⟩ (y1)).setCell ⟨g'+1,2,none⟩ (y2)).setCell ⟨g'+1,3,none⟩ (y3)).setCell ⟨g'+1,4,none⟩ (y4)).setCell ⟨g'+1,5,none⟩ (y5)).setCell ⟨g'+1,6,none⟩ (y6)).setCell ⟨g'+1,7,none⟩ (y7)).setCell ⟨g'+1,8,none⟩ (y8)) g' T cs :=
 (((((((((k.far (p:=⟨g'+1,0,none⟩) (by simp) _).far (p:=⟨g'+1,1,none⟩) (by simp) _).far (p:=⟨g'+1,2,none⟩) (by simp) _).far (p:=⟨g'+1,3,none⟩) (by simp) _).far (p:=⟨g'+1,4,none⟩) (by simp) _).far (p:=⟨g'+1,5,none⟩) (by simp) _).far (p:=⟨g'+1,6,none⟩) (by simp) _).far (p:=⟨g'+1,7,none⟩) (by simp) _).far (p:=⟨g'+1,8,none⟩) (by simp) _)
theorem far6 {b:Nat} (k:Blk W g T cs) (h:g≠b) (y0 y1 y2 y3 y4 y5:Value):Blk ((((((W.setCell ⟨b,0,none⟩ (y0)).setCell ⟨b,1,none⟩ (y1)).setCell ⟨b,2,none⟩ (y2)).setCell ⟨b,3,none⟩ (y3)).setCell ⟨b,4,none⟩ (y4)).setCell ⟨b,5,none⟩ (y5)) g T cs :=
 ((((((k.far (p:=⟨b,0,none⟩) h _).far (p:=⟨b,1,none⟩) h _).far (p:=⟨b,2,none⟩) h _).far (p:=⟨b,3,none⟩) h _).far (p:=⟨b,4,none⟩) h _).far (p:=⟨b,5,none⟩) h _)
end
theorem asks_any (d:DoorX) (q:QueR) (A:Option Addr) (c:Nat) (seed:Nat) (hs:seed<256) (now:Int) (w:World) (hw:DoorW w w.heap.size d) (hq:QueW w w.heap.size q A c) (hu9:d.auts.length+8<99) (ha9:d.accs.length<100) (ho9:d.ords.length<100) :
  Calls Tryz.prog 40 #[frontV d,queV q A c,.int .u8 (seed:Int),.int .i64 now] w (asksPost d A c (asksF sigR d.fro q seed now) w):=by
 obtain ⟨W0,e0,b0,b1,b2,b3,x0,s0⟩:=boxes4 w #[.int .i64 d.next,.slice d.oA d.opn.length d.oc,.slice d.cA d.accs.length d.cc,.slice d.uA d.auts.length d.uc,.slice d.rA d.ords.length d.rc,.int .i64 d.ser] #[.int .i64 q.kind,.int .i64 q.acc,.int .i64 q.nonce,.int .u64 (q.key:Int),.slice A q.names.length c,.int .i64 q.life,.int .i64 q.id,.int .u64 (q.e:Int),.int .u64 (q.s:Int)] #[.int .i64 0,.slice none 0 0,.slice none 0 0,.slice none 0 0,.slice none 0 0,.int .i64 0] #[.int .i64 0,.int .i64 0,.int .i64 0,.int .u64 0,.slice none 0 0,.int .i64 0,.int .i64 0,.int .u64 0,.int .u64 0] 43 27 43 27
 have cN:=oNonce_any d (by omega) ha9 now W0 (hw.ext x0)
 unfold outD at cN
 obtain ⟨E,hE⟩:∃ E,(nonF d.fro now).2.2=E:=⟨_,rfl⟩
 obtain ⟨nn,hnn⟩:∃ n,(nonF d.fro now).2.1=n:=⟨_,rfl⟩
 obtain ⟨fn,hfn⟩:∃ n,(nonF d.fro now).1=n:=⟨_,rfl⟩
 rw [hE,hnn,hfn] at cN
 have HW:=Lib.hid hw
 have HQ:=Lib.hid hq
 have HB0:=Lib.hid b0
 have HB1:=Lib.hid b1
 have HB2:=Lib.hid b2
 have HB3:=Lib.hid b3
 have HX0:=Lib.hid x0
 have HS0:=Lib.hid s0
 have HE:=Lib.hid hE
 have HNN:=Lib.hid hnn
 have HFN:=Lib.hid hfn
 have HU9:=Lib.hid hu9
 have HA9:=Lib.hid ha9
 have HO9:=Lib.hid ho9
 have HSEED:=Lib.hid hs
 obtain ⟨m0,m1,m2,m3,m4,m5⟩:=arr6f b0
 obtain ⟨n0,n1,n2,n3,n4,n5,n6,n7,n8⟩:=arr9 b1
 unfold frontV queV at ⊢
 unfold frontV at cN
 clear b0 b1 b2 b3 x0 s0 hw hq hE hnn hfn hu9 ha9 ho9 hs
 go_enter Tryz.func40,Tryz.ntmps40
 go_upto_region 1 with (fail)
 try rw [e0]
 clear e0
 go_upto_region 2 with (go_at_call 24;refine cN.mono ?_;clear cN m0 m1 m2 m3 m4 m5;rintro e w1 ⟨dn,rfl,hfn,hwn,hln,x1⟩)
 obtain ⟨W1,e1⟩:∃ W,w1.alloc (.cells #[.int .i64 dn.next,.slice dn.oA dn.opn.length dn.oc,.slice dn.cA dn.accs.length dn.cc,.slice dn.uA dn.auts.length dn.uc,.slice dn.rA dn.ords.length dn.rc,.int .i64 dn.ser] 43)=W:=⟨_,rfl⟩
 try rw [e1]
 have HX1:Hid (Ext W0 W1):=Lib.hid (by rw [← e1];exact x1.alloc _)
 have HBN:Hid (Blk W1 w1.heap.size 43 #[.int .i64 dn.next,.slice dn.oA dn.opn.length dn.oc,.slice dn.cA dn.accs.length dn.cc,.slice dn.uA dn.auts.length dn.uc,.slice dn.rA dn.ords.length dn.rc,.int .i64 dn.ser]):=Lib.hid (by rw [← e1];exact Blk.new _ _ _)
 have HWN:Hid (DoorW W1 W1.heap.size dn):=Lib.hid (hwn.ext (by rw [← e1];exact (Ext.refl w1).alloc _))
 have HLN:=Lib.hid hln
 have HF:=Lib.hid hfn
 have HS1:Hid (W0.heap.size≤w1.heap.size):=Lib.hid x1.size
 clear e1 hfn hwn hln x1 n0 n1 n2 n3 n4 n5 n6 n7 n8
 by_cases h0:E=0
 case neg =>
  have HR:=Lib.hid (asksF_1 (S:=sigR) (q:=q) (seed:=seed) HE.out h0)
  have k0:=ne_beq h0
  clear h0
  obtain ⟨m0,m1,m2,m3,m4,m5⟩:=arr6f (ext_blk HX1.out HB0.out)
  obtain ⟨n0,n1,n2,n3,n4,n5,n6,n7,n8⟩:=arr9 (ext_blk HX1.out HB1.out)
  have z6:=ext_blk (HX1.out) HB2.out
  have z9:=ext_blk (HX1.out) HB3.out
  obtain ⟨v0,v1,v2,v3,v4,v5,f0,f1,f2,f3,f4,f5⟩:=st6 z6
  obtain ⟨⟨g0,g1,g2,g3,g4,g5,g6,g7,g8⟩,e0,e1,e2,e3,e4,e5,e6,e7,e8⟩:=st9 z9
  have BB:=Lib.hid (blk6 z6 (.int .i64 d.next) (.slice d.oA d.opn.length d.oc) (.slice d.cA d.accs.length d.cc) (.slice d.uA d.auts.length d.uc) (.slice d.rA d.ords.length d.rc) (.int .i64 d.ser))
  have BC:=Lib.hid (set9_blk (z9_far z9 (.int .i64 d.next) (.slice d.oA d.opn.length d.oc) (.slice d.cA d.accs.length d.cc) (.slice d.uA d.auts.length d.uc) (.slice d.rA d.ords.length d.rc) (.int .i64 d.ser)) (.int .i64 q.kind) (.int .i64 q.acc) (.int .i64 q.nonce) (.int .u64 (q.key:Int)) (.slice A q.names.length c) (.int .i64 q.life) (.int .i64 q.id) (.int .u64 (q.e:Int)) (.int .u64 (q.s:Int)))
  have BD:=Lib.hid (z6_far BB.out (.int .i64 q.kind) (.int .i64 q.acc) (.int .i64 q.nonce) (.int .u64 (q.key:Int)) (.slice A q.names.length c) (.int .i64 q.life) (.int .i64 q.id) (.int .u64 (q.e:Int)) (.int .u64 (q.s:Int))).drew
  clear BB z6 z9
  go_wp2
  go_region
  go_wp2
  rw [HR.out]
  obtain ⟨r0,r1,r2,r3,r4,r5⟩:=arr6f BD.out
  obtain ⟨⟨k0,k1,k2,k3,k4,k5,k6,k7,k8⟩,-⟩:=st9 BC.out.drew
  obtain ⟨a1,a2,a3⟩:=asks_fin (b2:=w.heap.size+2) (b3:=w.heap.size+3) (HX0.out.trans (HX1.out)) (by omega) (by omega) (HW.out.ext (HX0.out.trans HX1.out)) (HW.out.lies.mono (fun k hk=>⟨by omega,by omega⟩)) (HQ.out)
  refine bodyPost_ret (v:=.tuple #[.agg #[.int .i64 d.next,.slice d.oA d.opn.length d.oc,.slice d.cA d.accs.length d.cc,.slice d.uA d.auts.length d.uc,.slice d.rA d.ords.length d.rc,.int .i64 d.ser],.agg #[.int .i64 q.kind,.int .i64 q.acc,.int .i64 q.nonce,.int .u64 (q.key:Int),.slice A q.names.length c,.int .i64 q.life,.int .i64 q.id,.int .u64 (q.e:Int),.int .u64 (q.s:Int)],.int .i64 0,.int .i64 (E:Int)]) (by simp [results,Tryz.results40,go_sem,r0,r1,r2,r3,r4,r5,k0,k1,k2,k3,k4,k5,k6,k7,k8]) rfl ⟨d,rfl,rfl,a1.ext (Ext.refl _).drew,?_,a2.ext (Ext.refl _).drew,a3.drew⟩
  intro S hS
  exact hS.mono (fun k hk=>.inl hk)
 subst h0
 obtain ⟨hc0,ht0,hstep⟩:=non_steps HE.out
 have hn1:nn=d.next:=by have:=HNN.out;rw [hstep] at this;exact this.symm
 have hfq:fn={ d.fro with next:=d.fro.next+1,opn:=tellL d.fro.next d.fro.opn now 20 }:=by have:=HFN.out;rw [hstep] at this;exact this.symm
 have hnw:wf64 nn:=by rw [hn1];exact HW.out.non.nx
 obtain ⟨q1,hq1⟩:∃ q1:QueR,q1={ q with nonce:=nn }:=⟨_,rfl⟩
 have HQ1:=Lib.hid hq1
 have HFQ:=Lib.hid hfq
 have HNW:=Lib.hid hnw
 have b1:=ext_blk HX1.out HB1.out
 have p2:=b1.cell 2
 have f2:=b1.frozen 2
 clear b1 hc0 ht0 hstep hn1 hfq hnw
 go_upto_region 5 with (fail)
 obtain ⟨W2,e2⟩:∃ W,W=W1.setCell ⟨w.heap.size+1,2,none⟩ (.int .i64 nn):=⟨_,rfl⟩
 have HX2:Hid (Ext w W2):=Lib.hid (by rw [e2];exact (HX0.out.trans HX1.out).setCell (p:=⟨w.heap.size+1,2,none⟩) (Nat.le_succ _) _)
 have HC0:Hid (Blk W2 w.heap.size 43 #[.int .i64 d.next,.slice d.oA d.opn.length d.oc,.slice d.cA d.accs.length d.cc,.slice d.uA d.auts.length d.uc,.slice d.rA d.ords.length d.rc,.int .i64 d.ser]):=Lib.hid (by rw [e2];exact (ext_blk HX1.out HB0.out).far (by simp) _)
 have HC1:Hid (Blk W2 (w.heap.size+1) 27 #[.int .i64 q1.kind,.int .i64 q1.acc,.int .i64 q1.nonce,.int .u64 (q1.key:Int),.slice A q1.names.length c,.int .i64 q1.life,.int .i64 q1.id,.int .u64 (q1.e:Int),.int .u64 (q1.s:Int)]):=Lib.hid (by rw [e2,hq1];exact (ext_blk HX1.out HB1.out).set_ 2 _)
 have HC2:Hid (Blk W2 (w.heap.size+2) 43 #[.int .i64 0,.slice none 0 0,.slice none 0 0,.slice none 0 0,.slice none 0 0,.int .i64 0]):=Lib.hid (by rw [e2];exact (ext_blk HX1.out HB2.out).far (by simp) _)
 have HC3:Hid (Blk W2 (w.heap.size+3) 27 #[.int .i64 0,.int .i64 0,.int .i64 0,.int .u64 0,.slice none 0 0,.int .i64 0,.int .i64 0,.int .u64 0,.int .u64 0]):=Lib.hid (by rw [e2];exact (ext_blk HX1.out HB3.out).far (by simp) _)
 have HDN:Hid (Blk W2 w1.heap.size 43 #[.int .i64 dn.next,.slice dn.oA dn.opn.length dn.oc,.slice dn.cA dn.accs.length dn.cc,.slice dn.uA dn.auts.length dn.uc,.slice dn.rA dn.ords.length dn.rc,.int .i64 dn.ser]):=Lib.hid (by rw [e2];have h0:=HS0.out;have h1:=HS1.out;exact HBN.out.far (by simp;omega) _)
 have HLN2:Hid (DoorL (fun k=>k<w.heap.size∨w.heap.size+4≤k) dn):=Lib.hid ((HLN.out _ HW.out.lies).mono fun k hk=>by have h0:=HS0.out;rcases hk with hk|hk;exact .inl hk;exact .inr (by omega))
 have HWN2:Hid (DoorW W2 W2.heap.size dn):=Lib.hid (by rw [e2];exact HWN.out.grownTo (HLN2.out.mono fun k hk=>by omega) (grown_set _ _ _ _))
 have HS2:Hid (w.heap.size+4≤W2.heap.size∧w1.heap.size<W2.heap.size):=Lib.hid ⟨by have h0:=HS0.out;have h1:=HS1.out;have:=HDN.out.lt;omega,HDN.out.lt⟩
 try rw [← e2]
 clear e2 p2 f2 HX1 HBN HB0 HB1 HB2 HB3 HWN
 have HQW:Hid (QueW w w.heap.size q1 A c):=Lib.hid (by rw [HQ1.out];exact HQ.out.with_ HNW.out HQ.out.e HQ.out.s)
 have cS:=signed_any22 q1 A c seed HSEED.out W2 (HQW.out.ext HX2.out)
 obtain ⟨BE,hBE⟩:∃ B,byteE q1=B:=⟨_,rfl⟩
 rw [hBE] at cS
 have HBE:=Lib.hid hBE
 obtain ⟨q2,hq2⟩:∃ q2:QueR,q2=sigQ q1 seed:=⟨_,rfl⟩
 rw [← hq2] at cS
 have HQ2:=Lib.hid hq2
 clear hq1 hBE hq2
 obtain ⟨n0,n1,n2,n3,n4,n5,n6,n7,n8⟩:=arr9 HC1.out
 unfold queV at cS
 go_upto_region 6 with (go_at_call 84;refine cS.mono ?_;clear cS n0 n1 n2 n3 n4 n5 n6 n7 n8;rintro e w3 ⟨rfl,x3⟩)
 obtain ⟨W3,e3⟩:∃ W,w3.alloc (.cells #[.int .i64 q2.kind,.int .i64 q2.acc,.int .i64 q2.nonce,.int .u64 (q2.key:Int),.slice A q2.names.length c,.int .i64 q2.life,.int .i64 q2.id,.int .u64 (q2.e:Int),.int .u64 (q2.s:Int)] 27)=W:=⟨_,rfl⟩
 try rw [e3]
 have HX3:Hid (Ext W2 W3):=Lib.hid (by rw [← e3];exact x3.alloc _)
 have HBS:Hid (Blk W3 w3.heap.size 27 #[.int .i64 q2.kind,.int .i64 q2.acc,.int .i64 q2.nonce,.int .u64 (q2.key:Int),.slice A q2.names.length c,.int .i64 q2.life,.int .i64 q2.id,.int .u64 (q2.e:Int),.int .u64 (q2.s:Int)]):=Lib.hid (by rw [← e3];exact Blk.new _ _ _)
 have HS3:Hid (W2.heap.size≤w3.heap.size):=Lib.hid x3.size
 clear e3 x3
 have HQW2:Hid (QueW w w.heap.size q2 A c):=Lib.hid (by
  rw [HQ2.out];exact HQW.out.with_ HQW.out.nonce (by rw [sigR_sgn];exact r64 (sgE_lt _ _)) (by rw [sigR_sgn];exact r64 (sgS_lt _ _)))
 by_cases hb:BE=0
 case neg =>
  have HR:=Lib.hid (asksF_2 (S:=sigR) (q:=q) (q1:=q1) (seed:=seed) HE.out (by rw [HNN.out];exact HQ1.out) (by rw [HBE.out];exact hb))
  rw [decide_eq_false hb]
  clear hb
  obtain ⟨m0,m1,m2,m3,m4,m5⟩:=arr6f (ext_blk HX3.out HC0.out)
  obtain ⟨n0,n1,n2,n3,n4,n5,n6,n7,n8⟩:=arr9 (ext_blk HX3.out HC1.out)
  have z6:=ext_blk (HX3.out) HC2.out
  have z9:=ext_blk (HX3.out) HC3.out
  obtain ⟨v0,v1,v2,v3,v4,v5,f0,f1,f2,f3,f4,f5⟩:=st6 z6
  obtain ⟨⟨g0,g1,g2,g3,g4,g5,g6,g7,g8⟩,e0,e1,e2,e3,e4,e5,e6,e7,e8⟩:=st9 z9
  have BB:=Lib.hid (blk6 z6 (.int .i64 d.next) (.slice d.oA d.opn.length d.oc) (.slice d.cA d.accs.length d.cc) (.slice d.uA d.auts.length d.uc) (.slice d.rA d.ords.length d.rc) (.int .i64 d.ser))
  have BC:=Lib.hid (set9_blk (z9_far z9 (.int .i64 d.next) (.slice d.oA d.opn.length d.oc) (.slice d.cA d.accs.length d.cc) (.slice d.uA d.auts.length d.uc) (.slice d.rA d.ords.length d.rc) (.int .i64 d.ser)) (.int .i64 q1.kind) (.int .i64 q1.acc) (.int .i64 q1.nonce) (.int .u64 (q1.key:Int)) (.slice A q1.names.length c) (.int .i64 q1.life) (.int .i64 q1.id) (.int .u64 (q1.e:Int)) (.int .u64 (q1.s:Int)))
  have BD:=Lib.hid (z6_far BB.out (.int .i64 q1.kind) (.int .i64 q1.acc) (.int .i64 q1.nonce) (.int .u64 (q1.key:Int)) (.slice A q1.names.length c) (.int .i64 q1.life) (.int .i64 q1.id) (.int .u64 (q1.e:Int)) (.int .u64 (q1.s:Int))).drew
  clear BB z6 z9
  go_wp2
  go_region
  go_wp2
  rw [HR.out]
  obtain ⟨r0,r1,r2,r3,r4,r5⟩:=arr6f BD.out
  obtain ⟨⟨k0,k1,k2,k3,k4,k5,k6,k7,k8⟩,-⟩:=st9 BC.out.drew
  obtain ⟨a1,a2,a3⟩:=asks_fin (b2:=w.heap.size+2) (b3:=w.heap.size+3) (HX2.out.trans HX3.out) (by omega) (by omega) (HW.out.ext (HX2.out.trans HX3.out)) (HW.out.lies.mono (fun k hk=>⟨by omega,by omega⟩)) (HQW.out)
  refine bodyPost_ret (v:=.tuple #[.agg #[.int .i64 d.next,.slice d.oA d.opn.length d.oc,.slice d.cA d.accs.length d.cc,.slice d.uA d.auts.length d.uc,.slice d.rA d.ords.length d.rc,.int .i64 d.ser],.agg #[.int .i64 q1.kind,.int .i64 q1.acc,.int .i64 q1.nonce,.int .u64 (q1.key:Int),.slice A q1.names.length c,.int .i64 q1.life,.int .i64 q1.id,.int .u64 (q1.e:Int),.int .u64 (q1.s:Int)],.int .i64 0,.int .i64 1]) (by simp [results,Tryz.results40,go_sem,r0,r1,r2,r3,r4,r5,k0,k1,k2,k3,k4,k5,k6,k7,k8]) rfl ⟨d,rfl,rfl,a1.ext (Ext.refl _).drew,?_,a2.ext (Ext.refl _).drew,a3.drew⟩
  intro S hS
  exact hS.mono (fun k hk=>.inl hk)
 subst hb
 have HR3:=Lib.hid (asksF_3 (q:=q) (q1:=q1) (seed:=seed) HE.out (by rw [HNN.out];exact HQ1.out) HBE.out)
 have cD:=oDo_any dn q2 A c now W3 (HWN2.out.ext HX3.out) (HQW2.out.ext (HX2.out.trans HX3.out)) (by have:=congrArg (fun f:FroR=>f.auts.length) (HF.out.trans HFQ.out);have h:=HU9.out;simp only [dfro_auts] at this;omega) (by have:=congrArg (fun f:FroR=>f.accs.length) (HF.out.trans HFQ.out);have h:=HA9.out;simp only [dfro_accs] at this;omega) (by have:=congrArg (fun f:FroR=>f.ords.length) (HF.out.trans HFQ.out);have h:=HO9.out;simp only [dfro_ords,List.length_map] at this;omega)
 unfold outD at cD
 obtain ⟨E2,hE2⟩:∃ E,(doF checkN dn.fro q2 now).2.2=E:=⟨_,rfl⟩
 obtain ⟨mm,hm2⟩:∃ E,(doF checkN dn.fro q2 now).2.1=E:=⟨_,rfl⟩
 rw [hE2,hm2] at cD
 have HE2:=Lib.hid hE2
 have HM2:=Lib.hid hm2
 clear hE2 hm2
 unfold frontV queV at cD
 obtain ⟨m0,m1,m2,m3,m4,m5⟩:=arr6f (ext_blk HX3.out HDN.out)
 obtain ⟨n0,n1,n2,n3,n4,n5,n6,n7,n8⟩:=arr9 HBS.out
 go_upto_region 9 with (go_at_call 18;refine cD.mono ?_;clear cD m0 m1 m2 m3 m4 m5 n0 n1 n2 n3 n4 n5 n6 n7 n8;rintro e w4 ⟨dd,rfl,hfd,hwd,hld,x4⟩)
 obtain ⟨W4,e4⟩:∃ W,w4.alloc (.cells #[.int .i64 dd.next,.slice dd.oA dd.opn.length dd.oc,.slice dd.cA dd.accs.length dd.cc,.slice dd.uA dd.auts.length dd.uc,.slice dd.rA dd.ords.length dd.rc,.int .i64 dd.ser] 43)=W:=⟨_,rfl⟩
 try rw [e4]
 have HX4:Hid (Ext W3 W4):=Lib.hid (by rw [← e4];exact x4.alloc _)
 have HBD:Hid (Blk W4 w4.heap.size 43 #[.int .i64 dd.next,.slice dd.oA dd.opn.length dd.oc,.slice dd.cA dd.accs.length dd.cc,.slice dd.uA dd.auts.length dd.uc,.slice dd.rA dd.ords.length dd.rc,.int .i64 dd.ser]):=Lib.hid (by rw [← e4];exact Blk.new _ _ _)
 have HWD:Hid (DoorW W4 W4.heap.size dd):=Lib.hid (hwd.ext (by rw [← e4];exact (Ext.refl w4).alloc _))
 have HLD:=Lib.hid hld
 have HFD:=Lib.hid hfd
 clear e4 hfd hwd hld x4
 have hR:=HR3.out
 rw [← HQ2.out,HFN.out,← HF.out,HE2.out,HM2.out,← HFD.out] at hR
 have HY4:Hid (Ext w W4):=Lib.hid (HX2.out.trans (HX3.out.trans HX4.out))
 have HZ4:Hid (Ext W2 W4):=Lib.hid (HX3.out.trans HX4.out)
 by_cases h2:E2=0
 case neg =>
  rw [if_pos h2] at hR
  have HR:=Lib.hid hR
  have k0:=ne_beq h2
  clear h2 hR
  obtain ⟨m0,m1,m2,m3,m4,m5⟩:=arr6f (ext_blk HZ4.out HDN.out)
  obtain ⟨n0,n1,n2,n3,n4,n5,n6,n7,n8⟩:=arr9 (ext_blk HX4.out HBS.out)
  obtain ⟨o0,o1,o2,o3,o4,o5,o6,o7,o8⟩:=arr9 (far6 (ext_blk HX4.out HBS.out) (b:=w.heap.size+2) (by have:=HS2.out;have:=HS3.out;omega) (.int .i64 dn.next) (.slice dn.oA dn.opn.length dn.oc) (.slice dn.cA dn.accs.length dn.cc) (.slice dn.uA dn.auts.length dn.uc) (.slice dn.rA dn.ords.length dn.rc) (.int .i64 dn.ser))
  have z6:=ext_blk (HZ4.out) HC2.out
  have z9:=ext_blk (HZ4.out) HC3.out
  obtain ⟨v0,v1,v2,v3,v4,v5,f0,f1,f2,f3,f4,f5⟩:=st6 z6
  obtain ⟨⟨g0,g1,g2,g3,g4,g5,g6,g7,g8⟩,e0,e1,e2,e3,e4,e5,e6,e7,e8⟩:=st9 z9
  have BB:=Lib.hid (blk6 z6 (.int .i64 dn.next) (.slice dn.oA dn.opn.length dn.oc) (.slice dn.cA dn.accs.length dn.cc) (.slice dn.uA dn.auts.length dn.uc) (.slice dn.rA dn.ords.length dn.rc) (.int .i64 dn.ser))
  have BC:=Lib.hid (set9_blk (z9_far z9 (.int .i64 dn.next) (.slice dn.oA dn.opn.length dn.oc) (.slice dn.cA dn.accs.length dn.cc) (.slice dn.uA dn.auts.length dn.uc) (.slice dn.rA dn.ords.length dn.rc) (.int .i64 dn.ser)) (.int .i64 q2.kind) (.int .i64 q2.acc) (.int .i64 q2.nonce) (.int .u64 (q2.key:Int)) (.slice A q2.names.length c) (.int .i64 q2.life) (.int .i64 q2.id) (.int .u64 (q2.e:Int)) (.int .u64 (q2.s:Int)))
  have BD:=Lib.hid (z6_far BB.out (.int .i64 q2.kind) (.int .i64 q2.acc) (.int .i64 q2.nonce) (.int .u64 (q2.key:Int)) (.slice A q2.names.length c) (.int .i64 q2.life) (.int .i64 q2.id) (.int .u64 (q2.e:Int)) (.int .u64 (q2.s:Int))).drew
  clear BB z6 z9
  go_wp2
  go_region
  go_wp2
  rw [HR.out]
  obtain ⟨r0,r1,r2,r3,r4,r5⟩:=arr6f BD.out
  obtain ⟨⟨k0,k1,k2,k3,k4,k5,k6,k7,k8⟩,-⟩:=st9 BC.out.drew
  obtain ⟨a1,a2,a3⟩:=asks_fin (b2:=w.heap.size+2) (b3:=w.heap.size+3) (HY4.out) (by omega) (by omega) (HWN2.out.ext HZ4.out) (HLN2.out.mono (fun k hk=>⟨by omega,by omega⟩)) (HQW2.out)
  refine bodyPost_ret (v:=.tuple #[.agg #[.int .i64 dn.next,.slice dn.oA dn.opn.length dn.oc,.slice dn.cA dn.accs.length dn.cc,.slice dn.uA dn.auts.length dn.uc,.slice dn.rA dn.ords.length dn.rc,.int .i64 dn.ser],.agg #[.int .i64 q2.kind,.int .i64 q2.acc,.int .i64 q2.nonce,.int .u64 (q2.key:Int),.slice A q2.names.length c,.int .i64 q2.life,.int .i64 q2.id,.int .u64 (q2.e:Int),.int .u64 (q2.s:Int)],.int .i64 0,.int .i64 (E2:Int)]) (by simp [results,Tryz.results40,go_sem,r0,r1,r2,r3,r4,r5,k0,k1,k2,k3,k4,k5,k6,k7,k8]) rfl ⟨dn,rfl,rfl,a1.ext (Ext.refl _).drew,?_,a2.ext (Ext.refl _).drew,a3.drew⟩
  intro S hS
  exact (HLN.out S hS).mono (fun k hk=>by have h0:=HS0.out;rcases hk with hk|hk;exact .inl hk;exact .inr (by omega))
 subst h2
 rw [if_neg (by simp)] at hR
 have HR:=Lib.hid hR
 clear hR
 obtain ⟨m0,m1,m2,m3,m4,m5⟩:=arr6f HBD.out
 obtain ⟨n0,n1,n2,n3,n4,n5,n6,n7,n8⟩:=arr9 (ext_blk HX4.out HBS.out)
 obtain ⟨o0,o1,o2,o3,o4,o5,o6,o7,o8⟩:=arr9 (far6 (ext_blk HX4.out HBS.out) (b:=w.heap.size+2) (by have:=HS2.out;have:=HS3.out;omega) (.int .i64 dd.next) (.slice dd.oA dd.opn.length dd.oc) (.slice dd.cA dd.accs.length dd.cc) (.slice dd.uA dd.auts.length dd.uc) (.slice dd.rA dd.ords.length dd.rc) (.int .i64 dd.ser))
 have z6:=ext_blk (HZ4.out) HC2.out
 have z9:=ext_blk (HZ4.out) HC3.out
 obtain ⟨v0,v1,v2,v3,v4,v5,f0,f1,f2,f3,f4,f5⟩:=st6 z6
 obtain ⟨⟨g0,g1,g2,g3,g4,g5,g6,g7,g8⟩,e0,e1,e2,e3,e4,e5,e6,e7,e8⟩:=st9 z9
 have BB:=Lib.hid (blk6 z6 (.int .i64 dd.next) (.slice dd.oA dd.opn.length dd.oc) (.slice dd.cA dd.accs.length dd.cc) (.slice dd.uA dd.auts.length dd.uc) (.slice dd.rA dd.ords.length dd.rc) (.int .i64 dd.ser))
 have BC:=Lib.hid (set9_blk (z9_far z9 (.int .i64 dd.next) (.slice dd.oA dd.opn.length dd.oc) (.slice dd.cA dd.accs.length dd.cc) (.slice dd.uA dd.auts.length dd.uc) (.slice dd.rA dd.ords.length dd.rc) (.int .i64 dd.ser)) (.int .i64 q2.kind) (.int .i64 q2.acc) (.int .i64 q2.nonce) (.int .u64 (q2.key:Int)) (.slice A q2.names.length c) (.int .i64 q2.life) (.int .i64 q2.id) (.int .u64 (q2.e:Int)) (.int .u64 (q2.s:Int)))
 have BD:=Lib.hid (z6_far BB.out (.int .i64 q2.kind) (.int .i64 q2.acc) (.int .i64 q2.nonce) (.int .u64 (q2.key:Int)) (.slice A q2.names.length c) (.int .i64 q2.life) (.int .i64 q2.id) (.int .u64 (q2.e:Int)) (.int .u64 (q2.s:Int))).drew
 clear BB z6 z9
 go_wp2
 go_region
 go_wp2
 have hl4:∀ S,DoorL S d→DoorL (fun k=>S k∨w.heap.size+4≤k) dd:=fun S hS=>(HLD.out _ (HLN.out S hS)).mono (fun k hk=>by
  have h0:=HS0.out
  have h2:=HS2.out
  have h3:=HX3.out.size
  rcases hk with (hk|hk)|hk
  ·exact .inl hk
  ·exact .inr (by omega)
  ·exact .inr (by omega))
 rw [HR.out]
 obtain ⟨r0,r1,r2,r3,r4,r5⟩:=arr6f BD.out
 obtain ⟨⟨k0,k1,k2,k3,k4,k5,k6,k7,k8⟩,-⟩:=st9 BC.out.drew
 obtain ⟨a1,a2,a3⟩:=asks_fin (b2:=w.heap.size+2) (b3:=w.heap.size+3) (HY4.out) (by omega) (by omega) (HWD.out) ((hl4 _ HW.out.lies).mono (fun k hk=>⟨by omega,by omega⟩)) (HQW2.out)
 refine bodyPost_ret (v:=.tuple #[.agg #[.int .i64 dd.next,.slice dd.oA dd.opn.length dd.oc,.slice dd.cA dd.accs.length dd.cc,.slice dd.uA dd.auts.length dd.uc,.slice dd.rA dd.ords.length dd.rc,.int .i64 dd.ser],.agg #[.int .i64 q2.kind,.int .i64 q2.acc,.int .i64 q2.nonce,.int .u64 (q2.key:Int),.slice A q2.names.length c,.int .i64 q2.life,.int .i64 q2.id,.int .u64 (q2.e:Int),.int .u64 (q2.s:Int)],.int .i64 mm,.int .i64 0]) (by simp [results,Tryz.results40,go_sem,r0,r1,r2,r3,r4,r5,k0,k1,k2,k3,k4,k5,k6,k7,k8]) rfl ⟨dd,rfl,rfl,a1.ext (Ext.refl _).drew,?_,a2.ext (Ext.refl _).drew,a3.drew⟩
 intro S hS
 exact (hl4 S hS).mono (fun k hk=>by rcases hk with hk|hk;exact .inl hk;exact .inr (by omega))
theorem sigR_ok:SigOk sigR where
 inb:=fun k l e s h=>by
  rw [sigR_sg] at h
  cases hk:inB k with
  | true=>rfl
  | false=>rw [checkN_out hk] at h;cases h
 ok:=fun seed hs l=>by rw [sigR_sg,sigR_pk,sigR_sgn];exact check_sign _ _
theorem far9 {W:World} {g b:Nat} {T:TypeId} {cs:Array Value} (k:Blk W g T cs) (h:g≠b) (y0 y1 y2 y3 y4 y5 y6 y7 y8:Value):Blk (((((((((W.setCell ⟨b,0,none⟩ (y0)).setCell ⟨b,1,none⟩ (y1)).setCell ⟨b,2,none⟩ (y2)).setCell ⟨b,3,none⟩ (y3)).setCell ⟨b,4,none⟩ (y4)).setCell ⟨b,5,none⟩ (y5)).setCell ⟨b,6,none⟩ (y6)).setCell ⟨b,7,none⟩ (y7)).setCell ⟨b,8,none⟩ (y8)) g T cs :=
 (((((((((k.far (p:=⟨b,0,none⟩) h _).far (p:=⟨b,1,none⟩) h _).far (p:=⟨b,2,none⟩) h _).far (p:=⟨b,3,none⟩) h _).far (p:=⟨b,4,none⟩) h _).far (p:=⟨b,5,none⟩) h _).far (p:=⟨b,6,none⟩) h _).far (p:=⟨b,7,none⟩) h _).far (p:=⟨b,8,none⟩) h _)
structure LvD (w W:World) (b:Nat) (d:DoorX) (f:FroR):Prop where
 ext:Ext w W
 fro:d.fro=f
 box:Blk W b 43 #[.int .i64 d.next,.slice d.oA d.opn.length d.oc,.slice d.cA d.accs.length d.cc,.slice d.uA d.auts.length d.uc,.slice d.rA d.ords.length d.rc,.int .i64 d.ser]
 door:DoorW W W.heap.size d
 lies:DoorL (fun k=>b<k) d
 hb:w.heap.size≤b
theorem LvD.later {w W W':World} {b:Nat} {d:DoorX} {f:FroR} (h:LvD w W b d f) (x:Ext W W'):LvD w W' b d f:=⟨h.ext.trans x,h.fro,ext_blk x h.box,h.door.ext x,h.lies,h.hb⟩
theorem LvD.accs {w W:World} {b:Nat} {d:DoorX} {f:FroR} (h:LvD w W b d f):d.accs.length=f.accs.length:=by rw [← h.fro,dfro_accs]
theorem LvD.auts {w W:World} {b:Nat} {d:DoorX} {f:FroR} (h:LvD w W b d f):d.auts.length=f.auts.length:=by rw [← h.fro,dfro_auts]
theorem LvD.ords {w W:World} {b:Nat} {d:DoorX} {f:FroR} (h:LvD w W b d f):d.ords.length=f.ords.length:=by rw [← h.fro,dfro_ords,List.length_map]
theorem LvD.put {w W W':World} {b:Nat} {d dd:DoorX} {f f':FroR} (h:LvD w W b d f) (x:Ext W W') (hd:DoorW W' W'.heap.size dd) (hl:∀ S,DoorL S d→DoorL (orNew S W) dd) (hf:dd.fro=f'):LvD w ((((((W'.setCell ⟨b,0,none⟩ (.int .i64 dd.next)).setCell ⟨b,1,none⟩ (.slice dd.oA dd.opn.length dd.oc)).setCell ⟨b,2,none⟩ (.slice dd.cA dd.accs.length dd.cc)).setCell ⟨b,3,none⟩ (.slice dd.uA dd.auts.length dd.uc)).setCell ⟨b,4,none⟩ (.slice dd.rA dd.ords.length dd.rc)).setCell ⟨b,5,none⟩ (.int .i64 dd.ser)) b dd f':=by
 have hbW:=h.box.lt
 have hl':DoorL (fun k=>b<k) dd:=(hl _ h.lies).mono fun k hk=>by rcases hk with hk|hk;exact hk;exact (by omega:b<k)
 exact ⟨ext6 (h.ext.trans x) h.hb (.int .i64 dd.next) (.slice dd.oA dd.opn.length dd.oc) (.slice dd.cA dd.accs.length dd.cc) (.slice dd.uA dd.auts.length dd.uc) (.slice dd.rA dd.ords.length dd.rc) (.int .i64 dd.ser),hf,blk6 (ext_blk x h.box) (.int .i64 dd.next) (.slice dd.oA dd.opn.length dd.oc) (.slice dd.cA dd.accs.length dd.cc) (.slice dd.uA dd.auts.length dd.uc) (.slice dd.rA dd.ords.length dd.rc) (.int .i64 dd.ser),hd.grownTo (hl'.mono fun k hk=>by omega) (grown6 W' b (.int .i64 dd.next) (.slice dd.oA dd.opn.length dd.oc) (.slice dd.cA dd.accs.length dd.cc) (.slice dd.uA dd.auts.length dd.uc) (.slice dd.rA dd.ords.length dd.rc) (.int .i64 dd.ser)),hl',h.hb⟩
theorem LvD.put2 {w W W':World} {b b2:Nat} {d dd:DoorX} {f f':FroR} {q:QueR} {A:Option Addr} {c:Nat} (h:LvD w W b d f) (x:Ext W W') (hd:DoorW W' W'.heap.size dd) (hl:∀ S,DoorL S d→DoorL (orNew S W) dd) (hf:dd.fro=f')
  {y0 y1 y2 y3 y4 y5 y6 y7 y8:Value} (k2:Blk W' b2 27 #[y0,y1,y2,y3,y4,y5,y6,y7,y8]) (h2:b<b2) (hl2:DoorL (fun k=>k≠b2) dd) :
  LvD w (((((((((((((((W'.setCell ⟨b,0,none⟩ (.int .i64 dd.next)).setCell ⟨b,1,none⟩ (.slice dd.oA dd.opn.length dd.oc)).setCell ⟨b,2,none⟩ (.slice dd.cA dd.accs.length dd.cc)).setCell ⟨b,3,none⟩ (.slice dd.uA dd.auts.length dd.uc)).setCell ⟨b,4,none⟩ (.slice dd.rA dd.ords.length dd.rc)).setCell ⟨b,5,none⟩ (.int .i64 dd.ser)).setCell ⟨b2,0,none⟩ (.int .i64 q.kind)).setCell ⟨b2,1,none⟩ (.int .i64 q.acc)).setCell ⟨b2,2,none⟩ (.int .i64 q.nonce)).setCell ⟨b2,3,none⟩ (.int .u64 (q.key:Int))).setCell ⟨b2,4,none⟩ (.slice A q.names.length c)).setCell ⟨b2,5,none⟩ (.int .i64 q.life)).setCell ⟨b2,6,none⟩ (.int .i64 q.id)).setCell ⟨b2,7,none⟩ (.int .u64 (q.e:Int))).setCell ⟨b2,8,none⟩ (.int .u64 (q.s:Int))) b dd f'∧Blk (((((((((((((((W'.setCell ⟨b,0,none⟩ (.int .i64 dd.next)).setCell ⟨b,1,none⟩ (.slice dd.oA dd.opn.length dd.oc)).setCell ⟨b,2,none⟩ (.slice dd.cA dd.accs.length dd.cc)).setCell ⟨b,3,none⟩ (.slice dd.uA dd.auts.length dd.uc)).setCell ⟨b,4,none⟩ (.slice dd.rA dd.ords.length dd.rc)).setCell ⟨b,5,none⟩ (.int .i64 dd.ser)).setCell ⟨b2,0,none⟩ (.int .i64 q.kind)).setCell ⟨b2,1,none⟩ (.int .i64 q.acc)).setCell ⟨b2,2,none⟩ (.int .i64 q.nonce)).setCell ⟨b2,3,none⟩ (.int .u64 (q.key:Int))).setCell ⟨b2,4,none⟩ (.slice A q.names.length c)).setCell ⟨b2,5,none⟩ (.int .i64 q.life)).setCell ⟨b2,6,none⟩ (.int .i64 q.id)).setCell ⟨b2,7,none⟩ (.int .u64 (q.e:Int))).setCell ⟨b2,8,none⟩ (.int .u64 (q.s:Int))) b2 27 #[.int .i64 q.kind,.int .i64 q.acc,.int .i64 q.nonce,.int .u64 (q.key:Int),.slice A q.names.length c,.int .i64 q.life,.int .i64 q.id,.int .u64 (q.e:Int),.int .u64 (q.s:Int)]:=by
 have h1:=h.put x hd hl hf
 have hk2:=far6 k2 (b:=b) (by omega) (.int .i64 dd.next) (.slice dd.oA dd.opn.length dd.oc) (.slice dd.cA dd.accs.length dd.cc) (.slice dd.uA dd.auts.length dd.uc) (.slice dd.rA dd.ords.length dd.rc) (.int .i64 dd.ser)
 refine ⟨⟨set9_ext h1.ext (by have:=h.hb;omega) (.int .i64 q.kind) (.int .i64 q.acc) (.int .i64 q.nonce) (.int .u64 (q.key:Int)) (.slice A q.names.length c) (.int .i64 q.life) (.int .i64 q.id) (.int .u64 (q.e:Int)) (.int .u64 (q.s:Int)),hf,?_,h1.door.grownTo hl2 (grown9 _ b2 (.int .i64 q.kind) (.int .i64 q.acc) (.int .i64 q.nonce) (.int .u64 (q.key:Int)) (.slice A q.names.length c) (.int .i64 q.life) (.int .i64 q.id) (.int .u64 (q.e:Int)) (.int .u64 (q.s:Int))),h1.lies,h.hb⟩,set9_blk hk2 (.int .i64 q.kind) (.int .i64 q.acc) (.int .i64 q.nonce) (.int .u64 (q.key:Int)) (.slice A q.names.length c) (.int .i64 q.life) (.int .i64 q.id) (.int .u64 (q.e:Int)) (.int .u64 (q.s:Int))⟩
 exact far9 h1.box (by omega) (.int .i64 q.kind) (.int .i64 q.acc) (.int .i64 q.nonce) (.int .u64 (q.key:Int)) (.slice A q.names.length c) (.int .i64 q.life) (.int .i64 q.id) (.int .u64 (q.e:Int)) (.int .u64 (q.s:Int))
theorem size_set (W:World) (p:Addr) (v:Value):(W.setCell p v).heap.size=W.heap.size:=by simp
theorem LvD.put3 {w W W':World} {b:Nat} {d dd:DoorX} {f f':FroR} (h:LvD w W b d f) (x:Ext W W') (hd:DoorW W' W'.heap.size dd) (hl:∀ S,DoorL S d→DoorL (orNew S W) dd) (hf:dd.fro=f') (T:TypeId) (cs:Array Value) :
  LvD w (((((((W'.setCell ⟨b,0,none⟩ (.int .i64 dd.next)).setCell ⟨b,1,none⟩ (.slice dd.oA dd.opn.length dd.oc)).setCell ⟨b,2,none⟩ (.slice dd.cA dd.accs.length dd.cc)).setCell ⟨b,3,none⟩ (.slice dd.uA dd.auts.length dd.uc)).setCell ⟨b,4,none⟩ (.slice dd.rA dd.ords.length dd.rc)).setCell ⟨b,5,none⟩ (.int .i64 dd.ser)).alloc (.cells cs T)) b dd f'∧Blk (((((((W'.setCell ⟨b,0,none⟩ (.int .i64 dd.next)).setCell ⟨b,1,none⟩ (.slice dd.oA dd.opn.length dd.oc)).setCell ⟨b,2,none⟩ (.slice dd.cA dd.accs.length dd.cc)).setCell ⟨b,3,none⟩ (.slice dd.uA dd.auts.length dd.uc)).setCell ⟨b,4,none⟩ (.slice dd.rA dd.ords.length dd.rc)).setCell ⟨b,5,none⟩ (.int .i64 dd.ser)).alloc (.cells cs T)) W'.heap.size T cs:=by
 have h1:=h.put x hd hl hf
 refine ⟨h1.later ((Ext.refl _).alloc _),?_⟩
 have:=Blk.new ((((((W'.setCell ⟨b,0,none⟩ (.int .i64 dd.next)).setCell ⟨b,1,none⟩ (.slice dd.oA dd.opn.length dd.oc)).setCell ⟨b,2,none⟩ (.slice dd.cA dd.accs.length dd.cc)).setCell ⟨b,3,none⟩ (.slice dd.uA dd.auts.length dd.uc)).setCell ⟨b,4,none⟩ (.slice dd.rA dd.ords.length dd.rc)).setCell ⟨b,5,none⟩ (.int .i64 dd.ser)) T cs
 simp only [size_set] at this
 exact this
def ansP (d0:DoorX) (A:Option Addr) (c:Nat) (f:FroR) (q:QueR) (n:Int) (E:Nat) (w:World) (e:Ending) (w':World):Prop :=
 ∃ d,e=.returned (.tuple #[.agg #[.int .i64 d.next,.slice d.oA d.opn.length d.oc,.slice d.cA d.accs.length d.cc,.slice d.uA d.auts.length d.uc,.slice d.rA d.ords.length d.rc,.int .i64 d.ser],.agg #[.int .i64 q.kind,.int .i64 q.acc,.int .i64 q.nonce,.int .u64 (q.key:Int),.slice A q.names.length c,.int .i64 q.life,.int .i64 q.id,.int .u64 (q.e:Int),.int .u64 (q.s:Int)],.int .i64 n,.int .i64 (E:Int)])∧d.fro=f∧DoorW w' w'.heap.size d∧(∀ S,DoorL S d0→DoorL (orNew S w) d)∧QueW w' w'.heap.size q A c∧Ext w w'
theorem ans_of {d:DoorX} {q s:QueR} {A:Option Addr} {c seed:Nat} {now n:Int} {f:FroR} {E:Nat} {w:World} (h:Calls Tryz.prog 40 #[frontV d,queV q A c,.int .u8 (seed:Int),.int .i64 now] w (asksPost d A c (asksF sigR d.fro q seed now) w)) (e:asksF sigR d.fro q seed now=(f,s,n,E)) :
  Calls Tryz.prog 40 #[.agg #[.int .i64 d.next,.slice d.oA d.opn.length d.oc,.slice d.cA d.accs.length d.cc,.slice d.uA d.auts.length d.uc,.slice d.rA d.ords.length d.rc,.int .i64 d.ser],.agg #[.int .i64 q.kind,.int .i64 q.acc,.int .i64 q.nonce,.int .u64 (q.key:Int),.slice A q.names.length c,.int .i64 q.life,.int .i64 q.id,.int .u64 (q.e:Int),.int .u64 (q.s:Int)],.int .u8 (seed:Int),.int .i64 now] w (ansP d A c f s n E w):=by
 rw [e] at h;exact h
theorem LvD.asks {w W:World} {b:Nat} {d:DoorX} {f f':FroR} {q s:QueR} {A:Option Addr} {c seed:Nat} {now n:Int} {E:Nat} (h:LvD w W b d f) (hq:QueW W W.heap.size q A c) (hs:seed<256) (hu:f.auts.length+8<99) (ha:f.accs.length<100) (ho:f.ords.length<100) (e:asksF sigR f q seed now=(f',s,n,E)) :
  Calls Tryz.prog 40 #[.agg #[.int .i64 d.next,.slice d.oA d.opn.length d.oc,.slice d.cA d.accs.length d.cc,.slice d.uA d.auts.length d.uc,.slice d.rA d.ords.length d.rc,.int .i64 d.ser],.agg #[.int .i64 q.kind,.int .i64 q.acc,.int .i64 q.nonce,.int .u64 (q.key:Int),.slice A q.names.length c,.int .i64 q.life,.int .i64 q.id,.int .u64 (q.e:Int),.int .u64 (q.s:Int)],.int .u8 (seed:Int),.int .i64 now] W (ansP d A c f' s n E W) :=
 ans_of (asks_any d q A c seed hs now W h.door hq (by rw [h.auts];exact hu) (by rw [h.accs];exact ha) (by rw [h.ords];exact ho)) (by rw [h.fro];exact e)
theorem blk_new1 (w:World) (o:Obj) (t:TypeId) (cs:Array Value):Blk ((w.alloc o).alloc (.cells cs t)) (w.heap.size+1) t cs:=by
 have:=Blk.new (w.alloc o) t cs
 rwa [World.size_alloc] at this
theorem reads_one {W:World} {g:Nat} {T:TypeId} {s:ByteArray} (h:Blk W g T #[.string s]):Reads W W.heap.size 1 (some ⟨g,0,none⟩) 1 (tv [s]) :=
 ⟨rfl,fun _=>⟨_,rfl,h.lt,fun j u hu=>by
  match j,hu with
  | 0,hu =>
   simp [tv] at hu
   subst hu
   exact h.cell 0
  | j+1,hu=>simp [tv] at hu⟩⟩
theorem QueW.any {w:World} {B:Nat} {q:QueR} {A:Option Addr} {c:Nat} (h:QueW w B q A c) (hn:q.names=[]) (w':World) (B':Nat):QueW w' B' q none 0 :=
 ⟨h.kind,h.acc,h.nonce,h.key,h.life,h.id,h.e,h.s,by rw [hn];exact Reads.none_,by rw [hn];exact Nat.le_refl _,by rw [hn];exact Nat.zero_le _,by rw [hn];simp⟩
theorem pk_lt (seed:Nat):sigR.pk seed<18446744073709551616:=by rw [sigR_pk];exact pw64 _ _
theorem wf_small {n:Int} (h1:-1000≤n) (h2:n≤1000):wf64 n:=wf64_of (by omega) (by omega)
theorem que_lit (W:World) (B:Nat) (k a i l:Int) (key:Nat) (hk:-1000≤k∧k≤1000) (ha:-1000≤a∧a≤1000) (hi:-1000≤i∧i≤1000) (hl:-1000≤l∧l≤1000) (hkey:key<18446744073709551616):QueW W B ⟨k,a,0,key,[],l,i,0,0⟩ none 0 :=
 ⟨wf_small hk.1 hk.2,wf_small ha.1 ha.2,(show wf64 0 from wf_small (by decide) (by decide)),hkey,wf_small hl.1 hl.2,wf_small hi.1 hi.2,(show 0<18446744073709551616 by decide),(show 0<18446744073709551616 by decide),Reads.none_,Nat.le_refl _,Nat.zero_le _,by simp⟩
theorem que_lit1 {W:World} {A:Option Addr} {s:ByteArray} {k a i l:Int} {key:Nat} (hk:-1000≤k∧k≤1000) (ha:-1000≤a∧a≤1000) (hi:-1000≤i∧i≤1000) (hl:-1000≤l∧l≤1000) (hkey:key<18446744073709551616) (hs:s.size≤1000) (hr:Reads W W.heap.size 1 A 1 (tv [s])):QueW W W.heap.size ⟨k,a,0,key,[s],l,i,0,0⟩ A 1 :=
 ⟨wf_small hk.1 hk.2,wf_small ha.1 ha.2,(show wf64 0 from wf_small (by decide) (by decide)),hkey,wf_small hl.1 hl.2,wf_small hi.1 hi.2,(show 0<18446744073709551616 by decide),(show 0<18446744073709551616 by decide),hr,Nat.le_refl _,(show 1≤1099511627776 by decide),by simp;omega⟩
theorem oNewV (w:World):Calls Tryz.prog 34 #[] w fun e w'=>e=.returned (.agg #[.int .i64 0,.slice none 0 0,.slice none 0 0,.slice none 0 0,.slice none 0 0,.int .i64 0])∧Ext w w':=oNew_any w
end Go.Proofs.YtbhdmfijdhcehaaGreatDoor
namespace Go.Proofs.YtbhdmfijdhcehaaGreatDoor
set_option linter.unusedSimpArgs false
set_option linter.unusedVariables false
def rgn (n:Nat):Code→Option Code
 | .region k ops d=>if k=n then some (.region k ops d) else none
 | .seq a b=>match rgn n a with
  | some c=>some c
  | none=>rgn n b
 | .cond _ a b=>match rgn n a with
  | some c=>some c
  | none=>rgn n b
 | .block _ c=>rgn n c
 | .loop c=>rgn n c
 | .scope c=>rgn n c
 | _=>none
noncomputable def liveR2:Code:=((Tryz.f12.body.bind (rgn 2)).getD .skip)
noncomputable def liveR4:Code:=((Tryz.f12.body.bind (rgn 4)).getD .skip)
end Go.Proofs.YtbhdmfijdhcehaaGreatDoor
namespace Go.Proofs.YtbhdmfijdhcehaaGreatDoor
open Go.RowKit Go.Shelf Go.Maps
set_option linter.unusedSimpArgs false
set_option linter.unusedVariables false
