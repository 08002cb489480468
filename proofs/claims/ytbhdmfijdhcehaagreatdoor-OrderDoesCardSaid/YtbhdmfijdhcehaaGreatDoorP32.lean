/- Parts of the proofs, put together: OrLaw9. -/
import Derived.Test.YtbhdmfijdhcehaaGreatDoorP26
import Derived.Test.YtbhdmfijdhcehaaGreatDoorP31
set_option maxRecDepth 100000
set_option maxHeartbeats 64000000
namespace Go.Proofs.YtbhdmfijdhcehaaGreatDoor
open Go.RowKit Go.Shelf Go.Maps
set_option linter.unusedSimpArgs false
set_option linter.unusedVariables false
theorem walk_OrderDoes (d:DoorX) (q:QueR) (A:Option Addr) (c:Nat) (now:Int) (hnow:(Lit.int .i64 now).wf=true) (w:World) (hd:DoorI w d) (hq:QueI w q A c) :
  Calls Tryz.prog 4 #[frontV d,queV q A c,.int .i64 now] w fun e w'=>e=.returned (.bool true)∧Ext w w':=by
 obtain ⟨W0,e0,b0,b1,x0,s0⟩:=startP w #[.int .i64 d.next,.slice d.oA d.opn.length d.oc,.slice d.cA d.accs.length d.cc,.slice d.uA d.auts.length d.uc,.slice d.rA d.ords.length d.rc,.int .i64 d.ser] #[.int .i64 q.kind,.int .i64 q.acc,.int .i64 q.nonce,.int .u64 (q.key:Int),.slice A q.names.length c,.int .i64 q.life,.int .i64 q.id,.int .u64 (q.e:Int),.int .u64 (q.s:Int)] 43 27
 have c0:=fun W=>live_any W
 have c1:=fun W (x:Ext W0 W)=>few22_any d q A c W (hd.ext (x0.trans x)) (hq.ext (x0.trans x))
 have HD:=Lib.hid hd
 have HQ:=Lib.hid hq
 have HB0:=Lib.hid b0
 have HB1:=Lib.hid b1
 have HX0:=Lib.hid x0
 have HNOW:=Lib.hid hnow
 have hK0:Hid (∀ W,Ext W0 W→_):=Lib.hid fun W x=>arr6f (ext_blk x HB0.out)
 have hK1:Hid (∀ W,Ext W0 W→_):=Lib.hid fun W x=>arr9 (ext_blk x HB1.out)
 unfold frontV queV at c1 ⊢
 clear b0 b1 x0 s0 hd hq hnow
 go_enter Tryz.func4,Tryz.ntmps4
 go_upto_region 1 with (fail)
 try rw [e0]
 clear e0
 by_cases hfew:fewP d.fro∧fewQ q
 case neg =>
  rw [decide_eq_false hfew] at c1
  clear hfew
  go_wp2_with (first
   | (go_at_call 12;refine (c0 _).mono ?_;clear c0;rintro e w1 ⟨rfl,x1⟩;obtain ⟨m0,m1,m2,m3,m4,m5⟩:=arr6f (ext_blk x1 HB0.out);obtain ⟨n0,n1,n2,n3,n4,n5,n6,n7,n8⟩:=arr9 (ext_blk x1 HB1.out))
   | (go_at_call 17;refine (c1 _ x1).mono ?_;clear c1;rintro e w2 ⟨rfl,x2⟩))
  go_ret
  exact ⟨rfl,HX0.out.trans (x1.trans x2)⟩
 rw [decide_eq_true hfew] at c1
 have HDW:=Lib.hid (HD.out.door hfew.1)
 have HQW:=Lib.hid (HQ.out.que hfew.2)
 obtain ⟨z1,z2,z3,z4,z5,z6⟩:=hfew.1
 have hl5:d.auts.length≤60:=z5
 have hl4:d.accs.length≤12:=z4
 have hl6:d.ords.length≤30:=by rw [dfro_ords,List.length_map] at z6;exact z6
 have HL:Hid (d.auts.length<91∧d.accs.length<100∧d.ords.length<99):=Lib.hid ⟨by omega,by omega,by omega⟩
 clear hfew z1 z2 z3 z4 z5 z6 hl5 hl4 hl6
 go_upto_region 5 with (first|(go_at_call 12;refine (c0 _).mono ?_;clear c0;rintro e w1 ⟨rfl,x1⟩;obtain ⟨m0,m1,m2,m3,m4,m5⟩:=arr6f (ext_blk x1 HB0.out);obtain ⟨n0,n1,n2,n3,n4,n5,n6,n7,n8⟩:=arr9 (ext_blk x1 HB1.out))|(go_at_call 17;refine (c1 _ x1).mono ?_;clear c1 m0 m1 m2 m3 m4 m5 n0 n1 n2 n3 n4 n5 n6 n7 n8;rintro e w2 ⟨rfl,x2⟩))
 obtain ⟨V0,hV0⟩:∃ W,W=w2:=⟨_,rfl⟩
 rw [← hV0] at x2 ⊢
 have HZ0:Hid (Ext W0 V0):=Lib.hid (x1.trans x2)
 clear x1 x2 hV0
 obtain ⟨DD,hDD⟩:∃ N,doF checkN d.fro q now=N:=⟨_,rfl⟩
 have HDD:=Lib.hid hDD
 clear hDD
 obtain ⟨m0,m1,m2,m3,m4,m5⟩:=arr6f (ext_blk HZ0.out HB0.out)
 obtain ⟨n0,n1,n2,n3,n4,n5,n6,n7,n8⟩:=arr9 (ext_blk HZ0.out HB1.out)
 have cc:=oDo_any d q A c now V0 (HDW.out.ext (HX0.out.trans HZ0.out)) (HQW.out.ext (HX0.out.trans HZ0.out)) (by have:=HL.out;omega) HL.out.2.1 (by have:=HL.out;omega)
 rw [HDD.out] at cc
 unfold outD frontV queV at cc
 go_upto_region 6 with (go_at_call 18;refine cc.mono ?_;clear cc m0 m1 m2 m3 m4 m5 n0 n1 n2 n3 n4 n5 n6 n7 n8;rintro e u1 ⟨d1,rfl,hf,hw,-,x⟩)
 obtain ⟨V1,hV⟩:∃ W,u1.alloc (.cells #[.int .i64 d1.next,.slice d1.oA d1.opn.length d1.oc,.slice d1.cA d1.accs.length d1.cc,.slice d1.uA d1.auts.length d1.uc,.slice d1.rA d1.ords.length d1.rc,.int .i64 d1.ser] 43)=W:=⟨_,rfl⟩
 try rw [hV]
 have HY1:Hid (Ext V0 V1):=Lib.hid (by rw [← hV];exact x.alloc _)
 have HZ1:Hid (Ext W0 V1):=Lib.hid (HZ0.out.trans HY1.out)
 have HC1:Hid (Blk V1 u1.heap.size 43 #[.int .i64 d1.next,.slice d1.oA d1.opn.length d1.oc,.slice d1.cA d1.accs.length d1.cc,.slice d1.uA d1.auts.length d1.uc,.slice d1.rA d1.ords.length d1.rc,.int .i64 d1.ser]):=Lib.hid (by rw [← hV];exact Blk.new _ _ _)
 have HK1:Hid (DoorW V1 V1.heap.size d1):=Lib.hid (hw.ext (by rw [← hV];exact (Ext.refl _).alloc _))
 have HF1:Hid (d1.fro=DD.1):=Lib.hid hf
 clear hf hw x hV
 obtain ⟨m0,m1,m2,m3,m4,m5⟩:=arr6f (ext_blk HZ1.out HB0.out)
 obtain ⟨n0,n1,n2,n3,n4,n5,n6,n7,n8⟩:=arr9 (ext_blk HZ1.out HB1.out)
 have cc:=rDo_any d q A c now V1 (HDW.out.ext (HX0.out.trans HZ1.out)) (HQW.out.ext (HX0.out.trans HZ1.out)) (by have:=HL.out;omega) HL.out.2.1 HL.out.2.2
 rw [HDD.out] at cc
 unfold outD frontV queV at cc
 go_upto_region 7 with (go_at_call 19;refine cc.mono ?_;clear cc m0 m1 m2 m3 m4 m5 n0 n1 n2 n3 n4 n5 n6 n7 n8;rintro e u2 ⟨d2,rfl,hf,hw,-,x⟩)
 obtain ⟨V2,hV⟩:∃ W,u2.alloc (.cells #[.int .i64 d2.next,.slice d2.oA d2.opn.length d2.oc,.slice d2.cA d2.accs.length d2.cc,.slice d2.uA d2.auts.length d2.uc,.slice d2.rA d2.ords.length d2.rc,.int .i64 d2.ser] 43)=W:=⟨_,rfl⟩
 try rw [hV]
 have HY2:Hid (Ext V1 V2):=Lib.hid (by rw [← hV];exact x.alloc _)
 have HZ2:Hid (Ext W0 V2):=Lib.hid (HZ1.out.trans HY2.out)
 have HC2:Hid (Blk V2 u2.heap.size 43 #[.int .i64 d2.next,.slice d2.oA d2.opn.length d2.oc,.slice d2.cA d2.accs.length d2.cc,.slice d2.uA d2.auts.length d2.uc,.slice d2.rA d2.ords.length d2.rc,.int .i64 d2.ser]):=Lib.hid (by rw [← hV];exact Blk.new _ _ _)
 have HK2:Hid (DoorW V2 V2.heap.size d2):=Lib.hid (hw.ext (by rw [← hV];exact (Ext.refl _).alloc _))
 have HF2:Hid (d2.fro=DD.1):=Lib.hid hf
 clear hf hw x hV
 have hs1:d1.fro=d2.fro:=HF1.out.trans HF2.out.symm
 have cS:=fun W (x:Ext V2 W)=>Same22_any d1 d2 W (HK1.out.ext (HY2.out.trans x)) (HK2.out.ext x)
 rw [decide_eq_true hs1] at cS
 obtain ⟨E,hE⟩:∃ E,chkF d.fro=E:=⟨_,rfl⟩
 have cC:=fun W (x:Ext V2 W)=>oCheck_any d (by have:=HL.out;omega) HL.out.2.1 W (HDW.out.ext (HX0.out.trans (HZ2.out.trans x)))
 have cR:=fun W (x:Ext V2 W)=>rCheck_any22 d (by have:=HL.out;omega) HL.out.2.1 W (HDW.out.ext (HX0.out.trans (HZ2.out.trans x)))
 rw [hE] at cC cR
 unfold frontV at cS cC cR
 have s1:(DD.2.1==DD.2.1)=true:=by simp
 have s2:((DD.2.2:Int)==(DD.2.2:Int))=true:=by simp
 have s3:((E:Int)==(E:Int))=true:=by simp
 clear hs1 hE
 obtain ⟨m0,m1,m2,m3,m4,m5⟩:=arr6f (ext_blk HY2.out HC1.out)
 obtain ⟨n0,n1,n2,n3,n4,n5⟩:=arr6f HC2.out
 obtain ⟨p0,p1,p2,p3,p4,p5⟩:=arr6f (ext_blk HZ2.out HB0.out)
 have m0i:=fun i:Later V2=>i.cell m0
 have m1i:=fun i:Later V2=>i.cell m1
 have m2i:=fun i:Later V2=>i.cell m2
 have m3i:=fun i:Later V2=>i.cell m3
 have m4i:=fun i:Later V2=>i.cell m4
 have m5i:=fun i:Later V2=>i.cell m5
 have n0i:=fun i:Later V2=>i.cell n0
 have n1i:=fun i:Later V2=>i.cell n1
 have n2i:=fun i:Later V2=>i.cell n2
 have n3i:=fun i:Later V2=>i.cell n3
 have n4i:=fun i:Later V2=>i.cell n4
 have n5i:=fun i:Later V2=>i.cell n5
 have p0i:=fun i:Later V2=>i.cell p0
 have p1i:=fun i:Later V2=>i.cell p1
 have p2i:=fun i:Later V2=>i.cell p2
 have p3i:=fun i:Later V2=>i.cell p3
 have p4i:=fun i:Later V2=>i.cell p4
 have p5i:=fun i:Later V2=>i.cell p5
 clear m0 m1 m2 m3 m4 m5 n0 n1 n2 n3 n4 n5 p0 p1 p2 p3 p4 p5
 go_upto_region 7 with (fail)
 refine wp_region_later (by kernel_rfl) (by kernel_rfl) ?_
 repeat (go_big_quiet_step (first
  | (go_at_call 20;exact Later.calls (cS _ (Later.ext _)))
  | (go_at_call 21;exact Later.calls (cC _ (Later.ext _)))
  | (go_at_call 22;exact Later.calls (cR _ (Later.ext _)))))
 refine wpQuiet_nil ?_
 rintro w8 ⟨i,hi⟩
 have x8:Ext V2 w8:=by rw [hi];exact i.ext
 clear hi i m0i m1i m2i m3i m4i m5i n0i n1i n2i n3i n4i n5i p0i p1i p2i p3i p4i p5i
 go_wp2
 go_ret
 exact ⟨rfl,HX0.out.trans (HZ2.out.trans x8)⟩
