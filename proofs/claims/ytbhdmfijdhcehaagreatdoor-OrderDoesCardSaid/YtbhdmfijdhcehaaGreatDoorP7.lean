/- Parts of the proofs, put together: HaEach, HaMix, HaNum, HaRefMix. -/
import Derived.BigRegion
import Derived.Deep.RegionHeld3
import Derived.Deep.RegionWith
import Derived.StillTailTactics
import Derived.Deep.LoopGhost
import Derived.Test.YtbhdmfijdhcehaaGreatDoorP3
import Derived.Test.YtbhdmfijdhcehaaGreatDoorP6
import Derived.Test.YtbhdmfijdhcehaaGreatDoorP15
set_option maxRecDepth 100000
set_option maxHeartbeats 64000000
namespace Go.Proofs.YtbhdmfijdhcehaaGreatDoor
open Go.RowKit Go.Shelf
theorem step_facts {w:World} {g gr ga:Nat} {T:TypeId} {cs:Array Value} {ur ua0:Value} (hb:Blk w g T cs) (hgr:w.cell? ⟨gr,0,none⟩=some ur) (hga:w.cell? ⟨ga,0,none⟩=some ua0) (hf:w.frozen? ⟨ga,0,none⟩=false)
  (hne:g≠ga) (hne2:gr≠g) (hne3:gr≠ga) (n k:Nat) (ua u:Value) :
  ∃ W,((w.drewN n).setCell ⟨ga,0,none⟩ ua).setCell ⟨g,k,none⟩ u=W∧Blk W g T (cs.setIfInBounds k u)∧W.cell? ⟨gr,0,none⟩=some ur∧W.cell? ⟨ga,0,none⟩=some ua∧W.frozen? ⟨ga,0,none⟩=false∧(∀ B,B≤g→B≤ga→Below B w W):=by
 refine ⟨_,rfl,((hb.drewN n).far (p:=⟨ga,0,none⟩) hne ua).set_ k u,?_,?_,?_,fun B h1 h2=>?_⟩
 ·rw [World.cell?_setCell_other _ _ _ _ (fun h=>hne2 (by cases h;rfl)),World.cell?_setCell_other _ _ _ _ (fun h=>hne3 (by cases h;rfl))];exact hgr
 ·rw [World.cell?_setCell_other _ _ _ _ (fun h=>hne (by cases h;rfl))]
  exact World.cell?_setCell_same' _ _ _ (by rw [World.cell?_drewN,hga];rfl)
 ·rw [World.frozen?_setCell,World.frozen?_setCell];exact hf
 ·exact ((below_drewN (Below.refl B w) n).setCell (p:=⟨ga,0,none⟩) h2 ua).setCell (p:=⟨g,k,none⟩) h1 u
theorem each1_any (g gr ga r x y z all:Nat) (hr:r<8) (hx:x<18446744073709551616) (hy:y<18446744073709551616) (hz:z<18446744073709551616) (hall:all<18446744073709551616) (w:World)
  (hb:Blk w g 199 #[.int .u64 x,.int .u64 y,.int .u64 z]) (hgr:w.cell? ⟨gr,0,none⟩=some (.int .i64 r)) (hga:w.cell? ⟨ga,0,none⟩=some (.int .u64 all)) (hf:w.frozen? ⟨ga,0,none⟩=false) (hne:g≠ga) (hne2:gr≠g) (hne3:gr≠ga) :
  Calls Tryz.prog 181 #[.pointer (some ⟨g,0,none⟩),.func (.func 182) #[] #[.pointer (some ⟨gr,0,none⟩),.pointer (some ⟨ga,0,none⟩)]] w fun e w'=>e=.returned (.tuple #[]) ∧
   Blk w' g 199 #[.int .u64 (elem r 0 x:Nat),.int .u64 (elem r 1 y:Nat),.int .u64 (elem r 2 z:Nat)] ∧
   w'.cell? ⟨ga,0,none⟩=some (.int .u64 (addM bP (addM bP (addM bP all (elem r 0 x)) (elem r 1 y)) (elem r 2 z):Nat))∧(∀ B,B≤g→B≤ga→Below B w w'):=by
 have c0:=hb.cell 0
 have c1:=hb.cell 1
 have c2:=hb.cell 2
 have f0:=hb.frozen 0
 simp at c0 c1 c2
 obtain ⟨p,hp⟩:∃ p,p=elem r 0 x:=⟨_,rfl⟩
 obtain ⟨q,hq⟩:∃ q,q=elem r 1 y:=⟨_,rfl⟩
 obtain ⟨t,ht⟩:∃ t,t=elem r 2 z:=⟨_,rfl⟩
 have hp1:p<bP:=by rw [hp];exact powM_lt (by decide) _ _
 have hq1:q<bP:=by rw [hq];exact powM_lt (by decide) _ _
 obtain ⟨a1,ha1⟩:∃ a,a=addM bP all p:=⟨_,rfl⟩
 obtain ⟨a2,ha2⟩:∃ a,a=addM bP a1 q:=⟨_,rfl⟩
 obtain ⟨a3,ha3⟩:∃ a,a=addM bP a2 t:=⟨_,rfl⟩
 have l1:a1<bP:=by rw [ha1];exact addM_lt' (by decide) _ _
 have l2:a2<bP:=by rw [ha2];exact addM_lt' (by decide) _ _
 have m1:=fun W=>mix1_any r 0 x all gr ga hr (by omega) hx hall W
 have m2:=fun W=>mix1_any r 1 y a1 gr ga hr (by omega) hy (Nat.lt_trans l1 (by decide)) W
 have m3:=fun W=>mix1_any r 2 z a2 gr ga hr (by omega) hz (Nat.lt_trans l2 (by decide)) W
 rw [← hp,← ha1] at m1
 rw [← hq,← ha2] at m2
 rw [← ht,← ha3] at m3
 rw [← hp,← hq,← ht,← ha1,← ha2,← ha3]
 have HB:=Lib.hid hb
 clear hp hq ht ha1 ha2 ha3 hp1 hq1 l1 l2 hr hx hy hz hall hb
 go_enter Tryz.func181,Tryz.ntmps181
 go_wp2
 refine wp_loop_rounds 4 ?_
 rw [rounds_succ]
 go_wp2
 go_quiet (fail)
 go_wp2
 go_region_with (go_at_call 182;refine (m1 _ (by simp [hgr]) (by simp [hga]) (by simp [hf])).mono ?_;rintro e w' ⟨rfl,rfl⟩)
 obtain ⟨W1,e1,b1,r1,a1',f1,l1⟩:=step_facts HB.out hgr hga hf hne hne2 hne3 (nq+1) 0 (.int .u64 (a1:Int)) (.int .u64 (p:Int))
 rw [e1]
 have d0:=b1.cell 1
 have d1:=b1.frozen 1
 have d2:=b1.frozen 0
 simp at d0 d1
 have B1:=Lib.hid b1
 clear e1 b1 c0 c1 c2 f0 hgr hga hf m1
 go_wp2
 rw [rounds_succ]
 go_wp2
 go_quiet (fail)
 go_wp2
 go_region_with (go_at_call 182;refine (m2 _ (by simp [r1]) (by simp [a1']) (by simp [f1])).mono ?_;rintro e w' ⟨rfl,rfl⟩)
 obtain ⟨W2,e2,b2,r2,a2',f2,l2⟩:=step_facts B1.out r1 a1' f1 hne hne2 hne3 (nq+1) 1 (.int .u64 (a2:Int)) (.int .u64 (q:Int))
 rw [e2]
 have d3:=b2.cell 2
 have d4:=b2.frozen 2
 have d5:=b2.frozen 0
 simp at d3 d4
 have B2:=Lib.hid b2
 clear e2 b2 d0 d1 d2 r1 a1' f1 m2
 go_wp2
 rw [rounds_succ]
 go_wp2
 go_quiet (fail)
 go_wp2
 go_region_with (go_at_call 182;refine (m3 _ (by simp [r2]) (by simp [a2']) (by simp [f2])).mono ?_;rintro e w' ⟨rfl,rfl⟩)
 obtain ⟨W3,e3,b3,r3,a3',f3,l3⟩:=step_facts B2.out r2 a2' f2 hne hne2 hne3 (nq+1) 2 (.int .u64 (a3:Int)) (.int .u64 (t:Int))
 rw [e3]
 have B3:=Lib.hid b3
 clear e3 b3 d3 d4 d5 r2 a2' f2 m3
 go_wp2
 rw [rounds_succ]
 go_wp2
 go_end0
 exact ⟨rfl,B3.out,a3',fun B h1 h2=>((l1 B h1 h2).trans (l2 B h1 h2)).trans (l3 B h1 h2)⟩
theorem step_facts2 {w:World} {g ga:Nat} {T:TypeId} {cs:Array Value} {ua0:Value} (hb:Blk w g T cs) (hga:w.cell? ⟨ga,0,none⟩=some ua0) (hne:g≠ga) (n k:Nat) (u:Value) :
  ∃ W,(w.drewN n).setCell ⟨g,k,none⟩ u=W∧Blk W g T (cs.setIfInBounds k u)∧W.cell? ⟨ga,0,none⟩=some ua0∧(∀ B,B≤g→Below B w W):=by
 refine ⟨_,rfl,(hb.drewN n).set_ k u,?_,fun B h1=>?_⟩
 ·rw [World.cell?_setCell_other _ _ _ _ (fun h=>hne (by cases h;rfl))];exact hga
 ·exact (below_drewN (Below.refl B w) n).setCell (p:=⟨g,k,none⟩) h1 u
theorem each2_any (g ga x y z all:Nat) (hx:x<18446744073709551616) (hy:y<18446744073709551616) (hz:z<18446744073709551616) (hall:all<18446744073709551616) (w:World)
  (hb:Blk w g 199 #[.int .u64 x,.int .u64 y,.int .u64 z]) (hga:w.cell? ⟨ga,0,none⟩=some (.int .u64 all)) (hne:g≠ga) :
  Calls Tryz.prog 181 #[.pointer (some ⟨g,0,none⟩),.func (.func 184) #[] #[.pointer (some ⟨ga,0,none⟩)]] w fun e w'=>e=.returned (.tuple #[]) ∧
   Blk w' g 199 #[.int .u64 (addM bP x all:Nat),.int .u64 (addM bP y all:Nat),.int .u64 (addM bP z all:Nat)]∧(∀ B,B≤g→Below B w w'):=by
 have c0:=hb.cell 0
 have f0:=hb.frozen 0
 simp at c0
 obtain ⟨p,hp⟩:∃ p,p=addM bP x all:=⟨_,rfl⟩
 obtain ⟨q,hq⟩:∃ q,q=addM bP y all:=⟨_,rfl⟩
 obtain ⟨t,ht⟩:∃ t,t=addM bP z all:=⟨_,rfl⟩
 have m1:=fun i W=>mix2_any i x all ga hx hall W
 have m2:=fun i W=>mix2_any i y all ga hy hall W
 have m3:=fun i W=>mix2_any i z all ga hz hall W
 rw [← hp] at m1
 rw [← hq] at m2
 rw [← ht] at m3
 rw [← hp,← hq,← ht]
 have HB:=Lib.hid hb
 clear hp hq ht hx hy hz hall hb
 go_enter Tryz.func181,Tryz.ntmps181
 go_wp2
 refine wp_loop_rounds 4 ?_
 rw [rounds_succ]
 go_wp2
 go_quiet (fail)
 go_wp2
 go_region_with (go_at_call 184;refine (m1 _ _ (by simp [hga])).mono ?_;rintro e w' ⟨rfl,rfl⟩)
 obtain ⟨W1,e1,b1,a1',l1⟩:=step_facts2 HB.out hga hne (nq+1) 0 (.int .u64 (p:Int))
 rw [e1]
 have d0:=b1.cell 1
 have d1:=b1.frozen 1
 have d2:=b1.frozen 0
 simp at d0 d1
 have B1:=Lib.hid b1
 clear e1 b1 c0 f0 hga m1
 go_wp2
 rw [rounds_succ]
 go_wp2
 go_quiet (fail)
 go_wp2
 go_region_with (go_at_call 184;refine (m2 _ _ (by simp [a1'])).mono ?_;rintro e w' ⟨rfl,rfl⟩)
 obtain ⟨W2,e2,b2,a2',l2⟩:=step_facts2 B1.out a1' hne (nq+1) 1 (.int .u64 (q:Int))
 rw [e2]
 have d3:=b2.cell 2
 have d4:=b2.frozen 2
 have d5:=b2.frozen 0
 simp at d3 d4
 have B2:=Lib.hid b2
 clear e2 b2 d0 d1 d2 a1' m2
 go_wp2
 rw [rounds_succ]
 go_wp2
 go_quiet (fail)
 go_wp2
 go_region_with (go_at_call 184;refine (m3 _ _ (by simp [a2'])).mono ?_;rintro e w' ⟨rfl,rfl⟩)
 obtain ⟨W3,e3,b3,a3',l3⟩:=step_facts2 B2.out a2' hne (nq+1) 2 (.int .u64 (t:Int))
 rw [e3]
 have B3:=Lib.hid b3
 clear e3 b3 d3 d4 d5 a2' m3
 go_wp2
 rw [rounds_succ]
 go_wp2
 go_end0
 exact ⟨rfl,B3.out,fun B h1=>((l1 B h1).trans (l2 B h1)).trans (l3 B h1)⟩
def val3 (s:Nat × Nat × Nat):Array Value:=#[.int .u64 (s.1:Int),.int .u64 (s.2.1:Int),.int .u64 (s.2.2:Int)]
def ok3 (s:Nat × Nat × Nat):Prop:=s.1<18446744073709551616∧s.2.1<18446744073709551616∧s.2.2<18446744073709551616
theorem rnd_lt (k:Nat) (s:Nat × Nat × Nat):(rnd k s).1<bP∧(rnd k s).2.1<bP∧(rnd k s).2.2<bP:=⟨addM_lt' (by decide) _ _,addM_lt' (by decide) _ _,addM_lt' (by decide) _ _⟩
theorem rnds_ok {s:Nat × Nat × Nat} (h:ok3 s):∀ k,ok3 (rnds k s)
 | 0=>h
 | k+1=>by
  obtain ⟨a,b,c⟩:=rnd_lt k (rnds k s)
  exact ⟨Nat.lt_trans a (by decide),Nat.lt_trans b (by decide),Nat.lt_trans c (by decide)⟩
theorem start3 (w:World) (c1 c2 c3:Array Value) (T1 T2 T3:TypeId):∃ W,(((w.alloc (.cells c1 T1)).alloc (.cells c2 T2)).alloc (.cells c3 T3))=W ∧
  Blk W w.heap.size T1 c1∧Blk W (w.heap.size+1) T2 c2∧Blk W (w.heap.size+1+1) T3 c3∧Ext w W∧W.heap.size=w.heap.size+3:=by
 refine ⟨_,rfl,((Blk.new w T1 c1).alloc _).alloc _,?_,?_,(((Ext.refl w).alloc _).alloc _).alloc _,by simp⟩
 ·have:=(Blk.new (w.alloc (.cells c1 T1)) T2 c2).alloc (.cells c3 T3)
  simpa using this
 ·have:=Blk.new ((w.alloc (.cells c1 T1)).alloc (.cells c2 T2)) T3 c3
  simpa using this
theorem sum0 (x:Nat):addM bP 0 x=x % bP:=by unfold addM;rw [Nat.zero_add]
theorem mix_any (s:Nat × Nat × Nat) (hs:ok3 s) (w:World) :
  Calls Tryz.prog 169 #[.agg (val3 s)] w fun e w'=>e=.returned (.agg (val3 (mix s)))∧Ext w w':=by
 have hmf:∀ (fn:Fn) (first cap:Array Value) (w:World),(Instr.makeFunc fn first cap).run Tryz.prog w=.ok (.func fn first cap) w:=fun _ _ _ _=>rfl
 unfold val3
 go_enter Tryz.func169,Tryz.ntmps169
 go_wp2
 obtain ⟨W0,e0,-,b1,b2,x0,z0⟩:=start3 w #[.int .u64 (s.1:Int),.int .u64 (s.2.1:Int),.int .u64 (s.2.2:Int)] #[.int .u64 0,.int .u64 0,.int .u64 0] #[.int .u64 (s.1:Int),.int .u64 (s.2.1:Int),.int .u64 (s.2.2:Int)] 187 187 199
 rw [e0]
 obtain ⟨g,hg⟩:∃ g,g=w.heap.size+1+1:=⟨_,rfl⟩
 rw [← hg] at b2 ⊢
 obtain ⟨g1,hg1⟩:∃ g1,g1=w.heap.size+1:=⟨_,rfl⟩
 rw [← hg1] at b1 ⊢
 have hgz:w.heap.size<g:=by omega
 have hg1g:g1<g:=by omega
 have hg1w:w.heap.size≤g1:=by omega
 have hgW:g<W0.heap.size:=by omega
 clear e0 hg hg1 z0
 go_loopg [7] 8 (fun n i wr=>∃ k:Nat,k+n=8∧i=.int .i64 k∧Blk wr g 199 (val3 (rnds k s))∧Blk wr g1 187 #[.int .u64 0,.int .u64 0,.int .u64 0]∧Ext w wr)
 case atStart=>exact ⟨0,rfl,rfl,b2,b1,x0⟩
 case round =>
  obtain ⟨k,hk,rfl,hb,hb1,hx⟩:=hrel
  have hok:=rnds_ok hs k
  clear b1 b2
  by_cases h:k<8
  ·obtain ⟨x,hx'⟩:∃ x,x=(rnds k s).1:=⟨_,rfl⟩
   obtain ⟨y,hy'⟩:∃ y,y=(rnds k s).2.1:=⟨_,rfl⟩
   obtain ⟨z,hz'⟩:∃ z,z=(rnds k s).2.2:=⟨_,rfl⟩
   obtain ⟨ox,oy,oz⟩:=hok
   have hnx:rnds (k+1) s=rnd k (x,y,z):=by rw [hx',hy',hz'];rfl
   have hb:Blk wr g 199 #[.int .u64 (x:Int),.int .u64 (y:Int),.int .u64 (z:Int)]:=by rw [hx',hy',hz'];exact hb
   rw [← hx'] at ox
   rw [← hy'] at oy
   rw [← hz'] at oz
   clear hx' hy' hz'
   have hlt:=hb.lt
   have k8:=h
   obtain ⟨p,hp⟩:∃ p,p=elem k 0 x:=⟨_,rfl⟩
   obtain ⟨q,hq⟩:∃ q,q=elem k 1 y:=⟨_,rfl⟩
   obtain ⟨t,ht⟩:∃ t,t=elem k 2 z:=⟨_,rfl⟩
   have hp1:p<bP:=by rw [hp];exact powM_lt (by decide) _ _
   have hq1:q<bP:=by rw [hq];exact powM_lt (by decide) _ _
   have ht1:t<bP:=by rw [ht];exact powM_lt (by decide) _ _
   obtain ⟨al,hal⟩:∃ al,al=addM bP (addM bP p q) t:=⟨_,rfl⟩
   have hal1:al<bP:=by rw [hal];exact addM_lt' (by decide) _ _
   have hsum:addM bP (addM bP (addM bP 0 p) q) t=al:=by rw [sum0,Nat.mod_eq_of_lt hp1,hal]
   obtain ⟨W2,e2,d1,d2,d3,d4⟩:∃ W2,(wr.alloc (.cells #[.int .i64 (k:Int)] 3)).alloc (.cells #[.int .u64 0] 22)=W2∧Blk W2 g 199 #[.int .u64 (x:Int),.int .u64 (y:Int),.int .u64 (z:Int)]∧Blk W2 wr.heap.size 3 #[.int .i64 (k:Int)]∧Blk W2 (wr.heap.size+1) 22 #[.int .u64 0]∧Ext wr W2 :=
    ⟨_,rfl,(hb.alloc _).alloc _,(Blk.new wr _ _).alloc _,by have:=Blk.new (wr.alloc (.cells #[.int .i64 (k:Int)] 3)) 22 #[.int .u64 0];simpa using this,((Ext.refl wr).alloc _).alloc _⟩
   have m1:=each1_any g wr.heap.size (wr.heap.size+1) k x y z 0 h ox oy oz (by decide) W2 d1 (by have:=d2.cell 0;simpa using this) (by have:=d3.cell 0;simpa using this) (d3.frozen 0) (by omega) (by omega) (by omega)
   rw [← hp,← hq,← ht,hsum] at m1
   have m2:=fun W=>each2_any g (wr.heap.size+1) p q t al (Nat.lt_trans hp1 (by decide)) (Nat.lt_trans hq1 (by decide)) (Nat.lt_trans ht1 (by decide)) (Nat.lt_trans hal1 (by decide)) W
   have HR:Hid (val3 (rnds (k+1) s)=#[.int .u64 (addM bP p al:Nat),.int .u64 (addM bP q al:Nat),.int .u64 (addM bP t al:Nat)]):=by
    show _=_
    rw [hnx];unfold rnd;simp only [← hp,← hq,← ht,← hal];rfl
   have HK:=Lib.hid hk
   have hg0:g≠wr.heap.size+1:=by omega
   clear hk hb hp hq ht hp1 hq1 ht1 hal hal1 hsum hnx d1 d2 d3 ox oy oz
   have hb2:Blk W2 g1 187 #[.int .u64 0,.int .u64 0,.int .u64 0]:=by rw [← e2];exact (hb1.alloc _).alloc _
   have dk:decide ((k:Int)<8)=true:=by simp;omega
   have hsz:=hx.size
   have X2:=Lib.hid (hx.trans d4)
   have HB2:=Lib.hid hb2
   clear hb2 hb1
   go_wp2_with (go_at_call 181;refine m1.mono ?_;clear m1;rintro e W3 ⟨rfl,b3,c3,l3⟩)
   refine (m2 _ b3 c3 hg0).mono ?_
   rintro e W4 ⟨rfl,b4,l4⟩
   have hk:=HK.out
   have B1:Blk W4 g1 187 #[.int .u64 0,.int .u64 0,.int .u64 0]:=(HB2.out.below (l3 g (Nat.le_refl _) (by omega)) hg1g).below (l4 g (Nat.le_refl _)) hg1g
   have X4:Ext w W4:=Ext.of ((X2.out.out.trans (l3 _ (by omega) (by omega))).trans (l4 _ (by omega)))
   have B4:=Lib.hid b4
   clear b3 b4 l3 l4 c3 m2 e2
   go_wp2
   go_roundg (gk-1)
   case measure=>omega
   case rel=>exact ⟨k+1,by omega,int_congr (by omega),by rw [HR.out];exact B4.out,B1,X4⟩
  ·obtain rfl:k=8:=by omega
   have c0:=hb.cell 0
   have c1:=hb.cell 1
   have c2:=hb.cell 2
   simp [val3] at c0 c1 c2
   have v0:=hb1.cell 0
   have v1:=hb1.cell 1
   have v2:=hb1.cell 2
   have f0:=hb1.frozen 0
   have f1:=hb1.frozen 1
   have f2:=hb1.frozen 2
   simp at v0 v1 v2
   clear hk hok hb hb1
   obtain ⟨u,hu⟩:∃ u,u=rnds 8 s:=⟨_,rfl⟩
   rw [← hu] at c0 c1 c2
   have HU:=Lib.hid hu
   clear hu
   go_wp2
   refine bodyPost_ret (v:=.agg #[.int .u64 (u.1:Int),.int .u64 (u.2.1:Int),.int .u64 (u.2.2:Int)]) (by simp [results,Tryz.results169,go_sem,v0,v1,v2]) rfl ⟨by rw [HU.out];rfl,?_⟩
   exact ((hx.setCell (p:=⟨g1,0,none⟩) hg1w _).setCell (p:=⟨g1,1,none⟩) hg1w _).setCell (p:=⟨g1,2,none⟩) hg1w _
theorem add64_0 (x y:Nat) (w:World):(callFunc 150 #[.int .u64 (x:Int),.int .u64 (y:Int),.int .u64 0]).run Tryz.prog w =
  .ok (.value (.tuple #[.int .u64 (((x+y) % 18446744073709551616:Nat):Int),.int .u64 (((x+y) / 18446744073709551616:Nat):Int)])) w:=by
 have h:=Any7.bits_Add64 Tryz.lays25 x y 0 (by decide) w
 rw [Nat.add_zero] at h
 exact h
def numM (a b m:Nat):Nat:=if m=0 then 0 else (a*2305843009213693952+b) % m
theorem Num_any (a b m:Nat) (ha:a<18446744073709551616) (hb:b<18446744073709551616) (hm:m<18446744073709551616) (w:World) :
  Calls Tryz.prog 129 #[.agg #[.int .u64 a,.int .u64 b],.int .u64 m] w fun e w'=>e=.returned (.int .u64 (numM a b m:Nat))∧Ext w w':=by
 rcases Nat.eq_zero_or_pos m with rfl|h0
 ·have e:numM a b 0=0:=rfl
  rw [e]
  clear ha hb hm e
  go_enter Tryz.func129,Tryz.ntmps129
  go_wp2
  go_ret
  exact ⟨rfl,(Ext.refl w).alloc _⟩
 ·obtain ⟨hi,hhi⟩:∃ hi,hi=a*2305843009213693952 / 18446744073709551616:=⟨_,rfl⟩
  obtain ⟨lo,hlo⟩:∃ lo,lo=a*2305843009213693952 % 18446744073709551616:=⟨_,rfl⟩
  have c1:∀ w,Calls Tryz.prog 148 #[.int .u64 (a:Int),.int .u64 2305843009213693952] w fun e w'=>e=.returned (.tuple #[.int .u64 (hi:Int),.int .u64 (lo:Int)])∧w=w':=fun w=>by
   rw [hhi,hlo];exact (Tryz.bits_Mul64 a 2305843009213693952 ha (by decide) w).mono fun e w' ⟨he,hw⟩=>⟨he,hw.symm⟩
  have hhi1:hi≤2305843009213693952:=by rw [hhi];omega
  have c2:=fun w=>add64_0 lo b w
  obtain ⟨more,hmore⟩:∃ x,x=(lo+b) / 18446744073709551616:=⟨_,rfl⟩
  obtain ⟨lo2,hlo2⟩:∃ x,x=(lo+b) % 18446744073709551616:=⟨_,rfl⟩
  rw [← hmore,← hlo2] at c2
  have hm1:more≤1:=by rw [hmore];omega
  obtain ⟨h2,hh2⟩:∃ x,x=(hi+more) % m:=⟨_,rfl⟩
  have k1:((hi:Int)+(more:Int)) % (m:Int)=(h2:Int):=by rw [hh2];simp
  have hh:h2<m:=by rw [hh2];exact Nat.mod_lt _ h0
  obtain ⟨q,hq⟩:∃ q,q=(h2*18446744073709551616+lo2) / m:=⟨_,rfl⟩
  have E:(h2*18446744073709551616+lo2) % m=numM a b m:=by
   unfold numM
   rw [if_neg (by omega)]
   have e1:a*2305843009213693952+b=(hi+more)*18446744073709551616+lo2:=by omega
   rw [e1,hh2]
   rw [Nat.add_mod,Nat.mul_mod,Nat.mod_mod,← Nat.mul_mod,← Nat.add_mod]
  obtain ⟨r,hr⟩:∃ r,r=numM a b m:=⟨_,rfl⟩
  have c3:=fun w=>div64 h2 lo2 m hh (by omega) hm w
  rw [E,← hq,← hr] at c3
  rw [← hr]
  have m0:((m:Int)==0)=false:=by simp;omega
  have hs1:(hi:Int)+(more:Int)<18446744073709551616:=by omega
  clear hhi hlo hmore hlo2 hh2 hq hr E ha hb hm hh
  go_enter Tryz.func129,Tryz.ntmps129
  go_wp2_with (first|(go_at_call 148;refine (c1 _).mono ?_;clear c1;rintro e w' ⟨rfl,rfl⟩)|(go_at_call 151;refine (c3 _).mono ?_;clear c3;rintro e w' ⟨rfl,n,rfl⟩))
  go_ret
  exact ⟨rfl,((Ext.refl w).alloc _).drewN _⟩
theorem plus_any (a b m:Nat) (ha:a<m) (hb:b<m) (hm:m<18446744073709551616) (w:World) :
  Calls Tryz.prog 156 #[.int .u64 a,.int .u64 b,.int .u64 m] w fun e w'=>e=.returned (.int .u64 ((a+b) % m:Nat))∧w=w':=by
 by_cases h:m≤a+b
 ·have e:(a+b) % m=a+b-m:=by rw [Nat.mod_eq_sub_mod h,Nat.mod_eq_of_lt (by omega)]
  rw [e]
  have d1:decide ((a:Int) ≥ (m:Int)-(b:Int))=true:=by simp;omega
  clear e
  go_enter Tryz.func156,Tryz.ntmps156
  go_wp2
  go_ret
  exact ⟨ret_one (by omega),rfl⟩
 ·have e:(a+b) % m=a+b:=Nat.mod_eq_of_lt (by omega)
  rw [e]
  clear e
  go_enter Tryz.func156,Tryz.ntmps156
  go_wp2
  go_ret
  exact ⟨ret_one (by omega),rfl⟩
theorem rNum_any (a b m:Nat) (hm:m<18446744073709551616) (w:World) :
  Calls Tryz.prog 135 #[.agg #[.int .u64 a,.int .u64 b],.int .u64 m] w fun e w'=>e=.returned (.int .u64 (numM a b m:Nat))∧Ext w w':=by
 rcases Nat.eq_zero_or_pos m with rfl|h0
 ·have e:numM a b 0=0:=rfl
  rw [e]
  clear hm e
  go_enter Tryz.func135,Tryz.ntmps135
  go_wp2
  go_ret
  exact ⟨rfl,(Ext.refl w).alloc _⟩
 ·obtain ⟨x,hx⟩:∃ x,x=a % m:=⟨_,rfl⟩
  obtain ⟨y,hy⟩:∃ y,y=b % m:=⟨_,rfl⟩
  have k1:(a:Int) % (m:Int)=(x:Int):=by rw [hx];simp
  have k2:(b:Int) % (m:Int)=(y:Int):=by rw [hy];simp
  have hym:y<m:=by rw [hy];exact Nat.mod_lt _ h0
  obtain ⟨r,hr⟩:∃ r,r=numM a b m:=⟨_,rfl⟩
  have hf:∀ z,z=a*2 ^ 61 % m→(z+y) % m=r:=by
   intro z hz
   rw [hr,hz,hy]
   unfold numM
   rw [if_neg (by omega),← Nat.add_mod]
  have hst:∀ j,(a*2 ^ j % m+a*2 ^ j % m) % m=a*2 ^ (j+1) % m:=by
   intro j
   rw [← Nat.add_mod,Nat.pow_succ,← Nat.mul_assoc,Nat.mul_two]
  have hx0:x=a*2 ^ 0 % m:=by rw [hx];simp
  have m0:((m:Int)==0)=false:=by simp;omega
  rw [← hr]
  have HF:=Lib.hid hf
  have HS:=Lib.hid hst
  have HX:=Lib.hid hx0
  have HM:=Lib.hid hm
  clear hr hx hy hf hst hx0
  go_enter Tryz.func135,Tryz.ntmps135
  go_wp2
  simp only [k1]
  clear k1
  go_loopg [5,6] 61 (fun n s5 s6 wr=>∃ j z:Nat,j+n=61∧s5=.int .u64 z∧s6=.int .i64 j∧Hid (z=a*2 ^ j % m)∧w.alloc (.cells #[.int .u64 (a:Int),.int .u64 (b:Int)] 161)=wr)
  case atStart=>exact ⟨0,x,rfl,rfl,rfl,HX,rfl⟩
  case round =>
   obtain ⟨j,z,hj,rfl,rfl,hz,rfl⟩:=hrel
   have hzm:z<m:=by rw [hz.out];exact Nat.mod_lt _ h0
   by_cases h:j<61
   ·have c:=fun W=>plus_any z z m hzm hzm HM.out W
    obtain ⟨z',hz'⟩:∃ z',z'=(z+z) % m:=⟨_,rfl⟩
    rw [← hz'] at c
    have HZ:Hid (z'=a*2 ^ (j+1) % m):=by show _=_;rw [hz',hz.out,HS.out]
    clear hz' hm
    go_wp2_with (go_at_call 156;refine (c _).mono ?_;clear c;rintro e w' ⟨rfl,rfl⟩)
    go_roundg (gk-1)
    case measure=>omega
    case rel=>exact ⟨j+1,z',by omega,rfl,int_congr (by omega),HZ,rfl⟩
   ·obtain rfl:j=61:=by omega
    have c:=fun W=>plus_any z y m hzm hym HM.out W
    rw [HF.out z hz.out] at c
    clear hm
    go_wp2_with (go_at_call 156;refine (c _).mono ?_;clear c;rintro e w' ⟨rfl,rfl⟩)
    go_ret
    exact ⟨rfl,(Ext.refl w).alloc _⟩
theorem elem_ref (r i a:Nat):powM bP (addM bP a (addM bP (powM bP (3*r+i+1) 3) 7)) 17=elem r i a:=by
 have e:addM bP a (addM bP (powM bP (3*r+i+1) 3) 7)=addM bP a ((3*r+i+1)*(3*r+i+1)*(3*r+i+1)+7):=by
  unfold addM powM
  rw [Nat.pow_succ,Nat.pow_two]
  simp [Nat.add_mod]
 rw [e];rfl
theorem round_any (s:Nat × Nat × Nat) (r:Nat) (hr:r<8) (w:World) :
  Calls Tryz.prog 189 #[.agg (val3 s),.int .i64 r] w fun e w'=>e=.returned (.agg (val3 (rnd r s)))∧Ext w w':=by
 obtain ⟨x,y,z⟩:=s
 obtain ⟨p,hp⟩:∃ p,p=elem r 0 x:=⟨_,rfl⟩
 obtain ⟨q,hq⟩:∃ q,q=elem r 1 y:=⟨_,rfl⟩
 obtain ⟨t,ht⟩:∃ t,t=elem r 2 z:=⟨_,rfl⟩
 obtain ⟨u,hu⟩:∃ u,u=addM bP p q:=⟨_,rfl⟩
 obtain ⟨al,hal⟩:∃ al,al=addM bP u t:=⟨_,rfl⟩
 have HR:Hid (val3 (rnd r (x,y,z))=#[.int .u64 (addM bP p al:Nat),.int .u64 (addM bP q al:Nat),.int .u64 (addM bP t al:Nat)]):=by
  show _=_
  unfold rnd;simp only [← hp,← hq,← ht,← hu,← hal];rfl
 obtain ⟨n0,hn0⟩:∃ n,n=3*r+0+1:=⟨_,rfl⟩
 obtain ⟨n1,hn1⟩:∃ n,n=3*r+1+1:=⟨_,rfl⟩
 obtain ⟨n2,hn2⟩:∃ n,n=3*r+2+1:=⟨_,rfl⟩
 have hx:=elem_ref r 0 x
 have hy:=elem_ref r 1 y
 have hz:=elem_ref r 2 z
 rw [← hn0,← hp] at hx
 rw [← hn1,← hq] at hy
 rw [← hn2,← ht] at hz
 have a1:=fun w=>raised_any n0 3 (by omega) w
 have a2:=fun w=>r1Add_any (powM bP n0 3) 7 w
 have a3:=fun w=>r1Add_any x (addM bP (powM bP n0 3) 7) w
 have a4:=fun w=>raised_any (addM bP x (addM bP (powM bP n0 3) 7)) 17 (by omega) w
 rw [hx] at a4
 have b1:=fun w=>raised_any n1 3 (by omega) w
 have b2:=fun w=>r1Add_any (powM bP n1 3) 7 w
 have b3:=fun w=>r1Add_any y (addM bP (powM bP n1 3) 7) w
 have b4:=fun w=>raised_any (addM bP y (addM bP (powM bP n1 3) 7)) 17 (by omega) w
 rw [hy] at b4
 have c1:=fun w=>raised_any n2 3 (by omega) w
 have c2:=fun w=>r1Add_any (powM bP n2 3) 7 w
 have c3:=fun w=>r1Add_any z (addM bP (powM bP n2 3) 7) w
 have c4:=fun w=>raised_any (addM bP z (addM bP (powM bP n2 3) 7)) 17 (by omega) w
 rw [hz] at c4
 have sg:∀ a b w,Calls Tryz.prog 172 #[.int .u64 (a:Nat),.int .u64 (b:Nat)] w fun e w'=>e=.returned (.int .u64 (addM bP a b:Nat))∧w'=w:=fun a b w=>(r1Add_any a b w).mono fun e w' h=>⟨h.1,h.2.symm⟩
 have g1:addM bP p q=u:=hu.symm
 have g2:addM bP u t=al:=hal.symm
 have d1:=fun w=>r1Add_any p al w
 have d2:=fun w=>r1Add_any q al w
 have d3:=fun w=>r1Add_any t al w
 generalize powM bP n0 3=m0 at *
 generalize powM bP n1 3=m1 at *
 generalize powM bP n2 3=m2 at *
 generalize addM bP m0 7=v0 at *
 generalize addM bP m1 7=v1 at *
 generalize addM bP m2 7=v2 at *
 generalize addM bP x v0=w0 at *
 generalize addM bP y v1=w1 at *
 generalize addM bP z v2=w2 at *
 have z0:(r:Int)<8:=by omega
 have k0:3*(r:Int)+1=(n0:Int):=by omega
 have k1:(n0:Int)+1=(n1:Int):=by omega
 have k2:3*(r:Int)+2+1=(n2:Int):=by omega
 have y0:(n0:Int)<30:=by omega
 have y1:(n1:Int)<30:=by omega
 have y2:(n2:Int)<30:=by omega
 rw [HR.out]
 clear hp hq ht hu hal hn0 hn1 hn2 hx hy hz hr HR
 simp only [val3]
 generalize addM bP p al=o0 at *
 generalize addM bP q al=o1 at *
 generalize addM bP t al=o2 at *
 go_enter Tryz.func189,Tryz.ntmps189
 go_wp2
 refine wp_loop_rounds 4 ?_
 rw [rounds_succ]
 go_wp2_with (first|(go_at_call 203;refine (a1 _).mono ?_;clear a1;rintro e w' ⟨rfl,rfl⟩)|(go_at_call 172;refine (a2 _).mono ?_;clear a2;rintro e w' ⟨rfl,rfl⟩)|(go_at_call 172;refine (a3 _).mono ?_;clear a3;rintro e w' ⟨rfl,rfl⟩)|(go_at_call 203;refine (a4 _).mono ?_;clear a4;rintro e w' ⟨rfl,rfl⟩))
 rw [rounds_succ]
 go_wp2_with (first|(go_at_call 203;refine (b1 _).mono ?_;clear b1;rintro e w' ⟨rfl,rfl⟩)|(go_at_call 172;refine (b2 _).mono ?_;clear b2;rintro e w' ⟨rfl,rfl⟩)|(go_at_call 172;refine (b3 _).mono ?_;clear b3;rintro e w' ⟨rfl,rfl⟩)|(go_at_call 203;refine (b4 _).mono ?_;clear b4;rintro e w' ⟨rfl,rfl⟩))
 rw [rounds_succ]
 go_wp2_with (first|(go_at_call 203;refine (c1 _).mono ?_;clear c1;rintro e w' ⟨rfl,rfl⟩)|(go_at_call 172;refine (c2 _).mono ?_;clear c2;rintro e w' ⟨rfl,rfl⟩)|(go_at_call 172;refine (c3 _).mono ?_;clear c3;rintro e w' ⟨rfl,rfl⟩)|(go_at_call 203;refine (c4 _).mono ?_;clear c4;rintro e w' ⟨rfl,rfl⟩))
 rw [rounds_succ]
 go_wp2
 go_quiet ((go_at_call 172;exact Calls.quiet_of_same (sg _ _ _)))
 go_wp2
 refine wp_loop_rounds 4 ?_
 rw [rounds_succ]
 go_wp2_with ((go_at_call 172;refine (d1 _).mono ?_;clear d1;rintro e w' ⟨rfl,rfl⟩))
 rw [rounds_succ]
 go_wp2_with ((go_at_call 172;refine (d2 _).mono ?_;clear d2;rintro e w' ⟨rfl,rfl⟩))
 rw [rounds_succ]
 go_wp2_with ((go_at_call 172;refine (d3 _).mono ?_;clear d3;rintro e w' ⟨rfl,rfl⟩))
 rw [rounds_succ]
 go_wp2
 refine bodyPost_ret (v:=.agg #[.int .u64 (o0:Int),.int .u64 (o1:Int),.int .u64 (o2:Int)]) (by simp [results,Tryz.results189,go_sem]) rfl ⟨rfl,?_⟩
 exact ((((((((((Ext.refl w).alloc _).alloc _).alloc _).drewN _).setCell (p:=⟨w.heap.size+1+1,0,none⟩) (by simp;omega) _).setCell (p:=⟨w.heap.size+1+1,1,none⟩) (by simp;omega) _).setCell (p:=⟨w.heap.size+1+1,2,none⟩) (by simp;omega) _).setCell (p:=⟨w.heap.size+1,0,none⟩) (by simp) _).setCell (p:=⟨w.heap.size+1,1,none⟩) (by simp) _).setCell (p:=⟨w.heap.size+1,2,none⟩) (by simp) _
theorem start2 (w:World) (c1 c2:Array Value) (T1 T2:TypeId):∃ W,((w.alloc (.cells c1 T1)).alloc (.cells c2 T2))=W ∧
  Blk W w.heap.size T1 c1∧Blk W (w.heap.size+1) T2 c2∧Ext w W:=by
 refine ⟨_,rfl,(Blk.new w T1 c1).alloc _,?_,((Ext.refl w).alloc _).alloc _⟩
 have:=Blk.new (w.alloc (.cells c1 T1)) T2 c2
 simpa using this
theorem rmix_any (s:Nat × Nat × Nat) (w:World) :
  Calls Tryz.prog 173 #[.agg (val3 s)] w fun e w'=>e=.returned (.agg (val3 (mix s)))∧Ext w w':=by
 have cr:∀ k,k<8→∀ w,Calls Tryz.prog 189 #[.agg (val3 (rnds k s)),.int .i64 (k:Nat)] w fun e w'=>e=.returned (.agg (val3 (rnds (k+1) s)))∧Ext w w':=fun k hk w=>round_any (rnds k s) k hk w
 unfold val3 at *
 go_enter Tryz.func173,Tryz.ntmps173
 go_wp2
 obtain ⟨W0,e0,b0,b1,x0⟩:=start2 w #[.int .u64 (s.1:Int),.int .u64 (s.2.1:Int),.int .u64 (s.2.2:Int)] #[.int .u64 0,.int .u64 0,.int .u64 0] 187 187
 rw [e0]
 obtain ⟨g,hg⟩:∃ g,g=w.heap.size:=⟨_,rfl⟩
 rw [← hg] at b0 b1 ⊢
 have HG:=Lib.hid hg
 clear e0 hg
 go_loopg [3] 8 (fun n i wr=>∃ k:Nat,k+n=8∧i=.int .i64 k∧Blk wr g 187 (val3 (rnds k s))∧Blk wr (g+1) 187 #[.int .u64 0,.int .u64 0,.int .u64 0]∧Ext w wr)
 case atStart=>exact ⟨0,rfl,rfl,b0,b1,x0⟩
 case round =>
  obtain ⟨k,hk,rfl,hb,hb1,hx⟩:=hrel
  clear b0 b1
  have c0:=hb.cell 0
  have c1:=hb.cell 1
  have c2:=hb.cell 2
  simp [val3] at c0 c1 c2
  by_cases h:k<8
  ·have c:=cr k h
   clear cr
   obtain ⟨u,hu⟩:∃ u,u=rnds k s:=⟨_,rfl⟩
   obtain ⟨v,hv⟩:∃ v,v=rnds (k+1) s:=⟨_,rfl⟩
   rw [← hu] at c0 c1 c2 c hb
   rw [← hv] at c
   have HV:=Lib.hid hv
   have HK:=Lib.hid hk
   have HB:=Lib.hid hb
   have HB1:=Lib.hid hb1
   have z0:(k:Int)<8:=by omega
   clear hu hv hk hb hb1
   go_wp2_with (fail)
   refine (c _).mono ?_
   rintro e W ⟨rfl,hw⟩
   have hb:=HB.out.below hw.out HB.out.lt
   have hb1:=HB1.out.below hw.out HB1.out.lt
   have d0:=hb.cell 0
   have d1:=hb.cell 1
   have d2:=hb.cell 2
   have f0:=hb.frozen 0
   have f1:=hb.frozen 1
   have f2:=hb.frozen 2
   simp [val3] at d0 d1 d2
   have hk:=HK.out
   have hxw:=hx.trans hw
   have HB2:=Lib.hid hb
   have HB3:=Lib.hid hb1
   clear hb hb1 c c0 c1 c2 HB HB1
   go_wp2
   go_roundg (gk-1)
   case measure=>omega
   case rel =>
    refine ⟨k+1,by omega,int_congr (by omega),?_,?_,?_⟩
    ·have:=((HB2.out.set_ 0 (.int .u64 (v.1:Int))).set_ 1 (.int .u64 (v.2.1:Int))).set_ 2 (.int .u64 (v.2.2:Int))
     rw [← HV.out]
     simpa [val3] using this
    ·exact ((HB3.out.far (p:=⟨g,0,none⟩) (by simp) _).far (p:=⟨g,1,none⟩) (by simp) _).far (p:=⟨g,2,none⟩) (by simp) _
    ·have hg:=HG.out
     exact ((hxw.setCell (p:=⟨g,0,none⟩) (by simp [hg]) _).setCell (p:=⟨g,1,none⟩) (by simp [hg]) _).setCell (p:=⟨g,2,none⟩) (by simp [hg]) _
  ·obtain rfl:k=8:=by omega
   have v0:=hb1.cell 0
   have v1:=hb1.cell 1
   have v2:=hb1.cell 2
   have f0:=hb1.frozen 0
   have f1:=hb1.frozen 1
   have f2:=hb1.frozen 2
   simp at v0 v1 v2
   clear hk hb hb1 cr
   obtain ⟨u,hu⟩:∃ u,u=rnds 8 s:=⟨_,rfl⟩
   rw [← hu] at c0 c1 c2
   have HU:=Lib.hid hu
   clear hu
   go_wp2
   refine bodyPost_ret (v:=.agg #[.int .u64 (u.1:Int),.int .u64 (u.2.1:Int),.int .u64 (u.2.2:Int)]) (by simp [results,Tryz.results173,go_sem,v0,v1,v2]) rfl ⟨by rw [HU.out];rfl,?_⟩
   have hg:=HG.out
   exact ((hx.setCell (p:=⟨g+1,0,none⟩) (by simp [hg]) _).setCell (p:=⟨g+1,1,none⟩) (by simp [hg]) _).setCell (p:=⟨g+1,2,none⟩) (by simp [hg]) _
