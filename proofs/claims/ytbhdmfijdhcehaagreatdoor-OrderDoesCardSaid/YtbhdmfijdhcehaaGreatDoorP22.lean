/- Parts of the proofs, put together: Or9, EqS, Open5, Open6. -/
import Derived.Deep.Strs
import Derived.Test.YtbhdmfijdhcehaaGreatDoorP2
import Derived.Test.YtbhdmfijdhcehaaGreatDoorP12
import Derived.Test.YtbhdmfijdhcehaaGreatDoorP13
import Derived.Test.YtbhdmfijdhcehaaGreatDoorP20
set_option maxRecDepth 100000
set_option maxHeartbeats 64000000
namespace Go.Proofs.YtbhdmfijdhcehaaGreatDoor
open Go.RowKit Go.Shelf Go.Maps
set_option linter.unusedSimpArgs false
set_option linter.unusedVariables false
theorem fenTo_last {next:Int} {l:List NonR} {j:Nat} {r:NonR} (h:fenTo next (l.take j)) (hj:0<j) (hr:l[j-1]?=some r):lastF (l.take j)=r.n∧0≤r.n:=by
 have h1:=lastF_take_succ hr
 rw [show j-1+1=j by omega] at h1
 refine ⟨h1,(h.2 r ?_).1⟩
 exact List.mem_of_getElem? (i:=j-1) (by rw [List.getElem?_take,if_pos (by omega)];exact hr)
theorem rfCheck_any (next:Int) (l:List NonR) (A:Option Addr) (c:Nat) (w:World) (hw:NonsW w w.heap.size next l A c) :
  Calls Tryz.prog 66 #[fenV next l A c] w fun e w'=>e=.returned (.int .i64 (fenN next l:Nat))∧Ext w w':=by
 have c1:=rtime_any
 unfold fenV
 have x1:=(Ext.refl w).alloc (.cells #[.int .i64 next,.slice A l.length c] 38)
 have hb:=Blk.new w 38 #[.int .i64 next,.slice A l.length c]
 have HRR:=Lib.hid fun (W:World) (x:Ext w W)=>(hw.ext x).lst
 have HN:=Lib.hid hw.len
 clear hw
 go_enter Tryz.func66,Tryz.ntmps66
 by_cases b0:numP next
 case neg =>
  have HY:=Lib.hid (fenN_num (l:=l) b0)
  have c1x:=c1 next
  rw [decide_eq_false b0] at c1x
  clear b0 hb
  go_wp2_with (go_at_call 107;refine (c1x _).mono ?_;clear c1x;rintro e w2 ⟨rfl,rfl⟩)
  go_ret
  exact ⟨by rw [HY.out];rfl,x1⟩
 have c1x:=c1 next
 rw [decide_eq_true b0] at c1x
 have HNP:=Lib.hid b0
 clear b0
 go_wp2_with (go_at_call 107;refine (c1x _).mono ?_;clear c1x;rintro e w2 ⟨rfl,hw2⟩;replace hw2:=hw2.symm;subst hw2)
 obtain ⟨w1,e1⟩:∃ W,w.alloc (.cells #[.int .i64 next,.slice A l.length c] 38)=W:=⟨_,rfl⟩
 rw [e1] at x1 hb ⊢
 clear e1
 have HB:=Lib.hid hb
 have X1:=Lib.hid x1
 clear hb x1
 go_loopg [3] l.length (fun m s3 wr=>∃ j:Nat,j+m=l.length∧s3=.int .i64 j∧fenTo next (l.take j)∧Ext w1 wr)
 case atStart=>exact ⟨0,by omega,rfl,fenTo_nil next,Ext.refl w1⟩
 case round =>
  obtain ⟨j,hj,rfl,hok,hx⟩:=hrel
  obtain ⟨q0,q1⟩:=two (ext_blk hx HB.out)
  have hjb:(j:Int)≤1099511627776:=by have:=HN.out;omega
  by_cases h:j<l.length
  ·obtain ⟨x,hs⟩:∃ s,l[j]?=some s:=⟨_,List.getElem?_eq_getElem h⟩
   have hrd:=HRR.out _ (X1.out.trans hx)
   obtain ⟨ad,rfl,hlt,p0,p1⟩:=reads_non hrd hs
   have hjl:(j:Int)<(l.length:Int):=by omega
   have hst:=fenTo_take_succ (next:=next) hs
   go_wp2
   obtain ⟨w2,e2⟩:∃ W,wr.alloc (.cells #[.int .i64 x.n,.int .i64 x.u] 102)=W:=⟨_,rfl⟩
   have x2:Ext wr w2:=by rw [← e2];exact (Ext.refl wr).alloc _
   have hb2:Blk w2 wr.heap.size 102 #[.int .i64 x.n,.int .i64 x.u]:=by rw [← e2];exact Blk.new _ _ _
   rw [e2]
   clear e2
   obtain ⟨v0,v1⟩:=two hb2
   obtain ⟨q2,q3⟩:=two (ext_blk (hx.trans x2) HB.out)
   have ci:=fun W=>c1 x.u W
   have HT:=Lib.hid hst
   have HX:=Lib.hid (hx.trans x2)
   have HJ:=Lib.hid hj
   have HO:=Lib.hid hok
   by_cases hj0:j=0
   ·have HLA:Hid (lastF (l.take j)=-1):=Lib.hid (by rw [hj0];rfl)
    have pj:decide (0<j)=false:=by simp;omega
    clear hx hj hok hs hrd hlt hj0 hst h hb2 q0 q1 p0 p1 x2
    by_cases d1:x.n<0
    ·have Dd1:decide (x.n<0)=true:=decide_eq_true d1
     have kk:Hid (fenN next l=1):=Lib.hid (fenN_no (fenTo_not (k:=j+1) (fun hh=>by have:=(HT.out.1 hh).2;rw [HLA.out] at this;omega)))
     go_quiet ((go_at_call 107;exact Calls.quiet_of_same ((ci _).mono fun _ _ h=>⟨h.1,h.2⟩)))
     all_goals go_wp2
     all_goals go_ret
     all_goals exact ⟨by rw [kk.out];rfl,X1.out.trans (HX.out.drewN _)⟩
    have Dd1:decide (x.n<0)=false:=decide_eq_false d1
    by_cases d2:next≤x.n
    ·have Dd2:decide (next≤x.n)=true:=decide_eq_true d2
     have kk:Hid (fenN next l=1):=Lib.hid (fenN_no (fenTo_not (k:=j+1) (fun hh=>by have:=(HT.out.1 hh).2;rw [HLA.out] at this;omega)))
     go_quiet ((go_at_call 107;exact Calls.quiet_of_same ((ci _).mono fun _ _ h=>⟨h.1,h.2⟩)))
     all_goals go_wp2
     all_goals go_ret
     all_goals exact ⟨by rw [kk.out];rfl,X1.out.trans (HX.out.drewN _)⟩
    have Dd2:decide (next≤x.n)=false:=decide_eq_false d2
    by_cases d3:numP x.u
    case neg =>
     have kk:Hid (fenN next l=1):=Lib.hid (fenN_no (fenTo_not (k:=j+1) (fun hh=>by have:=(HT.out.1 hh).2;rw [HLA.out] at this;exact d3 this.2.2)))
     rw [decide_eq_false d3] at ci
     clear d3
     go_quiet ((go_at_call 107;exact Calls.quiet_of_same ((ci _).mono fun _ _ h=>⟨h.1,h.2⟩)))
     all_goals go_wp2
     all_goals go_ret
     all_goals exact ⟨by rw [kk.out];rfl,X1.out.trans (HX.out.drewN _)⟩
    have HOK:Hid (fenTo next (l.take (j+1))):=Lib.hid (HT.out.2 ⟨HO.out,by rw [HLA.out];omega,by omega,d3⟩)
    rw [decide_eq_true d3] at ci
    clear d3
    go_quiet ((go_at_call 107;exact Calls.quiet_of_same ((ci _).mono fun _ _ h=>⟨h.1,h.2⟩)))
    have hj:=HJ.out
    go_wp2
    go_roundg (gk-1)
    case measure=>omega
    case rel=>exact ⟨j+1,by omega,int_congr (by omega),HOK.out,HX.out.drewN _⟩
   ·obtain ⟨r,hr⟩:∃ r,l[j-1]?=some r:=⟨_,List.getElem?_eq_getElem (by omega)⟩
    obtain ⟨la,lb⟩:=fenTo_last hok (by omega) hr
    have HLA:=Lib.hid la
    have HR0:=Lib.hid lb
    obtain ⟨_,e',-,r0,r1⟩:=reads_non (hrd.below x2.out) hr
    cases e'
    have pj:decide (0<j)=true:=by simp;omega
    have kj:(j:Int)-1=((j-1:Nat):Int):=by omega
    have kj2:((j-1:Nat):Int)<(l.length:Int):=by omega
    clear hx hj hok hs hrd hr h hlt r1 hj0 hst hb2 q0 q1 p0 p1 x2 la lb
    by_cases d1:x.n<0
    ·have Dd1:decide (x.n<0)=true:=decide_eq_true d1
     have kk:Hid (fenN next l=1):=Lib.hid (fenN_no (fenTo_not (k:=j+1) (fun hh=>by have:=(HT.out.1 hh).2;rw [HLA.out] at this;have:=HR0.out;omega)))
     go_quiet ((go_at_call 107;exact Calls.quiet_of_same ((ci _).mono fun _ _ h=>⟨h.1,h.2⟩)))
     all_goals go_wp2
     all_goals go_ret
     all_goals exact ⟨by rw [kk.out];rfl,X1.out.trans (HX.out.drewN _)⟩
    have Dd1:decide (x.n<0)=false:=decide_eq_false d1
    by_cases d2:next≤x.n
    ·have Dd2:decide (next≤x.n)=true:=decide_eq_true d2
     have kk:Hid (fenN next l=1):=Lib.hid (fenN_no (fenTo_not (k:=j+1) (fun hh=>by have:=(HT.out.1 hh).2;rw [HLA.out] at this;omega)))
     go_quiet ((go_at_call 107;exact Calls.quiet_of_same ((ci _).mono fun _ _ h=>⟨h.1,h.2⟩)))
     all_goals go_wp2
     all_goals go_ret
     all_goals exact ⟨by rw [kk.out];rfl,X1.out.trans (HX.out.drewN _)⟩
    have Dd2:decide (next≤x.n)=false:=decide_eq_false d2
    by_cases d3:numP x.u
    case neg =>
     have kk:Hid (fenN next l=1):=Lib.hid (fenN_no (fenTo_not (k:=j+1) (fun hh=>by have:=(HT.out.1 hh).2;rw [HLA.out] at this;exact d3 this.2.2)))
     rw [decide_eq_false d3] at ci
     clear d3
     go_quiet ((go_at_call 107;exact Calls.quiet_of_same ((ci _).mono fun _ _ h=>⟨h.1,h.2⟩)))
     all_goals go_wp2
     all_goals go_ret
     all_goals exact ⟨by rw [kk.out];rfl,X1.out.trans (HX.out.drewN _)⟩
    by_cases d4:x.n≤r.n
    ·have Dd4:decide (x.n≤r.n)=true:=decide_eq_true d4
     have kk:Hid (fenN next l=1):=Lib.hid (fenN_no (fenTo_not (k:=j+1) (fun hh=>by have:=(HT.out.1 hh).2;rw [HLA.out] at this;omega)))
     rw [decide_eq_true d3] at ci
     clear d3
     go_quiet ((go_at_call 107;exact Calls.quiet_of_same ((ci _).mono fun _ _ h=>⟨h.1,h.2⟩)))
     all_goals go_wp2
     all_goals go_ret
     all_goals exact ⟨by rw [kk.out];rfl,X1.out.trans (HX.out.drewN _)⟩
    have Dd4:decide (x.n≤r.n)=false:=decide_eq_false d4
    have HOK:Hid (fenTo next (l.take (j+1))):=Lib.hid (HT.out.2 ⟨HO.out,by rw [HLA.out];omega,by omega,d3⟩)
    rw [decide_eq_true d3] at ci
    clear d3
    go_quiet ((go_at_call 107;exact Calls.quiet_of_same ((ci _).mono fun _ _ h=>⟨h.1,h.2⟩)))
    have hj:=HJ.out
    go_wp2
    go_roundg (gk-1)
    case measure=>omega
    case rel=>exact ⟨j+1,by omega,int_congr (by omega),HOK.out,HX.out.drewN _⟩
  ·obtain rfl:j=l.length:=by omega
   rw [List.take_length] at hok
   have HX:=Lib.hid hx
   have hy:=fenN_yes hok HNP.out
   clear hx hj h hok
   by_cases b4:(64:Int)<l.length
   ·rw [if_pos (by omega)] at hy
    have HY:=Lib.hid hy
    clear hy
    go_wp2
    go_ret
    exact ⟨by rw [HY.out];rfl,X1.out.trans HX.out⟩
   ·rw [if_neg (by omega)] at hy
    have HY:=Lib.hid hy
    clear hy
    go_wp2
    go_ret
    exact ⟨by rw [HY.out];rfl,X1.out.trans HX.out⟩
structure FRow where
 (ty:TypeId) (off:Nat) (x y:Value) (b:Bool)
theorem eqFields_rows {P : Program} (d : Nat) (cs ds : Array Value) (w : World) : ∀ (rows : List FRow) (fs : List Field), fs.map (fun f => (f.name != "_", f.type, f.offset)) = rows.map (fun r => (true, r.ty, r.off)) →
  (∀ r∈rows,(part r.ty cs r.off).run P w=.ok r.x w∧(part r.ty ds r.off).run P w=.ok r.y w∧(Op.equalIn d r.ty r.x r.y).run P w=.ok r.b w)→(Op.eqFields d cs ds fs).run P w=.ok (rows.all (·.b)) w
 | [],[],_,_=>by simp [Op.eqFields]
 | [],f :: fs,h,_=>by simp at h
 | r :: rows,[],h,_=>by simp at h
 | r :: rows,f :: fs,h,hr=>by
  simp only [List.map_cons,List.cons.injEq,Prod.mk.injEq,bne_iff_ne,ne_eq] at h
  obtain ⟨⟨f1,f2,f3⟩,h'⟩:=h
  obtain ⟨p1,p2,p3⟩:=hr r List.mem_cons_self
  have ih:=eqFields_rows d cs ds w rows fs h' (fun r' hr'=>hr r' (List.mem_cons_of_mem _ hr'))
  simp only [Op.eqFields,ne_eq,f1,not_false_eq_true,if_true,f2,f3,Sem.run_bind,p1,p2,p3,Result.andThen_ok,List.all_cons]
  cases r.b
  ·simp
  ·simp [ih]
theorem eqS_beq (a b:ByteArray):(a.toList==b.toList)=decide (a=b):=by
 rw [ByteArray.toList_eq,ByteArray.toList_eq,Bool.eq_iff_iff]
 simp only [beq_iff_eq,decide_eq_true_eq]
 exact ⟨fun h=>ByteArray.ext (Array.toList_inj.1 h),fun h=>by rw [h]⟩
theorem eqNon (x y:NonR) (w:World):(Op.equalIn 10000 102 (.agg #[.int .i64 x.n,.int .i64 x.u]) (.agg #[.int .i64 y.n,.int .i64 y.u])).run Tryz.prog w=.ok (decide (x=y)) w:=by
 have p0:∀ (a b:Value) (w:World),(part 3 #[a,b] 0).run Tryz.prog w=.ok a w:=fun a b w=>by kernel_rfl
 have p1:∀ (a b:Value) (w:World),(part 3 #[a,b] 1).run Tryz.prog w=.ok b w:=fun a b w=>by kernel_rfl
 have e:=fun a b=>run_equalIn_int (P:=Tryz.prog) w 9998 3 .i64 .i64 a b Tryz.underlying3
 rw [run_equalIn_struct w 9999 102 _ _ (by kernel_rfl) (by kernel_rfl),
  eqFields_rows 9999 _ _ w [⟨3,0,.int .i64 x.n,.int .i64 y.n,x.n==y.n⟩,⟨3,1,.int .i64 x.u,.int .i64 y.u,x.u==y.u⟩] _ (by kernel_rfl) (fun r hr=>?_)]
 ·congr 1
  obtain ⟨a,b⟩:=x;obtain ⟨c,d⟩:=y
  rw [Bool.eq_iff_iff];simp
 ·simp only [List.mem_cons,List.not_mem_nil,or_false] at hr
  rcases hr with rfl|rfl
  ·exact ⟨p0 _ _ _,p0 _ _ _,e _ _⟩
  ·exact ⟨p1 _ _ _,p1 _ _ _,e _ _⟩
theorem eqAcc (x y:AccR) (w:World):(Op.equalIn 10000 75 (.agg #[.int .i64 x.id,.int .u64 (x.key:Int)]) (.agg #[.int .i64 y.id,.int .u64 (y.key:Int)])).run Tryz.prog w=.ok (decide (x=y)) w:=by
 have p0:∀ (a b:Value) (w:World),(part 3 #[a,b] 0).run Tryz.prog w=.ok a w:=fun a b w=>by kernel_rfl
 have p1:∀ (a b:Value) (w:World),(part 22 #[a,b] 1).run Tryz.prog w=.ok b w:=fun a b w=>by kernel_rfl
 have e:=fun a b=>run_equalIn_int (P:=Tryz.prog) w 9998 3 .i64 .i64 a b Tryz.underlying3
 have e':=fun a b=>run_equalIn_int (P:=Tryz.prog) w 9998 22 .u64 .u64 a b Tryz.underlying22
 rw [run_equalIn_struct w 9999 75 _ _ (by kernel_rfl) (by kernel_rfl),
  eqFields_rows 9999 _ _ w [⟨3,0,.int .i64 x.id,.int .i64 y.id,x.id==y.id⟩,⟨22,1,.int .u64 x.key,.int .u64 y.key,(x.key:Int)==(y.key:Int)⟩] _ (by kernel_rfl) (fun r hr=>?_)]
 ·congr 1
  obtain ⟨a,b⟩:=x;obtain ⟨c,d⟩:=y
  rw [Bool.eq_iff_iff];simp
  intro _;omega
 ·simp only [List.mem_cons,List.not_mem_nil,or_false] at hr
  rcases hr with rfl|rfl
  ·exact ⟨p0 _ _ _,p0 _ _ _,e _ _⟩
  ·exact ⟨p1 _ _ _,p1 _ _ _,e' _ _⟩
theorem eqAut (x y:AutR) (w:World):(Op.equalIn 10000 69 (.agg #[.int .i64 x.id,.int .i64 x.acc,.string x.name,.string x.tok,.int .i64 x.st,.int .i64 x.fr,.int .i64 x.un]) (.agg #[.int .i64 y.id,.int .i64 y.acc,.string y.name,.string y.tok,.int .i64 y.st,.int .i64 y.fr,.int .i64 y.un])).run Tryz.prog w=.ok (decide (x=y)) w:=by
 have p0:∀ (a b c d e f g:Value) (w:World),(part 3 #[a,b,c,d,e,f,g] 0).run Tryz.prog w=.ok a w:=fun a b c d e f g w=>by kernel_rfl
 have p1:∀ (a b c d e f g:Value) (w:World),(part 3 #[a,b,c,d,e,f,g] 1).run Tryz.prog w=.ok b w:=fun a b c d e f g w=>by kernel_rfl
 have p2:∀ (a b c d e f g:Value) (w:World),(part 9 #[a,b,c,d,e,f,g] 2).run Tryz.prog w=.ok c w:=fun a b c d e f g w=>by kernel_rfl
 have p3:∀ (a b c d e f g:Value) (w:World),(part 9 #[a,b,c,d,e,f,g] 3).run Tryz.prog w=.ok d w:=fun a b c d e f g w=>by kernel_rfl
 have p4:∀ (a b c d e f g:Value) (w:World),(part 3 #[a,b,c,d,e,f,g] 4).run Tryz.prog w=.ok e w:=fun a b c d e f g w=>by kernel_rfl
 have p5:∀ (a b c d e f g:Value) (w:World),(part 3 #[a,b,c,d,e,f,g] 5).run Tryz.prog w=.ok f w:=fun a b c d e f g w=>by kernel_rfl
 have p6:∀ (a b c d e f g:Value) (w:World),(part 3 #[a,b,c,d,e,f,g] 6).run Tryz.prog w=.ok g w:=fun a b c d e f g w=>by kernel_rfl
 have e:=fun a b=>run_equalIn_int (P:=Tryz.prog) w 9998 3 .i64 .i64 a b Tryz.underlying3
 have e':=fun a b=>run_equalIn_string (P:=Tryz.prog) w 9998 9 a b Tryz.underlying9
 rw [run_equalIn_struct w 9999 69 _ _ (by kernel_rfl) (by kernel_rfl),
  eqFields_rows 9999 _ _ w [⟨3,0,.int .i64 x.id,.int .i64 y.id,x.id==y.id⟩,⟨3,1,.int .i64 x.acc,.int .i64 y.acc,x.acc==y.acc⟩,⟨9,2,.string x.name,.string y.name,x.name.toList==y.name.toList⟩,⟨9,3,.string x.tok,.string y.tok,x.tok.toList==y.tok.toList⟩,⟨3,4,.int .i64 x.st,.int .i64 y.st,x.st==y.st⟩,⟨3,5,.int .i64 x.fr,.int .i64 y.fr,x.fr==y.fr⟩,⟨3,6,.int .i64 x.un,.int .i64 y.un,x.un==y.un⟩] _ (by kernel_rfl) (fun r hr=>?_)]
 ·congr 1
  obtain ⟨a1,a2,a3,a4,a5,a6,a7⟩:=x;obtain ⟨b1,b2,b3,b4,b5,b6,b7⟩:=y
  rw [Bool.eq_iff_iff];simp only [List.all_cons,List.all_nil,eqS_beq,Bool.and_true,Bool.and_eq_true,beq_iff_eq,decide_eq_true_eq,AutR.mk.injEq]
 ·simp only [List.mem_cons,List.not_mem_nil,or_false] at hr
  rcases hr with rfl|rfl|rfl|rfl|rfl|rfl|rfl
  ·exact ⟨p0 _ _ _ _ _ _ _ _,p0 _ _ _ _ _ _ _ _,e _ _⟩
  ·exact ⟨p1 _ _ _ _ _ _ _ _,p1 _ _ _ _ _ _ _ _,e _ _⟩
  ·exact ⟨p2 _ _ _ _ _ _ _ _,p2 _ _ _ _ _ _ _ _,e' _ _⟩
  ·exact ⟨p3 _ _ _ _ _ _ _ _,p3 _ _ _ _ _ _ _ _,e' _ _⟩
  ·exact ⟨p4 _ _ _ _ _ _ _ _,p4 _ _ _ _ _ _ _ _,e _ _⟩
  ·exact ⟨p5 _ _ _ _ _ _ _ _,p5 _ _ _ _ _ _ _ _,e _ _⟩
  ·exact ⟨p6 _ _ _ _ _ _ _ _,p6 _ _ _ _ _ _ _ _,e _ _⟩
end Go.Proofs.YtbhdmfijdhcehaaGreatDoor
namespace Go.Proofs.YtbhdmfijdhcehaaGreatDoor
open Go.ChangeShapes Go.WideShapes Go.ChangeAt Go.RowKit
set_option linter.unusedSimpArgs false
set_option linter.unusedVariables false
section
variable {H:Type} (enc:TypeId × Value→H) (P:Program) (W:World)
def Tw (t:TypeId) (cs:List Value) (d:DataW H):Prop:=(∃ fuel p,DataW.trod enc P W 0 (fun _=>true) true fuel t cs=some (d,p))∧∀ m∈d.weights P t,m≤reachBytes
def Dec {α:Type} (t:TypeId) (en:α→List Value) (wf:α→Prop):Prop:=∀ cs d,Tw enc P W t cs d→∃ a,cs=en a∧wf a
variable {enc P W}
theorem tw_int {t:TypeId} {k:IntKind} {cs:List Value} {d:DataW H} (ht:P.underlying t=some (.int k)) (h:Tw enc P W t cs d):∃ n,cs=[.int k n]∧(Lit.int k n).wf=true:=by
 obtain ⟨⟨fuel,p,hf⟩,_⟩:=h
 obtain ⟨n,h1,_,h3⟩:=DataW.trod_int ht hf
 exact ⟨n,h1,h3⟩
theorem tw_u64 {t:TypeId} {cs:List Value} {d:DataW H} (ht:P.underlying t=some (.int .u64)) (h:Tw enc P W t cs d):∃ n:Nat,cs=[.int .u64 (n:Int)]∧n<18446744073709551616:=by
 obtain ⟨n,e,hw⟩:=tw_int ht h
 obtain ⟨h1,h2⟩:=word_of_wf hw
 exact ⟨n.toNat,by rw [← h1];exact e,h2⟩
theorem tw_string {t:TypeId} {cs:List Value} {d:DataW H} (ht:P.underlying t=some .string) (h:Tw enc P W t cs d):∃ s:ByteArray,cs=[.string s]∧s.size≤140737488351232:=by
 obtain ⟨⟨fuel,p,hf⟩,hw⟩:=h
 obtain ⟨s,h1,h2,_⟩:=DataW.trod_string ht hf
 simp only [Prod.mk.injEq] at h2
 refine ⟨s,h1,?_⟩
 have:=hw s.data.toList.length (by rw [h2.1];simp [DataW.weights])
 simpa [reachBytes] using this
theorem tw_struct {t:TypeId} {fs:Array Field} {cs:List Value} {d:DataW H} (ht:P.underlying t=some (.struct fs)) (h:Tw enc P W t cs d) :
  cs.length=P.cellsOf t∧∀ (i:Nat) (f:Field),fs[i]?=some f→∃ d',Tw enc P W f.type ((cs.drop f.offset).take (P.cellsOf f.type)) d':=by
 obtain ⟨⟨fuel,p,hf⟩,hw⟩:=h
 obtain ⟨xs,n,_,hx,hl,hlen,hall⟩:=DataW.trod_struct ht hf
 simp only [Prod.mk.injEq] at hx
 refine ⟨hl,fun i f hi=>?_⟩
 have hi':i<xs.length:=by rw [hlen];exact (Array.getElem?_eq_some_iff.1 hi).1
 have h1:=hall i f hi
 rw [List.getElem?_eq_getElem hi'] at h1
 refine ⟨xs[i].1,⟨n,xs[i].2,h1⟩,fun m hm=>hw m ?_⟩
 rw [hx.1,DataW.weights]
 simp only [ht]
 exact DataW.weights_mem_each (j:=i) (by simp [hi]) (by simp [hi']) m hm
theorem tw_field {t:TypeId} {fs:Array Field} {cs:List Value} {d:DataW H} (ht:P.underlying t=some (.struct fs)) (h:Tw enc P W t cs d) (i:Nat) {f:Field} (hi:fs[i]?=some f) (ty:TypeId) (o c:Nat)
  (e1:f.type=ty) (e2:f.offset=o) (e3:P.cellsOf ty=c):∃ d',Tw enc P W ty ((cs.drop o).take c) d':=by
 obtain ⟨d',h'⟩:=(tw_struct ht h).2 i f hi
 rw [e1,e2,e3] at h'
 exact ⟨d',h'⟩
theorem tw_slice {t e:TypeId} {cs:List Value} {d:DataW H} (ht:P.underlying t=some (.slice e)) (h:Tw enc P W t cs d):∃ (A:Option Addr) (n c:Nat),cs=[.slice A n c]∧n≤c∧c*P.bytesOf e≤140737488351232 ∧
  ∀ i,i<n→∃ ad cs' d',A=some ad∧Tw enc P W e cs' d'∧cs'.length=P.cellsOf e∧∀ (j:Nat) (u:Value),cs'[j]?=some u→W.cell? (ad.add (i*P.cellsOf e+j))=some u:=by
 obtain ⟨⟨fuel,p,hf⟩,hw⟩:=h
 rcases Go.Deep.open_slice ht hf with ⟨rfl,hx⟩|⟨a,len,cap,m,n,D,Pl,rfl,_,hl,_,hm,hx,hr⟩
 ·exact ⟨none,0,0,rfl,Nat.le_refl _,by simp,fun i hi=>absurd hi (by omega)⟩
 ·simp only [Prod.mk.injEq,if_true] at hx hm
  subst hm
  have hwd:d.weights P t=(len+(m-len))*P.bytesOf e :: (DataW.weightsAll P e ((List.range len).map D)++DataW.weightsAll P e ((List.range (m-len)).map fun j=>D (len+j))):=by
   rw [hx.1,DataW.weights]
   simp only [ht,List.length_map,List.length_range]
  refine ⟨some a,len,m,rfl,hl,?_,fun i hi=>?_⟩
  ·have:=hw _ (by rw [hwd];exact List.mem_cons_self)
   rw [show len+(m-len)=m by omega] at this
   exact this
  ·obtain ⟨cs',h1,h2⟩:=hr i (by omega)
   obtain ⟨_,h3,h4⟩:=World.cells?_some h1
   refine ⟨a,cs',D i,rfl,⟨⟨n,Pl i,h2⟩,fun k hk=>hw k ?_⟩,h3,fun j u hu=>?_⟩
   ·rw [hwd]
    exact List.mem_cons_of_mem _ (List.mem_append.2 (.inl (mem_weightsAll (List.mem_map.2 ⟨i,by simpa using hi,rfl⟩) k hk)))
   ·have hj:=(List.getElem?_eq_some_iff.1 hu).1
    rw [← add_of_add,h4 j (by omega)]
    exact hu
theorem list_of {α:Type} {p:Nat→α→Prop}:∀ n:Nat,(∀ i,i<n→∃ a,p i a)→∃ l:List α,l.length=n∧∀ i a,l[i]?=some a→p i a
 | 0,_=>⟨[],rfl,fun i a h=>by simp at h⟩
 | n+1,h=>by
  obtain ⟨l,h1,h2⟩:=list_of n (fun i hi=>h i (by omega))
  obtain ⟨a,ha⟩:=h n (by omega)
  refine ⟨l++[a],by simp [h1],fun i b hb=>?_⟩
  by_cases hi:i<l.length
  ·rw [List.getElem?_append_left hi] at hb;exact h2 i b hb
  ·have hlt:=(List.getElem?_eq_some_iff.1 hb).1
   simp only [List.length_append,List.length_singleton] at hlt
   have:i=l.length:=by omega
   subst this
   simp at hb
   subst hb
   rw [h1];exact ha
theorem dec_slice {α:Type} {en:α→List Value} {wf:α→Prop} {t e:TypeId} {cs:List Value} {d:DataW H} {k:Nat} (ht:P.underlying t=some (.slice e)) (hk:P.cellsOf e=k) (h0:0<k) (hen:∀ a,(en a).length=k) (hd:Dec enc P W e en wf)
  (h:Tw enc P W t cs d):∃ (A:Option Addr) (c:Nat) (l:List α),cs=[.slice A l.length c]∧l.length≤c∧c*P.bytesOf e≤140737488351232∧(∀ a∈l,wf a)∧Reads W W.heap.size k A l.length (l.flatMap en):=by
 obtain ⟨A,n,c,rfl,hnc,hcb,hall⟩:=tw_slice ht h
 rw [hk] at hall
 obtain ⟨l,hl,hp⟩:=list_of (p:=fun i a=>wf a∧∃ ad,A=some ad∧∀ (j:Nat) (u:Value),(en a)[j]?=some u→W.cell? (ad.add (i*k+j))=some u) n (fun i hi=>by
  obtain ⟨ad,cs',d',hA,htw,_,hc⟩:=hall i hi
  obtain ⟨a,rfl,ha⟩:=hd cs' d' htw
  exact ⟨a,ha,ad,hA,hc⟩)
 subst hl
 refine ⟨A,c,l,rfl,hnc,hcb,fun a ha=>?_,fm_length en hen l,fun hn=>?_⟩
 ·obtain ⟨i,hi⟩:=List.mem_iff_getElem?.1 ha
  exact (hp i a hi).1
 ·obtain ⟨x,hx⟩:∃ x,l[0]?=some x:=⟨_,List.getElem?_eq_getElem hn⟩
  obtain ⟨_,ad,hA,hc0⟩:=hp 0 x hx
  refine ⟨ad,hA,?_,fun j u hu=>?_⟩
  ·have hx0:0<(en x).length:=by rw [hen];exact h0
   have:=cell_lt (hc0 0 _ (List.getElem?_eq_getElem hx0))
   rwa [block_of_add] at this
  ·have hj:=(List.getElem?_eq_some_iff.1 hu).1
   rw [fm_length en hen] at hj
   have hi:j / k<l.length:=Nat.div_lt_of_lt_mul (by rw [Nat.mul_comm];exact hj)
   obtain ⟨y,hy⟩:∃ y,l[j / k]?=some y:=⟨_,List.getElem?_eq_getElem hi⟩
   obtain ⟨_,ad',hA',hc⟩:=hp _ y hy
   rw [hA] at hA'
   cases hA'
   have hjk:j / k*k+j % k=j:=Nat.div_add_mod' j k
   have:=fm_at en hen hy (Nat.mod_lt j h0)
   rw [hjk,hu] at this
   have h2:=hc (j % k) u this.symm
   rwa [hjk] at h2
theorem dec_int {t:TypeId} {k:IntKind} (ht:P.underlying t=some (.int k)):Dec enc P W t (fun n=>[Value.int k n]) (fun n=>(Lit.int k n).wf=true):=fun cs d h=>tw_int ht h
theorem dec_string {t:TypeId} (ht:P.underlying t=some .string):Dec enc P W t (fun s=>[Value.string s]) (fun s=>s.size≤140737488351232):=fun cs d h=>tw_string ht h
theorem fm_single {α:Type} (f:α→Value):∀ l:List α,l.flatMap (fun a=>[f a])=l.map f
 | []=>rfl
 | a :: l=>by rw [List.flatMap_cons,fm_single f l];rfl
theorem open_strs {t e:TypeId} {cs:List Value} {d:DataW H} (ht:P.underlying t=some (.slice e)) (he:P.underlying e=some .string) (ce:P.cellsOf e=1) (be:P.bytesOf e=16) (h:Tw enc P W t cs d) :
  ∃ (A:Option Addr) (c:Nat) (l:List ByteArray),cs=[.slice A l.length c]∧l.length≤c∧c≤140737488351232∧(∀ s∈l,s.size≤140737488351232)∧Reads W W.heap.size 1 A l.length (tv l):=by
 obtain ⟨A,c,l,h1,h2,h3,h4,h5⟩:=dec_slice ht ce (by decide) (fun _=>rfl) (dec_string he) h
 rw [be] at h3
 refine ⟨A,c,l,h1,h2,by omega,h4,?_⟩
 have e:(l.flatMap fun s=>[Value.string s])=tv l:=fm_single _ l
 rwa [e] at h5
theorem open_nums {t e:TypeId} {cs:List Value} {d:DataW H} (ht:P.underlying t=some (.slice e)) (he:P.underlying e=some (.int .i64)) (ce:P.cellsOf e=1) (be:P.bytesOf e=8) (h:Tw enc P W t cs d) :
  ∃ (A:Option Addr) (c:Nat) (l:List Int),cs=[.slice A l.length c]∧l.length≤c∧c≤140737488351232∧(∀ n∈l,wf64 n)∧Reads W W.heap.size 1 A l.length (iv l):=by
 obtain ⟨A,c,l,h1,h2,h3,h4,h5⟩:=dec_slice ht ce (by decide) (fun _=>rfl) (dec_int he) h
 rw [be] at h3
 refine ⟨A,c,l,h1,h2,by omega,h4,?_⟩
 have e:(l.flatMap fun n=>[Value.int .i64 n])=iv l:=fm_single _ l
 rwa [e] at h5
end
structure OrdI (w:World) (x:OrdX):Prop where
 id:wf64 x.o.id
 acc:wf64 x.o.acc
 key:x.o.key<18446744073709551616
 life:wf64 x.o.life
 st:wf64 x.o.st
 ser:wf64 x.o.ser
 names:Reads w w.heap.size 1 x.nA x.o.names.length (tv x.o.names)
 nc:x.o.names.length≤x.nc
 nr:x.nc≤140737488351232
 ns:∀ s∈x.o.names,s.size≤140737488351232
 auths:Reads w w.heap.size 1 x.aA x.o.auths.length (iv x.o.auths)
 ac:x.o.auths.length≤x.ac
 ar:x.ac≤140737488351232
 aw:∀ n∈x.o.auths,wf64 n
structure AutI (x:AutR):Prop where
 id:wf64 x.id
 acc:wf64 x.acc
 st:wf64 x.st
 fr:wf64 x.fr
 un:wf64 x.un
 name:x.name.size≤140737488351232
 tok:x.tok.size≤140737488351232
structure DoorI (w:World) (d:DoorX):Prop where
 nx:wf64 d.next
 ser:wf64 d.ser
 opn:Reads w w.heap.size 2 d.oA d.opn.length (nonV d.opn)
 oc:d.opn.length≤d.oc
 ocr:d.oc≤140737488351232
 ow:∀ x∈d.opn,wf64 x.n∧wf64 x.u
 acc:Reads w w.heap.size 2 d.cA d.accs.length (accV d.accs)
 cc:d.accs.length≤d.cc
 ccr:d.cc≤140737488351232
 cw:∀ x∈d.accs,AccW x
 aut:Reads w w.heap.size 7 d.uA d.auts.length (autV d.auts)
 uc:d.auts.length≤d.uc
 ucr:d.uc≤140737488351232
 uw:∀ x∈d.auts,AutI x
 ord:Reads w w.heap.size 8 d.rA d.ords.length (ordV d.ords)
 rc:d.ords.length≤d.rc
 rcr:d.rc≤140737488351232
 rw:∀ x∈d.ords,OrdI w x
structure QueI (w:World) (q:QueR) (A:Option Addr) (c:Nat):Prop where
 kind:wf64 q.kind
 acc:wf64 q.acc
 nonce:wf64 q.nonce
 key:q.key<18446744073709551616
 life:wf64 q.life
 id:wf64 q.id
 e:q.e<18446744073709551616
 s:q.s<18446744073709551616
 names:Reads w w.heap.size 1 A q.names.length (tv q.names)
 nc:q.names.length≤c
 nr:c≤140737488351232
 ns:∀ s∈q.names,s.size≤140737488351232
section
variable {H:Type} {enc:TypeId × Value→H} {W:World}
theorem dec_non:Dec enc Tryz.prog W 102 nonC (fun x=>wf64 x.n∧wf64 x.u):=fun cs d h=>by
 have U:=Tryz.underlying102
 obtain ⟨d0,h0⟩:=tw_field U h 0 rfl 3 0 1 rfl rfl (by kernel_rfl)
 obtain ⟨d1,h1⟩:=tw_field U h 1 rfl 3 1 1 rfl rfl (by kernel_rfl)
 obtain ⟨x0,e0,w0⟩:=tw_int Tryz.underlying3 h0
 obtain ⟨x1,e1,w1⟩:=tw_int Tryz.underlying3 h1
 have hl:=(tw_struct U h).1
 rw [show Tryz.prog.cellsOf 102=2 by kernel_rfl] at hl
 clear h h0 h1
 match cs,hl with
 | [z0,z1],_ =>
  simp at e0 e1
  subst e0;subst e1
  exact ⟨⟨x0,x1⟩,rfl,w0,w1⟩
theorem dec_acc:Dec enc Tryz.prog W 75 accC AccW:=fun cs d h=>by
 have U:=Tryz.underlying75
 obtain ⟨d0,h0⟩:=tw_field U h 0 rfl 3 0 1 rfl rfl (by kernel_rfl)
 obtain ⟨d1,h1⟩:=tw_field U h 1 rfl 22 1 1 rfl rfl (by kernel_rfl)
 obtain ⟨x0,e0,w0⟩:=tw_int Tryz.underlying3 h0
 obtain ⟨x1,e1,w1⟩:=tw_u64 Tryz.underlying22 h1
 have hl:=(tw_struct U h).1
 rw [show Tryz.prog.cellsOf 75=2 by kernel_rfl] at hl
 clear h h0 h1
 match cs,hl with
 | [z0,z1],_ =>
  simp at e0 e1
  subst e0;subst e1
  exact ⟨⟨x0,x1⟩,rfl,w0,w1⟩
theorem dec_aut:Dec enc Tryz.prog W 69 autC AutI:=fun cs d h=>by
 have U:=Tryz.underlying69
 obtain ⟨d0,h0⟩:=tw_field U h 0 rfl 3 0 1 rfl rfl (by kernel_rfl)
 obtain ⟨d1,h1⟩:=tw_field U h 1 rfl 3 1 1 rfl rfl (by kernel_rfl)
 obtain ⟨d2,h2⟩:=tw_field U h 2 rfl 9 2 1 rfl rfl (by kernel_rfl)
 obtain ⟨d3,h3⟩:=tw_field U h 3 rfl 9 3 1 rfl rfl (by kernel_rfl)
 obtain ⟨d4,h4⟩:=tw_field U h 4 rfl 3 4 1 rfl rfl (by kernel_rfl)
 obtain ⟨d5,h5⟩:=tw_field U h 5 rfl 3 5 1 rfl rfl (by kernel_rfl)
 obtain ⟨d6,h6⟩:=tw_field U h 6 rfl 3 6 1 rfl rfl (by kernel_rfl)
 obtain ⟨x0,e0,w0⟩:=tw_int Tryz.underlying3 h0
 obtain ⟨x1,e1,w1⟩:=tw_int Tryz.underlying3 h1
 obtain ⟨x2,e2,w2⟩:=tw_string Tryz.underlying9 h2
 obtain ⟨x3,e3,w3⟩:=tw_string Tryz.underlying9 h3
 obtain ⟨x4,e4,w4⟩:=tw_int Tryz.underlying3 h4
 obtain ⟨x5,e5,w5⟩:=tw_int Tryz.underlying3 h5
 obtain ⟨x6,e6,w6⟩:=tw_int Tryz.underlying3 h6
 have hl:=(tw_struct U h).1
 rw [show Tryz.prog.cellsOf 69=7 by kernel_rfl] at hl
 clear h h0 h1 h2 h3 h4 h5 h6
 match cs,hl with
 | [z0,z1,z2,z3,z4,z5,z6],_ =>
  simp at e0 e1 e2 e3 e4 e5 e6
  subst e0;subst e1;subst e2;subst e3;subst e4;subst e5;subst e6
  exact ⟨⟨x0,x1,x2,x3,x4,x5,x6⟩,rfl,w0,w1,w4,w5,w6,w2,w3⟩
theorem dec_ord:Dec enc Tryz.prog W 78 ordC (OrdI W):=fun cs d h=>by
 have U:=Tryz.underlying78
 obtain ⟨d0,h0⟩:=tw_field U h 0 rfl 3 0 1 rfl rfl (by kernel_rfl)
 obtain ⟨d1,h1⟩:=tw_field U h 1 rfl 3 1 1 rfl rfl (by kernel_rfl)
 obtain ⟨d2,h2⟩:=tw_field U h 2 rfl 23 2 1 rfl rfl (by kernel_rfl)
 obtain ⟨d3,h3⟩:=tw_field U h 3 rfl 22 3 1 rfl rfl (by kernel_rfl)
 obtain ⟨d4,h4⟩:=tw_field U h 4 rfl 3 4 1 rfl rfl (by kernel_rfl)
 obtain ⟨d5,h5⟩:=tw_field U h 5 rfl 76 5 1 rfl rfl (by kernel_rfl)
 obtain ⟨d6,h6⟩:=tw_field U h 6 rfl 3 6 1 rfl rfl (by kernel_rfl)
 obtain ⟨d7,h7⟩:=tw_field U h 7 rfl 3 7 1 rfl rfl (by kernel_rfl)
 obtain ⟨x0,e0,w0⟩:=tw_int Tryz.underlying3 h0
 obtain ⟨x1,e1,w1⟩:=tw_int Tryz.underlying3 h1
 obtain ⟨A2,c2,x2,e2,n2,b2,w2,r2⟩:=open_strs Tryz.underlying23 Tryz.underlying9 (by kernel_rfl) (by kernel_rfl) h2
 obtain ⟨x3,e3,w3⟩:=tw_u64 Tryz.underlying22 h3
 obtain ⟨x4,e4,w4⟩:=tw_int Tryz.underlying3 h4
 obtain ⟨A5,c5,x5,e5,n5,b5,w5,r5⟩:=open_nums Tryz.underlying76 Tryz.underlying3 (by kernel_rfl) (by kernel_rfl) h5
 obtain ⟨x6,e6,w6⟩:=tw_int Tryz.underlying3 h6
 obtain ⟨x7,e7,w7⟩:=tw_int Tryz.underlying3 h7
 have hl:=(tw_struct U h).1
 rw [show Tryz.prog.cellsOf 78=8 by kernel_rfl] at hl
 clear h h0 h1 h2 h3 h4 h5 h6 h7
 match cs,hl with
 | [z0,z1,z2,z3,z4,z5,z6,z7],_ =>
  simp at e0 e1 e2 e3 e4 e5 e6 e7
  subst e0;subst e1;subst e2;subst e3;subst e4;subst e5;subst e6;subst e7
  exact ⟨⟨⟨x0,x1,x2,x3,x4,x5,x6,x7⟩,A2,c2,A5,c5⟩,rfl,w0,w1,w3,w4,w6,w7,r2,n2,b2,w2,r5,n5,b5,w5⟩
theorem tw_val {t:TypeId} {v:Value} {d:DataW H} {p:List MemPlace} (h:DataW.Trod enc Tryz.prog W 0 (fun _=>true) true t v d p) (hw:∀ m∈d.weights Tryz.prog t,m≤reachBytes):Tw enc Tryz.prog W t v.cells.toList d:=by
 obtain ⟨fuel,hf⟩:=h
 exact ⟨⟨fuel,p,hf⟩,hw⟩
theorem open_front {v:Value} {d:DataW H} {p:List MemPlace} {r:Reach} {b0:Nat} (hv:Value.okWide Tryz.prog W r b0 43 v) (h':DataW.Trod enc Tryz.prog W 0 (fun _=>true) true 43 v d p) (hw:∀ m∈d.weights Tryz.prog 43,m≤reachBytes) :
  ∃ d:DoorX,v=frontV d∧DoorI W d:=by
 obtain ⟨cs,rfl,hsz⟩:=okWide_struct Tryz.underlying43 hv
 have h:=tw_val h' hw
 simp only [Value.cells] at h
 have U:=Tryz.underlying43
 obtain ⟨d0,h0⟩:=tw_field U h 0 rfl 38 0 2 rfl rfl (by kernel_rfl)
 obtain ⟨d1,h1⟩:=tw_field U h 1 rfl 39 2 1 rfl rfl (by kernel_rfl)
 obtain ⟨d2,h2⟩:=tw_field U h 2 rfl 40 3 1 rfl rfl (by kernel_rfl)
 obtain ⟨d3,h3⟩:=tw_field U h 3 rfl 41 4 1 rfl rfl (by kernel_rfl)
 obtain ⟨d4,h4⟩:=tw_field U h 4 rfl 3 5 1 rfl rfl (by kernel_rfl)
 have Uq:=Tryz.underlying38
 obtain ⟨dq0,hq0⟩:=tw_field Uq h0 0 rfl 3 0 1 rfl rfl (by kernel_rfl)
 obtain ⟨dq1,hq1⟩:=tw_field Uq h0 1 rfl 36 1 1 rfl rfl (by kernel_rfl)
 obtain ⟨xq0,eq0,wq0⟩:=tw_int Tryz.underlying3 hq0
 obtain ⟨Aq1,cq1,xq1,eq1,nq1,bq1,wq1,rq1⟩:=dec_slice Tryz.underlying36 (show Tryz.prog.cellsOf 102=2 by kernel_rfl) (by decide) (fun _=>rfl) dec_non hq1
 rw [show Tryz.prog.bytesOf 102=16 by kernel_rfl] at bq1
 obtain ⟨A1,c1,x1,e1,n1,b1,w1,r1⟩:=dec_slice Tryz.underlying39 (show Tryz.prog.cellsOf 75=2 by kernel_rfl) (by decide) (fun _=>rfl) dec_acc h1
 rw [show Tryz.prog.bytesOf 75=16 by kernel_rfl] at b1
 obtain ⟨A2,c2,x2,e2,n2,b2,w2,r2⟩:=dec_slice Tryz.underlying40 (show Tryz.prog.cellsOf 69=7 by kernel_rfl) (by decide) (fun _=>rfl) dec_aut h2
 rw [show Tryz.prog.bytesOf 69=72 by kernel_rfl] at b2
 obtain ⟨A3,c3,x3,e3,n3,b3,w3,r3⟩:=dec_slice Tryz.underlying41 (show Tryz.prog.cellsOf 78=8 by kernel_rfl) (by decide) (fun _=>rfl) dec_ord h3
 rw [show Tryz.prog.bytesOf 78=96 by kernel_rfl] at b3
 obtain ⟨x4,e4,w4⟩:=tw_int Tryz.underlying3 h4
 have hl:=(tw_struct U h).1
 rw [show Tryz.prog.cellsOf 43=6 by kernel_rfl] at hl
 clear h h0 h1 h2 h3 h4 hq0 hq1 h' hv hw hsz
 obtain ⟨l⟩:=cs
 match l,hl with
 | [z0,z1,z2,z3,z4,z5],_ =>
  simp at eq0 eq1 e1 e2 e3 e4
  subst eq0;subst eq1;subst e1;subst e2;subst e3;subst e4
  exact ⟨⟨xq0,x4,xq1,x1,x2,x3,Aq1,cq1,A1,c1,A2,c2,A3,c3⟩,rfl,wq0,w4,rq1,nq1,by show cq1≤_;omega,wq1,r1,n1,by show c1≤_;omega,w1,r2,n2,by show c2≤_;omega,w2,r3,n3,by show c3≤_;omega,w3⟩
theorem open_query {v:Value} {d:DataW H} {p:List MemPlace} {r:Reach} {b0:Nat} (hv:Value.okWide Tryz.prog W r b0 27 v) (h':DataW.Trod enc Tryz.prog W 0 (fun _=>true) true 27 v d p) (hw:∀ m∈d.weights Tryz.prog 27,m≤reachBytes) :
  ∃ (q:QueR) (A:Option Addr) (c:Nat),v=queV q A c∧QueI W q A c:=by
 obtain ⟨cs,rfl,hsz⟩:=okWide_struct Tryz.underlying27 hv
 have h:=tw_val h' hw
 simp only [Value.cells] at h
 have U:=Tryz.underlying27
 obtain ⟨d0,h0⟩:=tw_field U h 0 rfl 3 0 1 rfl rfl (by kernel_rfl)
 obtain ⟨d1,h1⟩:=tw_field U h 1 rfl 3 1 1 rfl rfl (by kernel_rfl)
 obtain ⟨d2,h2⟩:=tw_field U h 2 rfl 3 2 1 rfl rfl (by kernel_rfl)
 obtain ⟨d3,h3⟩:=tw_field U h 3 rfl 22 3 1 rfl rfl (by kernel_rfl)
 obtain ⟨d4,h4⟩:=tw_field U h 4 rfl 23 4 1 rfl rfl (by kernel_rfl)
 obtain ⟨d5,h5⟩:=tw_field U h 5 rfl 3 5 1 rfl rfl (by kernel_rfl)
 obtain ⟨d6,h6⟩:=tw_field U h 6 rfl 3 6 1 rfl rfl (by kernel_rfl)
 obtain ⟨d7,h7⟩:=tw_field U h 7 rfl 25 7 2 rfl rfl (by kernel_rfl)
 have Uq:=Tryz.underlying25
 obtain ⟨dq0,hq0⟩:=tw_field Uq h7 0 rfl 22 0 1 rfl rfl (by kernel_rfl)
 obtain ⟨dq1,hq1⟩:=tw_field Uq h7 1 rfl 22 1 1 rfl rfl (by kernel_rfl)
 obtain ⟨xq0,eq0,wq0⟩:=tw_u64 Tryz.underlying22 hq0
 obtain ⟨xq1,eq1,wq1⟩:=tw_u64 Tryz.underlying22 hq1
 obtain ⟨x0,e0,w0⟩:=tw_int Tryz.underlying3 h0
 obtain ⟨x1,e1,w1⟩:=tw_int Tryz.underlying3 h1
 obtain ⟨x2,e2,w2⟩:=tw_int Tryz.underlying3 h2
 obtain ⟨x3,e3,w3⟩:=tw_u64 Tryz.underlying22 h3
 obtain ⟨A4,c4,x4,e4,n4,b4,w4,r4⟩:=open_strs Tryz.underlying23 Tryz.underlying9 (by kernel_rfl) (by kernel_rfl) h4
 obtain ⟨x5,e5,w5⟩:=tw_int Tryz.underlying3 h5
 obtain ⟨x6,e6,w6⟩:=tw_int Tryz.underlying3 h6
 have hl:=(tw_struct U h).1
 rw [show Tryz.prog.cellsOf 27=9 by kernel_rfl] at hl
 clear h h0 h1 h2 h3 h4 h5 h6 h7 hq0 hq1 h' hv hw hsz
 obtain ⟨l⟩:=cs
 match l,hl with
 | [z0,z1,z2,z3,z4,z5,z6,z7,z8],_ =>
  simp at e0 e1 e2 e3 e4 e5 e6 eq0 eq1
  subst e0;subst e1;subst e2;subst e3;subst e4;subst e5;subst e6;subst eq0;subst eq1
  exact ⟨⟨x0,x1,x2,x3,x4,x5,x6,xq0,xq1⟩,A4,c4,rfl,w0,w1,w2,w3,w5,w6,wq0,wq1,r4,n4,b4,w4⟩
end
