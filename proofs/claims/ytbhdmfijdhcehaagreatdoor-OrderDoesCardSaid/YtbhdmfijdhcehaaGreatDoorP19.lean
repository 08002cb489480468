/- Parts of the proofs, put together: OrT6, Or20, Or21, Or22, OrT7, OrT8. -/
import Derived.Deep.DeepCutAuto
import Derived.Test.YtbhdmfijdhcehaaGreatDoorP6
import Derived.Test.YtbhdmfijdhcehaaGreatDoorP12
import Derived.Test.YtbhdmfijdhcehaaGreatDoorP16
import Derived.Test.YtbhdmfijdhcehaaGreatDoorP17
set_option maxRecDepth 100000
set_option maxHeartbeats 64000000
namespace Go.Proofs.YtbhdmfijdhcehaaGreatDoor
open Go.RowKit Go.Shelf Go.Maps
set_option linter.unusedSimpArgs false
set_option linter.unusedVariables false
theorem keys_take {l:List AccR} {j k:Nat} {y:AccR} (hy:l[k]?=some y) (hk:k<j):y.key∈(l.take j).map (·.key) :=
 List.mem_map.2 ⟨y,List.mem_of_getElem? (i:=k) (by rw [List.getElem?_take,if_pos hk];exact hy),rfl⟩
theorem keys_succ {l:List AccR} {k key:Nat} {y:AccR} (hy:l[k]?=some y) (h:key ∉ (l.take k).map (·.key)) (hne:y.key≠key):key ∉ (l.take (k+1)).map (·.key):=by
 rw [List.take_add_one,hy,List.map_append]
 simp only [Option.toList_some,List.map_cons,List.map_nil,List.mem_append,List.mem_singleton,not_or]
 exact ⟨h,fun e=>hne e.symm⟩
theorem rAccounts_any (l:List AccR) (hn:l.length≤1000) (hw:∀ x∈l,AccW x) (A:Option Addr) (c:Nat) (w:World) (hr:Reads w w.heap.size 2 A l.length (accV l)) :
  Calls Tryz.prog 67 #[.slice A l.length c] w fun e w'=>e=.returned (.bool (decide (accsP l)))∧Ext w w':=by
 have HR:=Lib.hid fun (W:World) (x:Ext w W)=>(hr.below x.out).more x.size
 have HN:=Lib.hid hn
 have HW:=Lib.hid hw
 clear hr hn hw
 go_enter Tryz.func67,Tryz.ntmps67
 go_wp2
 go_loopg [3] l.length (fun m s3 wr=>∃ j:Nat,j+m=l.length∧s3=.int .i64 j∧accsP (l.take j)∧Ext w wr)
 case atStart=>exact ⟨0,by omega,rfl,⟨fun i h=>by simp at h,by simp⟩,Ext.refl w⟩
 case round =>
  obtain ⟨j,hj,rfl,hok,hx⟩:=hrel
  have hjb:(j:Int)≤1000:=by have:=HN.out;omega
  by_cases h:j<l.length
  ·obtain ⟨x,hs⟩:∃ s,l[j]?=some s:=⟨_,List.getElem?_eq_getElem h⟩
   obtain ⟨ad,rfl,hlt,q0,q1⟩:=reads_acc (HR.out _ hx) hs
   have c1:=rIn_any x.key (HW.out x (List.mem_of_getElem? hs)).key
   have hjl:(j:Int)<(l.length:Int):=by omega
   have HT:=Lib.hid (accsP_succ hs)
   have HSJ:=Lib.hid hs
   have HO:=Lib.hid hok
   have HX:=Lib.hid hx
   have HJ:=Lib.hid hj
   by_cases h0:x.id=(j:Int)+1
   case neg =>
    have d0:(x.id != (j:Int)+1)=true:=by simp [h0]
    have kk:Hid (¬ accsP l):=Lib.hid (accsP_not (j:=j+1) fun hh=>h0 (HT.out.1 hh).2.1.1)
    clear hx hj hs hok h0 h c1 hlt
    go_wp2
    go_ret
    exact ⟨ret_bool (decide_eq_false kk.out).symm,HX.out⟩
   have d0:(x.id != (j:Int)+1)=false:=by simp [h0]
   cases h1:inB x.key
   ·rw [h1] at c1
    have kk:Hid (¬ accsP l):=Lib.hid (accsP_not (j:=j+1) fun hh=>by have:=(HT.out.1 hh).2.1.2;rw [h1] at this;cases this)
    clear hx hj hs hok h1 h0 h hlt
    go_wp2_with (go_at_call 106;refine (c1 _).mono ?_;clear c1;rintro e w1 ⟨rfl,rfl⟩)
    go_ret
    exact ⟨ret_bool (decide_eq_false kk.out).symm,HX.out⟩
   rw [h1] at c1
   have HNP:Hid (accP j x):=Lib.hid ⟨h0,h1⟩
   obtain ⟨G,hG⟩:∃ G,G=gk-1:=⟨_,rfl⟩
   have HG:=Lib.hid hG
   have HJL:=Lib.hid h
   clear hx hj hs hok h1 hG h0 h hlt
   go_wp2_with (go_at_call 106;refine (c1 _).mono ?_;clear c1;rintro e w1 ⟨rfl,rfl⟩)
   obtain ⟨W1,hW1⟩:∃ W,W=wr:=⟨_,rfl⟩
   rw [← hW1] at HX ⊢
   have HX1:=HX
   clear hW1 q0 q1
   go_loopg [4] j (fun m s4 wr=>∃ k:Nat,k+m=j∧s4=.int .i64 k∧x.key ∉ (l.take k).map (·.key)∧Ext w wr)
   case atStart=>exact ⟨0,by omega,rfl,by simp,HX1.out⟩
   case round =>
    obtain ⟨k,hk,rfl,hne,hx⟩:=hrel
    have hkb:(k:Int)≤1000:=by omega
    by_cases h5:k<j
    ·obtain ⟨y,hy⟩:∃ s,l[k]?=some s:=⟨_,List.getElem?_eq_getElem (by have:=HJL.out;omega)⟩
     obtain ⟨_,e',-,p0,p1⟩:=reads_acc (HR.out _ hx) hy
     cases e'
     obtain ⟨_,e',-,q0,q1⟩:=reads_acc (HR.out _ hx) HSJ.out
     cases e'
     have hkj:(k:Int)<(j:Int):=by omega
     have hkl:(k:Int)<(l.length:Int):=by omega
     have hXd:=Lib.hid hx.drew
     have p1':=fun n:Nat=>show (wr.drewN n).cell? _=_ from p1
     have q1':=fun n:Nat=>show (wr.drewN n).cell? _=_ from q1
     have HK:=Lib.hid hk
     by_cases e5:y.key=x.key
     ·have kk:Hid (¬ accsP l):=Lib.hid (accsP_not (j:=j+1) fun hh=>(HT.out.1 hh).2.2 (by rw [← e5];exact keys_take hy h5))
      have d5:((y.key:Int)==(x.key:Int))=true:=by simp [e5]
      have d6:(y.key==x.key)=true:=by simp [e5]
      clear hx hk hy hne h5 e5 p0 q0
      go_wp2
      go_region
      all_goals go_wp2
      all_goals go_ret
      all_goals exact ⟨ret_bool (decide_eq_false kk.out).symm,hXd.out⟩
     ·have hne':=Lib.hid (keys_succ hy hne e5)
      have d5:((y.key:Int)==(x.key:Int))=false:=by simp;omega
      have d6:(y.key==x.key)=false:=by simp [e5]
      clear hx hk hy hne h5 e5 p0 q0
      go_wp2
      go_region
      all_goals go_wp2
      have hk:=HK.out
      all_goals go_roundg (gk-1)
      case measure=>omega
      case rel=>exact ⟨k+1,by omega,int_congr (by omega),hne'.out,hXd.out⟩
    ·obtain rfl:k=j:=by omega
     have hok':Hid (accsP (l.take (k+1))):=Lib.hid (HT.out.2 ⟨HO.out,HNP.out,hne⟩)
     have HX9:=Lib.hid hx
     clear hx hk hne h5
     go_wp2
     have hj:=HJ.out
     have hG:=HG.out
     go_roundg G
     case measure=>omega
     case rel=>exact ⟨k+1,by omega,int_congr (by omega),hok'.out,HX9.out⟩
  ·obtain rfl:j=l.length:=by omega
   rw [List.take_length] at hok
   have HX:=Lib.hid hx
   have kk:=Lib.hid hok
   clear hx hj h hok
   go_wp2
   go_ret
   exact ⟨ret_bool (decide_eq_true kk.out).symm,HX.out⟩
def timP (a:AutR):Prop:=if a.st=3 then numP a.fr∧a.un=a.fr+50 else a.fr=0∧a.un=0
instance (a:AutR):Decidable (timP a):=by unfold timP;infer_instance
theorem wrap50 {a b:Int} (ha:numP a) (hb:wf64 b):wrap64 (b-a)=50 ↔ b=a+50:=by
 obtain ⟨h1,h2⟩:=ha
 obtain ⟨h3,h4⟩:=wf64_out hb
 unfold wrap64
 omega
theorem mayAut_any (b:Nat) (d:DoorX) (now:Int) (i:Nat) (x:AutR) (hi:d.auts[i]?=some x) (xw:AutW x) (hi9:i<99) (ha9:d.accs.length<100) (w:World) (h:DoorB w b d now)
  (hr:Reads w w.heap.size 7 d.uA d.auts.length (autV d.auts)) :
  Calls Tryz.prog 64 #[.pointer (some ⟨b,0,none⟩),.int .i64 (i:Int)] w fun e w'=>e=.returned (.bool (decide (autP d.accs.length i x)))∧Ext w w':=by
 obtain ⟨a0,a1,a2,a3,a4,a5,a6⟩:=arr7 h
 have hib:(i:Int)≤1000:=by omega
 have hil:(i:Int)<(d.auts.length:Int):=by have:=(List.getElem?_eq_some_iff.1 hi).1;omega
 obtain ⟨ad,hA,hlt,q0,q1,q2,q3,q4,q5,q6⟩:=reads_aut hr hi
 rw [hA] at a3
 have HB:=Lib.hid (Blk.new w 69 #[.int .i64 x.id,.int .i64 x.acc,.string x.name,.string x.tok,.int .i64 x.st,.int .i64 x.fr,.int .i64 x.un])
 have HD:=Lib.hid h
 have HXW:=Lib.hid xw
 have HI9:=Lib.hid hi9
 have HA9:=Lib.hid ha9
 clear h hr hi hA hlt xw hi9 ha9
 go_enter Tryz.func64,Tryz.ntmps64
 go_upto_region 2 with (fail)
 obtain ⟨W1,e1⟩:∃ W,W=w.alloc (.cells #[.int .i64 x.id,.int .i64 x.acc,.string x.name,.string x.tok,.int .i64 x.st,.int .i64 x.fr,.int .i64 x.un] 69):=⟨_,rfl⟩
 rw [← e1] at HB ⊢
 have X1:Ext w W1:=by rw [e1];exact (Ext.refl w).alloc _
 have HX1:=Lib.hid X1
 have HDB:=Lib.hid (DoorB.ext HD.out X1)
 clear e1 X1 a0 a1 a2 a3 a4 a5 a6 q0 q1 q2 q3 q4 q5 q6
 obtain ⟨k0,k1,k2,k3,k4,k5,k6⟩:=arr7 HB.out
 go_cut [6] (fun s6 wx=>wx=W1∧s6=.bool (decide (x.fr=0∧x.un=0)))
 case first =>
  by_cases h1:x.fr=0
  ·have d1:(x.fr==0)=true:=by simp [h1]
   by_cases h2:x.un=0
   ·have d2:(x.un==0)=true:=by simp [h2]
    have HH:Hid (x.fr=0∧x.un=0):=Lib.hid ⟨h1,h2⟩
    clear h1 h2
    go_wp2
    go_meet
    exact ⟨rfl,by rw [decide_eq_true HH.out]⟩
   ·have d2:(x.un==0)=false:=by simp [h2]
    have HH:Hid (¬ (x.fr=0∧x.un=0)):=Lib.hid (fun h=>h2 h.2)
    clear h1 h2
    go_wp2
    go_meet
    exact ⟨rfl,by rw [decide_eq_false HH.out]⟩
  ·have d1:(x.fr==0)=false:=by simp [h1]
   have HH:Hid (¬ (x.fr=0∧x.un=0)):=Lib.hid (fun h=>h1 h.1)
   clear h1
   go_wp2
   go_meet
   exact ⟨rfl,by rw [decide_eq_false HH.out]⟩
 case rest =>
  obtain ⟨hw,rfl⟩:=hcut
  rw [hw]
  clear hw
  obtain ⟨T0,hT0⟩:∃ T,T=decide (x.fr=0∧x.un=0):=⟨_,rfl⟩
  rw [← hT0]
  have HT0:=Lib.hid hT0
  clear hT0
  go_upto_if 25 with (fail)
  go_cut [6] (fun s6 wx=>wx=W1∧s6=.bool (decide (timP x)))
  case first =>
   have cN:=onum_any x.fr
   by_cases h1:x.st=3
   ·have d1:(x.st==3)=true:=by simp [h1]
    by_cases h2:numP x.fr
    ·rw [decide_eq_true h2] at cN
     have hw:=wrap50 h2 HXW.out.un
     by_cases h3:x.un=x.fr+50
     ·have d2:(wrap64 (x.un-x.fr)==50)=true:=by rw [beq_iff_eq];exact hw.2 h3
      have HH:Hid (timP x):=Lib.hid (by unfold timP;rw [if_pos h1];exact ⟨h2,h3⟩)
      clear h1 h2 h3 hw
      go_wp2_with (go_at_call 42;refine (cN _).mono ?_;clear cN;rintro e w2 ⟨rfl,rfl⟩)
      go_meet
      exact ⟨rfl,by rw [decide_eq_true HH.out]⟩
     ·have d2:(wrap64 (x.un-x.fr)==50)=false:=by rw [beq_eq_false_iff_ne];exact fun h=>h3 (hw.1 h)
      have HH:Hid (¬ timP x):=Lib.hid (by unfold timP;rw [if_pos h1];exact fun h=>h3 h.2)
      clear h1 h2 h3 hw
      go_wp2_with (go_at_call 42;refine (cN _).mono ?_;clear cN;rintro e w2 ⟨rfl,rfl⟩)
      go_meet
      exact ⟨rfl,by rw [decide_eq_false HH.out]⟩
    ·rw [decide_eq_false h2] at cN
     have HH:Hid (¬ timP x):=Lib.hid (by unfold timP;rw [if_pos h1];exact fun h=>h2 h.1)
     clear h1 h2
     go_wp2_with (go_at_call 42;refine (cN _).mono ?_;clear cN;rintro e w2 ⟨rfl,rfl⟩)
     go_meet
     exact ⟨rfl,by rw [decide_eq_false HH.out]⟩
   ·have d1:(x.st==3)=false:=by simp [h1]
    have HH:Hid (T0=decide (timP x)):=Lib.hid (by rw [HT0.out,decide_eq_decide];unfold timP;rw [if_neg h1])
    clear h1 cN
    go_wp2
    go_meet
    exact ⟨rfl,by rw [HH.out]⟩
  case rest =>
   obtain ⟨hw,rfl⟩:=hcut
   rw [hw]
   clear hw HT0
   obtain ⟨T,hT⟩:∃ T,T=decide (timP x):=⟨_,rfl⟩
   rw [← hT]
   have HT:=Lib.hid hT
   clear hT
   have cA:=fun (j:Later W1)=>hasAcc_any b d now x.acc j.W (DoorB.ext HDB.out j.ext)
   have cN:=nCheck_any x.name HXW.out.name
   have j0:=fun j:Later W1=>j.cell k0
   have j1:=fun j:Later W1=>j.cell k1
   have j2:=fun j:Later W1=>j.cell k2
   have j3:=fun j:Later W1=>j.cell k3
   have j4:=fun j:Later W1=>j.cell k4
   have j5:=fun j:Later W1=>j.cell k5
   have j6:=fun j:Later W1=>j.cell k6
   clear k0 k1 k2 k3 k4 k5 k6
   by_cases h1:x.id=(i:Int)+1
   case neg =>
    have HP:Hid (¬ autP d.accs.length i x):=Lib.hid fun h=>h1 (h.1)
    have d1:(x.id==(i:Int)+1)=false:=by simp [h1]
    clear h1 cA cN
    go_wp2
    refine wp_region_later (by kernel_rfl) (by kernel_rfl) ?_
    repeat (go_big_quiet_step ((fail)))
    refine wpQuiet_nil ?_
    rintro W2 ⟨q,hq⟩
    have x5:Ext w W2:=by rw [hq];exact HX1.out.trans q.ext
    clear hq q j0 j1 j2 j3 j4 j5 j6
    go_wp2
    go_ret
    exact ⟨ret_bool (decide_eq_false HP.out).symm,x5⟩
   have d1:(x.id==(i:Int)+1)=true:=by simp [h1]
   by_cases h2:1≤x.acc∧x.acc≤(d.accs.length:Int)
   case neg =>
    have HP:Hid (¬ autP d.accs.length i x):=Lib.hid fun h=>h2 (⟨h.2.1,h.2.2.1⟩)
    rw [show decide (1≤x.acc∧x.acc≤(d.accs.length:Int))=false from decide_eq_false h2] at cA
    clear h1 h2 cN
    go_wp2
    refine wp_region_later (by kernel_rfl) (by kernel_rfl) ?_
    repeat (go_big_quiet_step (((go_at_call 47;exact Later.same (cA _)))))
    refine wpQuiet_nil ?_
    rintro W2 ⟨q,hq⟩
    have x5:Ext w W2:=by rw [hq];exact HX1.out.trans q.ext
    clear hq q j0 j1 j2 j3 j4 j5 j6
    go_wp2
    go_ret
    exact ⟨ret_bool (decide_eq_false HP.out).symm,x5⟩
   rw [show decide (1≤x.acc∧x.acc≤(d.accs.length:Int))=true from decide_eq_true h2] at cA
   by_cases h3:namP x.name
   case neg =>
    have HP:Hid (¬ autP d.accs.length i x):=Lib.hid fun h=>h3 (h.2.2.2.1)
    rw [show namE x.name=110 from if_neg h3] at cN
    clear h1 h2 h3
    go_wp2
    refine wp_region_later (by kernel_rfl) (by kernel_rfl) ?_
    repeat (go_big_quiet_step ((first|(go_at_call 47;exact Later.same (cA _))|(go_at_call 113;exact Later.calls (cN _)))))
    refine wpQuiet_nil ?_
    rintro W2 ⟨q,hq⟩
    have x5:Ext w W2:=by rw [hq];exact HX1.out.trans q.ext
    clear hq q j0 j1 j2 j3 j4 j5 j6
    go_wp2
    go_ret
    exact ⟨ret_bool (decide_eq_false HP.out).symm,x5⟩
   rw [show namE x.name=0 from if_pos h3] at cN
   by_cases h4:x.tok=tokS x.id x.acc
   case neg =>
    have HP:Hid (¬ autP d.accs.length i x):=Lib.hid fun h=>h4 (h.2.2.2.2.1)
    have d4:(x.tok.toList==(tokS x.id x.acc).toList)=false:=str_beq_false h4
    have cK:=fun W=>token_any x.id x.acc (by omega) (by have:=HI9.out;omega) (by omega) (by have:=HA9.out;omega) W
    clear h1 h2 h3 h4
    go_wp2
    refine wp_region_later (by kernel_rfl) (by kernel_rfl) ?_
    repeat (go_big_quiet_step ((first|(go_at_call 47;exact Later.same (cA _))|(go_at_call 113;exact Later.calls (cN _))|(go_at_call 104;exact Later.same (cK _)))))
    refine wpQuiet_nil ?_
    rintro W2 ⟨q,hq⟩
    have x5:Ext w W2:=by rw [hq];exact HX1.out.trans q.ext
    clear hq q j0 j1 j2 j3 j4 j5 j6
    go_wp2
    go_ret
    exact ⟨ret_bool (decide_eq_false HP.out).symm,x5⟩
   have d4:(x.tok.toList==(tokS x.id x.acc).toList)=true:=str_beq_true h4
   by_cases h5:1≤x.st
   case neg =>
    have HP:Hid (¬ autP d.accs.length i x):=Lib.hid fun h=>h5 (h.2.2.2.2.2.1)
    have d5:decide (1≤x.st)=false:=decide_eq_false h5
    have cK:=fun W=>token_any x.id x.acc (by omega) (by have:=HI9.out;omega) (by omega) (by have:=HA9.out;omega) W
    clear h1 h2 h3 h4 h5
    go_wp2
    refine wp_region_later (by kernel_rfl) (by kernel_rfl) ?_
    repeat (go_big_quiet_step ((first|(go_at_call 47;exact Later.same (cA _))|(go_at_call 113;exact Later.calls (cN _))|(go_at_call 104;exact Later.same (cK _)))))
    refine wpQuiet_nil ?_
    rintro W2 ⟨q,hq⟩
    have x5:Ext w W2:=by rw [hq];exact HX1.out.trans q.ext
    clear hq q j0 j1 j2 j3 j4 j5 j6
    go_wp2
    go_ret
    exact ⟨ret_bool (decide_eq_false HP.out).symm,x5⟩
   have d5:decide (1≤x.st)=true:=decide_eq_true h5
   by_cases h6:x.st≤4
   case neg =>
    have HP:Hid (¬ autP d.accs.length i x):=Lib.hid fun h=>h6 (h.2.2.2.2.2.2.1)
    have d6:decide (x.st≤4)=false:=decide_eq_false h6
    have cK:=fun W=>token_any x.id x.acc (by omega) (by have:=HI9.out;omega) (by omega) (by have:=HA9.out;omega) W
    clear h1 h2 h3 h4 h5 h6
    go_wp2
    refine wp_region_later (by kernel_rfl) (by kernel_rfl) ?_
    repeat (go_big_quiet_step ((first|(go_at_call 47;exact Later.same (cA _))|(go_at_call 113;exact Later.calls (cN _))|(go_at_call 104;exact Later.same (cK _)))))
    refine wpQuiet_nil ?_
    rintro W2 ⟨q,hq⟩
    have x5:Ext w W2:=by rw [hq];exact HX1.out.trans q.ext
    clear hq q j0 j1 j2 j3 j4 j5 j6
    go_wp2
    go_ret
    exact ⟨ret_bool (decide_eq_false HP.out).symm,x5⟩
   have d6:decide (x.st≤4)=true:=decide_eq_true h6
   by_cases h7:timP x
   case neg =>
    have HP:Hid (¬ autP d.accs.length i x):=Lib.hid fun h=>h7 (h.2.2.2.2.2.2.2)
    obtain rfl:T=false:=by rw [HT.out];exact decide_eq_false h7
    have cK:=fun W=>token_any x.id x.acc (by omega) (by have:=HI9.out;omega) (by omega) (by have:=HA9.out;omega) W
    clear h1 h2 h3 h4 h5 h6 h7
    go_wp2
    refine wp_region_later (by kernel_rfl) (by kernel_rfl) ?_
    repeat (go_big_quiet_step ((first|(go_at_call 47;exact Later.same (cA _))|(go_at_call 113;exact Later.calls (cN _))|(go_at_call 104;exact Later.same (cK _)))))
    refine wpQuiet_nil ?_
    rintro W2 ⟨q,hq⟩
    have x5:Ext w W2:=by rw [hq];exact HX1.out.trans q.ext
    clear hq q j0 j1 j2 j3 j4 j5 j6
    go_wp2
    go_ret
    exact ⟨ret_bool (decide_eq_false HP.out).symm,x5⟩
   have HP:Hid (autP d.accs.length i x):=Lib.hid ⟨h1,h2.1,h2.2,h3,h4,h5,h6,h7⟩
   obtain rfl:T=true:=by rw [HT.out];exact decide_eq_true h7
   have cK:=fun W=>token_any x.id x.acc (by omega) (by have:=HI9.out;omega) (by omega) (by have:=HA9.out;omega) W
   clear h1 h2 h3 h4 h5 h6 h7
   go_wp2
   refine wp_region_later (by kernel_rfl) (by kernel_rfl) ?_
   repeat (go_big_quiet_step ((first|(go_at_call 47;exact Later.same (cA _))|(go_at_call 113;exact Later.calls (cN _))|(go_at_call 104;exact Later.same (cK _)))))
   refine wpQuiet_nil ?_
   rintro W2 ⟨q,hq⟩
   have x5:Ext w W2:=by rw [hq];exact HX1.out.trans q.ext
   clear hq q j0 j1 j2 j3 j4 j5 j6
   go_wp2
   go_ret
   exact ⟨ret_bool (decide_eq_true HP.out).symm,x5⟩
theorem arr8 {W:World} {g:Nat} {T:TypeId} {a b c d e f h i:Value} (k:Blk W g T #[a,b,c,d,e,f,h,i]):W.cell? ⟨g,0,none⟩=some a∧W.cell? ⟨g,1,none⟩=some b∧W.cell? ⟨g,2,none⟩=some c∧W.cell? ⟨g,3,none⟩=some d∧W.cell? ⟨g,4,none⟩=some e∧W.cell? ⟨g,5,none⟩=some f∧W.cell? ⟨g,6,none⟩=some h∧W.cell? ⟨g,7,none⟩=some i :=
 ⟨k.cell 0,k.cell 1,k.cell 2,k.cell 3,k.cell 4,k.cell 5,k.cell 6,k.cell 7⟩
def mayO (d:DoorX) (i:Nat) (l:List Int) (o:OrdR):Prop:=ordP d.accs.length d.auts i o∧serP d.ser o∧(o.st=5→o.ser ∉ l)
def addI (l:List Int) (o:OrdR):List Int:=if o.st=5 then l++[o.ser] else l
def mayPost (d:DoorX) (i:Nat) (l:List Int) (o:OrdR) (m:Nat) (w:World) (e:Ending) (w':World):Prop :=
 (mayO d i l o∧e=.returned (.bool true)∧SetIs w' m (addI l o)∧w.grownBy w' (some m))∨(¬ mayO d i l o∧e=.returned (.bool false)∧Ext w w')
theorem mayPost_no {d:DoorX} {i:Nat} {l:List Int} {o:OrdR} {m:Nat} {w w':World} {e:Ending} (h:¬ mayO d i l o) (he:e=.returned (.bool false)) (x:Ext w w'):mayPost d i l o m w e w':=.inr ⟨h,he,x⟩
theorem mayPost_yes {d:DoorX} {i:Nat} {l:List Int} {o:OrdR} {m:Nat} {w w':World} {e:Ending} (h:mayO d i l o) (he:e=.returned (.bool true)) (hs:SetIs w' m (addI l o)) (x:w.grownBy w' (some m)):mayPost d i l o m w e w':=.inl ⟨h,he,hs,x⟩
def hasTo (f:List AutR) (o:OrdR) (j:Nat):Prop:=∀ k (h:k<o.auths.length) (h':k<o.names.length),k<j→hasP f o.acc o.auths[k] o.names[k]
theorem hasTo_succ {f:List AutR} {o:OrdR} {j:Nat} {n:Int} {s:ByteArray} (h:hasTo f o j) (hn:o.auths[j]?=some n) (hs:o.names[j]?=some s) (hp:hasP f o.acc n s):hasTo f o (j+1):=fun k h1 h2 h3=>by
 by_cases e:k=j
 ·subst e
  obtain ⟨_,rfl⟩:=List.getElem?_eq_some_iff.1 hn
  obtain ⟨_,rfl⟩:=List.getElem?_eq_some_iff.1 hs
  exact hp
 ·exact h k h1 h2 (by omega)
theorem hasTo_no {d:DoorX} {i:Nat} {l:List Int} {o:OrdR} {j:Nat} {n:Int} {s:ByteArray} (hn:o.auths[j]?=some n) (hs:o.names[j]?=some s) (hp:¬ hasP d.auts o.acc n s):¬ mayO d i l o:=fun h=>hp (by
 obtain ⟨h1,rfl⟩:=List.getElem?_eq_some_iff.1 hn
 obtain ⟨h2,rfl⟩:=List.getElem?_eq_some_iff.1 hs
 exact h.1.2.2.2.2.2.2.2.2 j h1 h2)
theorem mayOrd_any (b:Nat) (d:DoorX) (now:Int) (i:Nat) (x:OrdX) (hi:d.ords[i]?=some x) (hib:(i:Int)≤1099511627776) (m:Nat) (l:List Int) (hl:l.length≤1099511627776) (w:World) (xw:OrdW w w.heap.size x) (h:DoorB w b d now)
  (hr:Reads w w.heap.size 8 d.rA d.ords.length (ordV d.ords)) (hu:Reads w w.heap.size 7 d.uA d.auts.length (autV d.auts)) (hul:d.auts.length≤1099511627776) (hs:SetIs w m l) :
  Calls Tryz.prog 65 #[.pointer (some ⟨b,0,none⟩),.int .i64 (i:Int),.map (some m)] w (mayPost d i l x.o m w):=by
 obtain ⟨a0,a1,a2,a3,a4,a5,a6⟩:=arr7 h
 have hil:(i:Int)<(d.ords.length:Int):=by have:=(List.getElem?_eq_some_iff.1 hi).1;omega
 obtain ⟨ad,hA,hlt,q0,q1,q2,q3,q4,q5,q6,q7⟩:=reads_ord hr hi
 rw [hA] at a4
 have HB:=Lib.hid (Blk.new w 78 #[.int .i64 x.o.id,.int .i64 x.o.acc,.slice x.nA x.o.names.length x.nc,.int .u64 (x.o.key:Int),.int .i64 x.o.life,.slice x.aA x.o.auths.length x.ac,.int .i64 x.o.st,.int .i64 x.o.ser])
 have HD:=Lib.hid h
 have HXW:=Lib.hid xw
 have HU:=Lib.hid hu
 have HUL:=Lib.hid hul
 have HL:=Lib.hid hl
 have HS:=Lib.hid hs
 clear h hr hi hA hlt xw hu hul hl hs
 go_enter Tryz.func65,Tryz.ntmps65
 go_upto_region 2 with (fail)
 obtain ⟨W1,e1⟩:∃ W,W=w.alloc (.cells #[.int .i64 x.o.id,.int .i64 x.o.acc,.slice x.nA x.o.names.length x.nc,.int .u64 (x.o.key:Int),.int .i64 x.o.life,.slice x.aA x.o.auths.length x.ac,.int .i64 x.o.st,.int .i64 x.o.ser] 78):=⟨_,rfl⟩
 rw [← e1] at HB ⊢
 have HX1:Hid (Ext w W1):=by rw [e1];exact (Ext.refl w).alloc _
 have HDB:=Lib.hid (DoorB.ext HD.out HX1.out)
 clear e1 a0 a1 a2 a3 a4 a5 a6 q0 q1 q2 q3 q4 q5 q6 q7
 have cA:=hasAcc_any b d now x.o.acc W1 HDB.out
 have cO:=orderable_any x.o.names HXW.out.nl HXW.out.ns x.nA x.nc HXW.out.nc W1 ((HXW.out.names.below HX1.out.out).more HX1.out.size)
 have cI:=In_any x.o.key HXW.out.key
 have HK:=Lib.hid fun (W:World) (y:Ext W1 W)=>arr8 (ext_blk y HB.out)
 have k:∀ W,Ext W1 W→_:=fun W y=>HK.out W y
 obtain ⟨k0,k1,k2,k3,k4,k5,k6,k7⟩:=HK.out W1 (Ext.refl W1)
 clear k
 by_cases h1:x.o.id=(i:Int)+1
 case neg =>
  have hno:Hid (¬ mayO d i l x.o):=Lib.hid fun h=>h1 (h.1.1)
  have d1:(x.o.id != (i:Int)+1)=true:=by simp [h1]
  clear h1 cA cO cI
  go_wp2
  go_ret
  exact mayPost_no hno.out rfl HX1.out
 have d1:(x.o.id != (i:Int)+1)=false:=by simp [h1]
 by_cases h2:1≤x.o.acc∧x.o.acc≤(d.accs.length:Int)
 case neg =>
  have hno:Hid (¬ mayO d i l x.o):=Lib.hid fun h=>h2 (⟨h.1.2.1,h.1.2.2.1⟩)
  rw [show decide (1≤x.o.acc∧x.o.acc≤(d.accs.length:Int))=false from decide_eq_false h2] at cA
  clear h1 h2 cO cI
  go_wp2_with (go_at_call 47;refine cA.mono ?_;clear cA;rintro e w2 ⟨rfl,rfl⟩)
  go_ret
  exact mayPost_no hno.out rfl HX1.out
 rw [show decide (1≤x.o.acc∧x.o.acc≤(d.accs.length:Int))=true from decide_eq_true h2] at cA
 by_cases h3:namesP x.o.names
 case neg =>
  have hno:Hid (¬ mayO d i l x.o):=Lib.hid fun h=>h3 (h.1.2.2.2.1)
  rw [show decide (namesP x.o.names)=false from decide_eq_false h3] at cO
  clear h1 h2 h3 cI
  go_wp2_with (first|(go_at_call 47;refine cA.mono ?_;clear cA;rintro e w2 ⟨rfl,rfl⟩)|(go_at_call 85;refine cO.mono ?_;clear cO;rintro e w3 ⟨rfl,x3⟩;have x9:=x3;clear k0 k1 k2 k3 k4 k5 k6 k7;obtain ⟨k0,k1,k2,k3,k4,k5,k6,k7⟩:=HK.out _ x3))
  go_ret
  exact mayPost_no hno.out rfl (HX1.out.trans x9)
 rw [show decide (namesP x.o.names)=true from decide_eq_true h3] at cO
 by_cases h4:inB x.o.key=true
 case neg =>
  have hno:Hid (¬ mayO d i l x.o):=Lib.hid fun h=>h4 (h.1.2.2.2.2.1)
  rw [show inB x.o.key=false from (by cases e:inB x.o.key with|false=>rfl|true=>exact absurd e h4)] at cI
  clear h1 h2 h3 h4
  go_wp2_with (first|(go_at_call 47;refine cA.mono ?_;clear cA;rintro e w2 ⟨rfl,rfl⟩)|(go_at_call 85;refine cO.mono ?_;clear cO;rintro e w3 ⟨rfl,x3⟩;have x9:=x3;clear k0 k1 k2 k3 k4 k5 k6 k7;obtain ⟨k0,k1,k2,k3,k4,k5,k6,k7⟩:=HK.out _ x3)|(go_at_call 86;refine (cI _).mono ?_;clear cI;rintro e w4 ⟨rfl,x4⟩;clear k0 k1 k2 k3 k4 k5 k6 k7 x9;have x9:=x3.trans x4;obtain ⟨k0,k1,k2,k3,k4,k5,k6,k7⟩:=HK.out _ x9))
  go_ret
  exact mayPost_no hno.out rfl (HX1.out.trans x9)
 rw [show inB x.o.key=true from h4] at cI
 by_cases h5:1≤x.o.life
 case neg =>
  have hno:Hid (¬ mayO d i l x.o):=Lib.hid fun h=>h5 (h.1.2.2.2.2.2.1)
  have d5:decide (x.o.life<1)=true:=decide_eq_true (by omega)
  clear h1 h2 h3 h4 h5
  go_wp2_with (first|(go_at_call 47;refine cA.mono ?_;clear cA;rintro e w2 ⟨rfl,rfl⟩)|(go_at_call 85;refine cO.mono ?_;clear cO;rintro e w3 ⟨rfl,x3⟩;have x9:=x3;clear k0 k1 k2 k3 k4 k5 k6 k7;obtain ⟨k0,k1,k2,k3,k4,k5,k6,k7⟩:=HK.out _ x3)|(go_at_call 86;refine (cI _).mono ?_;clear cI;rintro e w4 ⟨rfl,x4⟩;clear k0 k1 k2 k3 k4 k5 k6 k7 x9;have x9:=x3.trans x4;obtain ⟨k0,k1,k2,k3,k4,k5,k6,k7⟩:=HK.out _ x9))
  go_ret
  exact mayPost_no hno.out rfl (HX1.out.trans x9)
 have d5:decide (x.o.life<1)=false:=decide_eq_false (by omega)
 by_cases h6:x.o.life≤1000
 case neg =>
  have hno:Hid (¬ mayO d i l x.o):=Lib.hid fun h=>h6 (h.1.2.2.2.2.2.2.1)
  have d6:decide (1000<x.o.life)=true:=decide_eq_true (by omega)
  clear h1 h2 h3 h4 h5 h6
  go_wp2_with (first|(go_at_call 47;refine cA.mono ?_;clear cA;rintro e w2 ⟨rfl,rfl⟩)|(go_at_call 85;refine cO.mono ?_;clear cO;rintro e w3 ⟨rfl,x3⟩;have x9:=x3;clear k0 k1 k2 k3 k4 k5 k6 k7;obtain ⟨k0,k1,k2,k3,k4,k5,k6,k7⟩:=HK.out _ x3)|(go_at_call 86;refine (cI _).mono ?_;clear cI;rintro e w4 ⟨rfl,x4⟩;clear k0 k1 k2 k3 k4 k5 k6 k7 x9;have x9:=x3.trans x4;obtain ⟨k0,k1,k2,k3,k4,k5,k6,k7⟩:=HK.out _ x9))
  go_ret
  exact mayPost_no hno.out rfl (HX1.out.trans x9)
 have d6:decide (1000<x.o.life)=false:=decide_eq_false (by omega)
 by_cases h7:x.o.auths.length=x.o.names.length
 case neg =>
  have hno:Hid (¬ mayO d i l x.o):=Lib.hid fun h=>h7 (h.1.2.2.2.2.2.2.2.1)
  have d7:((x.o.auths.length:Int) != (x.o.names.length:Int))=true:=by simp [bne_iff_ne];omega
  clear h1 h2 h3 h4 h5 h6 h7
  go_wp2_with (first|(go_at_call 47;refine cA.mono ?_;clear cA;rintro e w2 ⟨rfl,rfl⟩)|(go_at_call 85;refine cO.mono ?_;clear cO;rintro e w3 ⟨rfl,x3⟩;have x9:=x3;clear k0 k1 k2 k3 k4 k5 k6 k7;obtain ⟨k0,k1,k2,k3,k4,k5,k6,k7⟩:=HK.out _ x3)|(go_at_call 86;refine (cI _).mono ?_;clear cI;rintro e w4 ⟨rfl,x4⟩;clear k0 k1 k2 k3 k4 k5 k6 k7 x9;have x9:=x3.trans x4;obtain ⟨k0,k1,k2,k3,k4,k5,k6,k7⟩:=HK.out _ x9))
  go_ret
  exact mayPost_no hno.out rfl (HX1.out.trans x9)
 have d7:((x.o.auths.length:Int) != (x.o.names.length:Int))=false:=by rw [h7];simp
 have HN:=Lib.hid (And.intro h1 (And.intro h2.1 (And.intro h2.2 (And.intro h3 (And.intro h4 (And.intro h5 (And.intro h6 h7)))))))
 obtain ⟨ad1,hA1⟩:∃ ad,x.aA=some ad:=by
  obtain ⟨ad,e,_⟩:=HXW.out.auths.2 (by have:=h3.2.2.1;omega)
  exact ⟨ad,e⟩
 rw [hA1] at HK k5 ⊢
 have HA1:=Lib.hid hA1
 clear h1 h2 h3 h4 h5 h6 h7 hA1
 go_wp2_with (first
  | (go_at_call 47;refine cA.mono ?_;clear cA;rintro e w2 ⟨rfl,rfl⟩)
  | (go_at_call 85;refine cO.mono ?_;clear cO;rintro e w3 ⟨rfl,x3⟩;clear k0 k1 k2 k3 k4 k5 k6 k7;obtain ⟨k0,k1,k2,k3,k4,k5,k6,k7⟩:=HK.out _ x3)
  | (go_at_call 86;refine (cI _).mono ?_;clear cI;rintro e w4 ⟨rfl,x4⟩;clear k0 k1 k2 k3 k4 k5 k6 k7;have y4:=x3.trans x4;obtain ⟨k0,k1,k2,k3,k4,k5,k6,k7⟩:=HK.out _ y4))
 clear k0 k1 k2 k3 k4 k5 k6 k7 d1 d5 d6 d7
 have HY4:=Lib.hid y4
 clear x3 x4 y4
 go_loopg [64] x.o.auths.length (fun g s64 wr=>∃ j:Nat,j+g=x.o.auths.length∧s64=.int .i64 j∧hasTo d.auts x.o j∧Ext w4 wr)
 case atStart=>exact ⟨0,by omega,rfl,fun k h1 h2 h3=>by omega,Ext.refl w4⟩
 case round =>
  obtain ⟨j,hj,rfl,hok,hx⟩:=hrel
  have hjb:(j:Int)≤1099511627776:=by have:=HXW.out.al;omega
  have y5:=HY4.out.trans hx
  obtain ⟨k0,k1,k2,k3,k4,k5,k6,k7⟩:=HK.out _ y5
  obtain ⟨a0,a1,a2,a3,a4,a5,a6⟩:=arr7 (DoorB.ext HDB.out y5)
  by_cases hjl:j<x.o.auths.length
  ·obtain ⟨n,hn⟩:∃ n,x.o.auths[j]?=some n:=⟨_,List.getElem?_eq_getElem hjl⟩
   obtain ⟨s,hs⟩:∃ s,x.o.names[j]?=some s:=⟨_,List.getElem?_eq_getElem (by have:=HN.out.2.2.2.2.2.2.2;omega)⟩
   obtain ⟨ad1',hA1',p1⟩:=reads_id HXW.out.auths hn
   rw [HA1.out] at hA1'
   cases hA1'
   obtain ⟨ad2,hA2,p2⟩:=reads_text HXW.out.names hs
   have z5:=HX1.out.trans y5
   have p1:=z5.cell p1
   have p2:=z5.cell p2
   rw [hA2] at k2
   have hjn:(j:Int)<(x.o.names.length:Int):=by have:=HN.out.2.2.2.2.2.2.2;omega
   have hwn:=wf64_out (HXW.out.aw n (List.mem_of_getElem? hn))
   have HJ:=Lib.hid hj
   have HO:=Lib.hid hok
   have HHN:=Lib.hid hn
   have HHS:=Lib.hid hs
   have HZ:=Lib.hid hx
   have HZ5:=Lib.hid z5
   clear hj hok hn hs hx hA2
   by_cases g1:n<1
   ·have hno:Hid (¬ mayO d i l x.o):=Lib.hid (hasTo_no HHN.out HHS.out fun h=>by have:=h.1;omega)
    have d1:decide (n<1)=true:=decide_eq_true g1
    clear g1 hwn
    go_wp2
    have j0:=fun q:Later wr=>q.cell k1
    have j1:=fun q:Later wr=>q.cell k2
    have j2:=fun q:Later wr=>q.cell a3
    have j3:=fun q:Later wr=>q.cell p2
    try (have j4:=fun q:Later wr=>q.cell r1)
    try (have j5:=fun q:Later wr=>q.cell r2)
    clear k0 k1 k2 k3 k4 k5 k6 k7 a0 a1 a2 a3 a4 a5 a6
    refine wp_region_later (by kernel_rfl) (by kernel_rfl) ?_
    repeat (go_big_quiet_step ((fail)))
    refine wpQuiet_nil ?_
    rintro W2 ⟨q,hq⟩
    have x6:Ext w W2:=by rw [hq];exact HZ5.out.trans q.ext
    clear j0 j1 j2 j3
    (try clear j4)
    (try clear j5)
    clear hq q
    go_wp2
    go_ret
    exact mayPost_no hno.out rfl x6
   have d1:decide (n<1)=false:=decide_eq_false g1
   obtain ⟨a,rfl⟩:∃ a:Nat,n=(a:Int)+1:=⟨(n-1).toNat,by omega⟩
   by_cases g2:(d.auts.length:Int)<(a:Int)+1
   ·have hno:Hid (¬ mayO d i l x.o):=Lib.hid (hasTo_no HHN.out HHS.out fun h=>by have:=h.2.1;omega)
    have d2:decide ((d.auts.length:Int)<(a:Int)+1)=true:=decide_eq_true g2
    clear g1 g2 hwn
    go_wp2
    have j0:=fun q:Later wr=>q.cell k1
    have j1:=fun q:Later wr=>q.cell k2
    have j2:=fun q:Later wr=>q.cell a3
    have j3:=fun q:Later wr=>q.cell p2
    try (have j4:=fun q:Later wr=>q.cell r1)
    try (have j5:=fun q:Later wr=>q.cell r2)
    clear k0 k1 k2 k3 k4 k5 k6 k7 a0 a1 a2 a3 a4 a5 a6
    refine wp_region_later (by kernel_rfl) (by kernel_rfl) ?_
    repeat (go_big_quiet_step ((fail)))
    refine wpQuiet_nil ?_
    rintro W2 ⟨q,hq⟩
    have x6:Ext w W2:=by rw [hq];exact HZ5.out.trans q.ext
    clear j0 j1 j2 j3
    (try clear j4)
    (try clear j5)
    clear hq q
    go_wp2
    go_ret
    exact mayPost_no hno.out rfl x6
   have d2:decide ((d.auts.length:Int)<(a:Int)+1)=false:=decide_eq_false g2
   obtain ⟨u,hu⟩:∃ u,d.auts[a]?=some u:=⟨_,List.getElem?_eq_getElem (by omega)⟩
   obtain ⟨ad3,hA3,hlt3,r0,r1,r2,r3,r4,r5,r6⟩:=reads_aut HU.out hu
   rw [hA3] at a3
   have r1:=HZ5.out.cell r1
   have r2:=HZ5.out.cell r2
   have hal:(a:Int)<(d.auts.length:Int):=by omega
   have hab:(a:Int)≤1099511627776:=by have:=HUL.out;omega
   have e1:IntKind.i64.wrap ((a:Int)+1-1)=(a:Int):=by rw [IntKind.wrap_i64];omega
   have HHU:=Lib.hid hu
   clear hA3 hlt3 r0 r3 r4 r5 r6 hu g1 g2 hwn
   by_cases g3:u.acc=x.o.acc
   ·have d3:(u.acc != x.o.acc)=false:=by simp [g3]
    by_cases g4:u.name=s
    ·have d4:(!u.name.toList==s.toList)=false:=by simp [g4]
     have hok':Hid (hasTo d.auts x.o (j+1)):=Lib.hid (hasTo_succ HO.out HHN.out HHS.out ⟨by omega,by omega,fun v hv=>by
      rw [show ((a:Int)+1).toNat-1=a by omega,HHU.out] at hv
      cases hv;exact ⟨g3,g4⟩⟩)
     clear g3 g4
     go_wp2
     have j0:=fun q:Later wr=>q.cell k1
     have j1:=fun q:Later wr=>q.cell k2
     have j2:=fun q:Later wr=>q.cell a3
     have j3:=fun q:Later wr=>q.cell p2
     try (have j4:=fun q:Later wr=>q.cell r1)
     try (have j5:=fun q:Later wr=>q.cell r2)
     clear k0 k1 k2 k3 k4 k5 k6 k7 a0 a1 a2 a3 a4 a5 a6
     refine wp_region_later (by kernel_rfl) (by kernel_rfl) ?_
     repeat (go_big_quiet_step ((fail)))
     refine wpQuiet_nil ?_
     rintro W2 ⟨q,hq⟩
     have x6:Ext w W2:=by rw [hq];exact HZ5.out.trans q.ext
     clear j0 j1 j2 j3
     (try clear j4)
     (try clear j5)
     have x7:Ext w4 W2:=by rw [hq];exact HZ.out.trans q.ext
     clear hq q
     go_wp2
     have hj:=HJ.out
     go_roundg (gk-1)
     case measure=>omega
     case rel=>exact ⟨j+1,by omega,int_congr (by omega),hok'.out,x7⟩
    ·have d4:(!u.name.toList==s.toList)=true:=by rw [str_beq_false g4];rfl
     have hno:Hid (¬ mayO d i l x.o):=Lib.hid (hasTo_no HHN.out HHS.out fun h=>by
      have:=h.2.2 u (by rw [show ((a:Int)+1).toNat-1=a by omega,HHU.out];rfl)
      exact g4 this.2)
     clear g3 g4
     go_wp2
     have j0:=fun q:Later wr=>q.cell k1
     have j1:=fun q:Later wr=>q.cell k2
     have j2:=fun q:Later wr=>q.cell a3
     have j3:=fun q:Later wr=>q.cell p2
     try (have j4:=fun q:Later wr=>q.cell r1)
     try (have j5:=fun q:Later wr=>q.cell r2)
     clear k0 k1 k2 k3 k4 k5 k6 k7 a0 a1 a2 a3 a4 a5 a6
     refine wp_region_later (by kernel_rfl) (by kernel_rfl) ?_
     repeat (go_big_quiet_step ((fail)))
     refine wpQuiet_nil ?_
     rintro W2 ⟨q,hq⟩
     have x6:Ext w W2:=by rw [hq];exact HZ5.out.trans q.ext
     clear j0 j1 j2 j3
     (try clear j4)
     (try clear j5)
     clear hq q
     go_wp2
     go_ret
     exact mayPost_no hno.out rfl x6
   ·have d3:(u.acc != x.o.acc)=true:=by simp [g3]
    have hno:Hid (¬ mayO d i l x.o):=Lib.hid (hasTo_no HHN.out HHS.out fun h=>by
     have:=h.2.2 u (by rw [show ((a:Int)+1).toNat-1=a by omega,HHU.out];rfl)
     exact g3 this.1)
    clear g3
    go_wp2
    have j0:=fun q:Later wr=>q.cell k1
    have j1:=fun q:Later wr=>q.cell k2
    have j2:=fun q:Later wr=>q.cell a3
    have j3:=fun q:Later wr=>q.cell p2
    try (have j4:=fun q:Later wr=>q.cell r1)
    try (have j5:=fun q:Later wr=>q.cell r2)
    clear k0 k1 k2 k3 k4 k5 k6 k7 a0 a1 a2 a3 a4 a5 a6
    refine wp_region_later (by kernel_rfl) (by kernel_rfl) ?_
    repeat (go_big_quiet_step ((fail)))
    refine wpQuiet_nil ?_
    rintro W2 ⟨q,hq⟩
    have x6:Ext w W2:=by rw [hq];exact HZ5.out.trans q.ext
    clear j0 j1 j2 j3
    (try clear j4)
    (try clear j5)
    clear hq q
    go_wp2
    go_ret
    exact mayPost_no hno.out rfl x6
  ·have hP:ordP d.accs.length d.auts i x.o:=⟨HN.out.1,HN.out.2.1,HN.out.2.2.1,HN.out.2.2.2.1,HN.out.2.2.2.2.1,HN.out.2.2.2.2.2.1,HN.out.2.2.2.2.2.2.1,HN.out.2.2.2.2.2.2.2,fun k h1 h2=>hok k h1 h2 (by omega)⟩
   have z5:=HX1.out.trans y5
   have hst:=wf64_out HXW.out.st
   have hjd:decide (j<x.o.auths.length)=false:=decide_eq_false hjl
   have HP:=Lib.hid hP
   have HZ5:=Lib.hid z5
   have hS:=SetIs.ext HS.out z5
   have HSS:=Lib.hid hS
   clear hP hok hx y5 hj hjl z5 hS a0 a1 a2 a3 a4 a6 k0 k1 k2 k3 k4 k5
   have HX9:Hid (w.grownBy wr (some m)):=Lib.hid (grown_ext HZ5.out (some m))
   have HWS:=Lib.hid HXW.out.ser
   obtain ⟨lo,hi5⟩:=wf64_out HXW.out.ser
   by_cases s5:x.o.st=5
   ·have e1:(x.o.st==1)=false:=by simp [s5]
    have e2:(x.o.st==2)=false:=by simp [s5]
    have e5:(x.o.st==5)=true:=by simp [s5]
    have HS5:=Lib.hid s5
    have j6:=fun q:Later wr=>q.cell k7
    have j7:=fun q:Later wr=>q.cell a5
    clear s5 hst
    by_cases g1:x.o.ser<1
    ·have d1:decide (x.o.ser<1)=true:=decide_eq_true g1
     have hno:Hid (¬ mayO d i l x.o):=Lib.hid fun h=>by have:=h.2.1;unfold serP at this;rw [if_pos HS5.out] at this;omega
     clear g1
     go_wp2
     clear k6 k7 a5
     refine wp_region_later (by kernel_rfl) (by kernel_rfl) ?_
     repeat (go_big_quiet_step ((fail)))
     refine wpQuiet_nil ?_
     rintro W2 ⟨q,hq⟩
     have x6:Ext w W2:=by rw [hq];exact HZ5.out.trans q.ext
     clear hq q j6 j7
     go_wp2
     go_ret
     exact mayPost_no hno.out rfl x6
    have d1:decide (x.o.ser<1)=false:=decide_eq_false g1
    by_cases g2:d.ser<x.o.ser
    ·have d2:decide (d.ser<x.o.ser)=true:=decide_eq_true g2
     have hno:Hid (¬ mayO d i l x.o):=Lib.hid fun h=>by have:=h.2.1;unfold serP at this;rw [if_pos HS5.out] at this;omega
     clear g1 g2
     go_wp2
     clear k6 k7 a5
     refine wp_region_later (by kernel_rfl) (by kernel_rfl) ?_
     repeat (go_big_quiet_step ((fail)))
     refine wpQuiet_nil ?_
     rintro W2 ⟨q,hq⟩
     have x6:Ext w W2:=by rw [hq];exact HZ5.out.trans q.ext
     clear hq q j6 j7
     go_wp2
     go_ret
     exact mayPost_no hno.out rfl x6
    have d2:decide (d.ser<x.o.ser)=false:=decide_eq_false g2
    by_cases g3:x.o.ser∈l
    ·have hlk:∀ q:Later wr,(Instr.lookup 105 (.map (some m)) (.int .i64 x.o.ser) false).run Tryz.prog q.W=.ok (.bool true) q.W:=fun q=>by rw [SetIs.look (SetIs.ext HSS.out q.ext) x.o.ser HWS.out,decide_eq_true g3]
     have hno:Hid (¬ mayO d i l x.o):=Lib.hid fun h=>h.2.2 HS5.out g3
     clear g1 g2 g3
     go_wp2
     clear k6 k7 a5
     refine wp_region_later (by kernel_rfl) (by kernel_rfl) ?_
     repeat (go_big_quiet_step ((fail)))
     refine wpQuiet_nil ?_
     rintro W2 ⟨q,hq⟩
     have x6:Ext w W2:=by rw [hq];exact HZ5.out.trans q.ext
     clear hq q j6 j7
     clear hlk
     go_wp2
     go_ret
     exact mayPost_no hno.out rfl x6
    ·have hlk:∀ q:Later wr,(Instr.lookup 105 (.map (some m)) (.int .i64 x.o.ser) false).run Tryz.prog q.W=.ok (.bool false) q.W:=fun q=>by rw [SetIs.look (SetIs.ext HSS.out q.ext) x.o.ser HWS.out,decide_eq_false g3]
     have hyes:Hid (mayO d i l x.o):=Lib.hid ⟨HP.out,by unfold serP;rw [if_pos HS5.out];omega,fun _=>g3⟩
     clear g1 g2 g3
     go_wp2
     have K7:=Lib.hid k7
     clear k6 k7 a5
     refine wp_region_later (by kernel_rfl) (by kernel_rfl) ?_
     repeat (go_big_quiet_step ((fail)))
     refine wpQuiet_nil ?_
     rintro W2 ⟨q,hq⟩
     have x6:Ext w W2:=by rw [hq];exact HZ5.out.trans q.ext
     have HS2:Hid (SetIs W2 m l):=by rw [hq];exact Lib.hid (SetIs.ext HSS.out q.ext)
     have k7:W2.cell? ⟨w.heap.size,7,none⟩=some (.int .i64 x.o.ser):=by rw [hq];exact q.cell K7.out
     clear hq q j6 j7
     clear hlk
     go_wp2_with (at_mapUpdate;refine wpList_mapUpdate_own _ rfl _ _ _ 105 rfl 3 4 keyInt Tryz.underlying105 _ m _ _ rfl HS2.out (by have:=HL.out;simp only [maxLen];omega) _ _ _ rfl rfl (keyOf_int_mk Tryz.underlying3 HWS.out) tt [] (plainElem_bool Tryz.underlying4 true) ?_;intro w3 hown3 hg3;have O3:=Lib.hid (SetIs.put_ hown3);have HG3:=Lib.hid hg3;clear hown3 hg3)
     go_ret
     exact mayPost_yes hyes.out rfl (by unfold addI;rw [if_pos HS5.out];exact O3.out) (World.grownBy.trans (grown_ext x6 (some m)) HG3.out)
   ·have e5:(x.o.st==5)=false:=by simp [s5]
    have HS5:=Lib.hid s5
    clear a5
    by_cases s1:x.o.st=1
    ·have e1:(x.o.st==1)=true:=by simp [s1]
     have HS1:Hid (x.o.st=1∨x.o.st=2):=Lib.hid (.inl s1)
     clear s1 s5 hst
     by_cases g1:x.o.ser=0
     ·have f1:(x.o.ser==0)=true:=by simp [g1]
      have hyes:Hid (mayO d i l x.o):=Lib.hid ⟨HP.out,by unfold serP;rw [if_neg HS5.out];exact ⟨HS1.out,g1⟩,fun h=>absurd h HS5.out⟩
      clear g1
      go_wp2
      go_ret
      exact mayPost_yes hyes.out rfl (by unfold addI;rw [if_neg HS5.out];exact HSS.out) HX9.out
     ·have f1:(x.o.ser==0)=false:=by simp [g1]
      have hno:Hid (¬ mayO d i l x.o):=Lib.hid fun h=>by have:=h.2.1;unfold serP at this;rw [if_neg HS5.out] at this;exact g1 this.2
      clear g1
      go_wp2
      go_ret
      exact mayPost_no hno.out rfl HZ5.out
    ·have e1:(x.o.st==1)=false:=by simp [s1]
     by_cases s2:x.o.st=2
     ·have e2:(x.o.st==2)=true:=by simp [s2]
      have HS1:Hid (x.o.st=1∨x.o.st=2):=Lib.hid (.inr s2)
      clear s1 s2 s5 hst
      by_cases g1:x.o.ser=0
      ·have f1:(x.o.ser==0)=true:=by simp [g1]
       have hyes:Hid (mayO d i l x.o):=Lib.hid ⟨HP.out,by unfold serP;rw [if_neg HS5.out];exact ⟨HS1.out,g1⟩,fun h=>absurd h HS5.out⟩
       clear g1
       go_wp2
       go_ret
       exact mayPost_yes hyes.out rfl (by unfold addI;rw [if_neg HS5.out];exact HSS.out) HX9.out
      ·have f1:(x.o.ser==0)=false:=by simp [g1]
       have hno:Hid (¬ mayO d i l x.o):=Lib.hid fun h=>by have:=h.2.1;unfold serP at this;rw [if_neg HS5.out] at this;exact g1 this.2
       clear g1
       go_wp2
       go_ret
       exact mayPost_no hno.out rfl HZ5.out
     ·have e2:(x.o.st==2)=false:=by simp [s2]
      have hno:Hid (¬ mayO d i l x.o):=Lib.hid fun h=>by have:=h.2.1;unfold serP at this;rw [if_neg HS5.out] at this;omega
      clear s1 s2 s5 hst
      go_wp2
      go_ret
      exact mayPost_no hno.out rfl HZ5.out
theorem arr6f {W:World} {g:Nat} {T:TypeId} {a b c d e f:Value} (k:Blk W g T #[a,b,c,d,e,f]):W.cell? ⟨g,0,none⟩=some a∧W.cell? ⟨g,1,none⟩=some b∧W.cell? ⟨g,2,none⟩=some c∧W.cell? ⟨g,3,none⟩=some d∧W.cell? ⟨g,4,none⟩=some e∧W.cell? ⟨g,5,none⟩=some f :=
 ⟨k.cell 0,k.cell 1,k.cell 2,k.cell 3,k.cell 4,k.cell 5⟩
theorem issued_len (l:List OrdR):(issued l).length≤l.length:=by unfold issued;rw [List.length_map];exact List.length_filter_le _ _
theorem addI_issued (l:List OrdR) (o:OrdR):addI (issued l) o=issued (l++[o]):=by rw [issued_add];rfl
theorem oCheck_any (d:DoorX) (hu9:d.auts.length<100) (ha9:d.accs.length<100) (w:World) (hw:DoorW w w.heap.size d) :
  Calls Tryz.prog 21 #[frontV d] w fun e w'=>e=.returned (.int .i64 (chkF d.fro:Nat))∧Ext w w':=by
 have hmm:=@run_makeMap Tryz.prog
 have cN:=onum_any d.ser
 unfold frontV
 obtain ⟨W0,e0,b0,b1,x0,s0⟩:=startP w #[.int .i64 d.next,.slice d.oA d.opn.length d.oc,.slice d.cA d.accs.length d.cc,.slice d.uA d.auts.length d.uc,.slice d.rA d.ords.length d.rc,.int .i64 d.ser]
  #[.int .i64 d.next,.slice d.oA d.opn.length d.oc,.slice d.cA d.accs.length d.cc,.slice d.uA d.auts.length d.uc,.slice d.rA d.ords.length d.rc,.int .i64 d.ser,.int .i64 0] 43 92
 have cF:=fCheck_any d.next d.opn d.oA d.oc W0 (hw.non.ext x0)
 unfold fenV at cF
 obtain ⟨E,hE⟩:∃ E,fenN d.next d.opn=E:=⟨_,rfl⟩
 rw [hE] at cF
 have HW:=Lib.hid hw
 have HB0:=Lib.hid b0
 have HB1:=Lib.hid b1
 have HX0:=Lib.hid x0
 have HS0:=Lib.hid s0
 have HE:=Lib.hid hE
 have HU9:=Lib.hid hu9
 have HA9:=Lib.hid ha9
 obtain ⟨k0,k1,k2,k3,k4,k5⟩:=arr6f b0
 clear b0 b1 x0 s0 hw hE hu9 ha9
 go_enter Tryz.func21,Tryz.ntmps21
 go_upto_region 2 with (fail)
 try rw [e0]
 clear e0
 go_cut [4] (fun s4 wx=>Ext W0 wx∧s4=.bool (decide (E=0∧numP d.ser)))
 case first =>
  by_cases h1:E=0
  ·have d1:((E:Int)==0)=true:=by simp [h1]
   by_cases h2:numP d.ser
   ·rw [decide_eq_true h2] at cN
    have HH:Hid (E=0∧numP d.ser):=Lib.hid ⟨h1,h2⟩
    clear h1 h2
    go_wp2_with (first
     | (go_at_call 62;refine cF.mono ?_;clear cF;rintro e w1 ⟨rfl,x1⟩;have k5:=x1.cell k5)
     | (go_at_call 42;refine (cN _).mono ?_;clear cN;rintro e w2 ⟨rfl,rfl⟩))
    go_meet
    exact ⟨x1,by rw [decide_eq_true HH.out]⟩
   ·rw [decide_eq_false h2] at cN
    have HH:Hid (¬ (E=0∧numP d.ser)):=Lib.hid (fun h=>h2 h.2)
    clear h1 h2
    go_wp2_with (first
     | (go_at_call 62;refine cF.mono ?_;clear cF;rintro e w1 ⟨rfl,x1⟩;have k5:=x1.cell k5)
     | (go_at_call 42;refine (cN _).mono ?_;clear cN;rintro e w2 ⟨rfl,rfl⟩))
    go_meet
    exact ⟨x1,by rw [decide_eq_false HH.out]⟩
  ·have d1:((E:Int)==0)=false:=by simp [h1]
   have HH:Hid (¬ (E=0∧numP d.ser)):=Lib.hid (fun h=>h1 h.1)
   clear h1 cN
   go_wp2_with (go_at_call 62;refine cF.mono ?_;clear cF;rintro e w1 ⟨rfl,x1⟩;have k5:=x1.cell k5)
   go_meet
   exact ⟨x1,by rw [decide_eq_false HH.out]⟩
 case rest =>
  obtain ⟨hx,rfl⟩:=hcut
  clear cF cN
  obtain ⟨W1,hW1⟩:∃ W,W=wc:=⟨_,rfl⟩
  rw [← hW1] at hx ⊢
  clear hW1
  obtain ⟨ok,hok⟩:∃ b,b=decide (E=0∧numP d.ser):=⟨_,rfl⟩
  rw [← hok]
  have HOK1:Hid (ok=true→fenN d.next d.opn=0∧numP d.ser):=Lib.hid (fun h=>by rw [hok] at h;have:=of_decide_eq_true h;rw [HE.out];exact this)
  have HOK2:Hid (ok=false→¬ doorP d.fro):=Lib.hid (fun h hd=>by rw [hok] at h;exact (of_decide_eq_false h) ⟨HE.out.symm.trans hd.1,hd.2.1⟩)
  have HX1:=Lib.hid hx
  have xa:Ext W1 ((W1.alloc (.map #[] 0)).alloc (.map #[] 0)):=((Ext.refl W1).alloc _).alloc _
  obtain ⟨k0,k1,k2,k3,k4,k5⟩:=arr6f (ext_blk (hx.trans xa) HB0.out)
  have HM:Hid (w.heap.size+2≤W1.heap.size):=Lib.hid (by have:=hx.size;have:=HS0.out;omega)
  clear hok hx xa
  go_wp2
  clear k0 k1 k2 k3 k4 k5 hmm
  go_loopg [4,27] d.accs.length (fun g s4 s27 wr=>∃ (j:Nat) (ok:Bool),j+g=d.accs.length∧s27=.int .i64 j∧s4=.bool ok∧Ext w wr ∧
   Blk wr w.heap.size 43 #[.int .i64 d.next,.slice d.oA d.opn.length d.oc,.slice d.cA d.accs.length d.cc,.slice d.uA d.auts.length d.uc,.slice d.rA d.ords.length d.rc,.int .i64 d.ser]∧DoorB wr (w.heap.size+1) d 0∧SetIs wr (W1.heap.size+1) [] ∧
   (ok=true→fenN d.next d.opn=0∧numP d.ser∧accsP (d.accs.take j)∧SetU wr W1.heap.size ((d.accs.take j).map (·.key)))∧(ok=false→¬ doorP d.fro))
  case atStart =>
   have xa:Ext W1 ((W1.alloc (.map #[] 0)).alloc (.map #[] 0)):=((Ext.refl W1).alloc _).alloc _
   refine ⟨0,ok,by omega,rfl,rfl,HX0.out.trans (HX1.out.trans xa),ext_blk (HX1.out.trans xa) HB0.out,ext_blk (HX1.out.trans xa) HB1.out,?_,fun h=>⟨(HOK1.out h).1,(HOK1.out h).2,⟨by simp,by simp⟩,?_⟩,HOK2.out⟩
   ·have:=SetIs.new (W1.alloc (.map #[] 0));simpa using this
   ·exact SetU.ext (SetU.new W1) ((Ext.refl _).alloc _)
  case round =>
   obtain ⟨j,ok,hj,rfl,rfl,hx,hb,hd,hs,h1,h2⟩:=hrel
   have hjb:(j:Int)≤1099511627776:=by have:=HW.out.cl;omega
   by_cases hjl:j<d.accs.length
   ·have hjd:decide (j<d.accs.length)=true:=decide_eq_true hjl
    cases ok with
    | false =>
     have HX:=Lib.hid hx
     have HB:=Lib.hid hb
     have HD:=Lib.hid hd
     have HS:=Lib.hid hs
     have H2:=Lib.hid (h2 rfl)
     have HJ:=Lib.hid hj
     clear hx hb hd hs h1 h2 hj
     go_wp2
     have hj:=HJ.out
     go_roundg (gk-1)
     case measure=>omega
     case rel=>exact ⟨j+1,false,by omega,int_congr (by omega),rfl,HX.out,HB.out,HD.out,HS.out,fun h=>(by cases h),fun _=>H2.out⟩
    | true =>
     obtain ⟨g1,g2,g3,g4⟩:=h1 rfl
     obtain ⟨x,hi⟩:∃ s,d.accs[j]?=some s:=⟨_,List.getElem?_eq_getElem hjl⟩
     have hk:=(HW.out.cw x (List.mem_of_getElem? hi)).key
     have hrd:Reads wr wr.heap.size 2 d.cA d.accs.length (accV d.accs):=(HW.out.acc.below hx.out).more hx.size
     have hsu:=accsP_succ hi
     have HX:=Lib.hid hx
     by_cases hP:accP j x∧x.key ∉ (d.accs.take j).map (·.key)
     ·have c1:=mayAcc_yes (w.heap.size+1) d 0 j x hi hk W1.heap.size _ (by have:=HW.out.cl;rw [List.length_map,List.length_take];omega) hP.1 hP.2 hjb wr hd hrd g4
      have H1:Hid (fenN d.next d.opn=0∧numP d.ser∧accsP (d.accs.take (j+1))):=Lib.hid ⟨g1,g2,hsu.2 ⟨g3,hP⟩⟩
      have HE2:=Lib.hid (tk_snoc hi)
      have HB:=Lib.hid hb
      have HD:=Lib.hid hd
      have HS:=Lib.hid hs
      have HJ:=Lib.hid hj
      clear hx hb hd hs h1 h2 hj g1 g2 g3 g4 hi hk hrd hsu hP
      go_wp2_with (go_at_call 63;refine c1.mono ?_;clear c1;rintro e w2 ⟨rfl,hset,hg⟩;have HSET:=Lib.hid hset;have HG:=Lib.hid hg;clear hset hg)
      have hj:=HJ.out
      have hm:=HM.out
      have hm2:W1.heap.size<wr.heap.size:=by have:=HS.out;have:=World.ownsMap.lt this;omega
      go_roundg (gk-1)
      case measure=>omega
      case rel=>exact ⟨j+1,true,by omega,int_congr (by omega),rfl,Ext.of (HX.out.out.grown HG.out HX.out.size (fun k hk=>by cases hk;omega)),HB.out.grown HG.out (by simp;omega),DoorB.grown HD.out HG.out (by simp;omega),SetIs.grown HS.out HG.out (by simp),fun _=>⟨H1.out.1,H1.out.2.1,H1.out.2.2,by rw [HE2.out,List.map_append];exact HSET.out⟩,fun h=>by cases h⟩
     ·have c1:=mayAcc_no (w.heap.size+1) d 0 j x hi hk W1.heap.size _ hP hjb wr hd hrd g4
      have H2:Hid (¬ doorP d.fro):=Lib.hid (fun h=>accsP_not (j:=j+1) (fun h'=>hP (hsu.1 h').2) h.2.2.1)
      have HB:=Lib.hid hb
      have HD:=Lib.hid hd
      have HS:=Lib.hid hs
      have HJ:=Lib.hid hj
      clear hx hb hd hs h1 h2 hj g1 g2 g3 g4 hi hk hrd hsu hP
      go_wp2_with (go_at_call 63;refine c1.mono ?_;clear c1;rintro e w2 ⟨rfl,x2⟩)
      have hj:=HJ.out
      go_roundg (gk-1)
      case measure=>omega
      case rel=>exact ⟨j+1,false,by omega,int_congr (by omega),rfl,HX.out.trans x2,ext_blk x2 HB.out,DoorB.ext HD.out x2,SetIs.ext HS.out x2,fun h=>(by cases h),fun _=>H2.out⟩
   ·obtain rfl:j=d.accs.length:=by omega
    rw [List.take_length] at h1
    have H1:Hid (ok=true→fenN d.next d.opn=0∧numP d.ser∧accsP d.accs):=Lib.hid (fun h=>⟨(h1 h).1,(h1 h).2.1,(h1 h).2.2.1⟩)
    have H2:=Lib.hid h2
    have HX:=Lib.hid hx
    have HB:=Lib.hid hb
    have HD:=Lib.hid hd
    have HS:=Lib.hid hs
    obtain ⟨k0,k1,k2,k3,k4,k5⟩:=arr6f hb
    clear hx hb hd hs h1 h2 hj hjl
    go_wp2
    clear k0 k1 k2 k3 k4 k5
    go_loopg [4,41] d.auts.length (fun g s4 s41 wr=>∃ (j:Nat) (ok:Bool),j+g=d.auts.length∧s41=.int .i64 j∧s4=.bool ok∧Ext w wr ∧
     Blk wr w.heap.size 43 #[.int .i64 d.next,.slice d.oA d.opn.length d.oc,.slice d.cA d.accs.length d.cc,.slice d.uA d.auts.length d.uc,.slice d.rA d.ords.length d.rc,.int .i64 d.ser]∧DoorB wr (w.heap.size+1) d 0∧SetIs wr (W1.heap.size+1) [] ∧
     (ok=true→fenN d.next d.opn=0∧numP d.ser∧accsP d.accs∧autsP d.accs.length (d.auts.take j))∧(ok=false→¬ doorP d.fro))
    case atStart=>exact ⟨0,ok,by omega,rfl,rfl,HX.out,HB.out,HD.out,HS.out,fun h=>⟨(H1.out h).1,(H1.out h).2.1,(H1.out h).2.2,fun i hi=>by simp at hi⟩,H2.out⟩
    case round =>
     clear HX HB HD HS H1 H2
     obtain ⟨j,ok,hj,rfl,rfl,hx,hb,hd,hs,h1,h2⟩:=hrel
     have hjb:(j:Int)≤1099511627776:=by have:=HW.out.ul;omega
     by_cases hjl:j<d.auts.length
     ·have hjd:decide (j<d.auts.length)=true:=decide_eq_true hjl
      cases ok with
      | false =>
       have HX:=Lib.hid hx
       have HB:=Lib.hid hb
       have HD:=Lib.hid hd
       have HS:=Lib.hid hs
       have H2:=Lib.hid (h2 rfl)
       have HJ:=Lib.hid hj
       clear hx hb hd hs h1 h2 hj
       go_wp2
       have hj:=HJ.out
       go_roundg (gk-1)
       case measure=>omega
       case rel=>exact ⟨j+1,false,by omega,int_congr (by omega),rfl,HX.out,HB.out,HD.out,HS.out,fun h=>(by cases h),fun _=>H2.out⟩
      | true =>
       obtain ⟨g1,g2,g3,g4⟩:=h1 rfl
       obtain ⟨x,hi⟩:∃ s,d.auts[j]?=some s:=⟨_,List.getElem?_eq_getElem hjl⟩
       have hk:=HW.out.uw x (List.mem_of_getElem? hi)
       have hrd:Reads wr wr.heap.size 7 d.uA d.auts.length (autV d.auts):=(HW.out.aut.below hx.out).more hx.size
       have hsu:=autsP_succ (n:=d.accs.length) hi
       have HX:=Lib.hid hx
       have c1:=mayAut_any (w.heap.size+1) d 0 j x hi hk (by have:=HU9.out;omega) HA9.out wr hd hrd
       have HB:=Lib.hid hb
       have HD:=Lib.hid hd
       have HS:=Lib.hid hs
       have HJ:=Lib.hid hj
       by_cases hP:autP d.accs.length j x
       ·have H1:Hid (fenN d.next d.opn=0∧numP d.ser∧accsP d.accs∧autsP d.accs.length (d.auts.take (j+1))):=Lib.hid ⟨g1,g2,g3,hsu.2 ⟨g4,hP⟩⟩
        rw [decide_eq_true hP] at c1
        clear hx hb hd hs h1 h2 hj g1 g2 g3 g4 hi hk hrd hsu hP
        go_wp2_with (go_at_call 64;refine c1.mono ?_;clear c1;rintro e w2 ⟨rfl,x2⟩)
        have hj:=HJ.out
        go_roundg (gk-1)
        case measure=>omega
        case rel=>exact ⟨j+1,true,by omega,int_congr (by omega),rfl,HX.out.trans x2,ext_blk x2 HB.out,DoorB.ext HD.out x2,SetIs.ext HS.out x2,fun _=>H1.out,fun h=>(by cases h)⟩
       ·have H2:Hid (¬ doorP d.fro):=Lib.hid (fun h=>autsP_not (j:=j+1) (fun h'=>hP (hsu.1 h').2) h.2.2.2.1)
        rw [decide_eq_false hP] at c1
        clear hx hb hd hs h1 h2 hj g1 g2 g3 g4 hi hk hrd hsu hP
        go_wp2_with (go_at_call 64;refine c1.mono ?_;clear c1;rintro e w2 ⟨rfl,x2⟩)
        have hj:=HJ.out
        go_roundg (gk-1)
        case measure=>omega
        case rel=>exact ⟨j+1,false,by omega,int_congr (by omega),rfl,HX.out.trans x2,ext_blk x2 HB.out,DoorB.ext HD.out x2,SetIs.ext HS.out x2,fun h=>(by cases h),fun _=>H2.out⟩
     ·obtain rfl:j=d.auts.length:=by omega
      rw [List.take_length] at h1
      have H1:=Lib.hid h1
      have H2:=Lib.hid h2
      have HX:=Lib.hid hx
      have HB:=Lib.hid hb
      have HD:=Lib.hid hd
      have HS:=Lib.hid hs
      obtain ⟨k0,k1,k2,k3,k4,k5⟩:=arr6f hb
      clear hx hb hd hs h1 h2 hj hjl
      go_wp2
      clear k0 k1 k2 k3 k4 k5
      go_loopg [4,54] d.ords.length (fun g s4 s54 wr=>∃ (j:Nat) (ok:Bool),j+g=d.ords.length∧s54=.int .i64 j∧s4=.bool ok∧Ext w wr ∧
       Blk wr w.heap.size 43 #[.int .i64 d.next,.slice d.oA d.opn.length d.oc,.slice d.cA d.accs.length d.cc,.slice d.uA d.auts.length d.uc,.slice d.rA d.ords.length d.rc,.int .i64 d.ser]∧DoorB wr (w.heap.size+1) d 0 ∧
       (ok=true→fenN d.next d.opn=0∧numP d.ser∧accsP d.accs∧autsP d.accs.length d.auts∧ordsP d.accs.length d.auts d.ser ((d.ords.map (·.o)).take j)∧SetIs wr (W1.heap.size+1) (issued ((d.ords.map (·.o)).take j)))∧(ok=false→¬ doorP d.fro))
      case atStart=>exact ⟨0,ok,by omega,rfl,rfl,HX.out,HB.out,HD.out,fun h=>⟨(H1.out h).1,(H1.out h).2.1,(H1.out h).2.2.1,(H1.out h).2.2.2,⟨fun i hi=>by simp at hi,by simp [issued]⟩,HS.out⟩,H2.out⟩
      case round =>
       clear HX HB HD HS H1 H2
       obtain ⟨j,ok,hj,rfl,rfl,hx,hb,hd,h1,h2⟩:=hrel
       have hjb:(j:Int)≤1099511627776:=by have:=HW.out.rl;omega
       by_cases hjl:j<d.ords.length
       ·have hjd:decide (j<d.ords.length)=true:=decide_eq_true hjl
        cases ok with
        | false =>
         have HX:=Lib.hid hx
         have HB:=Lib.hid hb
         have HD:=Lib.hid hd
         have H2:=Lib.hid (h2 rfl)
         have HJ:=Lib.hid hj
         clear hx hb hd h1 h2 hj
         go_wp2
         have hj:=HJ.out
         go_roundg (gk-1)
         case measure=>omega
         case rel=>exact ⟨j+1,false,by omega,int_congr (by omega),rfl,HX.out,HB.out,HD.out,fun h=>(by cases h),fun _=>H2.out⟩
        | true =>
         obtain ⟨g1,g2,g3,g4,g5,g6⟩:=h1 rfl
         obtain ⟨x,hi⟩:∃ s,d.ords[j]?=some s:=⟨_,List.getElem?_eq_getElem hjl⟩
         have hio:(d.ords.map (·.o))[j]?=some x.o:=by rw [List.getElem?_map,hi];rfl
         have hk:=(HW.out.rw x (List.mem_of_getElem? hi)).ext hx
         have hrd:Reads wr wr.heap.size 8 d.rA d.ords.length (ordV d.ords):=(HW.out.ord.below hx.out).more hx.size
         have hru:Reads wr wr.heap.size 7 d.uA d.auts.length (autV d.auts):=(HW.out.aut.below hx.out).more hx.size
         have hsu:=ordsP_succ (n:=d.accs.length) (f:=d.auts) (s:=d.ser) hio
         have HX:=Lib.hid hx
         have c1:=mayOrd_any (w.heap.size+1) d 0 j x hi hjb (W1.heap.size+1) _ (by have:=issued_len ((d.ords.map (·.o)).take j);have:=HW.out.rl;rw [List.length_take,List.length_map] at *;omega) wr hk hd hrd hru HW.out.ul g6
         have HB:=Lib.hid hb
         have HD:=Lib.hid hd
         have HJ:=Lib.hid hj
         have HSU:=Lib.hid hsu
         have HG:=Lib.hid (And.intro g1 (And.intro g2 (And.intro g3 (And.intro g4 g5))))
         have HT:=Lib.hid (tk_snoc hio)
         have hm2:Hid (W1.heap.size+1<wr.heap.size):=Lib.hid (World.ownsMap.lt g6)
         clear hx hb hd h1 h2 hj g1 g2 g3 g4 g5 g6 hi hk hrd hru hsu hio
         rcases Classical.em (mayO d j (issued ((d.ords.map (·.o)).take j)) x.o) with hP|hP
         ·have HP:=Lib.hid hP
          clear hP
          go_wp2_with (go_at_call 65;refine c1.mono ?_;clear c1;rintro e w2 (⟨-,rfl,hset,hg⟩|⟨hno,-,-⟩);rotate_left;exact absurd HP.out hno;have HSET:=Lib.hid hset;have HGR:=Lib.hid hg;clear hset hg)
          have hj:=HJ.out
          have hm:=HM.out
          have hm3:=hm2.out
          go_roundg (gk-1)
          case measure=>omega
          case rel=>exact ⟨j+1,true,by omega,int_congr (by omega),rfl,Ext.of (HX.out.out.grown HGR.out HX.out.size (fun k hk=>by cases hk;omega)),HB.out.grown HGR.out (by simp;omega),DoorB.grown HD.out HGR.out (by simp;omega),fun _=>⟨HG.out.1,HG.out.2.1,HG.out.2.2.1,HG.out.2.2.2.1,HSU.out.2 ⟨HG.out.2.2.2.2,HP.out⟩,by rw [HT.out,← addI_issued];exact HSET.out⟩,fun h=>(by cases h)⟩
         ·have HP:=Lib.hid hP
          have H2:Hid (¬ doorP d.fro):=Lib.hid (fun h=>ordsP_not (j:=j+1) (fun h'=>hP (HSU.out.1 h').2) h.2.2.2.2)
          clear hP
          go_wp2_with (go_at_call 65;refine c1.mono ?_;clear c1;rintro e w2 (⟨hyes,-,-,-⟩|⟨-,rfl,x2⟩);exact absurd hyes HP.out)
          have hj:=HJ.out
          go_roundg (gk-1)
          case measure=>omega
          case rel=>exact ⟨j+1,false,by omega,int_congr (by omega),rfl,HX.out.trans x2,ext_blk x2 HB.out,DoorB.ext HD.out x2,fun h=>(by cases h),fun _=>H2.out⟩
       ·obtain rfl:j=d.ords.length:=by omega
        rw [show (d.ords.map (·.o)).take d.ords.length=d.ords.map (·.o) by rw [← List.length_map (f:=fun x:OrdX=>x.o),List.take_length]] at h1
        have HX:=Lib.hid hx
        obtain ⟨k0,k1,k2,k3,k4,k5⟩:=arr6f hb
        have hjd:decide (d.ords.length<d.ords.length)=false:=by simp
        cases ok with
        | false =>
         have kk:Hid (chkF d.fro=1):=Lib.hid (by unfold chkF;rw [if_pos (h2 rfl)])
         clear hx hb hd h1 h2 hj hjl
         go_wp2
         go_ret
         exact ⟨by rw [kk.out];rfl,HX.out⟩
        | true =>
         obtain ⟨g1,g2,g3,g4,g5,g6⟩:=h1 rfl
         have hdp:doorP d.fro:=⟨g1,g2,g3,g4,g5⟩
         have kk:Hid (chkF d.fro=if 64<d.accs.length∨256<d.auts.length∨128<d.ords.length then 2 else 0):=Lib.hid (by
          unfold chkF;rw [if_neg (by simpa using hdp)];show (if 64<d.accs.length∨256<d.auts.length∨128<(d.ords.map (·.o)).length then 2 else 0)=_;rw [List.length_map])
         clear hx hb hd h1 h2 hj hjl g1 g2 g3 g4 g5 g6 hdp
         by_cases l1:(64:Int)<d.accs.length
         ·have kk2:Hid (chkF d.fro=2):=Lib.hid (by rw [kk.out,if_pos (.inl (by omega))])
          go_wp2
          go_ret
          exact ⟨by rw [kk2.out];rfl,HX.out⟩
         by_cases l2:(256:Int)<d.auts.length
         ·have kk2:Hid (chkF d.fro=2):=Lib.hid (by rw [kk.out,if_pos (.inr (.inl (by omega)))])
          go_wp2
          go_ret
          exact ⟨by rw [kk2.out];rfl,HX.out⟩
         by_cases l3:(128:Int)<d.ords.length
         ·have kk2:Hid (chkF d.fro=2):=Lib.hid (by rw [kk.out,if_pos (.inr (.inr (by omega)))])
          go_wp2
          go_ret
          exact ⟨by rw [kk2.out];rfl,HX.out⟩
         ·have kk2:Hid (chkF d.fro=0):=Lib.hid (by rw [kk.out,if_neg (by omega)])
          go_wp2
          go_ret
          exact ⟨by rw [kk2.out];rfl,HX.out⟩
theorem startF (w:World) (d:DoorX):∃ W,w.alloc (.cells #[.int .i64 d.next,.slice d.oA d.opn.length d.oc,.slice d.cA d.accs.length d.cc,.slice d.uA d.auts.length d.uc,.slice d.rA d.ords.length d.rc,.int .i64 d.ser] 43)=W∧Blk W w.heap.size 43 #[.int .i64 d.next,.slice d.oA d.opn.length d.oc,.slice d.cA d.accs.length d.cc,.slice d.uA d.auts.length d.uc,.slice d.rA d.ords.length d.rc,.int .i64 d.ser]∧Ext w W :=
 ⟨_,rfl,Blk.new _ _ _,(Ext.refl w).alloc _⟩
theorem rAuths_any (d:DoorX) (hu9:d.auts.length<99) (ha9:d.accs.length<100) (w:World) (hw:DoorW w w.heap.size d) :
  Calls Tryz.prog 68 #[frontV d] w fun e w'=>e=.returned (.bool (decide (autsP d.accs.length d.auts)))∧Ext w w':=by
 obtain ⟨W0,e0,b0,x0⟩:=startF w d
 have HW:=Lib.hid (hw.ext x0)
 have HB0:=Lib.hid b0
 have HX0:=Lib.hid x0
 have E0:=Lib.hid e0
 have HU9:=Lib.hid hu9
 have HA9:=Lib.hid ha9
 unfold frontV
 clear e0 b0 x0 hw hu9 ha9
 go_enter Tryz.func68,Tryz.ntmps68
 go_upto_region 1 with (fail)
 have e0:=E0.out
 rw [e0]
 clear e0 E0
 go_wp2
 go_loopg [3] d.auts.length (fun m s3 wr=>∃ j:Nat,j+m=d.auts.length∧s3=.int .i64 j∧autsP d.accs.length (d.auts.take j)∧Ext W0 wr)
 case atStart=>exact ⟨0,by omega,rfl,fun i h=>by simp at h,Ext.refl W0⟩
 case round =>
  obtain ⟨j,hj,rfl,hok,hx⟩:=hrel
  have hjb:(j:Int)≤100:=by have:=HU9.out;omega
  obtain ⟨m0,m1,m2,m3,m4,m5⟩:=arr6f (ext_blk hx HB0.out)
  by_cases h:j<d.auts.length
  ·obtain ⟨x,hs⟩:∃ s,d.auts[j]?=some s:=⟨_,List.getElem?_eq_getElem h⟩
   obtain ⟨ad,hA,hlt,q0,q1,q2,q3,q4,q5,q6⟩:=reads_aut (HW.out.ext hx).aut hs
   rw [hA] at m3
   have hjl:(j:Int)<(d.auts.length:Int):=by omega
   have HXW:=Lib.hid (HW.out.uw x (List.mem_of_getElem? hs))
   have HT:=Lib.hid (autsP_succ (n:=d.accs.length) hs)
   have HO:=Lib.hid hok
   have HX:=Lib.hid hx
   have HJ:=Lib.hid hj
   have HJL:=Lib.hid h
   have HNO:Hid (¬ autP d.accs.length j x→¬ autsP d.accs.length d.auts):=Lib.hid fun hh=>autsP_not (j:=j+1) fun k=>hh (HT.out.1 k).2
   obtain ⟨G,hG⟩:∃ G,G=gk-1:=⟨_,rfl⟩
   have HG:=Lib.hid hG
   clear hx hj hs hok hA hlt h hG
   go_upto_region 5 with (fail)
   obtain ⟨W1,e1⟩:∃ W,wr.alloc (.cells #[.int .i64 x.id,.int .i64 x.acc,.string x.name,.string x.tok,.int .i64 x.st,.int .i64 x.fr,.int .i64 x.un] 69)=W:=⟨_,rfl⟩
   try rw [e1]
   have HX1:Hid (Ext W0 W1):=Lib.hid (by rw [← e1];exact HX.out.alloc _)
   have HB1:Hid (Blk W1 wr.heap.size 69 #[.int .i64 x.id,.int .i64 x.acc,.string x.name,.string x.tok,.int .i64 x.st,.int .i64 x.fr,.int .i64 x.un]):=Lib.hid (by rw [← e1];exact Blk.new _ _ _)
   clear e1 m0 m1 m2 m3 m4 m5 q0 q1 q2 q3 q4 q5 q6
   obtain ⟨k0,k1,k2,k3,k4,k5,k6⟩:=arr7 HB1.out
   have m2:=(ext_blk HX1.out HB0.out).cell 2
   have j0:=fun i:Later W1=>i.cell k0
   have j1:=fun i:Later W1=>i.cell k1
   have j2:=fun i:Later W1=>i.cell k2
   have j3:=fun i:Later W1=>i.cell k3
   have j4:=fun i:Later W1=>i.cell k4
   have jm:=fun i:Later W1=>i.cell m2
   have cN:=fun i:Later W1=>rname_any x.name HXW.out.name i.W
   clear k0 k1 k2 k3 k4 k5 k6 m2
   by_cases h1:x.id=(j:Int)+1
   case neg =>
    have hno:Hid (¬ autsP d.accs.length d.auts):=Lib.hid (HNO.out fun k=>h1 (k.1))
    have d1:(x.id != (j:Int)+1)=true:=by simp [h1]
    clear h1 cN
    refine wp_region_later (by kernel_rfl) (by kernel_rfl) ?_
    repeat (go_big_quiet_step ((fail)))
    refine wpQuiet_nil ?_
    rintro W2 ⟨q,hq⟩
    have HX12:Hid (Ext W1 W2):=Lib.hid (by rw [hq];exact q.ext)
    have HX2:Hid (Ext W0 W2):=Lib.hid (HX1.out.trans HX12.out)
    clear hq q j0 j1 j2 j3 j4 jm 
    go_wp2
    go_ret
    exact ⟨ret_bool (decide_eq_false hno.out).symm,HX0.out.trans HX2.out⟩
   have d1:(x.id != (j:Int)+1)=false:=by simp [h1]
   by_cases h2:1≤x.acc
   case neg =>
    have hno:Hid (¬ autsP d.accs.length d.auts):=Lib.hid (HNO.out fun k=>h2 (k.2.1))
    have d2:decide (x.acc<1)=true:=decide_eq_true (by omega)
    clear h1 h2 cN
    refine wp_region_later (by kernel_rfl) (by kernel_rfl) ?_
    repeat (go_big_quiet_step ((fail)))
    refine wpQuiet_nil ?_
    rintro W2 ⟨q,hq⟩
    have HX12:Hid (Ext W1 W2):=Lib.hid (by rw [hq];exact q.ext)
    have HX2:Hid (Ext W0 W2):=Lib.hid (HX1.out.trans HX12.out)
    clear hq q j0 j1 j2 j3 j4 jm 
    go_wp2
    go_ret
    exact ⟨ret_bool (decide_eq_false hno.out).symm,HX0.out.trans HX2.out⟩
   have d2:decide (x.acc<1)=false:=decide_eq_false (by omega)
   by_cases h3:x.acc≤(d.accs.length:Int)
   case neg =>
    have hno:Hid (¬ autsP d.accs.length d.auts):=Lib.hid (HNO.out fun k=>h3 (k.2.2.1))
    have d3:decide ((d.accs.length:Int)<x.acc)=true:=decide_eq_true (by omega)
    clear h1 h2 h3 cN
    refine wp_region_later (by kernel_rfl) (by kernel_rfl) ?_
    repeat (go_big_quiet_step ((fail)))
    refine wpQuiet_nil ?_
    rintro W2 ⟨q,hq⟩
    have HX12:Hid (Ext W1 W2):=Lib.hid (by rw [hq];exact q.ext)
    have HX2:Hid (Ext W0 W2):=Lib.hid (HX1.out.trans HX12.out)
    clear hq q j0 j1 j2 j3 j4 jm 
    go_wp2
    go_ret
    exact ⟨ret_bool (decide_eq_false hno.out).symm,HX0.out.trans HX2.out⟩
   have d3:decide ((d.accs.length:Int)<x.acc)=false:=decide_eq_false (by omega)
   by_cases h4:namP x.name
   case neg =>
    have hno:Hid (¬ autsP d.accs.length d.auts):=Lib.hid (HNO.out fun k=>h4 (k.2.2.2.1))
    rw [decide_eq_false h4] at cN
    clear h1 h2 h3 h4
    refine wp_region_later (by kernel_rfl) (by kernel_rfl) ?_
    repeat (go_big_quiet_step (((go_at_call 81;exact Later.calls (cN _)))))
    refine wpQuiet_nil ?_
    rintro W2 ⟨q,hq⟩
    have HX12:Hid (Ext W1 W2):=Lib.hid (by rw [hq];exact q.ext)
    have HX2:Hid (Ext W0 W2):=Lib.hid (HX1.out.trans HX12.out)
    clear hq q j0 j1 j2 j3 j4 jm cN
    go_wp2
    go_ret
    exact ⟨ret_bool (decide_eq_false hno.out).symm,HX0.out.trans HX2.out⟩
   rw [decide_eq_true h4] at cN
   have cT:=fun i:Later W1=>rToken_any x.id x.acc (by omega) (by have:=HU9.out;have:=HJL.out;omega) (by omega) (by have:=HA9.out;omega) i.W
   by_cases h5:x.tok=tokS x.id x.acc
   case neg =>
    have hno:Hid (¬ autsP d.accs.length d.auts):=Lib.hid (HNO.out fun k=>h5 (k.2.2.2.2.1))
    have d5:(!x.tok.toList==(tokS x.id x.acc).toList)=true:=by rw [str_beq_false h5];rfl
    clear h1 h2 h3 h4 h5
    refine wp_region_later (by kernel_rfl) (by kernel_rfl) ?_
    repeat (go_big_quiet_step (((first|(go_at_call 81;exact Later.calls (cN _))|(go_at_call 112;exact Later.same (cT _))))))
    refine wpQuiet_nil ?_
    rintro W2 ⟨q,hq⟩
    have HX12:Hid (Ext W1 W2):=Lib.hid (by rw [hq];exact q.ext)
    have HX2:Hid (Ext W0 W2):=Lib.hid (HX1.out.trans HX12.out)
    clear hq q j0 j1 j2 j3 j4 jm cN cT
    go_wp2
    go_ret
    exact ⟨ret_bool (decide_eq_false hno.out).symm,HX0.out.trans HX2.out⟩
   have d5:(!x.tok.toList==(tokS x.id x.acc).toList)=false:=by rw [str_beq_true h5];rfl
   by_cases h6:1≤x.st
   case neg =>
    have hno:Hid (¬ autsP d.accs.length d.auts):=Lib.hid (HNO.out fun k=>h6 (k.2.2.2.2.2.1))
    have d6:decide (x.st<1)=true:=decide_eq_true (by omega)
    clear h1 h2 h3 h4 h5 h6
    refine wp_region_later (by kernel_rfl) (by kernel_rfl) ?_
    repeat (go_big_quiet_step (((first|(go_at_call 81;exact Later.calls (cN _))|(go_at_call 112;exact Later.same (cT _))))))
    refine wpQuiet_nil ?_
    rintro W2 ⟨q,hq⟩
    have HX12:Hid (Ext W1 W2):=Lib.hid (by rw [hq];exact q.ext)
    have HX2:Hid (Ext W0 W2):=Lib.hid (HX1.out.trans HX12.out)
    clear hq q j0 j1 j2 j3 j4 jm cN cT
    go_wp2
    go_ret
    exact ⟨ret_bool (decide_eq_false hno.out).symm,HX0.out.trans HX2.out⟩
   have d6:decide (x.st<1)=false:=decide_eq_false (by omega)
   by_cases h7:x.st≤4
   case neg =>
    have hno:Hid (¬ autsP d.accs.length d.auts):=Lib.hid (HNO.out fun k=>h7 (k.2.2.2.2.2.2.1))
    have d7:decide (4<x.st)=true:=decide_eq_true (by omega)
    clear h1 h2 h3 h4 h5 h6 h7
    refine wp_region_later (by kernel_rfl) (by kernel_rfl) ?_
    repeat (go_big_quiet_step (((first|(go_at_call 81;exact Later.calls (cN _))|(go_at_call 112;exact Later.same (cT _))))))
    refine wpQuiet_nil ?_
    rintro W2 ⟨q,hq⟩
    have HX12:Hid (Ext W1 W2):=Lib.hid (by rw [hq];exact q.ext)
    have HX2:Hid (Ext W0 W2):=Lib.hid (HX1.out.trans HX12.out)
    clear hq q j0 j1 j2 j3 j4 jm cN cT
    go_wp2
    go_ret
    exact ⟨ret_bool (decide_eq_false hno.out).symm,HX0.out.trans HX2.out⟩
   have d7:decide (4<x.st)=false:=decide_eq_false (by omega)
   have HH:=Lib.hid (And.intro h1 (And.intro h2 (And.intro h3 (And.intro h4 (And.intro h5 (And.intro h6 h7))))))
   clear h1 h2 h3 h4 h5 h6 h7
   refine wp_region_later (by kernel_rfl) (by kernel_rfl) ?_
   repeat (go_big_quiet_step (((first|(go_at_call 81;exact Later.calls (cN _))|(go_at_call 112;exact Later.same (cT _))))))
   refine wpQuiet_nil ?_
   rintro W2 ⟨q,hq⟩
   have HX12:Hid (Ext W1 W2):=Lib.hid (by rw [hq];exact q.ext)
   have HX2:Hid (Ext W0 W2):=Lib.hid (HX1.out.trans HX12.out)
   clear hq q j0 j1 j2 j3 j4 jm cN cT
   go_upto_region 7 with (fail)
   obtain ⟨k0,k1,k2,k3,k4,k5,k6⟩:=arr7 (ext_blk HX12.out HB1.out)
   have cM:=fun W=>rnum_any x.fr W
   have hwf:=wf64_out HXW.out.fr
   have hwu:=wf64_out HXW.out.un
   by_cases s3:x.st=3
   ·have e3:(x.st==3)=true:=by simp [s3]
    have e3n:(x.st != 3)=false:=by simp [s3]
    by_cases g1:numP x.fr
    case neg =>
     have kk:Hid (¬ autsP d.accs.length d.auts):=Lib.hid (HNO.out fun k=>g1 (by have:=k.2.2.2.2.2.2.2;rw [if_pos s3] at this;exact this.1))
     rw [decide_eq_false g1] at cM
     clear g1 s3
     go_wp2_with (go_at_call 43;refine (cM _).mono ?_;clear cM;rintro e w3 ⟨rfl,rfl⟩)
     go_ret
     exact ⟨ret_bool (decide_eq_false kk.out).symm,HX0.out.trans HX2.out⟩
    rw [decide_eq_true g1] at cM
    have ew:IntKind.i64.wrap (x.fr+50)=x.fr+50:=by have:=g1.1;have:=g1.2;rw [IntKind.wrap_i64];omega
    by_cases g2:x.un=x.fr+50
    ·have e4:(x.un != x.fr+50)=false:=by simp [g2]
     have kk:Hid (autsP d.accs.length (d.auts.take (j+1))):=Lib.hid (HT.out.2 ⟨HO.out,HH.out.1,HH.out.2.1,HH.out.2.2.1,HH.out.2.2.2.1,HH.out.2.2.2.2.1,HH.out.2.2.2.2.2.1,HH.out.2.2.2.2.2.2,by rw [if_pos s3];exact ⟨g1,g2⟩⟩)
     have n1:=g1.1
     have n2:=g1.2
     clear g1 g2 s3
     go_wp2_with (go_at_call 43;refine (cM _).mono ?_;clear cM;rintro e w3 ⟨rfl,rfl⟩)
     have hj:=HJ.out
     have hG:=HG.out
     go_roundg G
     case measure=>omega
     case rel=>exact ⟨j+1,by omega,int_congr (by omega),kk.out,HX2.out⟩
    ·have e4:(x.un != x.fr+50)=true:=by simp [g2]
     have kk:Hid (¬ autsP d.accs.length d.auts):=Lib.hid (HNO.out fun k=>g2 (by have:=k.2.2.2.2.2.2.2;rw [if_pos s3] at this;exact this.2))
     have n1:=g1.1
     have n2:=g1.2
     clear g1 g2 s3
     go_wp2_with (go_at_call 43;refine (cM _).mono ?_;clear cM;rintro e w3 ⟨rfl,rfl⟩)
     go_ret
     exact ⟨ret_bool (decide_eq_false kk.out).symm,HX0.out.trans HX2.out⟩
   ·have e3:(x.st==3)=false:=by simp [s3]
    have e3n:(x.st != 3)=true:=by simp [s3]
    by_cases g1:x.fr=0
    case neg =>
     have kk:Hid (¬ autsP d.accs.length d.auts):=Lib.hid (HNO.out fun k=>g1 (by have:=k.2.2.2.2.2.2.2;rw [if_neg s3] at this;exact this.1))
     have e4:(x.fr != 0)=true:=by simp [g1]
     clear g1 s3 cM
     go_wp2
     go_ret
     exact ⟨ret_bool (decide_eq_false kk.out).symm,HX0.out.trans HX2.out⟩
    have e4:(x.fr != 0)=false:=by simp [g1]
    by_cases g2:x.un=0
    ·have e5:(x.un != 0)=false:=by simp [g2]
     have kk:Hid (autsP d.accs.length (d.auts.take (j+1))):=Lib.hid (HT.out.2 ⟨HO.out,HH.out.1,HH.out.2.1,HH.out.2.2.1,HH.out.2.2.2.1,HH.out.2.2.2.2.1,HH.out.2.2.2.2.2.1,HH.out.2.2.2.2.2.2,by rw [if_neg s3];exact ⟨g1,g2⟩⟩)
     clear g1 g2 s3 cM hwf hwu
     go_wp2
     have hj:=HJ.out
     have hG:=HG.out
     go_roundg G
     case measure=>omega
     case rel=>exact ⟨j+1,by omega,int_congr (by omega),kk.out,HX2.out⟩
    ·have e5:(x.un != 0)=true:=by simp [g2]
     have kk:Hid (¬ autsP d.accs.length d.auts):=Lib.hid (HNO.out fun k=>g2 (by have:=k.2.2.2.2.2.2.2;rw [if_neg s3] at this;exact this.2))
     clear g1 g2 s3 cM hwf hwu
     go_wp2
     go_ret
     exact ⟨ret_bool (decide_eq_false kk.out).symm,HX0.out.trans HX2.out⟩
  ·obtain rfl:j=d.auts.length:=by omega
   rw [List.take_length] at hok
   have HX:=Lib.hid hx
   have kk:=Lib.hid hok
   clear hx hj h hok
   go_wp2
   go_ret
   exact ⟨ret_bool (decide_eq_true kk.out).symm,HX0.out.trans HX.out⟩
def serQ (ser:Int) (o:OrdR):Prop:=if o.st=5 then 1≤o.ser∧o.ser≤ser else o.ser=0
instance (ser:Int) (o:OrdR):Decidable (serQ ser o):=by unfold serQ;infer_instance
def serTo (ser:Int) (l:List OrdR):Prop:=(∀ o∈l,serQ ser o)∧(issued l).Nodup
instance (ser:Int) (l:List OrdR):Decidable (serTo ser l):=by unfold serTo;infer_instance
theorem serTo_succ {ser:Int} {l:List OrdR} {j:Nat} {x:OrdR} (h:l[j]?=some x):serTo ser (l.take (j+1)) ↔ serTo ser (l.take j)∧serQ ser x∧(x.st=5→x.ser ∉ issued (l.take j)):=by
 rw [List.take_add_one,h]
 simp only [Option.toList_some]
 unfold serTo
 rw [issued_add]
 constructor
 ·rintro ⟨h1,h2⟩
  refine ⟨⟨fun o ho=>h1 o (List.mem_append_left _ ho),?_⟩,h1 x (by simp),fun h5=>?_⟩
  ·split at h2
   ·exact (List.nodup_append.1 h2).1
   ·exact h2
  ·rw [if_pos h5] at h2
   intro hm
   exact (List.nodup_append.1 h2).2.2 _ hm _ (by simp) rfl
 ·rintro ⟨⟨h1,h2⟩,h3,h4⟩
  refine ⟨fun o ho=>?_,?_⟩
  ·rcases List.mem_append.1 ho with ho|ho
   ·exact h1 o ho
   ·rw [List.mem_singleton] at ho;subst ho;exact h3
  ·split
   ·next h5 =>
    refine List.nodup_append.2 ⟨h2,by simp,fun a ha b hb=>?_⟩
    rw [List.mem_singleton] at hb
    subst hb
    intro e
    subst e
    exact h4 h5 ha
   ·exact h2
theorem serTo_not {ser:Int} {l:List OrdR} {k:Nat} (h:¬ serTo ser (l.take k)):¬ serTo ser l:=fun h'=>h ⟨fun o ho=>h'.1 o (List.mem_of_mem_take ho),by
 have e:issued l=issued (l.take k)++issued (l.drop k):=by
  unfold issued
  rw [← List.map_append,← List.filter_append,List.take_append_drop]
 have h2:=h'.2
 rw [e] at h2
 exact (List.nodup_append.1 h2).1⟩
def noSer (l:List OrdR) (x:OrdR):Prop:=x.st=5→∀ o∈l,o.ser≠x.ser
theorem noSer_mem {l:List OrdR} {x:OrdR} (h:noSer l x) (h5:x.st=5):x.ser ∉ issued l:=fun hm=>by
 unfold issued at hm
 obtain ⟨o,ho,e⟩:=List.mem_map.1 hm
 exact h h5 o ((List.mem_filter.1 ho).1) e
theorem noSer_succ {l:List OrdR} {k:Nat} {x y:OrdR} (hy:l[k]?=some y) (h:noSer (l.take k) x) (hne:x.st=5→y.ser≠x.ser):noSer (l.take (k+1)) x:=fun h5 o ho=>by
 rw [List.take_add_one,hy] at ho
 simp only [Option.toList_some,List.mem_append,List.mem_singleton] at ho
 rcases ho with ho|rfl
 ·exact h h5 o ho
 ·exact hne h5
theorem ser_meets {ser:Int} {l:List OrdR} {j k:Nat} {x y:OrdR} (hx:l[j]?=some x) (hy:l[k]?=some y) (hk:k<j) (hok:serTo ser (l.take j)) (h5:x.st=5) (hq:serQ ser x) (e:y.ser=x.ser):¬ serTo ser l:=by
 have hm:y∈l.take j:=List.mem_of_getElem? (i:=k) (by rw [List.getElem?_take,if_pos hk];exact hy)
 have hq2:=hok.1 y hm
 unfold serQ at hq hq2
 rw [if_pos h5] at hq
 have hy5:y.st=5:=by
  by_cases h:y.st=5
  ·exact h
  ·rw [if_neg h] at hq2;omega
 refine serTo_not (k:=j+1) fun hh=>((serTo_succ hx).1 hh).2.2 h5 ?_
 rw [← e]
 exact List.mem_map.2 ⟨y,List.mem_filter.2 ⟨hm,by simp [hy5]⟩,rfl⟩
theorem rSerials_any (d:DoorX) (w:World) (hw:DoorW w w.heap.size d) :
  Calls Tryz.prog 114 #[frontV d] w fun e w'=>e=.returned (.bool (decide (serTo d.ser (d.ords.map (·.o)))))∧Ext w w':=by
 obtain ⟨W0,e0,b0,x0⟩:=startF w d
 have HW:=Lib.hid (hw.ext x0)
 have HB0:=Lib.hid b0
 have HX0:=Lib.hid x0
 have E0:=Lib.hid e0
 unfold frontV
 clear e0 b0 x0 hw
 go_enter Tryz.func114,Tryz.ntmps114
 go_upto_region 1 with (fail)
 have e0:=E0.out
 rw [e0]
 clear e0 E0
 go_wp2
 go_loopg [3] d.ords.length (fun m s3 wr=>∃ j:Nat,j+m=d.ords.length∧s3=.int .i64 j∧serTo d.ser ((d.ords.map (·.o)).take j)∧Ext W0 wr)
 case atStart=>exact ⟨0,by omega,rfl,⟨by simp,by simp [issued]⟩,Ext.refl W0⟩
 case round =>
  obtain ⟨j,hj,rfl,hok,hx⟩:=hrel
  have hjb:(j:Int)≤1099511627776:=by have:=HW.out.rl;omega
  obtain ⟨m0,m1,m2,m3,m4,m5⟩:=arr6f (ext_blk hx HB0.out)
  by_cases h:j<d.ords.length
  ·obtain ⟨x,hs⟩:∃ s,d.ords[j]?=some s:=⟨_,List.getElem?_eq_getElem h⟩
   have hso:(d.ords.map (·.o))[j]?=some x.o:=by rw [List.getElem?_map,hs];rfl
   obtain ⟨ad,hA,hlt,q0,q1,q2,q3,q4,q5,q6,q7⟩:=reads_ord (HW.out.ext hx).ord hs
   rw [hA] at m4
   have hjl:(j:Int)<(d.ords.length:Int):=by omega
   have HT:=Lib.hid (serTo_succ (ser:=d.ser) hso)
   have HSO:=Lib.hid hso
   have HO:=Lib.hid hok
   have HX:=Lib.hid hx
   have HJ:=Lib.hid hj
   have HJL:=Lib.hid h
   have HNO:Hid (¬ serQ d.ser x.o→¬ serTo d.ser (d.ords.map (·.o))):=Lib.hid fun hh=>serTo_not (k:=j+1) fun k=>hh (HT.out.1 k).2.1
   have HAD:=Lib.hid hA
   obtain ⟨G,hG⟩:∃ G,G=gk-1:=⟨_,rfl⟩
   have HG:=Lib.hid hG
   clear hx hj hs hok hA hlt h hG hso
   go_upto_region 5 with (fail)
   obtain ⟨W1,e1⟩:∃ W,wr.alloc (.cells #[.int .i64 x.o.id,.int .i64 x.o.acc,.slice x.nA x.o.names.length x.nc,.int .u64 (x.o.key:Int),.int .i64 x.o.life,.slice x.aA x.o.auths.length x.ac,.int .i64 x.o.st,.int .i64 x.o.ser] 78)=W:=⟨_,rfl⟩
   try rw [e1]
   have HX1:Hid (Ext W0 W1):=Lib.hid (by rw [← e1];exact HX.out.alloc _)
   have HB1:Hid (Blk W1 wr.heap.size 78 #[.int .i64 x.o.id,.int .i64 x.o.acc,.slice x.nA x.o.names.length x.nc,.int .u64 (x.o.key:Int),.int .i64 x.o.life,.slice x.aA x.o.auths.length x.ac,.int .i64 x.o.st,.int .i64 x.o.ser]):=Lib.hid (by rw [← e1];exact Blk.new _ _ _)
   clear e1 m0 m1 m2 m3 m4 m5 q0 q1 q2 q3 q4 q5 q6 q7
   obtain ⟨k0,k1,k2,k3,k4,k5,k6,k7⟩:=arr8 HB1.out
   have m5:=(ext_blk HX1.out HB0.out).cell 5
   by_cases s5:x.o.st=5
   ·have e5:(x.o.st==5)=true:=by simp [s5]
    have e5n:(x.o.st != 5)=false:=by simp [s5]
    by_cases g1:x.o.ser<1
    ·have d1:decide (x.o.ser<1)=true:=decide_eq_true g1
     have hno:Hid (¬ serTo d.ser (d.ords.map (·.o))):=Lib.hid (HNO.out fun k=>by unfold serQ at k;rw [if_pos s5] at k;omega)
     clear g1 s5
     go_wp2
     go_ret
     exact ⟨ret_bool (decide_eq_false hno.out).symm,HX0.out.trans HX1.out⟩
    have d1:decide (x.o.ser<1)=false:=decide_eq_false g1
    by_cases g2:d.ser<x.o.ser
    ·have d2:decide (d.ser<x.o.ser)=true:=decide_eq_true g2
     have hno:Hid (¬ serTo d.ser (d.ords.map (·.o))):=Lib.hid (HNO.out fun k=>by unfold serQ at k;rw [if_pos s5] at k;omega)
     clear g1 g2 s5
     go_wp2
     go_ret
     exact ⟨ret_bool (decide_eq_false hno.out).symm,HX0.out.trans HX1.out⟩
    have d2:decide (d.ser<x.o.ser)=false:=decide_eq_false g2
    have HQ:Hid (serQ d.ser x.o):=Lib.hid (by unfold serQ;rw [if_pos s5];omega)
    have HS5:=Lib.hid s5
    clear g1 g2 s5
    go_wp2
    clear k0 k1 k2 k3 k4 k5 k6 k7 m5 d1 d2
    go_loopg [5] j (fun m s5 wr=>∃ k:Nat,k+m=j∧s5=.int .i64 k∧noSer ((d.ords.map (·.o)).take k) x.o∧Ext W1 wr)
    case atStart=>exact ⟨0,by omega,rfl,fun _=>by simp,Ext.refl W1⟩
    case round =>
     obtain ⟨k,hk,rfl,hne,hx⟩:=hrel
     have hkb:(k:Int)≤1099511627776:=by omega
     obtain ⟨k0,k1,k2,k3,k4,k5,k6,k7⟩:=arr8 (ext_blk hx HB1.out)
     have m4:=(ext_blk (HX1.out.trans hx) HB0.out).cell 4
     rw [HAD.out] at m4
     by_cases h5:k<j
     ·obtain ⟨y,hy⟩:∃ s,d.ords[k]?=some s:=⟨_,List.getElem?_eq_getElem (by have:=HJL.out;omega)⟩
      have hyo:(d.ords.map (·.o))[k]?=some y.o:=by rw [List.getElem?_map,hy];rfl
      obtain ⟨_,e',-,q0,q1,q2,q3,q4,q5,q6,q7⟩:=reads_ord (HW.out.ext (HX1.out.trans hx)).ord hy
      obtain rfl:_=ad:=Option.some.inj (e'.symm.trans HAD.out)
      have hkj:(k:Int)<(j:Int):=by omega
      have hkl:(k:Int)<(d.ords.length:Int):=by omega
      have HK:=Lib.hid hk
      have HXK:=Lib.hid hx
      have j0:=fun i:Later wr=>i.cell k6
      have j1:=fun i:Later wr=>i.cell k7
      have j2:=fun i:Later wr=>i.cell m4
      have j3:=fun i:Later wr=>i.cell q7
      by_cases g5:y.o.ser=x.o.ser
      ·have kk:=Lib.hid (ser_meets HSO.out hyo h5 HO.out HS5.out HQ.out g5)
       have d5:(y.o.ser==x.o.ser)=true:=by simp [g5]
       clear hx hk hy hyo hne h5 g5 e' q0 q1 q2 q3 q4 q5 q6 q7 k0 k1 k2 k3 k4 k5 k6 k7 m4
       go_wp2
       refine wp_region_later (by kernel_rfl) (by kernel_rfl) ?_
       repeat (go_big_quiet_step ((fail)))
       refine wpQuiet_nil ?_
       rintro W2 ⟨z,hz⟩
       have X2:Ext W1 W2:=by rw [hz];exact HXK.out.trans z.ext
       clear hz z j0 j1 j2 j3
       go_wp2
       go_ret
       exact ⟨ret_bool (decide_eq_false kk.out).symm,HX0.out.trans (HX1.out.trans X2)⟩
      ·have hne':=Lib.hid (noSer_succ hyo hne fun _=>g5)
       have d5:(y.o.ser==x.o.ser)=false:=by simp [g5]
       clear hx hk hy hyo hne h5 g5 e' q0 q1 q2 q3 q4 q5 q6 q7 k0 k1 k2 k3 k4 k5 k6 k7 m4
       go_wp2
       refine wp_region_later (by kernel_rfl) (by kernel_rfl) ?_
       repeat (go_big_quiet_step ((fail)))
       refine wpQuiet_nil ?_
       rintro W2 ⟨z,hz⟩
       have X2:Ext W1 W2:=by rw [hz];exact HXK.out.trans z.ext
       clear hz z j0 j1 j2 j3
       go_wp2
       have hk:=HK.out
       go_roundg (gk-1)
       case measure=>omega
       case rel=>exact ⟨k+1,by omega,int_congr (by omega),hne'.out,X2⟩
     ·obtain rfl:k=j:=by omega
      have hok':Hid (serTo d.ser ((d.ords.map (·.o)).take (k+1))):=Lib.hid (HT.out.2 ⟨HO.out,HQ.out,noSer_mem hne⟩)
      have HX9:=Lib.hid (HX1.out.trans hx)
      clear hx hk hne h5 k0 k1 k2 k3 k4 k5 k6 k7 m4
      go_wp2
      have hj:=HJ.out
      have hG:=HG.out
      go_roundg G
      case measure=>omega
      case rel=>exact ⟨k+1,by omega,int_congr (by omega),hok'.out,HX9.out⟩
   ·have e5:(x.o.st==5)=false:=by simp [s5]
    have e5n:(x.o.st != 5)=true:=by simp [s5]
    by_cases g1:x.o.ser=0
    case neg =>
     have d1:(x.o.ser != 0)=true:=by simp [g1]
     have hno:Hid (¬ serTo d.ser (d.ords.map (·.o))):=Lib.hid (HNO.out fun k=>by unfold serQ at k;rw [if_neg s5] at k;exact g1 k)
     clear g1 s5
     go_wp2
     go_ret
     exact ⟨ret_bool (decide_eq_false hno.out).symm,HX0.out.trans HX1.out⟩
    have d1:(x.o.ser != 0)=false:=by simp [g1]
    have hok':Hid (serTo d.ser ((d.ords.map (·.o)).take (j+1))):=Lib.hid (HT.out.2 ⟨HO.out,by unfold serQ;rw [if_neg s5];exact g1,fun h=>absurd h s5⟩)
    clear g1 s5
    go_wp2
    clear k0 k1 k2 k3 k4 k5 k6 k7 m5 d1
    go_loopg [5] j (fun m s5 wr=>∃ k:Nat,k+m=j∧s5=.int .i64 k∧Ext W1 wr)
    case atStart=>exact ⟨0,by omega,rfl,Ext.refl W1⟩
    case round =>
     obtain ⟨k,hk,rfl,hx⟩:=hrel
     have hkb:(k:Int)≤1099511627776:=by omega
     have k6:=(ext_blk hx HB1.out).cell 6
     by_cases h5:k<j
     ·have hkj:(k:Int)<(j:Int):=by omega
      have HK:=Lib.hid hk
      have HXK:=Lib.hid hx
      have j0:=fun i:Later wr=>i.cell k6
      clear hx hk h5 k6
      go_wp2
      refine wp_region_later (by kernel_rfl) (by kernel_rfl) ?_
      repeat (go_big_quiet_step ((fail)))
      refine wpQuiet_nil ?_
      rintro W2 ⟨z,hz⟩
      have X2:Ext W1 W2:=by rw [hz];exact HXK.out.trans z.ext
      clear hz z j0
      go_wp2
      have hk:=HK.out
      go_roundg (gk-1)
      case measure=>omega
      case rel=>exact ⟨k+1,by omega,int_congr (by omega),X2⟩
     ·obtain rfl:k=j:=by omega
      have HX9:=Lib.hid (HX1.out.trans hx)
      clear hx hk h5 k6
      go_wp2
      have hj:=HJ.out
      have hG:=HG.out
      go_roundg G
      case measure=>omega
      case rel=>exact ⟨k+1,by omega,int_congr (by omega),hok'.out,HX9.out⟩
  ·obtain rfl:j=d.ords.length:=by omega
   rw [List.take_of_length_le (by rw [List.length_map];exact Nat.le_refl _)] at hok
   have HX:=Lib.hid hx
   have kk:=Lib.hid hok
   clear hx hj h hok
   go_wp2
   go_ret
   exact ⟨ret_bool (decide_eq_true kk.out).symm,HX0.out.trans HX.out⟩
