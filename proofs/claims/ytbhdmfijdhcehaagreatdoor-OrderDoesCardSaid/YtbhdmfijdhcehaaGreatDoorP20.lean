/- Parts of the proofs, put together: OrT9, Or23, Or24, Or25, Or26, Or27. -/
import Derived.Test.YtbhdmfijdhcehaaGreatDoorP19
set_option maxRecDepth 100000
set_option maxHeartbeats 64000000
namespace Go.Proofs.YtbhdmfijdhcehaaGreatDoor
open Go.RowKit Go.Shelf Go.Maps
set_option linter.unusedSimpArgs false
set_option linter.unusedVariables false
def stP (o:OrdR):Prop:=o.st=1∨o.st=2∨o.st=5
def ordTo (n:Nat) (f:List AutR) (l:List OrdR) (j:Nat):Prop:=∀ i (h:i<l.length),i<j→ordP n f i l[i]∧stP l[i]
theorem ordTo_succ {n:Nat} {f:List AutR} {l:List OrdR} {j:Nat} {x:OrdR} (h:ordTo n f l j) (hx:l[j]?=some x) (hp:ordP n f j x) (hs:stP x):ordTo n f l (j+1):=fun i hi hj=>by
 by_cases e:i=j
 ·subst e
  obtain ⟨_,rfl⟩:=List.getElem?_eq_some_iff.1 hx
  exact ⟨hp,hs⟩
 ·exact h i hi (by omega)
theorem ordsP_all {n:Nat} {f:List AutR} {ser:Int} {l:List OrdR}:ordsP n f ser l ↔ ordTo n f l l.length∧serTo ser l:=by
 unfold ordsP ordTo serTo
 constructor
 ·rintro ⟨h1,h2⟩
  refine ⟨fun i hi _=>⟨(h1 i hi).1,?_⟩,fun o ho=>?_,h2⟩
  ·have:=(h1 i hi).2
   unfold serP at this
   unfold stP
   split at this <;> omega
  ·obtain ⟨i,hi,rfl⟩:=List.getElem_of_mem ho
   have:=(h1 i hi).2
   unfold serP at this
   unfold serQ
   split at this
   ·next h=>rw [if_pos h];exact this
   ·next h=>rw [if_neg h];exact this.2
 ·rintro ⟨h1,h2,h3⟩
  refine ⟨fun i hi=>⟨(h1 i hi hi).1,?_⟩,h3⟩
  have k1:=(h1 i hi hi).2
  have k2:=h2 _ (List.getElem_mem hi)
  unfold serQ at k2
  unfold serP
  unfold stP at k1
  split at k2
  ·next h=>rw [if_pos h];exact k2
  ·next h=>rw [if_neg h];exact ⟨by omega,k2⟩
theorem ords_no {n:Nat} {f:List AutR} {ser:Int} {l:List OrdR} {j:Nat} {x:OrdR} (hx:l[j]?=some x) (h:¬ (ordP n f j x∧stP x)):¬ ordsP n f ser l:=fun hh=>by
 obtain ⟨hj,rfl⟩:=List.getElem?_eq_some_iff.1 hx
 exact h ((ordsP_all.1 hh).1 j hj hj)
theorem rOrders_any (d:DoorX) (hu9:d.auts.length<99) (ha9:d.accs.length<100) (w:World) (hw:DoorW w w.heap.size d) :
  Calls Tryz.prog 69 #[frontV d] w fun e w'=>e=.returned (.bool (decide (ordsP d.accs.length d.auts d.ser (d.ords.map (·.o)))))∧Ext w w':=by
 obtain ⟨W0,e0,b0,x0⟩:=startF w d
 have HW:=Lib.hid (hw.ext x0)
 have HB0:=Lib.hid b0
 have HX0:=Lib.hid x0
 have E0:=Lib.hid e0
 have HU9:=Lib.hid hu9
 have HA9:=Lib.hid ha9
 unfold frontV
 clear e0 b0 x0 hw hu9 ha9
 go_enter Tryz.func69,Tryz.ntmps69
 go_upto_region 1 with (fail)
 have e0:=E0.out
 rw [e0]
 clear e0 E0
 go_wp2
 go_loopg [3] d.ords.length (fun m s3 wr=>∃ j:Nat,j+m=d.ords.length∧s3=.int .i64 j∧ordTo d.accs.length d.auts (d.ords.map (·.o)) j∧Ext W0 wr)
 case atStart=>exact ⟨0,by omega,rfl,fun i h h'=>by omega,Ext.refl W0⟩
 case round =>
  obtain ⟨j,hj,rfl,hok,hx⟩:=hrel
  have hjb:(j:Int)≤1099511627776:=by have:=HW.out.rl;omega
  obtain ⟨m0,m1,m2,m3,m4,m5⟩:=arr6f (ext_blk hx HB0.out)
  by_cases h:j<d.ords.length
  ·obtain ⟨x,hs⟩:∃ s,d.ords[j]?=some s:=⟨_,List.getElem?_eq_getElem h⟩
   have hso:(d.ords.map (·.o))[j]?=some x.o:=by rw [List.getElem?_map,hs];rfl
   obtain ⟨ad,hA,hlt,q0,q1,q2,q3,q4,q5,q6,q7⟩:=reads_ord (HW.out.ext hx).ord hs
   rw [hA] at m4
   have hjl:(j:Int)<(d.ords.length:Int):=by omega
   have HXW:=Lib.hid ((HW.out.ext hx).rw x (List.mem_of_getElem? hs))
   have HSO:=Lib.hid hso
   have HO:=Lib.hid hok
   have HX:=Lib.hid hx
   have HJ:=Lib.hid hj
   have HNO:Hid (¬ (ordP d.accs.length d.auts j x.o∧stP x.o)→¬ ordsP d.accs.length d.auts d.ser (d.ords.map (·.o))):=Lib.hid fun hh=>ords_no hso hh
   obtain ⟨G,hG⟩:∃ G,G=gk-1:=⟨_,rfl⟩
   have HG:=Lib.hid hG
   clear hx hj hs hok hA hlt h hG hso
   go_upto_region 5 with (fail)
   obtain ⟨W1,e1⟩:∃ W,wr.alloc (.cells #[.int .i64 x.o.id,.int .i64 x.o.acc,.slice x.nA x.o.names.length x.nc,.int .u64 (x.o.key:Int),.int .i64 x.o.life,.slice x.aA x.o.auths.length x.ac,.int .i64 x.o.st,.int .i64 x.o.ser] 78)=W:=⟨_,rfl⟩
   try rw [e1]
   have HXR1:Hid (Ext wr W1):=Lib.hid (by rw [← e1];exact (Ext.refl wr).alloc _)
   have HX1:Hid (Ext W0 W1):=Lib.hid (HX.out.trans HXR1.out)
   have HB1:Hid (Blk W1 wr.heap.size 78 #[.int .i64 x.o.id,.int .i64 x.o.acc,.slice x.nA x.o.names.length x.nc,.int .u64 (x.o.key:Int),.int .i64 x.o.life,.slice x.aA x.o.auths.length x.ac,.int .i64 x.o.st,.int .i64 x.o.ser]):=Lib.hid (by rw [← e1];exact Blk.new _ _ _)
   clear e1 m0 m1 m2 m3 m4 m5 q0 q1 q2 q3 q4 q5 q6 q7
   have HK:=Lib.hid fun (W:World) (y:Ext W1 W)=>arr8 (ext_blk y HB1.out)
   obtain ⟨k0,k1,k2,k3,k4,k5,k6,k7⟩:=HK.out W1 (Ext.refl W1)
   have m2:=(ext_blk HX1.out HB0.out).cell 2
   have cO:=rNames_any x.o.names HXW.out.nl HXW.out.ns x.nA x.nc W1 ((HXW.out.names.below HXR1.out.out).more HXR1.out.size)
   have cI:=rIn_any x.o.key HXW.out.key
   by_cases h1:x.o.id=(j:Int)+1
   case neg =>
    have hno:Hid (¬ ordsP d.accs.length d.auts d.ser (d.ords.map (·.o))):=Lib.hid (HNO.out fun k=>h1 (k.1.1))
    have d1:(x.o.id != (j:Int)+1)=true:=by simp [h1]
    clear h1 cO cI
    go_wp2
    go_ret
    exact ⟨ret_bool (decide_eq_false hno.out).symm,HX0.out.trans HX1.out⟩
   have d1:(x.o.id != (j:Int)+1)=false:=by simp [h1]
   by_cases h2:1≤x.o.acc
   case neg =>
    have hno:Hid (¬ ordsP d.accs.length d.auts d.ser (d.ords.map (·.o))):=Lib.hid (HNO.out fun k=>h2 (k.1.2.1))
    have d2:decide (x.o.acc<1)=true:=decide_eq_true (by omega)
    clear h1 h2 cO cI
    go_wp2
    go_ret
    exact ⟨ret_bool (decide_eq_false hno.out).symm,HX0.out.trans HX1.out⟩
   have d2:decide (x.o.acc<1)=false:=decide_eq_false (by omega)
   by_cases h3:x.o.acc≤(d.accs.length:Int)
   case neg =>
    have hno:Hid (¬ ordsP d.accs.length d.auts d.ser (d.ords.map (·.o))):=Lib.hid (HNO.out fun k=>h3 (k.1.2.2.1))
    have d3:decide ((d.accs.length:Int)<x.o.acc)=true:=decide_eq_true (by omega)
    clear h1 h2 h3 cO cI
    go_wp2
    go_ret
    exact ⟨ret_bool (decide_eq_false hno.out).symm,HX0.out.trans HX1.out⟩
   have d3:decide ((d.accs.length:Int)<x.o.acc)=false:=decide_eq_false (by omega)
   by_cases h4:namesP x.o.names
   case neg =>
    have hno:Hid (¬ ordsP d.accs.length d.auts d.ser (d.ords.map (·.o))):=Lib.hid (HNO.out fun k=>h4 (k.1.2.2.2.1))
    rw [decide_eq_false h4] at cO
    clear h1 h2 h3 h4 cI
    go_wp2_with (go_at_call 38;refine cO.mono ?_;clear cO;rintro e w3 ⟨rfl,x9⟩;clear k0 k1 k2 k3 k4 k5 k6 k7;obtain ⟨k0,k1,k2,k3,k4,k5,k6,k7⟩:=HK.out _ x9)
    go_ret
    exact ⟨ret_bool (decide_eq_false hno.out).symm,HX0.out.trans (HX1.out.trans x9)⟩
   rw [decide_eq_true h4] at cO
   by_cases h5:inB x.o.key=true
   case neg =>
    have hno:Hid (¬ ordsP d.accs.length d.auts d.ser (d.ords.map (·.o))):=Lib.hid (HNO.out fun k=>h5 (k.1.2.2.2.2.1))
    rw [show inB x.o.key=false from (by cases e:inB x.o.key with|false=>rfl|true=>exact absurd e h5)] at cI
    clear h1 h2 h3 h4 h5
    go_wp2_with (first|(go_at_call 38;refine cO.mono ?_;clear cO;rintro e w3 ⟨rfl,x9⟩;clear k0 k1 k2 k3 k4 k5 k6 k7;obtain ⟨k0,k1,k2,k3,k4,k5,k6,k7⟩:=HK.out _ x9)|(go_at_call 106;refine (cI _).mono ?_;clear cI;rintro e w4 ⟨rfl,rfl⟩))
    go_ret
    exact ⟨ret_bool (decide_eq_false hno.out).symm,HX0.out.trans (HX1.out.trans x9)⟩
   rw [show inB x.o.key=true from h5] at cI
   by_cases h6:1≤x.o.life
   case neg =>
    have hno:Hid (¬ ordsP d.accs.length d.auts d.ser (d.ords.map (·.o))):=Lib.hid (HNO.out fun k=>h6 (k.1.2.2.2.2.2.1))
    have d6:decide (x.o.life<1)=true:=decide_eq_true (by omega)
    clear h1 h2 h3 h4 h5 h6
    go_wp2_with (first|(go_at_call 38;refine cO.mono ?_;clear cO;rintro e w3 ⟨rfl,x9⟩;clear k0 k1 k2 k3 k4 k5 k6 k7;obtain ⟨k0,k1,k2,k3,k4,k5,k6,k7⟩:=HK.out _ x9)|(go_at_call 106;refine (cI _).mono ?_;clear cI;rintro e w4 ⟨rfl,rfl⟩))
    go_ret
    exact ⟨ret_bool (decide_eq_false hno.out).symm,HX0.out.trans (HX1.out.trans x9)⟩
   have d6:decide (x.o.life<1)=false:=decide_eq_false (by omega)
   by_cases h7:x.o.life≤1000
   case neg =>
    have hno:Hid (¬ ordsP d.accs.length d.auts d.ser (d.ords.map (·.o))):=Lib.hid (HNO.out fun k=>h7 (k.1.2.2.2.2.2.2.1))
    have d7:decide (1000<x.o.life)=true:=decide_eq_true (by omega)
    clear h1 h2 h3 h4 h5 h6 h7
    go_wp2_with (first|(go_at_call 38;refine cO.mono ?_;clear cO;rintro e w3 ⟨rfl,x9⟩;clear k0 k1 k2 k3 k4 k5 k6 k7;obtain ⟨k0,k1,k2,k3,k4,k5,k6,k7⟩:=HK.out _ x9)|(go_at_call 106;refine (cI _).mono ?_;clear cI;rintro e w4 ⟨rfl,rfl⟩))
    go_ret
    exact ⟨ret_bool (decide_eq_false hno.out).symm,HX0.out.trans (HX1.out.trans x9)⟩
   have d7:decide (1000<x.o.life)=false:=decide_eq_false (by omega)
   by_cases h8:x.o.auths.length=x.o.names.length
   case neg =>
    have hno:Hid (¬ ordsP d.accs.length d.auts d.ser (d.ords.map (·.o))):=Lib.hid (HNO.out fun k=>h8 (k.1.2.2.2.2.2.2.2.1))
    have d8:((x.o.auths.length:Int) != (x.o.names.length:Int))=true:=by simp [bne_iff_ne];omega
    clear h1 h2 h3 h4 h5 h6 h7 h8
    go_wp2_with (first|(go_at_call 38;refine cO.mono ?_;clear cO;rintro e w3 ⟨rfl,x9⟩;clear k0 k1 k2 k3 k4 k5 k6 k7;obtain ⟨k0,k1,k2,k3,k4,k5,k6,k7⟩:=HK.out _ x9)|(go_at_call 106;refine (cI _).mono ?_;clear cI;rintro e w4 ⟨rfl,rfl⟩))
    go_ret
    exact ⟨ret_bool (decide_eq_false hno.out).symm,HX0.out.trans (HX1.out.trans x9)⟩
   have d8:((x.o.auths.length:Int) != (x.o.names.length:Int))=false:=by rw [h8];simp
   have HN:=Lib.hid (And.intro h1 (And.intro h2 (And.intro h3 (And.intro h4 (And.intro h5 (And.intro h6 (And.intro h7 h8)))))))
   clear h1 h2 h3 h4 h5 h6 h7 h8
   go_upto_region 7 with (first|(go_at_call 38;refine cO.mono ?_;clear cO;rintro e w3 ⟨rfl,x9⟩;clear k0 k1 k2 k3 k4 k5 k6 k7;obtain ⟨k0,k1,k2,k3,k4,k5,k6,k7⟩:=HK.out _ x9)|(go_at_call 106;refine (cI _).mono ?_;clear cI;rintro e w4 ⟨rfl,rfl⟩))
   have HX2:=Lib.hid x9
   clear x9 d1 d2 d3 d6 d7 d8 k0 k1 k2 k3 k4 k5 k6 k7 m2
   have k6:=(ext_blk HX2.out HB1.out).cell 6
   by_cases hst:stP x.o
   case neg =>
    have hno:Hid (¬ ordsP d.accs.length d.auts d.ser (d.ords.map (·.o))):=Lib.hid (HNO.out fun k=>hst k.2)
    have t1:(x.o.st != 1)=true:=by simp;exact fun e=>hst (.inl e)
    have t2:(x.o.st != 2)=true:=by simp;exact fun e=>hst (.inr (.inl e))
    have t5:(x.o.st != 5)=true:=by simp;exact fun e=>hst (.inr (.inr e))
    clear hst
    go_wp2
    go_ret
    exact ⟨ret_bool (decide_eq_false hno.out).symm,HX0.out.trans (HX1.out.trans HX2.out)⟩
   have HST:=Lib.hid hst
   go_cut [80] (fun s80 wx=>s80=.bool false∧wx=w3)
   case first =>
    by_cases t1:x.o.st=1
    ·have t1b:(x.o.st != 1)=false:=by simp [t1]
     clear hst t1
     go_wp2
     go_meet
     exact ⟨rfl,rfl⟩
    have t1b:(x.o.st != 1)=true:=by simp [t1]
    by_cases t2:x.o.st=2
    ·have t2b:(x.o.st != 2)=false:=by simp [t2]
     clear hst t1 t2
     go_wp2
     go_meet
     exact ⟨rfl,rfl⟩
    have t2b:(x.o.st != 2)=true:=by simp [t2]
    have t5b:(x.o.st != 5)=false:=by rcases hst with e|e|e;exact absurd e t1;exact absurd e t2;simp [e]
    clear hst t1 t2
    go_wp2
    go_meet
    exact ⟨rfl,rfl⟩
   case rest =>
    obtain ⟨rfl,hwc⟩:=hcut
    rw [hwc]
    obtain ⟨W3,hW3⟩:∃ W,W=w3:=⟨_,rfl⟩
    rw [← hW3] at HX2 ⊢
    obtain ⟨ad1,hA1⟩:∃ ad,x.aA=some ad:=by
     obtain ⟨ad,e,_⟩:=HXW.out.auths.2 (by have:=HN.out.2.2.2.2.2.2.2;have:=HN.out.2.2.2.1.2.2.1;omega)
     exact ⟨ad,e⟩
    have HA1:=Lib.hid hA1
    clear hwc hW3 hst k6 hA1
    go_wp2
    go_loopg [5] x.o.auths.length (fun g s5 wr=>∃ k:Nat,k+g=x.o.auths.length∧s5=.int .i64 k∧hasTo d.auts x.o k∧Ext W3 wr)
    case atStart=>exact ⟨0,by omega,rfl,fun k h1 h2 h3=>by omega,Ext.refl W3⟩
    case round =>
     obtain ⟨k,hk,rfl,hok,hx⟩:=hrel
     have hkb:(k:Int)≤1099511627776:=by have:=HXW.out.al;omega
     have y5:=HX2.out.trans hx
     obtain ⟨k0,k1,k2,k3,k4,k5,k6,k7⟩:=HK.out _ y5
     rw [HA1.out] at k5
     have m3:=(ext_blk (HX1.out.trans y5) HB0.out).cell 3
     by_cases hkl:k<x.o.auths.length
     ·obtain ⟨n,hn⟩:∃ n,x.o.auths[k]?=some n:=⟨_,List.getElem?_eq_getElem hkl⟩
      obtain ⟨s,hs⟩:∃ s,x.o.names[k]?=some s:=⟨_,List.getElem?_eq_getElem (by have:=HN.out.2.2.2.2.2.2.2;omega)⟩
      obtain ⟨ad1',hA1',p1⟩:=reads_id HXW.out.auths hn
      rw [HA1.out] at hA1'
      cases hA1'
      obtain ⟨ad2,hA2,p2⟩:=reads_text HXW.out.names hs
      have z5:=HXR1.out.trans y5
      have p1:=z5.cell p1
      have p2:=z5.cell p2
      rw [hA2] at k2
      have hkn:(k:Int)<(x.o.names.length:Int):=by have:=HN.out.2.2.2.2.2.2.2;omega
      have hka:(k:Int)<(x.o.auths.length:Int):=by omega
      have hwn:=wf64_out (HXW.out.aw n (List.mem_of_getElem? hn))
      have HKK:=Lib.hid hk
      have HOK:=Lib.hid hok
      have HHN:=Lib.hid hn
      have HHS:=Lib.hid hs
      have HZ:=Lib.hid hx
      have HZ0:=Lib.hid (HX1.out.trans y5)
      have HNP:Hid (¬ hasP d.auts x.o.acc n s→¬ ordsP d.accs.length d.auts d.ser (d.ords.map (·.o))):=Lib.hid fun hh=>HNO.out fun kk=>hh (by
       obtain ⟨h1,rfl⟩:=List.getElem?_eq_some_iff.1 HHN.out
       obtain ⟨h2,rfl⟩:=List.getElem?_eq_some_iff.1 HHS.out
       exact kk.1.2.2.2.2.2.2.2.2 k h1 h2)
      clear hk hok hn hs hx hA2 y5 z5 hkl
      by_cases g1:n<1
      ·have hno:Hid (¬ ordsP d.accs.length d.auts d.ser (d.ords.map (·.o))):=Lib.hid (HNP.out fun h=>by have:=h.1;omega)
       have d1:decide (n<1)=true:=decide_eq_true g1
       clear g1 hwn
       go_wp2
       have j0:=fun q:Later wr=>q.cell k1
       have j1:=fun q:Later wr=>q.cell k2
       have j2:=fun q:Later wr=>q.cell m3
       have j3:=fun q:Later wr=>q.cell p2
       try (have j4:=fun q:Later wr=>q.cell r1)
       try (have j5:=fun q:Later wr=>q.cell r2)
       clear k0 k1 k2 k3 k4 k5 k6 k7 m3
       refine wp_region_later (by kernel_rfl) (by kernel_rfl) ?_
       repeat (go_big_quiet_step ((fail)))
       refine wpQuiet_nil ?_
       rintro W2 ⟨q,hq⟩
       have x7:Ext W3 W2:=by rw [hq];exact HZ.out.trans q.ext
       have x6:Ext w W2:=by rw [hq];exact HX0.out.trans (HZ0.out.trans q.ext)
       clear hq q j0 j1 j2 j3
       (try clear j4)
       (try clear j5)
       go_wp2
       go_ret
       exact ⟨ret_bool (decide_eq_false hno.out).symm,x6⟩
      have d1:decide (n<1)=false:=decide_eq_false g1
      obtain ⟨a,rfl⟩:∃ a:Nat,n=(a:Int)+1:=⟨(n-1).toNat,by omega⟩
      by_cases g2:(d.auts.length:Int)<(a:Int)+1
      ·have hno:Hid (¬ ordsP d.accs.length d.auts d.ser (d.ords.map (·.o))):=Lib.hid (HNP.out fun h=>by have:=h.2.1;omega)
       have d2:decide ((d.auts.length:Int)<(a:Int)+1)=true:=decide_eq_true g2
       clear g1 g2 hwn
       go_wp2
       have j0:=fun q:Later wr=>q.cell k1
       have j1:=fun q:Later wr=>q.cell k2
       have j2:=fun q:Later wr=>q.cell m3
       have j3:=fun q:Later wr=>q.cell p2
       try (have j4:=fun q:Later wr=>q.cell r1)
       try (have j5:=fun q:Later wr=>q.cell r2)
       clear k0 k1 k2 k3 k4 k5 k6 k7 m3
       refine wp_region_later (by kernel_rfl) (by kernel_rfl) ?_
       repeat (go_big_quiet_step ((fail)))
       refine wpQuiet_nil ?_
       rintro W2 ⟨q,hq⟩
       have x7:Ext W3 W2:=by rw [hq];exact HZ.out.trans q.ext
       have x6:Ext w W2:=by rw [hq];exact HX0.out.trans (HZ0.out.trans q.ext)
       clear hq q j0 j1 j2 j3
       (try clear j4)
       (try clear j5)
       go_wp2
       go_ret
       exact ⟨ret_bool (decide_eq_false hno.out).symm,x6⟩
      have d2:decide ((d.auts.length:Int)<(a:Int)+1)=false:=decide_eq_false g2
      obtain ⟨u,hu⟩:∃ u,d.auts[a]?=some u:=⟨_,List.getElem?_eq_getElem (by omega)⟩
      obtain ⟨ad3,hA3,hlt3,r0,r1,r2,r3,r4,r5,r6⟩:=reads_aut (HW.out.ext HZ0.out).aut hu
      rw [hA3] at m3
      have hal:(a:Int)<(d.auts.length:Int):=by omega
      have hab:(a:Int)≤1000:=by have:=HU9.out;omega
      have e1:IntKind.i64.wrap ((a:Int)+1-1)=(a:Int):=by rw [IntKind.wrap_i64];omega
      have HHU:=Lib.hid hu
      clear hA3 hlt3 r0 r3 r4 r5 r6 hu g1 g2 hwn
      by_cases g3:u.acc=x.o.acc
      ·have d3:(u.acc != x.o.acc)=false:=by simp [g3]
       by_cases g4:u.name=s
       ·have d4:(!u.name.toList==s.toList)=false:=by simp [g4]
        have hok':Hid (hasTo d.auts x.o (k+1)):=Lib.hid (hasTo_succ HOK.out HHN.out HHS.out ⟨by omega,by omega,fun v hv=>by
         rw [show ((a:Int)+1).toNat-1=a by omega,HHU.out] at hv
         cases hv;exact ⟨g3,g4⟩⟩)
        clear g3 g4
        go_wp2
        have j0:=fun q:Later wr=>q.cell k1
        have j1:=fun q:Later wr=>q.cell k2
        have j2:=fun q:Later wr=>q.cell m3
        have j3:=fun q:Later wr=>q.cell p2
        try (have j4:=fun q:Later wr=>q.cell r1)
        try (have j5:=fun q:Later wr=>q.cell r2)
        clear k0 k1 k2 k3 k4 k5 k6 k7 m3
        refine wp_region_later (by kernel_rfl) (by kernel_rfl) ?_
        repeat (go_big_quiet_step ((fail)))
        refine wpQuiet_nil ?_
        rintro W2 ⟨q,hq⟩
        have x7:Ext W3 W2:=by rw [hq];exact HZ.out.trans q.ext
        have x6:Ext w W2:=by rw [hq];exact HX0.out.trans (HZ0.out.trans q.ext)
        clear hq q j0 j1 j2 j3
        (try clear j4)
        (try clear j5)
        go_wp2
        have hk:=HKK.out
        go_roundg (gk-1)
        case measure=>omega
        case rel=>exact ⟨k+1,by omega,int_congr (by omega),hok'.out,x7⟩
       ·have d4:(!u.name.toList==s.toList)=true:=by rw [str_beq_false g4];rfl
        have hno:Hid (¬ ordsP d.accs.length d.auts d.ser (d.ords.map (·.o))):=Lib.hid (HNP.out fun h=>by
         have:=h.2.2 u (by rw [show ((a:Int)+1).toNat-1=a by omega,HHU.out];rfl)
         exact g4 this.2)
        clear g3 g4
        go_wp2
        have j0:=fun q:Later wr=>q.cell k1
        have j1:=fun q:Later wr=>q.cell k2
        have j2:=fun q:Later wr=>q.cell m3
        have j3:=fun q:Later wr=>q.cell p2
        try (have j4:=fun q:Later wr=>q.cell r1)
        try (have j5:=fun q:Later wr=>q.cell r2)
        clear k0 k1 k2 k3 k4 k5 k6 k7 m3
        refine wp_region_later (by kernel_rfl) (by kernel_rfl) ?_
        repeat (go_big_quiet_step ((fail)))
        refine wpQuiet_nil ?_
        rintro W2 ⟨q,hq⟩
        have x7:Ext W3 W2:=by rw [hq];exact HZ.out.trans q.ext
        have x6:Ext w W2:=by rw [hq];exact HX0.out.trans (HZ0.out.trans q.ext)
        clear hq q j0 j1 j2 j3
        (try clear j4)
        (try clear j5)
        go_wp2
        go_ret
        exact ⟨ret_bool (decide_eq_false hno.out).symm,x6⟩
      ·have d3:(u.acc != x.o.acc)=true:=by simp [g3]
       have hno:Hid (¬ ordsP d.accs.length d.auts d.ser (d.ords.map (·.o))):=Lib.hid (HNP.out fun h=>by
        have:=h.2.2 u (by rw [show ((a:Int)+1).toNat-1=a by omega,HHU.out];rfl)
        exact g3 this.1)
       clear g3
       go_wp2
       have j0:=fun q:Later wr=>q.cell k1
       have j1:=fun q:Later wr=>q.cell k2
       have j2:=fun q:Later wr=>q.cell m3
       have j3:=fun q:Later wr=>q.cell p2
       try (have j4:=fun q:Later wr=>q.cell r1)
       try (have j5:=fun q:Later wr=>q.cell r2)
       clear k0 k1 k2 k3 k4 k5 k6 k7 m3
       refine wp_region_later (by kernel_rfl) (by kernel_rfl) ?_
       repeat (go_big_quiet_step ((fail)))
       refine wpQuiet_nil ?_
       rintro W2 ⟨q,hq⟩
       have x7:Ext W3 W2:=by rw [hq];exact HZ.out.trans q.ext
       have x6:Ext w W2:=by rw [hq];exact HX0.out.trans (HZ0.out.trans q.ext)
       clear hq q j0 j1 j2 j3
       (try clear j4)
       (try clear j5)
       go_wp2
       go_ret
       exact ⟨ret_bool (decide_eq_false hno.out).symm,x6⟩
     ·have hP:ordP d.accs.length d.auts j x.o:=⟨HN.out.1,HN.out.2.1,HN.out.2.2.1,HN.out.2.2.2.1,HN.out.2.2.2.2.1,HN.out.2.2.2.2.2.1,HN.out.2.2.2.2.2.2.1,HN.out.2.2.2.2.2.2.2,fun i h1 h2=>hok i h1 h2 (by omega)⟩
      have hkd:decide (k<x.o.auths.length)=false:=decide_eq_false hkl
      have hok':Hid (ordTo d.accs.length d.auts (d.ords.map (·.o)) (j+1)):=Lib.hid (ordTo_succ HO.out HSO.out hP HST.out)
      have HX9:=Lib.hid (HX1.out.trans y5)
      clear hk hok hx y5 k0 k1 k2 k3 k4 k6 k7 m3 hP
      go_wp2
      have hj:=HJ.out
      have hG:=HG.out
      go_roundg G
      case measure=>omega
      case rel=>exact ⟨j+1,by omega,int_congr (by omega),hok'.out,HX9.out⟩
  ·obtain rfl:j=d.ords.length:=by omega
   have HX:=Lib.hid hx
   have cS:=rSerials_any d wr (HW.out.ext hx)
   have hokl:ordTo d.accs.length d.auts (d.ords.map (·.o)) (d.ords.map (·.o)).length:=by rw [List.length_map];exact hok
   unfold frontV at cS
   by_cases hq:serTo d.ser (d.ords.map (·.o))
   ·rw [decide_eq_true hq] at cS
    have kk:=Lib.hid (ordsP_all.2 ⟨hokl,hq⟩)
    clear hx hj h hok hokl hq
    go_wp2_with (go_at_call 114;refine cS.mono ?_;clear cS;rintro e w9 ⟨rfl,x9⟩)
    go_ret
    exact ⟨ret_bool (decide_eq_true kk.out).symm,HX0.out.trans (HX.out.trans x9)⟩
   ·rw [decide_eq_false hq] at cS
    have kk:Hid (¬ ordsP d.accs.length d.auts d.ser (d.ords.map (·.o))):=Lib.hid (fun k=>hq (ordsP_all.1 k).2)
    clear hx hj h hok hokl hq
    go_wp2_with (go_at_call 114;refine cS.mono ?_;clear cS;rintro e w9 ⟨rfl,x9⟩)
    go_ret
    exact ⟨ret_bool (decide_eq_false kk.out).symm,HX0.out.trans (HX.out.trans x9)⟩
section
variable {W w:World} {g:Nat} {T:TypeId} {a b c d e f a' b' c' d' e' f':Value}
theorem st6 (k:Blk W g T #[a,b,c,d,e,f]):W.cell? ⟨g,0,none⟩=some a∧W.cell? ⟨g,1,none⟩=some b∧W.cell? ⟨g,2,none⟩=some c∧W.cell? ⟨g,3,none⟩=some d∧W.cell? ⟨g,4,none⟩=some e∧W.cell? ⟨g,5,none⟩=some f ∧
  W.frozen? ⟨g,0,none⟩=false∧W.frozen? ⟨g,1,none⟩=false∧W.frozen? ⟨g,2,none⟩=false∧W.frozen? ⟨g,3,none⟩=false∧W.frozen? ⟨g,4,none⟩=false∧W.frozen? ⟨g,5,none⟩=false :=
 ⟨k.cell 0,k.cell 1,k.cell 2,k.cell 3,k.cell 4,k.cell 5,k.frozen 0,k.frozen 1,k.frozen 2,k.frozen 3,k.frozen 4,k.frozen 5⟩
theorem blk6 (k:Blk W g T #[a,b,c,d,e,f]) (a' b' c' d' e' f':Value):Blk ((((((W.setCell ⟨g,0,none⟩ a').setCell ⟨g,1,none⟩ b').setCell ⟨g,2,none⟩ c').setCell ⟨g,3,none⟩ d').setCell ⟨g,4,none⟩ e').setCell ⟨g,5,none⟩ f') g T #[a',b',c',d',e',f'] :=
 ((((((k.set_ 0 a').set_ 1 b').set_ 2 c').set_ 3 d').set_ 4 e').set_ 5 f')
theorem ext6 (h:Ext w W) (hg:w.heap.size≤g) (a' b' c' d' e' f':Value):Ext w ((((((W.setCell ⟨g,0,none⟩ a').setCell ⟨g,1,none⟩ b').setCell ⟨g,2,none⟩ c').setCell ⟨g,3,none⟩ d').setCell ⟨g,4,none⟩ e').setCell ⟨g,5,none⟩ f') :=
 (((((h.setCell (p:=⟨g,0,none⟩) hg _).setCell (p:=⟨g,1,none⟩) hg _).setCell (p:=⟨g,2,none⟩) hg _).setCell (p:=⟨g,3,none⟩) hg _).setCell (p:=⟨g,4,none⟩) hg _).setCell (p:=⟨g,5,none⟩) hg _
end
def doorZ:DoorX:=⟨0,0,[],[],[],[],none,0,none,0,none,0,none,0⟩
abbrev frontS (b:Nat) (d:DoorX):World→Prop:=fun w'=>w'.cell? ⟨b,0,none⟩=some (.int .i64 d.next)∧w'.cell? ⟨b,1,none⟩=some (.slice d.oA d.opn.length d.oc)∧w'.cell? ⟨b,2,none⟩=some (.slice d.cA d.accs.length d.cc)∧w'.cell? ⟨b,3,none⟩=some (.slice d.uA d.auts.length d.uc)∧w'.cell? ⟨b,4,none⟩=some (.slice d.rA d.ords.length d.rc)∧w'.cell? ⟨b,5,none⟩=some (.int .i64 d.ser)
theorem doorZ_w (w:World) (B:Nat):DoorW w B doorZ :=
 ⟨nons_nil w B,wf64_of (by decide) (by decide),Reads.none_,by simp [doorZ],by simp [doorZ],by simp [doorZ],Reads.none_,by simp [doorZ],by simp [doorZ],by simp [doorZ],Reads.none_,by simp [doorZ],by simp [doorZ],by simp [doorZ]⟩
def Lies (S:Nat→Prop) (A:Option Addr) (n:Nat):Prop:=0<n→∀ ad,A=some ad→S ad.block
theorem Lies.mono {S S':Nat→Prop} {A:Option Addr} {n:Nat} (h:Lies S A n) (k:∀ b,S b→S' b):Lies S' A n:=fun h0 ad e=>k _ (h h0 ad e)
theorem Lies.zero (S:Nat→Prop) (A:Option Addr):Lies S A 0:=fun h=>absurd h (by omega)
theorem Lies.own {S:Nat→Prop} {w:World} {base:Nat} {T:TypeId} {size n c:Nat} {A:Option Addr} {xs:List Value} (h:w.ownsRow base T size (.slice A n c) n xs) (k:∀ b,base≤b→S b):Lies S A n:=fun h0 ad e=>by
 obtain ⟨g,cap,hv,hg,_⟩:=h.form h0
 subst e
 cases hv
 exact k _ hg
theorem Reads.stay {w w':World} {B B' size n:Nat} {A:Option Addr} {xs:List Value} {S:Nat→Prop} (h:Reads w B size A n xs) (hl:Lies S A n) (hB:B≤B') (hk:∀ k,S k→k<B→w'.heap[k]?=w.heap[k]?):Reads w' B' size A n xs :=
 ⟨h.1,fun hn=>by
  obtain ⟨ad,e,hb,hc⟩:=h.2 hn
  exact ⟨ad,e,by omega,fun j u hu=>(World.cell?_of_block (by rw [block_of_add];exact hk _ (hl hn ad e) hb)).trans (hc j u hu)⟩⟩
theorem Reads.lies {w:World} {B size n:Nat} {A:Option Addr} {xs:List Value} (h:Reads w B size A n xs):Lies (fun k=>k<B) A n:=fun hn ad e=>by
 obtain ⟨ad',e',hb,_⟩:=h.2 hn
 rw [e] at e';cases e';exact hb
structure DoorL (S:Nat→Prop) (d:DoorX):Prop where
 o:Lies S d.oA d.opn.length
 c:Lies S d.cA d.accs.length
 u:Lies S d.uA d.auts.length
 r:Lies S d.rA d.ords.length
 n:∀ x∈d.ords,Lies S x.nA x.o.names.length
 a:∀ x∈d.ords,Lies S x.aA x.o.auths.length
theorem DoorL.mono {S S':Nat→Prop} {d:DoorX} (h:DoorL S d) (k:∀ b,S b→S' b):DoorL S' d:=⟨h.o.mono k,h.c.mono k,h.u.mono k,h.r.mono k,fun x hx=>(h.n x hx).mono k,fun x hx=>(h.a x hx).mono k⟩
theorem DoorW.lies {w:World} {B:Nat} {d:DoorX} (h:DoorW w B d):DoorL (fun k=>k<B) d:=⟨h.non.lst.lies,h.acc.lies,h.aut.lies,h.ord.lies,fun x hx=>(h.rw x hx).names.lies,fun x hx=>(h.rw x hx).auths.lies⟩
theorem OrdW.stay {w w':World} {B B':Nat} {x:OrdX} {S:Nat→Prop} (h:OrdW w B x) (h1:Lies S x.nA x.o.names.length) (h2:Lies S x.aA x.o.auths.length) (hB:B≤B') (hk:∀ k,S k→k<B→w'.heap[k]?=w.heap[k]?):OrdW w' B' x :=
 ⟨h.id,h.acc,h.key,h.life,h.st,h.ser,h.names.stay h1 hB hk,h.nc,h.nl,h.ns,h.auths.stay h2 hB hk,h.ac,h.al,h.aw⟩
theorem DoorW.stay {w w':World} {B B':Nat} {d:DoorX} {S:Nat→Prop} (h:DoorW w B d) (hl:DoorL S d) (hB:B≤B') (hk:∀ k,S k→k<B→w'.heap[k]?=w.heap[k]?):DoorW w' B' d :=
 ⟨⟨h.non.nx,h.non.lst.stay hl.o hB hk,h.non.cap,h.non.len,h.non.wf⟩,h.ser,h.acc.stay hl.c hB hk,h.cc,h.cl,h.cw,h.aut.stay hl.u hB hk,h.uc,h.ul,h.uw,h.ord.stay hl.r hB hk,h.rc,h.rl,fun x hx=>(h.rw x hx).stay (hl.n x hx) (hl.a x hx) hB hk⟩
theorem doorZ_l (S:Nat→Prop):DoorL S doorZ:=⟨Lies.zero _ _,Lies.zero _ _,Lies.zero _ _,Lies.zero _ _,by simp [doorZ],by simp [doorZ]⟩
def orNew (S:Nat→Prop) (w:World):Nat→Prop:=fun k=>S k∨w.heap.size≤k
def outD (d0:DoorX) (r:OutF) (w:World) (e:Ending) (w':World):Prop:=∃ d,e=.returned (.tuple #[frontV d,.int .i64 r.2.1,.int .i64 (r.2.2:Nat)])∧d.fro=r.1∧DoorW w' w'.heap.size d∧(∀ S,DoorL S d0→DoorL (orNew S w) d)∧Ext w w'
theorem outD_bad {d0:DoorX} {w w':World} {E:Nat} {e:Ending} (he:e=.returned (.tuple #[.agg #[.int .i64 0,.slice none 0 0,.slice none 0 0,.slice none 0 0,.slice none 0 0,.int .i64 0],.int .i64 0,.int .i64 (E:Int)])) (x:Ext w w'):outD d0 (bad E) w e w':=⟨doorZ,he,rfl,doorZ_w _ _,fun _ _=>doorZ_l _,x⟩
def outS (d0:DoorX) (r:FroR × Nat) (w:World) (e:Ending) (w':World):Prop:=∃ d,e=.returned (.tuple #[frontV d,.int .i64 (r.2:Nat)])∧d.fro=r.1∧DoorW w' w'.heap.size d∧(∀ S,DoorL S d0→DoorL (orNew S w) d)∧Ext w w'
theorem outS_bad {d0:DoorX} {w w':World} {E:Nat} {e:Ending} (he:e=.returned (.tuple #[.agg #[.int .i64 0,.slice none 0 0,.slice none 0 0,.slice none 0 0,.slice none 0 0,.int .i64 0],.int .i64 (E:Int)])) (x:Ext w w'):outS d0 (froZ,E) w e w':=⟨doorZ,he,rfl,doorZ_w _ _,fun _ _=>doorZ_l _,x⟩
def withN (d:DoorX) (next:Int) (l:List NonR) (A:Option Addr) (c:Nat):DoorX:={ d with next:=next,opn:=l,oA:=A,oc:=c }
theorem withN_w {w:World} {B:Nat} {d:DoorX} {next:Int} {l:List NonR} {A:Option Addr} {c:Nat} (h:DoorW w B d) (hn:NonsW w B next l A c):DoorW w B (withN d next l A c):=⟨hn,h.ser,h.acc,h.cc,h.cl,h.cw,h.aut,h.uc,h.ul,h.uw,h.ord,h.rc,h.rl,h.rw⟩
theorem chkF_fen {d:DoorX} (h:chkF d.fro=0):fenN d.next d.opn=0:=fen_of h
theorem oNonce_any (d:DoorX) (hu9:d.auts.length<100) (ha9:d.accs.length<100) (now:Int) (w:World) (hw:DoorW w w.heap.size d) :
  Calls Tryz.prog 24 #[frontV d,.int .i64 now] w (outD d (nonF d.fro now) w):=by
 obtain ⟨W0,e0,b0,b1,x0,s0⟩:=startP w #[.int .i64 d.next,.slice d.oA d.opn.length d.oc,.slice d.cA d.accs.length d.cc,.slice d.uA d.auts.length d.uc,.slice d.rA d.ords.length d.rc,.int .i64 d.ser]
  #[.int .i64 0,.slice none 0 0,.slice none 0 0,.slice none 0 0,.slice none 0 0,.int .i64 0] 43 43
 have cC:=oCheck_any d hu9 ha9 W0 (hw.ext x0)
 have cT:=fun W (h:Ext W0 W)=>Tell_any d.next d.opn d.oA d.oc now W (hw.non.ext (x0.trans h))
 obtain ⟨E,hE⟩:∃ E,chkF d.fro=E:=⟨_,rfl⟩
 rw [hE] at cC
 have HW:=Lib.hid hw
 have HB0:=Lib.hid b0
 have HB1:=Lib.hid b1
 have HX0:=Lib.hid x0
 have HS0:=Lib.hid s0
 have HE:=Lib.hid hE
 unfold frontV at cC ⊢
 unfold fenV at cT
 clear b0 b1 x0 s0 hw hE hu9 ha9
 by_cases h0:E=0
 case neg =>
  have hR:nonF d.fro now=bad E:=by unfold nonF;rw [HE.out,if_pos h0]
  rw [hR]
  have k0:((E:Int) != 0)=true:=by simp;omega
  clear h0 hR cT
  go_enter Tryz.func24,Tryz.ntmps24
  subst e0
  go_wp2_with (go_at_call 21;refine cC.mono ?_;clear cC;rintro e w1 ⟨rfl,x1⟩;have b2:=ext_blk x1 HB1.out;obtain ⟨q0,q1,q2,q3,q4,q5,f0,f1,f2,f3,f4,f5⟩:=st6 b2;have BB:=Lib.hid (blk6 b2 (.int .i64 0) (.slice none 0 0) (.slice none 0 0) (.slice none 0 0) (.slice none 0 0) (.int .i64 0));clear b2)
  obtain ⟨r0,r1,r2,r3,r4,r5⟩:=arr6f BB.out
  refine bodyPost_ret (v:=.tuple #[.agg #[.int .i64 0,.slice none 0 0,.slice none 0 0,.slice none 0 0,.slice none 0 0,.int .i64 0],.int .i64 0,.int .i64 (E:Int)]) (by simp [results,Tryz.results24,go_sem,r0,r1,r2,r3,r4,r5]) rfl (outD_bad rfl (ext6 (HX0.out.trans x1) (by simp) _ _ _ _ _ _))
 subst h0
 have hf:=chkF_fen HE.out
 obtain ⟨E,hE⟩:∃ E,tellE d.next d.opn now 20=E:=⟨_,rfl⟩
 by_cases h0:E=0
 case neg =>
  have hR:nonF d.fro now=bad E:=by unfold nonF;rw [if_neg (by rw [HE.out];simp)];show (if tellE d.next d.opn now 20≠0 then _ else _)=_;rw [hE,if_pos h0];show bad (tellE d.next d.opn now 20)=_;rw [hE]
  rw [hR]
  rw [tellR_no hE h0] at cT
  have k0:((E:Int) != 0)=true:=by simp;omega
  clear h0 hR hE hf
  go_enter Tryz.func24,Tryz.ntmps24
  subst e0
  go_wp2_with (first
   | (go_at_call 21;refine cC.mono ?_;clear cC;rintro e w1 ⟨rfl,x1⟩;obtain ⟨m0,m1,m2,m3,m4,m5⟩:=arr6f (ext_blk x1 HB0.out))
   | (go_at_call 70;refine (cT _ x1).mono ?_;clear cT m0 m1 m2 m3 m4 m5;rintro e w2 ⟨A2,c2,rfl,hn2,x2⟩;have x3:=x1.trans x2;obtain ⟨m0,m1,m2,m3,m4,m5,n0,n1,n2,n3,n4,n5⟩:=st6 (ext_blk x3 HB0.out);have b2:=((ext_blk x3 HB1.out).far (p:=⟨w.heap.size,0,none⟩) (by simp) (.int .i64 0)).far (p:=⟨w.heap.size,1,none⟩) (by simp) (.slice A2 0 c2);obtain ⟨q0,q1,q2,q3,q4,q5,f0,f1,f2,f3,f4,f5⟩:=st6 (ext_blk x3 HB1.out);have BB:=Lib.hid (blk6 b2 (.int .i64 0) (.slice none 0 0) (.slice none 0 0) (.slice none 0 0) (.slice none 0 0) (.int .i64 0));clear b2 hn2;unfold fenV))
  obtain ⟨r0,r1,r2,r3,r4,r5⟩:=arr6f BB.out
  refine bodyPost_ret (v:=.tuple #[.agg #[.int .i64 0,.slice none 0 0,.slice none 0 0,.slice none 0 0,.slice none 0 0,.int .i64 0],.int .i64 0,.int .i64 (E:Int)]) (by simp [results,Tryz.results24,go_sem,r0,r1,r2,r3,r4,r5]) rfl (outD_bad rfl (ext6 (((HX0.out.trans x3).setCell (p:=⟨w.heap.size,0,none⟩) (by simp) _).setCell (p:=⟨w.heap.size,1,none⟩) (by simp) _) (by simp) _ _ _ _ _ _))
 subst h0
 have hR:nonF d.fro now=({ d.fro with next:=d.next+1,opn:=tellL d.next d.opn now 20 },d.next,0):=by unfold nonF;rw [if_neg (by rw [HE.out];simp),if_neg (by show ¬ tellE d.next d.opn now 20≠0;rw [hE];simp)];rfl
 rw [hR]
 rw [tellR_ok hE] at cT
 have HTE:=Lib.hid hE
 clear hR hE hf
 obtain ⟨N,hN⟩:∃ N,N=(tellL d.next d.opn now 20).length:=⟨_,rfl⟩
 unfold tellPost fenV at cT
 simp only at cT
 rw [← hN] at cT
 have HN:=Lib.hid hN
 clear hN
 go_enter Tryz.func24,Tryz.ntmps24
 subst e0
 go_wp2_with (first
  | (go_at_call 21;refine cC.mono ?_;clear cC;rintro e w1 ⟨rfl,x1⟩;obtain ⟨m0,m1,m2,m3,m4,m5⟩:=arr6f (ext_blk x1 HB0.out))
  | (go_at_call 70;refine (cT _ x1).mono ?_;clear cT m0 m1 m2 m3 m4 m5;rintro e w2 ⟨A2,c2,rfl,hn2,x2⟩;have x3:=x1.trans x2;have HN2:=Lib.hid hn2;obtain ⟨m0,m1,m2,m3,m4,m5,n0,n1,n2,n3,n4,n5⟩:=st6 (ext_blk x3 HB0.out);have b2:=((ext_blk x3 HB1.out).far (p:=⟨w.heap.size,0,none⟩) (by simp) (.int .i64 (d.next+1))).far (p:=⟨w.heap.size,1,none⟩) (by simp) (.slice A2 N c2);obtain ⟨q0,q1,q2,q3,q4,q5,f0,f1,f2,f3,f4,f5⟩:=st6 (ext_blk x3 HB1.out);have BB:=Lib.hid (blk6 b2 (.int .i64 (d.next+1)) (.slice A2 N c2) (.slice d.cA d.accs.length d.cc) (.slice d.uA d.auts.length d.uc) (.slice d.rA d.ords.length d.rc) (.int .i64 d.ser));clear b2 hn2))
 obtain ⟨r0,r1,r2,r3,r4,r5⟩:=arr6f BB.out
 have xf:=HX0.out.trans x3
 have o3:=HN2.out
 have hF:=tell_fen (HTE.out)
 have hs3:w.heap.size+2≤w1.heap.size:=by have:=x1.size;simp at this;omega
 have o9:=own_far (own_far (own_base o3 hs3) (g:=w.heap.size) (by omega) 0 (.int .i64 (d.next+1))) (g:=w.heap.size) (by omega) 1 (.slice A2 N c2)
 have x9:=(xf.setCell (p:=⟨w.heap.size,0,none⟩) (Nat.le_refl _) (.int .i64 (d.next+1))).setCell (p:=⟨w.heap.size,1,none⟩) (Nat.le_refl _) (.slice A2 N c2)
 have o10:=own_far (own_far (own_far (own_far (own_far (own_far o9 (g:=w.heap.size+1) (by omega) 0 (.int .i64 (d.next+1))) (g:=w.heap.size+1) (by omega) 1 (.slice A2 N c2)) (g:=w.heap.size+1) (by omega) 2 (.slice d.cA d.accs.length d.cc)) (g:=w.heap.size+1) (by omega) 3 (.slice d.uA d.auts.length d.uc)) (g:=w.heap.size+1) (by omega) 4 (.slice d.rA d.ords.length d.rc)) (g:=w.heap.size+1) (by omega) 5 (.int .i64 d.ser)
 have x10:=ext6 x9 (g:=w.heap.size+1) (by omega) (.int .i64 (d.next+1)) (.slice A2 N c2) (.slice d.cA d.accs.length d.cc) (.slice d.uA d.auts.length d.uc) (.slice d.rA d.ords.length d.rc) (.int .i64 d.ser)
 have key:∀ WF:World,Ext w WF→WF.ownsRow (w.heap.size+2) 102 2 (.slice A2 N c2) N (nonV (tellL d.next d.opn now 20))→DoorW WF WF.heap.size (withN d (d.next+1) (tellL d.next d.opn now 20) A2 c2):=fun WF x o=>by
  rw [HN.out] at o
  exact withN_w (HW.out.ext x) (nons_own o hF)
 have key2:Lies (fun b=>w.heap.size≤b) A2 (tellL d.next d.opn now 20).length:=by rw [← HN.out];exact Lies.own o3 (fun b hb=>by omega)
 have kd:=key _ x10 o10
 clear key o10 o9 o3
 refine bodyPost_ret (v:=.tuple #[.agg #[.int .i64 (d.next+1),.slice A2 N c2,.slice d.cA d.accs.length d.cc,.slice d.uA d.auts.length d.uc,.slice d.rA d.ords.length d.rc,.int .i64 d.ser],.int .i64 d.next,.int .i64 0]) (by simp [results,Tryz.results24,go_sem,r0,r1,r2,r3,r4,r5]) rfl ⟨withN d (d.next+1) (tellL d.next d.opn now 20) A2 c2,?_,rfl,?_,?_,?_⟩
 ·unfold frontV withN;simp only;rw [← HN.out];rfl
 ·exact kd
 ·intro S hS
  exact ⟨key2.mono (fun b hb=>.inr hb),hS.c.mono (fun b h=>.inl h),hS.u.mono (fun b h=>.inl h),hS.r.mono (fun b h=>.inl h),fun x hx=>(hS.n x hx).mono (fun b h=>.inl h),fun x hx=>(hS.a x hx).mono (fun b h=>.inl h)⟩
 ·exact x10
def queV (q:QueR) (A:Option Addr) (c:Nat):Value:=.agg #[.int .i64 q.kind,.int .i64 q.acc,.int .i64 q.nonce,.int .u64 (q.key:Int),.slice A q.names.length c,.int .i64 q.life,.int .i64 q.id,.int .u64 (q.e:Int),.int .u64 (q.s:Int)]
def QueB (w:World) (b:Nat) (q:QueR) (A:Option Addr) (c:Nat):Prop :=
 Blk w b 27 #[.int .i64 q.kind,.int .i64 q.acc,.int .i64 q.nonce,.int .u64 (q.key:Int),.slice A q.names.length c,.int .i64 q.life,.int .i64 q.id,.int .u64 (q.e:Int),.int .u64 (q.s:Int)]
structure QueW (w:World) (B:Nat) (q:QueR) (A:Option Addr) (c:Nat):Prop where
 kind:wf64 q.kind
 acc:wf64 q.acc
 nonce:wf64 q.nonce
 key:q.key<18446744073709551616
 life:wf64 q.life
 id:wf64 q.id
 e:q.e<18446744073709551616
 s:q.s<18446744073709551616
 names:Reads w B 1 A q.names.length (tv q.names)
 nc:q.names.length≤c
 nl:q.names.length≤1099511627776
 ns:∀ s∈q.names,s.size≤140737488355328
theorem QueW.ext {w w':World} {q:QueR} {A:Option Addr} {c:Nat} (h:QueW w w.heap.size q A c) (x:Ext w w'):QueW w' w'.heap.size q A c :=
 ⟨h.kind,h.acc,h.nonce,h.key,h.life,h.id,h.e,h.s,(h.names.below x.out).more x.size,h.nc,h.nl,h.ns⟩
theorem arr9 {W:World} {g:Nat} {T:TypeId} {a b c d e f h i j:Value} (k:Blk W g T #[a,b,c,d,e,f,h,i,j]):W.cell? ⟨g,0,none⟩=some a∧W.cell? ⟨g,1,none⟩=some b∧W.cell? ⟨g,2,none⟩=some c∧W.cell? ⟨g,3,none⟩=some d∧W.cell? ⟨g,4,none⟩=some e∧W.cell? ⟨g,5,none⟩=some f∧W.cell? ⟨g,6,none⟩=some h∧W.cell? ⟨g,7,none⟩=some i∧W.cell? ⟨g,8,none⟩=some j :=
 ⟨k.cell 0,k.cell 1,k.cell 2,k.cell 3,k.cell 4,k.cell 5,k.cell 6,k.cell 7,k.cell 8⟩
def oldA (f:List AutR) (now n:Int):Bool:=match f[n.toNat-1]? with|some u=>!holdA now u|none=>true
theorem holdsF_old (f:List AutR) (l:List Int) (now:Int):holdsF f l now=!decide (0≤ixG (oldA f now) l):=by
 unfold holdsF ixG
 cases h:l.findIdx? (oldA f now) with
 | none =>
  have:=List.findIdx?_eq_none_iff.1 h
  simp only [show decide ((0:Int)≤-1)=false from rfl,Bool.not_false]
  rw [List.all_eq_true]
  intro n hn
  have h1:=this n hn
  unfold oldA at h1
  split at h1
  ·next u e=>rw [e];simpa using h1
  ·cases h1
 | some i =>
  obtain ⟨h1,h2,_⟩:=List.findIdx?_eq_some_iff_getElem.1 h
  simp only [show decide ((0:Int)≤(i:Int))=true by simp,Bool.not_true]
  rw [List.all_eq_false]
  refine ⟨l[i],List.getElem_mem h1,?_⟩
  unfold oldA at h2
  split at h2
  ·next u e=>rw [e];simpa using h2
  ·next e=>rw [e];simp
theorem holds1_enters:Enters Tryz.prog 118:=enters_of Tryz.func118 (by kernel_rfl) rfl
theorem holds1_any (b:Nat) (d:DoorX) (now:Int) (gp:Nat) (n:Int) (hn:1≤n∧n≤d.auts.length) (hul:d.auts.length≤1099511627776) (w:World) (h:DoorB w b d now) (hp:w.cell? ⟨gp,0,none⟩=some (.pointer (some ⟨b,0,none⟩)))
  (hr:Reads w w.heap.size 7 d.uA d.auts.length (autV d.auts)) :
  Calls Tryz.prog 118 #[.int .i64 n,.pointer (some ⟨gp,0,none⟩)] w fun e w'=>e=.returned (.bool (oldA d.auts now n))∧Ext w w':=by
 obtain ⟨a,rfl⟩:∃ a:Nat,n=(a:Int)+1:=⟨(n-1).toNat,by omega⟩
 obtain ⟨a0,a1,a2,a3,a4,a5,a6⟩:=arr7 h
 have hal:(a:Int)<(d.auts.length:Int):=by omega
 have hab:(a:Int)≤1099511627776:=by omega
 obtain ⟨u,hu⟩:∃ u,d.auts[a]?=some u:=⟨_,List.getElem?_eq_getElem (by omega)⟩
 obtain ⟨ad,hA,hlt,q0,q1,q2,q3,q4,q5,q6⟩:=reads_aut hr hu
 rw [hA] at a3
 have HO:Hid (oldA d.auts now ((a:Int)+1)=!(decide (u.st=3) && decide (now≤u.un))):=Lib.hid (by unfold oldA;rw [show ((a:Int)+1).toNat-1=a by omega,hu];rfl)
 have HB:=Lib.hid (Blk.new w 69 #[.int .i64 u.id,.int .i64 u.acc,.string u.name,.string u.tok,.int .i64 u.st,.int .i64 u.fr,.int .i64 u.un])
 have HD:=Lib.hid h
 have hp':=hp
 have HP:=Lib.hid hp'
 clear h hr hu hA hlt hn hul hp'
 go_enter Tryz.func118,Tryz.ntmps118
 go_upto_region 2 with (fail)
 obtain ⟨W1,e1⟩:∃ W,W=w.alloc (.cells #[.int .i64 u.id,.int .i64 u.acc,.string u.name,.string u.tok,.int .i64 u.st,.int .i64 u.fr,.int .i64 u.un] 69):=⟨_,rfl⟩
 rw [← e1] at HB ⊢
 have HX1:Hid (Ext w W1):=by rw [e1];exact (Ext.refl w).alloc _
 clear e1 a0 a1 a2 a3 a4 a5 a6 q0 q1 q2 q3 q4 q5 q6 hp
 obtain ⟨k0,k1,k2,k3,k4,k5,k6⟩:=arr7 HB.out
 obtain ⟨-,-,-,-,-,-,a6⟩:=arr7 (DoorB.ext HD.out HX1.out)
 have hp:=HX1.out.cell HP.out
 have j4:=fun j:Later W1=>j.cell k4
 have j6:=fun j:Later W1=>j.cell k6
 have ja:=fun j:Later W1=>j.cell a6
 have jp:=fun j:Later W1=>j.cell hp
 clear k0 k1 k2 k3 k4 k5 k6 a6 hp
 by_cases g1:u.st=3
 ·have d1:(u.st != 3)=false:=by simp [g1]
  by_cases g2:u.un<now
  ·have d2:decide (u.un<now)=true:=decide_eq_true g2
   have HR:Hid ((!(decide (u.st=3) && decide (now≤u.un)))=true):=Lib.hid (by simp;omega)
   clear g1 g2
   refine wp_region_later (by kernel_rfl) (by kernel_rfl) ?_
   repeat (go_big_quiet_step ((fail)))
   refine wpQuiet_nil ?_
   rintro W2 ⟨q,hq⟩
   have x5:Ext w W2:=by rw [hq];exact HX1.out.trans q.ext
   clear hq q j4 j6 ja jp
   go_wp2
   go_ret
   exact ⟨ret_bool (by rw [HO.out,HR.out]),x5⟩
  ·have d2:decide (u.un<now)=false:=decide_eq_false g2
   have HR:Hid ((!(decide (u.st=3) && decide (now≤u.un)))=false):=Lib.hid (by simp;omega)
   clear g1 g2
   refine wp_region_later (by kernel_rfl) (by kernel_rfl) ?_
   repeat (go_big_quiet_step ((fail)))
   refine wpQuiet_nil ?_
   rintro W2 ⟨q,hq⟩
   have x5:Ext w W2:=by rw [hq];exact HX1.out.trans q.ext
   clear hq q j4 j6 ja jp
   go_wp2
   go_ret
   exact ⟨ret_bool (by rw [HO.out,HR.out]),x5⟩
 ·have d1:(u.st != 3)=true:=by simp [g1]
  have HR:Hid ((!(decide (u.st=3) && decide (now≤u.un)))=true):=Lib.hid (by simp [g1])
  clear g1
  refine wp_region_later (by kernel_rfl) (by kernel_rfl) ?_
  repeat (go_big_quiet_step ((fail)))
  refine wpQuiet_nil ?_
  rintro W2 ⟨q,hq⟩
  have x5:Ext w W2:=by rw [hq];exact HX1.out.trans q.ext
  clear hq q j4 j6 ja jp
  go_wp2
  go_ret
  exact ⟨ret_bool (by rw [HO.out,HR.out]),x5⟩
theorem containsI_any (F:FuncId) (hE:Enters Tryz.prog F) (cap:Array Value) (f:Int→Bool) (l:List Int) (hn:l.length≤1099511627776) (A:Option Addr) (c:Nat) (w:World) (hr:Reads w w.heap.size 1 A l.length (iv l))
  (hstep:∀ (W:World) (s:Int),s∈l→Ext w W→Calls Tryz.prog F (#[.int .i64 s]++cap) W fun e w'=>e=.returned (.bool (f s))∧Ext W w') :
  Calls Tryz.prog 117 #[.slice A l.length c,.func (.func F) #[] cap] w fun e w'=>e=.returned (.bool (decide (0≤ixG f l)))∧Ext w w':=by
 have c1:=indexI_any F hE cap f l hn A c w hr hstep
 obtain ⟨i,hi⟩:∃ i,i=ixG f l:=⟨_,rfl⟩
 rw [← hi] at c1 ⊢
 clear hi hr hn hstep
 go_enter Tryz.func117,Tryz.ntmps117
 go_wp2_with (go_at_call 142;refine c1.mono ?_;clear c1;rintro e w1 ⟨rfl,x1⟩)
 go_ret
 exact ⟨rfl,x1⟩
theorem holds_any (b:Nat) (d:DoorX) (now:Int) (l:List Int) (hl:∀ s∈l,1≤s∧s≤d.auts.length) (hn:l.length≤1099511627776) (hul:d.auts.length≤1099511627776) (A:Option Addr) (c:Nat) (w:World) (h:DoorB w b d now)
  (hr:Reads w w.heap.size 1 A l.length (iv l)) (hu:Reads w w.heap.size 7 d.uA d.auts.length (autV d.auts)) :
  Calls Tryz.prog 75 #[.pointer (some ⟨b,0,none⟩),.slice A l.length c] w fun e w'=>e=.returned (.bool (holdsF d.auts l now))∧Ext w w':=by
 obtain ⟨W0,e0⟩:∃ W,w.alloc (.cells #[.pointer (some ⟨b,0,none⟩)] 90)=W:=⟨_,rfl⟩
 have x0:Ext w W0:=by rw [← e0];exact (Ext.refl w).alloc _
 have p0:W0.cell? ⟨w.heap.size,0,none⟩=some (.pointer (some ⟨b,0,none⟩)):=by rw [← e0];exact (Blk.new w _ _).cell 0
 have c1:=containsI_any _ holds1_enters #[.pointer (some ⟨w.heap.size,0,none⟩)] (oldA d.auts now) l hn A c W0 ((hr.below x0.out).more x0.size) (fun W s hs x=>holds1_any b d now w.heap.size s (hl s hs) hul W (DoorB.ext h (x0.trans x)) (x.cell p0) ((hu.below (x0.trans x).out).more (x0.trans x).size))
 have HH:=Lib.hid (holdsF_old d.auts l now)
 have HX:=Lib.hid x0
 obtain ⟨i,hi⟩:∃ i,i=ixG (oldA d.auts now) l:=⟨_,rfl⟩
 rw [← hi] at c1 HH
 clear h hr hu hl hn hul x0 p0 hi
 go_enter Tryz.func75,Tryz.ntmps75
 go_wp2_with (go_at_call 117;refine c1.mono ?_;clear c1;rintro e w1 ⟨rfl,x1⟩)
 go_ret
 exact ⟨ret_bool HH.out.symm,HX.out.trans x1⟩
theorem qfits_any (q:QueR) (A:Option Addr) (c:Nat) (w:World) (hq:QueW w w.heap.size q A c) :
  Calls Tryz.prog 45 #[queV q A c] w fun e w'=>e=.returned (.bool (decide (fitsP q)))∧Ext w w':=by
 unfold queV
 obtain ⟨W0,e0⟩:∃ W,w.alloc (.cells #[.int .i64 q.kind,.int .i64 q.acc,.int .i64 q.nonce,.int .u64 (q.key:Int),.slice A q.names.length c,.int .i64 q.life,.int .i64 q.id,.int .u64 (q.e:Int),.int .u64 (q.s:Int)] 27)=W:=⟨_,rfl⟩
 have x0:Ext w W0:=by rw [← e0];exact (Ext.refl w).alloc _
 have b0:QueB W0 w.heap.size q A c:=by rw [← e0];exact Blk.new w _ _
 have h0:=hq.ext x0
 have cO:=orderable_any q.names h0.nl h0.ns A c h0.nc W0 h0.names
 have cI:=In_any q.key h0.key
 obtain ⟨k0,k1,k2,k3,k4,k5,k6,k7,k8⟩:=arr9 b0
 have HB:=Lib.hid b0
 have HX:=Lib.hid x0
 clear hq h0 b0 x0
 go_enter Tryz.func45,Tryz.ntmps45
 go_upto_region 1 with (fail)
 try rw [e0]
 clear e0
 go_cut [3] (fun s3 wx=>wx=W0∧s3=.bool (decide (q.names.length=0∧q.life=0)))
 case first =>
  by_cases h1:q.names.length=0
  ·have d1:((q.names.length:Int)==0)=true:=by simp [h1]
   by_cases h2:q.life=0
   ·have d2:(q.life==0)=true:=by simp [h2]
    have HH:Hid (q.names.length=0∧q.life=0):=Lib.hid ⟨h1,h2⟩
    clear h1 h2
    go_wp2
    go_meet
    exact ⟨rfl,by rw [decide_eq_true HH.out]⟩
   ·have d2:(q.life==0)=false:=by simp [h2]
    have HH:Hid (¬ (q.names.length=0∧q.life=0)):=Lib.hid (fun h=>h2 h.2)
    clear h1 h2
    go_wp2
    go_meet
    exact ⟨rfl,by rw [decide_eq_false HH.out]⟩
  ·have d1:((q.names.length:Int)==0)=false:=by rw [beq_eq_false_iff_ne];omega
   have HH:Hid (¬ (q.names.length=0∧q.life=0)):=Lib.hid (fun h=>h1 h.1)
   clear h1
   go_wp2
   go_meet
   exact ⟨rfl,by rw [decide_eq_false HH.out]⟩
 case rest =>
  obtain ⟨hw,rfl⟩:=hcut
  rw [hw]
  clear hw
  obtain ⟨T,hT⟩:∃ T,T=decide (q.names.length=0∧q.life=0):=⟨_,rfl⟩
  rw [← hT]
  have HT:Hid (T=true ↔ q.names=[]∧q.life=0):=Lib.hid (by rw [hT,decide_eq_true_iff];simp [List.length_eq_zero_iff])
  clear hT
  by_cases s1:q.kind=1
  ·have e1:(q.kind==1)=true:=by simp [s1]
   have HF:Hid (fitsP q ↔ T=true∧q.acc=0∧q.id=0):=Lib.hid (by unfold fitsP;rw [if_pos s1,HT.out];exact ⟨fun ⟨a,b,c,d⟩=>⟨⟨a,b⟩,c,d⟩,fun ⟨⟨a,b⟩,c,d⟩=>⟨a,b,c,d⟩⟩)
   clear s1 cO cI
   cases T with
   | false =>
    have HN:Hid (¬ fitsP q):=Lib.hid (fun h=>by have:=(HF.out.1 h).1;cases this)
    go_wp2
    go_ret
    exact ⟨ret_bool (decide_eq_false HN.out).symm,HX.out⟩
   | true =>
    by_cases g1:q.acc=0
    ·have d1:(q.acc==0)=true:=by simp [g1]
     by_cases g2:q.id=0
     ·have d2:(q.id==0)=true:=by simp [g2]
      have HY:Hid (fitsP q):=Lib.hid (HF.out.2 ⟨rfl,g1,g2⟩)
      clear g1 g2
      go_wp2
      go_ret
      exact ⟨ret_bool (decide_eq_true HY.out).symm,HX.out⟩
     ·have d2:(q.id==0)=false:=by simp [g2]
      have HN:Hid (¬ fitsP q):=Lib.hid (fun h=>g2 (HF.out.1 h).2.2)
      clear g1 g2
      go_wp2
      go_ret
      exact ⟨ret_bool (decide_eq_false HN.out).symm,HX.out⟩
    ·have d1:(q.acc==0)=false:=by simp [g1]
     have HN:Hid (¬ fitsP q):=Lib.hid (fun h=>g1 (HF.out.1 h).2.1)
     clear g1
     go_wp2
     go_ret
     exact ⟨ret_bool (decide_eq_false HN.out).symm,HX.out⟩
  have e1:(q.kind==1)=false:=by simp [s1]
  by_cases s2:q.kind=2
  ·have e2:(q.kind==2)=true:=by simp [s2]
   have HF:Hid (fitsP q ↔ q.id=0∧namesP q.names∧inB q.key=true∧1≤q.life∧q.life≤1000):=Lib.hid (by unfold fitsP;rw [if_neg s1,if_pos s2])
   clear s1 s2
   by_cases g1:q.id=0
   case neg =>
    have d1:(q.id==0)=false:=by simp [g1]
    have HN:Hid (¬ fitsP q):=Lib.hid (fun h=>g1 (HF.out.1 h).1)
    clear g1
    go_wp2
    go_ret
    exact ⟨ret_bool (decide_eq_false HN.out).symm,HX.out⟩
   have d1:(q.id==0)=true:=by simp [g1]
   by_cases g2:namesP q.names
   case neg =>
    rw [decide_eq_false g2] at cO
    have HN:Hid (¬ fitsP q):=Lib.hid (fun h=>g2 (HF.out.1 h).2.1)
    clear g1 g2
    go_wp2_with (go_at_call 85;refine cO.mono ?_;clear cO;rintro e w1 ⟨rfl,x1⟩)
    go_ret
    exact ⟨ret_bool (decide_eq_false HN.out).symm,HX.out.trans x1⟩
   rw [decide_eq_true g2] at cO
   cases g3:inB q.key with
   | false =>
    rw [g3] at cI
    have HN:Hid (¬ fitsP q):=Lib.hid (fun h=>by have:=(HF.out.1 h).2.2.1;rw [g3] at this;cases this)
    clear g1 g2 g3
    go_wp2_with (first
     | (go_at_call 85;refine cO.mono ?_;clear cO;rintro e w1 ⟨rfl,x1⟩;clear k0 k1 k2 k3 k4 k5 k6 k7 k8;obtain ⟨k0,k1,k2,k3,k4,k5,k6,k7,k8⟩:=arr9 (ext_blk x1 HB.out))
     | (go_at_call 86;refine (cI _).mono ?_;clear cI;rintro e w2 ⟨rfl,x2⟩))
    go_ret
    exact ⟨ret_bool (decide_eq_false HN.out).symm,HX.out.trans (x1.trans x2)⟩
   | true =>
    rw [g3] at cI
    by_cases g4:0<q.life
    ·by_cases g5:q.life≤1000
     ·have HY:Hid (fitsP q):=Lib.hid (HF.out.2 ⟨g1,g2,g3,by omega,g5⟩)
      clear g1 g2 g3
      go_wp2_with (first
       | (go_at_call 85;refine cO.mono ?_;clear cO;rintro e w1 ⟨rfl,x1⟩;clear k0 k1 k2 k3 k4 k5 k6 k7 k8;obtain ⟨k0,k1,k2,k3,k4,k5,k6,k7,k8⟩:=arr9 (ext_blk x1 HB.out))
       | (go_at_call 86;refine (cI _).mono ?_;clear cI;rintro e w2 ⟨rfl,x2⟩;clear k0 k1 k2 k3 k4 k5 k6 k7 k8;obtain ⟨k0,k1,k2,k3,k4,k5,k6,k7,k8⟩:=arr9 (ext_blk (x1.trans x2) HB.out)))
      go_ret
      exact ⟨ret_bool (decide_eq_true HY.out).symm,HX.out.trans (x1.trans x2)⟩
     ·have HN:Hid (¬ fitsP q):=Lib.hid (fun h=>g5 (HF.out.1 h).2.2.2.2)
      have d5:decide (q.life≤1000)=false:=decide_eq_false g5
      clear g1 g2 g3
      go_wp2_with (first
       | (go_at_call 85;refine cO.mono ?_;clear cO;rintro e w1 ⟨rfl,x1⟩;clear k0 k1 k2 k3 k4 k5 k6 k7 k8;obtain ⟨k0,k1,k2,k3,k4,k5,k6,k7,k8⟩:=arr9 (ext_blk x1 HB.out))
       | (go_at_call 86;refine (cI _).mono ?_;clear cI;rintro e w2 ⟨rfl,x2⟩;clear k0 k1 k2 k3 k4 k5 k6 k7 k8;obtain ⟨k0,k1,k2,k3,k4,k5,k6,k7,k8⟩:=arr9 (ext_blk (x1.trans x2) HB.out)))
      go_ret
      exact ⟨ret_bool (decide_eq_false HN.out).symm,HX.out.trans (x1.trans x2)⟩
    ·have HN:Hid (¬ fitsP q):=Lib.hid (fun h=>g4 (by have:=(HF.out.1 h).2.2.2.1;omega))
     have d4:decide (0<q.life)=false:=decide_eq_false g4
     clear g1 g2 g3
     go_wp2_with (first
      | (go_at_call 85;refine cO.mono ?_;clear cO;rintro e w1 ⟨rfl,x1⟩;clear k0 k1 k2 k3 k4 k5 k6 k7 k8;obtain ⟨k0,k1,k2,k3,k4,k5,k6,k7,k8⟩:=arr9 (ext_blk x1 HB.out))
      | (go_at_call 86;refine (cI _).mono ?_;clear cI;rintro e w2 ⟨rfl,x2⟩;clear k0 k1 k2 k3 k4 k5 k6 k7 k8;obtain ⟨k0,k1,k2,k3,k4,k5,k6,k7,k8⟩:=arr9 (ext_blk (x1.trans x2) HB.out)))
     go_ret
     exact ⟨ret_bool (decide_eq_false HN.out).symm,HX.out.trans (x1.trans x2)⟩
  have e2:(q.kind==2)=false:=by simp [s2]
  have HF:Hid (fitsP q ↔ T=true∧q.key=0):=Lib.hid (by unfold fitsP;rw [if_neg s1,if_neg s2,HT.out];exact ⟨fun ⟨a,b,c⟩=>⟨⟨a,b⟩,c⟩,fun ⟨⟨a,b⟩,c⟩=>⟨a,b,c⟩⟩)
  clear s1 s2 cO cI
  cases T with
  | false =>
   have HN:Hid (¬ fitsP q):=Lib.hid (fun h=>by have:=(HF.out.1 h).1;cases this)
   go_wp2
   go_ret
   exact ⟨ret_bool (decide_eq_false HN.out).symm,HX.out⟩
  | true =>
   by_cases g1:q.key=0
   ·have d1:((q.key:Int)==0)=true:=by simp [g1]
    have HY:Hid (fitsP q):=Lib.hid (HF.out.2 ⟨rfl,g1⟩)
    clear g1
    go_wp2
    go_ret
    exact ⟨ret_bool (decide_eq_true HY.out).symm,HX.out⟩
   ·have d1:((q.key:Int)==0)=false:=by rw [beq_eq_false_iff_ne];omega
    have HN:Hid (¬ fitsP q):=Lib.hid (fun h=>g1 (HF.out.1 h).2)
    clear g1
    go_wp2
    go_ret
    exact ⟨ret_bool (decide_eq_false HN.out).symm,HX.out⟩
theorem DoorW.grownTo {w w':World} {b:Nat} {d:DoorX} (h:DoorW w w.heap.size d) (hl:DoorL (fun k=>k≠b) d) (hg:w.grownBy w' (some b)):DoorW w' w'.heap.size d :=
 h.stay hl hg.size (fun k hk hb=>hg.block k hb (by simpa using hk))
def withU (d:DoorX) (l:List AutR) (A:Option Addr) (c:Nat):DoorX:={ d with auts:=l,uA:=A,uc:=c }
def withO (d:DoorX) (l:List OrdX) (A:Option Addr) (c:Nat):DoorX:={ d with ords:=l,rA:=A,rc:=c }
theorem withU_w {w:World} {B:Nat} {d:DoorX} {l:List AutR} {A:Option Addr} {c:Nat} (h:DoorW w B d) (hr:Reads w B 7 A l.length (autV l)) (hc:l.length≤c) (hl:l.length≤1099511627776) (hw:∀ x∈l,AutW x):DoorW w B (withU d l A c) :=
 ⟨h.non,h.ser,h.acc,h.cc,h.cl,h.cw,hr,hc,hl,hw,h.ord,h.rc,h.rl,h.rw⟩
theorem withO_w {w:World} {B:Nat} {d:DoorX} {l:List OrdX} {A:Option Addr} {c:Nat} (h:DoorW w B d) (hr:Reads w B 8 A l.length (ordV l)) (hc:l.length≤c) (hl:l.length≤1099511627776) (hw:∀ x∈l,OrdW w B x):DoorW w B (withO d l A c) :=
 ⟨h.non,h.ser,h.acc,h.cc,h.cl,h.cw,h.aut,h.uc,h.ul,h.uw,hr,hc,hl,hw⟩
theorem withU_l {S S':Nat→Prop} {d:DoorX} {l:List AutR} {A:Option Addr} {c:Nat} (h:DoorL S d) (k:∀ b,S b→S' b) (ha:Lies S' A l.length):DoorL S' (withU d l A c) :=
 ⟨h.o.mono k,h.c.mono k,ha,h.r.mono k,fun x hx=>(h.n x hx).mono k,fun x hx=>(h.a x hx).mono k⟩
theorem withO_l {S S':Nat→Prop} {d:DoorX} {l:List OrdX} {A:Option Addr} {c:Nat} (h:DoorL S d) (k:∀ b,S b→S' b) (ha:Lies S' A l.length) (hn:∀ x∈l,Lies S' x.nA x.o.names.length∧Lies S' x.aA x.o.auths.length):DoorL S' (withO d l A c) :=
 ⟨h.o.mono k,h.c.mono k,h.u.mono k,ha,fun x hx=>(hn x hx).1,fun x hx=>(hn x hx).2⟩
theorem fm_set {α:Type} (enc:α→List Value) {k:Nat} (hk:∀ x,(enc x).length=k):∀ {l:List α} {j:Nat} {x y:α},l[j]?=some x→∀ {i:Nat} {u:Value},i<k→(enc x).set i u=enc y→(l.flatMap enc).set (j*k+i) u=(l.set j y).flatMap enc
 | [],j,x,y,h,i,u,hi,he=>by simp at h
 | a :: l,0,x,y,h,i,u,hi,he=>by
  simp at h;subst h
  rw [List.flatMap_cons,Nat.zero_mul,Nat.zero_add,List.set_append_left _ _ (by rw [hk];exact hi),he]
  rfl
 | a :: l,j+1,x,y,h,i,u,hi,he=>by
  simp at h
  rw [List.flatMap_cons,List.set_append_right _ _ (by rw [hk,Nat.add_mul];omega),hk,show (j+1)*k+i-k=j*k+i by rw [Nat.add_mul];omega,fm_set enc hk h hi he]
  rfl
theorem own_fm {α:Type} (enc:α→List Value) {k:Nat} (hk:∀ x,(enc x).length=k) {w:World} {base g n cap:Nat} {e:TypeId} {l:List α} (h:w.ownsRow base e k (.slice (some ⟨g,0,none⟩) n cap) n (l.flatMap enc)) {j:Nat} {x:α} (hj:l[j]?=some x) {i:Nat} (hi:i<k):w.cell? ⟨g,j*k+i,none⟩=(enc x)[i]?:=by
 have hl:=(List.getElem?_eq_some_iff.1 hj).1
 have h1:=h.1
 rw [fm_length enc hk] at h1
 have h2:(l.length-1)*k+k=l.length*k:=by rw [← Nat.succ_mul];congr 1;omega
 have h3:j*k≤(l.length-1)*k:=Nat.mul_le_mul_right _ (by omega)
 rw [h.cellAt (j*k+i) (by omega)]
 exact fm_at enc hk hj hi
def authPost (b:Nat) (d:DoorX) (now:Int) (a:Nat) (w:World) (e:Ending) (w':World):Prop :=
 ∃ g c,e=.returned (.pointer (some ⟨g,a*7,none⟩))∧DoorB w' b (withU d d.auts (some ⟨g,0,none⟩) c) now∧w'.ownsRow w.heap.size 69 7 (.slice (some ⟨g,0,none⟩) d.auts.length c) d.auts.length (autV d.auts)∧w.grownBy w' (some b)
def orderPost (b:Nat) (d:DoorX) (now:Int) (a:Nat) (w:World) (e:Ending) (w':World):Prop :=
 ∃ g c,e=.returned (.pointer (some ⟨g,a*8,none⟩))∧DoorB w' b (withO d d.ords (some ⟨g,0,none⟩) c) now∧w'.ownsRow w.heap.size 78 8 (.slice (some ⟨g,0,none⟩) d.ords.length c) d.ords.length (ordV d.ords)∧w.grownBy w' (some b)
theorem auth_any (b:Nat) (d:DoorX) (now:Int) (a:Nat) (ha:a<d.auts.length) (hl:d.auts.length≤1099511627776) (w:World) (h:DoorB w b d now) (hr:Reads w w.heap.size 7 d.uA d.auts.length (autV d.auts)) :
  Calls Tryz.prog 72 #[.pointer (some ⟨b,0,none⟩),.int .i64 ((a:Int)+1)] w (authPost b d now a w):=by
 obtain ⟨a0,a1,a2,a3,a4,a5,a6⟩:=arr7 h
 have cC:=cloneU_any d.uA d.auts.length d.uc (autV d.auts) (autV_one _) hl w hr
 have hal:(a:Int)<(d.auts.length:Int):=by omega
 have hab:(a:Int)≤1099511627776:=by omega
 have HD:=Lib.hid h
 have H0:Hid (0<d.auts.length):=Lib.hid (by omega)
 have hlt:Hid (b<w.heap.size):=Lib.hid (Blk.lt h)
 clear h hr ha hl
 go_enter Tryz.func72,Tryz.ntmps72
 go_wp2_with (go_at_call 101;refine cC.mono ?_;clear cC a0 a1 a2 a3 a4 a5 a6;rintro e w1 ⟨v,rfl,ho,x1⟩;obtain ⟨g,cap,rfl,hgb,hgl⟩:=ho.form H0.out;obtain ⟨a0,a1,a2,a3,a4,a5,a6⟩:=arr7 (DoorB.ext HD.out x1);have f3:=(DoorB.ext HD.out x1).frozen 3;have HO:=Lib.hid ho;clear ho)
 go_ret
 exact ⟨g,cap,by simp,(DoorB.ext HD.out x1).set_ 3 _,own_far HO.out hlt.out 3 _,(grown_ext x1 (some b)).trans (grown_set _ _ _ _)⟩
theorem order_any (b:Nat) (d:DoorX) (now:Int) (a:Nat) (ha:a<d.ords.length) (hl:d.ords.length≤1099511627776) (w:World) (h:DoorB w b d now) (hr:Reads w w.heap.size 8 d.rA d.ords.length (ordV d.ords)) :
  Calls Tryz.prog 78 #[.pointer (some ⟨b,0,none⟩),.int .i64 ((a:Int)+1)] w (orderPost b d now a w):=by
 obtain ⟨a0,a1,a2,a3,a4,a5,a6⟩:=arr7 h
 have cC:=cloneO_any d.rA d.ords.length d.rc (ordV d.ords) (ordV_one _) hl w hr
 have hal:(a:Int)<(d.ords.length:Int):=by omega
 have hab:(a:Int)≤1099511627776:=by omega
 have HD:=Lib.hid h
 have H0:Hid (0<d.ords.length):=Lib.hid (by omega)
 have hlt:Hid (b<w.heap.size):=Lib.hid (Blk.lt h)
 clear h hr ha hl
 go_enter Tryz.func78,Tryz.ntmps78
 go_wp2_with (go_at_call 105;refine cC.mono ?_;clear cC a0 a1 a2 a3 a4 a5 a6;rintro e w1 ⟨v,rfl,ho,x1⟩;obtain ⟨g,cap,rfl,hgb,hgl⟩:=ho.form H0.out;obtain ⟨a0,a1,a2,a3,a4,a5,a6⟩:=arr7 (DoorB.ext HD.out x1);have f4:=(DoorB.ext HD.out x1).frozen 4;have HO:=Lib.hid ho;clear ho)
 go_ret
 exact ⟨g,cap,by simp,(DoorB.ext HD.out x1).set_ 4 _,own_far HO.out hlt.out 4 _,(grown_ext x1 (some b)).trans (grown_set _ _ _ _)⟩
theorem grown_new {w w1:World} {row:Option Nat} (h:w.grownBy w1 row) {p:Addr} (hp:w.heap.size≤p.block) (u:Value):w.grownBy (w1.setCell p u) row :=
 ⟨h.os,h.tape,h.output,Nat.le_trans h.size (KeepsWalks.setCell w1 p u).size,fun k hk hr=>(Below.heap_setCell w1 p u k (by omega)).trans (h.block k hk hr)⟩
def methPost (b:Nat) (d:DoorX) (now:Int) (r:OutF) (w:World) (e:Ending) (w':World):Prop :=
 e=.returned (.tuple #[.int .i64 r.2.1,.int .i64 (r.2.2:Nat)])∧w.grownBy w' (some b)∧(r.2.2=0→∃ d',d'.fro=r.1∧DoorB w' b d' now∧DoorW w' w'.heap.size d'∧∀ S,DoorL S d→DoorL (orNew S w) d')
theorem methPost_bad {b:Nat} {d:DoorX} {now:Int} {w w':World} {e:Ending} {E:Nat} (h0:E≠0) (he:e=.returned (.tuple #[.int .i64 0,.int .i64 (E:Int)])) (hg:w.grownBy w' (some b)):methPost b d now (bad E) w e w':=⟨he,hg,fun h=>absurd h h0⟩
theorem HG3_cell {w w':World} {b g:Nat} {T:TypeId} {x0 x1 x2 x3 x4 x5 x6 x7 x8:Value} (hg:w.grownBy w' (some b)) (hb:Blk w g T #[x0,x1,x2,x3,x4,x5,x6,x7,x8]) (hne:some g≠some b):w'.cell? ⟨g,6,none⟩=some x6:=(hb.grown hg hne).cell 6
theorem dfro_auts (d:DoorX):d.fro.auts=d.auts:=rfl
theorem looks_any (b:Nat) (d:DoorX) (now:Int) (q:QueR) (A:Option Addr) (c:Nat) (w:World) (hw:DoorW w w.heap.size d) (hL:DoorL (fun k=>k≠b) d) (h:DoorB w b d now) :
  Calls Tryz.prog 51 #[.pointer (some ⟨b,0,none⟩),queV q A c] w (methPost b d now (lookF d.fro q) w):=by
 obtain ⟨qk,qa,qn,qy,qs,ql,qi,qe,qss⟩:=q
 unfold queV
 obtain ⟨W0,e0⟩:∃ W,w.alloc (.cells #[.int .i64 qk,.int .i64 qa,.int .i64 qn,.int .u64 (qy:Int),.slice A qs.length c,.int .i64 ql,.int .i64 qi,.int .u64 (qe:Int),.int .u64 (qss:Int)] 27)=W:=⟨_,rfl⟩
 have x0:Ext w W0:=by rw [← e0];exact (Ext.refl w).alloc _
 have b0:Blk W0 w.heap.size 27 #[.int .i64 qk,.int .i64 qa,.int .i64 qn,.int .u64 (qy:Int),.slice A qs.length c,.int .i64 ql,.int .i64 qi,.int .u64 (qe:Int),.int .u64 (qss:Int)]:=by rw [← e0];exact Blk.new w _ _
 have s0:w.heap.size<W0.heap.size:=Blk.lt b0
 have HW:=Lib.hid hw
 have HL:=Lib.hid hL
 have HD:=Lib.hid h
 have HB:=Lib.hid b0
 have HX:=Lib.hid x0
 have HS0:=Lib.hid s0
 obtain ⟨k0,k1,k2,k3,k4,k5,k6,k7,k8⟩:=arr9 b0
 obtain ⟨a0,a1,a2,a3,a4,a5,a6⟩:=arr7 (DoorB.ext h x0)
 have hul:=hw.ul
 clear hw hL h b0 x0 s0
 go_enter Tryz.func51,Tryz.ntmps51
 go_upto_region 1 with (fail)
 try rw [e0]
 clear e0
 by_cases g1:qi<1
 ·have hR:lookF d.fro ⟨qk,qa,qn,qy,qs,ql,qi,qe,qss⟩=bad 131:=by unfold lookF;rw [if_pos g1]
  have HR:=Lib.hid hR
  have d1:decide (qi<1)=true:=decide_eq_true g1
  clear g1 hR
  have j0:=fun q:Later W0=>q.cell k1
  have j1:=fun q:Later W0=>q.cell k6
  have j2:=fun q:Later W0=>q.cell a3
  try (have j3:=fun q:Later W0=>q.cell r1)
  clear k0 k1 k2 k3 k4 k5 k6 k7 k8 a0 a1 a2 a3 a4 a5 a6
  refine wp_region_later (by kernel_rfl) (by kernel_rfl) ?_
  repeat (go_big_quiet_step ((fail)))
  refine wpQuiet_nil ?_
  rintro W2 ⟨q,hq⟩
  have x2:Ext w W2:=by rw [hq];exact HX.out.trans q.ext
  have y2:Ext W0 W2:=by rw [hq];exact q.ext
  clear hq q j0 j1 j2
  (try clear j3)
  (try clear r1)
  go_wp2
  go_ret2
  rw [HR.out]
  exact methPost_bad (E:=131) (by decide) rfl (grown_ext x2 (some b))
 have d1:decide (qi<1)=false:=decide_eq_false g1
 obtain ⟨a,rfl⟩:∃ a:Nat,qi=(a:Int)+1:=⟨(qi-1).toNat,by omega⟩
 by_cases g2:(d.auts.length:Int)<(a:Int)+1
 ·have hR:lookF d.fro ⟨qk,qa,qn,qy,qs,ql,(a:Int)+1,qe,qss⟩=bad 131:=by
   unfold lookF
   rw [if_neg g1]
   simp only
   rw [show ((a:Int)+1).toNat-1=a by omega,dfro_auts,List.getElem?_eq_none (by omega)]
  have HR:=Lib.hid hR
  have d2:decide ((d.auts.length:Int)<(a:Int)+1)=true:=decide_eq_true g2
  clear g1 g2 hR
  have j0:=fun q:Later W0=>q.cell k1
  have j1:=fun q:Later W0=>q.cell k6
  have j2:=fun q:Later W0=>q.cell a3
  try (have j3:=fun q:Later W0=>q.cell r1)
  clear k0 k1 k2 k3 k4 k5 k6 k7 k8 a0 a1 a2 a3 a4 a5 a6
  refine wp_region_later (by kernel_rfl) (by kernel_rfl) ?_
  repeat (go_big_quiet_step ((fail)))
  refine wpQuiet_nil ?_
  rintro W2 ⟨q,hq⟩
  have x2:Ext w W2:=by rw [hq];exact HX.out.trans q.ext
  have y2:Ext W0 W2:=by rw [hq];exact q.ext
  clear hq q j0 j1 j2
  (try clear j3)
  (try clear r1)
  go_wp2
  go_ret2
  rw [HR.out]
  exact methPost_bad (E:=131) (by decide) rfl (grown_ext x2 (some b))
 have d2:decide ((d.auts.length:Int)<(a:Int)+1)=false:=decide_eq_false g2
 obtain ⟨x,hx⟩:∃ u,d.auts[a]?=some u:=⟨_,List.getElem?_eq_getElem (by omega)⟩
 obtain ⟨ad,hA,hlt,r0,r1,r2,r3,r4,r5,r6⟩:=reads_aut HW.out.aut hx
 rw [hA] at a3
 have r1:=HX.out.cell r1
 have hal:(a:Int)<(d.auts.length:Int):=by omega
 have hab:(a:Int)≤1099511627776:=by omega
 have hR0:lookF d.fro ⟨qk,qa,qn,qy,qs,ql,(a:Int)+1,qe,qss⟩=if x.acc≠qa then bad 131 else if x.st≠1∧x.st≠4 then bad 221 else ({ d.fro with auts:=d.auts.set a { x with st:=2 } },(a:Int)+1,0):=by
  unfold lookF
  rw [if_neg g1]
  simp only
  rw [show ((a:Int)+1).toNat-1=a by omega,dfro_auts,hx]
 have HHX:=Lib.hid hx
 clear hlt r0 r2 r3 r4 r5 r6 hx g1 g2 hul
 by_cases g3:x.acc=qa
 case neg =>
  rw [if_pos g3] at hR0
  have HR:=Lib.hid hR0
  have d3:(x.acc != qa)=true:=by simp [g3]
  clear g3 hR0
  have j0:=fun q:Later W0=>q.cell k1
  have j1:=fun q:Later W0=>q.cell k6
  have j2:=fun q:Later W0=>q.cell a3
  try (have j3:=fun q:Later W0=>q.cell r1)
  clear k0 k1 k2 k3 k4 k5 k6 k7 k8 a0 a1 a2 a3 a4 a5 a6
  refine wp_region_later (by kernel_rfl) (by kernel_rfl) ?_
  repeat (go_big_quiet_step ((fail)))
  refine wpQuiet_nil ?_
  rintro W2 ⟨q,hq⟩
  have x2:Ext w W2:=by rw [hq];exact HX.out.trans q.ext
  have y2:Ext W0 W2:=by rw [hq];exact q.ext
  clear hq q j0 j1 j2
  (try clear j3)
  (try clear r1)
  go_wp2
  go_ret2
  rw [HR.out]
  exact methPost_bad (E:=131) (by decide) rfl (grown_ext x2 (some b))
 rw [if_neg (by simpa using g3)] at hR0
 have HR:=Lib.hid hR0
 have d3:(x.acc != qa)=false:=by simp [g3]
 clear g3 hR0
 have j0:=fun q:Later W0=>q.cell k1
 have j1:=fun q:Later W0=>q.cell k6
 have j2:=fun q:Later W0=>q.cell a3
 try (have j3:=fun q:Later W0=>q.cell r1)
 clear k0 k1 k2 k3 k4 k5 k6 k7 k8 a0 a1 a2 a3 a4 a5 a6
 refine wp_region_later (by kernel_rfl) (by kernel_rfl) ?_
 repeat (go_big_quiet_step ((fail)))
 refine wpQuiet_nil ?_
 rintro W2 ⟨q,hq⟩
 have x2:Ext w W2:=by rw [hq];exact HX.out.trans q.ext
 have y2:Ext W0 W2:=by rw [hq];exact q.ext
 clear hq q j0 j1 j2
 (try clear j3)
 (try clear r1)
 have cA:=auth_any b d now a (by omega) HW.out.ul W2 (DoorB.ext HD.out x2) ((HW.out.aut.below x2.out).more x2.size)
 obtain ⟨k0,k1,k2,k3,k4,k5,k6,k7,k8⟩:=arr9 (ext_blk y2 HB.out)
 have HX2:=Lib.hid x2
 have HY2:=Lib.hid y2
 have hS2:Hid (w.heap.size<W2.heap.size):=Lib.hid (by have:=HS0.out;have:=y2.size;omega)
 clear x2 y2 hA hal
 by_cases g4:x.st≠1∧x.st≠4
 ·have HR2:=HR.out
  rw [if_pos g4] at HR2
  have HRb:=Lib.hid HR2
  clear HR2 HR
  have d4:(x.st != 1)=true:=by simp [g4.1]
  have d5:(x.st != 4)=true:=by simp [g4.2]
  clear g4
  go_wp2_with (go_at_call 72;refine cA.mono ?_;clear cA k0 k1 k2 k3 k4 k5 k6 k7 k8;rintro e w3 ⟨g,cap,rfl,hb3,ho3,hg3⟩;have p4:=own_fm autC (fun _=>rfl) ho3 HHX.out (i:=4) (by decide);have HG3:=Lib.hid hg3;clear hb3 ho3 hg3;simp only [autC,List.getElem?_cons_succ,List.getElem?_cons_zero] at p4)
  go_ret2
  rw [HRb.out]
  exact methPost_bad (E:=221) (by decide) rfl ((grown_ext HX2.out (some b)).trans HG3.out)
 ·have HR2:=HR.out
  rw [if_neg g4] at HR2
  have HRb:=Lib.hid HR2
  clear HR2 HR
  have HF:Hid (x.st=1∨x.st=4):=Lib.hid (by omega)
  by_cases g5:x.st=1
  ·have d4:(x.st != 1)=false:=by simp [g5]
   clear g4 g5
   go_wp2_with (go_at_call 72;(refine cA.mono ?_;clear cA k0 k1 k2 k3 k4 k5 k6 k7 k8;rintro e w3 ⟨g,cap,rfl,hb3,ho3,hg3⟩;have p4:=own_fm autC (fun _=>rfl) ho3 HHX.out (i:=4) (by decide);have f4:=ho3.frozenAt (a*7+4);have hgb:Hid (W2.heap.size≤g):=Lib.hid (own_ge ho3 g rfl);have hqg:⟨w.heap.size,6,none⟩≠(⟨g,a*7+4,none⟩:Addr):=(fun e=>by have h1:=congrArg Addr.block e;simp only at h1;have h2:=hS2.out;have h3:=hgb.out;omega);have k6:=HG3_cell hg3 (ext_blk HY2.out HB.out) (by have:=Blk.lt HD.out;have:=HS0.out;simp;omega);have HG3:=Lib.hid hg3;have HB3:=Lib.hid hb3;have HO3:=Lib.hid ho3;clear hb3 ho3 hg3;simp only [autC,List.getElem?_cons_succ,List.getElem?_cons_zero] at p4))
   go_ret2
   have hgb:=hgb.out
   have hbl:=Blk.lt HD.out
   have hS2:=hS2.out
   obtain ⟨o4,hg4⟩:=HO3.out.stored (a*7+4) (.int .i64 2)
   have hset:=fm_set autC (k:=7) (fun _=>rfl) HHX.out (i:=4) (u:=.int .i64 2) (y:={ x with st:=2 }) (by decide) rfl
   rw [show autV d.auts=d.auts.flatMap autC from rfl,hset] at o4
   have hg5:=grown_new ((grown_ext HX2.out (some b)).trans HG3.out) (p:=⟨g,a*7+4,none⟩) (by simp only;omega) (.int .i64 2)
   have hlen:(d.auts.set a { x with st:=2 }).length=d.auts.length:=List.length_set
   have xw:=HW.out.uw x (List.mem_of_getElem? HHX.out)
   rw [HRb.out]
   refine ⟨rfl,hg5,fun _=>⟨withU d (d.auts.set a { x with st:=2 }) (some ⟨g,0,none⟩) cap,rfl,?_,?_,fun S hS=>?_⟩⟩
   ·have:=Blk.far HB3.out (p:=⟨g,a*7+4,none⟩) (by simp;omega) (.int .i64 2)
    unfold DoorB withU at this ⊢
    simp only at this ⊢
    rw [hlen]
    exact this
   ·have hr:=Reads.of_own o4
    rw [← hlen] at hr
    refine withU_w (HW.out.grownTo HL.out hg5) hr (by rw [hlen];exact own_cap HO3.out) (by rw [hlen];exact HW.out.ul) (fun y hy=>?_)
    rcases List.mem_or_eq_of_mem_set hy with hy|rfl
    ·exact HW.out.uw y hy
    ·exact ⟨xw.id,xw.acc,wf64_of (by simp) (by simp),xw.fr,xw.un,xw.name,xw.tok⟩
   ·refine withU_l hS (fun k hk=>.inl hk) ?_
    rw [hlen]
    exact Lies.own o4 (fun k hk=>.inr (by omega))
  ·have d4:(x.st != 1)=true:=by simp [g5]
   have d5:(x.st != 4)=false:=by have:=HF.out;simp;omega
   clear g4 g5
   go_wp2_with (go_at_call 72;refine cA.mono ?_;clear cA k0 k1 k2 k3 k4 k5 k6 k7 k8;rintro e w3 ⟨g,cap,rfl,hb3,ho3,hg3⟩;have p4:=own_fm autC (fun _=>rfl) ho3 HHX.out (i:=4) (by decide);have f4:=ho3.frozenAt (a*7+4);have hgb:Hid (W2.heap.size≤g):=Lib.hid (own_ge ho3 g rfl);have hqg:⟨w.heap.size,6,none⟩≠(⟨g,a*7+4,none⟩:Addr):=(fun e=>by have h1:=congrArg Addr.block e;simp only at h1;have h2:=hS2.out;have h3:=hgb.out;omega);have k6:=HG3_cell hg3 (ext_blk HY2.out HB.out) (by have:=Blk.lt HD.out;have:=HS0.out;simp;omega);have HG3:=Lib.hid hg3;have HB3:=Lib.hid hb3;have HO3:=Lib.hid ho3;clear hb3 ho3 hg3;simp only [autC,List.getElem?_cons_succ,List.getElem?_cons_zero] at p4)
   go_ret2
   have hgb:=hgb.out
   have hbl:=Blk.lt HD.out
   have hS2:=hS2.out
   obtain ⟨o4,hg4⟩:=HO3.out.stored (a*7+4) (.int .i64 2)
   have hset:=fm_set autC (k:=7) (fun _=>rfl) HHX.out (i:=4) (u:=.int .i64 2) (y:={ x with st:=2 }) (by decide) rfl
   rw [show autV d.auts=d.auts.flatMap autC from rfl,hset] at o4
   have hg5:=grown_new ((grown_ext HX2.out (some b)).trans HG3.out) (p:=⟨g,a*7+4,none⟩) (by simp only;omega) (.int .i64 2)
   have hlen:(d.auts.set a { x with st:=2 }).length=d.auts.length:=List.length_set
   have xw:=HW.out.uw x (List.mem_of_getElem? HHX.out)
   rw [HRb.out]
   refine ⟨rfl,hg5,fun _=>⟨withU d (d.auts.set a { x with st:=2 }) (some ⟨g,0,none⟩) cap,rfl,?_,?_,fun S hS=>?_⟩⟩
   ·have:=Blk.far HB3.out (p:=⟨g,a*7+4,none⟩) (by simp;omega) (.int .i64 2)
    unfold DoorB withU at this ⊢
    simp only at this ⊢
    rw [hlen]
    exact this
   ·have hr:=Reads.of_own o4
    rw [← hlen] at hr
    refine withU_w (HW.out.grownTo HL.out hg5) hr (by rw [hlen];exact own_cap HO3.out) (by rw [hlen];exact HW.out.ul) (fun y hy=>?_)
    rcases List.mem_or_eq_of_mem_set hy with hy|rfl
    ·exact HW.out.uw y hy
    ·exact ⟨xw.id,xw.acc,wf64_of (by simp) (by simp),xw.fr,xw.un,xw.name,xw.tok⟩
   ·refine withU_l hS (fun k hk=>.inl hk) ?_
    rw [hlen]
    exact Lies.own o4 (fun k hk=>.inr (by omega))
theorem dfro_ords (d:DoorX):d.fro.ords=d.ords.map (·.o):=rfl
theorem ords_get {d:DoorX} {a:Nat} {x:OrdX} (h:d.ords[a]?=some x):d.fro.ords[a]?=some x.o:=by rw [dfro_ords,List.getElem?_map,h];rfl
theorem map_set_o (l:List OrdX) (a:Nat) (x:OrdX):(l.set a x).map (·.o)=(l.map (·.o)).set a x.o:=by rw [List.map_set]
theorem own_ords {w:World} {base g n cap:Nat} {e:TypeId} {l:List OrdX} (h:w.ownsRow base e 8 (.slice (some ⟨g,0,none⟩) n cap) n (ordV l)) {a:Nat} {x:OrdX} (hx:l[a]?=some x) :
  w.cell? ⟨g,a*8+5,none⟩=some (.slice x.aA x.o.auths.length x.ac)∧w.cell? ⟨g,a*8+6,none⟩=some (.int .i64 x.o.st):=by
 have p5:=own_fm ordC (fun _=>rfl) h hx (i:=5) (by decide)
 have p6:=own_fm ordC (fun _=>rfl) h hx (i:=6) (by decide)
 simp only [ordC,List.getElem?_cons_succ,List.getElem?_cons_zero] at p5 p6
 exact ⟨p5,p6⟩
theorem issues_any (b:Nat) (d:DoorX) (now:Int) (q:QueR) (A:Option Addr) (c:Nat) (w:World) (hw:DoorW w w.heap.size d) (hL:DoorL (fun k=>k≠b) d) (h:DoorB w b d now)
  (hAu:∀ x∈d.ords,∀ s∈x.o.auths,1≤s∧s≤d.auts.length) :
  Calls Tryz.prog 52 #[.pointer (some ⟨b,0,none⟩),queV q A c] w (methPost b d now (issF d.fro q now) w):=by
 obtain ⟨qk,qa,qn,qy,qs,ql,qi,qe,qss⟩:=q
 unfold queV
 obtain ⟨W0,e0⟩:∃ W,w.alloc (.cells #[.int .i64 qk,.int .i64 qa,.int .i64 qn,.int .u64 (qy:Int),.slice A qs.length c,.int .i64 ql,.int .i64 qi,.int .u64 (qe:Int),.int .u64 (qss:Int)] 27)=W:=⟨_,rfl⟩
 have x0:Ext w W0:=by rw [← e0];exact (Ext.refl w).alloc _
 have b0:Blk W0 w.heap.size 27 #[.int .i64 qk,.int .i64 qa,.int .i64 qn,.int .u64 (qy:Int),.slice A qs.length c,.int .i64 ql,.int .i64 qi,.int .u64 (qe:Int),.int .u64 (qss:Int)]:=by rw [← e0];exact Blk.new w _ _
 have s0:w.heap.size<W0.heap.size:=Blk.lt b0
 have HW:=Lib.hid hw
 have HL:=Lib.hid hL
 have HD:=Lib.hid h
 have HB:=Lib.hid b0
 have HX:=Lib.hid x0
 have HS0:=Lib.hid s0
 have HAU:=Lib.hid hAu
 obtain ⟨k0,k1,k2,k3,k4,k5,k6,k7,k8⟩:=arr9 b0
 obtain ⟨a0,a1,a2,a3,a4,a5,a6⟩:=arr7 (DoorB.ext h x0)
 have hul:=hw.rl
 clear hw hL h b0 x0 s0 hAu
 go_enter Tryz.func52,Tryz.ntmps52
 go_upto_region 1 with (fail)
 try rw [e0]
 clear e0
 by_cases g1:qi<1
 ·have hR:issF d.fro ⟨qk,qa,qn,qy,qs,ql,qi,qe,qss⟩ now=bad 131:=by unfold issF;rw [if_pos g1]
  have HR:=Lib.hid hR
  have d1:decide (qi<1)=true:=decide_eq_true g1
  clear g1 hR
  have j0:=fun q:Later W0=>q.cell k1
  have j1:=fun q:Later W0=>q.cell k6
  have j2:=fun q:Later W0=>q.cell a4
  try (have j3:=fun q:Later W0=>q.cell r1)
  clear k0 k1 k2 k3 k4 k5 k6 k7 k8 a0 a1 a2 a3 a4 a5 a6
  refine wp_region_later (by kernel_rfl) (by kernel_rfl) ?_
  repeat (go_big_quiet_step ((fail)))
  refine wpQuiet_nil ?_
  rintro W2 ⟨q,hq⟩
  have x2:Ext w W2:=by rw [hq];exact HX.out.trans q.ext
  have y2:Ext W0 W2:=by rw [hq];exact q.ext
  clear hq q j0 j1 j2
  (try clear j3)
  (try clear r1)
  go_wp2
  go_ret2
  rw [HR.out]
  exact methPost_bad (E:=131) (by decide) rfl (grown_ext x2 (some b))
 have d1:decide (qi<1)=false:=decide_eq_false g1
 obtain ⟨a,rfl⟩:∃ a:Nat,qi=(a:Int)+1:=⟨(qi-1).toNat,by omega⟩
 by_cases g2:(d.ords.length:Int)<(a:Int)+1
 ·have hR:issF d.fro ⟨qk,qa,qn,qy,qs,ql,(a:Int)+1,qe,qss⟩ now=bad 131:=by
   unfold issF
   rw [if_neg g1]
   simp only
   rw [show ((a:Int)+1).toNat-1=a by omega,dfro_ords,List.getElem?_eq_none (by rw [List.length_map];omega)]
  have HR:=Lib.hid hR
  have d2:decide ((d.ords.length:Int)<(a:Int)+1)=true:=decide_eq_true g2
  clear g1 g2 hR
  have j0:=fun q:Later W0=>q.cell k1
  have j1:=fun q:Later W0=>q.cell k6
  have j2:=fun q:Later W0=>q.cell a4
  try (have j3:=fun q:Later W0=>q.cell r1)
  clear k0 k1 k2 k3 k4 k5 k6 k7 k8 a0 a1 a2 a3 a4 a5 a6
  refine wp_region_later (by kernel_rfl) (by kernel_rfl) ?_
  repeat (go_big_quiet_step ((fail)))
  refine wpQuiet_nil ?_
  rintro W2 ⟨q,hq⟩
  have x2:Ext w W2:=by rw [hq];exact HX.out.trans q.ext
  have y2:Ext W0 W2:=by rw [hq];exact q.ext
  clear hq q j0 j1 j2
  (try clear j3)
  (try clear r1)
  go_wp2
  go_ret2
  rw [HR.out]
  exact methPost_bad (E:=131) (by decide) rfl (grown_ext x2 (some b))
 have d2:decide ((d.ords.length:Int)<(a:Int)+1)=false:=decide_eq_false g2
 obtain ⟨x,hx⟩:∃ u,d.ords[a]?=some u:=⟨_,List.getElem?_eq_getElem (by omega)⟩
 obtain ⟨ad,hA,hlt,r0,r1,r2,r3,r4,r5,r6,r7⟩:=reads_ord HW.out.ord hx
 rw [hA] at a4
 have r1:=HX.out.cell r1
 have hal:(a:Int)<(d.ords.length:Int):=by omega
 have hab:(a:Int)≤1099511627776:=by omega
 have hR0:issF d.fro ⟨qk,qa,qn,qy,qs,ql,(a:Int)+1,qe,qss⟩ now=if x.o.acc≠qa then bad 131 else if x.o.st≠1∨holdsF d.auts x.o.auths now=false then bad 221 else ({ d.fro with ords:=d.fro.ords.set a { x.o with st:=2 } },(a:Int)+1,0):=by
  unfold issF
  rw [if_neg g1]
  simp only
  rw [show ((a:Int)+1).toNat-1=a by omega,ords_get hx]
  rfl
 have HHX:=Lib.hid hx
 clear hlt r0 r2 r3 r4 r5 r6 r7 hx g1 g2 hul
 by_cases g3:x.o.acc=qa
 case neg =>
  rw [if_pos g3] at hR0
  have HR:=Lib.hid hR0
  have d3:(x.o.acc != qa)=true:=by simp [g3]
  clear g3 hR0
  have j0:=fun q:Later W0=>q.cell k1
  have j1:=fun q:Later W0=>q.cell k6
  have j2:=fun q:Later W0=>q.cell a4
  try (have j3:=fun q:Later W0=>q.cell r1)
  clear k0 k1 k2 k3 k4 k5 k6 k7 k8 a0 a1 a2 a3 a4 a5 a6
  refine wp_region_later (by kernel_rfl) (by kernel_rfl) ?_
  repeat (go_big_quiet_step ((fail)))
  refine wpQuiet_nil ?_
  rintro W2 ⟨q,hq⟩
  have x2:Ext w W2:=by rw [hq];exact HX.out.trans q.ext
  have y2:Ext W0 W2:=by rw [hq];exact q.ext
  clear hq q j0 j1 j2
  (try clear j3)
  (try clear r1)
  go_wp2
  go_ret2
  rw [HR.out]
  exact methPost_bad (E:=131) (by decide) rfl (grown_ext x2 (some b))
 rw [if_neg (by simpa using g3)] at hR0
 have HR:=Lib.hid hR0
 have d3:(x.o.acc != qa)=false:=by simp [g3]
 clear g3 hR0
 have j0:=fun q:Later W0=>q.cell k1
 have j1:=fun q:Later W0=>q.cell k6
 have j2:=fun q:Later W0=>q.cell a4
 try (have j3:=fun q:Later W0=>q.cell r1)
 clear k0 k1 k2 k3 k4 k5 k6 k7 k8 a0 a1 a2 a3 a4 a5 a6
 refine wp_region_later (by kernel_rfl) (by kernel_rfl) ?_
 repeat (go_big_quiet_step ((fail)))
 refine wpQuiet_nil ?_
 rintro W2 ⟨q,hq⟩
 have x2:Ext w W2:=by rw [hq];exact HX.out.trans q.ext
 have y2:Ext W0 W2:=by rw [hq];exact q.ext
 clear hq q j0 j1 j2
 (try clear j3)
 (try clear r1)
 have cA:=order_any b d now a (by omega) HW.out.rl W2 (DoorB.ext HD.out x2) ((HW.out.ord.below x2.out).more x2.size)
 obtain ⟨k0,k1,k2,k3,k4,k5,k6,k7,k8⟩:=arr9 (ext_blk y2 HB.out)
 have HX2:=Lib.hid x2
 have HY2:=Lib.hid y2
 have hS2:Hid (w.heap.size<W2.heap.size):=Lib.hid (by have:=HS0.out;have:=y2.size;omega)
 clear x2 y2 hA hal
 by_cases g4:x.o.st=1
 case neg =>
  have HR2:=HR.out
  rw [if_pos (.inl g4)] at HR2
  have HRb:=Lib.hid HR2
  clear HR2 HR
  have d4:(x.o.st != 1)=true:=by simp [g4]
  clear g4
  go_wp2_with (go_at_call 78;refine cA.mono ?_;clear cA k0 k1 k2 k3 k4 k5 k6 k7 k8;rintro e w3 ⟨g,cap,rfl,hb3,ho3,hg3⟩;obtain ⟨p5,p6⟩:=own_ords ho3 HHX.out;have HG3:=Lib.hid hg3;clear hb3 ho3 hg3)
  go_ret2
  rw [HRb.out]
  exact methPost_bad (E:=221) (by decide) rfl ((grown_ext HX2.out (some b)).trans HG3.out)
 have d4:(x.o.st != 1)=false:=by simp [g4]
 have xw:=HW.out.rw x (List.mem_of_getElem? HHX.out)
 have hLx:=HL.out.a x (List.mem_of_getElem? HHX.out)
 have cH:=fun (W:World) (hg:w.grownBy W (some b)) g cap (hb:DoorB W b (withO d d.ords (some ⟨g,0,none⟩) cap) now) =>
  holds_any b (withO d d.ords (some ⟨g,0,none⟩) cap) now x.o.auths (HAU.out x (List.mem_of_getElem? HHX.out)) xw.al HW.out.ul x.aA x.ac W hb
   (xw.auths.stay hLx hg.size (fun k hk hb=>hg.block k hb (by simpa using hk))) (HW.out.aut.stay HL.out.u hg.size (fun k hk hb=>hg.block k hb (by simpa using hk)))
 cases g5:holdsF d.auts x.o.auths now with
 | false =>
  have HR2:=HR.out
  rw [if_pos (.inr g5)] at HR2
  have HRb:=Lib.hid HR2
  clear HR2 HR
  have cH2:=fun (W:World) (hg:w.grownBy W (some b)) g cap (hb:DoorB W b (withO d d.ords (some ⟨g,0,none⟩) cap) now)=>by
   have:=cH W hg g cap hb
   rw [show holdsF (withO d d.ords (some ⟨g,0,none⟩) cap).auts x.o.auths now=false from g5] at this
   exact this
  clear g4 g5 cH xw hLx
  go_wp2_with (first
   | (go_at_call 78;refine cA.mono ?_;clear cA k0 k1 k2 k3 k4 k5 k6 k7 k8;rintro e w3 ⟨g,cap,rfl,hb3,ho3,hg3⟩;obtain ⟨p5,p6⟩:=own_ords ho3 HHX.out;have HG3:=Lib.hid hg3;have HB3:=Lib.hid hb3;have HO3:=Lib.hid ho3;clear hb3 ho3 hg3)
   | (go_at_call 75;refine (cH2 _ ((grown_ext HX2.out (some b)).trans HG3.out) g cap HB3.out).mono ?_;clear cH2;rintro e w4 ⟨rfl,x4⟩))
  go_ret2
  rw [HRb.out]
  exact methPost_bad (E:=221) (by decide) rfl (((grown_ext HX2.out (some b)).trans HG3.out).trans (grown_ext x4 (some b)))
 | true =>
  have HR2:=HR.out
  rw [if_neg (by rintro (h|h);exact h g4;rw [g5] at h;cases h)] at HR2
  have HRb:=Lib.hid HR2
  clear HR2 HR
  have cH2:=fun (W:World) (hg:w.grownBy W (some b)) g cap (hb:DoorB W b (withO d d.ords (some ⟨g,0,none⟩) cap) now)=>by
   have:=cH W hg g cap hb
   rw [show holdsF (withO d d.ords (some ⟨g,0,none⟩) cap).auts x.o.auths now=true from g5] at this
   exact this
  clear g4 g5 cH xw hLx
  go_wp2_with (first
   | (go_at_call 78;refine cA.mono ?_;clear cA k0 k1 k2 k3 k4 k5 k6 k7 k8;rintro e w3 ⟨g,cap,rfl,hb3,ho3,hg3⟩;obtain ⟨p5,p6⟩:=own_ords ho3 HHX.out;have hgb:Hid (W2.heap.size≤g):=Lib.hid (own_ge ho3 g rfl);have k6:=HG3_cell hg3 (ext_blk HY2.out HB.out) (by have:=Blk.lt HD.out;have:=HS0.out;simp;omega);have HG3:=Lib.hid hg3;have HB3:=Lib.hid hb3;have HO3:=Lib.hid ho3;clear hb3 ho3 hg3)
   | (go_at_call 75;refine (cH2 _ ((grown_ext HX2.out (some b)).trans HG3.out) g cap HB3.out).mono ?_;clear cH2;rintro e w4 ⟨rfl,x4⟩;have k6:=x4.cell k6;have p6:=x4.cell p6;have ho4:=own_ext HO3.out x4;have f6:=ho4.frozenAt (a*8+6);have HO4:=Lib.hid ho4;clear ho4;have hqg:¬ w.heap.size=g:=(by have h2:=hS2.out;have h3:=hgb.out;omega);have hqh:¬ g=w.heap.size:=(by omega)))
  go_ret2
  have hgb:=hgb.out
  have hbl:=Blk.lt HD.out
  have hS2:=hS2.out
  have xw:=HW.out.rw x (List.mem_of_getElem? HHX.out)
  obtain ⟨o4,hg4⟩:=HO4.out.stored (a*8+6) (.int .i64 2)
  have hset:=fm_set ordC (k:=8) (fun _=>rfl) HHX.out (i:=6) (u:=.int .i64 2) (y:={ x with o:={ x.o with st:=2 } }) (by decide) rfl
  rw [show ordV d.ords=d.ords.flatMap ordC from rfl,hset] at o4
  have hg5:=grown_new (((grown_ext HX2.out (some b)).trans HG3.out).trans (grown_ext x4 (some b))) (p:=⟨g,a*8+6,none⟩) (by simp only;omega) (.int .i64 2)
  have hlen:(d.ords.set a { x with o:={ x.o with st:=2 } }).length=d.ords.length:=List.length_set
  rw [HRb.out]
  refine ⟨rfl,hg5,fun _=>⟨withO d (d.ords.set a { x with o:={ x.o with st:=2 } }) (some ⟨g,0,none⟩) cap,?_,?_,?_,fun S hS=>?_⟩⟩
  ·unfold DoorX.fro withO
   simp only
   rw [map_set_o]
  ·have:=Blk.far (DoorB.ext HB3.out x4) (p:=⟨g,a*8+6,none⟩) (by simp;omega) (.int .i64 2)
   unfold DoorB withO at this ⊢
   simp only at this ⊢
   rw [hlen]
   exact this
  ·have hr:=Reads.of_own o4
   rw [← hlen] at hr
   have hd5:=HW.out.grownTo HL.out hg5
   refine withO_w hd5 hr (by rw [hlen];exact own_cap HO4.out) (by rw [hlen];exact HW.out.rl) (fun y hy=>?_)
   rcases List.mem_or_eq_of_mem_set hy with hy|rfl
   ·exact hd5.rw y hy
   ·have:=hd5.rw x (List.mem_of_getElem? HHX.out)
    exact ⟨this.id,this.acc,this.key,this.life,wf64_of (by simp) (by simp),this.ser,this.names,this.nc,this.nl,this.ns,this.auths,this.ac,this.al,this.aw⟩
  ·refine withO_l hS (fun k hk=>.inl hk) ?_ (fun y hy=>?_)
   ·rw [hlen]
    exact Lies.own o4 (fun k hk=>.inr (by omega))
   ·rcases List.mem_or_eq_of_mem_set hy with hy|rfl
    ·exact ⟨(hS.n y hy).mono (fun k hk=>.inl hk),(hS.a y hy).mono (fun k hk=>.inl hk)⟩
    ·exact ⟨(hS.n x (List.mem_of_getElem? HHX.out)).mono (fun k hk=>.inl hk),(hS.a x (List.mem_of_getElem? HHX.out)).mono (fun k hk=>.inl hk)⟩
def revB (q:QueR) (o:OrdR):Bool:=decide (o.st=5) && decide (o.acc=q.acc) && decide (o.ser=q.id)
theorem revokes_any (b:Nat) (d:DoorX) (now:Int) (q:QueR) (A:Option Addr) (c:Nat) (w:World) (hw:DoorW w w.heap.size d) (h:DoorB w b d now) :
  Calls Tryz.prog 53 #[.pointer (some ⟨b,0,none⟩),queV q A c] w (methPost b d now (revF d.fro q) w):=by
 obtain ⟨W0,e0⟩:∃ W,w.alloc (.cells #[.int .i64 q.kind,.int .i64 q.acc,.int .i64 q.nonce,.int .u64 (q.key:Int),.slice A q.names.length c,.int .i64 q.life,.int .i64 q.id,.int .u64 (q.e:Int),.int .u64 (q.s:Int)] 27)=W:=⟨_,rfl⟩
 have x0:Ext w W0:=by rw [← e0];exact (Ext.refl w).alloc _
 have b0:QueB W0 w.heap.size q A c:=by rw [← e0];exact Blk.new w _ _
 have HW:=Lib.hid hw
 have HD:=Lib.hid h
 have HB:=Lib.hid b0
 have HX:=Lib.hid x0
 obtain ⟨a0,a1,a2,a3,a4,a5,a6⟩:=arr7 (DoorB.ext h x0)
 obtain ⟨RA,hRA⟩:∃ R,d.rA=R:=⟨_,rfl⟩
 have hord:=hw.ord
 rw [hRA] at hord a4
 have HRD:=Lib.hid hord
 unfold queV
 clear hw h b0 x0 hRA hord
 go_enter Tryz.func53,Tryz.ntmps53
 go_upto_region 1 with (fail)
 try rw [e0]
 clear e0
 go_wp2
 clear a0 a1 a2 a3 a4 a5 a6
 go_loopg [14] d.ords.length (fun m s14 wr=>∃ j:Nat,j+m=d.ords.length∧s14=.int .i64 j∧(∀ x∈d.ords.take j,revB q x.o=false)∧Ext W0 wr)
 case atStart=>exact ⟨0,by omega,rfl,by simp,Ext.refl W0⟩
 case round =>
  obtain ⟨j,hj,rfl,hok,hx⟩:=hrel
  have hjb:(j:Int)≤1099511627776:=by have:=HW.out.rl;omega
  by_cases hjl:j<d.ords.length
  ·obtain ⟨x,hi⟩:∃ s,d.ords[j]?=some s:=⟨_,List.getElem?_eq_getElem hjl⟩
   obtain ⟨ad,rfl,hlt,q0,q1,q2,q3,q4,q5,q6,q7⟩:=reads_ord (HRD.out.below (HX.out.trans hx).out) hi
   have e1:d.ords.take (j+1)=d.ords.take j++[x]:=by rw [List.take_add_one,hi];rfl
   have xa:Ext wr (wr.alloc (.cells #[.int .i64 x.o.id,.int .i64 x.o.acc,.slice x.nA x.o.names.length x.nc,.int .u64 (x.o.key:Int),.int .i64 x.o.life,.slice x.aA x.o.auths.length x.ac,.int .i64 x.o.st,.int .i64 x.o.ser] 78)):=(Ext.refl wr).alloc _
   obtain ⟨k0,k1,k2,k3,k4,k5,k6,k7,k8⟩:=arr9 (ext_blk (hx.trans xa) HB.out)
   have hjo:(j:Int)<(d.ords.length:Int):=by omega
   have HX2:=Lib.hid (hx.trans xa)
   have HJ:=Lib.hid hj
   have HOK:=Lib.hid hok
   have HE:=Lib.hid e1
   have HIM:Hid (x∈d.ords):=Lib.hid (List.mem_of_getElem? hi)
   clear hlt hx hj hok e1 hi xa
   by_cases g1:x.o.st=5
   case neg =>
    have d1:(x.o.st==5)=false:=by simp [g1]
    have hok':Hid (∀ y∈d.ords.take (j+1),revB q y.o=false):=Lib.hid fun y hy=>by
     rw [HE.out] at hy
     rcases List.mem_append.1 hy with hy|hy
     ·exact HOK.out y hy
     ·rw [List.mem_singleton] at hy;subst hy;simp [revB,g1]
    clear g1
    go_wp2
    have hj:=HJ.out
    go_roundg (gk-1)
    case measure=>omega
    case rel=>exact ⟨j+1,by omega,int_congr (by omega),hok'.out,HX2.out⟩
   have d1:(x.o.st==5)=true:=by simp [g1]
   by_cases g2:x.o.acc=q.acc
   case neg =>
    have d2:(x.o.acc==q.acc)=false:=by simp [g2]
    have hok':Hid (∀ y∈d.ords.take (j+1),revB q y.o=false):=Lib.hid fun y hy=>by
     rw [HE.out] at hy
     rcases List.mem_append.1 hy with hy|hy
     ·exact HOK.out y hy
     ·rw [List.mem_singleton] at hy;subst hy;simp [revB,g2]
    clear g1 g2
    go_wp2
    have hj:=HJ.out
    go_roundg (gk-1)
    case measure=>omega
    case rel=>exact ⟨j+1,by omega,int_congr (by omega),hok'.out,HX2.out⟩
   have d2:(x.o.acc==q.acc)=true:=by simp [g2]
   by_cases g3:x.o.ser=q.id
   ·have d3:(x.o.ser==q.id)=true:=by simp [g3]
    have HR:Hid (revF d.fro q=(d.fro,q.id,0)):=Lib.hid (by
     unfold revF
     rw [if_pos]
     rw [List.any_eq_true]
     refine ⟨x.o,by rw [dfro_ords];exact List.mem_map.2 ⟨x,HIM.out,rfl⟩,by simp [g1,g2,g3]⟩)
    clear g1 g2 g3
    go_wp2
    go_ret2
    rw [HR.out]
    have x9:=HX.out.trans HX2.out
    exact ⟨rfl,grown_ext x9 (some b),fun _=>⟨d,rfl,DoorB.ext HD.out x9,HW.out.ext x9,fun S hS=>hS.mono (fun k hk=>.inl hk)⟩⟩
   ·have d3:(x.o.ser==q.id)=false:=by simp [g3]
    have hok':Hid (∀ y∈d.ords.take (j+1),revB q y.o=false):=Lib.hid fun y hy=>by
     rw [HE.out] at hy
     rcases List.mem_append.1 hy with hy|hy
     ·exact HOK.out y hy
     ·rw [List.mem_singleton] at hy;subst hy;simp [revB,g3]
    clear g1 g2 g3
    go_wp2
    have hj:=HJ.out
    go_roundg (gk-1)
    case measure=>omega
    case rel=>exact ⟨j+1,by omega,int_congr (by omega),hok'.out,HX2.out⟩
  ·obtain rfl:j=d.ords.length:=by omega
   rw [List.take_length] at hok
   have HR:Hid (revF d.fro q=bad 131):=Lib.hid (by
    unfold revF
    rw [if_neg]
    rw [List.any_eq_true]
    rintro ⟨o,ho,h⟩
    rw [dfro_ords] at ho
    obtain ⟨x,hx,rfl⟩:=List.mem_map.1 ho
    have:=hok x hx
    unfold revB at this
    rw [h] at this
    cases this)
   have HX2:=Lib.hid hx
   have hjd:decide (d.ords.length<d.ords.length)=false:=by simp
   clear hx hj hok
   go_wp2
   go_ret2
   rw [HR.out]
   exact methPost_bad (E:=131) (by decide) rfl (grown_ext (HX.out.trans HX2.out) (some b))
