/- Parts of the proofs, put together: OrT19, OrT24, OrT13, OrT14, OrT15. -/
import Derived.Test.YtbhdmfijdhcehaaGreatDoorP21
import Derived.Test.YtbhdmfijdhcehaaGreatDoorP24
import Derived.Test.YtbhdmfijdhcehaaGreatDoorP25
import Derived.Test.YtbhdmfijdhcehaaGreatDoorP26
set_option maxRecDepth 100000
set_option maxHeartbeats 64000000
namespace Go.Proofs.YtbhdmfijdhcehaaGreatDoor
open Go.RowKit Go.Shelf Go.Maps
set_option linter.unusedSimpArgs false
set_option linter.unusedVariables false
theorem bv_cell (l:List Nat):∀ u∈bv l,u.oneCell'=true:=by
 intro u hu
 simp only [bv,List.mem_map] at hu
 obtain ⟨x,_,rfl⟩:=hu
 rfl
theorem rBytes_any (q:QueR) (A:Option Addr) (c:Nat) (w:World) (hq:QueW w w.heap.size q A c):Calls Tryz.prog 15 #[queV q A c] w (bytPost q w):=by
 unfold queV
 obtain ⟨W0,e0⟩:∃ W,w.alloc (.cells #[.int .i64 q.kind,.int .i64 q.acc,.int .i64 q.nonce,.int .u64 (q.key:Int),.slice A q.names.length c,.int .i64 q.life,.int .i64 q.id,.int .u64 (q.e:Int),.int .u64 (q.s:Int)] 27)=W:=⟨_,rfl⟩
 have HQ:=Lib.hid hq
 have HX0:Hid (Ext w W0):=Lib.hid (by rw [← e0];exact (Ext.refl w).alloc _)
 have HBQ:Hid (Blk W0 w.heap.size 27 #[.int .i64 q.kind,.int .i64 q.acc,.int .i64 q.nonce,.int .u64 (q.key:Int),.slice A q.names.length c,.int .i64 q.life,.int .i64 q.id,.int .u64 (q.e:Int),.int .u64 (q.s:Int)]):=Lib.hid (by rw [← e0];exact Blk.new _ _ _)
 have hnl:(q.names.length:Int)≤1099511627776:=by have:=hq.nl;omega
 obtain ⟨k0,k1,k2,k3,k4,k5,k6,k7,k8⟩:=arr9 HBQ.out
 obtain ⟨i0,hi,hz0,hz1,hz2⟩:=info_parts Tryz.infoU8
 have cA:=rnum_any q.acc
 have cB:=rnum_any q.nonce
 have cC:=rnum_any q.life
 have cD:=rnum_any q.id
 clear hq
 go_enter Tryz.func15,Tryz.ntmps15
 go_upto_region 1 with (fail)
 try rw [e0]
 clear e0
 by_cases g0:1≤q.kind
 case neg =>
  have hno:=Lib.hid (show ¬ (headP q∧∀ s∈q.names,s.size≤64) from fun h=>g0 h.1.1)
  have d0:decide (q.kind<1)=true:=decide_eq_true (by omega)
  clear g0
  go_wp2_with (first|(go_at_call 43;refine (cA _).mono ?_;clear cA;rintro e w5 ⟨rfl,rfl⟩)|(go_at_call 43;refine (cB _).mono ?_;clear cB;rintro e w5 ⟨rfl,rfl⟩)|(go_at_call 43;refine (cC _).mono ?_;clear cC;rintro e w5 ⟨rfl,rfl⟩)|(go_at_call 43;refine (cD _).mono ?_;clear cD;rintro e w5 ⟨rfl,rfl⟩))
  refine bodyPost_ret (v:=.tuple #[.slice none 0 0,.int .i64 1]) (by simp [results,Tryz.results15,go_sem]) rfl (bytPost_no hno.out HX0.out)
 have d0:decide (q.kind<1)=false:=decide_eq_false (by omega)
 by_cases g1:q.kind≤5
 case neg =>
  have hno:=Lib.hid (show ¬ (headP q∧∀ s∈q.names,s.size≤64) from fun h=>g1 h.1.2.1)
  have d1:decide (5<q.kind)=true:=decide_eq_true (by omega)
  clear g0 g1
  go_wp2_with (first|(go_at_call 43;refine (cA _).mono ?_;clear cA;rintro e w5 ⟨rfl,rfl⟩)|(go_at_call 43;refine (cB _).mono ?_;clear cB;rintro e w5 ⟨rfl,rfl⟩)|(go_at_call 43;refine (cC _).mono ?_;clear cC;rintro e w5 ⟨rfl,rfl⟩)|(go_at_call 43;refine (cD _).mono ?_;clear cD;rintro e w5 ⟨rfl,rfl⟩))
  refine bodyPost_ret (v:=.tuple #[.slice none 0 0,.int .i64 1]) (by simp [results,Tryz.results15,go_sem]) rfl (bytPost_no hno.out HX0.out)
 have d1:decide (5<q.kind)=false:=decide_eq_false (by omega)
 by_cases g2:numP q.acc
 case neg =>
  have hno:=Lib.hid (show ¬ (headP q∧∀ s∈q.names,s.size≤64) from fun h=>g2 h.1.2.2.2.1)
  rw [show decide (numP q.acc)=false from decide_eq_false g2] at cA
  clear g0 g1 g2
  go_wp2_with (first|(go_at_call 43;refine (cA _).mono ?_;clear cA;rintro e w5 ⟨rfl,rfl⟩)|(go_at_call 43;refine (cB _).mono ?_;clear cB;rintro e w5 ⟨rfl,rfl⟩)|(go_at_call 43;refine (cC _).mono ?_;clear cC;rintro e w5 ⟨rfl,rfl⟩)|(go_at_call 43;refine (cD _).mono ?_;clear cD;rintro e w5 ⟨rfl,rfl⟩))
  refine bodyPost_ret (v:=.tuple #[.slice none 0 0,.int .i64 1]) (by simp [results,Tryz.results15,go_sem]) rfl (bytPost_no hno.out HX0.out)
 rw [show decide (numP q.acc)=true from decide_eq_true g2] at cA
 by_cases g3:numP q.nonce
 case neg =>
  have hno:=Lib.hid (show ¬ (headP q∧∀ s∈q.names,s.size≤64) from fun h=>g3 h.1.2.2.2.2.1)
  rw [show decide (numP q.nonce)=false from decide_eq_false g3] at cB
  clear g0 g1 g2 g3
  go_wp2_with (first|(go_at_call 43;refine (cA _).mono ?_;clear cA;rintro e w5 ⟨rfl,rfl⟩)|(go_at_call 43;refine (cB _).mono ?_;clear cB;rintro e w5 ⟨rfl,rfl⟩)|(go_at_call 43;refine (cC _).mono ?_;clear cC;rintro e w5 ⟨rfl,rfl⟩)|(go_at_call 43;refine (cD _).mono ?_;clear cD;rintro e w5 ⟨rfl,rfl⟩))
  refine bodyPost_ret (v:=.tuple #[.slice none 0 0,.int .i64 1]) (by simp [results,Tryz.results15,go_sem]) rfl (bytPost_no hno.out HX0.out)
 rw [show decide (numP q.nonce)=true from decide_eq_true g3] at cB
 by_cases g4:numP q.life
 case neg =>
  have hno:=Lib.hid (show ¬ (headP q∧∀ s∈q.names,s.size≤64) from fun h=>g4 h.1.2.2.2.2.2.1)
  rw [show decide (numP q.life)=false from decide_eq_false g4] at cC
  clear g0 g1 g2 g3 g4
  go_wp2_with (first|(go_at_call 43;refine (cA _).mono ?_;clear cA;rintro e w5 ⟨rfl,rfl⟩)|(go_at_call 43;refine (cB _).mono ?_;clear cB;rintro e w5 ⟨rfl,rfl⟩)|(go_at_call 43;refine (cC _).mono ?_;clear cC;rintro e w5 ⟨rfl,rfl⟩)|(go_at_call 43;refine (cD _).mono ?_;clear cD;rintro e w5 ⟨rfl,rfl⟩))
  refine bodyPost_ret (v:=.tuple #[.slice none 0 0,.int .i64 1]) (by simp [results,Tryz.results15,go_sem]) rfl (bytPost_no hno.out HX0.out)
 rw [show decide (numP q.life)=true from decide_eq_true g4] at cC
 by_cases g5:numP q.id
 case neg =>
  have hno:=Lib.hid (show ¬ (headP q∧∀ s∈q.names,s.size≤64) from fun h=>g5 h.1.2.2.2.2.2.2)
  rw [show decide (numP q.id)=false from decide_eq_false g5] at cD
  clear g0 g1 g2 g3 g4 g5
  go_wp2_with (first|(go_at_call 43;refine (cA _).mono ?_;clear cA;rintro e w5 ⟨rfl,rfl⟩)|(go_at_call 43;refine (cB _).mono ?_;clear cB;rintro e w5 ⟨rfl,rfl⟩)|(go_at_call 43;refine (cC _).mono ?_;clear cC;rintro e w5 ⟨rfl,rfl⟩)|(go_at_call 43;refine (cD _).mono ?_;clear cD;rintro e w5 ⟨rfl,rfl⟩))
  refine bodyPost_ret (v:=.tuple #[.slice none 0 0,.int .i64 1]) (by simp [results,Tryz.results15,go_sem]) rfl (bytPost_no hno.out HX0.out)
 rw [show decide (numP q.id)=true from decide_eq_true g5] at cD
 by_cases g6:q.names.length≤8
 case neg =>
  have hno:=Lib.hid (show ¬ (headP q∧∀ s∈q.names,s.size≤64) from fun h=>g6 h.1.2.2.1)
  have d6:decide ((8:Int)<(q.names.length:Int))=true:=decide_eq_true (by omega)
  clear g0 g1 g2 g3 g4 g5 g6
  go_wp2_with (first|(go_at_call 43;refine (cA _).mono ?_;clear cA;rintro e w5 ⟨rfl,rfl⟩)|(go_at_call 43;refine (cB _).mono ?_;clear cB;rintro e w5 ⟨rfl,rfl⟩)|(go_at_call 43;refine (cC _).mono ?_;clear cC;rintro e w5 ⟨rfl,rfl⟩)|(go_at_call 43;refine (cD _).mono ?_;clear cD;rintro e w5 ⟨rfl,rfl⟩))
  refine bodyPost_ret (v:=.tuple #[.slice none 0 0,.int .i64 1]) (by simp [results,Tryz.results15,go_sem]) rfl (bytPost_no hno.out HX0.out)
 have d6:decide ((8:Int)<(q.names.length:Int))=false:=decide_eq_false (by omega)
 have hh:headP q:=⟨g0,g1,g6,g2,g3,g4,g5⟩
 have HH:=Lib.hid hh
 clear hh g0 g1 g2 g3 g4 g5 g6
 go_upto_region 3 with (first|(go_at_call 43;refine (cA _).mono ?_;clear cA;rintro e w5 ⟨rfl,rfl⟩)|(go_at_call 43;refine (cB _).mono ?_;clear cB;rintro e w5 ⟨rfl,rfl⟩)|(go_at_call 43;refine (cC _).mono ?_;clear cC;rintro e w5 ⟨rfl,rfl⟩)|(go_at_call 43;refine (cD _).mono ?_;clear cD;rintro e w5 ⟨rfl,rfl⟩))
 obtain ⟨z1,z2,z3,z4,z5,z6,z7⟩:=id HH.out
 obtain ⟨nk,hk⟩:∃ k:Nat,q.kind=k:=⟨q.kind.toNat,by omega⟩
 obtain ⟨na,ha⟩:∃ k:Nat,q.acc=k:=⟨q.acc.toNat,by have:=z4.1;omega⟩
 obtain ⟨nn,hn⟩:∃ k:Nat,q.nonce=k:=⟨q.nonce.toNat,by have:=z5.1;omega⟩
 obtain ⟨nf,hf⟩:∃ k:Nat,q.life=k:=⟨q.life.toNat,by have:=z6.1;omega⟩
 obtain ⟨ni,hi_⟩:∃ k:Nat,q.id=k:=⟨q.id.toNat,by have:=z7.1;omega⟩
 have w1:IntKind.u64.wrap (nk:Int)=(nk:Int):=by rw [IntKind.wrap_u64];omega
 have w2:IntKind.u64.wrap (na:Int)=(na:Int):=by rw [IntKind.wrap_u64];have:=z4.2;omega
 have w3:IntKind.u64.wrap (nn:Int)=(nn:Int):=by rw [IntKind.wrap_u64];have:=z5.2;omega
 have w4:IntKind.u64.wrap (nf:Int)=(nf:Int):=by rw [IntKind.wrap_u64];have:=z6.2;omega
 have w5:IntKind.u64.wrap (ni:Int)=(ni:Int):=by rw [IntKind.wrap_u64];have:=z7.2;omega
 have w6:IntKind.u64.wrap (q.names.length:Int)=(q.names.length:Int):=by rw [IntKind.wrap_u64];omega
 have hall:∀ x∈[nk,na,nn,q.key,nf,ni,q.names.length],x<18446744073709551616:=by
  have h4:=z4.2
  have h5:=z5.2
  have h6:=z6.2
  have h7:=z7.2
  have hk:=HQ.out.key
  intro x hx
  simp only [List.mem_cons,List.not_mem_nil,or_false] at hx
  rcases hx with rfl|rfl|rfl|rfl|rfl|rfl|rfl <;> omega
 rw [hk] at k0
 rw [ha] at k1
 rw [hn] at k2
 rw [hf] at k5
 rw [hi_] at k6
 have HK:=Lib.hid (And.intro hk (And.intro ha (And.intro hn (And.intro hf hi_))))
 have HALL:=Lib.hid hall
 clear z1 z2 z3 z4 z5 z6 z7 hk ha hn hf hi_ hall d0 d1 d6
 go_upto_region 4 with (fail)
 obtain ⟨uvl,huvl⟩:∃ l,l=[nk,na,nn,q.key,nf,ni,q.names.length]:=⟨_,rfl⟩
 have hul:uvl.length=7:=by rw [huvl];rfl
 obtain ⟨W1,e2⟩:∃ W,W0.alloc (.cells #[.int .u64 (nk:Int),.int .u64 (na:Int),.int .u64 (nn:Int),.int .u64 (q.key:Int),.int .u64 (nf:Int),.int .u64 (ni:Int),.int .u64 (q.names.length:Int)] 22)=W:=⟨_,rfl⟩
 try rw [e2]
 have HX1:Hid (Ext W0 W1):=Lib.hid (by rw [← e2];exact (Ext.refl W0).alloc _)
 have HB7:Hid (Blk W1 W0.heap.size 22 (uv uvl).toArray):=Lib.hid (by rw [← e2,huvl];exact Blk.new _ _ _)
 rw [← huvl] at HALL
 have HUV:=Lib.hid huvl
 have HUL:=Lib.hid hul
 clear e2 huvl hul k0 k1 k2 k3 k4 k5 k6 k7 k8 w1 w2 w3 w4 w5 w6
 go_upto_region 6 with (fail)
 obtain ⟨W2,e3⟩:∃ W,W1.alloc (.cells #[] 5)=W:=⟨_,rfl⟩
 try rw [e3]
 have HX2:Hid (Ext W1 W2):=Lib.hid (by rw [← e3];exact (Ext.refl W1).alloc _)
 have HO2:Hid (W2.ownsRow W1.heap.size 5 1 (.slice (some ⟨W1.heap.size,0,none⟩) 0 0) 0 []):=Lib.hid (by rw [← e3];exact own_empty W1 _ _ rfl (Nat.le_refl _) _ _)
 clear e3
 go_loopg [5,6] 7 (fun g s5 s6 wr=>∃ (j:Nat) (v:Value),j+g=7∧s5=v∧s6=.int .i64 j∧wr.ownsRow W1.heap.size 5 1 v ((uvl.take j).flatMap (bigD 8)).length (bv ((uvl.take j).flatMap (bigD 8)))∧Ext W1 wr)
 case atStart=>exact ⟨0,_,rfl,rfl,rfl,by simpa [bv] using HO2.out,HX2.out⟩
 case round =>
  obtain ⟨j,v,hj,hv,rfl,ho,hx⟩:=hrel
  rw [hv]
  clear hv
  by_cases hjl:j<7
  ·obtain ⟨x,hxx⟩:∃ x,uvl[j]?=some x:=⟨_,List.getElem?_eq_getElem (by have:=HUL.out;omega)⟩
   have p1:=uv_at (ext_blk hx HB7.out) hxx
   have hjb:(j:Int)<7:=by omega
   obtain ⟨L,hL⟩:∃ L,L=(uvl.take j).flatMap (bigD 8):=⟨_,rfl⟩
   have hfl:L.length≤56:=by
    rw [hL,fm_len8,List.length_take];omega
   rw [← hL] at ho
   have HE:Hid ((uvl.take (j+1)).flatMap (bigD 8)=L++bigD 8 x):=Lib.hid (by rw [hL,tk_snoc hxx,List.flatMap_append];simp)
   have HJ:=Lib.hid hj
   have HX:=Lib.hid hx
   have HO:=Lib.hid ho
   have HLB:=Lib.hid hfl
   have cE:=reight_any x (HALL.out x (List.mem_of_getElem? hxx))
   clear hxx hj hx ho hfl hL
   go_wp2_with (first|(go_at_call 44;refine (cE _).mono ?_;clear cE;rintro e w5 ⟨v5,rfl,ho5,x5⟩;obtain ⟨A5,c5,rfl,-,hr5⟩:=own_slice2 ho5;have HR5:=Lib.hid hr5;have X5:=Lib.hid x5;clear ho5 x5 hr5)|(at_builtin;refine wpList_append_any _ rfl (.tmp 75) (.tmp 80) 30 rfl W1.heap.size 5 i0 (.int .u8 0) 1 1 Tryz.underlying30 hi hz0 hz1 hz2 rfl (by decide) v L.length (bv L) rfl (own_ext HO.out X5.out) _ A5 8 c5 (bv (bigD 8 x)) rfl (HR5.out) (bv_cell _) (by have:=HLB.out;simp only [maxLen];omega) (by have:=HLB.out;omega) (by have:=HX.out.size;have:=X5.out.size;omega) ?_;intro v9 w9 hown9 hg9 _;have HX9:=Lib.hid (show Ext W1 w9 from ext_grown (HX.out.trans X5.out) (own_ext HO.out X5.out) hg9);have HO9:=Lib.hid hown9;clear hown9 hg9))
   have hj:=HJ.out
   go_roundg (gk-1)
   case measure=>omega
   case rel =>
    refine ⟨j+1,_,by omega,rfl,int_congr (by omega),?_,HX9.out⟩
    rw [HE.out,bv_append,List.length_append,bigD_length]
    exact HO9.out
  ·obtain rfl:j=7:=by omega
   rw [List.take_of_length_le (by have:=HUL.out;omega)] at ho
   have hpre:uvl.flatMap (bigD 8)++namesB q.names=byteL q:=by
    obtain ⟨e1,e2,e3,e4,e5⟩:=HK.out
    unfold byteL eightI
    rw [HUV.out,e1,e2,e3,e4,e5]
    simp
   have hpl:(uvl.flatMap (bigD 8)).length=56:=by rw [HUV.out];simp [bigD_length]
   obtain ⟨P,hP⟩:∃ P,P=uvl.flatMap (bigD 8):=⟨_,rfl⟩
   rw [← hP] at ho hpre hpl
   have HPR:=Lib.hid hpre
   have HPL:=Lib.hid hpl
   have HO:=Lib.hid ho
   have HX:=Lib.hid hx
   clear ho hx hj hjl hP hpre hpl
   go_upto_region 10 with (fail)
   go_loopg [5,7] q.names.length (fun g s5 s7 wr=>∃ (j:Nat) (v:Value),j+g=q.names.length∧s5=v∧s7=.int .i64 j∧wr.ownsRow W1.heap.size 5 1 v (P++namesB (q.names.take j)).length (bv (P++namesB (q.names.take j)))∧Ext W1 wr∧∀ s∈q.names.take j,s.size≤64)
   case atStart=>exact ⟨0,_,by omega,rfl,rfl,by simpa [namesB] using HO.out,HX.out,by simp⟩
   case round =>
    clear HO HX
    obtain ⟨j,v,hj,hv,rfl,ho,hx,hok⟩:=hrel
    rw [hv]
    clear hv
    have hxw:=HX0.out.trans (HX1.out.trans hx)
    have hjb:(j:Int)≤1099511627776:=by have:=HQ.out.nl;omega
    have k4:=(ext_blk (HX1.out.trans hx) HBQ.out).cell 4
    by_cases hjl:j<q.names.length
    ·obtain ⟨s,hs⟩:∃ s,q.names[j]?=some s:=⟨_,List.getElem?_eq_getElem hjl⟩
     obtain ⟨ad,hA,p1⟩:=reads_text (HQ.out.ext hxw).names hs
     have hA':=hA
     subst hA
     have hjl':(j:Int)<(q.names.length:Int):=by omega
     by_cases h64:s.size≤64
     ·have hlB:(P++namesB (q.names.take j)).length≤1000:=by
       have:=namesB_len hok
       rw [List.length_append,HPL.out]
       rw [List.length_take] at this
       have:=HH.out.2.2.1
       omega
      have d1:decide ((64:Int)<(s.size:Int))=false:=decide_eq_false (by omega)
      have w1:IntKind.u64.wrap (s.size:Int)=(s.size:Int):=by rw [IntKind.wrap_u64];omega
      obtain ⟨L,hL⟩:∃ L,L=P++namesB (q.names.take j):=⟨_,rfl⟩
      rw [← hL] at ho hlB
      have HE:Hid (P++namesB (q.names.take (j+1))=(L++bigD 8 s.size)++txN s):=Lib.hid (by
       rw [hL,tk_snoc hs,namesB_append]
       simp [namesB,eightI])
      have HOK:Hid (∀ x∈q.names.take (j+1),x.size≤64):=Lib.hid (by
       rw [tk_snoc hs]
       intro x hx
       rcases List.mem_append.1 hx with hx|hx
       ·exact hok x hx
       ·rw [List.mem_singleton] at hx;subst hx;exact h64)
      have HS64:=Lib.hid h64
      have HJ:=Lib.hid hj
      have HX:=Lib.hid hx
      have HO:=Lib.hid ho
      have HLB:=Lib.hid hlB
      have HS:=Lib.hid hs
      have cE:=reight_any s.size (by omega)
      clear hs hj hx ho hok h64 hlB hL hxw
      go_upto_region 15 with (first|(go_at_call 44;refine (cE _).mono ?_;clear cE;rintro e w5 ⟨v5,rfl,ho5,x5⟩;obtain ⟨A5,c5,rfl,-,hr5⟩:=own_slice2 ho5;have HR5:=Lib.hid hr5;have X5:=Lib.hid x5;have k4:=(ext_blk (HX1.out.trans (HX.out.trans x5)) HBQ.out).cell 4;clear ho5 x5 hr5)|(at_builtin;refine wpList_append_any _ rfl (.tmp 96) (.tmp 104) 30 rfl W1.heap.size 5 i0 (.int .u8 0) 1 1 Tryz.underlying30 hi hz0 hz1 hz2 rfl (by decide) v L.length (bv L) rfl (own_ext HO.out X5.out) _ A5 8 c5 (bv (bigD 8 s.size)) rfl (HR5.out) (bv_cell _) (by have:=HLB.out;simp only [maxLen];omega) (by have:=HLB.out;omega) (by have:=HX.out.size;have:=X5.out.size;omega) ?_;intro v9 w9 hown9 hg9 _;have HX9:=Lib.hid (show Ext W1 w9 from ext_grown (HX.out.trans X5.out) (own_ext HO.out X5.out) hg9);have HO9:=Lib.hid hown9;clear hown9 hg9))
      have k4:=(ext_blk (HX1.out.trans HX9.out) HBQ.out).cell 4
      obtain ⟨ad2,hA2,p2⟩:=reads_text (HQ.out.ext (HX0.out.trans (HX1.out.trans HX9.out))).names HS.out
      cases hA2
      have hv9:v9≠.slice none 0 0:=by
       obtain ⟨g,cap,e,_⟩:=HO9.out.form (by omega)
       rw [e]
       intro h
       cases h
      clear p1
      go_wp2_with (at_builtin;refine wpList_append_own_src _ rfl (.tmp 106) (.tmp 111) 30 9 rfl W1.heap.size 5 i0 (.int .u8 0) 1 1 Tryz.underlying30 hi hz0 hz1 hz2 rfl v9 (L.length+8) (bv L++bv (bigD 8 s.size)) rfl HO9.out (.string s) s.size (byteCells s) rfl (Src.ofString _ Tryz.underlying9 s) (by have:=HS64.out;have:=HLB.out;simp only [maxLen];omega) (by have:=HS64.out;have:=HLB.out;omega) (by have:=HX9.out.size;omega) hv9 ?_;intro v6 w6 hown6 hg6 _;have HX6:=Lib.hid (show Ext W1 w6 from ext_grown HX9.out HO9.out hg6);have HO6:=Lib.hid hown6;clear hown6 hg6)
      have hj:=HJ.out
      go_roundg (gk-1)
      case measure=>omega
      case rel =>
       refine ⟨j+1,_,by omega,rfl,int_congr (by omega),?_,HX6.out,HOK.out⟩
       have e1:(txN s).length=s.size:=strN_length s
       have e6:=HO6.out
       rw [byteCells_strN] at e6
       rw [HE.out,bv_append,bv_append,List.length_append,List.length_append,bigD_length,e1]
       exact e6
     ·have hno:Hid (¬ (headP q∧∀ s∈q.names,s.size≤64)):=Lib.hid fun h=>h64 (h.2 s (List.mem_of_getElem? hs))
      have d1:decide ((64:Int)<(s.size:Int))=true:=decide_eq_true (by omega)
      have HXW:=Lib.hid hxw
      clear hs hj hok h64 hxw ho hx
      go_wp2
      refine bodyPost_ret (v:=.tuple #[.slice none 0 0,.int .i64 1]) (by simp [results,Tryz.results15,go_sem]) rfl (bytPost_no hno.out HXW.out)
    ·obtain rfl:j=q.names.length:=by omega
     rw [List.take_length] at ho hok
     rw [HPR.out] at ho
     have hbe:byteE q=0:=by unfold byteE;rw [if_pos ⟨HH.out,hok⟩]
     have HO:=Lib.hid ho
     have HXW:=Lib.hid hxw
     have HBE:=Lib.hid hbe
     clear hok hj hjl hxw ho hx hbe
     go_wp2
     refine bodyPost_ret (v:=.tuple #[v,.int .i64 0]) (by simp [results,Tryz.results15,go_sem]) rfl ⟨v,by rw [HBE.out];rfl,?_,HXW.out⟩
     rw [show bytR q=byteL q by unfold bytR;rw [HBE.out];rfl]
     exact own_base HO.out (HX0.out.trans HX1.out).size
def numF (p:AutR→Bool) (l:List AutR) (k:Nat):Nat:=match (l.drop k).findIdx? p with|some i=>k+i+1|none=>0
theorem numF_end (p:AutR→Bool) (l:List AutR):numF p l l.length=0:=by simp [numF]
theorem numF_yes {p:AutR→Bool} {l:List AutR} {k:Nat} {x:AutR} (h:l[k]?=some x) (hp:p x=true):numF p l k=k+1:=by
 obtain ⟨hk,rfl⟩:=List.getElem?_eq_some_iff.1 h
 unfold numF
 rw [List.drop_eq_getElem_cons hk,List.findIdx?_cons,hp]
 rfl
theorem numF_no {p:AutR→Bool} {l:List AutR} {k:Nat} {x:AutR} (h:l[k]?=some x) (hp:p x=false):numF p l k=numF p l (k+1):=by
 obtain ⟨hk,rfl⟩:=List.getElem?_eq_some_iff.1 h
 unfold numF
 rw [List.drop_eq_getElem_cons hk,List.findIdx?_cons,hp]
 cases (l.drop (k+1)).findIdx? p with
 | none=>rfl
 | some i=>simp only [Bool.false_eq_true,if_false,Option.map_some];omega
theorem numF_some {l:List AutR} {acc now:Int} {s:ByteArray} {i:Nat} (h:findA l acc s now=some i):numF (sameA acc now s) l 0=i+1:=by
 unfold numF
 rw [List.drop_zero,show l.findIdx? (sameA acc now s)=some i from h]
 simp only [Nat.zero_add]
theorem numF_none {l:List AutR} {acc now:Int} {s:ByteArray} (h:findA l acc s now=none):numF (sameA acc now s) l 0=0:=by
 unfold numF
 rw [List.drop_zero,show l.findIdx? (sameA acc now s)=none from h]
structure RSt (W1:World) (B0 g:Nat) (n0:Int) (q:QueR) (nA:Option Addr) (nc:Nat) (L:List AutR) (ns:List Int) (uA:Option Addr) (uc:Nat) (aA:Option Addr) (ac:Nat) (wr:World):Prop where
 but:But g g W1 wr
 nam:wr.ownsRow B0 9 1 (.slice nA q.names.length nc) q.names.length (tv q.names)
 own:wr.ownsRow W1.heap.size 69 7 (.slice uA L.length uc) L.length (autV L)
 ord:Blk wr g 78 #[.int .i64 n0,.int .i64 q.acc,.slice nA q.names.length nc,.int .u64 (q.key:Int),.int .i64 q.life,.slice aA ns.length ac,.int .i64 1,.int .i64 0]
 num:wr.ownsRow W1.heap.size 3 1 (.slice aA ns.length ac) ns.length (iv ns)
section
variable {W1:World} {B0 g:Nat} {n0:Int} {q:QueR} {nA:Option Addr} {nc:Nat} {L:List AutR} {ns:List Int} {uA:Option Addr} {uc:Nat} {aA:Option Addr} {ac:Nat} {wr wr':World}
theorem RSt.ext (h:RSt W1 B0 g n0 q nA nc L ns uA uc aA ac wr) (x:Ext wr wr'):RSt W1 B0 g n0 q nA nc L ns uA uc aA ac wr' :=
 ⟨h.but.ext x,own_ext h.nam x,own_ext h.own x,ext_blk x h.ord,own_ext h.num x⟩
theorem RSt.out {w:World} (h:RSt W1 B0 g n0 q nA nc L ns uA uc aA ac wr) (X:Ext w W1) (hg:w.heap.size≤g):Ext w wr :=
 Ext.of (X.out.grown (⟨h.but.os,h.but.tape,h.but.output,h.but.size,fun k hk hr=>h.but.block k hk (by simpa using hr) (by simpa using hr)⟩:W1.grownBy wr (some g)) X.size (fun k hk=>by cases hk;exact hg))
theorem RSt.addN (h:RSt W1 B0 g n0 q nA nc L ns uA uc aA ac wr) (hg:g<W1.heap.size) {v:Value} (n:Int) (ho:wr'.ownsRow W1.heap.size 3 1 v (ns.length+1) (iv ns++[.int .i64 n])) (hgr:wr.grownBy wr' (Value.slice aA ns.length ac).ownBlock) :
  Blk wr' g 78 #[.int .i64 n0,.int .i64 q.acc,.slice nA q.names.length nc,.int .u64 (q.key:Int),.int .i64 q.life,.slice aA ns.length ac,.int .i64 1,.int .i64 0]∧∃ A c,v=.slice A (ns.length+1) c∧RSt W1 B0 g n0 q nA nc L (ns++[n]) uA uc A c (wr'.setCell ⟨g,5,none⟩ (.slice A (ns.length+1) c)):=by
 have ho6:Blk wr' g 78 #[.int .i64 n0,.int .i64 q.acc,.slice nA q.names.length nc,.int .u64 (q.key:Int),.int .i64 q.life,.slice aA ns.length ac,.int .i64 1,.int .i64 0]:=Blk.grown h.ord hgr (own_apart h.num hg)
 obtain ⟨A,c,rfl,hc,-⟩:=own_slice2 ho
 have hl:(ns++[n]).length=ns.length+1:=by simp
 refine ⟨ho6,A,c,rfl,(h.but.grown hgr (own_out h.num)).set (.inl rfl) _,own_setT (h.nam.kept hgr (own_ne h.nam h.num (by decide))) ho6 (by decide) 5 _,own_far (h.own.kept hgr (own_ne h.own h.num (by decide))) hg 5 _,?_,?_⟩
 ·have:=ho6.set_ 5 (.slice A (ns.length+1) c)
  rw [hl]
  exact this
 ·rw [hl,iv_append]
  exact own_far ho hg 5 _
theorem RSt.addU (h:RSt W1 B0 g n0 q nA nc L ns uA uc aA ac wr) (hg:g<W1.heap.size) {v:Value} (x:AutR) (ho:wr'.ownsRow W1.heap.size 69 7 v (L.length+1) (autV L++[.int .i64 x.id,.int .i64 x.acc,.string x.name,.string x.tok,.int .i64 x.st,.int .i64 x.fr,.int .i64 x.un])) (hgr:wr.grownBy wr' (Value.slice uA L.length uc).ownBlock) :
  ∃ A c,v=.slice A (L++[x]).length c∧RSt W1 B0 g n0 q nA nc (L++[x]) ns A c aA ac wr':=by
 obtain ⟨A,c,rfl,hc,-⟩:=own_slice2 ho
 have hl:(L++[x]).length=L.length+1:=by simp
 refine ⟨A,c,by rw [hl],h.but.grown hgr (own_out h.own),h.nam.kept hgr (own_ne h.nam h.own (by decide)),?_,Blk.grown h.ord hgr (own_apart h.own hg),h.num.kept hgr (own_ne h.num h.own (by decide))⟩
 rw [hl,autV_append]
 exact ho
end
def ordSt (W1:World) (B0 g:Nat) (d:DoorX) (now:Int) (q:QueR) (nA:Option Addr) (nc:Nat) (j:Nat) (s10:Value) (wr:World):Prop :=
 ∃ L ns uA uc aA ac,(q.names.take j).foldl (wantA q.acc now) (d.auts,[])=(L,ns)∧s10=.slice uA L.length uc∧RSt W1 B0 g ((d.ords.length:Int)+1) q nA nc L ns uA uc aA ac wr ∧
  L.length≤d.auts.length+j∧(∀ x∈L,AutW x)∧(∀ n∈ns,1≤n∧n≤L.length)∧ns.length=j
theorem ordSt_old {W1:World} {B0 g:Nat} {d:DoorX} {now:Int} {q:QueR} {nA:Option Addr} {nc j:Nat} {s:ByteArray} {L:List AutR} {ns:List Int} {uA:Option Addr} {uc:Nat} {aA:Option Addr} {ac i:Nat} {w':World} (hs:q.names[j]?=some s)
  (hfo:(q.names.take j).foldl (wantA q.acc now) (d.auts,[])=(L,ns)) (hLl:L.length≤d.auts.length+j) (hLw:∀ x∈L,AutW x) (hns:∀ n∈ns,1≤n∧n≤L.length) (hnl:ns.length=j)
  (hf:findA L q.acc s now=some i) (h:RSt W1 B0 g ((d.ords.length:Int)+1) q nA nc L (ns++[(i:Int)+1]) uA uc aA ac w'):ordSt W1 B0 g d now q nA nc (j+1) (.slice uA L.length uc) w':=by
 have hil:i<L.length:=(List.findIdx?_eq_some_iff_getElem.1 hf).1
 refine ⟨L,ns++[(i:Int)+1],uA,uc,aA,ac,by rw [tk_snoc hs,List.foldl_append,hfo];exact wantA_some hf,rfl,h,by omega,hLw,fun n hn=>?_,by simp [hnl]⟩
 rcases List.mem_append.1 hn with hn|hn
 ·exact hns n hn
 ·rw [List.mem_singleton] at hn;subst hn;omega
theorem ordSt_new {W1:World} {B0 g:Nat} {d:DoorX} {now:Int} {q:QueR} {nA:Option Addr} {nc j:Nat} {s:ByteArray} {L:List AutR} {ns:List Int} {uA:Option Addr} {uc:Nat} {aA:Option Addr} {ac:Nat} {w':World} (hs:q.names[j]?=some s)
  (hfo:(q.names.take j).foldl (wantA q.acc now) (d.auts,[])=(L,ns)) (hLl:L.length≤d.auts.length+j) (hLw:∀ x∈L,AutW x) (hns:∀ n∈ns,1≤n∧n≤L.length) (hnl:ns.length=j)
  (hf:findA L q.acc s now=none) (hL:L.length<99) (ha:0≤q.acc∧q.acc<100) (hsz:s.size≤140737488355328) (h:RSt W1 B0 g ((d.ords.length:Int)+1) q nA nc (L++[newA L.length q.acc s]) (ns++[(L.length:Int)+1]) uA uc aA ac w'):ordSt W1 B0 g d now q nA nc (j+1) (.slice uA (L++[newA L.length q.acc s]).length uc) w':=by
 have hl:(L++[newA L.length q.acc s]).length=L.length+1:=by simp
 refine ⟨L++[newA L.length q.acc s],ns++[(L.length:Int)+1],uA,uc,aA,ac,by rw [tk_snoc hs,List.foldl_append,hfo];exact wantA_none hf,rfl,h,by omega,fun x hx=>?_,fun n hn=>?_,by simp [hnl]⟩
 ·rcases List.mem_append.1 hx with hx|hx
  ·exact hLw x hx
  ·rw [List.mem_singleton] at hx;subst hx;exact newA_w hL ha hsz
 ·rw [hl]
  rcases List.mem_append.1 hn with hn|hn
  ·have:=hns n hn;omega
  ·rw [List.mem_singleton] at hn;subst hn;omega
theorem want_fin {w w9:World} {B0 B1 B2:Nat} {d:DoorX} {now:Int} {q:QueR} {A nA:Option Addr} {c nc:Nat} {L:List AutR} {ns:List Int} {uA:Option Addr} {uc:Nat} {aA:Option Addr} {ac:Nat} {A9:Option Addr} {c9:Nat}
  (hW:DoorW w w.heap.size d) (hq:QueW w w.heap.size q A c) (X:Ext w w9)
  (hn:w9.ownsRow B0 9 1 (.slice nA q.names.length nc) q.names.length (tv q.names)) (hu:w9.ownsRow B1 69 7 (.slice uA L.length uc) L.length (autV L)) (hm:w9.ownsRow B1 3 1 (.slice aA ns.length ac) ns.length (iv ns))
  (ho:w9.ownsRow B2 78 8 (.slice A9 (d.ords.length+1) c9) (d.ords.length+1) (ordV d.ords++[.int .i64 ((d.ords.length:Int)+1),.int .i64 q.acc,.slice nA q.names.length nc,.int .u64 (q.key:Int),.int .i64 q.life,.slice aA ns.length ac,.int .i64 1,.int .i64 0]))
  (hB0:w.heap.size≤B0) (hB1:w.heap.size≤B1) (hB2:w.heap.size≤B2)
  (hfo:q.names.foldl (wantA q.acc now) (d.auts,[])=(L,ns)) (hLl:L.length≤d.auts.length+q.names.length) (hLw:∀ x∈L,AutW x) (hns:∀ n∈ns,1≤n∧n≤L.length) (hnl:ns.length=q.names.length) (hlen:d.auts.length+q.names.length<99) (hol:d.ords.length<100) :
  outD d (wantF d.fro q now) w (.returned (.tuple #[.agg #[.int .i64 d.next,.slice d.oA d.opn.length d.oc,.slice d.cA d.accs.length d.cc,.slice uA L.length uc,.slice A9 (d.ords.length+1) c9,.int .i64 d.ser],.int .i64 ((d.ords.length:Int)+1),.int .i64 0])) w9:=by
 have hR:wantF d.fro q now=({ d.fro with auts:=L,ords:=d.fro.ords++[⟨(d.fro.ords.length:Int)+1,q.acc,q.names,q.key,q.life,ns,1,0⟩] },(d.fro.ords.length:Int)+1,0):=by
  unfold wantF wantL
  rw [dfro_auts,hfo]
  simp only
  rw [if_neg (by rw [dfro_ords,List.length_map];omega)]
 have hdl:d.fro.ords.length=d.ords.length:=by rw [dfro_ords,List.length_map]
 rw [hR]
 obtain ⟨uA',uc',he,huc,-⟩:=own_slice2 hu
 cases he
 obtain ⟨nA',nc',he,hnc,-⟩:=own_slice2 hn
 cases he
 obtain ⟨aA',ac',he,hac,-⟩:=own_slice2 hm
 cases he
 obtain ⟨A9',c9',he,hc9,-⟩:=own_slice2 ho
 cases he
 have hlen2:(d.ords++[OrdX.mk ⟨(d.ords.length:Int)+1,q.acc,q.names,q.key,q.life,ns,1,0⟩ nA nc aA ac]).length=d.ords.length+1:=by simp
 have hW2:=withU_w (hW.ext X) (Reads.of_own hu) huc (by omega) hLw
 refine ⟨withO (withU d L uA uc) (d.ords++[OrdX.mk ⟨(d.ords.length:Int)+1,q.acc,q.names,q.key,q.life,ns,1,0⟩ nA nc aA ac]) A9 c9,?_,?_,?_,fun S hS=>?_,X⟩
 ·unfold frontV withO withU
  simp only
  rw [hlen2,hdl]
  rfl
 ·rw [hdl]
  unfold withO withU DoorX.fro
  simp
 ·refine withO_w hW2 ?_ (by rw [hlen2];exact hc9) (by rw [hlen2];omega) (fun x hx=>?_)
  ·rw [hlen2,ordV_append]
   exact Reads.of_own ho
  ·rcases List.mem_append.1 hx with hx|hx
   ·exact hW2.rw x hx
   ·rw [List.mem_singleton] at hx
    subst hx
    exact ⟨wf64_of (by simp only;omega) (by simp only;omega),hq.acc,hq.key,hq.life,wf64_of (by simp only;omega) (by simp only;omega),wf64_of (by simp only;omega) (by simp only;omega),Reads.of_own hn,hnc,hq.nl,hq.ns,Reads.of_own hm,hac,by simp only;omega,fun n hn=>by have:=hns n hn;exact wf64_of (by omega) (by omega)⟩
 ·refine withO_l (withU_l hS (fun k hk=>.inl hk) (Lies.own hu (fun k hk=>.inr (by omega)))) (fun k hk=>hk) ?_ (fun x hx=>?_)
  ·rw [hlen2]
   exact Lies.own ho (fun k hk=>.inr (by omega))
  ·rcases List.mem_append.1 hx with hx|hx
   ·exact ⟨(hS.n x hx).mono (fun k hk=>.inl hk),(hS.a x hx).mono (fun k hk=>.inl hk)⟩
   ·rw [List.mem_singleton] at hx
    subst hx
    exact ⟨Lies.own hn (fun k hk=>.inr (by omega)),Lies.own hm (fun k hk=>.inr (by omega))⟩
theorem arr7q {W:World} {g:Nat} {T:TypeId} {a b c d e f h:Value} (k:Blk W g T #[a,b,c,d,e,f,h]):W.cell? ⟨g,0,none⟩=some a∧W.cell? ⟨g,1,none⟩=some b∧W.cell? ⟨g,2,none⟩=some c∧W.cell? ⟨g,3,none⟩=some d∧W.cell? ⟨g,4,none⟩=some e∧W.cell? ⟨g,5,none⟩=some f∧W.cell? ⟨g,6,none⟩=some h:=⟨k.cell 0,k.cell 1,k.cell 2,k.cell 3,k.cell 4,k.cell 5,k.cell 6⟩
def set7 (W:World) (g a:Nat) (y:AutR):World:=(((((((W.setCell ⟨g,a*7,none⟩ (.int .i64 y.id)).setCell ⟨g,a*7+1,none⟩ (.int .i64 y.acc)).setCell ⟨g,a*7+2,none⟩ (.string y.name)).setCell ⟨g,a*7+3,none⟩ (.string y.tok)).setCell ⟨g,a*7+4,none⟩ (.int .i64 y.st)).setCell ⟨g,a*7+5,none⟩ (.int .i64 y.fr)).setCell ⟨g,a*7+6,none⟩ (.int .i64 y.un))
theorem aut_put7 {w:World} {base g cap n:Nat} {l:List AutR} (h:w.ownsRow base 69 7 (.slice (some ⟨g,0,none⟩) n cap) n (autV l)) {a:Nat} {x:AutR} (hx:l[a]?=some x) (y:AutR) :
  (set7 w g a y).ownsRow base 69 7 (.slice (some ⟨g,0,none⟩) n cap) n (autV (l.set a y)):=by
 obtain ⟨o0,h0⟩:=aut_put h hx (i:=0) (u:=.int .i64 y.id) (y:={ x with id:=y.id }) (by decide) rfl
 obtain ⟨o1,h1⟩:=aut_put o0 h0 (i:=1) (u:=.int .i64 y.acc) (y:={ x with id:=y.id,acc:=y.acc }) (by decide) rfl
 obtain ⟨o2,h2⟩:=aut_put o1 h1 (i:=2) (u:=.string y.name) (y:={ x with id:=y.id,acc:=y.acc,name:=y.name }) (by decide) rfl
 obtain ⟨o3,h3⟩:=aut_put o2 h2 (i:=3) (u:=.string y.tok) (y:={ x with id:=y.id,acc:=y.acc,name:=y.name,tok:=y.tok }) (by decide) rfl
 obtain ⟨o4,h4⟩:=aut_put o3 h3 (i:=4) (u:=.int .i64 y.st) (y:={ x with id:=y.id,acc:=y.acc,name:=y.name,tok:=y.tok,st:=y.st }) (by decide) rfl
 obtain ⟨o5,h5⟩:=aut_put o4 h4 (i:=5) (u:=.int .i64 y.fr) (y:={ x with id:=y.id,acc:=y.acc,name:=y.name,tok:=y.tok,st:=y.st,fr:=y.fr }) (by decide) rfl
 obtain ⟨o6,h6⟩:=aut_put o5 h5 (i:=6) (u:=.int .i64 y.un) (y:=y) (by decide) rfl
 simp only [List.set_set] at o6
 exact o6
theorem grown7 (w:World) (g a:Nat) (y:AutR):w.grownBy (set7 w g a y) (some g):=by
 unfold set7
 exact ((((((grown_set _ _ _ _).trans (grown_set _ _ _ _)).trans (grown_set _ _ _ _)).trans (grown_set _ _ _ _)).trans (grown_set _ _ _ _)).trans (grown_set _ _ _ _)).trans (grown_set _ _ _ _)
theorem far_set7 {w:World} {b:Nat} {T:TypeId} {cs:Array Value} (h:Blk w b T cs) {g:Nat} (hb:b≠g) (a:Nat) (y:AutR):Blk (set7 w g a y) b T cs:=Blk.grown h (grown7 w g a y) (by simpa using hb)
def outR (d0:DoorX) (f:FroR) (w:World) (e:Ending) (w':World):Prop:=∃ d,e=.returned (frontV d)∧d.fro=f∧DoorW w' w'.heap.size d∧(∀ S,DoorL S d0→DoorL (orNew S w) d)∧Ext w w'
theorem rwithAuth_any (d:DoorX) (a:AutR) (k:Nat) (hk:k<d.auts.length) (hkb:k<1000) (hid:a.id=(k:Int)+1) (w:World) (hw:DoorW w w.heap.size d) (ha:AutW a) :
  Calls Tryz.prog 73 #[frontV d,autAgg a] w (outR d { d.fro with auts:=d.auts.set k a } w):=by
 obtain ⟨W1,W0,e0,e1,b0,b1,x1,s1,b2,x2⟩:=start3r w #[.int .i64 d.next,.slice d.oA d.opn.length d.oc,.slice d.cA d.accs.length d.cc,.slice d.uA d.auts.length d.uc,.slice d.rA d.ords.length d.rc,.int .i64 d.ser] #[.int .i64 a.id,.int .i64 a.acc,.string a.name,.string a.tok,.int .i64 a.st,.int .i64 a.fr,.int .i64 a.un] #[.int .i64 0,.slice none 0 0,.slice none 0 0,.slice none 0 0,.slice none 0 0,.int .i64 0] 43 69 43
 obtain ⟨s,hs⟩:∃ s,d.auts[k]?=some s:=⟨_,List.getElem?_eq_getElem hk⟩
 have HW:=Lib.hid (hw.ext (x1.trans x2))
 have HW_:=Lib.hid hw
 have HA:=Lib.hid ha
 
 have HS:=Lib.hid hs
 have HID:=Lib.hid hid
 have HB0:=Lib.hid (ext_blk x2 b0)
 have HB1:=Lib.hid (ext_blk x2 b1)
 have HB2:=Lib.hid b2
 have HX0:=Lib.hid (x1.trans x2)
 have HSZ:Hid (w.heap.size+3≤W0.heap.size):=Lib.hid (by have:=b2.lt;omega)
 have HKL:=Lib.hid hk
 have E0:=Lib.hid e0
 have kid:IntKind.i64.wrap (a.id-1)=(k:Int):=by rw [hid,IntKind.wrap_i64];omega
 have hkl:(k:Int)<(d.auts.length:Int):=by omega
 have hrl:(d.auts.length:Int)≤1099511627776:=by have:=hw.ul;omega
 have hkb2:(k:Int)<1000:=by omega
 obtain ⟨i0,hi,hz0,hz1,hz2⟩:=info_parts Tryz.infoAut
 unfold frontV autAgg
 clear e0 e1 b0 b1 x1 s1 b2 x2 hw ha hid hs hk hkb
 go_enter Tryz.func73,Tryz.ntmps73
 go_upto_region 1 with (fail)
 have e0:=E0.out
 rw [e0]
 clear e0 E0
 have m3':=(HB0.out.alloc (.cells #[] 69)).cell 3
 have HR:=Lib.hid ((HW.out.aut).alloc (Nat.le_refl _) (.cells #[] 69))
 have HRL:=Lib.hid hrl
 go_upto_region 2 with (at_builtin;refine wpList_append_any _ rfl (.tmp 5) (.tmp 7) 40 rfl W0.heap.size 69 i0 (.agg #[.int .i64 0,.int .i64 0,.string ⟨#[]⟩,.string ⟨#[]⟩,.int .i64 0,.int .i64 0,.int .i64 0]) 7 72 Tryz.underlying40 hi hz0 hz1 hz2 rfl (by decide) _ 0 [] rfl (own_empty W0 _ _ rfl (Nat.le_refl _) _ _) W0.heap.size d.uA d.auts.length d.uc (autV d.auts) rfl HR.out (autV_one _) (by have:=HRL.out;simp only [maxLen];omega) (by have:=HRL.out;omega) (by simp) ?_;intro v8 w8 hown8 hg8 _;rw [Nat.zero_add,List.nil_append] at hown8;obtain ⟨g8,cap8,rfl,hg8b,hg8c,hg8l⟩:=own_form hown8 (by have:=HKL.out;omega);have X8:=ext_grown ((Ext.refl W0).alloc _) (own_empty W0 _ _ rfl (Nat.le_refl _) 69 7) hg8;have HX8:=Lib.hid X8;have HO8:=Lib.hid hown8;have HGB:Hid (W0.heap.size≤g8∧d.auts.length≤cap8∧g8<w8.heap.size):=Lib.hid ⟨hg8b,hg8c,hg8l⟩;have hf8:=(ext_blk X8 HB0.out).frozen 3;have hc8:=(ext_blk X8 HB0.out).cell 3;clear hown8 hg8 X8 m3' hg8b hg8c hg8l)
 obtain ⟨W8,e8⟩:∃ W,W=w8.setCell ⟨w.heap.size,3,none⟩ (.slice (some ⟨g8,0,none⟩) d.auts.length cap8):=⟨_,rfl⟩
 rw [← e8]
 have HB08:Hid (Blk W8 w.heap.size 43 #[.int .i64 d.next,.slice d.oA d.opn.length d.oc,.slice d.cA d.accs.length d.cc,.slice (some ⟨g8,0,none⟩) d.auts.length cap8,.slice d.rA d.ords.length d.rc,.int .i64 d.ser]):=Lib.hid (by rw [e8];exact (ext_blk HX8.out HB0.out).set_ 3 _)
 have HB18:Hid (Blk W8 (w.heap.size+1) 69 #[.int .i64 a.id,.int .i64 a.acc,.string a.name,.string a.tok,.int .i64 a.st,.int .i64 a.fr,.int .i64 a.un]):=Lib.hid (by rw [e8];exact (ext_blk HX8.out HB1.out).far (p:=⟨w.heap.size,3,none⟩) (by simp) _)
 have HB28:Hid (Blk W8 (w.heap.size+2) 43 #[.int .i64 0,.slice none 0 0,.slice none 0 0,.slice none 0 0,.slice none 0 0,.int .i64 0]):=Lib.hid (by rw [e8];exact (ext_blk HX8.out HB2.out).far (p:=⟨w.heap.size,3,none⟩) (by simp) _)
 have HO8:Hid (W8.ownsRow W0.heap.size 69 7 (.slice (some ⟨g8,0,none⟩) d.auts.length cap8) d.auts.length (autV d.auts)):=Lib.hid (by rw [e8];exact own_far HO8.out (by have:=HSZ.out;omega) 3 _)
 have HX08:Hid (Ext w W8):=Lib.hid (by rw [e8];exact (HX0.out.trans HX8.out).setCell (Nat.le_refl _) _)
 clear e8 hf8 hc8
 have m3:=HB08.out.cell 3
 obtain ⟨q0,q1,q2,q3,q4,q5,q6⟩:=arr7q HB18.out
 have o0:=own_fm autC (fun _=>rfl) HO8.out HS.out (i:=0) (by decide)
 simp only [autC,List.getElem?_cons_succ,List.getElem?_cons_zero,Nat.add_zero] at o0
 have f0:=HO8.out.frozenAt (k*7)
 have o1:=own_fm autC (fun _=>rfl) HO8.out HS.out (i:=1) (by decide)
 simp only [autC,List.getElem?_cons_succ,List.getElem?_cons_zero,Nat.add_zero] at o1
 have f1:=HO8.out.frozenAt (k*7+1)
 have o2:=own_fm autC (fun _=>rfl) HO8.out HS.out (i:=2) (by decide)
 simp only [autC,List.getElem?_cons_succ,List.getElem?_cons_zero,Nat.add_zero] at o2
 have f2:=HO8.out.frozenAt (k*7+2)
 have o3:=own_fm autC (fun _=>rfl) HO8.out HS.out (i:=3) (by decide)
 simp only [autC,List.getElem?_cons_succ,List.getElem?_cons_zero,Nat.add_zero] at o3
 have f3:=HO8.out.frozenAt (k*7+3)
 have o4:=own_fm autC (fun _=>rfl) HO8.out HS.out (i:=4) (by decide)
 simp only [autC,List.getElem?_cons_succ,List.getElem?_cons_zero,Nat.add_zero] at o4
 have f4:=HO8.out.frozenAt (k*7+4)
 have o5:=own_fm autC (fun _=>rfl) HO8.out HS.out (i:=5) (by decide)
 simp only [autC,List.getElem?_cons_succ,List.getElem?_cons_zero,Nat.add_zero] at o5
 have f5:=HO8.out.frozenAt (k*7+5)
 have o6:=own_fm autC (fun _=>rfl) HO8.out HS.out (i:=6) (by decide)
 simp only [autC,List.getElem?_cons_succ,List.getElem?_cons_zero,Nat.add_zero] at o6
 have f6:=HO8.out.frozenAt (k*7+6)
 have hne:w.heap.size≠g8:=by have:=HGB.out.1;have:=HSZ.out;omega
 have hne1:w.heap.size+1≠g8:=by have:=HGB.out.1;have:=HSZ.out;omega
 have hne2:w.heap.size+2≠g8:=by have:=HGB.out.1;have:=HSZ.out;omega
 have HNE:=Lib.hid (And.intro hne (And.intro hne1 hne2))
 clear hne hne1 hne2
 go_upto_region 3 with (fail)
 obtain ⟨W9,e9⟩:∃ W,W=set7 W8 g8 k a:=⟨_,rfl⟩
 have e9':=e9
 unfold set7 at e9'
 rw [← e9']
 have HB09:Hid (Blk W9 w.heap.size 43 #[.int .i64 d.next,.slice d.oA d.opn.length d.oc,.slice d.cA d.accs.length d.cc,.slice (some ⟨g8,0,none⟩) d.auts.length cap8,.slice d.rA d.ords.length d.rc,.int .i64 d.ser]):=Lib.hid (by rw [e9];exact far_set7 HB08.out HNE.out.1 k a)
 have b29:Blk W9 (w.heap.size+2) 43 #[.int .i64 0,.slice none 0 0,.slice none 0 0,.slice none 0 0,.slice none 0 0,.int .i64 0]:=by rw [e9];exact far_set7 HB28.out HNE.out.2.2 k a
 have HO9:Hid (W9.ownsRow W0.heap.size 69 7 (.slice (some ⟨g8,0,none⟩) d.auts.length cap8) d.auts.length (autV (d.auts.set k a))):=Lib.hid (by rw [e9];exact aut_put7 HO8.out HS.out a)
 have HX09:Hid (Ext w W9):=Lib.hid (by rw [e9];exact Ext.of (HX08.out.out.grown (grown7 W8 g8 k a) HX08.out.size (fun b hb=>by cases hb;have:=HGB.out.1;have:=HSZ.out;omega)))
 clear e9 e9' m3 o0 f0 o1 f1 o2 f2 o3 f3 o4 f4 o5 f5 o6 f6 q0 q1 q2 q3 q4 q5 q6
 obtain ⟨m0,m1,m2,m3,m4,m5⟩:=arr6f HB09.out
 obtain ⟨z0,z1,z2,z3,z4,z5,f0,f1,f2,f3,f4,f5⟩:=st6 b29
 have BB:=Lib.hid (blk6 b29 (.int .i64 d.next) (.slice d.oA d.opn.length d.oc) (.slice d.cA d.accs.length d.cc) (.slice (some ⟨g8,0,none⟩) d.auts.length cap8) (.slice d.rA d.ords.length d.rc) (.int .i64 d.ser))
 clear b29
 go_wp2
 obtain ⟨r0,r1,r2,r3,r4,r5⟩:=arr6f BB.out
 have hyl:(d.auts.set k a).length=d.auts.length:=List.length_set
 have hsz:=HSZ.out
 have o10:=own_far (own_far (own_far (own_far (own_far (own_far HO9.out (g:=w.heap.size+2) (by omega) 0 (.int .i64 d.next)) (g:=w.heap.size+2) (by omega) 1 (.slice d.oA d.opn.length d.oc)) (g:=w.heap.size+2) (by omega) 2 (.slice d.cA d.accs.length d.cc)) (g:=w.heap.size+2) (by omega) 3 (.slice (some ⟨g8,0,none⟩) d.auts.length cap8)) (g:=w.heap.size+2) (by omega) 4 (.slice d.rA d.ords.length d.rc)) (g:=w.heap.size+2) (by omega) 5 (.int .i64 d.ser)
 have xx0:=ext6 HX09.out (g:=w.heap.size+2) (by omega) (.int .i64 d.next) (.slice d.oA d.opn.length d.oc) (.slice d.cA d.accs.length d.cc) (.slice (some ⟨g8,0,none⟩) d.auts.length cap8) (.slice d.rA d.ords.length d.rc) (.int .i64 d.ser)
 have key:∀ WF:World,Ext w WF→WF.ownsRow W0.heap.size 69 7 (.slice (some ⟨g8,0,none⟩) d.auts.length cap8) d.auts.length (autV (d.auts.set k a))→DoorW WF WF.heap.size (withU d (d.auts.set k a) (some ⟨g8,0,none⟩) cap8):=fun WF x o=>by
  have hr:=Reads.of_own o
  rw [← hyl] at hr
  have hWd:=HW_.out.ext x
  have HO9:=Lib.hid o
  refine withU_w hWd hr (by rw [hyl];exact own_cap HO9.out) (by rw [hyl];exact hWd.ul) (fun y hy=>?_)
  rcases List.mem_or_eq_of_mem_set hy with hy|rfl
  ·exact hWd.uw y hy
  ·exact HA.out
 have kd:=key _ xx0 o10
 have key2:∀ S,DoorL S d→DoorL (orNew S w) (withU d (d.auts.set k a) (some ⟨g8,0,none⟩) cap8):=fun S hS=>by
  refine withU_l hS (fun k hk=>.inl hk) ?_
  rw [hyl]
  exact Lies.own HO9.out (fun k hk=>.inr (by have:=HSZ.out;omega))
 refine bodyPost_ret (v:=.agg #[.int .i64 d.next,.slice d.oA d.opn.length d.oc,.slice d.cA d.accs.length d.cc,.slice (some ⟨g8,0,none⟩) d.auts.length cap8,.slice d.rA d.ords.length d.rc,.int .i64 d.ser]) (by simp [results,Tryz.results73,go_sem,r0,r1,r2,r3,r4,r5]) rfl ⟨withU d (d.auts.set k a) (some ⟨g8,0,none⟩) cap8,?_,rfl,kd,key2,xx0⟩
 unfold frontV withU
 simp only
 rw [hyl]
theorem rwithOrder_any (d:DoorX) (x:OrdX) (k:Nat) (hk:k<d.ords.length) (hkb:k<1000) (hid:x.o.id=(k:Int)+1) (w:World) (hw:DoorW w w.heap.size d) (hx:OrdW w w.heap.size x) (hlx:∀ S,DoorL S d→Lies S x.nA x.o.names.length∧Lies S x.aA x.o.auths.length) :
  Calls Tryz.prog 79 #[frontV d,ordAgg x] w (outR d { d.fro with ords:=(d.ords.map (·.o)).set k x.o } w):=by
 obtain ⟨W1,W0,e0,e1,b0,b1,x1,s1,b2,x2⟩:=start3r w #[.int .i64 d.next,.slice d.oA d.opn.length d.oc,.slice d.cA d.accs.length d.cc,.slice d.uA d.auts.length d.uc,.slice d.rA d.ords.length d.rc,.int .i64 d.ser] #[.int .i64 x.o.id,.int .i64 x.o.acc,.slice x.nA x.o.names.length x.nc,.int .u64 (x.o.key:Int),.int .i64 x.o.life,.slice x.aA x.o.auths.length x.ac,.int .i64 x.o.st,.int .i64 x.o.ser] #[.int .i64 0,.slice none 0 0,.slice none 0 0,.slice none 0 0,.slice none 0 0,.int .i64 0] 43 78 43
 obtain ⟨s,hs⟩:∃ s,d.ords[k]?=some s:=⟨_,List.getElem?_eq_getElem hk⟩
 have HW:=Lib.hid (hw.ext (x1.trans x2))
 have HW_:=Lib.hid hw
 have HX_:=Lib.hid hx
 have HLX:=Lib.hid hlx
 have HS:=Lib.hid hs
 have HID:=Lib.hid hid
 have HB0:=Lib.hid (ext_blk x2 b0)
 have HB1:=Lib.hid (ext_blk x2 b1)
 have HB2:=Lib.hid b2
 have HX0:=Lib.hid (x1.trans x2)
 have HSZ:Hid (w.heap.size+3≤W0.heap.size):=Lib.hid (by have:=b2.lt;omega)
 have HKL:=Lib.hid hk
 have E0:=Lib.hid e0
 have kid:IntKind.i64.wrap (x.o.id-1)=(k:Int):=by rw [hid,IntKind.wrap_i64];omega
 have hkl:(k:Int)<(d.ords.length:Int):=by omega
 have hrl:(d.ords.length:Int)≤1099511627776:=by have:=hw.rl;omega
 have hkb2:(k:Int)<1000:=by omega
 obtain ⟨i0,hi,hz0,hz1,hz2⟩:=info_parts Tryz.infoOrd
 unfold frontV ordAgg
 clear e0 e1 b0 b1 x1 s1 b2 x2 hw hx hlx hid hs hk hkb
 go_enter Tryz.func79,Tryz.ntmps79
 go_upto_region 1 with (fail)
 have e0:=E0.out
 rw [e0]
 clear e0 E0
 have m4':=(HB0.out.alloc (.cells #[] 78)).cell 4
 have HR:=Lib.hid ((HW.out.ord).alloc (Nat.le_refl _) (.cells #[] 78))
 have HRL:=Lib.hid hrl
 go_upto_region 2 with (at_builtin;refine wpList_append_any _ rfl (.tmp 5) (.tmp 7) 41 rfl W0.heap.size 78 i0 (.agg #[.int .i64 0,.int .i64 0,.slice none 0 0,.int .u64 0,.int .i64 0,.slice none 0 0,.int .i64 0,.int .i64 0]) 8 96 Tryz.underlying41 hi hz0 hz1 hz2 rfl (by decide) _ 0 [] rfl (own_empty W0 _ _ rfl (Nat.le_refl _) _ _) W0.heap.size d.rA d.ords.length d.rc (ordV d.ords) rfl HR.out (ordV_one _) (by have:=HRL.out;simp only [maxLen];omega) (by have:=HRL.out;omega) (by simp) ?_;intro v8 w8 hown8 hg8 _;rw [Nat.zero_add,List.nil_append] at hown8;obtain ⟨g8,cap8,rfl,hg8b,hg8c,hg8l⟩:=own_form hown8 (by have:=HKL.out;omega);have X8:=ext_grown ((Ext.refl W0).alloc _) (own_empty W0 _ _ rfl (Nat.le_refl _) 78 8) hg8;have HX8:=Lib.hid X8;have HO8:=Lib.hid hown8;have HGB:Hid (W0.heap.size≤g8∧d.ords.length≤cap8∧g8<w8.heap.size):=Lib.hid ⟨hg8b,hg8c,hg8l⟩;have hf8:=(ext_blk X8 HB0.out).frozen 4;have hc8:=(ext_blk X8 HB0.out).cell 4;clear hown8 hg8 X8 m4' hg8b hg8c hg8l)
 obtain ⟨W8,e8⟩:∃ W,W=w8.setCell ⟨w.heap.size,4,none⟩ (.slice (some ⟨g8,0,none⟩) d.ords.length cap8):=⟨_,rfl⟩
 rw [← e8]
 have HB08:Hid (Blk W8 w.heap.size 43 #[.int .i64 d.next,.slice d.oA d.opn.length d.oc,.slice d.cA d.accs.length d.cc,.slice d.uA d.auts.length d.uc,.slice (some ⟨g8,0,none⟩) d.ords.length cap8,.int .i64 d.ser]):=Lib.hid (by rw [e8];exact (ext_blk HX8.out HB0.out).set_ 4 _)
 have HB18:Hid (Blk W8 (w.heap.size+1) 78 #[.int .i64 x.o.id,.int .i64 x.o.acc,.slice x.nA x.o.names.length x.nc,.int .u64 (x.o.key:Int),.int .i64 x.o.life,.slice x.aA x.o.auths.length x.ac,.int .i64 x.o.st,.int .i64 x.o.ser]):=Lib.hid (by rw [e8];exact (ext_blk HX8.out HB1.out).far (p:=⟨w.heap.size,4,none⟩) (by simp) _)
 have HB28:Hid (Blk W8 (w.heap.size+2) 43 #[.int .i64 0,.slice none 0 0,.slice none 0 0,.slice none 0 0,.slice none 0 0,.int .i64 0]):=Lib.hid (by rw [e8];exact (ext_blk HX8.out HB2.out).far (p:=⟨w.heap.size,4,none⟩) (by simp) _)
 have HO8:Hid (W8.ownsRow W0.heap.size 78 8 (.slice (some ⟨g8,0,none⟩) d.ords.length cap8) d.ords.length (ordV d.ords)):=Lib.hid (by rw [e8];exact own_far HO8.out (by have:=HSZ.out;omega) 4 _)
 have HX08:Hid (Ext w W8):=Lib.hid (by rw [e8];exact (HX0.out.trans HX8.out).setCell (Nat.le_refl _) _)
 clear e8 hf8 hc8
 have m4:=HB08.out.cell 4
 obtain ⟨q0,q1,q2,q3,q4,q5,q6,q7⟩:=arr8 HB18.out
 have o0:=own_fm ordC (fun _=>rfl) HO8.out HS.out (i:=0) (by decide)
 simp only [ordC,List.getElem?_cons_succ,List.getElem?_cons_zero,Nat.add_zero] at o0
 have f0:=HO8.out.frozenAt (k*8)
 have o1:=own_fm ordC (fun _=>rfl) HO8.out HS.out (i:=1) (by decide)
 simp only [ordC,List.getElem?_cons_succ,List.getElem?_cons_zero,Nat.add_zero] at o1
 have f1:=HO8.out.frozenAt (k*8+1)
 have o2:=own_fm ordC (fun _=>rfl) HO8.out HS.out (i:=2) (by decide)
 simp only [ordC,List.getElem?_cons_succ,List.getElem?_cons_zero,Nat.add_zero] at o2
 have f2:=HO8.out.frozenAt (k*8+2)
 have o3:=own_fm ordC (fun _=>rfl) HO8.out HS.out (i:=3) (by decide)
 simp only [ordC,List.getElem?_cons_succ,List.getElem?_cons_zero,Nat.add_zero] at o3
 have f3:=HO8.out.frozenAt (k*8+3)
 have o4:=own_fm ordC (fun _=>rfl) HO8.out HS.out (i:=4) (by decide)
 simp only [ordC,List.getElem?_cons_succ,List.getElem?_cons_zero,Nat.add_zero] at o4
 have f4:=HO8.out.frozenAt (k*8+4)
 have o5:=own_fm ordC (fun _=>rfl) HO8.out HS.out (i:=5) (by decide)
 simp only [ordC,List.getElem?_cons_succ,List.getElem?_cons_zero,Nat.add_zero] at o5
 have f5:=HO8.out.frozenAt (k*8+5)
 have o6:=own_fm ordC (fun _=>rfl) HO8.out HS.out (i:=6) (by decide)
 simp only [ordC,List.getElem?_cons_succ,List.getElem?_cons_zero,Nat.add_zero] at o6
 have f6:=HO8.out.frozenAt (k*8+6)
 have o7:=own_fm ordC (fun _=>rfl) HO8.out HS.out (i:=7) (by decide)
 simp only [ordC,List.getElem?_cons_succ,List.getElem?_cons_zero,Nat.add_zero] at o7
 have f7:=HO8.out.frozenAt (k*8+7)
 have hne:w.heap.size≠g8:=by have:=HGB.out.1;have:=HSZ.out;omega
 have hne1:w.heap.size+1≠g8:=by have:=HGB.out.1;have:=HSZ.out;omega
 have hne2:w.heap.size+2≠g8:=by have:=HGB.out.1;have:=HSZ.out;omega
 have HNE:=Lib.hid (And.intro hne (And.intro hne1 hne2))
 clear hne hne1 hne2
 go_upto_region 3 with (fail)
 obtain ⟨W9,e9⟩:∃ W,W=set8 W8 g8 k x:=⟨_,rfl⟩
 have e9':=e9
 unfold set8 at e9'
 rw [← e9']
 have HB09:Hid (Blk W9 w.heap.size 43 #[.int .i64 d.next,.slice d.oA d.opn.length d.oc,.slice d.cA d.accs.length d.cc,.slice d.uA d.auts.length d.uc,.slice (some ⟨g8,0,none⟩) d.ords.length cap8,.int .i64 d.ser]):=Lib.hid (by rw [e9];exact far_set8 HB08.out HNE.out.1 k x)
 have b29:Blk W9 (w.heap.size+2) 43 #[.int .i64 0,.slice none 0 0,.slice none 0 0,.slice none 0 0,.slice none 0 0,.int .i64 0]:=by rw [e9];exact far_set8 HB28.out HNE.out.2.2 k x
 have HO9:Hid (W9.ownsRow W0.heap.size 78 8 (.slice (some ⟨g8,0,none⟩) d.ords.length cap8) d.ords.length (ordV (d.ords.set k x))):=Lib.hid (by rw [e9];exact ord_put8 HO8.out HS.out x)
 have HX09:Hid (Ext w W9):=Lib.hid (by rw [e9];exact Ext.of (HX08.out.out.grown (grown8 W8 g8 k x) HX08.out.size (fun b hb=>by cases hb;have:=HGB.out.1;have:=HSZ.out;omega)))
 clear e9 e9' m4 o0 f0 o1 f1 o2 f2 o3 f3 o4 f4 o5 f5 o6 f6 o7 f7 q0 q1 q2 q3 q4 q5 q6 q7
 obtain ⟨m0,m1,m2,m3,m4,m5⟩:=arr6f HB09.out
 obtain ⟨z0,z1,z2,z3,z4,z5,f0,f1,f2,f3,f4,f5⟩:=st6 b29
 have BB:=Lib.hid (blk6 b29 (.int .i64 d.next) (.slice d.oA d.opn.length d.oc) (.slice d.cA d.accs.length d.cc) (.slice d.uA d.auts.length d.uc) (.slice (some ⟨g8,0,none⟩) d.ords.length cap8) (.int .i64 d.ser))
 clear b29
 go_wp2
 obtain ⟨r0,r1,r2,r3,r4,r5⟩:=arr6f BB.out
 have hyl:(d.ords.set k x).length=d.ords.length:=List.length_set
 have hsz:=HSZ.out
 have o10:=own_far (own_far (own_far (own_far (own_far (own_far HO9.out (g:=w.heap.size+2) (by omega) 0 (.int .i64 d.next)) (g:=w.heap.size+2) (by omega) 1 (.slice d.oA d.opn.length d.oc)) (g:=w.heap.size+2) (by omega) 2 (.slice d.cA d.accs.length d.cc)) (g:=w.heap.size+2) (by omega) 3 (.slice d.uA d.auts.length d.uc)) (g:=w.heap.size+2) (by omega) 4 (.slice (some ⟨g8,0,none⟩) d.ords.length cap8)) (g:=w.heap.size+2) (by omega) 5 (.int .i64 d.ser)
 have xx0:=ext6 HX09.out (g:=w.heap.size+2) (by omega) (.int .i64 d.next) (.slice d.oA d.opn.length d.oc) (.slice d.cA d.accs.length d.cc) (.slice d.uA d.auts.length d.uc) (.slice (some ⟨g8,0,none⟩) d.ords.length cap8) (.int .i64 d.ser)
 have key:∀ WF:World,Ext w WF→WF.ownsRow W0.heap.size 78 8 (.slice (some ⟨g8,0,none⟩) d.ords.length cap8) d.ords.length (ordV (d.ords.set k x))→DoorW WF WF.heap.size (withO d (d.ords.set k x) (some ⟨g8,0,none⟩) cap8):=fun WF x o=>by
  have hr:=Reads.of_own o
  rw [← hyl] at hr
  have hWd:=HW_.out.ext x
  have HO9:=Lib.hid o
  refine withO_w hWd hr (by rw [hyl];exact own_cap HO9.out) (by rw [hyl];exact hWd.rl) (fun y hy=>?_)
  rcases List.mem_or_eq_of_mem_set hy with hy|rfl
  ·exact hWd.rw y hy
  ·exact (HX_.out.ext x)
 have kd:=key _ xx0 o10
 have key2:∀ S,DoorL S d→DoorL (orNew S w) (withO d (d.ords.set k x) (some ⟨g8,0,none⟩) cap8):=fun S hS=>by
  refine withO_l hS (fun k hk=>.inl hk) ?_ (fun y hy=>?_)
  ·rw [hyl]
   exact Lies.own HO9.out (fun k hk=>.inr (by have:=HSZ.out;omega))
  ·rcases List.mem_or_eq_of_mem_set hy with hy|rfl
   ·exact ⟨(hS.n y hy).mono (fun k hk=>.inl hk),(hS.a y hy).mono (fun k hk=>.inl hk)⟩
   ·exact ⟨(HLX.out S hS).1.mono (fun k hk=>.inl hk),(HLX.out S hS).2.mono (fun k hk=>.inl hk)⟩
 refine bodyPost_ret (v:=.agg #[.int .i64 d.next,.slice d.oA d.opn.length d.oc,.slice d.cA d.accs.length d.cc,.slice d.uA d.auts.length d.uc,.slice (some ⟨g8,0,none⟩) d.ords.length cap8,.int .i64 d.ser]) (by simp [results,Tryz.results79,go_sem,r0,r1,r2,r3,r4,r5]) rfl ⟨withO d (d.ords.set k x) (some ⟨g8,0,none⟩) cap8,?_,by rw [← map_set_o];rfl,kd,key2,xx0⟩
 unfold frontV withO
 simp only
 rw [hyl]
theorem look_none {f:FroR} {q:QueR} (h:q.id<1∨(f.auts.length:Int)<q.id):lookF f q=bad 131:=by
 unfold lookF
 by_cases h1:q.id<1
 ·rw [if_pos h1]
 ·rw [if_neg h1,List.getElem?_eq_none (by omega)]
theorem look_some {f:FroR} {q:QueR} {k:Nat} {u:AutR} (h:q.id=(k:Int)+1) (hu:f.auts[k]?=some u):lookF f q=if u.acc≠q.acc then bad 131 else if u.st≠1∧u.st≠4 then bad 221 else ({ f with auts:=f.auts.set k { u with st:=2 } },q.id,0):=by
 unfold lookF
 have e:q.id.toNat-1=k:=by omega
 rw [if_neg (by omega),e,hu]
theorem rlook_any (d:DoorX) (q:QueR) (A:Option Addr) (c:Nat) (w:World) (hw:DoorW w w.heap.size d) (hq:QueW w w.heap.size q A c) (hu9:d.auts.length<99) (hr9:d.ords.length<99) (hids:∀ (k:Nat) (u:AutR),d.auts[k]?=some u→u.id=(k:Int)+1) :
  Calls Tryz.prog 59 #[frontV d,queV q A c] w (outD d (lookF d.fro q) w):=by
 obtain ⟨W1,W0,e0,e1,b0,b1,x1,s1,b2,x2⟩:=start3r w #[.int .i64 d.next,.slice d.oA d.opn.length d.oc,.slice d.cA d.accs.length d.cc,.slice d.uA d.auts.length d.uc,.slice d.rA d.ords.length d.rc,.int .i64 d.ser] #[.int .i64 q.kind,.int .i64 q.acc,.int .i64 q.nonce,.int .u64 (q.key:Int),.slice A q.names.length c,.int .i64 q.life,.int .i64 q.id,.int .u64 (q.e:Int),.int .u64 (q.s:Int)] #[.int .i64 0,.slice none 0 0,.slice none 0 0,.slice none 0 0,.slice none 0 0,.int .i64 0] 43 27 43
 have HW:=Lib.hid (hw.ext (x1.trans x2))
 have HW_:=Lib.hid hw
 have hid64:=wf64_out hq.id
 have HB0:=Lib.hid (ext_blk x2 b0)
 have HB1:=Lib.hid (ext_blk x2 b1)
 have HB2:=Lib.hid b2
 have HX0:=Lib.hid (x1.trans x2)
 have HSZ:Hid (w.heap.size+3≤W0.heap.size):=Lib.hid (by have:=b2.lt;omega)
 have E0:=Lib.hid e0
 have HIDS:=Lib.hid hids
 have HU9:=Lib.hid hu9
 have HR9:=Lib.hid hr9
 
 have hlb:(d.auts.length:Int)<100:=by omega
 unfold frontV queV
 clear e0 e1 b0 b1 x1 s1 b2 x2 hw hq hids hu9 hr9
 go_enter Tryz.func59,Tryz.ntmps59
 go_upto_region 1 with (fail)
 have e0:=E0.out
 rw [e0]
 clear e0 E0
 have m3:=HB0.out.cell 3
 have y1:=HB1.out.cell 1
 have y6:=HB1.out.cell 6
 by_cases g1:q.id<1
 ·have d1:decide (q.id<1)=true:=decide_eq_true g1
  have HR:=Lib.hid (look_none (f:=d.fro) (.inl g1))
  clear g1
  have j0:=fun p:Later W0=>p.cell y1
  have j1:=fun p:Later W0=>p.cell y6
  have j2:=fun p:Later W0=>p.cell m3
  try (have j3:=fun p:Later W0=>p.cell r1)
  refine wp_region_later (by kernel_rfl) (by kernel_rfl) ?_
  repeat (go_big_quiet_step ((fail)))
  refine wpQuiet_nil ?_
  rintro W2 ⟨p,hp⟩
  have HX2:Hid (Ext W0 W2):=Lib.hid (by rw [hp];exact p.ext)
  clear hp p j0 j1 j2
  (try clear j3)
  have b2:=ext_blk (HX2.out) HB2.out
  obtain ⟨z0,z1,z2,z3,z4,z5,f0,f1,f2,f3,f4,f5⟩:=st6 b2
  have BB:=Lib.hid (blk6 b2 (.int .i64 0) (.slice none 0 0) (.slice none 0 0) (.slice none 0 0) (.slice none 0 0) (.int .i64 0))
  clear b2
  go_wp2
  rw [HR.out]
  obtain ⟨r0,r1,r2,r3,r4,r5⟩:=arr6f BB.out
  refine bodyPost_ret (v:=.tuple #[.agg #[.int .i64 0,.slice none 0 0,.slice none 0 0,.slice none 0 0,.slice none 0 0,.int .i64 0],.int .i64 0,.int .i64 131]) (by simp [results,Tryz.results59,go_sem,r0,r1,r2,r3,r4,r5]) rfl (outD_bad rfl (ext6 (HX0.out.trans (HX2.out)) (by omega) _ _ _ _ _ _))
 have d1:decide (q.id<1)=false:=decide_eq_false g1
 by_cases g2:(d.auts.length:Int)<q.id
 ·have d2:decide ((d.auts.length:Int)<q.id)=true:=decide_eq_true g2
  have HR:=Lib.hid (look_none (f:=d.fro) (q:=q) (.inr (by exact g2)))
  clear g1 g2
  have j0:=fun p:Later W0=>p.cell y1
  have j1:=fun p:Later W0=>p.cell y6
  have j2:=fun p:Later W0=>p.cell m3
  try (have j3:=fun p:Later W0=>p.cell r1)
  refine wp_region_later (by kernel_rfl) (by kernel_rfl) ?_
  repeat (go_big_quiet_step ((fail)))
  refine wpQuiet_nil ?_
  rintro W2 ⟨p,hp⟩
  have HX2:Hid (Ext W0 W2):=Lib.hid (by rw [hp];exact p.ext)
  clear hp p j0 j1 j2
  (try clear j3)
  have b2:=ext_blk (HX2.out) HB2.out
  obtain ⟨z0,z1,z2,z3,z4,z5,f0,f1,f2,f3,f4,f5⟩:=st6 b2
  have BB:=Lib.hid (blk6 b2 (.int .i64 0) (.slice none 0 0) (.slice none 0 0) (.slice none 0 0) (.slice none 0 0) (.int .i64 0))
  clear b2
  go_wp2
  rw [HR.out]
  obtain ⟨r0,r1,r2,r3,r4,r5⟩:=arr6f BB.out
  refine bodyPost_ret (v:=.tuple #[.agg #[.int .i64 0,.slice none 0 0,.slice none 0 0,.slice none 0 0,.slice none 0 0,.int .i64 0],.int .i64 0,.int .i64 131]) (by simp [results,Tryz.results59,go_sem,r0,r1,r2,r3,r4,r5]) rfl (outD_bad rfl (ext6 (HX0.out.trans (HX2.out)) (by omega) _ _ _ _ _ _))
 have d2:decide ((d.auts.length:Int)<q.id)=false:=decide_eq_false g2
 obtain ⟨k,hk⟩:∃ k:Nat,q.id=(k:Int)+1:=⟨(q.id-1).toNat,by omega⟩
 obtain ⟨u,hu⟩:∃ u,d.auts[k]?=some u:=⟨_,List.getElem?_eq_getElem (by omega)⟩
 have HRS:=Lib.hid (look_some (f:=d.fro) hk (show d.fro.auts[k]?=some u by exact hu))
 obtain ⟨ad,hA,hlA,r0,r1,r2,r3,r4,r5,r6⟩:=reads_aut HW.out.aut hu
 rw [hA] at m3
 have kid:IntKind.i64.wrap (q.id-1)=(k:Int):=by rw [IntKind.wrap_i64];omega
 have hkl:(k:Int)<(d.auts.length:Int):=by omega
 have hkb:(k:Int)<100:=by omega
 have HK:=Lib.hid hk
 have HIDU:Hid (u.id=(k:Int)+1):=Lib.hid (HIDS.out k u hu)
 have HU:=Lib.hid hu
 clear hk hu hA hlA g1 g2
 by_cases g3:u.acc=q.acc
 case neg =>
  have d3:(u.acc != q.acc)=true:=by simp [g3]
  have HR:=Lib.hid (HRS.out.trans (if_pos g3))
  clear g3
  have j0:=fun p:Later W0=>p.cell y1
  have j1:=fun p:Later W0=>p.cell y6
  have j2:=fun p:Later W0=>p.cell m3
  try (have j3:=fun p:Later W0=>p.cell r1)
  refine wp_region_later (by kernel_rfl) (by kernel_rfl) ?_
  repeat (go_big_quiet_step ((fail)))
  refine wpQuiet_nil ?_
  rintro W2 ⟨p,hp⟩
  have HX2:Hid (Ext W0 W2):=Lib.hid (by rw [hp];exact p.ext)
  clear hp p j0 j1 j2
  (try clear j3)
  clear r0 r1 r2 r3 r4 r5 r6
  have b2:=ext_blk (HX2.out) HB2.out
  obtain ⟨z0,z1,z2,z3,z4,z5,f0,f1,f2,f3,f4,f5⟩:=st6 b2
  have BB:=Lib.hid (blk6 b2 (.int .i64 0) (.slice none 0 0) (.slice none 0 0) (.slice none 0 0) (.slice none 0 0) (.int .i64 0))
  clear b2
  go_wp2
  rw [HR.out]
  obtain ⟨r0,r1,r2,r3,r4,r5⟩:=arr6f BB.out
  refine bodyPost_ret (v:=.tuple #[.agg #[.int .i64 0,.slice none 0 0,.slice none 0 0,.slice none 0 0,.slice none 0 0,.int .i64 0],.int .i64 0,.int .i64 131]) (by simp [results,Tryz.results59,go_sem,r0,r1,r2,r3,r4,r5]) rfl (outD_bad rfl (ext6 (HX0.out.trans (HX2.out)) (by omega) _ _ _ _ _ _))
 have d3:(u.acc != q.acc)=false:=by simp [g3]
 have HRS2:=Lib.hid (HRS.out.trans (if_neg (by simp [g3])))
 clear g3
 have j0:=fun p:Later W0=>p.cell y1
 have j1:=fun p:Later W0=>p.cell y6
 have j2:=fun p:Later W0=>p.cell m3
 try (have j3:=fun p:Later W0=>p.cell r1)
 refine wp_region_later (by kernel_rfl) (by kernel_rfl) ?_
 repeat (go_big_quiet_step ((fail)))
 refine wpQuiet_nil ?_
 rintro W2 ⟨p,hp⟩
 have HX2:Hid (Ext W0 W2):=Lib.hid (by rw [hp];exact p.ext)
 clear hp p j0 j1 j2
 (try clear j3)
 clear r0 r1 r2 r3 r4 r5 r6 d1 d2 d3 m3 y1 y6
 have m3:=(ext_blk HX2.out HB0.out).cell 3
 have y6:=(ext_blk HX2.out HB1.out).cell 6
 obtain ⟨ad2,hA2,hlA2,r0,r1,r2,r3,r4,r5,r6⟩:=reads_aut (HW.out.ext HX2.out).aut HU.out
 rw [hA2] at m3
 clear hA2 hlA2
 go_upto_region 4 with (fail)
 obtain ⟨W3,e3⟩:∃ W,W2.alloc (.cells #[.int .i64 u.id,.int .i64 u.acc,.string u.name,.string u.tok,.int .i64 u.st,.int .i64 u.fr,.int .i64 u.un] 69)=W:=⟨_,rfl⟩
 try rw [e3]
 have HX3:Hid (Ext W0 W3):=Lib.hid (by rw [← e3];exact HX2.out.alloc _)
 have HB3:Hid (Blk W3 W2.heap.size 69 #[.int .i64 u.id,.int .i64 u.acc,.string u.name,.string u.tok,.int .i64 u.st,.int .i64 u.fr,.int .i64 u.un]):=Lib.hid (by rw [← e3];exact Blk.new _ _ _)
 have HS2:Hid (W0.heap.size≤W2.heap.size):=Lib.hid HX2.out.size
 clear e3 m3 y6 r0 r1 r2 r3 r4 r5 r6
 have s4:=HB3.out.cell 4
 by_cases t1:u.st=1∨u.st=4
 case neg =>
  have HR:=Lib.hid (HRS2.out.trans (if_pos (show u.st≠1∧u.st≠4 from ⟨fun e=>t1 (.inl e),fun e=>t1 (.inr e)⟩)))
  have e1:(u.st != 1)=true:=by simp;exact fun e=>t1 (.inl e)
  have e2:(u.st != 4)=true:=by simp;exact fun e=>t1 (.inr e)
  clear t1
  have b2:=ext_blk (HX3.out) HB2.out
  obtain ⟨z0,z1,z2,z3,z4,z5,f0,f1,f2,f3,f4,f5⟩:=st6 b2
  have BB:=Lib.hid (blk6 b2 (.int .i64 0) (.slice none 0 0) (.slice none 0 0) (.slice none 0 0) (.slice none 0 0) (.int .i64 0))
  clear b2
  go_wp2
  rw [HR.out]
  obtain ⟨r0,r1,r2,r3,r4,r5⟩:=arr6f BB.out
  refine bodyPost_ret (v:=.tuple #[.agg #[.int .i64 0,.slice none 0 0,.slice none 0 0,.slice none 0 0,.slice none 0 0,.int .i64 0],.int .i64 0,.int .i64 221]) (by simp [results,Tryz.results59,go_sem,r0,r1,r2,r3,r4,r5]) rfl (outD_bad rfl (ext6 (HX0.out.trans (HX3.out)) (by omega) _ _ _ _ _ _))
 have HR:=Lib.hid (HRS2.out.trans (if_neg (show ¬ (u.st≠1∧u.st≠4) from fun h=>by rcases t1 with e|e;exact h.1 e;exact h.2 e)))
 have fz:=HB3.out.frozen 4
 go_cut [47] (fun s47 wx=>s47=.bool false∧wx=W3)
 case first =>
  by_cases t2:u.st=1
  ·have e1:(u.st != 1)=false:=by simp [t2]
   clear t1 t2
   go_wp2
   go_meet
   exact ⟨rfl,rfl⟩
  ·have e1:(u.st != 1)=true:=by simp [t2]
   have e2:(u.st != 4)=false:=by rcases t1 with e|e;exact absurd e t2;simp [e]
   clear t1 t2
   go_wp2
   go_meet
   exact ⟨rfl,rfl⟩
 obtain ⟨rfl,hwc⟩:=hcut
 rw [hwc]
 clear hwc t1
 go_upto_region 7 with (fail)
 obtain ⟨W4,e4⟩:∃ W,W=W3.setCell ⟨W2.heap.size,4,none⟩ (.int .i64 2):=⟨_,rfl⟩
 rw [← e4]
 have HB4:Hid (Blk W4 W2.heap.size 69 #[.int .i64 u.id,.int .i64 u.acc,.string u.name,.string u.tok,.int .i64 2,.int .i64 u.fr,.int .i64 u.un]):=Lib.hid (by rw [e4];exact HB3.out.set_ 4 _)
 have HX4:Hid (Ext W0 W4):=Lib.hid (by rw [e4];exact HX3.out.setCell HS2.out _)
 have HFL:=Lib.hid ((HW.out.ext HX4.out).uw u (List.mem_of_getElem? HU.out))
 clear e4
 have cW:∀ W,Ext W4 W→Calls Tryz.prog 73 #[.agg #[.int .i64 d.next,.slice d.oA d.opn.length d.oc,.slice d.cA d.accs.length d.cc,.slice d.uA d.auts.length d.uc,.slice d.rA d.ords.length d.rc,.int .i64 d.ser],.agg #[.int .i64 u.id,.int .i64 u.acc,.string u.name,.string u.tok,.int .i64 2,.int .i64 u.fr,.int .i64 u.un]] W (outR d { d.fro with auts:=d.auts.set k { u with st:=2 } } W):=fun W x=>by
  have hkk:=(List.getElem?_eq_some_iff.1 HU.out).1
  have hW4:=HW.out.ext (HX4.out.trans x)
  have hidu:u.id=(k:Int)+1:=HIDU.out
  exact rwithAuth_any d { u with st:=2 } k hkk (by have:=HU9.out;omega) hidu W hW4 ⟨HFL.out.id,HFL.out.acc,wf64_of (by simp) (by simp),HFL.out.fr,HFL.out.un,HFL.out.name,HFL.out.tok⟩
  
 unfold outR frontV at cW
 obtain ⟨m0,m1,m2,m3,m4,m5⟩:=arr6f (ext_blk HX4.out HB0.out)
 obtain ⟨p0,p1,p2,p3,p4,p5,p6⟩:=arr7q HB4.out
 have y6:=(ext_blk HX4.out HB1.out).cell 6
 have HC:Hid (∀ W,Ext W4 W→(W.cell? ⟨w.heap.size,0,none⟩=some (.int .i64 d.next)∧W.cell? ⟨w.heap.size,1,none⟩=some (.slice d.oA d.opn.length d.oc)∧W.cell? ⟨w.heap.size,2,none⟩=some (.slice d.cA d.accs.length d.cc)∧W.cell? ⟨w.heap.size,3,none⟩=some (.slice d.uA d.auts.length d.uc)∧W.cell? ⟨w.heap.size,4,none⟩=some (.slice d.rA d.ords.length d.rc)∧W.cell? ⟨w.heap.size,5,none⟩=some (.int .i64 d.ser)∧W.cell? ⟨W2.heap.size,0,none⟩=some (.int .i64 u.id)∧W.cell? ⟨W2.heap.size,1,none⟩=some (.int .i64 u.acc)∧W.cell? ⟨W2.heap.size,2,none⟩=some (.string u.name)∧W.cell? ⟨W2.heap.size,3,none⟩=some (.string u.tok)∧W.cell? ⟨W2.heap.size,4,none⟩=some (.int .i64 2)∧W.cell? ⟨W2.heap.size,5,none⟩=some (.int .i64 u.fr)∧W.cell? ⟨W2.heap.size,6,none⟩=some (.int .i64 u.un)∧W.cell? ⟨w.heap.size+1,6,none⟩=some (.int .i64 q.id))):=Lib.hid fun W x=>⟨x.cell m0,x.cell m1,x.cell m2,x.cell m3,x.cell m4,x.cell m5,x.cell p0,x.cell p1,x.cell p2,x.cell p3,x.cell p4,x.cell p5,x.cell p6,x.cell y6⟩
 clear m0 m1 m2 m3 m4 m5 p0 p1 p2 p3 p4 p5 p6 y6
 refine E_start (n:=8) (ls:=#[false,false,false,false,false,false,false,false]) (fun w'=>w'.cell? ⟨w.heap.size,0,none⟩=some (.int .i64 d.next)∧w'.cell? ⟨w.heap.size,1,none⟩=some (.slice d.oA d.opn.length d.oc)∧w'.cell? ⟨w.heap.size,2,none⟩=some (.slice d.cA d.accs.length d.cc)∧w'.cell? ⟨w.heap.size,3,none⟩=some (.slice d.uA d.auts.length d.uc)∧w'.cell? ⟨w.heap.size,4,none⟩=some (.slice d.rA d.ords.length d.rc)∧w'.cell? ⟨w.heap.size,5,none⟩=some (.int .i64 d.ser)∧w'.cell? ⟨W2.heap.size,0,none⟩=some (.int .i64 u.id)∧w'.cell? ⟨W2.heap.size,1,none⟩=some (.int .i64 u.acc)∧w'.cell? ⟨W2.heap.size,2,none⟩=some (.string u.name)∧w'.cell? ⟨W2.heap.size,3,none⟩=some (.string u.tok)∧w'.cell? ⟨W2.heap.size,4,none⟩=some (.int .i64 2)∧w'.cell? ⟨W2.heap.size,5,none⟩=some (.int .i64 u.fr)∧w'.cell? ⟨W2.heap.size,6,none⟩=some (.int .i64 u.un)∧w'.cell? ⟨w.heap.size+1,6,none⟩=some (.int .i64 q.id)) 7 (by kernel_rfl) (by kernel_rfl) (by kernel_rfl) (HC.out _ (Ext.refl W4).drew) (fun hHeld=>?_)
 refine E_tk (i:=0) (some 50) (v:=?_) rfl rfl (by kernel_rfl) hHeld (fun w hSw=>?_) ?_;rotate_left 1
 ·(try dsimp only at hSw);go_simp;try with_reducible rfl
 try simp only [Act.put,zpA,zpB,zpC]
 refine E_tk (i:=1) (some 51) (v:=?_) rfl rfl (by kernel_rfl) hHeld (fun w hSw=>?_) ?_;rotate_left 1
 ·(try dsimp only at hSw);go_simp;try with_reducible rfl
 try simp only [Act.put,zpA,zpB,zpC]
 refine E_tk (i:=3) (some 53) (v:=?_) rfl rfl (by kernel_rfl) hHeld (fun w hSw=>?_) ?_;rotate_left 1
 ·(try dsimp only at hSw);go_simp;try with_reducible rfl
 try simp only [Act.put,zpA,zpB,zpC]
 refine E_tk (i:=4) (some 54) (v:=?_) rfl rfl (by kernel_rfl) hHeld (fun w hSw=>?_) ?_;rotate_left 1
 ·(try dsimp only at hSw);go_simp;try with_reducible rfl
 try simp only [Act.put,zpA,zpB,zpC]
 refine E_on (i:=2) rfl (by kernel_rfl) (by kernel_rfl) (fun K hK=>?_)
 go_simp
 go_at_call 73
 refine (cW _ (Ext.refl W4).drew).mono ?_
 rintro e w5 ⟨d5,rfl,hf5,hw5,hl5,x5⟩
 have X5:Ext W4 w5:=(Ext.refl W4).drew.trans x5
 replace hHeld:=HC.out _ X5
 refine hK _ _ (fun _=>hHeld) ?_
 clear hK K
 try simp only [Act.put,zpA,zpB,zpC]
 refine E_on (i:=5) rfl (by kernel_rfl) (by kernel_rfl) (fun K hK=>?_)
 have b2:=ext_blk (HX4.out.trans X5) HB2.out
 obtain ⟨z0,z1,z2,z3,z4,z5,f0,f1,f2,f3,f4,f5⟩:=st6 b2
 have BB:=Lib.hid (blk6 b2 (.int .i64 d5.next) (.slice d5.oA d5.opn.length d5.oc) (.slice d5.cA d5.accs.length d5.cc) (.slice d5.uA d5.auts.length d5.uc) (.slice d5.rA d5.ords.length d5.rc) (.int .i64 d5.ser))
 have hsz:=HSZ.out
 have hs2:=HS2.out
 have u_:=far6 (ext_blk (HX4.out.trans X5) HB0.out) (b:=w.heap.size+2) (by omega) (.int .i64 d5.next) (.slice d5.oA d5.opn.length d5.oc) (.slice d5.cA d5.accs.length d5.cc) (.slice d5.uA d5.auts.length d5.uc) (.slice d5.rA d5.ords.length d5.rc) (.int .i64 d5.ser)
 have v_:=far6 (ext_blk X5 HB4.out) (b:=w.heap.size+2) (by omega) (.int .i64 d5.next) (.slice d5.oA d5.opn.length d5.oc) (.slice d5.cA d5.accs.length d5.cc) (.slice d5.uA d5.auts.length d5.uc) (.slice d5.rA d5.ords.length d5.rc) (.int .i64 d5.ser)
 have t_:=far6 (ext_blk (HX4.out.trans X5) HB1.out) (b:=w.heap.size+2) (by omega) (.int .i64 d5.next) (.slice d5.oA d5.opn.length d5.oc) (.slice d5.cA d5.accs.length d5.cc) (.slice d5.uA d5.auts.length d5.uc) (.slice d5.rA d5.ords.length d5.rc) (.int .i64 d5.ser)
 have U:=Lib.hid u_
 have V:=Lib.hid v_
 have T:=Lib.hid t_
 clear b2 u_ v_ t_ hsz hs2
 go_simp
 replace hHeld:=And.intro (U.out.cell 0) (And.intro (U.out.cell 1) (And.intro (U.out.cell 2) (And.intro (U.out.cell 3) (And.intro (U.out.cell 4) (And.intro (U.out.cell 5) (And.intro (V.out.cell 0) (And.intro (V.out.cell 1) (And.intro (V.out.cell 2) (And.intro (V.out.cell 3) (And.intro (V.out.cell 4) (And.intro (V.out.cell 5) (And.intro (V.out.cell 6) ((T.out.cell 6))))))))))))))
 refine hK _ _ (fun _=>hHeld) ?_
 clear hK K
 try simp only [Act.put,zpA,zpB,zpC]
 refine E_on (i:=6) rfl (by kernel_rfl) (by kernel_rfl) (fun K hK=>?_)
 go_simp
 refine hK _ _ (fun _=>hHeld) ?_
 clear hK K
 try simp only [Act.put,zpA,zpB,zpC]
 refine E_on (i:=7) rfl (by kernel_rfl) (by kernel_rfl) (fun K hK=>?_)
 go_simp
 refine hK _ _ (fun h=>absurd rfl h) ?_
 clear hK K
 try simp only [Act.put,zpA,zpB,zpC]
 refine E_done (by kernel_rfl) ?_
 (try clear hHeld)
 go_wp2
 rw [HR.out]
 obtain ⟨r0,r1,r2,r3,r4,r5⟩:=arr6f BB.out
 have hsz:=HSZ.out
 have h4:=HX4.out.size
 refine bodyPost_ret (v:=.tuple #[.agg #[.int .i64 d5.next,.slice d5.oA d5.opn.length d5.oc,.slice d5.cA d5.accs.length d5.cc,.slice d5.uA d5.auts.length d5.uc,.slice d5.rA d5.ords.length d5.rc,.int .i64 d5.ser],.int .i64 q.id,.int .i64 0]) (by simp [results,Tryz.results59,go_sem,r0,r1,r2,r3,r4,r5]) rfl ⟨d5,rfl,?_,hw5.grownTo ((hl5 _ HW_.out.lies).mono (fun b hb=>by rcases hb with hb|hb;exact (by omega:b≠w.heap.size+2);exact (by have h5:W4.heap.size≤b:=hb;omega:b≠w.heap.size+2))) (grown6 w5 (w.heap.size+2) (.int .i64 d5.next) (.slice d5.oA d5.opn.length d5.oc) (.slice d5.cA d5.accs.length d5.cc) (.slice d5.uA d5.auts.length d5.uc) (.slice d5.rA d5.ords.length d5.rc) (.int .i64 d5.ser)),fun S hS=>(hl5 S hS).mono (fun b hb=>by rcases hb with hb|hb;exact .inl hb;exact .inr (by have h5:W4.heap.size≤b:=hb;omega)),ext6 (HX0.out.trans (HX4.out.trans X5)) (by omega) (.int .i64 d5.next) (.slice d5.oA d5.opn.length d5.oc) (.slice d5.cA d5.accs.length d5.cc) (.slice d5.uA d5.auts.length d5.uc) (.slice d5.rA d5.ords.length d5.rc) (.int .i64 d5.ser)⟩
 rw [hf5]
 rfl
theorem issue_none {f:FroR} {q:QueR} {now:Int} (h:q.id<1∨(f.ords.length:Int)<q.id):issF f q now=bad 131:=by
 unfold issF
 by_cases h1:q.id<1
 ·rw [if_pos h1]
 ·rw [if_neg h1,List.getElem?_eq_none (by omega)]
theorem issue_some {f:FroR} {q:QueR} {now:Int} {k:Nat} {u:OrdR} (h:q.id=(k:Int)+1) (hu:f.ords[k]?=some u):issF f q now=if u.acc≠q.acc then bad 131 else if u.st≠1∨holdsF f.auts u.auths now=false then bad 221 else ({ f with ords:=f.ords.set k { u with st:=2 } },q.id,0):=by
 unfold issF
 have e:q.id.toNat-1=k:=by omega
 rw [if_neg (by omega),e,hu]
theorem rissue_any (d:DoorX) (q:QueR) (A:Option Addr) (c:Nat) (now:Int) (w:World) (hw:DoorW w w.heap.size d) (hq:QueW w w.heap.size q A c) (hu9:d.auts.length<99) (hr9:d.ords.length<99) (hidx:∀ x∈d.ords,∀ n∈x.o.auths,1≤n∧n≤d.auts.length) (hids:∀ (k:Nat) (u:OrdX),d.ords[k]?=some u→u.o.id=(k:Int)+1) :
  Calls Tryz.prog 60 #[frontV d,queV q A c,.int .i64 now] w (outD d (issF d.fro q now) w):=by
 obtain ⟨W1,W0,e0,e1,b0,b1,x1,s1,b2,x2⟩:=start3r w #[.int .i64 d.next,.slice d.oA d.opn.length d.oc,.slice d.cA d.accs.length d.cc,.slice d.uA d.auts.length d.uc,.slice d.rA d.ords.length d.rc,.int .i64 d.ser] #[.int .i64 q.kind,.int .i64 q.acc,.int .i64 q.nonce,.int .u64 (q.key:Int),.slice A q.names.length c,.int .i64 q.life,.int .i64 q.id,.int .u64 (q.e:Int),.int .u64 (q.s:Int)] #[.int .i64 0,.slice none 0 0,.slice none 0 0,.slice none 0 0,.slice none 0 0,.int .i64 0] 43 27 43
 have HW:=Lib.hid (hw.ext (x1.trans x2))
 have HW_:=Lib.hid hw
 have hid64:=wf64_out hq.id
 have HB0:=Lib.hid (ext_blk x2 b0)
 have HB1:=Lib.hid (ext_blk x2 b1)
 have HB2:=Lib.hid b2
 have HX0:=Lib.hid (x1.trans x2)
 have HSZ:Hid (w.heap.size+3≤W0.heap.size):=Lib.hid (by have:=b2.lt;omega)
 have E0:=Lib.hid e0
 have HIDS:=Lib.hid hids
 have HU9:=Lib.hid hu9
 have HR9:=Lib.hid hr9
 have HI:=Lib.hid hidx
 have hlb:(d.ords.length:Int)<100:=by omega
 unfold frontV queV
 clear e0 e1 b0 b1 x1 s1 b2 x2 hw hq hids hu9 hr9 hidx
 go_enter Tryz.func60,Tryz.ntmps60
 go_upto_region 1 with (fail)
 have e0:=E0.out
 rw [e0]
 clear e0 E0
 have m4:=HB0.out.cell 4
 have y1:=HB1.out.cell 1
 have y6:=HB1.out.cell 6
 by_cases g1:q.id<1
 ·have d1:decide (q.id<1)=true:=decide_eq_true g1
  have HR:=Lib.hid (issue_none (f:=d.fro) (now:=now) (.inl g1))
  clear g1
  have j0:=fun p:Later W0=>p.cell y1
  have j1:=fun p:Later W0=>p.cell y6
  have j2:=fun p:Later W0=>p.cell m4
  try (have j3:=fun p:Later W0=>p.cell r1)
  refine wp_region_later (by kernel_rfl) (by kernel_rfl) ?_
  repeat (go_big_quiet_step ((fail)))
  refine wpQuiet_nil ?_
  rintro W2 ⟨p,hp⟩
  have HX2:Hid (Ext W0 W2):=Lib.hid (by rw [hp];exact p.ext)
  clear hp p j0 j1 j2
  (try clear j3)
  have b2:=ext_blk (HX2.out) HB2.out
  obtain ⟨z0,z1,z2,z3,z4,z5,f0,f1,f2,f3,f4,f5⟩:=st6 b2
  have BB:=Lib.hid (blk6 b2 (.int .i64 0) (.slice none 0 0) (.slice none 0 0) (.slice none 0 0) (.slice none 0 0) (.int .i64 0))
  clear b2
  go_wp2
  rw [HR.out]
  obtain ⟨r0,r1,r2,r3,r4,r5⟩:=arr6f BB.out
  refine bodyPost_ret (v:=.tuple #[.agg #[.int .i64 0,.slice none 0 0,.slice none 0 0,.slice none 0 0,.slice none 0 0,.int .i64 0],.int .i64 0,.int .i64 131]) (by simp [results,Tryz.results60,go_sem,r0,r1,r2,r3,r4,r5]) rfl (outD_bad rfl (ext6 (HX0.out.trans (HX2.out)) (by omega) _ _ _ _ _ _))
 have d1:decide (q.id<1)=false:=decide_eq_false g1
 by_cases g2:(d.ords.length:Int)<q.id
 ·have d2:decide ((d.ords.length:Int)<q.id)=true:=decide_eq_true g2
  have HR:=Lib.hid (issue_none (f:=d.fro) (q:=q) (now:=now) (.inr (by rw [dfro_ords,List.length_map];exact g2)))
  clear g1 g2
  have j0:=fun p:Later W0=>p.cell y1
  have j1:=fun p:Later W0=>p.cell y6
  have j2:=fun p:Later W0=>p.cell m4
  try (have j3:=fun p:Later W0=>p.cell r1)
  refine wp_region_later (by kernel_rfl) (by kernel_rfl) ?_
  repeat (go_big_quiet_step ((fail)))
  refine wpQuiet_nil ?_
  rintro W2 ⟨p,hp⟩
  have HX2:Hid (Ext W0 W2):=Lib.hid (by rw [hp];exact p.ext)
  clear hp p j0 j1 j2
  (try clear j3)
  have b2:=ext_blk (HX2.out) HB2.out
  obtain ⟨z0,z1,z2,z3,z4,z5,f0,f1,f2,f3,f4,f5⟩:=st6 b2
  have BB:=Lib.hid (blk6 b2 (.int .i64 0) (.slice none 0 0) (.slice none 0 0) (.slice none 0 0) (.slice none 0 0) (.int .i64 0))
  clear b2
  go_wp2
  rw [HR.out]
  obtain ⟨r0,r1,r2,r3,r4,r5⟩:=arr6f BB.out
  refine bodyPost_ret (v:=.tuple #[.agg #[.int .i64 0,.slice none 0 0,.slice none 0 0,.slice none 0 0,.slice none 0 0,.int .i64 0],.int .i64 0,.int .i64 131]) (by simp [results,Tryz.results60,go_sem,r0,r1,r2,r3,r4,r5]) rfl (outD_bad rfl (ext6 (HX0.out.trans (HX2.out)) (by omega) _ _ _ _ _ _))
 have d2:decide ((d.ords.length:Int)<q.id)=false:=decide_eq_false g2
 obtain ⟨k,hk⟩:∃ k:Nat,q.id=(k:Int)+1:=⟨(q.id-1).toNat,by omega⟩
 obtain ⟨u,hu⟩:∃ u,d.ords[k]?=some u:=⟨_,List.getElem?_eq_getElem (by omega)⟩
 have HRS:=Lib.hid (issue_some (f:=d.fro) (now:=now) hk (show d.fro.ords[k]?=some u.o by rw [dfro_ords,List.getElem?_map,hu];rfl))
 obtain ⟨ad,hA,hlA,r0,r1,r2,r3,r4,r5,r6,r7⟩:=reads_ord HW.out.ord hu
 rw [hA] at m4
 have kid:IntKind.i64.wrap (q.id-1)=(k:Int):=by rw [IntKind.wrap_i64];omega
 have hkl:(k:Int)<(d.ords.length:Int):=by omega
 have hkb:(k:Int)<100:=by omega
 have HK:=Lib.hid hk
 have HIDU:Hid (u.o.id=(k:Int)+1):=Lib.hid (HIDS.out k u hu)
 have HU:=Lib.hid hu
 clear hk hu hA hlA g1 g2
 by_cases g3:u.o.acc=q.acc
 case neg =>
  have d3:(u.o.acc != q.acc)=true:=by simp [g3]
  have HR:=Lib.hid (HRS.out.trans (if_pos g3))
  clear g3
  have j0:=fun p:Later W0=>p.cell y1
  have j1:=fun p:Later W0=>p.cell y6
  have j2:=fun p:Later W0=>p.cell m4
  try (have j3:=fun p:Later W0=>p.cell r1)
  refine wp_region_later (by kernel_rfl) (by kernel_rfl) ?_
  repeat (go_big_quiet_step ((fail)))
  refine wpQuiet_nil ?_
  rintro W2 ⟨p,hp⟩
  have HX2:Hid (Ext W0 W2):=Lib.hid (by rw [hp];exact p.ext)
  clear hp p j0 j1 j2
  (try clear j3)
  clear r0 r1 r2 r3 r4 r5 r6 r7
  have b2:=ext_blk (HX2.out) HB2.out
  obtain ⟨z0,z1,z2,z3,z4,z5,f0,f1,f2,f3,f4,f5⟩:=st6 b2
  have BB:=Lib.hid (blk6 b2 (.int .i64 0) (.slice none 0 0) (.slice none 0 0) (.slice none 0 0) (.slice none 0 0) (.int .i64 0))
  clear b2
  go_wp2
  rw [HR.out]
  obtain ⟨r0,r1,r2,r3,r4,r5⟩:=arr6f BB.out
  refine bodyPost_ret (v:=.tuple #[.agg #[.int .i64 0,.slice none 0 0,.slice none 0 0,.slice none 0 0,.slice none 0 0,.int .i64 0],.int .i64 0,.int .i64 131]) (by simp [results,Tryz.results60,go_sem,r0,r1,r2,r3,r4,r5]) rfl (outD_bad rfl (ext6 (HX0.out.trans (HX2.out)) (by omega) _ _ _ _ _ _))
 have d3:(u.o.acc != q.acc)=false:=by simp [g3]
 have HRS2:=Lib.hid (HRS.out.trans (if_neg (by simp [g3])))
 clear g3
 have j0:=fun p:Later W0=>p.cell y1
 have j1:=fun p:Later W0=>p.cell y6
 have j2:=fun p:Later W0=>p.cell m4
 try (have j3:=fun p:Later W0=>p.cell r1)
 refine wp_region_later (by kernel_rfl) (by kernel_rfl) ?_
 repeat (go_big_quiet_step ((fail)))
 refine wpQuiet_nil ?_
 rintro W2 ⟨p,hp⟩
 have HX2:Hid (Ext W0 W2):=Lib.hid (by rw [hp];exact p.ext)
 clear hp p j0 j1 j2
 (try clear j3)
 clear r0 r1 r2 r3 r4 r5 r6 r7 d1 d2 d3 m4 y1 y6
 have m4:=(ext_blk HX2.out HB0.out).cell 4
 have y6:=(ext_blk HX2.out HB1.out).cell 6
 obtain ⟨ad2,hA2,hlA2,r0,r1,r2,r3,r4,r5,r6,r7⟩:=reads_ord (HW.out.ext HX2.out).ord HU.out
 rw [hA2] at m4
 clear hA2 hlA2
 go_upto_region 4 with (fail)
 obtain ⟨W3,e3⟩:∃ W,W2.alloc (.cells #[.int .i64 u.o.id,.int .i64 u.o.acc,.slice u.nA u.o.names.length u.nc,.int .u64 (u.o.key:Int),.int .i64 u.o.life,.slice u.aA u.o.auths.length u.ac,.int .i64 u.o.st,.int .i64 u.o.ser] 78)=W:=⟨_,rfl⟩
 try rw [e3]
 have HX3:Hid (Ext W0 W3):=Lib.hid (by rw [← e3];exact HX2.out.alloc _)
 have HB3:Hid (Blk W3 W2.heap.size 78 #[.int .i64 u.o.id,.int .i64 u.o.acc,.slice u.nA u.o.names.length u.nc,.int .u64 (u.o.key:Int),.int .i64 u.o.life,.slice u.aA u.o.auths.length u.ac,.int .i64 u.o.st,.int .i64 u.o.ser]):=Lib.hid (by rw [← e3];exact Blk.new _ _ _)
 have HS2:Hid (W0.heap.size≤W2.heap.size):=Lib.hid HX2.out.size
 clear e3 m4 y6 r0 r1 r2 r3 r4 r5 r6 r7
 have s6:=HB3.out.cell 6
 have cL:=fun W (x:Ext W3 W)=>rall_any d u now (HI.out u (List.mem_of_getElem? HU.out)) HU9.out W (HW.out.ext (HX3.out.trans x)) ((HW.out.ext (HX3.out.trans x)).rw u (List.mem_of_getElem? HU.out))
 unfold frontV ordAgg at cL
 obtain ⟨m0,m1,m2,m3,m4,m5⟩:=arr6f (ext_blk HX3.out HB0.out)
 obtain ⟨s0,s1,s2,s3,s4,s5,s6,s7⟩:=arr8 HB3.out
 by_cases t1:u.o.st=1
 case neg =>
  have HR:=Lib.hid (HRS2.out.trans (if_pos (.inl t1)))
  have e1:(u.o.st != 1)=true:=by simp [t1]
  clear t1 cL
  have b2:=ext_blk (HX3.out) HB2.out
  obtain ⟨z0,z1,z2,z3,z4,z5,f0,f1,f2,f3,f4,f5⟩:=st6 b2
  have BB:=Lib.hid (blk6 b2 (.int .i64 0) (.slice none 0 0) (.slice none 0 0) (.slice none 0 0) (.slice none 0 0) (.int .i64 0))
  clear b2
  go_wp2
  rw [HR.out]
  obtain ⟨r0,r1,r2,r3,r4,r5⟩:=arr6f BB.out
  refine bodyPost_ret (v:=.tuple #[.agg #[.int .i64 0,.slice none 0 0,.slice none 0 0,.slice none 0 0,.slice none 0 0,.int .i64 0],.int .i64 0,.int .i64 221]) (by simp [results,Tryz.results60,go_sem,r0,r1,r2,r3,r4,r5]) rfl (outD_bad rfl (ext6 (HX0.out.trans (HX3.out)) (by omega) _ _ _ _ _ _))
 have e1:(u.o.st != 1)=false:=by simp [t1]
 cases t2:holdsF d.auts u.o.auths now
 ·have HR:=Lib.hid (HRS2.out.trans (if_pos (.inr t2)))
  rw [t2] at cL
  clear t1 t2
  have b2:=fun W (x:Ext W3 W)=>ext_blk (HX3.out.trans x) HB2.out
  go_upto_region 5 with (go_at_call 77;refine (cL _ (Ext.refl W3)).mono ?_;clear cL;rintro e w5 ⟨rfl,x5⟩)
  have HX5:=Lib.hid (HX3.out.trans x5)
  clear b2 m0 m1 m2 m3 m4 m5 s0 s1 s2 s3 s4 s5 s6 s7 x5
  have b2:=ext_blk (HX5.out) HB2.out
  obtain ⟨z0,z1,z2,z3,z4,z5,f0,f1,f2,f3,f4,f5⟩:=st6 b2
  have BB:=Lib.hid (blk6 b2 (.int .i64 0) (.slice none 0 0) (.slice none 0 0) (.slice none 0 0) (.slice none 0 0) (.int .i64 0))
  clear b2
  go_wp2
  rw [HR.out]
  obtain ⟨r0,r1,r2,r3,r4,r5⟩:=arr6f BB.out
  refine bodyPost_ret (v:=.tuple #[.agg #[.int .i64 0,.slice none 0 0,.slice none 0 0,.slice none 0 0,.slice none 0 0,.int .i64 0],.int .i64 0,.int .i64 221]) (by simp [results,Tryz.results60,go_sem,r0,r1,r2,r3,r4,r5]) rfl (outD_bad rfl (ext6 (HX0.out.trans (HX5.out)) (by omega) _ _ _ _ _ _))
 have HR:=Lib.hid (HRS2.out.trans (if_neg (by rintro (h|h);exact h t1;exact absurd (t2.symm.trans h) (by decide))))
 rw [t2] at cL
 clear t1 t2
 go_upto_region 6 with (go_at_call 77;refine (cL _ (Ext.refl W3)).mono ?_;clear cL;rintro e w5 ⟨rfl,x5⟩)
 obtain ⟨W3b,hW3b⟩:∃ W,W=w5:=⟨_,rfl⟩
 rw [← hW3b] at x5 ⊢
 have HB3:=Lib.hid (ext_blk x5 HB3.out)
 have HX3:=Lib.hid (HX3.out.trans x5)
 clear m0 m1 m2 m3 m4 m5 s0 s1 s2 s3 s4 s5 s6 s7 x5 hW3b
 obtain ⟨W3,hW3⟩:∃ W,W=W3b:=⟨_,rfl⟩
 rw [← hW3] at HB3 HX3 ⊢
 clear hW3
 have s6:=HB3.out.cell 6
 have fz:=HB3.out.frozen 6
 go_upto_region 7 with (fail)
 obtain ⟨W4,e4⟩:∃ W,W=W3.setCell ⟨W2.heap.size,6,none⟩ (.int .i64 2):=⟨_,rfl⟩
 rw [← e4]
 have HB4:Hid (Blk W4 W2.heap.size 78 #[.int .i64 u.o.id,.int .i64 u.o.acc,.slice u.nA u.o.names.length u.nc,.int .u64 (u.o.key:Int),.int .i64 u.o.life,.slice u.aA u.o.auths.length u.ac,.int .i64 2,.int .i64 u.o.ser]):=Lib.hid (by rw [e4];exact HB3.out.set_ 6 _)
 have HX4:Hid (Ext W0 W4):=Lib.hid (by rw [e4];exact HX3.out.setCell HS2.out _)
 have HFL:=Lib.hid ((HW.out.ext HX4.out).rw u (List.mem_of_getElem? HU.out))
 clear e4
 have cW:∀ W,Ext W4 W→Calls Tryz.prog 79 #[.agg #[.int .i64 d.next,.slice d.oA d.opn.length d.oc,.slice d.cA d.accs.length d.cc,.slice d.uA d.auts.length d.uc,.slice d.rA d.ords.length d.rc,.int .i64 d.ser],.agg #[.int .i64 u.o.id,.int .i64 u.o.acc,.slice u.nA u.o.names.length u.nc,.int .u64 (u.o.key:Int),.int .i64 u.o.life,.slice u.aA u.o.auths.length u.ac,.int .i64 2,.int .i64 u.o.ser]] W (outR d { d.fro with ords:=(d.ords.map (·.o)).set k { u.o with st:=2 } } W):=fun W x=>by
  have hkk:=(List.getElem?_eq_some_iff.1 HU.out).1
  have hW4:=HW.out.ext (HX4.out.trans x)
  have hidu:u.o.id=(k:Int)+1:=HIDU.out
  have xw:=HFL.out.ext x
  exact rwithOrder_any d { u with o:={ u.o with st:=2 } } k hkk (by have:=HR9.out;omega) hidu W hW4 ⟨xw.id,xw.acc,xw.key,xw.life,wf64_of (by simp) (by simp),xw.ser,xw.names,xw.nc,xw.nl,xw.ns,xw.auths,xw.ac,xw.al,xw.aw⟩ (fun S hS=>⟨hS.n u (List.mem_of_getElem? HU.out),hS.a u (List.mem_of_getElem? HU.out)⟩)
 unfold outR frontV at cW
 obtain ⟨m0,m1,m2,m3,m4,m5⟩:=arr6f (ext_blk HX4.out HB0.out)
 obtain ⟨p0,p1,p2,p3,p4,p5,p6,p7⟩:=arr8 HB4.out
 have y6:=(ext_blk HX4.out HB1.out).cell 6
 have HC:Hid (∀ W,Ext W4 W→(W.cell? ⟨w.heap.size,0,none⟩=some (.int .i64 d.next)∧W.cell? ⟨w.heap.size,1,none⟩=some (.slice d.oA d.opn.length d.oc)∧W.cell? ⟨w.heap.size,2,none⟩=some (.slice d.cA d.accs.length d.cc)∧W.cell? ⟨w.heap.size,3,none⟩=some (.slice d.uA d.auts.length d.uc)∧W.cell? ⟨w.heap.size,4,none⟩=some (.slice d.rA d.ords.length d.rc)∧W.cell? ⟨w.heap.size,5,none⟩=some (.int .i64 d.ser)∧W.cell? ⟨W2.heap.size,0,none⟩=some (.int .i64 u.o.id)∧W.cell? ⟨W2.heap.size,1,none⟩=some (.int .i64 u.o.acc)∧W.cell? ⟨W2.heap.size,2,none⟩=some (.slice u.nA u.o.names.length u.nc)∧W.cell? ⟨W2.heap.size,3,none⟩=some (.int .u64 (u.o.key:Int))∧W.cell? ⟨W2.heap.size,4,none⟩=some (.int .i64 u.o.life)∧W.cell? ⟨W2.heap.size,5,none⟩=some (.slice u.aA u.o.auths.length u.ac)∧W.cell? ⟨W2.heap.size,6,none⟩=some (.int .i64 2)∧W.cell? ⟨W2.heap.size,7,none⟩=some (.int .i64 u.o.ser)∧W.cell? ⟨w.heap.size+1,6,none⟩=some (.int .i64 q.id))):=Lib.hid fun W x=>⟨x.cell m0,x.cell m1,x.cell m2,x.cell m3,x.cell m4,x.cell m5,x.cell p0,x.cell p1,x.cell p2,x.cell p3,x.cell p4,x.cell p5,x.cell p6,x.cell p7,x.cell y6⟩
 clear m0 m1 m2 m3 m4 m5 p0 p1 p2 p3 p4 p5 p6 p7 y6
 refine E_start (n:=8) (ls:=#[false,false,false,false,false,false,false,false]) (fun w'=>w'.cell? ⟨w.heap.size,0,none⟩=some (.int .i64 d.next)∧w'.cell? ⟨w.heap.size,1,none⟩=some (.slice d.oA d.opn.length d.oc)∧w'.cell? ⟨w.heap.size,2,none⟩=some (.slice d.cA d.accs.length d.cc)∧w'.cell? ⟨w.heap.size,3,none⟩=some (.slice d.uA d.auts.length d.uc)∧w'.cell? ⟨w.heap.size,4,none⟩=some (.slice d.rA d.ords.length d.rc)∧w'.cell? ⟨w.heap.size,5,none⟩=some (.int .i64 d.ser)∧w'.cell? ⟨W2.heap.size,0,none⟩=some (.int .i64 u.o.id)∧w'.cell? ⟨W2.heap.size,1,none⟩=some (.int .i64 u.o.acc)∧w'.cell? ⟨W2.heap.size,2,none⟩=some (.slice u.nA u.o.names.length u.nc)∧w'.cell? ⟨W2.heap.size,3,none⟩=some (.int .u64 (u.o.key:Int))∧w'.cell? ⟨W2.heap.size,4,none⟩=some (.int .i64 u.o.life)∧w'.cell? ⟨W2.heap.size,5,none⟩=some (.slice u.aA u.o.auths.length u.ac)∧w'.cell? ⟨W2.heap.size,6,none⟩=some (.int .i64 2)∧w'.cell? ⟨W2.heap.size,7,none⟩=some (.int .i64 u.o.ser)∧w'.cell? ⟨w.heap.size+1,6,none⟩=some (.int .i64 q.id)) 7 (by kernel_rfl) (by kernel_rfl) (by kernel_rfl) (HC.out _ (Ext.refl W4).drew) (fun hHeld=>?_)
 refine E_tk (i:=0) (some 54) (v:=?_) rfl rfl (by kernel_rfl) hHeld (fun w hSw=>?_) ?_;rotate_left 1
 ·(try dsimp only at hSw);go_simp;try with_reducible rfl
 try simp only [Act.put,zpA,zpB,zpC]
 refine E_tk (i:=1) (some 55) (v:=?_) rfl rfl (by kernel_rfl) hHeld (fun w hSw=>?_) ?_;rotate_left 1
 ·(try dsimp only at hSw);go_simp;try with_reducible rfl
 try simp only [Act.put,zpA,zpB,zpC]
 refine E_tk (i:=3) (some 57) (v:=?_) rfl rfl (by kernel_rfl) hHeld (fun w hSw=>?_) ?_;rotate_left 1
 ·(try dsimp only at hSw);go_simp;try with_reducible rfl
 try simp only [Act.put,zpA,zpB,zpC]
 refine E_tk (i:=4) (some 58) (v:=?_) rfl rfl (by kernel_rfl) hHeld (fun w hSw=>?_) ?_;rotate_left 1
 ·(try dsimp only at hSw);go_simp;try with_reducible rfl
 try simp only [Act.put,zpA,zpB,zpC]
 refine E_on (i:=2) rfl (by kernel_rfl) (by kernel_rfl) (fun K hK=>?_)
 go_simp
 go_at_call 79
 refine (cW _ (Ext.refl W4).drew).mono ?_
 rintro e w5 ⟨d5,rfl,hf5,hw5,hl5,x5⟩
 have X5:Ext W4 w5:=(Ext.refl W4).drew.trans x5
 replace hHeld:=HC.out _ X5
 refine hK _ _ (fun _=>hHeld) ?_
 clear hK K
 try simp only [Act.put,zpA,zpB,zpC]
 refine E_on (i:=5) rfl (by kernel_rfl) (by kernel_rfl) (fun K hK=>?_)
 have b2:=ext_blk (HX4.out.trans X5) HB2.out
 obtain ⟨z0,z1,z2,z3,z4,z5,f0,f1,f2,f3,f4,f5⟩:=st6 b2
 have BB:=Lib.hid (blk6 b2 (.int .i64 d5.next) (.slice d5.oA d5.opn.length d5.oc) (.slice d5.cA d5.accs.length d5.cc) (.slice d5.uA d5.auts.length d5.uc) (.slice d5.rA d5.ords.length d5.rc) (.int .i64 d5.ser))
 have hsz:=HSZ.out
 have hs2:=HS2.out
 have u_:=far6 (ext_blk (HX4.out.trans X5) HB0.out) (b:=w.heap.size+2) (by omega) (.int .i64 d5.next) (.slice d5.oA d5.opn.length d5.oc) (.slice d5.cA d5.accs.length d5.cc) (.slice d5.uA d5.auts.length d5.uc) (.slice d5.rA d5.ords.length d5.rc) (.int .i64 d5.ser)
 have v_:=far6 (ext_blk X5 HB4.out) (b:=w.heap.size+2) (by omega) (.int .i64 d5.next) (.slice d5.oA d5.opn.length d5.oc) (.slice d5.cA d5.accs.length d5.cc) (.slice d5.uA d5.auts.length d5.uc) (.slice d5.rA d5.ords.length d5.rc) (.int .i64 d5.ser)
 have t_:=far6 (ext_blk (HX4.out.trans X5) HB1.out) (b:=w.heap.size+2) (by omega) (.int .i64 d5.next) (.slice d5.oA d5.opn.length d5.oc) (.slice d5.cA d5.accs.length d5.cc) (.slice d5.uA d5.auts.length d5.uc) (.slice d5.rA d5.ords.length d5.rc) (.int .i64 d5.ser)
 have U:=Lib.hid u_
 have V:=Lib.hid v_
 have T:=Lib.hid t_
 clear b2 u_ v_ t_ hsz hs2
 go_simp
 replace hHeld:=And.intro (U.out.cell 0) (And.intro (U.out.cell 1) (And.intro (U.out.cell 2) (And.intro (U.out.cell 3) (And.intro (U.out.cell 4) (And.intro (U.out.cell 5) (And.intro (V.out.cell 0) (And.intro (V.out.cell 1) (And.intro (V.out.cell 2) (And.intro (V.out.cell 3) (And.intro (V.out.cell 4) (And.intro (V.out.cell 5) (And.intro (V.out.cell 6) (And.intro (V.out.cell 7) ((T.out.cell 6)))))))))))))))
 refine hK _ _ (fun _=>hHeld) ?_
 clear hK K
 try simp only [Act.put,zpA,zpB,zpC]
 refine E_on (i:=6) rfl (by kernel_rfl) (by kernel_rfl) (fun K hK=>?_)
 go_simp
 refine hK _ _ (fun _=>hHeld) ?_
 clear hK K
 try simp only [Act.put,zpA,zpB,zpC]
 refine E_on (i:=7) rfl (by kernel_rfl) (by kernel_rfl) (fun K hK=>?_)
 go_simp
 refine hK _ _ (fun h=>absurd rfl h) ?_
 clear hK K
 try simp only [Act.put,zpA,zpB,zpC]
 refine E_done (by kernel_rfl) ?_
 (try clear hHeld)
 go_wp2
 rw [HR.out]
 obtain ⟨r0,r1,r2,r3,r4,r5⟩:=arr6f BB.out
 have hsz:=HSZ.out
 have h4:=HX4.out.size
 refine bodyPost_ret (v:=.tuple #[.agg #[.int .i64 d5.next,.slice d5.oA d5.opn.length d5.oc,.slice d5.cA d5.accs.length d5.cc,.slice d5.uA d5.auts.length d5.uc,.slice d5.rA d5.ords.length d5.rc,.int .i64 d5.ser],.int .i64 q.id,.int .i64 0]) (by simp [results,Tryz.results60,go_sem,r0,r1,r2,r3,r4,r5]) rfl ⟨d5,rfl,?_,hw5.grownTo ((hl5 _ HW_.out.lies).mono (fun b hb=>by rcases hb with hb|hb;exact (by omega:b≠w.heap.size+2);exact (by have h5:W4.heap.size≤b:=hb;omega:b≠w.heap.size+2))) (grown6 w5 (w.heap.size+2) (.int .i64 d5.next) (.slice d5.oA d5.opn.length d5.oc) (.slice d5.cA d5.accs.length d5.cc) (.slice d5.uA d5.auts.length d5.uc) (.slice d5.rA d5.ords.length d5.rc) (.int .i64 d5.ser)),fun S hS=>(hl5 S hS).mono (fun b hb=>by rcases hb with hb|hb;exact .inl hb;exact .inr (by have h5:W4.heap.size≤b:=hb;omega)),ext6 (HX0.out.trans (HX4.out.trans X5)) (by omega) (.int .i64 d5.next) (.slice d5.oA d5.opn.length d5.oc) (.slice d5.cA d5.accs.length d5.cc) (.slice d5.uA d5.auts.length d5.uc) (.slice d5.rA d5.ords.length d5.rc) (.int .i64 d5.ser)⟩
 rw [hf5]
 rfl
