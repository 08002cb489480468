/- Parts of the proofs, put together: Open, Open2, Or, Or2, Or3, Or4, OrM, Or5, Or6, Or7, Or8, Or10, Or11. -/
import Derived.ProofKit
import Derived.OpenShut
import Derived.ShutString
import Derived.ChangeOld
import Derived.SizedLaws
import Derived.Lib.SmallJoins
import Derived.Deep.Matrix
import Derived.ChangeSame
import Derived.Laws.RangeAny
import Derived.Test.YtbhdmfijdhcehaaGreatDoorPS
import Derived.Lib.IndexLaws
import Derived.RangeFuncNested
import Derived.RangeFuncBound
import Derived.RangeFuncCalls
import Derived.RangeFuncLeaves
import Derived.Shelf.Abstract
import Derived.Shelf.RegionOpen
import Derived.OwnWalkIn
import Derived.TacticsInMore
import Derived.LoopNIn
import Derived.LoopIn
import Derived.Lib.SliceRun
import Derived.Test.YtbhdmfijdhcehaaGreatDoorP3
import Derived.Test.YtbhdmfijdhcehaaGreatDoorP10
import Derived.Test.YtbhdmfijdhcehaaGreatDoorP12
import Derived.Test.YtbhdmfijdhcehaaGreatDoorP14
set_option maxRecDepth 100000
set_option maxHeartbeats 64000000
namespace Go.Proofs.YtbhdmfijdhcehaaGreatDoor
open Go.ChangeShapes Go.WideShapes Go.ChangeAt Go.RowKit
set_option linter.unusedSimpArgs false
set_option linter.unusedVariables false
section
variable {H:Type} {enc:TypeId × Value→H} {P:Program} {W:World}
theorem cell_lt {w:World} {p:Addr} {v:Value} (hc:w.cell? p=some v):p.block<w.heap.size:=by
 refine Nat.lt_of_not_le fun hle=>?_
 have:w.heap[p.block]?=none:=Array.getElem?_eq_none hle
 unfold World.cell? at hc
 simp [this] at hc
theorem word_of_wf {n:Int} (h:(Lit.int .u64 n).wf=true):n=((n.toNat:Nat):Int)∧n.toNat<18446744073709551616:=by
 simp [Lit.wf,IntKind.min,IntKind.max,IntKind.signed,IntKind.bits] at h
 omega
theorem mem_weightsAll {e:TypeId} {d:DataW H}:∀ {l:List (DataW H)},d∈l→∀ n∈d.weights P e,n∈DataW.weightsAll P e l
 | x :: l,hd,n,hn=>by
  rw [DataW.weightsAll,List.mem_append]
  rcases List.mem_cons.1 hd with rfl|hd
  ·exact .inl hn
  ·exact .inr (mem_weightsAll hd n hn)
end
end Go.Proofs.YtbhdmfijdhcehaaGreatDoor
namespace Go.Proofs.YtbhdmfijdhcehaaGreatDoor
open Go.RowKit Go.WideShapes Go.ChangeShapes
set_option linter.unusedSimpArgs false
set_option linter.unusedVariables false
section
variable {P:Program} {H:Type} {enc:TypeId × Value→H} {W:World}
end
end Go.Proofs.YtbhdmfijdhcehaaGreatDoor
namespace Go.Proofs.YtbhdmfijdhcehaaGreatDoor
open Go.RowKit Go.Shelf
set_option linter.unusedSimpArgs false
set_option linter.unusedVariables false
def edgeB (c:Int):Bool:=decide (97≤c∧c≤122∨48≤c∧c≤57)
theorem edge_any (c:Int) (w:World):Calls Tryz.prog 194 #[.int .i32 c] w fun e w'=>e=.returned (.bool (edgeB c))∧w'=w:=by
 go_enter Tryz.func194,Tryz.ntmps194
 by_cases h1:97≤c <;> by_cases h2:c≤122 <;> by_cases h3:48≤c <;> by_cases h4:c≤57
 all_goals
  first
  | (exfalso;omega)
  | (go_wp2;go_ret;exact ⟨by simp [edgeB, *],rfl⟩)
theorem inner_any (c:Int) (w:World):Calls Tryz.prog 195 #[.int .i32 c] w fun e w'=>e=.returned (.bool (decide (c=45) || edgeB c))∧w'=w:=by
 have c1:=edge_any c
 go_enter Tryz.func195,Tryz.ntmps195
 by_cases h1:c=45
 ·go_wp2
  go_ret
  exact ⟨by simp [h1],rfl⟩
 ·go_wp2_with (go_at_call 194;refine (c1 _).mono ?_;clear c1;rintro e w1 ⟨rfl,rfl⟩)
  go_ret
  exact ⟨by simp [h1],rfl⟩
theorem told_any (b:Bool) (w:World):Calls Tryz.prog 139 #[.bool b] w fun e w'=>e=.returned (.int .i64 (if b=true then 0 else 110))∧w'=w:=by
 go_enter Tryz.func139,Tryz.ntmps139
 cases b
 ·go_wp2
  go_ret
  exact ⟨rfl,rfl⟩
 ·go_wp2
  go_ret
  exact ⟨rfl,rfl⟩
theorem txN_get (s:ByteArray) (i:Nat) (h:i<s.size) (h':i<(txN s).length):(txN s)[i]=(s[i]'h).toNat:=by
 simp only [txN,List.getElem_map]
 rfl
theorem txN_len (s:ByteArray):(txN s).length=s.size:=by unfold txN;rw [List.length_map,Array.length_toList];rfl
def labTo (s:ByteArray) (pos:Nat):Prop:=∀ i (h:i<s.size),i<pos→okAt s.size i (s[i]'h).toNat
theorem labTo_succ {s:ByteArray} {pos:Nat} (h:pos<s.size) (k:labTo s pos) (o:okAt s.size pos (s[pos]'h).toNat):labTo s (pos+1):=fun i hi hp=>by
 by_cases e:i=pos
 ·subst e;exact o
 ·exact k i hi (by omega)
theorem lab_yes {s:ByteArray} (h1:0<s.size) (h2:s.size≤16) (k:labTo s s.size):labP (txN s):=by
 refine ⟨by rw [txN_len];exact h1,by rw [txN_len];exact h2,fun i hi=>?_⟩
 rw [txN_len] at hi
 rw [txN_get s i hi,txN_len]
 exact k i hi hi
theorem lab_no {s:ByteArray} {pos:Nat} (h:pos<s.size) (o:¬ okAt s.size pos (s[pos]'h).toNat):¬ labP (txN s):=fun hl=>by
 have:=hl.2.2 pos (by rw [txN_len];exact h)
 rw [txN_get s pos h,txN_len] at this
 exact o this
theorem edge_word (c:Nat):edgeB (c:Int)=decide (wordP c):=by unfold edgeB wordP;congr 1;apply propext;omega
theorem ok_ascii {n i c:Nat} (h:okAt n i c):c<128:=by
 unfold okAt wordP at h
 repeat' split at h
 all_goals omega
theorem edge_iff {c:Nat}:edgeB (c:Int)=true ↔ wordP c:=by rw [edge_word];simp
theorem edge_no {c:Nat} (h:edgeB (c:Int)=false):¬ wordP c:=by rw [edge_word] at h;simpa using h
theorem edge_high {c:Nat} (h:128≤c):edgeB (c:Int)=false:=by unfold edgeB;rw [decide_eq_false];omega
theorem label_any (s:ByteArray) (w:World):Calls Tryz.prog 177 #[.string s] w fun e w'=>e=.returned (.bool (decide (labP (txN s))))∧Ext w w':=by
 have c1:=edge_any
 have c2:=inner_any
 go_enter Tryz.func177,Tryz.ntmps177
 by_cases hn:s=ByteArray.empty
 ·subst hn
  go_wp2
  go_ret
  exact ⟨rfl,Ext.refl w⟩
 have hpos:0<s.size:=Nat.pos_of_ne_zero fun h=>hn (ByteArray.size_eq_zero_iff.1 h)
 have hE:s.toList.isEmpty=false:=by
  rw [ByteArray.toList_eq]
  cases hl:s.data.toList with
  | nil=>exact absurd (by rw [← Array.length_toList,hl];rfl:s.data.size=0) (Nat.pos_iff_ne_zero.1 hpos)
  | cons _ _=>rfl
 have hE2:¬ s.toList=[]:=fun h=>by rw [h] at hE;cases hE
 clear hn
 by_cases hl:¬ s.size≤16
 ·have h16:(16:Int)<s.size:=by omega
  go_wp2
  go_ret
  exact ⟨ret_bool (by rw [decide_eq_false];intro h;have:=h.2.1;rw [txN_len] at this;omega),Ext.refl w⟩
 replace hl:=Decidable.not_not.1 hl
 have h16:¬ (16:Int)<s.size:=by omega
 go_wp2
 go_loopg [3,4] s.size (fun g s3 s4 wr=>∃ pos:Nat,pos+g=s.size∧wr=w.iter s pos∧labTo s pos)
 case atStart=>exact ⟨0,by omega,rfl,fun i h h'=>by omega⟩
 case round =>
  obtain ⟨pos,hp,rfl,hk⟩:=hrel
  by_cases h:pos<s.size
  ·have hlab:=fun o=>labTo_succ h hk o
   have hno:=fun o=>lab_no h o
   by_cases ha:(s[pos]'h).toNat<128
   ·have hnx:=fun ty=>run_next_ascii (P:=Tryz.prog) w s pos ty h ha
    generalize (s[pos]'h).toNat=c at *
    have HLAB:=Lib.hid hlab
    have HNO:=Lib.hid hno
    clear hlab hno ha hk
    by_cases hL:(pos:Int)=(s.size:Int)-1
    ·have HOK:Hid (okAt s.size pos c ↔ wordP c):=Lib.hid (by unfold okAt;rw [if_pos (by omega)])
     by_cases he:edgeB (c:Int)=true
     ·go_wp2_with (first|(go_at_call 194;refine (c1 _ _).mono ?_;rintro e w1 ⟨rfl,rfl⟩)|(go_at_call 195;refine (c2 _ _).mono ?_;rintro e w1 ⟨rfl,rfl⟩))
      go_roundg (gk-1)
      case measure=>omega
      case rel=>exact ⟨pos+1,by omega,rfl,HLAB.out (HOK.out.2 (edge_iff.1 he))⟩
     ·replace he:edgeB (c:Int)=false:=by simpa using he
      go_wp2_with (first|(go_at_call 194;refine (c1 _ _).mono ?_;rintro e w1 ⟨rfl,rfl⟩)|(go_at_call 195;refine (c2 _ _).mono ?_;rintro e w1 ⟨rfl,rfl⟩))
      go_ret
      exact ⟨ret_bool (by rw [decide_eq_false];exact HNO.out (fun o=>edge_no he (HOK.out.1 o))),(Ext.refl w).alloc _⟩
    ·by_cases h0:(pos:Int)=0
     ·have HOK:Hid (okAt s.size pos c ↔ wordP c∨c=95):=Lib.hid (by unfold okAt;rw [if_neg (by omega),if_pos (by omega)])
      by_cases he:edgeB (c:Int)=true
      ·go_wp2_with (first|(go_at_call 194;refine (c1 _ _).mono ?_;rintro e w1 ⟨rfl,rfl⟩)|(go_at_call 195;refine (c2 _ _).mono ?_;rintro e w1 ⟨rfl,rfl⟩))
       go_roundg (gk-1)
       case measure=>omega
       case rel=>exact ⟨pos+1,by omega,rfl,HLAB.out (HOK.out.2 (.inl (edge_iff.1 he)))⟩
      ·replace he:edgeB (c:Int)=false:=by simpa using he
       by_cases h95:(c:Int)=95
       ·go_wp2_with (first|(go_at_call 194;refine (c1 _ _).mono ?_;rintro e w1 ⟨rfl,rfl⟩)|(go_at_call 195;refine (c2 _ _).mono ?_;rintro e w1 ⟨rfl,rfl⟩))
        go_roundg (gk-1)
        case measure=>omega
        case rel=>exact ⟨pos+1,by omega,rfl,HLAB.out (HOK.out.2 (.inr (by omega)))⟩
       ·go_wp2_with (first|(go_at_call 194;refine (c1 _ _).mono ?_;rintro e w1 ⟨rfl,rfl⟩)|(go_at_call 195;refine (c2 _ _).mono ?_;rintro e w1 ⟨rfl,rfl⟩))
        go_ret
        exact ⟨ret_bool (by rw [decide_eq_false];exact HNO.out (fun o=>(HOK.out.1 o).elim (edge_no he) (fun h=>h95 (by omega)))),(Ext.refl w).alloc _⟩
     ·have HOK:Hid (okAt s.size pos c ↔ wordP c∨c=45):=Lib.hid (by unfold okAt;rw [if_neg (by omega),if_neg (by omega)])
      by_cases he:edgeB (c:Int)=true
      ·go_wp2_with (first|(go_at_call 194;refine (c1 _ _).mono ?_;rintro e w1 ⟨rfl,rfl⟩)|(go_at_call 195;refine (c2 _ _).mono ?_;rintro e w1 ⟨rfl,rfl⟩))
       go_roundg (gk-1)
       case measure=>omega
       case rel=>exact ⟨pos+1,by omega,rfl,HLAB.out (HOK.out.2 (.inl (edge_iff.1 he)))⟩
      ·replace he:edgeB (c:Int)=false:=by simpa using he
       by_cases h45:(c:Int)=45
       ·go_wp2_with (first|(go_at_call 194;refine (c1 _ _).mono ?_;rintro e w1 ⟨rfl,rfl⟩)|(go_at_call 195;refine (c2 _ _).mono ?_;rintro e w1 ⟨rfl,rfl⟩))
        go_roundg (gk-1)
        case measure=>omega
        case rel=>exact ⟨pos+1,by omega,rfl,HLAB.out (HOK.out.2 (.inr (by omega)))⟩
       ·go_wp2_with (first|(go_at_call 194;refine (c1 _ _).mono ?_;rintro e w1 ⟨rfl,rfl⟩)|(go_at_call 195;refine (c2 _ _).mono ?_;rintro e w1 ⟨rfl,rfl⟩))
        go_ret
        exact ⟨ret_bool (by rw [decide_eq_false];exact HNO.out (fun o=>(HOK.out.1 o).elim (edge_no he) (fun h=>h45 (by omega)))),(Ext.refl w).alloc _⟩
   ·have hnx:=fun ty=>run_next_any (P:=Tryz.prog) w s pos ty h
    have hd:=(decode_high s pos h (by omega)).1
    have hbad:¬ labP (txN s):=hno (fun o=>ha (ok_ascii o))
    generalize (Utf8.decode s pos).1=c at *
    generalize pos+(Utf8.decode s pos).2=pos' at *
    have he:=edge_high hd
    have h45:¬ (c:Int)=45:=by omega
    have h95:¬ (c:Int)=95:=by omega
    have HB:=Lib.hid hbad
    clear hlab hno ha hk hbad hd
    by_cases hL:(pos:Int)=(s.size:Int)-1
    ·go_wp2_with (first|(go_at_call 194;refine (c1 _ _).mono ?_;rintro e w1 ⟨rfl,rfl⟩)|(go_at_call 195;refine (c2 _ _).mono ?_;rintro e w1 ⟨rfl,rfl⟩))
     go_ret
     exact ⟨ret_bool (by rw [decide_eq_false];exact HB.out),(Ext.refl w).alloc _⟩
    ·by_cases h0:(pos:Int)=0
     ·go_wp2_with (first|(go_at_call 194;refine (c1 _ _).mono ?_;rintro e w1 ⟨rfl,rfl⟩)|(go_at_call 195;refine (c2 _ _).mono ?_;rintro e w1 ⟨rfl,rfl⟩))
      go_ret
      exact ⟨ret_bool (by rw [decide_eq_false];exact HB.out),(Ext.refl w).alloc _⟩
     ·go_wp2_with (first|(go_at_call 194;refine (c1 _ _).mono ?_;rintro e w1 ⟨rfl,rfl⟩)|(go_at_call 195;refine (c2 _ _).mono ?_;rintro e w1 ⟨rfl,rfl⟩))
      go_ret
      exact ⟨ret_bool (by rw [decide_eq_false];exact HB.out),(Ext.refl w).alloc _⟩
  ·have hnx:=fun ty=>run_next_end (P:=Tryz.prog) w s pos ty h
   have hy:labP (txN s):=lab_yes hpos hl (fun i hi _=>hk i hi (by omega))
   go_wp2
   go_ret
   exact ⟨ret_bool (by simp [hy]),(Ext.refl w).alloc _⟩
theorem word_any (c:Nat) (w:World):Calls Tryz.prog 178 #[.int .u8 (c:Int)] w fun e w'=>e=.returned (.bool (edgeB (c:Int)))∧w'=w:=by
 go_enter Tryz.func178,Tryz.ntmps178
 by_cases h1:97≤(c:Int) <;> by_cases h2:(c:Int)≤122 <;> by_cases h3:48≤(c:Int) <;> by_cases h4:(c:Int)≤57
 all_goals
  first
  | (exfalso;omega)
  | (go_wp2;go_ret;exact ⟨by simp [edgeB, *],rfl⟩)
theorem lab_at {s:ByteArray} (h:labP (txN s)) {i:Nat} (hi:i<s.size):okAt s.size i (s[i]'hi).toNat:=by
 have:=h.2.2 i (by rw [txN_len];exact hi)
 rwa [txN_get s i hi,txN_len] at this
theorem ok_first {n c:Nat} (h:okAt n 0 c):wordP c∨c=95:=by
 unfold okAt at h
 split at h
 ·exact .inl h
 ·exact h
theorem ok_last {n i c:Nat} (hi:i+1=n):okAt n i c ↔ wordP c:=by unfold okAt;rw [if_pos hi]
theorem ok_mid {n i c:Nat} (hi:i≠0) (h:okAt n i c):wordP c∨c=45:=by
 unfold okAt at h
 split at h
 ·exact .inl h
 ·exact h
def midTo (s:ByteArray) (j:Nat):Prop:=∀ i (h:i<s.size),1≤i→i<j→wordP (s[i]'h).toNat∨(s[i]'h).toNat=45
theorem midTo_succ {s:ByteArray} {j:Nat} (h:j<s.size) (k:midTo s j) (o:wordP (s[j]'h).toNat∨(s[j]'h).toNat=45):midTo s (j+1):=fun i hi h1 hp=>by
 by_cases e:i=j
 ·subst e;exact o
 ·exact k i hi h1 (by omega)
theorem lab_mid {s:ByteArray} (h:0<s.size) (h2:s.size≤16) (h3:s.size-1<s.size) (hl:wordP (s[s.size-1]'h3).toNat) (hf:wordP (s[0]'h).toNat∨(s[0]'h).toNat=95) (k:midTo s s.size):labP (txN s) :=
 lab_yes h h2 fun i hi _=>by
  unfold okAt
  split
  ·next e =>
   have:i=s.size-1:=by omega
   subst this;exact hl
  ·split
   ·next e=>subst e;exact hf
   ·next e=>exact k i hi (by omega) hi
theorem rlabel_any (s:ByteArray) (w:World) (hs:s.size≤140737488355328):Calls Tryz.prog 162 #[.string s] w fun e w'=>e=.returned (.bool (decide (labP (txN s))))∧Ext w w':=by
 have c1:=word_any
 go_enter Tryz.func162,Tryz.ntmps162
 by_cases hn:((s.size:Int)<1∨(16:Int)<s.size)
 ·have hno:¬ labP (txN s):=fun h=>by have h1:=h.1;have h2:=h.2.1;rw [txN_len] at h1 h2;omega
  have HB:=Lib.hid hno
  clear hno
  rcases hn with h1|h1
  ·go_wp2
   go_ret
   exact ⟨ret_bool (by rw [decide_eq_false];exact HB.out),Ext.refl w⟩
  ·have h2:¬ (s.size:Int)<1:=by omega
   go_wp2
   go_ret
   exact ⟨ret_bool (by rw [decide_eq_false];exact HB.out),Ext.refl w⟩
 have h1:¬ (s.size:Int)<1:=by omega
 have h2:¬ (16:Int)<s.size:=by omega
 have hp:0<s.size:=by omega
 have hp1:s.size-1<s.size:=by omega
 have hlast:=fun h=>(ok_last (n:=s.size) (i:=s.size-1) (by omega)).1 (lab_at (s:=s) h hp1)
 have hfirst:=fun h=>ok_first (lab_at (s:=s) h hp)
 have HL:=Lib.hid hlast
 have HF:=Lib.hid hfirst
 clear hlast hfirst hn
 have HN:∀ h':¬ labP (txN s),Ending.returned (Value.bool false)=Ending.returned (Value.bool (decide (labP (txN s)))):=fun h'=>ret_bool (by rw [decide_eq_false h'])
 by_cases hl:edgeB (((s[s.size-1]'hp1).toNat:Nat):Int)=true
 ·by_cases hf:edgeB (((s[0]'hp).toNat:Nat):Int)=true
  ·go_wp2_with (go_at_call 178;refine (c1 _ _).mono ?_;rintro e w1 ⟨rfl,hw1⟩;replace hw1:=hw1.symm;subst hw1)
   have HY:=Lib.hid (lab_mid hp (by omega) hp1 (edge_iff.1 hl) (.inl (edge_iff.1 hf)))
   clear hl
   go_loopg [4] s.size (fun g s4 wr=>∃ j:Nat,j+g=s.size+1∧1≤j∧s4=.int .i64 j∧wr=w∧midTo s j)
   case atStart=>exact ⟨1,by omega,by omega,rfl,rfl,fun i h h1 hp=>by omega⟩
   case round =>
    obtain ⟨j,hj,hj1,rfl,rfl,hk⟩:=hrel
    by_cases h:j<s.size
    ·have hji:(j:Int)<s.size:=by omega
     have HM:=Lib.hid (fun o=>midTo_succ h hk o)
     have HB:=Lib.hid (fun h'=>ok_mid (by omega) (lab_at (s:=s) h' h))
     by_cases he:edgeB (((s[j]'h).toNat:Nat):Int)=true
     ·go_wp2_with (go_at_call 178;refine (c1 _ _).mono ?_;rintro e w1 ⟨rfl,hw1⟩;replace hw1:=hw1.symm;subst hw1)
      go_roundg (gk-1)
      case measure=>omega
      case rel=>exact ⟨j+1,by omega,by omega,int_congr (by omega),rfl,HM.out (.inl (edge_iff.1 he))⟩
     ·replace he:edgeB (((s[j]'h).toNat:Nat):Int)=false:=by simpa using he
      by_cases h45:(((s[j]'h).toNat:Nat):Int)=45
      ·go_wp2_with (go_at_call 178;refine (c1 _ _).mono ?_;rintro e w1 ⟨rfl,hw1⟩;replace hw1:=hw1.symm;subst hw1)
       go_roundg (gk-1)
       case measure=>omega
       case rel=>exact ⟨j+1,by omega,by omega,int_congr (by omega),rfl,HM.out (.inr (by omega))⟩
      ·go_wp2_with (go_at_call 178;refine (c1 _ _).mono ?_;rintro e w1 ⟨rfl,hw1⟩;replace hw1:=hw1.symm;subst hw1)
       go_ret
       exact ⟨HN (fun h=>(HB.out h).elim (edge_no he) (fun e=>h45 (by omega))),Ext.refl _⟩
    ·have hji:¬ (j:Int)<s.size:=by omega
     have hy:=HY.out (fun i hi h1 _=>hk i hi h1 (by omega))
     go_wp2
     go_ret
     exact ⟨ret_bool (by simp),Ext.refl _⟩
  ·replace hf:edgeB (((s[0]'hp).toNat:Nat):Int)=false:=by simpa using hf
   by_cases h95:(((s[0]'hp).toNat:Nat):Int)=95
   ·go_wp2_with (go_at_call 178;refine (c1 _ _).mono ?_;rintro e w1 ⟨rfl,hw1⟩;replace hw1:=hw1.symm;subst hw1)
    have HY:=Lib.hid (lab_mid hp (by omega) hp1 (edge_iff.1 hl) (.inr (by omega)))
    clear hl
    go_loopg [4] s.size (fun g s4 wr=>∃ j:Nat,j+g=s.size+1∧1≤j∧s4=.int .i64 j∧wr=w∧midTo s j)
    case atStart=>exact ⟨1,by omega,by omega,rfl,rfl,fun i h h1 hp=>by omega⟩
    case round =>
     obtain ⟨j,hj,hj1,rfl,rfl,hk⟩:=hrel
     by_cases h:j<s.size
     ·have hji:(j:Int)<s.size:=by omega
      have HM:=Lib.hid (fun o=>midTo_succ h hk o)
      have HB:=Lib.hid (fun h'=>ok_mid (by omega) (lab_at (s:=s) h' h))
      by_cases he:edgeB (((s[j]'h).toNat:Nat):Int)=true
      ·go_wp2_with (go_at_call 178;refine (c1 _ _).mono ?_;rintro e w1 ⟨rfl,hw1⟩;replace hw1:=hw1.symm;subst hw1)
       go_roundg (gk-1)
       case measure=>omega
       case rel=>exact ⟨j+1,by omega,by omega,int_congr (by omega),rfl,HM.out (.inl (edge_iff.1 he))⟩
      ·replace he:edgeB (((s[j]'h).toNat:Nat):Int)=false:=by simpa using he
       by_cases h45:(((s[j]'h).toNat:Nat):Int)=45
       ·go_wp2_with (go_at_call 178;refine (c1 _ _).mono ?_;rintro e w1 ⟨rfl,hw1⟩;replace hw1:=hw1.symm;subst hw1)
        go_roundg (gk-1)
        case measure=>omega
        case rel=>exact ⟨j+1,by omega,by omega,int_congr (by omega),rfl,HM.out (.inr (by omega))⟩
       ·go_wp2_with (go_at_call 178;refine (c1 _ _).mono ?_;rintro e w1 ⟨rfl,hw1⟩;replace hw1:=hw1.symm;subst hw1)
        go_ret
        exact ⟨HN (fun h=>(HB.out h).elim (edge_no he) (fun e=>h45 (by omega))),Ext.refl _⟩
     ·have hji:¬ (j:Int)<s.size:=by omega
      have hy:=HY.out (fun i hi h1 _=>hk i hi h1 (by omega))
      go_wp2
      go_ret
      exact ⟨ret_bool (by simp),Ext.refl _⟩
   ·go_wp2_with (go_at_call 178;refine (c1 _ _).mono ?_;rintro e w1 ⟨rfl,hw1⟩;replace hw1:=hw1.symm;subst hw1)
    go_ret
    exact ⟨HN (fun h=>(HF.out h).elim (edge_no hf) (fun e=>h95 (by omega))),Ext.refl _⟩
 ·replace hl:edgeB (((s[s.size-1]'hp1).toNat:Nat):Int)=false:=by simpa using hl
  go_wp2_with (go_at_call 178;refine (c1 _ _).mono ?_;rintro e w1 ⟨rfl,hw1⟩;replace hw1:=hw1.symm;subst hw1)
  go_ret
  exact ⟨HN (fun h=>edge_no hl (HL.out h)),Ext.refl _⟩
def tv (l:List ByteArray):List Value:=l.map Value.string
theorem tv_length (l:List ByteArray):(tv l).length=l.length:=by simp [tv]
theorem tv_append (l m:List ByteArray):tv (l++m)=tv l++tv m:=by simp [tv]
theorem tv_at {l:List ByteArray} {k:Nat} {x:ByteArray} (h:l[k]?=some x):(tv l)[k]?=some (.string x):=by simp [tv,h]
theorem reads_text {w:World} {B n:Nat} {A:Option Addr} {l:List ByteArray} (h:Reads w B 1 A n (tv l)) {k:Nat} {x:ByteArray} (hk:l[k]?=some x):∃ ad,A=some ad∧w.cell? (ad.add k)=some (.string x):=by
 have hl:=(List.getElem?_eq_some_iff.1 hk).1
 have h1:=h.1
 rw [tv_length] at h1
 obtain ⟨ad,e,_,hc⟩:=h.2 (by omega)
 exact ⟨ad,e,hc _ _ (tv_at hk)⟩
theorem Tryz.infoStr:(Tryz.prog.info? 9).map (fun i=>(i.zero,i.size,i.bytes))=some (some (.string ⟨#[]⟩),1,16):=by kernel_rfl
section
variable {α:Type} (enc:α→List Value) {k:Nat}
theorem fm_length (hk:∀ x,(enc x).length=k):∀ l:List α,(l.flatMap enc).length=l.length*k
 | []=>by simp
 | a :: l=>by rw [List.flatMap_cons,List.length_append,hk,fm_length hk l,List.length_cons,Nat.add_mul,Nat.one_mul,Nat.add_comm]
theorem fm_at (hk:∀ x,(enc x).length=k):∀ {l:List α} {j:Nat} {x:α},l[j]?=some x→∀ {i:Nat},i<k→(l.flatMap enc)[j*k+i]?=(enc x)[i]?
 | [],j,x,h,i,hi=>by simp at h
 | a :: l,0,x,h,i,hi=>by
  simp at h;subst h
  rw [List.flatMap_cons,Nat.zero_mul,Nat.zero_add,List.getElem?_append_left (by rw [hk];exact hi)]
 | a :: l,j+1,x,h,i,hi=>by
  simp at h
  rw [List.flatMap_cons,List.getElem?_append_right (by rw [hk,Nat.add_mul];omega),hk,show (j+1)*k+i-k=j*k+i by rw [Nat.add_mul];omega]
  exact fm_at hk h hi
theorem fm_append (l m:List α):(l++m).flatMap enc=l.flatMap enc++m.flatMap enc:=List.flatMap_append
variable {w:World} {B n:Nat} {A:Option Addr}
theorem reads_fm (hk:∀ x,(enc x).length=k) {l:List α} (h:Reads w B k A n (l.flatMap enc)) {j:Nat} {x:α} (hj:l[j]?=some x) (h0:0<k) :
  ∃ ad,A=some ad∧ad.block<B∧∀ i u,(enc x)[i]?=some u→w.cell? ((ad.add (j*k)).add i)=some u:=by
 have hl:=(List.getElem?_eq_some_iff.1 hj).1
 have h1:=h.1
 rw [fm_length enc hk] at h1
 have:l.length=n:=Nat.eq_of_mul_eq_mul_right h0 h1
 obtain ⟨ad,e,hb,hc⟩:=h.2 (by omega)
 refine ⟨ad,e,hb,fun i u hu=>?_⟩
 have hi:i<k:=by rw [← hk x];exact (List.getElem?_eq_some_iff.1 hu).1
 rw [add_of_add]
 exact hc _ u (by rw [fm_at enc hk hj hi];exact hu)
end
theorem add_succ_eq (a:Addr) (i:Nat):a.add (i+1)=⟨a.block,a.off+(i+1),none⟩:=by unfold Addr.add;simp
def nonC (x:NonR):List Value:=[.int .i64 x.n,.int .i64 x.u]
def nonV (l:List NonR):List Value:=l.flatMap nonC
def accC (x:AccR):List Value:=[.int .i64 x.id,.int .u64 (x.key:Int)]
def accV (l:List AccR):List Value:=l.flatMap accC
def autC (x:AutR):List Value:=[.int .i64 x.id,.int .i64 x.acc,.string x.name,.string x.tok,.int .i64 x.st,.int .i64 x.fr,.int .i64 x.un]
def autV (l:List AutR):List Value:=l.flatMap autC
structure OrdX where
 (o:OrdR) (nA:Option Addr) (nc:Nat) (aA:Option Addr) (ac:Nat)
def ordC (x:OrdX):List Value:=[.int .i64 x.o.id,.int .i64 x.o.acc,.slice x.nA x.o.names.length x.nc,.int .u64 (x.o.key:Int),.int .i64 x.o.life,.slice x.aA x.o.auths.length x.ac,.int .i64 x.o.st,.int .i64 x.o.ser]
def ordV (l:List OrdX):List Value:=l.flatMap ordC
theorem nonV_length (l:List NonR):(nonV l).length=l.length*2:=fm_length nonC (fun _=>rfl) l
theorem nonV_append (l m:List NonR):nonV (l++m)=nonV l++nonV m:=fm_append nonC l m
theorem accV_append (l m:List AccR):accV (l++m)=accV l++accV m:=fm_append accC l m
theorem autV_append (l m:List AutR):autV (l++m)=autV l++autV m:=fm_append autC l m
theorem ordV_append (l m:List OrdX):ordV (l++m)=ordV l++ordV m:=fm_append ordC l m
theorem fm_one {α:Type} (enc:α→List Value) (h:∀ x,∀ u∈enc x,u.oneCell'=true) (l:List α):∀ u∈l.flatMap enc,u.oneCell'=true:=by
 intro u hu;obtain ⟨a,_,ha⟩:=List.mem_flatMap.1 hu;exact h a u ha
theorem nonV_one (l:List NonR):∀ u∈nonV l,u.oneCell'=true:=fm_one nonC (fun x u hu=>by simp [nonC] at hu;rcases hu with rfl|rfl <;> rfl) l
theorem accV_one (l:List AccR):∀ u∈accV l,u.oneCell'=true:=fm_one accC (fun x u hu=>by simp [accC] at hu;rcases hu with rfl|rfl <;> rfl) l
theorem autV_one (l:List AutR):∀ u∈autV l,u.oneCell'=true:=fm_one autC (fun x u hu=>by simp [autC] at hu;rcases hu with rfl|rfl|rfl|rfl|rfl|rfl|rfl <;> rfl) l
theorem ordV_one (l:List OrdX):∀ u∈ordV l,u.oneCell'=true:=fm_one ordC (fun x u hu=>by simp [ordC] at hu;rcases hu with rfl|rfl|rfl|rfl|rfl|rfl|rfl|rfl <;> rfl) l
theorem tv_one (l:List ByteArray):∀ u∈tv l,u.oneCell'=true:=by
 intro u hu;obtain ⟨a,_,rfl⟩:=List.mem_map.1 hu;rfl
section
variable {w:World} {B n:Nat} {A:Option Addr}
theorem reads_non {l:List NonR} (h:Reads w B 2 A n (nonV l)) {j:Nat} {x:NonR} (hj:l[j]?=some x) :
  ∃ ad,A=some ad∧ad.block<B∧w.cell? (ad.add (j*2))=some (.int .i64 x.n)∧w.cell? ⟨(ad.add (j*2)).block,(ad.add (j*2)).off+1,none⟩=some (.int .i64 x.u):=by
 obtain ⟨ad,e,hb,hc⟩:=reads_fm nonC (fun _=>rfl) h hj (by decide)
 refine ⟨ad,e,hb,?_,?_⟩
 ·have:=hc 0 _ rfl;rwa [add_of_add,Nat.add_zero] at this
 ·rw [← add_succ_eq _ 0];exact hc 1 _ rfl
theorem reads_acc {l:List AccR} (h:Reads w B 2 A n (accV l)) {j:Nat} {x:AccR} (hj:l[j]?=some x) :
  ∃ ad,A=some ad∧ad.block<B∧w.cell? (ad.add (j*2))=some (.int .i64 x.id)∧w.cell? ⟨(ad.add (j*2)).block,(ad.add (j*2)).off+1,none⟩=some (.int .u64 (x.key:Int)):=by
 obtain ⟨ad,e,hb,hc⟩:=reads_fm accC (fun _=>rfl) h hj (by decide)
 refine ⟨ad,e,hb,?_,?_⟩
 ·have:=hc 0 _ rfl;rwa [add_of_add,Nat.add_zero] at this
 ·rw [← add_succ_eq _ 0];exact hc 1 _ rfl
def AutAt (w:World) (p:Addr) (x:AutR):Prop :=
 w.cell? p=some (.int .i64 x.id)∧w.cell? ⟨p.block,p.off+1,none⟩=some (.int .i64 x.acc)∧w.cell? ⟨p.block,p.off+2,none⟩=some (.string x.name) ∧
 w.cell? ⟨p.block,p.off+3,none⟩=some (.string x.tok)∧w.cell? ⟨p.block,p.off+4,none⟩=some (.int .i64 x.st)∧w.cell? ⟨p.block,p.off+5,none⟩=some (.int .i64 x.fr)∧w.cell? ⟨p.block,p.off+6,none⟩=some (.int .i64 x.un)
theorem reads_aut {l:List AutR} (h:Reads w B 7 A n (autV l)) {j:Nat} {x:AutR} (hj:l[j]?=some x):∃ ad,A=some ad∧ad.block<B∧AutAt w (ad.add (j*7)) x:=by
 obtain ⟨ad,e,hb,hc⟩:=reads_fm autC (fun _=>rfl) h hj (by decide)
 refine ⟨ad,e,hb,?_,?_,?_,?_,?_,?_,?_⟩
 ·have:=hc 0 _ rfl;rwa [add_of_add,Nat.add_zero] at this
 ·rw [← add_succ_eq _ 0];exact hc 1 _ rfl
 ·rw [← add_succ_eq _ 1];exact hc 2 _ rfl
 ·rw [← add_succ_eq _ 2];exact hc 3 _ rfl
 ·rw [← add_succ_eq _ 3];exact hc 4 _ rfl
 ·rw [← add_succ_eq _ 4];exact hc 5 _ rfl
 ·rw [← add_succ_eq _ 5];exact hc 6 _ rfl
def OrdAt (w:World) (p:Addr) (x:OrdX):Prop :=
 w.cell? p=some (.int .i64 x.o.id)∧w.cell? ⟨p.block,p.off+1,none⟩=some (.int .i64 x.o.acc)∧w.cell? ⟨p.block,p.off+2,none⟩=some (.slice x.nA x.o.names.length x.nc) ∧
 w.cell? ⟨p.block,p.off+3,none⟩=some (.int .u64 (x.o.key:Int))∧w.cell? ⟨p.block,p.off+4,none⟩=some (.int .i64 x.o.life)∧w.cell? ⟨p.block,p.off+5,none⟩=some (.slice x.aA x.o.auths.length x.ac) ∧
 w.cell? ⟨p.block,p.off+6,none⟩=some (.int .i64 x.o.st)∧w.cell? ⟨p.block,p.off+7,none⟩=some (.int .i64 x.o.ser)
theorem reads_ord {l:List OrdX} (h:Reads w B 8 A n (ordV l)) {j:Nat} {x:OrdX} (hj:l[j]?=some x):∃ ad,A=some ad∧ad.block<B∧OrdAt w (ad.add (j*8)) x:=by
 obtain ⟨ad,e,hb,hc⟩:=reads_fm ordC (fun _=>rfl) h hj (by decide)
 refine ⟨ad,e,hb,?_,?_,?_,?_,?_,?_,?_,?_⟩
 ·have:=hc 0 _ rfl;rwa [add_of_add,Nat.add_zero] at this
 ·rw [← add_succ_eq _ 0];exact hc 1 _ rfl
 ·rw [← add_succ_eq _ 1];exact hc 2 _ rfl
 ·rw [← add_succ_eq _ 2];exact hc 3 _ rfl
 ·rw [← add_succ_eq _ 3];exact hc 4 _ rfl
 ·rw [← add_succ_eq _ 4];exact hc 5 _ rfl
 ·rw [← add_succ_eq _ 5];exact hc 6 _ rfl
 ·rw [← add_succ_eq _ 6];exact hc 7 _ rfl
end
def wf64 (n:Int):Prop:=(Lit.int .i64 n).wf=true
structure AccW (x:AccR):Prop where
 id:wf64 x.id
 key:x.key<18446744073709551616
structure AutW (x:AutR):Prop where
 id:wf64 x.id
 acc:wf64 x.acc
 st:wf64 x.st
 fr:wf64 x.fr
 un:wf64 x.un
 name:x.name.size≤140737488355328
 tok:x.tok.size≤140737488355328
structure OrdW (w:World) (B:Nat) (x:OrdX):Prop where
 id:wf64 x.o.id
 acc:wf64 x.o.acc
 key:x.o.key<18446744073709551616
 life:wf64 x.o.life
 st:wf64 x.o.st
 ser:wf64 x.o.ser
 names:Reads w B 1 x.nA x.o.names.length (tv x.o.names)
 nc:x.o.names.length≤x.nc
 nl:x.o.names.length≤1099511627776
 ns:∀ s∈x.o.names,s.size≤140737488355328
 auths:Reads w B 1 x.aA x.o.auths.length (iv x.o.auths)
 ac:x.o.auths.length≤x.ac
 al:x.o.auths.length≤1099511627776
 aw:∀ n∈x.o.auths,wf64 n
structure DoorX where
 (next ser:Int) (opn:List NonR) (accs:List AccR) (auts:List AutR) (ords:List OrdX)
 (oA:Option Addr) (oc:Nat) (cA:Option Addr) (cc:Nat) (uA:Option Addr) (uc:Nat) (rA:Option Addr) (rc:Nat)
def DoorX.fro (d:DoorX):FroR:=⟨d.next,d.opn,d.accs,d.auts,d.ords.map (·.o),d.ser⟩
structure NonsW (w:World) (B:Nat) (next:Int) (l:List NonR) (A:Option Addr) (c:Nat):Prop where
 nx:wf64 next
 lst:Reads w B 2 A l.length (nonV l)
 cap:l.length≤c
 len:l.length≤1099511627776
 wf:∀ x∈l,wf64 x.n∧wf64 x.u
structure DoorW (w:World) (B:Nat) (d:DoorX):Prop where
 non:NonsW w B d.next d.opn d.oA d.oc
 ser:wf64 d.ser
 acc:Reads w B 2 d.cA d.accs.length (accV d.accs)
 cc:d.accs.length≤d.cc
 cl:d.accs.length≤1099511627776
 cw:∀ x∈d.accs,AccW x
 aut:Reads w B 7 d.uA d.auts.length (autV d.auts)
 uc:d.auts.length≤d.uc
 ul:d.auts.length≤1099511627776
 uw:∀ x∈d.auts,AutW x
 ord:Reads w B 8 d.rA d.ords.length (ordV d.ords)
 rc:d.ords.length≤d.rc
 rl:d.ords.length≤1099511627776
 rw:∀ x∈d.ords,OrdW w B x
def fenV (next:Int) (l:List NonR) (A:Option Addr) (c:Nat):Value:=.agg #[.int .i64 next,.slice A l.length c]
section
variable {w w':World} {B B':Nat}
theorem OrdW.keep {x:OrdX} (h:OrdW w B x) (hb:Below B w w') (hB:B≤B'):OrdW w' B' x :=
 ⟨h.id,h.acc,h.key,h.life,h.st,h.ser,(h.names.below hb).more hB,h.nc,h.nl,h.ns,(h.auths.below hb).more hB,h.ac,h.al,h.aw⟩
theorem NonsW.keep {next:Int} {l:List NonR} {A:Option Addr} {c:Nat} (h:NonsW w B next l A c) (hb:Below B w w') (hB:B≤B'):NonsW w' B' next l A c :=
 ⟨h.nx,(h.lst.below hb).more hB,h.cap,h.len,h.wf⟩
theorem DoorW.keep {d:DoorX} (h:DoorW w B d) (hb:Below B w w') (hB:B≤B'):DoorW w' B' d :=
 ⟨h.non.keep hb hB,h.ser,(h.acc.below hb).more hB,h.cc,h.cl,h.cw,(h.aut.below hb).more hB,h.uc,h.ul,h.uw,(h.ord.below hb).more hB,h.rc,h.rl,fun x hx=>(h.rw x hx).keep hb hB⟩
theorem DoorW.ext {d:DoorX} (h:DoorW w w.heap.size d) (x:Ext w w'):DoorW w' w'.heap.size d:=h.keep x.out x.size
theorem NonsW.ext {next:Int} {l:List NonR} {A:Option Addr} {c:Nat} (h:NonsW w w.heap.size next l A c) (x:Ext w w'):NonsW w' w'.heap.size next l A c:=h.keep x.out x.size
theorem OrdW.ext {o:OrdX} (h:OrdW w w.heap.size o) (x:Ext w w'):OrdW w' w'.heap.size o:=h.keep x.out x.size
end
theorem wf64_of {n:Int} (h1:-9223372036854775808≤n) (h2:n≤9223372036854775807):wf64 n:=by
 unfold wf64;simp [Lit.wf,IntKind.min,IntKind.max,IntKind.signed,IntKind.bits];omega
theorem wf64_out {n:Int} (h:wf64 n):-9223372036854775808≤n∧n≤9223372036854775807:=by
 unfold wf64 at h;simp [Lit.wf,IntKind.min,IntKind.max,IntKind.signed,IntKind.bits] at h;omega
attribute [local go_sem] Oper.semAt_some
theorem txN_extract (s:ByteArray) (a b:Nat):txN (s.extract a b)=((txN s).take b).drop a:=by
 unfold txN
 rw [ByteArray.data_extract,Array.toList_extract,← List.map_take,← List.map_drop]
 congr 1
 rw [List.extract_eq_take_drop,List.drop_take]
theorem count_dot (s:ByteArray):Lib.countByte s.data.toList 46=(txN s).count 46:=by
 unfold Lib.countByte txN
 rw [List.count_eq_countP,List.count_eq_countP,List.countP_map]
 congr 1
 funext x
 show (x==46)=(x.toNat==46)
 rw [Bool.eq_iff_iff,beq_iff_eq,beq_iff_eq]
 exact ⟨fun h=>by rw [h];rfl,fun h=>UInt8.toNat_inj.1 h⟩
theorem idx_no {s:ByteArray} (h:Lib.indexByte s.data.toList 46=-1) (k:Nat):(txN s)[k]?≠some 46:=by
 have:=Lib.indexByte_none h k
 unfold txN
 rw [List.getElem?_map]
 intro e
 rw [Option.map_eq_some_iff] at e
 obtain ⟨x,h1,h2⟩:=e
 exact this (by rw [h1];congr 1;exact UInt8.toNat_inj.1 h2)
theorem idx_at {s:ByteArray} {o:Nat} (h:Lib.indexByte s.data.toList 46=o):(txN s)[o]?=some 46∧∀ k<o,(txN s)[k]?≠some 46:=by
 obtain ⟨h1,h2⟩:=Lib.indexByte_some h
 unfold txN
 refine ⟨by rw [List.getElem?_map,h1];rfl,fun k hk e=>?_⟩
 rw [List.getElem?_map,Option.map_eq_some_iff] at e
 obtain ⟨x,h3,h4⟩:=e
 exact h2 k hk (by rw [h3];congr 1;exact UInt8.toNat_inj.1 h4)
theorem cuts_idx_no {s:ByteArray} (h:Lib.indexByte s.data.toList 46=-1):cuts (txN s)=[txN s]:=by
 have:=cuts_last (l:=txN s) (f:=0) (fun k _ _=>idx_no h k)
 simpa using this
theorem cuts_idx_at {s:ByteArray} {o:Nat} (h:Lib.indexByte s.data.toList 46=o):o<s.size∧cuts (txN s)=txN (s.extract 0 o) :: cuts (txN (s.extract (o+1) s.size)):=by
 obtain ⟨h1,h2⟩:=idx_at h
 have hl:o<(txN s).length:=(List.getElem?_eq_some_iff.1 h1).1
 have:=cuts_step (l:=txN s) (f:=0) (i:=o) (Nat.zero_le _) hl (fun k _ hk=>h2 k hk) h1
 refine ⟨by rw [txN_len] at hl;exact hl,?_⟩
 rw [txN_extract,txN_extract]
 simp only [List.drop_zero,Nat.sub_zero] at this
 rw [this]
 congr 2
 rw [List.take_of_length_le (by rw [txN_len];exact Nat.le_refl _)]
def boxLen (w:World) (b:Nat):Nat:=match w.cell? ⟨b,0,none⟩ with|some (.string s)=>s.size|_=>0
theorem boxLen_eq {w:World} {b:Nat} {s:ByteArray} (h:w.cell? ⟨b,0,none⟩=some (.string s)):boxLen w b=s.size:=by unfold boxLen;rw [h]
theorem splitSeq1_in (n:Nat) (hn:1≤n) (l bs bp bv B:Nat) (hs:bs<B) (hp:bp<B) (hv:bv<B) (n1:bs≠bp) (n2:bs≠bv) (T:ByteArray) (hT:T.size≤140737488355328) (J Jx:List ByteArray→World→Prop) (hJ:AbB bs J)
  (hY:∀ pre x X,J pre X→YieldAt Fence.wide (n-1) Tryz.prog l #[.string x] X fun e Y=>(e=.returned (.bool true)∧J (pre++[x]) Y∧Below B X Y)∨(e=.returned (.bool false)∧Jx (pre++[x]) Y))
  (W:World) (fs:W.frozen? ⟨bs,0,none⟩=false) (cs:W.cell? ⟨bs,0,none⟩=some (.string T)) (cp:W.cell? ⟨bp,0,none⟩=some (.string ⟨#[46]⟩)) (cv:W.cell? ⟨bv,0,none⟩=some (.int .i64 0)) (h0:J [] W) :
  CallsIn Fence.wide n Tryz.prog 205 #[.func (.yield l) #[] #[],.pointer (some ⟨bp,0,none⟩),.pointer (some ⟨bs,0,none⟩),.pointer (some ⟨bv,0,none⟩)] W fun e Y=>(∃ v,e=.returned v) ∧
   ((∃ xs:List ByteArray,xs.map txN=cuts (txN T)∧J xs Y)∨(∃ pre:List ByteArray,pre.map txN <+: cuts (txN T)∧Jx pre Y)):=by
 have c0:∀ m s w,CallsIn Fence.wide m Tryz.prog 192 #[.string s,.string ⟨#[46]⟩] w fun e w'=>e=.returned (.int .i64 (Lib.indexByte s.data.toList 46))∧w=w':=fun m s w =>
  callsIn_wide.2 ((Tryz.strings_Index_one s 46 w).mono fun e w' ⟨he,hw⟩=>⟨he,hw.symm⟩)
 refine callsIn_of_wp Tryz.func205 rfl trivial ?_ rfl
 simp only [Tryz.ntmps205,List.size_toArray,List.length_cons,List.length_nil,Nat.reduceAdd,Nat.reduceSub,Array.replicate_succ,Array.replicate_zero,List.push_toArray,List.append_toArray,List.nil_append,List.cons_append]
 gi_wp2
 gi_loopw [7] (fun i wr=>∃ (pre:List ByteArray) (cur:ByteArray),J pre wr∧wr.cell? ⟨bs,0,none⟩=some (.string cur)∧wr.cell? ⟨bp,0,none⟩=some (.string ⟨#[46]⟩)∧wr.cell? ⟨bv,0,none⟩=some (.int .i64 0)∧wr.frozen? ⟨bs,0,none⟩=false ∧
   cuts (txN T)=pre.map txN++cuts (txN cur)∧cur.size≤T.size)
  (fun i wr=>boxLen wr bs)
 case atStart=>exact ⟨[],T,h0,cs,cp,cv,fs,by simp,Nat.le_refl _⟩
 case round =>
  obtain ⟨pre,cur,hJs,ds,dp,dv,df,hc,hl⟩:=hrel
  have hge:=Lib.indexByte_ge cur.data.toList 46
  have c1:=fun m w=>c0 m cur w
  by_cases hno:Lib.indexByte cur.data.toList 46=-1
  ·have hc2:=cuts_idx_no hno
   obtain ⟨fn,tmps,assign,body,hy,hR⟩:=hY pre cur wr hJs
   rw [hno] at c1
   rw [hc2] at hc
   clear hno hge c0
   gi_wp2_with (refine ⟨trivial,?_⟩;gi_at_call 192;refine (c1 _ _).mono ?_;clear c1;rintro e w' ⟨rfl,rfl⟩)
   refine hR.mono ?_
   clear hR
   rintro e Y (⟨rfl,hJ1,hb1⟩|⟨rfl,hJ1⟩)
   ·gi_wp2
    go_end0
    exact ⟨⟨_,rfl⟩,.inl ⟨_,by rw [hc];simp,hJ1⟩⟩
   ·gi_wp2
    go_end0
    exact ⟨⟨_,rfl⟩,.inr ⟨_,by rw [hc];simp,hJ1⟩⟩
  ·obtain ⟨o,ho⟩:∃ o:Nat,Lib.indexByte cur.data.toList 46=o:=⟨(Lib.indexByte cur.data.toList 46).toNat,by omega⟩
   obtain ⟨ho1,hc2⟩:=cuts_idx_at ho
   rw [ho] at c1
   rw [hc2] at hc
   clear hno hge c0 ho
   obtain ⟨fn,tmps,assign,body,hy,hR⟩:=hY pre (cur.extract 0 o) wr hJs
   have ho2:(o:Int)+1≤cur.size:=by omega
   gi_wp2_with (refine ⟨trivial,?_⟩;gi_at_call 192;refine (c1 _ _).mono ?_;clear c1;rintro e w' ⟨rfl,rfl⟩)
   refine hR.mono ?_
   clear hR
   rintro e Y (⟨rfl,hJ1,hb1⟩|⟨rfl,hJ1⟩)
   ·have es:Y.cell? ⟨bs,0,none⟩=some (.string cur):=(Below.cell hb1 (p:=⟨bs,0,none⟩) hs).trans ds
    have ep:Y.cell? ⟨bp,0,none⟩=some (.string ⟨#[46]⟩):=(Below.cell hb1 (p:=⟨bp,0,none⟩) hp).trans dp
    have ev:Y.cell? ⟨bv,0,none⟩=some (.int .i64 0):=(Below.cell hb1 (p:=⟨bv,0,none⟩) hv).trans dv
    have ef:Y.frozen? ⟨bs,0,none⟩=false:=(World.frozen?_of_block (hb1.block bs hs)).trans df
    have hm:=boxLen_eq ds
    clear ds dp dv df
    gi_wp2
    go_roundw
    case rel =>
     refine ⟨pre++[cur.extract 0 o],cur.extract (o+1) cur.size,hJ _ _ _ _ hJ1 (grownBy_setCell' Y bs _) (fun r e=>by cases e;rfl),?_,?_,?_,?_,?_,?_⟩
     ·exact World.cell?_setCell_same' _ _ _ (by rw [es];rfl)
     ·exact (World.cell?_setCell_other Y ⟨bs,0,none⟩ ⟨bp,0,none⟩ _ (fun h=>n1 (by cases h;rfl))).trans ep
     ·exact (World.cell?_setCell_other Y ⟨bs,0,none⟩ ⟨bv,0,none⟩ _ (fun h=>n2 (by cases h;rfl))).trans ev
     ·rw [World.frozen?_setCell];exact ef
     ·rw [hc];simp
     ·rw [ByteArray.size_extract];omega
    case measure =>
     rw [hm,boxLen_eq (World.cell?_setCell_same' _ _ _ (by rw [es];rfl)),ByteArray.size_extract]
     omega
   ·gi_wp2
    refine bodyPost_ret (results_none rfl _ _ _) rfl ?_
    exact ⟨⟨_,rfl⟩,.inr ⟨_,by rw [hc];simp,hJ1⟩⟩
end Go.Proofs.YtbhdmfijdhcehaaGreatDoor
namespace Go.Proofs.YtbhdmfijdhcehaaGreatDoor
open Go.RowKit Go.Shelf
set_option linter.unusedSimpArgs false
set_option linter.unusedVariables false
attribute [local go_sem] Oper.semAt_some
theorem splitSeq_any (s p:ByteArray) (v:Int) (w:World):Calls Tryz.prog 193 #[.string s,.string p,.int .i64 v] w fun e w' =>
  e=.returned (.func (.func 205) #[] #[.pointer (some ⟨w.heap.size+1,0,none⟩),.pointer (some ⟨w.heap.size,0,none⟩),.pointer (some ⟨w.heap.size+1+1,0,none⟩)]) ∧
  ((w.alloc (.cells #[.string s] 9)).alloc (.cells #[.string p] 9)).alloc (.cells #[.int .i64 v] 3)=w':=by
 go_enter Tryz.func193,Tryz.ntmps193
 go_wp2
 go_ret
 exact ⟨rfl,rfl⟩
theorem SplitSeq_any (s p:ByteArray) (w:World):Calls Tryz.prog 176 #[.string s,.string p] w fun e w' =>
  e=.returned (.func (.func 205) #[] #[.pointer (some ⟨w.heap.size+1,0,none⟩),.pointer (some ⟨w.heap.size,0,none⟩),.pointer (some ⟨w.heap.size+1+1,0,none⟩)]) ∧
  ((w.alloc (.cells #[.string s] 9)).alloc (.cells #[.string p] 9)).alloc (.cells #[.int .i64 0] 3)=w':=by
 have c1:=splitSeq_any s p 0
 go_enter Tryz.func176,Tryz.ntmps176
 go_wp2_with (go_at_call 193;refine (c1 _).mono ?_;clear c1;rintro e w' ⟨rfl,rfl⟩)
 go_ret
 exact ⟨rfl,rfl⟩
def nameQ (L B:Int) (s:ByteArray):Prop:=(s.size:Int)≤B∧((txN s).count 46:Int)<L∧∀ x∈cuts (txN s),labP x
instance (L B:Int) (s:ByteArray):Decidable (nameQ L B s):=by unfold nameQ;infer_instance
theorem nameQ_is (s:ByteArray):nameQ 8 64 s ↔ namP s:=by
 unfold nameQ namP nameP
 rw [cuts_count,txN_len]
 constructor
 ·rintro ⟨h1,h2,h3⟩;exact ⟨by omega,by omega,h3⟩
 ·rintro ⟨h1,h2,h3⟩;exact ⟨by omega,by omega,h3⟩
theorem name_any (s:ByteArray) (hs:s.size≤140737488355328) (L B:Int) (w:World) :
  Calls Tryz.prog 159 #[.string s,.int .i64 L,.int .i64 B] w fun e w'=>e=.returned (.bool (decide (nameQ L B s)))∧Ext w w':=by
 refine (callsIn_wide (n:=5)).1 ?_
 have c1:∀ m w,CallsIn Fence.wide m Tryz.prog 175 #[.string s,.string ⟨#[46]⟩] w fun e w'=>e=.returned (.int .i64 ((txN s).count 46:Nat))∧w=w':=fun m w =>
  callsIn_wide.2 ((Tryz.strings_Count_one s 46 w).mono fun e w' ⟨he,hw⟩=>⟨by rw [he,count_dot],hw.symm⟩)
 have c2:∀ m w,CallsIn Fence.wide m Tryz.prog 176 #[.string s,.string ⟨#[46]⟩] w _:=fun m w=>callsIn_wide.2 (SplitSeq_any s ⟨#[46]⟩ w)
 have c3:∀ m x w,CallsIn Fence.wide m Tryz.prog 177 #[.string x] w _:=fun m x w=>callsIn_wide.2 (label_any x w)
 refine callsIn_of_wp_marks Tryz.func159 rfl trivial ?_ rfl
 simp only [Tryz.ntmps159,List.size_toArray,List.length_cons,List.length_nil,Nat.reduceAdd,Nat.reduceSub,Array.replicate_succ,Array.replicate_zero,List.push_toArray,List.append_toArray,List.nil_append,List.cons_append]
 by_cases h1:B<(s.size:Int)
 ·have hno:¬ nameQ L B s:=fun h=>by have:=h.1;omega
  gi_wp2
  refine ⟨trivial,?_⟩
  gi_wp2
  exact ⟨.bool false,by simp [results,Tryz.results159,go_sem],ret_bool (by rw [decide_eq_false hno]),(Ext.refl w).alloc _⟩
 by_cases h2:L≤((txN s).count 46:Int)
 ·have hno:¬ nameQ L B s:=fun h=>by have:=h.2.1;omega
  gi_wp2_with (refine ⟨trivial,?_⟩;gi_at_call 175;refine (c1 _ _).mono ?_;clear c1;rintro e w' ⟨rfl,rfl⟩)
  exact ⟨.bool false,by simp [results,Tryz.results159,go_sem],ret_bool (by rw [decide_eq_false hno]),(Ext.refl w).alloc _⟩
 gi_wp2_with (first|(refine ⟨trivial,?_⟩;gi_at_call 175;refine (c1 _ _).mono ?_;clear c1;rintro e w' ⟨rfl,rfl⟩)|(refine ⟨trivial,?_⟩;gi_at_call 176;refine (c2 _ _).mono ?_;clear c2;rintro e w' ⟨rfl,rfl⟩))
 obtain ⟨s0,hs0⟩:∃ s0,s0=w.heap.size:=⟨_,rfl⟩
 have f0:((((w.alloc (.cells #[.bool false] 4)).alloc (.cells #[.string s] 9)).alloc (.cells #[.string ⟨#[46]⟩] 9)).alloc (.cells #[.int .i64 0] 3)).cell? ⟨s0,0,none⟩=some (.bool false) ∧
  ((((w.alloc (.cells #[.bool false] 4)).alloc (.cells #[.string s] 9)).alloc (.cells #[.string ⟨#[46]⟩] 9)).alloc (.cells #[.int .i64 0] 3)).frozen? ⟨s0,0,none⟩=false ∧
  ((((w.alloc (.cells #[.bool false] 4)).alloc (.cells #[.string s] 9)).alloc (.cells #[.string ⟨#[46]⟩] 9)).alloc (.cells #[.int .i64 0] 3)).cell? ⟨s0+1,0,none⟩=some (.string s) ∧
  ((((w.alloc (.cells #[.bool false] 4)).alloc (.cells #[.string s] 9)).alloc (.cells #[.string ⟨#[46]⟩] 9)).alloc (.cells #[.int .i64 0] 3)).frozen? ⟨s0+1,0,none⟩=false ∧
  ((((w.alloc (.cells #[.bool false] 4)).alloc (.cells #[.string s] 9)).alloc (.cells #[.string ⟨#[46]⟩] 9)).alloc (.cells #[.int .i64 0] 3)).cell? ⟨s0+1+1,0,none⟩=some (.string ⟨#[46]⟩) ∧
  ((((w.alloc (.cells #[.bool false] 4)).alloc (.cells #[.string s] 9)).alloc (.cells #[.string ⟨#[46]⟩] 9)).alloc (.cells #[.int .i64 0] 3)).cell? ⟨s0+1+1+1,0,none⟩=some (.int .i64 0):=by
  subst hs0
  refine ⟨?_,?_,?_,?_,?_,?_⟩ <;> simp [go_sem]
 obtain ⟨W0,hW0⟩:∃ W0,(((w.alloc (.cells #[.bool false] 4)).alloc (.cells #[.string s] 9)).alloc (.cells #[.string ⟨#[46]⟩] 9)).alloc (.cells #[.int .i64 0] 3)=W0:=⟨_,rfl⟩
 have hE:Ext w W0:=by rw [← hW0];exact ((((Ext.refl w).alloc _).alloc _).alloc _).alloc _
 have hsz:W0.heap.size=s0+4:=by rw [← hW0,hs0];simp
 rw [hW0] at f0 ⊢
 rw [← hs0]
 obtain ⟨d0,z0,d1,z1,d2,d3⟩:=f0
 have hE':Below s0 w W0:=hs0 ▸ hE
 have Hs0:=Lib.hid hs0
 have H12:Hid ((s.size:Int)≤B∧((txN s).count 46:Int)<L):=Lib.hid ⟨by omega,by omega⟩
 clear hs0 hW0 hE
 refine wpIn_range_box rfl (by omega) (gf:=205) (lb:=#[.pointer (some ⟨s0+1+1,0,none⟩),.pointer (some ⟨s0+1,0,none⟩),.pointer (some ⟨s0+1+1+1,0,none⟩)]) rfl trivial (enters_of Tryz.func205 (by kernel_rfl) rfl)
  (en:=fun x:ByteArray=>#[Value.string x]) (b:=s0+1) (by omega) (S:=fun xs=>xs.map txN=cuts (txN s)) (Sp:=fun pre=>pre.map txN <+: cuts (txN s))
  (fun l J Jx W hW hJ hJx hY h0=>splitSeq1_in 4 (by omega) l (s0+1) (s0+1+1) (s0+1+1+1) W0.heap.size (by omega) (by omega) (by omega) (by omega) (by omega) s hs J Jx hJ hY W ((World.frozen?_of_block (hW.block _ (by simp;omega))).trans z1) ((hW.cell (p:=⟨s0+1,0,none⟩) (by simp;omega)).trans d1) ((hW.cell (p:=⟨s0+1+1,0,none⟩) (by simp;omega)).trans d2) ((hW.cell (p:=⟨s0+1+1+1,0,none⟩) (by simp;omega)).trans d3) h0)
  (fun _=>rfl)
  (fun pre W=>W.cell? ⟨s0,0,none⟩=some (.bool false)∧W.frozen? ⟨s0,0,none⟩=false∧W0.heap.size≤W.heap.size∧Below s0 w W∧∀ x∈pre,labP (txN x))
  (fun pre W=>W.cell? ⟨s0,0,none⟩=some (.bool false)∧W.frozen? ⟨s0,0,none⟩=false∧W0.heap.size≤W.heap.size∧Below s0 w W∧∃ x∈pre,¬ labP (txN x))
  ?hI ?hIx ⟨d0,z0,Nat.le_refl _,hE',by simp⟩
  (fun x=>{ tmps:=#[Value.string s,Value.int IntKind.i64 L,Value.int IntKind.i64 B,undef,undef,undef,Value.pointer (some { block:=s0,off:=0 }),Value.string x,Value.string s,Value.int IntKind.i64 ↑s.size,Value.int IntKind.i64 B,Value.bool false,Value.bool false,Value.string s,Value.int IntKind.i64 ↑(List.count 46 (txN s)),Value.int IntKind.i64 L,Value.bool (decide (L≤↑(List.count 46 (txN s)))),Value.bool (decide (L≤↑(List.count 46 (txN s)))),Value.string s,Value.func (Fn.func 205) #[] #[Value.pointer (some { block:=s0+1+1,off:=0 }),Value.pointer (some { block:=s0+1,off:=0 }),Value.pointer (some { block:=s0+1+1+1,off:=0 })],Value.string x,undef,undef,undef],defers:=[] }) ?assign ?body ?done ?stop
 case hI =>
  rintro pre X Y row ⟨i1,i2,i3,i4,i5⟩ hg hr
  have hb:Y.heap[s0]?=X.heap[s0]?:=hg.block s0 (by omega) (fun e=>by rcases hr _ e.symm with h|⟨h,_⟩ <;> omega)
  exact ⟨(World.cell?_of_block (a:=⟨s0,0,none⟩) hb).trans i1,(World.frozen?_of_block (a:=⟨s0,0,none⟩) hb).trans i2,Nat.le_trans i3 hg.size,i4.grown hg (by omega) (fun r e=>by rcases hr r e with h|⟨h,_⟩ <;> omega),i5⟩
 case hIx =>
  rintro pre X Y row ⟨i1,i2,i3,i4,i5⟩ hg hr
  have hb:Y.heap[s0]?=X.heap[s0]?:=hg.block s0 (by omega) (fun e=>by rcases hr _ e.symm with h|⟨h,_⟩ <;> omega)
  exact ⟨(World.cell?_of_block (a:=⟨s0,0,none⟩) hb).trans i1,(World.frozen?_of_block (a:=⟨s0,0,none⟩) hb).trans i2,Nat.le_trans i3 hg.size,i4.grown hg (by omega) (fun r e=>by rcases hr r e with h|⟨h,_⟩ <;> omega),i5⟩
 case assign =>
  intro l x W K hK
  gi_wp2
  exact hK
 case body =>
  rintro l pre x W ⟨i1,i2,i3,i4,i5⟩
  have c4:=fun m w=>c3 m x w
  clear c3
  by_cases hx:labP (txN x)
  ·rw [decide_eq_true hx] at c4
   gi_wp2_with (refine ⟨trivial,?_⟩;gi_at_call 177;refine (CallsIn.inRound l (c4 _ _)).mono ?_;clear c4;rintro e w' ⟨rfl,x1⟩)
   refine ⟨⟨x1.size,fun k o hk _=>(Below.block x1.out k (Array.getElem?_eq_some_iff.1 hk).1).trans hk⟩,Below.mono x1.out i3,x1.cell i1,(x1.frozen i1).trans i2,Nat.le_trans i3 x1.size,i4.trans (Below.mono x1.out (by omega)),fun y hy=>?_⟩
   rcases List.mem_append.1 hy with hy|hy
   ·exact i5 y hy
   ·rw [List.mem_singleton] at hy;subst hy;exact hx
  ·rw [decide_eq_false hx] at c4
   gi_wp2_with (refine ⟨trivial,?_⟩;gi_at_call 177;refine (CallsIn.inRound l (c4 _ _)).mono ?_;clear c4;rintro e w' ⟨rfl,x1⟩;have y1:=x1.cell i1;have y2:=(x1.frozen i1).trans i2)
   refine ⟨KeepsOthers.trans (B:=w') ⟨x1.size,fun k o hk _=>(Below.block x1.out k (Array.getElem?_eq_some_iff.1 hk).1).trans hk⟩ (KeepsOthers.setCell _ _ _),World.cell?_setCell_same' _ _ _ (by rw [y1];rfl),by rw [World.frozen?_setCell];exact y2,Nat.le_trans i3 (Nat.le_trans x1.size (KeepsOthers.setCell _ _ _).size),(i4.trans (Below.mono x1.out (by omega))).setCell (p:=⟨s0,0,none⟩) (Nat.le_refl _) _,x,by simp,hx⟩
 case done =>
  rintro D ys W hD hS ⟨i1,i2,i3,i4,i5⟩ hK
  have hyes:nameQ L B s:=⟨H12.out.1,H12.out.2,fun x hx=>by rw [← hS] at hx;obtain ⟨y,hy,rfl⟩:=List.mem_map.1 hx;exact i5 y hy⟩
  have j1:(W.setCell ⟨s0,0,none⟩ (.bool true)).cell? ⟨s0,0,none⟩=some (.bool true):=World.cell?_setCell_same' _ _ _ (by rw [i1];rfl)
  have hK':(W.setCell ⟨s0,0,none⟩ (.bool true)).heap[D]?=some (.deferred (some [])):=(KeepsOthers.setCell _ _ _).same D _ hK rfl
  gi_wp2
  refine ⟨by simp,.inl ⟨_,_,rfl,run_takeDeferred hK',?_⟩⟩
  have j2:((W.setCell ⟨s0,0,none⟩ (.bool true)).putObj D (.deferred none)).cell? ⟨s0,0,none⟩=some (.bool true):=(World.cell?_of_block (World.putObj_heap_other (by simp;omega))).trans j1
  refine ⟨.bool true,by simp [results,Tryz.results159,go_sem,j2],ret_bool (by rw [decide_eq_true hyes]),?_⟩
  exact Ext.of (Hs0.out ▸ (i4.setCell (p:=⟨s0,0,none⟩) (Nat.le_refl _) _).trans (belowK_b (n₀:=s0) (w:=w) (by rw [Hs0.out];exact Nat.le_refl _) _ D _ _ (by rw [hsz,Hs0.out] at hD;omega) hK' rfl rfl))
 case stop =>
  rintro D pre W hD hS ⟨i1,i2,i3,i4,i5⟩ hK
  have hno:¬ nameQ L B s:=fun h=>by
   obtain ⟨x,hx,hn⟩:=i5
   exact hn (h.2.2 _ (hS.subset (List.mem_map.2 ⟨x,hx,rfl⟩)))
  gi_wp2
  refine ⟨by simp,.inl ⟨_,_,rfl,run_takeDeferred hK,?_⟩⟩
  have j2:(W.putObj D (.deferred none)).cell? ⟨s0,0,none⟩=some (.bool false):=(World.cell?_of_block (World.putObj_heap_other (by simp;omega))).trans i1
  refine ⟨.bool false,by simp [results,Tryz.results159,go_sem,j2],ret_bool (by rw [decide_eq_false hno]),?_⟩
  exact Ext.of (Hs0.out ▸ i4.trans (belowK_b (n₀:=s0) (w:=w) (by rw [Hs0.out];exact Nat.le_refl _) _ D _ _ (by rw [hsz,Hs0.out] at hD;omega) hK rfl rfl))
theorem is_any (s:ByteArray) (hs:s.size≤140737488355328) (w:World) :
  Calls Tryz.prog 140 #[.string s] w fun e w'=>e=.returned (.bool (decide (namP s)))∧Ext w w':=by
 have c1:=name_any s hs 8 64
 rw [show decide (nameQ 8 64 s)=decide (namP s) by rw [decide_eq_decide];exact nameQ_is s] at c1
 go_enter Tryz.func140,Tryz.ntmps140
 go_wp2_with (go_at_call 159;refine (c1 _).mono ?_;clear c1;rintro e w1 ⟨rfl,x1⟩)
 go_ret
 exact ⟨rfl,x1⟩
def namE (s:ByteArray):Nat:=if namP s then 0 else 110
theorem nCheck_any (s:ByteArray) (hs:s.size≤140737488355328) (w:World) :
  Calls Tryz.prog 113 #[.string s] w fun e w'=>e=.returned (.int .i64 (namE s:Nat))∧Ext w w':=by
 have c1:=is_any s hs
 have c2:=told_any (decide (namP s))
 have e:((if (decide (namP s))=true then 0 else 110:Int))=(namE s:Nat):=by unfold namE;split <;> rename_i h <;> simp at h <;> simp [h]
 rw [e] at c2
 generalize decide (namP s)=b at c1 c2
 go_enter Tryz.func113,Tryz.ntmps113
 go_wp2_with (first|(go_at_call 140;refine (c1 _).mono ?_;clear c1;rintro e w1 ⟨rfl,x1⟩)|(go_at_call 139;refine (c2 _).mono ?_;clear c2;rintro e w1 ⟨rfl,rfl⟩))
 go_ret
 exact ⟨rfl,x1⟩
end Go.Proofs.YtbhdmfijdhcehaaGreatDoor
namespace Go.Proofs.YtbhdmfijdhcehaaGreatDoor
open Go.RowKit Go.Shelf Go.Maps
set_option linter.unusedSimpArgs false
set_option linter.unusedVariables false
theorem cuts_len:∀ (l x:List Nat),x∈cuts l→x.length≤l.length
 | [],x,h=>by simp [cuts] at h;subst h;simp
 | c :: l,x,h=>by
  have ih:=cuts_len l
  unfold cuts at h
  split at h
  ·rcases List.mem_cons.1 h with rfl|h
   ·simp
   ·have:=ih x h;simp;omega
  ·split at h
   ·simp at h;subst h;simp
   ·next a t e =>
    rw [e] at ih
    rcases List.mem_cons.1 h with rfl|h
    ·have:=ih a (by simp);simp;omega
    ·have:=ih x (by simp [h]);simp;omega
theorem txN_at {s:ByteArray} {i:Nat} (h:i<s.size):(txN s)[i]?=some (s[i]'h).toNat:=by
 rw [List.getElem?_eq_getElem (by rw [txN_len];exact h),txN_get s i h]
theorem cut_any (s:ByteArray) (hs:s.size≤1099511627776) (w:World):Calls Tryz.prog 161 #[.string s] w fun e w' =>
  ∃ (xs:List ByteArray) (A:Option Addr) (c:Nat),e=.returned (.slice A xs.length c)∧xs.length≤c∧xs.map txN=cuts (txN s)∧Reads w' w'.heap.size 1 A xs.length (tv xs)∧Ext w w':=by
 obtain ⟨i0,hi,hz0,hz1,hz2⟩:=info_parts Tryz.infoStr
 go_enter Tryz.func161,Tryz.ntmps161
 go_wp2
 go_loopg [3,4,5] s.size (fun m s3 s4 s5 wr=>∃ (f i:Nat) (xs:List ByteArray),i+m=s.size∧f≤i∧xs.length≤i∧s4=.int .i64 f∧s5=.int .i64 i∧wr.ownsRow w.heap.size 9 1 s3 xs.length (tv xs)∧Ext w wr ∧
  cuts (txN s)=xs.map txN++cuts ((txN s).drop f)∧∀ k,f≤k→k<i→(txN s)[k]?≠some 46)
 case atStart=>exact ⟨0,0,[],by omega,Nat.le_refl _,by simp,rfl,rfl,World.ownsRow_nil _ _ _ _,Ext.refl w,by simp,fun k h1 h2=>by omega⟩
 case round =>
  obtain ⟨f,i,xs,hm,hf,hxl,rfl,rfl,hown,hx,hc,hn⟩:=hrel
  by_cases h:i<s.size
  ·have hil:(i:Int)<s.size:=by omega
   by_cases h46:(((s[i]'h).toNat:Nat):Int)=46
   ·have hd:(txN s)[i]?=some 46:=by rw [txN_at h];congr 1;omega
    have hst:=cuts_step hf (by rw [txN_len];exact h) hn hd
    have hfi:(f:Int)≤i:=by omega
    have HC:Hid (cuts (txN s)=(xs++[s.extract f i]).map txN++cuts ((txN s).drop (i+1))):=Lib.hid (by
     rw [hc,hst,List.map_append,List.map_cons,List.map_nil,txN_extract,List.append_assoc]
     congr 2
     rw [List.drop_take])
    have HX:=Lib.hid hx
    have HM:=Lib.hid hm
    have HL:=Lib.hid hxl
    clear hst hd hc hn hx hm hf hxl
    go_wp2_with (at_builtin;refine wpList_append_own _ rfl (.tmp 16) (.tmp 21) 23 rfl w.heap.size 9 i0 (.string ⟨#[]⟩) 1 16 Tryz.underlying23 hi hz0 hz1 hz2 rfl (by decide) _ _ _ rfl (hown.alloc _) ⟨wr.heap.size,0,none⟩ 1 1 [.string (s.extract f i)] rfl rfl (cell_one_new _ _ _) (by simp [Value.oneCell']) (by have:=HL.out;have:=HM.out;simp only [maxLen];omega) (by have:=HL.out;have:=HM.out;omega) (by have:=HX.out.size;simp;omega) ?_;intro v2 w2 hown2 hg2 _)
    have X2:=ext_grown (HX.out.alloc _) (hown.alloc _) hg2
    have O2:Hid (w2.ownsRow w.heap.size 9 1 v2 (xs++[s.extract f i]).length (tv (xs++[s.extract f i]))):=by
     show World.ownsRow _ _ _ _ _ _ _
     rw [List.length_append,tv_append]
     exact hown2
    clear hown2 hg2 hown
    have hm:=HM.out
    have hl:=HL.out
    go_roundg (gk-1)
    case measure=>omega
    case rel=>exact ⟨i+1,i+1,xs++[s.extract f i],by omega,Nat.le_refl _,by simp;omega,int_congr (by omega),int_congr (by omega),O2.out,X2,HC.out,fun k h1 h2=>by omega⟩
   ·have HN:Hid (∀ k,f≤k→k<i+1→(txN s)[k]?≠some 46):=Lib.hid (fun k h1 h2=>by
     rcases Nat.lt_succ_iff_lt_or_eq.1 h2 with h3|rfl
     ·exact hn k h1 h3
     ·rw [txN_at h];intro e;injection e with e;omega)
    have HX:=Lib.hid hx
    have HC:=Lib.hid hc
    have HO:=Lib.hid hown
    have HM:=Lib.hid hm
    have HF:=Lib.hid hf
    have HL:=Lib.hid hxl
    clear hn hx hc hown hm hf hxl
    go_wp2
    have hm:=HM.out
    have hl:=HL.out
    have hf:=HF.out
    go_roundg (gk-1)
    case measure=>omega
    case rel=>exact ⟨f,i+1,xs,by omega,by omega,by omega,rfl,int_congr (by omega),HO.out,HX.out,HC.out,HN.out⟩
  ·obtain rfl:i=s.size:=by omega
   have hcl:=cuts_last (l:=txN s) (f:=f) (fun k h1 h2=>hn k h1 (by rw [txN_len] at h2;exact h2))
   have HC:Hid (cuts (txN s)=(xs++[s.extract f s.size]).map txN):=Lib.hid (by
    rw [hc,hcl,List.map_append,List.map_cons,List.map_nil,txN_extract,List.take_of_length_le (by rw [txN_len];exact Nat.le_refl _)])
   have hfs:(f:Int)≤s.size:=by omega
   have HX:=Lib.hid hx
   have HL:=Lib.hid hxl
   have HS:=Lib.hid hs
   clear hn hx hc hcl hm hf hxl hs
   go_wp2_with (at_builtin;refine wpList_append_own _ rfl (.tmp 25) (.tmp 29) 23 rfl w.heap.size 9 i0 (.string ⟨#[]⟩) 1 16 Tryz.underlying23 hi hz0 hz1 hz2 rfl (by decide) _ _ _ rfl (hown.alloc _) ⟨wr.heap.size,0,none⟩ 1 1 [.string (s.extract f s.size)] rfl rfl (cell_one_new _ _ _) (by simp [Value.oneCell']) (by have:=HL.out;have:=HS.out;simp only [maxLen];omega) (by have:=HL.out;have:=HS.out;omega) (by have:=HX.out.size;simp;omega) ?_;intro v2 w2 hown2 hg2 _)
   have X2:=ext_grown (HX.out.alloc _) (hown.alloc _) hg2
   have O2:Hid (w2.ownsRow w.heap.size 9 1 v2 (xs++[s.extract f s.size]).length (tv (xs++[s.extract f s.size]))):=by
    show World.ownsRow _ _ _ _ _ _ _
    rw [List.length_append,tv_append]
    exact hown2
   obtain ⟨A',c',rfl,hc',hr'⟩:=own_slice O2.out
   clear hown2 hg2 hown
   go_ret
   exact ⟨_,A',c',rfl,hc',HC.out.symm,hr',X2⟩
theorem rName_any (s:ByteArray) (hs:s.size≤140737488355328) (w:World):Calls Tryz.prog 143 #[.string s] w fun e w'=>e=.returned (.bool (decide (namP s)))∧Ext w w':=by
 have c1:=fun hs'=>cut_any s hs'
 go_enter Tryz.func143,Tryz.ntmps143
 by_cases h64:(64:Int)<s.size
 ·have hno:¬ namP s:=fun h=>by have:=nam_size h;omega
  go_wp2
  go_ret
  exact ⟨ret_bool (by rw [decide_eq_false hno]),Ext.refl w⟩
 replace c1:=c1 (by omega)
 go_wp2_with (go_at_call 161;refine (c1 _).mono ?_;clear c1;rintro e w1 ⟨xs,A,c,rfl,hxc,hxs,hr,x1⟩)
 have h8:(xs.length:Int)≤8∧(∀ x∈xs,labP (txN x)) ↔ namP s:=by
  unfold namP nameP
  rw [← hxs,List.length_map,txN_len]
  constructor
  ·rintro ⟨a,b⟩
   exact ⟨by omega,by omega,fun x hx=>by obtain ⟨y,hy,rfl⟩:=List.mem_map.1 hx;exact b y hy⟩
  ·rintro ⟨a,b,d⟩
   exact ⟨by omega,fun x hx=>d _ (List.mem_map.2 ⟨x,hx,rfl⟩)⟩
 have hl:xs.length≤s.size+1:=by
  have:=congrArg List.length hxs
  rw [List.length_map,cuts_count] at this
  have h3:=List.count_le_length (a:=46) (l:=txN s)
  rw [txN_len] at h3
  omega
 have hsz:∀ x∈xs,x.size≤140737488355328:=fun x hx=>by
  have:=cuts_len (txN s) (txN x) (by rw [← hxs];exact List.mem_map.2 ⟨x,hx,rfl⟩)
  rw [txN_len,txN_len] at this
  omega
 have H8:=Lib.hid h8
 have HR:=Lib.hid hr
 have HX:=Lib.hid x1
 have HS:=Lib.hid hsz
 have H64:Hid (xs.length≤65):=Lib.hid (by omega)
 clear h8 hr x1 hxs hl hsz hs h64
 go_loopg [4] xs.length (fun m s4 wr=>∃ j:Nat,j+m=xs.length∧s4=.int .i64 j∧(∀ x∈xs.take j,labP (txN x))∧Ext w1 wr)
 case atStart=>exact ⟨0,by omega,rfl,by simp,Ext.refl w1⟩
 case round =>
  obtain ⟨j,hj,rfl,hok,hx⟩:=hrel
  have hjb:(j:Int)≤1000:=by have:=H64.out;omega
  by_cases h:j<xs.length
  ·obtain ⟨x,hs⟩:∃ s,xs[j]?=some s:=⟨_,List.getElem?_eq_getElem h⟩
   have hxm:=List.mem_of_getElem? hs
   obtain ⟨ad,rfl,q0⟩:=reads_text (HR.out.below hx.out) hs
   have c1:=rlabel_any x
   have e1:xs.take (j+1)=xs.take j++[x]:=by rw [List.take_add_one,hs];rfl
   have hSx:=HS.out x hxm
   by_cases hlb:labP (txN x)
   ·rw [decide_eq_true hlb] at c1
    have hok':Hid (∀ x∈xs.take (j+1),labP (txN x)):=Lib.hid fun r hr=>by
     rw [e1] at hr
     rcases List.mem_append.1 hr with hr|hr
     ·exact hok r hr
     ·rw [List.mem_singleton] at hr;subst hr;exact hlb
    have HX2:=Lib.hid hx
    have HJ:=Lib.hid hj
    clear hx hj hs hok e1 hlb hxm
    go_wp2_with (go_at_call 162;refine (c1 _ hSx).mono ?_;clear c1;rintro e w2 ⟨rfl,x1⟩)
    have hj:=HJ.out
    go_roundg (gk-1)
    case measure=>omega
    case rel=>exact ⟨j+1,by omega,int_congr (by omega),hok'.out,HX2.out.trans x1⟩
   ·rw [decide_eq_false hlb] at c1
    have HN:Hid (¬ namP s):=Lib.hid (fun hn=>hlb ((H8.out.2 hn).2 x hxm))
    have HX2:=Lib.hid hx
    clear hx hj hs hok e1 hlb hxm
    go_wp2_with (go_at_call 162;refine (c1 _ hSx).mono ?_;clear c1;rintro e w2 ⟨rfl,x1⟩)
    go_ret
    exact ⟨ret_bool (by rw [decide_eq_false HN.out]),HX.out.trans (HX2.out.trans x1)⟩
  ·obtain rfl:j=xs.length:=by omega
   rw [List.take_length] at hok
   have HB:Hid (decide ((xs.length:Int)≤8)=decide (namP s)):=Lib.hid (by
    rw [decide_eq_decide]
    exact ⟨fun h=>H8.out.1 ⟨h,hok⟩,fun h=>(H8.out.2 h).1⟩)
   have HX2:=Lib.hid hx
   clear hx hj h hok
   go_wp2
   go_ret
   exact ⟨ret_bool HB.out,HX.out.trans HX2.out⟩
theorem rnCheck_any (s:ByteArray) (hs:s.size≤140737488355328) (w:World):Calls Tryz.prog 120 #[.string s] w fun e w'=>e=.returned (.int .i64 (namE s:Nat))∧Ext w w':=by
 have c1:=rName_any s hs
 unfold namE
 go_enter Tryz.func120,Tryz.ntmps120
 by_cases h:namP s
 ·rw [decide_eq_true h] at c1
  rw [if_pos h]
  go_wp2_with (go_at_call 143;refine (c1 _).mono ?_;clear c1;rintro e w2 ⟨rfl,x1⟩)
  go_ret
  exact ⟨rfl,x1⟩
 ·rw [decide_eq_false h] at c1
  rw [if_neg h]
  go_wp2_with (go_at_call 143;refine (c1 _).mono ?_;clear c1;rintro e w2 ⟨rfl,x1⟩)
  go_ret
  exact ⟨rfl,x1⟩
theorem time_any (n:Int) (w:World):Calls Tryz.prog 87 #[.int .i64 n] w fun e w'=>e=.returned (.bool (decide (numP n)))∧w'=w:=by
 go_enter Tryz.func87,Tryz.ntmps87
 by_cases h1:0≤n <;> by_cases h2:n≤1099511627776
 all_goals
  go_wp2
  go_ret
  exact ⟨ret_bool (by rw [eq_comm];first|exact decide_eq_true (by unfold numP;omega)|exact decide_eq_false (by unfold numP;omega)),rfl⟩
theorem rtime_any (n:Int) (w:World):Calls Tryz.prog 107 #[.int .i64 n] w fun e w'=>e=.returned (.bool (decide (numP n)))∧w'=w:=by
 go_enter Tryz.func107,Tryz.ntmps107
 by_cases h1:0≤n <;> by_cases h2:n≤1099511627776
 all_goals
  go_wp2
  go_ret
  exact ⟨ret_bool (by rw [eq_comm];first|exact decide_eq_true (by unfold numP;omega)|exact decide_eq_false (by unfold numP;omega)),rfl⟩
theorem fCheck_any (next:Int) (l:List NonR) (A:Option Addr) (c:Nat) (w:World) (hw:NonsW w w.heap.size next l A c) :
  Calls Tryz.prog 62 #[fenV next l A c] w fun e w'=>e=.returned (.int .i64 (fenN next l:Nat))∧Ext w w':=by
 have c1:=time_any
 unfold fenV
 go_enter Tryz.func62,Tryz.ntmps62
 go_wp2
 obtain ⟨w1,e1⟩:∃ W,w.alloc (.cells #[.int .i64 next,.slice A l.length c] 38)=W:=⟨_,rfl⟩
 have x1:Ext w w1:=by rw [← e1];exact (Ext.refl w).alloc _
 have hb:Blk w1 w.heap.size 38 #[.int .i64 next,.slice A l.length c]:=by rw [← e1];exact Blk.new _ _ _
 rw [e1]
 clear e1
 have HB:=Lib.hid hb
 have X1:=Lib.hid x1
 have hl:=(hw.ext x1).lst
 have HR:=Lib.hid hl
 have HN:=Lib.hid hw.len
 clear hb x1 hl hw
 go_loopg [3,9] l.length (fun m s3 s9 wr=>∃ j:Nat,j+m=l.length∧s9=.int .i64 j∧s3=.int .i64 (lastF (l.take j))∧fenTo next (l.take j)∧Ext w1 wr)
 case atStart=>exact ⟨0,by omega,rfl,rfl,fenTo_nil next,Ext.refl w1⟩
 case round =>
  obtain ⟨j,hj,rfl,rfl,hok,hx⟩:=hrel
  obtain ⟨q0,q1⟩:=two (ext_blk hx HB.out)
  have nn:=World.new_ne wr ⟨w.heap.size,0,none⟩ q0
  simp only at nn
  have hjb:(j:Int)≤1099511627776:=by have:=HN.out;omega
  by_cases h:j<l.length
  ·obtain ⟨x,hs⟩:∃ s,l[j]?=some s:=⟨_,List.getElem?_eq_getElem h⟩
   obtain ⟨ad,rfl,hlt,p0,p1⟩:=reads_non (HR.out.below hx.out) hs
   obtain ⟨q2,q3⟩:=two (ext_blk (hx.alloc (.cells #[.int .i64 x.n,.int .i64 x.u] 102)) HB.out)
   have hst:=fenTo_take_succ (next:=next) hs
   have hla:=lastF_take_succ hs
   obtain ⟨la,ela⟩:∃ la,la=lastF (l.take j):=⟨_,rfl⟩
   rw [← ela] at hst ⊢
   have HS:=Lib.hid hst
   have HLA:=Lib.hid hla
   have HX:=Lib.hid hx
   have HO:=Lib.hid hok
   have HJ:=Lib.hid hj
   clear hst hla hx hok hj hs ela
   by_cases b1:x.n≤la
   ·have hno:Hid (fenN next l=1):=Lib.hid (fenN_no (fenTo_not (k:=j+1) (fun hh=>by have:=(HS.out.1 hh).2.1;omega)))
    go_wp2_with (go_at_call 87;refine (c1 _ _).mono ?_;rintro e w2 ⟨rfl,rfl⟩)
    go_ret
    exact ⟨by rw [hno.out];rfl,X1.out.trans (HX.out.alloc _)⟩
   by_cases b2:next≤x.n
   ·have hno:Hid (fenN next l=1):=Lib.hid (fenN_no (fenTo_not (k:=j+1) (fun hh=>by have:=(HS.out.1 hh).2.2.1;omega)))
    go_wp2_with (go_at_call 87;refine (c1 _ _).mono ?_;rintro e w2 ⟨rfl,rfl⟩)
    go_ret
    exact ⟨by rw [hno.out];rfl,X1.out.trans (HX.out.alloc _)⟩
   have c1x:=c1 x.u
   by_cases b3:numP x.u
   ·rw [decide_eq_true b3] at c1x
    have HOK:Hid (fenTo next (l.take (j+1))):=Lib.hid (HS.out.2 ⟨HO.out,by omega,by omega,b3⟩)
    clear b3
    go_wp2_with (go_at_call 87;refine (c1x _).mono ?_;rintro e w2 ⟨rfl,rfl⟩)
    have hj:=HJ.out
    go_roundg (gk-1)
    case measure=>omega
    case rel=>exact ⟨j+1,by omega,int_congr (by omega),by rw [HLA.out],HOK.out,HX.out.alloc _⟩
   ·have hno:Hid (fenN next l=1):=Lib.hid (fenN_no (fenTo_not (k:=j+1) (fun hh=>b3 (HS.out.1 hh).2.2.2)))
    rw [decide_eq_false b3] at c1x
    clear b3
    go_wp2_with (go_at_call 87;refine (c1x _).mono ?_;rintro e w2 ⟨rfl,rfl⟩)
    go_ret
    exact ⟨by rw [hno.out];rfl,X1.out.trans (HX.out.alloc _)⟩
  ·obtain rfl:j=l.length:=by omega
   rw [List.take_length] at hok ⊢
   have HX:=Lib.hid hx
   have c1x:=c1 next
   by_cases b3:numP next
   ·rw [decide_eq_true b3] at c1x
    have hy:=fenN_yes hok b3
    clear hx hj h hok b3
    by_cases b4:(64:Int)<l.length
    ·rw [if_pos (by omega)] at hy
     have HY:=Lib.hid hy
     clear hy
     go_wp2_with (go_at_call 87;refine (c1x _).mono ?_;rintro e w2 ⟨rfl,rfl⟩)
     go_ret
     exact ⟨by rw [HY.out];rfl,X1.out.trans HX.out⟩
    ·rw [if_neg (by omega)] at hy
     have HY:=Lib.hid hy
     clear hy
     go_wp2_with (go_at_call 87;refine (c1x _).mono ?_;rintro e w2 ⟨rfl,rfl⟩)
     go_ret
     exact ⟨by rw [HY.out];rfl,X1.out.trans HX.out⟩
   ·rw [decide_eq_false b3] at c1x
    have HY:=Lib.hid (fenN_num (l:=l) b3)
    clear hx hj h hok b3
    go_wp2_with (go_at_call 87;refine (c1x _).mono ?_;rintro e w2 ⟨rfl,rfl⟩)
    go_ret
    exact ⟨by rw [HY.out];rfl,X1.out.trans HX.out⟩
theorem Tryz.infoNon:(Tryz.prog.info? 102).map (fun i=>(i.zero,i.size,i.bytes))=some (some (.agg #[.int .i64 0,.int .i64 0]),2,16):=by kernel_rfl
theorem Tryz.infoAcc:(Tryz.prog.info? 75).map (fun i=>(i.zero,i.size,i.bytes))=some (some (.agg #[.int .i64 0,.int .u64 0]),2,16):=by kernel_rfl
theorem Tryz.infoAut:(Tryz.prog.info? 69).map (fun i=>(i.zero,i.size,i.bytes))=some (some (.agg #[.int .i64 0,.int .i64 0,.string ⟨#[]⟩,.string ⟨#[]⟩,.int .i64 0,.int .i64 0,.int .i64 0]),7,72):=by kernel_rfl
theorem Tryz.infoOrd:(Tryz.prog.info? 78).map (fun i=>(i.zero,i.size,i.bytes))=some (some (.agg #[.int .i64 0,.int .i64 0,.slice none 0 0,.int .u64 0,.int .i64 0,.slice none 0 0,.int .i64 0,.int .i64 0]),8,96):=by kernel_rfl
theorem cloneT_any (A:Option Addr) (n c:Nat) (xs:List Value) (h1:∀ u∈xs,u.oneCell'=true) (hn:n≤1099511627776) (w:World) (hr:Reads w w.heap.size 1 A n xs) :
  Calls Tryz.prog 76 #[.slice A n c] w fun e w'=>∃ v,e=.returned v∧w'.ownsRow w.heap.size 9 1 v n xs∧Ext w w':=by
 obtain ⟨i0,hi,hz0,hz1,hz2⟩:=info_parts Tryz.infoStr
 have hq:=fun (w:World) (a:Option Addr) (n c:Nat)=>Lib.run_eql_slice_nil (P:=Tryz.prog) w 23 9 a n c 0 0 Tryz.underlying23
 go_enter Tryz.func76,Tryz.ntmps76
 rcases A with _|ad
 ·have h0:n=0:=by
   rcases Nat.eq_zero_or_pos n with h0|h0
   ·exact h0
   ·obtain ⟨_,e,_⟩:=hr.2 h0;cases e
  subst h0
  have hx:xs=[]:=List.eq_nil_of_length_eq_zero (by simpa using hr.1)
  subst hx
  clear hr h1 hn
  go_wp2
  go_ret
  exact ⟨_,rfl,World.ownsRow_nil _ _ _ _,Ext.refl w⟩
 ·have HR:=Lib.hid (hr.alloc (Nat.le_refl _) (.cells #[] 9))
  have HN:=Lib.hid hn
  have HO:=Lib.hid h1
  clear hr h1 hn
  go_wp2_with (at_builtin;refine wpList_append_any _ rfl (.tmp 5) (.tmp 6) 23 rfl w.heap.size 9 i0 (.string ⟨#[]⟩) 1 16 Tryz.underlying23 hi hz0 hz1 hz2 rfl (by decide) _ 0 [] rfl (own_empty w _ _ rfl (Nat.le_refl _) _ _) w.heap.size _ _ _ xs rfl HR.out HO.out (by have:=HN.out;simp only [maxLen];omega) (by have:=HN.out;omega) (by simp) ?_;intro v2 w2 hown2 hg2 _)
  go_ret
  rw [Nat.zero_add,List.nil_append] at hown2
  exact ⟨_,rfl,hown2,ext_grown ((Ext.refl w).alloc _) (own_empty w _ _ rfl (Nat.le_refl _) 9 1) hg2⟩
theorem cloneN_any (A:Option Addr) (n c:Nat) (xs:List Value) (h1:∀ u∈xs,u.oneCell'=true) (hn:n≤1099511627776) (w:World) (hr:Reads w w.heap.size 2 A n xs) :
  Calls Tryz.prog 92 #[.slice A n c] w fun e w'=>∃ v,e=.returned v∧w'.ownsRow w.heap.size 102 2 v n xs∧Ext w w':=by
 obtain ⟨i0,hi,hz0,hz1,hz2⟩:=info_parts Tryz.infoNon
 have hq:=fun (w:World) (a:Option Addr) (n c:Nat)=>Lib.run_eql_slice_nil (P:=Tryz.prog) w 36 102 a n c 0 0 Tryz.underlying36
 go_enter Tryz.func92,Tryz.ntmps92
 rcases A with _|ad
 ·have h0:n=0:=by
   rcases Nat.eq_zero_or_pos n with h0|h0
   ·exact h0
   ·obtain ⟨_,e,_⟩:=hr.2 h0;cases e
  subst h0
  have hx:xs=[]:=List.eq_nil_of_length_eq_zero (by simpa using hr.1)
  subst hx
  clear hr h1 hn
  go_wp2
  go_ret
  exact ⟨_,rfl,World.ownsRow_nil _ _ _ _,Ext.refl w⟩
 ·have HR:=Lib.hid (hr.alloc (Nat.le_refl _) (.cells #[] 102))
  have HN:=Lib.hid hn
  have HO:=Lib.hid h1
  clear hr h1 hn
  go_wp2_with (at_builtin;refine wpList_append_any _ rfl (.tmp 5) (.tmp 6) 36 rfl w.heap.size 102 i0 (.agg #[.int .i64 0,.int .i64 0]) 2 16 Tryz.underlying36 hi hz0 hz1 hz2 rfl (by decide) _ 0 [] rfl (own_empty w _ _ rfl (Nat.le_refl _) _ _) w.heap.size _ _ _ xs rfl HR.out HO.out (by have:=HN.out;simp only [maxLen];omega) (by have:=HN.out;omega) (by simp) ?_;intro v2 w2 hown2 hg2 _)
  go_ret
  rw [Nat.zero_add,List.nil_append] at hown2
  exact ⟨_,rfl,hown2,ext_grown ((Ext.refl w).alloc _) (own_empty w _ _ rfl (Nat.le_refl _) 102 2) hg2⟩
theorem cloneA_any (A:Option Addr) (n c:Nat) (xs:List Value) (h1:∀ u∈xs,u.oneCell'=true) (hn:n≤1099511627776) (w:World) (hr:Reads w w.heap.size 2 A n xs) :
  Calls Tryz.prog 100 #[.slice A n c] w fun e w'=>∃ v,e=.returned v∧w'.ownsRow w.heap.size 75 2 v n xs∧Ext w w':=by
 obtain ⟨i0,hi,hz0,hz1,hz2⟩:=info_parts Tryz.infoAcc
 have hq:=fun (w:World) (a:Option Addr) (n c:Nat)=>Lib.run_eql_slice_nil (P:=Tryz.prog) w 39 75 a n c 0 0 Tryz.underlying39
 go_enter Tryz.func100,Tryz.ntmps100
 rcases A with _|ad
 ·have h0:n=0:=by
   rcases Nat.eq_zero_or_pos n with h0|h0
   ·exact h0
   ·obtain ⟨_,e,_⟩:=hr.2 h0;cases e
  subst h0
  have hx:xs=[]:=List.eq_nil_of_length_eq_zero (by simpa using hr.1)
  subst hx
  clear hr h1 hn
  go_wp2
  go_ret
  exact ⟨_,rfl,World.ownsRow_nil _ _ _ _,Ext.refl w⟩
 ·have HR:=Lib.hid (hr.alloc (Nat.le_refl _) (.cells #[] 75))
  have HN:=Lib.hid hn
  have HO:=Lib.hid h1
  clear hr h1 hn
  go_wp2_with (at_builtin;refine wpList_append_any _ rfl (.tmp 5) (.tmp 6) 39 rfl w.heap.size 75 i0 (.agg #[.int .i64 0,.int .u64 0]) 2 16 Tryz.underlying39 hi hz0 hz1 hz2 rfl (by decide) _ 0 [] rfl (own_empty w _ _ rfl (Nat.le_refl _) _ _) w.heap.size _ _ _ xs rfl HR.out HO.out (by have:=HN.out;simp only [maxLen];omega) (by have:=HN.out;omega) (by simp) ?_;intro v2 w2 hown2 hg2 _)
  go_ret
  rw [Nat.zero_add,List.nil_append] at hown2
  exact ⟨_,rfl,hown2,ext_grown ((Ext.refl w).alloc _) (own_empty w _ _ rfl (Nat.le_refl _) 75 2) hg2⟩
theorem cloneU_any (A:Option Addr) (n c:Nat) (xs:List Value) (h1:∀ u∈xs,u.oneCell'=true) (hn:n≤1099511627776) (w:World) (hr:Reads w w.heap.size 7 A n xs) :
  Calls Tryz.prog 101 #[.slice A n c] w fun e w'=>∃ v,e=.returned v∧w'.ownsRow w.heap.size 69 7 v n xs∧Ext w w':=by
 obtain ⟨i0,hi,hz0,hz1,hz2⟩:=info_parts Tryz.infoAut
 have hq:=fun (w:World) (a:Option Addr) (n c:Nat)=>Lib.run_eql_slice_nil (P:=Tryz.prog) w 40 69 a n c 0 0 Tryz.underlying40
 go_enter Tryz.func101,Tryz.ntmps101
 rcases A with _|ad
 ·have h0:n=0:=by
   rcases Nat.eq_zero_or_pos n with h0|h0
   ·exact h0
   ·obtain ⟨_,e,_⟩:=hr.2 h0;cases e
  subst h0
  have hx:xs=[]:=List.eq_nil_of_length_eq_zero (by simpa using hr.1)
  subst hx
  clear hr h1 hn
  go_wp2
  go_ret
  exact ⟨_,rfl,World.ownsRow_nil _ _ _ _,Ext.refl w⟩
 ·have HR:=Lib.hid (hr.alloc (Nat.le_refl _) (.cells #[] 69))
  have HN:=Lib.hid hn
  have HO:=Lib.hid h1
  clear hr h1 hn
  go_wp2_with (at_builtin;refine wpList_append_any _ rfl (.tmp 5) (.tmp 6) 40 rfl w.heap.size 69 i0 (.agg #[.int .i64 0,.int .i64 0,.string ⟨#[]⟩,.string ⟨#[]⟩,.int .i64 0,.int .i64 0,.int .i64 0]) 7 72 Tryz.underlying40 hi hz0 hz1 hz2 rfl (by decide) _ 0 [] rfl (own_empty w _ _ rfl (Nat.le_refl _) _ _) w.heap.size _ _ _ xs rfl HR.out HO.out (by have:=HN.out;simp only [maxLen];omega) (by have:=HN.out;omega) (by simp) ?_;intro v2 w2 hown2 hg2 _)
  go_ret
  rw [Nat.zero_add,List.nil_append] at hown2
  exact ⟨_,rfl,hown2,ext_grown ((Ext.refl w).alloc _) (own_empty w _ _ rfl (Nat.le_refl _) 69 7) hg2⟩
theorem cloneO_any (A:Option Addr) (n c:Nat) (xs:List Value) (h1:∀ u∈xs,u.oneCell'=true) (hn:n≤1099511627776) (w:World) (hr:Reads w w.heap.size 8 A n xs) :
  Calls Tryz.prog 105 #[.slice A n c] w fun e w'=>∃ v,e=.returned v∧w'.ownsRow w.heap.size 78 8 v n xs∧Ext w w':=by
 obtain ⟨i0,hi,hz0,hz1,hz2⟩:=info_parts Tryz.infoOrd
 have hq:=fun (w:World) (a:Option Addr) (n c:Nat)=>Lib.run_eql_slice_nil (P:=Tryz.prog) w 41 78 a n c 0 0 Tryz.underlying41
 go_enter Tryz.func105,Tryz.ntmps105
 rcases A with _|ad
 ·have h0:n=0:=by
   rcases Nat.eq_zero_or_pos n with h0|h0
   ·exact h0
   ·obtain ⟨_,e,_⟩:=hr.2 h0;cases e
  subst h0
  have hx:xs=[]:=List.eq_nil_of_length_eq_zero (by simpa using hr.1)
  subst hx
  clear hr h1 hn
  go_wp2
  go_ret
  exact ⟨_,rfl,World.ownsRow_nil _ _ _ _,Ext.refl w⟩
 ·have HR:=Lib.hid (hr.alloc (Nat.le_refl _) (.cells #[] 78))
  have HN:=Lib.hid hn
  have HO:=Lib.hid h1
  clear hr h1 hn
  go_wp2_with (at_builtin;refine wpList_append_any _ rfl (.tmp 5) (.tmp 6) 41 rfl w.heap.size 78 i0 (.agg #[.int .i64 0,.int .i64 0,.slice none 0 0,.int .u64 0,.int .i64 0,.slice none 0 0,.int .i64 0,.int .i64 0]) 8 96 Tryz.underlying41 hi hz0 hz1 hz2 rfl (by decide) _ 0 [] rfl (own_empty w _ _ rfl (Nat.le_refl _) _ _) w.heap.size _ _ _ xs rfl HR.out HO.out (by have:=HN.out;simp only [maxLen];omega) (by have:=HN.out;omega) (by simp) ?_;intro v2 w2 hown2 hg2 _)
  go_ret
  rw [Nat.zero_add,List.nil_append] at hown2
  exact ⟨_,rfl,hown2,ext_grown ((Ext.refl w).alloc _) (own_empty w _ _ rfl (Nat.le_refl _) 78 8) hg2⟩
theorem old_any (now:Int) (w:World):Calls Tryz.prog 90 #[.int .i64 now] w fun e w' =>
  e=.returned (.func (.func 125) #[] #[.pointer (some ⟨w.heap.size,0,none⟩)])∧w.alloc (.cells #[.int .i64 now] 3)=w':=by
 go_enter Tryz.func90,Tryz.ntmps90
 go_wp2
 go_ret
 exact ⟨rfl,rfl⟩
theorem old1_enters:Enters Tryz.prog 125:=enters_of Tryz.func125 (by kernel_rfl) rfl
theorem old1_any (x:NonR) (now:Int) (g:Nat) (w:World) (h:w.cell? ⟨g,0,none⟩=some (.int .i64 now)):Calls Tryz.prog 125 #[.agg #[.int .i64 x.n,.int .i64 x.u],.pointer (some ⟨g,0,none⟩)] w fun e w' =>
  e=.returned (.bool (decide (x.u<now)))∧Ext w w':=by
 have h2:=(Ext.refl w).alloc (.cells #[.int .i64 x.n,.int .i64 x.u] 102) |>.cell h
 go_enter Tryz.func125,Tryz.ntmps125
 go_wp2
 go_ret
 exact ⟨rfl,(Ext.refl w).alloc _⟩
def ixG {α:Type} (f:α→Bool) (l:List α):Int:=match l.findIdx? f with|some i=>(i:Int)|none=>-1
theorem indexN_any (F:FuncId) (hE:Enters Tryz.prog F) (cap:Array Value) (f:NonR→Bool) (l:List NonR) (hn:l.length≤1099511627776) (A:Option Addr) (c:Nat) (w:World) (hr:Reads w w.heap.size 2 A l.length (nonV l))
  (hstep:∀ (W:World) (s:NonR),s∈l→Ext w W→Calls Tryz.prog F (#[.agg #[.int .i64 s.n,.int .i64 s.u]]++cap) W fun e w'=>e=.returned (.bool (f s))∧Ext W w') :
  Calls Tryz.prog 160 #[.slice A l.length c,.func (.func F) #[] cap] w fun e w'=>e=.returned (.int .i64 (ixG f l))∧Ext w w':=by
 have hr0:Hid (Reads w w.heap.size 2 A l.length (nonV l)):=Lib.hid hr
 have HN:=Lib.hid hn
 have HS:=Lib.hid hstep
 unfold Enters at hE
 clear hr hn hstep
 go_enter Tryz.func160,Tryz.ntmps160
 go_wp2
 go_loopg [8] l.length (fun m s8 wr=>∃ j:Nat,j+m=l.length∧s8=.int .i64 j∧(∀ s∈l.take j,f s=false)∧Ext w wr)
 case atStart=>exact ⟨0,by omega,rfl,by simp,Ext.refl w⟩
 case round =>
  obtain ⟨j,hj,rfl,hok,hx⟩:=hrel
  by_cases h:j<l.length
  ·obtain ⟨s,hs⟩:∃ s,l[j]?=some s:=⟨_,List.getElem?_eq_getElem h⟩
   obtain ⟨ad,rfl,hlt,q0,q1⟩:=reads_non (hr0.out.below hx.out) hs
   have hjb:(j:Int)≤1099511627776:=by have:=HN.out;omega
   have c1:=fun (W:World)=>HS.out W s (List.mem_of_getElem? hs)
   have e1:l.take (j+1)=l.take j++[s]:=by rw [List.take_add_one,hs];rfl
   cases hf:f s with
   | true =>
    have kk:Hid (ixG f l=(j:Int)):=Lib.hid (by
     have:l.findIdx? f=some j:=by
      rw [List.findIdx?_eq_some_iff_getElem]
      have hsg:=(List.getElem?_eq_some_iff.1 hs).2
      refine ⟨h,by rw [hsg];exact hf,fun i hi=>?_⟩
      have:=hok (l[i]'(by omega)) (List.mem_take_iff_getElem.2 ⟨i,by omega,rfl⟩)
      rw [this];decide
     unfold ixG;rw [this])
    rw [hf] at c1
    have HX:=Lib.hid hx
    clear hx hj hs hf hok e1
    go_wp2_with (go_at_fn F;refine (c1 _ HX.out).mono ?_;clear c1;rintro e w1 ⟨rfl,x1⟩)
    go_ret
    exact ⟨by rw [kk.out];rfl,HX.out.trans x1⟩
   | false =>
    have hok':Hid (∀ s∈l.take (j+1),f s=false):=Lib.hid fun r hr=>by
     rw [e1] at hr
     rcases List.mem_append.1 hr with hr|hr
     ·exact hok r hr
     ·rw [List.mem_singleton] at hr;subst hr;exact hf
    rw [hf] at c1
    have HX:=Lib.hid hx
    have HJ:=Lib.hid hj
    clear hx hj hs hf hok e1
    go_wp2_with (go_at_fn F;refine (c1 _ HX.out).mono ?_;clear c1;rintro e w1 ⟨rfl,x1⟩)
    have hj:=HJ.out
    go_roundg (gk-1)
    case measure=>omega
    case rel=>exact ⟨j+1,by omega,int_congr (by omega),hok'.out,HX.out.trans x1⟩
  ·obtain rfl:j=l.length:=by omega
   rw [List.take_length] at hok
   have kk:Hid (ixG f l=-1):=Lib.hid (by
    have:l.findIdx? f=none:=List.findIdx?_eq_none_iff.2 hok
    unfold ixG;rw [this])
   have HX:=Lib.hid hx
   clear hx hj h hok
   go_wp2
   go_ret
   exact ⟨by rw [kk.out];rfl,HX.out⟩
theorem indexA_any (F:FuncId) (hE:Enters Tryz.prog F) (cap:Array Value) (f:AccR→Bool) (l:List AccR) (hn:l.length≤1099511627776) (A:Option Addr) (c:Nat) (w:World) (hr:Reads w w.heap.size 2 A l.length (accV l))
  (hstep:∀ (W:World) (s:AccR),s∈l→Ext w W→Calls Tryz.prog F (#[.agg #[.int .i64 s.id,.int .u64 (s.key:Int)]]++cap) W fun e w'=>e=.returned (.bool (f s))∧Ext W w') :
  Calls Tryz.prog 98 #[.slice A l.length c,.func (.func F) #[] cap] w fun e w'=>e=.returned (.int .i64 (ixG f l))∧Ext w w':=by
 have hr0:Hid (Reads w w.heap.size 2 A l.length (accV l)):=Lib.hid hr
 have HN:=Lib.hid hn
 have HS:=Lib.hid hstep
 unfold Enters at hE
 clear hr hn hstep
 go_enter Tryz.func98,Tryz.ntmps98
 go_wp2
 go_loopg [8] l.length (fun m s8 wr=>∃ j:Nat,j+m=l.length∧s8=.int .i64 j∧(∀ s∈l.take j,f s=false)∧Ext w wr)
 case atStart=>exact ⟨0,by omega,rfl,by simp,Ext.refl w⟩
 case round =>
  obtain ⟨j,hj,rfl,hok,hx⟩:=hrel
  by_cases h:j<l.length
  ·obtain ⟨s,hs⟩:∃ s,l[j]?=some s:=⟨_,List.getElem?_eq_getElem h⟩
   obtain ⟨ad,rfl,hlt,q0,q1⟩:=reads_acc (hr0.out.below hx.out) hs
   have hjb:(j:Int)≤1099511627776:=by have:=HN.out;omega
   have c1:=fun (W:World)=>HS.out W s (List.mem_of_getElem? hs)
   have e1:l.take (j+1)=l.take j++[s]:=by rw [List.take_add_one,hs];rfl
   cases hf:f s with
   | true =>
    have kk:Hid (ixG f l=(j:Int)):=Lib.hid (by
     have:l.findIdx? f=some j:=by
      rw [List.findIdx?_eq_some_iff_getElem]
      have hsg:=(List.getElem?_eq_some_iff.1 hs).2
      refine ⟨h,by rw [hsg];exact hf,fun i hi=>?_⟩
      have:=hok (l[i]'(by omega)) (List.mem_take_iff_getElem.2 ⟨i,by omega,rfl⟩)
      rw [this];decide
     unfold ixG;rw [this])
    rw [hf] at c1
    have HX:=Lib.hid hx
    clear hx hj hs hf hok e1
    go_wp2_with (go_at_fn F;refine (c1 _ HX.out).mono ?_;clear c1;rintro e w1 ⟨rfl,x1⟩)
    go_ret
    exact ⟨by rw [kk.out];rfl,HX.out.trans x1⟩
   | false =>
    have hok':Hid (∀ s∈l.take (j+1),f s=false):=Lib.hid fun r hr=>by
     rw [e1] at hr
     rcases List.mem_append.1 hr with hr|hr
     ·exact hok r hr
     ·rw [List.mem_singleton] at hr;subst hr;exact hf
    rw [hf] at c1
    have HX:=Lib.hid hx
    have HJ:=Lib.hid hj
    clear hx hj hs hf hok e1
    go_wp2_with (go_at_fn F;refine (c1 _ HX.out).mono ?_;clear c1;rintro e w1 ⟨rfl,x1⟩)
    have hj:=HJ.out
    go_roundg (gk-1)
    case measure=>omega
    case rel=>exact ⟨j+1,by omega,int_congr (by omega),hok'.out,HX.out.trans x1⟩
  ·obtain rfl:j=l.length:=by omega
   rw [List.take_length] at hok
   have kk:Hid (ixG f l=-1):=Lib.hid (by
    have:l.findIdx? f=none:=List.findIdx?_eq_none_iff.2 hok
    unfold ixG;rw [this])
   have HX:=Lib.hid hx
   clear hx hj h hok
   go_wp2
   go_ret
   exact ⟨by rw [kk.out];rfl,HX.out⟩
theorem indexU_any (F:FuncId) (hE:Enters Tryz.prog F) (cap:Array Value) (f:AutR→Bool) (l:List AutR) (hn:l.length≤1099511627776) (A:Option Addr) (c:Nat) (w:World) (hr:Reads w w.heap.size 7 A l.length (autV l))
  (hstep:∀ (W:World) (s:AutR),s∈l→Ext w W→Calls Tryz.prog F (#[.agg #[.int .i64 s.id,.int .i64 s.acc,.string s.name,.string s.tok,.int .i64 s.st,.int .i64 s.fr,.int .i64 s.un]]++cap) W fun e w'=>e=.returned (.bool (f s))∧Ext W w') :
  Calls Tryz.prog 102 #[.slice A l.length c,.func (.func F) #[] cap] w fun e w'=>e=.returned (.int .i64 (ixG f l))∧Ext w w':=by
 have hr0:Hid (Reads w w.heap.size 7 A l.length (autV l)):=Lib.hid hr
 have HN:=Lib.hid hn
 have HS:=Lib.hid hstep
 unfold Enters at hE
 clear hr hn hstep
 go_enter Tryz.func102,Tryz.ntmps102
 go_wp2
 go_loopg [8] l.length (fun m s8 wr=>∃ j:Nat,j+m=l.length∧s8=.int .i64 j∧(∀ s∈l.take j,f s=false)∧Ext w wr)
 case atStart=>exact ⟨0,by omega,rfl,by simp,Ext.refl w⟩
 case round =>
  obtain ⟨j,hj,rfl,hok,hx⟩:=hrel
  by_cases h:j<l.length
  ·obtain ⟨s,hs⟩:∃ s,l[j]?=some s:=⟨_,List.getElem?_eq_getElem h⟩
   obtain ⟨ad,rfl,hlt,q0,q1,q2,q3,q4,q5,q6⟩:=reads_aut (hr0.out.below hx.out) hs
   have hjb:(j:Int)≤1099511627776:=by have:=HN.out;omega
   have c1:=fun (W:World)=>HS.out W s (List.mem_of_getElem? hs)
   have e1:l.take (j+1)=l.take j++[s]:=by rw [List.take_add_one,hs];rfl
   cases hf:f s with
   | true =>
    have kk:Hid (ixG f l=(j:Int)):=Lib.hid (by
     have:l.findIdx? f=some j:=by
      rw [List.findIdx?_eq_some_iff_getElem]
      have hsg:=(List.getElem?_eq_some_iff.1 hs).2
      refine ⟨h,by rw [hsg];exact hf,fun i hi=>?_⟩
      have:=hok (l[i]'(by omega)) (List.mem_take_iff_getElem.2 ⟨i,by omega,rfl⟩)
      rw [this];decide
     unfold ixG;rw [this])
    rw [hf] at c1
    have HX:=Lib.hid hx
    clear hx hj hs hf hok e1
    go_wp2_with (go_at_fn F;refine (c1 _ HX.out).mono ?_;clear c1;rintro e w1 ⟨rfl,x1⟩)
    go_ret
    exact ⟨by rw [kk.out];rfl,HX.out.trans x1⟩
   | false =>
    have hok':Hid (∀ s∈l.take (j+1),f s=false):=Lib.hid fun r hr=>by
     rw [e1] at hr
     rcases List.mem_append.1 hr with hr|hr
     ·exact hok r hr
     ·rw [List.mem_singleton] at hr;subst hr;exact hf
    rw [hf] at c1
    have HX:=Lib.hid hx
    have HJ:=Lib.hid hj
    clear hx hj hs hf hok e1
    go_wp2_with (go_at_fn F;refine (c1 _ HX.out).mono ?_;clear c1;rintro e w1 ⟨rfl,x1⟩)
    have hj:=HJ.out
    go_roundg (gk-1)
    case measure=>omega
    case rel=>exact ⟨j+1,by omega,int_congr (by omega),hok'.out,HX.out.trans x1⟩
  ·obtain rfl:j=l.length:=by omega
   rw [List.take_length] at hok
   have kk:Hid (ixG f l=-1):=Lib.hid (by
    have:l.findIdx? f=none:=List.findIdx?_eq_none_iff.2 hok
    unfold ixG;rw [this])
   have HX:=Lib.hid hx
   clear hx hj h hok
   go_wp2
   go_ret
   exact ⟨by rw [kk.out];rfl,HX.out⟩
theorem indexI_any (F:FuncId) (hE:Enters Tryz.prog F) (cap:Array Value) (f:Int→Bool) (l:List Int) (hn:l.length≤1099511627776) (A:Option Addr) (c:Nat) (w:World) (hr:Reads w w.heap.size 1 A l.length (iv l))
  (hstep:∀ (W:World) (s:Int),s∈l→Ext w W→Calls Tryz.prog F (#[.int .i64 s]++cap) W fun e w'=>e=.returned (.bool (f s))∧Ext W w') :
  Calls Tryz.prog 142 #[.slice A l.length c,.func (.func F) #[] cap] w fun e w'=>e=.returned (.int .i64 (ixG f l))∧Ext w w':=by
 have hr0:Hid (Reads w w.heap.size 1 A l.length (iv l)):=Lib.hid hr
 have HN:=Lib.hid hn
 have HS:=Lib.hid hstep
 unfold Enters at hE
 clear hr hn hstep
 go_enter Tryz.func142,Tryz.ntmps142
 go_wp2
 go_loopg [8] l.length (fun m s8 wr=>∃ j:Nat,j+m=l.length∧s8=.int .i64 j∧(∀ s∈l.take j,f s=false)∧Ext w wr)
 case atStart=>exact ⟨0,by omega,rfl,by simp,Ext.refl w⟩
 case round =>
  obtain ⟨j,hj,rfl,hok,hx⟩:=hrel
  by_cases h:j<l.length
  ·obtain ⟨s,hs⟩:∃ s,l[j]?=some s:=⟨_,List.getElem?_eq_getElem h⟩
   obtain ⟨ad,rfl,q0⟩:=reads_id (hr0.out.below hx.out) hs
   have hjb:(j:Int)≤1099511627776:=by have:=HN.out;omega
   have c1:=fun (W:World)=>HS.out W s (List.mem_of_getElem? hs)
   have e1:l.take (j+1)=l.take j++[s]:=by rw [List.take_add_one,hs];rfl
   cases hf:f s with
   | true =>
    have kk:Hid (ixG f l=(j:Int)):=Lib.hid (by
     have:l.findIdx? f=some j:=by
      rw [List.findIdx?_eq_some_iff_getElem]
      have hsg:=(List.getElem?_eq_some_iff.1 hs).2
      refine ⟨h,by rw [hsg];exact hf,fun i hi=>?_⟩
      have:=hok (l[i]'(by omega)) (List.mem_take_iff_getElem.2 ⟨i,by omega,rfl⟩)
      rw [this];decide
     unfold ixG;rw [this])
    rw [hf] at c1
    have HX:=Lib.hid hx
    clear hx hj hs hf hok e1
    go_wp2_with (go_at_fn F;refine (c1 _ HX.out).mono ?_;clear c1;rintro e w1 ⟨rfl,x1⟩)
    go_ret
    exact ⟨by rw [kk.out];rfl,HX.out.trans x1⟩
   | false =>
    have hok':Hid (∀ s∈l.take (j+1),f s=false):=Lib.hid fun r hr=>by
     rw [e1] at hr
     rcases List.mem_append.1 hr with hr|hr
     ·exact hok r hr
     ·rw [List.mem_singleton] at hr;subst hr;exact hf
    rw [hf] at c1
    have HX:=Lib.hid hx
    have HJ:=Lib.hid hj
    clear hx hj hs hf hok e1
    go_wp2_with (go_at_fn F;refine (c1 _ HX.out).mono ?_;clear c1;rintro e w1 ⟨rfl,x1⟩)
    have hj:=HJ.out
    go_roundg (gk-1)
    case measure=>omega
    case rel=>exact ⟨j+1,by omega,int_congr (by omega),hok'.out,HX.out.trans x1⟩
  ·obtain rfl:j=l.length:=by omega
   rw [List.take_length] at hok
   have kk:Hid (ixG f l=-1):=Lib.hid (by
    have:l.findIdx? f=none:=List.findIdx?_eq_none_iff.2 hok
    unfold ixG;rw [this])
   have HX:=Lib.hid hx
   clear hx hj h hok
   go_wp2
   go_ret
   exact ⟨by rw [kk.out];rfl,HX.out⟩
