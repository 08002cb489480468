/- Parts of the proofs, put together: HaRef. -/
import Derived.Deep.LoopGhost
import Derived.Test.YtbhdmfijdhcehaaGreatDoorP1
import Derived.Test.YtbhdmfijdhcehaaGreatDoorP2
set_option maxRecDepth 100000
set_option maxHeartbeats 64000000
namespace Go.Proofs.YtbhdmfijdhcehaaGreatDoor
open Go.RowKit
theorem r1Add_any (a b:Nat) (w:World) :
  Calls Tryz.prog 172 #[.int .u64 a,.int .u64 b] w fun e w'=>e=.returned (.int .u64 (addM bP a b:Nat))∧w=w':=by
 obtain ⟨x,hx⟩:∃ x,x=a % bP:=⟨_,rfl⟩
 obtain ⟨y,hy⟩:∃ y,y=b % bP:=⟨_,rfl⟩
 have hx1:x<bP:=by rw [hx];exact Nat.mod_lt _ (by decide)
 have hy1:y<bP:=by rw [hy];exact Nat.mod_lt _ (by decide)
 obtain ⟨z,hz⟩:∃ z,z=x+y:=⟨_,rfl⟩
 have k1:(a:Int) % 2305843009213693951=(x:Int):=by rw [hx];simp [bP]
 have k2:(b:Int) % 2305843009213693951=(y:Int):=by rw [hy];simp [bP]
 have k3:(x:Int)+(y:Int)=(z:Int):=by omega
 have k4:(z:Int) % 2305843009213693951=((addM bP a b:Nat):Int):=by
  have:addM bP a b=z % bP:=by rw [hz,hx,hy];simp [addM]
  rw [this];simp [bP]
 have z1:(x:Int)<2305843009213693951:=by unfold bP at *;omega
 have z2:(y:Int)<2305843009213693951:=by unfold bP at *;omega
 have z3:(z:Int)<4611686018427387904:=by omega
 generalize addM bP a b=r at *
 clear hx hy hx1 hy1 hz
 go_enter Tryz.func172,Tryz.ntmps172
 go_wp2
 go_ret
 exact ⟨ret_one (by simp only [k4]),rfl⟩
theorem mul_step (o a b:Nat):addM bP (if b % 2=1 then addM bP o a else o) (addM bP a a*(b / 2))=addM bP o (a*b):=by
 have hb:b=2*(b / 2)+b % 2:=by omega
 have e0:a*b=a*(b / 2)+a*(b / 2)+a*(b % 2):=by
  have:a*b=a*(2*(b / 2)+b % 2):=by rw [← hb]
  rw [this];grind
 unfold addM
 split
 ·rename_i h
  rw [h,Nat.mul_one] at e0
  rw [e0,Nat.mod_add_mod,Nat.add_mod,Nat.mul_mod ((a+a) % bP),Nat.mod_mod,← Nat.mul_mod,← Nat.add_mod]
  congr 1;grind
 ·rename_i h
  have h0:b % 2=0:=by omega
  rw [h0,Nat.mul_zero] at e0
  rw [e0,Nat.add_mod,Nat.mul_mod ((a+a) % bP),Nat.mod_mod,← Nat.mul_mod,← Nat.add_mod]
  congr 1;grind
theorem r1Mul_any (a b:Nat) (w:World) :
  Calls Tryz.prog 209 #[.int .u64 a,.int .u64 b] w fun e w'=>e=.returned (.int .u64 (mulM bP a b:Nat))∧w=w':=by
 obtain ⟨x,hx⟩:∃ x,x=a % bP:=⟨_,rfl⟩
 obtain ⟨y,hy⟩:∃ y,y=b % bP:=⟨_,rfl⟩
 have hy1:y<bP:=by rw [hy];exact Nat.mod_lt _ (by decide)
 have k1:(a:Int) % 2305843009213693951=(x:Int):=by rw [hx];simp [bP]
 have k2:(b:Int) % 2305843009213693951=(y:Int):=by rw [hy];simp [bP]
 have E:addM bP 0 (x*y)=mulM bP a b:=by rw [hx,hy];unfold addM mulM;rw [Nat.zero_add,← Nat.mul_mod]
 have H:=Lib.hid E
 have hyb:(y:Int)<2305843009213693951:=by unfold bP at hy1;omega
 clear hx hy E hy1
 go_enter Tryz.func209,Tryz.ntmps209
 go_wp2
 simp only [k1,k2]
 clear k1 k2
 go_loopg [0,1,5] y (fun n s0 s1 s5 wr=>wr=w∧∃ u o:Nat,s0=.int .u64 u∧s1=.int .u64 n∧s5=.int .u64 o∧addM bP o (u*n)=mulM bP a b∧(o<bP)∧(n:Int)<2305843009213693951)
 case atStart=>exact ⟨rfl,x,0,rfl,rfl,rfl,H.out,by decide,hyb⟩
 case round =>
  obtain ⟨rfl,u,o,rfl,rfl,rfl,hinv,ho,hnb⟩:=hrel
  obtain ⟨n,rfl⟩:∃ n,n=gk:=⟨_,rfl⟩
  by_cases h0:n=0
  ·subst h0
   have e:o=mulM bP a b:=by rw [← hinv];unfold addM;rw [Nat.mul_zero,Nat.add_zero,Nat.mod_eq_of_lt ho]
   have HE:=Lib.hid e
   clear e hinv ho
   go_wp2
   go_ret
   exact ⟨ret_one (by rw [HE.out]),rfl⟩
  ·have hst:=mul_step o u n
   rw [hinv] at hst
   have d1:decide (0<(n:Int))=true:=by simp;omega
   have d2:decide (0<n)=true:=by simp;omega
   have c1:=fun w=>r1Add_any o u w
   have c2:=fun w=>r1Add_any u u w
   obtain ⟨m,hm⟩:∃ m,m=n / 2:=⟨_,rfl⟩
   have k3:(n:Int) / 2=(m:Int):=by omega
   have hmn:m<n:=by omega
   have hmb:(m:Int)<2305843009213693951:=by omega
   by_cases hb:n % 2=1
   ·rw [if_pos hb,← hm] at hst
    have k4:(n:Int) % 2=1:=by omega
    have HS:=Lib.hid hst
    have HM:=Lib.hid hmn
    clear hst hinv hb hm h0 hmn H
    go_wp2_with (first|(go_at_call 172;refine (c1 _).mono ?_;clear c1;rintro e w' ⟨rfl,rfl⟩)|(go_at_call 172;refine (c2 _).mono ?_;clear c2;rintro e w' ⟨rfl,rfl⟩))
    have hmn:=HM.out
    go_roundg m
    case measure=>omega
    case rel=>exact ⟨rfl,addM bP u u,addM bP o u,rfl,rfl,rfl,HS.out,addM_lt' (by decide) _ _,hmb⟩
   ·rw [if_neg hb,← hm] at hst
    have k4:(n:Int) % 2=0:=by omega
    have HS:=Lib.hid hst
    have HM:=Lib.hid hmn
    clear hst hinv hb hm h0 hmn c1 H
    go_wp2_with (go_at_call 172;refine (c2 _).mono ?_;clear c2;rintro e w' ⟨rfl,rfl⟩)
    have hmn:=HM.out
    go_roundg m
    case measure=>omega
    case rel=>exact ⟨rfl,addM bP u u,o,rfl,rfl,rfl,HS.out,ho,hmb⟩
theorem raised_any (a n:Nat) (hn:n<1000) (w:World) :
  Calls Tryz.prog 203 #[.int .u64 a,.int .i64 n] w fun e w'=>e=.returned (.int .u64 (powM bP a n:Nat))∧w=w':=by
 have hn':(n:Int)<1000:=by omega
 clear hn
 go_enter Tryz.func203,Tryz.ntmps203
 go_wp2
 go_loopg [5,6] n (fun m x i wr=>wr=w∧∃ k:Nat,k+m=n∧x=.int .u64 (powM bP a k:Nat)∧i=.int .i64 k)
 case atStart=>exact ⟨rfl,0,by omega,by rw [powM_zero (by decide)];rfl,rfl⟩
 case round =>
  obtain ⟨rfl,k,hk,rfl,rfl⟩:=hrel
  by_cases h:k<n
  ·have c1:=fun w=>r1Mul_any (powM bP a k) a w
   rw [powM_succ] at c1
   obtain ⟨p,hp⟩:∃ p,p=powM bP a (k+1):=⟨_,rfl⟩
   rw [← hp] at c1
   have HP:=Lib.hid hp
   have HK:=Lib.hid hk
   have z1:(k:Int)<n:=by omega
   clear hp hk
   go_wp2_with (go_at_call 209;refine (c1 _).mono ?_;clear c1;rintro e w' ⟨rfl,rfl⟩)
   have hk:=HK.out
   go_roundg (gk-1)
   case measure=>omega
   case rel=>exact ⟨rfl,k+1,by omega,by rw [HP.out],int_congr (by omega)⟩
  ·obtain rfl:k=n:=by omega
   clear hk
   go_wp2
   go_ret
   exact ⟨rfl,rfl⟩
