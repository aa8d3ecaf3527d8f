/-
  A page of a pool that is referred to so many times more. No condition.
-/
import Derived.Test.YthbbejpbkglmlaaGreatDoorPart3
set_option maxRecDepth 100000
set_option linter.unusedSimpArgs false
set_option linter.unusedVariables false
open Go.Proofs.Tryz
namespace Go.Proofs.YthbbejpbkglmlaaGreatDoor
open Go.RowKit
theorem Hi(ns:List Int)(g:Value)(A:Ai)(f:∀h,A h->rdH 1 g ns.length (ns.map Aa) h)(hl:ns.length=120)(d:∀y∈ns,0<=y/\y<=1000):An 159 [g] [A] (λv G=>∃l:Value,v=.tuple #[l,Aa 0]/\G=[grow 5 1 l (EF ns).length ((EF ns).map u8),A]):=by
 intro z R w H;obtain ⟨x,oc,rfl⟩:=H.sy 0 (λq=>(f _ q).slc);refine Af func159 Z ntmps159 Z (Zc 13 Z ?_);replace H:=(H.nilg 5 1).l2;refine Zc 5 Z ?_;refine Aq (σ:=Nat×Value) (λ⟨i,u⟩=>[(5,Aa (i:Int)),(4,u),(0,.slice x ns.length oc)])
   (λ⟨i,u⟩ w=>Sep z (grow 5 1 u (((ns.take i).flatMap (Ad 2)).length) (((ns.take i).flatMap (Ad 2)).map u8)::A::R) w/\(i<=ns.length)) (λ⟨i,u⟩=>ns.length-i) ⟨0,.slice none 0 0⟩
   (λ_ c=>(c.co Z (by go_num) c.cz)) ⟨(by simpa using H),Ye _⟩ ?_
 clear H;rintro ⟨i,u⟩ w ⟨k,e⟩;dsimp only at e k ⊢;have H:=k.l2;have su:=H.sy 0 (·.slc);have hi:=e;clear e;refine Z0 9 [0] Z (Ag Z (λs=>?_) (λs=>?_))
 ·refine Zc 6 Z ?_;obtain ⟨y,b⟩:∃y,ns[i]?=some y:=⟨_,XV U⟩;have o:=d y (XW b)
  have a:=(H.rd 1 Z f).at (j:=i) (u:=Aa y) (by rw[X9,b];rfl);refine Zc 3 Z (Ae Z (Az Z (z:=1) (j:=i) (r:=i) J Z Z Z U a U) (Ae Z (AS Z Z J (AB a)) (Ah Z (call156 _) (CT _ _) H ?_)));intro w H;refine Ae Z (AL Z Z) (Zc 2 Z (Ag Z (λp=>U) (λp=>?_)));refine Zc 2 Z ?_;have a:=(H.rd 1 Z f).at (j:=i) (u:=Aa y) (by rw[X9,b];rfl);refine Zc 4 Z (Ae Z (Az Z (z:=1) (j:=i) (r:=i) J Z Z Z U a U) (Ae Z (AS Z Z J (AB a)) ?_));replace H:=(H.mono 0 (B:=bsA 5 u ((ns.take i).flatMap (Ad 2))) Z (λh q=>.inr q)).l2;refine AA Z (call157 _) (B6 _ ((ns.take i).flatMap (Ad 2)) y 2 U (by first|omega|(simp only[XX,XY,X3,X4,X2,Ac,Aj,Ak]<;>omega)|(simp[Ac,Aj,Ak,Sup.list,sect_len]<;>omega)|simp[Ac,Aj,Ak,Sup.list,sect_len])) H ?_;rintro n w _ ⟨_,rfl,rfl⟩ H;have m:=H.sy 0 (·.slc);refine Zc 2 Z ?_;rw[show (((ns.take i).flatMap (Ad 2))++Ad 2 y)=(ns.take (i+1)).flatMap (Ad 2) from (by rw[Yd,b];simp)] at H;refine Z1 7 [] [(i:Int)+1] Z U (gf ?_);intro _ c;refine ⟨⟨i+1,n⟩,c.cz,⟨H,?_⟩,?_⟩
  ·show i+1<=ns.length;omega
  (dsimp only;omega)
 refine Zc 2 Z (gx (Zc 4 Z ?_));rw[show ns.take i=ns from XZ U] at H;refine Z0 6 [0] Z (Ag Z (λt=>U) (λt=>?_));refine Zc 10 Z (Zr Z ?_);exact ⟨_,⟨_,Z,Z⟩,H.pick 2 [0,1] Z⟩
theorem L0(v:Value)(sec:List UInt8)(A:Ai)(j:∀h,A h->rdH 1 v sec.length (sec.map u8) h)(ns:List Int)(n:ns.length=120)(f:∀y∈ns,0<=y/\y<=1000)(a:sec=EF ns):An 195 [v] [A] (λv G=>∃g:Value,v=.tuple #[g,.bool true]/\G=[grow 3 1 g ns.length (ns.map Aa),A]):=by
 intro z R w H;have a0:sec.length=240:=by rw[a];exact Gn n
 obtain ⟨b,o,c,rfl⟩:=H.sy 0 (λq=>(j _ q).sl (by rw[X8];omega));have r:=H.sy 0 (λq=>(j _ q).cap);refine Af func195 Z ntmps195 Z (Zc 13 Z ?_);replace H:=(H.nilg 3 1).l2;refine Zc 5 Z ?_;refine Aq (σ:=Nat×Value) (λ⟨i,u⟩=>[(5,Aa (i:Int)),(4,u),(0,.slice (some ⟨b,o,none⟩) sec.length c),(2,.slice none 0 0),(3,.bool false)])
   (λ⟨i,u⟩ w=>Sep z (grow 3 1 u i ((ns.take i).map Aa)::A::R) w/\(i<=120)) (λ⟨i,u⟩=>120-i) ⟨0,.slice none 0 0⟩
   (λ_ k=>(k.co Z (by go_num) k.cz)) ⟨(by simpa using H),Ye _⟩ ?_
 clear H;rintro ⟨i,u⟩ w ⟨e,l⟩;dsimp only at l e ⊢;have H:=e.l2;have su:=H.sy 0 (·.slc);have hi:=l;clear l;refine Z0 7 [0] Z (Ag Z (λx=>?_) (λx=>?_))
 ·refine Zc 4 Z ?_;obtain ⟨y,p⟩:∃y,ns[i]?=some y:=⟨_,XV U⟩;refine Z1 5 [] [((2*i:Nat):Int)] Z U (Ah Z (call142 _) (B1 _ sec _ j (2*i) 2 (by first|omega|simp_all)) H.f1 ?_);intro w H;refine k_updA 16 (v:=Aa y) Z (congrArg Aa (by rw[a];exact PD f p)) (AC Z (AI H Z J BW Z (by decide) (by decide) (out:=[Aa y]) J) ?_);rintro _ w ⟨t,rfl,H⟩;refine AC Z (AJ 2 H Z Z J BW Z Z (H.rv 0 (·.rd U U O Z)) (by simp[Value.oneCell']) U) ?_;rintro g w e;have e:Sep z (blk t [Aa y] 3::A::grow 3 1 g (i+1) ((ns.take i).map Aa++[Aa y])::R) w:=e
  have m:((ns.take i).map Aa++[Aa y]:List Value)=(ns.take (i+1)).map Aa:=(by rw[Yd,p];simp);rw[m] at e;have H:=e.l3;have s:=H.sy 2 (·.slc);refine Z1 9 [] [(i:Int)+1] Z U ?_;replace H:=H.d.f1;refine gf ?_;intro _ k;refine ⟨⟨i+1,g⟩,k.cz,⟨H,?_⟩,?_⟩
  ·show i+1<=120;omega
  (dsimp only;omega)
 refine Zc 2 Z (gx (Zc 3 Z ?_));obtain rfl:i=120:=by omega
 rw[show ns.take 120=ns from XZ U,show (120:Nat)=ns.length from n.symm] at H;refine Zc 2 Z (AA Z (call159 _) (Hi ns _ _ (λh q=>q.rd) n f) H ?_);rintro _ w _ ⟨u3,rfl,rfl⟩ H;have a1:=H.sy 0 (·.slc);refine Z0 15 [4] Z (Ah Z (call140 _) (EV _ _ (EF ns) sec _ _ (λh q=>q.rd) j) H.f2.f1 ?_);intro w H;refine k_updA 29 (v:=.bool true) Z (congrArg Value.bool (decide_eq_true a.symm)) (Zc 15 Z (Zr Z ?_));exact ⟨_,⟨_,Z,Z⟩,H.pick 3 [2,1] Z⟩
theorem PR:An 158 [.agg #[Aa 0,Aa 0,Aa 0,Aa 0,Aa 0,Aa 0]] [] (λv G=>v=.bool true/\G=[]):=by
 intro z R w H;refine Af func158 Z ntmps158 Z (Za 2 [] H Z ?_);intro f w H;refine Z2 7 [0,0,0] H Z (Ah Z (call156 _) (CT _ _) H ?_);intro w H;refine Zc 1 Z (Am 6 Z (λc=>?_) (λc=>?_))
 ·refine Z2 2 [1,0,0] H Z (Ah Z (call156 _) (CT _ _) H ?_);intro w H;refine Zc 2 Z (Am 11 Z (λe=>?_) (λe=>?_))
  ·refine Z2 2 [2,0,0] H Z (Ah Z (call156 _) (CT _ _) H ?_);intro w H;refine Zc 2 Z (Am 16 Z (λd=>?_) (λd=>?_))
   ·refine Z2 2 [3,0,0] H Z (Ah Z (call156 _) (CT _ _) H ?_);intro w H;refine Zc 2 Z (Am 21 Z (λb=>?_) (λb=>?_))
    ·refine Z2 2 [5,0,0] H Z (Ah Z (call156 _) (CT _ _) H ?_);intro w H;refine Zc 2 Z (Am 26 Z (λa=>?_) (λa=>?_))
     ·refine Z2 2 [4,0,0] H Z (Ah Z (call156 _) (CT _ _) H ?_);intro w H;refine Zc 5 Z (Zr Z ?_);exact ⟨_,⟨congrArg Value.bool (decide_eq_true U),Z⟩,H.pick 1 [] Z⟩
     (exfalso;omega)
    (exfalso;omega)
   (exfalso;omega)
  (exfalso;omega)
 (exfalso;omega)
set_option maxHeartbeats 2000000 in
theorem PS (vv:Value) (A:Ai) (g:∀h,A h->rdH 6 vv 8 FU h):An 91 [.agg #[Aa 1,vv,.slice none 0 0]] [A] (λv G=>∃(v2:Value) (cb:List UInt8),cb.length=240/\v=.tuple #[v2,Aa 0]/\G=[grow 5 1 v2 cb.length (cb.map u8),A]):=by
 intro z R w H;obtain ⟨s,n,rfl⟩:=H.sy 0 (λq=>(g _ q).slc);refine Af func91 Z ntmps91 Z (Za 2 [] H Z ?_);intro b w H;refine Z2 9 [0,0,0] H Z (Ah Z (call156 _) (CT _ _) H ?_);intro w H;refine Ae Z (AL Z Z) (Zc 1 Z (Am 12 Z (λh1=>U) (λh1=>?_)));refine Z2 17 [2,0,0,4,1,0,0,4] H Z (A1 (Sep z (blk b [Aa 1,.slice s 8 n,.slice none 0 0] 139::R)) 8 Z J (A8 H λw a=>?_));have H:=a.l2;refine BA [0,1,3,4] [0,0,2,0] J (λ_ e=>(A3 (e.blk 0 Z) AU)) (by exact H.pick 2 [0] Z) Z J Z Z (Bg 5 J Z Z J J J Z Z Z (DX Z (z:=1) J Z) (H.pick 2 [0] Z) (Ax [2] J O (Ay ?_)));replace H:=(H.nilg 5 1).l3;replace H:=(H.mono 0 (B:=bsA 5 (.slice none 0 0) ([]:List UInt8)) Z (λh q=>.inr q)).l3;refine BF Z Z Z Z Z Z (λw=>call157 _ w) (B6 _ ([]:List UInt8) 1 4 U (by first|omega|(simp only[XX,XY,X3,X4,X2,Ac,Aj,Ak]<;>omega)|(simp[Ac,Aj,Ak,Sup.list,sect_len]<;>omega)|simp[Ac,Aj,Ak,Sup.list,sect_len])) H Z ?_;rintro u2 w _ ⟨_,rfl,rfl⟩ H;have a7:=H.sy 0 (·.slc);refine Aw (λ_=>(H.pick 3 [1] Z)) (Ax [6] J O (Ay ?_));replace H:=(H.mono 0 (B:=bsA 5 u2 (([]:List UInt8)++Ad 4 1)) Z (λh q=>.inr q)).l3;refine BF Z Z Z Z Z Z (λw=>call157 _ w) (B6 _ (([]:List UInt8)++Ad 4 1) 0 1 U (by first|omega|(simp only[XX,XY,X3,X4,X2,Ac,Aj,Ak]<;>omega)|(simp[Ac,Aj,Ak,Sup.list,sect_len]<;>omega)|simp[Ac,Aj,Ak,Sup.list,sect_len])) H Z ?_;rintro y w _ ⟨_,rfl,rfl⟩ H;have m:=H.sy 0 (·.slc);refine Aw (λ_=>(H.pick 3 [1] Z)) (Ax [7] J O (Ay (Dp Z Z Z Z (Bq Z Z) (Aw (λh=>absurd Z h) (Bi J (gn (Zc 8 Z ?_)))))));refine Aq (σ:=Nat) (λk=>[(5,Aa (k:Int)),(4,y),(1,V b)])
   (λk w=>Sep z (grow 5 1 y (((([]:List UInt8)++Ad 4 1)++Ad 1 0).length) (((([]:List UInt8)++Ad 4 1)++Ad 1 0).map u8)::blk b [Aa 1,.slice s 8 n,.slice none 0 0] 139::A::R) w/\(True)) (λk=>0) 0
   fr_z ⟨H,trivial⟩ ?_
 clear H;rintro k w ⟨a,f⟩;have H:=a.l3;have m:=H.sy 0 (·.slc);refine Z2 10 [2,1,0,0] H Z (Ag Z (λh2=>U) (λh2=>?_));refine Zc 2 Z (gx (Zc 5 Z (AA Z (call141 _) (Fo _ ((([]:List UInt8)++Ad 4 1)++Ad 1 0) 21 ⟨by first|omega|(simp only[XX,XY,X3,X4,X2,Ac,Aj,Ak]<;>omega)|(simp[Ac,Aj,Ak,Sup.list,sect_len]<;>omega)|simp[Ac,Aj,Ak,Sup.list,sect_len],by omega⟩) H ?_)));rintro u4 w _ ⟨_,rfl,rfl⟩ H;have a8:=H.sy 0 (·.slc);refine Zc 5 Z ?_;have o:((((([]:List UInt8)++Ad 4 1)++Ad 1 0)++List.replicate (21-((([]:List UInt8)++Ad 4 1)++Ad 1 0).length) (0:UInt8))).length=21:=by simp[Ac]
 refine Zc 5 Z ?_;refine Aq (σ:=Nat×Value×List UInt8) (λ⟨i,u,bs⟩=>[(6,Aa (i:Int)),(4,u),(1,V b)])
   (λ⟨i,u,bs⟩ w=>Sep z (grow 5 1 u bs.length (bs.map u8)::blk b [Aa 1,.slice s 8 n,.slice none 0 0] 139::A::R) w/\(i<=8/\bs.length=21+19*i)) (λ⟨i,u,bs⟩=>8-i) ⟨0,u4,(((([]:List UInt8)++Ad 4 1)++Ad 1 0)++List.replicate (21-((([]:List UInt8)++Ad 4 1)++Ad 1 0).length) (0:UInt8))⟩
   fr_z ⟨H,⟨Ye _,o⟩⟩ ?_
 clear H;rintro ⟨i,u,bs⟩ w ⟨a,f⟩;dsimp only at f a ⊢;have H:=a.l3;have su:=H.sy 0 (·.slc);obtain ⟨hi,a2⟩:=f;refine Z0 7 [0] Z (Ag Z (λh3=>?_) (λh3=>?_))
 ·refine Zc 5 Z ?_;have c:=(H.rd 2 Z g).at (Jj (show i<8 by omega) 0 _ Z)
  refine Z2 4 [1,1,0] H Z (Ae Z (Az Z (z:=6) (j:=i) (r:=i*6) J Z Z Z U c U) (Ae Z (B7 Z Z (vs:=[Aa 0,Aa 0,Aa 0,Aa 0,Aa 0,Aa 0]) J O (AB (λk u hk=>(H.rd 2 Z g).at (Jj U k u hk)))) (Za 0 [] H Z ?_)));intro t w H;refine Z4 7 [0,0,6] H Z ?_;intro w H;refine Ah Z (call158 _) (PR) H ?_;intro w H;refine Zc 7 Z (A1 (Sep z (blk t [Aa 0,Aa 0,Aa 0,Aa 0,Aa 0,Aa 0] 207::R)) 11 Z J (A8 H λw a=>?_));have H:=a.l4;refine BA [0,1,2,4,5,7,8] [0,0,1,0,2,0] J (λ_ e=>(A3 (e.blk 0 Z) AU)) (by exact H.pick 4 [0] Z) Z J Z Z (Ax [3] J O (Ay ?_));replace H:=(H.mono 1 (B:=bsA 5 u bs) Z (λh q=>.inr q)).l4;refine BF Z Z Z Z Z Z (λw=>call157 _ w) (B6 _ bs 0 4 U (by first|omega|(simp only[XX,XY,X3,X4,X2,Ac,Aj,Ak]<;>omega)|(simp[Ac,Aj,Ak,Sup.list,sect_len]<;>omega)|simp[Ac,Aj,Ak,Sup.list,sect_len])) H.f1 Z ?_;rintro u6 w _ ⟨_,rfl,rfl⟩ H;have a9:=H.sy 0 (·.slc);refine Aw (λ_=>(H.pick 4 [1] Z)) (Ax [6] J O (Ay ?_));replace H:=(H.mono 0 (B:=bsA 5 u6 (bs++Ad 4 0)) Z (λh q=>.inr q)).l4;refine BF Z Z Z Z Z Z (λw=>call157 _ w) (B6 _ (bs++Ad 4 0) 0 1 U (by first|omega|(simp only[XX,XY,X3,X4,X2,Ac,Aj,Ak]<;>omega)|(simp[Ac,Aj,Ak,Sup.list,sect_len]<;>omega)|simp[Ac,Aj,Ak,Sup.list,sect_len])) H Z ?_;rintro u7 w _ ⟨_,rfl,rfl⟩ H;have a4:=H.sy 0 (·.slc);refine Aw (λ_=>(H.pick 4 [1] Z)) (Ax [9] J O (Ay ?_));replace H:=(H.mono 0 (B:=bsA 5 u7 (bs++Ad 4 0++Ad 1 0)) Z (λh q=>.inr q)).l4;refine BF Z Z Z Z Z Z (λw=>call157 _ w) (B6 _ (bs++Ad 4 0++Ad 1 0) 0 4 U (by first|omega|(simp only[XX,XY,X3,X4,X2,Ac,Aj,Ak]<;>omega)|(simp[Ac,Aj,Ak,Sup.list,sect_len]<;>omega)|simp[Ac,Aj,Ak,Sup.list,sect_len])) H Z ?_;rintro u8 w _ ⟨_,rfl,rfl⟩ H;have a3:=H.sy 0 (·.slc);refine Aw (λ_=>(H.pick 4 [1] Z)) (Ax [10] J O (Ay (Dp Z Z Z Z (Bq Z Z) (Aw (λh=>absurd Z h) (Bi J (gn (Zc 1 Z ?_)))))));replace H:=H.f1;refine A1 (Sep z (blk t [Aa 0,Aa 0,Aa 0,Aa 0,Aa 0,Aa 0] 207::R)) 11 Z J (A8 H λw a=>?_);have H:=a.l4;refine BA [0,1,2,4,5,7,8] [3,0,4,0,5,0] J (λ_ e=>(A3 (e.blk 0 Z) AU)) (by exact H.pick 4 [0] Z) Z J Z Z (Ax [3] J O (Ay ?_));replace H:=(H.mono 1 (B:=bsA 5 u8 (bs++Ad 4 0++Ad 1 0++Ad 4 0)) Z (λh q=>.inr q)).l4;refine BF Z Z Z Z Z Z (λw=>call157 _ w) (B6 _ (bs++Ad 4 0++Ad 1 0++Ad 4 0) 0 4 U (by first|omega|(simp only[XX,XY,X3,X4,X2,Ac,Aj,Ak]<;>omega)|(simp[Ac,Aj,Ak,Sup.list,sect_len]<;>omega)|simp[Ac,Aj,Ak,Sup.list,sect_len])) H.f1 Z ?_;rintro u9 w _ ⟨_,rfl,rfl⟩ H;have a6:=H.sy 0 (·.slc);refine Aw (λ_=>(H.pick 4 [1] Z)) (Ax [6] J O (Ay ?_));replace H:=(H.mono 0 (B:=bsA 5 u9 (bs++Ad 4 0++Ad 1 0++Ad 4 0++Ad 4 0)) Z (λh q=>.inr q)).l4;refine BF Z Z Z Z Z Z (λw=>call157 _ w) (B6 _ (bs++Ad 4 0++Ad 1 0++Ad 4 0++Ad 4 0) 0 2 U (by first|omega|(simp only[XX,XY,X3,X4,X2,Ac,Aj,Ak]<;>omega)|(simp[Ac,Aj,Ak,Sup.list,sect_len]<;>omega)|simp[Ac,Aj,Ak,Sup.list,sect_len])) H Z ?_;rintro p w _ ⟨_,rfl,rfl⟩ H;have x:=H.sy 0 (·.slc);refine Aw (λ_=>(H.pick 4 [1] Z)) (Ax [9] J O (Ay ?_));replace H:=(H.mono 0 (B:=bsA 5 p (bs++Ad 4 0++Ad 1 0++Ad 4 0++Ad 4 0++Ad 2 0)) Z (λh q=>.inr q)).l4;refine BF Z Z Z Z Z Z (λw=>call157 _ w) (B6 _ (bs++Ad 4 0++Ad 1 0++Ad 4 0++Ad 4 0++Ad 2 0) 0 4 U (by first|omega|(simp only[XX,XY,X3,X4,X2,Ac,Aj,Ak]<;>omega)|(simp[Ac,Aj,Ak,Sup.list,sect_len]<;>omega)|simp[Ac,Aj,Ak,Sup.list,sect_len])) H Z ?_;rintro l w _ ⟨_,rfl,rfl⟩ H;have a0:=H.sy 0 (·.slc);refine Aw (λ_=>(H.pick 4 [1] Z)) (Ax [10] J O (Ay (Dp Z Z Z Z (Bq Z Z) (Aw (λh=>absurd Z h) (Bi J (gn (Z1 7 [] [(i:Int)+1] Z U ?_)))))));replace H:=H.f1.d;refine gf ?_;intro _ hF;refine ⟨⟨i+1,l,bs++Ad 4 0++Ad 1 0++Ad 4 0++Ad 4 0++Ad 2 0++Ad 4 0⟩,hF.cz,⟨H,?_⟩,?_⟩
  ·exact ⟨by show i+1<=8;omega,by dsimp only;simp[Ac];omega⟩
  (dsimp only;omega)
 refine Zc 2 Z (gx (Zc 5 Z (AA Z (call141 _) (Fo _ bs 240 ⟨by first|omega|(simp only[XX,XY,X3,X4,X2,Ac,Aj,Ak]<;>omega)|(simp[Ac,Aj,Ak,Sup.list,sect_len]<;>omega)|simp[Ac,Aj,Ak,Sup.list,sect_len],by omega⟩) H ?_)));rintro a5 w _ ⟨_,rfl,rfl⟩ H;have a1:=H.sy 0 (·.slc);refine Zc 5 Z (Zr Z ?_);exact ⟨_,⟨_,_,by simp;omega,Z,Z⟩,H.pick 3 [0,2] Z⟩
theorem UH(a n:Nat)(lo:Option Addr)(b:Nat)(c:n<=4096):An 148 [V a] [blk a [.slice lo n b,Aa 0,Aa 0,Aa 0,Aa 0,Aa (-1)] 133] (λv G=>v=Aa (n:Int)/\G=[blk a [.slice lo n b,Aa 0,Aa 0,Aa 0,Aa 0,Aa (-1)] 133]):=by
 intro z R w H;refine Af func148 Z ntmps148 Z (Z2 16 [0,0,0] H Z (Zr Z ?_));exact ⟨_,⟨Z,Z⟩,H.pick 1 [0] Z⟩
theorem L2(a n:Nat)(lo:Option Addr)(b:Nat)(f:n<=4096)(x k:Int):An 137 [V a,Aa x,Aa k] [blk a [.slice lo n b,Aa 0,Aa 0,Aa 0,Aa 0,Aa (-1)] 133] (λv G=>v=.bool (decide (0<=x/\1<=k/\x<(n:Int)/\k<=(n:Int)-x))/\G=[blk a [.slice lo n b,Aa 0,Aa 0,Aa 0,Aa 0,Aa (-1)] 133]):=by
 intro z R w H;refine Af func137 Z ntmps137 Z (Z0 10 [0] Z (Am 9 Z (λc=>?_) (λc=>?_)))
 ·refine Z0 4 [0] Z (Am 13 Z (λe=>?_) (λe=>?_))
  ·refine Z2 9 [0,0,0,0] H Z (Am 22 Z (λd=>?_) (λd=>?_))
   ·refine Z3 14 [0,0,0,0] [(n:Int)-x] H Z U (Zr Z ?_);exact ⟨_,⟨congrArg Value.bool (by first|(rw[eq_comm,decide_eq_false_iff_not];omega)|(rw[Yf];simp<;>omega)),Z⟩,H.pick 1 [0] Z⟩
   refine Zc 14 Z (Zr Z ?_);exact ⟨_,⟨congrArg Value.bool (by first|(rw[eq_comm,decide_eq_false_iff_not];omega)|(rw[Yf];simp<;>omega)),Z⟩,H.pick 1 [0] Z⟩
  refine Zc 23 Z (Zr Z ?_);exact ⟨_,⟨congrArg Value.bool (by first|(rw[eq_comm,decide_eq_false_iff_not];omega)|(rw[Yf];simp<;>omega)),Z⟩,H.pick 1 [0] Z⟩
 refine Zc 27 Z (Zr Z ?_);exact ⟨_,⟨congrArg Value.bool (by first|(rw[eq_comm,decide_eq_false_iff_not];omega)|(rw[Yf];simp<;>omega)),Z⟩,H.pick 1 [0] Z⟩
theorem PT(a n:Nat)(lo:Option Addr)(b:Nat)(c:n<=4096):An 138 [V a,Aa 1] [blk a [.slice lo n b,Aa 0,Aa 0,Aa 0,Aa 0,Aa (-1)] 133] (λv G=>v=.bool false/\G=[blk a [.slice lo n b,Aa 0,Aa 0,Aa 0,Aa 0,Aa (-1)] 133]):=by
 intro z R w H;refine Af func138 Z ntmps138 Z (Z3 24 [1,4,1,1,2,0,0,3] [] H Z U (Zr Z ?_));exact ⟨_,⟨Z,Z⟩,H.pick 1 [0] Z⟩
theorem PU(a n:Nat)(lo:Option Addr)(b:Nat)(c:n<=4096):An 138 [V a,Aa 2] [blk a [.slice lo n b,Aa 0,Aa 0,Aa 0,Aa 0,Aa (-1)] 133] (λv G=>v=.bool false/\G=[blk a [.slice lo n b,Aa 0,Aa 0,Aa 0,Aa 0,Aa (-1)] 133]):=by
 intro z R w H;refine Af func138 Z ntmps138 Z (Z3 24 [1,4,1,2,3,0,0,3] [] H Z U (Zr Z ?_));exact ⟨_,⟨Z,Z⟩,H.pick 1 [0] Z⟩
theorem PV(a n:Nat)(lo:Option Addr)(b:Nat)(c:n<=4096):An 138 [V a,Aa 3] [blk a [.slice lo n b,Aa 0,Aa 0,Aa 0,Aa 0,Aa (-1)] 133] (λv G=>v=.bool false/\G=[blk a [.slice lo n b,Aa 0,Aa 0,Aa 0,Aa 0,Aa (-1)] 133]):=by
 intro z R w H;refine Af func138 Z ntmps138 Z (Z3 24 [1,4,1,3,4,0,0,3] [] H Z U (Zr Z ?_));exact ⟨_,⟨Z,Z⟩,H.pick 1 [0] Z⟩
theorem Ni(a n:Nat)(lo:Option Addr)(b:Nat)(c:n<=4096):An 170 [V a] [blk a [.slice lo n b,Aa 0,Aa 0,Aa 0,Aa 0,Aa (-1)] 133] (λv G=>v=.tuple #[]/\G=[blk a [.slice lo n b,Aa 0,Aa 0,Aa 0,Aa 0,Aa (-1)] 133]):=by
 intro z R w H;refine Af func170 Z ntmps170 Z (Z2 11 [5,0,0,4] H Z (Zf Z ?_));exact ⟨_,⟨Z,Z⟩,H.pick 1 [0] Z⟩
theorem Nj(pr n:Nat)(lo:Option Addr)(s:Nat)(a4:n<=4096)(rows:List RRow)(hq:Hp)(i:Nat)(r:RRow)(f:rows[i]?=some r)(p:List UInt8)(e:r.Ok hq p)(a3:i<n):An 139 [V pr,Aa (i:Int)] [blk pr [.slice lo n s,Aa 0,Aa 0,Aa 0,Aa 0,Aa (-1)] 133,grow 135 2 (.slice lo n s) n (Cb rows),poolA hq,seps (rows.map RRow.asn)] (λv G=>∃u:Value,rdH 1 u 256 (p.map u8) hq/\v=u/\G=[blk pr [.slice lo n s,Aa 0,Aa 0,Aa 0,Aa 0,Aa (-1)] 133,grow 135 2 (.slice lo n s) n (Cb rows),poolA hq,seps (rows.map RRow.asn)]):=by
 intro z R w H;refine Af func139 Z ntmps139 Z (Zc 6 Z ?_);have g:=e.l;obtain ⟨b,dc,m⟩:=e.d;obtain ⟨dv,vv,a⟩:=r;dsimp only at m;subst m;obtain ⟨y,vc,a0⟩:Slc vv a.length:=H.sy 3 (λq=>(LE f q).slc);subst a0;have a2:=H.sy 3 (λq=>(LE f q).small);dsimp only at a2;have o:=(H.rv 1 (·.rd)).at (Eo f 0 _ Z);refine Z2 6 [0,0,0] H Z (Ae Z (Az Z (z:=2) (j:=i) (r:=i*2) J Z Z Z U o U) (Ae Z (B7 Z Z (vs:=[.slice b 256 dc,.slice y a.length vc]) J O (AB (λk u hk=>(H.rv 1 (·.rd)).at (Eo f k u hk)))) (Za 0 [] H Z ?_)));intro b1 w H;refine Z4 12 [0,1,0,0,0] H Z ?_;intro w H;refine Ag Z (λh1=>?_) (λh1=>?_)
 ·refine Zc 1 Z ?_;obtain ⟨t,h⟩:∃t,a[a.length-1]?=some t:=⟨_,XV U⟩;have c:=(H.rv 4 (λq=>LE f q)).at h
  have a1:RRow.last ⟨.slice b 256 dc,.slice y a.length vc,a⟩=t:=by simp[RRow.last,AaM,h]
  refine Z3 7 [1,0,0,1,0,0] [((a.length-1:Nat):Int)] H Z U (Ae Z (Az Z (z:=1) (j:=(a.length-1)) (r:=(a.length-1)) J Z Z U U c U) (Ae Z (AS Z Z J (AB c)) (Zc 4 Z (Zr Z ?_))));exact ⟨_,⟨t,by rw[<-a1];exact g,Z,Z⟩,H.pick 5 [1,2,3,4] Z⟩
 refine Z2 10 [0,0,0] H Z (Zr Z ?_);have x:a=[]:=ZL.1 U;exact ⟨_,⟨_,by have:=g;rw[show RRow.last ⟨.slice b 256 dc,.slice y a.length vc,a⟩=.slice b 256 dc by simp[RRow.last,x]] at this;exact this,Z,Z⟩,H.pick 5 [1,2,3,4] Z⟩
theorem HI(c n m:Nat)(F:Nat->List UInt8)(a:Nat)(ha:a<n):An 84 [V c,Aa (a:Int),Aa 1] [rdkA c n F m] (λv G=>∃t:Value,v=.tuple #[t,Aa 0]/\G=[grow 5 1 t 256 ((F a).map u8),rdkA c n F m]):=by
 intro z R w H;obtain ⟨lv,rows,hq,d,b⟩:=H.rk;clear H;have a1:=d.1;have a0:=d.2.1;have H:=b.l4;have k:=H.sy 1 (·.slc);obtain ⟨lo,e,rfl⟩:=k;obtain ⟨r,p⟩:∃r,rows[a]?=some r:=⟨_,XV U⟩;have h:=(d.2.2 a r p).1;refine Af func84 Z ntmps84 Z (Zc 12 Z (Ah Z (call137 _) (L2 _ _ _ _ U _ _) H ?_));intro w H;refine Ae Z (AL Z Z) (Zc 2 Z (Ag Z (λx=>U) (λx=>?_)));refine Zc 6 Z (Ah Z (call138 _) (PT _ _ _ _ U) H ?_);intro w H;refine Zc 6 Z ?_;replace H:=(H.nilg 5 1).l5;refine Zc 12 Z ?_;refine Aq (σ:=Nat×Value) (λ⟨j,u⟩=>[(9,Aa ((a+j:Nat):Int)),(8,u),(0,V c),(1,Aa (a:Int)),(2,Aa 1),(6,.slice none 0 0),(7,Aa 0)])
   (λ⟨j,u⟩ w=>Sep z (grow 5 1 u (256*j) (((List.replicate j (F a)).flatten).map u8)::blk c [.slice lo n e,Aa 0,Aa 0,Aa 0,Aa 0,Aa (-1)] 133::grow 135 2 (.slice lo n e) n (Cb rows)::poolA hq::seps (rows.map RRow.asn)::R) w/\(j<=1)) (λ⟨j,u⟩=>1-j) ⟨0,.slice none 0 0⟩
   (λ_ f=>(f.co Z (by go_num) f.cz)) ⟨(by simpa using H),Ye _⟩ ?_
 clear H;rintro ⟨j,u⟩ w ⟨b,i⟩;dsimp only at i b ⊢;have H:=b.l5;have su:=H.sy 0 (·.slc);have hj:=i;clear i;refine Z1 10 [0] [((a+1:Nat):Int)] Z U (Ag Z (λh2=>?_) (λh2=>?_))
 ·obtain rfl:j=0:=by omega
  refine Zc 8 Z (AA Z (call139 _) (Nj _ _ _ _ U _ _ a _ p _ h U) H.f4.f4.f4.f4 ?_);rintro lq w _ ⟨_,g,rfl,rfl⟩ H;refine AC Z (AJ 4 H Z Z J A2 Z Z (H.rv 2 (λq=>g.le q)) (by intro c9 l;obtain ⟨b9,_,rfl⟩:=X5.1 l;rfl) U) ?_;rintro s w b;have b:Sep z (blk c [.slice lo n e,Aa 0,Aa 0,Aa 0,Aa 0,Aa (-1)] 133::grow 135 2 (.slice lo n e) n (Cb rows)::poolA hq::seps (rows.map RRow.asn)::grow 5 1 s ((256*0)+256) (((List.replicate 0 (F a)).flatten).map u8++(F a).map u8)::R) w:=b;have o:(((List.replicate 0 (F a)).flatten).map u8++(F a).map u8:List Value)=((List.replicate (0+1) (F a)).flatten).map u8:=O;rw[o] at b;rw[show ((256*0)+256:Nat)=(256*(0+1)) from by omega] at b;have H:=b.l5;have y:=H.sy 4 (·.slc);refine Z1 9 [] [((a+(0+1):Nat):Int)] Z U ?_;replace H:=H.f3.f3.f3.f3.f4;refine gf ?_;intro _ f;refine ⟨⟨0+1,s⟩,(f.all Z),⟨H,?_⟩,?_⟩
  ·show 0+1<=1;omega
  (dsimp only;omega)
 refine Zc 2 Z (gx (Zc 10 Z (Zr Z ?_)));obtain rfl:j=1:=by omega
 rw[show ((List.replicate 1 (F a)).flatten)=F a from by simp] at H;have b:=(H.pick 5 [1,2,3,4,0] Z).toRk d;exact ⟨_,⟨_,Z,Z⟩,b.pick 2 [1,0] Z⟩
section
section
variable{P:Program}{o:Oper}{n:Nat}{ds:List Deferred}{L:List (Nat×Value)}{x y:Operand}{v:Value}{z w:World}{Γ:List Ai}
theorem IC(i:Nat)(H:Sep z Γ w){t e:TypeId}{sz m c q:Nat}{s:Option Addr}{xs vs:List Value}(r:Γ[i]?=some (grow e sz (.slice s m c) m xs))(ho:o.op=.store t x y)(hx:ev L x=some (Fu s q))(hy:ev L y=some v)(hv:v.cells=vs.toArray)(h1:∀u∈vs,u.oneCell'=true)
  (hs:(P.info? t).map (·.size)=some vs.length)(hm:0<m)(hq:q+vs.length<=m*sz){out:List Value}(d:xs.take q++vs++xs.drop (q+vs.length)=out):
  Dj P n ds L o w (λw'=>Sep z (Γ.set i (grow e sz (.slice s m c) m out)) w'):=λa hF=>by
 have l:xs.length=m*sz:=H.says i r (λh g=>g.len);obtain ⟨g,a1,rest,hu,h3,h4,h5,H2⟩:=H.ungrow i r hm;cases hu;have j:i<Γ.length:=(XU.1 r).1;have k:(Γ.set i (blk g (xs++rest) e))[i]?=some (blk g (xs++rest) e):=by rw[Y5 j]
 have a0:m*sz+(c-m)*sz=c*sz:=by rw[<-Nat.add_mul];congr 1;omega
 obtain ⟨w',hr,H3⟩:=AE (P:=P) (n:=n) (ds:=ds) (L:=L) i H2 (p:=0+q) (vs:=vs) k ho hx hy hv h1 hs (by rw[XX,l,h5];omega) (out:=out++rest) (by
  rw[Y8,X7 U,Yz U,<-d];simp only[X1]) a hF
 refine ⟨w',hr,?_⟩;rw[AaV] at H3;have f:out.length=m*sz:=by rw[<-d];simp only[XX,X2,Yv];omega
 have:=H3.mono i (B:=grow e sz (.slice (some ⟨g,0,none⟩) m c) m out) (by rw[Y5 j]) (λh b=>blk.grow b h3 h4 (by rw[XX,f,h5];omega) (by rw[<-f,YJ];rfl));rw[AaV] at this;exact this
end
theorem ID{W:List RRow}{i:Nat}{x x2:RRow}(h:W[i]?=some x)(k:Nat)(a:List Value)(j:k+a.length<=2)(f:x.cells.take k++a++x.cells.drop (k+a.length)=x2.cells):(Cb W).take (i*2+k)++a++(Cb W).drop (i*2+k+a.length)=Cb (W.set i x2):=by
 obtain ⟨b,rfl⟩:=XU.1 h;have c:W=W.take i++W[i]::W.drop (i+1):=by rw[<-ZE b,YO]
 have d:W.set i x2=W.take i++x2::W.drop (i+1):=by rw[Zj,if_pos b]
 have e:(Cb (W.take i)).length=i*2:=by rw[Uh,X2,YC U]
 have g:Cb W=Cb (W.take i)++(W[i].cells++Cb (W.drop (i+1))):=by
  have:=congrArg Cb c;rw[JM] at this;exact this.trans (congrArg (Cb (W.take i)++ ·) Z)
 have m:W[i].cells.length=2:=rfl;rw[g,d,JM];rw[ZV,Yy,e,show i*2+k-i*2=k by omega,show i*2+k+a.length-i*2=k+a.length by omega];rw[XZ U,Yj (l:=Cb (W.take i)) U,Ym];rw[X7 U,Yz U];show _=Cb (W.take i)++(x2.cells++Cb (W.drop (i+1)));rw[<-f];simp[X1]
theorem We(F:Nat->List UInt8)(i:Nat):By F i (F i)=F:=by
 funext k;unfold By;split
 ·rename_i e;rw[e]
 rfl
set_option maxHeartbeats 4000000 in
theorem GQ (pr n m:Nat) (c3:m<=1000000000) (F:Nat->List UInt8) (a k:Nat) (a7:Bool) (v:Value) (bs:List UInt8) (A:Ai) (hA:∀h,A h->rdH 1 v bs.length (bs.map u8) h) (c1:bs.length=256*k) (hk:1<=k) (c4:a+k<=n):An 149 [V pr,Aa (a:Int),v,.bool a7] [rdkA pr n F m,A] (λv G=>v=Aa 0/\G=[rdkA pr n (E6 F a bs k) (m+k),A]):=by
 intro z R w H;replace H:=H.l2;obtain ⟨lv,rows,hq,hX,t⟩:=H.rk;clear H;have c6:=hX.1;have c5:=hX.2.1;have H:=t.l5;have a8:=H.says 1 Z (λh q=>q.slc);obtain ⟨lo,lc,rfl⟩:=a8;obtain ⟨b,o,c,rfl⟩:=H.says 4 Z (λh q=>(hA h q).sl (by rw[X8];omega));have c0:=H.says 4 Z (λh q=>(hA h q).cap);refine Af func149 Z ntmps149 Z (Z1 19 [0] [(k:Int)] Z U (Am 17 Z (λh1=>?_) (λh1=>?_)))
 ·(exfalso;omega)
 refine Z1 16 [4] [0] Z U (Ah Z (call137 _) (L2 _ _ _ _ U _ _) H ?_);intro w H;replace H:=H.l5;refine Ae Z (AL Z Z) (Zc 2 Z (Ag Z (λh2=>?_) (λh2=>?_)))
 ·(exfalso;omega)
 refine Zc 6 Z (Ah Z (call138 _) (PU _ _ _ _ U) H ?_);intro w H;refine Z2 19 [5,0,0,4] H Z ?_;refine Aq (σ:=Nat×List RRow×Hp) (λ⟨i,e,x⟩=>[(10,Aa (i:Int)),(0,V pr),(1,Aa (a:Int)),(2,.slice (some ⟨b,o,none⟩) bs.length c),(3,.bool a7),(8,Aa 0),(9,Aa (k:Int))])
   (λ⟨i,e,x⟩ w=>Sep z (blk pr [.slice lo n lc,Aa 0,Aa 0,Aa 0,Aa 0,Aa (-1)] 133::grow 135 2 (.slice lo n lc) n (Cb e)::poolA x::seps (e.map RRow.asn)::A::R) w/\(i<=k/\RdP n (E6 F a bs i) (m+i) e x)) (λ⟨i,e,x⟩=>k-i) ⟨0,rows,hq⟩
   fr_z ⟨H,⟨Ye _,by rw[VM];exact hX⟩⟩ ?_
 clear H;rintro ⟨i,e,x⟩ w ⟨t,hI⟩;dsimp only at hI t ⊢;have H:=t.l5;obtain ⟨hi,y⟩:=hI;have b8:=y.1;refine Z0 8 [0] Z (Ag Z (λh3=>?_) (λh3=>?_))
 ·refine Z1 18 [] [((256*i:Nat):Int),((256*i:Nat):Int),((256*i+256:Nat):Int)] Z U (Ae Z (A9 Z (z:=1) (p:=(256*i)) (q:=(256*i+256)) (o':=o+256*i) (l':=256) (c':=c-256*i) J Z (.inr ⟨_,_,_,Z,Z,Z⟩) (.inr ⟨_,_,_,Z,Z,Z⟩) U U U U U U) ?_);replace H:=(H.nilg 5 1).l6
  refine AC Z (AJ 0 H Z Z J A2 Z Z (H.rd 5 Z (λh q=>(hA h q).cut (lo:=256*i) (m:=256) U U U)) (by intro c9 b5;obtain ⟨b9,_,rfl⟩:=X5.1 b5;rfl) U) ?_;rintro v1 w t;have b1:([]++((bs.drop (256*i)).take 256).map u8:List Value)=((bs.drop (256*i)).take 256).map u8:=(by rw[Ym]);rw[b1] at t;have H:=t.l6;have b0:=H.says 0 Z (λh q=>q.slc);refine Zc 4 Z ?_;obtain ⟨l,f,rfl⟩:=b0;obtain ⟨r,hr⟩:∃r,e[a+i]?=some r:=⟨_,XV U⟩;have b3:=(y.2.2 _ r hr).1;have b7:=(y.2.2 _ r hr).2;replace H:=H.f4;have t:=LF hr H;clear H;obtain ⟨u,dc,a6⟩:=b3.d;obtain ⟨dv,vv,g⟩:=r;dsimp only at a6 b7;subst a6;have t:Sep z (grow 38 1 vv g.length g::seps ((e.map RRow.asn).eraseIdx (a+i))::grow 5 1 (.slice l 256 f) 256 (((bs.drop (256*i)).take 256).map u8)::blk pr [.slice lo n lc,Aa 0,Aa 0,Aa 0,Aa 0,Aa (-1)] 133::grow 135 2 (.slice lo n lc) n (Cb e)::poolA x::A::R) w:=t;have H:=t.l7;have a9:=H.says 0 Z (λh q=>q.slc);obtain ⟨vo,vc,rfl⟩:=a9;have c2:=H.says 0 Z (λh q=>q.rd.small);have s:=(H.rd 4 Z (λh q=>q.rd)).at (Eo hr 0 _ Z);have b6:=(H.rd 4 Z (λh q=>q.rd)).at (Eo hr 1 _ Z);replace H:=H.f4.f4;refine A1 (Sep z (blk pr [.slice lo n lc,Aa 0,Aa 0,Aa 0,Aa 0,Aa (-1)] 133::grow 135 2 (.slice lo n lc) n (Cb e)::R)) 23 Z J (A8 H λw t=>?_);have H:=t.l7;refine BA [0,1,2,3,4,5] [0,0] J (λ_ hx=>(A3 (hx.blk 0 Z) AU)) (by exact H.pick 7 [0,1] Z) Z J Z Z (Bg 6 J Z Z J J J Z Z Z (Cm Z Z Z (r:=((a+i:Nat):Int)) U U) (H.pick 7 [0,1] Z) (BA [7,8,9,10,11,12] [0,0] J (λ_ hx=>(A3 (hx.blk 0 Z) AU)) (by exact H.pick 7 [0,1] Z) Z J Z Z (Bg 13 J Z Z J J J Z Z Z (Cm Z Z Z (r:=((a+i:Nat):Int)) U U) (H.pick 7 [0,1] Z) (Bg 14 J Z Z J J J Z Z Z (Az Z (z:=2) (j:=(a+i)) (r:=(a+i)*2) J Z Z Z U s U) (H.pick 7 [0,1] Z) (Bg 15 J Z Z J J J Z Z Z (CF Z (k:=1) (r:=(a+i)*2+1) J Z s Z) (H.pick 7 [0,1] Z) (Bg 16 J Z Z J J J Z Z Z (AS Z Z J (λ_ hs=>(hs.rd 1 Z (λh q=>q.rd)).at (Eo hr 1 _ Z))) (H.pick 7 [0,1] Z) (BA [17] [] J (λ_ _=>AU) (by exact H.pick 7 [0,1] Z) Z J Z Z (Ax [18] J O (Ay (Cj Z Z Z Z (AI H Z J Fg Z (by decide) (by decide) (out:=[.slice l 256 f]) J) ?_))))))))));rintro _ w ⟨b2,rfl,H⟩;replace H:=H.l8;refine Aw (λ_=>(H.pick 8 [1,2] Z)) (Ax [19] J O (Ay (Cj Z Z Z Z (AJ 3 H Z Z J Fg Z Z (H.rd 0 Z (λh q=>q.rd U U O Z)) (Al Z AK) U) ?_)));rintro v3 w t;have t:Sep z (blk b2 [.slice l 256 f] 38::blk pr [.slice lo n lc,Aa 0,Aa 0,Aa 0,Aa 0,Aa (-1)] 133::grow 135 2 (.slice lo n lc) n (Cb e)::grow 38 1 v3 (g.length+1) (g++[.slice l 256 f])::seps ((e.map RRow.asn).eraseIdx (a+i))::grow 5 1 (.slice l 256 f) 256 (((bs.drop (256*i)).take 256).map u8)::poolA x::A::R) w:=t;have b4:(g++[.slice l 256 f]:List Value)=g++[.slice l 256 f]:=O;rw[b4] at t;have H:=t.l8;have a5:=H.says 3 Z (λh q=>q.slc);refine Aw (λ_=>(H.pick 8 [1,2] Z)) (Bg 20 J Z Z J J J Z Z Z (Az Z (z:=2) (j:=(a+i)) (r:=(a+i)*2) J Z Z Z U s U) (H.pick 8 [1,2] Z) (Bg 21 J Z Z J J J Z Z Z (CF Z (k:=1) (r:=(a+i)*2+1) J Z s Z) (H.pick 8 [1,2] Z) (Ax [22] J O (Ay (Cy Z Z Z (IC 2 H Z Z Z Z (vs:=[v3]) a5.cells (Al a5.one AK) J U (by simp only[XY,X3];omega) (out:=Cb (e.set (a+i) ⟨.slice u 256 dc,v3,g++[(.slice l 256 f)]⟩)) (ID (x2:=⟨.slice u 256 dc,v3,g++[(.slice l 256 f)]⟩) hr 1 _ O (by simp[RRow.cells]))) ?_)))));rintro w H;replace H:=H.l8;refine Aw (λh=>absurd Z h) (Bi J (gn (Zc 6 Z (Fy Z (λh4=>?_) (λh4=>?_)))))
  ·have a4:(e.set (a+i) ⟨.slice u 256 dc,v3,g++[(.slice l 256 f)]⟩)[a+i]?=some ⟨.slice u 256 dc,v3,g++[(.slice l 256 f)]⟩:=Y5 U
   have s:=(H.rd 2 Z (λh q=>q.rd)).at (Eo a4 0 _ Z);refine Z3 10 [0,1,0] [((a+i:Nat):Int)] H Z U (Ae Z (Az Z (z:=2) (j:=(a+i)) (r:=(a+i)*2) J Z Z Z U s U) (A0 Z Z (IC 2 H Z Z Z Z (vs:=[(.slice l 256 f),.slice none 0 0]) Z (Al Z (Al Z AK)) J U (by simp only[XY,X3];omega) (out:=Cb ((e.set (a+i) ⟨.slice u 256 dc,v3,g++[(.slice l 256 f)]⟩).set (a+i) ⟨(.slice l 256 f),.slice none 0 0,[]⟩)) (ID (x2:=⟨(.slice l 256 f),.slice none 0 0,[]⟩) a4 0 _ O (by simp[RRow.cells]))) ?_));rintro w H;replace H:=H.l8;refine Zc 3 Z ?_;rw[AaV] at H;replace H:=((H.pick 8 [0,1,2,4,5,6,7] Z).nilg 38 1).l8;replace H:=H.f4.f1;have t:Sep z (RRow.asn ⟨(.slice l 256 f),.slice none 0 0,[]⟩::seps ((e.map RRow.asn).eraseIdx (a+i))::blk b2 [.slice l 256 f] 38::blk pr [.slice lo n lc,Aa 0,Aa 0,Aa 0,Aa 0,Aa (-1)] 133::grow 135 2 (.slice lo n lc) n (Cb (e.set (a+i) ⟨(.slice l 256 f),.slice none 0 0,[]⟩))::grow 5 1 (.slice l 256 f) 256 (((bs.drop (256*i)).take 256).map u8)::poolA x::A::R) w:=H;clear H;have H:=Iv ⟨(.slice l 256 f),.slice none 0 0,[]⟩ U t;clear t;replace H:=H.f4.f5;obtain ⟨a0,⟨a2,a3⟩,H⟩:=BU H (λh q=>q.rd);replace H:=H.l6;have a1:RdP n (E6 F a bs (i+1)) (m+(i+1)) (e.set (a+i) ⟨(.slice l 256 f),.slice none 0 0,[]⟩) a0:=by rw[NY];exact (y.le a2).set ⟨by rw[X2,Yv];omega,⟨_,_,Z⟩,by simpa [RRow.last] using a3⟩ U (by simp;try omega)
   refine Z1 5 [] [(i:Int)+1] Z U ?_;replace H:=H.f2.d.f4.f2.f2.f4.f4;refine gf ?_;intro _ hF;refine ⟨⟨i+1,e.set (a+i) ⟨(.slice l 256 f),.slice none 0 0,[]⟩,a0⟩,hF.cz,⟨H,?_⟩,?_⟩
   ·exact ⟨by show i+1<=k;omega,a1⟩
   (dsimp only;omega)
  refine Zc 3 Z ?_;replace H:=H.f4.f4;have t:Sep z (RRow.asn ⟨.slice u 256 dc,v3,g++[(.slice l 256 f)]⟩::seps ((e.map RRow.asn).eraseIdx (a+i))::blk b2 [.slice l 256 f] 38::blk pr [.slice lo n lc,Aa 0,Aa 0,Aa 0,Aa 0,Aa (-1)] 133::grow 135 2 (.slice lo n lc) n (Cb (e.set (a+i) ⟨.slice u 256 dc,v3,g++[(.slice l 256 f)]⟩))::grow 5 1 (.slice l 256 f) 256 (((bs.drop (256*i)).take 256).map u8)::poolA x::A::R) w:=by have h9:=H;rw[show g.length+1=(g++[(.slice l 256 f)]:List Value).length from by simp] at h9;exact h9
  clear H;have H:=Iv ⟨.slice u 256 dc,v3,g++[(.slice l 256 f)]⟩ U t;clear t;replace H:=H.f4.f5;obtain ⟨a0,⟨a2,a3⟩,H⟩:=BU H (λh q=>q.rd);replace H:=H.l6;have a1:RdP n (E6 F a bs (i+1)) (m+(i+1)) (e.set (a+i) ⟨.slice u 256 dc,v3,g++[(.slice l 256 f)]⟩) a0:=by rw[NY];exact (y.le a2).set ⟨by rw[X2,Yv];omega,⟨_,_,Z⟩,by simpa [RRow.last] using a3⟩ U (by simp;try omega)
  refine Z1 5 [] [(i:Int)+1] Z U ?_;replace H:=H.f2.d.f4.f2.f2.f4.f4;refine gf ?_;intro _ hF;refine ⟨⟨i+1,e.set (a+i) ⟨.slice u 256 dc,v3,g++[(.slice l 256 f)]⟩,a0⟩,hF.cz,⟨H,?_⟩,?_⟩
  ·exact ⟨by show i+1<=k;omega,a1⟩
  (dsimp only;omega)
 refine Zc 2 Z (gx (Zc 5 Z (Ah Z (call170 _) (Ni _ _ _ _ U) H ?_)));intro w H;refine Zc 8 Z (Zr Z ?_);obtain rfl:i=k:=by omega
 have t:=(H.pick 5 [0,1,2,3,4] Z).toRk y;exact ⟨_,⟨Z,Z⟩,t⟩
set_option maxHeartbeats 4000000 in
theorem IF (k n m:Nat) (F:Nat->List UInt8):An 113 [V k] [rdkA k n F m] (λv G=>v=Aa 0/\G=[rdkA k n F m]):=by
 intro z R w H;obtain ⟨lv,rows,hq,u,f⟩:=H.rk;clear H;have a2:=u.1;have a1:=u.2.1;have H:=f.l4;have y:=H.sy 1 (·.slc);obtain ⟨lo,s,rfl⟩:=y;refine Af func113 Z ntmps113 Z (Zc 9 Z (Ah Z (call138 _) (PV _ _ _ _ U) H ?_));intro w H;refine Z2 19 [5,0,0,4] H Z ?_;refine Aq (σ:=Nat×List RRow) (λ⟨i,a⟩=>[(3,Aa (i:Int)),(0,V k),(2,Aa 0)])
   (λ⟨i,a⟩ w=>Sep z (blk k [.slice lo n s,Aa 0,Aa 0,Aa 0,Aa 0,Aa (-1)] 133::grow 135 2 (.slice lo n s) n (Cb a)::poolA hq::seps (a.map RRow.asn)::R) w/\(i<=n/\RdP n F m a hq)) (λ⟨i,a⟩=>n-i) ⟨0,rows⟩
   fr_z ⟨H,⟨Ye _,u⟩⟩ ?_
 clear H;rintro ⟨i,a⟩ w ⟨f,hI⟩;dsimp only at hI f ⊢;have H:=f.l4;obtain ⟨hi,b⟩:=hI;have a0:=b.1;refine Z2 12 [0,0,0,0] H Z (Ag Z (λh1=>?_) (λh1=>?_))
 ·refine Zc 4 Z ?_;obtain ⟨r,q⟩:∃r,a[i]?=some r:=⟨_,XV U⟩;have o:=(b.2.2 _ r q).1
  have g:=(H.rv 1 (·.rd)).at (Eo q 0 _ Z);refine A1 (Sep z (blk k [.slice lo n s,Aa 0,Aa 0,Aa 0,Aa 0,Aa (-1)] 133::grow 135 2 (.slice lo n s) n (Cb a)::R)) 11 Z J (A8 H λw f=>?_);have H:=f.l4;refine BA [0,1,2,3,4,5,6] [0,0] J (λ_ hx=>(A3 (hx.blk 0 Z) AU)) (by exact H.pick 4 [0,1] Z) Z J Z Z (Ax [7] J O (Ay (BF Z Z Z Z Z Z (λw=>call139 _ w) (Nj _ _ _ _ U _ _ i _ q _ o U) H Z ?_)));rintro lq w _ ⟨_,l,rfl,rfl⟩ H;have x:=l.slc;obtain ⟨e,c,rfl⟩:=x;refine Aw (λ_=>(H.pick 4 [0,1] Z)) (Bg 8 J Z Z J J J Z Z Z (AR Z Z (out:=[.slice e 256 c,.slice none 0 0]) J) (H.pick 4 [0,1] Z) (Bg 9 J Z Z J J J Z Z Z (Az Z (z:=2) (j:=i) (r:=i*2) J Z Z Z U g U) (H.pick 4 [0,1] Z) (Ax [10] J O (Ay (Cy Z Z Z (IC 1 H Z Z Z Z (vs:=[(.slice e 256 c),.slice none 0 0]) Z (Al Z (Al Z AK)) J U (by simp only[XY,X3];omega) (out:=Cb (a.set i ⟨(.slice e 256 c),.slice none 0 0,[]⟩)) (ID (x2:=⟨(.slice e 256 c),.slice none 0 0,[]⟩) q 0 _ O (by simp[RRow.cells]))) ?_)))));rintro w H;refine Aw (λh=>absurd Z h) (Bi J (gn (Zc 2 Z ?_)));replace H:=H.f3;replace H:=((LF q H).d.nilg 38 1).l5;replace H:=(Iv (rows:=a) ⟨(.slice e 256 c),.slice none 0 0,[]⟩ U H).l4;have t:RdP n F m (a.set i ⟨(.slice e 256 c),.slice none 0 0,[]⟩) hq:=by have h9:=b.set (i:=i) (p:=F i) (r:=⟨(.slice e 256 c),.slice none 0 0,[]⟩) ⟨o.len,⟨_,_,Z⟩,by simpa [RRow.last] using l⟩ (Yo m) (Ye _);rwa[We] at h9
  refine Z1 5 [] [(i:Int)+1] Z U ?_;replace H:=H.f3.f3.f3;refine gf ?_;intro _ hF;refine ⟨⟨i+1,a.set i ⟨(.slice e 256 c),.slice none 0 0,[]⟩⟩,hF.cz,⟨H,?_⟩,?_⟩
  ·exact ⟨by show i+1<=n;omega,t⟩
  (dsimp only;omega)
 refine Zc 2 Z (gx (Zc 5 Z (Ah Z (call170 _) (Ni _ _ _ _ U) H ?_)));intro w H;refine Zc 8 Z (Zr Z ?_);have f:=(H.pick 4 [0,1,2,3] Z).toRk b;exact ⟨_,⟨Z,Z⟩,f⟩
end
theorem Sc{rows:List RRow}{hq a:Hp}{z:List UInt8}(h:∀(j:Nat) (r:RRow),rows[j]?=some r->r.Ok hq z/\r.pvs.length<=0)(s:BC hq a){rn:RRow}(c:rn.Ok a z)(d:rn.pvs.length<=0):∀(j:Nat) (r:RRow),(rows++[rn])[j]?=some r->r.Ok a z/\r.pvs.length<=0:=λj r e=>by
 rcases Yr.1 (XW e) with q|q
 ·obtain ⟨i,b⟩:=List.mem_iff_getElem?.1 q
  exact ⟨(h i r b).1.le s,(h i r b).2⟩
 rw[YD] at q;subst q;exact ⟨c,d⟩
set_option maxHeartbeats 2000000 in
theorem Wf (n:Nat) (hn:1<=n/\n<=4096):An 34 [Aa (n:Int)] [] (λv G=>∃t:Nat,v=.tuple #[V t,Aa 0]/\G=[rdkA t n (λ_=>(List.replicate 256 (0:UInt8))) 0]):=by
 intro z R w H;refine Af func34 Z ntmps34 Z (Z0 12 [0] Z (Am 8 Z (λh1=>U) (λh1=>?_)));refine Z0 5 [0] Z (Ag Z (λh2=>U) (λh2=>?_));refine Zc 4 Z (Ae Z (AR Z Z (out:=[.slice none 0 0,Aa 0,Aa 0,Aa 0,Aa 0,Aa (-1)]) J) (Za 0 [] H Z ?_));intro c w H;refine Zc 5 Z ?_;replace H:=(((FS H).nilg 135 2).void (B:=seps (([]:List RRow).map RRow.asn)) (λh=>⟨λ_=>0,λi A h=>by simp at h⟩)).l4;refine Zc 5 Z ?_;refine Aq (σ:=Nat×Value×List RRow×Hp) (λ⟨i,u,rows,hq⟩=>[(5,Aa (i:Int)),(0,Aa (n:Int)),(2,.pointer none),(3,Aa 0),(4,V c)])
   (λ⟨i,u,rows,hq⟩ w=>Sep z (seps (rows.map RRow.asn)::grow 135 2 u i (Cb rows)::poolA hq::blk c [u,Aa 0,Aa 0,Aa 0,Aa 0,Aa (-1)] 133::R) w/\(i<=n/\rows.length=i/\∀(j:Nat) (r:RRow),rows[j]?=some r->r.Ok hq (List.replicate 256 (0:UInt8))/\r.pvs.length<=0)) (λ⟨i,u,rows,hq⟩=>n-i) ⟨0,.slice none 0 0,[],λ_=>none⟩
   fr_z ⟨H,⟨Ye _,Z,λj r h=>by simp at h⟩⟩ ?_
 clear H;rintro ⟨i,u,rows,hq⟩ w ⟨a,s⟩;dsimp only at s a ⊢;have H:=a.l4;have su:=H.sy 1 (·.slc);obtain ⟨hi,f,y⟩:=s;refine Z0 8 [0] Z (Ag Z (λh3=>?_) (λh3=>?_))
 ·refine Zc 4 Z ?_;replace H:=H.f3;refine A1 (Sep z (blk c [u,Aa 0,Aa 0,Aa 0,Aa 0,Aa (-1)] 133::R)) 12 Z J (A8 H λw a=>?_)
  have H:=a.l4;refine BA [0,1,2,3,4] [0,0] J (λ_ hx=>(A3 (hx.blk 0 Z) AU)) (by exact H.pick 4 [0] Z) Z J Z Z (Ax [5] J O (Ay (Cj Z Z Z Z (C5 (k:=256) H Z J A2 Z Z Z U) ?_)));rintro _ w ⟨b,rfl,H⟩;refine Aw (λ_=>(H.pick 5 [1] Z)) (Bg 6 J Z Z J J J Z Z Z (AR Z Z (out:=[.slice (some ⟨b,0,none⟩) 256 256,.slice none 0 0]) J) (H.pick 5 [1] Z) (Ax [7] J O (Ay (Cj Z Z Z Z (AI H Z J Do Z (by decide) (by decide) (out:=[.slice (some ⟨b,0,none⟩) 256 256,.slice none 0 0]) J) ?_))));rintro _ w ⟨b3,rfl,H⟩;refine Aw (λ_=>(H.pick 6 [2] Z)) (Ax [8] J O (Ay (Cj Z Z Z Z (AJ 4 H Z Z J Do Z Z (H.rv 0 (·.rd U U O Z)) (Al Z (Al Z AK)) U) ?_)));rintro x w a;have a:Sep z (blk b3 [.slice (some ⟨b,0,none⟩) 256 256,.slice none 0 0] 135::blk b (List.replicate 256 (u8 0)) 5::blk c [u,Aa 0,Aa 0,Aa 0,Aa 0,Aa (-1)] 133::seps (rows.map RRow.asn)::grow 135 2 x (i+1) (Cb rows++[.slice (some ⟨b,0,none⟩) 256 256,.slice none 0 0])::poolA hq::R) w:=a;have l:(Cb rows++[.slice (some ⟨b,0,none⟩) 256 256,.slice none 0 0]:List Value)=Cb (rows++[⟨.slice (some ⟨b,0,none⟩) 256 256,.slice none 0 0,[]⟩]):=(by rw[JM];rfl);rw[l] at a;have H:=a.l6;have e:=H.sy 4 (·.slc);refine Aw (λ_=>(H.pick 6 [2] Z)) (BA [9,10] [0] J (λ_ _=>AU) (by exact H.pick 6 [2] Z) Z J Z Z (Ax [11] J O (Ay (Cy Z Z Z (Nw 2 H Z Z Z Z e.cells e.one J) ?_))));rintro w H;refine Aw (λh=>absurd Z h) (Bi J (gn (Zc 2 Z ?_)));replace H:=H.f3;have a:=H.nilg 38 1;clear H;have H:=Pq (rows:=rows) ⟨.slice (some ⟨b,0,none⟩) 256 256,.slice none 0 0,[]⟩ a;clear a;replace H:=H.f2.f5;obtain ⟨p,⟨m,o⟩,H⟩:=BU H (sz:=1) (n:=256) (v:=.slice (some ⟨b,0,none⟩) 256 256) (xs:=(List.replicate 256 (0:UInt8)).map u8) (λh q=>q.rd U U O (by simp[u8]));have g:=Sc y m (rn:=⟨.slice (some ⟨b,0,none⟩) 256 256,.slice none 0 0,[]⟩) ⟨by simp,⟨_,_,Z⟩,by simpa [RRow.last] using o⟩ (Yo 0);refine Z1 5 [] [(i:Int)+1] Z U ?_;replace H:=H.f2.d.f2.f1.f3.f3;refine gf ?_;intro _ hF;refine ⟨⟨i+1,x,rows++[⟨.slice (some ⟨b,0,none⟩) 256 256,.slice none 0 0,[]⟩],p⟩,hF.cz,⟨H,?_⟩,?_⟩
  ·exact ⟨by show i+1<=n;omega,by simp[f],g⟩
  (dsimp only;omega)
 refine Zc 2 Z (gx (Zc 10 Z (Zr Z ?_)));obtain rfl:i=n:=by omega
 exact ⟨_,⟨c,Z,Z⟩,(H.pick 4 [3,1,2,0] Z).toRk ⟨f,hn,y⟩⟩
theorem FH(s:Sup)(n:Nat)(a:s.Ok (n:Int))(f:n<=4096):An 147 [.agg #[Aa s.gen,Aa s.epoch,Aa s.pages,Aa s.start,Aa s.len,Aa s.head,Aa s.seq],Aa (n:Int)] [] (λv G=>v=Aa 0/\G=[]):=by
 intro z R w H;have hs:=a.1;have j:=a.2;have m:=Sup.get a;refine Af func147 Z ntmps147 Z (Za 2 [] H Z ?_);intro l w H;refine Z2 6 [0,7] H Z (AA Z (call184 _) (F3 _ hs) H ?_);rintro _ w _ ⟨k,rfl,rfl⟩ H;have e:=H.sy 0 (·.slc);refine Z2 18 [4,2,1,0,0] H Z (Am 19 Z (λh=>U) (λh=>?_));refine Z2 5 [2,1,0,0] H Z (Am 24 Z (λd=>U) (λd=>?_));refine Z3 8 [3,1,0,2,1,0,0] [2+s.pages] H Z U (Am 32 Z (λi=>U) (λi=>?_));refine Z2 5 [4,1,0,0] H Z (Am 37 Z (λb=>U) (λb=>?_));refine Z3 9 [3,1,0,4,1,0,0] [s.start+s.len] H Z U (Am 46 Z (λg=>U) (λg=>?_));refine Z2 8 [5,1,0,4,1,0,0] H Z (Ag Z (λc=>U) (λc=>?_));refine Zc 8 Z (Zr Z ?_);exact ⟨_,⟨Z,Z⟩,H.pick 2 [] Z⟩
theorem Sd{b a y:Sup}(c:(b.gen<a.gen/\y=a)\/(a.gen<=b.gen/\y=b))(h:b.gen<a.gen):a=y:=by
 rcases c with ⟨_,q⟩|⟨q,_⟩
 ·exact q.symm
 omega
theorem Se{a b y:Sup}(c:(a.gen<b.gen/\y=b)\/(b.gen<=a.gen/\y=a))(h:¬a.gen<b.gen):a=y:=by
 rcases c with ⟨q,_⟩|⟨_,q⟩
 ·omega
 exact q.symm
set_option maxHeartbeats 2000000 in
theorem JY (c n m:Nat) (j:m<=1000000000) (F:Nat->List UInt8) (s:Sup) (a:s.Ok (n:Int)):An 150 [V c,.agg #[Aa s.gen,Aa s.epoch,Aa s.pages,Aa s.start,Aa s.len,Aa s.head,Aa s.seq]] [rdkA c n F m] (λv G=>v=Aa 0/\G=[rdkA c n (By F (s.gen%2).toNat (Br s)) (m+1)]):=by
 intro z R w H;obtain ⟨t,rows,hq,d,b⟩:=H.rk;clear H;have p:=d.1;have o:=d.2.1;have H:=b.l4;have e:=H.sy 1 (·.slc);obtain ⟨lo,k,rfl⟩:=e;have hs:=a.1;have r:=a.2;have i:=Sup.get a;refine Af func150 Z ntmps150 Z (Za 2 [] H Z ?_);intro g w H;refine Zc 4 Z (A1 (Sep z (blk g [Aa s.gen,Aa s.epoch,Aa s.pages,Aa s.start,Aa s.len,Aa s.head,Aa s.seq] 92::blk c [.slice lo n k,Aa 0,Aa 0,Aa 0,Aa 0,Aa (-1)] 133::R)) 8 Z J (A8 H λw b=>?_));have H:=b.l5;refine Bg 0 J Z Z J J J Z Z Z (Bz Z Z (vs:=[Aa s.gen,Aa s.epoch,Aa s.pages,Aa s.start,Aa s.len,Aa s.head,Aa s.seq]) J (λ_ f=>(f.blk 0 Z).part 0 7 _ Z)) (H.pick 5 [0,1] Z) (BA [1,2,3,4] [0,0] J (λ_ f=>(A3 (f.blk 1 Z) AU)) (by exact H.pick 5 [0,1] Z) Z J Z Z (Bg 5 J Z Z J J J Z Z Z (DX Z (z:=2) J Z) (H.pick 5 [0,1] Z) (Ax [6] J O (Ay (BF Z Z Z Z Z Z (λw=>call147 _ w) (FH _ n a U) H Z ?_)))));rintro _ w _ ⟨rfl,rfl⟩ H;refine Aw (λ_=>(H.pick 5 [0,1] Z)) (Ax [7] J O (Ay (Dp Z Z Z Z (Bq Z Z) (Aw (λh=>absurd Z h) (Bi J (gn (Z0 12 [4] Z ?_)))))));have b:Sep z (rdkA c n F m::blk g [Aa s.gen,Aa s.epoch,Aa s.pages,Aa s.start,Aa s.len,Aa s.head,Aa s.seq] 92::R) w:=(H.pick 5 [1,2,3,4,0] Z).toRk d;clear H;have H:=b.l2;refine Z2 2 [1,7] H Z (AA Z (call184 _) (F3 _ hs) H ?_);rintro _ w _ ⟨u,rfl,rfl⟩ H;have l:=H.sy 0 (·.slc);refine Z3 14 [0,2,0] [(((s.gen%2).toNat:Nat):Int)] H Z U (Ah Z (call149 _) (GQ _ n _ U _ ((s.gen%2).toNat) 1 true _ (Br s) _ (λh q=>q.rd) (by first|(rw[Dl])|(simp[C8, *])|omega) U U) H.f1 ?_);intro w H;rw[RJ _ _ (by first|(rw[Dl])|(simp[C8, *])|omega)] at H;refine Zc 4 Z (Zr Z ?_);exact ⟨_,⟨Z,Z⟩,H.pick 3 [0] Z⟩
set_option maxHeartbeats 4000000 in
theorem UI (j n m:Nat) (F:Nat->List UInt8) (o r y:Sup) (a5:F 0=Br o) (a2:F 1=Br r) (a6:o.Ok (n:Int)) (a3:r.Ok (n:Int)) (g0:o.gen%2=0) (g1:r.gen%2=1) (hy:(o.gen<r.gen/\y=r)\/(r.gen<=o.gen/\y=o)) (b5:2<=n):An 151 [V j] [rdkA j n F m] (λv G=>v=.tuple #[.agg #[Aa y.gen,Aa y.epoch,Aa y.pages,Aa y.start,Aa y.len,Aa y.head,Aa y.seq],Aa 0]/\G=[rdkA j n F m]):=by
 intro z R w H;obtain ⟨lv,rows,hq,f,b⟩:=H.rk;clear H;have a1:=f.1;have a0:=f.2.1;have H:=b.l4;have g:=H.sy 1 (·.slc);obtain ⟨lo,lc,rfl⟩:=g;refine Af func151 Z ntmps151 Z (Za 2 [] H Z ?_);intro b1 w H;refine Z2 14 [0,1,0,0] H Z (Ag Z (λh1=>U) (λh1=>?_));refine Zc 3 Z ?_;have b:Sep z (rdkA j n F m::blk b1 [Aa 0,Aa 0,Aa 0,Aa 0,Aa 0,Aa 0,Aa 0] 92::R) w:=(H.pick 5 [1,2,3,4,0] Z).toRk f;clear H;have H:=b.l2;refine Zc 1 Z (Ae Z (AR Z Z (out:=[Aa 0,Aa 0,Aa 0,Aa 0,Aa 0,Aa 0,Aa 0]) J) (Za 0 [] H Z ?_));intro x w H;refine Z4 20 [0] H Z ?_;intro w H;refine Aq (σ:=Nat×Sup) (λ⟨i,a⟩=>[(7,Aa (i:Int)),(6,.bool false),(5,.bool (decide (0<i))),(0,V j),(2,V b1),(3,Aa 0),(4,V x)])
   (λ⟨i,a⟩ w=>Sep z (blk x [Aa a.gen,Aa a.epoch,Aa a.pages,Aa a.start,Aa a.len,Aa a.head,Aa a.seq] 92::rdkA j n F m::blk b1 [Aa 0,Aa 0,Aa 0,Aa 0,Aa 0,Aa 0,Aa 0] 92::R) w/\(i<=2/\(i=1->a=o)/\(i=2->a=y))) (λ⟨i,a⟩=>2-i) ⟨0,⟨0,0,0,0,0,0,0⟩⟩
   (λ_ c=>(c.co Z (by go_num) (c.co Z Z c.cz))) ⟨H,⟨Ye _,λe=>by simp at e,λe=>by simp at e⟩⟩ ?_
 clear H;rintro ⟨i,a⟩ w ⟨b,hI⟩;dsimp only at hI b ⊢;have H:=b.l3;obtain ⟨hi,a7,a8⟩:=hI;refine Z0 7 [0] Z (Ag Z (λh2=>?_) (λh2=>?_))
 ·refine Zc 5 Z ?_;obtain ⟨s,t,k,b6,u,a9⟩:∃s:Sup,F i=Br s/\s.Ok (n:Int)/\s.gen%2=(i:Int)/\(i=0->s=o)/\(i=1->s=r):=by rcases (show i=0\/i=1 by omega) with rfl|rfl<;>first|exact ⟨o,a5,a6,g0,λ_=>rfl,λe=>by omega⟩|exact ⟨r,a2,a3,g1,λe=>by omega,λ_=>rfl⟩
  have hs:=k.1;have b0:=Sup.get k;have a4:(F i).length=256:=by rw[t];exact Dl s
  refine Zc 3 Z (AA Z (call84 _) (HI _ _ _ _ i U) H.f1 ?_);rintro _ w _ ⟨u3,rfl,rfl⟩ H;have b3:=H.sy 0 (·.slc);refine Z0 20 [4] Z (Ah Z (call185 _) (Ml _ (F i) _ (λh q=>by rw[a4];exact q.rd) s hs t) H ?_);intro w H;refine Za 3 [] H Z ?_;intro b4 w H;refine Z4 5 [0] H Z ?_;intro w H;rcases (show i=0\/i=1 by omega) with rfl|rfl
  ·refine k_updA 5 (v:=.bool false) Z Z ?_;replace H:=H.f2;obtain ⟨lv,rows,hq,f,b⟩:=H.rk;clear H;have a1:=f.1
   have a0:=f.2.1;have H:=b.l8;have g:=H.sy 1 (·.slc);obtain ⟨lo,lc,rfl⟩:=g;replace H:=H.f6.f1.f5;refine BO (Sep z (blk b4 [Aa s.gen,Aa s.epoch,Aa s.pages,Aa s.start,Aa s.len,Aa s.head,Aa s.seq] 92::blk j [.slice lo n lc,Aa 0,Aa 0,Aa 0,Aa 0,Aa (-1)] 133::blk x [Aa a.gen,Aa a.epoch,Aa a.pages,Aa a.start,Aa a.len,Aa a.head,Aa a.seq] 92::R)) 29 Z J (A8 H λw b=>?_);have H:=b.l8;refine CB [0,1,2,3,4,5,6,7] [0,7,0,1,0] [] (by exact H.pick 8 [0,1,2] Z) Z J Z (Cf [8] J O (Ay (BF Z Z Z Z Z Z (λw=>call147 _ w) (FH _ n k U) H Z ?_)));rintro _ w _ ⟨rfl,rfl⟩ H;refine B0 (H.pick 8 [0,1,2] Z) (OE [9,10,11,12,13,14,15,16] [3,0,0,0,0] [s.gen%2] (by exact H.pick 8 [0,1,2] Z) Z J U Z (k_updA 56 (v:=.bool true) Z (congrArg Value.bool (decide_eq_true U)) (CB [17,18,19,20,21,22,23,24,25,26,27,28] [] [] (by exact H.pick 8 [0,1,2] Z) Z J Z (a_done J (gn (Z4 13 [0,7,2] H Z ?_))))));intro w H;have b:Sep z (rdkA j n F m::blk b4 [Aa s.gen,Aa s.epoch,Aa s.pages,Aa s.start,Aa s.len,Aa s.head,Aa s.seq] 92::blk x [Aa s.gen,Aa s.epoch,Aa s.pages,Aa s.start,Aa s.len,Aa s.head,Aa s.seq] 92::grow 5 1 u3 256 ((F 0).map u8)::blk b1 [Aa 0,Aa 0,Aa 0,Aa 0,Aa 0,Aa 0,Aa 0] 92::R) w:=(H.pick 8 [1,3,4,5,0,2,6,7] Z).toRk f;clear H;have H:=b.l5;refine k_updA 5 (v:=.bool (decide (0<0+1))) Z Z (Z1 5 [] [(0:Int)+1] Z U ?_);replace H:=H.f3.d.f1.d.f2.f1.f2;refine gf ?_;intro _ c;refine ⟨⟨0+1,s⟩,(c.co Z (by go_num) (c.co Z Z c.cz)),⟨H,?_⟩,?_⟩
   ·first|exact ⟨by dsimp only;omega,λ_=>u Z,λe=>by dsimp only at e;omega⟩|exact ⟨by dsimp only;omega,λe=>by dsimp only at e;omega,λ_=>l.trans (Sd hy (by rw[<-p,<-l];assumption))⟩|exact ⟨by dsimp only;omega,λe=>by dsimp only at e;omega,λ_=>p.trans (Se hy (by rw[<-p,<-l];assumption))⟩
   (dsimp only;omega)
  refine k_updA 5 (v:=.bool true) Z Z ?_;have l:=a9 Z;have p:=a7 Z;replace H:=H.f2;obtain ⟨lv,rows,hq,f,b⟩:=H.rk;clear H;have a1:=f.1;have a0:=f.2.1;have H:=b.l8;have g:=H.sy 1 (·.slc);obtain ⟨lo,lc,rfl⟩:=g;replace H:=H.f6.f1.f5;refine BO (Sep z (blk b4 [Aa s.gen,Aa s.epoch,Aa s.pages,Aa s.start,Aa s.len,Aa s.head,Aa s.seq] 92::blk j [.slice lo n lc,Aa 0,Aa 0,Aa 0,Aa 0,Aa (-1)] 133::blk x [Aa a.gen,Aa a.epoch,Aa a.pages,Aa a.start,Aa a.len,Aa a.head,Aa a.seq] 92::R)) 29 Z J (A8 H λw b=>?_);have H:=b.l8;refine CB [0,1,2,3,4,5,6,7] [0,7,0,1,0] [] (by exact H.pick 8 [0,1,2] Z) Z J Z (Cf [8] J O (Ay (BF Z Z Z Z Z Z (λw=>call147 _ w) (FH _ n k U) H Z ?_)));rintro _ w _ ⟨rfl,rfl⟩ H;refine B0 (H.pick 8 [0,1,2] Z) (OE [9,10,11,12,13,14,15,16] [3,0,0,0,0] [s.gen%2] (by exact H.pick 8 [0,1,2] Z) Z J U Z (k_updA 56 (v:=.bool true) Z (congrArg Value.bool (decide_eq_true U)) (CB [17,18,19,20,21,22,23,24,25,26,27,28] [0,0,0,0,2,0,0] [] (by exact H.pick 8 [0,1,2] Z) Z J Z (a_done J (gn (Zc 1 Z (Ag Z (λh3=>?_) (λh3=>?_))))))))
  ·refine Z4 11 [0,7,2] H Z ?_;intro w H;have b:Sep z (rdkA j n F m::blk b4 [Aa s.gen,Aa s.epoch,Aa s.pages,Aa s.start,Aa s.len,Aa s.head,Aa s.seq] 92::blk x [Aa s.gen,Aa s.epoch,Aa s.pages,Aa s.start,Aa s.len,Aa s.head,Aa s.seq] 92::grow 5 1 u3 256 ((F 1).map u8)::blk b1 [Aa 0,Aa 0,Aa 0,Aa 0,Aa 0,Aa 0,Aa 0] 92::R) w:=(H.pick 8 [1,3,4,5,0,2,6,7] Z).toRk f
   clear H;have H:=b.l5;refine k_updA 5 (v:=.bool (decide (0<1+1))) Z Z (Z1 5 [] [(1:Int)+1] Z U ?_);replace H:=H.f3.d.f1.d.f2.f1.f2;refine gf ?_;intro _ c;refine ⟨⟨1+1,s⟩,(c.co Z (by go_num) (c.co Z Z c.cz)),⟨H,?_⟩,?_⟩
   ·first|exact ⟨by dsimp only;omega,λ_=>u Z,λe=>by dsimp only at e;omega⟩|exact ⟨by dsimp only;omega,λe=>by dsimp only at e;omega,λ_=>l.trans (Sd hy (by rw[<-p,<-l];assumption))⟩|exact ⟨by dsimp only;omega,λe=>by dsimp only at e;omega,λ_=>p.trans (Se hy (by rw[<-p,<-l];assumption))⟩
   (dsimp only;omega)
  refine Zc 3 Z ?_;have b:Sep z (rdkA j n F m::blk b4 [Aa s.gen,Aa s.epoch,Aa s.pages,Aa s.start,Aa s.len,Aa s.head,Aa s.seq] 92::blk x [Aa a.gen,Aa a.epoch,Aa a.pages,Aa a.start,Aa a.len,Aa a.head,Aa a.seq] 92::grow 5 1 u3 256 ((F 1).map u8)::blk b1 [Aa 0,Aa 0,Aa 0,Aa 0,Aa 0,Aa 0,Aa 0] 92::R) w:=(H.pick 8 [1,3,4,5,0,2,6,7] Z).toRk f;clear H;have H:=b.l5;refine k_updA 5 (v:=.bool (decide (0<1+1))) Z Z (Z1 5 [] [(1:Int)+1] Z U ?_);replace H:=H.f3.d.f1.d.f2.f1.f2;refine gf ?_;intro _ c;refine ⟨⟨1+1,a⟩,(c.co Z (by go_num) (c.co Z Z c.cz)),⟨H,?_⟩,?_⟩
  ·first|exact ⟨by dsimp only;omega,λ_=>u Z,λe=>by dsimp only at e;omega⟩|exact ⟨by dsimp only;omega,λe=>by dsimp only at e;omega,λ_=>l.trans (Sd hy (by rw[<-p,<-l];assumption))⟩|exact ⟨by dsimp only;omega,λe=>by dsimp only at e;omega,λ_=>p.trans (Se hy (by rw[<-p,<-l];assumption))⟩
  (dsimp only;omega)
 refine Zc 2 Z (gx (Zc 4 Z ?_));obtain rfl:i=2:=by omega
 refine k_updA 5 (v:=.bool true) Z Z (Z4 25 [0,7,2] H Z ?_);intro w H;refine Zl [2,7] H Z ?_;obtain rfl:a=y:=a8 Z;exact ⟨_,⟨Z,Z⟩,H.pick 3 [1] Z⟩
theorem Nk(a n m:Nat)(F:Nat->List UInt8)(s:Sup)(d:s.Ok (n:Int)):An 155 [V a,.agg #[Aa s.gen,Aa s.epoch,Aa s.pages,Aa s.start,Aa s.len,Aa s.head,Aa s.seq]] [rdkA a n F m] (λv G=>∃i:Nat,v=V i/\G=[blk i [V a,Aa s.gen,Aa s.epoch,Aa s.pages,Aa s.start,Aa s.len,Aa s.head,Aa s.seq,Aa s.head,Aa s.seq,Aa 0,.bool false] 249,rdkA a n F m]):=by
 intro z R w H;obtain ⟨p,rows,hq,c,b⟩:=H.rk;clear H;have l:=c.1;have k:=c.2.1;have H:=b.l4;have e:=H.sy 1 (·.slc);obtain ⟨lo,j,rfl⟩:=e;refine Af func155 Z ntmps155 Z (Za 2 [] H Z ?_);intro g w H;refine Zc 5 Z (A1 (Sep z (blk g [Aa s.gen,Aa s.epoch,Aa s.pages,Aa s.start,Aa s.len,Aa s.head,Aa s.seq] 92::blk a [.slice lo n j,Aa 0,Aa 0,Aa 0,Aa 0,Aa (-1)] 133::R)) 8 Z J (A8 H λw b=>?_));have H:=b.l5;refine Bg 0 J Z Z J J J Z Z Z (Bz Z Z (vs:=[Aa s.gen,Aa s.epoch,Aa s.pages,Aa s.start,Aa s.len,Aa s.head,Aa s.seq]) J (λ_ f=>(f.blk 0 Z).part 0 7 _ Z)) (H.pick 5 [0,1] Z) (BA [1,2,3,4] [0,0] J (λ_ f=>(A3 (f.blk 1 Z) AU)) (by exact H.pick 5 [0,1] Z) Z J Z Z (Bg 5 J Z Z J J J Z Z Z (DX Z (z:=2) J Z) (H.pick 5 [0,1] Z) (Ax [6] J O (Ay (BF Z Z Z Z Z Z (λw=>call147 _ w) (FH _ n d U) H Z ?_)))));rintro _ w _ ⟨rfl,rfl⟩ H;refine Aw (λ_=>(H.pick 5 [0,1] Z)) (Ax [7] J O (Ay (Dp Z Z Z Z (Ns Z Z Z) (Qm 12 Z Z (Aw (λh=>absurd Z h) (Bi J (gn (Zc 5 Z ?_))))))));have b:Sep z (rdkA a n F m::blk g [Aa s.gen,Aa s.epoch,Aa s.pages,Aa s.start,Aa s.len,Aa s.head,Aa s.seq] 92::R) w:=(H.pick 5 [1,2,3,4,0] Z).toRk c;clear H;have H:=b.l2;refine Z2 7 [1,7,5,1,0,6,1,0] H Z (Ae Z (AR Z Z (out:=[V a,Aa s.gen,Aa s.epoch,Aa s.pages,Aa s.start,Aa s.len,Aa s.head,Aa s.seq,Aa s.head,Aa s.seq,Aa 0,.bool false]) J) (Za 0 [] H Z ?_));intro o w H;refine Zc 4 Z (Zr Z ?_);exact ⟨_,⟨o,Z,Z⟩,H.pick 3 [0,1] Z⟩
theorem Hj(b c:Nat)(s:Sup)(a q u:Int)(hs:(0<=s.start/\s.start<=1099511627776)/\0<s.len/\s.len<=1099511627776)(x:Int)(g:0<=x/\x<=1099511627776):An 186 [V b,Aa x] [blk b [V c,Aa s.gen,Aa s.epoch,Aa s.pages,Aa s.start,Aa s.len,Aa s.head,Aa s.seq,Aa a,Aa q,Aa u,.bool false] 249] (λv G=>v=Aa (s.start+x%s.len)/\G=[blk b [V c,Aa s.gen,Aa s.epoch,Aa s.pages,Aa s.start,Aa s.len,Aa s.head,Aa s.seq,Aa a,Aa q,Aa u,.bool false] 249]):=by
 intro z R w H;refine Af func186 Z ntmps186 Z (Zc 6 Z ?_);have f:=ZC x (show s.len≠0 by omega);have d:=Zk x (show 0<s.len by omega);refine A4 (Sep z _) J J H.drew (F9 14 [1,4,0,0,1,5,0,0] [x%s.len,s.start+x%s.len] Z J U (Bn (λw e=>?_)));have H:=e.l1;refine gn (Zc 2 Z (Zr Z ?_));exact ⟨_,⟨Z,Z⟩,H.pick 1 [0] Z⟩
theorem UJ(b c:Nat)(s:Sup)(a q u:Int)(hs:(0<=s.start/\s.start<=1099511627776)/\0<s.len/\s.len<=1099511627776)(e:0<=u/\u<=1099511627776):An 191 [V b] [blk b [V c,Aa s.gen,Aa s.epoch,Aa s.pages,Aa s.start,Aa s.len,Aa s.head,Aa s.seq,Aa a,Aa q,Aa u,.bool false] 249] (λv G=>v=Aa (s.len-u)/\G=[blk b [V c,Aa s.gen,Aa s.epoch,Aa s.pages,Aa s.start,Aa s.len,Aa s.head,Aa s.seq,Aa a,Aa q,Aa u,.bool false] 249]):=by
 intro z R w H;refine Af func191 Z ntmps191 Z (Z2 18 [11,0,0] H Z (A4 (Sep z _) J J H.drew (F9 11 [1,5,0,0,10,0,0] [s.len-u] Z J U (Bn (λw d=>?_)))));have H:=d.l1;refine gn (Zc 2 Z (Zr Z ?_));exact ⟨_,⟨Z,Z⟩,H.pick 1 [0] Z⟩
theorem Kx(b c:Nat)(s:Sup)(a q u:Int)(hs:(0<=s.start/\s.start<=1099511627776)/\0<s.len/\s.len<=1099511627776)(k:Int)(f:0<=k/\k<=1000000)(e:0<=a/\a<=1099511627776)(hq:0<=q/\q<=1099511627776)(g:0<=u/\u<=1099511627776):An 189 [V b,Aa k] [blk b [V c,Aa s.gen,Aa s.epoch,Aa s.pages,Aa s.start,Aa s.len,Aa s.head,Aa s.seq,Aa a,Aa q,Aa u,.bool false] 249] (λv G=>v=.tuple #[]/\G=[blk b [V c,Aa s.gen,Aa s.epoch,Aa s.pages,Aa s.start,Aa s.len,Aa s.head,Aa s.seq,Aa ((a+k)%s.len),Aa (q+1),Aa (u+k),.bool false] 249]):=by
 intro z R w H;refine Af func189 Z ntmps189 Z (Zc 1 Z (Bo 15 J J (A8 H λw d=>?_)));have H:=d.l1;refine CC 15 [8,0,0,1,5,0,0,8] [a+k,(a+k)%s.len] H Z J U (Ce (gw (Z5 27 [0,9,0,0,9,0,10,0,0,10,0] [q+1,u+k] H Z U ?_)));intro w H;refine Zf Z ?_;exact ⟨_,⟨Z,Z⟩,H.pick 1 [0] Z⟩
theorem Wg(v:Value)(es:List ImE)(A:Ai)(b:∀h,A h->rdH 3 v es.length (Bj es) h/\∀e∈es,rdH 1 e.2 240 (e.1.body.map u8) h)(p:∀e∈es,e.1.Ok)(hn:0<es.length/\es.length<=1048576)(n:∀(j i:Nat) (e f:ImE),j<i->es[j]?=some e->es[i]?=some f->e.1.num≠f.1.num):An 190 [v] [A] (λv G=>v=.bool true/\G=[A]):=by
 intro z R w H;obtain ⟨s,x,rfl⟩:=H.sy 0 (λq=>(b _ q).1.slc);have a1:=H.sy 0 (λq=>(b _ q).1.small);refine Af func190 Z ntmps190 Z (Zc 12 Z ?_);refine Aq (σ:=Nat) (λi=>[(3,Aa (i:Int)),(0,.slice s es.length x)])
   (λi w=>Sep z (A::R) w/\(i<=es.length)) (λi=>es.length-i) 0
   fr_z ⟨H,Ye _⟩ ?_
 clear H;rintro i w ⟨o,g⟩;have H:=o.l1;have hi:=g;clear g;refine Z0 9 [0] Z (Ag Z (λh1=>?_) (λh1=>?_))
 ·refine Zc 5 Z ?_;obtain ⟨e,c⟩:∃e,es[i]?=some e:=⟨_,XV U⟩;have hm:=p e (XW c)
  obtain ⟨bo,bc,l⟩:Slc e.2 240:=H.sy 0 (λq=>((b _ q).2 e (XW c)).slc);obtain ⟨m,bv⟩:=e;dsimp only at l hm;subst l;have a:=(H.rv 0 (λq=>(b _ q).1)).at (Ba c 0 _ Z);refine Zc 3 Z (Ae Z (Az Z (z:=3) (j:=i) (r:=i*3) J Z Z Z U a U) (Ae Z (B7 Z Z (vs:=[Aa m.num,Aa m.kind,.slice bo 240 bc]) J O (AB (λk u hk=>(H.rv 0 (λq=>(b _ q).1)).at (Ba c k u hk)))) (AA Z (call143 _) (Fh m hm _ _ (λh q=>(b h q).2 _ (XW c))) H ?_)));rintro _ w _ ⟨t,rfl,rfl⟩ H;have y:=H.sy 0 (·.slc);refine Z0 23 [4] Z ?_;refine Aq (σ:=Nat) (λk=>[(6,Aa (k:Int)),(0,.slice s es.length x),(3,Aa (i:Int)),(5,Aa 0),(7,Aa (i:Int)),(8,.slice s es.length x),(9,Aa (es.length:Int)),(10,.bool (decide ((i:Int)<(es.length:Int)))),(13,.tuple #[t,Aa 0]),(14,.slice s es.length x),(15,Aa (i:Int)),(16,Fu s (i*3)),(17,.agg #[Aa m.num,Aa m.kind,.slice bo 240 bc]),(18,.tuple #[t,Aa 0]),(19,t),(20,Aa 0),(21,Aa 0),(22,.bool false)])
    (λk w=>Sep z (grow 5 1 t ((DU m).length) ((DU m).map u8)::A::R) w/\(k<=i)) (λk=>i-k) 0
    fr_z ⟨H,Ye _⟩ ?_
  clear H;rintro k w ⟨o,g⟩;have H:=o.l2;have y:=H.sy 0 (·.slc);have hk:=g;clear g;refine Z0 8 [0] Z (Ag Z (λh2=>?_) (λh2=>?_))
  ·refine Zc 5 Z ?_;obtain ⟨f,hf⟩:∃f,es[k]?=some f:=⟨_,XV U⟩;have a:=(H.rv 1 (λq=>(b _ q).1)).at (Ba c 0 _ Z)
   have a0:=n k i f _ U hf c;refine A4 (Sep z _) J J H.drew (B9 2 [] Z J (Bd Z Z Z (Az Z (z:=3) (j:=k) (r:=k*3) J Z Z Z U a U) (Bd Z Z Z (CF Z (k:=0) (r:=k*3) J Z a Z) (Bd Z Z Z (AS Z Z J (λ_ hs=>(hs.rv 1 (λq=>(b _ q).1)).at (Ba hf 0 _ Z))) (B9 2 [] Z J (Bd Z Z Z (Az Z (z:=3) (j:=i) (r:=i*3) J Z Z Z U a U) (Bd Z Z Z (CF Z (k:=0) (r:=i*3) J Z a Z) (Bd Z Z Z (AS Z Z J (λ_ hs=>(hs.rv 1 (λq=>(b _ q).1)).at (Ba c 0 _ Z))) (B9 1 [] Z J (Bn (λw o=>?_)))))))))));have H:=o.l2;refine gn (Zc 1 Z (Ag Z (λh3=>?_) (λh3=>?_)))
   ·exact absurd h3 a0
   refine Z1 8 [] [(k:Int)+1] Z U (gf ?_);intro _ hF;refine ⟨(k+1),hF.cz,⟨H,?_⟩,?_⟩
   ·omega
   omega
  refine Zc 2 Z (gx (Z1 8 [] [(i:Int)+1] Z U ?_));replace H:=H.d;refine gf ?_;intro _ hF;refine ⟨(i+1),hF.cz,⟨H,?_⟩,?_⟩
  ·omega
  omega
 refine Zc 2 Z (gx (Z0 11 [0] Z (Zr Z ?_)));exact ⟨_,⟨congrArg Value.bool (decide_eq_true U),Z⟩,H.pick 1 [0] Z⟩
set_option maxHeartbeats 4000000 in
theorem PW (c g:Nat) (s:Sup) (a q u:Int) (c2:0<=s.epoch/\s.epoch<4294967296) (b2:0<=q/\q<1099511627776) (v:Value) (es:List ImE) (A:Ai) (n:∀h,A h->rdH 3 v es.length (Bj es) h/\∀e∈es,rdH 1 e.2 240 (e.1.body.map u8) h) (p:∀e∈es,e.1.Ok) (hn:1<=es.length/\es.length<=40):An 192 [V c,v] [blk c [V g,Aa s.gen,Aa s.epoch,Aa s.pages,Aa s.start,Aa s.len,Aa s.head,Aa s.seq,Aa a,Aa q,Aa u,.bool false] 249,A] (λv G=>∃v2:Value,v=v2/\G=[grow 5 1 v2 (sect (Bt s.epoch q (es.map Prod.fst))++AD s.epoch q (es.map Prod.fst)).length ((sect (Bt s.epoch q (es.map Prod.fst))++AD s.epoch q (es.map Prod.fst)).map u8),blk c [V g,Aa s.gen,Aa s.epoch,Aa s.pages,Aa s.start,Aa s.len,Aa s.head,Aa s.seq,Aa a,Aa q,Aa u,.bool false] 249,A]):=by
 intro z R w H;obtain ⟨ao,oc,rfl⟩:=H.sy 1 (λq=>(n _ q).1.slc);have c1:=H.sy 1 (λq=>(n _ q).1.small);have a0:∀m∈(es.map Prod.fst),m.Ok:=λm hm=>by obtain ⟨e,o,rfl⟩:=X5.1 hm;exact p e o
 have b7:(AD s.epoch q (es.map Prod.fst)).length=es.length*256:=by rw[Dy a0,X8]
 have a9:(es.map Prod.fst).length=es.length:=X8 ..;refine Af func192 Z ntmps192 Z (Zc 17 Z ?_);replace H:=(H.nilg 5 1).l3;replace H:=(H.nilg 3 1).l4;refine Zc 5 Z ?_;refine Aq (σ:=Nat×Value×Value) (λ⟨i,t,n9⟩=>[(7,Aa (i:Int)),(5,t),(6,n9),(0,V c),(1,.slice ao es.length oc),(4,.slice none 0 0)])
   (λ⟨i,t,n9⟩ w=>Sep z (grow 3 1 n9 i ((((es.map Prod.fst).take i).map Img.num).map Aa)::grow 5 1 t ((AD s.epoch q ((es.map Prod.fst).take i)).length) ((AD s.epoch q ((es.map Prod.fst).take i)).map u8)::blk c [V g,Aa s.gen,Aa s.epoch,Aa s.pages,Aa s.start,Aa s.len,Aa s.head,Aa s.seq,Aa a,Aa q,Aa u,.bool false] 249::A::R) w/\(i<=es.length)) (λ⟨i,t,n9⟩=>es.length-i) ⟨0,.slice none 0 0,.slice none 0 0⟩
   (λ_ hF=>(hF.co Z (by go_num) (hF.co Z (by go_num) hF.cz))) ⟨(by simpa [AD] using H),Ye _⟩ ?_
 clear H;rintro ⟨i,t,n9⟩ w ⟨b,hI⟩;dsimp only at hI b ⊢;have H:=b.l4;have a4:=H.sy 0 (·.slc);have a7:=H.sy 1 (·.slc);have hi:=hI;clear hI;refine Z0 9 [0] Z (Ag Z (λh1=>?_) (λh1=>?_))
 ·refine Zc 5 Z ?_;obtain ⟨e,f⟩:∃e,es[i]?=some e:=⟨_,XV U⟩;have hm:=p e (XW f)
  obtain ⟨bo,bc,a2⟩:Slc e.2 240:=H.sy 3 (λq=>((n _ q).2 e (XW f)).slc);obtain ⟨m,bv⟩:=e;dsimp only at a2 hm;subst a2;have l:=(H.rv 3 (λq=>(n _ q).1)).at (Ba f 0 _ Z);replace H:=H.f3.f3;refine A1 (Sep z (blk c [V g,Aa s.gen,Aa s.epoch,Aa s.pages,Aa s.start,Aa s.len,Aa s.head,Aa s.seq,Aa a,Aa q,Aa u,.bool false] 249::A::R)) 19 Z J (A8 H λw b=>?_);have H:=b.l4;refine BA [0,1,2,3,4,5,6,7,8,9,10] [1,2,0,9,0] J (λ_ hx=>(A3 (hx.blk 0 Z) AU)) (by exact H.pick 4 [0,1] Z) Z J Z Z (Bg 11 J Z Z J J J Z Z Z (Az Z (z:=3) (j:=i) (r:=i*3) J Z Z Z U l U) (H.pick 4 [0,1] Z) (Bg 12 J Z Z J J J Z Z Z (B7 Z Z (vs:=[Aa m.num,Aa m.kind,.slice bo 240 bc]) J O (λ_ hs k u hk=>(hs.rv 1 (λq=>(n _ q).1)).at (Ba f k u hk))) (H.pick 4 [0,1] Z) (Ax [13] J O (Ay (BF Z Z Z Z Z Z (λw=>call224 _ w) (HX s.epoch q U U m hm _ _ (λh q=>(n h q).2 _ (XW f))) H.f1 Z ?_)))));rintro _ w _ ⟨u1,rfl,rfl⟩ H;have b4:=H.sy 0 (·.slc);refine Aw (λ_=>(H.pick 5 [2,1] Z)) (BA [14,15,16,17] [] J (λ_ _=>AU) (by exact H.pick 5 [2,1] Z) Z J Z Z (Ax [18] J O (Ay (Dp Z Z Z Z (Bq Z Z) (Aw (λh=>absurd Z h) (Bi J (gn (Zc 2 Z ?_))))))));have a3:(es.map Prod.fst)[i]?=some m:=by rw[X9,f];rfl
  have b8:(AD s.epoch q ((es.map Prod.fst).take i)).length<=10240:=by rw[Dy (λx hx=>a0 x (YH hx)),X2];omega
  have b1:(sect (A5 s.epoch q m)).length=256:=sect_len (YU (CI hm.2.2));refine Zc 3 Z (AC Z (AJ 4 H Z Z J A2 Z Z (H.rv 0 (·.rd)) (by intro c9 a1;obtain ⟨b9,_,rfl⟩:=X5.1 a1;rfl) U) ?_);rintro v2 w b;have b:Sep z (grow 5 1 u1 ((sect (A5 s.epoch q m)).length) ((sect (A5 s.epoch q m)).map u8)::A::blk c [V g,Aa s.gen,Aa s.epoch,Aa s.pages,Aa s.start,Aa s.len,Aa s.head,Aa s.seq,Aa a,Aa q,Aa u,.bool false] 249::grow 3 1 n9 i ((((es.map Prod.fst).take i).map Img.num).map Aa)::grow 5 1 v2 ((AD s.epoch q ((es.map Prod.fst).take i)).length+(sect (A5 s.epoch q m)).length) ((AD s.epoch q ((es.map Prod.fst).take i)).map u8++(sect (A5 s.epoch q m)).map u8)::R) w:=b;have a5:((AD s.epoch q ((es.map Prod.fst).take i)).map u8++(sect (A5 s.epoch q m)).map u8:List Value)=(AD s.epoch q ((es.map Prod.fst).take (i+1))).map u8:=(by rw[<-E4 a3];simp);rw[a5] at b;rw[show ((AD s.epoch q ((es.map Prod.fst).take i)).length+(sect (A5 s.epoch q m)).length:Nat)=(AD s.epoch q ((es.map Prod.fst).take (i+1))).length from (by rw[<-E4 a3,XX])] at b;have H:=b.l5;have b0:=H.sy 4 (·.slc);refine Zc 3 Z ?_;replace H:=(H.pick 5 [1,2,3,4] Z).l4;have l:=(H.rv 0 (λq=>(n _ q).1)).at (Ba f 0 _ Z);refine Zc 4 Z (Ae Z (Az Z (z:=3) (j:=i) (r:=i*3) J Z Z Z U l U) (Ae Z (CF Z (k:=0) (r:=i*3) J Z l Z) (Ae Z (AS Z Z J (AB ((H.rv 0 (λq=>(n _ q).1)).at (Ba f 0 _ Z)))) (AC Z (AI H Z J BW Z (by decide) (by decide) (out:=[Aa m.num]) J) ?_))));rintro _ w ⟨b3,rfl,H⟩;refine AC Z (AJ 3 H Z Z J BW Z Z (H.rv 0 (·.rd U U O Z)) (by simp[Value.oneCell']) U) ?_;rintro v4 w b;have b:Sep z (blk b3 [Aa m.num] 3::A::blk c [V g,Aa s.gen,Aa s.epoch,Aa s.pages,Aa s.start,Aa s.len,Aa s.head,Aa s.seq,Aa a,Aa q,Aa u,.bool false] 249::grow 3 1 v4 (i+1) ((((es.map Prod.fst).take i).map Img.num).map Aa++[Aa m.num])::grow 5 1 v2 ((AD s.epoch q ((es.map Prod.fst).take (i+1))).length) ((AD s.epoch q ((es.map Prod.fst).take (i+1))).map u8)::R) w:=b;have a6:((((es.map Prod.fst).take i).map Img.num).map Aa++[Aa m.num]:List Value)=(((es.map Prod.fst).take (i+1)).map Img.num).map Aa:=(by rw[Yd,X9,f];simp);rw[a6] at b;have H:=b.l5;have c0:=H.sy 3 (·.slc);refine Z1 9 [] [(i:Int)+1] Z U ?_;replace H:=H.d.f1.f3.f3;refine gf ?_;intro _ hF;refine ⟨⟨i+1,v2,v4⟩,hF.cz,⟨H,?_⟩,?_⟩
  ·show i+1<=es.length;omega
  (dsimp only;omega)
 refine Zc 2 Z (gx (Zc 3 Z ?_));obtain rfl:i=es.length:=by omega
 rw[show (es.map Prod.fst).take es.length=(es.map Prod.fst) from XZ O] at H;have b:Sep z (grow 3 1 n9 (es.map Prod.fst).length (((es.map Prod.fst).map Img.num).map Aa)::grow 5 1 t ((AD s.epoch q (es.map Prod.fst)).length) ((AD s.epoch q (es.map Prod.fst)).map u8)::blk c [V g,Aa s.gen,Aa s.epoch,Aa s.pages,Aa s.start,Aa s.len,Aa s.head,Aa s.seq,Aa a,Aa q,Aa u,.bool false] 249::A::R) w:=by have o:=H;rw[show es.length=(es.map Prod.fst).length from by simp] at o;exact o
 clear H;have H:=b.l4;have a7:=H.sy 1 (·.slc);have a4:=H.sy 0 (·.slc);obtain ⟨no,nc,rfl⟩:=a4;replace H:=H.f2;refine A1 (Sep z (blk c [V g,Aa s.gen,Aa s.epoch,Aa s.pages,Aa s.start,Aa s.len,Aa s.head,Aa s.seq,Aa a,Aa q,Aa u,.bool false] 249::R)) 19 Z J (A8 H λw b=>?_);have H:=b.l4;refine BA [0,1,2,3,4,5,6,7,8,9,10] [1,2,0,9,0] J (λ_ hx=>(A3 (hx.blk 0 Z) AU)) (by exact H.pick 4 [0] Z) Z J Z Z (Ax [11] J O (Ay (BF Z Z Z Z Z Z (λw=>call222 _ w) (LZ _ (AD s.epoch q (es.map Prod.fst)) _ (λh q=>q.rd)) H.f2 Z ?_)));rintro _ w _ ⟨rfl,rfl⟩ H;refine Aw (λ_=>(H.pick 4 [1] Z)) (Bg 12 J Z Z J J J Z Z Z (AR Z Z (out:=[Aa s.epoch,Aa q,.slice no ((es.map Prod.fst).length) nc,u32 (Au (AD s.epoch q (es.map Prod.fst)))]) J) (H.pick 4 [1] Z) (Ax [13] J O (Ay (BF Z Z Z Z Z Z (λw=>call221 _ w) (Jn s.epoch q _ ((es.map Prod.fst).map Img.num) _ _ (λh q=>by have e9:((es.map Prod.fst).map Img.num).length=(es.map Prod.fst).length:=X8 ..;rw[e9];exact q.rd) U U (by rw[X8];omega) (λy hy=>by obtain ⟨m9,o,rfl⟩:=X5.1 hy;exact (a0 m9 o).1)) H.f2 Z ?_))));rintro _ w _ ⟨u5,rfl,rfl⟩ H;have b6:=H.sy 0 (·.slc);refine Aw (λ_=>(H.pick 5 [3] Z)) (BA [14,15,16,17] [] J (λ_ _=>AU) (by exact H.pick 5 [3] Z) Z J Z Z (Ax [18] J O (Ay (Dp Z Z Z Z (Bq Z Z) (Aw (λh=>absurd Z h) (Bi J (gn (Zc 5 Z (AC Z (AJ 0 H Z Z J A2 Z Z (H.rv 2 (·.rd)) (by intro c9 a1;obtain ⟨b9,_,rfl⟩:=X5.1 a1;rfl) (by have o:(sect (Bt s.epoch q (es.map Prod.fst))).length=256:=sect_len (hdL_le U);unfold Bt at o;omega)) ?_)))))))));rintro v6 w b;have b:Sep z (grow 5 1 v6 ((sect (Bt s.epoch q (es.map Prod.fst))).length+(AD s.epoch q (es.map Prod.fst)).length) ((sect (Bt s.epoch q (es.map Prod.fst))).map u8++(AD s.epoch q (es.map Prod.fst)).map u8)::grow 3 1 (.slice no ((es.map Prod.fst).length) nc) ((es.map Prod.fst).length) (((es.map Prod.fst).map Img.num).map Aa)::grow 5 1 t ((AD s.epoch q (es.map Prod.fst)).length) ((AD s.epoch q (es.map Prod.fst)).map u8)::blk c [V g,Aa s.gen,Aa s.epoch,Aa s.pages,Aa s.start,Aa s.len,Aa s.head,Aa s.seq,Aa a,Aa q,Aa u,.bool false] 249::A::R) w:=b;have a8:((sect (Bt s.epoch q (es.map Prod.fst))).map u8++(AD s.epoch q (es.map Prod.fst)).map u8:List Value)=(sect (Bt s.epoch q (es.map Prod.fst))++AD s.epoch q (es.map Prod.fst)).map u8:=O;rw[a8] at b;rw[show ((sect (Bt s.epoch q (es.map Prod.fst))).length+(AD s.epoch q (es.map Prod.fst)).length:Nat)=(sect (Bt s.epoch q (es.map Prod.fst))++AD s.epoch q (es.map Prod.fst)).length from (by rw[XX])] at b;have H:=b.l5;have b5:=H.sy 0 (·.slc);refine Zc 10 Z (Zr Z ?_);exact ⟨_,⟨_,Z,Z⟩,H.pick 5 [0,3,4] Z⟩
set_option maxHeartbeats 4000000 in
theorem PX (o g:Nat) (s:Sup) (a q u:Int) (n m:Nat) (a2:m<=1000000000) (a4:n<=4096) (F:Nat->List UInt8) (hs:(0<=s.start/\s.start<=1099511627776)/\0<s.len/\s.len<=1099511627776) (a1:0<=s.epoch/\s.epoch<4294967296) (a0:0<=q/\q<1099511627776) (v:Value) (es:List ImE) (A:Ai) (x:∀h,A h->rdH 3 v es.length (Bj es) h/\∀e∈es,rdH 1 e.2 240 (e.1.body.map u8) h) (b:∀e∈es,e.1.Ok) (hn:1<=es.length/\es.length<=40) (d:∀(j i:Nat) (e f:ImE),j<i->es[j]?=some e->es[i]?=some f->e.1.num≠f.1.num) (ha:0<=a/\a+1+es.length<=s.len) (hu:0<=u/\u+1+es.length<=s.len) (a3:s.start+s.len<=n):An 161 [V o,v] [blk o [V g,Aa s.gen,Aa s.epoch,Aa s.pages,Aa s.start,Aa s.len,Aa s.head,Aa s.seq,Aa a,Aa q,Aa u,.bool false] 249,rdkA g n F m,A] (λv G=>v=Aa 0/\G=[blk o [V g,Aa s.gen,Aa s.epoch,Aa s.pages,Aa s.start,Aa s.len,Aa s.head,Aa s.seq,Aa ((a+((1+es.length:Nat):Int))%s.len),Aa (q+1),Aa (u+((1+es.length:Nat):Int)),.bool false] 249,rdkA g n (E6 F (s.start+a).toNat (sect (Bt s.epoch q (es.map Prod.fst))++AD s.epoch q (es.map Prod.fst)) (1+es.length)) (m+(1+es.length)),A]):=by
 intro z R w H;obtain ⟨ao,oc,rfl⟩:=H.sy 2 (λq=>(x _ q).1.slc);have l:∀m∈(es.map Prod.fst),m.Ok:=λm hm=>by obtain ⟨e,h9,rfl⟩:=X5.1 hm;exact b e h9
 refine Af func161 Z ntmps161 Z (Z0 13 [0] Z (Ag Z (λh1=>U) (λh1=>?_)));refine Zc 6 Z (Ah Z (call190 _) (Wg _ es _ x b U d) H.f2 ?_);intro w H;refine Z3 24 [11,1,0] [((1+es.length:Nat):Int)] H Z U (Ah Z (call191 _) (UJ _ _ _ _ _ _ hs U) H.f1 ?_);intro w H;refine Z0 3 [0] Z (Am 28 Z (λh2=>U) (λh2=>?_));refine Z2 8 [1,2,0,0,0] H Z (Am 36 Z (λh3=>U) (λh3=>?_));refine Z2 8 [9,0,0,0] H Z (Ag Z (λh4=>U) (λh4=>?_));refine Zc 6 Z (AA Z (call192 _) (PW _ _ _ _ _ _ a1 a0 _ es _ x b U) H ?_);rintro rv w _ ⟨_,rfl,rfl⟩ H;refine Zc 4 Z ?_;have c:(sect (Bt s.epoch q (es.map Prod.fst))++AD s.epoch q (es.map Prod.fst)).length=(256*(1+es.length)):=by rw[XX,sect_len (hdL_le (by rw[X8];omega)),Dy l,X8];omega
 obtain ⟨gb,y,rest,t,c1,c2,c3,k⟩:=H.ungrow 0 Z U;subst t;clear H;have H:=k.l4;rw[c] at c1 c3;refine A4 (Sep z _) J J H.drew (F9 11 [1,5,1,0,8,1,0] [s.len-a] Z J U (Bd Z Z Z (Nt Z Z Z) (B9 1 [] Z J (Bn (λw k=>?_)))));have H:=k.l4;refine gn (Zc 2 Z (k_updA 7 (v:=Aa ((1+es.length:Nat):Int)) Z (congrArg Aa U) ?_));replace H:=H.f1;refine A1 (Sep z (blk o [V g,Aa s.gen,Aa s.epoch,Aa s.pages,Aa s.start,Aa s.len,Aa s.head,Aa s.seq,Aa a,Aa q,Aa u,.bool false] 249::R)) 16 Z J (A8 H λw k=>?_);have H:=k.l4;refine BA [0,1,2,3,4,5,6,7,8,10,11] [0,0,8,0] J (λ_ hx=>(A3 (hx.blk 0 Z) AU)) (by exact H.pick 4 [0] Z) Z J Z Z (Bg 12 J Z Z J J J Z Z Z (Jt Z Z Z (r:=((256*(1+es.length):Nat):Int)) U U) (H.pick 4 [0] Z) (Bg 13 J Z Z J J J Z Z Z (A9 Z (z:=1) (p:=0) (q:=(256*(1+es.length))) (o':=0) (l':=(256*(1+es.length))) (c':=y) J Z (.inl ⟨Z,Z⟩) (.inr ⟨_,_,_,Z,Z,Z⟩) U U U U U U) (H.pick 4 [0] Z) (Ax [9] J O (Ay (BF Z Z Z Z Z Z (λw=>call186 _ w) (Hj _ _ _ _ _ _ hs a U) H Z ?_)))));rintro _ w _ ⟨rfl,rfl⟩ H;refine Aw (λ_=>(H.pick 4 [0] Z)) (Ax [14] J O (Ay (k_updA 67 (v:=Aa (((s.start+a).toNat:Nat):Int)) Z (congrArg Aa (by rw[YZ U U];omega)) (BF Z Z Z Z Z Z (λw=>call149 _ w) (GQ _ n _ U _ ((s.start+a).toNat) (1+es.length) false _ (sect (Bt s.epoch q (es.map Prod.fst))++AD s.epoch q (es.map Prod.fst)) _ (λh q=>by rw[c];exact q.rd U U (by rw[XX,X8];omega) (by rw[Yl,YR,YJ (by rw[X8];omega)])) c U U) H.f1.f3 Z ?_))));rintro _ w _ ⟨rfl,rfl⟩ H;refine Aw (λ_=>(H.pick 4 [2] Z)) (Ax [15] J O (Ay (Dp Z Z Z Z (Bq Z Z) (Aw (λh=>absurd Z h) (Bi J (gn (Z0 13 [3,0] Z (Ag Z (λh5=>U) (λh5=>?_)))))))));refine Z0 16 [4] Z (Ah Z (call189 _) (Kx _ _ _ _ _ _ hs ((1+es.length:Nat):Int) U U U U) H.f2 ?_);intro w H;refine Zc 8 Z (Zr Z ?_);exact ⟨_,⟨Z,Z⟩,H.pick 4 [0,1,3] Z⟩
theorem Sf{e q:Int}{ims:List Img}(a:∀m∈ims,m.Ok){i:Nat}{m:Img}(h:ims[i]?=some m){rest:List Value}:(((AD e q ims).map u8++rest).drop (256*i)).take (256*1)=(sect (A5 e q m)).map u8:=by
 have g:=(XU.1 h).1;have d:=a m (XW h);have b:AD e q ims=AD e q (ims.take i)++(sect (A5 e q m)++AD e q (ims.drop (i+1))):=by
  have f:ims=ims.take i++m::ims.drop (i+1):=by
   have:=YO i ims;rw[ZE g,show ims[i]=m from (XU.1 h).2] at this;exact this.symm
  have:=congrArg (AD e q) f;rw[this];simp[AD]
 have c:(AD e q (ims.take i)).length=256*i:=by rw[Dy (λx j=>a x (YH j)),X2];omega
 have k:(sect (A5 e q m)).length=256:=sect_len (YU (CI d.2.2));rw[b,Yi,X1,Aat (by rw[X8];exact c),Yi,X1,YJ (by rw[X8,k])]
set_option maxHeartbeats 4000000 in
theorem PY (pl g:Nat) (s:Sup) (a q u:Int) (n m9:Nat) (d1:n<=4096) (F:Nat->List UInt8) (hs:(0<=s.start/\s.start<=1099511627776)/\0<s.len/\s.len<=1099511627776) (b8:0<=s.epoch/\s.epoch<4294967296) (a7:0<=q/\q<1099511627776) (ims:List Img) (f:∀m∈ims,m.Ok) (hn:1<=ims.length/\ims.length<=40) (ha:0<=a/\a+1+ims.length<=s.len) (c7:s.start+s.len<=n) (o:∀(j:Nat) (m:Img),ims[j]?=some m->F (s.start+a+1+(j:Int)).toNat=sect (A5 s.epoch q m)) (nv:Value) (B:Ai) (hB:∀h,B h->rdH 1 nv ims.length ((ims.map Img.num).map Aa) h):An 188 [V pl,.agg #[Aa s.epoch,Aa q,nv,u32 (Au (AD s.epoch q ims))]] [blk pl [V g,Aa s.gen,Aa s.epoch,Aa s.pages,Aa s.start,Aa s.len,Aa s.head,Aa s.seq,Aa a,Aa q,Aa u,.bool false] 249,rdkA g n F m9,B] (λv G=>∃(v2:Value) (es:List ImE) (hq:Hp),es.map Prod.fst=ims/\(∀e∈es,imeOk hq e)/\v=.tuple #[v2,.bool true,Aa 0]/\G=[grow 118 3 v2 ims.length (Bj es),poolA hq,blk pl [V g,Aa s.gen,Aa s.epoch,Aa s.pages,Aa s.start,Aa s.len,Aa s.head,Aa s.seq,Aa a,Aa q,Aa u,.bool false] 249,rdkA g n F m9,B]):=by
 intro z R w H;obtain ⟨ao,oc,rfl⟩:=H.sy 2 (λq=>(hB _ q).slc);have b0:(AD s.epoch q ims).length=ims.length*256:=Dy f;refine Af func188 Z ntmps188 Z (Za 2 [] H Z ?_);intro b1 w H;refine Zc 12 Z ?_;replace H:=(H.nilg 5 1).l5;refine Zc 5 Z ?_;refine Aq (σ:=Nat×Value) (λ⟨i,u9⟩=>[(8,Aa (i:Int)),(7,u9),(0,V pl),(3,V b1)])
   (λ⟨i,u9⟩ w=>Sep z (grow 5 1 u9 ((AD s.epoch q (ims.take i)).length) ((AD s.epoch q (ims.take i)).map u8)::blk b1 [Aa s.epoch,Aa q,.slice ao ims.length oc,u32 (Au (AD s.epoch q ims))] 233::blk pl [V g,Aa s.gen,Aa s.epoch,Aa s.pages,Aa s.start,Aa s.len,Aa s.head,Aa s.seq,Aa a,Aa q,Aa u,.bool false] 249::rdkA g n F m9::B::R) w/\(i<=ims.length)) (λ⟨i,u9⟩=>ims.length-i) ⟨0,.slice none 0 0⟩
   (λ_ o=>(o.co Z (by go_num) o.cz)) ⟨(by simpa [AD] using H),Ye _⟩ ?_
 clear H;rintro ⟨i,u9⟩ w ⟨b,hI⟩;dsimp only at hI b ⊢;have H:=b.l5;have d0:=H.sy 0 (·.slc);have hi:=hI;clear hI;refine Z2 10 [2,1,0,0] H Z (Ag Z (λh1=>?_) (λh1=>?_))
 ·refine Zc 5 Z ?_;obtain ⟨m,c⟩:∃m,ims[i]?=some m:=⟨_,XV U⟩;have t:=f m (XW c)
  have a0:(sect (A5 s.epoch q m)).length=256:=sect_len (YU (CI t.2.2));replace H:=H.f2;refine A1 (Sep z (blk pl [V g,Aa s.gen,Aa s.epoch,Aa s.pages,Aa s.start,Aa s.len,Aa s.head,Aa s.seq,Aa a,Aa q,Aa u,.bool false] 249::R)) 19 Z J (A8 H λw b=>?_);have H:=b.l5;refine BA [0,1,2,3,4,5,6,7,8] [0,0,8,0] J (λ_ l=>(A3 (l.blk 0 Z) AU)) (by exact H.pick 5 [0] Z) Z J Z Z (Bg 9 J Z Z J J J Z Z Z (Cm Z Z Z (r:=a+1) U U) (H.pick 5 [0] Z) (BA [10] [] J (λ_ _=>AU) (by exact H.pick 5 [0] Z) Z J Z Z (Bg 11 J Z Z J J J Z Z Z (Cm Z Z Z (r:=a+1+(i:Int)) U U) (H.pick 5 [0] Z) (Ax [12] J O (Ay (BF Z Z Z Z Z Z (λw=>call186 _ w) (Hj _ _ _ _ _ _ hs (a+1+(i:Int)) U) H Z ?_))))));rintro _ w _ ⟨rfl,rfl⟩ H;refine Aw (λ_=>(H.pick 5 [0] Z)) (Ax [13] J O (Ay (k_updA 37 (v:=Aa (((s.start+a+1+(i:Int)).toNat:Nat):Int)) Z (congrArg Aa (by rw[YZ U U];omega)) (BF Z Z Z Z Z Z (λw=>call84 _ w) (HI _ _ _ _ ((s.start+a+1+(i:Int)).toNat) U) H.f3 Z ?_))));rintro _ w _ ⟨u2,rfl,rfl⟩ H;have c4:=H.sy 0 (·.slc);refine Aw (λ_=>(H.pick 6 [2] Z)) (BA [14,15,16,17] [] J (λ_ _=>AU) (by exact H.pick 6 [2] Z) Z J Z Z (Ax [18] J O (Ay (Dp Z Z Z Z (Bq Z Z) (Aw (λh=>absurd Z h) (Bi J (gn (Zc 3 Z ?_))))))));rw[o i m c] at H;refine Z0 8 [4] Z ?_;have c8:(AD s.epoch q (ims.take i)).length<=10240:=by rw[Dy (λx l=>f x (YH l)),X2];omega
  refine Zc 3 Z (AC Z (AJ 3 H Z Z J A2 Z Z (H.rv 0 (·.rd)) (by intro c9 b3;obtain ⟨b9,_,rfl⟩:=X5.1 b3;rfl) U) ?_);rintro v3 w b;have b:Sep z (grow 5 1 u2 256 ((sect (A5 s.epoch q m)).map u8)::rdkA g n F m9::blk pl [V g,Aa s.gen,Aa s.epoch,Aa s.pages,Aa s.start,Aa s.len,Aa s.head,Aa s.seq,Aa a,Aa q,Aa u,.bool false] 249::grow 5 1 v3 ((AD s.epoch q (ims.take i)).length+256) ((AD s.epoch q (ims.take i)).map u8++(sect (A5 s.epoch q m)).map u8)::blk b1 [Aa s.epoch,Aa q,.slice ao ims.length oc,u32 (Au (AD s.epoch q ims))] 233::B::R) w:=b;have a8:((AD s.epoch q (ims.take i)).map u8++(sect (A5 s.epoch q m)).map u8:List Value)=(AD s.epoch q (ims.take (i+1))).map u8:=(by rw[<-E4 c];simp);rw[a8] at b;rw[show ((AD s.epoch q (ims.take i)).length+256:Nat)=(AD s.epoch q (ims.take (i+1))).length from (by rw[<-E4 c,XX,a0])] at b;have H:=b.l6;have c0:=H.sy 3 (·.slc);refine Zc 4 Z ?_;replace H:=(H.pick 6 [1,2,3,4,5] Z).l5;refine Z1 5 [] [(i:Int)+1] Z U ?_;replace H:=H.f4.f1.f2.f4.f4;refine gf ?_;intro _ o;refine ⟨⟨i+1,v3⟩,o.cz,⟨H,?_⟩,?_⟩
  ·show i+1<=ims.length;omega
  (dsimp only;omega)
 refine Zc 2 Z (gx (Zc 4 Z ?_));obtain rfl:i=ims.length:=by omega
 rw[YN] at H;replace H:=H.f1;refine A1 (Sep z (blk b1 [Aa s.epoch,Aa q,.slice ao ims.length oc,u32 (Au (AD s.epoch q ims))] 233::R)) 5 Z J (A8 H λw b=>?_);have H:=b.l5;refine BA [0,2,3] [3,0] J (λ_ l=>(A3 (l.blk 0 Z) AU)) (by exact H.pick 5 [0] Z) Z J Z Z (Ax [1] J O (Ay (BF Z Z Z Z Z Z (λw=>call222 _ w) (LZ _ (AD s.epoch q ims) _ (λh q=>q.rd)) H.f1 Z ?_)));rintro _ w _ ⟨rfl,rfl⟩ H;refine Aw (λ_=>(H.pick 5 [1] Z)) (Ax [4] J O (Ay (Dp Z Z Z Z (Mx (k:=.u32) Z J Z Z) (Aw (λh=>absurd Z h) (Bi J (gn (Zc 1 Z (Ag Z (λh2=>?_) (λh2=>?_)))))))))
 ·exact absurd Z h2
 refine Zc 3 Z ?_;obtain ⟨gb,a2,rest,a6,c1,c2,c3,b⟩:=H.ungrow 0 Z U;subst a6;clear H;have H:=b.l5;rw[b0] at c1 c3;replace H:=((FS H).nilg 118 3).l7;refine Zc 11 Z ?_;refine Aq (σ:=Nat×Value×List ImE×Hp) (λ⟨i,v9,es,hq⟩=>[(12,Aa (i:Int)),(11,v9),(0,V pl),(3,V b1),(7,.slice (some ⟨gb,0,none⟩) ((AD s.epoch q ims).length) a2)])
   (λ⟨i,v9,es,hq⟩ w=>Sep z (grow 118 3 v9 i (Bj es)::poolA hq::blk gb ((AD s.epoch q ims).map u8++rest) 5::blk b1 [Aa s.epoch,Aa q,.slice ao ims.length oc,u32 (Au (AD s.epoch q ims))] 233::blk pl [V g,Aa s.gen,Aa s.epoch,Aa s.pages,Aa s.start,Aa s.len,Aa s.head,Aa s.seq,Aa a,Aa q,Aa u,.bool false] 249::rdkA g n F m9::B::R) w/\(i<=ims.length/\es.map Prod.fst=ims.take i/\∀e∈es,imeOk hq e)) (λ⟨i,v9,es,hq⟩=>ims.length-i) ⟨0,.slice none 0 0,[],λ_=>none⟩
   (λ_ o=>(o.co Z (by go_num) o.cz)) ⟨H,⟨Ye _,Z,λe he=>nomatch he⟩⟩ ?_
 clear H;rintro ⟨i,v9,es,hq⟩ w ⟨b,hI⟩;dsimp only at hI b ⊢;have H:=b.l7;have c5:=H.sy 0 (·.slc);obtain ⟨hi,a1,hE⟩:=hI;refine Z2 10 [2,3,0,0] H Z (Ag Z (λh3=>?_) (λh3=>?_))
 ·refine Zc 5 Z ?_;obtain ⟨m,c⟩:∃m,ims[i]?=some m:=⟨_,XV U⟩;have t:=f m (XW c)
  have a0:(sect (A5 s.epoch q m)).length=256:=sect_len (YU (CI t.2.2));refine Z1 7 [] [((256*i:Nat):Int),((256*i:Nat):Int),((256*i+256:Nat):Int)] Z U (Ae Z (A9 Z (z:=1) (p:=(256*i)) (q:=(256*i+256)) (o':=256*i) (l':=256) (c':=a2-256*i) J Z (.inr ⟨_,_,_,Z,Z,Z⟩) (.inr ⟨_,_,_,Z,Z,Z⟩) U U U U U U) (AA Z (call223 _) (Mn _ (sect (A5 s.epoch q m)) _ (λh q9=>by rw[a0];exact q9.rd U U (by rw[XX,X8];omega) (Sf f c)) _ _ b8 a7 m t Z) H.f2 ?_));rintro _ w _ ⟨bv,rfl,rfl⟩ H;have a9:=H.sy 0 (·.slc);obtain ⟨y,bc,rfl⟩:=a9;refine Za 5 [] H Z ?_;intro b4 w H;refine Z4 8 [0] H Z ?_;intro w H;have a3:=(H.rd 8 Z hB).at (j:=i) (u:=Aa m.num) (by rw[X9,X9,c];rfl);refine A4 (Sep z _) J J H.drew (EK 12 [1,2,0] (λ_ l=>(A3 (l.blk 6 Z) AU)) Z J Z (Co 83 Z (λh4=>?_) (λh4=>?_)))
  ·exact absurd Z h4
  refine EK 8 [9,0] (λ_ l=>(A3 (l.blk 6 Z) AU)) Z J Z (Co 91 Z (λh5=>?_) (λh5=>?_))
  ·exact absurd Z h5
  refine EK 5 [0,0,2,1] (λ_ l=>(A3 (l.blk 0 Z) (A3 (l.blk 5 Z) AU))) Z J Z (Bd Z Z Z (Az Z (z:=1) (j:=i) (r:=i) J Z Z Z U a3 U) (Bd Z Z Z (AS Z Z J (λ_ hs=>(hs.rd 8 Z hB).at (j:=i) (u:=Aa m.num) (by rw[X9,X9,c];rfl))) ?_));refine B9 2 [] Z J (Bn (λw b=>?_));have H:=b.l9;refine gn (Zc 1 Z (Ag Z (λh6=>?_) (λh6=>?_)))
  ·exact absurd Z h6
  refine Z2 5 [0,3] H Z (AC Z (AI H Z J AQ Z (by decide) (by decide) (out:=[Aa m.num,Aa m.kind,.slice y 240 bc]) J) ?_);rintro _ w ⟨b5,rfl,H⟩;refine AC Z (AJ 4 H Z Z J AQ Z Z (H.rv 0 (·.rd U U O Z)) (Al Z (Al Z (Al Z AK))) U) ?_;rintro v6 w b;have b:Sep z (blk b5 [Aa m.num,Aa m.kind,.slice y 240 bc] 118::blk b4 [Aa m.num,Aa m.kind,.slice y 240 bc] 118::grow 5 1 (.slice y 240 bc) 240 (m.body.map u8)::blk gb ((AD s.epoch q ims).map u8++rest) 5::grow 118 3 v6 (i+1) (Bj es++[Aa m.num,Aa m.kind,.slice y 240 bc])::poolA hq::blk b1 [Aa s.epoch,Aa q,.slice ao ims.length oc,u32 (Au (AD s.epoch q ims))] 233::blk pl [V g,Aa s.gen,Aa s.epoch,Aa s.pages,Aa s.start,Aa s.len,Aa s.head,Aa s.seq,Aa a,Aa q,Aa u,.bool false] 249::rdkA g n F m9::B::R) w:=b;have b6:(Bj es++[Aa m.num,Aa m.kind,.slice y 240 bc]:List Value)=Bj (es++[((m,.slice y 240 bc):ImE)]):=(Il es (m,.slice y 240 bc));rw[b6] at b;have H:=b.l10;have c6:=H.sy 4 (·.slc);refine Zc 4 Z ?_;replace H:=H.f2.f5;obtain ⟨a4,⟨b2,b7⟩,H⟩:=BU H (λh q=>q.rd);have a5:∀e∈es++[((m,.slice y 240 bc):ImE)],imeOk a4 e:=λe he=>by rcases Yr.1 he with q|q;exact (hE e q).le b2;rw[YD] at q;subst q;exact ⟨t,b7⟩
  refine Z1 5 [] [(i:Int)+1] Z U ?_;replace H:=H.f2.d.f1.d.f6.f6.f6.f6.f5.f5.f6;refine gf ?_;intro _ o;refine ⟨⟨i+1,v6,(es++[((m,.slice y 240 bc):ImE)]),a4⟩,o.cz,⟨H,?_⟩,?_⟩
  ·exact ⟨by show i+1<=ims.length;omega,by rw[Yi,a1,Yd,c];rfl,a5⟩
  (dsimp only;omega)
 refine Zc 2 Z (gx (Zc 11 Z (Zr Z ?_)));obtain rfl:i=ims.length:=by omega
 rw[YN] at a1;exact ⟨_,⟨_,es,hq,a1,hE,Z,Z⟩,H.pick 7 [0,1,4,5,6] Z⟩
def rOff(rs:List Rc)(i:Nat):Nat:=((rs.take i).map λr=>1+r.ims.length).sum
theorem PZ{rs:List Rc}{i:Nat}{r:Rc}(h:rs[i]?=some r):rOff rs (i+1)=rOff rs i+(1+r.ims.length):=by
 unfold rOff;rw[Yd,h];simp
theorem JZ{rs:List Rc}{i:Nat}(h:i<=rs.length):rOff rs i<=rOff rs rs.length:=by
 have:∀k,i+k<=rs.length->rOff rs i<=rOff rs (i+k):=by
  intro k
  induction k with
  | zero=>intro _;exact Yo _
  | succ k ih=>
   intro b;have c:=ih U;have a:=PZ (rs:=rs) (i:=i+k) (XV U);rw[show i+(k+1)=i+k+1 by omega,a];omega
 have:=this (rs.length-i) U;rwa[show i+(rs.length-i)=rs.length by omega] at this
set_option maxHeartbeats 8000000 in
theorem Sg (c n m9:Nat) (c6:n<=4096) (F:Nat->List UInt8) (s:Sup) (u:s.Ok (n:Int)) (hh:s.head=0) (d1:s.epoch<4294967296) (rs:List Rc) (d6:s.seq+rs.length<1099511627776) (hR:∀(i:Nat) (r:Rc),rs[i]?=some r->r.seq=s.seq+(i:Int)/\(1<=r.ims.length/\r.ims.length<=40)/\(∀m∈r.ims,m.Ok)/\F (s.start+(rOff rs i:Int)).toNat=sect (Bt s.epoch r.seq r.ims)/\∀(j:Nat) (m:Img),r.ims[j]?=some m->F (s.start+(rOff rs i:Int)+1+(j:Int)).toNat=sect (A5 s.epoch r.seq m)) (a6:(rOff rs rs.length:Int)<s.len/\F (s.start+(rOff rs rs.length:Int)).toNat=List.replicate 256 0):An 152 [V c,.agg #[Aa s.gen,Aa s.epoch,Aa s.pages,Aa s.start,Aa s.len,Aa s.head,Aa s.seq]] [rdkA c n F m9] (λv G=>∃(t:Nat) (v2:Value) (es:List RcE) (hq:Hp),es.map Prod.fst=rs/\rcesOk es hq/\v=.tuple #[V t,v2,Aa 0]/\G=[grow 116 2 v2 rs.length (DQ es),poolA hq,blk t [V c,Aa s.gen,Aa s.epoch,Aa s.pages,Aa s.start,Aa s.len,Aa s.head,Aa s.seq,Aa (rOff rs rs.length:Int),Aa (s.seq+(rs.length:Int)),Aa (rOff rs rs.length:Int),.bool false] 249,rdkA c n F m9]):=by
 intro z R w H;replace H:=H.l1;have hk:=u.2;have d0:=Sup.get u;have hs:(0<=s.start/\s.start<=1099511627776)/\0<s.len/\s.len<=1099511627776:=⟨by omega,by omega,by omega⟩;refine Af func152 Z ntmps152 Z (Za 2 [] H Z ?_);intro b1 w H;refine Z2 9 [0,7] H Z (AA Z (call155 _) (Nk _ n _ F s u) H.f1 ?_);rintro _ w _ ⟨t,rfl,rfl⟩ H;refine Zc 14 Z ?_;replace H:=((FS H).nilg 116 2).l5;refine Zc 6 Z ?_;refine Aq (σ:=Nat×Value×List RcE×Hp) (λ⟨i,v9,es,hq⟩=>[(8,v9),(0,V c),(3,V b1),(7,V t)])
   (λ⟨i,v9,es,hq⟩ w=>Sep z (grow 116 2 v9 i (DQ es)::poolA hq::blk t [V c,Aa s.gen,Aa s.epoch,Aa s.pages,Aa s.start,Aa s.len,Aa s.head,Aa s.seq,Aa (rOff rs i:Int),Aa (s.seq+(i:Int)),Aa (rOff rs i:Int),.bool false] 249::rdkA c n F m9::blk b1 [Aa s.gen,Aa s.epoch,Aa s.pages,Aa s.start,Aa s.len,Aa s.head,Aa s.seq] 92::R) w/\(i<=rs.length/\es.map Prod.fst=rs.take i/\rcesOk es hq)) (λ⟨i,v9,es,hq⟩=>rs.length-i) ⟨0,.slice none 0 0,[],λ_=>none⟩
   fr_z ⟨(by simpa [rOff,DQ,hh] using H),⟨Ye _,Z,λe b=>nomatch b⟩⟩ ?_
 clear H;rintro ⟨i,v9,es,hq⟩ w ⟨a,hI⟩;dsimp only at hI a ⊢;have H:=a.l5;have d4:=H.sy 0 (·.slc);obtain ⟨hi,a1,hE⟩:=hI;refine Zc 2 Z ?_;have c4:=JZ (rs:=rs) (i:=i) U;refine A4 (Sep z _) J J H.drew (EK 7 [10,0,4,1] (λ_ p=>(A3 (p.blk 2 Z) (A3 (p.blk 4 Z) AU))) Z J Z (Bn (λw a=>?_)));have H:=a.l5;refine gn (Zc 1 Z (Ag Z (λh1=>?_) (λh1=>?_)))
 ·refine Zc 4 Z ?_;have b8:=JZ (rs:=rs) (i:=i) U
  refine Z2 7 [8,2,0] H Z (Ah Z (call186 _) (Hj _ _ _ _ _ _ hs (rOff rs i:Int) U) H.f2 ?_);intro w H;replace H:=H.l5;refine k_updA 35 (v:=Aa (((s.start+(rOff rs i:Int)).toNat:Nat):Int)) Z (congrArg Aa (by rw[YZ U U];omega)) (AA Z (call84 _) (HI _ _ _ _ ((s.start+(rOff rs i:Int)).toNat) U) H.f3 ?_);rintro _ w _ ⟨u2,rfl,rfl⟩ H;replace H:=H.l6;have d2:=H.sy 0 (·.slc);refine Z0 18 [4] Z ?_;rcases Yg i rs.length with a9|a9
  ·obtain ⟨r,hr⟩:∃r,rs[i]?=some r:=⟨_,XV U⟩;obtain ⟨a2,a0,l,b7,a5⟩:=hR i r hr;have c9:=PZ hr
   have c8:=JZ (rs:=rs) (i:=i+1) U;rw[b7] at H;have b0:(sect (Bt s.epoch r.seq r.ims)).length=256:=sect_len (hdL_le a0.2);rw[<-a2] at H;have c0:=a5;refine Zc 2 Z (AA Z (call187 _) (N4 _ (sect (Bt s.epoch r.seq r.ims)) _ (λh q=>by rw[b0];exact q.rd) s.epoch r.seq U U r.ims a0 l Z) H ?_);rintro _ w _ ⟨pv,rfl,rfl⟩ H;replace H:=H.l7;have c2:=H.sy 0 (·.slc);obtain ⟨po,pc,rfl⟩:=c2;refine Zc 3 Z (AC Z (BL (P:=prog) H Z (zs:=[Aa 0,Aa 0,.slice none 0 0,u32 0]) J) ?_);rintro _ w ⟨b3,rfl,H⟩;replace H:=H.l8;refine Z5 15 [0,2,0,0] [1+(r.ims.length:Int)] H Z U ?_;intro w H;refine A4 (Sep z _) J J H.drew (EK 10 [0,0,1,1] (λ_ p=>(A3 (p.blk 0 Z) (A3 (p.blk 7 Z) AU))) Z J Z (Co 60 Z (λh2=>?_) (λh2=>?_)))
   ·exact absurd Z h2
   refine EK 9 [1,0,9,1] (λ_ p=>(A3 (p.blk 0 Z) (A3 (p.blk 4 Z) AU))) Z J Z (Co 69 Z (λh3=>?_) (λh3=>?_))
   ·exact absurd Z h3
   refine F9 10 [4,7,0,10,4,0,0] [s.len-(rOff rs i:Int)] Z J U (Bn (λw a=>?_));have H:=a.l8;refine gn (Zc 1 Z (Ag Z (λh4=>U) (λh4=>?_)));refine Z2 6 [0,4] H Z (AA Z (call188 _) (PY _ _ _ _ _ _ n _ c6 F hs U U r.ims l a0 U U c0 _ _ (λh q=>q.rd)) H.f1.f3.f4 ?_);rintro _ w _ ⟨iv,y,b2,a4,c1,rfl,rfl⟩ H;replace H:=H.l10;have c3:=H.sy 0 (·.slc);obtain ⟨f,g,rfl⟩:=c3;refine Z2 38 [4,9,2,0] H Z (AC Z (AI H Z J Cz Z (by decide) (by decide) (out:=[Aa r.seq,.slice f r.ims.length g]) J) ?_);rintro _ w ⟨b4,rfl,H⟩;replace H:=H.l11;refine AC Z (AJ 8 H Z Z J Cz Z Z (H.rv 0 (·.rd U U O Z)) (Al Z (Al Z AK)) U) ?_;rintro v5 w a;have a:Sep z (blk b4 [Aa r.seq,.slice f r.ims.length g] 116::grow 118 3 (.slice f r.ims.length g) r.ims.length (Bj y)::poolA b2::blk t [V c,Aa s.gen,Aa s.epoch,Aa s.pages,Aa s.start,Aa s.len,Aa s.head,Aa s.seq,Aa (rOff rs i:Int),Aa r.seq,Aa (rOff rs i:Int),.bool false] 249::rdkA c n F m9::grow 3 1 (.slice po r.ims.length pc) r.ims.length ((r.ims.map Img.num).map Aa)::blk b3 [Aa s.epoch,Aa r.seq,.slice po r.ims.length pc,u32 (Au (AD s.epoch r.seq r.ims))] 233::grow 5 1 u2 256 ((sect (Bt s.epoch r.seq r.ims)).map u8)::grow 116 2 v5 (i+1) (DQ es++[Aa r.seq,.slice f r.ims.length g])::poolA hq::blk b1 [Aa s.gen,Aa s.epoch,Aa s.pages,Aa s.start,Aa s.len,Aa s.head,Aa s.seq] 92::R) w:=a;have c5:(DQ es++[Aa r.seq,.slice f r.ims.length g]:List Value)=DQ (es++[((r,.slice f r.ims.length g):RcE)]):=(K4 es (r,.slice f r.ims.length g));rw[c5] at a;have H:=a.l11;have d5:=H.sy 8 (·.slc);refine Zc 6 Z (Ah Z (call189 _) (Kx _ _ _ _ _ _ hs (1+(r.ims.length:Int)) U U U U) H.f3 ?_);intro w H;refine Zc 1 Z ?_;replace H:=H.f3.f9;obtain ⟨d3,⟨b9,b5⟩,H⟩:=Ik H (M:=λh=>∀e∈y,imeOk h e) (λh q e b=>(c1 e b).le q) (λh h2 q s2 e b=>(q e b).le s2);replace H:=H.l10;replace H:=H.f3.f1;obtain ⟨a3,⟨a7,c7⟩,H⟩:=BU H (λh q=>q.rd);replace H:=H.l9;have a8:rcesOk (es++[((r,.slice f r.ims.length g):RcE)]) a3:=λe b=>by rcases Yr.1 b with q|q;exact (hE e q).le (λk o x=>a7 k o (b9 k o x));rw[YD] at q;subst q;exact ⟨y,a4,c7,imesOk.of (λe b=>(b5 e b).le a7)⟩
   rw[show (((rOff rs i:Int)+(1+(r.ims.length:Int)))%s.len)=(rOff rs (i+1):Int) from by rw[YZ U U];omega,show (r.seq+1)=s.seq+((i+1:Nat):Int) from by omega,show ((rOff rs i:Int)+(1+(r.ims.length:Int)))=(rOff rs (i+1):Int) from by omega] at H;refine Zc 1 Z ?_;replace H:=H.f6.d.f5.d.f4.d.f2.d.f4.f3.f3.f3.f4;refine gf ?_;intro _ hF;refine ⟨⟨i+1,v5,(es++[((r,.slice f r.ims.length g):RcE)]),a3⟩,(hF.all Z),⟨H,?_⟩,?_⟩
   ·exact ⟨by show i+1<=rs.length;omega,by rw[Yi,a1,Yd,hr];rfl,a8⟩
   (dsimp only;omega)
  obtain rfl:i=rs.length:=by omega
  rw[a6.2] at H;refine Zc 2 Z (Ah Z (call187 _) (Mq _ (List.replicate 256 0) _ (λh q=>q.rd) Z) H ?_);intro w H;refine Zc 3 Z (AC Z (BL (P:=prog) H Z (zs:=[Aa 0,Aa 0,.slice none 0 0,u32 0]) J) ?_);rintro _ w ⟨b6,rfl,H⟩;replace H:=H.l7;refine Z5 15 [0,2,0,0] [1] H Z U ?_;intro w H;refine A4 (Sep z _) J J H.drew (B9 29 [] Z J (Bn (λw a=>?_)));have H:=a.l7;refine gn (Zc 5 Z (gx (Zc 12 Z (Zr Z ?_))));rw[YN] at a1;exact ⟨_,⟨t,_,es,hq,a1,hE,Z,Z⟩,H.pick 7 [4,5,3,2] Z⟩
 (exfalso;omega)
section
def cutZ(z:Nat)(ao:Option Addr)(c p:Nat):Option Addr:=if c=p then ao else ao.map (·.add (p*z))
theorem rdH.cutZ{z:Nat}{f:Option Addr}{n c p m:Nat}{xs:List Value}{h:Hp}(r:rdH z (.slice f n c) n xs h)(v:0<z)(s:p+m<=n)(x:n<=c):rdH z (.slice (YthbbejpbkglmlaaGreatDoor.cutZ z f c p) m (c-p)) m ((xs.drop (p*z)).take (m*z)) h:=by
 obtain ⟨l,c',e,y,q2,w,q⟩:=r;cases e;have k:p*z+m*z<=n*z:=by rw[<-Nat.add_mul];exact ZD _ s
 refine ⟨_,_,Z,by omega,by omega,by simp;omega,λj u d=>?_⟩;have a:j<m*z:=by
  have:=(XU.1 d).1;simp at this;omega
 obtain ⟨b,o,rfl,t⟩:=q (p*z+j) u (by
  rw[YB,if_pos a,YQ] at d;exact d)
 have g:0<m:=Nat.pos_of_ne_zero λe=>by subst e;omega
 refine ⟨b,o+p*z,?_,by rw[Zt];exact t⟩;unfold YthbbejpbkglmlaaGreatDoor.cutZ;rw[if_neg U];simp only[Ys];unfold Addr.add;split
 ·rename_i i;simp[i]
 rfl
theorem rdH.slcapZ{z:Nat}{f:Option Addr}{n c:Nat}{xs:List Value}{h:Hp}(r:rdH z (.slice f n c) n xs h):n<=c/\c<=9223372036854775807/\xs.length=n*z:=by
 obtain ⟨a,c',e,b,g,d,i⟩:=r;cases e;exact ⟨b,g,d⟩
section
variable{P:Program}{C:World->Prop}{o:Oper}{n:Nat}{ds:List Deferred}{L:List (Nat×Value)}{x y:Operand}
theorem FI{z:Nat}{t:TypeId}{lo e:Option Operand}{g:Option Addr}{l c p q l' c':Nat}(j:o.op=.slice t x lo e none)(h:CE P t=some z)
  (s:ev L x=some (.slice g l c))(a:(lo=none/\p=0)\/∃y k i,lo=some y/\ev L y=some (.int k i)/\i=(p:Int))(b:(e=none/\q=l)\/∃y k i,e=some y/\ev L y=some (.int k i)/\i=(q:Int))(d:p<=q)(f:q<=c)
  (m:q-p=l')(r:c-p=c'):Ao P C n ds L o (.slice (cutZ z g c p) l' c'):=by
 subst m r;exact Jv j h s a b d f
end
def L3:ImE:=(⟨0,0,[]⟩,.slice none 0 0)
theorem Gq{es:List ImE}{i:Nat}(h:i<es.length):es[i]?=some (es.getD i L3):=by
 rw[List.getD_eq_getElem?_getD,XV h];rfl
theorem Fp(A B:List ImE):Bj (A++B)=Bj A++Bj B:=by simp[Bj]
theorem L4:∀(L:List ImE) (p:Nat),(Bj L).drop (p*3)=Bj (L.drop p)
 | L,0=>by simp
 | [],p+1=>by simp[Bj]
 | x::L,p+1=>by
  have e1:Bj (x::L)=Aa x.1.num::Aa x.1.kind::x.2::Bj L:=rfl;rw[e1,show (p+1)*3=p*3+1+1+1 by omega,Zh,Zh,Zh,Zh];exact L4 L p
theorem L5:∀(L:List ImE) (p:Nat),(Bj L).take (p*3)=Bj (L.take p)
 | L,0=>by simp[Bj]
 | [],p+1=>by simp[Bj]
 | x::L,p+1=>by
  have e1:Bj (x::L)=Aa x.1.num::Aa x.1.kind::x.2::Bj L:=rfl;rw[e1,show (p+1)*3=p*3+1+1+1 by omega,Zg,Zg,Zg,Zg,L5 L p];rfl
theorem UK{L:List ImE}(h:∀e∈L,e.2.oneCell'=true):∀c∈Bj L,c.oneCell'=true:=λc b=>by
 simp only[Bj,Aal] at b;obtain ⟨e,d,a⟩:=b;simp[ImE.cells] at a;rcases a with rfl|rfl|rfl
 ·rfl
 ·rfl
 exact h e d
theorem imC_sub{A B:List ImE}(h:∀e∈A,e∈B){c:Value}(a:c∈Bj A):c∈Bj B:=by
 simp only[Bj,Aal] at a ⊢;obtain ⟨e,b,d⟩:=a;exact ⟨e,h e b,d⟩
theorem rdH.cutI{a:Option Addr}{n c p m:Nat}{L:List ImE}{h:Hp}(r:rdH 3 (.slice a n c) n (Bj L) h)(b:p+m<=n)(d:n<=c):rdH 3 (.slice (YthbbejpbkglmlaaGreatDoor.cutZ 3 a c p) m (c-p)) m (Bj ((L.drop p).take m)) h:=by
 have:=r.cutZ U b d;rw[L4,L5] at this;exact this
set_option maxHeartbeats 2000000 in
theorem J0 (v:Value) (es:List ImE) (A:Ai) (n:∀h,A h->rdH 3 v es.length (Bj es) h/\∀e∈es,rdH 1 e.2 240 (e.1.body.map u8) h) (a4:∀e∈es,e.1.Ok) (hl:es.length<=1000000) (m:Img) (a:Option Addr) (b:Nat):An 153 [v,.agg #[Aa m.num,Aa m.kind,.slice a 240 b]] [A] (λv G=>∃v2:Value,v=v2/\G=[grow 118 3 v2 (BI es ((m,.slice a 240 b):ImE)).length (Bj (BI es ((m,.slice a 240 b):ImE))),A]):=by
 intro z R w H;obtain ⟨ao,oc,rfl⟩:=H.sy 0 (λq=>(n _ q).1.slc);have b4:=H.sy 0 (λq=>(n _ q).1.small);have a2:=H.sy 0 (λq=>(n _ q).1.slcapZ);have d:=H.says 0 Z (λh q=>UK (λe c=>((n h q).2 e c).slc.one));refine Af func153 Z ntmps153 Z (Za 2 [] H Z ?_);intro b1 w H;refine Zc 10 Z ?_;refine Aq (σ:=Nat) (λi=>[(5,Aa (i:Int)),(0,.slice ao es.length oc),(3,V b1),(4,.slice none 0 0)])
   (λi w=>Sep z (blk b1 [Aa m.num,Aa m.kind,.slice a 240 b] 118::A::R) w/\(i<=es.length/\∀(j:Nat) (y:ImE),j<i->es[j]?=some y->y.1.num<m.num)) (λi=>es.length-i) 0
   fr_z ⟨H,⟨Ye _,λj y h=>absurd h (Nat.not_lt_zero _)⟩⟩ ?_
 clear H;rintro i w ⟨o,x⟩;have H:=o.l2;obtain ⟨hi,x⟩:=x;refine Zc 2 Z (A4 (Sep z _) J J H.drew (IU 5 [0] [] Z J (Co 11 Z (λh1=>?_) (λh1=>?_))))
 ·have c:=Gq (es:=es) (i:=i) U
  refine B9 2 [] Z J (Bd Z Z Z (Az Z (z:=3) (j:=i) (r:=i*3) J Z Z Z U ((H.rv 1 (λq=>(n _ q).1)).at (Ba c 0 _ Z)) U) (Bd Z Z Z (CF Z (k:=0) (r:=i*3) J Z ((H.rv 1 (λq=>(n _ q).1)).at (Ba c 0 _ Z)) Z) (Bd Z Z Z (AS Z Z J (λ_ hs=>(hs.rv 1 (λq=>(n _ q).1)).at (Ba c 0 _ Z))) (EK 4 [0,0] (λ_ hx=>(A3 (hx.blk 0 Z) AU)) Z J Z (Bn (λw o=>?_))))));have H:=o.l2;refine gn (Zc 1 Z (Ag Z (λh2=>?_) (λh2=>?_)))
  ·refine Z1 9 [] [(i:Int)+1] Z U (gf ?_);intro _ hF;refine ⟨(i+1),hF.cz,⟨H,?_⟩,?_⟩
   ·exact ⟨by omega,λj y hj u=>by rcases Nat.lt_succ_iff_lt_or_eq.1 hj with q|q;exact x j y q u;subst q;have f:=c.symm.trans u;cases f;assumption⟩
   omega
  refine Zc 2 Z (gx (Zc 12 Z (Ae Z (FI (z:=3) (p:=0) (q:=i) (l':=i) (c':=oc) Z J Z (.inl ⟨Z,Z⟩) (.inr ⟨_,_,_,Z,Z,Z⟩) U U Z Z) ?_)));replace H:=(H.nilg 118 3).l3;refine AC Z (AJ 0 H Z Z J AQ Z Z (H.rv 2 (λq=>(n _ q).1.cutI U U)) (λt f=>d t (imC_sub (λe c=>YH (by rwa[Yl] at c)) f)) U) ?_;rintro v2 w o;have a0:([]++Bj ((es.drop 0).take i):List Value)=Bj (es.take i):=(by rw[Ym,Yl]);rw[a0] at o;have H:=o.l3;have a5:=H.sy 0 (·.slc);refine Z2 7 [1,3] H Z (AC Z (AI H Z J AQ Z (by decide) (by decide) (out:=[Aa m.num,Aa m.kind,.slice a 240 b]) J) ?_);rintro _ w ⟨b3,rfl,H⟩;refine AC Z (AJ 1 H Z Z J AQ Z Z (H.rv 0 (·.rd U U O Z)) (Al Z (Al Z (Al Z AK))) U) ?_;rintro v4 w H;have a9:=H.sy 1 (·.slc);refine Zc 5 Z (A4 (Sep z _) J J H.drew (IU 5 [0] [] Z J (Co 36 Z (λh3=>?_) (λh3=>?_))))
  ·have c:=Gq (es:=es) (i:=i) U
   refine B9 2 [] Z J (Bd Z Z Z (Az Z (z:=3) (j:=i) (r:=i*3) J Z Z Z U ((H.rv 3 (λq=>(n _ q).1)).at (Ba c 0 _ Z)) U) (Bd Z Z Z (CF Z (k:=0) (r:=i*3) J Z ((H.rv 3 (λq=>(n _ q).1)).at (Ba c 0 _ Z)) Z) (Bd Z Z Z (AS Z Z J (λ_ hs=>(hs.rv 3 (λq=>(n _ q).1)).at (Ba c 0 _ Z))) (EK 4 [0,0] (λ_ hx=>(A3 (hx.blk 2 Z) AU)) Z J Z (Bn (λw o=>?_))))));have H:=o.l4;refine gn (Zc 1 Z (Ag Z (λh4=>?_) (λh4=>?_)))
   ·refine Z1 11 [] [((i+1:Nat):Int)] Z U (Ae Z (FI (z:=3) (p:=(i+1)) (q:=es.length) (l':=es.length-(i+1)) (c':=oc-(i+1)) Z J Z (.inr ⟨_,_,_,Z,Z,Z⟩) (.inl ⟨Z,Z⟩) U U Z Z) (AC Z (AJ 1 H Z Z J AQ Z Z (H.rv 3 (λq=>(n _ q).1.cutI U U)) (λt f=>d t (imC_sub (λe c=>ZF (YH c)) f)) U) ?_));rintro v5 w H;have b0:=H.sy 1 (·.slc)
    refine Zc 4 Z (Zr Z ?_);have g:BI es ((m,.slice a 240 b):ImE)=es.take i++[((m,.slice a 240 b):ImE)]++es.drop (i+1):=MW ((m,.slice a 240 b):ImE) x c (by assumption);have s:(BI es ((m,.slice a 240 b):ImE)).length=0+i+1+(es.length-(i+1)):=by rw[g];simp only[XX,X2,Yv,ZT];omega
    rw[Yl,show List.take (1*3) [Aa m.num,Aa m.kind,.slice a 240 b]=[Aa m.num,Aa m.kind,.slice a 240 b] from Z,show (Bj (es.take i)++[Aa m.num,Aa m.kind,.slice a 240 b]++Bj ((es.drop (i+1)).take (es.length-(i+1))):List Value)=Bj (BI es ((m,.slice a 240 b):ImE)) from by rw[g,Fp,Fp,XZ (l:=es.drop (i+1)) (by rw[Yv];omega)];rfl,<-s] at H;exact ⟨_,⟨_,Z,Z⟩,H.pick 4 [1,3] Z⟩
   refine Zc 7 Z (Ae Z (FI (z:=3) (p:=i) (q:=es.length) (l':=es.length-i) (c':=oc-i) Z J Z (.inr ⟨_,_,_,Z,Z,Z⟩) (.inl ⟨Z,Z⟩) U U Z Z) (AC Z (AJ 1 H Z Z J AQ Z Z (H.rv 3 (λq=>(n _ q).1.cutI U U)) (λt f=>d t (imC_sub (λe c=>ZF (YH c)) f)) U) ?_));rintro v6 w H;have a7:=H.sy 1 (·.slc);refine Zc 4 Z (Zr Z ?_);have g:BI es ((m,.slice a 240 b):ImE)=es.take i++[((m,.slice a 240 b):ImE)]++es.drop i:=JN ((m,.slice a 240 b):ImE) x U (λy u=>by first|(have f:=(XU.1 u).1;omega)|(have f:=c.symm.trans u;cases f;dsimp only;omega));have s:(BI es ((m,.slice a 240 b):ImE)).length=0+i+1+(es.length-i):=by rw[g];simp only[XX,X2,Yv,ZT];omega
   rw[Yl,show List.take (1*3) [Aa m.num,Aa m.kind,.slice a 240 b]=[Aa m.num,Aa m.kind,.slice a 240 b] from Z,show (Bj (es.take i)++[Aa m.num,Aa m.kind,.slice a 240 b]++Bj ((es.drop i).take (es.length-i)):List Value)=Bj (BI es ((m,.slice a 240 b):ImE)) from by rw[g,Fp,Fp,XZ (l:=es.drop i) (by rw[Yv];omega)];rfl,<-s] at H;exact ⟨_,⟨_,Z,Z⟩,H.pick 4 [1,3] Z⟩
  exact absurd h1 h3
 refine B9 9 [] Z J (Bn (λw o=>?_));have H:=o.l2;refine gn (Zc 4 Z (gx (Zc 12 Z (Ae Z (FI (z:=3) (p:=0) (q:=i) (l':=i) (c':=oc) Z J Z (.inl ⟨Z,Z⟩) (.inr ⟨_,_,_,Z,Z,Z⟩) U U Z Z) ?_))));replace H:=(H.nilg 118 3).l3;refine AC Z (AJ 0 H Z Z J AQ Z Z (H.rv 2 (λq=>(n _ q).1.cutI U U)) (λt f=>d t (imC_sub (λe c=>YH (by rwa[Yl] at c)) f)) U) ?_;rintro v7 w o;have a1:([]++Bj ((es.drop 0).take i):List Value)=Bj (es.take i):=(by rw[Ym,Yl]);rw[a1] at o;have H:=o.l3;have b2:=H.sy 0 (·.slc);refine Z2 7 [1,3] H Z (AC Z (AI H Z J AQ Z (by decide) (by decide) (out:=[Aa m.num,Aa m.kind,.slice a 240 b]) J) ?_);rintro _ w ⟨b8,rfl,H⟩;refine AC Z (AJ 1 H Z Z J AQ Z Z (H.rv 0 (·.rd U U O Z)) (Al Z (Al Z (Al Z AK))) U) ?_;rintro v9 w H;have a6:=H.sy 1 (·.slc);refine Zc 5 Z (A4 (Sep z _) J J H.drew (IU 5 [0] [] Z J (Co 36 Z (λh5=>?_) (λh5=>?_))))
 ·exact absurd h5 h1
 refine B9 9 [] Z J (Bn (λw o=>?_));have H:=o.l4;refine gn (Zc 9 Z (Ae Z (FI (z:=3) (p:=i) (q:=es.length) (l':=es.length-i) (c':=oc-i) Z J Z (.inr ⟨_,_,_,Z,Z,Z⟩) (.inl ⟨Z,Z⟩) U U Z Z) (AC Z (AJ 1 H Z Z J AQ Z Z (H.rv 3 (λq=>(n _ q).1.cutI U U)) (λt f=>d t (imC_sub (λe c=>ZF (YH c)) f)) U) ?_)));rintro a8 w H;have a3:=H.sy 1 (·.slc);refine Zc 4 Z (Zr Z ?_);have g:BI es ((m,.slice a 240 b):ImE)=es.take i++[((m,.slice a 240 b):ImE)]++es.drop i:=JN ((m,.slice a 240 b):ImE) x U (λy u=>by first|(have f:=(XU.1 u).1;omega)|(have f:=c.symm.trans u;cases f;dsimp only;omega));have s:(BI es ((m,.slice a 240 b):ImE)).length=0+i+1+(es.length-i):=by rw[g];simp only[XX,X2,Yv,ZT];omega
 rw[Yl,show List.take (1*3) [Aa m.num,Aa m.kind,.slice a 240 b]=[Aa m.num,Aa m.kind,.slice a 240 b] from Z,show (Bj (es.take i)++[Aa m.num,Aa m.kind,.slice a 240 b]++Bj ((es.drop i).take (es.length-i)):List Value)=Bj (BI es ((m,.slice a 240 b):ImE)) from by rw[g,Fp,Fp,XZ (l:=es.drop i) (by rw[Yv];omega)];rfl,<-s] at H;exact ⟨_,⟨_,Z,Z⟩,H.pick 4 [1,3] Z⟩
end
theorem J1{m:Img}(h:m.Ok):(DU m).length=256:=C8 (EQ h)
def FJ(F:Nat->List UInt8)(es:List ImE):Nat->List UInt8:=es.foldl (λF e=>By F (2+e.1.num).toNat (DU e.1)) F
theorem Wh{F:Nat->List UInt8}{es:List ImE}{i:Nat}{e:ImE}(h:es[i]?=some e):FJ F (es.take (i+1))=By (FJ F (es.take i)) (2+e.1.num).toNat (DU e.1):=by
 unfold FJ;rw[Yd,h,Y9];rfl
theorem IG(v:Value)(es:List ImE)(A:Ai)(a:∀h,A h->rdH 3 v es.length (Bj es) h/\∀e∈es,rdH 1 e.2 240 (e.1.body.map u8) h)(m:∀e∈es,e.1.Ok)(p:Int)(c:∀e∈es,e.1.num≠p):An 83 [v,Aa p] [A] (λv G=>v=.tuple #[.agg #[Aa 0,.slice none 0 0],.bool false]/\G=[A]):=by
 intro z R w H;obtain ⟨t,x,rfl⟩:=H.sy 0 (λq=>(a _ q).1.slc);have u:=H.sy 0 (λq=>(a _ q).1.small);refine Af func83 Z ntmps83 Z (Za 2 [] H Z ?_);intro l w H;refine Zc 10 Z ?_;refine Aq (σ:=Nat) (λi=>[(6,Aa (i:Int)),(0,.slice t es.length x),(1,Aa p),(4,V l)])
   (λi w=>Sep z (blk l [Aa 0,.slice none 0 0] 40::A::R) w/\(i<=es.length)) (λi=>es.length-i) 0
   fr_z ⟨H,Ye _⟩ ?_
 clear H;rintro i w ⟨n,f⟩;have H:=n.l2;have y:=f;clear f;refine Z0 9 [0] Z (Ag Z (λs=>?_) (λs=>?_))
 ·refine Zc 5 Z ?_;have b:=Gq (es:=es) (i:=i) U
  have d:=c _ (XW b);refine Zc 3 Z (Ae Z (Az Z (z:=3) (j:=i) (r:=i*3) J Z Z Z U ((H.rv 1 (λq=>(a _ q).1)).at (Ba b 0 _ Z)) U) (Ae Z (CF Z (k:=0) (r:=i*3) J Z ((H.rv 1 (λq=>(a _ q).1)).at (Ba b 0 _ Z)) Z) (Ae Z (AS Z Z J (AB ((H.rv 1 (λq=>(a _ q).1)).at (Ba b 0 _ Z)))) (Z0 4 [0] Z (Ag Z (λg=>?_) (λg=>?_))))))
  ·exact absurd g d
  refine Z1 8 [] [(i:Int)+1] Z U (gf ?_);intro _ o;refine ⟨(i+1),o.cz,⟨H,?_⟩,?_⟩
  ·omega
  omega
 refine Zc 2 Z (gx (Z4 10 [0] H Z ?_));intro w H;refine Zl [0,2] H Z ?_;exact ⟨_,⟨Z,Z⟩,H.pick 2 [1] Z⟩
set_option maxHeartbeats 4000000 in
theorem P0 (ps d:Nat) (x:Sup) (lp ov:Value) (un:Bool) (n t:Nat) (a3:t<=900000000) (a6:n<=4096) (F:Nat->List UInt8) (s:Sup) (y:s.Ok (n:Int)) (v:Value) (es:List ImE) (A:Ai) (b:∀h,A h->rdH 3 v es.length (Bj es) h/\∀e∈es,rdH 1 e.2 240 (e.1.body.map u8) h) (p:∀e∈es,e.1.Ok) (a4:es.length<=1000000) (a2:∀e∈es,e.1.num+2<n):An 154 [V ps,.agg #[Aa s.gen,Aa s.epoch,Aa s.pages,Aa s.start,Aa s.len,Aa s.head,Aa s.seq]] [blk ps [V d,Aa x.gen,Aa x.epoch,Aa x.pages,Aa x.start,Aa x.len,Aa x.head,Aa x.seq,lp,v,.bool un,ov] 128,rdkA d n F t,A] (λv G=>v=Aa 0/\G=[blk ps [V d,Aa s.gen,Aa s.epoch,Aa s.pages,Aa s.start,Aa s.len,Aa s.head,Aa s.seq,lp,.slice none 0 0,.bool un,ov] 128,rdkA d n (By (FJ F es) (s.gen%2).toNat (Br s)) (t+es.length+1),A]):=by
 intro z R w H;obtain ⟨ao,oc,rfl⟩:=H.sy 2 (λq=>(b _ q).1.slc);refine Af func154 Z ntmps154 Z (Za 2 [] H Z ?_);intro b1 w H;refine Zc 10 Z ?_;refine Aq (σ:=Nat) (λi=>[(5,Aa (i:Int)),(0,V ps),(3,V b1)])
   (λi w=>Sep z (blk b1 [Aa s.gen,Aa s.epoch,Aa s.pages,Aa s.start,Aa s.len,Aa s.head,Aa s.seq] 92::blk ps [V d,Aa x.gen,Aa x.epoch,Aa x.pages,Aa x.start,Aa x.len,Aa x.head,Aa x.seq,lp,.slice ao es.length oc,.bool un,ov] 128::rdkA d n (FJ F (es.take i)) (t+i)::A::R) w/\(i<=es.length)) (λi=>es.length-i) 0
   fr_z ⟨(by simpa [FJ] using H),Ye _⟩ ?_
 clear H;rintro i w ⟨o,hI⟩;have H:=o.l4;have hi:=hI;clear hI;refine Z2 12 [9,1,0,0] H Z (Ag Z (λh1=>?_) (λh1=>?_))
 ·refine Zc 5 Z ?_;have a:=Gq (es:=es) (i:=i) U
  have f:=p _ (XW a);obtain ⟨bo,bc,c⟩:Slc (es.getD i L3).2 240:=H.sy 3 (λq=>((b _ q).2 _ (XW a)).slc);have l:=f.1;have g:=a2 _ (XW a);have a1:=XW a;obtain ⟨⟨m,bv⟩,a0⟩:∃e:ImE,es.getD i L3=e:=⟨_,Z⟩;rw[a0] at a f c g a1 l;dsimp only at c f g l;subst c;refine Z2 6 [9,1,0] H Z (Ae Z (Az Z (z:=3) (j:=i) (r:=i*3) J Z Z Z U ((H.rv 3 (λq=>(b _ q).1)).at (Ba a 0 _ Z)) U) (Ae Z (B7 Z Z (vs:=[Aa m.num,Aa m.kind,.slice bo 240 bc]) J O (AB (λk u hk=>(H.rv 3 (λq=>(b _ q).1)).at (Ba a k u hk)))) (AA Z (call143 _) (Fh m f _ _ (λh q=>(b h q).2 _ (XW a))) H.f3 ?_)));rintro _ w _ ⟨u2,rfl,rfl⟩ H;have a5:=H.sy 0 (·.slc);refine Zc 8 Z (Bo 14 J J (A8 H λw o=>?_));have H:=o.l5;refine Vi 9 [0,0,9,0] (A3 (H.blk 3 Z) AU) Z J Z (B3 Z Z Z (Az Z (z:=3) (j:=i) (r:=i*3) J Z Z Z U ((H.rv 1 (λq=>(b _ q).1)).at (Ba a 0 _ Z)) U) (B3 Z Z Z (CF Z (k:=0) (r:=i*3) J Z ((H.rv 1 (λq=>(b _ q).1)).at (Ba a 0 _ Z)) Z) (B3 Z Z Z (AS Z Z J (AB ((H.rv 1 (λq=>(b _ q).1)).at (u:=Aa m.num) (Ba a 0 _ Z)))) (CC 2 [] [2+m.num] H Z J U (Ce (gw (k_updA 42 (v:=Aa (((2+m.num).toNat:Nat):Int)) Z (congrArg Aa U) (Ah Z (call149 _) (GQ _ n _ U _ ((2+m.num).toNat) 1 false _ (DU m) _ (λh q=>q.rd) (J1 f) U U) H.f4 ?_))))))));intro w H;rw[RJ _ _ (J1 f)] at H;refine Z0 13 [4] Z ?_;replace H:=(H.pick 5 [0,2,3,4] Z).l4;rw[<-Wh a] at H;refine Z1 5 [] [(i:Int)+1] Z U ?_;replace H:=H.f1.f1.f3.f3;refine gf ?_;intro _ hF;refine ⟨(i+1),hF.cz,⟨H,?_⟩,?_⟩
  ·omega
  omega
 refine Zc 2 Z (gx (Zc 3 Z ?_));obtain rfl:i=es.length:=by omega
 rw[YN] at H;refine Z2 5 [0,1,0] H Z (Ah Z (call113 _) (IF _ _ _ _) H.f2 ?_);intro w H;refine Z0 14 [4] Z (Bo 5 J J (A8 H λw o=>?_));have H:=o.l4;refine Xp 5 [0,2,0,1,7] [] H Z J (Ce (gw (Ah Z (call150 _) (JY _ _ _ U _ s y) H ?_)));intro w H;refine Z4 36 [4,1,7,1,2,9,2] H Z ?_;intro w H;refine Zr Z ?_;exact ⟨_,⟨Z,Z⟩,H.pick 4 [2,0,3] Z⟩
def imP(v:Value)(es:List ImE)(hq:Hp):Prop:=rdH 3 v es.length (Bj es) hq/\∀e∈es,imeOk hq e
theorem imP.le{v:Value}{es:List ImE}{hq a:Hp}(h:imP v es hq)(s:BC hq a):imP v es a:=⟨h.1.le s,λe b=>(h.2 e b).le s⟩
theorem imP.slc{v:Value}{es:List ImE}{hq:Hp}(h:imP v es hq):Slc v es.length:=h.1.slc
theorem imP.rdA{v:Value}{es:List ImE}{hq h:Hp}(i:imP v es hq)(q:poolA hq h):rdH 3 v es.length (Bj es) h/\∀e∈es,rdH 1 e.2 240 (e.1.body.map u8) h:=⟨i.1.le q,λe a=>(i.2 e a).2.le q⟩
theorem imP.nil(hq:Hp):imP (.slice none 0 0) [] hq:=⟨⟨none,0,Z,by simp,by omega,Z,λj u h=>by simp[Bj] at h⟩,λe a=>nomatch a⟩
theorem imP.put{v b:Value}{es:List ImE}{x:ImE}{hq a:Hp}(h:imP v es hq)(s:BC hq a)(c:imeOk hq x)(r:rdH 3 b (BI es x).length (Bj (BI es x)) a):imP b (BI es x) a:=
 ⟨r,λe d=>by
  rcases putI_mem d with q|q
  ·subst q;exact c.le s
  exact (h.2 e q).le s⟩
theorem P1(ps a:Nat)(x:Sup)(b:Value)(c ov:Value):An 90 [V ps] [blk ps [V a,Aa x.gen,Aa x.epoch,Aa x.pages,Aa x.start,Aa x.len,Aa x.head,Aa x.seq,b,c,.bool false,ov] 128] (λv G=>v=Aa 0/\G=[blk ps [V a,Aa x.gen,Aa x.epoch,Aa x.pages,Aa x.start,Aa x.len,Aa x.head,Aa x.seq,b,c,.bool true,.slice none 0 0] 128]):=by
 intro z R w H;refine Af func90 Z ntmps90 Z (Z4 39 [10,0,0,10,0,11,0] H Z ?_);intro w H;refine Zr Z ?_;exact ⟨_,⟨Z,Z⟩,H.pick 1 [0] Z⟩
theorem P2(ps a:Nat)(x:Sup)(b:Value)(c ov:Value)(d:Bool):An 67 [V ps] [blk ps [V a,Aa x.gen,Aa x.epoch,Aa x.pages,Aa x.start,Aa x.len,Aa x.head,Aa x.seq,b,c,.bool d,ov] 128] (λv G=>v=.tuple #[]/\G=[blk ps [V a,Aa x.gen,Aa x.epoch,Aa x.pages,Aa x.start,Aa x.len,Aa x.head,Aa x.seq,b,c,.bool false,.slice none 0 0] 128]):=by
 intro z R w H;refine Af func67 Z ntmps67 Z (Z4 14 [10,0,11,0] H Z ?_);intro w H;refine Zf Z ?_;exact ⟨_,⟨Z,Z⟩,H.pick 1 [0] Z⟩
theorem Sh(ps a:Nat)(x:Sup)(b:Value)(d ov:Value)(n c:Nat)(F:Nat->List UInt8):An 59 [V ps] [blk ps [V a,Aa x.gen,Aa x.epoch,Aa x.pages,Aa x.start,Aa x.len,Aa x.head,Aa x.seq,b,d,.bool false,ov] 128,rdkA a n F c] (λv G=>v=Aa 0/\G=[blk ps [V a,Aa x.gen,Aa x.epoch,Aa x.pages,Aa x.start,Aa x.len,Aa x.head,Aa x.seq,b,d,.bool false,ov] 128,rdkA a n F c]):=by
 intro z R w H;refine Af func59 Z ntmps59 Z (Z2 23 [10,0,0,0,0,0] H Z (Ah Z (call113 _) (IF _ _ _ _) H.f1 ?_));intro w H;refine Zc 4 Z (Zr Z ?_);exact ⟨_,⟨Z,Z⟩,H.pick 2 [1,0] Z⟩
set_option maxHeartbeats 4000000 in
theorem Ky (ps pr:Nat) (x:Sup) (u:Value) (t ov:Value) (own:List ImE) (hq:Hp) (p:imP ov own hq) (b0:own.length<40) (m:Img) (hm:m.Ok) (b4:m.num<x.pages) (y:∀e∈own,e.1.num≠m.num) (bv:Value) (B:Ai) (hB:∀h,B h->rdH 1 bv 240 (m.body.map u8) h):An 92 [V ps,Aa m.num,.agg #[Aa m.kind,bv]] [blk ps [V pr,Aa x.gen,Aa x.epoch,Aa x.pages,Aa x.start,Aa x.len,Aa x.head,Aa x.seq,u,t,.bool true,ov] 128,poolA hq,B] (λv G=>∃(l a0:Value) (g:Hp),BC hq g/\imP l (BI own (m,a0)) g/\v=Aa 0/\G=[blk ps [V pr,Aa x.gen,Aa x.epoch,Aa x.pages,Aa x.start,Aa x.len,Aa x.head,Aa x.seq,u,t,.bool true,l] 128,poolA g,B]):=by
 intro z R w H;obtain ⟨oo,a6,rfl⟩:=p.slc;obtain ⟨bo,bc,rfl⟩:=H.sy 2 (λq=>(hB _ q).slc);have b3:=hm.1;have a9:=hm.2.1;refine Af func92 Z ntmps92 Z (Za 2 [] H Z ?_);intro b1 w H;refine Z2 22 [10,1,0,0] H Z (Am 17 Z (λh1=>U) (λh1=>?_));refine Z2 10 [1,3,1,0,0] H Z (Ag Z (λh2=>U) (λh2=>?_));refine Z2 9 [0,0,0,0] H Z (Am 29 Z (λh3=>U) (λh3=>?_));refine Z2 5 [0,0,0,0] H Z (Am 34 Z (λh4=>U) (λh4=>?_));refine Z2 17 [1,0,0,4,11,1,0] H Z (Ah Z (call83 _) (IG _ own (poolA hq) (λh q=>p.rdA q) (λe he=>(p.2 e he).1) m.num y) H.f2 ?_);intro w H;refine Za 3 [] H Z ?_;intro b2 w H;refine Z4 19 [0,11,3,0,0] H Z ?_;intro w H;refine Ag Z (λh5=>U) (λh5=>?_);refine Z2 12 [1,2,0] H Z ?_;replace H:=(H.nilg 5 1).l6;refine AC Z (AJ 0 H Z Z J A2 Z Z (H.rd 5 Z hB) (by intro c9 a5;obtain ⟨b9,_,rfl⟩:=X5.1 a5;rfl) U) ?_;rintro v3 w r;have a2:([]++m.body.map u8:List Value)=m.body.map u8:=(by rw[Ym]);rw[a2] at r;have H:=r.l6;have a1:=H.sy 0 (·.slc);refine Zc 4 Z ?_;obtain ⟨d,c,rfl⟩:=a1;replace H:=H.f2;obtain ⟨n,⟨a,a7⟩,H⟩:=BU H (λh q=>q.rd);have i:=p.le a;have a3:imeOk n ((m,.slice d 240 c):ImE):=⟨hm,a7⟩;replace H:=H.f2.f3;refine A1 (Sep z (blk ps [V pr,Aa x.gen,Aa x.epoch,Aa x.pages,Aa x.start,Aa x.len,Aa x.head,Aa x.seq,u,t,.bool true,.slice oo own.length a6] 128::blk b1 [Aa m.kind,.slice bo 240 bc] 40::R)) 15 Z J (A8 H λw r=>?_);have H:=r.l5;refine BA [0,1,2,3,4,5,6,7,8] [11,0,0,1] J (λ_ hx=>(A3 (hx.blk 0 Z) (A3 (hx.blk 1 Z) AU))) (by exact H.pick 5 [0,1] Z) Z J Z Z (Bg 9 J Z Z J J J Z Z Z (AR Z Z (out:=[Aa m.kind,.slice d 240 c]) J) (H.pick 5 [0,1] Z) (Bg 10 J Z Z J J J Z Z Z (AR Z Z (out:=[Aa m.num,Aa m.kind,.slice d 240 c]) J) (H.pick 5 [0,1] Z) (Ax [11] J O (Ay (BF Z Z Z Z Z Z (λw=>call153 _ w) (J0 _ own (poolA n) (λh q=>i.rdA q) (λe he=>(i.2 e he).1) U m _ _) H.f2 Z ?_)))));rintro a8 w _ ⟨_,rfl,rfl⟩ H;have f:=H.sy 0 (·.slc);refine Aw (λ_=>(H.pick 6 [2,3] Z)) (BA [12,13] [11] J (λ_ _=>AU) (by exact H.pick 6 [2,3] Z) Z J Z Z (Ax [14] J O (Ay (Cy Z Z Z (SO 2 H Z Z Z Z f.cells f.one J) ?_))));rintro w H;refine Aw (λh=>absurd Z h) (Bi J (gn ?_));replace H:=H.f1;obtain ⟨j,⟨b,s⟩,H⟩:=BU H (λh q=>q.rd);have a4:imP a8 (BI own ((m,.slice d 240 c):ImE)) j:=imP.put i b a3 s;refine Zc 7 Z (Zr Z ?_);exact ⟨_,⟨_,_,j,λk o e=>b k o (a k o e),a4,Z,Z⟩,H.pick 5 [1,0,4] Z⟩
def F4(es:List ImE)(l:List ImE):List ImE:=l.foldl BI es
theorem P3{es l:List ImE}{i:Nat}{e:ImE}(h:l[i]?=some e):F4 es (l.take (i+1))=BI (F4 es (l.take i)) e:=by
 unfold F4;rw[Yd,h,Y9];rfl
set_option maxHeartbeats 1000000 in
theorem N5 (ps s pl:Nat) (x:Sup) (pv ov:Value) (a q u:Int) (own d:List ImE) (hq:Hp) (hO:imP ov own hq) (hI:imP pv d hq) (n m9:Nat) (b5:m9<=900000000) (b0:n<=4096) (F:Nat->List UInt8) (a6:(0<=x.start/\x.start<=1099511627776)/\0<x.len/\x.len<=1099511627776) (b7:0<=x.epoch/\x.epoch<4294967296) (b4:0<=q/\q<1099511627776) (hn:1<=own.length/\own.length<=40) (b1:d.length<=100000) (a3:∀(j i:Nat) (e f:ImE),j<i->own[j]?=some e->own[i]?=some f->e.1.num≠f.1.num) (ha:0<=a/\a+1+own.length<=x.len) (hu:0<=u/\u+1+own.length<=x.len) (b6:x.start+x.len<=n):An 97 [V ps] [blk ps [V s,Aa x.gen,Aa x.epoch,Aa x.pages,Aa x.start,Aa x.len,Aa x.head,Aa x.seq,V pl,pv,.bool true,ov] 128,blk pl [V s,Aa x.gen,Aa x.epoch,Aa x.pages,Aa x.start,Aa x.len,Aa x.head,Aa x.seq,Aa a,Aa q,Aa u,.bool false] 249,rdkA s n F m9,poolA hq] (λv G=>∃(c:Value) (b:Hp),BC hq b/\imP c (F4 d own) b/\v=Aa 0/\G=[blk ps [V s,Aa x.gen,Aa x.epoch,Aa x.pages,Aa x.start,Aa x.len,Aa x.head,Aa x.seq,V pl,c,.bool false,.slice none 0 0] 128,blk pl [V s,Aa x.gen,Aa x.epoch,Aa x.pages,Aa x.start,Aa x.len,Aa x.head,Aa x.seq,Aa ((a+((1+own.length:Nat):Int))%x.len),Aa (q+1),Aa (u+((1+own.length:Nat):Int)),.bool false] 249,rdkA s n (E6 F (x.start+a).toNat (sect (Bt x.epoch q (own.map Prod.fst))++AD x.epoch q (own.map Prod.fst)) (1+own.length)) (m9+(1+own.length)),poolA b]):=by
 intro z R w H;obtain ⟨oo,a5,rfl⟩:=hO.slc;refine Af func97 Z ntmps97 Z (Z2 30 [10,0,0,11,0,0] H Z (Ah Z (call67 _) (P2 _ _ _ _ _ _ _) H ?_));intro w H;refine Z0 10 [0] Z (Ag Z (λh1=>U) (λh1=>?_));refine Z2 9 [8,0,0] H Z (Ah Z (call161 _) (PX _ _ _ _ _ _ n _ U b0 _ a6 U U _ own (poolA hq) (λh q=>hO.rdA q) (λe p=>(hO.2 e p).1) U a3 U U U) H.f3.f3.f3 ?_);intro w H;refine Z0 30 [4,4] Z ?_;refine Aq (σ:=Nat×Value×Hp) (λ⟨i,c,b⟩=>[(5,Aa (i:Int)),(0,V ps),(2,Aa 0),(3,.slice oo own.length a5)])
   (λ⟨i,c,b⟩ w=>Sep z (blk pl [V s,Aa x.gen,Aa x.epoch,Aa x.pages,Aa x.start,Aa x.len,Aa x.head,Aa x.seq,Aa ((a+((1+own.length:Nat):Int))%x.len),Aa (q+1),Aa (u+((1+own.length:Nat):Int)),.bool false] 249::rdkA s n (E6 F (x.start+a).toNat (sect (Bt x.epoch q (own.map Prod.fst))++AD x.epoch q (own.map Prod.fst)) (1+own.length)) (m9+(1+own.length))::poolA b::blk ps [V s,Aa x.gen,Aa x.epoch,Aa x.pages,Aa x.start,Aa x.len,Aa x.head,Aa x.seq,V pl,c,.bool false,.slice none 0 0] 128::R) w/\(i<=own.length/\BC hq b/\imP c (F4 d (own.take i)) b/\(F4 d (own.take i)).length<=100000+i)) (λ⟨i,c,b⟩=>own.length-i) ⟨0,pv,hq⟩
   fr_z ⟨H,⟨Ye _,λk o e=>e,hI,by simpa [F4] using b1⟩⟩ ?_
 clear H;rintro ⟨i,c,b⟩ w ⟨H',hI⟩;dsimp only at hI H' ⊢;have H:=H'.l4;obtain ⟨hi,a0,g,b3⟩:=hI;refine Z0 9 [0] Z (Ag Z (λh2=>?_) (λh2=>?_))
 ·refine Zc 4 Z ?_;have p:=Gq (es:=own) (i:=i) U
  have a1:=hO.le a0;have a2:=a1.2 _ (XW p);obtain ⟨bo,bc,y⟩:Slc (own.getD i L3).2 240:=by have h9:=a2.2.slc;exact h9
  obtain ⟨⟨m,bv⟩,a8⟩:∃e:ImE,own.getD i L3=e:=⟨_,Z⟩;rw[a8] at p a2 y;dsimp only at y;subst y;obtain ⟨po,b2,rfl⟩:=g.slc;replace H:=H.f2.f3;refine A1 (Sep z (blk ps [V s,Aa x.gen,Aa x.epoch,Aa x.pages,Aa x.start,Aa x.len,Aa x.head,Aa x.seq,V pl,.slice po ((F4 d (own.take i)).length) b2,.bool false,.slice none 0 0] 128::poolA b::R)) 13 Z J (A8 H λw H'=>?_);have H:=H'.l4;refine BA [0,1,2,3,4,5,6] [9,0] J (λ_ hx=>(A3 (hx.blk 0 Z) AU)) (by exact H.pick 4 [0,1] Z) Z J Z Z (Bg 7 J Z Z J J J Z Z Z (Az Z (z:=3) (j:=i) (r:=i*3) J Z Z Z U ((H.rv 1 (λq=>(a1.rdA q).1)).at (Ba p 0 _ Z)) U) (H.pick 4 [0,1] Z) (Bg 8 J Z Z J J J Z Z Z (B7 Z Z (vs:=[Aa m.num,Aa m.kind,.slice bo 240 bc]) J O (λ_ hs k u hk=>(hs.rv 1 (λq=>(a1.rdA q).1)).at (Ba p k u hk))) (H.pick 4 [0,1] Z) (Ax [9] J O (Ay (BF Z Z Z Z Z Z (λw=>call153 _ w) (J0 _ (F4 d (own.take i)) (poolA b) (λh q=>g.rdA q) (λe p=>(g.2 e p).1) U m _ _) H.f1 Z ?_)))));rintro a4 w _ ⟨_,rfl,rfl⟩ H;have t:=H.sy 0 (·.slc);refine Aw (λ_=>(H.pick 5 [2,1] Z)) (BA [10,11] [9] J (λ_ _=>AU) (by exact H.pick 5 [2,1] Z) Z J Z Z (Ax [12] J O (Ay (Cy Z Z Z (Qu 2 H Z Z Z Z t.cells t.one J) ?_))));rintro w H;refine Aw (λh=>absurd Z h) (Bi J (gn ?_));replace H:=H.f1;obtain ⟨b,⟨l,a7⟩,H⟩:=BU H (λh q=>q.rd);have a9:imP a4 (BI (F4 d (own.take i)) ((m,.slice bo 240 bc):ImE)) b:=imP.put g l a2 a7;refine Z1 7 [] [(i:Int)+1] Z U ?_;replace H:=H.f1.f1.f3.f3;refine gf ?_;intro _ hF;refine ⟨⟨i+1,a4,b⟩,hF.cz,⟨H,?_⟩,?_⟩
  ·exact ⟨by show i+1<=own.length;omega,λk o e=>l k o (a0 k o e),by rw[P3 p];exact a9,by rw[P3 p];exact AaU (putI_len _ _) U⟩
  (dsimp only;omega)
 refine Zc 2 Z (gx (Zc 8 Z (Zr Z ?_)));rw[show own.take i=own from XZ U] at g;exact ⟨_,⟨c,b,a0,g,Z,Z⟩,H.pick 4 [3,0,1,2] Z⟩
theorem P4(i:Nat)(z:List UInt8):By (λ_=>z) i z=λ_=>z:=by funext k;unfold By;split<;>rfl
set_option maxHeartbeats 1000000 in
theorem P5 (e n f a:Nat) (t:f<=900000000) (j:n<=4096) (s l:Int) (c:(Bk (a:Int) s l 2).Ok (n:Int)):An 88 [V e,Aa (a:Int),Aa s,Aa l] [rdkA e n (λ_=>(List.replicate 256 (0:UInt8))) f] (λv G=>v=Aa 0/\G=[rdkA e n (By (By (λ_=>(List.replicate 256 (0:UInt8))) 1 (Br (Bk (a:Int) s l 1))) 0 (Br (Bk (a:Int) s l 2))) (f+a+2)]):=by
 intro z R w H;have b:=LB c;have r:=RB c;refine Af func88 Z ntmps88 Z (Zc 10 Z (Ae Z (AR Z Z (out:=[Aa 1,Aa 1,Aa (a:Int),Aa s,Aa l,Aa 0,Aa 1]) J) (Za 0 [] H Z ?_)));intro g w H;refine Z4 4 [0] H Z ?_;intro w H;replace H:=H.f1;obtain ⟨lv,rows,hq,i,d⟩:=H.rk;clear H;have y:=i.1;have j:=i.2.1;have H:=d.l5;have m:=H.sy 1 (·.slc);obtain ⟨lo,u,rfl⟩:=m;replace H:=H.f4;refine A1 (Sep z (blk g [Aa 1,Aa 1,Aa (a:Int),Aa s,Aa l,Aa 0,Aa 1] 92::blk e [.slice lo n u,Aa 0,Aa 0,Aa 0,Aa 0,Aa (-1)] 133::R)) 5 Z J (A8 H λw d=>?_);have H:=d.l5;refine Bg 0 J Z Z J J J Z Z Z (Bz Z Z (vs:=[Aa 1,Aa 1,Aa (a:Int),Aa s,Aa l,Aa 0,Aa 1]) J (λ_ hx=>(hx.blk 0 Z).part 0 7 _ Z)) (H.pick 5 [0,1] Z) (BA [1] [] J (λ_ _=>AU) (by exact H.pick 5 [0,1] Z) Z J Z Z (Ax [2] J O (Ay (BF Z Z Z Z Z Z (λw=>call148 _ w) (UH _ _ _ _ U) H.f1 Z ?_))));rintro _ w _ ⟨rfl,rfl⟩ H;refine Aw (λ_=>(H.pick 5 [1,0] Z)) (Ax [3] J O (Ay (BF Z Z Z Z Z Z (λw=>call147 _ w) (FH (Bk (a:Int) s l 1) n b U) H Z ?_)));rintro _ w _ ⟨rfl,rfl⟩ H;refine Aw (λ_=>(H.pick 5 [1,0] Z)) (Ax [4] J O (Ay (Dp Z Z Z Z (Bq Z Z) (Aw (λh=>absurd Z h) (Bi J (gn (Zc 3 Z ?_)))))));have d:Sep z (rdkA e n (λ_=>(List.replicate 256 (0:UInt8))) f::blk g [Aa 1,Aa 1,Aa (a:Int),Aa s,Aa l,Aa 0,Aa 1] 92::R) w:=(H.pick 5 [0,2,3,4,1] Z).toRk i;clear H;have H:=d.l2;refine Z0 15 [4] Z ?_;refine Aq (σ:=Nat) (λp=>[(11,Aa (p:Int)),(0,V e),(1,Aa (a:Int)),(9,V g),(10,Aa 0)])
   (λp w=>Sep z (rdkA e n (λ_=>(List.replicate 256 (0:UInt8))) (f+p)::blk g [Aa 1,Aa 1,Aa (a:Int),Aa s,Aa l,Aa 0,Aa 1] 92::R) w/\(p<=a)) (λp=>a-p) 0
   fr_z ⟨H,Ye _⟩ ?_
 clear H;rintro p w ⟨d,o⟩;have H:=d.l2;have hp:=o;clear o;refine Z0 8 [0] Z (Ag Z (λh1=>?_) (λh1=>?_))
 ·refine Z1 9 [] [((2+p:Nat):Int)] Z U (AC Z (C5 (k:=256) H Z J A2 Z Z Z U) ?_);rintro _ w ⟨b2,rfl,H⟩;refine Ah Z (call149 _) (GQ _ n _ U _ (2+p) 1 false _ (List.replicate 256 (0:UInt8)) _ (λh q=>by rw[X4];exact q.rd U U O (by simp[u8])) O U U) H.f1 ?_;intro w H;rw[RJ _ _ O,P4] at H;refine Zc 4 Z ?_;replace H:=(H.pick 3 [0,2] Z).l2
  refine Z1 14 [4] [(p:Int)+1] Z U (gf ?_);intro _ x;refine ⟨(p+1),x.cz,⟨H,?_⟩,?_⟩
  ·omega
  omega
 refine Zc 2 Z (gx (Zc 3 Z ?_));obtain rfl:p=a:=by omega
 refine Zc 2 Z (Ah Z (call113 _) (IF _ _ _ _) H ?_);intro w H;refine Z2 17 [4,1,7] H Z (Ah Z (call150 _) (JY _ _ _ U _ (Bk (p:Int) s l 1) b) H ?_);intro w H;refine Z4 23 [4,0,1,1,7] H Z ?_;intro w H;refine Ah Z (call150 _) (JY _ _ _ U _ (Bk (p:Int) s l 2) c) H ?_;intro w H;refine Zc 4 Z (Zr Z ?_);exact ⟨_,⟨Z,Z⟩,H.pick 2 [0] Z⟩
theorem Nl{y:Sup}{n:Int}(h:y.Ok n)(b:y.gen<1099511627776)(d:y.epoch<1099511627776):(BG y).Ok n:=by
 have c:=h.2;have a:=Sup.get h;exact Sup.ok_mk (by show 0<=y.gen+1/\y.gen+1<=_;omega) (by show 0<=y.epoch+1/\y.epoch+1<=_;omega) (by show 16<=y.pages/\y.pages<=1024;omega) (by show 2+y.pages<=y.start/\y.start<=_;omega) (by show 64<=y.len/\y.len<=_;omega) (by show (0:Int)<=0/\(0:Int)<y.len;omega) (by show (0:Int)<=1/\(1:Int)<=_;omega) (by show y.start<=n-y.len/\y.len<=n;omega)
def Fc:List Img->Img->List Img
 | [],x=>[x]
 | y::l,x=>if y.num<x.num then y::Fc l x else if y.num=x.num then x::l else x::y::l
def Dm(l xs:List Img):List Img:=xs.foldl Fc l
theorem IH(x:ImE):∀es:List ImE,(BI es x).map Prod.fst=Fc (es.map Prod.fst) x.1
 | []=>rfl
 | y::l=>by
  simp only[BI,Fc,Yn];split
  ·rw[Yn,IH x l]
  split<;>rfl
theorem Kz(l a b:List Img):Dm l (a++b)=Dm (Dm l a) b:=Y9 ..
theorem putD_mem{x e:Img}:∀{es:List Img},e∈Fc es x->e=x\/e∈es
 | [],h=>by simp[Fc] at h;exact .inl h
 | y::l,h=>by
  simp only[Fc] at h;split at h
  ·rcases YL.1 h with q|q
   ·exact .inr (by simp[q])
   rcases putD_mem q with r|r
   ·exact .inl r
   exact .inr (Zo _ r)
  split at h
  ·rcases YL.1 h with q|q
   ·exact .inl q
   exact .inr (Zo _ q)
  rcases YL.1 h with q|q
  ·exact .inl q
  exact .inr q
theorem putDs_mem{e:Img}:∀{xs l:List Img},e∈Dm l xs->e∈l\/e∈xs
 | [],_,h=>.inl h
 | x::xs,l,h=>by
  rcases putDs_mem (xs:=xs) (l:=Fc l x) h with q|q
  ·rcases putD_mem q with r|r
   ·exact .inr (by simp[r])
   exact .inl r
  exact .inr (Zo _ q)
theorem putDs_snoc(l a:List Img)(x:Img):Dm l (a++[x])=Fc (Dm l a) x:=by rw[Kz];rfl
set_option maxHeartbeats 1000000 in
theorem L6 (f n m9:Nat) (e7:m9<=900000000) (c6:n<=4096) (F:Nat->List UInt8) (x0 x1 y:Sup) (d4:F 0=Br x0) (d1:F 1=Br x1) (d5:x0.Ok (n:Int)) (d9:x1.Ok (n:Int)) (g0:x0.gen%2=0) (g1:x1.gen%2=1) (hy:(x0.gen<x1.gen/\y=x1)\/(x1.gen<=x0.gen/\y=x0)) (d6:2<=n) (hh:y.head=0) (d3:y.gen<1099511627776) (d2:y.epoch<4294967296) (rs:List Rc) (e8:rs.length<=1000) (c2:∀r∈rs,∀m∈r.ims,m.num+2<(n:Int)) (e2:y.seq+rs.length<1099511627776) (hR:∀(i:Nat) (r:Rc),rs[i]?=some r->r.seq=y.seq+(i:Int)/\(1<=r.ims.length/\r.ims.length<=40)/\(∀m∈r.ims,m.Ok)/\F (y.start+(rOff rs i:Int)).toNat=sect (Bt y.epoch r.seq r.ims)/\∀(j:Nat) (m:Img),r.ims[j]?=some m->F (y.start+(rOff rs i:Int)+1+(j:Int)).toNat=sect (A5 y.epoch r.seq m)) (c5:(rOff rs rs.length:Int)<y.len/\F (y.start+(rOff rs rs.length:Int)).toNat=List.replicate 256 0):An 89 [V f] [rdkA f n F m9] (λv G=>∃(ps pl:Nat) (a8:List ImE),a8.map Prod.fst=Dm [] (rs.flatMap Rc.ims)/\(∀e∈a8,e.1.Ok)/\v=.tuple #[V ps,Aa 0]/\G=[blk ps [V f,Aa ((BG y).gen),Aa ((BG y).epoch),Aa ((BG y).pages),Aa ((BG y).start),Aa ((BG y).len),Aa ((BG y).head),Aa ((BG y).seq),V pl,.slice none 0 0,.bool false,.slice none 0 0] 128,blk pl [V f,Aa ((BG y).gen),Aa ((BG y).epoch),Aa ((BG y).pages),Aa ((BG y).start),Aa ((BG y).len),Aa ((BG y).head),Aa ((BG y).seq),Aa 0,Aa 1,Aa 0,.bool false] 249,rdkA f n (By (FJ F a8) ((BG y).gen%2).toNat (Br (BG y))) (m9+a8.length+1)]):=by
 intro z R w H;have a4:y.Ok (n:Int):=by rcases hy with ⟨_,rfl⟩|⟨_,rfl⟩<;>assumption
 have e6:=a4.2;have e5:=Sup.get a4;refine Af func89 Z ntmps89 Z (Zc 9 Z (Ah Z (call151 _) (UI _ _ _ F x0 x1 y d4 d1 d5 d9 g0 g1 hy d6) H ?_));intro w H;refine Za 3 [] H Z ?_;intro b1 w H;refine Z4 18 [0,4,0,7] H Z ?_;intro w H;refine AA Z (call152 _) (Sg _ n _ c6 F y a4 hh d2 rs e2 hR c5) H.f1 ?_;rintro _ w _ ⟨b4,rv,es,hq,c7,hE,rfl,rfl⟩ H;have d0:=H.sy 0 (·.slc);obtain ⟨ro,l,rfl⟩:=d0;refine Z2 26 [4,0,4,0,0] H Z (Am 32 Z (λh1=>U) (λh1=>?_));refine Z2 6 [1,4,0,0] H Z (Ag Z (λh2=>U) (λh2=>?_));refine Zc 5 Z (Ae Z (AR Z Z (out:=[V f,Aa 0,Aa 0,Aa 0,Aa 0,Aa 0,Aa 0,Aa 0,.pointer none,.slice none 0 0,.bool false,.slice none 0 0]) J) (Za 0 [] H Z ?_));intro b2 w H;refine Zc 5 Z ?_;have c9:=imP.nil hq;have e3:es.length=rs.length:=by rw[<-c7,X8]
 refine Zc 5 Z ?_;refine Aq (σ:=Nat×Value×List ImE×Hp) (λ⟨i,p,b,d⟩=>[(9,Aa (i:Int)),(0,V f),(2,.pointer none),(3,Aa 0),(4,V b1),(5,Aa 0),(7,.slice ro rs.length l),(8,V b2)])
   (λ⟨i,p,b,d⟩ w=>Sep z (blk b2 [V f,Aa 0,Aa 0,Aa 0,Aa 0,Aa 0,Aa 0,Aa 0,.pointer none,p,.bool false,.slice none 0 0] 128::grow 116 2 (.slice ro rs.length l) rs.length (DQ es)::poolA d::blk b4 [V f,Aa y.gen,Aa y.epoch,Aa y.pages,Aa y.start,Aa y.len,Aa y.head,Aa y.seq,Aa (rOff rs rs.length:Int),Aa (y.seq+(rs.length:Int)),Aa (rOff rs rs.length:Int),.bool false] 249::rdkA f n F m9::blk b1 [Aa y.gen,Aa y.epoch,Aa y.pages,Aa y.start,Aa y.len,Aa y.head,Aa y.seq] 92::R) w/\(i<=rs.length/\BC hq d/\imP p b d/\b.map Prod.fst=Dm [] ((rs.take i).flatMap Rc.ims)/\b.length<=40*i)) (λ⟨i,p,b,d⟩=>rs.length-i) ⟨0,.slice none 0 0,[],hq⟩
   fr_z ⟨H,⟨Ye _,λk o e=>e,c9,Z,by simp⟩⟩ ?_
 clear H;rintro ⟨i,p,b,d⟩ w ⟨H',hI⟩;dsimp only at hI H' ⊢;have H:=H'.l6;obtain ⟨hi,d7,a2,a6,f7⟩:=hI;refine Z0 9 [0] Z (Ag Z (λh3=>?_) (λh3=>?_))
 ·refine Zc 5 Z ?_;obtain ⟨⟨r,f6⟩,g⟩:∃e:RcE,es[i]?=some e:=⟨_,XV U⟩;have hr:rs[i]?=some r:=by rw[<-c7,X9,g];rfl
  obtain ⟨_,f8,b8,_⟩:=hR i r hr;obtain ⟨c4,b5,t,b3⟩:=hE _ (XW g);dsimp only at b5 t b3;obtain ⟨io,ic,rfl⟩:=t.slc;have e4:c4.length=r.ims.length:=by rw[<-b5,X8]
  refine Zc 5 Z ?_;refine Aq (σ:=Nat×Value×List ImE×Hp) (λ⟨j,x,a,c⟩=>[(10,Aa (j:Int)),(0,V f),(2,.pointer none),(3,Aa 0),(4,V b1),(5,Aa 0),(7,.slice ro rs.length l),(8,V b2),(9,Aa (i:Int)),(40,Aa (i:Int)),(41,.slice ro rs.length l),(42,Aa (rs.length:Int)),(43,.bool (decide ((i:Int)<(rs.length:Int))))])
    (λ⟨j,x,a,c⟩ w=>Sep z (blk b2 [V f,Aa 0,Aa 0,Aa 0,Aa 0,Aa 0,Aa 0,Aa 0,.pointer none,x,.bool false,.slice none 0 0] 128::grow 116 2 (.slice ro rs.length l) rs.length (DQ es)::poolA c::blk b4 [V f,Aa y.gen,Aa y.epoch,Aa y.pages,Aa y.start,Aa y.len,Aa y.head,Aa y.seq,Aa (rOff rs rs.length:Int),Aa (y.seq+(rs.length:Int)),Aa (rOff rs rs.length:Int),.bool false] 249::rdkA f n F m9::blk b1 [Aa y.gen,Aa y.epoch,Aa y.pages,Aa y.start,Aa y.len,Aa y.head,Aa y.seq] 92::R) w/\(j<=r.ims.length/\BC hq c/\imP x a c/\a.map Prod.fst=Dm (Dm [] ((rs.take i).flatMap Rc.ims)) (r.ims.take j)/\a.length<=40*i+j)) (λ⟨j,x,a,c⟩=>r.ims.length-j) ⟨0,p,b,d⟩
    fr_z ⟨H,⟨Ye _,d7,a2,by rw[a6];rfl,by omega⟩⟩ ?_
  clear H;rintro ⟨j,x,a,c⟩ w ⟨H',hI⟩;dsimp only at hI H' ⊢;have H:=H'.l6;obtain ⟨hj,a3,a1,b6,e9⟩:=hI;refine Zc 6 Z (Ae Z (Az Z (z:=2) (j:=i) (r:=i*2) J Z Z Z U ((H.rv 1 (·.rd)).at (DF g 0 _ Z)) U) (Ae Z (CF Z (k:=1) (r:=i*2+1) J Z ((H.rv 1 (·.rd)).at (DF g 0 _ Z)) Z) (Ae Z (AS Z Z J (AB ((H.rv 1 (·.rd)).at (DF g 1 _ Z)))) (Z0 4 [0] Z (Ag Z (λh4=>?_) (λh4=>?_))))))
  ·refine Zc 4 Z ?_;obtain ⟨⟨m,bv⟩,a5⟩:∃e:ImE,c4[j]?=some e:=⟨_,XV U⟩;have c1:r.ims[j]?=some m:=by rw[<-b5,X9,a5];rfl
   have c3:=b8 m (XW c1);have a7:=b3 _ (XW a5);dsimp only at a7;rw[c3.2.2] at a7;obtain ⟨bo,bc,rfl⟩:Slc bv 240:=a7.slc;have e0:imeOk c ((m,.slice bo 240 bc):ImE):=⟨c3,a7.le a3⟩;obtain ⟨po,c8,rfl⟩:=a1.slc;replace H:=H.f1.f2.f2;refine A1 (Sep z (blk b2 [V f,Aa 0,Aa 0,Aa 0,Aa 0,Aa 0,Aa 0,Aa 0,.pointer none,.slice po a.length c8,.bool false,.slice none 0 0] 128::poolA c::grow 116 2 (.slice ro rs.length l) rs.length (DQ es)::R)) 17 Z J (A8 H λw H'=>?_);have H:=H'.l6;refine BA [0,1,2,3,4,5,6] [9,0] J (λ_ hx=>(A3 (hx.blk 0 Z) AU)) (by exact H.pick 6 [0,1,2] Z) Z J Z Z (Bg 7 J Z Z J J J Z Z Z (Az Z (z:=2) (j:=i) (r:=i*2) J Z Z Z U ((H.rv 2 (·.rd)).at (DF g 0 _ Z)) U) (H.pick 6 [0,1,2] Z) (Bg 8 J Z Z J J J Z Z Z (CF Z (k:=1) (r:=i*2+1) J Z ((H.rv 2 (·.rd)).at (DF g 0 _ Z)) Z) (H.pick 6 [0,1,2] Z) (Bg 9 J Z Z J J J Z Z Z (AS Z Z J (λ_ hs=>(hs.rv 2 (·.rd)).at (DF g 1 _ Z))) (H.pick 6 [0,1,2] Z) (BA [10] [] J (λ_ _=>AU) (by exact H.pick 6 [0,1,2] Z) Z J Z Z (Bg 11 J Z Z J J J Z Z Z (Az Z (z:=3) (j:=j) (r:=j*3) J Z Z Z U ((H.rv 1 (λq=>(t.le a3).le q)).at (Ba a5 0 _ Z)) U) (H.pick 6 [0,1,2] Z) (Bg 12 J Z Z J J J Z Z Z (B7 Z Z (vs:=[Aa m.num,Aa m.kind,.slice bo 240 bc]) J O (λ_ hs k u hk=>(hs.rv 1 (λq=>(t.le a3).le q)).at (Ba a5 k u hk))) (H.pick 6 [0,1,2] Z) (Ax [13] J O (Ay (BF Z Z Z Z Z Z (λw=>call153 _ w) (J0 _ a (poolA c) (λh q=>a1.rdA q) (λe g=>(a1.2 e g).1) U m _ _) H.f1 Z ?_)))))))));rintro b9 w _ ⟨_,rfl,rfl⟩ H;have a9:=H.sy 0 (·.slc);refine Aw (λ_=>(H.pick 7 [2,1,3] Z)) (BA [14,15] [9] J (λ_ _=>AU) (by exact H.pick 7 [2,1,3] Z) Z J Z Z (Ax [16] J O (Ay (Cy Z Z Z (Qu 2 H Z Z Z Z a9.cells a9.one J) ?_))));rintro w H;refine Aw (λh=>absurd Z h) (Bi J (gn ?_));replace H:=H.f1;obtain ⟨b7,⟨a0,d8⟩,H⟩:=BU H (λh q=>q.rd);have e1:imP b9 (BI a ((m,.slice bo 240 bc):ImE)) b7:=imP.put a1 a0 e0 d8;refine Z1 7 [] [(j:Int)+1] Z U ?_;replace H:=H.f5.f5.f5.f3.f5.f5;refine gf ?_;intro _ hF;refine ⟨⟨j+1,b9,BI a ((m,.slice bo 240 bc):ImE),b7⟩,hF.cz,⟨H,?_⟩,?_⟩
   ·exact ⟨by show j+1<=r.ims.length;omega,λk o e=>a0 k o (a3 k o e),e1,by rw[IH,b6,Yd,c1];exact (putDs_snoc _ _ _).symm,AaU (putI_len _ _) U⟩
   (dsimp only;omega)
  refine Zc 2 Z (gx (Z1 8 [] [(i:Int)+1] Z U (gf ?_)));intro _ hF;refine ⟨⟨i+1,x,a,c⟩,hF.cz,⟨H,?_⟩,?_⟩
  ·exact ⟨by show i+1<=rs.length;omega,a3,a1,by rw[Yd,hr];simp only[Option.toList_some,List.flatMap_append,List.flatMap_singleton];rw[Kz,b6,show r.ims.take j=r.ims from XZ U],by show a.length<=40*(i+1);omega⟩
  (dsimp only;omega)
 refine Zc 2 Z (gx (Z5 33 [0,5,0,0,5,1,5,0,1,5,5,5,6,5] [y.gen+1,y.epoch+1] H Z U ?_));intro w H;obtain rfl:i=rs.length:=by omega
 obtain ⟨s,hs⟩:∃s:Sup,s=BG y:=⟨_,Z⟩;have b0:s.Ok (n:Int):=by rw[hs];exact Nl a4 d3 U
 have f0:s.pages=y.pages:=by rw[hs];rfl
 have H':Sep z (blk b2 [V f,Aa 0,Aa 0,Aa 0,Aa 0,Aa 0,Aa 0,Aa 0,.pointer none,p,.bool false,.slice none 0 0] 128::grow 116 2 (.slice ro rs.length l) rs.length (DQ es)::poolA d::blk b4 [V f,Aa y.gen,Aa y.epoch,Aa y.pages,Aa y.start,Aa y.len,Aa y.head,Aa y.seq,Aa (rOff rs rs.length:Int),Aa (y.seq+(rs.length:Int)),Aa (rOff rs rs.length:Int),.bool false] 249::rdkA f n F m9::blk b1 [Aa s.gen,Aa s.epoch,Aa s.pages,Aa s.start,Aa s.len,Aa s.head,Aa s.seq] 92::R) w:=by rw[hs];exact H
 clear H;have H:=H'.l6;have c0:∀e∈b,e.1.num+2<(n:Int):=λe g=>by have h1:e.1∈Dm [] ((rs.take rs.length).flatMap Rc.ims):=a6▸YM g;rcases putDs_mem h1 with q|q;exact nomatch q;obtain ⟨r,hr,hm⟩:=Aal.1 q;exact c2 r (YH hr) e.1 hm
 obtain ⟨po,c8,rfl⟩:=a2.slc;refine Z2 3 [5,7] H Z (Ah Z (call154 _) (P0 _ _ (Sup.mk 0 0 0 0 0 0 0) _ _ _ n _ U c6 F s b0 _ b (poolA d) (λh q=>a2.rdA q) (λe g=>(a2.2 e g).1) U c0) H.f2.f4.f2 ?_);intro w H;refine Z2 18 [4,5,7] H Z (AA Z (call155 _) (Nk _ n _ _ s b0) H.f1 ?_);rintro _ w _ ⟨pl,rfl,rfl⟩ H;refine Z4 13 [8,2] H Z ?_;intro w H;refine Zr Z ?_;subst hs;rw[YN] at a6;exact ⟨_,⟨b2,pl,b,a6,λe g=>(a2.2 e g).1,Z,Z⟩,H.pick 7 [2,0,1] Z⟩
def J2(F:Nat->List UInt8)(ims:List Img):Nat->List UInt8:=ims.foldl (λF m=>By F (2+m.num).toNat (DU m)) F
theorem Wi(F:Nat->List UInt8)(es:List ImE):FJ F es=J2 F (es.map Prod.fst):=by
 unfold FJ J2;rw[List.foldl_map]
theorem putQ_off{i:Nat}:∀{ims:List Img} {F:Nat->List UInt8},(∀m∈ims,(2+m.num).toNat≠i)->J2 F ims i=F i
 | [],_,_=>rfl
 | m::l,F,h=>by
  show J2 (By F _ _) l i=F i;rw[putQ_off (λx hx=>h x (Zo _ hx)),upf_other _ _ (ZB (h m O))]
theorem Nm{m:Img}:∀{ims:List Img} {F:Nat->List UInt8},(∀x∈ims,0<=x.num)->(ims.map Img.num).Nodup->m∈ims->J2 F ims (2+m.num).toNat=DU m
 | [],_,_,_,hm=>nomatch hm
 | x::l,F,h0,hd,hm=>by
  show J2 (By F _ _) l _=_;simp only[Yn,Zd] at hd;rcases YL.1 hm with rfl|hm
  ·rw[putQ_off (λy hy e=>hd.1 (by have h1:=h0 y (by simp[hy]);have h2:=h0 m O;rw[show m.num=y.num by omega];exact YM hy)),CW]
  exact Nm (λy hy=>h0 y (by simp[hy])) hd.2 hm
theorem II{x:Img}:∀{l:List Img},(∀y∈l,y.num<x.num)->Fc l x=l++[x]
 | [],_=>rfl
 | y::l,h=>by
  simp only[Fc];rw[if_pos (h y O),II (λz hz=>h z (by simp[hz]))];rfl
theorem L7:∀{xs l:List Img},(l++xs).Pairwise (λa b=>a.num<b.num)->Dm l xs=l++xs
 | [],l,_=>by simp[Dm]
 | x::xs,l,h=>by
  show Dm (Fc l x) xs=_;have h1:∀y∈l,y.num<x.num:=λy c=>(List.pairwise_append.1 h).2.2 y c x O;rw[II h1,L7 (by rwa[X1,ZU]),X1,ZU]

def IJ(e q:Int)(ims:List Img):List (List UInt8):=sect (Bt e q ims)::ims.map λm=>sect (A5 e q m)
theorem P6(e q:Int)(ims:List Img):sect (Bt e q ims)++AD e q ims=(IJ e q ims).flatten:=by simp[IJ,AD,List.flatMap]
theorem L8(e q:Int)(ims:List Img):(IJ e q ims).length=1+ims.length:=by simp[IJ];omega
theorem Si{e q:Int}{ims:List Img}(b:ims.length<=40)(a:∀m∈ims,m.Ok):∀s∈IJ e q ims,s.length=256:=λs hs=>by
 rcases YL.1 hs with rfl|hs
 ·exact sect_len (hdL_le b)
 obtain ⟨m,c,rfl⟩:=X5.1 hs;exact sect_len (YU (CI (a m c).2.2))
theorem Wj{F:Nat->List UInt8}{a:Nat}{e q:Int}{ims:List Img}(c:ims.length<=40)(b:∀m∈ims,m.Ok):E6 F a (sect (Bt e q ims)++AD e q ims) (1+ims.length)=Hf F a (IJ e q ims):=by
 rw[<-L8 e q ims];exact Ui (P6 e q ims) (Si c b)

def P7(C:Nat->Nat)(n:Nat)(cb:List UInt8):Nat->Img
 | 0=>⟨((0:Nat):Int),1,cb⟩
 | i+1=>⟨((i+1:Nat):Int),2,EF (B8 C n i)⟩
theorem Cu(C:Nat->Nat)(n:Nat)(cb:List UInt8)(i:Nat):(P7 C n cb i).num=(i:Int):=by cases i<;>rfl
theorem Hk{C:Nat->Nat}{n:Nat}{cb:List UInt8}(a:cb.length=240){i:Nat}(b:i<=1023):(P7 C n cb i).Ok:=by
 cases i with
 | zero=>exact ⟨by show 0<=((0:Nat):Int)/\((0:Nat):Int)<=1023;omega,by show 1<=(1:Int)/\(1:Int)<=5;omega,a⟩
 | succ i=>exact ⟨by show 0<=((i+1:Nat):Int)/\((i+1:Nat):Int)<=1023;omega,by show 1<=(2:Int)/\(2:Int)<=5;omega,Gn (Db _ _ _)⟩
abbrev FK(n:Nat)(cb:List UInt8)(i:Nat):Img:=P7 (C1 (manyN n+1)) n cb i
def Ci(n:Nat)(cb:List UInt8)(k:Nat):List Img:=(List.range k).map (FK n cb)
theorem DC(n:Nat)(cb:List UInt8)(k:Nat):(Ci n cb k).length=k:=by simp[Ci]
theorem UL(n:Nat)(cb:List UInt8)(k:Nat):Ci n cb (k+1)=Ci n cb k++[FK n cb k]:=by simp[Ci,ZN]
theorem Es{n:Nat}{cb:List UInt8}{k:Nat}{m:Img}(h:m∈Ci n cb k):∃i,i<k/\m=FK n cb i:=by
 obtain ⟨i,a,rfl⟩:=X5.1 h;exact ⟨i,Y2.1 a,Z⟩
theorem IK(n:Nat)(cb:List UInt8)(k:Nat):(Ci n cb k).Pairwise (λa b=>a.num<b.num):=by
 unfold Ci;rw[Zb];exact List.pairwise_lt_range.imp λh=>by rw[Cu,Cu];omega
theorem Sj{l:List Img}(h:l.Pairwise (λa b=>a.num<b.num)):(l.map Img.num).Nodup:=by
 unfold List.Nodup;rw[Zb];exact h.imp λh=>by omega
theorem Wk{l:List ImE}(h:(l.map Prod.fst).Pairwise (λa b=>a.num<b.num)):∀(j i:Nat) (e f:ImE),j<i->l[j]?=some e->l[i]?=some f->e.1.num≠f.1.num:=λj i e f c o d=>by
 rw[Zb,List.pairwise_iff_getElem] at h;obtain ⟨m,k⟩:=XU.1 o;obtain ⟨n,g⟩:=XU.1 d;have:=h j i m n c;rw[k,g] at this;omega

def Jo(n:Nat)(s l:Int):Nat->List UInt8:=By (By (λ_=>List.replicate 256 0) 1 (Br (Bk (n:Int) s l 1))) 0 (Br (Bk (n:Int) s l 2))
def Bf(n:Nat)(s l:Int):Sup:=BG (Bk (n:Int) s l 2)
def HY(n:Nat)(s l:Int):Nat->List UInt8:=By (Jo n s l) 1 (Br (Bf n s l))
def EH(n:Nat)(s l:Int)(cb:List UInt8):Nat->List UInt8:=Hf (HY n s l) s.toNat (IJ 2 1 (Ci n cb (manyN n+1)))
def Dq(n:Nat)(cb:List UInt8):List Rc:=[⟨1,Ci n cb (manyN n+1)⟩]
theorem Wl{n:Nat}{s l:Int}{d:Int}(h:(Bk (n:Int) s l 2).Ok d):(Bf n s l).Ok d:=Nl h (by show (2:Int)<_;omega) (by show (1:Int)<_;omega)
theorem Ta(n:Nat)(s l:Int):Jo n s l 0=Br (Bk (n:Int) s l 2):=CW _ _ _
theorem WZ(n:Nat)(s l:Int):Jo n s l 1=Br (Bk (n:Int) s l 1):=by unfold Jo;rw[upf_other _ _ U,CW]
theorem Nn(n:Nat)(s l:Int){i:Nat}(h:2<=i):Jo n s l i=List.replicate 256 0:=by unfold Jo;rw[upf_other _ _ U,upf_other _ _ U]
theorem W0(n:Nat){s:Int}(l:Int)(cb:List UInt8)(hs:2<=s):EH n s l cb 0=Br (Bk (n:Int) s l 2):=by
 unfold EH;rw[Iw (.inl U)];unfold HY;rw[upf_other _ _ U];exact Ta n s l
theorem W3(n:Nat){s:Int}(l:Int)(cb:List UInt8)(hs:2<=s):EH n s l cb 1=Br (Bf n s l):=by
 unfold EH;rw[Iw (.inl U)];unfold HY;rw[CW]
theorem UM(n:Nat){s:Int}(l:Int)(cb:List UInt8)(hs:2<=s):EH n s l cb (s+((1+(manyN n+1):Nat):Int)).toNat=List.replicate 256 0:=by
 unfold EH;rw[Iw (.inr (by rw[L8,DC];omega))];unfold HY;rw[upf_other _ _ U];exact Nn n s l U
theorem Wm(n:Nat){s:Int}(l:Int)(cb:List UInt8)(hs:2<=s):EH n s l cb s.toNat=sect (Bt 2 1 (Ci n cb (manyN n+1))):=MX (j:=0) Z
theorem Wn(n:Nat){s:Int}(l:Int)(cb:List UInt8)(hs:2<=s){j:Nat}{m:Img}(h:(Ci n cb (manyN n+1))[j]?=some m):EH n s l cb (s.toNat+(j+1))=sect (A5 2 1 m):=MX (by
 show (sect _::_)[j+1]?=_;rw[Yq,X9,h];rfl)
theorem W4{n:Nat}{s l:Int}{cb:List UInt8}(f:cb.length=240)(c:n<=1024)(hs:2<=s):∀(i:Nat) (r:Rc),(Dq n cb)[i]?=some r->r.seq=(Bf n s l).seq+(i:Int)/\(1<=r.ims.length/\r.ims.length<=40)/\(∀m∈r.ims,m.Ok)/\EH n s l cb ((Bf n s l).start+(rOff (Dq n cb) i:Int)).toNat=sect (Bt (Bf n s l).epoch r.seq r.ims)/\∀(j:Nat) (m:Img),r.ims[j]?=some m->EH n s l cb ((Bf n s l).start+(rOff (Dq n cb) i:Int)+1+(j:Int)).toNat=sect (A5 (Bf n s l).epoch r.seq m):=λi r h=>by
 have b:i=0:=by have:=(XU.1 h).1;simp[Dq] at this;exact this
 subst b;have d:(⟨1,Ci n cb (manyN n+1)⟩:Rc)=r:=by simpa [Dq] using h
 subst d;have g:=Ee c;refine ⟨Z,⟨by dsimp only;rw[DC];omega,by dsimp only;rw[DC];omega⟩,λm a=>?_,?_,λj m e=>?_⟩
 ·obtain ⟨i,b,rfl⟩:=Es a;exact Hk f U
 ·show EH n s l cb (s+((0:Nat):Int)).toNat=_
  rw[show s+((0:Nat):Int)=s by omega];exact Wm n l cb hs
 show EH n s l cb (s+((0:Nat):Int)+1+(j:Int)).toNat=_;rw[show (s+((0:Nat):Int)+1+(j:Int)).toNat=s.toNat+(j+1) by omega];exact Wn n l cb hs e
theorem UN{n:Nat}{s l:Int}{cb:List UInt8}(a:n<=1024)(hs:2<=s)(c:64<=l):(rOff (Dq n cb) (Dq n cb).length:Int)<(Bf n s l).len/\EH n s l cb ((Bf n s l).start+(rOff (Dq n cb) (Dq n cb).length:Int)).toNat=List.replicate 256 0:=by
 have b:=Ee a;have e:rOff (Dq n cb) (Dq n cb).length=1+(manyN n+1):=by simp[rOff,Dq,DC]
 rw[e];exact ⟨by show _<l;omega,UM n l cb hs⟩
theorem UO{n:Nat}{s l:Int}{cb:List UInt8}{a:List ImE}(h:a.map Prod.fst=Dm [] ((Dq n cb).flatMap Rc.ims)){g:Nat}(c:g<=1)(x:List UInt8){i:Nat}(d:i<=manyN n):By (FJ (EH n s l cb) a) g x (2+i)=DU (FK n cb i):=by
 have e:(Dq n cb).flatMap Rc.ims=Ci n cb (manyN n+1):=by simp[Dq]
 rw[e,L7 (by rw[Ym];exact IK _ _ _),Ym] at h;rw[upf_other _ _ U,Wi,h];have:=Nm (F:=EH n s l cb) (m:=FK n cb i) (λx b=>by obtain ⟨j,_,rfl⟩:=Es b;rw[Cu];omega) (Sj (IK n cb (manyN n+1))) (X5.2 ⟨i,Y2.2 U,Z⟩);rwa[Cu,show (2+(i:Int)).toNat=2+i by omega] at this

theorem Wo(n:Nat)(s l:Int):By (FJ (Jo n s l) []) ((BG (Bk (n:Int) s l 2)).gen%2).toNat (Br (BG (Bk (n:Int) s l 2)))=HY n s l:=rfl
theorem W5{n:Nat}{cb:List UInt8}{own:List ImE}{k:Nat}(h:own.map Prod.fst=Ci n cb k):∀e∈own,e.1.num≠(FK n cb k).num:=λe c=>by
 have b:e.1∈Ci n cb k:=h▸YM c;obtain ⟨i,d,a⟩:=Es b;rw[a,Cu,Cu];omega
theorem P8{n:Nat}{cb:List UInt8}{own:List ImE}{k:Nat}(h:own.map Prod.fst=Ci n cb k)(a:Value):(BI own (FK n cb k,a)).map Prod.fst=Ci n cb (k+1):=by
 rw[IH,h,II,<-UL];intro y b;obtain ⟨i,c,rfl⟩:=Es b;rw[Cu,Cu];omega
theorem KA{n:Nat}{cb:List UInt8}{own:List ImE}{k:Nat}(h:own.map Prod.fst=Ci n cb k):own.length=k:=by
 rw[<-X8 (f:=Prod.fst),h,DC]
theorem Wp{n:Nat}{s l:Int}{cb:List UInt8}{own:List ImE}(e:cb.length=240)(c:n<=1024)(h:own.map Prod.fst=Ci n cb (manyN n+1)):E6 (HY n s l) ((Bf n s l).start+0).toNat (sect (Bt (Bf n s l).epoch 1 (own.map Prod.fst))++AD (Bf n s l).epoch 1 (own.map Prod.fst)) (1+own.length)=EH n s l cb:=by
 have f:=Ee c;have d:=KA h;have a:own.length=(Ci n cb (manyN n+1)).length:=by rw[d,DC]
 rw[h,show (Bf n s l).start+0=s from AaS _,a];rw[Wj (by rw[DC];omega) (λm b=>by obtain ⟨i,g,rfl⟩:=Es b;exact Hk e U)];rfl
theorem Sk{n:Nat}{s l:Int}(hs:2<=s)(a:64<=l):(rOff ([]:List Rc) ([]:List Rc).length:Int)<(Bk (n:Int) s l 2).len/\Jo n s l ((Bk (n:Int) s l 2).start+(rOff ([]:List Rc) ([]:List Rc).length:Int)).toNat=List.replicate 256 0:=by
 have e:rOff ([]:List Rc) ([]:List Rc).length=0:=rfl;rw[e];exact ⟨by show ((0:Nat):Int)<l;omega,Nn n s l (by show 2<=(s+((0:Nat):Int)).toNat;omega)⟩
theorem UP{n:Nat}{cb:List UInt8}(b:n<=1024){d:Int}(f:12<=d):∀r∈Dq n cb,∀m∈r.ims,m.num+2<d:=λr c m a=>by
 have g:=Ee b;rw[show r=⟨1,Ci n cb (manyN n+1)⟩ from YD.1 c] at a;obtain ⟨i,e,rfl⟩:=Es a;rw[Cu];omega
theorem Sl(C:Nat->Nat)(n j:Nat):cnL (DB (LC C (j+1)) j (B8 C n j) 120) n=cnL (LC C (j+1+1)) n:=by
 rw[ZS j 1];exact Nf C n j
theorem Gr(n:Nat)(h:16<=n/\n<=1024):An 94 [Aa (n:Int)] [] (λv G=>v=Aa (manyN n:Int)/\G=[]):=by
 intro z R w H;have b:manyN n=(n+119)/120:=rfl;refine Af func94 Z ntmps94 Z (Z0 11 [0] Z (Am 6 Z (λd=>U) (λd=>?_)));refine Z0 5 [0] Z (Ag Z (λg=>U) (λg=>?_));refine Zc 9 Z ?_;refine Aq (σ:=Nat) (λi=>[(3,Aa (i:Int)),(0,Aa (n:Int)),(2,Aa 0)])
   (λi w=>Sep z (R) w/\(i<=manyN n)) (λi=>manyN n-i) 0
   fr_z ⟨H,Ye _⟩ ?_
 clear H;rintro i w ⟨c,a⟩;have H:=c.l0;have j:=a;clear a;refine Z1 9 [0] [(i:Int)*120] Z U (Ag Z (λe=>?_) (λe=>?_))
 ·refine Z1 9 [] [(i:Int)+1] Z U (gf ?_);intro _ f;refine ⟨(i+1),f.cz,⟨H,?_⟩,?_⟩
  ·omega
  omega
 obtain rfl:i=manyN n:=by omega
 refine Zc 2 Z (gx (Zc 9 Z (Zr Z ?_)));exact ⟨_,⟨Z,Z⟩,H⟩
theorem Np(n:Nat)(p:16<=n/\n<=1024):An 93 [Aa (n:Int)] [] (λv G=>∃f g bw:Nat,v=V f/\G=[blk f [.slice (some ⟨g,0,none⟩) n n,.slice (some ⟨bw,0,none⟩) n n] 166,AV g (λ_=>0) n,AV bw (λ_=>0) n]):=by
 intro z R w H;refine Af func93 Z ntmps93 Z (Z0 11 [0] Z (Am 5 Z (λl=>U) (λl=>?_)));refine Z0 5 [0] Z (Ag Z (λj=>U) (λj=>?_));refine Zc 3 Z (A1 (Sep z (R)) 7 Z J (A8 H λw i=>?_));have H:=i.l0;refine BA [0,2] [] J (λ_ _=>AU) (by exact H) Z J Z Z (Ax [1,3] J O (Xw ?_ ?_))
 ·refine Cj Z Z Z Z (C5 (k:=n) H Z J BW Z Z Z U) ?_;rintro _ w ⟨c,rfl,H⟩;refine Aw (λ_=>(H.pick 1 [] Z)) (Ax [3] J O (Ay (Cj Z Z Z Z (C5 (k:=n) H Z J BW Z Z Z U) ?_)));rintro _ w ⟨d,rfl,H⟩;refine Aw (λ_=>(H.pick 2 [] Z)) (Bg 4 J Z Z J J J Z Z Z (AR Z Z (out:=[.slice (some ⟨c,0,none⟩) n n,.slice (some ⟨d,0,none⟩) n n]) J) (H.pick 2 [] Z) (Ax [5] J O (Ay (Cj Z Z Z Z (Ff H Z Z (cs:=[.slice (some ⟨c,0,none⟩) n n,.slice (some ⟨d,0,none⟩) n n]) Z) ?_))));rintro _ w ⟨m,rfl,H⟩;refine Aw (λ_=>(H.pick 3 [] Z)) (Ax [6] J O (Ay (Dp Z Z Z Z (Bq Z Z) (Aw (λh=>absurd Z h) (Bi J (gn (Zc 2 Z (Zr Z ?_))))))));have e:List.replicate n (Aa 0)=cnL (λ_=>0) n:=by
    unfold cnL;rw[Aa1,Aah];rfl
  rw[e] at H;exact ⟨_,⟨m,c,d,Z,Z⟩,H.pick 3 [0,2,1] Z⟩
 refine Cj Z Z Z Z (C5 (k:=n) H Z J BW Z Z Z U) ?_;rintro _ w ⟨b,rfl,H⟩;refine Aw (λ_=>(H.pick 1 [] Z)) (Ax [1] J O (Ay (Cj Z Z Z Z (C5 (k:=n) H Z J BW Z Z Z U) ?_)));rintro _ w ⟨a,rfl,H⟩;refine Aw (λ_=>(H.pick 2 [] Z)) (Bg 4 J Z Z J J J Z Z Z (AR Z Z (out:=[.slice (some ⟨a,0,none⟩) n n,.slice (some ⟨b,0,none⟩) n n]) J) (H.pick 2 [] Z) (Ax [5] J O (Ay (Cj Z Z Z Z (Ff H Z Z (cs:=[.slice (some ⟨a,0,none⟩) n n,.slice (some ⟨b,0,none⟩) n n]) Z) ?_))));rintro _ w ⟨o,rfl,H⟩;refine Aw (λ_=>(H.pick 3 [] Z)) (Ax [6] J O (Ay (Dp Z Z Z Z (Bq Z Z) (Aw (λh=>absurd Z h) (Bi J (gn (Zc 2 Z (Zr Z ?_))))))));have e:List.replicate n (Aa 0)=cnL (λ_=>0) n:=by
   unfold cnL;rw[Aa1,Aah];rfl
 rw[e] at H;exact ⟨_,⟨o,a,b,Z,Z⟩,H.pick 3 [0,1,2] Z⟩
theorem J3(b a bw n:Nat)(C:Nat->Nat)(p:Nat)(hp:p<n)(e:16<=n/\n<=1024):An 112 [V b,Aa (p:Int)] [blk b [.slice (some ⟨a,0,none⟩) n n,.slice (some ⟨bw,0,none⟩) n n] 166,AV a C n] (λv G=>v=Aa (C p:Int)/\G=[blk b [.slice (some ⟨a,0,none⟩) n n,.slice (some ⟨bw,0,none⟩) n n] 166,AV a C n]):=by
 intro z R w H;refine Af func112 Z ntmps112 Z (Z0 11 [0] Z (Am 7 Z (λc=>U) (λc=>?_)));refine Z2 10 [0,0,0,0] H Z (Ag Z (λd=>U) (λd=>?_));refine Z3 10 [0,0,0,1,p,p] [] H Z U (Ae Z (AY Z Z J (AB (H.cel 1 Z p (cnL_at _ U)))) (Zc 4 Z (Zr Z ?_)));exact ⟨_,⟨Z,Z⟩,H⟩
theorem Sm(b a bw n:Nat)(C:Nat->Nat)(p:Int)(hp:p<0\/(n:Int)<=p)(e:16<=n/\n<=1024):An 112 [V b,Aa p] [blk b [.slice (some ⟨a,0,none⟩) n n,.slice (some ⟨bw,0,none⟩) n n] 166,AV a C n] (λv G=>v=Aa 0/\G=[blk b [.slice (some ⟨a,0,none⟩) n n,.slice (some ⟨bw,0,none⟩) n n] 166,AV a C n]):=by
 intro z R w H;refine Af func112 Z ntmps112 Z (Z0 11 [0] Z (Am 7 Z (λc=>?_) (λc=>?_)))
 ·refine Zc 17 Z (Zr Z ?_);exact ⟨_,⟨Z,Z⟩,H⟩
 refine Z2 10 [0,0,0,0] H Z (Ag Z (λd=>?_) (λd=>?_))
 ·refine Zc 6 Z (Zr Z ?_);exact ⟨_,⟨Z,Z⟩,H⟩
 (exfalso;omega)
theorem UQ(b a bw n:Nat)(C:Nat->Nat)(p x:Nat)(y:Int)(hp:p<n)(l:16<=n/\n<=1024)(k:(C p:Int)+y=x)(d:x<=1000)(m:C p<=1000):An 95 [V b,Aa (p:Int),Aa y] [blk b [.slice (some ⟨a,0,none⟩) n n,.slice (some ⟨bw,0,none⟩) n n] 166,AV a C n] (λv G=>v=Aa 0/\G=[blk b [.slice (some ⟨a,0,none⟩) n n,.slice (some ⟨bw,0,none⟩) n n] 166,AV a (updN C p x) n]):=by
 intro z R w H;refine Af func95 Z ntmps95 Z (Z0 11 [0] Z (Am 9 Z (λi=>U) (λi=>?_)));refine Z2 10 [0,0,0,0] H Z (Ag Z (λg=>U) (λg=>?_));refine Z0 8 [0] Z (Am 20 Z (λj=>U) (λj=>?_));refine Z0 4 [0] Z (Am 24 Z (λc=>U) (λc=>?_));refine Z3 6 [0,0,0,1,p,p] [] H Z U (Ae Z (AY Z Z J (AB (H.cel 1 Z p (cnL_at _ U)))) (Z1 5 [0] [(C p:Int)+y] Z U (Am 36 Z (λh=>U) (λh=>?_))));refine Z3 6 [0,0,0,1,p,p] [] H Z U (Ae Z (AY Z Z J (AB (H.cel 1 Z p (cnL_at _ U)))) (Z1 6 [0] [(C p:Int)+y] Z U (Ag Z (λe=>U) (λe=>?_))));refine Zc 3 Z (Bo 15 J J (A8 H λw f=>?_));have H:=f.l2;refine CC 11 [0,0,0,0,0,0,1,p,p] [] H Z J U (B3 Z Z Z (AY Z Z J (AB (H.cel 1 Z p (cnL_at _ U)))) (CC 3 [1,p,p] [(C p:Int)+y] H Z J U (Ce (gw (A0 Z Z (AE 1 H Z Z Z Z (vs:=[Aa ((C p:Int)+y)]) Z (Al Z AK) J (by simp only[Cc,XY,X3];omega) (out:=cnL (updN C p x) n) (EU _ U k)) ?_)))));rintro w H;refine Zc 8 Z (Zr Z ?_);exact ⟨_,⟨Z,Z⟩,H⟩
theorem UR{C:Nat->Nat}{n i k:Nat}(h:k<120):(B8 C n i)[k]?=some (if 120*i+k<n then (C (120*i+k):Int) else 0):=by simp[B8,h]
theorem Sn(b a bw n:Nat)(C:Nat->Nat)(p:Nat)(c:16<=n/\n<=1024):An 112 [V b,Aa (p:Int)] [blk b [.slice (some ⟨a,0,none⟩) n n,.slice (some ⟨bw,0,none⟩) n n] 166,AV a C n] (λv G=>v=Aa (if p<n then (C p:Int) else 0)/\G=[blk b [.slice (some ⟨a,0,none⟩) n n,.slice (some ⟨bw,0,none⟩) n n] 166,AV a C n]):=by
 by_cases h:p<n
 ·rw[if_pos h];exact J3 b a bw n C p h c
 rw[if_neg h];exact Sm b a bw n C (p:Int) (.inr U) c
theorem HJ(C:Nat->Nat){n i j:Nat}{ns:List Int}(h:j=120\/n<=120*i+j):cnL (DB C i ns j) n=cnL (DB C i ns 120) n:=by
 rcases h with rfl|h
 ·rfl
 unfold cnL;refine Zu λp hp=>?_;have hp:=Y2.1 hp;unfold DB;by_cases h1:p/120=i
 ·by_cases h2:p%120<j
  ·rw[if_pos ⟨h1,h2⟩,if_pos ⟨h1,by omega⟩]
  exfalso;omega
 rw[if_neg (λq=>h1 q.1),if_neg (λq=>h1 q.1)]
def Jp(C W:Nat->Nat)(i:Nat):Nat->Nat:=λp=>if p<i then C p else W p
theorem W6(C W:Nat->Nat):Jp C W 0=W:=by funext p;simp[Jp]
theorem W7(C W:Nat->Nat)(i:Nat):updN (Jp C W i) i (C i)=Jp C W (i+1):=by
 funext p;unfold updN Jp;by_cases e:p=i
 ·subst e;simp
 rw[if_neg e];by_cases h:p<i
 ·rw[if_pos h,if_pos U]
 rw[if_neg h,if_neg U]
theorem W8(C W:Nat->Nat)(n:Nat):cnL (Jp C W n) n=cnL C n:=by
 unfold cnL;refine Zu λp hp=>?_;unfold Jp;rw[if_pos (Y2.1 hp)]
theorem So(c a bw n:Nat)(C:Nat->Nat)(i:Nat)(o:i<manyN n)(q:16<=n/\n<=1024):An 160 [V c,Aa (i:Int)] [blk c [.slice (some ⟨a,0,none⟩) n n,.slice (some ⟨bw,0,none⟩) n n] 166,AV a C n] (λv G=>∃e:Value,v=e/\G=[grow 3 1 e (B8 C n i).length ((B8 C n i).map Aa),blk c [.slice (some ⟨a,0,none⟩) n n,.slice (some ⟨bw,0,none⟩) n n] 166,AV a C n]):=by
 intro z R w H;have p:120*i<n:=by unfold manyN at o;omega
 refine Af func160 Z ntmps160 Z (Zc 12 Z ?_);replace H:=(H.nilg 3 1).l3;refine Z1 7 [] [((120*i:Nat):Int)] Z U ?_;refine Aq (σ:=Nat×Value) (λ⟨k,u⟩=>[(6,Aa ((120*i+k:Nat):Int)),(5,u),(0,V c),(1,Aa (i:Int)),(4,.slice none 0 0)])
   (λ⟨k,u⟩ w=>Sep z (grow 3 1 u k (((B8 C n i).take k).map Aa)::blk c [.slice (some ⟨a,0,none⟩) n n,.slice (some ⟨bw,0,none⟩) n n] 166::AV a C n::R) w/\(k<=120)) (λ⟨k,u⟩=>120-k) ⟨0,.slice none 0 0⟩
   (λ_ f=>(f.co Z (by go_num) f.cz)) ⟨(by simpa using H),Ye _⟩ ?_
 clear H;rintro ⟨k,u⟩ w ⟨b,g⟩;dsimp only at g b ⊢;have H:=b.l3;have s:=H.sy 0 (·.slc);have r:=g;clear g;refine Z1 10 [0] [(i:Int)+1,((i:Int)+1)*120] Z U (Ag Z (λm=>?_) (λm=>?_))
 ·refine Zc 8 Z (Ah Z (call112 _) (Sn _ _ _ _ _ (120*i+k) U) H.f2.f2 ?_);intro w H;refine AC Z (AI H Z J BW Z (by decide) (by decide) (out:=[Aa (if (120*i+k)<n then (C (120*i+k):Int) else 0)]) J) ?_;rintro _ w ⟨l,rfl,H⟩;refine AC Z (AJ 3 H Z Z J BW Z Z (H.rv 0 (·.rd U U O Z)) (by simp[Value.oneCell']) U) ?_;rintro e w b;have b:Sep z (blk l [Aa (if (120*i+k)<n then (C (120*i+k):Int) else 0)] 3::blk c [.slice (some ⟨a,0,none⟩) n n,.slice (some ⟨bw,0,none⟩) n n] 166::AV a C n::grow 3 1 e (k+1) (((B8 C n i).take k).map Aa++[Aa (if (120*i+k)<n then (C (120*i+k):Int) else 0)])::R) w:=b
  have h:(((B8 C n i).take k).map Aa++[Aa (if (120*i+k)<n then (C (120*i+k):Int) else 0)]:List Value)=((B8 C n i).take (k+1)).map Aa:=(by rw[Yd,UR U];simp);rw[h] at b;have H:=b.l4;have j:=H.sy 3 (·.slc);refine Z1 9 [] [((120*i+(k+1):Nat):Int)] Z U ?_;replace H:=H.d.f1.f1.f2;refine gf ?_;intro _ f;refine ⟨⟨k+1,e⟩,(f.all Z),⟨H,?_⟩,?_⟩
  ·show k+1<=120;omega
  (dsimp only;omega)
 refine Zc 2 Z (gx (Zc 3 Z ?_));obtain rfl:k=120:=by omega
 rw[show (B8 C n i).take 120=B8 C n i from XZ (YU (Db _ _ _)),show (120:Nat)=(B8 C n i).length from (Db _ _ _).symm] at H;refine Zc 6 Z (Zr Z ?_);exact ⟨_,⟨_,Z,Z⟩,H.pick 3 [0,1,2] Z⟩
theorem Sp(b a bw n:Nat)(C:Nat->Nat)(i:Nat)(l:i<manyN n)(o:16<=n/\n<=1024)(e:∀k,C k<=1000):An 96 [V b,Aa (i:Int)] [blk b [.slice (some ⟨a,0,none⟩) n n,.slice (some ⟨bw,0,none⟩) n n] 166,AV a C n] (λv G=>∃c:Value,v=c/\G=[grow 5 1 c (EF (B8 C n i)).length ((EF (B8 C n i)).map u8),blk b [.slice (some ⟨a,0,none⟩) n n,.slice (some ⟨bw,0,none⟩) n n] 166,AV a C n]):=by
 intro z R w H;have m:120*i<n:=by unfold manyN at l;omega
 refine Af func96 Z ntmps96 Z (Z0 11 [0] Z (Am 9 Z (λj=>U) (λj=>?_)));refine Z2 6 [0,0,0] H Z (Ah Z (call94 _) (Gr _ U) H ?_);intro w H;refine Z0 4 [0] Z (Ag Z (λf=>U) (λf=>?_));refine Zc 6 Z (AA Z (call160 _) (So _ _ _ _ _ i U U) H ?_);rintro d w _ ⟨_,rfl,rfl⟩ H;refine AA Z (call159 _) (Hi (B8 C n i) _ _ (λh q=>q.rd) (Db _ _ _) (Jk e _ _)) H ?_;rintro _ w _ ⟨p,rfl,rfl⟩ H;have g:=H.sy 0 (·.slc);refine Zc 14 Z (Zr Z ?_);exact ⟨_,⟨_,Z,Z⟩,H.pick 4 [0,2,3] Z⟩
set_option maxHeartbeats 1000000 in
theorem Sq (l f bw n:Nat) (C:Nat->Nat) (W:Nat->Nat) (i:Nat) (hi:i<manyN n) (hn:16<=n/\n<=1024) (v:Value) (bs:List UInt8) (A:Ai) (t:∀h,A h->rdH 1 v bs.length (bs.map u8) h) (ns:List Int) (s:ns.length=120) (c:∀x∈ns,0<=x/\x<=1000) (a1:bs=EF ns) (hz:∀(k:Nat) (x:Int),ns[k]?=some x->n<=120*i+k->x=0):An 163 [V l,Aa (i:Int),v] [blk l [.slice (some ⟨f,0,none⟩) n n,.slice (some ⟨bw,0,none⟩) n n] 166,AV f C n,AV bw W n,A] (λv G=>v=Aa 0/\G=[blk l [.slice (some ⟨f,0,none⟩) n n,.slice (some ⟨bw,0,none⟩) n n] 166,AV f (DB C i ns 120) n,AV bw (DB W i ns 120) n,A]):=by
 intro z R w H;have a3:120*i<n:=by unfold manyN at hi;omega
 obtain ⟨ao,oc,rfl⟩:=H.sy 3 (λq=>(t _ q).slc);have a2:=H.sy 3 (λq=>(t _ q).small);refine Af func163 Z ntmps163 Z (Z0 11 [0] Z (Am 13 Z (λh1=>U) (λh1=>?_)));refine Z2 6 [0,0,0] H Z (Ah Z (call94 _) (Gr _ U) H ?_);intro w H;refine Z0 4 [0] Z (Ag Z (λh2=>U) (λh2=>?_));refine Zc 5 Z (AA Z (call195 _) (L0 _ bs A t ns s c a1) H.f3 ?_);rintro _ w _ ⟨v1,rfl,rfl⟩ H;have a0:=H.sy 0 (·.slc);obtain ⟨d,e,rfl⟩:=a0;refine Z0 19 [0] Z (Ag Z (λh3=>U) (λh3=>?_));refine Zc 9 Z ?_;refine Aq (σ:=Nat) (λj=>[(9,Aa (j:Int)),(0,V l),(1,Aa (i:Int)),(7,.slice d ns.length e)])
   (λj w=>Sep z (grow 3 1 (.slice d ns.length e) ns.length (ns.map Aa)::A::blk l [.slice (some ⟨f,0,none⟩) n n,.slice (some ⟨bw,0,none⟩) n n] 166::AV f C n::AV bw W n::R) w/\(j<=120)) (λj=>120-j) 0
   fr_z ⟨H,Ye _⟩ ?_
 clear H;rintro j w ⟨m,o⟩;have H:=m.l5;have hj:=o;clear o;refine Z0 7 [0] Z (Ag Z (λh4=>?_) (λh4=>?_))
 ·refine Zc 5 Z ?_;obtain ⟨x,b⟩:∃x,ns[j]?=some x:=⟨_,XV U⟩;have g:=c x (XW b)
  refine Zc 3 Z (Ae Z (Az Z (z:=1) (j:=j) (r:=j) J Z Z Z U ((H.rv 0 (·.rd)).at (j:=j) (u:=Aa x) (by simp[b])) U) (Ae Z (AS Z Z J (AB ((H.rv 0 (·.rd)).at (j:=j) (u:=Aa x) (by simp[b])))) (Z0 2 [0] Z (Am 44 Z (λh5=>U) (λh5=>?_)))));refine Zc 2 Z (Ae Z (Az Z (z:=1) (j:=j) (r:=j) J Z Z Z U ((H.rv 0 (·.rd)).at (j:=j) (u:=Aa x) (by simp[b])) U) (Ae Z (AS Z Z J (AB ((H.rv 0 (·.rd)).at (j:=j) (u:=Aa x) (by simp[b])))) (Z0 3 [0] Z (Am 51 Z (λh6=>U) (λh6=>?_)))));refine Zc 2 Z (Ae Z (Az Z (z:=1) (j:=j) (r:=j) J Z Z Z U ((H.rv 0 (·.rd)).at (j:=j) (u:=Aa x) (by simp[b])) U) (Ae Z (AS Z Z J (AB ((H.rv 0 (·.rd)).at (j:=j) (u:=Aa x) (by simp[b])))) (Z0 2 [0] Z (Am 57 Z (λh7=>?_) (λh7=>?_)))))
  ·refine Z3 14 [0,2,0,0] [(i:Int)*120,((i:Int)*120)+(j:Int)] H Z U (Ag Z (λh8=>?_) (λh8=>?_))
   ·(exfalso;have:=hz j x b;omega)
   refine Z1 8 [] [(j:Int)+1] Z U (gf ?_);intro _ p;refine ⟨(j+1),p.cz,⟨H,?_⟩,?_⟩
   ·omega
   omega
  refine Z1 23 [] [(j:Int)+1] Z U (gf ?_);intro _ p;refine ⟨(j+1),p.cz,⟨H,?_⟩,?_⟩
  ·omega
  omega
 have a:j=120\/n<=120*i+j:=.inl U;refine Zc 2 Z (gx (Zc 9 Z ?_));refine Aq (σ:=Nat) (λj=>[(10,Aa (j:Int)),(0,V l),(1,Aa (i:Int)),(7,.slice d ns.length e)])
   (λj w=>Sep z (grow 3 1 (.slice d ns.length e) ns.length (ns.map Aa)::A::blk l [.slice (some ⟨f,0,none⟩) n n,.slice (some ⟨bw,0,none⟩) n n] 166::AV f (DB C i ns j) n::AV bw (DB W i ns j) n::R) w/\(j<=120)) (λj=>120-j) 0
   fr_z ⟨(by rw[Iz,Iz];exact H),Ye _⟩ ?_
 clear H;rintro j w ⟨m,o⟩;have H:=m.l5;have hj:=o;clear o;refine Z0 6 [0] Z (Am 72 Z (λh9=>?_) (λh9=>?_))
 ·refine Z3 13 [0,2,0,0] [(i:Int)*120,((i:Int)*120)+(j:Int)] H Z U (Ag Z (λy=>?_) (λy=>?_))
  ·refine Zc 5 Z ?_;obtain ⟨x,b⟩:∃x,ns[j]?=some x:=⟨_,XV U⟩;have g:=c x (XW b)
   refine Bo 13 J J (A8 H λw m=>?_);have H:=m.l5;refine CC 10 [0,2,0] [(i:Int)*120,((i:Int)*120)+(j:Int)] H Z J U (B3 Z Z Z (Az Z (z:=1) (j:=j) (r:=j) J Z Z Z U ((H.rv 0 (·.rd)).at (j:=j) (u:=Aa x) (by simp[b])) U) (B3 Z Z Z (AS Z Z J (AB ((H.rv 0 (·.rd)).at (j:=j) (u:=Aa x) (by simp[b])))) (CC 1 [1,(120*i+j),120*i+j] [] H Z J U (Ce (gw (A0 Z Z (AE 3 H Z Z Z Z (vs:=[Aa x]) Z (Al Z AK) J (by simp only[Cc,XY,X3];omega) (out:=cnL (DB C i ns (j+1)) n) ((EU (x:=x.toNat) _ U U).trans (by rw[IA C U b g.1]))) ?_))))));rintro w H;refine Zc 2 Z (Bo 13 J J (A8 H λw m=>?_));have H:=m.l5;refine CC 10 [1,2,0] [(i:Int)*120,((i:Int)*120)+(j:Int)] H Z J U (B3 Z Z Z (Az Z (z:=1) (j:=j) (r:=j) J Z Z Z U ((H.rv 0 (·.rd)).at (j:=j) (u:=Aa x) (by simp[b])) U) (B3 Z Z Z (AS Z Z J (AB ((H.rv 0 (·.rd)).at (j:=j) (u:=Aa x) (by simp[b])))) (CC 1 [1,(120*i+j),120*i+j] [] H Z J U (Ce (gw (A0 Z Z (AE 4 H Z Z Z Z (vs:=[Aa x]) Z (Al Z AK) J (by simp only[Cc,XY,X3];omega) (out:=cnL (DB W i ns (j+1)) n) ((EU (x:=x.toNat) _ U U).trans (by rw[IA W U b g.1]))) ?_))))));rintro w H;refine Z1 8 [] [(j:Int)+1] Z U (gf ?_);intro _ p;refine ⟨(j+1),p.cz,⟨H,?_⟩,?_⟩
   ·omega
   omega
  have a:j=120\/n<=120*i+j:=.inr U;refine Zc 2 Z (gx (Zc 8 Z (Zr Z ?_)));dsimp only[AV] at H;rw[HJ C a,HJ W a] at H;exact ⟨_,⟨Z,Z⟩,H.pick 5 [2,3,4,1] Z⟩
 have a:j=120\/n<=120*i+j:=.inl U;refine Zc 16 Z (gx (Zc 8 Z (Zr Z ?_)));dsimp only[AV] at H;rw[HJ C a,HJ W a] at H;exact ⟨_,⟨Z,Z⟩,H.pick 5 [2,3,4,1] Z⟩
theorem N6(b a bw n:Nat)(C:Nat->Nat)(W:Nat->Nat)(g:16<=n/\n<=1024):An 123 [V b] [blk b [.slice (some ⟨a,0,none⟩) n n,.slice (some ⟨bw,0,none⟩) n n] 166,AV a C n,AV bw W n] (λv G=>v=.tuple #[]/\G=[blk b [.slice (some ⟨a,0,none⟩) n n,.slice (some ⟨bw,0,none⟩) n n] 166,AV a C n,AV bw C n]):=by
 intro z R w H;refine Af func123 Z ntmps123 Z (Zc 6 Z ?_);refine Aq (σ:=Nat) (λi=>[(2,Aa (i:Int)),(0,V b)])
   (λi w=>Sep z (blk b [.slice (some ⟨a,0,none⟩) n n,.slice (some ⟨bw,0,none⟩) n n] 166::AV a C n::AV bw (Jp C W i) n::R) w/\(i<=n)) (λi=>n-i) 0
   fr_z ⟨(by rw[W6];exact H),Ye _⟩ ?_
 clear H;rintro i w ⟨c,d⟩;have H:=c.l3;have h:=d;clear d;refine Z2 12 [0,0,0,0] H Z (Ag Z (λf=>?_) (λf=>?_))
 ·refine Zc 4 Z (Bo 13 J J (A8 H λw c=>?_))
  have H:=c.l3;refine CC 11 [1,0,0,0,0,0,1,i,i] [] H Z J U (B3 Z Z Z (AY Z Z J (AB (H.cel 1 Z i (cnL_at _ U)))) (CC 1 [1,i,i] [] H Z J U (Ce (gw (A0 Z Z (AE 2 H Z Z Z Z (vs:=[Aa (C i:Int)]) Z (Al Z AK) J (by simp only[Cc,XY,X3];omega) (out:=cnL (Jp C W (i+1)) n) ((EU (x:=C i) _ U Z).trans (by rw[W7]))) ?_)))));rintro w H;refine Z1 8 [] [(i:Int)+1] Z U (gf ?_);intro _ e;refine ⟨(i+1),e.cz,⟨H,?_⟩,?_⟩
  ·omega
  omega
 obtain rfl:n=i:=by omega
 refine Zc 2 Z (gx (Zc 1 Z (Zf Z ?_)));dsimp only[AV] at H;rw[W8] at H;exact ⟨_,⟨Z,Z⟩,H.pick 3 [0,1,2] Z⟩
set_option maxHeartbeats 1000000 in
theorem Sr (ps d:Nat) (x:Sup) (p i ov:Value) (t:Bool) (own a:List ImE) (hq:Hp) (f:imP ov own hq) (g:imP i a hq) (n r:Nat) (F:Nat->List UInt8) (m:Img) (l:m.Ok) (a2:m.num<x.pages) (u:x.pages+2<=n) (j:∀e∈own,e.1.num≠m.num) (o:∀e∈a,e.1.num≠m.num) (y:F (2+m.num).toNat=DU m):An 32 [V ps,Aa m.num] [blk ps [V d,Aa x.gen,Aa x.epoch,Aa x.pages,Aa x.start,Aa x.len,Aa x.head,Aa x.seq,p,i,.bool t,ov] 128,rdkA d n F r,poolA hq] (λv G=>∃s:Value,v=.tuple #[.agg #[Aa m.kind,s],Aa 0]/\G=[grow 5 1 s 240 (m.body.map u8),blk ps [V d,Aa x.gen,Aa x.epoch,Aa x.pages,Aa x.start,Aa x.len,Aa x.head,Aa x.seq,p,i,.bool t,ov] 128,rdkA d n F r,poolA hq]):=by
 intro z R w H;replace H:=H.l3;obtain ⟨oo,a0,rfl⟩:=f.slc;obtain ⟨po,a3,rfl⟩:=g.slc;have a1:=l.1;refine Af func32 Z ntmps32 Z (Za 2 [] H Z ?_);intro b1 w H;refine Z0 9 [0] Z (Am 13 Z (λh1=>?_) (λh1=>?_))
 ·(exfalso;omega)
 refine Z2 10 [1,3,1,0,0] H Z (Ag Z (λh2=>?_) (λh2=>?_))
 ·(exfalso;omega)
 refine Z2 9 [11,1,0] H Z (Ah Z (call83 _) (IG _ own (poolA hq) (λh q=>f.rdA q) (λe k=>(f.2 e k).1) m.num j) H.f3 ?_);intro w H;refine Za 3 [] H Z ?_;intro b2 w H;refine Z4 20 [0,9,3,0] H Z ?_;intro w H;refine Ah Z (call83 _) (IG _ a (poolA hq) (λh q=>g.rdA q) (λe k=>(g.2 e k).1) m.num o) H.f1 ?_;intro w H;refine Z5 24 [1,0,3,0] [2+m.num] H Z U ?_;intro w H;refine k_updA 51 (v:=Aa (((2+m.num).toNat:Nat):Int)) Z (congrArg Aa U) (AA Z (call84 _) (HI _ _ _ _ ((2+m.num).toNat) U) H.f4 ?_);rintro _ w _ ⟨u9,rfl,rfl⟩ H;replace H:=H.l6;rw[y] at H;refine Z0 21 [4] Z (AA Z (call85 _) (N3 _ (DU m) _ (λh q=>by rw[J1 l];exact q.rd) m l Z) H ?_);rintro _ w _ ⟨c,rfl,rfl⟩ H;replace H:=H.l7;have b:=H.says 0 Z (λh q=>q.slc);refine Zc 3 Z (A0 Z Z (AE 4 H Z Z Z Z (vs:=[Aa m.kind,c]) Z (Al Z (Al b.one AK)) J O (out:=[Aa m.kind,c]) Z) ?_);rintro w H;replace H:=H.l7;refine Z2 16 [4,2] H Z (A0 Z Z (AE 5 H Z Z Z Z (vs:=[Aa m.kind,c]) Z (Al Z (Al b.one AK)) J O (out:=[Aa m.kind,c]) Z) ?_);rintro w H;replace H:=H.l7;refine Zc 4 Z (Zl [5,2] H Z ?_);exact ⟨_,⟨_,Z,Z⟩,H.pick 7 [0,6,2,3] Z⟩
def HZ(C:Nat->Nat)(n:Nat):List Value:=(List.range n).map λp=>.bool (decide (0<(C p:Int)))
theorem W9(C:Nat->Nat)(i:Nat):HZ C (i+1)=HZ C i++[.bool (decide (0<(C i:Int)))]:=by simp[HZ,ZN]
theorem N7(e ps l a c bw n:Nat)(x:Sup)(k j ov:Value)(m:Bool)(C W:Nat->Nat)(y:Value)(hn:16<=n/\n<=1024)(q:x.pages=n):An 69 [V e] [blk e [V ps,V a,y] 76,blk a [.slice (some ⟨c,0,none⟩) n n,.slice (some ⟨bw,0,none⟩) n n] 166,AV c C n,AV bw W n,blk ps [V l,Aa x.gen,Aa x.epoch,Aa x.pages,Aa x.start,Aa x.len,Aa x.head,Aa x.seq,k,j,.bool m,ov] 128] (λv G=>∃g:Value,v=.tuple #[]/\G=[blk e [V ps,V a,g] 76,grow 4 1 g n (HZ C n),blk a [.slice (some ⟨c,0,none⟩) n n,.slice (some ⟨bw,0,none⟩) n n] 166,AV c C n,AV bw C n,blk ps [V l,Aa x.gen,Aa x.epoch,Aa x.pages,Aa x.start,Aa x.len,Aa x.head,Aa x.seq,k,j,.bool m,ov] 128]):=by
 intro z R w H;refine Af func69 Z ntmps69 Z (Z2 6 [1,0,0] H Z (Ah Z (call123 _) (N6 _ _ _ _ _ _ U) H.f3.f3.f3 ?_));intro w H;refine Z4 11 [2,3] H Z ?_;intro w H;replace H:=(H.nilg 4 1).l6;refine Zc 5 Z ?_;refine Aq (σ:=Nat×Value) (λ⟨i,u⟩=>[(2,Aa (i:Int)),(0,V e)])
   (λ⟨i,u⟩ w=>Sep z (grow 4 1 u i (HZ C i)::blk a [.slice (some ⟨c,0,none⟩) n n,.slice (some ⟨bw,0,none⟩) n n] 166::AV c C n::AV bw C n::blk e [V ps,V a,u] 76::blk ps [V l,Aa x.gen,Aa x.epoch,Aa x.pages,Aa x.start,Aa x.len,Aa x.head,Aa x.seq,k,j,.bool m,ov] 128::R) w/\(i<=n)) (λ⟨i,u⟩=>n-i) ⟨0,.slice none 0 0⟩
   fr_z ⟨(by simpa [HZ] using H),Ye _⟩ ?_
 clear H;rintro ⟨i,u⟩ w ⟨b,o⟩;dsimp only at o b ⊢;have H:=b.l6;have su:=H.sy 0 (·.slc);have hi:=o;clear o;refine Z2 12 [0,4,0,1,3,5,0] H Z (k_updA 19 (v:=Aa (n:Int)) Z (congrArg Aa q) (Z0 3 [0] Z (Ag Z (λt=>?_) (λt=>?_))))
 ·refine Zc 4 Z ?_;replace H:=H.f4;refine A1 (Sep z (blk e [V ps,V a,u] 76::R)) 17 Z J (A8 H λw b=>?_)
  have H:=b.l6;refine BA [0,1,2,3,4,5,6,7,8,9] [2,0,1,0] J (λ_ hx=>(A3 (hx.blk 0 Z) AU)) (by exact H.pick 6 [0] Z) Z J Z Z (Ax [10] J O (Ay (BF Z Z Z Z Z Z (λw=>call112 _ w) (J3 _ _ _ _ _ i U U) H.f3.f3 Z ?_)));rintro _ w _ ⟨rfl,rfl⟩ H;refine Aw (λ_=>(H.pick 6 [2] Z)) (BA [11] [] J (λ_ _=>AU) (by exact H.pick 6 [2] Z) Z J Z Z (Ax [12] J O (Ay (Cj Z Z Z Z (AI H Z J MK Z (by decide) (by decide) (out:=[.bool (decide ((0:Int)<(C i:Int)))]) J) ?_))));rintro _ w ⟨r,rfl,H⟩;refine Aw (λ_=>(H.pick 7 [3] Z)) (Ax [13] J O (Ay (Cj Z Z Z Z (AJ 4 H Z Z J MK Z Z (H.rv 0 (·.rd U U O Z)) (by simp[Value.oneCell']) U) ?_)));rintro g w b;have b:Sep z (blk r [.bool (decide ((0:Int)<(C i:Int)))] 4::blk a [.slice (some ⟨c,0,none⟩) n n,.slice (some ⟨bw,0,none⟩) n n] 166::AV c C n::blk e [V ps,V a,u] 76::grow 4 1 g (i+1) (HZ C i++[.bool (decide ((0:Int)<(C i:Int)))])::AV bw C n::blk ps [V l,Aa x.gen,Aa x.epoch,Aa x.pages,Aa x.start,Aa x.len,Aa x.head,Aa x.seq,k,j,.bool m,ov] 128::R) w:=b;have p:(HZ C i++[.bool (decide ((0:Int)<(C i:Int)))]:List Value)=HZ C (i+1):=(W9 C i).symm;rw[p] at b;have H:=b.l7;have f:=H.sy 4 (·.slc);refine Aw (λ_=>(H.pick 7 [3] Z)) (BA [14,15] [2] J (λ_ _=>AU) (by exact H.pick 7 [3] Z) Z J Z Z (Ax [16] J O (Ay (Cy Z Z Z (Jw 3 H Z Z Z Z f.cells f.one J) ?_))));rintro w H;refine Aw (λh=>absurd Z h) (Bi J (gn (Z1 7 [] [(i:Int)+1] Z U ?_)));replace H:=H.d.f5.f3.f5.f4.f4.f5;refine gf ?_;intro _ s;refine ⟨⟨i+1,g⟩,s.cz,⟨H,?_⟩,?_⟩
  ·show i+1<=n;omega
  (dsimp only;omega)
 obtain rfl:n=i:=by omega
 refine Zc 2 Z (gx (Zc 1 Z (Zf Z ?_)));exact ⟨_,⟨_,Z,Z⟩,H.pick 6 [4,0,1,2,3,5] Z⟩
theorem P9(ps b:Nat)(x:Sup)(f c ov:Value)(k:Bool)(own a:List ImE)(hq:Hp)(o:imP ov own hq)(q:imP c a hq)(n i:Nat)(F:Nat->List UInt8)(m:Img)(s:m.Ok)(h:m.num<x.pages)(d:x.pages+2<=n)(g:∀e∈own,e.1.num≠m.num)(j:∀e∈a,e.1.num≠m.num)(r:F (2+m.num).toNat=DU m)(p:Int)(hp:m.num=p):An 32 [V ps,Aa p] [blk ps [V b,Aa x.gen,Aa x.epoch,Aa x.pages,Aa x.start,Aa x.len,Aa x.head,Aa x.seq,f,c,.bool k,ov] 128,rdkA b n F i,poolA hq] (λv G=>∃l:Value,v=.tuple #[.agg #[Aa m.kind,l],Aa 0]/\G=[grow 5 1 l 240 (m.body.map u8),blk ps [V b,Aa x.gen,Aa x.epoch,Aa x.pages,Aa x.start,Aa x.len,Aa x.head,Aa x.seq,f,c,.bool k,ov] 128,rdkA b n F i,poolA hq]):=by
 subst hp;exact Sr ps b x f c ov k own a hq o q n i F m s h d g j r
set_option maxHeartbeats 2000000 in
theorem Ss (ps c s y n:Nat) (x:Sup) (u:Value) (F:Nat->List UInt8) (C:Nat->Nat) (hn:16<=n/\n<=1024) (g:x.pages=n) (a3:n+2<=s) (cb:List UInt8) (a1:cb.length=240) (f:∀i,i<=manyN n->F (2+i)=DU (P7 C n cb i)) (hC:∀k,C k<=1000) (r:∀p,p<=manyN n->C p=1):An 98 [V ps] [blk ps [V c,Aa x.gen,Aa x.epoch,Aa x.pages,Aa x.start,Aa x.len,Aa x.head,Aa x.seq,u,.slice none 0 0,.bool false,.slice none 0 0] 128,rdkA c s F y] (λv G=>∃(pq a b bw:Nat) (tv:Value),v=.tuple #[V pq,Aa 0]/\G=[blk pq [V ps,V a,tv] 76,grow 4 1 tv n (HZ C n),blk a [.slice (some ⟨b,0,none⟩) n n,.slice (some ⟨bw,0,none⟩) n n] 166,AV b C n,AV bw C n,blk ps [V c,Aa x.gen,Aa x.epoch,Aa x.pages,Aa x.start,Aa x.len,Aa x.head,Aa x.seq,u,.slice none 0 0,.bool false,.slice none 0 0] 128,rdkA c s F y]):=by
 intro z R w H;have a5:=GO hn.1;have a4:=Ee hn.2;replace H:=(FS H).l3;have l:=imP.nil (λ_=>none);refine Af func98 Z ntmps98 Z (Z2 14 [1,3,1,0] H Z (k_updA 16 (v:=Aa (n:Int)) Z (congrArg Aa g) (AA Z (call93 _) (Np n U) H ?_)));rintro _ w _ ⟨a,b,bw,rfl,rfl⟩ H;refine Za 1 [] H Z ?_;intro o w H;refine Z2 10 [1,3,5,0] H Z (k_updA 24 (v:=Aa (n:Int)) Z (congrArg Aa g) (Ah Z (call94 _) (Gr _ U) H ?_));intro w H;refine Zc 15 Z ?_;refine Aq (σ:=Nat) (λi=>[(7,Aa (i:Int)),(6,.bool false),(0,V ps),(4,V o),(5,Aa (manyN n:Int))])
   (λi w=>Sep z (blk o [V ps,V a,.slice none 0 0] 76::blk a [.slice (some ⟨b,0,none⟩) n n,.slice (some ⟨bw,0,none⟩) n n] 166::AV b (LC C i) n::AV bw (LC C i) n::poolA (λ_=>none)::blk ps [V c,Aa x.gen,Aa x.epoch,Aa x.pages,Aa x.start,Aa x.len,Aa x.head,Aa x.seq,u,.slice none 0 0,.bool false,.slice none 0 0] 128::rdkA c s F y::R) w/\(i<=manyN n+1)) (λi=>manyN n+1-i) 0
   fr_z ⟨(by rw[Nd];exact H),Ye _⟩ ?_
 clear H;rintro i w ⟨t,m⟩;have H:=t.l7;have a0:=m;clear m;refine Z0 8 [0] Z (Ag Z (λh1=>?_) (λh1=>?_))
 ·refine Zc 8 Z (AA Z (call32 _) (P9 _ _ _ _ _ _ _ [] [] _ l l _ _ F (P7 C n cb i) (Hk a1 U) (by rw[Cu];omega) U (λe he=>nomatch he) (λe he=>nomatch he) (by rw[Cu,show (2+((i:Nat):Int)).toNat=2+i by omega];exact f _ U) _ (Cu _ _ _ _)) H.f4.f6.f6 ?_);rintro _ w _ ⟨bv,rfl,rfl⟩ H;have a2:=H.sy 0 (·.slc)
  obtain ⟨bo,bc,rfl⟩:=a2;refine Za 3 [] H Z ?_;intro b2 w H;refine Z4 21 [0,4,0] H Z ?_;intro w H;refine Ag Z (λh2=>?_) (λh2=>?_)
  ·obtain rfl:i=0:=by omega
   refine Z2 6 [0,0,0] H Z (k_updA 45 (v:=Aa 1) Z Z (Z1 14 [4] [(0:Int)+1] Z U ?_));replace H:=H.f1.d.d.f1.f1.f2.f6.f6.f6.f6;refine gf ?_;intro _ f;refine ⟨(0+1),f.cz,⟨(by rw[PL];exact H),?_⟩,?_⟩
   ·omega
   omega
  obtain ⟨j,rfl⟩:∃j,i=j+1:=⟨i-1,by omega⟩;refine Z2 7 [0,0,0] H Z (k_updA 49 (v:=Aa 2) Z Z (Z0 7 [4] Z (Bo 8 J J (A8 H λw t=>?_))));have H:=t.l9;refine CC 8 [1,5,0,1,0,0] [(j:Int)] H Z J U (Ce (gw (Ah Z (call163 _) (Sq _ _ _ _ _ _ j U U _ (EF (B8 C n j)) _ (λh q=>by rw[Gn (Db C n j)];exact q.rd) (B8 C n j) (Db _ _ _) (Jk hC _ _) Z PO) H.f1.f8.f8.f8 ?_)));intro w H;dsimp only[AV] at H;rw[Sl] at H;refine Z1 18 [4] [((j+1):Int)+1] Z U ?_;replace H:=H.f4.d.f3.d.f4.f4.f5.f5.f5.f5.f6;refine gf ?_;intro _ f;refine ⟨(j+1+1),f.cz,⟨H,?_⟩,?_⟩
  ·omega
  omega
 obtain rfl:i=manyN n+1:=by omega
 refine Zc 2 Z (gx (Zc 4 Z ?_));dsimp only[AV] at H;rw[PN] at H;refine Zc 5 Z ?_;refine Aq (σ:=Nat) (λi=>[(10,Aa (i:Int)),(6,.bool false),(4,V o),(5,Aa (manyN n:Int))])
   (λi w=>Sep z (blk o [V ps,V a,.slice none 0 0] 76::blk a [.slice (some ⟨b,0,none⟩) n n,.slice (some ⟨bw,0,none⟩) n n] 166::AV b C n::AV bw C n::poolA (λ_=>none)::blk ps [V c,Aa x.gen,Aa x.epoch,Aa x.pages,Aa x.start,Aa x.len,Aa x.head,Aa x.seq,u,.slice none 0 0,.bool false,.slice none 0 0] 128::rdkA c s F y::R) w/\(i<=manyN n+1)) (λi=>manyN n+1-i) 0
   fr_z ⟨H,Ye _⟩ ?_
 clear H;rintro i w ⟨t,m⟩;have H:=t.l7;have a0:=m;clear m;refine Z0 8 [0] Z (Ag Z (λh3=>?_) (λh3=>?_))
 ·refine Z2 12 [1,0,0] H Z (Ah Z (call112 _) (J3 _ _ _ _ _ i U U) H.f2.f2 ?_);intro w H;refine k_updA 77 (v:=Aa 1) Z (congrArg Aa (by rw[r i U];rfl)) (Z1 11 [4] [(i:Int)+1] Z U ?_);replace H:=H.f6.f6.f6.f6.f5.f5.f6;refine gf ?_;intro _ f;refine ⟨(i+1),f.cz,⟨H,?_⟩,?_⟩
  ·omega
  omega
 obtain rfl:i=manyN n+1:=by omega
 refine Zc 2 Z (gx (Zc 14 Z (AA Z (call69 _) (N7 _ _ _ _ _ _ n _ _ _ _ _ _ _ _ U g) H.f5.f4.f4.f4.f4 ?_)));rintro _ w _ ⟨tv,rfl,rfl⟩ H;refine Zc 10 Z (Zr Z ?_);exact ⟨_,⟨o,a,b,bw,_,Z,Z⟩,H.pick 8 [0,1,2,3,4,5,7] Z⟩
set_option maxHeartbeats 4000000 in
theorem N8 (a b o n:Nat) (c7:o<=800000000) (j:b<=4096) (s l:Int) (hn:16<=n/\n<=1024) (g:(Bk (n:Int) s l 2).Ok (b:Int)):An 36 [V a,Aa (n:Int),Aa s,Aa l] [rdkA a b (λ_=>(List.replicate 256 (0:UInt8))) o] (λv G=>∃(cb:List UInt8) (m2:Nat),cb.length=240/\m2<=o+2000/\v=Aa 0/\G=[rdkA a b (EH n s l cb) m2]):=by
 intro z R w H;have b9:=RB g;have b8:64<=l:=g.2.2.2.2.1;have c2:=GO hn.1;have c6:=Ee hn.2;have b6:(0<=(Bf n s l).start/\(Bf n s l).start<=1099511627776)/\0<(Bf n s l).len/\(Bf n s l).len<=1099511627776:=by show (0<=s/\s<=1099511627776)/\0<l/\l<=1099511627776;omega
 have b5:0<=(Bf n s l).epoch/\(Bf n s l).epoch<4294967296:=by show (0:Int)<=1+1/\(1:Int)+1<4294967296;omega
 refine Af func36 Z ntmps36 Z (Zc 11 Z (Ah Z (call88 _) (P5 _ b _ n U j _ _ g) H ?_));intro w H;refine Z0 16 [4] Z (AA Z (call89 _) (L6 _ b _ U j (Jo n s l) (Bk (n:Int) s l 2) (Bk (n:Int) s l 1) (Bk (n:Int) s l 2) (Ta n s l) (WZ n s l) g (LB g) Z Z (.inr ⟨by show (1:Int)<=2;omega,Z⟩) U Z (by show (2:Int)<1099511627776;omega) (by show (1:Int)<4294967296;omega) [] O (λr h=>nomatch h) (by show (1:Int)+((0:Nat):Int)<1099511627776;omega) (λi r h=>by simp at h) (Sk U U)) H ?_);rintro _ w _ ⟨ps,m,b4,t,b7,rfl,rfl⟩ H;obtain rfl:b4=[]:=List.map_eq_nil_iff.1 t;rw[Wo] at H;have p:Sep z (blk ps [V a,Aa ((Bf n s l).gen),Aa ((Bf n s l).epoch),Aa ((Bf n s l).pages),Aa ((Bf n s l).start),Aa ((Bf n s l).len),Aa ((Bf n s l).head),Aa ((Bf n s l).seq),V m,.slice none 0 0,.bool false,.slice none 0 0] 128::blk m [V a,Aa ((Bf n s l).gen),Aa ((Bf n s l).epoch),Aa ((Bf n s l).pages),Aa ((Bf n s l).start),Aa ((Bf n s l).len),Aa ((Bf n s l).head),Aa ((Bf n s l).seq),Aa 0,Aa 1,Aa 0,.bool false] 249::rdkA a b (HY n s l) (o+n+2+([]:List ImE).length+1)::R) w:=H;clear H;have H:=p.l3;replace H:=(FS H).l4;have a5:=imP.nil (λ_=>none);refine Z0 20 [4] Z (Ah Z (call90 _) (P1 _ _ (Bf n s l) _ _ _) H.f1 ?_);intro w H;refine Zc 4 Z (AC Z (Nc (k:=8) (out:=FU) H Z J EB Z Z U J) ?_);rintro _ w ⟨b1,rfl,H⟩;refine Zc 1 Z (AA Z (call91 _) (PS _ _ (λh q=>q.rd U U (by simp[FU]) (by simp[FU]))) H ?_);rintro _ w _ ⟨u1,cb,c,rfl,rfl⟩ H;rw[c] at H;have a9:=H.sy 0 (·.slc);obtain ⟨d3,c3,rfl⟩:=a9;refine Zc 12 Z (AA Z (call92 _) (Ky _ _ (Bf n s l) _ _ _ [] _ a5 O (FK n cb 0) (Hk c U) (by rw[Cu];show ((0:Nat):Int)<(n:Int);omega) (λe he=>nomatch he) _ _ (λh q=>q.rd)) H.f3.f3 ?_);rintro _ w _ ⟨a1,a0,y,c0,u,rfl,rfl⟩ H;refine Zc 5 Z ?_;have x:=P8 (n:=n) (cb:=cb) (k:=0) (own:=[]) Z a0;generalize BI [] (FK n cb 0,a0)=own0 at u x;refine Z0 9 [4] Z ?_;replace H:=(H.pick 6 [0,1,3,4,5] Z).l5;refine Zc 2 Z (AA Z (call93 _) (Np n U) H ?_);rintro _ w _ ⟨pc,bn,bw,rfl,rfl⟩ H;refine Zc 10 Z ?_;refine Aq (σ:=Nat) (λi=>[(14,Aa (i:Int)),(1,Aa (n:Int)),(8,Aa 0),(9,Aa 0),(10,V ps),(13,V pc)])
   (λi w=>Sep z (blk pc [.slice (some ⟨bn,0,none⟩) n n,.slice (some ⟨bw,0,none⟩) n n] 166::AV bn (C1 i) n::AV bw (λ_=>0) n::blk ps [V a,Aa ((Bf n s l).gen),Aa ((Bf n s l).epoch),Aa ((Bf n s l).pages),Aa ((Bf n s l).start),Aa ((Bf n s l).len),Aa ((Bf n s l).head),Aa ((Bf n s l).seq),V m,.slice none 0 0,.bool true,a1] 128::poolA y::blk b1 FU 207::blk m [V a,Aa ((Bf n s l).gen),Aa ((Bf n s l).epoch),Aa ((Bf n s l).pages),Aa ((Bf n s l).start),Aa ((Bf n s l).len),Aa ((Bf n s l).head),Aa ((Bf n s l).seq),Aa 0,Aa 1,Aa 0,.bool false] 249::rdkA a b (HY n s l) (o+n+2+([]:List ImE).length+1)::R) w/\(i<=manyN n+1)) (λi=>manyN n+1-i) 0
   fr_z ⟨(by rw[JW];exact H),Ye _⟩ ?_
 clear H;rintro i w ⟨p,hI⟩;have H:=p.l8;have b0:=hI;clear hI;have a3:C1 i i=0:=by simp[C1]
 refine Zc 5 Z (Ah Z (call94 _) (Gr _ U) H ?_);intro w H;refine Z0 3 [0] Z (Ag Z (λh1=>?_) (λh1=>?_))
 ·refine Zc 7 Z (Ah Z (call95 _) (UQ _ _ _ _ (C1 i) i 1 1 U U (by rw[a3];rfl) U (by rw[a3];omega)) H ?_);intro w H;refine Z1 8 [] [(i:Int)+1] Z U (gf ?_);intro _ hF;refine ⟨(i+1),hF.cz,⟨(by rw[<-JV];exact H),?_⟩,?_⟩
  ·omega
  omega
 obtain rfl:i=manyN n+1:=by omega
 refine Zc 2 Z (gx (Zc 9 Z ?_));refine Aq (σ:=Nat×Value×List ImE×Hp) (λ⟨i,ov,own,hq⟩=>[(15,Aa (i:Int)),(1,Aa (n:Int)),(9,Aa 0),(10,V ps),(13,V pc)])
   (λ⟨i,ov,own,hq⟩ w=>Sep z (blk pc [.slice (some ⟨bn,0,none⟩) n n,.slice (some ⟨bw,0,none⟩) n n] 166::AV bn (C1 (manyN n+1)) n::AV bw (λ_=>0) n::blk ps [V a,Aa ((Bf n s l).gen),Aa ((Bf n s l).epoch),Aa ((Bf n s l).pages),Aa ((Bf n s l).start),Aa ((Bf n s l).len),Aa ((Bf n s l).head),Aa ((Bf n s l).seq),V m,.slice none 0 0,.bool true,ov] 128::poolA hq::blk b1 FU 207::blk m [V a,Aa ((Bf n s l).gen),Aa ((Bf n s l).epoch),Aa ((Bf n s l).pages),Aa ((Bf n s l).start),Aa ((Bf n s l).len),Aa ((Bf n s l).head),Aa ((Bf n s l).seq),Aa 0,Aa 1,Aa 0,.bool false] 249::rdkA a b (HY n s l) (o+n+2+([]:List ImE).length+1)::R) w/\(i<=manyN n/\imP ov own hq/\own.map Prod.fst=Ci n cb (i+1))) (λ⟨i,ov,own,hq⟩=>manyN n-i) ⟨0,a1,own0,y⟩
   fr_z ⟨H,⟨Ye _,u,x⟩⟩ ?_
 clear H;rintro ⟨i,ov,own,hq⟩ w ⟨p,hI⟩;dsimp only at hI p ⊢;have H:=p.l8;obtain ⟨b0,a2,f⟩:=hI;have c8:=KA f;refine Zc 5 Z (Ah Z (call94 _) (Gr _ U) H ?_);intro w H;refine Z0 3 [0] Z (Ag Z (λh2=>?_) (λh2=>?_))
 ·refine Z1 11 [] [((i+1:Nat):Int)] Z U (AA Z (call96 _) (Sp _ _ _ _ _ i U U (Jl _)) H ?_);rintro u2 w _ ⟨_,rfl,rfl⟩ H;rw[show (EF (B8 (C1 (manyN n+1)) n i)).length=240 from Gn (Db _ _ _)] at H;have a6:=H.sy 0 (·.slc)
  obtain ⟨c9,c4,rfl⟩:=a6;refine Zc 1 Z (AA Z (call92 _) (Ky _ _ (Bf n s l) _ _ _ own _ a2 U (FK n cb (i+1)) (Hk c U) (by rw[Cu];show ((i+1:Nat):Int)<(n:Int);omega) (W5 f) _ _ (λh q=>q.rd)) H.f5.f5 ?_);rintro _ w _ ⟨a7,a4,a8,d1,b2,rfl,rfl⟩ H;refine Zc 4 Z ?_;have b3:=P8 f a4;refine Z1 14 [4] [(i:Int)+1] Z U ?_;replace H:=H.f2.d.f7.f7.f7.f4.f4.f7.f7.f7;refine gf ?_;intro _ hF;refine ⟨⟨i+1,a7,BI own (FK n cb (i+1),a4),a8⟩,hF.cz,⟨H,?_⟩,?_⟩
  ·exact ⟨by show i+1<=manyN n;omega,b2,b3⟩
  (dsimp only;omega)
 obtain rfl:i=manyN n:=by omega
 refine Zc 2 Z (gx (Zc 5 Z (AA Z (call97 _) (N5 _ _ _ (Bf n s l) _ _ 0 1 0 own [] _ a2 (imP.nil _) b _ (by rw[X3];omega) j (HY n s l) b6 b5 U U O (Wk (by rw[f];exact IK _ _ _)) (by show 0<=(0:Int)/\0+1+(own.length:Int)<=l;omega) (by show 0<=(0:Int)/\0+1+(own.length:Int)<=l;omega) (by show s+l<=(b:Int);omega)) H.f4.f7.f7.f6 ?_)));rintro _ w _ ⟨c5,c1,d0,d2,rfl,rfl⟩ H;rw[Wp c hn.2 f] at H;refine Z0 16 [4] Z (Ah Z (call59 _) (Sh _ _ (Bf n s l) _ _ _ b _ _) H.f2.f1 ?_);intro w H;refine Zc 4 Z (Zr Z ?_);exact ⟨_,⟨cb,_,c,by rw[X3];omega,Z,Z⟩,H.pick 8 [1] Z⟩
def pkI(c:Int)(N:Nat):Nat:=((if c<0 then -(c+1) else c).tmod N).toNat
theorem Wq(c:Int){N:Nat}(h:0<N):pkI c N<N:=by
 unfold pkI;have a:(0:Int)<=if c<0 then -(c+1) else c:=by split<;>omega
 have b:=AaC (if c<0 then -(c+1) else c) (by omega:(0:Int)<(N:Int));have d:=Aa2 (N:Int) a;omega
def FW(kd fl:Int):Pg:=⟨kd,List.replicate 240 (EJ fl)⟩
theorem Jq{a:Int}(b:Int)(h:1<=a/\a<=5):(FW a b).Ok:=⟨h,by simp[FW]⟩
theorem HK(b a:Int):(FW b a).body.length=240:=by simp[FW]
theorem Qb(i:Nat)(x y:UInt8)(a:i<240):((List.replicate i x++List.replicate (240-i) y).map u8).take i++[u8 x]++((List.replicate i x++List.replicate (240-i) y).map u8).drop (i+1)=(List.replicate (i+1) x++List.replicate (240-(i+1)) y).map u8:=by
 rw[Yi,X7 O,XZ O,Yy,Yj O,Ym];simp only[ZA,X4,ZJ];rw[show 240-i-(i+1-i)=240-(i+1) from by omega,Yi,ZA,ZA,List.replicate_succ',X1]
theorem US(c:Int)(N:Nat)(f: -9223372036854775808<=c/\c<=9223372036854775807)(hN:0<N/\N<=1099511627776):An 8 [Aa c,Aa (N:Int)] [] (λv G=>v=Aa (pkI c N:Int)/\G=[]):=by
 intro z R w H;refine Af func8 Z ntmps8 Z (Z0 12 [0] Z (Ag Z (λe=>?_) (λe=>?_)))
 ·refine Z1 3 [] [c+1] Z U (Ae Z (Mu Z Z (r:= -(c+1)) U U) (Zc 7 Z (Ae Z (KD Z Z Z U) ?_)))
  have b:=Aa2 (N:Int) (show 0<= -(c+1) by omega);refine Zc 4 Z (Zr Z ?_);have d:(-(c+1)).tmod (N:Int)=(pkI c N:Int):=by unfold pkI;rw[if_pos U];omega
  exact ⟨_,⟨congrArg Aa d,Z⟩,H⟩
 refine Zc 6 Z (Ae Z (KD Z Z Z U) ?_);have b:=Aa2 (N:Int) (show 0<=c by omega);refine Zc 4 Z (Zr Z ?_);have d:c.tmod (N:Int)=(pkI c N:Int):=by unfold pkI;rw[if_neg U];omega
 exact ⟨_,⟨congrArg Aa d,Z⟩,H⟩
theorem HL(m h c a j:Int)(d:Value)(q:d.oneCell'=true):An 13 [.agg #[Aa m,Aa h,Aa c,Aa a,Aa j,d]] [] (λv G=>∃b,v=.agg #[Aa c,.slice (some ⟨b,0,none⟩) 240 240]/\G=[blk b ((FW c a).body.map u8) 5]):=by
 intro z R w H;refine Af func13 Z ntmps13 Z (Za 2 [] H Z ?_);intro g w H;refine Za 0 [] H Z ?_;intro l w H;refine Zc 4 Z (AC Z (C5 (k:=240) H Z J A2 Z Z Z U) ?_);rintro _ w ⟨e,rfl,H⟩;refine Zc 10 Z ?_;refine Aq (σ:=Nat) (λi=>[(4,Aa (i:Int)),(1,V g),(2,V l),(3,.slice (some ⟨e,0,none⟩) 240 240)])
   (λi w=>Sep z (blk e ((List.replicate i (EJ a)++List.replicate (240-i) (0:UInt8)).map u8) 5::blk l [Aa 0,.slice none 0 0] 40::blk g [Aa m,Aa h,Aa c,Aa a,Aa j,d] 43::R) w/\(i<=240)) (λi=>240-i) 0
   fr_z ⟨(by simpa [u8] using H),by omega⟩ ?_
 clear H;rintro i w ⟨n,f⟩;have H:=n.l3;have r:=f;clear f;refine Z0 9 [0] Z (Ag Z (λp=>?_) (λp=>?_))
 ·refine Z2 9 [3,2,0] H Z (Ae Z (KF Z J Z) (Z1 1 [1,i,i] [] Z U (A0 Z Z (AE 0 H Z Z Z Z (vs:=[u8 (EJ a)]) Z (by simp[u8,u32,Value.oneCell']) J (by simp;omega) (out:=((List.replicate (i+1) (EJ a)++List.replicate (240-(i+1)) (0:UInt8)).map u8)) (Qb i _ _ U)) ?_)));rintro w H;refine Z1 8 [] [(i:Int)+1] Z U (gf ?_);intro _ o;refine ⟨(i+1),o.cz,⟨H,?_⟩,?_⟩
  ·omega
  omega
 obtain rfl:i=240:=by omega
 refine Zc 2 Z (gx (Z4 12 [2,2,0,1] H Z ?_));intro w H;refine Zl [1,2] H Z ?_;rw[show (List.replicate 240 (EJ a)++List.replicate (240-240) (0:UInt8)).map u8=(FW c a).body.map u8 from by simp[FW]] at H;exact ⟨_,⟨e,Z,Z⟩,H.pick 3 [0] Z⟩
theorem Qc{n:Nat}{bs:List UInt8}(b:bs.length=256){M:Nat->Pg}(a:M=ED (λ_=>DM) (some (gF n (bs.take 240) (manyN n),1+manyN n))):M 0=⟨1,bs.take 240⟩/\∀i,i<manyN n->M (1+i)=CK (C1 (manyN n+1)) n i:=by
 subst a;refine ⟨Z,λi c=>?_⟩;simp only[ED,gF];rw[if_neg U,if_pos U,show 1+i-1=i by omega];rfl
theorem Jr{n:Nat}(h:16<=n/\n<=298):(Bk (n:Int) 300 90 2).Ok ((400:Nat):Int):=
 Sup.ok_mk (by show 0<=(2:Int)/\(2:Int)<=1099511627776;omega) (by show 0<=(1:Int)/\(1:Int)<=1099511627776;omega) (by show 16<=(n:Int)/\(n:Int)<=1024;omega) (by show 2+(n:Int)<=300/\(300:Int)<=1099511627776;omega) (by show 64<=(90:Int)/\(90:Int)<=1099511627776;omega) (by show 0<=(0:Int)/\(0:Int)<90;omega) (by show 0<=(1:Int)/\(1:Int)<=1099511627776;omega) (by show (300:Int)<=((400:Nat):Int)-90/\(90:Int)<=((400:Nat):Int);omega)
set_option maxHeartbeats 2000000 in
theorem UT (pb pd s n:Nat) (c:16<=n/\n<=298) (Tb:Ai) (hT:F2 Tb) (r:Dsk) (a:StG) (bs:List UInt8) (a1:bs.length=256) (hO:OInv r a.x a.B (λb=>b=a.rs)) (u:Clean r) (y:a.x.gen<=((5:Nat):Int)/\a.x.epoch<=((5:Nat):Int)) (h:a.x.pages=n) (hM:a.M=ED (λ_=>DM) (some (gF n (bs.take 240) (manyN n),1+manyN n))) (cb:List UInt8) (f:cb.length=240) (m2:Nat) (a3:m2<=4000):An 37 [V pb] [blk pb [V pd,V s,.pointer none,.pointer none] 32,diskA pd r,Tb,rdkA s 400 (EH n 300 90 cb) m2] (λv G=>∃(pp pq:Nat) (M0:Nat->Pg),v=.bool true/\G=[blk pb [V pd,V s,V pp,V pq] 32,poA Tb pp 6 n M0 (C1 (manyN n+1)) none]):=by
 intro z R w H;have d:16<=n/\n<=1024:=⟨c.1,by omega⟩;refine Af func37 Z ntmps37 Z (Z4 27 [2,0,3,0,0,0,0] H Z ?_);intro w H;refine AA Z (call30 _) (Pn _ _ _ _ _ _ hO u y U) H.f1 ?_;rintro _ w _ ⟨ps,D3,b,o,l,a4,rfl,rfl⟩ H;have a0:pgMap (ov b) a.B=a.M:=by rw[o];rfl
 obtain ⟨q,j⟩:=Qc (n:=n) a1 (a0.trans hM);refine Z2 13 [1,1,0] H Z (AA Z (call89 _) (L6 _ 400 _ U U (EH n 300 90 cb) (Bk (n:Int) 300 90 2) (Bf n 300 90) (Bf n 300 90) (W0 n 90 cb U) (W3 n 90 cb U) (Jr c) (Wl (Jr c)) Z Z (.inl ⟨by show (2:Int)<2+1;omega,Z⟩) U Z (by show (2:Int)+1<1099511627776;omega) (by show (1:Int)+1<4294967296;omega) (Dq n cb) (by simp[Dq]) (UP d.2 U) (by show (1:Int)+((1:Nat):Int)<1099511627776;omega) (W4 f d.2 U) (UN d.2 U U)) H.f3 ?_);rintro _ w _ ⟨pt,pl,a5,g,a2,rfl,rfl⟩ H;refine Z0 18 [4] Z (Ae Z (Va Z J Z Z) (Qm 41 Z Z (Zc 19 Z (AA Z (call31 _) (UD _ _ _ _ 6 n (C1 (manyN n+1)) l d h (bs.take 240) q j (λk=>Jl _ k) (λp hp=>by unfold C1;rw[if_pos U])) H.f3 ?_))));rintro _ w _ ⟨pp,pc,bn,m,pa,rfl,rfl⟩ H;refine Zc 10 Z (AA Z (call98 _) (Ss _ _ 400 _ n (BG (Bf n 300 90)) _ _ (C1 (manyN n+1)) d Z U cb f (λi hi=>UO g (by show (((2:Int)+1+1)%2).toNat<=1;decide) _ hi) (Jl _) (λp hp=>by unfold C1;rw[if_pos U])) H.f8.f7 ?_);rintro _ w _ ⟨pq,qc,qn,qw,tv,rfl,rfl⟩ H;refine Z4 35 [2,14,3,14,3] H Z ?_;intro w H;refine Ae Z (U9 Z J Z Z) (Xv 71 Z Z (Zc 5 Z (Zr Z ?_)));have H8:=(H.pick 16 [8,7,9,10,11,12,15,14] Z).toPo (X:=⟨ps,pd,pc,bn,m,pa,D3,(MT a.x (pgMap (ov b) a.B)),CP,[],0,BX,Tb⟩) (mb:=6) (n:=n) (M0:=pgMap (ov b) a.B) (C0:=C1 (manyN n+1)) (t:=none) ⟨d,l,h,⟨hT,Z⟩,λp _=>rfl,j,λk=>Jl _ k,λp hp=>(by unfold C1;rw[if_pos U]),λ_=>⟨Z,Z⟩,λ_ e=>(by cases e)⟩ Z;exact ⟨_,⟨_,_,_,Z,Z⟩,H8.pick 2 [1,0] Z⟩
set_option maxHeartbeats 2000000 in
theorem L9 (n:Nat) (a:16<=n/\n<=298) (Tb:Ai) (q:F2 Tb):An 9 [Aa (n:Int)] [Tb] (λv G=>∃(k pd c pp g:Nat) (M0:Nat->Pg),v=.tuple #[V k,.bool true]/\G=[blk k [V pd,V c,V pp,V g] 32,poA Tb pp 6 n M0 (C1 (manyN n+1)) none]):=by
 intro z R w H;have j:16<=n/\n<=1024:=⟨a.1,by omega⟩;refine Af func9 Z ntmps9 Z (Zc 8 Z (AA Z (call33 _) (VC 400) H ?_));rintro _ w _ (⟨e,rfl,rfl⟩|⟨_,pd,rfl,rfl⟩) s
 ·exact absurd U e
 have H:=s.l2;refine Zc 9 Z (AA Z (call34 _) (Wf 400 U) H ?_);rintro _ w _ ⟨c,rfl,rfl⟩ H;refine Za 31 [4] H Z ?_;intro o w H;refine Zc 7 Z (AA Z (call35 _) (PK _ 400 n _ _ j (Jr a)) H.f2 ?_);rintro _ w _ ⟨D2,G2,bs,i,l,d,f,r,h,p,rfl,rfl⟩ H;refine Zc 7 Z (AA Z (call36 _) (N8 _ 400 0 n U U 300 90 j (Jr a)) H.f2 ?_);rintro _ w _ ⟨cb,t,b,m,rfl,rfl⟩ H;refine Z0 17 [4] Z (AA Z (call37 _) (UT _ _ _ n a Tb q _ _ bs i l d f h p cb b t U) H.f3.f2.f3 ?_);rintro _ w _ ⟨pp,g,M0,rfl,rfl⟩ H;refine Zc 12 Z (Zr Z ?_);exact ⟨_,⟨o,pd,c,pp,g,M0,Z,Z⟩,H.pick 2 [0,1] Z⟩
theorem Qd(pp ps a c n:Nat)(x:Pg)(i:x.Ok)(b:Value)(B:Ai)(d:∀h,B h->rdH 1 b 240 (x.body.map u8) h):An 12 [V pp,.agg #[Aa x.kind,b]] [plB pp ps a c n false,B] (λv G=>v=.tuple #[Aa 0,Aa 18]/\G=[plB pp ps a c n false,B]):=by
 intro z R w H;obtain ⟨g,f,rfl⟩:=H.sy 1 (λq=>(d _ q).slc);refine Af func12 Z ntmps12 Z (Za 2 [] H Z ?_);intro e w H;refine Z2 22 [4,1,0] H Z (Zr Z ?_);exact ⟨_,⟨Z,Z⟩,H.perm 3 [1,2] Z Z⟩
theorem Qe(pp ps a b m c n:Nat)(C:Nat->Nat)(e:16<=n/\n<=1024)(p:Nat)(hp:p<n)(f:C p=0):An 15 [V pp,Aa (p:Int)] [plB pp ps a c n true,coB a b n m,AV b C n] (λv G=>v=Aa 2/\G=[plB pp ps a c n true,coB a b n m,AV b C n]):=by
 intro z R w H;refine Af func15 Z ntmps15 Z (Z2 25 [4,0,0,1,0,0] H Z (Ah Z (call50 _) (EG _ _ _ _ _ _ U U) H.f2.f2 ?_));intro w H;refine Z0 2 [0] Z (Am 20 Z (λd=>?_) (λd=>?_))
 ·refine Zc 18 Z (Zr Z ?_);exact ⟨_,⟨Z,Z⟩,H.perm 3 [2,0,1] Z Z⟩
 (exfalso;omega)
def fC(n:Nat)(ts:List Nat):Nat->Nat:=λp=>if p<manyN n+1\/p∈ts then 1 else 0
theorem Ws(n:Nat):fC n []=C1 (manyN n+1):=by funext p;simp[fC,C1]
theorem UU{n p:Nat}{a:List Nat}(h:B5 n (fC n a) p=true):p<n/\manyN n<p/\p∉a:=by
 have h':p<n/\fC n a p=0:=by simpa [B5] using h
 obtain ⟨c,b⟩:=h';unfold fC at b;by_cases h3:p<manyN n+1\/p∈a
 ·rw[if_pos h3] at b;omega
 exact ⟨c,Nat.lt_of_not_le (λq=>h3 (.inl U)),λq=>h3 (.inr q)⟩
section
section
variable{Tb:Ai}
variable{z w:World}{Γ:List Ai}{pp mb n:Nat}{M0:Nat->Pg}{C0:Nat->Nat}{t:Option PoT}{T:PoT}
theorem Sep.poTab(H:Sep z (poA Tb pp mb n M0 C0 t::Γ) w):F2 Tb/\Sep z (Tb::Γ) w:=by
 obtain ⟨X,a,H⟩:=H.po;refine ⟨a.tab.2▸a.tab.1,?_⟩;have h:=H.pick 7 [6] Z;rw[<-a.tab.2];exact h
theorem IL(pp mb n:Nat)(M0:Nat->Pg)(C0:Nat->Nat)(T:PoT)(x:Pg)(j:x.Ok)(b:Value)(B:Ai)(i:∀h,B h->rdH 1 b 240 (x.body.map u8) h)(c:T.k<40)(e:cnt T.F 0 1024≠0):
  An 12 [V pp,.agg #[Aa x.kind,b]] [poA Tb pp mb n M0 C0 (some T),B] (λv G=>∃p a:Nat,((T.F p=true/\∀q,q<p->T.F q=false)/\a<=T.k+1/\cnt (CA T.F p) 0 1024+1=cnt T.F 0 1024)/\v=.tuple #[Aa (p:Int),Aa 0]/\G=[poA Tb pp mb n M0 C0 (some ⟨Be T.M p x,Be T.C p 1,CA T.F p,a⟩),B]):=
 (UF pp mb n M0 C0 T x j b B i c).mono λv Γ h=>by
  rcases h with h|⟨p,a,f,d,g⟩
  ·exact absurd h.1 e
  exact ⟨p,a,f,d,g⟩
theorem St(pp mb n:Nat)(M0:Nat->Pg)(C0:Nat->Nat)(x:Pg)(e:x.Ok)(a:Value)(B:Ai)(d:∀h,B h->rdH 1 a 240 (x.body.map u8) h):
  An 12 [V pp,.agg #[Aa x.kind,a]] [poA Tb pp mb n M0 C0 none,B] (λv G=>v=.tuple #[Aa 0,Aa 18]/\G=[poA Tb pp mb n M0 C0 none,B]):=by
 intro z R w H;obtain ⟨X,b,H⟩:=H.po;refine Ret.mono (Cn.at (Qd pp X.ps X.pc X.pa n x e a B d) H 8 [0,7,1,2,3,4,5,6] Z Z) ?_;rintro v w' ⟨Γ',⟨rfl,rfl⟩,c⟩;exact ⟨_,⟨Z,Z⟩,(c.pick 8 [0,2,3,4,5,6,7,1] Z).toPo b Z⟩
theorem Su(pp mb n:Nat)(M0:Nat->Pg)(C0:Nat->Nat)(T:PoT)(p:Nat)(hp:p<n)(b:T.C p=0):
  An 15 [V pp,Aa (p:Int)] [poA Tb pp mb n M0 C0 (some T)] (λv G=>v=Aa 2/\G=[poA Tb pp mb n M0 C0 (some T)]):=by
 intro z R w H;obtain ⟨X,a,H⟩:=H.po;refine Ret.mono (Cn.at (Qe pp X.ps X.pc X.bn X.mm X.pa n T.C a.hn p hp b) H 7 [0,2,3,1,4,5,6] Z Z) ?_;rintro v w' ⟨Γ',⟨rfl,rfl⟩,c⟩;exact ⟨_,⟨Z,Z⟩,(c.pick 7 [0,3,1,2,4,5,6] Z).toPo a Z⟩
end
theorem HM{b:Nat}{xs:List Value}{ty:TypeId}{h:Hp}(a:blk b xs ty h)(c:xs.length=240):rdH 1 (.slice (some ⟨b,0,none⟩) 240 240) 240 xs h:=a.rd U U U (by simp;exact XZ U)
theorem Qf{F:Nat->Bool}{p q:Nat}(h:F p=true/\∀r,r<p->F r=false)(b:F q=true)(a:∀r,r<q->F r=false):p=q:=by
 rcases Zq p q with e|e|e
 ·have:=a p e;rw[h.1] at this;cases this
 ·exact e
 have:=h.2 q e;rw[b] at this;cases this
theorem EW{α:Type}(f:Nat->α)(p:Nat)(a b:α):Be (Be f p a) p b=Be f p b:=by
 funext q;unfold Be;split<;>rfl
theorem Xa:cnt (B5 16 (C1 (manyN 16+1))) 0 1024≠0:=by decide+kernel
theorem Xb:cnt (CA (B5 16 (C1 (manyN 16+1))) 2) 0 1024≠0:=by decide+kernel
theorem Xc(C:Nat->Nat):Be C 2 1 2=1:=CS C 2 1
theorem Xd:B5 16 (C1 (manyN 16+1)) 2=true:=by decide
theorem Wt:∀r,r<2->B5 16 (C1 (manyN 16+1)) r=false:=by decide
theorem Xe:CA (B5 16 (C1 (manyN 16+1))) 2 3=true:=by decide
theorem Wu:∀r,r<3->CA (B5 16 (C1 (manyN 16+1))) 2 r=false:=by decide
theorem UV:((cnt (B5 16 (Be (Be (Be (C1 (manyN 16+1)) 2 1) 2 0) 3 1)) 0 1024:Nat):Int)=13:=by decide+kernel
set_option maxHeartbeats 2000000 in
theorem Sv (Tb:Ai) (m:F2 Tb):An 16 [] [Tb] (λv G=>v=.bool true/\G=[Tb]):=by
 intro z R w H;replace H:=H.l1;refine Af func16 Z ntmps16 Z (Zc 7 Z (AA Z (call9 _) (L9 16 U Tb m) H ?_));rintro _ w _ ⟨o,pd,s,pp,t,M0,rfl,rfl⟩ H;replace H:=H.l2;refine Z2 35 [2,0,0,2,0,0] H Z (Ae Z (AR Z Z (out:=[Aa 0,Aa 0,Aa 5,Aa 3,Aa 0,.slice none 0 0]) J) (Za 0 [] H Z ?_));intro r w H;refine Z4 7 [0,0,6] H Z ?_;intro w H;refine AA Z (call13 _) (HL _ _ 5 3 _ (.slice none 0 0) Z) H ?_;rintro _ w _ ⟨l,rfl,rfl⟩ H;replace H:=H.l4;refine Ah Z (call12 _) (St _ _ _ _ _ (FW 5 3) (Jq 3 U) _ _ (λh q=>HM q (by rw[X8];exact HK _ _))) H.f3 ?_;intro w H;replace H:=H.l4;refine Zc 10 Z (Ah Z (call11 _) (HH _ _ _ _ _) H ?_);intro w H;replace H:=H.l4;refine Z2 7 [2,6] H Z (AA Z (call13 _) (HL _ _ 5 3 _ (.slice none 0 0) Z) H ?_);rintro _ w _ ⟨j,rfl,rfl⟩ H;replace H:=H.l5;refine AA Z (call12 _) (IL _ _ _ _ _ _ (FW 5 3) (Jq 3 U) _ _ (λh q=>HM q (by rw[X8];exact HK _ _)) (by show (0:Nat)<40;omega) (by exact Xa)) H.f1 ?_;rintro _ w _ ⟨p,e,⟨d,a,g⟩,rfl,rfl⟩ H;replace H:=H.l5;obtain rfl:p=2:=Qf d (by exact Xd) (by exact Wt);refine Zc 3 Z (k_updA 46 (v:=Aa 2) Z Z (Zc 8 Z (Ah Z (call15 _) (PP _ _ _ _ _ _ 2 (by decide) (by exact Xc (C1 (manyN 16+1)))) H ?_)));intro w H;replace H:=H.l5;refine Z2 7 [3,6] H Z (AA Z (call13 _) (HL _ _ 5 3 _ (.slice none 0 0) Z) H ?_);rintro _ w _ ⟨k,rfl,rfl⟩ H;replace H:=H.l6;refine AA Z (call12 _) (IL _ _ _ _ _ _ (FW 5 3) (Jq 3 U) _ _ (λh q=>HM q (by rw[X8];exact HK _ _)) (by show e<40;have:e<=0+1:=a;omega) (by exact Xb)) H.f1 ?_;rintro _ w _ ⟨n,f,⟨b,c,i⟩,rfl,rfl⟩ H;replace H:=H.l6;obtain rfl:n=3:=Qf b (by exact Xe) (by exact Wu);refine Zc 3 Z (k_updA 56 (v:=Aa 3) Z Z (Zc 7 Z (Ah Z (call14 _) (GP _ _ _ _ _ _ (by show f+manyN 16<=40;have:e<=0+1:=a;have:f<=e+1:=c;have:manyN 16=1:=rfl;omega) U) H ?_)));intro w H;replace H:=H.l6;refine Z0 37 [3,3,3,3,3,3,3,3] Z (Ah Z (call10 _) (LY _ _ _ _ _ _) H ?_);intro w H;replace H:=H.l6;refine k_updA 92 (v:=Aa 13) Z (congrArg Aa UV) (Z0 4 [3] Z (Ah Z (call18 _) (JX _ _ _ _ _ _ 3 U) H ?_));intro w H;replace H:=H.l6;refine k_updA 97 (v:=Aa 1) Z Z (Z0 6 [3] Z (Zr Z ?_));exact ⟨_,⟨Z,Z⟩,((H.pick 6 [0] Z).poTab).2⟩
end
section
open Go.ChangeShapes Go.WideShapes Go.ChangeAt Go.RowKit Go.Joins
theorem own:ownKnob prog.godebug=none:=by kernel_rfl
theorem UW:laidOutB prog=true:=by kernel_rfl
def KM:DataW Unit->List Value
 | .lit (.int k n)=>[.int k n]
 | .agg parts=>flatWs parts
 | _=>[]
where flatWs:List (DataW Unit)->List Value
 | []=>[]
 | d::ds=>KM d++flatWs ds
def Sw:Obj->Obj
 | .cells c t frozen=>.cells (if c.size=32 then (KM Rows.laid_unicode_utf8_acceptRanges).toArray else if c.size=64 then (KM Rows.laid_math_bits_deBruijn64tab).toArray else (KM Rows.laid_unicode_utf8_first).toArray) t frozen
 | o=>o
noncomputable def Hl(os:Os):World:=
 {World.holding prog os ⟨#[],#[],[]⟩ with heap:=(((World.holding prog os ⟨#[],#[],[]⟩).heap.modify 0 Sw).modify 1 Sw).modify 2 Sw}
theorem Ia{α:Type}(P:Nat->α->Prop):∀n,(∀i,i<n->∃a,P i a)->∃l:List α,l.length=n/\∀i a,l[i]?=some a->P i a
 | 0,_=>⟨[],Z,λi a h=>by simp at h⟩
 | n+1,h=>by
  obtain ⟨l,hl,hp⟩:=Ia P n (λi e=>h i U);obtain ⟨a,d⟩:=h n U;refine ⟨l++[a],by simp[hl],λi b c=>?_⟩;rcases Yg i n with q|q
  ·rw[Yb U] at c;exact hp i b c
  rw[Ya U] at c;obtain rfl:i=n:=by have:=(XU.1 c).1;simp at this;omega
  simp[hl] at c;subst c;exact d
abbrev Xf(x:Int):Prop:= -9223372036854775808<=x/\x<=9223372036854775807
theorem Xg{n:Int}(h:(Lit.int .i64 n).wf=true):Xf n:=by
 simp only[Lit.wf,Yk,decide_eq_true_eq] at h;have a:IntKind.i64.min= -9223372036854775808:=by decide
 have b:IntKind.i64.max=9223372036854775807:=by decide
 rw[a,b] at h;exact h
theorem Sx{H:Type}(d:DataW H):1<=Rows.uptoBulk d:=by
 cases d with
 | lit l=>cases l<;>simp[Rows.uptoBulk]
 | nil=>simp[Rows.uptoBulk]
 | ptr d=>simp[Rows.uptoBulk]
 | slice elems spare=>simp[Rows.uptoBulk]
 | agg parts=>simp[Rows.uptoBulk]
 | iface t d=>simp[Rows.uptoBulk]
 | map entries=>simp[Rows.uptoBulk]
 | held h=>simp[Rows.uptoBulk]
theorem Sy{H:Type}(l:List (DataW H)):l.length<=Rows.uptoBulkAll l:=by
 induction l with
 | nil=>simp
 | cons x r ih=>have:=Sx x;simp only[Rows.uptoBulkAll,XY];omega
theorem Sz:prog.cellsOf 4=1:=by kernel_rfl
theorem SA{H:Type}{enc:TypeId×Value->H}{W:World}{fuel:Nat}{v:Value}{d:DataW H}{p:List MemPlace}(h:DataW.trod enc prog W 0 (λ_=>true) true fuel 47 [v]=some (d,p)):
  ∃es:List Bool,Rd 1 v es.length (es.map Value.bool) W/\es.length<=Rows.uptoBulk d:=by
 rcases DataW.trod_slice underlying47 h with ⟨f,_⟩|⟨a,a0,x,c,rest,n,rfl,f,hx,_,a4,s,a2,hg,_,_⟩
 ·simp only[Aap,and_true] at f;subst f
  exact ⟨[],by simpa using Rd.nil 1 W,by simp⟩
 simp only[Aap,and_true] at f;subst f;have hd:d=.slice (c.map (·.1)) (rest.map (·.1)):=by have:=congrArg Prod.fst hx;simpa using this
 obtain ⟨es,m,hP⟩:=Ia (λi (e:Bool)=>W.cell? (a.add (i*1))=some (.bool e)) a0 (λi hi=>by
  have t:=hg i hi;rw[Sz] at t;obtain ⟨y,hy⟩:∃y,c[i]?=some y:=⟨_,XV U⟩;rw[hy,Option.bind_eq_some_iff] at t;obtain ⟨cs,q,ht⟩:=t;obtain ⟨z,e,_⟩:=DataW.trod_bool underlying4 ht;subst e;refine ⟨z,?_⟩;have h9:=(World.cells?_some q).2.2 0 U;obtain ⟨ab,ao,a3⟩:=a;simpa [Addr.add] using h9)
 refine ⟨es,⟨some a,x,by rw[m],by omega,(by unfold maxLen at s;omega),by simp,λk u hk=>?_⟩,?_⟩
 ·rw[X9] at hk
  obtain ⟨e,h1,rfl⟩:=ZP.1 hk;have q:=hP k e h1;obtain ⟨b,l,g⟩:=a;have j:g=none:=by
   have a1:=(XU.1 h1).1;obtain ⟨o,w⟩:∃o,es[0]?=some o:=⟨_,XV U⟩;have r:=hP 0 o w;have h0:W.cell? ⟨b,l,g⟩=some (.bool o):=by simpa [Addr.add] using r
   exact World.cell?_spot h0
  subst j;refine ⟨b,l,Z,?_⟩;unfold EI;rw[Go.WideShapes.add_plain,YR] at q;exact q
 rw[m,hd];have:=Sy (c.map (·.1));simp only[Rows.uptoBulk,X8] at this ⊢;omega
theorem Xh(l:List Bool):∀u∈l.map Value.bool,∀x,u≠ .int .u8 x:=λu a x=>by
 obtain ⟨y,_,rfl⟩:=X5.1 a;simp

theorem Wv:prog.globalNamed "math/bits.deBruijn64tab"=some 0:=by kernel_rfl
theorem SB:(prog.globals[0]?).map (·.type)=some 220:=by kernel_rfl
theorem UX:prog.cellsOf 220=64:=by kernel_rfl
theorem UY:prog.cellsOf 5=1:=by kernel_rfl
def tzL:List Int:=Lib.deBruijn64tab.map Int.ofNat
theorem N9{W:World}(h:laidMetH prog Rows.poolRefsUptoRow.laid W):Lib.TabIs prog W "math/bits.deBruijn64tab" .u8 tzL:=
 Lib.tabIs_of_head (rest:=[("unicode/utf8.acceptRanges",Rows.laid_unicode_utf8_acceptRanges),("unicode/utf8.first",Rows.laid_unicode_utf8_first)]) Wv SB underlying220 underlying5 UY UX h
theorem J4{W:World}(h:Lib.TabIs prog W "math/bits.deBruijn64tab" .u8 tzL):∃t a,W.heap[0]?=some (.cells (tzL.map λz=>Value.int .u8 z).toArray t a):=by
 unfold Lib.TabIs World.var? at h;rw[Wv] at h;simp only[Aai] at h
 cases e:W.heap[0]? with
 | none=>rw[e] at h;cases h
 | some o=>
  rw[e] at h;cases o<;>simp at h;subst h;exact ⟨_,_,Z⟩
def HN(W:World):Ai:=λh=>∀k,k<W.heap.size->k≠0->h k=W.heap[k]?
def Ma(W:World):Ai:=λh=>h 0=W.heap[0]?
theorem Ww:(List.range 64).all (λj=>tzL[j]? == some ((PA j).toNat:Int))=true:=by decide+kernel
theorem Xi{W:World}(a:Lib.TabIs prog W "math/bits.deBruijn64tab" .u8 tzL):F2 (Ma W):=λh f j c=>by
 obtain ⟨t,b,e⟩:=J4 a;have:=Aaj.1 Ww j (Y2.2 c);have d:tzL[j]?=some ((PA j).toNat:Int):=by simpa using this
 exact ⟨_,t,b,(show h 0=_ from f).trans e,by simp[d,u8]⟩
theorem UZ{W:World}(a:Lib.TabIs prog W "math/bits.deBruijn64tab" .u8 tzL):0<W.heap.size:=by
 obtain ⟨t,b,e⟩:=J4 a;rcases Aad W.heap.size with q|q
 ·rw[Yu U] at e;cases e
 exact q
theorem Qg{W:World}(i:Lib.TabIs prog W "math/bits.deBruijn64tab" .u8 tzL){b o:Nat}{v:Value}(a:EI b o v W)(k:∀x,v≠ .int .u8 x):∀h,HN W h->celH h b o v:=λh j=>by
 have d:b≠0:=λe=>by
  subst e;obtain ⟨t,f,e⟩:=J4 i;unfold EI World.cell? at a;rw[e] at a;simp at a;obtain ⟨z,_,g⟩:=a;exact k _ g.symm
 unfold EI World.cell? at a
 cases hh:W.heap[b]? with
 | none=>rw[hh] at a;simp at a
 | some o'=>
  rw[hh] at a
  cases o' with
  | cells cs ty f=>
   simp at a;have c:b<W.heap.size:=by
    rcases Yg b W.heap.size with q|q
    ·exact q
    rw[Yu q] at hh;cases hh
   exact ⟨cs,ty,f,(j b c d).trans hh,a⟩
  | _=>simp at a
theorem SC{sz:Nat}{v:Value}{n:Nat}{xs:List Value}{W:World}(d:Lib.TabIs prog W "math/bits.deBruijn64tab" .u8 tzL)(r:Rd sz v n xs W)(q:∀u∈xs,∀x,u≠ .int .u8 x):∀h,HN W h->rdH sz v n xs h:=λh k=>by
 obtain ⟨o,c,e,l,i,m,f⟩:=r;exact ⟨o,c,e,l,i,m,λj u a=>by
  obtain ⟨b,p,g,s⟩:=f j u a;exact ⟨b,p,g,Qg d s (q u (XW a)) h k⟩⟩
theorem Nq{h:Hp}{own:Nat->Nat}{i k:Nat}{o:Obj}(e:h.part own i k=some o):h k=some o:=by
 unfold Hp.part at e;split at e
 ·exact e
 cases e
theorem Cn.run2{P:Program}{f:FuncId}{args:List Value}{W:World}{u:Value}(n:0<W.heap.size)(h:Cn P f args [HN W,Ma W] (λv G=>v=u/\G=[HN W,Ma W])):Calls P f args.toArray W (Ret λv W'=>v=u/\Ext No W W'):=by
 have l:Sep W [HN W,Ma W] W:=⟨Z,Z,Z,λq=>if q=0 then 1 else 0,λi A a=>by
  match i,a with
  | 0,a=>cases a;intro k c g;simp[Hp.part,hp,g]
  | 1,a=>cases a;show Hp.part _ _ _ 0=_;simp[Hp.part,hp]⟩
 refine Ret.mono (h W [] W l) ?_;rintro v W' ⟨Γ,⟨rfl,rfl⟩,H⟩;obtain ⟨own,b⟩:=H.own;have m:=b 0 _ Z;have j:=b 1 _ Z;have d:∀k,k<W.heap.size->hp W' k=W.heap[k]? :=λk c=>by
  obtain ⟨o,e⟩:∃o,W.heap[k]?=some o:=⟨_,Z7 c⟩;rw[e];by_cases q:k=0
  ·subst q;exact Nq ((show _=_ from j).trans e)
  exact Nq ((m k c q).trans e)
 have H2:Sep W [base W] W':=⟨H.os,H.tape,H.output,λk=>if k<W.heap.size then 0 else 1,λi A a=>by
  match i,a with
  | 0,a=>cases a;intro k c;unfold Hp.part;rw[if_pos (by simp[c])];exact d k c⟩
 exact ⟨Z,Sep.done 0 H2 Z⟩
section
variable{H:Type}{enc:TypeId×Value->H}{P:Program}{w:World}{base:Nat}{spare:Nat->Bool}{held:Bool}
end
section
variable{H:Type}{enc:TypeId×Value->H}{P:Program}{w:World}{base:Nat}{spare:Nat->Bool}{held:Bool}
theorem Xj{m n:TypeId}{args:Array Value}{ds:List (DataW H)}{ps:List MemPlace}(h:DataW.TrodAll enc P w base spare held [m,n] args.toList ds ps):
  ∃b c f e d a,args= #[b,c]/\ds=[f,e]/\ps=d++a/\DataW.Trod enc P w base spare held m b f d/\DataW.Trod enc P w base spare held n c e a:=by
 obtain ⟨b,p,f,o,d,s,l,rfl,rfl,k,g⟩:=trodAll_cons h;obtain ⟨c,q,e,r,a,t,rfl,rfl,rfl,i,j⟩:=trodAll_cons g;obtain ⟨rfl,rfl,rfl⟩:=trodAll_nil j;exact ⟨b,c,f,e,d,a,by cases args;simp_all,Z,by simp,k,i⟩
theorem U0{d g:TypeId}{c e:Value}{f h:DataW H}{a b:List MemPlace}(i:DataW.Trod enc P w base spare held d c f a)(j:DataW.Trod enc P w base spare held g e h b):DataW.TrodAll enc P w base spare held [d,g] [c,e] [f,h] (a++b):=
 ⟨a,_,i,(trodAll_mk1 j),Z⟩
end
section
variable{H:Type}{enc:TypeId×Value->H}{P:Program}{w:World}{base:Nat}{spare:Nat->Bool}{held:Bool}
end
end
theorem SD{Tb:Ai}(pp mb n:Nat)(M0:Nat->Pg)(C0:Nat->Nat)(T:PoT)(p:Nat)(hp:manyN n<p/\p<n)(a:1<=T.C p):
  An 15 [V pp,Aa (p:Int)] [poA Tb pp mb n M0 C0 (some T)] (λv G=>v=Aa 0/\G=[poA Tb pp mb n M0 C0 (some {T with C:=Be T.C p (T.C p-1)})]):=by
 rcases Nat.eq_or_lt_of_le a with e|e
 ·rw[<-e];exact PP pp mb n M0 C0 T p hp e.symm
 exact UE pp mb n M0 C0 T p hp e
theorem Xk:cnt (B5 40 (C1 (manyN 40+1))) 0 1024≠0:=by decide+kernel
theorem XM{p:Nat}(h:B5 40 (C1 (manyN 40+1)) p=true):p<40/\manyN 40<p:=by
 rw[<-Ws] at h;obtain ⟨a,b,_⟩:=UU h;exact ⟨a,b⟩
theorem Wx{p:Nat}(h:manyN 40<p):C1 (manyN 40+1) p=0:=by unfold C1;rw[if_neg U]
theorem U1{p:Nat}(h:manyN 40<p):Be (C1 (manyN 40+1)) p 0=C1 (manyN 40+1):=by
 funext q;unfold Be;split
 ·rename_i e;subst e;exact (Wx h).symm
 rfl
set_option maxHeartbeats 2000000 in
theorem Oa (Tb:Ai) (hT:F2 Tb) (a:Int) (a1: -9223372036854775808<=a/\a<=9223372036854775807) (cv:Value) (cs:List Bool) (A:Ai) (n:∀h,A h->rdH 1 cv cs.length (cs.map Value.bool) h):An 4 [Aa a,cv] [A,Tb] (λv G=>v=.bool true/\G=[A,Tb]):=by
 intro z R w H;obtain ⟨co,cc,rfl⟩:=H.sy 0 (λq=>(n _ q).slc);have a3:=Wq a (show 0<60 by omega);refine Af func4 Z ntmps4 Z (Zc 7 Z (AA Z (call9 _) (L9 40 U Tb hT) H.f1 ?_));rintro _ w _ ⟨pb,pd,pr,pp,pq,M0,rfl,rfl⟩ H;refine Z2 36 [2,0,0,2,0,0] H Z (Ah Z (call10 _) (LY _ _ _ _ _ _) H.f1 ?_);intro w H;refine Zc 6 Z (Ah Z (call8 _) (US a 60 a1 U) H ?_);intro w H;refine Zc 7 Z (Ah Z (call11 _) (HH _ _ _ _ _) H ?_);intro w H;refine Z0 9 [4] Z (Ae Z (AR Z Z (out:=[Aa 0,Aa 0,Aa 5,Aa 0,Aa 0,.slice none 0 0]) J) (AA Z (call13 _) (HL _ _ 5 0 _ (.slice none 0 0) Z) H ?_));rintro _ w _ ⟨x,rfl,rfl⟩ H;refine AA Z (call12 _) (IL _ _ _ _ _ _ (FW 5 0) (Jq 0 U) _ _ (λh q=>HM q (by rw[X8];exact HK _ _)) (by show (0:Nat)<40;omega) (by exact Xk)) H.f1 ?_;rintro _ w _ ⟨p,k2,⟨l,g,a2⟩,rfl,rfl⟩ H;refine Zc 9 Z ?_;have e:p<40/\manyN 40<p:=XM (by exact l.1);refine Z0 15 [4] Z ?_;refine Aq (σ:=Nat×Nat×(Nat->Pg)×(Nat->Nat)×PoT) (λ⟨i,mb,M,C,T⟩=>[(11,Aa (i:Int)),(0,Aa (pkI a 60:Int)),(1,.slice co cs.length cc),(7,V pp),(8,Aa (cnt (Nh 40 (C1 (manyN 40+1)) none) 0 1024:Int)),(9,Aa (p:Int))])
   (λ⟨i,mb,M,C,T⟩ w=>Sep z (poA Tb pp mb 40 M C (some T)::blk x ((FW 5 0).body.map u8) 5::blk pb [V pd,V pr,V pp,V pq] 32::A::R) w/\(i<=pkI a 60/\T.C=Be (C1 (manyN 40+1)) p (i+1)/\T.k<=1/\mb<=6+2*i)) (λ⟨i,mb,M,C,T⟩=>pkI a 60-i) ⟨0,6,M0,(C1 (manyN 40+1)),⟨Be M0 p (FW 5 0),Be (C1 (manyN 40+1)) p 1,CA (B5 40 (C1 (manyN 40+1))) p,k2⟩⟩
   fr_z ⟨H,⟨Ye _,Z,g,Yo _⟩⟩ ?_
 clear H;rintro ⟨i,mb,M,C,T⟩ w ⟨t,m⟩;dsimp only at m t ⊢;have H:=t.l4;obtain ⟨hi,c,d,a0⟩:=m;refine Z0 8 [0] Z (Ag Z (λh1=>?_) (λh1=>?_))
 ·refine Zc 9 Z (Ah Z (call17 _) (WY _ _ _ _ _ _ p ⟨e.2,e.1⟩ (by rw[c,CS];omega)) H ?_);intro w H;refine Z0 4 [4] Z (Ah Z (call18 _) (JX _ _ _ _ _ _ p e.1) H ?_);intro w H;refine k_updA 58 (v:=Aa ((i+1+1:Nat):Int)) Z (congrArg Aa (by show ((Be T.C p (T.C p+1) p:Nat):Int)=_;rw[CS,c,CS])) (Z1 6 [0] [(i:Int)+2] Z U (Ag Z (λh2=>U) (λh2=>?_)))
  refine Z0 9 [0] Z (Am 67 Z (λh3=>?_) (λh3=>?_))
  ·obtain ⟨b,s⟩:∃b,cs[i]?=some b:=⟨_,XV U⟩;refine Zc 2 Z (Ae Z (Az Z (z:=1) (j:=i) (r:=i) J Z Z Z U ((H.rd 3 Z n).at (j:=i) (u:=.bool b) (by rw[X9,s];rfl)) U) ?_);refine Ae Z (AS Z Z J (AB ((H.rd 3 Z n).at (j:=i) (u:=.bool b) (by rw[X9,s];rfl)))) ?_;refine Zc 2 Z (GD 73 Z (λh4=>?_) (λh4=>?_))
   ·refine Zc 1 Z (Ah Z (call14 _) (GP _ _ _ _ _ _ (by show T.k+manyN 40<=40;have:manyN 40=1:=rfl;omega) U) H ?_);intro w H;refine Z0 3 [4] Z (Ah Z (call11 _) (HH _ _ _ _ _) H ?_);intro w H;refine Z1 14 [4] [(i:Int)+1] Z U (gf ?_);intro _ f;refine ⟨⟨i+1,(mb+2),T.M,(Be T.C p (T.C p+1)),(Wc 40 T.M (Be T.C p (T.C p+1)))⟩,f.cz,⟨H,?_⟩,?_⟩
    ·exact ⟨by show i+1<=pkI a 60;omega,by show Be T.C p (T.C p+1)=_;rw[c,CS,EW],by first|exact d|exact Ye _,by dsimp only;omega⟩
    (dsimp only;omega)
   refine Z1 20 [] [(i:Int)+1] Z U (gf ?_);intro _ f;refine ⟨⟨i+1,mb,M,C,⟨T.M,Be T.C p (T.C p+1),T.F,T.k⟩⟩,f.cz,⟨H,?_⟩,?_⟩
   ·exact ⟨by show i+1<=pkI a 60;omega,by show Be T.C p (T.C p+1)=_;rw[c,CS,EW],by first|exact d|exact Ye _,by dsimp only;omega⟩
   (dsimp only;omega)
  refine Z1 26 [] [(i:Int)+1] Z U (gf ?_);intro _ f;refine ⟨⟨i+1,mb,M,C,⟨T.M,Be T.C p (T.C p+1),T.F,T.k⟩⟩,f.cz,⟨H,?_⟩,?_⟩
  ·exact ⟨by show i+1<=pkI a 60;omega,by show Be T.C p (T.C p+1)=_;rw[c,CS,EW],by first|exact d|exact Ye _,by dsimp only;omega⟩
  (dsimp only;omega)
 refine Zc 2 Z (gx (Zc 9 Z ?_));refine Aq (σ:=Nat×Nat×(Nat->Pg)×(Nat->Nat)×PoT) (λ⟨j,mb,M,C,T⟩=>[(12,Aa (j:Int)),(0,Aa (pkI a 60:Int)),(1,.slice co cs.length cc),(7,V pp),(8,Aa (cnt (Nh 40 (C1 (manyN 40+1)) none) 0 1024:Int)),(9,Aa (p:Int))])
   (λ⟨j,mb,M,C,T⟩ w=>Sep z (poA Tb pp mb 40 M C (some T)::blk x ((FW 5 0).body.map u8) 5::blk pb [V pd,V pr,V pp,V pq] 32::A::R) w/\(j<=pkI a 60+1/\T.C=Be (C1 (manyN 40+1)) p (pkI a 60+1-j)/\T.k<=1/\mb<=126+2*j)) (λ⟨j,mb,M,C,T⟩=>pkI a 60+1-j) ⟨0,mb,M,C,T⟩
   fr_z ⟨H,⟨Ye _,by rw[c,show i=pkI a 60 by omega];rfl,d,by omega⟩⟩ ?_
 clear H;rintro ⟨j,mb,M,C,T⟩ w ⟨t,m⟩;dsimp only at m t ⊢;have H:=t.l4;obtain ⟨hj,c,d,a0⟩:=m;refine Z0 8 [0] Z (Ag Z (λh5=>?_) (λh5=>?_))
 ·refine Zc 9 Z (Ah Z (call15 _) (SD _ _ _ _ _ _ p ⟨e.2,e.1⟩ (by rw[c,CS];omega)) H ?_);intro w H;refine Z0 4 [4] Z (Ah Z (call18 _) (JX _ _ _ _ _ _ p e.1) H ?_);intro w H;refine k_updA 95 (v:=Aa ((pkI a 60-j:Nat):Int)) Z (congrArg Aa (by show ((Be T.C p (T.C p-1) p:Nat):Int)=_;rw[CS,c,CS];omega)) (Z1 7 [0] [(pkI a 60:Int)-(j:Int)] Z U (Ag Z (λh6=>U) (λh6=>?_)))
  refine Z0 8 [0] Z (Am 104 Z (λh7=>?_) (λh7=>?_))
  ·refine Z0 6 [0] Z (Am 110 Z (λh8=>?_) (λh8=>?_))
   ·obtain ⟨b,s⟩:∃b,cs[j]?=some b:=⟨_,XV U⟩;refine Zc 2 Z (Ae Z (Az Z (z:=1) (j:=j) (r:=j) J Z Z Z U ((H.rd 3 Z n).at (j:=j) (u:=.bool b) (by rw[X9,s];rfl)) U) ?_);refine Ae Z (AS Z Z J (AB ((H.rd 3 Z n).at (j:=j) (u:=.bool b) (by rw[X9,s];rfl)))) ?_;refine Zc 3 Z (GD 117 Z (λh9=>?_) (λh9=>?_))
    ·refine Zc 1 Z (Ah Z (call14 _) (GP _ _ _ _ _ _ (by show T.k+manyN 40<=40;have:manyN 40=1:=rfl;omega) U) H ?_);intro w H;refine Z0 3 [4] Z (Ah Z (call11 _) (HH _ _ _ _ _) H ?_);intro w H;refine Z1 14 [4] [(j:Int)+1] Z U (gf ?_);intro _ f;refine ⟨⟨j+1,(mb+2),T.M,(Be T.C p (T.C p-1)),(Wc 40 T.M (Be T.C p (T.C p-1)))⟩,f.cz,⟨H,?_⟩,?_⟩
     ·exact ⟨by show j+1<=pkI a 60+1;omega,by show Be T.C p (T.C p-1)=_;rw[c,CS,EW,show pkI a 60+1-j-1=pkI a 60+1-(j+1) by omega],by first|exact d|exact Ye _,by dsimp only;omega⟩
     (dsimp only;omega)
    refine Z1 20 [] [(j:Int)+1] Z U (gf ?_);intro _ f;refine ⟨⟨j+1,mb,M,C,⟨T.M,Be T.C p (T.C p-1),T.F,T.k⟩⟩,f.cz,⟨H,?_⟩,?_⟩
    ·exact ⟨by show j+1<=pkI a 60+1;omega,by show Be T.C p (T.C p-1)=_;rw[c,CS,EW,show pkI a 60+1-j-1=pkI a 60+1-(j+1) by omega],by first|exact d|exact Ye _,by dsimp only;omega⟩
    (dsimp only;omega)
   refine Z1 27 [] [(j:Int)+1] Z U (gf ?_);intro _ f;refine ⟨⟨j+1,mb,M,C,⟨T.M,Be T.C p (T.C p-1),T.F,T.k⟩⟩,f.cz,⟨H,?_⟩,?_⟩
   ·exact ⟨by show j+1<=pkI a 60+1;omega,by show Be T.C p (T.C p-1)=_;rw[c,CS,EW,show pkI a 60+1-j-1=pkI a 60+1-(j+1) by omega],by first|exact d|exact Ye _,by dsimp only;omega⟩
   (dsimp only;omega)
  refine Z1 33 [] [(j:Int)+1] Z U (gf ?_);intro _ f;refine ⟨⟨j+1,mb,M,C,⟨T.M,Be T.C p (T.C p-1),T.F,T.k⟩⟩,f.cz,⟨H,?_⟩,?_⟩
  ·exact ⟨by show j+1<=pkI a 60+1;omega,by show Be T.C p (T.C p-1)=_;rw[c,CS,EW,show pkI a 60+1-j-1=pkI a 60+1-(j+1) by omega],by first|exact d|exact Ye _,by dsimp only;omega⟩
  (dsimp only;omega)
 refine Zc 2 Z (gx (Zc 3 Z ?_));have y:T.C=(C1 (manyN 40+1)):=by rw[c,show pkI a 60+1-j=0 by omega];exact U1 e.2
 refine Zc 3 Z (Ah Z (call15 _) (Su _ _ _ _ _ _ p e.1 (by rw[y];exact Wx e.2)) H ?_);intro w H;refine Z0 3 [3] Z (Ah Z (call14 _) (GP _ _ _ _ _ _ (by show T.k+manyN 40<=40;have:manyN 40=1:=rfl;omega) U) H ?_);intro w H;refine Z0 4 [3] Z (Ah Z (call10 _) (LY _ _ _ _ _ _) H ?_);intro w H;refine k_updA 138 (v:=Aa (cnt (Nh 40 (C1 (manyN 40+1)) none) 0 1024:Int)) Z (congrArg Aa (by rw[y])) (Z0 4 [0] Z (Am 142 Z (λo=>?_) (λo=>?_)))
 ·obtain ⟨_,H⟩:=H.poTab;refine Ah Z (call16 _) (Sv Tb hT) H ?_;intro w H;refine Zc 5 Z (Zr Z ?_);exact ⟨_,⟨Z,Z⟩,H.pick 4 [3,0] Z⟩
 exact absurd Z o
open Go.ChangeShapes Go.WideShapes Go.ChangeAt Go.RowKit Go.Joins
theorem U2(a:Os):laidMet prog Rows.poolRefsUptoRow.laid ((Hl a).forCall (λ_ _=>0) ⟨#[],#[.int .i64 0,.slice none 0 0],[]⟩).memory:=
 laidMet_of_run' 8 J J
theorem Qh(b:Os){H:Type}(enc:TypeId×Value->H):∃a,DataW.whole enc prog ((Hl b).forCall (λ_ _=>0) ⟨#[],#[.int .i64 0,.slice none 0 0],[]⟩).memory f4.params.toList Rows.poolRefsSpec.vars false #[Value.int .i64 0,.slice none 0 0].toList 8=some ([.lit (.int .i64 0),.nil],[],a):=
 ⟨[],by kernel_rfl⟩
theorem prf_contract(H:Type)(enc:TypeId×Value->H)(W:World)(base:Nat)(args:Array Value)(ds s:List (DataW H))(b:List MemPlace)
  (a:∀(j:Nat) t v,f4.params[j]?=some t->args[j]?=some v->Value.okWide prog W .any base t v)
  (w:DataW.Whole enc prog f4.params.toList Rows.poolRefsSpec.vars false W args.toList ds s b)(y:Rows.uptoSmall H (ds++s)=true)(n:laidMetH prog Rows.poolRefsUptoRow.laid W):
  Calls prog 4 args W λe W'=>∃v,e=.returned v/\Rows.poolRefsSpec.post enc prog f4 false true false false W args v W':=by
 have c:=w;obtain ⟨p,q,l,hV,rfl,_,_⟩:=w;have o:DataW.TrodAll enc prog W 0 (λ_=>true) true f4.params.toList args.toList ds p:=l;rw[params4] at o a;obtain ⟨v0,v1,d0,d1,p0,p1,rfl,rfl,rfl,h0,r⟩:=Xj o;obtain ⟨rfl,rfl⟩:=trodVars_none hV;simp only[YG] at c y;have t1:∀x∈p1,x.block<W.heap.size:=λx hx=>by have:=c.lt x (by simp[hx]);simpa using this
 have hb:Rows.uptoBulkAll [d0,d1]<=1048576:=of_decide_eq_true y;simp only[Rows.uptoBulkAll] at hb;obtain ⟨i0,rfl,rfl,rfl,d⟩:=open_int underlying3 (a 0 3 v0 Z Z) h0;obtain ⟨a0,l1,c1,rfl⟩:=okWide_slice underlying47 (a 1 47 v1 Z Z);obtain ⟨m,k⟩:=id r;obtain ⟨g,f,i⟩:=SA (h:=k);refine (Cn.run2 (UZ (N9 n)) (Oa (Ma W) (Xi (N9 n)) i0 (Xg d) _ g (HN W) (λh hh=>SC (N9 n) f (Xh _) h hh))).mono λe W' z=>?_;obtain ⟨u,rfl,rfl,x⟩:∃u,e=Ending.returned u/\u=.bool true/\Ext No W W':=by cases e<;>first|exact ⟨_,rfl,z⟩|exact z.elim
 exact ⟨_,rfl,_,_,_,[],_,[],c,trodAll_mk1 (shut_bool underlying4 true),U0 (shut_int underlying3 d) (Below.trod UW J (of_decide_eq_true J) r x.below t1),rfl,x.below.frame _,λh=>by cases h⟩
theorem Ob(e:Os)(a:e.Started)(H:Type)(enc:TypeId×Value->H)(F:Stop.Interp):
  ReturnsInHanded {} checked e 4 .any ((Rows.OpenSpec.upto Rows.poolRefsSpec).preRow enc prog f4 Rows.poolRefsUptoRow.domain false Rows.poolRefsUptoRow.laid) (((Rows.OpenSpec.upto Rows.poolRefsSpec).at F).post enc prog f4 false true false false):=by
 obtain ⟨f,l⟩:=Qh e enc;refine returnsInHanded_of_row (C:=checked) (s:=Rows.OpenSpec.upto Rows.poolRefsSpec) own a J func4
  (witness_row_at (enc:=enc) (C:=checked) false (Hl e) #[.int .i64 0,.slice none 0 0] Z J J J
   (OpenSpec.preRow_of_cond 8 l J (λk i=>by cases i;kernel_rfl) J (U2 e))) ?_
 intro W base args ds g b d h _ c _ j _ _;exact prf_contract H enc W base args ds g b d h (c _ Z) j
theorem prf_said:Rows.PoolRefsUptoSaid:=
 OpenClaim.holds_of_cond 4 f4 Z Z Z Z Z Z Z ⟨Z,Z,Z,Z,Z⟩ Z Z Z Z Z J func4 J
  (of_decide_eq_true J) (by unfold Func.isWrapper;first|(rw[if_pos (by decide+kernel)];kernel_rfl)|(rw[if_neg (by decide+kernel)];exact ⟨rfl,rfl⟩))
  (λb a H enc _ F=>by rw[OpenClaim.pre_eq_preRow];exact Ob b a H enc F)
theorem Qi(f:FuncId)(a:Func)(e:Tryz.pinned.checked.prog.funcNamed "polder/polderlaw10.PoolRefs"=some f)(b:Tryz.pinned.checked.prog.funcs[f]?=some a):
  false=Tryz.pinned.checked.prog.looks []/\∀(j:Nat) t,a.params[j]?=some t->Tryz.pinned.checked.prog.wantsStandIn t=false:=by
 obtain rfl:f=4:=Aaw ((show prog.funcNamed "polder/polderlaw10.PoolRefs"=some 4 by kernel_rfl).symm.trans e) |>.symm;obtain rfl:a=f4:=(Aaw (func4.symm.trans b)).symm;refine ⟨by kernel_rfl,λj t c=>?_⟩;rw[params4] at c;have d:=Array.mem_of_getElem? c;simp at d;rcases d with rfl|rfl<;>first|exact (show prog.wantsStandIn 3=false by kernel_rfl)|exact (show prog.wantsStandIn 47=false by kernel_rfl)
theorem poolRefs_holds:Rows.PoolRefsUptoCardSaid:=
 Claim7.holds_tied_plain_at .later [] _ _ _ _ prf_said (λ_ h=>by cases h) J (λ_ h=>by cases h) poolRefsUpto_row_tie Z ⟨Z,Z⟩ J Z Qi J
end Go.Proofs.YthbbejpbkglmlaaGreatDoor
