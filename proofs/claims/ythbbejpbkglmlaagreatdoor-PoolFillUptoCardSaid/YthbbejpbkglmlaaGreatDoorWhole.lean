/-
  A pool is filled, page by page, and given back. No condition.
-/
import Derived.Test.YthbbejpbkglmlaaGreatDoorPart3
set_option maxRecDepth 100000
set_option linter.unusedSimpArgs false
set_option linter.unusedVariables false
open Go.Proofs.Tryz
namespace Go.Proofs.YthbbejpbkglmlaaGreatDoor
open Go.RowKit
theorem Ho(ns:List Int)(g:Value)(A:Ai)(d:∀h,A h->rdH 1 g ns.length (ns.map Aa) h)(hl:ns.length=120)(f:∀y∈ns,0<=y/\y<=1000):An 159 [g] [A] (λv G=>∃k:Value,v=.tuple #[k,Aa 0]/\G=[grow 5 1 k (EI ns).length ((EI ns).map u8),A]):=by
 intro z R w H;obtain ⟨o,x,rfl⟩:=H.sy 0 (λq=>(d _ q).slc);refine Af func159 Z ntmps159 Z (Zc 13 Z ?_);replace H:=(H.nilg 5 1).l2;refine Zc 5 Z ?_;refine Ap (σ:=Nat×Value) (λ⟨i,u⟩=>[(5,Aa (i:Int)),(4,u),(0,.slice o ns.length x)])
   (λ⟨i,u⟩ w=>Sep z (grow 5 1 u (((ns.take i).flatMap (Ae 2)).length) (((ns.take i).flatMap (Ae 2)).map u8)::A::R) w/\(i<=ns.length)) (λ⟨i,u⟩=>ns.length-i) ⟨0,.slice none 0 0⟩
   (λ_ c=>(c.co Z (by go_num) c.cz)) ⟨(by simpa using H),Yi _⟩ ?_
 clear H;rintro ⟨i,u⟩ w ⟨l,e⟩;dsimp only at e l ⊢;have H:=l.l2;have su:=H.sy 0 (·.slc);have hi:=e;clear e;refine Z0 9 [0] Z (Ag Z (λn=>?_) (λn=>?_))
 ·refine Zc 6 Z ?_;obtain ⟨y,b⟩:∃y,ns[i]?=some y:=⟨_,XW U⟩;have a0:=f y (XX b)
  have a:=(H.rd 1 Z d).at (j:=i) (u:=Aa y) (by rw[Yb,b];rfl);refine Zc 3 Z (Ad Z (Ar Z (z:=1) (j:=i) (r:=i) J Z Z Z U a U) (Ad Z (AK Z Z J (AA a)) (Ah Z (call156 _) (CT _ _) H ?_)));intro w H;refine Ad Z (AM Z Z) (Zc 2 Z (Ag Z (λp=>U) (λp=>?_)));refine Zc 2 Z ?_;have a:=(H.rd 1 Z d).at (j:=i) (u:=Aa y) (by rw[Yb,b];rfl);refine Zc 4 Z (Ad Z (Ar Z (z:=1) (j:=i) (r:=i) J Z Z Z U a U) (Ad Z (AK Z Z J (AA a)) ?_));replace H:=(H.mono 0 (B:=bsA 5 u ((ns.take i).flatMap (Ae 2))) Z (λh q=>.inr q)).l2;refine AB Z (call157 _) (B7 _ ((ns.take i).flatMap (Ae 2)) y 2 U (by first|omega|(simp only[XY,XZ,X4,X5,X1,Ac,Aj,Ak]<;>omega)|(simp[Ac,Aj,Ak,Sup.list,sect_len]<;>omega)|simp[Ac,Aj,Ak,Sup.list,sect_len])) H ?_;rintro m w _ ⟨_,rfl,rfl⟩ H;have t:=H.sy 0 (·.slc);refine Zc 2 Z ?_;rw[show (((ns.take i).flatMap (Ae 2))++Ae 2 y)=(ns.take (i+1)).flatMap (Ae 2) from (by rw[Ye,b];simp)] at H;refine Z1 7 [] [(i:Int)+1] Z U (gf ?_);intro _ c;refine ⟨⟨i+1,m⟩,c.cz,⟨H,?_⟩,?_⟩
  ·show i+1<=ns.length;omega
  (dsimp only;omega)
 refine Zc 2 Z (gx (Zc 4 Z ?_));rw[show ns.take i=ns from X0 U] at H;refine Z0 6 [0] Z (Ag Z (λs=>U) (λs=>?_));refine Zc 10 Z (Zr Z ?_);exact ⟨_,⟨_,Z,Z⟩,H.pick 2 [0,1] Z⟩
theorem L6(v:Value)(sec:List UInt8)(A:Ai)(k:∀h,A h->rdH 1 v sec.length (sec.map u8) h)(ns:List Int)(n:ns.length=120)(g:∀y∈ns,0<=y/\y<=1000)(a:sec=EI ns):An 195 [v] [A] (λv G=>∃f:Value,v=.tuple #[f,.bool true]/\G=[grow 3 1 f ns.length (ns.map Aa),A]):=by
 intro z R w H;have t:sec.length=240:=by rw[a];exact Gn n
 obtain ⟨b,o,c,rfl⟩:=H.sy 0 (λq=>(k _ q).sl (by rw[X9];omega));have p:=H.sy 0 (λq=>(k _ q).cap);refine Af func195 Z ntmps195 Z (Zc 13 Z ?_);replace H:=(H.nilg 3 1).l2;refine Zc 5 Z ?_;refine Ap (σ:=Nat×Value) (λ⟨i,u⟩=>[(5,Aa (i:Int)),(4,u),(0,.slice (some ⟨b,o,none⟩) sec.length c),(2,.slice none 0 0),(3,.bool false)])
   (λ⟨i,u⟩ w=>Sep z (grow 3 1 u i ((ns.take i).map Aa)::A::R) w/\(i<=120)) (λ⟨i,u⟩=>120-i) ⟨0,.slice none 0 0⟩
   (λ_ j=>(j.co Z (by go_num) j.cz)) ⟨(by simpa using H),Yi _⟩ ?_
 clear H;rintro ⟨i,u⟩ w ⟨e,m⟩;dsimp only at m e ⊢;have H:=e.l2;have su:=H.sy 0 (·.slc);have hi:=m;clear m;refine Z0 7 [0] Z (Ag Z (λh1=>?_) (λh1=>?_))
 ·refine Zc 4 Z ?_;obtain ⟨y,r⟩:∃y,ns[i]?=some y:=⟨_,XW U⟩;refine Z1 5 [] [((2*i:Nat):Int)] Z U (Ah Z (call142 _) (B4 _ sec _ k (2*i) 2 (by first|omega|simp_all)) H.f1 ?_);intro w H;refine k_updA 16 (v:=Aa y) Z (congrArg Aa (by rw[a];exact PO g r)) (AC Z (AI H Z J BK Z (by decide) (by decide) (out:=[Aa y]) J) ?_);rintro _ w ⟨s,rfl,H⟩;refine AC Z (AJ 2 H Z Z J BK Z Z (H.rv 0 (·.rd U U O Z)) (by simp[Value.oneCell']) U) ?_;rintro f w e;have e:Sep z (blk s [Aa y] 3::A::grow 3 1 f (i+1) ((ns.take i).map Aa++[Aa y])::R) w:=e
  have l:((ns.take i).map Aa++[Aa y]:List Value)=(ns.take (i+1)).map Aa:=(by rw[Ye,r];simp);rw[l] at e;have H:=e.l3;have x:=H.sy 2 (·.slc);refine Z1 9 [] [(i:Int)+1] Z U ?_;replace H:=H.d.f1;refine gf ?_;intro _ j;refine ⟨⟨i+1,f⟩,j.cz,⟨H,?_⟩,?_⟩
  ·show i+1<=120;omega
  (dsimp only;omega)
 refine Zc 2 Z (gx (Zc 3 Z ?_));obtain rfl:i=120:=by omega
 rw[show ns.take 120=ns from X0 U,show (120:Nat)=ns.length from n.symm] at H;refine Zc 2 Z (AB Z (call159 _) (Ho ns _ _ (λh q=>q.rd) n g) H ?_);rintro _ w _ ⟨u3,rfl,rfl⟩ H;have a0:=H.sy 0 (·.slc);refine Z0 15 [4] Z (Ah Z (call140 _) (EX _ _ (EI ns) sec _ _ (λh q=>q.rd) k) H.f2.f1 ?_);intro w H;refine k_updA 29 (v:=.bool true) Z (congrArg Value.bool (decide_eq_true a.symm)) (Zc 15 Z (Zr Z ?_));exact ⟨_,⟨_,Z,Z⟩,H.pick 3 [2,1] Z⟩
theorem P1:An 158 [.agg #[Aa 0,Aa 0,Aa 0,Aa 0,Aa 0,Aa 0]] [] (λv G=>v=.bool true/\G=[]):=by
 intro z R w H;refine Af func158 Z ntmps158 Z (Za 2 [] H Z ?_);intro f w H;refine Z2 7 [0,0,0] H Z (Ah Z (call156 _) (CT _ _) H ?_);intro w H;refine Zc 1 Z (Am 6 Z (λb=>?_) (λb=>?_))
 ·refine Z2 2 [1,0,0] H Z (Ah Z (call156 _) (CT _ _) H ?_);intro w H;refine Zc 2 Z (Am 11 Z (λd=>?_) (λd=>?_))
  ·refine Z2 2 [2,0,0] H Z (Ah Z (call156 _) (CT _ _) H ?_);intro w H;refine Zc 2 Z (Am 16 Z (λc=>?_) (λc=>?_))
   ·refine Z2 2 [3,0,0] H Z (Ah Z (call156 _) (CT _ _) H ?_);intro w H;refine Zc 2 Z (Am 21 Z (λa=>?_) (λa=>?_))
    ·refine Z2 2 [5,0,0] H Z (Ah Z (call156 _) (CT _ _) H ?_);intro w H;refine Zc 2 Z (Am 26 Z (λe=>?_) (λe=>?_))
     ·refine Z2 2 [4,0,0] H Z (Ah Z (call156 _) (CT _ _) H ?_);intro w H;refine Zc 5 Z (Zr Z ?_);exact ⟨_,⟨congrArg Value.bool (decide_eq_true U),Z⟩,H.pick 1 [] Z⟩
     (exfalso;omega)
    (exfalso;omega)
   (exfalso;omega)
  (exfalso;omega)
 (exfalso;omega)
set_option maxHeartbeats 2000000 in
theorem P2 (vv:Value) (A:Ai) (m:∀h,A h->rdH 6 vv 8 FU h):An 91 [.agg #[Aa 1,vv,.slice none 0 0]] [A] (λv G=>∃(v2:Value) (cb:List UInt8),cb.length=240/\v=.tuple #[v2,Aa 0]/\G=[grow 5 1 v2 cb.length (cb.map u8),A]):=by
 intro z R w H;obtain ⟨n,p,rfl⟩:=H.sy 0 (λq=>(m _ q).slc);refine Af func91 Z ntmps91 Z (Za 2 [] H Z ?_);intro c w H;refine Z2 9 [0,0,0] H Z (Ah Z (call156 _) (CT _ _) H ?_);intro w H;refine Ad Z (AM Z Z) (Zc 1 Z (Am 12 Z (λh1=>U) (λh1=>?_)));refine Z2 17 [2,0,0,4,1,0,0,4] H Z (A1 (Sep z (blk c [Aa 1,.slice n 8 p,.slice none 0 0] 139::R)) 8 Z J (A9 H λw a=>?_));have H:=a.l2;refine BA [0,1,3,4] [0,0,2,0] J (λ_ e=>(A3 (e.blk 0 Z) AU)) (by exact H.pick 2 [0] Z) Z J Z Z (Bg 5 J Z Z J J J Z Z Z (D4 Z (z:=1) J Z) (H.pick 2 [0] Z) (Ay [2] J O (Az ?_)));replace H:=(H.nilg 5 1).l3;replace H:=(H.mono 0 (B:=bsA 5 (.slice none 0 0) ([]:List UInt8)) Z (λh q=>.inr q)).l3;refine BF Z Z Z Z Z Z (λw=>call157 _ w) (B7 _ ([]:List UInt8) 1 4 U (by first|omega|(simp only[XY,XZ,X4,X5,X1,Ac,Aj,Ak]<;>omega)|(simp[Ac,Aj,Ak,Sup.list,sect_len]<;>omega)|simp[Ac,Aj,Ak,Sup.list,sect_len])) H Z ?_;rintro u2 w _ ⟨_,rfl,rfl⟩ H;have a5:=H.sy 0 (·.slc);refine Ax (λ_=>(H.pick 3 [1] Z)) (Ay [6] J O (Az ?_));replace H:=(H.mono 0 (B:=bsA 5 u2 (([]:List UInt8)++Ae 4 1)) Z (λh q=>.inr q)).l3;refine BF Z Z Z Z Z Z (λw=>call157 _ w) (B7 _ (([]:List UInt8)++Ae 4 1) 0 1 U (by first|omega|(simp only[XY,XZ,X4,X5,X1,Ac,Aj,Ak]<;>omega)|(simp[Ac,Aj,Ak,Sup.list,sect_len]<;>omega)|simp[Ac,Aj,Ak,Sup.list,sect_len])) H Z ?_;rintro u3 w _ ⟨_,rfl,rfl⟩ H;have l:=H.sy 0 (·.slc);refine Ax (λ_=>(H.pick 3 [1] Z)) (Ay [7] J O (Az (Dr Z Z Z Z (Bq Z Z) (Ax (λh=>absurd Z h) (Bi J (gn (Zc 8 Z ?_)))))));refine Ap (σ:=Nat) (λk=>[(5,Aa (k:Int)),(4,u3),(1,V c)])
   (λk w=>Sep z (grow 5 1 u3 (((([]:List UInt8)++Ae 4 1)++Ae 1 0).length) (((([]:List UInt8)++Ae 4 1)++Ae 1 0).map u8)::blk c [Aa 1,.slice n 8 p,.slice none 0 0] 139::A::R) w/\(True)) (λk=>0) 0
   fr_z ⟨H,trivial⟩ ?_
 clear H;rintro k w ⟨a,g⟩;have H:=a.l3;have l:=H.sy 0 (·.slc);refine Z2 10 [2,1,0,0] H Z (Ag Z (λh2=>U) (λh2=>?_));refine Zc 2 Z (gx (Zc 5 Z (AB Z (call141 _) (Fq _ ((([]:List UInt8)++Ae 4 1)++Ae 1 0) 21 ⟨by first|omega|(simp only[XY,XZ,X4,X5,X1,Ac,Aj,Ak]<;>omega)|(simp[Ac,Aj,Ak,Sup.list,sect_len]<;>omega)|simp[Ac,Aj,Ak,Sup.list,sect_len],by omega⟩) H ?_)));rintro u4 w _ ⟨_,rfl,rfl⟩ H;have a4:=H.sy 0 (·.slc);refine Zc 5 Z ?_;have f:((((([]:List UInt8)++Ae 4 1)++Ae 1 0)++List.replicate (21-((([]:List UInt8)++Ae 4 1)++Ae 1 0).length) (0:UInt8))).length=21:=by simp[Ac]
 refine Zc 5 Z ?_;refine Ap (σ:=Nat×Value×List UInt8) (λ⟨i,u,bs⟩=>[(6,Aa (i:Int)),(4,u),(1,V c)])
   (λ⟨i,u,bs⟩ w=>Sep z (grow 5 1 u bs.length (bs.map u8)::blk c [Aa 1,.slice n 8 p,.slice none 0 0] 139::A::R) w/\(i<=8/\bs.length=21+19*i)) (λ⟨i,u,bs⟩=>8-i) ⟨0,u4,(((([]:List UInt8)++Ae 4 1)++Ae 1 0)++List.replicate (21-((([]:List UInt8)++Ae 4 1)++Ae 1 0).length) (0:UInt8))⟩
   fr_z ⟨H,⟨Yi _,f⟩⟩ ?_
 clear H;rintro ⟨i,u,bs⟩ w ⟨a,g⟩;dsimp only at g a ⊢;have H:=a.l3;have su:=H.sy 0 (·.slc);obtain ⟨hi,a1⟩:=g;refine Z0 7 [0] Z (Ag Z (λh3=>?_) (λh3=>?_))
 ·refine Zc 5 Z ?_;have b:=(H.rd 2 Z m).at (Jm (show i<8 by omega) 0 _ Z)
  refine Z2 4 [1,1,0] H Z (Ad Z (Ar Z (z:=6) (j:=i) (r:=i*6) J Z Z Z U b U) (Ad Z (B8 Z Z (vs:=[Aa 0,Aa 0,Aa 0,Aa 0,Aa 0,Aa 0]) J O (AA (λk u hk=>(H.rd 2 Z m).at (Jm U k u hk)))) (Za 0 [] H Z ?_)));intro x w H;refine Z4 7 [0,0,6] H Z ?_;intro w H;refine Ah Z (call158 _) (P1) H ?_;intro w H;refine Zc 7 Z (A1 (Sep z (blk x [Aa 0,Aa 0,Aa 0,Aa 0,Aa 0,Aa 0] 207::R)) 11 Z J (A9 H λw a=>?_));have H:=a.l4;refine BA [0,1,2,4,5,7,8] [0,0,1,0,2,0] J (λ_ e=>(A3 (e.blk 0 Z) AU)) (by exact H.pick 4 [0] Z) Z J Z Z (Ay [3] J O (Az ?_));replace H:=(H.mono 1 (B:=bsA 5 u bs) Z (λh q=>.inr q)).l4;refine BF Z Z Z Z Z Z (λw=>call157 _ w) (B7 _ bs 0 4 U (by first|omega|(simp only[XY,XZ,X4,X5,X1,Ac,Aj,Ak]<;>omega)|(simp[Ac,Aj,Ak,Sup.list,sect_len]<;>omega)|simp[Ac,Aj,Ak,Sup.list,sect_len])) H.f1 Z ?_;rintro u6 w _ ⟨_,rfl,rfl⟩ H;have a3:=H.sy 0 (·.slc);refine Ax (λ_=>(H.pick 4 [1] Z)) (Ay [6] J O (Az ?_));replace H:=(H.mono 0 (B:=bsA 5 u6 (bs++Ae 4 0)) Z (λh q=>.inr q)).l4;refine BF Z Z Z Z Z Z (λw=>call157 _ w) (B7 _ (bs++Ae 4 0) 0 1 U (by first|omega|(simp only[XY,XZ,X4,X5,X1,Ac,Aj,Ak]<;>omega)|(simp[Ac,Aj,Ak,Sup.list,sect_len]<;>omega)|simp[Ac,Aj,Ak,Sup.list,sect_len])) H Z ?_;rintro u7 w _ ⟨_,rfl,rfl⟩ H;have a6:=H.sy 0 (·.slc);refine Ax (λ_=>(H.pick 4 [1] Z)) (Ay [9] J O (Az ?_));replace H:=(H.mono 0 (B:=bsA 5 u7 (bs++Ae 4 0++Ae 1 0)) Z (λh q=>.inr q)).l4;refine BF Z Z Z Z Z Z (λw=>call157 _ w) (B7 _ (bs++Ae 4 0++Ae 1 0) 0 4 U (by first|omega|(simp only[XY,XZ,X4,X5,X1,Ac,Aj,Ak]<;>omega)|(simp[Ac,Aj,Ak,Sup.list,sect_len]<;>omega)|simp[Ac,Aj,Ak,Sup.list,sect_len])) H Z ?_;rintro u8 w _ ⟨_,rfl,rfl⟩ H;have a8:=H.sy 0 (·.slc);refine Ax (λ_=>(H.pick 4 [1] Z)) (Ay [10] J O (Az (Dr Z Z Z Z (Bq Z Z) (Ax (λh=>absurd Z h) (Bi J (gn (Zc 1 Z ?_)))))));replace H:=H.f1;refine A1 (Sep z (blk x [Aa 0,Aa 0,Aa 0,Aa 0,Aa 0,Aa 0] 207::R)) 11 Z J (A9 H λw a=>?_);have H:=a.l4;refine BA [0,1,2,4,5,7,8] [3,0,4,0,5,0] J (λ_ e=>(A3 (e.blk 0 Z) AU)) (by exact H.pick 4 [0] Z) Z J Z Z (Ay [3] J O (Az ?_));replace H:=(H.mono 1 (B:=bsA 5 u8 (bs++Ae 4 0++Ae 1 0++Ae 4 0)) Z (λh q=>.inr q)).l4;refine BF Z Z Z Z Z Z (λw=>call157 _ w) (B7 _ (bs++Ae 4 0++Ae 1 0++Ae 4 0) 0 4 U (by first|omega|(simp only[XY,XZ,X4,X5,X1,Ac,Aj,Ak]<;>omega)|(simp[Ac,Aj,Ak,Sup.list,sect_len]<;>omega)|simp[Ac,Aj,Ak,Sup.list,sect_len])) H.f1 Z ?_;rintro u9 w _ ⟨_,rfl,rfl⟩ H;have a2:=H.sy 0 (·.slc);refine Ax (λ_=>(H.pick 4 [1] Z)) (Ay [6] J O (Az ?_));replace H:=(H.mono 0 (B:=bsA 5 u9 (bs++Ae 4 0++Ae 1 0++Ae 4 0++Ae 4 0)) Z (λh q=>.inr q)).l4;refine BF Z Z Z Z Z Z (λw=>call157 _ w) (B7 _ (bs++Ae 4 0++Ae 1 0++Ae 4 0++Ae 4 0) 0 2 U (by first|omega|(simp only[XY,XZ,X4,X5,X1,Ac,Aj,Ak]<;>omega)|(simp[Ac,Aj,Ak,Sup.list,sect_len]<;>omega)|simp[Ac,Aj,Ak,Sup.list,sect_len])) H Z ?_;rintro o w _ ⟨_,rfl,rfl⟩ H;have t:=H.sy 0 (·.slc);refine Ax (λ_=>(H.pick 4 [1] Z)) (Ay [9] J O (Az ?_));replace H:=(H.mono 0 (B:=bsA 5 o (bs++Ae 4 0++Ae 1 0++Ae 4 0++Ae 4 0++Ae 2 0)) Z (λh q=>.inr q)).l4;refine BF Z Z Z Z Z Z (λw=>call157 _ w) (B7 _ (bs++Ae 4 0++Ae 1 0++Ae 4 0++Ae 4 0++Ae 2 0) 0 4 U (by first|omega|(simp only[XY,XZ,X4,X5,X1,Ac,Aj,Ak]<;>omega)|(simp[Ac,Aj,Ak,Sup.list,sect_len]<;>omega)|simp[Ac,Aj,Ak,Sup.list,sect_len])) H Z ?_;rintro s w _ ⟨_,rfl,rfl⟩ H;have a0:=H.sy 0 (·.slc);refine Ax (λ_=>(H.pick 4 [1] Z)) (Ay [10] J O (Az (Dr Z Z Z Z (Bq Z Z) (Ax (λh=>absurd Z h) (Bi J (gn (Z1 7 [] [(i:Int)+1] Z U ?_)))))));replace H:=H.f1.d;refine gf ?_;intro _ hF;refine ⟨⟨i+1,s,bs++Ae 4 0++Ae 1 0++Ae 4 0++Ae 4 0++Ae 2 0++Ae 4 0⟩,hF.cz,⟨H,?_⟩,?_⟩
  ·exact ⟨by show i+1<=8;omega,by dsimp only;simp[Ac];omega⟩
  (dsimp only;omega)
 refine Zc 2 Z (gx (Zc 5 Z (AB Z (call141 _) (Fq _ bs 240 ⟨by first|omega|(simp only[XY,XZ,X4,X5,X1,Ac,Aj,Ak]<;>omega)|(simp[Ac,Aj,Ak,Sup.list,sect_len]<;>omega)|simp[Ac,Aj,Ak,Sup.list,sect_len],by omega⟩) H ?_)));rintro a7 w _ ⟨_,rfl,rfl⟩ H;have y:=H.sy 0 (·.slc);refine Zc 5 Z (Zr Z ?_);exact ⟨_,⟨_,_,by simp;omega,Z,Z⟩,H.pick 3 [0,2] Z⟩
theorem UQ(a n:Nat)(lo:Option Addr)(b:Nat)(c:n<=4096):An 148 [V a] [blk a [.slice lo n b,Aa 0,Aa 0,Aa 0,Aa 0,Aa (-1)] 133] (λv G=>v=Aa (n:Int)/\G=[blk a [.slice lo n b,Aa 0,Aa 0,Aa 0,Aa 0,Aa (-1)] 133]):=by
 intro z R w H;refine Af func148 Z ntmps148 Z (Z2 16 [0,0,0] H Z (Zr Z ?_));exact ⟨_,⟨Z,Z⟩,H.pick 1 [0] Z⟩
theorem L7(a n:Nat)(lo:Option Addr)(b:Nat)(c:n<=4096)(x k:Int):An 137 [V a,Aa x,Aa k] [blk a [.slice lo n b,Aa 0,Aa 0,Aa 0,Aa 0,Aa (-1)] 133] (λv G=>v=.bool (decide (0<=x/\1<=k/\x<(n:Int)/\k<=(n:Int)-x))/\G=[blk a [.slice lo n b,Aa 0,Aa 0,Aa 0,Aa 0,Aa (-1)] 133]):=by
 intro z R w H;refine Af func137 Z ntmps137 Z (Z0 10 [0] Z (Am 9 Z (λd=>?_) (λd=>?_)))
 ·refine Z0 4 [0] Z (Am 13 Z (λf=>?_) (λf=>?_))
  ·refine Z2 9 [0,0,0,0] H Z (Am 22 Z (λe=>?_) (λe=>?_))
   ·refine Z3 14 [0,0,0,0] [(n:Int)-x] H Z U (Zr Z ?_);exact ⟨_,⟨congrArg Value.bool (by first|(rw[eq_comm,decide_eq_false_iff_not];omega)|(rw[Yf];simp<;>omega)),Z⟩,H.pick 1 [0] Z⟩
   refine Zc 14 Z (Zr Z ?_);exact ⟨_,⟨congrArg Value.bool (by first|(rw[eq_comm,decide_eq_false_iff_not];omega)|(rw[Yf];simp<;>omega)),Z⟩,H.pick 1 [0] Z⟩
  refine Zc 23 Z (Zr Z ?_);exact ⟨_,⟨congrArg Value.bool (by first|(rw[eq_comm,decide_eq_false_iff_not];omega)|(rw[Yf];simp<;>omega)),Z⟩,H.pick 1 [0] Z⟩
 refine Zc 27 Z (Zr Z ?_);exact ⟨_,⟨congrArg Value.bool (by first|(rw[eq_comm,decide_eq_false_iff_not];omega)|(rw[Yf];simp<;>omega)),Z⟩,H.pick 1 [0] Z⟩
theorem P3(a n:Nat)(lo:Option Addr)(b:Nat)(c:n<=4096):An 138 [V a,Aa 1] [blk a [.slice lo n b,Aa 0,Aa 0,Aa 0,Aa 0,Aa (-1)] 133] (λv G=>v=.bool false/\G=[blk a [.slice lo n b,Aa 0,Aa 0,Aa 0,Aa 0,Aa (-1)] 133]):=by
 intro z R w H;refine Af func138 Z ntmps138 Z (Z3 24 [1,4,1,1,2,0,0,3] [] H Z U (Zr Z ?_));exact ⟨_,⟨Z,Z⟩,H.pick 1 [0] Z⟩
theorem P4(a n:Nat)(lo:Option Addr)(b:Nat)(c:n<=4096):An 138 [V a,Aa 2] [blk a [.slice lo n b,Aa 0,Aa 0,Aa 0,Aa 0,Aa (-1)] 133] (λv G=>v=.bool false/\G=[blk a [.slice lo n b,Aa 0,Aa 0,Aa 0,Aa 0,Aa (-1)] 133]):=by
 intro z R w H;refine Af func138 Z ntmps138 Z (Z3 24 [1,4,1,2,3,0,0,3] [] H Z U (Zr Z ?_));exact ⟨_,⟨Z,Z⟩,H.pick 1 [0] Z⟩
theorem P5(a n:Nat)(lo:Option Addr)(b:Nat)(c:n<=4096):An 138 [V a,Aa 3] [blk a [.slice lo n b,Aa 0,Aa 0,Aa 0,Aa 0,Aa (-1)] 133] (λv G=>v=.bool false/\G=[blk a [.slice lo n b,Aa 0,Aa 0,Aa 0,Aa 0,Aa (-1)] 133]):=by
 intro z R w H;refine Af func138 Z ntmps138 Z (Z3 24 [1,4,1,3,4,0,0,3] [] H Z U (Zr Z ?_));exact ⟨_,⟨Z,Z⟩,H.pick 1 [0] Z⟩
theorem Np(a n:Nat)(lo:Option Addr)(b:Nat)(c:n<=4096):An 170 [V a] [blk a [.slice lo n b,Aa 0,Aa 0,Aa 0,Aa 0,Aa (-1)] 133] (λv G=>v=.tuple #[]/\G=[blk a [.slice lo n b,Aa 0,Aa 0,Aa 0,Aa 0,Aa (-1)] 133]):=by
 intro z R w H;refine Af func170 Z ntmps170 Z (Z2 11 [5,0,0,4] H Z (Zf Z ?_));exact ⟨_,⟨Z,Z⟩,H.pick 1 [0] Z⟩
theorem Nq(x n:Nat)(lo:Option Addr)(t:Nat)(a3:n<=4096)(rows:List RRow)(hq:Hp)(i:Nat)(r:RRow)(f:rows[i]?=some r)(p:List UInt8)(g:r.Ok hq p)(a4:i<n):An 139 [V x,Aa (i:Int)] [blk x [.slice lo n t,Aa 0,Aa 0,Aa 0,Aa 0,Aa (-1)] 133,grow 135 2 (.slice lo n t) n (Cc rows),poolA hq,seps (rows.map RRow.asn)] (λv G=>∃u:Value,rdH 1 u 256 (p.map u8) hq/\v=u/\G=[blk x [.slice lo n t,Aa 0,Aa 0,Aa 0,Aa 0,Aa (-1)] 133,grow 135 2 (.slice lo n t) n (Cc rows),poolA hq,seps (rows.map RRow.asn)]):=by
 intro z R w H;refine Af func139 Z ntmps139 Z (Zc 6 Z ?_);have o:=g.l;obtain ⟨b,dc,e⟩:=g.d;obtain ⟨dv,vv,a⟩:=r;dsimp only at e;subst e;obtain ⟨vo,vc,a1⟩:Slc vv a.length:=H.sy 3 (λq=>(LI f q).slc);subst a1;have a0:=H.sy 3 (λq=>(LI f q).small);dsimp only at a0;have h:=(H.rv 1 (·.rd)).at (Er f 0 _ Z);refine Z2 6 [0,0,0] H Z (Ad Z (Ar Z (z:=2) (j:=i) (r:=i*2) J Z Z Z U h U) (Ad Z (B8 Z Z (vs:=[.slice b 256 dc,.slice vo a.length vc]) J O (AA (λk u hk=>(H.rv 1 (·.rd)).at (Er f k u hk)))) (Za 0 [] H Z ?_)));intro b1 w H;refine Z4 12 [0,1,0,0,0] H Z ?_;intro w H;refine Ag Z (λh1=>?_) (λh1=>?_)
 ·refine Zc 1 Z ?_;obtain ⟨s,m⟩:∃s,a[a.length-1]?=some s:=⟨_,XW U⟩;have c:=(H.rv 4 (λq=>LI f q)).at m
  have y:RRow.last ⟨.slice b 256 dc,.slice vo a.length vc,a⟩=s:=by simp[RRow.last,AaS,m]
  refine Z3 7 [1,0,0,1,0,0] [((a.length-1:Nat):Int)] H Z U (Ad Z (Ar Z (z:=1) (j:=(a.length-1)) (r:=(a.length-1)) J Z Z U U c U) (Ad Z (AK Z Z J (AA c)) (Zc 4 Z (Zr Z ?_))));exact ⟨_,⟨s,by rw[<-y];exact o,Z,Z⟩,H.pick 5 [1,2,3,4] Z⟩
 refine Z2 10 [0,0,0] H Z (Zr Z ?_);have a2:a=[]:=ZR.1 U;exact ⟨_,⟨_,by have:=o;rw[show RRow.last ⟨.slice b 256 dc,.slice vo a.length vc,a⟩=.slice b 256 dc by simp[RRow.last,a2]] at this;exact this,Z,Z⟩,H.pick 5 [1,2,3,4] Z⟩
theorem HO(c n m:Nat)(F:Nat->List UInt8)(a:Nat)(ha:a<n):An 84 [V c,Aa (a:Int),Aa 1] [rdkA c n F m] (λv G=>∃t:Value,v=.tuple #[t,Aa 0]/\G=[grow 5 1 t 256 ((F a).map u8),rdkA c n F m]):=by
 intro z R w H;obtain ⟨lv,rows,hq,f,b⟩:=H.rk;clear H;have a0:=f.1;have a1:=f.2.1;have H:=b.l4;have o:=H.sy 1 (·.slc);obtain ⟨lo,e,rfl⟩:=o;obtain ⟨r,p⟩:∃r,rows[a]?=some r:=⟨_,XW U⟩;have h:=(f.2.2 a r p).1;refine Af func84 Z ntmps84 Z (Zc 12 Z (Ah Z (call137 _) (L7 _ _ _ _ U _ _) H ?_));intro w H;refine Ad Z (AM Z Z) (Zc 2 Z (Ag Z (λh1=>U) (λh1=>?_)));refine Zc 6 Z (Ah Z (call138 _) (P3 _ _ _ _ U) H ?_);intro w H;refine Zc 6 Z ?_;replace H:=(H.nilg 5 1).l5;refine Zc 12 Z ?_;refine Ap (σ:=Nat×Value) (λ⟨j,u⟩=>[(9,Aa ((a+j:Nat):Int)),(8,u),(0,V c),(1,Aa (a:Int)),(2,Aa 1),(6,.slice none 0 0),(7,Aa 0)])
   (λ⟨j,u⟩ w=>Sep z (grow 5 1 u (256*j) (((List.replicate j (F a)).flatten).map u8)::blk c [.slice lo n e,Aa 0,Aa 0,Aa 0,Aa 0,Aa (-1)] 133::grow 135 2 (.slice lo n e) n (Cc rows)::poolA hq::seps (rows.map RRow.asn)::R) w/\(j<=1)) (λ⟨j,u⟩=>1-j) ⟨0,.slice none 0 0⟩
   (λ_ d=>(d.co Z (by go_num) d.cz)) ⟨(by simpa using H),Yi _⟩ ?_
 clear H;rintro ⟨j,u⟩ w ⟨b,i⟩;dsimp only at i b ⊢;have H:=b.l5;have su:=H.sy 0 (·.slc);have hj:=i;clear i;refine Z1 10 [0] [((a+1:Nat):Int)] Z U (Ag Z (λy=>?_) (λy=>?_))
 ·obtain rfl:j=0:=by omega
  refine Zc 8 Z (AB Z (call139 _) (Nq _ _ _ _ U _ _ a _ p _ h U) H.f4.f4.f4.f4 ?_);rintro lq w _ ⟨_,l,rfl,rfl⟩ H;refine AC Z (AJ 4 H Z Z J A2 Z Z (H.rv 2 (λq=>l.le q)) (by intro c9 g;obtain ⟨b9,_,rfl⟩:=X6.1 g;rfl) U) ?_;rintro s w b;have b:Sep z (blk c [.slice lo n e,Aa 0,Aa 0,Aa 0,Aa 0,Aa (-1)] 133::grow 135 2 (.slice lo n e) n (Cc rows)::poolA hq::seps (rows.map RRow.asn)::grow 5 1 s ((256*0)+256) (((List.replicate 0 (F a)).flatten).map u8++(F a).map u8)::R) w:=b;have k:(((List.replicate 0 (F a)).flatten).map u8++(F a).map u8:List Value)=((List.replicate (0+1) (F a)).flatten).map u8:=O;rw[k] at b;rw[show ((256*0)+256:Nat)=(256*(0+1)) from by omega] at b;have H:=b.l5;have x:=H.sy 4 (·.slc);refine Z1 9 [] [((a+(0+1):Nat):Int)] Z U ?_;replace H:=H.f3.f3.f3.f3.f4;refine gf ?_;intro _ d;refine ⟨⟨0+1,s⟩,(d.all Z),⟨H,?_⟩,?_⟩
  ·show 0+1<=1;omega
  (dsimp only;omega)
 refine Zc 2 Z (gx (Zc 10 Z (Zr Z ?_)));obtain rfl:j=1:=by omega
 rw[show ((List.replicate 1 (F a)).flatten)=F a from by simp] at H;have b:=(H.pick 5 [1,2,3,4,0] Z).toRk f;exact ⟨_,⟨_,Z,Z⟩,b.pick 2 [1,0] Z⟩
section
section
variable{P:Program}{o:Oper}{n:Nat}{ds:List Deferred}{L:List (Nat×Value)}{x y:Operand}{v:Value}{z w:World}{Γ:List Ai}
theorem IG(i:Nat)(H:Sep z Γ w){t e:TypeId}{sz m c q:Nat}{r:Option Addr}{xs vs:List Value}(s:Γ[i]?=some (grow e sz (.slice r m c) m xs))(ho:o.op=.store t x y)(hx:ev L x=some (Fb r q))(hy:ev L y=some v)(hv:v.cells=vs.toArray)(h1:∀u∈vs,u.oneCell'=true)
  (hs:(P.info? t).map (·.size)=some vs.length)(hm:0<m)(hq:q+vs.length<=m*sz){out:List Value}(d:xs.take q++vs++xs.drop (q+vs.length)=out):
  C3 P n ds L o w (λw'=>Sep z (Γ.set i (grow e sz (.slice r m c) m out)) w'):=λa hF=>by
 have l:xs.length=m*sz:=H.says i s (λh g=>g.len);obtain ⟨g,a1,rest,hu,h3,h4,h5,H2⟩:=H.ungrow i s hm;cases hu;have f:i<Γ.length:=(XV.1 s).1;have k:(Γ.set i (blk g (xs++rest) e))[i]?=some (blk g (xs++rest) e):=by rw[YR f]
 have a0:m*sz+(c-m)*sz=c*sz:=by rw[<-Nat.add_mul];congr 1;omega
 obtain ⟨w',hr,H3⟩:=AD (P:=P) (n:=n) (ds:=ds) (L:=L) i H2 (p:=0+q) (vs:=vs) k ho hx hy hv h1 hs (by rw[XY,l,h5];omega) (out:=out++rest) (by
  rw[Ze,X8 U,Yx U,<-d];simp only[X3]) a hF
 refine ⟨w',hr,?_⟩;rw[ZZ] at H3;have j:out.length=m*sz:=by rw[<-d];simp only[XY,X1,Yr];omega
 have:=H3.mono i (B:=grow e sz (.slice (some ⟨g,0,none⟩) m c) m out) (by rw[YR f]) (λh b=>blk.grow b h3 h4 (by rw[XY,j,h5];omega) (by rw[<-j,YK];rfl));rw[ZZ] at this;exact this
end
theorem IH{W:List RRow}{i:Nat}{x x2:RRow}(h:W[i]?=some x)(k:Nat)(a:List Value)(j:k+a.length<=2)(d:x.cells.take k++a++x.cells.drop (k+a.length)=x2.cells):(Cc W).take (i*2+k)++a++(Cc W).drop (i*2+k+a.length)=Cc (W.set i x2):=by
 obtain ⟨b,rfl⟩:=XV.1 h;have f:W=W.take i++W[i]::W.drop (i+1):=by rw[<-YV b,YG]
 have g:W.set i x2=W.take i++x2::W.drop (i+1):=by rw[Y9,if_pos b]
 have c:(Cc (W.take i)).length=i*2:=by rw[Ur,X1,Yz U]
 have e:Cc W=Cc (W.take i)++(W[i].cells++Cc (W.drop (i+1))):=by
  have:=congrArg Cc f;rw[JO] at this;exact this.trans (congrArg (Cc (W.take i)++ ·) Z)
 have m:W[i].cells.length=2:=rfl;rw[e,g,JO];rw[Z6,YD,c,show i*2+k-i*2=k by omega,show i*2+k+a.length-i*2=k+a.length by omega];rw[X0 U,Yk (l:=Cc (W.take i)) U,Yo];rw[X8 U,Yx U];show _=Cc (W.take i)++(x2.cells++Cc (W.drop (i+1)));rw[<-d];simp[X3]
theorem Wl(F:Nat->List UInt8)(i:Nat):By F i (F i)=F:=by
 funext k;unfold By;split
 ·rename_i e;rw[e]
 rfl
set_option maxHeartbeats 4000000 in
theorem GU (pr n m:Nat) (c2:m<=1000000000) (F:Nat->List UInt8) (a k:Nat) (a5:Bool) (v:Value) (bs:List UInt8) (A:Ai) (hA:∀h,A h->rdH 1 v bs.length (bs.map u8) h) (c1:bs.length=256*k) (hk:1<=k) (c5:a+k<=n):An 149 [V pr,Aa (a:Int),v,.bool a5] [rdkA pr n F m,A] (λv G=>v=Aa 0/\G=[rdkA pr n (E7 F a bs k) (m+k),A]):=by
 intro z R w H;replace H:=H.l2;obtain ⟨lv,rows,hq,hX,t⟩:=H.rk;clear H;have c3:=hX.1;have c6:=hX.2.1;have H:=t.l5;have b7:=H.says 1 Z (λh q=>q.slc);obtain ⟨lo,lc,rfl⟩:=b7;obtain ⟨b,o,c,rfl⟩:=H.says 4 Z (λh q=>(hA h q).sl (by rw[X9];omega));have b8:=H.says 4 Z (λh q=>(hA h q).cap);refine Af func149 Z ntmps149 Z (Z1 19 [0] [(k:Int)] Z U (Am 17 Z (λh1=>?_) (λh1=>?_)))
 ·(exfalso;omega)
 refine Z1 16 [4] [0] Z U (Ah Z (call137 _) (L7 _ _ _ _ U _ _) H ?_);intro w H;replace H:=H.l5;refine Ad Z (AM Z Z) (Zc 2 Z (Ag Z (λh2=>?_) (λh2=>?_)))
 ·(exfalso;omega)
 refine Zc 6 Z (Ah Z (call138 _) (P4 _ _ _ _ U) H ?_);intro w H;refine Z2 19 [5,0,0,4] H Z ?_;refine Ap (σ:=Nat×List RRow×Hp) (λ⟨i,e,x⟩=>[(10,Aa (i:Int)),(0,V pr),(1,Aa (a:Int)),(2,.slice (some ⟨b,o,none⟩) bs.length c),(3,.bool a5),(8,Aa 0),(9,Aa (k:Int))])
   (λ⟨i,e,x⟩ w=>Sep z (blk pr [.slice lo n lc,Aa 0,Aa 0,Aa 0,Aa 0,Aa (-1)] 133::grow 135 2 (.slice lo n lc) n (Cc e)::poolA x::seps (e.map RRow.asn)::A::R) w/\(i<=k/\RdP n (E7 F a bs i) (m+i) e x)) (λ⟨i,e,x⟩=>k-i) ⟨0,rows,hq⟩
   fr_z ⟨H,⟨Yi _,by rw[VS];exact hX⟩⟩ ?_
 clear H;rintro ⟨i,e,x⟩ w ⟨t,hI⟩;dsimp only at hI t ⊢;have H:=t.l5;obtain ⟨hi,y⟩:=hI;have c0:=y.1;refine Z0 8 [0] Z (Ag Z (λh3=>?_) (λh3=>?_))
 ·refine Z1 18 [] [((256*i:Nat):Int),((256*i:Nat):Int),((256*i+256:Nat):Int)] Z U (Ad Z (Ba Z (z:=1) (p:=(256*i)) (q:=(256*i+256)) (o':=o+256*i) (l':=256) (c':=c-256*i) J Z (.inr ⟨_,_,_,Z,Z,Z⟩) (.inr ⟨_,_,_,Z,Z,Z⟩) U U U U U U) ?_);replace H:=(H.nilg 5 1).l6
  refine AC Z (AJ 0 H Z Z J A2 Z Z (H.rd 5 Z (λh q=>(hA h q).cut (lo:=256*i) (m:=256) U U U)) (by intro c9 b3;obtain ⟨b9,_,rfl⟩:=X6.1 b3;rfl) U) ?_;rintro v1 w t;have b5:([]++((bs.drop (256*i)).take 256).map u8:List Value)=((bs.drop (256*i)).take 256).map u8:=(by rw[Yo]);rw[b5] at t;have H:=t.l6;have b0:=H.says 0 Z (λh q=>q.slc);refine Zc 4 Z ?_;obtain ⟨l,f,rfl⟩:=b0;obtain ⟨r,hr⟩:∃r,e[a+i]?=some r:=⟨_,XW U⟩;have a8:=(y.2.2 _ r hr).1;have a9:=(y.2.2 _ r hr).2;replace H:=H.f4;have t:=LJ hr H;clear H;obtain ⟨u,dc,a4⟩:=a8.d;obtain ⟨dv,vv,g⟩:=r;dsimp only at a4 a9;subst a4;have t:Sep z (grow 38 1 vv g.length g::seps ((e.map RRow.asn).eraseIdx (a+i))::grow 5 1 (.slice l 256 f) 256 (((bs.drop (256*i)).take 256).map u8)::blk pr [.slice lo n lc,Aa 0,Aa 0,Aa 0,Aa 0,Aa (-1)] 133::grow 135 2 (.slice lo n lc) n (Cc e)::poolA x::A::R) w:=t;have H:=t.l7;have b4:=H.says 0 Z (λh q=>q.slc);obtain ⟨vo,vc,rfl⟩:=b4;have c4:=H.says 0 Z (λh q=>q.rd.small);have s:=(H.rd 4 Z (λh q=>q.rd)).at (Er hr 0 _ Z);have b6:=(H.rd 4 Z (λh q=>q.rd)).at (Er hr 1 _ Z);replace H:=H.f4.f4;refine A1 (Sep z (blk pr [.slice lo n lc,Aa 0,Aa 0,Aa 0,Aa 0,Aa (-1)] 133::grow 135 2 (.slice lo n lc) n (Cc e)::R)) 23 Z J (A9 H λw t=>?_);have H:=t.l7;refine BA [0,1,2,3,4,5] [0,0] J (λ_ hx=>(A3 (hx.blk 0 Z) AU)) (by exact H.pick 7 [0,1] Z) Z J Z Z (Bg 6 J Z Z J J J Z Z Z (Cm Z Z Z (r:=((a+i:Nat):Int)) U U) (H.pick 7 [0,1] Z) (BA [7,8,9,10,11,12] [0,0] J (λ_ hx=>(A3 (hx.blk 0 Z) AU)) (by exact H.pick 7 [0,1] Z) Z J Z Z (Bg 13 J Z Z J J J Z Z Z (Cm Z Z Z (r:=((a+i:Nat):Int)) U U) (H.pick 7 [0,1] Z) (Bg 14 J Z Z J J J Z Z Z (Ar Z (z:=2) (j:=(a+i)) (r:=(a+i)*2) J Z Z Z U s U) (H.pick 7 [0,1] Z) (Bg 15 J Z Z J J J Z Z Z (CG Z (k:=1) (r:=(a+i)*2+1) J Z s Z) (H.pick 7 [0,1] Z) (Bg 16 J Z Z J J J Z Z Z (AK Z Z J (λ_ hs=>(hs.rd 1 Z (λh q=>q.rd)).at (Er hr 1 _ Z))) (H.pick 7 [0,1] Z) (BA [17] [] J (λ_ _=>AU) (by exact H.pick 7 [0,1] Z) Z J Z Z (Ay [18] J O (Az (Ck Z Z Z Z (AI H Z J Fi Z (by decide) (by decide) (out:=[.slice l 256 f]) J) ?_))))))))));rintro _ w ⟨b2,rfl,H⟩;replace H:=H.l8;refine Ax (λ_=>(H.pick 8 [1,2] Z)) (Ay [19] J O (Az (Ck Z Z Z Z (AJ 3 H Z Z J Fi Z Z (H.rd 0 Z (λh q=>q.rd U U O Z)) (Al Z AL) U) ?_)));rintro v3 w t;have t:Sep z (blk b2 [.slice l 256 f] 38::blk pr [.slice lo n lc,Aa 0,Aa 0,Aa 0,Aa 0,Aa (-1)] 133::grow 135 2 (.slice lo n lc) n (Cc e)::grow 38 1 v3 (g.length+1) (g++[.slice l 256 f])::seps ((e.map RRow.asn).eraseIdx (a+i))::grow 5 1 (.slice l 256 f) 256 (((bs.drop (256*i)).take 256).map u8)::poolA x::A::R) w:=t;have b1:(g++[.slice l 256 f]:List Value)=g++[.slice l 256 f]:=O;rw[b1] at t;have H:=t.l8;have a7:=H.says 3 Z (λh q=>q.slc);refine Ax (λ_=>(H.pick 8 [1,2] Z)) (Bg 20 J Z Z J J J Z Z Z (Ar Z (z:=2) (j:=(a+i)) (r:=(a+i)*2) J Z Z Z U s U) (H.pick 8 [1,2] Z) (Bg 21 J Z Z J J J Z Z Z (CG Z (k:=1) (r:=(a+i)*2+1) J Z s Z) (H.pick 8 [1,2] Z) (Ay [22] J O (Az (CA Z Z Z (IG 2 H Z Z Z Z (vs:=[v3]) a7.cells (Al a7.one AL) J U (by simp only[XZ,X4];omega) (out:=Cc (e.set (a+i) ⟨.slice u 256 dc,v3,g++[(.slice l 256 f)]⟩)) (IH (x2:=⟨.slice u 256 dc,v3,g++[(.slice l 256 f)]⟩) hr 1 _ O (by simp[RRow.cells]))) ?_)))));rintro w H;replace H:=H.l8;refine Ax (λh=>absurd Z h) (Bi J (gn (Zc 6 Z (Fz Z (λh4=>?_) (λh4=>?_)))))
  ·have a6:(e.set (a+i) ⟨.slice u 256 dc,v3,g++[(.slice l 256 f)]⟩)[a+i]?=some ⟨.slice u 256 dc,v3,g++[(.slice l 256 f)]⟩:=YR U
   have s:=(H.rd 2 Z (λh q=>q.rd)).at (Er a6 0 _ Z);refine Z3 10 [0,1,0] [((a+i:Nat):Int)] H Z U (Ad Z (Ar Z (z:=2) (j:=(a+i)) (r:=(a+i)*2) J Z Z Z U s U) (AV Z Z (IG 2 H Z Z Z Z (vs:=[(.slice l 256 f),.slice none 0 0]) Z (Al Z (Al Z AL)) J U (by simp only[XZ,X4];omega) (out:=Cc ((e.set (a+i) ⟨.slice u 256 dc,v3,g++[(.slice l 256 f)]⟩).set (a+i) ⟨(.slice l 256 f),.slice none 0 0,[]⟩)) (IH (x2:=⟨(.slice l 256 f),.slice none 0 0,[]⟩) a6 0 _ O (by simp[RRow.cells]))) ?_));rintro w H;replace H:=H.l8;refine Zc 3 Z ?_;rw[ZZ] at H;replace H:=((H.pick 8 [0,1,2,4,5,6,7] Z).nilg 38 1).l8;replace H:=H.f4.f1;have t:Sep z (RRow.asn ⟨(.slice l 256 f),.slice none 0 0,[]⟩::seps ((e.map RRow.asn).eraseIdx (a+i))::blk b2 [.slice l 256 f] 38::blk pr [.slice lo n lc,Aa 0,Aa 0,Aa 0,Aa 0,Aa (-1)] 133::grow 135 2 (.slice lo n lc) n (Cc (e.set (a+i) ⟨(.slice l 256 f),.slice none 0 0,[]⟩))::grow 5 1 (.slice l 256 f) 256 (((bs.drop (256*i)).take 256).map u8)::poolA x::A::R) w:=H;clear H;have H:=Iy ⟨(.slice l 256 f),.slice none 0 0,[]⟩ U t;clear t;replace H:=H.f4.f5;obtain ⟨a0,⟨a1,a2⟩,H⟩:=BW H (λh q=>q.rd);replace H:=H.l6;have a3:RdP n (E7 F a bs (i+1)) (m+(i+1)) (e.set (a+i) ⟨(.slice l 256 f),.slice none 0 0,[]⟩) a0:=by rw[N9];exact (y.le a1).set ⟨by rw[X1,Yr];omega,⟨_,_,Z⟩,by simpa [RRow.last] using a2⟩ U (by simp;try omega)
   refine Z1 5 [] [(i:Int)+1] Z U ?_;replace H:=H.f2.d.f4.f2.f2.f4.f4;refine gf ?_;intro _ hF;refine ⟨⟨i+1,e.set (a+i) ⟨(.slice l 256 f),.slice none 0 0,[]⟩,a0⟩,hF.cz,⟨H,?_⟩,?_⟩
   ·exact ⟨by show i+1<=k;omega,a3⟩
   (dsimp only;omega)
  refine Zc 3 Z ?_;replace H:=H.f4.f4;have t:Sep z (RRow.asn ⟨.slice u 256 dc,v3,g++[(.slice l 256 f)]⟩::seps ((e.map RRow.asn).eraseIdx (a+i))::blk b2 [.slice l 256 f] 38::blk pr [.slice lo n lc,Aa 0,Aa 0,Aa 0,Aa 0,Aa (-1)] 133::grow 135 2 (.slice lo n lc) n (Cc (e.set (a+i) ⟨.slice u 256 dc,v3,g++[(.slice l 256 f)]⟩))::grow 5 1 (.slice l 256 f) 256 (((bs.drop (256*i)).take 256).map u8)::poolA x::A::R) w:=by have h9:=H;rw[show g.length+1=(g++[(.slice l 256 f)]:List Value).length from by simp] at h9;exact h9
  clear H;have H:=Iy ⟨.slice u 256 dc,v3,g++[(.slice l 256 f)]⟩ U t;clear t;replace H:=H.f4.f5;obtain ⟨a0,⟨a1,a2⟩,H⟩:=BW H (λh q=>q.rd);replace H:=H.l6;have a3:RdP n (E7 F a bs (i+1)) (m+(i+1)) (e.set (a+i) ⟨.slice u 256 dc,v3,g++[(.slice l 256 f)]⟩) a0:=by rw[N9];exact (y.le a1).set ⟨by rw[X1,Yr];omega,⟨_,_,Z⟩,by simpa [RRow.last] using a2⟩ U (by simp;try omega)
  refine Z1 5 [] [(i:Int)+1] Z U ?_;replace H:=H.f2.d.f4.f2.f2.f4.f4;refine gf ?_;intro _ hF;refine ⟨⟨i+1,e.set (a+i) ⟨.slice u 256 dc,v3,g++[(.slice l 256 f)]⟩,a0⟩,hF.cz,⟨H,?_⟩,?_⟩
  ·exact ⟨by show i+1<=k;omega,a3⟩
  (dsimp only;omega)
 refine Zc 2 Z (gx (Zc 5 Z (Ah Z (call170 _) (Np _ _ _ _ U) H ?_)));intro w H;refine Zc 8 Z (Zr Z ?_);obtain rfl:i=k:=by omega
 have t:=(H.pick 5 [0,1,2,3,4] Z).toRk y;exact ⟨_,⟨Z,Z⟩,t⟩
set_option maxHeartbeats 4000000 in
theorem II (k n m:Nat) (F:Nat->List UInt8):An 113 [V k] [rdkA k n F m] (λv G=>v=Aa 0/\G=[rdkA k n F m]):=by
 intro z R w H;obtain ⟨lv,rows,hq,x,c⟩:=H.rk;clear H;have a1:=x.1;have a2:=x.2.1;have H:=c.l4;have u:=H.sy 1 (·.slc);obtain ⟨lo,s,rfl⟩:=u;refine Af func113 Z ntmps113 Z (Zc 9 Z (Ah Z (call138 _) (P5 _ _ _ _ U) H ?_));intro w H;refine Z2 19 [5,0,0,4] H Z ?_;refine Ap (σ:=Nat×List RRow) (λ⟨i,a⟩=>[(3,Aa (i:Int)),(0,V k),(2,Aa 0)])
   (λ⟨i,a⟩ w=>Sep z (blk k [.slice lo n s,Aa 0,Aa 0,Aa 0,Aa 0,Aa (-1)] 133::grow 135 2 (.slice lo n s) n (Cc a)::poolA hq::seps (a.map RRow.asn)::R) w/\(i<=n/\RdP n F m a hq)) (λ⟨i,a⟩=>n-i) ⟨0,rows⟩
   fr_z ⟨H,⟨Yi _,x⟩⟩ ?_
 clear H;rintro ⟨i,a⟩ w ⟨c,hI⟩;dsimp only at hI c ⊢;have H:=c.l4;obtain ⟨hi,b⟩:=hI;have a0:=b.1;refine Z2 12 [0,0,0,0] H Z (Ag Z (λh1=>?_) (λh1=>?_))
 ·refine Zc 4 Z ?_;obtain ⟨r,l⟩:∃r,a[i]?=some r:=⟨_,XW U⟩;have o:=(b.2.2 _ r l).1
  have g:=(H.rv 1 (·.rd)).at (Er l 0 _ Z);refine A1 (Sep z (blk k [.slice lo n s,Aa 0,Aa 0,Aa 0,Aa 0,Aa (-1)] 133::grow 135 2 (.slice lo n s) n (Cc a)::R)) 11 Z J (A9 H λw c=>?_);have H:=c.l4;refine BA [0,1,2,3,4,5,6] [0,0] J (λ_ hx=>(A3 (hx.blk 0 Z) AU)) (by exact H.pick 4 [0,1] Z) Z J Z Z (Ay [7] J O (Az (BF Z Z Z Z Z Z (λw=>call139 _ w) (Nq _ _ _ _ U _ _ i _ l _ o U) H Z ?_)));rintro lq w _ ⟨_,q,rfl,rfl⟩ H;have t:=q.slc;obtain ⟨f,e,rfl⟩:=t;refine Ax (λ_=>(H.pick 4 [0,1] Z)) (Bg 8 J Z Z J J J Z Z Z (AQ Z Z (out:=[.slice f 256 e,.slice none 0 0]) J) (H.pick 4 [0,1] Z) (Bg 9 J Z Z J J J Z Z Z (Ar Z (z:=2) (j:=i) (r:=i*2) J Z Z Z U g U) (H.pick 4 [0,1] Z) (Ay [10] J O (Az (CA Z Z Z (IG 1 H Z Z Z Z (vs:=[(.slice f 256 e),.slice none 0 0]) Z (Al Z (Al Z AL)) J U (by simp only[XZ,X4];omega) (out:=Cc (a.set i ⟨(.slice f 256 e),.slice none 0 0,[]⟩)) (IH (x2:=⟨(.slice f 256 e),.slice none 0 0,[]⟩) l 0 _ O (by simp[RRow.cells]))) ?_)))));rintro w H;refine Ax (λh=>absurd Z h) (Bi J (gn (Zc 2 Z ?_)));replace H:=H.f3;replace H:=((LJ l H).d.nilg 38 1).l5;replace H:=(Iy (rows:=a) ⟨(.slice f 256 e),.slice none 0 0,[]⟩ U H).l4;have y:RdP n F m (a.set i ⟨(.slice f 256 e),.slice none 0 0,[]⟩) hq:=by have h9:=b.set (i:=i) (p:=F i) (r:=⟨(.slice f 256 e),.slice none 0 0,[]⟩) ⟨o.len,⟨_,_,Z⟩,by simpa [RRow.last] using q⟩ (Yp m) (Yi _);rwa[Wl] at h9
  refine Z1 5 [] [(i:Int)+1] Z U ?_;replace H:=H.f3.f3.f3;refine gf ?_;intro _ hF;refine ⟨⟨i+1,a.set i ⟨(.slice f 256 e),.slice none 0 0,[]⟩⟩,hF.cz,⟨H,?_⟩,?_⟩
  ·exact ⟨by show i+1<=n;omega,y⟩
  (dsimp only;omega)
 refine Zc 2 Z (gx (Zc 5 Z (Ah Z (call170 _) (Np _ _ _ _ U) H ?_)));intro w H;refine Zc 8 Z (Zr Z ?_);have c:=(H.pick 4 [0,1,2,3] Z).toRk b;exact ⟨_,⟨Z,Z⟩,c⟩
end
theorem So{rows:List RRow}{hq a:Hp}{z:List UInt8}(h:∀(j:Nat) (r:RRow),rows[j]?=some r->r.Ok hq z/\r.pvs.length<=0)(s:BC hq a){rn:RRow}(d:rn.Ok a z)(e:rn.pvs.length<=0):∀(j:Nat) (r:RRow),(rows++[rn])[j]?=some r->r.Ok a z/\r.pvs.length<=0:=λj r c=>by
 rcases Yt.1 (XX c) with q|q
 ·obtain ⟨i,b⟩:=List.mem_iff_getElem?.1 q
  exact ⟨(h i r b).1.le s,(h i r b).2⟩
 rw[YA] at q;subst q;exact ⟨d,e⟩
set_option maxHeartbeats 2000000 in
theorem Wm (n:Nat) (hn:1<=n/\n<=4096):An 34 [Aa (n:Int)] [] (λv G=>∃s:Nat,v=.tuple #[V s,Aa 0]/\G=[rdkA s n (λ_=>(List.replicate 256 (0:UInt8))) 0]):=by
 intro z R w H;refine Af func34 Z ntmps34 Z (Z0 12 [0] Z (Am 8 Z (λh1=>U) (λh1=>?_)));refine Z0 5 [0] Z (Ag Z (λh2=>U) (λh2=>?_));refine Zc 4 Z (Ad Z (AQ Z Z (out:=[.slice none 0 0,Aa 0,Aa 0,Aa 0,Aa 0,Aa (-1)]) J) (Za 0 [] H Z ?_));intro e w H;refine Zc 5 Z ?_;replace H:=(((FS H).nilg 135 2).void (B:=seps (([]:List RRow).map RRow.asn)) (λh=>⟨λ_=>0,λi A h=>by simp at h⟩)).l4;refine Zc 5 Z ?_;refine Ap (σ:=Nat×Value×List RRow×Hp) (λ⟨i,u,rows,hq⟩=>[(5,Aa (i:Int)),(0,Aa (n:Int)),(2,.pointer none),(3,Aa 0),(4,V e)])
   (λ⟨i,u,rows,hq⟩ w=>Sep z (seps (rows.map RRow.asn)::grow 135 2 u i (Cc rows)::poolA hq::blk e [u,Aa 0,Aa 0,Aa 0,Aa 0,Aa (-1)] 133::R) w/\(i<=n/\rows.length=i/\∀(j:Nat) (r:RRow),rows[j]?=some r->r.Ok hq (List.replicate 256 (0:UInt8))/\r.pvs.length<=0)) (λ⟨i,u,rows,hq⟩=>n-i) ⟨0,.slice none 0 0,[],λ_=>none⟩
   fr_z ⟨H,⟨Yi _,Z,λj r h=>by simp at h⟩⟩ ?_
 clear H;rintro ⟨i,u,rows,hq⟩ w ⟨a,t⟩;dsimp only at t a ⊢;have H:=a.l4;have su:=H.sy 1 (·.slc);obtain ⟨hi,f,y⟩:=t;refine Z0 8 [0] Z (Ag Z (λh3=>?_) (λh3=>?_))
 ·refine Zc 4 Z ?_;replace H:=H.f3;refine A1 (Sep z (blk e [u,Aa 0,Aa 0,Aa 0,Aa 0,Aa (-1)] 133::R)) 12 Z J (A9 H λw a=>?_)
  have H:=a.l4;refine BA [0,1,2,3,4] [0,0] J (λ_ hx=>(A3 (hx.blk 0 Z) AU)) (by exact H.pick 4 [0] Z) Z J Z Z (Ay [5] J O (Az (Ck Z Z Z Z (C8 (k:=256) H Z J A2 Z Z Z U) ?_)));rintro _ w ⟨b,rfl,H⟩;refine Ax (λ_=>(H.pick 5 [1] Z)) (Bg 6 J Z Z J J J Z Z Z (AQ Z Z (out:=[.slice (some ⟨b,0,none⟩) 256 256,.slice none 0 0]) J) (H.pick 5 [1] Z) (Ay [7] J O (Az (Ck Z Z Z Z (AI H Z J Dq Z (by decide) (by decide) (out:=[.slice (some ⟨b,0,none⟩) 256 256,.slice none 0 0]) J) ?_))));rintro _ w ⟨b3,rfl,H⟩;refine Ax (λ_=>(H.pick 6 [2] Z)) (Ay [8] J O (Az (Ck Z Z Z Z (AJ 4 H Z Z J Dq Z Z (H.rv 0 (·.rd U U O Z)) (Al Z (Al Z AL)) U) ?_)));rintro x w a;have a:Sep z (blk b3 [.slice (some ⟨b,0,none⟩) 256 256,.slice none 0 0] 135::blk b (List.replicate 256 (u8 0)) 5::blk e [u,Aa 0,Aa 0,Aa 0,Aa 0,Aa (-1)] 133::seps (rows.map RRow.asn)::grow 135 2 x (i+1) (Cc rows++[.slice (some ⟨b,0,none⟩) 256 256,.slice none 0 0])::poolA hq::R) w:=a;have p:(Cc rows++[.slice (some ⟨b,0,none⟩) 256 256,.slice none 0 0]:List Value)=Cc (rows++[⟨.slice (some ⟨b,0,none⟩) 256 256,.slice none 0 0,[]⟩]):=(by rw[JO];rfl);rw[p] at a;have H:=a.l6;have c:=H.sy 4 (·.slc);refine Ax (λ_=>(H.pick 6 [2] Z)) (BA [9,10] [0] J (λ_ _=>AU) (by exact H.pick 6 [2] Z) Z J Z Z (Ay [11] J O (Az (CA Z Z Z (NH 2 H Z Z Z Z c.cells c.one J) ?_))));rintro w H;refine Ax (λh=>absurd Z h) (Bi J (gn (Zc 2 Z ?_)));replace H:=H.f3;have a:=H.nilg 38 1;clear H;have H:=PC (rows:=rows) ⟨.slice (some ⟨b,0,none⟩) 256 256,.slice none 0 0,[]⟩ a;clear a;replace H:=H.f2.f5;obtain ⟨m,⟨l,o⟩,H⟩:=BW H (sz:=1) (n:=256) (v:=.slice (some ⟨b,0,none⟩) 256 256) (xs:=(List.replicate 256 (0:UInt8)).map u8) (λh q=>q.rd U U O (by simp[u8]));have g:=So y l (rn:=⟨.slice (some ⟨b,0,none⟩) 256 256,.slice none 0 0,[]⟩) ⟨by simp,⟨_,_,Z⟩,by simpa [RRow.last] using o⟩ (Yp 0);refine Z1 5 [] [(i:Int)+1] Z U ?_;replace H:=H.f2.d.f2.f1.f3.f3;refine gf ?_;intro _ hF;refine ⟨⟨i+1,x,rows++[⟨.slice (some ⟨b,0,none⟩) 256 256,.slice none 0 0,[]⟩],m⟩,hF.cz,⟨H,?_⟩,?_⟩
  ·exact ⟨by show i+1<=n;omega,by simp[f],g⟩
  (dsimp only;omega)
 refine Zc 2 Z (gx (Zc 10 Z (Zr Z ?_)));obtain rfl:i=n:=by omega
 exact ⟨_,⟨e,Z,Z⟩,(H.pick 4 [3,1,2,0] Z).toRk ⟨f,hn,y⟩⟩
theorem FH(s:Sup)(n:Nat)(a:s.Ok (n:Int))(c:n<=4096):An 147 [.agg #[Aa s.gen,Aa s.epoch,Aa s.pages,Aa s.start,Aa s.len,Aa s.head,Aa s.seq],Aa (n:Int)] [] (λv G=>v=Aa 0/\G=[]):=by
 intro z R w H;have hs:=a.1;have j:=a.2;have l:=Sup.get a;refine Af func147 Z ntmps147 Z (Za 2 [] H Z ?_);intro k w H;refine Z2 6 [0,7] H Z (AB Z (call184 _) (F2 _ hs) H ?_);rintro _ w _ ⟨m,rfl,rfl⟩ H;have g:=H.sy 0 (·.slc);refine Z2 18 [4,2,1,0,0] H Z (Am 19 Z (λd=>U) (λd=>?_));refine Z2 5 [2,1,0,0] H Z (Am 24 Z (λf=>U) (λf=>?_));refine Z3 8 [3,1,0,2,1,0,0] [2+s.pages] H Z U (Am 32 Z (λe=>U) (λe=>?_));refine Z2 5 [4,1,0,0] H Z (Am 37 Z (λh=>U) (λh=>?_));refine Z3 9 [3,1,0,4,1,0,0] [s.start+s.len] H Z U (Am 46 Z (λi=>U) (λi=>?_));refine Z2 8 [5,1,0,4,1,0,0] H Z (Ag Z (λb=>U) (λb=>?_));refine Zc 8 Z (Zr Z ?_);exact ⟨_,⟨Z,Z⟩,H.pick 2 [] Z⟩
theorem Sp{b a y:Sup}(c:(b.gen<a.gen/\y=a)\/(a.gen<=b.gen/\y=b))(h:b.gen<a.gen):a=y:=by
 rcases c with ⟨_,q⟩|⟨q,_⟩
 ·exact q.symm
 omega
theorem Sq{a b y:Sup}(c:(a.gen<b.gen/\y=b)\/(b.gen<=a.gen/\y=a))(h:¬a.gen<b.gen):a=y:=by
 rcases c with ⟨q,_⟩|⟨_,q⟩
 ·omega
 exact q.symm
set_option maxHeartbeats 2000000 in
theorem J0 (b n m:Nat) (k:m<=1000000000) (F:Nat->List UInt8) (s:Sup) (a:s.Ok (n:Int)):An 150 [V b,.agg #[Aa s.gen,Aa s.epoch,Aa s.pages,Aa s.start,Aa s.len,Aa s.head,Aa s.seq]] [rdkA b n F m] (λv G=>v=Aa 0/\G=[rdkA b n (By F (s.gen%2).toNat (Br s)) (m+1)]):=by
 intro z R w H;obtain ⟨u,rows,hq,f,c⟩:=H.rk;clear H;have p:=f.1;have j:=f.2.1;have H:=c.l4;have e:=H.sy 1 (·.slc);obtain ⟨lo,i,rfl⟩:=e;have hs:=a.1;have r:=a.2;have o:=Sup.get a;refine Af func150 Z ntmps150 Z (Za 2 [] H Z ?_);intro g w H;refine Zc 4 Z (A1 (Sep z (blk g [Aa s.gen,Aa s.epoch,Aa s.pages,Aa s.start,Aa s.len,Aa s.head,Aa s.seq] 92::blk b [.slice lo n i,Aa 0,Aa 0,Aa 0,Aa 0,Aa (-1)] 133::R)) 8 Z J (A9 H λw c=>?_));have H:=c.l5;refine Bg 0 J Z Z J J J Z Z Z (Bz Z Z (vs:=[Aa s.gen,Aa s.epoch,Aa s.pages,Aa s.start,Aa s.len,Aa s.head,Aa s.seq]) J (λ_ d=>(d.blk 0 Z).part 0 7 _ Z)) (H.pick 5 [0,1] Z) (BA [1,2,3,4] [0,0] J (λ_ d=>(A3 (d.blk 1 Z) AU)) (by exact H.pick 5 [0,1] Z) Z J Z Z (Bg 5 J Z Z J J J Z Z Z (D4 Z (z:=2) J Z) (H.pick 5 [0,1] Z) (Ay [6] J O (Az (BF Z Z Z Z Z Z (λw=>call147 _ w) (FH _ n a U) H Z ?_)))));rintro _ w _ ⟨rfl,rfl⟩ H;refine Ax (λ_=>(H.pick 5 [0,1] Z)) (Ay [7] J O (Az (Dr Z Z Z Z (Bq Z Z) (Ax (λh=>absurd Z h) (Bi J (gn (Z0 12 [4] Z ?_)))))));have c:Sep z (rdkA b n F m::blk g [Aa s.gen,Aa s.epoch,Aa s.pages,Aa s.start,Aa s.len,Aa s.head,Aa s.seq] 92::R) w:=(H.pick 5 [1,2,3,4,0] Z).toRk f;clear H;have H:=c.l2;refine Z2 2 [1,7] H Z (AB Z (call184 _) (F2 _ hs) H ?_);rintro _ w _ ⟨t,rfl,rfl⟩ H;have l:=H.sy 0 (·.slc);refine Z3 14 [0,2,0] [(((s.gen%2).toNat:Nat):Int)] H Z U (Ah Z (call149 _) (GU _ n _ U _ ((s.gen%2).toNat) 1 true _ (Br s) _ (λh q=>q.rd) (by first|(rw[Dn])|(simp[De, *])|omega) U U) H.f1 ?_);intro w H;rw[RX _ _ (by first|(rw[Dn])|(simp[De, *])|omega)] at H;refine Zc 4 Z (Zr Z ?_);exact ⟨_,⟨Z,Z⟩,H.pick 3 [0] Z⟩
set_option maxHeartbeats 4000000 in
theorem UR (g n m:Nat) (F:Nat->List UInt8) (p t y:Sup) (a6:F 0=Br p) (a9:F 1=Br t) (a5:p.Ok (n:Int)) (a3:t.Ok (n:Int)) (g0:p.gen%2=0) (g1:t.gen%2=1) (hy:(p.gen<t.gen/\y=t)\/(t.gen<=p.gen/\y=p)) (b3:2<=n):An 151 [V g] [rdkA g n F m] (λv G=>v=.tuple #[.agg #[Aa y.gen,Aa y.epoch,Aa y.pages,Aa y.start,Aa y.len,Aa y.head,Aa y.seq],Aa 0]/\G=[rdkA g n F m]):=by
 intro z R w H;obtain ⟨lv,rows,hq,f,b⟩:=H.rk;clear H;have a0:=f.1;have a1:=f.2.1;have H:=b.l4;have j:=H.sy 1 (·.slc);obtain ⟨lo,lc,rfl⟩:=j;refine Af func151 Z ntmps151 Z (Za 2 [] H Z ?_);intro b1 w H;refine Z2 14 [0,1,0,0] H Z (Ag Z (λh1=>U) (λh1=>?_));refine Zc 3 Z ?_;have b:Sep z (rdkA g n F m::blk b1 [Aa 0,Aa 0,Aa 0,Aa 0,Aa 0,Aa 0,Aa 0] 92::R) w:=(H.pick 5 [1,2,3,4,0] Z).toRk f;clear H;have H:=b.l2;refine Zc 1 Z (Ad Z (AQ Z Z (out:=[Aa 0,Aa 0,Aa 0,Aa 0,Aa 0,Aa 0,Aa 0]) J) (Za 0 [] H Z ?_));intro x w H;refine Z4 20 [0] H Z ?_;intro w H;refine Ap (σ:=Nat×Sup) (λ⟨i,a⟩=>[(7,Aa (i:Int)),(6,.bool false),(5,.bool (decide (0<i))),(0,V g),(2,V b1),(3,Aa 0),(4,V x)])
   (λ⟨i,a⟩ w=>Sep z (blk x [Aa a.gen,Aa a.epoch,Aa a.pages,Aa a.start,Aa a.len,Aa a.head,Aa a.seq] 92::rdkA g n F m::blk b1 [Aa 0,Aa 0,Aa 0,Aa 0,Aa 0,Aa 0,Aa 0] 92::R) w/\(i<=2/\(i=1->a=p)/\(i=2->a=y))) (λ⟨i,a⟩=>2-i) ⟨0,⟨0,0,0,0,0,0,0⟩⟩
   (λ_ c=>(c.co Z (by go_num) (c.co Z Z c.cz))) ⟨H,⟨Yi _,λe=>by simp at e,λe=>by simp at e⟩⟩ ?_
 clear H;rintro ⟨i,a⟩ w ⟨b,hI⟩;dsimp only at hI b ⊢;have H:=b.l3;obtain ⟨hi,a4,a7⟩:=hI;refine Z0 7 [0] Z (Ag Z (λh2=>?_) (λh2=>?_))
 ·refine Zc 5 Z ?_;obtain ⟨s,r,k,b6,u,a8⟩:∃s:Sup,F i=Br s/\s.Ok (n:Int)/\s.gen%2=(i:Int)/\(i=0->s=p)/\(i=1->s=t):=by rcases (show i=0\/i=1 by omega) with rfl|rfl<;>first|exact ⟨p,a6,a5,g0,λ_=>rfl,λe=>by omega⟩|exact ⟨t,a9,a3,g1,λe=>by omega,λ_=>rfl⟩
  have hs:=k.1;have b0:=Sup.get k;have a2:(F i).length=256:=by rw[r];exact Dn s
  refine Zc 3 Z (AB Z (call84 _) (HO _ _ _ _ i U) H.f1 ?_);rintro _ w _ ⟨u3,rfl,rfl⟩ H;have b5:=H.sy 0 (·.slc);refine Z0 20 [4] Z (Ah Z (call185 _) (Ms _ (F i) _ (λh q=>by rw[a2];exact q.rd) s hs r) H ?_);intro w H;refine Za 3 [] H Z ?_;intro b4 w H;refine Z4 5 [0] H Z ?_;intro w H;rcases (show i=0\/i=1 by omega) with rfl|rfl
  ·refine k_updA 5 (v:=.bool false) Z Z ?_;replace H:=H.f2;obtain ⟨lv,rows,hq,f,b⟩:=H.rk;clear H;have a0:=f.1
   have a1:=f.2.1;have H:=b.l8;have j:=H.sy 1 (·.slc);obtain ⟨lo,lc,rfl⟩:=j;replace H:=H.f6.f1.f5;refine BQ (Sep z (blk b4 [Aa s.gen,Aa s.epoch,Aa s.pages,Aa s.start,Aa s.len,Aa s.head,Aa s.seq] 92::blk g [.slice lo n lc,Aa 0,Aa 0,Aa 0,Aa 0,Aa (-1)] 133::blk x [Aa a.gen,Aa a.epoch,Aa a.pages,Aa a.start,Aa a.len,Aa a.head,Aa a.seq] 92::R)) 29 Z J (A9 H λw b=>?_);have H:=b.l8;refine CC [0,1,2,3,4,5,6,7] [0,7,0,1,0] [] (by exact H.pick 8 [0,1,2] Z) Z J Z (Cg [8] J O (Az (BF Z Z Z Z Z Z (λw=>call147 _ w) (FH _ n k U) H Z ?_)));rintro _ w _ ⟨rfl,rfl⟩ H;refine B3 (H.pick 8 [0,1,2] Z) (OP [9,10,11,12,13,14,15,16] [3,0,0,0,0] [s.gen%2] (by exact H.pick 8 [0,1,2] Z) Z J U Z (k_updA 56 (v:=.bool true) Z (congrArg Value.bool (decide_eq_true U)) (CC [17,18,19,20,21,22,23,24,25,26,27,28] [] [] (by exact H.pick 8 [0,1,2] Z) Z J Z (a_done J (gn (Z4 13 [0,7,2] H Z ?_))))));intro w H;have b:Sep z (rdkA g n F m::blk b4 [Aa s.gen,Aa s.epoch,Aa s.pages,Aa s.start,Aa s.len,Aa s.head,Aa s.seq] 92::blk x [Aa s.gen,Aa s.epoch,Aa s.pages,Aa s.start,Aa s.len,Aa s.head,Aa s.seq] 92::grow 5 1 u3 256 ((F 0).map u8)::blk b1 [Aa 0,Aa 0,Aa 0,Aa 0,Aa 0,Aa 0,Aa 0] 92::R) w:=(H.pick 8 [1,3,4,5,0,2,6,7] Z).toRk f;clear H;have H:=b.l5;refine k_updA 5 (v:=.bool (decide (0<0+1))) Z Z (Z1 5 [] [(0:Int)+1] Z U ?_);replace H:=H.f3.d.f1.d.f2.f1.f2;refine gf ?_;intro _ c;refine ⟨⟨0+1,s⟩,(c.co Z (by go_num) (c.co Z Z c.cz)),⟨H,?_⟩,?_⟩
   ·first|exact ⟨by dsimp only;omega,λ_=>u Z,λe=>by dsimp only at e;omega⟩|exact ⟨by dsimp only;omega,λe=>by dsimp only at e;omega,λ_=>l.trans (Sp hy (by rw[<-o,<-l];assumption))⟩|exact ⟨by dsimp only;omega,λe=>by dsimp only at e;omega,λ_=>o.trans (Sq hy (by rw[<-o,<-l];assumption))⟩
   (dsimp only;omega)
  refine k_updA 5 (v:=.bool true) Z Z ?_;have l:=a8 Z;have o:=a4 Z;replace H:=H.f2;obtain ⟨lv,rows,hq,f,b⟩:=H.rk;clear H;have a0:=f.1;have a1:=f.2.1;have H:=b.l8;have j:=H.sy 1 (·.slc);obtain ⟨lo,lc,rfl⟩:=j;replace H:=H.f6.f1.f5;refine BQ (Sep z (blk b4 [Aa s.gen,Aa s.epoch,Aa s.pages,Aa s.start,Aa s.len,Aa s.head,Aa s.seq] 92::blk g [.slice lo n lc,Aa 0,Aa 0,Aa 0,Aa 0,Aa (-1)] 133::blk x [Aa a.gen,Aa a.epoch,Aa a.pages,Aa a.start,Aa a.len,Aa a.head,Aa a.seq] 92::R)) 29 Z J (A9 H λw b=>?_);have H:=b.l8;refine CC [0,1,2,3,4,5,6,7] [0,7,0,1,0] [] (by exact H.pick 8 [0,1,2] Z) Z J Z (Cg [8] J O (Az (BF Z Z Z Z Z Z (λw=>call147 _ w) (FH _ n k U) H Z ?_)));rintro _ w _ ⟨rfl,rfl⟩ H;refine B3 (H.pick 8 [0,1,2] Z) (OP [9,10,11,12,13,14,15,16] [3,0,0,0,0] [s.gen%2] (by exact H.pick 8 [0,1,2] Z) Z J U Z (k_updA 56 (v:=.bool true) Z (congrArg Value.bool (decide_eq_true U)) (CC [17,18,19,20,21,22,23,24,25,26,27,28] [0,0,0,0,2,0,0] [] (by exact H.pick 8 [0,1,2] Z) Z J Z (a_done J (gn (Zc 1 Z (Ag Z (λh3=>?_) (λh3=>?_))))))))
  ·refine Z4 11 [0,7,2] H Z ?_;intro w H;have b:Sep z (rdkA g n F m::blk b4 [Aa s.gen,Aa s.epoch,Aa s.pages,Aa s.start,Aa s.len,Aa s.head,Aa s.seq] 92::blk x [Aa s.gen,Aa s.epoch,Aa s.pages,Aa s.start,Aa s.len,Aa s.head,Aa s.seq] 92::grow 5 1 u3 256 ((F 1).map u8)::blk b1 [Aa 0,Aa 0,Aa 0,Aa 0,Aa 0,Aa 0,Aa 0] 92::R) w:=(H.pick 8 [1,3,4,5,0,2,6,7] Z).toRk f
   clear H;have H:=b.l5;refine k_updA 5 (v:=.bool (decide (0<1+1))) Z Z (Z1 5 [] [(1:Int)+1] Z U ?_);replace H:=H.f3.d.f1.d.f2.f1.f2;refine gf ?_;intro _ c;refine ⟨⟨1+1,s⟩,(c.co Z (by go_num) (c.co Z Z c.cz)),⟨H,?_⟩,?_⟩
   ·first|exact ⟨by dsimp only;omega,λ_=>u Z,λe=>by dsimp only at e;omega⟩|exact ⟨by dsimp only;omega,λe=>by dsimp only at e;omega,λ_=>l.trans (Sp hy (by rw[<-o,<-l];assumption))⟩|exact ⟨by dsimp only;omega,λe=>by dsimp only at e;omega,λ_=>o.trans (Sq hy (by rw[<-o,<-l];assumption))⟩
   (dsimp only;omega)
  refine Zc 3 Z ?_;have b:Sep z (rdkA g n F m::blk b4 [Aa s.gen,Aa s.epoch,Aa s.pages,Aa s.start,Aa s.len,Aa s.head,Aa s.seq] 92::blk x [Aa a.gen,Aa a.epoch,Aa a.pages,Aa a.start,Aa a.len,Aa a.head,Aa a.seq] 92::grow 5 1 u3 256 ((F 1).map u8)::blk b1 [Aa 0,Aa 0,Aa 0,Aa 0,Aa 0,Aa 0,Aa 0] 92::R) w:=(H.pick 8 [1,3,4,5,0,2,6,7] Z).toRk f;clear H;have H:=b.l5;refine k_updA 5 (v:=.bool (decide (0<1+1))) Z Z (Z1 5 [] [(1:Int)+1] Z U ?_);replace H:=H.f3.d.f1.d.f2.f1.f2;refine gf ?_;intro _ c;refine ⟨⟨1+1,a⟩,(c.co Z (by go_num) (c.co Z Z c.cz)),⟨H,?_⟩,?_⟩
  ·first|exact ⟨by dsimp only;omega,λ_=>u Z,λe=>by dsimp only at e;omega⟩|exact ⟨by dsimp only;omega,λe=>by dsimp only at e;omega,λ_=>l.trans (Sp hy (by rw[<-o,<-l];assumption))⟩|exact ⟨by dsimp only;omega,λe=>by dsimp only at e;omega,λ_=>o.trans (Sq hy (by rw[<-o,<-l];assumption))⟩
  (dsimp only;omega)
 refine Zc 2 Z (gx (Zc 4 Z ?_));obtain rfl:i=2:=by omega
 refine k_updA 5 (v:=.bool true) Z Z (Z4 25 [0,7,2] H Z ?_);intro w H;refine Zl [2,7] H Z ?_;obtain rfl:a=y:=a7 Z;exact ⟨_,⟨Z,Z⟩,H.pick 3 [1] Z⟩
theorem Nr(a n m:Nat)(F:Nat->List UInt8)(s:Sup)(d:s.Ok (n:Int)):An 155 [V a,.agg #[Aa s.gen,Aa s.epoch,Aa s.pages,Aa s.start,Aa s.len,Aa s.head,Aa s.seq]] [rdkA a n F m] (λv G=>∃i:Nat,v=V i/\G=[blk i [V a,Aa s.gen,Aa s.epoch,Aa s.pages,Aa s.start,Aa s.len,Aa s.head,Aa s.seq,Aa s.head,Aa s.seq,Aa 0,.bool false] 249,rdkA a n F m]):=by
 intro z R w H;obtain ⟨p,rows,hq,f,b⟩:=H.rk;clear H;have l:=f.1;have k:=f.2.1;have H:=b.l4;have e:=H.sy 1 (·.slc);obtain ⟨lo,j,rfl⟩:=e;refine Af func155 Z ntmps155 Z (Za 2 [] H Z ?_);intro g w H;refine Zc 5 Z (A1 (Sep z (blk g [Aa s.gen,Aa s.epoch,Aa s.pages,Aa s.start,Aa s.len,Aa s.head,Aa s.seq] 92::blk a [.slice lo n j,Aa 0,Aa 0,Aa 0,Aa 0,Aa (-1)] 133::R)) 8 Z J (A9 H λw b=>?_));have H:=b.l5;refine Bg 0 J Z Z J J J Z Z Z (Bz Z Z (vs:=[Aa s.gen,Aa s.epoch,Aa s.pages,Aa s.start,Aa s.len,Aa s.head,Aa s.seq]) J (λ_ c=>(c.blk 0 Z).part 0 7 _ Z)) (H.pick 5 [0,1] Z) (BA [1,2,3,4] [0,0] J (λ_ c=>(A3 (c.blk 1 Z) AU)) (by exact H.pick 5 [0,1] Z) Z J Z Z (Bg 5 J Z Z J J J Z Z Z (D4 Z (z:=2) J Z) (H.pick 5 [0,1] Z) (Ay [6] J O (Az (BF Z Z Z Z Z Z (λw=>call147 _ w) (FH _ n d U) H Z ?_)))));rintro _ w _ ⟨rfl,rfl⟩ H;refine Ax (λ_=>(H.pick 5 [0,1] Z)) (Ay [7] J O (Az (Dr Z Z Z Z (ND Z Z Z) (QC 12 Z Z (Ax (λh=>absurd Z h) (Bi J (gn (Zc 5 Z ?_))))))));have b:Sep z (rdkA a n F m::blk g [Aa s.gen,Aa s.epoch,Aa s.pages,Aa s.start,Aa s.len,Aa s.head,Aa s.seq] 92::R) w:=(H.pick 5 [1,2,3,4,0] Z).toRk f;clear H;have H:=b.l2;refine Z2 7 [1,7,5,1,0,6,1,0] H Z (Ad Z (AQ Z Z (out:=[V a,Aa s.gen,Aa s.epoch,Aa s.pages,Aa s.start,Aa s.len,Aa s.head,Aa s.seq,Aa s.head,Aa s.seq,Aa 0,.bool false]) J) (Za 0 [] H Z ?_));intro o w H;refine Zc 4 Z (Zr Z ?_);exact ⟨_,⟨o,Z,Z⟩,H.pick 3 [0,1] Z⟩
theorem Hq(b c:Nat)(s:Sup)(a q u:Int)(hs:(0<=s.start/\s.start<=1099511627776)/\0<s.len/\s.len<=1099511627776)(x:Int)(g:0<=x/\x<=1099511627776):An 186 [V b,Aa x] [blk b [V c,Aa s.gen,Aa s.epoch,Aa s.pages,Aa s.start,Aa s.len,Aa s.head,Aa s.seq,Aa a,Aa q,Aa u,.bool false] 249] (λv G=>v=Aa (s.start+x%s.len)/\G=[blk b [V c,Aa s.gen,Aa s.epoch,Aa s.pages,Aa s.start,Aa s.len,Aa s.head,Aa s.seq,Aa a,Aa q,Aa u,.bool false] 249]):=by
 intro z R w H;refine Af func186 Z ntmps186 Z (Zc 6 Z ?_);have d:=ZJ x (show s.len≠0 by omega);have f:=Zs x (show 0<s.len by omega);refine A4 (Sep z _) J J H.drew (F8 14 [1,4,0,0,1,5,0,0] [x%s.len,s.start+x%s.len] Z J U (Bn (λw e=>?_)));have H:=e.l1;refine gn (Zc 2 Z (Zr Z ?_));exact ⟨_,⟨Z,Z⟩,H.pick 1 [0] Z⟩
theorem US(b c:Nat)(s:Sup)(a q u:Int)(hs:(0<=s.start/\s.start<=1099511627776)/\0<s.len/\s.len<=1099511627776)(e:0<=u/\u<=1099511627776):An 191 [V b] [blk b [V c,Aa s.gen,Aa s.epoch,Aa s.pages,Aa s.start,Aa s.len,Aa s.head,Aa s.seq,Aa a,Aa q,Aa u,.bool false] 249] (λv G=>v=Aa (s.len-u)/\G=[blk b [V c,Aa s.gen,Aa s.epoch,Aa s.pages,Aa s.start,Aa s.len,Aa s.head,Aa s.seq,Aa a,Aa q,Aa u,.bool false] 249]):=by
 intro z R w H;refine Af func191 Z ntmps191 Z (Z2 18 [11,0,0] H Z (A4 (Sep z _) J J H.drew (F8 11 [1,5,0,0,10,0,0] [s.len-u] Z J U (Bn (λw d=>?_)))));have H:=d.l1;refine gn (Zc 2 Z (Zr Z ?_));exact ⟨_,⟨Z,Z⟩,H.pick 1 [0] Z⟩
theorem Kz(b c:Nat)(s:Sup)(a q u:Int)(hs:(0<=s.start/\s.start<=1099511627776)/\0<s.len/\s.len<=1099511627776)(k:Int)(e:0<=k/\k<=1000000)(f:0<=a/\a<=1099511627776)(hq:0<=q/\q<=1099511627776)(g:0<=u/\u<=1099511627776):An 189 [V b,Aa k] [blk b [V c,Aa s.gen,Aa s.epoch,Aa s.pages,Aa s.start,Aa s.len,Aa s.head,Aa s.seq,Aa a,Aa q,Aa u,.bool false] 249] (λv G=>v=.tuple #[]/\G=[blk b [V c,Aa s.gen,Aa s.epoch,Aa s.pages,Aa s.start,Aa s.len,Aa s.head,Aa s.seq,Aa ((a+k)%s.len),Aa (q+1),Aa (u+k),.bool false] 249]):=by
 intro z R w H;refine Af func189 Z ntmps189 Z (Zc 1 Z (Bo 15 J J (A9 H λw d=>?_)));have H:=d.l1;refine CD 15 [8,0,0,1,5,0,0,8] [a+k,(a+k)%s.len] H Z J U (Cf (gw (Z5 27 [0,9,0,0,9,0,10,0,0,10,0] [q+1,u+k] H Z U ?_)));intro w H;refine Zf Z ?_;exact ⟨_,⟨Z,Z⟩,H.pick 1 [0] Z⟩
theorem Wn(v:Value)(es:List ImE)(A:Ai)(b:∀h,A h->rdH 3 v es.length (Bj es) h/\∀e∈es,rdH 1 e.2 240 (e.1.body.map u8) h)(s:∀e∈es,e.1.Ok)(hn:0<es.length/\es.length<=1048576)(l:∀(j i:Nat) (e f:ImE),j<i->es[j]?=some e->es[i]?=some f->e.1.num≠f.1.num):An 190 [v] [A] (λv G=>v=.bool true/\G=[A]):=by
 intro z R w H;obtain ⟨p,x,rfl⟩:=H.sy 0 (λq=>(b _ q).1.slc);have a2:=H.sy 0 (λq=>(b _ q).1.small);refine Af func190 Z ntmps190 Z (Zc 12 Z ?_);refine Ap (σ:=Nat) (λi=>[(3,Aa (i:Int)),(0,.slice p es.length x)])
   (λi w=>Sep z (A::R) w/\(i<=es.length)) (λi=>es.length-i) 0
   fr_z ⟨H,Yi _⟩ ?_
 clear H;rintro i w ⟨o,n⟩;have H:=o.l1;have hi:=n;clear n;refine Z0 9 [0] Z (Ag Z (λh1=>?_) (λh1=>?_))
 ·refine Zc 5 Z ?_;obtain ⟨e,c⟩:∃e,es[i]?=some e:=⟨_,XW U⟩;have hm:=s e (XX c)
  obtain ⟨bo,bc,g⟩:Slc e.2 240:=H.sy 0 (λq=>((b _ q).2 e (XX c)).slc);obtain ⟨m,bv⟩:=e;dsimp only at g hm;subst g;have a:=(H.rv 0 (λq=>(b _ q).1)).at (Bb c 0 _ Z);refine Zc 3 Z (Ad Z (Ar Z (z:=3) (j:=i) (r:=i*3) J Z Z Z U a U) (Ad Z (B8 Z Z (vs:=[Aa m.num,Aa m.kind,.slice bo 240 bc]) J O (AA (λk u hk=>(H.rv 0 (λq=>(b _ q).1)).at (Bb c k u hk)))) (AB Z (call143 _) (Fj m hm _ _ (λh q=>(b h q).2 _ (XX c))) H ?_)));rintro _ w _ ⟨t,rfl,rfl⟩ H;have a0:=H.sy 0 (·.slc);refine Z0 23 [4] Z ?_;refine Ap (σ:=Nat) (λk=>[(6,Aa (k:Int)),(0,.slice p es.length x),(3,Aa (i:Int)),(5,Aa 0),(7,Aa (i:Int)),(8,.slice p es.length x),(9,Aa (es.length:Int)),(10,.bool (decide ((i:Int)<(es.length:Int)))),(13,.tuple #[t,Aa 0]),(14,.slice p es.length x),(15,Aa (i:Int)),(16,Fb p (i*3)),(17,.agg #[Aa m.num,Aa m.kind,.slice bo 240 bc]),(18,.tuple #[t,Aa 0]),(19,t),(20,Aa 0),(21,Aa 0),(22,.bool false)])
    (λk w=>Sep z (grow 5 1 t ((DX m).length) ((DX m).map u8)::A::R) w/\(k<=i)) (λk=>i-k) 0
    fr_z ⟨H,Yi _⟩ ?_
  clear H;rintro k w ⟨o,n⟩;have H:=o.l2;have a0:=H.sy 0 (·.slc);have hk:=n;clear n;refine Z0 8 [0] Z (Ag Z (λh2=>?_) (λh2=>?_))
  ·refine Zc 5 Z ?_;obtain ⟨f,hf⟩:∃f,es[k]?=some f:=⟨_,XW U⟩;have a:=(H.rv 1 (λq=>(b _ q).1)).at (Bb c 0 _ Z)
   have a1:=l k i f _ U hf c;refine A4 (Sep z _) J J H.drew (Ca 2 [] Z J (Be Z Z Z (Ar Z (z:=3) (j:=k) (r:=k*3) J Z Z Z U a U) (Be Z Z Z (CG Z (k:=0) (r:=k*3) J Z a Z) (Be Z Z Z (AK Z Z J (λ_ hs=>(hs.rv 1 (λq=>(b _ q).1)).at (Bb hf 0 _ Z))) (Ca 2 [] Z J (Be Z Z Z (Ar Z (z:=3) (j:=i) (r:=i*3) J Z Z Z U a U) (Be Z Z Z (CG Z (k:=0) (r:=i*3) J Z a Z) (Be Z Z Z (AK Z Z J (λ_ hs=>(hs.rv 1 (λq=>(b _ q).1)).at (Bb c 0 _ Z))) (Ca 1 [] Z J (Bn (λw o=>?_)))))))))));have H:=o.l2;refine gn (Zc 1 Z (Ag Z (λh3=>?_) (λh3=>?_)))
   ·exact absurd h3 a1
   refine Z1 8 [] [(k:Int)+1] Z U (gf ?_);intro _ y;refine ⟨(k+1),y.cz,⟨H,?_⟩,?_⟩
   ·omega
   omega
  refine Zc 2 Z (gx (Z1 8 [] [(i:Int)+1] Z U ?_));replace H:=H.d;refine gf ?_;intro _ y;refine ⟨(i+1),y.cz,⟨H,?_⟩,?_⟩
  ·omega
  omega
 refine Zc 2 Z (gx (Z0 11 [0] Z (Zr Z ?_)));exact ⟨_,⟨congrArg Value.bool (decide_eq_true U),Z⟩,H.pick 1 [0] Z⟩
set_option maxHeartbeats 4000000 in
theorem P6 (c f:Nat) (s:Sup) (a q u:Int) (b1:0<=s.epoch/\s.epoch<4294967296) (c0:0<=q/\q<1099511627776) (v:Value) (es:List ImE) (A:Ai) (o:∀h,A h->rdH 3 v es.length (Bj es) h/\∀e∈es,rdH 1 e.2 240 (e.1.body.map u8) h) (p:∀e∈es,e.1.Ok) (hn:1<=es.length/\es.length<=40):An 192 [V c,v] [blk c [V f,Aa s.gen,Aa s.epoch,Aa s.pages,Aa s.start,Aa s.len,Aa s.head,Aa s.seq,Aa a,Aa q,Aa u,.bool false] 249,A] (λv G=>∃v2:Value,v=v2/\G=[grow 5 1 v2 (sect (Bt s.epoch q (es.map Prod.fst))++AE s.epoch q (es.map Prod.fst)).length ((sect (Bt s.epoch q (es.map Prod.fst))++AE s.epoch q (es.map Prod.fst)).map u8),blk c [V f,Aa s.gen,Aa s.epoch,Aa s.pages,Aa s.start,Aa s.len,Aa s.head,Aa s.seq,Aa a,Aa q,Aa u,.bool false] 249,A]):=by
 intro z R w H;obtain ⟨ao,oc,rfl⟩:=H.sy 1 (λq=>(o _ q).1.slc);have b2:=H.sy 1 (λq=>(o _ q).1.small);have a0:∀m∈(es.map Prod.fst),m.Ok:=λm hm=>by obtain ⟨e,n,rfl⟩:=X6.1 hm;exact p e n
 have b4:(AE s.epoch q (es.map Prod.fst)).length=es.length*256:=by rw[DB a0,X9]
 have a9:(es.map Prod.fst).length=es.length:=X9 ..;refine Af func192 Z ntmps192 Z (Zc 17 Z ?_);replace H:=(H.nilg 5 1).l3;replace H:=(H.nilg 3 1).l4;refine Zc 5 Z ?_;refine Ap (σ:=Nat×Value×Value) (λ⟨i,t,n9⟩=>[(7,Aa (i:Int)),(5,t),(6,n9),(0,V c),(1,.slice ao es.length oc),(4,.slice none 0 0)])
   (λ⟨i,t,n9⟩ w=>Sep z (grow 3 1 n9 i ((((es.map Prod.fst).take i).map Img.num).map Aa)::grow 5 1 t ((AE s.epoch q ((es.map Prod.fst).take i)).length) ((AE s.epoch q ((es.map Prod.fst).take i)).map u8)::blk c [V f,Aa s.gen,Aa s.epoch,Aa s.pages,Aa s.start,Aa s.len,Aa s.head,Aa s.seq,Aa a,Aa q,Aa u,.bool false] 249::A::R) w/\(i<=es.length)) (λ⟨i,t,n9⟩=>es.length-i) ⟨0,.slice none 0 0,.slice none 0 0⟩
   (λ_ hF=>(hF.co Z (by go_num) (hF.co Z (by go_num) hF.cz))) ⟨(by simpa [AE] using H),Yi _⟩ ?_
 clear H;rintro ⟨i,t,n9⟩ w ⟨b,hI⟩;dsimp only at hI b ⊢;have H:=b.l4;have a3:=H.sy 0 (·.slc);have a7:=H.sy 1 (·.slc);have hi:=hI;clear hI;refine Z0 9 [0] Z (Ag Z (λh1=>?_) (λh1=>?_))
 ·refine Zc 5 Z ?_;obtain ⟨e,l⟩:∃e,es[i]?=some e:=⟨_,XW U⟩;have hm:=p e (XX l)
  obtain ⟨bo,bc,a2⟩:Slc e.2 240:=H.sy 3 (λq=>((o _ q).2 e (XX l)).slc);obtain ⟨m,bv⟩:=e;dsimp only at a2 hm;subst a2;have g:=(H.rv 3 (λq=>(o _ q).1)).at (Bb l 0 _ Z);replace H:=H.f3.f3;refine A1 (Sep z (blk c [V f,Aa s.gen,Aa s.epoch,Aa s.pages,Aa s.start,Aa s.len,Aa s.head,Aa s.seq,Aa a,Aa q,Aa u,.bool false] 249::A::R)) 19 Z J (A9 H λw b=>?_);have H:=b.l4;refine BA [0,1,2,3,4,5,6,7,8,9,10] [1,2,0,9,0] J (λ_ hx=>(A3 (hx.blk 0 Z) AU)) (by exact H.pick 4 [0,1] Z) Z J Z Z (Bg 11 J Z Z J J J Z Z Z (Ar Z (z:=3) (j:=i) (r:=i*3) J Z Z Z U g U) (H.pick 4 [0,1] Z) (Bg 12 J Z Z J J J Z Z Z (B8 Z Z (vs:=[Aa m.num,Aa m.kind,.slice bo 240 bc]) J O (λ_ hs k u hk=>(hs.rv 1 (λq=>(o _ q).1)).at (Bb l k u hk))) (H.pick 4 [0,1] Z) (Ay [13] J O (Az (BF Z Z Z Z Z Z (λw=>call224 _ w) (Ib s.epoch q U U m hm _ _ (λh q=>(o h q).2 _ (XX l))) H.f1 Z ?_)))));rintro _ w _ ⟨u1,rfl,rfl⟩ H;have b5:=H.sy 0 (·.slc);refine Ax (λ_=>(H.pick 5 [2,1] Z)) (BA [14,15,16,17] [] J (λ_ _=>AU) (by exact H.pick 5 [2,1] Z) Z J Z Z (Ay [18] J O (Az (Dr Z Z Z Z (Bq Z Z) (Ax (λh=>absurd Z h) (Bi J (gn (Zc 2 Z ?_))))))));have a4:(es.map Prod.fst)[i]?=some m:=by rw[Yb,l];rfl
  have b6:(AE s.epoch q ((es.map Prod.fst).take i)).length<=10240:=by rw[DB (λx hx=>a0 x (YF hx)),X1];omega
  have c1:(sect (A6 s.epoch q m)).length=256:=sect_len (YY (CJ hm.2.2));refine Zc 3 Z (AC Z (AJ 4 H Z Z J A2 Z Z (H.rv 0 (·.rd)) (by intro c9 a1;obtain ⟨b9,_,rfl⟩:=X6.1 a1;rfl) U) ?_);rintro v2 w b;have b:Sep z (grow 5 1 u1 ((sect (A6 s.epoch q m)).length) ((sect (A6 s.epoch q m)).map u8)::A::blk c [V f,Aa s.gen,Aa s.epoch,Aa s.pages,Aa s.start,Aa s.len,Aa s.head,Aa s.seq,Aa a,Aa q,Aa u,.bool false] 249::grow 3 1 n9 i ((((es.map Prod.fst).take i).map Img.num).map Aa)::grow 5 1 v2 ((AE s.epoch q ((es.map Prod.fst).take i)).length+(sect (A6 s.epoch q m)).length) ((AE s.epoch q ((es.map Prod.fst).take i)).map u8++(sect (A6 s.epoch q m)).map u8)::R) w:=b;have a6:((AE s.epoch q ((es.map Prod.fst).take i)).map u8++(sect (A6 s.epoch q m)).map u8:List Value)=(AE s.epoch q ((es.map Prod.fst).take (i+1))).map u8:=(by rw[<-E5 a4];simp);rw[a6] at b;rw[show ((AE s.epoch q ((es.map Prod.fst).take i)).length+(sect (A6 s.epoch q m)).length:Nat)=(AE s.epoch q ((es.map Prod.fst).take (i+1))).length from (by rw[<-E5 a4,XY])] at b;have H:=b.l5;have b8:=H.sy 4 (·.slc);refine Zc 3 Z ?_;replace H:=(H.pick 5 [1,2,3,4] Z).l4;have g:=(H.rv 0 (λq=>(o _ q).1)).at (Bb l 0 _ Z);refine Zc 4 Z (Ad Z (Ar Z (z:=3) (j:=i) (r:=i*3) J Z Z Z U g U) (Ad Z (CG Z (k:=0) (r:=i*3) J Z g Z) (Ad Z (AK Z Z J (AA ((H.rv 0 (λq=>(o _ q).1)).at (Bb l 0 _ Z)))) (AC Z (AI H Z J BK Z (by decide) (by decide) (out:=[Aa m.num]) J) ?_))));rintro _ w ⟨b3,rfl,H⟩;refine AC Z (AJ 3 H Z Z J BK Z Z (H.rv 0 (·.rd U U O Z)) (by simp[Value.oneCell']) U) ?_;rintro v4 w b;have b:Sep z (blk b3 [Aa m.num] 3::A::blk c [V f,Aa s.gen,Aa s.epoch,Aa s.pages,Aa s.start,Aa s.len,Aa s.head,Aa s.seq,Aa a,Aa q,Aa u,.bool false] 249::grow 3 1 v4 (i+1) ((((es.map Prod.fst).take i).map Img.num).map Aa++[Aa m.num])::grow 5 1 v2 ((AE s.epoch q ((es.map Prod.fst).take (i+1))).length) ((AE s.epoch q ((es.map Prod.fst).take (i+1))).map u8)::R) w:=b;have a8:((((es.map Prod.fst).take i).map Img.num).map Aa++[Aa m.num]:List Value)=(((es.map Prod.fst).take (i+1)).map Img.num).map Aa:=(by rw[Ye,Yb,l];simp);rw[a8] at b;have H:=b.l5;have b0:=H.sy 3 (·.slc);refine Z1 9 [] [(i:Int)+1] Z U ?_;replace H:=H.d.f1.f3.f3;refine gf ?_;intro _ hF;refine ⟨⟨i+1,v2,v4⟩,hF.cz,⟨H,?_⟩,?_⟩
  ·show i+1<=es.length;omega
  (dsimp only;omega)
 refine Zc 2 Z (gx (Zc 3 Z ?_));obtain rfl:i=es.length:=by omega
 rw[show (es.map Prod.fst).take es.length=(es.map Prod.fst) from X0 O] at H;have b:Sep z (grow 3 1 n9 (es.map Prod.fst).length (((es.map Prod.fst).map Img.num).map Aa)::grow 5 1 t ((AE s.epoch q (es.map Prod.fst)).length) ((AE s.epoch q (es.map Prod.fst)).map u8)::blk c [V f,Aa s.gen,Aa s.epoch,Aa s.pages,Aa s.start,Aa s.len,Aa s.head,Aa s.seq,Aa a,Aa q,Aa u,.bool false] 249::A::R) w:=by have n:=H;rw[show es.length=(es.map Prod.fst).length from by simp] at n;exact n
 clear H;have H:=b.l4;have a7:=H.sy 1 (·.slc);have a3:=H.sy 0 (·.slc);obtain ⟨no,nc,rfl⟩:=a3;replace H:=H.f2;refine A1 (Sep z (blk c [V f,Aa s.gen,Aa s.epoch,Aa s.pages,Aa s.start,Aa s.len,Aa s.head,Aa s.seq,Aa a,Aa q,Aa u,.bool false] 249::R)) 19 Z J (A9 H λw b=>?_);have H:=b.l4;refine BA [0,1,2,3,4,5,6,7,8,9,10] [1,2,0,9,0] J (λ_ hx=>(A3 (hx.blk 0 Z) AU)) (by exact H.pick 4 [0] Z) Z J Z Z (Ay [11] J O (Az (BF Z Z Z Z Z Z (λw=>call222 _ w) (L5 _ (AE s.epoch q (es.map Prod.fst)) _ (λh q=>q.rd)) H.f2 Z ?_)));rintro _ w _ ⟨rfl,rfl⟩ H;refine Ax (λ_=>(H.pick 4 [1] Z)) (Bg 12 J Z Z J J J Z Z Z (AQ Z Z (out:=[Aa s.epoch,Aa q,.slice no ((es.map Prod.fst).length) nc,u32 (Av (AE s.epoch q (es.map Prod.fst)))]) J) (H.pick 4 [1] Z) (Ay [13] J O (Az (BF Z Z Z Z Z Z (λw=>call221 _ w) (Jq s.epoch q _ ((es.map Prod.fst).map Img.num) _ _ (λh q=>by have e9:((es.map Prod.fst).map Img.num).length=(es.map Prod.fst).length:=X9 ..;rw[e9];exact q.rd) U U (by rw[X9];omega) (λy hy=>by obtain ⟨m9,n,rfl⟩:=X6.1 hy;exact (a0 m9 n).1)) H.f2 Z ?_))));rintro _ w _ ⟨u5,rfl,rfl⟩ H;have c2:=H.sy 0 (·.slc);refine Ax (λ_=>(H.pick 5 [3] Z)) (BA [14,15,16,17] [] J (λ_ _=>AU) (by exact H.pick 5 [3] Z) Z J Z Z (Ay [18] J O (Az (Dr Z Z Z Z (Bq Z Z) (Ax (λh=>absurd Z h) (Bi J (gn (Zc 5 Z (AC Z (AJ 0 H Z Z J A2 Z Z (H.rv 2 (·.rd)) (by intro c9 a1;obtain ⟨b9,_,rfl⟩:=X6.1 a1;rfl) (by have n:(sect (Bt s.epoch q (es.map Prod.fst))).length=256:=sect_len (hdL_le U);unfold Bt at n;omega)) ?_)))))))));rintro v6 w b;have b:Sep z (grow 5 1 v6 ((sect (Bt s.epoch q (es.map Prod.fst))).length+(AE s.epoch q (es.map Prod.fst)).length) ((sect (Bt s.epoch q (es.map Prod.fst))).map u8++(AE s.epoch q (es.map Prod.fst)).map u8)::grow 3 1 (.slice no ((es.map Prod.fst).length) nc) ((es.map Prod.fst).length) (((es.map Prod.fst).map Img.num).map Aa)::grow 5 1 t ((AE s.epoch q (es.map Prod.fst)).length) ((AE s.epoch q (es.map Prod.fst)).map u8)::blk c [V f,Aa s.gen,Aa s.epoch,Aa s.pages,Aa s.start,Aa s.len,Aa s.head,Aa s.seq,Aa a,Aa q,Aa u,.bool false] 249::A::R) w:=b;have a5:((sect (Bt s.epoch q (es.map Prod.fst))).map u8++(AE s.epoch q (es.map Prod.fst)).map u8:List Value)=(sect (Bt s.epoch q (es.map Prod.fst))++AE s.epoch q (es.map Prod.fst)).map u8:=O;rw[a5] at b;rw[show ((sect (Bt s.epoch q (es.map Prod.fst))).length+(AE s.epoch q (es.map Prod.fst)).length:Nat)=(sect (Bt s.epoch q (es.map Prod.fst))++AE s.epoch q (es.map Prod.fst)).length from (by rw[XY])] at b;have H:=b.l5;have b7:=H.sy 0 (·.slc);refine Zc 10 Z (Zr Z ?_);exact ⟨_,⟨_,Z,Z⟩,H.pick 5 [0,3,4] Z⟩
set_option maxHeartbeats 4000000 in
theorem P7 (o d:Nat) (s:Sup) (a q u:Int) (n m:Nat) (a1:m<=1000000000) (a3:n<=4096) (F:Nat->List UInt8) (hs:(0<=s.start/\s.start<=1099511627776)/\0<s.len/\s.len<=1099511627776) (y:0<=s.epoch/\s.epoch<4294967296) (x:0<=q/\q<1099511627776) (v:Value) (es:List ImE) (A:Ai) (hA:∀h,A h->rdH 3 v es.length (Bj es) h/\∀e∈es,rdH 1 e.2 240 (e.1.body.map u8) h) (b:∀e∈es,e.1.Ok) (hn:1<=es.length/\es.length<=40) (l:∀(j i:Nat) (e f:ImE),j<i->es[j]?=some e->es[i]?=some f->e.1.num≠f.1.num) (ha:0<=a/\a+1+es.length<=s.len) (hu:0<=u/\u+1+es.length<=s.len) (a2:s.start+s.len<=n):An 161 [V o,v] [blk o [V d,Aa s.gen,Aa s.epoch,Aa s.pages,Aa s.start,Aa s.len,Aa s.head,Aa s.seq,Aa a,Aa q,Aa u,.bool false] 249,rdkA d n F m,A] (λv G=>v=Aa 0/\G=[blk o [V d,Aa s.gen,Aa s.epoch,Aa s.pages,Aa s.start,Aa s.len,Aa s.head,Aa s.seq,Aa ((a+((1+es.length:Nat):Int))%s.len),Aa (q+1),Aa (u+((1+es.length:Nat):Int)),.bool false] 249,rdkA d n (E7 F (s.start+a).toNat (sect (Bt s.epoch q (es.map Prod.fst))++AE s.epoch q (es.map Prod.fst)) (1+es.length)) (m+(1+es.length)),A]):=by
 intro z R w H;obtain ⟨ao,oc,rfl⟩:=H.sy 2 (λq=>(hA _ q).1.slc);have k:∀m∈(es.map Prod.fst),m.Ok:=λm hm=>by obtain ⟨e,h9,rfl⟩:=X6.1 hm;exact b e h9
 refine Af func161 Z ntmps161 Z (Z0 13 [0] Z (Ag Z (λh1=>U) (λh1=>?_)));refine Zc 6 Z (Ah Z (call190 _) (Wn _ es _ hA b U l) H.f2 ?_);intro w H;refine Z3 24 [11,1,0] [((1+es.length:Nat):Int)] H Z U (Ah Z (call191 _) (US _ _ _ _ _ _ hs U) H.f1 ?_);intro w H;refine Z0 3 [0] Z (Am 28 Z (λh2=>U) (λh2=>?_));refine Z2 8 [1,2,0,0,0] H Z (Am 36 Z (λh3=>U) (λh3=>?_));refine Z2 8 [9,0,0,0] H Z (Ag Z (λh4=>U) (λh4=>?_));refine Zc 6 Z (AB Z (call192 _) (P6 _ _ _ _ _ _ y x _ es _ hA b U) H ?_);rintro rv w _ ⟨_,rfl,rfl⟩ H;refine Zc 4 Z ?_;have c:(sect (Bt s.epoch q (es.map Prod.fst))++AE s.epoch q (es.map Prod.fst)).length=(256*(1+es.length)):=by rw[XY,sect_len (hdL_le (by rw[X9];omega)),DB k,X9];omega
 obtain ⟨gb,a0,rest,t,c1,c2,c3,g⟩:=H.ungrow 0 Z U;subst t;clear H;have H:=g.l4;rw[c] at c1 c3;refine A4 (Sep z _) J J H.drew (F8 11 [1,5,1,0,8,1,0] [s.len-a] Z J U (Be Z Z Z (NE Z Z Z) (Ca 1 [] Z J (Bn (λw g=>?_)))));have H:=g.l4;refine gn (Zc 2 Z (k_updA 7 (v:=Aa ((1+es.length:Nat):Int)) Z (congrArg Aa U) ?_));replace H:=H.f1;refine A1 (Sep z (blk o [V d,Aa s.gen,Aa s.epoch,Aa s.pages,Aa s.start,Aa s.len,Aa s.head,Aa s.seq,Aa a,Aa q,Aa u,.bool false] 249::R)) 16 Z J (A9 H λw g=>?_);have H:=g.l4;refine BA [0,1,2,3,4,5,6,7,8,10,11] [0,0,8,0] J (λ_ hx=>(A3 (hx.blk 0 Z) AU)) (by exact H.pick 4 [0] Z) Z J Z Z (Bg 12 J Z Z J J J Z Z Z (Jv Z Z Z (r:=((256*(1+es.length):Nat):Int)) U U) (H.pick 4 [0] Z) (Bg 13 J Z Z J J J Z Z Z (Ba Z (z:=1) (p:=0) (q:=(256*(1+es.length))) (o':=0) (l':=(256*(1+es.length))) (c':=a0) J Z (.inl ⟨Z,Z⟩) (.inr ⟨_,_,_,Z,Z,Z⟩) U U U U U U) (H.pick 4 [0] Z) (Ay [9] J O (Az (BF Z Z Z Z Z Z (λw=>call186 _ w) (Hq _ _ _ _ _ _ hs a U) H Z ?_)))));rintro _ w _ ⟨rfl,rfl⟩ H;refine Ax (λ_=>(H.pick 4 [0] Z)) (Ay [14] J O (Az (k_updA 67 (v:=Aa (((s.start+a).toNat:Nat):Int)) Z (congrArg Aa (by rw[Y5 U U];omega)) (BF Z Z Z Z Z Z (λw=>call149 _ w) (GU _ n _ U _ ((s.start+a).toNat) (1+es.length) false _ (sect (Bt s.epoch q (es.map Prod.fst))++AE s.epoch q (es.map Prod.fst)) _ (λh q=>by rw[c];exact q.rd U U (by rw[XY,X9];omega) (by rw[Ym,YQ,YK (by rw[X9];omega)])) c U U) H.f1.f3 Z ?_))));rintro _ w _ ⟨rfl,rfl⟩ H;refine Ax (λ_=>(H.pick 4 [2] Z)) (Ay [15] J O (Az (Dr Z Z Z Z (Bq Z Z) (Ax (λh=>absurd Z h) (Bi J (gn (Z0 13 [3,0] Z (Ag Z (λh5=>U) (λh5=>?_)))))))));refine Z0 16 [4] Z (Ah Z (call189 _) (Kz _ _ _ _ _ _ hs ((1+es.length:Nat):Int) U U U U) H.f2 ?_);intro w H;refine Zc 8 Z (Zr Z ?_);exact ⟨_,⟨Z,Z⟩,H.pick 4 [0,1,3] Z⟩
theorem Sr{e q:Int}{ims:List Img}(a:∀m∈ims,m.Ok){i:Nat}{m:Img}(h:ims[i]?=some m){rest:List Value}:(((AE e q ims).map u8++rest).drop (256*i)).take (256*1)=(sect (A6 e q m)).map u8:=by
 have g:=(XV.1 h).1;have f:=a m (XX h);have b:AE e q ims=AE e q (ims.take i)++(sect (A6 e q m)++AE e q (ims.drop (i+1))):=by
  have c:ims=ims.take i++m::ims.drop (i+1):=by
   have:=YG i ims;rw[YV g,show ims[i]=m from (XV.1 h).2] at this;exact this.symm
  have:=congrArg (AE e q) c;rw[this];simp[AE]
 have j:(AE e q (ims.take i)).length=256*i:=by rw[DB (λx d=>a x (YF d)),X1];omega
 have k:(sect (A6 e q m)).length=256:=sect_len (YY (CJ f.2.2));rw[b,Yj,X3,Aay (by rw[X9];exact j),Yj,X3,YK (by rw[X9,k])]
set_option maxHeartbeats 4000000 in
theorem P8 (pl g:Nat) (s:Sup) (a q u:Int) (n m9:Nat) (d0:n<=4096) (F:Nat->List UInt8) (hs:(0<=s.start/\s.start<=1099511627776)/\0<s.len/\s.len<=1099511627776) (a7:0<=s.epoch/\s.epoch<4294967296) (b6:0<=q/\q<1099511627776) (ims:List Img) (f:∀m∈ims,m.Ok) (hn:1<=ims.length/\ims.length<=40) (ha:0<=a/\a+1+ims.length<=s.len) (c8:s.start+s.len<=n) (o:∀(j:Nat) (m:Img),ims[j]?=some m->F (s.start+a+1+(j:Int)).toNat=sect (A6 s.epoch q m)) (nv:Value) (B:Ai) (hB:∀h,B h->rdH 1 nv ims.length ((ims.map Img.num).map Aa) h):An 188 [V pl,.agg #[Aa s.epoch,Aa q,nv,u32 (Av (AE s.epoch q ims))]] [blk pl [V g,Aa s.gen,Aa s.epoch,Aa s.pages,Aa s.start,Aa s.len,Aa s.head,Aa s.seq,Aa a,Aa q,Aa u,.bool false] 249,rdkA g n F m9,B] (λv G=>∃(v2:Value) (es:List ImE) (hq:Hp),es.map Prod.fst=ims/\(∀e∈es,imeOk hq e)/\v=.tuple #[v2,.bool true,Aa 0]/\G=[grow 118 3 v2 ims.length (Bj es),poolA hq,blk pl [V g,Aa s.gen,Aa s.epoch,Aa s.pages,Aa s.start,Aa s.len,Aa s.head,Aa s.seq,Aa a,Aa q,Aa u,.bool false] 249,rdkA g n F m9,B]):=by
 intro z R w H;obtain ⟨ao,oc,rfl⟩:=H.sy 2 (λq=>(hB _ q).slc);have a8:(AE s.epoch q ims).length=ims.length*256:=DB f;refine Af func188 Z ntmps188 Z (Za 2 [] H Z ?_);intro b1 w H;refine Zc 12 Z ?_;replace H:=(H.nilg 5 1).l5;refine Zc 5 Z ?_;refine Ap (σ:=Nat×Value) (λ⟨i,u9⟩=>[(8,Aa (i:Int)),(7,u9),(0,V pl),(3,V b1)])
   (λ⟨i,u9⟩ w=>Sep z (grow 5 1 u9 ((AE s.epoch q (ims.take i)).length) ((AE s.epoch q (ims.take i)).map u8)::blk b1 [Aa s.epoch,Aa q,.slice ao ims.length oc,u32 (Av (AE s.epoch q ims))] 233::blk pl [V g,Aa s.gen,Aa s.epoch,Aa s.pages,Aa s.start,Aa s.len,Aa s.head,Aa s.seq,Aa a,Aa q,Aa u,.bool false] 249::rdkA g n F m9::B::R) w/\(i<=ims.length)) (λ⟨i,u9⟩=>ims.length-i) ⟨0,.slice none 0 0⟩
   (λ_ o=>(o.co Z (by go_num) o.cz)) ⟨(by simpa [AE] using H),Yi _⟩ ?_
 clear H;rintro ⟨i,u9⟩ w ⟨b,hI⟩;dsimp only at hI b ⊢;have H:=b.l5;have c6:=H.sy 0 (·.slc);have hi:=hI;clear hI;refine Z2 10 [2,1,0,0] H Z (Ag Z (λh1=>?_) (λh1=>?_))
 ·refine Zc 5 Z ?_;obtain ⟨m,c⟩:∃m,ims[i]?=some m:=⟨_,XW U⟩;have t:=f m (XX c)
  have a1:(sect (A6 s.epoch q m)).length=256:=sect_len (YY (CJ t.2.2));replace H:=H.f2;refine A1 (Sep z (blk pl [V g,Aa s.gen,Aa s.epoch,Aa s.pages,Aa s.start,Aa s.len,Aa s.head,Aa s.seq,Aa a,Aa q,Aa u,.bool false] 249::R)) 19 Z J (A9 H λw b=>?_);have H:=b.l5;refine BA [0,1,2,3,4,5,6,7,8] [0,0,8,0] J (λ_ l=>(A3 (l.blk 0 Z) AU)) (by exact H.pick 5 [0] Z) Z J Z Z (Bg 9 J Z Z J J J Z Z Z (Cm Z Z Z (r:=a+1) U U) (H.pick 5 [0] Z) (BA [10] [] J (λ_ _=>AU) (by exact H.pick 5 [0] Z) Z J Z Z (Bg 11 J Z Z J J J Z Z Z (Cm Z Z Z (r:=a+1+(i:Int)) U U) (H.pick 5 [0] Z) (Ay [12] J O (Az (BF Z Z Z Z Z Z (λw=>call186 _ w) (Hq _ _ _ _ _ _ hs (a+1+(i:Int)) U) H Z ?_))))));rintro _ w _ ⟨rfl,rfl⟩ H;refine Ax (λ_=>(H.pick 5 [0] Z)) (Ay [13] J O (Az (k_updA 37 (v:=Aa (((s.start+a+1+(i:Int)).toNat:Nat):Int)) Z (congrArg Aa (by rw[Y5 U U];omega)) (BF Z Z Z Z Z Z (λw=>call84 _ w) (HO _ _ _ _ ((s.start+a+1+(i:Int)).toNat) U) H.f3 Z ?_))));rintro _ w _ ⟨u2,rfl,rfl⟩ H;have c5:=H.sy 0 (·.slc);refine Ax (λ_=>(H.pick 6 [2] Z)) (BA [14,15,16,17] [] J (λ_ _=>AU) (by exact H.pick 6 [2] Z) Z J Z Z (Ay [18] J O (Az (Dr Z Z Z Z (Bq Z Z) (Ax (λh=>absurd Z h) (Bi J (gn (Zc 3 Z ?_))))))));rw[o i m c] at H;refine Z0 8 [4] Z ?_;have c4:(AE s.epoch q (ims.take i)).length<=10240:=by rw[DB (λx l=>f x (YF l)),X1];omega
  refine Zc 3 Z (AC Z (AJ 3 H Z Z J A2 Z Z (H.rv 0 (·.rd)) (by intro c9 b2;obtain ⟨b9,_,rfl⟩:=X6.1 b2;rfl) U) ?_);rintro v3 w b;have b:Sep z (grow 5 1 u2 256 ((sect (A6 s.epoch q m)).map u8)::rdkA g n F m9::blk pl [V g,Aa s.gen,Aa s.epoch,Aa s.pages,Aa s.start,Aa s.len,Aa s.head,Aa s.seq,Aa a,Aa q,Aa u,.bool false] 249::grow 5 1 v3 ((AE s.epoch q (ims.take i)).length+256) ((AE s.epoch q (ims.take i)).map u8++(sect (A6 s.epoch q m)).map u8)::blk b1 [Aa s.epoch,Aa q,.slice ao ims.length oc,u32 (Av (AE s.epoch q ims))] 233::B::R) w:=b;have b0:((AE s.epoch q (ims.take i)).map u8++(sect (A6 s.epoch q m)).map u8:List Value)=(AE s.epoch q (ims.take (i+1))).map u8:=(by rw[<-E5 c];simp);rw[b0] at b;rw[show ((AE s.epoch q (ims.take i)).length+256:Nat)=(AE s.epoch q (ims.take (i+1))).length from (by rw[<-E5 c,XY,a1])] at b;have H:=b.l6;have d1:=H.sy 3 (·.slc);refine Zc 4 Z ?_;replace H:=(H.pick 6 [1,2,3,4,5] Z).l5;refine Z1 5 [] [(i:Int)+1] Z U ?_;replace H:=H.f4.f1.f2.f4.f4;refine gf ?_;intro _ o;refine ⟨⟨i+1,v3⟩,o.cz,⟨H,?_⟩,?_⟩
  ·show i+1<=ims.length;omega
  (dsimp only;omega)
 refine Zc 2 Z (gx (Zc 4 Z ?_));obtain rfl:i=ims.length:=by omega
 rw[YS] at H;replace H:=H.f1;refine A1 (Sep z (blk b1 [Aa s.epoch,Aa q,.slice ao ims.length oc,u32 (Av (AE s.epoch q ims))] 233::R)) 5 Z J (A9 H λw b=>?_);have H:=b.l5;refine BA [0,2,3] [3,0] J (λ_ l=>(A3 (l.blk 0 Z) AU)) (by exact H.pick 5 [0] Z) Z J Z Z (Ay [1] J O (Az (BF Z Z Z Z Z Z (λw=>call222 _ w) (L5 _ (AE s.epoch q ims) _ (λh q=>q.rd)) H.f1 Z ?_)));rintro _ w _ ⟨rfl,rfl⟩ H;refine Ax (λ_=>(H.pick 5 [1] Z)) (Ay [4] J O (Az (Dr Z Z Z Z (MC (k:=.u32) Z J Z Z) (Ax (λh=>absurd Z h) (Bi J (gn (Zc 1 Z (Ag Z (λh2=>?_) (λh2=>?_)))))))))
 ·exact absurd Z h2
 refine Zc 3 Z ?_;obtain ⟨gb,a4,rest,a5,c1,c2,c3,b⟩:=H.ungrow 0 Z U;subst a5;clear H;have H:=b.l5;rw[a8] at c1 c3;replace H:=((FS H).nilg 118 3).l7;refine Zc 11 Z ?_;refine Ap (σ:=Nat×Value×List ImE×Hp) (λ⟨i,v9,es,hq⟩=>[(12,Aa (i:Int)),(11,v9),(0,V pl),(3,V b1),(7,.slice (some ⟨gb,0,none⟩) ((AE s.epoch q ims).length) a4)])
   (λ⟨i,v9,es,hq⟩ w=>Sep z (grow 118 3 v9 i (Bj es)::poolA hq::blk gb ((AE s.epoch q ims).map u8++rest) 5::blk b1 [Aa s.epoch,Aa q,.slice ao ims.length oc,u32 (Av (AE s.epoch q ims))] 233::blk pl [V g,Aa s.gen,Aa s.epoch,Aa s.pages,Aa s.start,Aa s.len,Aa s.head,Aa s.seq,Aa a,Aa q,Aa u,.bool false] 249::rdkA g n F m9::B::R) w/\(i<=ims.length/\es.map Prod.fst=ims.take i/\∀e∈es,imeOk hq e)) (λ⟨i,v9,es,hq⟩=>ims.length-i) ⟨0,.slice none 0 0,[],λ_=>none⟩
   (λ_ o=>(o.co Z (by go_num) o.cz)) ⟨H,⟨Yi _,Z,λe he=>nomatch he⟩⟩ ?_
 clear H;rintro ⟨i,v9,es,hq⟩ w ⟨b,hI⟩;dsimp only at hI b ⊢;have H:=b.l7;have c0:=H.sy 0 (·.slc);obtain ⟨hi,a0,hE⟩:=hI;refine Z2 10 [2,3,0,0] H Z (Ag Z (λh3=>?_) (λh3=>?_))
 ·refine Zc 5 Z ?_;obtain ⟨m,c⟩:∃m,ims[i]?=some m:=⟨_,XW U⟩;have t:=f m (XX c)
  have a1:(sect (A6 s.epoch q m)).length=256:=sect_len (YY (CJ t.2.2));refine Z1 7 [] [((256*i:Nat):Int),((256*i:Nat):Int),((256*i+256:Nat):Int)] Z U (Ad Z (Ba Z (z:=1) (p:=(256*i)) (q:=(256*i+256)) (o':=256*i) (l':=256) (c':=a4-256*i) J Z (.inr ⟨_,_,_,Z,Z,Z⟩) (.inr ⟨_,_,_,Z,Z,Z⟩) U U U U U U) (AB Z (call223 _) (Mt _ (sect (A6 s.epoch q m)) _ (λh q9=>by rw[a1];exact q9.rd U U (by rw[XY,X9];omega) (Sr f c)) _ _ a7 b6 m t Z) H.f2 ?_));rintro _ w _ ⟨bv,rfl,rfl⟩ H;have b7:=H.sy 0 (·.slc);obtain ⟨bo,y,rfl⟩:=b7;refine Za 5 [] H Z ?_;intro b4 w H;refine Z4 8 [0] H Z ?_;intro w H;have a3:=(H.rd 8 Z hB).at (j:=i) (u:=Aa m.num) (by rw[Yb,Yb,c];rfl);refine A4 (Sep z _) J J H.drew (EM 12 [1,2,0] (λ_ l=>(A3 (l.blk 6 Z) AU)) Z J Z (Co 83 Z (λh4=>?_) (λh4=>?_)))
  ·exact absurd Z h4
  refine EM 8 [9,0] (λ_ l=>(A3 (l.blk 6 Z) AU)) Z J Z (Co 91 Z (λh5=>?_) (λh5=>?_))
  ·exact absurd Z h5
  refine EM 5 [0,0,2,1] (λ_ l=>(A3 (l.blk 0 Z) (A3 (l.blk 5 Z) AU))) Z J Z (Be Z Z Z (Ar Z (z:=1) (j:=i) (r:=i) J Z Z Z U a3 U) (Be Z Z Z (AK Z Z J (λ_ hs=>(hs.rd 8 Z hB).at (j:=i) (u:=Aa m.num) (by rw[Yb,Yb,c];rfl))) ?_));refine Ca 2 [] Z J (Bn (λw b=>?_));have H:=b.l9;refine gn (Zc 1 Z (Ag Z (λh6=>?_) (λh6=>?_)))
  ·exact absurd Z h6
  refine Z2 5 [0,3] H Z (AC Z (AI H Z J AR Z (by decide) (by decide) (out:=[Aa m.num,Aa m.kind,.slice bo 240 y]) J) ?_);rintro _ w ⟨b5,rfl,H⟩;refine AC Z (AJ 4 H Z Z J AR Z Z (H.rv 0 (·.rd U U O Z)) (Al Z (Al Z (Al Z AL))) U) ?_;rintro v6 w b;have b:Sep z (blk b5 [Aa m.num,Aa m.kind,.slice bo 240 y] 118::blk b4 [Aa m.num,Aa m.kind,.slice bo 240 y] 118::grow 5 1 (.slice bo 240 y) 240 (m.body.map u8)::blk gb ((AE s.epoch q ims).map u8++rest) 5::grow 118 3 v6 (i+1) (Bj es++[Aa m.num,Aa m.kind,.slice bo 240 y])::poolA hq::blk b1 [Aa s.epoch,Aa q,.slice ao ims.length oc,u32 (Av (AE s.epoch q ims))] 233::blk pl [V g,Aa s.gen,Aa s.epoch,Aa s.pages,Aa s.start,Aa s.len,Aa s.head,Aa s.seq,Aa a,Aa q,Aa u,.bool false] 249::rdkA g n F m9::B::R) w:=b;have a9:(Bj es++[Aa m.num,Aa m.kind,.slice bo 240 y]:List Value)=Bj (es++[((m,.slice bo 240 y):ImE)]):=(Ip es (m,.slice bo 240 y));rw[a9] at b;have H:=b.l10;have c7:=H.sy 4 (·.slc);refine Zc 4 Z ?_;replace H:=H.f2.f5;obtain ⟨a2,⟨a6,b3⟩,H⟩:=BW H (λh q=>q.rd);have b8:∀e∈es++[((m,.slice bo 240 y):ImE)],imeOk a2 e:=λe he=>by rcases Yt.1 he with q|q;exact (hE e q).le a6;rw[YA] at q;subst q;exact ⟨t,b3⟩
  refine Z1 5 [] [(i:Int)+1] Z U ?_;replace H:=H.f2.d.f1.d.f6.f6.f6.f6.f5.f5.f6;refine gf ?_;intro _ o;refine ⟨⟨i+1,v6,(es++[((m,.slice bo 240 y):ImE)]),a2⟩,o.cz,⟨H,?_⟩,?_⟩
  ·exact ⟨by show i+1<=ims.length;omega,by rw[Yj,a0,Ye,c];rfl,b8⟩
  (dsimp only;omega)
 refine Zc 2 Z (gx (Zc 11 Z (Zr Z ?_)));obtain rfl:i=ims.length:=by omega
 rw[YS] at a0;exact ⟨_,⟨_,es,hq,a0,hE,Z,Z⟩,H.pick 7 [0,1,4,5,6] Z⟩
def rOff(rs:List Rc)(i:Nat):Nat:=((rs.take i).map λr=>1+r.ims.length).sum
theorem P9{rs:List Rc}{i:Nat}{r:Rc}(h:rs[i]?=some r):rOff rs (i+1)=rOff rs i+(1+r.ims.length):=by
 unfold rOff;rw[Ye,h];simp
theorem J1{rs:List Rc}{i:Nat}(h:i<=rs.length):rOff rs i<=rOff rs rs.length:=by
 have:∀k,i+k<=rs.length->rOff rs i<=rOff rs (i+k):=by
  intro k
  induction k with
  | zero=>intro _;exact Yp _
  | succ k ih=>
   intro c;have b:=ih U;have a:=P9 (rs:=rs) (i:=i+k) (XW U);rw[show i+(k+1)=i+k+1 by omega,a];omega
 have:=this (rs.length-i) U;rwa[show i+(rs.length-i)=rs.length by omega] at this
set_option maxHeartbeats 8000000 in
theorem Ss (f n m9:Nat) (c4:n<=4096) (F:Nat->List UInt8) (s:Sup) (t:s.Ok (n:Int)) (hh:s.head=0) (d5:s.epoch<4294967296) (rs:List Rc) (d6:s.seq+rs.length<1099511627776) (hR:∀(i:Nat) (r:Rc),rs[i]?=some r->r.seq=s.seq+(i:Int)/\(1<=r.ims.length/\r.ims.length<=40)/\(∀m∈r.ims,m.Ok)/\F (s.start+(rOff rs i:Int)).toNat=sect (Bt s.epoch r.seq r.ims)/\∀(j:Nat) (m:Img),r.ims[j]?=some m->F (s.start+(rOff rs i:Int)+1+(j:Int)).toNat=sect (A6 s.epoch r.seq m)) (a4:(rOff rs rs.length:Int)<s.len/\F (s.start+(rOff rs rs.length:Int)).toNat=List.replicate 256 0):An 152 [V f,.agg #[Aa s.gen,Aa s.epoch,Aa s.pages,Aa s.start,Aa s.len,Aa s.head,Aa s.seq]] [rdkA f n F m9] (λv G=>∃(u:Nat) (v2:Value) (es:List RcE) (hq:Hp),es.map Prod.fst=rs/\rcesOk es hq/\v=.tuple #[V u,v2,Aa 0]/\G=[grow 116 2 v2 rs.length (DT es),poolA hq,blk u [V f,Aa s.gen,Aa s.epoch,Aa s.pages,Aa s.start,Aa s.len,Aa s.head,Aa s.seq,Aa (rOff rs rs.length:Int),Aa (s.seq+(rs.length:Int)),Aa (rOff rs rs.length:Int),.bool false] 249,rdkA f n F m9]):=by
 intro z R w H;replace H:=H.l1;have hk:=t.2;have d1:=Sup.get t;have hs:(0<=s.start/\s.start<=1099511627776)/\0<s.len/\s.len<=1099511627776:=⟨by omega,by omega,by omega⟩;refine Af func152 Z ntmps152 Z (Za 2 [] H Z ?_);intro b1 w H;refine Z2 9 [0,7] H Z (AB Z (call155 _) (Nr _ n _ F s t) H.f1 ?_);rintro _ w _ ⟨u,rfl,rfl⟩ H;refine Zc 14 Z ?_;replace H:=((FS H).nilg 116 2).l5;refine Zc 6 Z ?_;refine Ap (σ:=Nat×Value×List RcE×Hp) (λ⟨i,v9,es,hq⟩=>[(8,v9),(0,V f),(3,V b1),(7,V u)])
   (λ⟨i,v9,es,hq⟩ w=>Sep z (grow 116 2 v9 i (DT es)::poolA hq::blk u [V f,Aa s.gen,Aa s.epoch,Aa s.pages,Aa s.start,Aa s.len,Aa s.head,Aa s.seq,Aa (rOff rs i:Int),Aa (s.seq+(i:Int)),Aa (rOff rs i:Int),.bool false] 249::rdkA f n F m9::blk b1 [Aa s.gen,Aa s.epoch,Aa s.pages,Aa s.start,Aa s.len,Aa s.head,Aa s.seq] 92::R) w/\(i<=rs.length/\es.map Prod.fst=rs.take i/\rcesOk es hq)) (λ⟨i,v9,es,hq⟩=>rs.length-i) ⟨0,.slice none 0 0,[],λ_=>none⟩
   fr_z ⟨(by simpa [rOff,DT,hh] using H),⟨Yi _,Z,λe g=>nomatch g⟩⟩ ?_
 clear H;rintro ⟨i,v9,es,hq⟩ w ⟨a,hI⟩;dsimp only at hI a ⊢;have H:=a.l5;have d0:=H.sy 0 (·.slc);obtain ⟨hi,a1,hE⟩:=hI;refine Zc 2 Z ?_;have b2:=J1 (rs:=rs) (i:=i) U;refine A4 (Sep z _) J J H.drew (EM 7 [10,0,4,1] (λ_ p=>(A3 (p.blk 2 Z) (A3 (p.blk 4 Z) AU))) Z J Z (Bn (λw a=>?_)));have H:=a.l5;refine gn (Zc 1 Z (Ag Z (λh1=>?_) (λh1=>?_)))
 ·refine Zc 4 Z ?_;have b8:=J1 (rs:=rs) (i:=i) U
  refine Z2 7 [8,2,0] H Z (Ah Z (call186 _) (Hq _ _ _ _ _ _ hs (rOff rs i:Int) U) H.f2 ?_);intro w H;replace H:=H.l5;refine k_updA 35 (v:=Aa (((s.start+(rOff rs i:Int)).toNat:Nat):Int)) Z (congrArg Aa (by rw[Y5 U U];omega)) (AB Z (call84 _) (HO _ _ _ _ ((s.start+(rOff rs i:Int)).toNat) U) H.f3 ?_);rintro _ w _ ⟨u2,rfl,rfl⟩ H;replace H:=H.l6;have d3:=H.sy 0 (·.slc);refine Z0 18 [4] Z ?_;rcases Yg i rs.length with b5|b5
  ·obtain ⟨r,hr⟩:∃r,rs[i]?=some r:=⟨_,XW U⟩;obtain ⟨a5,y,l,c7,a7⟩:=hR i r hr;have c8:=P9 hr
   have c9:=J1 (rs:=rs) (i:=i+1) U;rw[c7] at H;have b0:(sect (Bt s.epoch r.seq r.ims)).length=256:=sect_len (hdL_le y.2);rw[<-a5] at H;have a8:=a7;refine Zc 2 Z (AB Z (call187 _) (Of _ (sect (Bt s.epoch r.seq r.ims)) _ (λh q=>by rw[b0];exact q.rd) s.epoch r.seq U U r.ims y l Z) H ?_);rintro _ w _ ⟨pv,rfl,rfl⟩ H;replace H:=H.l7;have b7:=H.sy 0 (·.slc);obtain ⟨po,pc,rfl⟩:=b7;refine Zc 3 Z (AC Z (BN (P:=prog) H Z (zs:=[Aa 0,Aa 0,.slice none 0 0,u32 0]) J) ?_);rintro _ w ⟨b3,rfl,H⟩;replace H:=H.l8;refine Z5 15 [0,2,0,0] [1+(r.ims.length:Int)] H Z U ?_;intro w H;refine A4 (Sep z _) J J H.drew (EM 10 [0,0,1,1] (λ_ p=>(A3 (p.blk 0 Z) (A3 (p.blk 7 Z) AU))) Z J Z (Co 60 Z (λh2=>?_) (λh2=>?_)))
   ·exact absurd Z h2
   refine EM 9 [1,0,9,1] (λ_ p=>(A3 (p.blk 0 Z) (A3 (p.blk 4 Z) AU))) Z J Z (Co 69 Z (λh3=>?_) (λh3=>?_))
   ·exact absurd Z h3
   refine F8 10 [4,7,0,10,4,0,0] [s.len-(rOff rs i:Int)] Z J U (Bn (λw a=>?_));have H:=a.l8;refine gn (Zc 1 Z (Ag Z (λh4=>U) (λh4=>?_)));refine Z2 6 [0,4] H Z (AB Z (call188 _) (P8 _ _ _ _ _ _ n _ c4 F hs U U r.ims l y U U a8 _ _ (λh q=>q.rd)) H.f1.f3.f4 ?_);rintro _ w _ ⟨iv,a0,c3,a6,b9,rfl,rfl⟩ H;replace H:=H.l10;have c2:=H.sy 0 (·.slc);obtain ⟨b,c,rfl⟩:=c2;refine Z2 38 [4,9,2,0] H Z (AC Z (AI H Z J CB Z (by decide) (by decide) (out:=[Aa r.seq,.slice b r.ims.length c]) J) ?_);rintro _ w ⟨b4,rfl,H⟩;replace H:=H.l11;refine AC Z (AJ 8 H Z Z J CB Z Z (H.rv 0 (·.rd U U O Z)) (Al Z (Al Z AL)) U) ?_;rintro v5 w a;have a:Sep z (blk b4 [Aa r.seq,.slice b r.ims.length c] 116::grow 118 3 (.slice b r.ims.length c) r.ims.length (Bj a0)::poolA c3::blk u [V f,Aa s.gen,Aa s.epoch,Aa s.pages,Aa s.start,Aa s.len,Aa s.head,Aa s.seq,Aa (rOff rs i:Int),Aa r.seq,Aa (rOff rs i:Int),.bool false] 249::rdkA f n F m9::grow 3 1 (.slice po r.ims.length pc) r.ims.length ((r.ims.map Img.num).map Aa)::blk b3 [Aa s.epoch,Aa r.seq,.slice po r.ims.length pc,u32 (Av (AE s.epoch r.seq r.ims))] 233::grow 5 1 u2 256 ((sect (Bt s.epoch r.seq r.ims)).map u8)::grow 116 2 v5 (i+1) (DT es++[Aa r.seq,.slice b r.ims.length c])::poolA hq::blk b1 [Aa s.gen,Aa s.epoch,Aa s.pages,Aa s.start,Aa s.len,Aa s.head,Aa s.seq] 92::R) w:=a;have c5:(DT es++[Aa r.seq,.slice b r.ims.length c]:List Value)=DT (es++[((r,.slice b r.ims.length c):RcE)]):=(K8 es (r,.slice b r.ims.length c));rw[c5] at a;have H:=a.l11;have d4:=H.sy 8 (·.slc);refine Zc 6 Z (Ah Z (call189 _) (Kz _ _ _ _ _ _ hs (1+(r.ims.length:Int)) U U U U) H.f3 ?_);intro w H;refine Zc 1 Z ?_;replace H:=H.f3.f9;obtain ⟨d2,⟨a9,c6⟩,H⟩:=Io H (M:=λh=>∀e∈a0,imeOk h e) (λh q e g=>(b9 e g).le q) (λh h2 q s2 e g=>(q e g).le s2);replace H:=H.l10;replace H:=H.f3.f1;obtain ⟨a3,⟨a2,c0⟩,H⟩:=BW H (λh q=>q.rd);replace H:=H.l9;have c1:rcesOk (es++[((r,.slice b r.ims.length c):RcE)]) a3:=λe g=>by rcases Yt.1 g with q|q;exact (hE e q).le (λk o x=>a2 k o (a9 k o x));rw[YA] at q;subst q;exact ⟨a0,a6,c0,imesOk.of (λe g=>(c6 e g).le a2)⟩
   rw[show (((rOff rs i:Int)+(1+(r.ims.length:Int)))%s.len)=(rOff rs (i+1):Int) from by rw[Y5 U U];omega,show (r.seq+1)=s.seq+((i+1:Nat):Int) from by omega,show ((rOff rs i:Int)+(1+(r.ims.length:Int)))=(rOff rs (i+1):Int) from by omega] at H;refine Zc 1 Z ?_;replace H:=H.f6.d.f5.d.f4.d.f2.d.f4.f3.f3.f3.f4;refine gf ?_;intro _ hF;refine ⟨⟨i+1,v5,(es++[((r,.slice b r.ims.length c):RcE)]),a3⟩,(hF.all Z),⟨H,?_⟩,?_⟩
   ·exact ⟨by show i+1<=rs.length;omega,by rw[Yj,a1,Ye,hr];rfl,c1⟩
   (dsimp only;omega)
  obtain rfl:i=rs.length:=by omega
  rw[a4.2] at H;refine Zc 2 Z (Ah Z (call187 _) (Mv _ (List.replicate 256 0) _ (λh q=>q.rd) Z) H ?_);intro w H;refine Zc 3 Z (AC Z (BN (P:=prog) H Z (zs:=[Aa 0,Aa 0,.slice none 0 0,u32 0]) J) ?_);rintro _ w ⟨b6,rfl,H⟩;replace H:=H.l7;refine Z5 15 [0,2,0,0] [1] H Z U ?_;intro w H;refine A4 (Sep z _) J J H.drew (Ca 29 [] Z J (Bn (λw a=>?_)));have H:=a.l7;refine gn (Zc 5 Z (gx (Zc 12 Z (Zr Z ?_))));rw[YS] at a1;exact ⟨_,⟨u,_,es,hq,a1,hE,Z,Z⟩,H.pick 7 [4,5,3,2] Z⟩
 (exfalso;omega)
section
def cutZ(z:Nat)(ao:Option Addr)(c p:Nat):Option Addr:=if c=p then ao else ao.map (·.add (p*z))
theorem rdH.cutZ{z:Nat}{f:Option Addr}{n c p m:Nat}{xs:List Value}{h:Hp}(r:rdH z (.slice f n c) n xs h)(hz:0<z)(i:p+m<=n)(v:n<=c):rdH z (.slice (YthbbejpbkglmlaaGreatDoor.cutZ z f c p) m (c-p)) m ((xs.drop (p*z)).take (m*z)) h:=by
 obtain ⟨s,c',e,w,x,y,g⟩:=r;cases e;have l:p*z+m*z<=n*z:=by rw[<-Nat.add_mul];exact Zv _ i
 refine ⟨_,_,Z,by omega,by omega,by simp;omega,λj u a=>?_⟩;have d:j<m*z:=by
  have:=(XV.1 a).1;simp at this;omega
 obtain ⟨b,o,rfl,q⟩:=g (p*z+j) u (by
  rw[Yy,if_pos d,YN] at a;exact a)
 have k:0<m:=Nat.pos_of_ne_zero λe=>by subst e;omega
 refine ⟨b,o+p*z,?_,by rw[ZA];exact q⟩;unfold YthbbejpbkglmlaaGreatDoor.cutZ;rw[if_neg U];simp only[Yu];unfold Addr.add;split
 ·rename_i t;simp[t]
 rfl
theorem rdH.slcapZ{z:Nat}{d:Option Addr}{n c:Nat}{xs:List Value}{h:Hp}(r:rdH z (.slice d n c) n xs h):n<=c/\c<=9223372036854775807/\xs.length=n*z:=by
 obtain ⟨b,c',e,f,g,a,i⟩:=r;cases e;exact ⟨f,g,a⟩
section
variable{P:Program}{C:World->Prop}{o:Oper}{n:Nat}{ds:List Deferred}{L:List (Nat×Value)}{x y:Operand}
theorem FI{z:Nat}{t:TypeId}{lo e:Option Operand}{g:Option Addr}{l c p q l' c':Nat}(j:o.op=.slice t x lo e none)(s:CF P t=some z)
  (h:ev L x=some (.slice g l c))(d:(lo=none/\p=0)\/∃y k i,lo=some y/\ev L y=some (.int k i)/\i=(p:Int))(a:(e=none/\q=l)\/∃y k i,e=some y/\ev L y=some (.int k i)/\i=(q:Int))(f:p<=q)(b:q<=c)
  (m:q-p=l')(r:c-p=c'):Ao P C n ds L o (.slice (cutZ z g c p) l' c'):=by
 subst m r;exact Jx j s h d a f b
end
def L8:ImE:=(⟨0,0,[]⟩,.slice none 0 0)
theorem Gs{es:List ImE}{i:Nat}(h:i<es.length):es[i]?=some (es.getD i L8):=by
 rw[Zq,XW h];rfl
theorem Fs(A B:List ImE):Bj (A++B)=Bj A++Bj B:=by simp[Bj]
theorem L9:∀(L:List ImE) (p:Nat),(Bj L).drop (p*3)=Bj (L.drop p)
 | L,0=>by simp
 | [],p+1=>by simp[Bj]
 | x::L,p+1=>by
  have e1:Bj (x::L)=Aa x.1.num::Aa x.1.kind::x.2::Bj L:=rfl;rw[e1,show (p+1)*3=p*3+1+1+1 by omega,Zo,Zo,Zo,Zo];exact L9 L p
theorem Ma:∀(L:List ImE) (p:Nat),(Bj L).take (p*3)=Bj (L.take p)
 | L,0=>by simp[Bj]
 | [],p+1=>by simp[Bj]
 | x::L,p+1=>by
  have e1:Bj (x::L)=Aa x.1.num::Aa x.1.kind::x.2::Bj L:=rfl;rw[e1,show (p+1)*3=p*3+1+1+1 by omega,Zn,Zn,Zn,Zn,Ma L p];rfl
theorem UT{L:List ImE}(h:∀e∈L,e.2.oneCell'=true):∀c∈Bj L,c.oneCell'=true:=λc a=>by
 simp only[Bj,Aar] at a;obtain ⟨e,d,b⟩:=a;simp[ImE.cells] at b;rcases b with rfl|rfl|rfl
 ·rfl
 ·rfl
 exact h e d
theorem imC_sub{A B:List ImE}(h:∀e∈A,e∈B){c:Value}(a:c∈Bj A):c∈Bj B:=by
 simp only[Bj,Aar] at a ⊢;obtain ⟨e,d,b⟩:=a;exact ⟨e,h e d,b⟩
theorem rdH.cutI{a:Option Addr}{n c p m:Nat}{L:List ImE}{h:Hp}(r:rdH 3 (.slice a n c) n (Bj L) h)(b:p+m<=n)(d:n<=c):rdH 3 (.slice (YthbbejpbkglmlaaGreatDoor.cutZ 3 a c p) m (c-p)) m (Bj ((L.drop p).take m)) h:=by
 have:=r.cutZ U b d;rw[L9,Ma] at this;exact this
set_option maxHeartbeats 2000000 in
theorem J2 (v:Value) (es:List ImE) (A:Ai) (o:∀h,A h->rdH 3 v es.length (Bj es) h/\∀e∈es,rdH 1 e.2 240 (e.1.body.map u8) h) (a4:∀e∈es,e.1.Ok) (hl:es.length<=1000000) (m:Img) (b:Option Addr) (a:Nat):An 153 [v,.agg #[Aa m.num,Aa m.kind,.slice b 240 a]] [A] (λv G=>∃v2:Value,v=v2/\G=[grow 118 3 v2 (BJ es ((m,.slice b 240 a):ImE)).length (Bj (BJ es ((m,.slice b 240 a):ImE))),A]):=by
 intro z R w H;obtain ⟨ao,oc,rfl⟩:=H.sy 0 (λq=>(o _ q).1.slc);have b2:=H.sy 0 (λq=>(o _ q).1.small);have a2:=H.sy 0 (λq=>(o _ q).1.slcapZ);have f:=H.says 0 Z (λh q=>UT (λe c=>((o h q).2 e c).slc.one));refine Af func153 Z ntmps153 Z (Za 2 [] H Z ?_);intro b1 w H;refine Zc 10 Z ?_;refine Ap (σ:=Nat) (λi=>[(5,Aa (i:Int)),(0,.slice ao es.length oc),(3,V b1),(4,.slice none 0 0)])
   (λi w=>Sep z (blk b1 [Aa m.num,Aa m.kind,.slice b 240 a] 118::A::R) w/\(i<=es.length/\∀(j:Nat) (y:ImE),j<i->es[j]?=some y->y.1.num<m.num)) (λi=>es.length-i) 0
   fr_z ⟨H,⟨Yi _,λj y h=>absurd h (Nat.not_lt_zero _)⟩⟩ ?_
 clear H;rintro i w ⟨n,x⟩;have H:=n.l2;obtain ⟨hi,x⟩:=x;refine Zc 2 Z (A4 (Sep z _) J J H.drew (IY 5 [0] [] Z J (Co 11 Z (λh1=>?_) (λh1=>?_))))
 ·have c:=Gs (es:=es) (i:=i) U
  refine Ca 2 [] Z J (Be Z Z Z (Ar Z (z:=3) (j:=i) (r:=i*3) J Z Z Z U ((H.rv 1 (λq=>(o _ q).1)).at (Bb c 0 _ Z)) U) (Be Z Z Z (CG Z (k:=0) (r:=i*3) J Z ((H.rv 1 (λq=>(o _ q).1)).at (Bb c 0 _ Z)) Z) (Be Z Z Z (AK Z Z J (λ_ hs=>(hs.rv 1 (λq=>(o _ q).1)).at (Bb c 0 _ Z))) (EM 4 [0,0] (λ_ hx=>(A3 (hx.blk 0 Z) AU)) Z J Z (Bn (λw n=>?_))))));have H:=n.l2;refine gn (Zc 1 Z (Ag Z (λh2=>?_) (λh2=>?_)))
  ·refine Z1 9 [] [(i:Int)+1] Z U (gf ?_);intro _ hF;refine ⟨(i+1),hF.cz,⟨H,?_⟩,?_⟩
   ·exact ⟨by omega,λj y hj u=>by rcases Nat.lt_succ_iff_lt_or_eq.1 hj with q|q;exact x j y q u;subst q;have g:=c.symm.trans u;cases g;assumption⟩
   omega
  refine Zc 2 Z (gx (Zc 12 Z (Ad Z (FI (z:=3) (p:=0) (q:=i) (l':=i) (c':=oc) Z J Z (.inl ⟨Z,Z⟩) (.inr ⟨_,_,_,Z,Z,Z⟩) U U Z Z) ?_)));replace H:=(H.nilg 118 3).l3;refine AC Z (AJ 0 H Z Z J AR Z Z (H.rv 2 (λq=>(o _ q).1.cutI U U)) (λt g=>f t (imC_sub (λe c=>YF (by rwa[Ym] at c)) g)) U) ?_;rintro v2 w n;have a0:([]++Bj ((es.drop 0).take i):List Value)=Bj (es.take i):=(by rw[Yo,Ym]);rw[a0] at n;have H:=n.l3;have a9:=H.sy 0 (·.slc);refine Z2 7 [1,3] H Z (AC Z (AI H Z J AR Z (by decide) (by decide) (out:=[Aa m.num,Aa m.kind,.slice b 240 a]) J) ?_);rintro _ w ⟨b3,rfl,H⟩;refine AC Z (AJ 1 H Z Z J AR Z Z (H.rv 0 (·.rd U U O Z)) (Al Z (Al Z (Al Z AL))) U) ?_;rintro v4 w H;have a5:=H.sy 1 (·.slc);refine Zc 5 Z (A4 (Sep z _) J J H.drew (IY 5 [0] [] Z J (Co 36 Z (λh3=>?_) (λh3=>?_))))
  ·have c:=Gs (es:=es) (i:=i) U
   refine Ca 2 [] Z J (Be Z Z Z (Ar Z (z:=3) (j:=i) (r:=i*3) J Z Z Z U ((H.rv 3 (λq=>(o _ q).1)).at (Bb c 0 _ Z)) U) (Be Z Z Z (CG Z (k:=0) (r:=i*3) J Z ((H.rv 3 (λq=>(o _ q).1)).at (Bb c 0 _ Z)) Z) (Be Z Z Z (AK Z Z J (λ_ hs=>(hs.rv 3 (λq=>(o _ q).1)).at (Bb c 0 _ Z))) (EM 4 [0,0] (λ_ hx=>(A3 (hx.blk 2 Z) AU)) Z J Z (Bn (λw n=>?_))))));have H:=n.l4;refine gn (Zc 1 Z (Ag Z (λh4=>?_) (λh4=>?_)))
   ·refine Z1 11 [] [((i+1:Nat):Int)] Z U (Ad Z (FI (z:=3) (p:=(i+1)) (q:=es.length) (l':=es.length-(i+1)) (c':=oc-(i+1)) Z J Z (.inr ⟨_,_,_,Z,Z,Z⟩) (.inl ⟨Z,Z⟩) U U Z Z) (AC Z (AJ 1 H Z Z J AR Z Z (H.rv 3 (λq=>(o _ q).1.cutI U U)) (λt g=>f t (imC_sub (λe c=>ZL (YF c)) g)) U) ?_));rintro v5 w H;have a6:=H.sy 1 (·.slc)
    refine Zc 4 Z (Zr Z ?_);have d:BJ es ((m,.slice b 240 a):ImE)=es.take i++[((m,.slice b 240 a):ImE)]++es.drop (i+1):=M3 ((m,.slice b 240 a):ImE) x c (by assumption);have s:(BJ es ((m,.slice b 240 a):ImE)).length=0+i+1+(es.length-(i+1)):=by rw[d];simp only[XY,X1,Yr,Zt];omega
    rw[Ym,show List.take (1*3) [Aa m.num,Aa m.kind,.slice b 240 a]=[Aa m.num,Aa m.kind,.slice b 240 a] from Z,show (Bj (es.take i)++[Aa m.num,Aa m.kind,.slice b 240 a]++Bj ((es.drop (i+1)).take (es.length-(i+1))):List Value)=Bj (BJ es ((m,.slice b 240 a):ImE)) from by rw[d,Fs,Fs,X0 (l:=es.drop (i+1)) (by rw[Yr];omega)];rfl,<-s] at H;exact ⟨_,⟨_,Z,Z⟩,H.pick 4 [1,3] Z⟩
   refine Zc 7 Z (Ad Z (FI (z:=3) (p:=i) (q:=es.length) (l':=es.length-i) (c':=oc-i) Z J Z (.inr ⟨_,_,_,Z,Z,Z⟩) (.inl ⟨Z,Z⟩) U U Z Z) (AC Z (AJ 1 H Z Z J AR Z Z (H.rv 3 (λq=>(o _ q).1.cutI U U)) (λt g=>f t (imC_sub (λe c=>ZL (YF c)) g)) U) ?_));rintro v6 w H;have a8:=H.sy 1 (·.slc);refine Zc 4 Z (Zr Z ?_);have d:BJ es ((m,.slice b 240 a):ImE)=es.take i++[((m,.slice b 240 a):ImE)]++es.drop i:=JP ((m,.slice b 240 a):ImE) x U (λy u=>by first|(have g:=(XV.1 u).1;omega)|(have g:=c.symm.trans u;cases g;dsimp only;omega));have s:(BJ es ((m,.slice b 240 a):ImE)).length=0+i+1+(es.length-i):=by rw[d];simp only[XY,X1,Yr,Zt];omega
   rw[Ym,show List.take (1*3) [Aa m.num,Aa m.kind,.slice b 240 a]=[Aa m.num,Aa m.kind,.slice b 240 a] from Z,show (Bj (es.take i)++[Aa m.num,Aa m.kind,.slice b 240 a]++Bj ((es.drop i).take (es.length-i)):List Value)=Bj (BJ es ((m,.slice b 240 a):ImE)) from by rw[d,Fs,Fs,X0 (l:=es.drop i) (by rw[Yr];omega)];rfl,<-s] at H;exact ⟨_,⟨_,Z,Z⟩,H.pick 4 [1,3] Z⟩
  exact absurd h1 h3
 refine Ca 9 [] Z J (Bn (λw n=>?_));have H:=n.l2;refine gn (Zc 4 Z (gx (Zc 12 Z (Ad Z (FI (z:=3) (p:=0) (q:=i) (l':=i) (c':=oc) Z J Z (.inl ⟨Z,Z⟩) (.inr ⟨_,_,_,Z,Z,Z⟩) U U Z Z) ?_))));replace H:=(H.nilg 118 3).l3;refine AC Z (AJ 0 H Z Z J AR Z Z (H.rv 2 (λq=>(o _ q).1.cutI U U)) (λt g=>f t (imC_sub (λe c=>YF (by rwa[Ym] at c)) g)) U) ?_;rintro v7 w n;have a1:([]++Bj ((es.drop 0).take i):List Value)=Bj (es.take i):=(by rw[Yo,Ym]);rw[a1] at n;have H:=n.l3;have b0:=H.sy 0 (·.slc);refine Z2 7 [1,3] H Z (AC Z (AI H Z J AR Z (by decide) (by decide) (out:=[Aa m.num,Aa m.kind,.slice b 240 a]) J) ?_);rintro _ w ⟨b8,rfl,H⟩;refine AC Z (AJ 1 H Z Z J AR Z Z (H.rv 0 (·.rd U U O Z)) (Al Z (Al Z (Al Z AL))) U) ?_;rintro v9 w H;have a7:=H.sy 1 (·.slc);refine Zc 5 Z (A4 (Sep z _) J J H.drew (IY 5 [0] [] Z J (Co 36 Z (λh5=>?_) (λh5=>?_))))
 ·exact absurd h5 h1
 refine Ca 9 [] Z J (Bn (λw n=>?_));have H:=n.l4;refine gn (Zc 9 Z (Ad Z (FI (z:=3) (p:=i) (q:=es.length) (l':=es.length-i) (c':=oc-i) Z J Z (.inr ⟨_,_,_,Z,Z,Z⟩) (.inl ⟨Z,Z⟩) U U Z Z) (AC Z (AJ 1 H Z Z J AR Z Z (H.rv 3 (λq=>(o _ q).1.cutI U U)) (λt g=>f t (imC_sub (λe c=>ZL (YF c)) g)) U) ?_)));rintro b4 w H;have a3:=H.sy 1 (·.slc);refine Zc 4 Z (Zr Z ?_);have d:BJ es ((m,.slice b 240 a):ImE)=es.take i++[((m,.slice b 240 a):ImE)]++es.drop i:=JP ((m,.slice b 240 a):ImE) x U (λy u=>by first|(have g:=(XV.1 u).1;omega)|(have g:=c.symm.trans u;cases g;dsimp only;omega));have s:(BJ es ((m,.slice b 240 a):ImE)).length=0+i+1+(es.length-i):=by rw[d];simp only[XY,X1,Yr,Zt];omega
 rw[Ym,show List.take (1*3) [Aa m.num,Aa m.kind,.slice b 240 a]=[Aa m.num,Aa m.kind,.slice b 240 a] from Z,show (Bj (es.take i)++[Aa m.num,Aa m.kind,.slice b 240 a]++Bj ((es.drop i).take (es.length-i)):List Value)=Bj (BJ es ((m,.slice b 240 a):ImE)) from by rw[d,Fs,Fs,X0 (l:=es.drop i) (by rw[Yr];omega)];rfl,<-s] at H;exact ⟨_,⟨_,Z,Z⟩,H.pick 4 [1,3] Z⟩
end
theorem J3{m:Img}(h:m.Ok):(DX m).length=256:=De (ES h)
def FJ(F:Nat->List UInt8)(es:List ImE):Nat->List UInt8:=es.foldl (λF e=>By F (2+e.1.num).toNat (DX e.1)) F
theorem Wo{F:Nat->List UInt8}{es:List ImE}{i:Nat}{e:ImE}(h:es[i]?=some e):FJ F (es.take (i+1))=By (FJ F (es.take i)) (2+e.1.num).toNat (DX e.1):=by
 unfold FJ;rw[Ye,h,Zj];rfl
theorem IJ(v:Value)(es:List ImE)(A:Ai)(a:∀h,A h->rdH 3 v es.length (Bj es) h/\∀e∈es,rdH 1 e.2 240 (e.1.body.map u8) h)(m:∀e∈es,e.1.Ok)(p:Int)(d:∀e∈es,e.1.num≠p):An 83 [v,Aa p] [A] (λv G=>v=.tuple #[.agg #[Aa 0,.slice none 0 0],.bool false]/\G=[A]):=by
 intro z R w H;obtain ⟨o,u,rfl⟩:=H.sy 0 (λq=>(a _ q).1.slc);have x:=H.sy 0 (λq=>(a _ q).1.small);refine Af func83 Z ntmps83 Z (Za 2 [] H Z ?_);intro f w H;refine Zc 10 Z ?_;refine Ap (σ:=Nat) (λi=>[(6,Aa (i:Int)),(0,.slice o es.length u),(1,Aa p),(4,V f)])
   (λi w=>Sep z (blk f [Aa 0,.slice none 0 0] 40::A::R) w/\(i<=es.length)) (λi=>es.length-i) 0
   fr_z ⟨H,Yi _⟩ ?_
 clear H;rintro i w ⟨s,l⟩;have H:=s.l2;have y:=l;clear l;refine Z0 9 [0] Z (Ag Z (λn=>?_) (λn=>?_))
 ·refine Zc 5 Z ?_;have b:=Gs (es:=es) (i:=i) U
  have c:=d _ (XX b);refine Zc 3 Z (Ad Z (Ar Z (z:=3) (j:=i) (r:=i*3) J Z Z Z U ((H.rv 1 (λq=>(a _ q).1)).at (Bb b 0 _ Z)) U) (Ad Z (CG Z (k:=0) (r:=i*3) J Z ((H.rv 1 (λq=>(a _ q).1)).at (Bb b 0 _ Z)) Z) (Ad Z (AK Z Z J (AA ((H.rv 1 (λq=>(a _ q).1)).at (Bb b 0 _ Z)))) (Z0 4 [0] Z (Ag Z (λg=>?_) (λg=>?_))))))
  ·exact absurd g c
  refine Z1 8 [] [(i:Int)+1] Z U (gf ?_);intro _ t;refine ⟨(i+1),t.cz,⟨H,?_⟩,?_⟩
  ·omega
  omega
 refine Zc 2 Z (gx (Z4 10 [0] H Z ?_));intro w H;refine Zl [0,2] H Z ?_;exact ⟨_,⟨Z,Z⟩,H.pick 2 [1] Z⟩
set_option maxHeartbeats 4000000 in
theorem Qb (ps d:Nat) (x:Sup) (lp ov:Value) (un:Bool) (n t:Nat) (a3:t<=900000000) (a4:n<=4096) (F:Nat->List UInt8) (s:Sup) (a0:s.Ok (n:Int)) (v:Value) (es:List ImE) (A:Ai) (b:∀h,A h->rdH 3 v es.length (Bj es) h/\∀e∈es,rdH 1 e.2 240 (e.1.body.map u8) h) (p:∀e∈es,e.1.Ok) (a5:es.length<=1000000) (y:∀e∈es,e.1.num+2<n):An 154 [V ps,.agg #[Aa s.gen,Aa s.epoch,Aa s.pages,Aa s.start,Aa s.len,Aa s.head,Aa s.seq]] [blk ps [V d,Aa x.gen,Aa x.epoch,Aa x.pages,Aa x.start,Aa x.len,Aa x.head,Aa x.seq,lp,v,.bool un,ov] 128,rdkA d n F t,A] (λv G=>v=Aa 0/\G=[blk ps [V d,Aa s.gen,Aa s.epoch,Aa s.pages,Aa s.start,Aa s.len,Aa s.head,Aa s.seq,lp,.slice none 0 0,.bool un,ov] 128,rdkA d n (By (FJ F es) (s.gen%2).toNat (Br s)) (t+es.length+1),A]):=by
 intro z R w H;obtain ⟨ao,oc,rfl⟩:=H.sy 2 (λq=>(b _ q).1.slc);refine Af func154 Z ntmps154 Z (Za 2 [] H Z ?_);intro b1 w H;refine Zc 10 Z ?_;refine Ap (σ:=Nat) (λi=>[(5,Aa (i:Int)),(0,V ps),(3,V b1)])
   (λi w=>Sep z (blk b1 [Aa s.gen,Aa s.epoch,Aa s.pages,Aa s.start,Aa s.len,Aa s.head,Aa s.seq] 92::blk ps [V d,Aa x.gen,Aa x.epoch,Aa x.pages,Aa x.start,Aa x.len,Aa x.head,Aa x.seq,lp,.slice ao es.length oc,.bool un,ov] 128::rdkA d n (FJ F (es.take i)) (t+i)::A::R) w/\(i<=es.length)) (λi=>es.length-i) 0
   fr_z ⟨(by simpa [FJ] using H),Yi _⟩ ?_
 clear H;rintro i w ⟨l,hI⟩;have H:=l.l4;have hi:=hI;clear hI;refine Z2 12 [9,1,0,0] H Z (Ag Z (λh1=>?_) (λh1=>?_))
 ·refine Zc 5 Z ?_;have a:=Gs (es:=es) (i:=i) U
  have f:=p _ (XX a);obtain ⟨bo,bc,c⟩:Slc (es.getD i L8).2 240:=H.sy 3 (λq=>((b _ q).2 _ (XX a)).slc);have g:=f.1;have o:=y _ (XX a);have a1:=XX a;obtain ⟨⟨m,bv⟩,a2⟩:∃e:ImE,es.getD i L8=e:=⟨_,Z⟩;rw[a2] at a f c o a1 g;dsimp only at c f o g;subst c;refine Z2 6 [9,1,0] H Z (Ad Z (Ar Z (z:=3) (j:=i) (r:=i*3) J Z Z Z U ((H.rv 3 (λq=>(b _ q).1)).at (Bb a 0 _ Z)) U) (Ad Z (B8 Z Z (vs:=[Aa m.num,Aa m.kind,.slice bo 240 bc]) J O (AA (λk u hk=>(H.rv 3 (λq=>(b _ q).1)).at (Bb a k u hk)))) (AB Z (call143 _) (Fj m f _ _ (λh q=>(b h q).2 _ (XX a))) H.f3 ?_)));rintro _ w _ ⟨u2,rfl,rfl⟩ H;have a6:=H.sy 0 (·.slc);refine Zc 8 Z (Bo 14 J J (A9 H λw l=>?_));have H:=l.l5;refine Vo 9 [0,0,9,0] (A3 (H.blk 3 Z) AU) Z J Z (B5 Z Z Z (Ar Z (z:=3) (j:=i) (r:=i*3) J Z Z Z U ((H.rv 1 (λq=>(b _ q).1)).at (Bb a 0 _ Z)) U) (B5 Z Z Z (CG Z (k:=0) (r:=i*3) J Z ((H.rv 1 (λq=>(b _ q).1)).at (Bb a 0 _ Z)) Z) (B5 Z Z Z (AK Z Z J (AA ((H.rv 1 (λq=>(b _ q).1)).at (u:=Aa m.num) (Bb a 0 _ Z)))) (CD 2 [] [2+m.num] H Z J U (Cf (gw (k_updA 42 (v:=Aa (((2+m.num).toNat:Nat):Int)) Z (congrArg Aa U) (Ah Z (call149 _) (GU _ n _ U _ ((2+m.num).toNat) 1 false _ (DX m) _ (λh q=>q.rd) (J3 f) U U) H.f4 ?_))))))));intro w H;rw[RX _ _ (J3 f)] at H;refine Z0 13 [4] Z ?_;replace H:=(H.pick 5 [0,2,3,4] Z).l4;rw[<-Wo a] at H;refine Z1 5 [] [(i:Int)+1] Z U ?_;replace H:=H.f1.f1.f3.f3;refine gf ?_;intro _ hF;refine ⟨(i+1),hF.cz,⟨H,?_⟩,?_⟩
  ·omega
  omega
 refine Zc 2 Z (gx (Zc 3 Z ?_));obtain rfl:i=es.length:=by omega
 rw[YS] at H;refine Z2 5 [0,1,0] H Z (Ah Z (call113 _) (II _ _ _ _) H.f2 ?_);intro w H;refine Z0 14 [4] Z (Bo 5 J J (A9 H λw l=>?_));have H:=l.l4;refine Xp 5 [0,2,0,1,7] [] H Z J (Cf (gw (Ah Z (call150 _) (J0 _ _ _ U _ s a0) H ?_)));intro w H;refine Z4 36 [4,1,7,1,2,9,2] H Z ?_;intro w H;refine Zr Z ?_;exact ⟨_,⟨Z,Z⟩,H.pick 4 [2,0,3] Z⟩
def imP(v:Value)(es:List ImE)(hq:Hp):Prop:=rdH 3 v es.length (Bj es) hq/\∀e∈es,imeOk hq e
theorem imP.le{v:Value}{es:List ImE}{hq a:Hp}(h:imP v es hq)(s:BC hq a):imP v es a:=⟨h.1.le s,λe b=>(h.2 e b).le s⟩
theorem imP.slc{v:Value}{es:List ImE}{hq:Hp}(h:imP v es hq):Slc v es.length:=h.1.slc
theorem imP.rdA{v:Value}{es:List ImE}{hq h:Hp}(i:imP v es hq)(q:poolA hq h):rdH 3 v es.length (Bj es) h/\∀e∈es,rdH 1 e.2 240 (e.1.body.map u8) h:=⟨i.1.le q,λe a=>(i.2 e a).2.le q⟩
theorem imP.nil(hq:Hp):imP (.slice none 0 0) [] hq:=⟨⟨none,0,Z,by simp,by omega,Z,λj u h=>by simp[Bj] at h⟩,λe a=>nomatch a⟩
theorem imP.put{v b:Value}{es:List ImE}{x:ImE}{hq a:Hp}(h:imP v es hq)(s:BC hq a)(d:imeOk hq x)(r:rdH 3 b (BJ es x).length (Bj (BJ es x)) a):imP b (BJ es x) a:=
 ⟨r,λe c=>by
  rcases putI_mem c with q|q
  ·subst q;exact d.le s
  exact (h.2 e q).le s⟩
theorem Qc(ps a:Nat)(x:Sup)(b:Value)(c ov:Value):An 90 [V ps] [blk ps [V a,Aa x.gen,Aa x.epoch,Aa x.pages,Aa x.start,Aa x.len,Aa x.head,Aa x.seq,b,c,.bool false,ov] 128] (λv G=>v=Aa 0/\G=[blk ps [V a,Aa x.gen,Aa x.epoch,Aa x.pages,Aa x.start,Aa x.len,Aa x.head,Aa x.seq,b,c,.bool true,.slice none 0 0] 128]):=by
 intro z R w H;refine Af func90 Z ntmps90 Z (Z4 39 [10,0,0,10,0,11,0] H Z ?_);intro w H;refine Zr Z ?_;exact ⟨_,⟨Z,Z⟩,H.pick 1 [0] Z⟩
theorem Qd(ps a:Nat)(x:Sup)(b:Value)(c ov:Value)(d:Bool):An 67 [V ps] [blk ps [V a,Aa x.gen,Aa x.epoch,Aa x.pages,Aa x.start,Aa x.len,Aa x.head,Aa x.seq,b,c,.bool d,ov] 128] (λv G=>v=.tuple #[]/\G=[blk ps [V a,Aa x.gen,Aa x.epoch,Aa x.pages,Aa x.start,Aa x.len,Aa x.head,Aa x.seq,b,c,.bool false,.slice none 0 0] 128]):=by
 intro z R w H;refine Af func67 Z ntmps67 Z (Z4 14 [10,0,11,0] H Z ?_);intro w H;refine Zf Z ?_;exact ⟨_,⟨Z,Z⟩,H.pick 1 [0] Z⟩
theorem St(ps a:Nat)(x:Sup)(b:Value)(c ov:Value)(n d:Nat)(F:Nat->List UInt8):An 59 [V ps] [blk ps [V a,Aa x.gen,Aa x.epoch,Aa x.pages,Aa x.start,Aa x.len,Aa x.head,Aa x.seq,b,c,.bool false,ov] 128,rdkA a n F d] (λv G=>v=Aa 0/\G=[blk ps [V a,Aa x.gen,Aa x.epoch,Aa x.pages,Aa x.start,Aa x.len,Aa x.head,Aa x.seq,b,c,.bool false,ov] 128,rdkA a n F d]):=by
 intro z R w H;refine Af func59 Z ntmps59 Z (Z2 23 [10,0,0,0,0,0] H Z (Ah Z (call113 _) (II _ _ _ _) H.f1 ?_));intro w H;refine Zc 4 Z (Zr Z ?_);exact ⟨_,⟨Z,Z⟩,H.pick 2 [1,0] Z⟩
set_option maxHeartbeats 4000000 in
theorem KA (ps pr:Nat) (x:Sup) (lp:Value) (pv ov:Value) (own:List ImE) (hq:Hp) (r:imP ov own hq) (b0:own.length<40) (m:Img) (hm:m.Ok) (a8:m.num<x.pages) (a5:∀e∈own,e.1.num≠m.num) (bv:Value) (B:Ai) (hB:∀h,B h->rdH 1 bv 240 (m.body.map u8) h):An 92 [V ps,Aa m.num,.agg #[Aa m.kind,bv]] [blk ps [V pr,Aa x.gen,Aa x.epoch,Aa x.pages,Aa x.start,Aa x.len,Aa x.head,Aa x.seq,lp,pv,.bool true,ov] 128,poolA hq,B] (λv G=>∃(n s:Value) (i:Hp),BC hq i/\imP n (BJ own (m,s)) i/\v=Aa 0/\G=[blk ps [V pr,Aa x.gen,Aa x.epoch,Aa x.pages,Aa x.start,Aa x.len,Aa x.head,Aa x.seq,lp,pv,.bool true,n] 128,poolA i,B]):=by
 intro z R w H;obtain ⟨oo,a1,rfl⟩:=r.slc;obtain ⟨bo,bc,rfl⟩:=H.sy 2 (λq=>(hB _ q).slc);have a9:=hm.1;have a7:=hm.2.1;refine Af func92 Z ntmps92 Z (Za 2 [] H Z ?_);intro b1 w H;refine Z2 22 [10,1,0,0] H Z (Am 17 Z (λh1=>U) (λh1=>?_));refine Z2 10 [1,3,1,0,0] H Z (Ag Z (λh2=>U) (λh2=>?_));refine Z2 9 [0,0,0,0] H Z (Am 29 Z (λh3=>U) (λh3=>?_));refine Z2 5 [0,0,0,0] H Z (Am 34 Z (λh4=>U) (λh4=>?_));refine Z2 17 [1,0,0,4,11,1,0] H Z (Ah Z (call83 _) (IJ _ own (poolA hq) (λh q=>r.rdA q) (λe he=>(r.2 e he).1) m.num a5) H.f2 ?_);intro w H;refine Za 3 [] H Z ?_;intro b2 w H;refine Z4 19 [0,11,3,0,0] H Z ?_;intro w H;refine Ag Z (λh5=>U) (λh5=>?_);refine Z2 12 [1,2,0] H Z ?_;replace H:=(H.nilg 5 1).l6;refine AC Z (AJ 0 H Z Z J A2 Z Z (H.rd 5 Z hB) (by intro c9 y;obtain ⟨b9,_,rfl⟩:=X6.1 y;rfl) U) ?_;rintro v3 w p;have u:([]++m.body.map u8:List Value)=m.body.map u8:=(by rw[Yo]);rw[u] at p;have H:=p.l6;have a3:=H.sy 0 (·.slc);refine Zc 4 Z ?_;obtain ⟨d,c,rfl⟩:=a3;replace H:=H.f2;obtain ⟨l,⟨b,a6⟩,H⟩:=BW H (λh q=>q.rd);have g:=r.le b;have t:imeOk l ((m,.slice d 240 c):ImE):=⟨hm,a6⟩;replace H:=H.f2.f3;refine A1 (Sep z (blk ps [V pr,Aa x.gen,Aa x.epoch,Aa x.pages,Aa x.start,Aa x.len,Aa x.head,Aa x.seq,lp,pv,.bool true,.slice oo own.length a1] 128::blk b1 [Aa m.kind,.slice bo 240 bc] 40::R)) 15 Z J (A9 H λw p=>?_);have H:=p.l5;refine BA [0,1,2,3,4,5,6,7,8] [11,0,0,1] J (λ_ hx=>(A3 (hx.blk 0 Z) (A3 (hx.blk 1 Z) AU))) (by exact H.pick 5 [0,1] Z) Z J Z Z (Bg 9 J Z Z J J J Z Z Z (AQ Z Z (out:=[Aa m.kind,.slice d 240 c]) J) (H.pick 5 [0,1] Z) (Bg 10 J Z Z J J J Z Z Z (AQ Z Z (out:=[Aa m.num,Aa m.kind,.slice d 240 c]) J) (H.pick 5 [0,1] Z) (Ay [11] J O (Az (BF Z Z Z Z Z Z (λw=>call153 _ w) (J2 _ own (poolA l) (λh q=>g.rdA q) (λe he=>(g.2 e he).1) U m _ _) H.f2 Z ?_)))));rintro a2 w _ ⟨_,rfl,rfl⟩ H;have f:=H.sy 0 (·.slc);refine Ax (λ_=>(H.pick 6 [2,3] Z)) (BA [12,13] [11] J (λ_ _=>AU) (by exact H.pick 6 [2,3] Z) Z J Z Z (Ay [14] J O (Az (CA Z Z Z (SW 2 H Z Z Z Z f.cells f.one J) ?_))));rintro w H;refine Ax (λh=>absurd Z h) (Bi J (gn ?_));replace H:=H.f1;obtain ⟨j,⟨a,a4⟩,H⟩:=BW H (λh q=>q.rd);have a0:imP a2 (BJ own ((m,.slice d 240 c):ImE)) j:=imP.put g a t a4;refine Zc 7 Z (Zr Z ?_);exact ⟨_,⟨_,_,j,λk o e=>a k o (b k o e),a0,Z,Z⟩,H.pick 5 [1,0,4] Z⟩
def F3(es:List ImE)(l:List ImE):List ImE:=l.foldl BJ es
theorem Qe{es l:List ImE}{i:Nat}{e:ImE}(h:l[i]?=some e):F3 es (l.take (i+1))=BJ (F3 es (l.take i)) e:=by
 unfold F3;rw[Ye,h,Zj];rfl
set_option maxHeartbeats 1000000 in
theorem Og (ps p pl:Nat) (x:Sup) (pv ov:Value) (a q u:Int) (own d:List ImE) (hq:Hp) (hO:imP ov own hq) (hI:imP pv d hq) (n m9:Nat) (b4:m9<=900000000) (b0:n<=4096) (F:Nat->List UInt8) (a6:(0<=x.start/\x.start<=1099511627776)/\0<x.len/\x.len<=1099511627776) (b5:0<=x.epoch/\x.epoch<4294967296) (b6:0<=q/\q<1099511627776) (hn:1<=own.length/\own.length<=40) (a7:d.length<=100000) (a4:∀(j i:Nat) (e f:ImE),j<i->own[j]?=some e->own[i]?=some f->e.1.num≠f.1.num) (ha:0<=a/\a+1+own.length<=x.len) (hu:0<=u/\u+1+own.length<=x.len) (b7:x.start+x.len<=n):An 97 [V ps] [blk ps [V p,Aa x.gen,Aa x.epoch,Aa x.pages,Aa x.start,Aa x.len,Aa x.head,Aa x.seq,V pl,pv,.bool true,ov] 128,blk pl [V p,Aa x.gen,Aa x.epoch,Aa x.pages,Aa x.start,Aa x.len,Aa x.head,Aa x.seq,Aa a,Aa q,Aa u,.bool false] 249,rdkA p n F m9,poolA hq] (λv G=>∃(c:Value) (b:Hp),BC hq b/\imP c (F3 d own) b/\v=Aa 0/\G=[blk ps [V p,Aa x.gen,Aa x.epoch,Aa x.pages,Aa x.start,Aa x.len,Aa x.head,Aa x.seq,V pl,c,.bool false,.slice none 0 0] 128,blk pl [V p,Aa x.gen,Aa x.epoch,Aa x.pages,Aa x.start,Aa x.len,Aa x.head,Aa x.seq,Aa ((a+((1+own.length:Nat):Int))%x.len),Aa (q+1),Aa (u+((1+own.length:Nat):Int)),.bool false] 249,rdkA p n (E7 F (x.start+a).toNat (sect (Bt x.epoch q (own.map Prod.fst))++AE x.epoch q (own.map Prod.fst)) (1+own.length)) (m9+(1+own.length)),poolA b]):=by
 intro z R w H;obtain ⟨oo,a5,rfl⟩:=hO.slc;refine Af func97 Z ntmps97 Z (Z2 30 [10,0,0,11,0,0] H Z (Ah Z (call67 _) (Qd _ _ _ _ _ _ _) H ?_));intro w H;refine Z0 10 [0] Z (Ag Z (λh1=>U) (λh1=>?_));refine Z2 9 [8,0,0] H Z (Ah Z (call161 _) (P7 _ _ _ _ _ _ n _ U b0 _ a6 U U _ own (poolA hq) (λh q=>hO.rdA q) (λe s=>(hO.2 e s).1) U a4 U U U) H.f3.f3.f3 ?_);intro w H;refine Z0 30 [4,4] Z ?_;refine Ap (σ:=Nat×Value×Hp) (λ⟨i,c,b⟩=>[(5,Aa (i:Int)),(0,V ps),(2,Aa 0),(3,.slice oo own.length a5)])
   (λ⟨i,c,b⟩ w=>Sep z (blk pl [V p,Aa x.gen,Aa x.epoch,Aa x.pages,Aa x.start,Aa x.len,Aa x.head,Aa x.seq,Aa ((a+((1+own.length:Nat):Int))%x.len),Aa (q+1),Aa (u+((1+own.length:Nat):Int)),.bool false] 249::rdkA p n (E7 F (x.start+a).toNat (sect (Bt x.epoch q (own.map Prod.fst))++AE x.epoch q (own.map Prod.fst)) (1+own.length)) (m9+(1+own.length))::poolA b::blk ps [V p,Aa x.gen,Aa x.epoch,Aa x.pages,Aa x.start,Aa x.len,Aa x.head,Aa x.seq,V pl,c,.bool false,.slice none 0 0] 128::R) w/\(i<=own.length/\BC hq b/\imP c (F3 d (own.take i)) b/\(F3 d (own.take i)).length<=100000+i)) (λ⟨i,c,b⟩=>own.length-i) ⟨0,pv,hq⟩
   fr_z ⟨H,⟨Yi _,λk o e=>e,hI,by simpa [F3] using a7⟩⟩ ?_
 clear H;rintro ⟨i,c,b⟩ w ⟨H',hI⟩;dsimp only at hI H' ⊢;have H:=H'.l4;obtain ⟨hi,a0,g,b3⟩:=hI;refine Z0 9 [0] Z (Ag Z (λh2=>?_) (λh2=>?_))
 ·refine Zc 4 Z ?_;have s:=Gs (es:=own) (i:=i) U
  have a1:=hO.le a0;have y:=a1.2 _ (XX s);obtain ⟨bo,bc,a2⟩:Slc (own.getD i L8).2 240:=by have h9:=y.2.slc;exact h9
  obtain ⟨⟨m,bv⟩,b2⟩:∃e:ImE,own.getD i L8=e:=⟨_,Z⟩;rw[b2] at s y a2;dsimp only at a2;subst a2;obtain ⟨po,a9,rfl⟩:=g.slc;replace H:=H.f2.f3;refine A1 (Sep z (blk ps [V p,Aa x.gen,Aa x.epoch,Aa x.pages,Aa x.start,Aa x.len,Aa x.head,Aa x.seq,V pl,.slice po ((F3 d (own.take i)).length) a9,.bool false,.slice none 0 0] 128::poolA b::R)) 13 Z J (A9 H λw H'=>?_);have H:=H'.l4;refine BA [0,1,2,3,4,5,6] [9,0] J (λ_ hx=>(A3 (hx.blk 0 Z) AU)) (by exact H.pick 4 [0,1] Z) Z J Z Z (Bg 7 J Z Z J J J Z Z Z (Ar Z (z:=3) (j:=i) (r:=i*3) J Z Z Z U ((H.rv 1 (λq=>(a1.rdA q).1)).at (Bb s 0 _ Z)) U) (H.pick 4 [0,1] Z) (Bg 8 J Z Z J J J Z Z Z (B8 Z Z (vs:=[Aa m.num,Aa m.kind,.slice bo 240 bc]) J O (λ_ hs k u hk=>(hs.rv 1 (λq=>(a1.rdA q).1)).at (Bb s k u hk))) (H.pick 4 [0,1] Z) (Ay [9] J O (Az (BF Z Z Z Z Z Z (λw=>call153 _ w) (J2 _ (F3 d (own.take i)) (poolA b) (λh q=>g.rdA q) (λe s=>(g.2 e s).1) U m _ _) H.f1 Z ?_)))));rintro a3 w _ ⟨_,rfl,rfl⟩ H;have t:=H.sy 0 (·.slc);refine Ax (λ_=>(H.pick 5 [2,1] Z)) (BA [10,11] [9] J (λ_ _=>AU) (by exact H.pick 5 [2,1] Z) Z J Z Z (Ay [12] J O (Az (CA Z Z Z (QI 2 H Z Z Z Z t.cells t.one J) ?_))));rintro w H;refine Ax (λh=>absurd Z h) (Bi J (gn ?_));replace H:=H.f1;obtain ⟨b,⟨l,b1⟩,H⟩:=BW H (λh q=>q.rd);have a8:imP a3 (BJ (F3 d (own.take i)) ((m,.slice bo 240 bc):ImE)) b:=imP.put g l y b1;refine Z1 7 [] [(i:Int)+1] Z U ?_;replace H:=H.f1.f1.f3.f3;refine gf ?_;intro _ hF;refine ⟨⟨i+1,a3,b⟩,hF.cz,⟨H,?_⟩,?_⟩
  ·exact ⟨by show i+1<=own.length;omega,λk o e=>l k o (a0 k o e),by rw[Qe s];exact a8,by rw[Qe s];exact AaZ (putI_len _ _) U⟩
  (dsimp only;omega)
 refine Zc 2 Z (gx (Zc 8 Z (Zr Z ?_)));rw[show own.take i=own from X0 U] at g;exact ⟨_,⟨c,b,a0,g,Z,Z⟩,H.pick 4 [3,0,1,2] Z⟩
theorem Qf(i:Nat)(z:List UInt8):By (λ_=>z) i z=λ_=>z:=by funext k;unfold By;split<;>rfl
set_option maxHeartbeats 1000000 in
theorem Qg (c n f a:Nat) (x:f<=900000000) (i:n<=4096) (s l:Int) (d:(Bl (a:Int) s l 2).Ok (n:Int)):An 88 [V c,Aa (a:Int),Aa s,Aa l] [rdkA c n (λ_=>(List.replicate 256 (0:UInt8))) f] (λv G=>v=Aa 0/\G=[rdkA c n (By (By (λ_=>(List.replicate 256 (0:UInt8))) 1 (Br (Bl (a:Int) s l 1))) 0 (Br (Bl (a:Int) s l 2))) (f+a+2)]):=by
 intro z R w H;have b:=LG d;have y:=RO d;refine Af func88 Z ntmps88 Z (Zc 10 Z (Ad Z (AQ Z Z (out:=[Aa 1,Aa 1,Aa (a:Int),Aa s,Aa l,Aa 0,Aa 1]) J) (Za 0 [] H Z ?_)));intro g w H;refine Z4 4 [0] H Z ?_;intro w H;replace H:=H.f1;obtain ⟨lv,rows,hq,m,e⟩:=H.rk;clear H;have a0:=m.1;have i:=m.2.1;have H:=e.l5;have j:=H.sy 1 (·.slc);obtain ⟨lo,r,rfl⟩:=j;replace H:=H.f4;refine A1 (Sep z (blk g [Aa 1,Aa 1,Aa (a:Int),Aa s,Aa l,Aa 0,Aa 1] 92::blk c [.slice lo n r,Aa 0,Aa 0,Aa 0,Aa 0,Aa (-1)] 133::R)) 5 Z J (A9 H λw e=>?_);have H:=e.l5;refine Bg 0 J Z Z J J J Z Z Z (Bz Z Z (vs:=[Aa 1,Aa 1,Aa (a:Int),Aa s,Aa l,Aa 0,Aa 1]) J (λ_ t=>(t.blk 0 Z).part 0 7 _ Z)) (H.pick 5 [0,1] Z) (BA [1] [] J (λ_ _=>AU) (by exact H.pick 5 [0,1] Z) Z J Z Z (Ay [2] J O (Az (BF Z Z Z Z Z Z (λw=>call148 _ w) (UQ _ _ _ _ U) H.f1 Z ?_))));rintro _ w _ ⟨rfl,rfl⟩ H;refine Ax (λ_=>(H.pick 5 [1,0] Z)) (Ay [3] J O (Az (BF Z Z Z Z Z Z (λw=>call147 _ w) (FH (Bl (a:Int) s l 1) n b U) H Z ?_)));rintro _ w _ ⟨rfl,rfl⟩ H;refine Ax (λ_=>(H.pick 5 [1,0] Z)) (Ay [4] J O (Az (Dr Z Z Z Z (Bq Z Z) (Ax (λh=>absurd Z h) (Bi J (gn (Zc 3 Z ?_)))))));have e:Sep z (rdkA c n (λ_=>(List.replicate 256 (0:UInt8))) f::blk g [Aa 1,Aa 1,Aa (a:Int),Aa s,Aa l,Aa 0,Aa 1] 92::R) w:=(H.pick 5 [0,2,3,4,1] Z).toRk m;clear H;have H:=e.l2;refine Z0 15 [4] Z ?_;refine Ap (σ:=Nat) (λp=>[(11,Aa (p:Int)),(0,V c),(1,Aa (a:Int)),(9,V g),(10,Aa 0)])
   (λp w=>Sep z (rdkA c n (λ_=>(List.replicate 256 (0:UInt8))) (f+p)::blk g [Aa 1,Aa 1,Aa (a:Int),Aa s,Aa l,Aa 0,Aa 1] 92::R) w/\(p<=a)) (λp=>a-p) 0
   fr_z ⟨H,Yi _⟩ ?_
 clear H;rintro p w ⟨e,o⟩;have H:=e.l2;have hp:=o;clear o;refine Z0 8 [0] Z (Ag Z (λu=>?_) (λu=>?_))
 ·refine Z1 9 [] [((2+p:Nat):Int)] Z U (AC Z (C8 (k:=256) H Z J A2 Z Z Z U) ?_);rintro _ w ⟨b2,rfl,H⟩;refine Ah Z (call149 _) (GU _ n _ U _ (2+p) 1 false _ (List.replicate 256 (0:UInt8)) _ (λh q=>by rw[X5];exact q.rd U U O (by simp[u8])) O U U) H.f1 ?_;intro w H;rw[RX _ _ O,Qf] at H;refine Zc 4 Z ?_;replace H:=(H.pick 3 [0,2] Z).l2
  refine Z1 14 [4] [(p:Int)+1] Z U (gf ?_);intro _ hF;refine ⟨(p+1),hF.cz,⟨H,?_⟩,?_⟩
  ·omega
  omega
 refine Zc 2 Z (gx (Zc 3 Z ?_));obtain rfl:p=a:=by omega
 refine Zc 2 Z (Ah Z (call113 _) (II _ _ _ _) H ?_);intro w H;refine Z2 17 [4,1,7] H Z (Ah Z (call150 _) (J0 _ _ _ U _ (Bl (p:Int) s l 1) b) H ?_);intro w H;refine Z4 23 [4,0,1,1,7] H Z ?_;intro w H;refine Ah Z (call150 _) (J0 _ _ _ U _ (Bl (p:Int) s l 2) d) H ?_;intro w H;refine Zc 4 Z (Zr Z ?_);exact ⟨_,⟨Z,Z⟩,H.pick 2 [0] Z⟩
theorem Ns{y:Sup}{n:Int}(h:y.Ok n)(d:y.gen<1099511627776)(c:y.epoch<1099511627776):(BG y).Ok n:=by
 have b:=h.2;have a:=Sup.get h;exact Sup.ok_mk (by show 0<=y.gen+1/\y.gen+1<=_;omega) (by show 0<=y.epoch+1/\y.epoch+1<=_;omega) (by show 16<=y.pages/\y.pages<=1024;omega) (by show 2+y.pages<=y.start/\y.start<=_;omega) (by show 64<=y.len/\y.len<=_;omega) (by show (0:Int)<=0/\(0:Int)<y.len;omega) (by show (0:Int)<=1/\(1:Int)<=_;omega) (by show y.start<=n-y.len/\y.len<=n;omega)
def Fe:List Img->Img->List Img
 | [],x=>[x]
 | y::l,x=>if y.num<x.num then y::Fe l x else if y.num=x.num then x::l else x::y::l
def Do(l xs:List Img):List Img:=xs.foldl Fe l
theorem IK(x:ImE):∀es:List ImE,(BJ es x).map Prod.fst=Fe (es.map Prod.fst) x.1
 | []=>rfl
 | y::l=>by
  simp only[BJ,Fe,Yn];split
  ·rw[Yn,IK x l]
  split<;>rfl
theorem KB(l a b:List Img):Do l (a++b)=Do (Do l a) b:=Zj ..
theorem putD_mem{x e:Img}:∀{es:List Img},e∈Fe es x->e=x\/e∈es
 | [],h=>by simp[Fe] at h;exact .inl h
 | y::l,h=>by
  simp only[Fe] at h;split at h
  ·rcases YO.1 h with q|q
   ·exact .inr (by simp[q])
   rcases putD_mem q with r|r
   ·exact .inl r
   exact .inr (Zx _ r)
  split at h
  ·rcases YO.1 h with q|q
   ·exact .inl q
   exact .inr (Zx _ q)
  rcases YO.1 h with q|q
  ·exact .inl q
  exact .inr q
theorem putDs_mem{e:Img}:∀{xs l:List Img},e∈Do l xs->e∈l\/e∈xs
 | [],_,h=>.inl h
 | x::xs,l,h=>by
  rcases putDs_mem (xs:=xs) (l:=Fe l x) h with q|q
  ·rcases putD_mem q with r|r
   ·exact .inr (by simp[r])
   exact .inl r
  exact .inr (Zx _ q)
theorem putDs_snoc(l a:List Img)(x:Img):Do l (a++[x])=Fe (Do l a) x:=by rw[KB];rfl
set_option maxHeartbeats 1000000 in
theorem Mb (f n m9:Nat) (e6:m9<=900000000) (c6:n<=4096) (F:Nat->List UInt8) (x0 x1 y:Sup) (e1:F 0=Br x0) (d6:F 1=Br x1) (d2:x0.Ok (n:Int)) (d9:x1.Ok (n:Int)) (g0:x0.gen%2=0) (g1:x1.gen%2=1) (hy:(x0.gen<x1.gen/\y=x1)\/(x1.gen<=x0.gen/\y=x0)) (d3:2<=n) (hh:y.head=0) (d0:y.gen<1099511627776) (d8:y.epoch<4294967296) (rs:List Rc) (f7:rs.length<=1000) (b7:∀r∈rs,∀m∈r.ims,m.num+2<(n:Int)) (e2:y.seq+rs.length<1099511627776) (hR:∀(i:Nat) (r:Rc),rs[i]?=some r->r.seq=y.seq+(i:Int)/\(1<=r.ims.length/\r.ims.length<=40)/\(∀m∈r.ims,m.Ok)/\F (y.start+(rOff rs i:Int)).toNat=sect (Bt y.epoch r.seq r.ims)/\∀(j:Nat) (m:Img),r.ims[j]?=some m->F (y.start+(rOff rs i:Int)+1+(j:Int)).toNat=sect (A6 y.epoch r.seq m)) (b9:(rOff rs rs.length:Int)<y.len/\F (y.start+(rOff rs rs.length:Int)).toNat=List.replicate 256 0):An 89 [V f] [rdkA f n F m9] (λv G=>∃(ps pl:Nat) (a6:List ImE),a6.map Prod.fst=Do [] (rs.flatMap Rc.ims)/\(∀e∈a6,e.1.Ok)/\v=.tuple #[V ps,Aa 0]/\G=[blk ps [V f,Aa ((BG y).gen),Aa ((BG y).epoch),Aa ((BG y).pages),Aa ((BG y).start),Aa ((BG y).len),Aa ((BG y).head),Aa ((BG y).seq),V pl,.slice none 0 0,.bool false,.slice none 0 0] 128,blk pl [V f,Aa ((BG y).gen),Aa ((BG y).epoch),Aa ((BG y).pages),Aa ((BG y).start),Aa ((BG y).len),Aa ((BG y).head),Aa ((BG y).seq),Aa 0,Aa 1,Aa 0,.bool false] 249,rdkA f n (By (FJ F a6) ((BG y).gen%2).toNat (Br (BG y))) (m9+a6.length+1)]):=by
 intro z R w H;have a5:y.Ok (n:Int):=by rcases hy with ⟨_,rfl⟩|⟨_,rfl⟩<;>assumption
 have e5:=a5.2;have e8:=Sup.get a5;refine Af func89 Z ntmps89 Z (Zc 9 Z (Ah Z (call151 _) (UR _ _ _ F x0 x1 y e1 d6 d2 d9 g0 g1 hy d3) H ?_));intro w H;refine Za 3 [] H Z ?_;intro b1 w H;refine Z4 18 [0,4,0,7] H Z ?_;intro w H;refine AB Z (call152 _) (Ss _ n _ c6 F y a5 hh d8 rs e2 hR b9) H.f1 ?_;rintro _ w _ ⟨b5,rv,es,hq,c1,hE,rfl,rfl⟩ H;have d4:=H.sy 0 (·.slc);obtain ⟨ro,p,rfl⟩:=d4;refine Z2 26 [4,0,4,0,0] H Z (Am 32 Z (λh1=>U) (λh1=>?_));refine Z2 6 [1,4,0,0] H Z (Ag Z (λh2=>U) (λh2=>?_));refine Zc 5 Z (Ad Z (AQ Z Z (out:=[V f,Aa 0,Aa 0,Aa 0,Aa 0,Aa 0,Aa 0,Aa 0,.pointer none,.slice none 0 0,.bool false,.slice none 0 0]) J) (Za 0 [] H Z ?_));intro b2 w H;refine Zc 5 Z ?_;have d5:=imP.nil hq;have e3:es.length=rs.length:=by rw[<-c1,X9]
 refine Zc 5 Z ?_;refine Ap (σ:=Nat×Value×List ImE×Hp) (λ⟨i,l,b,d⟩=>[(9,Aa (i:Int)),(0,V f),(2,.pointer none),(3,Aa 0),(4,V b1),(5,Aa 0),(7,.slice ro rs.length p),(8,V b2)])
   (λ⟨i,l,b,d⟩ w=>Sep z (blk b2 [V f,Aa 0,Aa 0,Aa 0,Aa 0,Aa 0,Aa 0,Aa 0,.pointer none,l,.bool false,.slice none 0 0] 128::grow 116 2 (.slice ro rs.length p) rs.length (DT es)::poolA d::blk b5 [V f,Aa y.gen,Aa y.epoch,Aa y.pages,Aa y.start,Aa y.len,Aa y.head,Aa y.seq,Aa (rOff rs rs.length:Int),Aa (y.seq+(rs.length:Int)),Aa (rOff rs rs.length:Int),.bool false] 249::rdkA f n F m9::blk b1 [Aa y.gen,Aa y.epoch,Aa y.pages,Aa y.start,Aa y.len,Aa y.head,Aa y.seq] 92::R) w/\(i<=rs.length/\BC hq d/\imP l b d/\b.map Prod.fst=Do [] ((rs.take i).flatMap Rc.ims)/\b.length<=40*i)) (λ⟨i,l,b,d⟩=>rs.length-i) ⟨0,.slice none 0 0,[],hq⟩
   fr_z ⟨H,⟨Yi _,λk o e=>e,d5,Z,by simp⟩⟩ ?_
 clear H;rintro ⟨i,l,b,d⟩ w ⟨H',hI⟩;dsimp only at hI H' ⊢;have H:=H'.l6;obtain ⟨hi,d1,a1,a4,f0⟩:=hI;refine Z0 9 [0] Z (Ag Z (λh3=>?_) (λh3=>?_))
 ·refine Zc 5 Z ?_;obtain ⟨⟨r,f8⟩,g⟩:∃e:RcE,es[i]?=some e:=⟨_,XW U⟩;have hr:rs[i]?=some r:=by rw[<-c1,Yb,g];rfl
  obtain ⟨_,e9,c4,_⟩:=hR i r hr;obtain ⟨c0,b4,t,b0⟩:=hE _ (XX g);dsimp only at b4 t b0;obtain ⟨io,ic,rfl⟩:=t.slc;have e4:c0.length=r.ims.length:=by rw[<-b4,X9]
  refine Zc 5 Z ?_;refine Ap (σ:=Nat×Value×List ImE×Hp) (λ⟨j,x,a,c⟩=>[(10,Aa (j:Int)),(0,V f),(2,.pointer none),(3,Aa 0),(4,V b1),(5,Aa 0),(7,.slice ro rs.length p),(8,V b2),(9,Aa (i:Int)),(40,Aa (i:Int)),(41,.slice ro rs.length p),(42,Aa (rs.length:Int)),(43,.bool (decide ((i:Int)<(rs.length:Int))))])
    (λ⟨j,x,a,c⟩ w=>Sep z (blk b2 [V f,Aa 0,Aa 0,Aa 0,Aa 0,Aa 0,Aa 0,Aa 0,.pointer none,x,.bool false,.slice none 0 0] 128::grow 116 2 (.slice ro rs.length p) rs.length (DT es)::poolA c::blk b5 [V f,Aa y.gen,Aa y.epoch,Aa y.pages,Aa y.start,Aa y.len,Aa y.head,Aa y.seq,Aa (rOff rs rs.length:Int),Aa (y.seq+(rs.length:Int)),Aa (rOff rs rs.length:Int),.bool false] 249::rdkA f n F m9::blk b1 [Aa y.gen,Aa y.epoch,Aa y.pages,Aa y.start,Aa y.len,Aa y.head,Aa y.seq] 92::R) w/\(j<=r.ims.length/\BC hq c/\imP x a c/\a.map Prod.fst=Do (Do [] ((rs.take i).flatMap Rc.ims)) (r.ims.take j)/\a.length<=40*i+j)) (λ⟨j,x,a,c⟩=>r.ims.length-j) ⟨0,l,b,d⟩
    fr_z ⟨H,⟨Yi _,d1,a1,by rw[a4];rfl,by omega⟩⟩ ?_
  clear H;rintro ⟨j,x,a,c⟩ w ⟨H',hI⟩;dsimp only at hI H' ⊢;have H:=H'.l6;obtain ⟨hj,a0,a3,c2,e7⟩:=hI;refine Zc 6 Z (Ad Z (Ar Z (z:=2) (j:=i) (r:=i*2) J Z Z Z U ((H.rv 1 (·.rd)).at (DI g 0 _ Z)) U) (Ad Z (CG Z (k:=1) (r:=i*2+1) J Z ((H.rv 1 (·.rd)).at (DI g 0 _ Z)) Z) (Ad Z (AK Z Z J (AA ((H.rv 1 (·.rd)).at (DI g 1 _ Z)))) (Z0 4 [0] Z (Ag Z (λh4=>?_) (λh4=>?_))))))
  ·refine Zc 4 Z ?_;obtain ⟨⟨m,bv⟩,a7⟩:∃e:ImE,c0[j]?=some e:=⟨_,XW U⟩;have c8:r.ims[j]?=some m:=by rw[<-b4,Yb,a7];rfl
   have c7:=c4 m (XX c8);have a8:=b0 _ (XX a7);dsimp only at a8;rw[c7.2.2] at a8;obtain ⟨bo,bc,rfl⟩:Slc bv 240:=a8.slc;have c9:imeOk c ((m,.slice bo 240 bc):ImE):=⟨c7,a8.le a0⟩;obtain ⟨po,c5,rfl⟩:=a3.slc;replace H:=H.f1.f2.f2;refine A1 (Sep z (blk b2 [V f,Aa 0,Aa 0,Aa 0,Aa 0,Aa 0,Aa 0,Aa 0,.pointer none,.slice po a.length c5,.bool false,.slice none 0 0] 128::poolA c::grow 116 2 (.slice ro rs.length p) rs.length (DT es)::R)) 17 Z J (A9 H λw H'=>?_);have H:=H'.l6;refine BA [0,1,2,3,4,5,6] [9,0] J (λ_ hx=>(A3 (hx.blk 0 Z) AU)) (by exact H.pick 6 [0,1,2] Z) Z J Z Z (Bg 7 J Z Z J J J Z Z Z (Ar Z (z:=2) (j:=i) (r:=i*2) J Z Z Z U ((H.rv 2 (·.rd)).at (DI g 0 _ Z)) U) (H.pick 6 [0,1,2] Z) (Bg 8 J Z Z J J J Z Z Z (CG Z (k:=1) (r:=i*2+1) J Z ((H.rv 2 (·.rd)).at (DI g 0 _ Z)) Z) (H.pick 6 [0,1,2] Z) (Bg 9 J Z Z J J J Z Z Z (AK Z Z J (λ_ hs=>(hs.rv 2 (·.rd)).at (DI g 1 _ Z))) (H.pick 6 [0,1,2] Z) (BA [10] [] J (λ_ _=>AU) (by exact H.pick 6 [0,1,2] Z) Z J Z Z (Bg 11 J Z Z J J J Z Z Z (Ar Z (z:=3) (j:=j) (r:=j*3) J Z Z Z U ((H.rv 1 (λq=>(t.le a0).le q)).at (Bb a7 0 _ Z)) U) (H.pick 6 [0,1,2] Z) (Bg 12 J Z Z J J J Z Z Z (B8 Z Z (vs:=[Aa m.num,Aa m.kind,.slice bo 240 bc]) J O (λ_ hs k u hk=>(hs.rv 1 (λq=>(t.le a0).le q)).at (Bb a7 k u hk))) (H.pick 6 [0,1,2] Z) (Ay [13] J O (Az (BF Z Z Z Z Z Z (λw=>call153 _ w) (J2 _ a (poolA c) (λh q=>a3.rdA q) (λe g=>(a3.2 e g).1) U m _ _) H.f1 Z ?_)))))))));rintro c3 w _ ⟨_,rfl,rfl⟩ H;have a9:=H.sy 0 (·.slc);refine Ax (λ_=>(H.pick 7 [2,1,3] Z)) (BA [14,15] [9] J (λ_ _=>AU) (by exact H.pick 7 [2,1,3] Z) Z J Z Z (Ay [16] J O (Az (CA Z Z Z (QI 2 H Z Z Z Z a9.cells a9.one J) ?_))));rintro w H;refine Ax (λh=>absurd Z h) (Bi J (gn ?_));replace H:=H.f1;obtain ⟨b6,⟨a2,e0⟩,H⟩:=BW H (λh q=>q.rd);have d7:imP c3 (BJ a ((m,.slice bo 240 bc):ImE)) b6:=imP.put a3 a2 c9 e0;refine Z1 7 [] [(j:Int)+1] Z U ?_;replace H:=H.f5.f5.f5.f3.f5.f5;refine gf ?_;intro _ hF;refine ⟨⟨j+1,c3,BJ a ((m,.slice bo 240 bc):ImE),b6⟩,hF.cz,⟨H,?_⟩,?_⟩
   ·exact ⟨by show j+1<=r.ims.length;omega,λk o e=>a2 k o (a0 k o e),d7,by rw[IK,c2,Ye,c8];exact (putDs_snoc _ _ _).symm,AaZ (putI_len _ _) U⟩
   (dsimp only;omega)
  refine Zc 2 Z (gx (Z1 8 [] [(i:Int)+1] Z U (gf ?_)));intro _ hF;refine ⟨⟨i+1,x,a,c⟩,hF.cz,⟨H,?_⟩,?_⟩
  ·exact ⟨by show i+1<=rs.length;omega,a0,a3,by rw[Ye,hr];simp only[Option.toList_some,List.flatMap_append,List.flatMap_singleton];rw[KB,c2,show r.ims.take j=r.ims from X0 U],by show a.length<=40*(i+1);omega⟩
  (dsimp only;omega)
 refine Zc 2 Z (gx (Z5 33 [0,5,0,0,5,1,5,0,1,5,5,5,6,5] [y.gen+1,y.epoch+1] H Z U ?_));intro w H;obtain rfl:i=rs.length:=by omega
 obtain ⟨s,hs⟩:∃s:Sup,s=BG y:=⟨_,Z⟩;have b3:s.Ok (n:Int):=by rw[hs];exact Ns a5 d0 U
 have f6:s.pages=y.pages:=by rw[hs];rfl
 have H':Sep z (blk b2 [V f,Aa 0,Aa 0,Aa 0,Aa 0,Aa 0,Aa 0,Aa 0,.pointer none,l,.bool false,.slice none 0 0] 128::grow 116 2 (.slice ro rs.length p) rs.length (DT es)::poolA d::blk b5 [V f,Aa y.gen,Aa y.epoch,Aa y.pages,Aa y.start,Aa y.len,Aa y.head,Aa y.seq,Aa (rOff rs rs.length:Int),Aa (y.seq+(rs.length:Int)),Aa (rOff rs rs.length:Int),.bool false] 249::rdkA f n F m9::blk b1 [Aa s.gen,Aa s.epoch,Aa s.pages,Aa s.start,Aa s.len,Aa s.head,Aa s.seq] 92::R) w:=by rw[hs];exact H
 clear H;have H:=H'.l6;have b8:∀e∈b,e.1.num+2<(n:Int):=λe g=>by have h1:e.1∈Do [] ((rs.take rs.length).flatMap Rc.ims):=a4▸YP g;rcases putDs_mem h1 with q|q;exact nomatch q;obtain ⟨r,hr,hm⟩:=Aar.1 q;exact b7 r (YF hr) e.1 hm
 obtain ⟨po,c5,rfl⟩:=a1.slc;refine Z2 3 [5,7] H Z (Ah Z (call154 _) (Qb _ _ (Sup.mk 0 0 0 0 0 0 0) _ _ _ n _ U c6 F s b3 _ b (poolA d) (λh q=>a1.rdA q) (λe g=>(a1.2 e g).1) U b8) H.f2.f4.f2 ?_);intro w H;refine Z2 18 [4,5,7] H Z (AB Z (call155 _) (Nr _ n _ _ s b3) H.f1 ?_);rintro _ w _ ⟨pl,rfl,rfl⟩ H;refine Z4 13 [8,2] H Z ?_;intro w H;refine Zr Z ?_;subst hs;rw[YS] at a4;exact ⟨_,⟨b2,pl,b,a4,λe g=>(a1.2 e g).1,Z,Z⟩,H.pick 7 [2,0,1] Z⟩
def J4(F:Nat->List UInt8)(ims:List Img):Nat->List UInt8:=ims.foldl (λF m=>By F (2+m.num).toNat (DX m)) F
theorem Wp(F:Nat->List UInt8)(es:List ImE):FJ F es=J4 F (es.map Prod.fst):=by
 unfold FJ J4;rw[List.foldl_map]
theorem putQ_off{i:Nat}:∀{ims:List Img} {F:Nat->List UInt8},(∀m∈ims,(2+m.num).toNat≠i)->J4 F ims i=F i
 | [],_,_=>rfl
 | m::l,F,h=>by
  show J4 (By F _ _) l i=F i;rw[putQ_off (λx hx=>h x (Zx _ hx)),upf_other _ _ (ZI (h m O))]
theorem Nt{m:Img}:∀{ims:List Img} {F:Nat->List UInt8},(∀x∈ims,0<=x.num)->(ims.map Img.num).Nodup->m∈ims->J4 F ims (2+m.num).toNat=DX m
 | [],_,_,_,hm=>nomatch hm
 | x::l,F,h0,hd,hm=>by
  show J4 (By F _ _) l _=_;simp only[Yn,Y8] at hd;rcases YO.1 hm with rfl|hm
  ·rw[putQ_off (λy hy e=>hd.1 (by have h1:=h0 y (by simp[hy]);have h2:=h0 m O;rw[show m.num=y.num by omega];exact YP hy)),CX]
  exact Nt (λy hy=>h0 y (by simp[hy])) hd.2 hm
theorem IL{x:Img}:∀{l:List Img},(∀y∈l,y.num<x.num)->Fe l x=l++[x]
 | [],_=>rfl
 | y::l,h=>by
  simp only[Fe];rw[if_pos (h y O),IL (λz hz=>h z (by simp[hz]))];rfl
theorem Mc:∀{xs l:List Img},(l++xs).Pairwise (λa b=>a.num<b.num)->Do l xs=l++xs
 | [],l,_=>by simp[Do]
 | x::xs,l,h=>by
  show Do (Fe l x) xs=_;have h1:∀y∈l,y.num<x.num:=λy c=>(List.pairwise_append.1 h).2.2 y c x O;rw[IL h1,Mc (by rwa[X3,ZK]),X3,ZK]

def IM(e q:Int)(ims:List Img):List (List UInt8):=sect (Bt e q ims)::ims.map λm=>sect (A6 e q m)
theorem Qh(e q:Int)(ims:List Img):sect (Bt e q ims)++AE e q ims=(IM e q ims).flatten:=by simp[IM,AE,List.flatMap]
theorem Md(e q:Int)(ims:List Img):(IM e q ims).length=1+ims.length:=by simp[IM];omega
theorem Su{e q:Int}{ims:List Img}(c:ims.length<=40)(a:∀m∈ims,m.Ok):∀s∈IM e q ims,s.length=256:=λs hs=>by
 rcases YO.1 hs with rfl|hs
 ·exact sect_len (hdL_le c)
 obtain ⟨m,b,rfl⟩:=X6.1 hs;exact sect_len (YY (CJ (a m b).2.2))
theorem Wq{F:Nat->List UInt8}{a:Nat}{e q:Int}{ims:List Img}(c:ims.length<=40)(b:∀m∈ims,m.Ok):E7 F a (sect (Bt e q ims)++AE e q ims) (1+ims.length)=Hl F a (IM e q ims):=by
 rw[<-Md e q ims];exact Us (Qh e q ims) (Su c b)

def Qi(C:Nat->Nat)(n:Nat)(cb:List UInt8):Nat->Img
 | 0=>⟨((0:Nat):Int),1,cb⟩
 | i+1=>⟨((i+1:Nat):Int),2,EI (B9 C n i)⟩
theorem Cu(C:Nat->Nat)(n:Nat)(cb:List UInt8)(i:Nat):(Qi C n cb i).num=(i:Int):=by cases i<;>rfl
theorem Hr{C:Nat->Nat}{n:Nat}{cb:List UInt8}(a:cb.length=240){i:Nat}(b:i<=1023):(Qi C n cb i).Ok:=by
 cases i with
 | zero=>exact ⟨by show 0<=((0:Nat):Int)/\((0:Nat):Int)<=1023;omega,by show 1<=(1:Int)/\(1:Int)<=5;omega,a⟩
 | succ i=>exact ⟨by show 0<=((i+1:Nat):Int)/\((i+1:Nat):Int)<=1023;omega,by show 1<=(2:Int)/\(2:Int)<=5;omega,Gn (Dh _ _ _)⟩
abbrev FK(n:Nat)(cb:List UInt8)(i:Nat):Img:=Qi (C1 (manyN n+1)) n cb i
def Cj(n:Nat)(cb:List UInt8)(k:Nat):List Img:=(List.range k).map (FK n cb)
theorem DF(n:Nat)(cb:List UInt8)(k:Nat):(Cj n cb k).length=k:=by simp[Cj]
theorem UU(n:Nat)(cb:List UInt8)(k:Nat):Cj n cb (k+1)=Cj n cb k++[FK n cb k]:=by simp[Cj,ZT]
theorem Ev{n:Nat}{cb:List UInt8}{k:Nat}{m:Img}(h:m∈Cj n cb k):∃i,i<k/\m=FK n cb i:=by
 obtain ⟨i,a,rfl⟩:=X6.1 h;exact ⟨i,Y1.1 a,Z⟩
theorem IN(n:Nat)(cb:List UInt8)(k:Nat):(Cj n cb k).Pairwise (λa b=>a.num<b.num):=by
 unfold Cj;rw[Zk];exact List.pairwise_lt_range.imp λh=>by rw[Cu,Cu];omega
theorem Sv{l:List Img}(h:l.Pairwise (λa b=>a.num<b.num)):(l.map Img.num).Nodup:=by
 unfold List.Nodup;rw[Zk];exact h.imp λh=>by omega
theorem Wr{l:List ImE}(h:(l.map Prod.fst).Pairwise (λa b=>a.num<b.num)):∀(j i:Nat) (e f:ImE),j<i->l[j]?=some e->l[i]?=some f->e.1.num≠f.1.num:=λj i e f c g m=>by
 rw[Zk,List.pairwise_iff_getElem] at h;obtain ⟨k,d⟩:=XV.1 g;obtain ⟨n,o⟩:=XV.1 m;have:=h j i k n c;rw[d,o] at this;omega

def Jr(n:Nat)(s l:Int):Nat->List UInt8:=By (By (λ_=>List.replicate 256 0) 1 (Br (Bl (n:Int) s l 1))) 0 (Br (Bl (n:Int) s l 2))
def Bf(n:Nat)(s l:Int):Sup:=BG (Bl (n:Int) s l 2)
def Ic(n:Nat)(s l:Int):Nat->List UInt8:=By (Jr n s l) 1 (Br (Bf n s l))
def EJ(n:Nat)(s l:Int)(cb:List UInt8):Nat->List UInt8:=Hl (Ic n s l) s.toNat (IM 2 1 (Cj n cb (manyN n+1)))
def Ds(n:Nat)(cb:List UInt8):List Rc:=[⟨1,Cj n cb (manyN n+1)⟩]
theorem Ws{n:Nat}{s l:Int}{d:Int}(h:(Bl (n:Int) s l 2).Ok d):(Bf n s l).Ok d:=Ns h (by show (2:Int)<_;omega) (by show (1:Int)<_;omega)
theorem Tk(n:Nat)(s l:Int):Jr n s l 0=Br (Bl (n:Int) s l 2):=CX _ _ _
theorem W4(n:Nat)(s l:Int):Jr n s l 1=Br (Bl (n:Int) s l 1):=by unfold Jr;rw[upf_other _ _ U,CX]
theorem Nu(n:Nat)(s l:Int){i:Nat}(h:2<=i):Jr n s l i=List.replicate 256 0:=by unfold Jr;rw[upf_other _ _ U,upf_other _ _ U]
theorem W5(n:Nat){s:Int}(l:Int)(cb:List UInt8)(hs:2<=s):EJ n s l cb 0=Br (Bl (n:Int) s l 2):=by
 unfold EJ;rw[Iz (.inl U)];unfold Ic;rw[upf_other _ _ U];exact Tk n s l
theorem W6(n:Nat){s:Int}(l:Int)(cb:List UInt8)(hs:2<=s):EJ n s l cb 1=Br (Bf n s l):=by
 unfold EJ;rw[Iz (.inl U)];unfold Ic;rw[CX]
theorem UV(n:Nat){s:Int}(l:Int)(cb:List UInt8)(hs:2<=s):EJ n s l cb (s+((1+(manyN n+1):Nat):Int)).toNat=List.replicate 256 0:=by
 unfold EJ;rw[Iz (.inr (by rw[Md,DF];omega))];unfold Ic;rw[upf_other _ _ U];exact Nu n s l U
theorem Wt(n:Nat){s:Int}(l:Int)(cb:List UInt8)(hs:2<=s):EJ n s l cb s.toNat=sect (Bt 2 1 (Cj n cb (manyN n+1))):=M4 (j:=0) Z
theorem Wu(n:Nat){s:Int}(l:Int)(cb:List UInt8)(hs:2<=s){j:Nat}{m:Img}(h:(Cj n cb (manyN n+1))[j]?=some m):EJ n s l cb (s.toNat+(j+1))=sect (A6 2 1 m):=M4 (by
 show (sect _::_)[j+1]?=_;rw[Yq,Yb,h];rfl)
theorem W7{n:Nat}{s l:Int}{cb:List UInt8}(e:cb.length=240)(f:n<=1024)(hs:2<=s):∀(i:Nat) (r:Rc),(Ds n cb)[i]?=some r->r.seq=(Bf n s l).seq+(i:Int)/\(1<=r.ims.length/\r.ims.length<=40)/\(∀m∈r.ims,m.Ok)/\EJ n s l cb ((Bf n s l).start+(rOff (Ds n cb) i:Int)).toNat=sect (Bt (Bf n s l).epoch r.seq r.ims)/\∀(j:Nat) (m:Img),r.ims[j]?=some m->EJ n s l cb ((Bf n s l).start+(rOff (Ds n cb) i:Int)+1+(j:Int)).toNat=sect (A6 (Bf n s l).epoch r.seq m):=λi r h=>by
 have b:i=0:=by have:=(XV.1 h).1;simp[Ds] at this;exact this
 subst b;have d:(⟨1,Cj n cb (manyN n+1)⟩:Rc)=r:=by simpa [Ds] using h
 subst d;have g:=Eh f;refine ⟨Z,⟨by dsimp only;rw[DF];omega,by dsimp only;rw[DF];omega⟩,λm a=>?_,?_,λj m c=>?_⟩
 ·obtain ⟨i,b,rfl⟩:=Ev a;exact Hr e U
 ·show EJ n s l cb (s+((0:Nat):Int)).toNat=_
  rw[show s+((0:Nat):Int)=s by omega];exact Wt n l cb hs
 show EJ n s l cb (s+((0:Nat):Int)+1+(j:Int)).toNat=_;rw[show (s+((0:Nat):Int)+1+(j:Int)).toNat=s.toNat+(j+1) by omega];exact Wu n l cb hs c
theorem UW{n:Nat}{s l:Int}{cb:List UInt8}(a:n<=1024)(hs:2<=s)(c:64<=l):(rOff (Ds n cb) (Ds n cb).length:Int)<(Bf n s l).len/\EJ n s l cb ((Bf n s l).start+(rOff (Ds n cb) (Ds n cb).length:Int)).toNat=List.replicate 256 0:=by
 have b:=Eh a;have e:rOff (Ds n cb) (Ds n cb).length=1+(manyN n+1):=by simp[rOff,Ds,DF]
 rw[e];exact ⟨by show _<l;omega,UV n l cb hs⟩
theorem UX{n:Nat}{s l:Int}{cb:List UInt8}{a:List ImE}(h:a.map Prod.fst=Do [] ((Ds n cb).flatMap Rc.ims)){g:Nat}(c:g<=1)(x:List UInt8){i:Nat}(d:i<=manyN n):By (FJ (EJ n s l cb) a) g x (2+i)=DX (FK n cb i):=by
 have e:(Ds n cb).flatMap Rc.ims=Cj n cb (manyN n+1):=by simp[Ds]
 rw[e,Mc (by rw[Yo];exact IN _ _ _),Yo] at h;rw[upf_other _ _ U,Wp,h];have:=Nt (F:=EJ n s l cb) (m:=FK n cb i) (λx b=>by obtain ⟨j,_,rfl⟩:=Ev b;rw[Cu];omega) (Sv (IN n cb (manyN n+1))) (X6.2 ⟨i,Y1.2 U,Z⟩);rwa[Cu,show (2+(i:Int)).toNat=2+i by omega] at this

theorem Wv(n:Nat)(s l:Int):By (FJ (Jr n s l) []) ((BG (Bl (n:Int) s l 2)).gen%2).toNat (Br (BG (Bl (n:Int) s l 2)))=Ic n s l:=rfl
theorem W8{n:Nat}{cb:List UInt8}{own:List ImE}{k:Nat}(h:own.map Prod.fst=Cj n cb k):∀e∈own,e.1.num≠(FK n cb k).num:=λe b=>by
 have c:e.1∈Cj n cb k:=h▸YP b;obtain ⟨i,d,a⟩:=Ev c;rw[a,Cu,Cu];omega
theorem Qj{n:Nat}{cb:List UInt8}{own:List ImE}{k:Nat}(h:own.map Prod.fst=Cj n cb k)(b:Value):(BJ own (FK n cb k,b)).map Prod.fst=Cj n cb (k+1):=by
 rw[IK,h,IL,<-UU];intro y a;obtain ⟨i,c,rfl⟩:=Ev a;rw[Cu,Cu];omega
theorem KC{n:Nat}{cb:List UInt8}{own:List ImE}{k:Nat}(h:own.map Prod.fst=Cj n cb k):own.length=k:=by
 rw[<-X9 (f:=Prod.fst),h,DF]
theorem Ww{n:Nat}{s l:Int}{cb:List UInt8}{own:List ImE}(c:cb.length=240)(e:n<=1024)(h:own.map Prod.fst=Cj n cb (manyN n+1)):E7 (Ic n s l) ((Bf n s l).start+0).toNat (sect (Bt (Bf n s l).epoch 1 (own.map Prod.fst))++AE (Bf n s l).epoch 1 (own.map Prod.fst)) (1+own.length)=EJ n s l cb:=by
 have g:=Eh e;have d:=KC h;have a:own.length=(Cj n cb (manyN n+1)).length:=by rw[d,DF]
 rw[h,show (Bf n s l).start+0=s from AaX _,a];rw[Wq (by rw[DF];omega) (λm b=>by obtain ⟨i,f,rfl⟩:=Ev b;exact Hr c U)];rfl
theorem Sw{n:Nat}{s l:Int}(hs:2<=s)(a:64<=l):(rOff ([]:List Rc) ([]:List Rc).length:Int)<(Bl (n:Int) s l 2).len/\Jr n s l ((Bl (n:Int) s l 2).start+(rOff ([]:List Rc) ([]:List Rc).length:Int)).toNat=List.replicate 256 0:=by
 have e:rOff ([]:List Rc) ([]:List Rc).length=0:=rfl;rw[e];exact ⟨by show ((0:Nat):Int)<l;omega,Nu n s l (by show 2<=(s+((0:Nat):Int)).toNat;omega)⟩
theorem UY{n:Nat}{cb:List UInt8}(b:n<=1024){d:Int}(g:12<=d):∀r∈Ds n cb,∀m∈r.ims,m.num+2<d:=λr c m a=>by
 have f:=Eh b;rw[show r=⟨1,Cj n cb (manyN n+1)⟩ from YA.1 c] at a;obtain ⟨i,e,rfl⟩:=Ev a;rw[Cu];omega
theorem Sx(C:Nat->Nat)(n j:Nat):cnL (DE (LC C (j+1)) j (B9 C n j) 120) n=cnL (LC C (j+1+1)) n:=by
 rw[ZY j 1];exact Nl C n j
theorem Gt(n:Nat)(j:16<=n/\n<=1024):An 94 [Aa (n:Int)] [] (λv G=>v=Aa (manyN n:Int)/\G=[]):=by
 intro z R w H;have b:manyN n=(n+119)/120:=rfl;refine Af func94 Z ntmps94 Z (Z0 11 [0] Z (Am 6 Z (λe=>U) (λe=>?_)));refine Z0 5 [0] Z (Ag Z (λg=>U) (λg=>?_));refine Zc 9 Z ?_;refine Ap (σ:=Nat) (λi=>[(3,Aa (i:Int)),(0,Aa (n:Int)),(2,Aa 0)])
   (λi w=>Sep z (R) w/\(i<=manyN n)) (λi=>manyN n-i) 0
   fr_z ⟨H,Yi _⟩ ?_
 clear H;rintro i w ⟨c,a⟩;have H:=c.l0;have h:=a;clear a;refine Z1 9 [0] [(i:Int)*120] Z U (Ag Z (λf=>?_) (λf=>?_))
 ·refine Z1 9 [] [(i:Int)+1] Z U (gf ?_);intro _ d;refine ⟨(i+1),d.cz,⟨H,?_⟩,?_⟩
  ·omega
  omega
 obtain rfl:i=manyN n:=by omega
 refine Zc 2 Z (gx (Zc 9 Z (Zr Z ?_)));exact ⟨_,⟨Z,Z⟩,H⟩
theorem Nv(n:Nat)(p:16<=n/\n<=1024):An 93 [Aa (n:Int)] [] (λv G=>∃g f bw:Nat,v=V g/\G=[blk g [.slice (some ⟨f,0,none⟩) n n,.slice (some ⟨bw,0,none⟩) n n] 166,AY f (λ_=>0) n,AY bw (λ_=>0) n]):=by
 intro z R w H;refine Af func93 Z ntmps93 Z (Z0 11 [0] Z (Am 5 Z (λi=>U) (λi=>?_)));refine Z0 5 [0] Z (Ag Z (λj=>U) (λj=>?_));refine Zc 3 Z (A1 (Sep z (R)) 7 Z J (A9 H λw m=>?_));have H:=m.l0;refine BA [0,2] [] J (λ_ _=>AU) (by exact H) Z J Z Z (Ay [1,3] J O (Xw ?_ ?_))
 ·refine Ck Z Z Z Z (C8 (k:=n) H Z J BK Z Z Z U) ?_;rintro _ w ⟨b,rfl,H⟩;refine Ax (λ_=>(H.pick 1 [] Z)) (Ay [3] J O (Az (Ck Z Z Z Z (C8 (k:=n) H Z J BK Z Z Z U) ?_)));rintro _ w ⟨e,rfl,H⟩;refine Ax (λ_=>(H.pick 2 [] Z)) (Bg 4 J Z Z J J J Z Z Z (AQ Z Z (out:=[.slice (some ⟨b,0,none⟩) n n,.slice (some ⟨e,0,none⟩) n n]) J) (H.pick 2 [] Z) (Ay [5] J O (Az (Ck Z Z Z Z (Fh H Z Z (cs:=[.slice (some ⟨b,0,none⟩) n n,.slice (some ⟨e,0,none⟩) n n]) Z) ?_))));rintro _ w ⟨o,rfl,H⟩;refine Ax (λ_=>(H.pick 3 [] Z)) (Ay [6] J O (Az (Dr Z Z Z Z (Bq Z Z) (Ax (λh=>absurd Z h) (Bi J (gn (Zc 2 Z (Zr Z ?_))))))));have a:List.replicate n (Aa 0)=cnL (λ_=>0) n:=by
    unfold cnL;rw[Aa5,Aan];rfl
  rw[a] at H;exact ⟨_,⟨o,b,e,Z,Z⟩,H.pick 3 [0,2,1] Z⟩
 refine Ck Z Z Z Z (C8 (k:=n) H Z J BK Z Z Z U) ?_;rintro _ w ⟨c,rfl,H⟩;refine Ax (λ_=>(H.pick 1 [] Z)) (Ay [1] J O (Az (Ck Z Z Z Z (C8 (k:=n) H Z J BK Z Z Z U) ?_)));rintro _ w ⟨d,rfl,H⟩;refine Ax (λ_=>(H.pick 2 [] Z)) (Bg 4 J Z Z J J J Z Z Z (AQ Z Z (out:=[.slice (some ⟨d,0,none⟩) n n,.slice (some ⟨c,0,none⟩) n n]) J) (H.pick 2 [] Z) (Ay [5] J O (Az (Ck Z Z Z Z (Fh H Z Z (cs:=[.slice (some ⟨d,0,none⟩) n n,.slice (some ⟨c,0,none⟩) n n]) Z) ?_))));rintro _ w ⟨l,rfl,H⟩;refine Ax (λ_=>(H.pick 3 [] Z)) (Ay [6] J O (Az (Dr Z Z Z Z (Bq Z Z) (Ax (λh=>absurd Z h) (Bi J (gn (Zc 2 Z (Zr Z ?_))))))));have a:List.replicate n (Aa 0)=cnL (λ_=>0) n:=by
   unfold cnL;rw[Aa5,Aan];rfl
 rw[a] at H;exact ⟨_,⟨l,d,c,Z,Z⟩,H.pick 3 [0,1,2] Z⟩
theorem J5(b a bw n:Nat)(C:Nat->Nat)(p:Nat)(hp:p<n)(e:16<=n/\n<=1024):An 112 [V b,Aa (p:Int)] [blk b [.slice (some ⟨a,0,none⟩) n n,.slice (some ⟨bw,0,none⟩) n n] 166,AY a C n] (λv G=>v=Aa (C p:Int)/\G=[blk b [.slice (some ⟨a,0,none⟩) n n,.slice (some ⟨bw,0,none⟩) n n] 166,AY a C n]):=by
 intro z R w H;refine Af func112 Z ntmps112 Z (Z0 11 [0] Z (Am 7 Z (λc=>U) (λc=>?_)));refine Z2 10 [0,0,0,0] H Z (Ag Z (λd=>U) (λd=>?_));refine Z3 10 [0,0,0,1,p,p] [] H Z U (Ad Z (AZ Z Z J (AA (H.cel 1 Z p (cnL_at _ U)))) (Zc 4 Z (Zr Z ?_)));exact ⟨_,⟨Z,Z⟩,H⟩
theorem Sy(b a bw n:Nat)(C:Nat->Nat)(p:Int)(hp:p<0\/(n:Int)<=p)(e:16<=n/\n<=1024):An 112 [V b,Aa p] [blk b [.slice (some ⟨a,0,none⟩) n n,.slice (some ⟨bw,0,none⟩) n n] 166,AY a C n] (λv G=>v=Aa 0/\G=[blk b [.slice (some ⟨a,0,none⟩) n n,.slice (some ⟨bw,0,none⟩) n n] 166,AY a C n]):=by
 intro z R w H;refine Af func112 Z ntmps112 Z (Z0 11 [0] Z (Am 7 Z (λc=>?_) (λc=>?_)))
 ·refine Zc 17 Z (Zr Z ?_);exact ⟨_,⟨Z,Z⟩,H⟩
 refine Z2 10 [0,0,0,0] H Z (Ag Z (λd=>?_) (λd=>?_))
 ·refine Zc 6 Z (Zr Z ?_);exact ⟨_,⟨Z,Z⟩,H⟩
 (exfalso;omega)
theorem UZ(b a bw n:Nat)(C:Nat->Nat)(p x:Nat)(y:Int)(hp:p<n)(l:16<=n/\n<=1024)(d:(C p:Int)+y=x)(e:x<=1000)(m:C p<=1000):An 95 [V b,Aa (p:Int),Aa y] [blk b [.slice (some ⟨a,0,none⟩) n n,.slice (some ⟨bw,0,none⟩) n n] 166,AY a C n] (λv G=>v=Aa 0/\G=[blk b [.slice (some ⟨a,0,none⟩) n n,.slice (some ⟨bw,0,none⟩) n n] 166,AY a (updN C p x) n]):=by
 intro z R w H;refine Af func95 Z ntmps95 Z (Z0 11 [0] Z (Am 9 Z (λf=>U) (λf=>?_)));refine Z2 10 [0,0,0,0] H Z (Ag Z (λh=>U) (λh=>?_));refine Z0 8 [0] Z (Am 20 Z (λg=>U) (λg=>?_));refine Z0 4 [0] Z (Am 24 Z (λi=>U) (λi=>?_));refine Z3 6 [0,0,0,1,p,p] [] H Z U (Ad Z (AZ Z Z J (AA (H.cel 1 Z p (cnL_at _ U)))) (Z1 5 [0] [(C p:Int)+y] Z U (Am 36 Z (λk=>U) (λk=>?_))));refine Z3 6 [0,0,0,1,p,p] [] H Z U (Ad Z (AZ Z Z J (AA (H.cel 1 Z p (cnL_at _ U)))) (Z1 6 [0] [(C p:Int)+y] Z U (Ag Z (λc=>U) (λc=>?_))));refine Zc 3 Z (Bo 15 J J (A9 H λw j=>?_));have H:=j.l2;refine CD 11 [0,0,0,0,0,0,1,p,p] [] H Z J U (B5 Z Z Z (AZ Z Z J (AA (H.cel 1 Z p (cnL_at _ U)))) (CD 3 [1,p,p] [(C p:Int)+y] H Z J U (Cf (gw (AV Z Z (AD 1 H Z Z Z Z (vs:=[Aa ((C p:Int)+y)]) Z (Al Z AL) J (by simp only[Cd,XZ,X4];omega) (out:=cnL (updN C p x) n) (EW _ U d)) ?_)))));rintro w H;refine Zc 8 Z (Zr Z ?_);exact ⟨_,⟨Z,Z⟩,H⟩
theorem U0{C:Nat->Nat}{n i k:Nat}(h:k<120):(B9 C n i)[k]?=some (if 120*i+k<n then (C (120*i+k):Int) else 0):=by simp[B9,h]
theorem Sz(b a bw n:Nat)(C:Nat->Nat)(p:Nat)(c:16<=n/\n<=1024):An 112 [V b,Aa (p:Int)] [blk b [.slice (some ⟨a,0,none⟩) n n,.slice (some ⟨bw,0,none⟩) n n] 166,AY a C n] (λv G=>v=Aa (if p<n then (C p:Int) else 0)/\G=[blk b [.slice (some ⟨a,0,none⟩) n n,.slice (some ⟨bw,0,none⟩) n n] 166,AY a C n]):=by
 by_cases h:p<n
 ·rw[if_pos h];exact J5 b a bw n C p h c
 rw[if_neg h];exact Sy b a bw n C (p:Int) (.inr U) c
theorem HP(C:Nat->Nat){n i j:Nat}{ns:List Int}(h:j=120\/n<=120*i+j):cnL (DE C i ns j) n=cnL (DE C i ns 120) n:=by
 rcases h with rfl|h
 ·rfl
 unfold cnL;refine ZB λp hp=>?_;have hp:=Y1.1 hp;unfold DE;by_cases h1:p/120=i
 ·by_cases h2:p%120<j
  ·rw[if_pos ⟨h1,h2⟩,if_pos ⟨h1,by omega⟩]
  exfalso;omega
 rw[if_neg (λq=>h1 q.1),if_neg (λq=>h1 q.1)]
def Js(C W:Nat->Nat)(i:Nat):Nat->Nat:=λp=>if p<i then C p else W p
theorem W9(C W:Nat->Nat):Js C W 0=W:=by funext p;simp[Js]
theorem Xa(C W:Nat->Nat)(i:Nat):updN (Js C W i) i (C i)=Js C W (i+1):=by
 funext p;unfold updN Js;by_cases e:p=i
 ·subst e;simp
 rw[if_neg e];by_cases h:p<i
 ·rw[if_pos h,if_pos U]
 rw[if_neg h,if_neg U]
theorem Xb(C W:Nat->Nat)(n:Nat):cnL (Js C W n) n=cnL C n:=by
 unfold cnL;refine ZB λp hp=>?_;unfold Js;rw[if_pos (Y1.1 hp)]
theorem SA(c a bw n:Nat)(C:Nat->Nat)(i:Nat)(p:i<manyN n)(s:16<=n/\n<=1024):An 160 [V c,Aa (i:Int)] [blk c [.slice (some ⟨a,0,none⟩) n n,.slice (some ⟨bw,0,none⟩) n n] 166,AY a C n] (λv G=>∃e:Value,v=e/\G=[grow 3 1 e (B9 C n i).length ((B9 C n i).map Aa),blk c [.slice (some ⟨a,0,none⟩) n n,.slice (some ⟨bw,0,none⟩) n n] 166,AY a C n]):=by
 intro z R w H;have l:120*i<n:=by unfold manyN at p;omega
 refine Af func160 Z ntmps160 Z (Zc 12 Z ?_);replace H:=(H.nilg 3 1).l3;refine Z1 7 [] [((120*i:Nat):Int)] Z U ?_;refine Ap (σ:=Nat×Value) (λ⟨k,u⟩=>[(6,Aa ((120*i+k:Nat):Int)),(5,u),(0,V c),(1,Aa (i:Int)),(4,.slice none 0 0)])
   (λ⟨k,u⟩ w=>Sep z (grow 3 1 u k (((B9 C n i).take k).map Aa)::blk c [.slice (some ⟨a,0,none⟩) n n,.slice (some ⟨bw,0,none⟩) n n] 166::AY a C n::R) w/\(k<=120)) (λ⟨k,u⟩=>120-k) ⟨0,.slice none 0 0⟩
   (λ_ f=>(f.co Z (by go_num) f.cz)) ⟨(by simpa using H),Yi _⟩ ?_
 clear H;rintro ⟨k,u⟩ w ⟨b,h⟩;dsimp only at h b ⊢;have H:=b.l3;have r:=H.sy 0 (·.slc);have q:=h;clear h;refine Z1 10 [0] [(i:Int)+1,((i:Int)+1)*120] Z U (Ag Z (λm=>?_) (λm=>?_))
 ·refine Zc 8 Z (Ah Z (call112 _) (Sz _ _ _ _ _ (120*i+k) U) H.f2.f2 ?_);intro w H;refine AC Z (AI H Z J BK Z (by decide) (by decide) (out:=[Aa (if (120*i+k)<n then (C (120*i+k):Int) else 0)]) J) ?_;rintro _ w ⟨j,rfl,H⟩;refine AC Z (AJ 3 H Z Z J BK Z Z (H.rv 0 (·.rd U U O Z)) (by simp[Value.oneCell']) U) ?_;rintro e w b;have b:Sep z (blk j [Aa (if (120*i+k)<n then (C (120*i+k):Int) else 0)] 3::blk c [.slice (some ⟨a,0,none⟩) n n,.slice (some ⟨bw,0,none⟩) n n] 166::AY a C n::grow 3 1 e (k+1) (((B9 C n i).take k).map Aa++[Aa (if (120*i+k)<n then (C (120*i+k):Int) else 0)])::R) w:=b
  have g:(((B9 C n i).take k).map Aa++[Aa (if (120*i+k)<n then (C (120*i+k):Int) else 0)]:List Value)=((B9 C n i).take (k+1)).map Aa:=(by rw[Ye,U0 U];simp);rw[g] at b;have H:=b.l4;have o:=H.sy 3 (·.slc);refine Z1 9 [] [((120*i+(k+1):Nat):Int)] Z U ?_;replace H:=H.d.f1.f1.f2;refine gf ?_;intro _ f;refine ⟨⟨k+1,e⟩,(f.all Z),⟨H,?_⟩,?_⟩
  ·show k+1<=120;omega
  (dsimp only;omega)
 refine Zc 2 Z (gx (Zc 3 Z ?_));obtain rfl:k=120:=by omega
 rw[show (B9 C n i).take 120=B9 C n i from X0 (YY (Dh _ _ _)),show (120:Nat)=(B9 C n i).length from (Dh _ _ _).symm] at H;refine Zc 6 Z (Zr Z ?_);exact ⟨_,⟨_,Z,Z⟩,H.pick 3 [0,1,2] Z⟩
theorem SB(b a bw n:Nat)(C:Nat->Nat)(i:Nat)(j:i<manyN n)(p:16<=n/\n<=1024)(m:∀k,C k<=1000):An 96 [V b,Aa (i:Int)] [blk b [.slice (some ⟨a,0,none⟩) n n,.slice (some ⟨bw,0,none⟩) n n] 166,AY a C n] (λv G=>∃c:Value,v=c/\G=[grow 5 1 c (EI (B9 C n i)).length ((EI (B9 C n i)).map u8),blk b [.slice (some ⟨a,0,none⟩) n n,.slice (some ⟨bw,0,none⟩) n n] 166,AY a C n]):=by
 intro z R w H;have d:120*i<n:=by unfold manyN at j;omega
 refine Af func96 Z ntmps96 Z (Z0 11 [0] Z (Am 9 Z (λe=>U) (λe=>?_)));refine Z2 6 [0,0,0] H Z (Ah Z (call94 _) (Gt _ U) H ?_);intro w H;refine Z0 4 [0] Z (Ag Z (λf=>U) (λf=>?_));refine Zc 6 Z (AB Z (call160 _) (SA _ _ _ _ _ i U U) H ?_);rintro l w _ ⟨_,rfl,rfl⟩ H;refine AB Z (call159 _) (Ho (B9 C n i) _ _ (λh q=>q.rd) (Dh _ _ _) (Jn m _ _)) H ?_;rintro _ w _ ⟨o,rfl,rfl⟩ H;have g:=H.sy 0 (·.slc);refine Zc 14 Z (Zr Z ?_);exact ⟨_,⟨_,Z,Z⟩,H.pick 4 [0,2,3] Z⟩
set_option maxHeartbeats 1000000 in
theorem SC (l f bw n:Nat) (C:Nat->Nat) (W:Nat->Nat) (i:Nat) (hi:i<manyN n) (hn:16<=n/\n<=1024) (v:Value) (bs:List UInt8) (A:Ai) (hA:∀h,A h->rdH 1 v bs.length (bs.map u8) h) (ns:List Int) (a0:ns.length=120) (c:∀x∈ns,0<=x/\x<=1000) (y:bs=EI ns) (hz:∀(k:Nat) (x:Int),ns[k]?=some x->n<=120*i+k->x=0):An 163 [V l,Aa (i:Int),v] [blk l [.slice (some ⟨f,0,none⟩) n n,.slice (some ⟨bw,0,none⟩) n n] 166,AY f C n,AY bw W n,A] (λv G=>v=Aa 0/\G=[blk l [.slice (some ⟨f,0,none⟩) n n,.slice (some ⟨bw,0,none⟩) n n] 166,AY f (DE C i ns 120) n,AY bw (DE W i ns 120) n,A]):=by
 intro z R w H;have a2:120*i<n:=by unfold manyN at hi;omega
 obtain ⟨ao,oc,rfl⟩:=H.sy 3 (λq=>(hA _ q).slc);have t:=H.sy 3 (λq=>(hA _ q).small);refine Af func163 Z ntmps163 Z (Z0 11 [0] Z (Am 13 Z (λh1=>U) (λh1=>?_)));refine Z2 6 [0,0,0] H Z (Ah Z (call94 _) (Gt _ U) H ?_);intro w H;refine Z0 4 [0] Z (Ag Z (λh2=>U) (λh2=>?_));refine Zc 5 Z (AB Z (call195 _) (L6 _ bs A hA ns a0 c y) H.f3 ?_);rintro _ w _ ⟨v1,rfl,rfl⟩ H;have s:=H.sy 0 (·.slc);obtain ⟨e,d,rfl⟩:=s;refine Z0 19 [0] Z (Ag Z (λh3=>U) (λh3=>?_));refine Zc 9 Z ?_;refine Ap (σ:=Nat) (λj=>[(9,Aa (j:Int)),(0,V l),(1,Aa (i:Int)),(7,.slice e ns.length d)])
   (λj w=>Sep z (grow 3 1 (.slice e ns.length d) ns.length (ns.map Aa)::A::blk l [.slice (some ⟨f,0,none⟩) n n,.slice (some ⟨bw,0,none⟩) n n] 166::AY f C n::AY bw W n::R) w/\(j<=120)) (λj=>120-j) 0
   fr_z ⟨H,Yi _⟩ ?_
 clear H;rintro j w ⟨g,o⟩;have H:=g.l5;have hj:=o;clear o;refine Z0 7 [0] Z (Ag Z (λh4=>?_) (λh4=>?_))
 ·refine Zc 5 Z ?_;obtain ⟨x,b⟩:∃x,ns[j]?=some x:=⟨_,XW U⟩;have m:=c x (XX b)
  refine Zc 3 Z (Ad Z (Ar Z (z:=1) (j:=j) (r:=j) J Z Z Z U ((H.rv 0 (·.rd)).at (j:=j) (u:=Aa x) (by simp[b])) U) (Ad Z (AK Z Z J (AA ((H.rv 0 (·.rd)).at (j:=j) (u:=Aa x) (by simp[b])))) (Z0 2 [0] Z (Am 44 Z (λh5=>U) (λh5=>?_)))));refine Zc 2 Z (Ad Z (Ar Z (z:=1) (j:=j) (r:=j) J Z Z Z U ((H.rv 0 (·.rd)).at (j:=j) (u:=Aa x) (by simp[b])) U) (Ad Z (AK Z Z J (AA ((H.rv 0 (·.rd)).at (j:=j) (u:=Aa x) (by simp[b])))) (Z0 3 [0] Z (Am 51 Z (λh6=>U) (λh6=>?_)))));refine Zc 2 Z (Ad Z (Ar Z (z:=1) (j:=j) (r:=j) J Z Z Z U ((H.rv 0 (·.rd)).at (j:=j) (u:=Aa x) (by simp[b])) U) (Ad Z (AK Z Z J (AA ((H.rv 0 (·.rd)).at (j:=j) (u:=Aa x) (by simp[b])))) (Z0 2 [0] Z (Am 57 Z (λh7=>?_) (λh7=>?_)))))
  ·refine Z3 14 [0,2,0,0] [(i:Int)*120,((i:Int)*120)+(j:Int)] H Z U (Ag Z (λh8=>?_) (λh8=>?_))
   ·(exfalso;have:=hz j x b;omega)
   refine Z1 8 [] [(j:Int)+1] Z U (gf ?_);intro _ p;refine ⟨(j+1),p.cz,⟨H,?_⟩,?_⟩
   ·omega
   omega
  refine Z1 23 [] [(j:Int)+1] Z U (gf ?_);intro _ p;refine ⟨(j+1),p.cz,⟨H,?_⟩,?_⟩
  ·omega
  omega
 have a:j=120\/n<=120*i+j:=.inl U;refine Zc 2 Z (gx (Zc 9 Z ?_));refine Ap (σ:=Nat) (λj=>[(10,Aa (j:Int)),(0,V l),(1,Aa (i:Int)),(7,.slice e ns.length d)])
   (λj w=>Sep z (grow 3 1 (.slice e ns.length d) ns.length (ns.map Aa)::A::blk l [.slice (some ⟨f,0,none⟩) n n,.slice (some ⟨bw,0,none⟩) n n] 166::AY f (DE C i ns j) n::AY bw (DE W i ns j) n::R) w/\(j<=120)) (λj=>120-j) 0
   fr_z ⟨(by rw[IC,IC];exact H),Yi _⟩ ?_
 clear H;rintro j w ⟨g,o⟩;have H:=g.l5;have hj:=o;clear o;refine Z0 6 [0] Z (Am 72 Z (λh9=>?_) (λh9=>?_))
 ·refine Z3 13 [0,2,0,0] [(i:Int)*120,((i:Int)*120)+(j:Int)] H Z U (Ag Z (λa1=>?_) (λa1=>?_))
  ·refine Zc 5 Z ?_;obtain ⟨x,b⟩:∃x,ns[j]?=some x:=⟨_,XW U⟩;have m:=c x (XX b)
   refine Bo 13 J J (A9 H λw g=>?_);have H:=g.l5;refine CD 10 [0,2,0] [(i:Int)*120,((i:Int)*120)+(j:Int)] H Z J U (B5 Z Z Z (Ar Z (z:=1) (j:=j) (r:=j) J Z Z Z U ((H.rv 0 (·.rd)).at (j:=j) (u:=Aa x) (by simp[b])) U) (B5 Z Z Z (AK Z Z J (AA ((H.rv 0 (·.rd)).at (j:=j) (u:=Aa x) (by simp[b])))) (CD 1 [1,(120*i+j),120*i+j] [] H Z J U (Cf (gw (AV Z Z (AD 3 H Z Z Z Z (vs:=[Aa x]) Z (Al Z AL) J (by simp only[Cd,XZ,X4];omega) (out:=cnL (DE C i ns (j+1)) n) ((EW (x:=x.toNat) _ U U).trans (by rw[ID C U b m.1]))) ?_))))));rintro w H;refine Zc 2 Z (Bo 13 J J (A9 H λw g=>?_));have H:=g.l5;refine CD 10 [1,2,0] [(i:Int)*120,((i:Int)*120)+(j:Int)] H Z J U (B5 Z Z Z (Ar Z (z:=1) (j:=j) (r:=j) J Z Z Z U ((H.rv 0 (·.rd)).at (j:=j) (u:=Aa x) (by simp[b])) U) (B5 Z Z Z (AK Z Z J (AA ((H.rv 0 (·.rd)).at (j:=j) (u:=Aa x) (by simp[b])))) (CD 1 [1,(120*i+j),120*i+j] [] H Z J U (Cf (gw (AV Z Z (AD 4 H Z Z Z Z (vs:=[Aa x]) Z (Al Z AL) J (by simp only[Cd,XZ,X4];omega) (out:=cnL (DE W i ns (j+1)) n) ((EW (x:=x.toNat) _ U U).trans (by rw[ID W U b m.1]))) ?_))))));rintro w H;refine Z1 8 [] [(j:Int)+1] Z U (gf ?_);intro _ p;refine ⟨(j+1),p.cz,⟨H,?_⟩,?_⟩
   ·omega
   omega
  have a:j=120\/n<=120*i+j:=.inr U;refine Zc 2 Z (gx (Zc 8 Z (Zr Z ?_)));dsimp only[AY] at H;rw[HP C a,HP W a] at H;exact ⟨_,⟨Z,Z⟩,H.pick 5 [2,3,4,1] Z⟩
 have a:j=120\/n<=120*i+j:=.inl U;refine Zc 16 Z (gx (Zc 8 Z (Zr Z ?_)));dsimp only[AY] at H;rw[HP C a,HP W a] at H;exact ⟨_,⟨Z,Z⟩,H.pick 5 [2,3,4,1] Z⟩
theorem Oh(b a bw n:Nat)(C:Nat->Nat)(W:Nat->Nat)(h:16<=n/\n<=1024):An 123 [V b] [blk b [.slice (some ⟨a,0,none⟩) n n,.slice (some ⟨bw,0,none⟩) n n] 166,AY a C n,AY bw W n] (λv G=>v=.tuple #[]/\G=[blk b [.slice (some ⟨a,0,none⟩) n n,.slice (some ⟨bw,0,none⟩) n n] 166,AY a C n,AY bw C n]):=by
 intro z R w H;refine Af func123 Z ntmps123 Z (Zc 6 Z ?_);refine Ap (σ:=Nat) (λi=>[(2,Aa (i:Int)),(0,V b)])
   (λi w=>Sep z (blk b [.slice (some ⟨a,0,none⟩) n n,.slice (some ⟨bw,0,none⟩) n n] 166::AY a C n::AY bw (Js C W i) n::R) w/\(i<=n)) (λi=>n-i) 0
   fr_z ⟨(by rw[W9];exact H),Yi _⟩ ?_
 clear H;rintro i w ⟨c,d⟩;have H:=c.l3;have g:=d;clear d;refine Z2 12 [0,0,0,0] H Z (Ag Z (λe=>?_) (λe=>?_))
 ·refine Zc 4 Z (Bo 13 J J (A9 H λw c=>?_))
  have H:=c.l3;refine CD 11 [1,0,0,0,0,0,1,i,i] [] H Z J U (B5 Z Z Z (AZ Z Z J (AA (H.cel 1 Z i (cnL_at _ U)))) (CD 1 [1,i,i] [] H Z J U (Cf (gw (AV Z Z (AD 2 H Z Z Z Z (vs:=[Aa (C i:Int)]) Z (Al Z AL) J (by simp only[Cd,XZ,X4];omega) (out:=cnL (Js C W (i+1)) n) ((EW (x:=C i) _ U Z).trans (by rw[Xa]))) ?_)))));rintro w H;refine Z1 8 [] [(i:Int)+1] Z U (gf ?_);intro _ f;refine ⟨(i+1),f.cz,⟨H,?_⟩,?_⟩
  ·omega
  omega
 obtain rfl:n=i:=by omega
 refine Zc 2 Z (gx (Zc 1 Z (Zf Z ?_)));dsimp only[AY] at H;rw[Xb] at H;exact ⟨_,⟨Z,Z⟩,H.pick 3 [0,1,2] Z⟩
set_option maxHeartbeats 1000000 in
theorem SD (ps c:Nat) (x:Sup) (r f ov:Value) (s:Bool) (own a:List ImE) (hq:Hp) (k:imP ov own hq) (g:imP f a hq) (n p:Nat) (F:Nat->List UInt8) (m:Img) (j:m.Ok) (a1:m.num<x.pages) (a4:x.pages+2<=n) (l:∀e∈own,e.1.num≠m.num) (o:∀e∈a,e.1.num≠m.num) (y:F (2+m.num).toNat=DX m):An 32 [V ps,Aa m.num] [blk ps [V c,Aa x.gen,Aa x.epoch,Aa x.pages,Aa x.start,Aa x.len,Aa x.head,Aa x.seq,r,f,.bool s,ov] 128,rdkA c n F p,poolA hq] (λv G=>∃t:Value,v=.tuple #[.agg #[Aa m.kind,t],Aa 0]/\G=[grow 5 1 t 240 (m.body.map u8),blk ps [V c,Aa x.gen,Aa x.epoch,Aa x.pages,Aa x.start,Aa x.len,Aa x.head,Aa x.seq,r,f,.bool s,ov] 128,rdkA c n F p,poolA hq]):=by
 intro z R w H;replace H:=H.l3;obtain ⟨oo,a0,rfl⟩:=k.slc;obtain ⟨po,a2,rfl⟩:=g.slc;have a3:=j.1;refine Af func32 Z ntmps32 Z (Za 2 [] H Z ?_);intro b1 w H;refine Z0 9 [0] Z (Am 13 Z (λh1=>?_) (λh1=>?_))
 ·(exfalso;omega)
 refine Z2 10 [1,3,1,0,0] H Z (Ag Z (λu=>?_) (λu=>?_))
 ·(exfalso;omega)
 refine Z2 9 [11,1,0] H Z (Ah Z (call83 _) (IJ _ own (poolA hq) (λh q=>k.rdA q) (λe i=>(k.2 e i).1) m.num l) H.f3 ?_);intro w H;refine Za 3 [] H Z ?_;intro b2 w H;refine Z4 20 [0,9,3,0] H Z ?_;intro w H;refine Ah Z (call83 _) (IJ _ a (poolA hq) (λh q=>g.rdA q) (λe i=>(g.2 e i).1) m.num o) H.f1 ?_;intro w H;refine Z5 24 [1,0,3,0] [2+m.num] H Z U ?_;intro w H;refine k_updA 51 (v:=Aa (((2+m.num).toNat:Nat):Int)) Z (congrArg Aa U) (AB Z (call84 _) (HO _ _ _ _ ((2+m.num).toNat) U) H.f4 ?_);rintro _ w _ ⟨u9,rfl,rfl⟩ H;replace H:=H.l6;rw[y] at H;refine Z0 21 [4] Z (AB Z (call85 _) (Oe _ (DX m) _ (λh q=>by rw[J3 j];exact q.rd) m j Z) H ?_);rintro _ w _ ⟨d,rfl,rfl⟩ H;replace H:=H.l7;have b:=H.says 0 Z (λh q=>q.slc);refine Zc 3 Z (AV Z Z (AD 4 H Z Z Z Z (vs:=[Aa m.kind,d]) Z (Al Z (Al b.one AL)) J O (out:=[Aa m.kind,d]) Z) ?_);rintro w H;replace H:=H.l7;refine Z2 16 [4,2] H Z (AV Z Z (AD 5 H Z Z Z Z (vs:=[Aa m.kind,d]) Z (Al Z (Al b.one AL)) J O (out:=[Aa m.kind,d]) Z) ?_);rintro w H;replace H:=H.l7;refine Zc 4 Z (Zl [5,2] H Z ?_);exact ⟨_,⟨_,Z,Z⟩,H.pick 7 [0,6,2,3] Z⟩
def Id(C:Nat->Nat)(n:Nat):List Value:=(List.range n).map λp=>.bool (decide (0<(C p:Int)))
theorem Xc(C:Nat->Nat)(i:Nat):Id C (i+1)=Id C i++[.bool (decide (0<(C i:Int)))]:=by simp[Id,ZT]
theorem Oi(e ps j b c bw n:Nat)(x:Sup)(l k ov:Value)(m:Bool)(C W:Nat->Nat)(s:Value)(hn:16<=n/\n<=1024)(q:x.pages=n):An 69 [V e] [blk e [V ps,V b,s] 76,blk b [.slice (some ⟨c,0,none⟩) n n,.slice (some ⟨bw,0,none⟩) n n] 166,AY c C n,AY bw W n,blk ps [V j,Aa x.gen,Aa x.epoch,Aa x.pages,Aa x.start,Aa x.len,Aa x.head,Aa x.seq,l,k,.bool m,ov] 128] (λv G=>∃g:Value,v=.tuple #[]/\G=[blk e [V ps,V b,g] 76,grow 4 1 g n (Id C n),blk b [.slice (some ⟨c,0,none⟩) n n,.slice (some ⟨bw,0,none⟩) n n] 166,AY c C n,AY bw C n,blk ps [V j,Aa x.gen,Aa x.epoch,Aa x.pages,Aa x.start,Aa x.len,Aa x.head,Aa x.seq,l,k,.bool m,ov] 128]):=by
 intro z R w H;refine Af func69 Z ntmps69 Z (Z2 6 [1,0,0] H Z (Ah Z (call123 _) (Oh _ _ _ _ _ _ U) H.f3.f3.f3 ?_));intro w H;refine Z4 11 [2,3] H Z ?_;intro w H;replace H:=(H.nilg 4 1).l6;refine Zc 5 Z ?_;refine Ap (σ:=Nat×Value) (λ⟨i,u⟩=>[(2,Aa (i:Int)),(0,V e)])
   (λ⟨i,u⟩ w=>Sep z (grow 4 1 u i (Id C i)::blk b [.slice (some ⟨c,0,none⟩) n n,.slice (some ⟨bw,0,none⟩) n n] 166::AY c C n::AY bw C n::blk e [V ps,V b,u] 76::blk ps [V j,Aa x.gen,Aa x.epoch,Aa x.pages,Aa x.start,Aa x.len,Aa x.head,Aa x.seq,l,k,.bool m,ov] 128::R) w/\(i<=n)) (λ⟨i,u⟩=>n-i) ⟨0,.slice none 0 0⟩
   fr_z ⟨(by simpa [Id] using H),Yi _⟩ ?_
 clear H;rintro ⟨i,u⟩ w ⟨a,p⟩;dsimp only at p a ⊢;have H:=a.l6;have su:=H.sy 0 (·.slc);have hi:=p;clear p;refine Z2 12 [0,4,0,1,3,5,0] H Z (k_updA 19 (v:=Aa (n:Int)) Z (congrArg Aa q) (Z0 3 [0] Z (Ag Z (λh1=>?_) (λh1=>?_))))
 ·refine Zc 4 Z ?_;replace H:=H.f4;refine A1 (Sep z (blk e [V ps,V b,u] 76::R)) 17 Z J (A9 H λw a=>?_)
  have H:=a.l6;refine BA [0,1,2,3,4,5,6,7,8,9] [2,0,1,0] J (λ_ y=>(A3 (y.blk 0 Z) AU)) (by exact H.pick 6 [0] Z) Z J Z Z (Ay [10] J O (Az (BF Z Z Z Z Z Z (λw=>call112 _ w) (J5 _ _ _ _ _ i U U) H.f3.f3 Z ?_)));rintro _ w _ ⟨rfl,rfl⟩ H;refine Ax (λ_=>(H.pick 6 [2] Z)) (BA [11] [] J (λ_ _=>AU) (by exact H.pick 6 [2] Z) Z J Z Z (Ay [12] J O (Az (Ck Z Z Z Z (AI H Z J MP Z (by decide) (by decide) (out:=[.bool (decide ((0:Int)<(C i:Int)))]) J) ?_))));rintro _ w ⟨r,rfl,H⟩;refine Ax (λ_=>(H.pick 7 [3] Z)) (Ay [13] J O (Az (Ck Z Z Z Z (AJ 4 H Z Z J MP Z Z (H.rv 0 (·.rd U U O Z)) (by simp[Value.oneCell']) U) ?_)));rintro g w a;have a:Sep z (blk r [.bool (decide ((0:Int)<(C i:Int)))] 4::blk b [.slice (some ⟨c,0,none⟩) n n,.slice (some ⟨bw,0,none⟩) n n] 166::AY c C n::blk e [V ps,V b,u] 76::grow 4 1 g (i+1) (Id C i++[.bool (decide ((0:Int)<(C i:Int)))])::AY bw C n::blk ps [V j,Aa x.gen,Aa x.epoch,Aa x.pages,Aa x.start,Aa x.len,Aa x.head,Aa x.seq,l,k,.bool m,ov] 128::R) w:=a;have o:(Id C i++[.bool (decide ((0:Int)<(C i:Int)))]:List Value)=Id C (i+1):=(Xc C i).symm;rw[o] at a;have H:=a.l7;have f:=H.sy 4 (·.slc);refine Ax (λ_=>(H.pick 7 [3] Z)) (BA [14,15] [2] J (λ_ _=>AU) (by exact H.pick 7 [3] Z) Z J Z Z (Ay [16] J O (Az (CA Z Z Z (Jy 3 H Z Z Z Z f.cells f.one J) ?_))));rintro w H;refine Ax (λh=>absurd Z h) (Bi J (gn (Z1 7 [] [(i:Int)+1] Z U ?_)));replace H:=H.d.f5.f3.f5.f4.f4.f5;refine gf ?_;intro _ t;refine ⟨⟨i+1,g⟩,t.cz,⟨H,?_⟩,?_⟩
  ·show i+1<=n;omega
  (dsimp only;omega)
 obtain rfl:n=i:=by omega
 refine Zc 2 Z (gx (Zc 1 Z (Zf Z ?_)));exact ⟨_,⟨_,Z,Z⟩,H.pick 6 [4,0,1,2,3,5] Z⟩
theorem Qk(ps b:Nat)(x:Sup)(i c ov:Value)(d:Bool)(own a:List ImE)(hq:Hp)(o:imP ov own hq)(q:imP c a hq)(n f:Nat)(F:Nat->List UInt8)(m:Img)(s:m.Ok)(h:m.num<x.pages)(k:x.pages+2<=n)(g:∀e∈own,e.1.num≠m.num)(j:∀e∈a,e.1.num≠m.num)(r:F (2+m.num).toNat=DX m)(p:Int)(hp:m.num=p):An 32 [V ps,Aa p] [blk ps [V b,Aa x.gen,Aa x.epoch,Aa x.pages,Aa x.start,Aa x.len,Aa x.head,Aa x.seq,i,c,.bool d,ov] 128,rdkA b n F f,poolA hq] (λv G=>∃l:Value,v=.tuple #[.agg #[Aa m.kind,l],Aa 0]/\G=[grow 5 1 l 240 (m.body.map u8),blk ps [V b,Aa x.gen,Aa x.epoch,Aa x.pages,Aa x.start,Aa x.len,Aa x.head,Aa x.seq,i,c,.bool d,ov] 128,rdkA b n F f,poolA hq]):=by
 subst hp;exact SD ps b x i c ov d own a hq o q n f F m s h k g j r
set_option maxHeartbeats 2000000 in
theorem SE (ps a r u n:Nat) (x:Sup) (y:Value) (F:Nat->List UInt8) (C:Nat->Nat) (hn:16<=n/\n<=1024) (g:x.pages=n) (a3:n+2<=r) (cb:List UInt8) (a1:cb.length=240) (f:∀i,i<=manyN n->F (2+i)=DX (Qi C n cb i)) (hC:∀k,C k<=1000) (s:∀p,p<=manyN n->C p=1):An 98 [V ps] [blk ps [V a,Aa x.gen,Aa x.epoch,Aa x.pages,Aa x.start,Aa x.len,Aa x.head,Aa x.seq,y,.slice none 0 0,.bool false,.slice none 0 0] 128,rdkA a r F u] (λv G=>∃(pq b c bw:Nat) (tv:Value),v=.tuple #[V pq,Aa 0]/\G=[blk pq [V ps,V b,tv] 76,grow 4 1 tv n (Id C n),blk b [.slice (some ⟨c,0,none⟩) n n,.slice (some ⟨bw,0,none⟩) n n] 166,AY c C n,AY bw C n,blk ps [V a,Aa x.gen,Aa x.epoch,Aa x.pages,Aa x.start,Aa x.len,Aa x.head,Aa x.seq,y,.slice none 0 0,.bool false,.slice none 0 0] 128,rdkA a r F u]):=by
 intro z R w H;have a5:=GS hn.1;have a4:=Eh hn.2;replace H:=(FS H).l3;have t:=imP.nil (λ_=>none);refine Af func98 Z ntmps98 Z (Z2 14 [1,3,1,0] H Z (k_updA 16 (v:=Aa (n:Int)) Z (congrArg Aa g) (AB Z (call93 _) (Nv n U) H ?_)));rintro _ w _ ⟨b,c,bw,rfl,rfl⟩ H;refine Za 1 [] H Z ?_;intro l w H;refine Z2 10 [1,3,5,0] H Z (k_updA 24 (v:=Aa (n:Int)) Z (congrArg Aa g) (Ah Z (call94 _) (Gt _ U) H ?_));intro w H;refine Zc 15 Z ?_;refine Ap (σ:=Nat) (λi=>[(7,Aa (i:Int)),(6,.bool false),(0,V ps),(4,V l),(5,Aa (manyN n:Int))])
   (λi w=>Sep z (blk l [V ps,V b,.slice none 0 0] 76::blk b [.slice (some ⟨c,0,none⟩) n n,.slice (some ⟨bw,0,none⟩) n n] 166::AY c (LC C i) n::AY bw (LC C i) n::poolA (λ_=>none)::blk ps [V a,Aa x.gen,Aa x.epoch,Aa x.pages,Aa x.start,Aa x.len,Aa x.head,Aa x.seq,y,.slice none 0 0,.bool false,.slice none 0 0] 128::rdkA a r F u::R) w/\(i<=manyN n+1)) (λi=>manyN n+1-i) 0
   fr_z ⟨(by rw[Nk];exact H),Yi _⟩ ?_
 clear H;rintro i w ⟨o,m⟩;have H:=o.l7;have a2:=m;clear m;refine Z0 8 [0] Z (Ag Z (λh1=>?_) (λh1=>?_))
 ·refine Zc 8 Z (AB Z (call32 _) (Qk _ _ _ _ _ _ _ [] [] _ t t _ _ F (Qi C n cb i) (Hr a1 U) (by rw[Cu];omega) U (λe he=>nomatch he) (λe he=>nomatch he) (by rw[Cu,show (2+((i:Nat):Int)).toNat=2+i by omega];exact f _ U) _ (Cu _ _ _ _)) H.f4.f6.f6 ?_);rintro _ w _ ⟨bv,rfl,rfl⟩ H;have a0:=H.sy 0 (·.slc)
  obtain ⟨bo,bc,rfl⟩:=a0;refine Za 3 [] H Z ?_;intro b2 w H;refine Z4 21 [0,4,0] H Z ?_;intro w H;refine Ag Z (λh2=>?_) (λh2=>?_)
  ·obtain rfl:i=0:=by omega
   refine Z2 6 [0,0,0] H Z (k_updA 45 (v:=Aa 1) Z Z (Z1 14 [4] [(0:Int)+1] Z U ?_));replace H:=H.f1.d.d.f1.f1.f2.f6.f6.f6.f6;refine gf ?_;intro _ f;refine ⟨(0+1),f.cz,⟨(by rw[PW];exact H),?_⟩,?_⟩
   ·omega
   omega
  obtain ⟨j,rfl⟩:∃j,i=j+1:=⟨i-1,by omega⟩;refine Z2 7 [0,0,0] H Z (k_updA 49 (v:=Aa 2) Z Z (Z0 7 [4] Z (Bo 8 J J (A9 H λw o=>?_))));have H:=o.l9;refine CD 8 [1,5,0,1,0,0] [(j:Int)] H Z J U (Cf (gw (Ah Z (call163 _) (SC _ _ _ _ _ _ j U U _ (EI (B9 C n j)) _ (λh q=>by rw[Gn (Dh C n j)];exact q.rd) (B9 C n j) (Dh _ _ _) (Jn hC _ _) Z PZ) H.f1.f8.f8.f8 ?_)));intro w H;dsimp only[AY] at H;rw[Sx] at H;refine Z1 18 [4] [((j+1):Int)+1] Z U ?_;replace H:=H.f4.d.f3.d.f4.f4.f5.f5.f5.f5.f6;refine gf ?_;intro _ f;refine ⟨(j+1+1),f.cz,⟨H,?_⟩,?_⟩
  ·omega
  omega
 obtain rfl:i=manyN n+1:=by omega
 refine Zc 2 Z (gx (Zc 4 Z ?_));dsimp only[AY] at H;rw[PY] at H;refine Zc 5 Z ?_;refine Ap (σ:=Nat) (λi=>[(10,Aa (i:Int)),(6,.bool false),(4,V l),(5,Aa (manyN n:Int))])
   (λi w=>Sep z (blk l [V ps,V b,.slice none 0 0] 76::blk b [.slice (some ⟨c,0,none⟩) n n,.slice (some ⟨bw,0,none⟩) n n] 166::AY c C n::AY bw C n::poolA (λ_=>none)::blk ps [V a,Aa x.gen,Aa x.epoch,Aa x.pages,Aa x.start,Aa x.len,Aa x.head,Aa x.seq,y,.slice none 0 0,.bool false,.slice none 0 0] 128::rdkA a r F u::R) w/\(i<=manyN n+1)) (λi=>manyN n+1-i) 0
   fr_z ⟨H,Yi _⟩ ?_
 clear H;rintro i w ⟨o,m⟩;have H:=o.l7;have a2:=m;clear m;refine Z0 8 [0] Z (Ag Z (λh3=>?_) (λh3=>?_))
 ·refine Z2 12 [1,0,0] H Z (Ah Z (call112 _) (J5 _ _ _ _ _ i U U) H.f2.f2 ?_);intro w H;refine k_updA 77 (v:=Aa 1) Z (congrArg Aa (by rw[s i U];rfl)) (Z1 11 [4] [(i:Int)+1] Z U ?_);replace H:=H.f6.f6.f6.f6.f5.f5.f6;refine gf ?_;intro _ f;refine ⟨(i+1),f.cz,⟨H,?_⟩,?_⟩
  ·omega
  omega
 obtain rfl:i=manyN n+1:=by omega
 refine Zc 2 Z (gx (Zc 14 Z (AB Z (call69 _) (Oi _ _ _ _ _ _ n _ _ _ _ _ _ _ _ U g) H.f5.f4.f4.f4.f4 ?_)));rintro _ w _ ⟨tv,rfl,rfl⟩ H;refine Zc 10 Z (Zr Z ?_);exact ⟨_,⟨l,b,c,bw,_,Z,Z⟩,H.pick 8 [0,1,2,3,4,5,7] Z⟩
set_option maxHeartbeats 4000000 in
theorem Oj (b a p n:Nat) (c0:p<=800000000) (j:a<=4096) (s l:Int) (hn:16<=n/\n<=1024) (c:(Bl (n:Int) s l 2).Ok (a:Int)):An 36 [V b,Aa (n:Int),Aa s,Aa l] [rdkA b a (λ_=>(List.replicate 256 (0:UInt8))) p] (λv G=>∃(cb:List UInt8) (m2:Nat),cb.length=240/\m2<=p+2000/\v=Aa 0/\G=[rdkA b a (EJ n s l cb) m2]):=by
 intro z R w H;have c9:=RO c;have b8:64<=l:=c.2.2.2.2.1;have d3:=GS hn.1;have c5:=Eh hn.2;have a8:(0<=(Bf n s l).start/\(Bf n s l).start<=1099511627776)/\0<(Bf n s l).len/\(Bf n s l).len<=1099511627776:=by show (0<=s/\s<=1099511627776)/\0<l/\l<=1099511627776;omega
 have a7:0<=(Bf n s l).epoch/\(Bf n s l).epoch<4294967296:=by show (0:Int)<=1+1/\(1:Int)+1<4294967296;omega
 refine Af func36 Z ntmps36 Z (Zc 11 Z (Ah Z (call88 _) (Qg _ a _ n U j _ _ c) H ?_));intro w H;refine Z0 16 [4] Z (AB Z (call89 _) (Mb _ a _ U j (Jr n s l) (Bl (n:Int) s l 2) (Bl (n:Int) s l 1) (Bl (n:Int) s l 2) (Tk n s l) (W4 n s l) c (LG c) Z Z (.inr ⟨by show (1:Int)<=2;omega,Z⟩) U Z (by show (2:Int)<1099511627776;omega) (by show (1:Int)<4294967296;omega) [] O (λr h=>nomatch h) (by show (1:Int)+((0:Nat):Int)<1099511627776;omega) (λi r h=>by simp at h) (Sw U U)) H ?_);rintro _ w _ ⟨ps,m,b6,a3,b9,rfl,rfl⟩ H;obtain rfl:b6=[]:=List.map_eq_nil_iff.1 a3;rw[Wv] at H;have o:Sep z (blk ps [V b,Aa ((Bf n s l).gen),Aa ((Bf n s l).epoch),Aa ((Bf n s l).pages),Aa ((Bf n s l).start),Aa ((Bf n s l).len),Aa ((Bf n s l).head),Aa ((Bf n s l).seq),V m,.slice none 0 0,.bool false,.slice none 0 0] 128::blk m [V b,Aa ((Bf n s l).gen),Aa ((Bf n s l).epoch),Aa ((Bf n s l).pages),Aa ((Bf n s l).start),Aa ((Bf n s l).len),Aa ((Bf n s l).head),Aa ((Bf n s l).seq),Aa 0,Aa 1,Aa 0,.bool false] 249::rdkA b a (Ic n s l) (p+n+2+([]:List ImE).length+1)::R) w:=H;clear H;have H:=o.l3;replace H:=(FS H).l4;have b3:=imP.nil (λ_=>none);refine Z0 20 [4] Z (Ah Z (call90 _) (Qc _ _ (Bf n s l) _ _ _) H.f1 ?_);intro w H;refine Zc 4 Z (AC Z (Nj (k:=8) (out:=FU) H Z J EE Z Z U J) ?_);rintro _ w ⟨b1,rfl,H⟩;refine Zc 1 Z (AB Z (call91 _) (P2 _ _ (λh q=>q.rd U U (by simp[FU]) (by simp[FU]))) H ?_);rintro _ w _ ⟨u1,cb,f,rfl,rfl⟩ H;rw[f] at H;have a9:=H.sy 0 (·.slc);obtain ⟨d1,c6,rfl⟩:=a9;refine Zc 12 Z (AB Z (call92 _) (KA _ _ (Bf n s l) _ _ _ [] _ b3 O (FK n cb 0) (Hr f U) (by rw[Cu];show ((0:Nat):Int)<(n:Int);omega) (λe he=>nomatch he) _ _ (λh q=>q.rd)) H.f3.f3 ?_);rintro _ w _ ⟨a1,t,x,c1,a2,rfl,rfl⟩ H;refine Zc 5 Z ?_;have a5:=Qj (n:=n) (cb:=cb) (k:=0) (own:=[]) Z t;generalize BJ [] (FK n cb 0,t)=own0 at a2 a5;refine Z0 9 [4] Z ?_;replace H:=(H.pick 6 [0,1,3,4,5] Z).l5;refine Zc 2 Z (AB Z (call93 _) (Nv n U) H ?_);rintro _ w _ ⟨pc,bn,bw,rfl,rfl⟩ H;refine Zc 10 Z ?_;refine Ap (σ:=Nat) (λi=>[(14,Aa (i:Int)),(1,Aa (n:Int)),(8,Aa 0),(9,Aa 0),(10,V ps),(13,V pc)])
   (λi w=>Sep z (blk pc [.slice (some ⟨bn,0,none⟩) n n,.slice (some ⟨bw,0,none⟩) n n] 166::AY bn (C1 i) n::AY bw (λ_=>0) n::blk ps [V b,Aa ((Bf n s l).gen),Aa ((Bf n s l).epoch),Aa ((Bf n s l).pages),Aa ((Bf n s l).start),Aa ((Bf n s l).len),Aa ((Bf n s l).head),Aa ((Bf n s l).seq),V m,.slice none 0 0,.bool true,a1] 128::poolA x::blk b1 FU 207::blk m [V b,Aa ((Bf n s l).gen),Aa ((Bf n s l).epoch),Aa ((Bf n s l).pages),Aa ((Bf n s l).start),Aa ((Bf n s l).len),Aa ((Bf n s l).head),Aa ((Bf n s l).seq),Aa 0,Aa 1,Aa 0,.bool false] 249::rdkA b a (Ic n s l) (p+n+2+([]:List ImE).length+1)::R) w/\(i<=manyN n+1)) (λi=>manyN n+1-i) 0
   fr_z ⟨(by rw[JY];exact H),Yi _⟩ ?_
 clear H;rintro i w ⟨o,u⟩;have H:=o.l8;have b5:=u;clear u;have a0:C1 i i=0:=by simp[C1]
 refine Zc 5 Z (Ah Z (call94 _) (Gt _ U) H ?_);intro w H;refine Z0 3 [0] Z (Ag Z (λh1=>?_) (λh1=>?_))
 ·refine Zc 7 Z (Ah Z (call95 _) (UZ _ _ _ _ (C1 i) i 1 1 U U (by rw[a0];rfl) U (by rw[a0];omega)) H ?_);intro w H;refine Z1 8 [] [(i:Int)+1] Z U (gf ?_);intro _ hF;refine ⟨(i+1),hF.cz,⟨(by rw[<-JX];exact H),?_⟩,?_⟩
  ·omega
  omega
 obtain rfl:i=manyN n+1:=by omega
 refine Zc 2 Z (gx (Zc 9 Z ?_));refine Ap (σ:=Nat×Value×List ImE×Hp) (λ⟨i,ov,own,hq⟩=>[(15,Aa (i:Int)),(1,Aa (n:Int)),(9,Aa 0),(10,V ps),(13,V pc)])
   (λ⟨i,ov,own,hq⟩ w=>Sep z (blk pc [.slice (some ⟨bn,0,none⟩) n n,.slice (some ⟨bw,0,none⟩) n n] 166::AY bn (C1 (manyN n+1)) n::AY bw (λ_=>0) n::blk ps [V b,Aa ((Bf n s l).gen),Aa ((Bf n s l).epoch),Aa ((Bf n s l).pages),Aa ((Bf n s l).start),Aa ((Bf n s l).len),Aa ((Bf n s l).head),Aa ((Bf n s l).seq),V m,.slice none 0 0,.bool true,ov] 128::poolA hq::blk b1 FU 207::blk m [V b,Aa ((Bf n s l).gen),Aa ((Bf n s l).epoch),Aa ((Bf n s l).pages),Aa ((Bf n s l).start),Aa ((Bf n s l).len),Aa ((Bf n s l).head),Aa ((Bf n s l).seq),Aa 0,Aa 1,Aa 0,.bool false] 249::rdkA b a (Ic n s l) (p+n+2+([]:List ImE).length+1)::R) w/\(i<=manyN n/\imP ov own hq/\own.map Prod.fst=Cj n cb (i+1))) (λ⟨i,ov,own,hq⟩=>manyN n-i) ⟨0,a1,own0,x⟩
   fr_z ⟨H,⟨Yi _,a2,a5⟩⟩ ?_
 clear H;rintro ⟨i,ov,own,hq⟩ w ⟨o,u⟩;dsimp only at u o ⊢;have H:=o.l8;obtain ⟨b5,y,g⟩:=u;have c4:=KC g;refine Zc 5 Z (Ah Z (call94 _) (Gt _ U) H ?_);intro w H;refine Z0 3 [0] Z (Ag Z (λh2=>?_) (λh2=>?_))
 ·refine Z1 11 [] [((i+1:Nat):Int)] Z U (AB Z (call96 _) (SB _ _ _ _ _ i U U (Jp _)) H ?_);rintro u2 w _ ⟨_,rfl,rfl⟩ H;rw[show (EI (B9 (C1 (manyN n+1)) n i)).length=240 from Gn (Dh _ _ _)] at H;have b2:=H.sy 0 (·.slc)
  obtain ⟨d4,d2,rfl⟩:=b2;refine Zc 1 Z (AB Z (call92 _) (KA _ _ (Bf n s l) _ _ _ own _ y U (FK n cb (i+1)) (Hr f U) (by rw[Cu];show ((i+1:Nat):Int)<(n:Int);omega) (W8 g) _ _ (λh q=>q.rd)) H.f5.f5 ?_);rintro _ w _ ⟨b7,a4,a6,c2,b4,rfl,rfl⟩ H;refine Zc 4 Z ?_;have b0:=Qj g a4;refine Z1 14 [4] [(i:Int)+1] Z U ?_;replace H:=H.f2.d.f7.f7.f7.f4.f4.f7.f7.f7;refine gf ?_;intro _ hF;refine ⟨⟨i+1,b7,BJ own (FK n cb (i+1),a4),a6⟩,hF.cz,⟨H,?_⟩,?_⟩
  ·exact ⟨by show i+1<=manyN n;omega,b4,b0⟩
  (dsimp only;omega)
 obtain rfl:i=manyN n:=by omega
 refine Zc 2 Z (gx (Zc 5 Z (AB Z (call97 _) (Og _ _ _ (Bf n s l) _ _ 0 1 0 own [] _ y (imP.nil _) a _ (by rw[X4];omega) j (Ic n s l) a8 a7 U U O (Wr (by rw[g];exact IN _ _ _)) (by show 0<=(0:Int)/\0+1+(own.length:Int)<=l;omega) (by show 0<=(0:Int)/\0+1+(own.length:Int)<=l;omega) (by show s+l<=(a:Int);omega)) H.f4.f7.f7.f6 ?_)));rintro _ w _ ⟨d0,c3,c8,c7,rfl,rfl⟩ H;rw[Ww f hn.2 g] at H;refine Z0 16 [4] Z (Ah Z (call59 _) (St _ _ (Bf n s l) _ _ _ a _ _) H.f2.f1 ?_);intro w H;refine Zc 4 Z (Zr Z ?_);exact ⟨_,⟨cb,_,f,by rw[X4];omega,Z,Z⟩,H.pick 8 [1] Z⟩
def pkI(c:Int)(N:Nat):Nat:=((if c<0 then -(c+1) else c).tmod N).toNat
theorem Ql(c:Int){N:Nat}(h:0<N):pkI c N<N:=by
 unfold pkI;have a:(0:Int)<=if c<0 then -(c+1) else c:=by split<;>omega
 have d:=AaI (if c<0 then -(c+1) else c) (by omega:(0:Int)<(N:Int));have b:=Aa6 (N:Int) a;omega
def Dw(kd fl:Int):Pg:=⟨kd,List.replicate 240 (EL fl)⟩
theorem Hs{a:Int}(b:Int)(h:1<=a/\a<=5):(Dw a b).Ok:=⟨h,by simp[Dw]⟩
theorem Gu(a b:Int):(Dw a b).body.length=240:=by simp[Dw]
theorem Qm(i:Nat)(x y:UInt8)(a:i<240):((List.replicate i x++List.replicate (240-i) y).map u8).take i++[u8 x]++((List.replicate i x++List.replicate (240-i) y).map u8).drop (i+1)=(List.replicate (i+1) x++List.replicate (240-(i+1)) y).map u8:=by
 rw[Yj,X8 O,X0 O,YD,Yk O,Yo];simp only[ZH,X5,ZP];rw[show 240-i-(i+1-i)=240-(i+1) from by omega,Yj,ZH,ZH,List.replicate_succ',X3]
theorem Nw(c:Int)(N:Nat)(f: -9223372036854775808<=c/\c<=9223372036854775807)(hN:0<N/\N<=1099511627776):An 8 [Aa c,Aa (N:Int)] [] (λv G=>v=Aa (pkI c N:Int)/\G=[]):=by
 intro z R w H;refine Af func8 Z ntmps8 Z (Z0 12 [0] Z (Ag Z (λe=>?_) (λe=>?_)))
 ·refine Z1 3 [] [c+1] Z U (Ad Z (Mz Z Z (r:= -(c+1)) U U) (Zc 7 Z (Ad Z (KG Z Z Z U) ?_)))
  have d:=Aa6 (N:Int) (show 0<= -(c+1) by omega);refine Zc 4 Z (Zr Z ?_);have b:(-(c+1)).tmod (N:Int)=(pkI c N:Int):=by unfold pkI;rw[if_pos U];omega
  exact ⟨_,⟨congrArg Aa b,Z⟩,H⟩
 refine Zc 6 Z (Ad Z (KG Z Z Z U) ?_);have d:=Aa6 (N:Int) (show 0<=c by omega);refine Zc 4 Z (Zr Z ?_);have b:c.tmod (N:Int)=(pkI c N:Int):=by unfold pkI;rw[if_neg U];omega
 exact ⟨_,⟨congrArg Aa b,Z⟩,H⟩
theorem Gv(j l c a g:Int)(d:Value)(o:d.oneCell'=true):An 13 [.agg #[Aa j,Aa l,Aa c,Aa a,Aa g,d]] [] (λv G=>∃b,v=.agg #[Aa c,.slice (some ⟨b,0,none⟩) 240 240]/\G=[blk b ((Dw c a).body.map u8) 5]):=by
 intro z R w H;refine Af func13 Z ntmps13 Z (Za 2 [] H Z ?_);intro f w H;refine Za 0 [] H Z ?_;intro m w H;refine Zc 4 Z (AC Z (C8 (k:=240) H Z J A2 Z Z Z U) ?_);rintro _ w ⟨e,rfl,H⟩;refine Zc 10 Z ?_;refine Ap (σ:=Nat) (λi=>[(4,Aa (i:Int)),(1,V f),(2,V m),(3,.slice (some ⟨e,0,none⟩) 240 240)])
   (λi w=>Sep z (blk e ((List.replicate i (EL a)++List.replicate (240-i) (0:UInt8)).map u8) 5::blk m [Aa 0,.slice none 0 0] 40::blk f [Aa j,Aa l,Aa c,Aa a,Aa g,d] 43::R) w/\(i<=240)) (λi=>240-i) 0
   fr_z ⟨(by simpa [u8] using H),by omega⟩ ?_
 clear H;rintro i w ⟨p,h⟩;have H:=p.l3;have r:=h;clear h;refine Z0 9 [0] Z (Ag Z (λn=>?_) (λn=>?_))
 ·refine Z2 9 [3,2,0] H Z (Ad Z (KI Z J Z) (Z1 1 [1,i,i] [] Z U (AV Z Z (AD 0 H Z Z Z Z (vs:=[u8 (EL a)]) Z (by simp[u8,u32,Value.oneCell']) J (by simp;omega) (out:=((List.replicate (i+1) (EL a)++List.replicate (240-(i+1)) (0:UInt8)).map u8)) (Qm i _ _ U)) ?_)));rintro w H;refine Z1 8 [] [(i:Int)+1] Z U (gf ?_);intro _ q;refine ⟨(i+1),q.cz,⟨H,?_⟩,?_⟩
  ·omega
  omega
 obtain rfl:i=240:=by omega
 refine Zc 2 Z (gx (Z4 12 [2,2,0,1] H Z ?_));intro w H;refine Zl [1,2] H Z ?_;rw[show (List.replicate 240 (EL a)++List.replicate (240-240) (0:UInt8)).map u8=(Dw c a).body.map u8 from by simp[Dw]] at H;exact ⟨_,⟨e,Z,Z⟩,H.pick 3 [0] Z⟩
theorem Qn{n:Nat}{bs:List UInt8}(b:bs.length=256){M:Nat->Pg}(a:M=EG (λ_=>DP) (some (gF n (bs.take 240) (manyN n),1+manyN n))):M 0=⟨1,bs.take 240⟩/\∀i,i<manyN n->M (1+i)=CL (C1 (manyN n+1)) n i:=by
 subst a;refine ⟨Z,λi c=>?_⟩;simp only[EG,gF];rw[if_neg U,if_pos U,show 1+i-1=i by omega];rfl
theorem Jt{n:Nat}(h:16<=n/\n<=298):(Bl (n:Int) 300 90 2).Ok ((400:Nat):Int):=
 Sup.ok_mk (by show 0<=(2:Int)/\(2:Int)<=1099511627776;omega) (by show 0<=(1:Int)/\(1:Int)<=1099511627776;omega) (by show 16<=(n:Int)/\(n:Int)<=1024;omega) (by show 2+(n:Int)<=300/\(300:Int)<=1099511627776;omega) (by show 64<=(90:Int)/\(90:Int)<=1099511627776;omega) (by show 0<=(0:Int)/\(0:Int)<90;omega) (by show 0<=(1:Int)/\(1:Int)<=1099511627776;omega) (by show (300:Int)<=((400:Nat):Int)-90/\(90:Int)<=((400:Nat):Int);omega)
set_option maxHeartbeats 2000000 in
theorem U1 (r pd s n:Nat) (c:16<=n/\n<=298) (Tb:Ai) (hT:F1 Tb) (y:Dsk) (a:StG) (bs:List UInt8) (q:bs.length=256) (hO:OInv y a.x a.B (λb=>b=a.rs)) (a0:Clean y) (a2:a.x.gen<=((5:Nat):Int)/\a.x.epoch<=((5:Nat):Int)) (h:a.x.pages=n) (hM:a.M=EG (λ_=>DP) (some (gF n (bs.take 240) (manyN n),1+manyN n))) (cb:List UInt8) (g:cb.length=240) (m2:Nat) (a4:m2<=4000):An 37 [V r] [blk r [V pd,V s,.pointer none,.pointer none] 32,diskA pd y,Tb,rdkA s 400 (EJ n 300 90 cb) m2] (λv G=>∃(pp pq:Nat) (M0:Nat->Pg),v=.bool true/\G=[blk r [V pd,V s,V pp,V pq] 32,poA Tb pp 6 n M0 (C1 (manyN n+1)) none]):=by
 intro z R w H;have d:16<=n/\n<=1024:=⟨c.1,by omega⟩;refine Af func37 Z ntmps37 Z (Z4 27 [2,0,3,0,0,0,0] H Z ?_);intro w H;refine AB Z (call30 _) (Pz _ _ _ _ _ _ hO a0 a2 U) H.f1 ?_;rintro _ w _ ⟨ps,D3,b,j,f,a5,rfl,rfl⟩ H;have u:pgMap (ov b) a.B=a.M:=by rw[j];rfl
 obtain ⟨a1,o⟩:=Qn (n:=n) q (u.trans hM);refine Z2 13 [1,1,0] H Z (AB Z (call89 _) (Mb _ 400 _ U U (EJ n 300 90 cb) (Bl (n:Int) 300 90 2) (Bf n 300 90) (Bf n 300 90) (W5 n 90 cb U) (W6 n 90 cb U) (Jt c) (Ws (Jt c)) Z Z (.inl ⟨by show (2:Int)<2+1;omega,Z⟩) U Z (by show (2:Int)+1<1099511627776;omega) (by show (1:Int)+1<4294967296;omega) (Ds n cb) (by simp[Ds]) (UY d.2 U) (by show (1:Int)+((1:Nat):Int)<1099511627776;omega) (W7 g d.2 U) (UW d.2 U U)) H.f3 ?_);rintro _ w _ ⟨pt,pl,a6,l,a3,rfl,rfl⟩ H;refine Z0 18 [4] Z (Ad Z (Vg Z J Z Z) (QC 41 Z Z (Zc 19 Z (AB Z (call31 _) (UN _ _ _ _ 6 n (C1 (manyN n+1)) f d h (bs.take 240) a1 o (λk=>Jp _ k) (λp hp=>by unfold C1;rw[if_pos U])) H.f3 ?_))));rintro _ w _ ⟨pp,pc,bn,m,pa,rfl,rfl⟩ H;refine Zc 10 Z (AB Z (call98 _) (SE _ _ 400 _ n (BG (Bf n 300 90)) _ _ (C1 (manyN n+1)) d Z U cb g (λi hi=>UX l (by show (((2:Int)+1+1)%2).toNat<=1;decide) _ hi) (Jp _) (λp hp=>by unfold C1;rw[if_pos U])) H.f8.f7 ?_);rintro _ w _ ⟨pq,qc,qn,qw,tv,rfl,rfl⟩ H;refine Z4 35 [2,14,3,14,3] H Z ?_;intro w H;refine Ad Z (Vf Z J Z Z) (Xv 71 Z Z (Zc 5 Z (Zr Z ?_)));have H8:=(H.pick 16 [8,7,9,10,11,12,15,14] Z).toPo (X:=⟨ps,pd,pc,bn,m,pa,D3,(MY a.x (pgMap (ov b) a.B)),CQ,[],0,BY,Tb⟩) (mb:=6) (n:=n) (M0:=pgMap (ov b) a.B) (C0:=C1 (manyN n+1)) (t:=none) ⟨d,f,h,⟨hT,Z⟩,λp _=>rfl,o,λk=>Jp _ k,λp hp=>(by unfold C1;rw[if_pos U]),λ_=>⟨Z,Z⟩,λ_ e=>(by cases e)⟩ Z;exact ⟨_,⟨_,_,_,Z,Z⟩,H8.pick 2 [1,0] Z⟩
set_option maxHeartbeats 2000000 in
theorem Me (n:Nat) (a:16<=n/\n<=298) (Tb:Ai) (r:F1 Tb):An 9 [Aa (n:Int)] [Tb] (λv G=>∃(j pd d pp e:Nat) (M0:Nat->Pg),v=.tuple #[V j,.bool true]/\G=[blk j [V pd,V d,V pp,V e] 32,poA Tb pp 6 n M0 (C1 (manyN n+1)) none]):=by
 intro z R w H;have k:16<=n/\n<=1024:=⟨a.1,by omega⟩;refine Af func9 Z ntmps9 Z (Zc 8 Z (AB Z (call33 _) (VI 400) H ?_));rintro _ w _ (⟨c,rfl,rfl⟩|⟨_,pd,rfl,rfl⟩) o
 ·exact absurd U c
 have H:=o.l2;refine Zc 9 Z (AB Z (call34 _) (Wm 400 U) H ?_);rintro _ w _ ⟨d,rfl,rfl⟩ H;refine Za 31 [4] H Z ?_;intro l w H;refine Zc 7 Z (AB Z (call35 _) (PV _ 400 n _ _ k (Jt a)) H.f2 ?_);rintro _ w _ ⟨D2,G2,bs,b,s,f,h,t,i,q,rfl,rfl⟩ H;refine Zc 7 Z (AB Z (call36 _) (Oj _ 400 0 n U U 300 90 k (Jt a)) H.f2 ?_);rintro _ w _ ⟨cb,m,g,p,rfl,rfl⟩ H;refine Z0 17 [4] Z (AB Z (call37 _) (U1 _ _ _ n a Tb r _ _ bs b s f h i q cb g m U) H.f3.f2.f3 ?_);rintro _ w _ ⟨pp,e,M0,rfl,rfl⟩ H;refine Zc 12 Z (Zr Z ?_);exact ⟨_,⟨l,pd,d,pp,e,M0,Z,Z⟩,H.pick 2 [0,1] Z⟩
theorem Qo(pp ps a b n:Nat)(x:Pg)(g:x.Ok)(c:Value)(B:Ai)(d:∀h,B h->rdH 1 c 240 (x.body.map u8) h):An 12 [V pp,.agg #[Aa x.kind,c]] [plB pp ps a b n false,B] (λv G=>v=.tuple #[Aa 0,Aa 18]/\G=[plB pp ps a b n false,B]):=by
 intro z R w H;obtain ⟨i,e,rfl⟩:=H.sy 1 (λq=>(d _ q).slc);refine Af func12 Z ntmps12 Z (Za 2 [] H Z ?_);intro f w H;refine Z2 22 [4,1,0] H Z (Zr Z ?_);exact ⟨_,⟨Z,Z⟩,H.perm 3 [1,2] Z Z⟩
def fC(n:Nat)(ts:List Nat):Nat->Nat:=λp=>if p<manyN n+1\/p∈ts then 1 else 0
theorem Qq(n:Nat):fC n []=C1 (manyN n+1):=by funext p;simp[fC,C1]
theorem Qr{n:Nat}{ts:List Nat}(p:Nat):BZ (fC n ts) p 1=fC n (ts++[p]):=by
 funext q;unfold BZ fC;by_cases e:q=p
 ·subst e;simp
 simp[e]
theorem Nx{n p:Nat}{ts:List Nat}(hp:manyN n<p)(a:p∉ts):BZ (fC n (p::ts)) p 0=fC n ts:=by
 funext q;unfold BZ fC;by_cases e:q=p
 ·subst e;rw[if_pos Z,if_neg (λh=>by rcases h with h|h;omega;exact a h)]
 simp[e]
theorem Tl{n p:Nat}{ts:List Nat}(h:p∈ts):fC n ts p=1:=by unfold fC;rw[if_pos (.inr h)]
theorem Ny{n p:Nat}{ts:List Nat}(h:BH n (fC n ts) p=true):p<n/\manyN n<p/\p∉ts:=by
 have h':p<n/\fC n ts p=0:=by simpa [BH] using h
 obtain ⟨b,a⟩:=h';unfold fC at a;by_cases h3:p<manyN n+1\/p∈ts
 ·rw[if_pos h3] at a;omega
 exact ⟨b,Nat.lt_of_not_le (λq=>h3 (.inl U)),λq=>h3 (.inr q)⟩
theorem Qt{n p:Nat}{ts:List Nat}(h:BH n (fC n ts) p=true):Cq (BH n (fC n ts)) p=BH n (fC n (ts++[p])):=by
 rw[<-Qr p];funext q;unfold Cq BH BZ;by_cases e:q=p
 ·subst e;simp
 simp[e]
structure TkI(n:Nat)(ts:List Nat):Prop where
 nd:ts.Nodup
 rg:∀p∈ts,manyN n<p/\p<n
theorem TkI.nil(n:Nat):TkI n []:=⟨.nil,λ_ h=>nomatch h⟩
theorem TkI.put{n p:Nat}{ts:List Nat}(K:TkI n ts)(h:BH n (fC n ts) p=true):TkI n (ts++[p]):=by
 obtain ⟨f,i,g⟩:=Ny h;refine ⟨?_,λq hq=>?_⟩
 ·rw[Y4]
  exact ⟨K.nd,by simp,λa d b c=>by rw[YA] at c;subst c;exact λe=>g (e▸d)⟩
 rcases Yt.1 hq with hq|hq
 ·exact K.rg q hq
 rw[YA] at hq;subst hq;exact ⟨i,f⟩
theorem TkI.len{n:Nat}{ts:List Nat}(K:TkI n ts):ts.length<=n:=by
 have:=Gf (s:=ts) (l:=List.range n) K.nd (λp hp=>Y1.2 (K.rg p hp).2);simpa using this
def swp(ts:List Nat)(i k:Nat):List Nat:=(ts.set i (ts.getD k 0)).set k (ts.getD i 0)
theorem Nz(ts:List Nat)(i k:Nat):(swp ts i k).length=ts.length:=by simp[swp]
theorem IP{ts:List Nat}{i k:Nat}(c:i<=k)(a:k<ts.length):((swp ts i k).drop i).Perm (ts.drop i):=by
 rcases Nat.eq_or_lt_of_le c with e|c
 ·subst e
  have b:swp ts i i=ts:=by
   unfold swp;rw[ZZ,Zq,XW a];exact List.set_getElem_self a
  rw[b]
 have f:ts.getD i 0=ts[i]'U:=by rw[Zq,XW U];rfl
 have g:ts.getD k 0=ts[k]:=by rw[Zq,XW a];rfl
 have d:ts.drop i=ts[i]'U::((ts.drop (i+1)).take (k-(i+1))++ts[k]::ts.drop (k+1)):=by
  rw[YV U];congr 1;have:=YG (k-(i+1)) (ts.drop (i+1));rw[Aa8,show i+1+(k-(i+1))=k by omega,YV a] at this;exact this.symm
 have b:(swp ts i k).drop i=ts[k]::((ts.drop (i+1)).take (k-(i+1))++ts[i]'U::ts.drop (k+1)):=by
  unfold swp;rw[f,g];refine Y0 λj=>?_;rw[YN]
  cases j with
  | zero=>
   rw[Aai,Zd U,YR U];rfl
  | succ j=>
   rw[Yq];rcases Zi (i+(j+1)) k with h|h|h
   ·rw[Zd U,Zd U,Yc (by rw[X1,Yr];omega),Yy,if_pos U,YN]
    congr 1;omega
   ·subst h
    rw[YR (by rw[YU];omega),Ya (by rw[X1,Yr];omega)];rw[X1,Yr,show j-min (i+(j+1)-(i+1)) (ts.length-(i+1))=0 by omega];rfl
   rw[Zd U,Zd U,Ya (by rw[X1,Yr];omega)];rw[X1,Yr,show j-min (k-(i+1)) (ts.length-(i+1))=(i+(j+1)-(k+1))+1 by omega,Yq,YN];congr 1;omega
 rw[d,b];refine (List.Perm.cons _ List.perm_middle).trans ((List.Perm.swap _ _ _).trans ?_);exact List.Perm.cons _ List.perm_middle.symm
theorem NA{n:Nat}{a b:List Nat}(h:a.Perm b):fC n a=fC n b:=by
 funext p;simp only[fC,h.mem_iff]
theorem KD{ts:List Nat}{i k:Nat}(a:i<=k)(b:k<ts.length):(swp ts i k).Perm ts:=by
 have e:(swp ts i k).take i=ts.take i:=by
  unfold swp;rw[AaG a,AaG (Yp _)]
 have:=(List.Perm.refl (ts.take i)).append (IP a b);rw[<-e,YG,e,YG] at this;exact this
theorem TkI.swp{n:Nat}{ts:List Nat}(K:TkI n ts){i k:Nat}(a:i<=k)(b:k<ts.length):TkI n (YthbbejpbkglmlaaGreatDoor.swp ts i k):=
 ⟨(KD a b).nodup_iff.2 K.nd,λp hp=>K.rg p ((KD a b).mem_iff.1 hp)⟩
def CU(ts:List Nat):List Value:=ts.map λp:Nat=>Value.int .i64 (p:Int)
theorem Ht{ts:List Nat}{i:Nat}(h:i<ts.length):(CU ts)[i]?=some (Aa ((ts.getD i 0:Nat):Int)):=by
 rw[CU,Yb,Zq,XW h];rfl
theorem HQ{ts:List Nat}{i x:Nat}(h:i<ts.length):(CU ts).take (i*1)++[Aa (x:Int)]++(CU ts).drop (i*1+1)=CU (ts.set i x):=by
 have e:=Y9 (l:=CU ts) (i:=i) (a:=Aa (x:Int));rw[if_pos (by simpa [CU] using h)] at e;rw[YQ,X3,ZK,<-e];simp[CU,Aax]
section
section
variable{Tb:Ai}
variable{z w:World}{Γ:List Ai}{pp mb n:Nat}{M0:Nat->Pg}{C0:Nat->Nat}{t:Option PoT}{T:PoT}
theorem Sep.poTab(H:Sep z (poA Tb pp mb n M0 C0 t::Γ) w):F1 Tb/\Sep z (Tb::Γ) w:=by
 obtain ⟨X,a,H⟩:=H.po;refine ⟨a.tab.2▸a.tab.1,?_⟩;have h:=H.pick 7 [6] Z;rw[<-a.tab.2];exact h
theorem IQ(pp mb n:Nat)(M0:Nat->Pg)(C0:Nat->Nat)(T:PoT)(x:Pg)(d:x.Ok)(b:Value)(B:Ai)(i:∀h,B h->rdH 1 b 240 (x.body.map u8) h)(c:T.k<40)(j:cnt T.F 0 1024≠0):
  An 12 [V pp,.agg #[Aa x.kind,b]] [poA Tb pp mb n M0 C0 (some T),B] (λv G=>∃p a:Nat,((T.F p=true/\∀q,q<p->T.F q=false)/\a<=T.k+1/\cnt (Cq T.F p) 0 1024+1=cnt T.F 0 1024)/\v=.tuple #[Aa (p:Int),Aa 0]/\G=[poA Tb pp mb n M0 C0 (some ⟨BZ T.M p x,BZ T.C p 1,Cq T.F p,a⟩),B]):=
 (Nn pp mb n M0 C0 T x d b B i c).mono λv Γ h=>by
  rcases h with h|⟨p,a,e,g,f⟩
  ·exact absurd h.1 j
  exact ⟨p,a,e,g,f⟩
theorem SF(pp mb n:Nat)(M0:Nat->Pg)(C0:Nat->Nat)(T:PoT)(x:Pg)(c:x.Ok)(a:Value)(B:Ai)(d:∀h,B h->rdH 1 a 240 (x.body.map u8) h)(b:T.k<40)(j:cnt T.F 0 1024=0):
  An 12 [V pp,.agg #[Aa x.kind,a]] [poA Tb pp mb n M0 C0 (some T),B] (λv G=>v=.tuple #[Aa 0,Aa 20]/\G=[poA Tb pp mb n M0 C0 (some T),B]):=
 (Nn pp mb n M0 C0 T x c a B d b).mono λv Γ h=>by
  rcases h with h|⟨p,e,⟨_,_,f⟩,i,g⟩
  ·exact h.2
  exfalso;omega
theorem SG(pp mb n:Nat)(M0:Nat->Pg)(C0:Nat->Nat)(x:Pg)(b:x.Ok)(a:Value)(B:Ai)(c:∀h,B h->rdH 1 a 240 (x.body.map u8) h):
  An 12 [V pp,.agg #[Aa x.kind,a]] [poA Tb pp mb n M0 C0 none,B] (λv G=>v=.tuple #[Aa 0,Aa 18]/\G=[poA Tb pp mb n M0 C0 none,B]):=by
 intro z R w H;obtain ⟨X,e,H⟩:=H.po;refine Ret.mono (Cn.at (Qo pp X.ps X.pc X.pa n x b a B c) H 8 [0,7,1,2,3,4,5,6] Z Z) ?_;rintro v w' ⟨Γ',⟨rfl,rfl⟩,d⟩;exact ⟨_,⟨Z,Z⟩,(d.pick 8 [0,2,3,4,5,6,7,1] Z).toPo e Z⟩
end
theorem Gw{b:Nat}{xs:List Value}{ty:TypeId}{h:Hp}(a:blk b xs ty h)(c:xs.length=240):rdH 1 (.slice (some ⟨b,0,none⟩) 240 240) 240 xs h:=a.rd U U U (by simp;exact X0 U)
theorem Qu{F:Nat->Bool}{p q:Nat}(h:F p=true/\∀r,r<p->F r=false)(a:F q=true)(b:∀r,r<q->F r=false):p=q:=by
 rcases Zi p q with e|e|e
 ·have:=b p e;rw[h.1] at this;cases this
 ·exact e
 have:=h.2 q e;rw[a] at this;cases this
theorem Xd:cnt (BH 16 (C1 (manyN 16+1))) 0 1024≠0:=by decide+kernel
theorem Xe:cnt (Cq (BH 16 (C1 (manyN 16+1))) 2) 0 1024≠0:=by decide+kernel
theorem Xf(C:Nat->Nat):BZ C 2 1 2=1:=Wi C 2 1
theorem Xg:BH 16 (C1 (manyN 16+1)) 2=true:=by decide
theorem Wx:∀r,r<2->BH 16 (C1 (manyN 16+1)) r=false:=by decide
theorem Xh:Cq (BH 16 (C1 (manyN 16+1))) 2 3=true:=by decide
theorem Wy:∀r,r<3->Cq (BH 16 (C1 (manyN 16+1))) 2 r=false:=by decide
theorem U2:((cnt (BH 16 (BZ (BZ (BZ (C1 (manyN 16+1)) 2 1) 2 0) 3 1)) 0 1024:Nat):Int)=13:=by decide+kernel
set_option maxHeartbeats 2000000 in
theorem SH (Tb:Ai) (l:F1 Tb):An 16 [] [Tb] (λv G=>v=.bool true/\G=[Tb]):=by
 intro z R w H;replace H:=H.l1;refine Af func16 Z ntmps16 Z (Zc 7 Z (AB Z (call9 _) (Me 16 U Tb l) H ?_));rintro _ w _ ⟨r,pd,s,pp,t,M0,rfl,rfl⟩ H;replace H:=H.l2;refine Z2 35 [2,0,0,2,0,0] H Z (Ad Z (AQ Z Z (out:=[Aa 0,Aa 0,Aa 5,Aa 3,Aa 0,.slice none 0 0]) J) (Za 0 [] H Z ?_));intro o w H;refine Z4 7 [0,0,6] H Z ?_;intro w H;refine AB Z (call13 _) (Gv _ _ 5 3 _ (.slice none 0 0) Z) H ?_;rintro _ w _ ⟨m,rfl,rfl⟩ H;replace H:=H.l4;refine Ah Z (call12 _) (SG _ _ _ _ _ (Dw 5 3) (Hs 3 U) _ _ (λh q=>Gw q (by rw[X9];exact Gu _ _))) H.f3 ?_;intro w H;replace H:=H.l4;refine Zc 10 Z (Ah Z (call11 _) (JZ _ _ _ _ _) H ?_);intro w H;replace H:=H.l4;refine Z2 7 [2,6] H Z (AB Z (call13 _) (Gv _ _ 5 3 _ (.slice none 0 0) Z) H ?_);rintro _ w _ ⟨j,rfl,rfl⟩ H;replace H:=H.l5;refine AB Z (call12 _) (IQ _ _ _ _ _ _ (Dw 5 3) (Hs 3 U) _ _ (λh q=>Gw q (by rw[X9];exact Gu _ _)) (by show (0:Nat)<40;omega) (by exact Xd)) H.f1 ?_;rintro _ w _ ⟨p,e,⟨c,a,g⟩,rfl,rfl⟩ H;replace H:=H.l5;obtain rfl:p=2:=Qu c (by exact Xg) (by exact Wx);refine Zc 3 Z (k_updA 46 (v:=Aa 2) Z Z (Zc 8 Z (Ah Z (call15 _) (L4 _ _ _ _ _ _ 2 (by decide) (by exact Xf (C1 (manyN 16+1)))) H ?_)));intro w H;replace H:=H.l5;refine Z2 7 [3,6] H Z (AB Z (call13 _) (Gv _ _ 5 3 _ (.slice none 0 0) Z) H ?_);rintro _ w _ ⟨n,rfl,rfl⟩ H;replace H:=H.l6;refine AB Z (call12 _) (IQ _ _ _ _ _ _ (Dw 5 3) (Hs 3 U) _ _ (λh q=>Gw q (by rw[X9];exact Gu _ _)) (by show e<40;have:e<=0+1:=a;omega) (by exact Xe)) H.f1 ?_;rintro _ w _ ⟨k,i,⟨b,d,f⟩,rfl,rfl⟩ H;replace H:=H.l6;obtain rfl:k=3:=Qu b (by exact Xh) (by exact Wy);refine Zc 3 Z (k_updA 56 (v:=Aa 3) Z Z (Zc 7 Z (Ah Z (call14 _) (GT _ _ _ _ _ _ (by show i+manyN 16<=40;have:e<=0+1:=a;have:i<=e+1:=d;have:manyN 16=1:=rfl;omega) U) H ?_)));intro w H;replace H:=H.l6;refine Z0 37 [3,3,3,3,3,3,3,3] Z (Ah Z (call10 _) (Hn _ _ _ _ _ _) H ?_);intro w H;replace H:=H.l6;refine k_updA 92 (v:=Aa 13) Z (congrArg Aa U2) (Z0 4 [3] Z (Ah Z (call18 _) (UO _ _ _ _ _ _ 3 U) H ?_));intro w H;replace H:=H.l6;refine k_updA 97 (v:=Aa 1) Z Z (Z0 6 [3] Z (Zr Z ?_));exact ⟨_,⟨Z,Z⟩,((H.pick 6 [0] Z).poTab).2⟩
end
section
open Go.ChangeShapes Go.WideShapes Go.ChangeAt Go.RowKit Go.Joins
theorem own:ownKnob prog.godebug=none:=by kernel_rfl
theorem U3:laidOutB prog=true:=by kernel_rfl
theorem int_cells:prog.cellsOf 3=1:=by kernel_rfl
theorem SI{H:Type}{enc:TypeId×Value->H}{W:World}{fuel:Nat}{v:Value}{d:DataW H}{p:List MemPlace}(h:DataW.trod enc prog W 0 (λ_=>true) true fuel 22 [v]=some (d,p)):∃xs:List Int,Rd 1 v xs.length (xs.map (Value.int .i64)) W/\xs.length<=Rows.uptoBulk d/\∀x∈xs,(Lit.int .i64 x).wf=true:=by
 have i:∀(l:List Int),l.length<=Rows.uptoBulkAll (lits (H:=H) .i64 l):=λl=>by
  induction l with
  | nil=>simp
  | cons x l ih=>simp only[lits,Yn,Rows.uptoBulkAll,Rows.uptoBulk,XZ] at ih ⊢;omega
 rcases open_ints underlying22 underlying3 int_cells h with ⟨e,m⟩|⟨a,c,w,zs,e,_,t,hm,o,m,f,q⟩
 ·simp only[Aav,and_true] at e;subst e;exact ⟨[],by simpa using Rd.nil 1 W,by simp,by simp⟩
 simp only[Aav,and_true] at e;subst e;simp only[if_true] at o;have hd:d=.slice (lits .i64 (zs.take c)) (lits .i64 (zs.drop c)):=by have:=congrArg Prod.fst m;simpa using this
 refine ⟨zs.take c,⟨some a,w,by simp[o,Yz t],by simp[o,Yz t,t],(by unfold maxLen at hm;omega),by simp,λj u hj=>?_⟩,?_,λx m=>q x (YF m)⟩
 ·rw[Yb] at hj
  obtain ⟨y,s,rfl⟩:=ZV.1 hj;have r:j<c:=by
   have:=(XV.1 s).1;simp at this;omega
  have n:zs[j]?=some y:=by rw[Yy] at s;simpa [r] using s
  have hc:=f j U;rw[show zs.getD j 0=y from by simp[List.getD,n]] at hc;obtain ⟨b,z,k⟩:=a;have g:k=none:=by
   have h0:=f 0 U;simpa [Addr.add] using World.cell?_spot h0
  subst g;exact ⟨b,z,Z,by unfold EK;rw[<-Go.WideShapes.add_plain];exact hc⟩
 rw[hd];have:=i (zs.take c);simp only[Rows.uptoBulk];omega
def KP:DataW Unit->List Value
 | .lit (.int k n)=>[.int k n]
 | .agg parts=>flatWs parts
 | _=>[]
where flatWs:List (DataW Unit)->List Value
 | []=>[]
 | d::ds=>KP d++flatWs ds
def SJ:Obj->Obj
 | .cells c t frozen=>.cells (if c.size=32 then (KP Rows.laid_unicode_utf8_acceptRanges).toArray else if c.size=64 then (KP Rows.laid_math_bits_deBruijn64tab).toArray else (KP Rows.laid_unicode_utf8_first).toArray) t frozen
 | o=>o
noncomputable def Hu(os:Os):World:=
 {World.holding prog os ⟨#[],#[],[]⟩ with heap:=(((World.holding prog os ⟨#[],#[],[]⟩).heap.modify 0 SJ).modify 1 SJ).modify 2 SJ}
abbrev Xi(x:Int):Prop:= -9223372036854775808<=x/\x<=9223372036854775807
theorem Tm{n:Int}(h:(Lit.int .i64 n).wf=true):Xi n:=by
 simp only[Lit.wf,Yl,decide_eq_true_eq] at h;have a:IntKind.i64.min= -9223372036854775808:=by decide
 have b:IntKind.i64.max=9223372036854775807:=by decide
 rw[a,b] at h;exact h
theorem Wz:prog.globalNamed "math/bits.deBruijn64tab"=some 0:=by kernel_rfl
theorem SK:(prog.globals[0]?).map (·.type)=some 220:=by kernel_rfl
theorem U4:prog.cellsOf 220=64:=by kernel_rfl
theorem U5:prog.cellsOf 5=1:=by kernel_rfl
def tzL:List Int:=Lib.deBruijn64tab.map Int.ofNat
theorem Ol{W:World}(h:laidMetH prog Rows.poolRefsUptoRow.laid W):Lib.TabIs prog W "math/bits.deBruijn64tab" .u8 tzL:=
 Lib.tabIs_of_head (rest:=[("unicode/utf8.acceptRanges",Rows.laid_unicode_utf8_acceptRanges),("unicode/utf8.first",Rows.laid_unicode_utf8_first)]) Wz SK underlying220 underlying5 U5 U4 h
theorem J6{W:World}(h:Lib.TabIs prog W "math/bits.deBruijn64tab" .u8 tzL):∃t a,W.heap[0]?=some (.cells (tzL.map λz=>Value.int .u8 z).toArray t a):=by
 unfold Lib.TabIs World.var? at h;rw[Wz] at h;simp only[Aao] at h
 cases e:W.heap[0]? with
 | none=>rw[e] at h;cases h
 | some o=>
  rw[e] at h;cases o<;>simp at h;subst h;exact ⟨_,_,Z⟩
def HR(W:World):Ai:=λh=>∀k,k<W.heap.size->k≠0->h k=W.heap[k]?
def Mf(W:World):Ai:=λh=>h 0=W.heap[0]?
theorem WA:(List.range 64).all (λj=>tzL[j]? == some ((PL j).toNat:Int))=true:=by decide+kernel
theorem Xj{W:World}(f:Lib.TabIs prog W "math/bits.deBruijn64tab" .u8 tzL):F1 (Mf W):=λh c j b=>by
 obtain ⟨t,a,e⟩:=J6 f;have:=Aap.1 WA j (Y1.2 b);have d:tzL[j]?=some ((PL j).toNat:Int):=by simpa using this
 exact ⟨_,t,a,(show h 0=_ from c).trans e,by simp[d,u8]⟩
theorem U6{W:World}(a:Lib.TabIs prog W "math/bits.deBruijn64tab" .u8 tzL):0<W.heap.size:=by
 obtain ⟨t,b,e⟩:=J6 a;rcases Aaj W.heap.size with q|q
 ·rw[Yw U] at e;cases e
 exact q
theorem Qw{W:World}(g:Lib.TabIs prog W "math/bits.deBruijn64tab" .u8 tzL){b o:Nat}{v:Value}(a:EK b o v W)(j:∀x,v≠ .int .u8 x):∀h,HR W h->celH h b o v:=λh i=>by
 have c:b≠0:=λe=>by
  subst e;obtain ⟨t,f,e⟩:=J6 g;unfold EK World.cell? at a;rw[e] at a;simp at a;obtain ⟨z,_,k⟩:=a;exact j _ k.symm
 unfold EK World.cell? at a
 cases hh:W.heap[b]? with
 | none=>rw[hh] at a;simp at a
 | some o'=>
  rw[hh] at a
  cases o' with
  | cells cs ty f=>
   simp at a;have d:b<W.heap.size:=by
    rcases Yg b W.heap.size with q|q
    ·exact q
    rw[Yw q] at hh;cases hh
   exact ⟨cs,ty,f,(i b d c).trans hh,a⟩
  | _=>simp at a
theorem SL{sz:Nat}{v:Value}{n:Nat}{xs:List Value}{W:World}(m:Lib.TabIs prog W "math/bits.deBruijn64tab" .u8 tzL)(r:Rd sz v n xs W)(f:∀u∈xs,∀x,u≠ .int .u8 x):∀h,HR W h->rdH sz v n xs h:=λh o=>by
 obtain ⟨k,c,e,g,i,l,q⟩:=r;exact ⟨k,c,e,g,i,l,λj u a=>by
  obtain ⟨b,p,d,s⟩:=q j u a;exact ⟨b,p,d,Qw m s (f u (XX a)) h o⟩⟩
theorem WB(l:List Int):∀u∈l.map (Value.int .i64),∀x,u≠ .int .u8 x:=λu a x=>by
 obtain ⟨y,_,rfl⟩:=X6.1 a;simp
theorem NB{h:Hp}{own:Nat->Nat}{i k:Nat}{o:Obj}(e:h.part own i k=some o):h k=some o:=by
 unfold Hp.part at e;split at e
 ·exact e
 cases e
theorem Cn.run2{P:Program}{f:FuncId}{args:List Value}{W:World}{u:Value}(n:0<W.heap.size)(h:Cn P f args [HR W,Mf W] (λv G=>v=u/\G=[HR W,Mf W])):Calls P f args.toArray W (Ret λv W'=>v=u/\Ext No W W'):=by
 have m:Sep W [HR W,Mf W] W:=⟨Z,Z,Z,λq=>if q=0 then 1 else 0,λi A a=>by
  match i,a with
  | 0,a=>cases a;intro k c g;simp[Hp.part,hp,g]
  | 1,a=>cases a;show Hp.part _ _ _ 0=_;simp[Hp.part,hp]⟩
 refine Ret.mono (h W [] W m) ?_;rintro v W' ⟨Γ,⟨rfl,rfl⟩,H⟩;obtain ⟨own,b⟩:=H.own;have l:=b 0 _ Z;have j:=b 1 _ Z;have d:∀k,k<W.heap.size->hp W' k=W.heap[k]? :=λk c=>by
  obtain ⟨o,e⟩:∃o,W.heap[k]?=some o:=⟨_,Aac c⟩;rw[e];by_cases q:k=0
  ·subst q;exact NB ((show _=_ from j).trans e)
  exact NB ((l k c q).trans e)
 have H2:Sep W [base W] W':=⟨H.os,H.tape,H.output,λk=>if k<W.heap.size then 0 else 1,λi A a=>by
  match i,a with
  | 0,a=>cases a;intro k c;unfold Hp.part;rw[if_pos (by simp[c])];exact d k c⟩
 exact ⟨Z,Sep.done 0 H2 Z⟩
section
variable{H:Type}{enc:TypeId×Value->H}{P:Program}{w:World}{base:Nat}{spare:Nat->Bool}{held:Bool}
end
section
variable{H:Type}{enc:TypeId×Value->H}{P:Program}{w:World}{base:Nat}{spare:Nat->Bool}{held:Bool}
theorem Xk{m n:TypeId}{args:Array Value}{ds:List (DataW H)}{ps:List MemPlace}(h:DataW.TrodAll enc P w base spare held [m,n] args.toList ds ps):
  ∃d b f a e c,args= #[d,b]/\ds=[f,a]/\ps=e++c/\DataW.Trod enc P w base spare held m d f e/\DataW.Trod enc P w base spare held n b a c:=by
 obtain ⟨d,r,f,p,e,t,i,rfl,rfl,k,l⟩:=trodAll_cons h;obtain ⟨b,o,a,q,c,s,rfl,rfl,rfl,j,g⟩:=trodAll_cons l;obtain ⟨rfl,rfl,rfl⟩:=trodAll_nil g;exact ⟨d,b,f,a,e,c,by cases args;simp_all,Z,by simp,k,j⟩
theorem U7{b d:TypeId}{g e:Value}{h c:DataW H}{a f:List MemPlace}(j:DataW.Trod enc P w base spare held b g h a)(i:DataW.Trod enc P w base spare held d e c f):DataW.TrodAll enc P w base spare held [b,d] [g,e] [h,c] (a++f):=
 ⟨a,_,j,(trodAll_mk1 i),Z⟩
end
section
variable{H:Type}{enc:TypeId×Value->H}{P:Program}{w:World}{base:Nat}{spare:Nat->Bool}{held:Bool}
end
end
section
section
variable{P:Program}{o:Oper}{w z:World}{Γ:List Ai}{n:Nat}{ds:List Deferred}{L:List (Nat×Value)}{v:Value}{x y:Operand}
theorem GV(i:Nat)(H:Sep z Γ w){t e:TypeId}{sz m c j q:Nat}{s:Option Addr}{xs vs:List Value}(hi:Γ[i]?=some (grow e sz (.slice s m c) m xs))(ho:o.op=.store t x y)(hx:ev L x=some (Fb s q))(hq:j*sz=q)(hy:ev L y=some v)(hv:v.cells=vs.toArray)(h1:∀u∈vs,u.oneCell'=true)
  (hs:(P.info? t).map (·.size)=some vs.length)(hl:vs.length=sz)(hj:j<m){out:List Value}(d:xs.take (j*sz)++vs++xs.drop (j*sz+sz)=out):
  C3 P n ds L o w (λw'=>Sep z (Γ.set i (grow e sz (.slice s m c) m out)) w'):=λa hF=>by
 have r:xs.length=m*sz:=H.says i hi (λh g=>g.len);obtain ⟨g,a1,rest,hu,h3,h4,h5,H2⟩:=H.ungrow i hi U;cases hu;have f:i<Γ.length:=(XV.1 hi).1;have a2:j*sz+sz<=m*sz:=by rw[<-Nat.succ_mul];exact Zv _ hj
 have l:(Γ.set i (blk g (xs++rest) e))[i]?=some (blk g (xs++rest) e):=by rw[YR f]
 have a0:m*sz+(c-m)*sz=c*sz:=by rw[<-Nat.add_mul];congr 1;omega
 obtain ⟨w',hr,H3⟩:=AD (P:=P) (n:=n) (ds:=ds) (L:=L) i H2 (p:=0+q) (vs:=vs) l ho hx hy hv h1 hs (by rw[XY,r,h5,hl];omega) (out:=out++rest) (by
  rw[Ze,<-hq,hl,X8 U,Yx U,<-d];simp only[X3]) a hF
 refine ⟨w',hr,?_⟩;rw[ZZ] at H3;have k:out.length=m*sz:=by rw[<-d];simp only[XY,X1,Yr];omega
 have:=H3.mono i (B:=grow e sz (.slice (some ⟨g,0,none⟩) m c) m out) (by rw[YR f]) (λh b=>blk.grow b h3 h4 (by rw[XY,k,h5];omega) (by rw[<-k,YK];rfl));rw[ZZ] at this;exact this
end
def A5(pg:Int):Nat:=16+pkI pg 250
def flC(pg:Int)(ts:List Nat):Nat:=cnt (BH (A5 pg) (fC (A5 pg) ts)) 0 1024
set_option maxHeartbeats 4000000 in
theorem Om (Tb:Ai) (hT:F1 Tb) (a:Int) (c0: -9223372036854775808<=a/\a<=9223372036854775807) (lv:Value) (ls:List Int) (A:Ai) (hA:∀h,A h->rdH 1 lv ls.length (ls.map Aa) h) (b7:∀x∈ls,-9223372036854775808<=x/\x<=9223372036854775807):An 3 [Aa a,lv] [A,Tb] (λv G=>v=.bool true/\G=[A,Tb]):=by
 intro z R w H;obtain ⟨lo,lc,rfl⟩:=H.sy 0 (λq=>(hA _ q).slc);have d1:=Ql a (show 0<250 by omega);have d6:16<=(A5 a)/\(A5 a)<=265:=by unfold A5;omega
 have c2:manyN (A5 a)=((A5 a)+119)/120:=rfl;refine Af func3 Z ntmps3 Z (Zc 8 Z (Ah Z (call8 _) (Nw a 250 c0 U) H ?_));intro w H;refine Z1 1 [] [16+(pkI a 250:Int)] Z U (k_updA 21 (v:=Aa ((A5 a):Int)) Z (congrArg Aa (by unfold A5;omega)) (Zc 6 Z (AB Z (call9 _) (Me (A5 a) U Tb hT) H.f1 ?_)));rintro _ w _ ⟨pb,pd,pr,pp,pq,M0,rfl,rfl⟩ H;refine Z2 36 [2,0,0,2,0,0] H Z (Ah Z (call10 _) (Hn _ _ _ _ _ _) H.f1 ?_);intro w H;refine k_updA 41 (v:=Aa (flC a []:Int)) Z (by unfold flC;rw[Qq];rfl) (Zc 4 Z ?_);replace H:=(H.nilg 3 1).l4;refine Zc 6 Z ?_;refine Ap (σ:=List Nat×Value×Nat×(Nat->Pg)) (λ⟨ts,tv,mb,M⟩=>[(9,tv),(0,Aa ((A5 a):Int)),(1,.slice lo ls.length lc),(7,V pp),(8,Aa (flC a []:Int))])
   (λ⟨ts,tv,mb,M⟩ w=>Sep z (grow 3 1 tv ts.length (CU ts)::poA Tb pp mb (A5 a) M (fC (A5 a) ts) none::blk pb [V pd,V pr,V pp,V pq] 32::A::R) w/\(TkI (A5 a) ts/\mb<=6+2*ts.length/\flC a ts+ts.length=flC a [])) (λ⟨ts,tv,mb,M⟩=>flC a ts) ⟨[],.slice none 0 0,6,M0⟩
   fr_z ⟨(by rw[Qq];simpa [CU] using H),⟨TkI.nil _,Yp _,Z⟩⟩ ?_
 clear H;rintro ⟨ts,tv,mb,M⟩ w ⟨c,s⟩;dsimp only at s c ⊢;have H:=c.l4;have a5:=H.sy 0 (·.slc);obtain ⟨a3,c6,b4⟩:=s;have c8:=a3.len;refine Zc 4 Z (Ah Z (call10 _) (Hn _ _ _ _ _ _) H.f1 ?_);intro w H;refine k_updA 43 (v:=Aa (flC a ts:Int)) Z Z (Z0 3 [0] Z (Ag Z (λh1=>?_) (λh1=>?_)))
 ·refine Zc 7 Z (Ah Z (call11 _) (JZ _ _ _ _ _) H ?_);intro w H;refine Z0 13 [4] Z ?_;refine Ap (σ:=Nat×List Nat×Value×Nat×(Nat->Pg)) (λ⟨k,b,uv,k2,M2⟩=>[(10,Aa (k:Int)),(9,uv),(0,Aa ((A5 a):Int)),(1,.slice lo ls.length lc),(7,V pp),(8,Aa (flC a []:Int)),(42,V pp),(43,Aa (flC a ts:Int)),(44,.bool (decide ((0:Int)<(flC a ts:Int)))),(45,V pp),(46,Aa 0),(47,.bool false)])
    (λ⟨k,b,uv,k2,M2⟩ w=>Sep z (poA Tb pp mb (A5 a) M (fC (A5 a) ts) (some ⟨M2,fC (A5 a) b,BH (A5 a) (fC (A5 a) b),k2⟩)::grow 3 1 uv b.length (CU b)::blk pb [V pd,V pr,V pp,V pq] 32::A::R) w/\(k<=30/\TkI (A5 a) b/\k2<=k/\b.length=ts.length+k/\flC a b+b.length=flC a [])) (λ⟨k,b,uv,k2,M2⟩=>30-k) ⟨0,ts,tv,0,M⟩
    fr_z ⟨H,⟨Yi _,a3,Yp _,Z,b4⟩⟩ ?_
  clear H;rintro ⟨k,b,uv,k2,M2⟩ w ⟨c,s⟩;dsimp only at s c ⊢;have H:=c.l4;have b0:=H.sy 1 (·.slc);obtain ⟨hk,o,c7,c9,a8⟩:=s;refine Z0 6 [0] Z (Am 50 Z (λh2=>?_) (λh2=>?_))
  ·refine Zc 1 Z (Ah Z (call10 _) (Hn _ _ _ _ _ _) H ?_);intro w H;refine k_updA 52 (v:=Aa (flC a b:Int)) Z Z (Z0 4 [0] Z (Ag Z (λh3=>?_) (λh3=>?_)))
   ·refine Zc 8 Z (Ad Z (AQ Z Z (out:=[Aa 0,Aa 0,Aa 5,Aa (k:Int),Aa 0,.slice none 0 0]) J) (AB Z (call13 _) (Gv _ _ 5 (k:Int) _ (.slice none 0 0) Z) H ?_));rintro _ w _ ⟨a2,rfl,rfl⟩ H;refine AB Z (call12 _) (IQ _ _ _ _ _ _ (Dw 5 (k:Int)) (Hs (k:Int) U) _ _ (λh q=>Gw q (by rw[X9];exact Gu _ _)) (by show k2<40;omega) (by show flC a b≠0;omega)) H.f1 ?_;rintro _ w _ ⟨p,k3,⟨a9,a7,b3⟩,rfl,rfl⟩ H;have c:Sep z (poA Tb pp mb (A5 a) M (fC (A5 a) ts) (some ⟨BZ M2 p (Dw 5 (k:Int)),BZ (fC (A5 a) b) p 1,Cq (BH (A5 a) (fC (A5 a) b)) p,k3⟩)::blk a2 ((Dw 5 (k:Int)).body.map u8) 5::grow 3 1 uv b.length (CU b)::blk pb [V pd,V pr,V pp,V pq] 32::A::R) w:=H
    clear H;have H:=c.l5;have a1:BH (A5 a) (fC (A5 a) b) p=true:=a9.1;obtain ⟨d2,c3,b9⟩:=Ny a1;have d0:flC a (b++[p])+1=flC a b:=by unfold flC;rw[<-Qt a1];exact b3
    have c4:k3<=k2+1:=a7;rw[Qr,Qt a1] at H;refine Z1 20 [4,0] [((A5 a):Int)+119,(((A5 a):Int)+119)/120] Z U (Am 74 Z (λh4=>U) (λh4=>?_));refine Z0 6 [0] Z (Ag Z (λh5=>U) (λh5=>?_));refine Zc 4 Z ?_;have b0:=H.sy 2 (·.slc);obtain ⟨uo,uc,rfl⟩:=b0;refine Zc 5 Z ?_;refine Ap (σ:=Nat) (λi=>[(13,Aa (i:Int)),(0,Aa ((A5 a):Int)),(1,.slice lo ls.length lc),(7,V pp),(8,Aa (flC a []:Int)),(9,.slice uo b.length uc),(10,Aa (k:Int)),(11,Aa (p:Int)),(12,Aa 0),(42,V pp),(43,Aa (flC a ts:Int)),(44,.bool (decide ((0:Int)<(flC a ts:Int)))),(45,V pp),(46,Aa 0),(47,.bool false),(48,Aa (k:Int)),(49,.bool (decide ((k:Int)<30))),(50,.bool true),(51,V pp),(52,Aa (flC a b:Int)),(53,.bool (decide ((0:Int)<(flC a b:Int)))),(54,.bool (decide ((0:Int)<(flC a b:Int)))),(57,.tuple #[Aa (p:Int),Aa 0]),(58,V pp),(59,Aa (k:Int)),(60,.agg #[Aa 0,Aa 0,Aa 5,Aa (k:Int),Aa 0,.slice none 0 0]),(61,.agg #[Aa 5,.slice (some ⟨a2,0,none⟩) 240 240]),(62,.tuple #[Aa (p:Int),Aa 0]),(63,Aa (p:Int)),(64,Aa 0),(65,Aa 0),(66,.bool false),(67,.bool false),(68,Aa (p:Int)),(69,Aa ((A5 a):Int)),(70,Aa (((A5 a):Int)+119)),(71,Aa ((((A5 a):Int)+119)/120)),(72,.bool (decide ((p:Int)<=((((A5 a):Int)+119)/120)))),(73,.bool (decide ((p:Int)<=((((A5 a):Int)+119)/120)))),(74,.bool false),(75,Aa (p:Int)),(76,Aa ((A5 a):Int)),(77,.bool (decide (((A5 a):Int)<=(p:Int)))),(78,.bool (decide (((A5 a):Int)<=(p:Int))))])
      (λi w=>Sep z (poA Tb pp mb (A5 a) M (fC (A5 a) ts) (some ⟨BZ M2 p (Dw 5 (k:Int)),fC (A5 a) (b++[p]),BH (A5 a) (fC (A5 a) (b++[p])),k3⟩)::blk a2 ((Dw 5 (k:Int)).body.map u8) 5::grow 3 1 (.slice uo b.length uc) b.length (CU b)::blk pb [V pd,V pr,V pp,V pq] 32::A::R) w/\(i<=b.length)) (λi=>b.length-i) 0
      fr_z ⟨H,Yi _⟩ ?_
    clear H;rintro i w ⟨c,s⟩;have H:=c.l5;have hi:=s;clear s;refine Z0 9 [0] Z (Ag Z (λh6=>?_) (λh6=>?_))
    ·refine Zc 5 Z ?_;obtain ⟨x,hx⟩:∃x,b[i]?=some x:=⟨_,XW U⟩;have c5:x≠p:=λe=>b9 (e▸XX hx)
     have b1:=(H.rv 2 (·.rd)).at (j:=i) (u:=Aa (x:Int)) (by rw[CU,Yb,hx];rfl);refine Zc 3 Z (Ad Z (Ar Z (z:=1) (j:=i) (r:=i) J Z Z Z U b1 U) (Ad Z (AK Z Z J (AA b1)) (Z0 4 [0] Z (Ag Z (λh7=>U) (λh7=>?_)))));refine Z1 8 [] [(i:Int)+1] Z U (gf ?_);intro _ hF;refine ⟨(i+1),hF.cz,⟨H,?_⟩,?_⟩
     ·omega
     omega
    refine Zc 2 Z (gx (Zc 5 Z (AC Z (AI H Z J BK Z (by decide) (by decide) (out:=[Aa (p:Int)]) J) ?_)));rintro _ w ⟨b2,rfl,H⟩;refine AC Z (AJ 3 H Z Z J BK Z Z (H.rv 0 (·.rd U U O Z)) (by simp[Value.oneCell']) U) ?_;rintro v3 w c;have c:Sep z (blk b2 [Aa (p:Int)] 3::poA Tb pp mb (A5 a) M (fC (A5 a) ts) (some ⟨BZ M2 p (Dw 5 (k:Int)),fC (A5 a) (b++[p]),BH (A5 a) (fC (A5 a) (b++[p])),k3⟩)::blk a2 ((Dw 5 (k:Int)).body.map u8) 5::grow 3 1 v3 (b.length+1) (CU b++[Aa (p:Int)])::blk pb [V pd,V pr,V pp,V pq] 32::A::R) w:=c;have b8:(CU b++[Aa (p:Int)]:List Value)=CU (b++[p]):=(by simp[CU]);rw[b8] at c;rw[show (b.length+1:Nat)=(b++[p]).length from O] at c;have H:=c.l6;have d4:=H.sy 3 (·.slc);refine Z1 9 [] [(k:Int)+1] Z U ?_;replace H:=H.f2.d.d;refine gf ?_;intro _ hF;refine ⟨⟨k+1,b++[p],v3,k3,BZ M2 p (Dw 5 (k:Int))⟩,hF.cz,⟨H,?_⟩,?_⟩
    ·exact ⟨by show k+1<=30;omega,o.put a1,by show k3<=k+1;omega,by dsimp only;rw[XY,Zt];omega,by dsimp only;rw[XY,Zt];omega⟩
    (dsimp only;omega)
   refine Zc 2 Z (gx (Zc 5 Z (Ah Z (call14 _) (GT _ _ _ _ _ _ (by show k2+manyN (A5 a)<=40;omega) U) H ?_)));intro w H;refine Z0 6 [4] Z ?_;replace H:=H.f3.f3.f2.f3;refine gf ?_;intro _ hF;refine ⟨⟨b,uv,mb+2,M2⟩,(hF.all Z),⟨H,?_⟩,?_⟩
   ·exact ⟨o,by dsimp only;omega,a8⟩
   (show flC a b<flC a ts;omega)
  refine Zc 9 Z (gx (Zc 5 Z (Ah Z (call14 _) (GT _ _ _ _ _ _ (by show k2+manyN (A5 a)<=40;omega) U) H ?_)));intro w H;refine Z0 6 [4] Z ?_;replace H:=H.f3.f3.f2.f3;refine gf ?_;intro _ hF;refine ⟨⟨b,uv,mb+2,M2⟩,(hF.all Z),⟨H,?_⟩,?_⟩
  ·exact ⟨o,by dsimp only;omega,a8⟩
  (show flC a b<flC a ts;omega)
 refine Zc 2 Z (gx (Zc 6 Z (Ad Z (G8 Z (sz:=1) J Z a5) (Z0 3 [0] Z (Am 102 Z (λh8=>U) (λh8=>?_))))));refine Zc 1 Z (Ah Z (call11 _) (JZ _ _ _ _ _) H ?_);intro w H;refine Z0 10 [4] Z (Ad Z (AQ Z Z (out:=[Aa 0,Aa 0,Aa 5,Aa 0,Aa 0,.slice none 0 0]) J) (AB Z (call13 _) (Gv _ _ 5 0 _ (.slice none 0 0) Z) H ?_));rintro _ w _ ⟨t,rfl,rfl⟩ H;refine Ah Z (call12 _) (SF _ _ _ _ _ _ (Dw 5 0) (Hs 0 U) _ _ (λh q=>Gw q (by rw[X9];exact Gu _ _)) (by show (0:Nat)<40;omega) (by show flC a ts=0;omega)) H.f1 ?_;intro w H;refine Z0 19 [4] Z ?_;have a5:=H.sy 2 (·.slc);obtain ⟨to,tc,rfl⟩:=a5;refine Zc 5 Z ?_;refine Ap (σ:=Nat×List Nat) (λ⟨i,b⟩=>[(16,Aa (i:Int)),(1,.slice lo ls.length lc),(7,V pp),(8,Aa (flC a []:Int)),(9,.slice to ts.length tc)])
   (λ⟨i,b⟩ w=>Sep z (poA Tb pp mb (A5 a) M (fC (A5 a) ts) (some ⟨M,fC (A5 a) (b.drop i),BH (A5 a) (fC (A5 a) ts),0⟩)::blk t ((Dw 5 0).body.map u8) 5::grow 3 1 (.slice to ts.length tc) ts.length (CU b)::blk pb [V pd,V pr,V pp,V pq] 32::A::R) w/\(i<=b.length/\TkI (A5 a) b/\b.length=ts.length)) (λ⟨i,b⟩=>ts.length-i) ⟨0,ts⟩
   fr_z ⟨H,⟨Yi _,a3,Z⟩⟩ ?_
 clear H;rintro ⟨i,b⟩ w ⟨c,s⟩;dsimp only at s c ⊢;have H:=c.l5;obtain ⟨hi,o,d3⟩:=s;refine Z0 9 [0] Z (Ag Z (λh9=>?_) (λh9=>?_))
 ·refine Zc 5 Z ?_;have g:=(H.rv 2 (·.rd)).at (j:=i) (Ht (ts:=b) U)
  refine Z0 14 [0] Z (Ag Z (λc1=>?_) (λc1=>?_))
  ·obtain ⟨x,hx⟩:∃x,ls[i]?=some x:=⟨_,XW U⟩;have b6:=b7 x (XX hx)
   have d5:=Ql x (show 0<ts.length-i by omega);refine Zc 4 Z (Ad Z (Ar Z (z:=1) (j:=i) (r:=i) J Z Z Z U ((H.rd 4 Z hA).at (j:=i) (u:=Aa x) (by simp[hx])) U) (Ad Z (AK Z Z J (AA ((H.rd 4 Z hA).at (j:=i) (u:=Aa x) (by simp[hx])))) (Z1 4 [] [((ts.length-i:Nat):Int)] Z U (Ah Z (call8 _) (Nw x (ts.length-i) b6 U) H ?_))));intro w H;refine Z1 8 [] [((i+pkI x (ts.length-i):Nat):Int)] Z U (Ad Z (Ar Z (z:=1) (j:=i) (r:=i) J Z Z Z U g U) (Ad Z (AK Z Z J (AA ((H.rv 2 (·.rd)).at (j:=i) (Ht (ts:=b) (by first|omega|(simp only[YU];omega)))))) (Zc 9 Z (Ad Z (Ar Z (z:=1) (j:=(i+pkI x (ts.length-i))) (r:=(i+pkI x (ts.length-i))) J Z Z Z U g U) (Ad Z (AK Z Z J (AA ((H.rv 2 (·.rd)).at (j:=(i+pkI x (ts.length-i))) (Ht (ts:=b) (by first|omega|(simp only[YU];omega)))))) (Ad Z (Ar Z (z:=1) (j:=i) (r:=i) J Z Z Z U g U) (AV Z Z (GV 2 H Z Z Z (YQ _) Z Z (j:=i) (vs:=[Aa (((b.getD (i+pkI x (ts.length-i)) 0:Nat):Int):Int)]) (by simp[Value.oneCell']) J Z (by first|omega|(simp only[YU];omega)) (out:=CU (b.set i (b.getD (i+pkI x (ts.length-i)) 0))) (HQ (by first|omega|(simp only[YU];omega)))) ?_)))))));rintro w H;refine Zc 7 Z (Ad Z (Ar Z (z:=1) (j:=(i+pkI x (ts.length-i))) (r:=(i+pkI x (ts.length-i))) J Z Z Z U g U) (AV Z Z (GV 2 H Z Z Z (YQ _) Z Z (j:=(i+pkI x (ts.length-i))) (vs:=[Aa (((b.getD i 0:Nat):Int):Int)]) (by simp[Value.oneCell']) J Z (by first|omega|(simp only[YU];omega)) (out:=CU ((b.set i (b.getD (i+pkI x (ts.length-i)) 0)).set (i+pkI x (ts.length-i)) (b.getD i 0))) (HQ (by first|omega|(simp only[YU];omega)))) ?_));rintro w H;refine Zc 3 Z ?_;have c:Sep z (poA Tb pp mb (A5 a) M (fC (A5 a) ts) (some ⟨M,fC (A5 a) (b.drop i),BH (A5 a) (fC (A5 a) ts),0⟩)::blk t ((Dw 5 0).body.map u8) 5::grow 3 1 (.slice to ts.length tc) ts.length (CU (swp b i (i+pkI x (ts.length-i))))::blk pb [V pd,V pr,V pp,V pq] 32::A::R) w:=H;clear H;have H:=c.l5;have a6:=Nz b i (i+pkI x (ts.length-i));have f:=o.swp (i:=i) (k:=(i+pkI x (ts.length-i))) U U;have y:=NA (n:=(A5 a)) (IP (ts:=b) (i:=i) (k:=(i+pkI x (ts.length-i))) U U);generalize swp b i (i+pkI x (ts.length-i))=vs9 at H a6 f y;obtain ⟨l,m⟩:∃l,vs9[i]?=some l:=⟨_,XW U⟩;have a0:vs9.drop i=l::vs9.drop (i+1):=by rw[YV U];rw[(XV.1 m).2]
   have a4:l∉vs9.drop (i+1):=by have h9:=f.nd.sublist (List.drop_sublist i vs9);rw[a0] at h9;exact (Y8.1 h9).1
   rw[<-y,a0] at H;refine Zc 4 Z (Ad Z (Ar Z (z:=1) (j:=i) (r:=i) J Z Z Z U g U) (Ad Z (AK Z Z J (AA ((H.rv 2 (·.rd)).at (j:=i) (u:=Aa (l:Int)) (by rw[CU,Yb,m];rfl)))) ?_));refine Ah Z (call15 _) (L4 _ _ _ _ _ _ l (f.rg l (XX m)) (by exact Tl O)) H ?_;intro w H;have c:Sep z (poA Tb pp mb (A5 a) M (fC (A5 a) ts) (some ⟨M,BZ (fC (A5 a) (l::vs9.drop (i+1))) l 0,BH (A5 a) (fC (A5 a) ts),0⟩)::blk t ((Dw 5 0).body.map u8) 5::grow 3 1 (.slice to ts.length tc) ts.length (CU vs9)::blk pb [V pd,V pr,V pp,V pq] 32::A::R) w:=H;clear H;have H:=c.l5;rw[Nx (f.rg l (XX m)).1 a4] at H;refine Z1 12 [4] [(i:Int)+1] Z U (gf ?_);intro _ hF;refine ⟨⟨i+1,vs9⟩,hF.cz,⟨H,?_⟩,?_⟩
   ·exact ⟨by show i+1<=vs9.length;omega,f,by show vs9.length=ts.length;omega⟩
   (show ts.length-(i+1)<ts.length-i;omega)
  refine Zc 6 Z (Ad Z (Ar Z (z:=1) (j:=i) (r:=i) J Z Z Z U g U) (Ad Z (AK Z Z J (AA ((H.rv 2 (·.rd)).at (j:=i) (Ht (ts:=b) (by first|omega|(simp only[YU];omega)))))) (Zc 9 Z (Ad Z (Ar Z (z:=1) (j:=i) (r:=i) J Z Z Z U g U) (Ad Z (AK Z Z J (AA ((H.rv 2 (·.rd)).at (j:=i) (Ht (ts:=b) (by first|omega|(simp only[YU];omega)))))) (Ad Z (Ar Z (z:=1) (j:=i) (r:=i) J Z Z Z U g U) (AV Z Z (GV 2 H Z Z Z (YQ _) Z Z (j:=i) (vs:=[Aa (((b.getD i 0:Nat):Int):Int)]) (by simp[Value.oneCell']) J Z (by first|omega|(simp only[YU];omega)) (out:=CU (b.set i (b.getD i 0))) (HQ (by first|omega|(simp only[YU];omega)))) ?_)))))));rintro w H;refine Zc 7 Z (Ad Z (Ar Z (z:=1) (j:=i) (r:=i) J Z Z Z U g U) (AV Z Z (GV 2 H Z Z Z (YQ _) Z Z (j:=i) (vs:=[Aa (((b.getD i 0:Nat):Int):Int)]) (by simp[Value.oneCell']) J Z (by first|omega|(simp only[YU];omega)) (out:=CU ((b.set i (b.getD i 0)).set i (b.getD i 0))) (HQ (by first|omega|(simp only[YU];omega)))) ?_));rintro w H;refine Zc 3 Z ?_;have c:Sep z (poA Tb pp mb (A5 a) M (fC (A5 a) ts) (some ⟨M,fC (A5 a) (b.drop i),BH (A5 a) (fC (A5 a) ts),0⟩)::blk t ((Dw 5 0).body.map u8) 5::grow 3 1 (.slice to ts.length tc) ts.length (CU (swp b i i))::blk pb [V pd,V pr,V pp,V pq] 32::A::R) w:=H;clear H;have H:=c.l5;have a6:=Nz b i i;have f:=o.swp (i:=i) (k:=i) U U;have y:=NA (n:=(A5 a)) (IP (ts:=b) (i:=i) (k:=i) U U);generalize swp b i i=vs9 at H a6 f y;obtain ⟨l,m⟩:∃l,vs9[i]?=some l:=⟨_,XW U⟩;have a0:vs9.drop i=l::vs9.drop (i+1):=by rw[YV U];rw[(XV.1 m).2]
  have a4:l∉vs9.drop (i+1):=by have h9:=f.nd.sublist (List.drop_sublist i vs9);rw[a0] at h9;exact (Y8.1 h9).1
  rw[<-y,a0] at H;refine Zc 4 Z (Ad Z (Ar Z (z:=1) (j:=i) (r:=i) J Z Z Z U g U) (Ad Z (AK Z Z J (AA ((H.rv 2 (·.rd)).at (j:=i) (u:=Aa (l:Int)) (by rw[CU,Yb,m];rfl)))) ?_));refine Ah Z (call15 _) (L4 _ _ _ _ _ _ l (f.rg l (XX m)) (by exact Tl O)) H ?_;intro w H;have c:Sep z (poA Tb pp mb (A5 a) M (fC (A5 a) ts) (some ⟨M,BZ (fC (A5 a) (l::vs9.drop (i+1))) l 0,BH (A5 a) (fC (A5 a) ts),0⟩)::blk t ((Dw 5 0).body.map u8) 5::grow 3 1 (.slice to ts.length tc) ts.length (CU vs9)::blk pb [V pd,V pr,V pp,V pq] 32::A::R) w:=H;clear H;have H:=c.l5;rw[Nx (f.rg l (XX m)).1 a4] at H;refine Z1 12 [4] [(i:Int)+1] Z U (gf ?_);intro _ hF;refine ⟨⟨i+1,vs9⟩,hF.cz,⟨H,?_⟩,?_⟩
  ·exact ⟨by show i+1<=vs9.length;omega,f,by show vs9.length=ts.length;omega⟩
  (show ts.length-(i+1)<ts.length-i;omega)
 refine Zc 2 Z (gx (Zc 3 Z ?_));obtain rfl:i=b.length:=by omega
 rw[List.drop_length] at H;refine Zc 2 Z (Ah Z (call14 _) (GT _ _ _ _ _ _ (by show 0+manyN (A5 a)<=40;omega) U) H ?_);intro w H;refine Z0 3 [3] Z (Ah Z (call10 _) (Hn _ _ _ _ _ _) H ?_);intro w H;refine k_updA 165 (v:=Aa (flC a []:Int)) Z Z (Z0 4 [0] Z (Am 169 Z (λb5=>?_) (λb5=>?_)))
 ·obtain ⟨_,H⟩:=H.poTab;refine Ah Z (call16 _) (SH Tb hT) H ?_;intro w H;refine Zc 5 Z (Zr Z ?_);exact ⟨_,⟨Z,Z⟩,H.pick 5 [4,0] Z⟩
 exact absurd Z b5
end
open Go.ChangeShapes Go.WideShapes Go.ChangeAt Go.RowKit Go.Joins
theorem U8(a:Os):laidMet prog Rows.poolFillUptoRow.laid ((Hu a).forCall (λ_ _=>0) ⟨#[],#[.int .i64 0,.slice none 0 0],[]⟩).memory:=
 laidMet_of_run' 8 J J
theorem Qx(b:Os){H:Type}(enc:TypeId×Value->H):∃a,DataW.whole enc prog ((Hu b).forCall (λ_ _=>0) ⟨#[],#[.int .i64 0,.slice none 0 0],[]⟩).memory f3.params.toList Rows.poolFillSpec.vars false #[Value.int .i64 0,.slice none 0 0].toList 8=some ([.lit (.int .i64 0),.nil],[],a):=
 ⟨[],by kernel_rfl⟩
theorem pfl_contract(H:Type)(enc:TypeId×Value->H)(W:World)(base:Nat)(args:Array Value)(ds s:List (DataW H))(b:List MemPlace)
  (a:∀(j:Nat) t v,f3.params[j]?=some t->args[j]?=some v->Value.okWide prog W .any base t v)
  (w:DataW.Whole enc prog f3.params.toList Rows.poolFillSpec.vars false W args.toList ds s b)(y:Rows.uptoSmall H (ds++s)=true)(o:laidMetH prog Rows.poolFillUptoRow.laid W):
  Calls prog 3 args W λe W'=>∃v,e=.returned v/\Rows.poolFillSpec.post enc prog f3 false true false false W args v W':=by
 have c:=w;obtain ⟨p,q,i,hV,rfl,_,_⟩:=w;have z:DataW.TrodAll enc prog W 0 (λ_=>true) true f3.params.toList args.toList ds p:=i;rw[params3] at z a;obtain ⟨v0,v1,d0,d1,p0,p1,rfl,rfl,rfl,h0,h1⟩:=Xk z;obtain ⟨rfl,rfl⟩:=trodVars_none hV;simp only[YJ] at c y;have t1:∀x∈p1,x.block<W.heap.size:=λx m=>by have:=c.lt x (by simp[m]);simpa using this
 have hb:Rows.uptoBulkAll [d0,d1]<=1048576:=of_decide_eq_true y;simp only[Rows.uptoBulkAll] at hb;obtain ⟨i0,rfl,rfl,rfl,g⟩:=open_int underlying3 (a 0 3 v0 Z Z) h0;obtain ⟨a0,l1,c1,rfl⟩:=okWide_slice underlying22 (a 1 22 v1 Z Z);obtain ⟨l,k⟩:=id h1;obtain ⟨n,f,r,d⟩:=SI (h:=k);refine (Cn.run2 (U6 (Ol o)) (Om (Mf W) (Xj (Ol o)) i0 (Tm g) _ n (HR W) (λh hh=>SL (Ol o) f (WB _) h hh) (λx m=>Tm (d x m)))).mono λe W' hR=>?_;obtain ⟨u,rfl,rfl,x⟩:∃u,e=Ending.returned u/\u=.bool true/\Ext No W W':=by cases e<;>first|exact ⟨_,rfl,hR⟩|exact hR.elim
 exact ⟨_,rfl,_,_,_,[],_,[],c,trodAll_mk1 (shut_bool underlying4 true),U7 (shut_int underlying3 g) (Below.trod U3 J (of_decide_eq_true J) h1 x.below t1),rfl,x.below.frame _,λh=>by cases h⟩
theorem On(d:Os)(a:d.Started)(H:Type)(enc:TypeId×Value->H)(F:Stop.Interp):
  ReturnsInHanded {} checked d 3 .any ((Rows.OpenSpec.upto Rows.poolFillSpec).preRow enc prog f3 Rows.poolFillUptoRow.domain false Rows.poolFillUptoRow.laid) (((Rows.OpenSpec.upto Rows.poolFillSpec).at F).post enc prog f3 false true false false):=by
 obtain ⟨f,h⟩:=Qx d enc;refine returnsInHanded_of_row (C:=checked) (s:=Rows.OpenSpec.upto Rows.poolFillSpec) own a J func3
  (witness_row_at (enc:=enc) (C:=checked) false (Hu d) #[.int .i64 0,.slice none 0 0] Z J J J
   (OpenSpec.preRow_of_cond 8 h J (λk g=>by cases g;kernel_rfl) J (U8 d))) ?_
 intro W base args ds i b e j _ c _ l _ _;exact pfl_contract H enc W base args ds i b e j (c _ Z) l
theorem pfl_said:Rows.PoolFillUptoSaid:=
 OpenClaim.holds_of_cond 3 f3 Z Z Z Z Z Z Z ⟨Z,Z,Z,Z,Z⟩ Z Z Z Z Z J func3 J
  (of_decide_eq_true J) (by unfold Func.isWrapper;first|(rw[if_pos (by decide+kernel)];kernel_rfl)|(rw[if_neg (by decide+kernel)];exact ⟨rfl,rfl⟩))
  (λb a H enc _ F=>by rw[OpenClaim.pre_eq_preRow];exact On b a H enc F)
theorem Qy(f:FuncId)(b:Func)(e:Tryz.pinned.checked.prog.funcNamed "polder/polderlaw10.PoolFill"=some f)(a:Tryz.pinned.checked.prog.funcs[f]?=some b):
  false=Tryz.pinned.checked.prog.looks []/\∀(j:Nat) t,b.params[j]?=some t->Tryz.pinned.checked.prog.wantsStandIn t=false:=by
 obtain rfl:f=3:=AaB ((show prog.funcNamed "polder/polderlaw10.PoolFill"=some 3 by kernel_rfl).symm.trans e) |>.symm;obtain rfl:b=f3:=(AaB (func3.symm.trans a)).symm;refine ⟨by kernel_rfl,λj t d=>?_⟩;rw[params3] at d;have c:=Array.mem_of_getElem? d;simp at c;rcases c with rfl|rfl<;>first|exact (show prog.wantsStandIn 3=false by kernel_rfl)|exact (show prog.wantsStandIn 22=false by kernel_rfl)
theorem poolFill_holds:Rows.PoolFillUptoCardSaid:=
 Claim7.holds_tied_plain_at .later [] _ _ _ _ pfl_said (λ_ h=>by cases h) J (λ_ h=>by cases h) poolFillUpto_row_tie Z ⟨Z,Z⟩ J Z Qy J
end Go.Proofs.YthbbejpbkglmlaaGreatDoor
