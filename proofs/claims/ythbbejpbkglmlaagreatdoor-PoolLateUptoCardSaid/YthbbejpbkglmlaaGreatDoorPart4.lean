/-
  Steps to: No page that is in use is taken, none twice No condition.
-/
import Derived.Test.YthbbejpbkglmlaaGreatDoorPart3
set_option maxRecDepth 100000
set_option linter.unusedSimpArgs false
set_option linter.unusedVariables false
open Go.Proofs.Tryz
namespace Go.Proofs.YthbbejpbkglmlaaGreatDoor
open Go.RowKit
theorem hdL_le{e q:Int}{ims:List Img}(h:ims.length<=40):(Bv e q ims).length<=252:=by
 unfold Bv;simp only[AbH,Ae,BO,AbN,AbI,AbO];omega
set_option maxHeartbeats 2000000 in
theorem Kh (e q:Int) (a:UInt32) (ns:List Int) (s:Value) (A:Ah) (o:∀h,A h->rdH 1 s ns.length (ns.map Aa) h) (he:0<=e/\e<=1099511627776) (hq:0<=q/\q<=1099511627776) (hn:1<=ns.length/\ns.length<=40) (n:∀y∈ns,0<=y/\y<=1023):Aj 221 [.agg #[Aa e,Aa q,s,u32 a]] [A] (λv G=>∃t:Value,v=.tuple #[t,Aa 0]/\G=[grow 5 1 t (sect (([80,76,79,71]:List UInt8)++Af 8 e++Af 8 q++Af 4 (a.toNat:Int)++Af 2 (ns.length:Int)++(ns).flatMap (Af 4))).length ((sect (([80,76,79,71]:List UInt8)++Af 8 e++Af 8 q++Af 4 (a.toNat:Int)++Af 2 (ns.length:Int)++(ns).flatMap (Af 4))).map u8),A]):=by
 intro z R w H;obtain ⟨g,l,rfl⟩:=H.sy 0 (λq=>(o _ q).slc);refine Ac func221 Z ntmps221 Z (Za 2 [] H Z ?_);intro f w H;refine Z2 9 [0,0,0] H Z (Ai Z (call156 _) (Dj _ _) H ?_);intro w H;refine Ad Z (AW Z Z) (Zc 1 Z (Ak 10 Z (λh1=>U) (λh1=>?_)));refine Z2 2 [1,0,0] H Z (Ai Z (call156 _) (Dj _ _) H ?_);intro w H;refine Ad Z (AW Z Z) (Zc 2 Z (Ak 16 Z (λh2=>U) (λh2=>?_)));refine Z2 6 [2,0,0,0] H Z (Ak 22 Z (λh3=>U) (λh3=>?_));refine Z2 7 [2,0,0,0] H Z (Ag Z (λh4=>U) (λh4=>?_));refine Zc 3 Z (AK (Sep z (blk f [Aa e,Aa q,.slice g ns.length l,u32 a] 233::R)) 9 Z J (A4 H λw c=>?_));have H:=c.l2;refine A6 [2,3,5,6] [0,0,1,0] J (λ_ d=>(AQ (d.blk 0 Z) AJ)) (by exact H.pick 2 [0] Z) Z J Z Z (An [0] J O (Ar (Ck Z Z Z Z (AL H Z J Bf Z (by decide) (by decide) (out:=[u8 80,u8 76,u8 79,u8 71]) J) ?_)));rintro _ w ⟨p,rfl,H⟩;refine Am (λ_=>(H.pick 3 [1] Z)) (An [1] J O (Ar (Ck Z Z Z Z (MZ 0 H Z Z J J Z ⟨Z,by omega⟩) ?_)));rintro _ w ⟨rfl,c⟩;have c:Sep z (Lt (.slice (some ⟨p,0,none⟩) 4 4) ([80,76,79,71]:List UInt8).length (([80,76,79,71]:List UInt8).map u8)::blk f [Aa e,Aa q,.slice g ns.length l,u32 a] 233::A::R) w:=c;have H:=c.l3;refine Am (λ_=>(H.pick 3 [1] Z)) (An [4] J O (Ar ?_));replace H:=(H.mono 0 (B:=bsA 5 (.slice (some ⟨p,0,none⟩) 4 4) ([80,76,79,71]:List UInt8)) Z (λh q=>.inl q)).l3;refine Ba Z Z Z Z Z Z (λw=>call157 _ w) (Cr _ ([80,76,79,71]:List UInt8) e 8 U (by first|omega|(simp only[AbH,AbI,AbO,AbQ,AbM,Ae,Al,Ao]<;>omega)|(simp[Ae,Al,Ao,Sup.list,sect_len]<;>omega)|simp[Ae,Al,Ao,Sup.list,sect_len])) H Z ?_;rintro u3 w _ ⟨_,rfl,rfl⟩ H;have a1:=H.sy 0 (·.slc);refine Am (λ_=>(H.pick 3 [1] Z)) (An [7] J O (Ar ?_));replace H:=(H.mono 0 (B:=bsA 5 u3 (([80,76,79,71]:List UInt8)++Af 8 e)) Z (λh q=>.inr q)).l3;refine Ba Z Z Z Z Z Z (λw=>call157 _ w) (Cr _ (([80,76,79,71]:List UInt8)++Af 8 e) q 8 U (by first|omega|(simp only[AbH,AbI,AbO,AbQ,AbM,Ae,Al,Ao]<;>omega)|(simp[Ae,Al,Ao,Sup.list,sect_len]<;>omega)|simp[Ae,Al,Ao,Sup.list,sect_len])) H Z ?_;rintro u4 w _ ⟨_,rfl,rfl⟩ H;have a5:=H.sy 0 (·.slc);refine Am (λ_=>(H.pick 3 [1] Z)) (An [8] J O (Ar (B5 Z Z Z Z (AS Z Z) (Am (λh=>absurd Z h) (AT J (gn (Zc 2 Z ?_)))))));replace H:=H.f1;refine AK (Sep z (blk f [Aa e,Aa q,.slice g ns.length l,u32 a] 233::R)) 10 Z J (A4 H λw c=>?_);have H:=c.l3;refine A6 [0,1,2] [3,0] J (λ_ d=>(AQ (d.blk 0 Z) AJ)) (by exact H.pick 3 [0] Z) Z J Z Z (AR 3 J Z Z J J J Z Z Z (QM Z J Z) (H.pick 3 [0] Z) (A6 [5,6] [2,0] J (λ_ d=>(AQ (d.blk 0 Z) AJ)) (by exact H.pick 3 [0] Z) Z J Z Z (AR 7 J Z Z J J J Z Z Z (EC Z (z:=1) J Z) (H.pick 3 [0] Z) (An [4] J O (Ar ?_)))));replace H:=(H.mono 1 (B:=bsA 5 u4 ((([80,76,79,71]:List UInt8)++Af 8 e)++Af 8 q)) Z (λh q=>.inr q)).l3;refine Ba Z Z Z Z Z Z (λw=>call157 _ w) (Cr _ ((([80,76,79,71]:List UInt8)++Af 8 e)++Af 8 q) (a.toNat:Int) 4 U (by first|omega|(simp only[AbH,AbI,AbO,AbQ,AbM,Ae,Al,Ao]<;>omega)|(simp[Ae,Al,Ao,Sup.list,sect_len]<;>omega)|simp[Ae,Al,Ao,Sup.list,sect_len])) H.f1 Z ?_;rintro u5 w _ ⟨_,rfl,rfl⟩ H;have a6:=H.sy 0 (·.slc);refine Am (λ_=>(H.pick 3 [1] Z)) (An [8] J O (Ar ?_));replace H:=(H.mono 0 (B:=bsA 5 u5 (((([80,76,79,71]:List UInt8)++Af 8 e)++Af 8 q)++Af 4 (a.toNat:Int))) Z (λh q=>.inr q)).l3;refine Ba Z Z Z Z Z Z (λw=>call157 _ w) (Cr _ (((([80,76,79,71]:List UInt8)++Af 8 e)++Af 8 q)++Af 4 (a.toNat:Int)) (ns.length:Int) 2 U (by first|omega|(simp only[AbH,AbI,AbO,AbQ,AbM,Ae,Al,Ao]<;>omega)|(simp[Ae,Al,Ao,Sup.list,sect_len]<;>omega)|simp[Ae,Al,Ao,Sup.list,sect_len])) H Z ?_;rintro u6 w _ ⟨_,rfl,rfl⟩ H;have a4:=H.sy 0 (·.slc);refine Am (λ_=>(H.pick 3 [1] Z)) (An [9] J O (Ar (B5 Z Z Z Z (AS Z Z) (Am (λh=>absurd Z h) (AT J (gn (Zc 3 Z ?_)))))));rw[show ((((([80,76,79,71]:List UInt8)++Af 8 e)++Af 8 q)++Af 4 (a.toNat:Int))++Af 2 (ns.length:Int))=([80,76,79,71]:List UInt8)++Af 8 e++Af 8 q++Af 4 (a.toNat:Int)++Af 2 (ns.length:Int)++(ns.take 0).flatMap (Af 4) from by simp] at H;refine Zc 5 Z ?_;refine Ay (σ:=Nat×Value) (λ⟨i,u⟩=>[(5,Aa (i:Int)),(4,u),(1,V f)])
   (λ⟨i,u⟩ w=>Sep z (grow 5 1 u ((([80,76,79,71]:List UInt8)++Af 8 e++Af 8 q++Af 4 (a.toNat:Int)++Af 2 (ns.length:Int)++(ns.take i).flatMap (Af 4)).length) ((([80,76,79,71]:List UInt8)++Af 8 e++Af 8 q++Af 4 (a.toNat:Int)++Af 2 (ns.length:Int)++(ns.take i).flatMap (Af 4)).map u8)::blk f [Aa e,Aa q,.slice g ns.length l,u32 a] 233::A::R) w/\(i<=ns.length)) (λ⟨i,u⟩=>ns.length-i) ⟨0,u6⟩
   fr_z ⟨H,AbV _⟩ ?_
 clear H;rintro ⟨i,u⟩ w ⟨c,m⟩;dsimp only at m c ⊢;have H:=c.l3;have su:=H.sy 0 (·.slc);have hi:=m;clear m;refine Z2 10 [2,1,0,0] H Z (Ag Z (λh5=>?_) (λh5=>?_))
 ·refine Zc 6 Z ?_;obtain ⟨y,k⟩:∃y,ns[i]?=some y:=⟨_,AbF U⟩;have a0:=n y (AbG k)
  have b:=(H.rd 2 Z o).at (j:=i) (u:=Aa y) (by rw[AbY,k];rfl);refine Z2 4 [2,1,0] H Z (Ad Z (Az Z (z:=1) (j:=i) (r:=i) J Z Z Z U b U) (Ad Z (AM Z Z J (AB b)) (Ai Z (call156 _) (Dj _ _) H ?_)));intro w H;refine Ad Z (AW Z Z) (Zc 2 Z (Ag Z (λx=>U) (λx=>?_)));refine Zc 2 Z ?_;have b:=(H.rd 2 Z o).at (j:=i) (u:=Aa y) (by rw[AbY,k];rfl);refine Z2 5 [2,1,0] H Z (Ad Z (Az Z (z:=1) (j:=i) (r:=i) J Z Z Z U b U) (Ad Z (AM Z Z J (AB b)) ?_));replace H:=(H.mono 0 (B:=bsA 5 u (([80,76,79,71]:List UInt8)++Af 8 e++Af 8 q++Af 4 (a.toNat:Int)++Af 2 (ns.length:Int)++(ns.take i).flatMap (Af 4))) Z (λh q=>.inr q)).l3;refine AA Z (call157 _) (Cr _ (([80,76,79,71]:List UInt8)++Af 8 e++Af 8 q++Af 4 (a.toNat:Int)++Af 2 (ns.length:Int)++(ns.take i).flatMap (Af 4)) y 4 U (by first|omega|(simp only[AbH,AbI,AbO,AbQ,AbM,Ae,Al,Ao]<;>omega)|(simp[Ae,Al,Ao,Sup.list,sect_len]<;>omega)|simp[Ae,Al,Ao,Sup.list,sect_len])) H ?_;rintro u7 w _ ⟨_,rfl,rfl⟩ H;have a3:=H.sy 0 (·.slc);refine Zc 2 Z ?_;rw[show ((([80,76,79,71]:List UInt8)++Af 8 e++Af 8 q++Af 4 (a.toNat:Int)++Af 2 (ns.length:Int)++(ns.take i).flatMap (Af 4))++Af 4 y)=([80,76,79,71]:List UInt8)++Af 8 e++Af 8 q++Af 4 (a.toNat:Int)++Af 2 (ns.length:Int)++(ns.take (i+1)).flatMap (Af 4) from (by rw[AbZ,k];simp)] at H;refine Z1 7 [] [(i:Int)+1] Z U (gf ?_);intro _ hF;refine ⟨⟨i+1,u7⟩,hF.cz,⟨H,?_⟩,?_⟩
  ·show i+1<=ns.length;omega
  (dsimp only;omega)
 refine Zc 2 Z (gx (Zc 3 Z ?_));rw[show ns.take i=ns from AbJ U] at H;refine Zc 2 Z (AA Z (call183 _) (GI _ (([80,76,79,71]:List UInt8)++Af 8 e++Af 8 q++Af 4 (a.toNat:Int)++Af 2 (ns.length:Int)++(ns).flatMap (Af 4)) (by first|omega|(simp only[AbH,AbI,AbO,AbQ,AbM,Ae,Al,Ao]<;>omega)|(simp[Ae,Al,Ao,Sup.list,sect_len]<;>omega)|simp[Ae,Al,Ao,Sup.list,sect_len])) H ?_);rintro u8 w _ ⟨_,rfl,rfl⟩ H;have a2:=H.sy 0 (·.slc);refine Zc 5 Z (Zr Z ?_);exact ⟨_,⟨_,Z,Z⟩,H.pick 3 [0,2] Z⟩
theorem N3(e q:Int)(a:UInt32)(d:0<=e/\e<=1099511627776)(hq:0<=q/\q<=1099511627776):Aj 221 [.agg #[Aa e,Aa q,.slice none 0 0,u32 a]] [] (λv G=>v=.tuple #[.slice none 0 0,Aa 1]/\G=[]):=by
 intro z R w H;refine Ac func221 Z ntmps221 Z (Za 2 [] H Z ?_);intro f w H;refine Z2 9 [0,0,0] H Z (Ai Z (call156 _) (Dj _ _) H ?_);intro w H;refine Ad Z (AW Z Z) (Zc 1 Z (Ak 10 Z (λc=>U) (λc=>?_)));refine Z2 2 [1,0,0] H Z (Ai Z (call156 _) (Dj _ _) H ?_);intro w H;refine Ad Z (AW Z Z) (Zc 2 Z (Ak 16 Z (λb=>U) (λb=>?_)));refine Z2 21 [2,0,0,3] H Z (Zr Z ?_);exact ⟨_,⟨Z,Z⟩,H.pick 1 [] Z⟩
theorem N4(v:Value)(sec:List UInt8)(A:Ah)(a:∀h,A h->rdH 1 v sec.length (sec.map u8) h)(d:sec=List.replicate 256 0):Aj 187 [v] [A] (λv G=>v=.tuple #[.agg #[Aa 0,Aa 0,.slice none 0 0,.int .u32 0],.bool false]/\G=[A]):=by
 intro z R w H;have j:sec.length=256:=by rw[d];simp
 obtain ⟨b,o,c,rfl⟩:=H.sy 0 (λq=>(a _ q).sl (by rw[AbN];omega));have f:=H.sy 0 (λq=>(a _ q).cap);refine Ac func187 Z ntmps187 Z (Zc 2 Z (AG Z (Bz (P:=prog) H Z (zs:=[Aa 0,Aa 0,.slice none 0 0,u32 0]) J) ?_));rintro _ w ⟨g,rfl,H⟩;refine Zc 6 Z (Ai Z (call142 _) (Co _ sec _ a 4 8 (by first|omega|simp_all)) H.f1 ?_);intro w H;refine k_updA 10 (v:=Aa 0) Z (congrArg Aa (by rw[d];rfl)) (Zc 1 Z (Ai Z (call142 _) (Co _ sec _ a 12 8 (by first|omega|simp_all)) H ?_));intro w H;refine k_updA 12 (v:=Aa 0) Z (congrArg Aa (by rw[d];rfl)) (Zc 1 Z (Ai Z (call142 _) (Co _ sec _ a 20 4 (by first|omega|simp_all)) H ?_));intro w H;refine k_updA 14 (v:=Aa 0) Z (congrArg Aa (by rw[d];rfl)) (Ad Z (HS Z J Z) (Ad Z (AX Z Z (out:=[Aa 0,Aa 0,.slice none 0 0,u32 (DS 0)]) J) (AG Z (Bz (P:=prog) H Z (zs:=[Aa 0,Aa 0,.slice none 0 0,u32 0]) J) ?_)));rintro _ w ⟨e,rfl,H⟩;refine Z4 6 [0] H Z ?_;intro w H;refine Ai Z (call142 _) (Co _ sec _ a 24 2 (by first|omega|simp_all)) H.f1 ?_;intro w H;refine k_updA 18 (v:=Aa 0) Z (congrArg Aa (by rw[d];rfl)) (Zc 10 Z ?_);refine Ay (σ:=Nat) (λi=>[(6,Aa (i:Int)),(0,.slice (some ⟨b,o,none⟩) sec.length c),(2,V g),(3,.bool false),(4,V e),(5,Aa 0)])
   (λi w=>Sep z (A::blk e [Aa 0,Aa 0,.slice none 0 0,u32 (DS 0)] 233::blk g [Aa 0,Aa 0,.slice none 0 0,u32 0] 233::R) w/\(True)) (λi=>0) 0
   fr_z ⟨H,trivial⟩ ?_
 clear H;rintro i w ⟨k,m⟩;have H:=k.l3;refine Z0 7 [0] Z (Ak 22 Z (λl=>U) (λl=>?_));refine Zc 8 Z (gx (Z2 5 [1,4] H Z (Ai Z (call221 _) (N3 _ _ _ U U) H ?_)));intro w H;refine Z0 23 [3] Z (Ad Z (AX Z Z (out:=[Aa 0,Aa 0,.slice none 0 0,u32 0]) J) (Z4 5 [2] H Z ?_));intro w H;refine Zl [2,4] H Z ?_;exact ⟨_,⟨Z,Z⟩,H.pick 3 [0] Z⟩
set_option maxHeartbeats 2000000 in
theorem P2 (v:Value) (sec:List UInt8) (A:Ah) (g:∀h,A h->rdH 1 v sec.length (sec.map u8) h) (e q:Int) (he:0<=e/\e<=1099511627776) (hq:0<=q/\q<=1099511627776) (ims:List Img) (k:1<=ims.length/\ims.length<=40) (l:∀m∈ims,m.Ok) (a:sec=sect (Bv e q ims)):Aj 187 [v] [A] (λv G=>∃v2:Value,v=.tuple #[.agg #[Aa e,Aa q,v2,u32 (AC (AF e q ims))],.bool true]/\G=[grow 3 1 v2 ims.length ((ims.map Img.num).map Aa),A]):=by
 intro z R w H;replace H:=H.l1;have a2:sec.length=256:=by rw[a];exact sect_len (hdL_le k.2)
 obtain ⟨b,o,c,rfl⟩:=H.sy 0 (λq=>(g _ q).sl (by rw[AbN];omega));have a1:=H.sy 0 (λq=>(g _ q).cap);refine Ac func187 Z ntmps187 Z (Zc 2 Z (AG Z (Bz (P:=prog) H Z (zs:=[Aa 0,Aa 0,.slice none 0 0,u32 0]) J) ?_));rintro _ w ⟨x,rfl,H⟩;replace H:=H.l2;refine Zc 6 Z (Ai Z (call142 _) (Co _ sec _ g 4 8 (by first|omega|simp_all)) H.f1 ?_);intro w H;replace H:=H.l2;refine k_updA 10 (v:=Aa e) Z (congrArg Aa (by rw[a];exact Py k.2 he)) (Zc 1 Z (Ai Z (call142 _) (Co _ sec _ g 12 8 (by first|omega|simp_all)) H ?_));intro w H;replace H:=H.l2;refine k_updA 12 (v:=Aa q) Z (congrArg Aa (by rw[a];exact Pz k.2 hq)) (Zc 1 Z (Ai Z (call142 _) (Co _ sec _ g 20 4 (by first|omega|simp_all)) H ?_));intro w H;replace H:=H.l2;refine Ad Z (HS Z J Z) (k_updA 15 (v:=u32 (AC (AF e q ims))) Z (congrArg u32 (by rw[a];exact Zg k.2)) (Ad Z (AX Z Z (out:=[Aa e,Aa q,.slice none 0 0,u32 (AC (AF e q ims))]) J) (AG Z (Bz (P:=prog) H Z (zs:=[Aa 0,Aa 0,.slice none 0 0,u32 0]) J) ?_)));rintro _ w ⟨p,rfl,H⟩;replace H:=H.l3;refine Z4 6 [0] H Z ?_;intro w H;refine Ai Z (call142 _) (Co _ sec _ g 24 2 (by first|omega|simp_all)) H.f1 ?_;intro w H;replace H:=H.l3;refine k_updA 18 (v:=Aa (ims.length:Int)) Z (congrArg Aa (by obtain ⟨m9,h1,s⟩:=Q5 (sec:=sec);rw[h1,<-s,a,Mp k.2])) (Zc 5 Z ?_);replace H:=(H.nilg 3 1).l4;refine Zc 5 Z ?_;refine Ay (σ:=Nat×Value) (λ⟨i,u⟩=>[(6,Aa (i:Int)),(0,.slice (some ⟨b,o,none⟩) sec.length c),(2,V x),(3,.bool false),(4,V p),(5,Aa (ims.length:Int))])
   (λ⟨i,u⟩ w=>Sep z (grow 3 1 u i (((ims.take i).map Img.num).map Aa)::A::blk p [Aa e,Aa q,u,u32 (AC (AF e q ims))] 233::blk x [Aa 0,Aa 0,.slice none 0 0,u32 0] 233::R) w/\(i<=ims.length)) (λ⟨i,u⟩=>ims.length-i) ⟨0,.slice none 0 0⟩
   fr_z ⟨(by simpa using H),AbV _⟩ ?_
 clear H;rintro ⟨i,u⟩ w ⟨f,t⟩;dsimp only at t f ⊢;have H:=f.l4;have su:=H.sy 0 (·.slc);have hi:=t;clear t;refine Z0 7 [0] Z (Ak 22 Z (λh1=>?_) (λh1=>?_))
 ·refine Z0 5 [0] Z (Ag Z (λs=>?_) (λs=>?_))
  ·refine Zc 4 Z ?_;obtain ⟨m,j⟩:∃m,ims[i]?=some m:=⟨_,AbF U⟩;replace H:=H.f1.f2;refine AK (Sep z (blk p [Aa e,Aa q,u,u32 (AC (AF e q ims))] 233::A::R)) 11 Z J (A4 H λw f=>?_)
   have H:=f.l4;refine A6 [0,1,2,3] [2,0] J (λ_ hx=>(AQ (hx.blk 0 Z) AJ)) (by exact H.pick 4 [0,1] Z) Z J Z Z (AR 4 J Z Z J J J Z Z Z (GQ Z Z Z (r:=((4*i:Nat):Int)) U U) (H.pick 4 [0,1] Z) (AR 5 J Z Z J J J Z Z Z (CA Z Z Z (r:=((26+4*i:Nat):Int)) U U) (H.pick 4 [0,1] Z) (An [6] J O (Ar (Ba Z Z Z Z Z Z (λw=>call142 _ w) (Co _ sec _ g (26+4*i) 4 (by first|omega|simp_all)) H.f1 Z ?_)))));rintro _ w _ ⟨rfl,rfl⟩ H;replace H:=H.l4;refine k_updA 34 (v:=Aa m.num) Z (congrArg Aa (by rw[a];exact Tv k.2 j (l m (AbG j)))) (Am (λ_=>(H.pick 4 [1,0] Z)) (An [7] J O (Ar (Ck Z Z Z Z (AL H Z J BP Z (by decide) (by decide) (out:=[Aa m.num]) J) ?_))));rintro _ w ⟨b3,rfl,H⟩;replace H:=H.l5;refine Am (λ_=>(H.pick 5 [2,1] Z)) (An [8] J O (Ar (Ck Z Z Z Z (AO 3 H Z Z J BP Z Z (H.rv 0 (·.rd U U O Z)) (by simp[Value.oneCell']) U) ?_)));rintro v4 w f;have f:Sep z (blk b3 [Aa m.num] 3::A::blk p [Aa e,Aa q,u,u32 (AC (AF e q ims))] 233::grow 3 1 v4 (i+1) (((ims.take i).map Img.num).map Aa++[Aa m.num])::blk x [Aa 0,Aa 0,.slice none 0 0,u32 0] 233::R) w:=f;have a0:(((ims.take i).map Img.num).map Aa++[Aa m.num]:List Value)=((ims.take (i+1)).map Img.num).map Aa:=(by rw[AbZ,j];simp);rw[a0] at f;have H:=f.l5;have n:=H.sy 3 (·.slc);refine Am (λ_=>(H.pick 5 [2,1] Z)) (A6 [9] [2] J (λ_ _=>AJ) (by exact H.pick 5 [2,1] Z) Z J Z Z (An [10] J O (Ar (B6 Z Z Z (Kp 2 H Z Z Z Z n.cells n.one J) ?_))));rintro w H;replace H:=H.l5;refine Am (λh=>absurd Z h) (AT J (gn (Z1 7 [] [(i:Int)+1] Z U ?_)));replace H:=H.d.f3.f2.f2.f3;refine gf ?_;intro _ hF;refine ⟨⟨i+1,v4⟩,hF.cz,⟨H,?_⟩,?_⟩
   ·show i+1<=ims.length;omega
   (dsimp only;omega)
  (exfalso;omega)
 refine Zc 8 Z (gx (Zc 3 Z ?_));obtain rfl:i=ims.length:=by omega
 rw[AcB] at H;refine Z2 2 [2,4] H Z (AA Z (call221 _) (Kh e q _ (ims.map Img.num) _ _ (λh q=>by have e9:(ims.map Img.num).length=ims.length:=AbN ..;rw[e9];exact q.rd) U U (by rw[AbN];omega) (λy hy=>by obtain ⟨m9,h9,rfl⟩:=AbP.1 hy;exact (l m9 h9).1)) H ?_);rintro _ w _ ⟨u5,rfl,rfl⟩ H;replace H:=H.l5;have a3:=H.sy 0 (·.slc);refine Z0 15 [4] Z (Ai Z (call140 _) (Fy _ _ (sect (Bv e q ims)) sec _ _ (λh q=>q.rd) g) H.f2.f1 ?_);intro w H;replace H:=H.l5;refine k_updA 48 (v:=.bool true) Z (congrArg Value.bool (decide_eq_true a.symm)) (Z2 10 [3,4] H Z (A9 Z Z (AD 4 H Z Z Z Z (vs:=[Aa e,Aa q,u,u32 (AC (AF e q ims))]) Z (Aq Z (Aq Z (Aq su.one (Aq Z AN)))) J O (out:=[Aa e,Aa q,u,u32 (AC (AF e q ims))]) Z) ?_));rintro w H;replace H:=H.l5;refine Zc 4 Z (Zl [4,4] H Z ?_);exact ⟨_,⟨_,Z,Z⟩,H.pick 5 [2,1] Z⟩
theorem Io(ns:List Int)(g:Value)(A:Ah)(f:∀h,A h->rdH 1 g ns.length (ns.map Aa) h)(hl:ns.length=120)(e:∀y∈ns,0<=y/\y<=1000):Aj 159 [g] [A] (λv G=>∃l:Value,v=.tuple #[l,Aa 0]/\G=[grow 5 1 l (DG ns).length ((DG ns).map u8),A]):=by
 intro z R w H;obtain ⟨ao,t,rfl⟩:=H.sy 0 (λq=>(f _ q).slc);refine Ac func159 Z ntmps159 Z (Zc 13 Z ?_);replace H:=(H.nilg 5 1).l2;refine Zc 5 Z ?_;refine Ay (σ:=Nat×Value) (λ⟨i,u⟩=>[(5,Aa (i:Int)),(4,u),(0,.slice ao ns.length t)])
   (λ⟨i,u⟩ w=>Sep z (grow 5 1 u (((ns.take i).flatMap (Af 2)).length) (((ns.take i).flatMap (Af 2)).map u8)::A::R) w/\(i<=ns.length)) (λ⟨i,u⟩=>ns.length-i) ⟨0,.slice none 0 0⟩
   (λ_ b=>(b.co Z (by go_num) b.cz)) ⟨(by simpa using H),AbV _⟩ ?_
 clear H;rintro ⟨i,u⟩ w ⟨k,d⟩;dsimp only at d k ⊢;have H:=k.l2;have su:=H.sy 0 (·.slc);have hi:=d;clear d;refine Z0 9 [0] Z (Ag Z (λx=>?_) (λx=>?_))
 ·refine Zc 6 Z ?_;obtain ⟨y,c⟩:∃y,ns[i]?=some y:=⟨_,AbF U⟩;have p:=e y (AbG c)
  have a:=(H.rd 1 Z f).at (j:=i) (u:=Aa y) (by rw[AbY,c];rfl);refine Zc 3 Z (Ad Z (Az Z (z:=1) (j:=i) (r:=i) J Z Z Z U a U) (Ad Z (AM Z Z J (AB a)) (Ai Z (call156 _) (Dj _ _) H ?_)));intro w H;refine Ad Z (AW Z Z) (Zc 2 Z (Ag Z (λn=>U) (λn=>?_)));refine Zc 2 Z ?_;have a:=(H.rd 1 Z f).at (j:=i) (u:=Aa y) (by rw[AbY,c];rfl);refine Zc 4 Z (Ad Z (Az Z (z:=1) (j:=i) (r:=i) J Z Z Z U a U) (Ad Z (AM Z Z J (AB a)) ?_));replace H:=(H.mono 0 (B:=bsA 5 u ((ns.take i).flatMap (Af 2))) Z (λh q=>.inr q)).l2;refine AA Z (call157 _) (Cr _ ((ns.take i).flatMap (Af 2)) y 2 U (by first|omega|(simp only[AbH,AbI,AbO,AbQ,AbM,Ae,Al,Ao]<;>omega)|(simp[Ae,Al,Ao,Sup.list,sect_len]<;>omega)|simp[Ae,Al,Ao,Sup.list,sect_len])) H ?_;rintro m w _ ⟨_,rfl,rfl⟩ H;have o:=H.sy 0 (·.slc);refine Zc 2 Z ?_;rw[show (((ns.take i).flatMap (Af 2))++Af 2 y)=(ns.take (i+1)).flatMap (Af 2) from (by rw[AbZ,c];simp)] at H;refine Z1 7 [] [(i:Int)+1] Z U (gf ?_);intro _ b;refine ⟨⟨i+1,m⟩,b.cz,⟨H,?_⟩,?_⟩
  ·show i+1<=ns.length;omega
  (dsimp only;omega)
 refine Zc 2 Z (gx (Zc 4 Z ?_));rw[show ns.take i=ns from AbJ U] at H;refine Z0 6 [0] Z (Ag Z (λs=>U) (λs=>?_));refine Zc 10 Z (Zr Z ?_);exact ⟨_,⟨_,Z,Z⟩,H.pick 2 [0,1] Z⟩
theorem Nn(v:Value)(sec:List UInt8)(A:Ah)(k:∀h,A h->rdH 1 v sec.length (sec.map u8) h)(ns:List Int)(n:ns.length=120)(g:∀y∈ns,0<=y/\y<=1000)(a:sec=DG ns):Aj 195 [v] [A] (λv G=>∃f:Value,v=.tuple #[f,.bool true]/\G=[grow 3 1 f ns.length (ns.map Aa),A]):=by
 intro z R w H;have t:sec.length=240:=by rw[a];exact Fx n
 obtain ⟨b,o,c,rfl⟩:=H.sy 0 (λq=>(k _ q).sl (by rw[AbN];omega));have r:=H.sy 0 (λq=>(k _ q).cap);refine Ac func195 Z ntmps195 Z (Zc 13 Z ?_);replace H:=(H.nilg 3 1).l2;refine Zc 5 Z ?_;refine Ay (σ:=Nat×Value) (λ⟨i,u⟩=>[(5,Aa (i:Int)),(4,u),(0,.slice (some ⟨b,o,none⟩) sec.length c),(2,.slice none 0 0),(3,.bool false)])
   (λ⟨i,u⟩ w=>Sep z (grow 3 1 u i ((ns.take i).map Aa)::A::R) w/\(i<=120)) (λ⟨i,u⟩=>120-i) ⟨0,.slice none 0 0⟩
   (λ_ j=>(j.co Z (by go_num) j.cz)) ⟨(by simpa using H),AbV _⟩ ?_
 clear H;rintro ⟨i,u⟩ w ⟨e,l⟩;dsimp only at l e ⊢;have H:=e.l2;have su:=H.sy 0 (·.slc);have hi:=l;clear l;refine Z0 7 [0] Z (Ag Z (λh1=>?_) (λh1=>?_))
 ·refine Zc 4 Z ?_;obtain ⟨y,p⟩:∃y,ns[i]?=some y:=⟨_,AbF U⟩;refine Z1 5 [] [((2*i:Nat):Int)] Z U (Ai Z (call142 _) (Co _ sec _ k (2*i) 2 (by first|omega|simp_all)) H.f1 ?_);intro w H;refine k_updA 16 (v:=Aa y) Z (congrArg Aa (by rw[a];exact RV g p)) (AG Z (AL H Z J BP Z (by decide) (by decide) (out:=[Aa y]) J) ?_);rintro _ w ⟨b1,rfl,H⟩;refine AG Z (AO 2 H Z Z J BP Z Z (H.rv 0 (·.rd U U O Z)) (by simp[Value.oneCell']) U) ?_;rintro f w e;have e:Sep z (blk b1 [Aa y] 3::A::grow 3 1 f (i+1) ((ns.take i).map Aa++[Aa y])::R) w:=e
  have m:((ns.take i).map Aa++[Aa y]:List Value)=(ns.take (i+1)).map Aa:=(by rw[AbZ,p];simp);rw[m] at e;have H:=e.l3;have s:=H.sy 2 (·.slc);refine Z1 9 [] [(i:Int)+1] Z U ?_;replace H:=H.d.f1;refine gf ?_;intro _ j;refine ⟨⟨i+1,f⟩,j.cz,⟨H,?_⟩,?_⟩
  ·show i+1<=120;omega
  (dsimp only;omega)
 refine Zc 2 Z (gx (Zc 3 Z ?_));obtain rfl:i=120:=by omega
 rw[show ns.take 120=ns from AbJ U,show (120:Nat)=ns.length from n.symm] at H;refine Zc 2 Z (AA Z (call159 _) (Io ns _ _ (λh q=>q.rd) n g) H ?_);rintro _ w _ ⟨u3,rfl,rfl⟩ H;have x:=H.sy 0 (·.slc);refine Z0 15 [4] Z (Ai Z (call140 _) (Fy _ _ (DG ns) sec _ _ (λh q=>q.rd) k) H.f2.f1 ?_);intro w H;refine k_updA 29 (v:=.bool true) Z (congrArg Value.bool (decide_eq_true a.symm)) (Zc 15 Z (Zr Z ?_));exact ⟨_,⟨_,Z,Z⟩,H.pick 3 [2,1] Z⟩
theorem R6:Aj 158 [.agg #[Aa 0,Aa 0,Aa 0,Aa 0,Aa 0,Aa 0]] [] (λv G=>v=.bool true/\G=[]):=by
 intro z R w H;refine Ac func158 Z ntmps158 Z (Za 2 [] H Z ?_);intro f w H;refine Z2 7 [0,0,0] H Z (Ai Z (call156 _) (Dj _ _) H ?_);intro w H;refine Zc 1 Z (Ak 6 Z (λe=>?_) (λe=>?_))
 ·refine Z2 2 [1,0,0] H Z (Ai Z (call156 _) (Dj _ _) H ?_);intro w H;refine Zc 2 Z (Ak 11 Z (λa=>?_) (λa=>?_))
  ·refine Z2 2 [2,0,0] H Z (Ai Z (call156 _) (Dj _ _) H ?_);intro w H;refine Zc 2 Z (Ak 16 Z (λd=>?_) (λd=>?_))
   ·refine Z2 2 [3,0,0] H Z (Ai Z (call156 _) (Dj _ _) H ?_);intro w H;refine Zc 2 Z (Ak 21 Z (λc=>?_) (λc=>?_))
    ·refine Z2 2 [5,0,0] H Z (Ai Z (call156 _) (Dj _ _) H ?_);intro w H;refine Zc 2 Z (Ak 26 Z (λb=>?_) (λb=>?_))
     ·refine Z2 2 [4,0,0] H Z (Ai Z (call156 _) (Dj _ _) H ?_);intro w H;refine Zc 5 Z (Zr Z ?_);exact ⟨_,⟨congrArg Value.bool (decide_eq_true U),Z⟩,H.pick 1 [] Z⟩
     (exfalso;omega)
    (exfalso;omega)
   (exfalso;omega)
  (exfalso;omega)
 (exfalso;omega)
set_option maxHeartbeats 2000000 in
theorem R7 (y:Value) (A:Ah) (n:∀h,A h->rdH 6 y 8 GG h):Aj 91 [.agg #[Aa 1,y,.slice none 0 0]] [A] (λv G=>∃(v2:Value) (cb:List UInt8),cb.length=240/\v=.tuple #[v2,Aa 0]/\G=[grow 5 1 v2 cb.length (cb.map u8),A]):=by
 intro z R w H;obtain ⟨o,s,rfl⟩:=H.sy 0 (λq=>(n _ q).slc);refine Ac func91 Z ntmps91 Z (Za 2 [] H Z ?_);intro e w H;refine Z2 9 [0,0,0] H Z (Ai Z (call156 _) (Dj _ _) H ?_);intro w H;refine Ad Z (AW Z Z) (Zc 1 Z (Ak 12 Z (λh1=>U) (λh1=>?_)));refine Z2 17 [2,0,0,4,1,0,0,4] H Z (AK (Sep z (blk e [Aa 1,.slice o 8 s,.slice none 0 0] 139::R)) 8 Z J (A4 H λw a=>?_));have H:=a.l2;refine A6 [0,1,3,4] [0,0,2,0] J (λ_ c=>(AQ (c.blk 0 Z) AJ)) (by exact H.pick 2 [0] Z) Z J Z Z (AR 5 J Z Z J J J Z Z Z (EC Z (z:=1) J Z) (H.pick 2 [0] Z) (An [2] J O (Ar ?_)));replace H:=(H.nilg 5 1).l3;replace H:=(H.mono 0 (B:=bsA 5 (.slice none 0 0) ([]:List UInt8)) Z (λh q=>.inr q)).l3;refine Ba Z Z Z Z Z Z (λw=>call157 _ w) (Cr _ ([]:List UInt8) 1 4 U (by first|omega|(simp only[AbH,AbI,AbO,AbQ,AbM,Ae,Al,Ao]<;>omega)|(simp[Ae,Al,Ao,Sup.list,sect_len]<;>omega)|simp[Ae,Al,Ao,Sup.list,sect_len])) H Z ?_;rintro u2 w _ ⟨_,rfl,rfl⟩ H;have a1:=H.sy 0 (·.slc);refine Am (λ_=>(H.pick 3 [1] Z)) (An [6] J O (Ar ?_));replace H:=(H.mono 0 (B:=bsA 5 u2 (([]:List UInt8)++Af 4 1)) Z (λh q=>.inr q)).l3;refine Ba Z Z Z Z Z Z (λw=>call157 _ w) (Cr _ (([]:List UInt8)++Af 4 1) 0 1 U (by first|omega|(simp only[AbH,AbI,AbO,AbQ,AbM,Ae,Al,Ao]<;>omega)|(simp[Ae,Al,Ao,Sup.list,sect_len]<;>omega)|simp[Ae,Al,Ao,Sup.list,sect_len])) H Z ?_;rintro u3 w _ ⟨_,rfl,rfl⟩ H;have m:=H.sy 0 (·.slc);refine Am (λ_=>(H.pick 3 [1] Z)) (An [7] J O (Ar (B5 Z Z Z Z (AS Z Z) (Am (λh=>absurd Z h) (AT J (gn (Zc 8 Z ?_)))))));refine Ay (σ:=Nat) (λk=>[(5,Aa (k:Int)),(4,u3),(1,V e)])
   (λk w=>Sep z (grow 5 1 u3 (((([]:List UInt8)++Af 4 1)++Af 1 0).length) (((([]:List UInt8)++Af 4 1)++Af 1 0).map u8)::blk e [Aa 1,.slice o 8 s,.slice none 0 0] 139::A::R) w/\(True)) (λk=>0) 0
   fr_z ⟨H,trivial⟩ ?_
 clear H;rintro k w ⟨a,g⟩;have H:=a.l3;have m:=H.sy 0 (·.slc);refine Z2 10 [2,1,0,0] H Z (Ag Z (λh2=>U) (λh2=>?_));refine Zc 2 Z (gx (Zc 5 Z (AA Z (call141 _) (Ga _ ((([]:List UInt8)++Af 4 1)++Af 1 0) 21 ⟨by first|omega|(simp only[AbH,AbI,AbO,AbQ,AbM,Ae,Al,Ao]<;>omega)|(simp[Ae,Al,Ao,Sup.list,sect_len]<;>omega)|simp[Ae,Al,Ao,Sup.list,sect_len],by omega⟩) H ?_)));rintro u4 w _ ⟨_,rfl,rfl⟩ H;have a7:=H.sy 0 (·.slc);refine Zc 5 Z ?_;have p:((((([]:List UInt8)++Af 4 1)++Af 1 0)++List.replicate (21-((([]:List UInt8)++Af 4 1)++Af 1 0).length) (0:UInt8))).length=21:=by simp[Ae]
 refine Zc 5 Z ?_;refine Ay (σ:=Nat×Value×List UInt8) (λ⟨i,u,bs⟩=>[(6,Aa (i:Int)),(4,u),(1,V e)])
   (λ⟨i,u,bs⟩ w=>Sep z (grow 5 1 u bs.length (bs.map u8)::blk e [Aa 1,.slice o 8 s,.slice none 0 0] 139::A::R) w/\(i<=8/\bs.length=21+19*i)) (λ⟨i,u,bs⟩=>8-i) ⟨0,u4,(((([]:List UInt8)++Af 4 1)++Af 1 0)++List.replicate (21-((([]:List UInt8)++Af 4 1)++Af 1 0).length) (0:UInt8))⟩
   fr_z ⟨H,⟨AbV _,p⟩⟩ ?_
 clear H;rintro ⟨i,u,bs⟩ w ⟨a,g⟩;dsimp only at g a ⊢;have H:=a.l3;have su:=H.sy 0 (·.slc);obtain ⟨hi,a3⟩:=g;refine Z0 7 [0] Z (Ag Z (λh3=>?_) (λh3=>?_))
 ·refine Zc 5 Z ?_;have b:=(H.rd 2 Z n).at (Kf (show i<8 by omega) 0 _ Z)
  refine Z2 4 [1,1,0] H Z (Ad Z (Az Z (z:=6) (j:=i) (r:=i*6) J Z Z Z U b U) (Ad Z (BU Z Z (vs:=[Aa 0,Aa 0,Aa 0,Aa 0,Aa 0,Aa 0]) J O (AB (λk u hk=>(H.rd 2 Z n).at (Kf U k u hk)))) (Za 0 [] H Z ?_)));intro b5 w H;refine Z4 7 [0,0,6] H Z ?_;intro w H;refine Ai Z (call158 _) (R6) H ?_;intro w H;refine Zc 7 Z (AK (Sep z (blk b5 [Aa 0,Aa 0,Aa 0,Aa 0,Aa 0,Aa 0] 207::R)) 11 Z J (A4 H λw a=>?_));have H:=a.l4;refine A6 [0,1,2,4,5,7,8] [0,0,1,0,2,0] J (λ_ c=>(AQ (c.blk 0 Z) AJ)) (by exact H.pick 4 [0] Z) Z J Z Z (An [3] J O (Ar ?_));replace H:=(H.mono 1 (B:=bsA 5 u bs) Z (λh q=>.inr q)).l4;refine Ba Z Z Z Z Z Z (λw=>call157 _ w) (Cr _ bs 0 4 U (by first|omega|(simp only[AbH,AbI,AbO,AbQ,AbM,Ae,Al,Ao]<;>omega)|(simp[Ae,Al,Ao,Sup.list,sect_len]<;>omega)|simp[Ae,Al,Ao,Sup.list,sect_len])) H.f1 Z ?_;rintro u6 w _ ⟨_,rfl,rfl⟩ H;have a6:=H.sy 0 (·.slc);refine Am (λ_=>(H.pick 4 [1] Z)) (An [6] J O (Ar ?_));replace H:=(H.mono 0 (B:=bsA 5 u6 (bs++Af 4 0)) Z (λh q=>.inr q)).l4;refine Ba Z Z Z Z Z Z (λw=>call157 _ w) (Cr _ (bs++Af 4 0) 0 1 U (by first|omega|(simp only[AbH,AbI,AbO,AbQ,AbM,Ae,Al,Ao]<;>omega)|(simp[Ae,Al,Ao,Sup.list,sect_len]<;>omega)|simp[Ae,Al,Ao,Sup.list,sect_len])) H Z ?_;rintro u7 w _ ⟨_,rfl,rfl⟩ H;have a4:=H.sy 0 (·.slc);refine Am (λ_=>(H.pick 4 [1] Z)) (An [9] J O (Ar ?_));replace H:=(H.mono 0 (B:=bsA 5 u7 (bs++Af 4 0++Af 1 0)) Z (λh q=>.inr q)).l4;refine Ba Z Z Z Z Z Z (λw=>call157 _ w) (Cr _ (bs++Af 4 0++Af 1 0) 0 4 U (by first|omega|(simp only[AbH,AbI,AbO,AbQ,AbM,Ae,Al,Ao]<;>omega)|(simp[Ae,Al,Ao,Sup.list,sect_len]<;>omega)|simp[Ae,Al,Ao,Sup.list,sect_len])) H Z ?_;rintro u8 w _ ⟨_,rfl,rfl⟩ H;have a2:=H.sy 0 (·.slc);refine Am (λ_=>(H.pick 4 [1] Z)) (An [10] J O (Ar (B5 Z Z Z Z (AS Z Z) (Am (λh=>absurd Z h) (AT J (gn (Zc 1 Z ?_)))))));replace H:=H.f1;refine AK (Sep z (blk b5 [Aa 0,Aa 0,Aa 0,Aa 0,Aa 0,Aa 0] 207::R)) 11 Z J (A4 H λw a=>?_);have H:=a.l4;refine A6 [0,1,2,4,5,7,8] [3,0,4,0,5,0] J (λ_ c=>(AQ (c.blk 0 Z) AJ)) (by exact H.pick 4 [0] Z) Z J Z Z (An [3] J O (Ar ?_));replace H:=(H.mono 1 (B:=bsA 5 u8 (bs++Af 4 0++Af 1 0++Af 4 0)) Z (λh q=>.inr q)).l4;refine Ba Z Z Z Z Z Z (λw=>call157 _ w) (Cr _ (bs++Af 4 0++Af 1 0++Af 4 0) 0 4 U (by first|omega|(simp only[AbH,AbI,AbO,AbQ,AbM,Ae,Al,Ao]<;>omega)|(simp[Ae,Al,Ao,Sup.list,sect_len]<;>omega)|simp[Ae,Al,Ao,Sup.list,sect_len])) H.f1 Z ?_;rintro u9 w _ ⟨_,rfl,rfl⟩ H;have a5:=H.sy 0 (·.slc);refine Am (λ_=>(H.pick 4 [1] Z)) (An [6] J O (Ar ?_));replace H:=(H.mono 0 (B:=bsA 5 u9 (bs++Af 4 0++Af 1 0++Af 4 0++Af 4 0)) Z (λh q=>.inr q)).l4;refine Ba Z Z Z Z Z Z (λw=>call157 _ w) (Cr _ (bs++Af 4 0++Af 1 0++Af 4 0++Af 4 0) 0 2 U (by first|omega|(simp only[AbH,AbI,AbO,AbQ,AbM,Ae,Al,Ao]<;>omega)|(simp[Ae,Al,Ao,Sup.list,sect_len]<;>omega)|simp[Ae,Al,Ao,Sup.list,sect_len])) H Z ?_;rintro f w _ ⟨_,rfl,rfl⟩ H;have a0:=H.sy 0 (·.slc);refine Am (λ_=>(H.pick 4 [1] Z)) (An [9] J O (Ar ?_));replace H:=(H.mono 0 (B:=bsA 5 f (bs++Af 4 0++Af 1 0++Af 4 0++Af 4 0++Af 2 0)) Z (λh q=>.inr q)).l4;refine Ba Z Z Z Z Z Z (λw=>call157 _ w) (Cr _ (bs++Af 4 0++Af 1 0++Af 4 0++Af 4 0++Af 2 0) 0 4 U (by first|omega|(simp only[AbH,AbI,AbO,AbQ,AbM,Ae,Al,Ao]<;>omega)|(simp[Ae,Al,Ao,Sup.list,sect_len]<;>omega)|simp[Ae,Al,Ao,Sup.list,sect_len])) H Z ?_;rintro l w _ ⟨_,rfl,rfl⟩ H;have t:=H.sy 0 (·.slc);refine Am (λ_=>(H.pick 4 [1] Z)) (An [10] J O (Ar (B5 Z Z Z Z (AS Z Z) (Am (λh=>absurd Z h) (AT J (gn (Z1 7 [] [(i:Int)+1] Z U ?_)))))));replace H:=H.f1.d;refine gf ?_;intro _ hF;refine ⟨⟨i+1,l,bs++Af 4 0++Af 1 0++Af 4 0++Af 4 0++Af 2 0++Af 4 0⟩,hF.cz,⟨H,?_⟩,?_⟩
  ·exact ⟨by show i+1<=8;omega,by dsimp only;simp[Ae];omega⟩
  (dsimp only;omega)
 refine Zc 2 Z (gx (Zc 5 Z (AA Z (call141 _) (Ga _ bs 240 ⟨by first|omega|(simp only[AbH,AbI,AbO,AbQ,AbM,Ae,Al,Ao]<;>omega)|(simp[Ae,Al,Ao,Sup.list,sect_len]<;>omega)|simp[Ae,Al,Ao,Sup.list,sect_len],by omega⟩) H ?_)));rintro a8 w _ ⟨_,rfl,rfl⟩ H;have x:=H.sy 0 (·.slc);refine Zc 5 Z (Zr Z ?_);exact ⟨_,⟨_,_,by simp;omega,Z,Z⟩,H.pick 3 [0,2] Z⟩
theorem X5(a n:Nat)(lo:Option Addr)(b:Nat)(c:n<=4096):Aj 148 [V a] [blk a [.slice lo n b,Aa 0,Aa 0,Aa 0,Aa 0,Aa (-1)] 133] (λv G=>v=Aa (n:Int)/\G=[blk a [.slice lo n b,Aa 0,Aa 0,Aa 0,Aa 0,Aa (-1)] 133]):=by
 intro z R w H;refine Ac func148 Z ntmps148 Z (Z2 16 [0,0,0] H Z (Zr Z ?_));exact ⟨_,⟨Z,Z⟩,H.pick 1 [0] Z⟩
theorem Np(a n:Nat)(lo:Option Addr)(b:Nat)(d:n<=4096)(x k:Int):Aj 137 [V a,Aa x,Aa k] [blk a [.slice lo n b,Aa 0,Aa 0,Aa 0,Aa 0,Aa (-1)] 133] (λv G=>v=.bool (decide (0<=x/\1<=k/\x<(n:Int)/\k<=(n:Int)-x))/\G=[blk a [.slice lo n b,Aa 0,Aa 0,Aa 0,Aa 0,Aa (-1)] 133]):=by
 intro z R w H;refine Ac func137 Z ntmps137 Z (Z0 10 [0] Z (Ak 9 Z (λf=>?_) (λf=>?_)))
 ·refine Z0 4 [0] Z (Ak 13 Z (λc=>?_) (λc=>?_))
  ·refine Z2 9 [0,0,0,0] H Z (Ak 22 Z (λe=>?_) (λe=>?_))
   ·refine Z3 14 [0,0,0,0] [(n:Int)-x] H Z U (Zr Z ?_);exact ⟨_,⟨congrArg Value.bool (by first|(rw[eq_comm,decide_eq_false_iff_not];omega)|(rw[Ab0];simp<;>omega)),Z⟩,H.pick 1 [0] Z⟩
   refine Zc 14 Z (Zr Z ?_);exact ⟨_,⟨congrArg Value.bool (by first|(rw[eq_comm,decide_eq_false_iff_not];omega)|(rw[Ab0];simp<;>omega)),Z⟩,H.pick 1 [0] Z⟩
  refine Zc 23 Z (Zr Z ?_);exact ⟨_,⟨congrArg Value.bool (by first|(rw[eq_comm,decide_eq_false_iff_not];omega)|(rw[Ab0];simp<;>omega)),Z⟩,H.pick 1 [0] Z⟩
 refine Zc 27 Z (Zr Z ?_);exact ⟨_,⟨congrArg Value.bool (by first|(rw[eq_comm,decide_eq_false_iff_not];omega)|(rw[Ab0];simp<;>omega)),Z⟩,H.pick 1 [0] Z⟩
theorem R8(a n:Nat)(lo:Option Addr)(b:Nat)(c:n<=4096):Aj 138 [V a,Aa 1] [blk a [.slice lo n b,Aa 0,Aa 0,Aa 0,Aa 0,Aa (-1)] 133] (λv G=>v=.bool false/\G=[blk a [.slice lo n b,Aa 0,Aa 0,Aa 0,Aa 0,Aa (-1)] 133]):=by
 intro z R w H;refine Ac func138 Z ntmps138 Z (Z3 24 [1,4,1,1,2,0,0,3] [] H Z U (Zr Z ?_));exact ⟨_,⟨Z,Z⟩,H.pick 1 [0] Z⟩
theorem R9(a n:Nat)(lo:Option Addr)(b:Nat)(c:n<=4096):Aj 138 [V a,Aa 2] [blk a [.slice lo n b,Aa 0,Aa 0,Aa 0,Aa 0,Aa (-1)] 133] (λv G=>v=.bool false/\G=[blk a [.slice lo n b,Aa 0,Aa 0,Aa 0,Aa 0,Aa (-1)] 133]):=by
 intro z R w H;refine Ac func138 Z ntmps138 Z (Z3 24 [1,4,1,2,3,0,0,3] [] H Z U (Zr Z ?_));exact ⟨_,⟨Z,Z⟩,H.pick 1 [0] Z⟩
theorem Sa(a n:Nat)(lo:Option Addr)(b:Nat)(c:n<=4096):Aj 138 [V a,Aa 3] [blk a [.slice lo n b,Aa 0,Aa 0,Aa 0,Aa 0,Aa (-1)] 133] (λv G=>v=.bool false/\G=[blk a [.slice lo n b,Aa 0,Aa 0,Aa 0,Aa 0,Aa (-1)] 133]):=by
 intro z R w H;refine Ac func138 Z ntmps138 Z (Z3 24 [1,4,1,3,4,0,0,3] [] H Z U (Zr Z ?_));exact ⟨_,⟨Z,Z⟩,H.pick 1 [0] Z⟩
theorem O3(a n:Nat)(lo:Option Addr)(b:Nat)(c:n<=4096):Aj 170 [V a] [blk a [.slice lo n b,Aa 0,Aa 0,Aa 0,Aa 0,Aa (-1)] 133] (λv G=>v=.tuple #[]/\G=[blk a [.slice lo n b,Aa 0,Aa 0,Aa 0,Aa 0,Aa (-1)] 133]):=by
 intro z R w H;refine Ac func170 Z ntmps170 Z (Z2 11 [5,0,0,4] H Z (Zf Z ?_));exact ⟨_,⟨Z,Z⟩,H.pick 1 [0] Z⟩
theorem O4(pr n:Nat)(lo:Option Addr)(t:Nat)(a3:n<=4096)(rows:List RRow)(hq:Hp)(i:Nat)(r:RRow)(e:rows[i]?=some r)(p:List UInt8)(g:r.Ok hq p)(a2:i<n):Aj 139 [V pr,Aa (i:Int)] [blk pr [.slice lo n t,Aa 0,Aa 0,Aa 0,Aa 0,Aa (-1)] 133,grow 135 2 (.slice lo n t) n (Cv rows),poolA hq,seps (rows.map RRow.asn)] (λv G=>∃u:Value,rdH 1 u 256 (p.map u8) hq/\v=u/\G=[blk pr [.slice lo n t,Aa 0,Aa 0,Aa 0,Aa 0,Aa (-1)] 133,grow 135 2 (.slice lo n t) n (Cv rows),poolA hq,seps (rows.map RRow.asn)]):=by
 intro z R w H;refine Ac func139 Z ntmps139 Z (Zc 6 Z ?_);have m:=g.l;obtain ⟨b,dc,h⟩:=g.d;obtain ⟨dv,vv,a⟩:=r;dsimp only at h;subst h;obtain ⟨vo,vc,x⟩:Slc vv a.length:=H.sy 3 (λq=>(MX e q).slc);subst x;have y:=H.sy 3 (λq=>(MX e q).small);dsimp only at y;have f:=(H.rv 1 (·.rd)).at (EY e 0 _ Z);refine Z2 6 [0,0,0] H Z (Ad Z (Az Z (z:=2) (j:=i) (r:=i*2) J Z Z Z U f U) (Ad Z (BU Z Z (vs:=[.slice b 256 dc,.slice vo a.length vc]) J O (AB (λk u hk=>(H.rv 1 (·.rd)).at (EY e k u hk)))) (Za 0 [] H Z ?_)));intro b1 w H;refine Z4 12 [0,1,0,0,0] H Z ?_;intro w H;refine Ag Z (λh1=>?_) (λh1=>?_)
 ·refine Zc 1 Z ?_;obtain ⟨s,o⟩:∃s,a[a.length-1]?=some s:=⟨_,AbF U⟩;have c:=(H.rv 4 (λq=>MX e q)).at o
  have a1:RRow.last ⟨.slice b 256 dc,.slice vo a.length vc,a⟩=s:=by simp[RRow.last,Aey,o]
  refine Z3 7 [1,0,0,1,0,0] [((a.length-1:Nat):Int)] H Z U (Ad Z (Az Z (z:=1) (j:=(a.length-1)) (r:=(a.length-1)) J Z Z U U c U) (Ad Z (AM Z Z J (AB c)) (Zc 4 Z (Zr Z ?_))));exact ⟨_,⟨s,by rw[<-a1];exact m,Z,Z⟩,H.pick 5 [1,2,3,4] Z⟩
 refine Z2 10 [0,0,0] H Z (Zr Z ?_);have a0:a=[]:=Adl.1 U;exact ⟨_,⟨_,by have:=m;rw[show RRow.last ⟨.slice b 256 dc,.slice vo a.length vc,a⟩=.slice b 256 dc by simp[RRow.last,a0]] at this;exact this,Z,Z⟩,H.pick 5 [1,2,3,4] Z⟩
theorem Hb(c n m:Nat)(F:Nat->List UInt8)(a:Nat)(ha:a<n):Aj 84 [V c,Aa (a:Int),Aa 1] [rdkA c n F m] (λv G=>∃s:Value,v=.tuple #[s,Aa 0]/\G=[grow 5 1 s 256 ((F a).map u8),rdkA c n F m]):=by
 intro z R w H;obtain ⟨lv,rows,hq,f,b⟩:=H.rk;clear H;have a0:=f.1;have y:=f.2.1;have H:=b.l4;have g:=H.sy 1 (·.slc);obtain ⟨lo,d,rfl⟩:=g;obtain ⟨r,p⟩:∃r,rows[a]?=some r:=⟨_,AbF U⟩;have i:=(f.2.2 a r p).1;refine Ac func84 Z ntmps84 Z (Zc 12 Z (Ai Z (call137 _) (Np _ _ _ _ U _ _) H ?_));intro w H;refine Ad Z (AW Z Z) (Zc 2 Z (Ag Z (λh1=>U) (λh1=>?_)));refine Zc 6 Z (Ai Z (call138 _) (R8 _ _ _ _ U) H ?_);intro w H;refine Zc 6 Z ?_;replace H:=(H.nilg 5 1).l5;refine Zc 12 Z ?_;refine Ay (σ:=Nat×Value) (λ⟨j,u⟩=>[(9,Aa ((a+j:Nat):Int)),(8,u),(0,V c),(1,Aa (a:Int)),(2,Aa 1),(6,.slice none 0 0),(7,Aa 0)])
   (λ⟨j,u⟩ w=>Sep z (grow 5 1 u (256*j) (((List.replicate j (F a)).flatten).map u8)::blk c [.slice lo n d,Aa 0,Aa 0,Aa 0,Aa 0,Aa (-1)] 133::grow 135 2 (.slice lo n d) n (Cv rows)::poolA hq::seps (rows.map RRow.asn)::R) w/\(j<=1)) (λ⟨j,u⟩=>1-j) ⟨0,.slice none 0 0⟩
   (λ_ e=>(e.co Z (by go_num) e.cz)) ⟨(by simpa using H),AbV _⟩ ?_
 clear H;rintro ⟨j,u⟩ w ⟨b,k⟩;dsimp only at k b ⊢;have H:=b.l5;have su:=H.sy 0 (·.slc);have hj:=k;clear k;refine Z1 10 [0] [((a+1:Nat):Int)] Z U (Ag Z (λx=>?_) (λx=>?_))
 ·obtain rfl:j=0:=by omega
  refine Zc 8 Z (AA Z (call139 _) (O4 _ _ _ _ U _ _ a _ p _ i U) H.f4.f4.f4.f4 ?_);rintro lq w _ ⟨_,l,rfl,rfl⟩ H;refine AG Z (AO 4 H Z Z J Bf Z Z (H.rv 2 (λq=>l.le q)) (by intro c9 o;obtain ⟨b9,_,rfl⟩:=AbP.1 o;rfl) U) ?_;rintro t w b;have b:Sep z (blk c [.slice lo n d,Aa 0,Aa 0,Aa 0,Aa 0,Aa (-1)] 133::grow 135 2 (.slice lo n d) n (Cv rows)::poolA hq::seps (rows.map RRow.asn)::grow 5 1 t ((256*0)+256) (((List.replicate 0 (F a)).flatten).map u8++(F a).map u8)::R) w:=b;have h:(((List.replicate 0 (F a)).flatten).map u8++(F a).map u8:List Value)=((List.replicate (0+1) (F a)).flatten).map u8:=O;rw[h] at b;rw[show ((256*0)+256:Nat)=(256*(0+1)) from by omega] at b;have H:=b.l5;have a1:=H.sy 4 (·.slc);refine Z1 9 [] [((a+(0+1):Nat):Int)] Z U ?_;replace H:=H.f3.f3.f3.f3.f4;refine gf ?_;intro _ e;refine ⟨⟨0+1,t⟩,(e.all Z),⟨H,?_⟩,?_⟩
  ·show 0+1<=1;omega
  (dsimp only;omega)
 refine Zc 2 Z (gx (Zc 10 Z (Zr Z ?_)));obtain rfl:j=1:=by omega
 rw[show ((List.replicate 1 (F a)).flatten)=F a from by simp] at H;have b:=(H.pick 5 [1,2,3,4,0] Z).toRk f;exact ⟨_,⟨_,Z,Z⟩,b.pick 2 [1,0] Z⟩
section
section
variable{P:Program}{o:Oper}{n:Nat}{ds:List Deferred}{L:List (Nat×Value)}{x y:Operand}{v:Value}{z w:World}{Γ:List Ah}
theorem Jx(i:Nat)(H:Sep z Γ w){t e:TypeId}{sz m c q:Nat}{l:Option Addr}{xs vs:List Value}(r:Γ[i]?=some (grow e sz (.slice l m c) m xs))(ho:o.op=.store t x y)(hx:ev L x=some (FQ l q))(hy:ev L y=some v)(hv:v.cells=vs.toArray)(h1:∀u∈vs,u.oneCell'=true)
  (hs:(P.info? t).map (·.size)=some vs.length)(hm:0<m)(hq:q+vs.length<=m*sz){out:List Value}(d:xs.take q++vs++xs.drop (q+vs.length)=out):
  Dt P n ds L o w (λw'=>Sep z (Γ.set i (grow e sz (.slice l m c) m out)) w'):=λa hF=>by
 have k:xs.length=m*sz:=H.says i r (λh g=>g.len);obtain ⟨g,a1,rest,hu,h3,h4,h5,H2⟩:=H.ungrow i r hm;cases hu;have f:i<Γ.length:=(AbE.1 r).1;have s:(Γ.set i (blk g (xs++rest) e))[i]?=some (blk g (xs++rest) e):=by rw[AcJ f]
 have a0:m*sz+(c-m)*sz=c*sz:=by rw[<-Nat.add_mul];congr 1;omega
 obtain ⟨w',hr,H3⟩:=AD (P:=P) (n:=n) (ds:=ds) (L:=L) i H2 (p:=0+q) (vs:=vs) s ho hx hy hv h1 hs (by rw[AbH,k,h5];omega) (out:=out++rest) (by
  rw[AcW,AbR U,Ace U,<-d];simp only[AbK]) a hF
 refine ⟨w',hr,?_⟩;rw[Ad2] at H3;have j:out.length=m*sz:=by rw[<-d];simp only[AbH,AbM,Acc];omega
 have:=H3.mono i (B:=grow e sz (.slice (some ⟨g,0,none⟩) m c) m out) (by rw[AcJ f]) (λh b=>blk.grow b h3 h4 (by rw[AbH,j,h5];omega) (by rw[<-j,Acs];rfl));rw[Ad2] at this;exact this
end
theorem Jy{W:List RRow}{i:Nat}{x x2:RRow}(h:W[i]?=some x)(k:Nat)(a:List Value)(j:k+a.length<=2)(d:x.cells.take k++a++x.cells.drop (k+a.length)=x2.cells):(Cv W).take (i*2+k)++a++(Cv W).drop (i*2+k+a.length)=Cv (W.set i x2):=by
 obtain ⟨b,rfl⟩:=AbE.1 h;have g:W=W.take i++W[i]::W.drop (i+1):=by rw[<-Add b,AcC]
 have e:W.set i x2=W.take i++x2::W.drop (i+1):=by rw[AcK,if_pos b]
 have f:(Cv (W.take i)).length=i*2:=by rw[Xy,AbM,Acm U]
 have c:Cv W=Cv (W.take i)++(W[i].cells++Cv (W.drop (i+1))):=by
  have:=congrArg Cv g;rw[KG] at this;exact this.trans (congrArg (Cv (W.take i)++ ·) Z)
 have m:W[i].cells.length=2:=rfl;rw[c,e,KG];rw[AdK,Aco,f,show i*2+k-i*2=k by omega,show i*2+k+a.length-i*2=k+a.length by omega];rw[AbJ U,Ab6 (l:=Cv (W.take i)) U,Ab3];rw[AbR U,Ace U];show _=Cv (W.take i)++(x2.cells++Cv (W.drop (i+1)));rw[<-d];simp[AbK]
theorem Aaa(F:Nat->List UInt8)(i:Nat):BE F i (F i)=F:=by
 funext k;unfold BE;split
 ·rename_i e;rw[e]
 rfl
set_option maxHeartbeats 4000000 in
theorem Fz (pr n m:Nat) (c6:m<=1000000000) (F:Nat->List UInt8) (a k:Nat) (a7:Bool) (v:Value) (bs:List UInt8) (A:Ah) (hA:∀h,A h->rdH 1 v bs.length (bs.map u8) h) (c5:bs.length=256*k) (hk:1<=k) (c1:a+k<=n):Aj 149 [V pr,Aa (a:Int),v,.bool a7] [rdkA pr n F m,A] (λv G=>v=Aa 0/\G=[rdkA pr n (Ey F a bs k) (m+k),A]):=by
 intro z R w H;replace H:=H.l2;obtain ⟨lv,rows,hq,hX,t⟩:=H.rk;clear H;have c2:=hX.1;have c4:=hX.2.1;have H:=t.l5;have a8:=H.says 1 Z (λh q=>q.slc);obtain ⟨lo,lc,rfl⟩:=a8;obtain ⟨b,o,c,rfl⟩:=H.says 4 Z (λh q=>(hA h q).sl (by rw[AbN];omega));have b8:=H.says 4 Z (λh q=>(hA h q).cap);refine Ac func149 Z ntmps149 Z (Z1 19 [0] [(k:Int)] Z U (Ak 17 Z (λh1=>?_) (λh1=>?_)))
 ·(exfalso;omega)
 refine Z1 16 [4] [0] Z U (Ai Z (call137 _) (Np _ _ _ _ U _ _) H ?_);intro w H;replace H:=H.l5;refine Ad Z (AW Z Z) (Zc 2 Z (Ag Z (λh2=>?_) (λh2=>?_)))
 ·(exfalso;omega)
 refine Zc 6 Z (Ai Z (call138 _) (R9 _ _ _ _ U) H ?_);intro w H;refine Z2 19 [5,0,0,4] H Z ?_;refine Ay (σ:=Nat×List RRow×Hp) (λ⟨i,e,x⟩=>[(10,Aa (i:Int)),(0,V pr),(1,Aa (a:Int)),(2,.slice (some ⟨b,o,none⟩) bs.length c),(3,.bool a7),(8,Aa 0),(9,Aa (k:Int))])
   (λ⟨i,e,x⟩ w=>Sep z (blk pr [.slice lo n lc,Aa 0,Aa 0,Aa 0,Aa 0,Aa (-1)] 133::grow 135 2 (.slice lo n lc) n (Cv e)::poolA x::seps (e.map RRow.asn)::A::R) w/\(i<=k/\RdP n (Ey F a bs i) (m+i) e x)) (λ⟨i,e,x⟩=>k-i) ⟨0,rows,hq⟩
   fr_z ⟨H,⟨AbV _,by rw[ZB];exact hX⟩⟩ ?_
 clear H;rintro ⟨i,e,x⟩ w ⟨t,hI⟩;dsimp only at hI t ⊢;have H:=t.l5;obtain ⟨hi,y⟩:=hI;have c0:=y.1;refine Z0 8 [0] Z (Ag Z (λh3=>?_) (λh3=>?_))
 ·refine Z1 18 [] [((256*i:Nat):Int),((256*i:Nat):Int),((256*i+256:Nat):Int)] Z U (Ad Z (Bj Z (z:=1) (p:=(256*i)) (q:=(256*i+256)) (o':=o+256*i) (l':=256) (c':=c-256*i) J Z (.inr ⟨_,_,_,Z,Z,Z⟩) (.inr ⟨_,_,_,Z,Z,Z⟩) U U U U U U) ?_);replace H:=(H.nilg 5 1).l6
  refine AG Z (AO 0 H Z Z J Bf Z Z (H.rd 5 Z (λh q=>(hA h q).cut (lo:=256*i) (m:=256) U U U)) (by intro c9 b6;obtain ⟨b9,_,rfl⟩:=AbP.1 b6;rfl) U) ?_;rintro v1 w t;have b4:([]++((bs.drop (256*i)).take 256).map u8:List Value)=((bs.drop (256*i)).take 256).map u8:=(by rw[Ab3]);rw[b4] at t;have H:=t.l6;have b1:=H.says 0 Z (λh q=>q.slc);refine Zc 4 Z ?_;obtain ⟨l,f,rfl⟩:=b1;obtain ⟨r,hr⟩:∃r,e[a+i]?=some r:=⟨_,AbF U⟩;have a9:=(y.2.2 _ r hr).1;have b3:=(y.2.2 _ r hr).2;replace H:=H.f4;have t:=MY hr H;clear H;obtain ⟨u,dc,a5⟩:=a9.d;obtain ⟨dv,vv,g⟩:=r;dsimp only at a5 b3;subst a5;have t:Sep z (grow 38 1 vv g.length g::seps ((e.map RRow.asn).eraseIdx (a+i))::grow 5 1 (.slice l 256 f) 256 (((bs.drop (256*i)).take 256).map u8)::blk pr [.slice lo n lc,Aa 0,Aa 0,Aa 0,Aa 0,Aa (-1)] 133::grow 135 2 (.slice lo n lc) n (Cv e)::poolA x::A::R) w:=t;have H:=t.l7;have b0:=H.says 0 Z (λh q=>q.slc);obtain ⟨vo,vc,rfl⟩:=b0;have c3:=H.says 0 Z (λh q=>q.rd.small);have s:=(H.rd 4 Z (λh q=>q.rd)).at (EY hr 0 _ Z);have b5:=(H.rd 4 Z (λh q=>q.rd)).at (EY hr 1 _ Z);replace H:=H.f4.f4;refine AK (Sep z (blk pr [.slice lo n lc,Aa 0,Aa 0,Aa 0,Aa 0,Aa (-1)] 133::grow 135 2 (.slice lo n lc) n (Cv e)::R)) 23 Z J (A4 H λw t=>?_);have H:=t.l7;refine A6 [0,1,2,3,4,5] [0,0] J (λ_ hx=>(AQ (hx.blk 0 Z) AJ)) (by exact H.pick 7 [0,1] Z) Z J Z Z (AR 6 J Z Z J J J Z Z Z (CA Z Z Z (r:=((a+i:Nat):Int)) U U) (H.pick 7 [0,1] Z) (A6 [7,8,9,10,11,12] [0,0] J (λ_ hx=>(AQ (hx.blk 0 Z) AJ)) (by exact H.pick 7 [0,1] Z) Z J Z Z (AR 13 J Z Z J J J Z Z Z (CA Z Z Z (r:=((a+i:Nat):Int)) U U) (H.pick 7 [0,1] Z) (AR 14 J Z Z J J J Z Z Z (Az Z (z:=2) (j:=(a+i)) (r:=(a+i)*2) J Z Z Z U s U) (H.pick 7 [0,1] Z) (AR 15 J Z Z J J J Z Z Z (BN Z (k:=1) (r:=(a+i)*2+1) J Z s Z) (H.pick 7 [0,1] Z) (AR 16 J Z Z J J J Z Z Z (AM Z Z J (λ_ hs=>(hs.rd 1 Z (λh q=>q.rd)).at (EY hr 1 _ Z))) (H.pick 7 [0,1] Z) (A6 [17] [] J (λ_ _=>AJ) (by exact H.pick 7 [0,1] Z) Z J Z Z (An [18] J O (Ar (Ck Z Z Z Z (AL H Z J F0 Z (by decide) (by decide) (out:=[.slice l 256 f]) J) ?_))))))))));rintro _ w ⟨b2,rfl,H⟩;replace H:=H.l8;refine Am (λ_=>(H.pick 8 [1,2] Z)) (An [19] J O (Ar (Ck Z Z Z Z (AO 3 H Z Z J F0 Z Z (H.rd 0 Z (λh q=>q.rd U U O Z)) (Aq Z AN) U) ?_)));rintro v3 w t;have t:Sep z (blk b2 [.slice l 256 f] 38::blk pr [.slice lo n lc,Aa 0,Aa 0,Aa 0,Aa 0,Aa (-1)] 133::grow 135 2 (.slice lo n lc) n (Cv e)::grow 38 1 v3 (g.length+1) (g++[.slice l 256 f])::seps ((e.map RRow.asn).eraseIdx (a+i))::grow 5 1 (.slice l 256 f) 256 (((bs.drop (256*i)).take 256).map u8)::poolA x::A::R) w:=t;have b7:(g++[.slice l 256 f]:List Value)=g++[.slice l 256 f]:=O;rw[b7] at t;have H:=t.l8;have a6:=H.says 3 Z (λh q=>q.slc);refine Am (λ_=>(H.pick 8 [1,2] Z)) (AR 20 J Z Z J J J Z Z Z (Az Z (z:=2) (j:=(a+i)) (r:=(a+i)*2) J Z Z Z U s U) (H.pick 8 [1,2] Z) (AR 21 J Z Z J J J Z Z Z (BN Z (k:=1) (r:=(a+i)*2+1) J Z s Z) (H.pick 8 [1,2] Z) (An [22] J O (Ar (B6 Z Z Z (Jx 2 H Z Z Z Z (vs:=[v3]) a6.cells (Aq a6.one AN) J U (by simp only[AbI,AbO];omega) (out:=Cv (e.set (a+i) ⟨.slice u 256 dc,v3,g++[(.slice l 256 f)]⟩)) (Jy (x2:=⟨.slice u 256 dc,v3,g++[(.slice l 256 f)]⟩) hr 1 _ O (by simp[RRow.cells]))) ?_)))));rintro w H;replace H:=H.l8;refine Am (λh=>absurd Z h) (AT J (gn (Zc 6 Z (DP Z (λh4=>?_) (λh4=>?_)))))
  ·have a4:(e.set (a+i) ⟨.slice u 256 dc,v3,g++[(.slice l 256 f)]⟩)[a+i]?=some ⟨.slice u 256 dc,v3,g++[(.slice l 256 f)]⟩:=AcJ U
   have s:=(H.rd 2 Z (λh q=>q.rd)).at (EY a4 0 _ Z);refine Z3 10 [0,1,0] [((a+i:Nat):Int)] H Z U (Ad Z (Az Z (z:=2) (j:=(a+i)) (r:=(a+i)*2) J Z Z Z U s U) (A9 Z Z (Jx 2 H Z Z Z Z (vs:=[(.slice l 256 f),.slice none 0 0]) Z (Aq Z (Aq Z AN)) J U (by simp only[AbI,AbO];omega) (out:=Cv ((e.set (a+i) ⟨.slice u 256 dc,v3,g++[(.slice l 256 f)]⟩).set (a+i) ⟨(.slice l 256 f),.slice none 0 0,[]⟩)) (Jy (x2:=⟨(.slice l 256 f),.slice none 0 0,[]⟩) a4 0 _ O (by simp[RRow.cells]))) ?_));rintro w H;replace H:=H.l8;refine Zc 3 Z ?_;rw[Ad2] at H;replace H:=((H.pick 8 [0,1,2,4,5,6,7] Z).nilg 38 1).l8;replace H:=H.f4.f1;have t:Sep z (RRow.asn ⟨(.slice l 256 f),.slice none 0 0,[]⟩::seps ((e.map RRow.asn).eraseIdx (a+i))::blk b2 [.slice l 256 f] 38::blk pr [.slice lo n lc,Aa 0,Aa 0,Aa 0,Aa 0,Aa (-1)] 133::grow 135 2 (.slice lo n lc) n (Cv (e.set (a+i) ⟨(.slice l 256 f),.slice none 0 0,[]⟩))::grow 5 1 (.slice l 256 f) 256 (((bs.drop (256*i)).take 256).map u8)::poolA x::A::R) w:=H;clear H;have H:=Jp ⟨(.slice l 256 f),.slice none 0 0,[]⟩ U t;clear t;replace H:=H.f4.f5;obtain ⟨a0,⟨a1,a3⟩,H⟩:=BG H (λh q=>q.rd);replace H:=H.l6;have a2:RdP n (Ey F a bs (i+1)) (m+(i+1)) (e.set (a+i) ⟨(.slice l 256 f),.slice none 0 0,[]⟩) a0:=by rw[PU];exact (y.le a1).set ⟨by rw[AbM,Acc];omega,⟨_,_,Z⟩,by simpa [RRow.last] using a3⟩ U (by simp;try omega)
   refine Z1 5 [] [(i:Int)+1] Z U ?_;replace H:=H.f2.d.f4.f2.f2.f4.f4;refine gf ?_;intro _ hF;refine ⟨⟨i+1,e.set (a+i) ⟨(.slice l 256 f),.slice none 0 0,[]⟩,a0⟩,hF.cz,⟨H,?_⟩,?_⟩
   ·exact ⟨by show i+1<=k;omega,a2⟩
   (dsimp only;omega)
  refine Zc 3 Z ?_;replace H:=H.f4.f4;have t:Sep z (RRow.asn ⟨.slice u 256 dc,v3,g++[(.slice l 256 f)]⟩::seps ((e.map RRow.asn).eraseIdx (a+i))::blk b2 [.slice l 256 f] 38::blk pr [.slice lo n lc,Aa 0,Aa 0,Aa 0,Aa 0,Aa (-1)] 133::grow 135 2 (.slice lo n lc) n (Cv (e.set (a+i) ⟨.slice u 256 dc,v3,g++[(.slice l 256 f)]⟩))::grow 5 1 (.slice l 256 f) 256 (((bs.drop (256*i)).take 256).map u8)::poolA x::A::R) w:=by have h9:=H;rw[show g.length+1=(g++[(.slice l 256 f)]:List Value).length from by simp] at h9;exact h9
  clear H;have H:=Jp ⟨.slice u 256 dc,v3,g++[(.slice l 256 f)]⟩ U t;clear t;replace H:=H.f4.f5;obtain ⟨a0,⟨a1,a3⟩,H⟩:=BG H (λh q=>q.rd);replace H:=H.l6;have a2:RdP n (Ey F a bs (i+1)) (m+(i+1)) (e.set (a+i) ⟨.slice u 256 dc,v3,g++[(.slice l 256 f)]⟩) a0:=by rw[PU];exact (y.le a1).set ⟨by rw[AbM,Acc];omega,⟨_,_,Z⟩,by simpa [RRow.last] using a3⟩ U (by simp;try omega)
  refine Z1 5 [] [(i:Int)+1] Z U ?_;replace H:=H.f2.d.f4.f2.f2.f4.f4;refine gf ?_;intro _ hF;refine ⟨⟨i+1,e.set (a+i) ⟨.slice u 256 dc,v3,g++[(.slice l 256 f)]⟩,a0⟩,hF.cz,⟨H,?_⟩,?_⟩
  ·exact ⟨by show i+1<=k;omega,a2⟩
  (dsimp only;omega)
 refine Zc 2 Z (gx (Zc 5 Z (Ai Z (call170 _) (O3 _ _ _ _ U) H ?_)));intro w H;refine Zc 8 Z (Zr Z ?_);obtain rfl:i=k:=by omega
 have t:=(H.pick 5 [0,1,2,3,4] Z).toRk y;exact ⟨_,⟨Z,Z⟩,t⟩
set_option maxHeartbeats 4000000 in
theorem HD (k n m:Nat) (F:Nat->List UInt8):Aj 113 [V k] [rdkA k n F m] (λv G=>v=Aa 0/\G=[rdkA k n F m]):=by
 intro z R w H;obtain ⟨lv,rows,hq,x,e⟩:=H.rk;clear H;have a2:=x.1;have a1:=x.2.1;have H:=e.l4;have t:=H.sy 1 (·.slc);obtain ⟨lo,s,rfl⟩:=t;refine Ac func113 Z ntmps113 Z (Zc 9 Z (Ai Z (call138 _) (Sa _ _ _ _ U) H ?_));intro w H;refine Z2 19 [5,0,0,4] H Z ?_;refine Ay (σ:=Nat×List RRow) (λ⟨i,a⟩=>[(3,Aa (i:Int)),(0,V k),(2,Aa 0)])
   (λ⟨i,a⟩ w=>Sep z (blk k [.slice lo n s,Aa 0,Aa 0,Aa 0,Aa 0,Aa (-1)] 133::grow 135 2 (.slice lo n s) n (Cv a)::poolA hq::seps (a.map RRow.asn)::R) w/\(i<=n/\RdP n F m a hq)) (λ⟨i,a⟩=>n-i) ⟨0,rows⟩
   fr_z ⟨H,⟨AbV _,x⟩⟩ ?_
 clear H;rintro ⟨i,a⟩ w ⟨e,hI⟩;dsimp only at hI e ⊢;have H:=e.l4;obtain ⟨hi,b⟩:=hI;have a0:=b.1;refine Z2 12 [0,0,0,0] H Z (Ag Z (λh1=>?_) (λh1=>?_))
 ·refine Zc 4 Z ?_;obtain ⟨r,l⟩:∃r,a[i]?=some r:=⟨_,AbF U⟩;have o:=(b.2.2 _ r l).1
  have g:=(H.rv 1 (·.rd)).at (EY l 0 _ Z);refine AK (Sep z (blk k [.slice lo n s,Aa 0,Aa 0,Aa 0,Aa 0,Aa (-1)] 133::grow 135 2 (.slice lo n s) n (Cv a)::R)) 11 Z J (A4 H λw e=>?_);have H:=e.l4;refine A6 [0,1,2,3,4,5,6] [0,0] J (λ_ hx=>(AQ (hx.blk 0 Z) AJ)) (by exact H.pick 4 [0,1] Z) Z J Z Z (An [7] J O (Ar (Ba Z Z Z Z Z Z (λw=>call139 _ w) (O4 _ _ _ _ U _ _ i _ l _ o U) H Z ?_)));rintro lq w _ ⟨_,q,rfl,rfl⟩ H;have y:=q.slc;obtain ⟨f,c,rfl⟩:=y;refine Am (λ_=>(H.pick 4 [0,1] Z)) (AR 8 J Z Z J J J Z Z Z (AX Z Z (out:=[.slice f 256 c,.slice none 0 0]) J) (H.pick 4 [0,1] Z) (AR 9 J Z Z J J J Z Z Z (Az Z (z:=2) (j:=i) (r:=i*2) J Z Z Z U g U) (H.pick 4 [0,1] Z) (An [10] J O (Ar (B6 Z Z Z (Jx 1 H Z Z Z Z (vs:=[(.slice f 256 c),.slice none 0 0]) Z (Aq Z (Aq Z AN)) J U (by simp only[AbI,AbO];omega) (out:=Cv (a.set i ⟨(.slice f 256 c),.slice none 0 0,[]⟩)) (Jy (x2:=⟨(.slice f 256 c),.slice none 0 0,[]⟩) l 0 _ O (by simp[RRow.cells]))) ?_)))));rintro w H;refine Am (λh=>absurd Z h) (AT J (gn (Zc 2 Z ?_)));replace H:=H.f3;replace H:=((MY l H).d.nilg 38 1).l5;replace H:=(Jp (rows:=a) ⟨(.slice f 256 c),.slice none 0 0,[]⟩ U H).l4;have u:RdP n F m (a.set i ⟨(.slice f 256 c),.slice none 0 0,[]⟩) hq:=by have h9:=b.set (i:=i) (p:=F i) (r:=⟨(.slice f 256 c),.slice none 0 0,[]⟩) ⟨o.len,⟨_,_,Z⟩,by simpa [RRow.last] using q⟩ (Ab9 m) (AbV _);rwa[Aaa] at h9
  refine Z1 5 [] [(i:Int)+1] Z U ?_;replace H:=H.f3.f3.f3;refine gf ?_;intro _ hF;refine ⟨⟨i+1,a.set i ⟨(.slice f 256 c),.slice none 0 0,[]⟩⟩,hF.cz,⟨H,?_⟩,?_⟩
  ·exact ⟨by show i+1<=n;omega,u⟩
  (dsimp only;omega)
 refine Zc 2 Z (gx (Zc 5 Z (Ai Z (call170 _) (O3 _ _ _ _ U) H ?_)));intro w H;refine Zc 8 Z (Zr Z ?_);have e:=(H.pick 4 [0,1,2,3] Z).toRk b;exact ⟨_,⟨Z,Z⟩,e⟩
end
theorem UM{rows:List RRow}{hq a:Hp}{z:List UInt8}(h:∀(j:Nat) (r:RRow),rows[j]?=some r->r.Ok hq z/\r.pvs.length<=0)(s:BA hq a){rn:RRow}(c:rn.Ok a z)(d:rn.pvs.length<=0):∀(j:Nat) (r:RRow),(rows++[rn])[j]?=some r->r.Ok a z/\r.pvs.length<=0:=λj r e=>by
 rcases Acd.1 (AbG e) with q|q
 ·obtain ⟨i,b⟩:=List.mem_iff_getElem?.1 q
  exact ⟨(h i r b).1.le s,(h i r b).2⟩
 rw[Acu] at q;subst q;exact ⟨c,d⟩
set_option maxHeartbeats 2000000 in
theorem Sb (n:Nat) (hn:1<=n/\n<=4096):Aj 34 [Aa (n:Int)] [] (λv G=>∃y:Nat,v=.tuple #[V y,Aa 0]/\G=[rdkA y n (λ_=>(List.replicate 256 (0:UInt8))) 0]):=by
 intro z R w H;refine Ac func34 Z ntmps34 Z (Z0 12 [0] Z (Ak 8 Z (λh1=>U) (λh1=>?_)));refine Z0 5 [0] Z (Ag Z (λh2=>U) (λh2=>?_));refine Zc 4 Z (Ad Z (AX Z Z (out:=[.slice none 0 0,Aa 0,Aa 0,Aa 0,Aa 0,Aa (-1)]) J) (Za 0 [] H Z ?_));intro f w H;refine Zc 5 Z ?_;replace H:=(((E9 H).nilg 135 2).void (B:=seps (([]:List RRow).map RRow.asn)) (λh=>⟨λ_=>0,λi A h=>by simp at h⟩)).l4;refine Zc 5 Z ?_;refine Ay (σ:=Nat×Value×List RRow×Hp) (λ⟨i,u,rows,hq⟩=>[(5,Aa (i:Int)),(0,Aa (n:Int)),(2,.pointer none),(3,Aa 0),(4,V f)])
   (λ⟨i,u,rows,hq⟩ w=>Sep z (seps (rows.map RRow.asn)::grow 135 2 u i (Cv rows)::poolA hq::blk f [u,Aa 0,Aa 0,Aa 0,Aa 0,Aa (-1)] 133::R) w/\(i<=n/\rows.length=i/\∀(j:Nat) (r:RRow),rows[j]?=some r->r.Ok hq (List.replicate 256 (0:UInt8))/\r.pvs.length<=0)) (λ⟨i,u,rows,hq⟩=>n-i) ⟨0,.slice none 0 0,[],λ_=>none⟩
   fr_z ⟨H,⟨AbV _,Z,λj r h=>by simp at h⟩⟩ ?_
 clear H;rintro ⟨i,u,rows,hq⟩ w ⟨a,t⟩;dsimp only at t a ⊢;have H:=a.l4;have su:=H.sy 1 (·.slc);obtain ⟨hi,e,x⟩:=t;refine Z0 8 [0] Z (Ag Z (λh3=>?_) (λh3=>?_))
 ·refine Zc 4 Z ?_;replace H:=H.f3;refine AK (Sep z (blk f [u,Aa 0,Aa 0,Aa 0,Aa 0,Aa (-1)] 133::R)) 12 Z J (A4 H λw a=>?_)
  have H:=a.l4;refine A6 [0,1,2,3,4] [0,0] J (λ_ hx=>(AQ (hx.blk 0 Z) AJ)) (by exact H.pick 4 [0] Z) Z J Z Z (An [5] J O (Ar (Ck Z Z Z Z (Dx (k:=256) H Z J Bf Z Z Z U) ?_)));rintro _ w ⟨b,rfl,H⟩;refine Am (λ_=>(H.pick 5 [1] Z)) (AR 6 J Z Z J J J Z Z Z (AX Z Z (out:=[.slice (some ⟨b,0,none⟩) 256 256,.slice none 0 0]) J) (H.pick 5 [1] Z) (An [7] J O (Ar (Ck Z Z Z Z (AL H Z J DQ Z (by decide) (by decide) (out:=[.slice (some ⟨b,0,none⟩) 256 256,.slice none 0 0]) J) ?_))));rintro _ w ⟨b3,rfl,H⟩;refine Am (λ_=>(H.pick 6 [2] Z)) (An [8] J O (Ar (Ck Z Z Z Z (AO 4 H Z Z J DQ Z Z (H.rv 0 (·.rd U U O Z)) (Aq Z (Aq Z AN)) U) ?_)));rintro s w a;have a:Sep z (blk b3 [.slice (some ⟨b,0,none⟩) 256 256,.slice none 0 0] 135::blk b (List.replicate 256 (u8 0)) 5::blk f [u,Aa 0,Aa 0,Aa 0,Aa 0,Aa (-1)] 133::seps (rows.map RRow.asn)::grow 135 2 s (i+1) (Cv rows++[.slice (some ⟨b,0,none⟩) 256 256,.slice none 0 0])::poolA hq::R) w:=a;have l:(Cv rows++[.slice (some ⟨b,0,none⟩) 256 256,.slice none 0 0]:List Value)=Cv (rows++[⟨.slice (some ⟨b,0,none⟩) 256 256,.slice none 0 0,[]⟩]):=(by rw[KG];rfl);rw[l] at a;have H:=a.l6;have c:=H.sy 4 (·.slc);refine Am (λ_=>(H.pick 6 [2] Z)) (A6 [9,10] [0] J (λ_ _=>AJ) (by exact H.pick 6 [2] Z) Z J Z Z (An [11] J O (Ar (B6 Z Z Z (Po 2 H Z Z Z Z c.cells c.one J) ?_))));rintro w H;refine Am (λh=>absurd Z h) (AT J (gn (Zc 2 Z ?_)));replace H:=H.f3;have a:=H.nilg 38 1;clear H;have H:=RI (rows:=rows) ⟨.slice (some ⟨b,0,none⟩) 256 256,.slice none 0 0,[]⟩ a;clear a;replace H:=H.f2.f5;obtain ⟨g,⟨p,m⟩,H⟩:=BG H (sz:=1) (n:=256) (v:=.slice (some ⟨b,0,none⟩) 256 256) (xs:=(List.replicate 256 (0:UInt8)).map u8) (λh q=>q.rd U U O (by simp[u8]));have o:=UM x p (rn:=⟨.slice (some ⟨b,0,none⟩) 256 256,.slice none 0 0,[]⟩) ⟨by simp,⟨_,_,Z⟩,by simpa [RRow.last] using m⟩ (Ab9 0);refine Z1 5 [] [(i:Int)+1] Z U ?_;replace H:=H.f2.d.f2.f1.f3.f3;refine gf ?_;intro _ hF;refine ⟨⟨i+1,s,rows++[⟨.slice (some ⟨b,0,none⟩) 256 256,.slice none 0 0,[]⟩],g⟩,hF.cz,⟨H,?_⟩,?_⟩
  ·exact ⟨by show i+1<=n;omega,by simp[e],o⟩
  (dsimp only;omega)
 refine Zc 2 Z (gx (Zc 10 Z (Zr Z ?_)));obtain rfl:i=n:=by omega
 exact ⟨_,⟨f,Z,Z⟩,(H.pick 4 [3,1,2,0] Z).toRk ⟨e,hn,x⟩⟩
theorem Gu(s:Sup)(n:Nat)(a:s.Ok (n:Int))(i:n<=4096):Aj 147 [.agg #[Aa s.gen,Aa s.epoch,Aa s.pages,Aa s.start,Aa s.len,Aa s.head,Aa s.seq],Aa (n:Int)] [] (λv G=>v=Aa 0/\G=[]):=by
 intro z R w H;have hs:=a.1;have j:=a.2;have l:=Sup.get a;refine Ac func147 Z ntmps147 Z (Za 2 [] H Z ?_);intro m w H;refine Z2 6 [0,7] H Z (AA Z (call184 _) (GO _ hs) H ?_);rintro _ w _ ⟨k,rfl,rfl⟩ H;have d:=H.sy 0 (·.slc);refine Z2 18 [4,2,1,0,0] H Z (Ak 19 Z (λh=>U) (λh=>?_));refine Z2 5 [2,1,0,0] H Z (Ak 24 Z (λc=>U) (λc=>?_));refine Z3 8 [3,1,0,2,1,0,0] [2+s.pages] H Z U (Ak 32 Z (λe=>U) (λe=>?_));refine Z2 5 [4,1,0,0] H Z (Ak 37 Z (λg=>U) (λg=>?_));refine Z3 9 [3,1,0,4,1,0,0] [s.start+s.len] H Z U (Ak 46 Z (λf=>U) (λf=>?_));refine Z2 8 [5,1,0,4,1,0,0] H Z (Ag Z (λb=>U) (λb=>?_));refine Zc 8 Z (Zr Z ?_);exact ⟨_,⟨Z,Z⟩,H.pick 2 [] Z⟩
theorem UN{b a y:Sup}(c:(b.gen<a.gen/\y=a)\/(a.gen<=b.gen/\y=b))(h:b.gen<a.gen):a=y:=by
 rcases c with ⟨_,q⟩|⟨q,_⟩
 ·exact q.symm
 omega
theorem UO{a b y:Sup}(c:(a.gen<b.gen/\y=b)\/(b.gen<=a.gen/\y=a))(h:¬a.gen<b.gen):a=y:=by
 rcases c with ⟨q,_⟩|⟨_,q⟩
 ·omega
 exact q.symm
set_option maxHeartbeats 2000000 in
theorem KU (c n m:Nat) (k:m<=1000000000) (F:Nat->List UInt8) (s:Sup) (a:s.Ok (n:Int)):Aj 150 [V c,.agg #[Aa s.gen,Aa s.epoch,Aa s.pages,Aa s.start,Aa s.len,Aa s.head,Aa s.seq]] [rdkA c n F m] (λv G=>v=Aa 0/\G=[rdkA c n (BE F (s.gen%2).toNat (BC s)) (m+1)]):=by
 intro z R w H;obtain ⟨r,rows,hq,f,b⟩:=H.rk;clear H;have o:=f.1;have l:=f.2.1;have H:=b.l4;have d:=H.sy 1 (·.slc);obtain ⟨lo,i,rfl⟩:=d;have hs:=a.1;have t:=a.2;have p:=Sup.get a;refine Ac func150 Z ntmps150 Z (Za 2 [] H Z ?_);intro g w H;refine Zc 4 Z (AK (Sep z (blk g [Aa s.gen,Aa s.epoch,Aa s.pages,Aa s.start,Aa s.len,Aa s.head,Aa s.seq] 92::blk c [.slice lo n i,Aa 0,Aa 0,Aa 0,Aa 0,Aa (-1)] 133::R)) 8 Z J (A4 H λw b=>?_));have H:=b.l5;refine AR 0 J Z Z J J J Z Z Z (Bt Z Z (vs:=[Aa s.gen,Aa s.epoch,Aa s.pages,Aa s.start,Aa s.len,Aa s.head,Aa s.seq]) J (λ_ e=>(e.blk 0 Z).part 0 7 _ Z)) (H.pick 5 [0,1] Z) (A6 [1,2,3,4] [0,0] J (λ_ e=>(AQ (e.blk 1 Z) AJ)) (by exact H.pick 5 [0,1] Z) Z J Z Z (AR 5 J Z Z J J J Z Z Z (EC Z (z:=2) J Z) (H.pick 5 [0,1] Z) (An [6] J O (Ar (Ba Z Z Z Z Z Z (λw=>call147 _ w) (Gu _ n a U) H Z ?_)))));rintro _ w _ ⟨rfl,rfl⟩ H;refine Am (λ_=>(H.pick 5 [0,1] Z)) (An [7] J O (Ar (B5 Z Z Z Z (AS Z Z) (Am (λh=>absurd Z h) (AT J (gn (Z0 12 [4] Z ?_)))))));have b:Sep z (rdkA c n F m::blk g [Aa s.gen,Aa s.epoch,Aa s.pages,Aa s.start,Aa s.len,Aa s.head,Aa s.seq] 92::R) w:=(H.pick 5 [1,2,3,4,0] Z).toRk f;clear H;have H:=b.l2;refine Z2 2 [1,7] H Z (AA Z (call184 _) (GO _ hs) H ?_);rintro _ w _ ⟨u,rfl,rfl⟩ H;have j:=H.sy 0 (·.slc);refine Z3 14 [0,2,0] [(((s.gen%2).toNat:Nat):Int)] H Z U (Ai Z (call149 _) (Fz _ n _ U _ ((s.gen%2).toNat) 1 true _ (BC s) _ (λh q=>q.rd) (by first|(rw[DL])|(simp[DA, *])|omega) U U) H.f1 ?_);intro w H;rw[Ue _ _ (by first|(rw[DL])|(simp[DA, *])|omega)] at H;refine Zc 4 Z (Zr Z ?_);exact ⟨_,⟨Z,Z⟩,H.pick 3 [0] Z⟩
set_option maxHeartbeats 4000000 in
theorem X6 (j n m:Nat) (F:Nat->List UInt8) (l r y:Sup) (a5:F 0=BC l) (a2:F 1=BC r) (a8:l.Ok (n:Int)) (a3:r.Ok (n:Int)) (g0:l.gen%2=0) (g1:r.gen%2=1) (hy:(l.gen<r.gen/\y=r)\/(r.gen<=l.gen/\y=l)) (b0:2<=n):Aj 151 [V j] [rdkA j n F m] (λv G=>v=.tuple #[.agg #[Aa y.gen,Aa y.epoch,Aa y.pages,Aa y.start,Aa y.len,Aa y.head,Aa y.seq],Aa 0]/\G=[rdkA j n F m]):=by
 intro z R w H;obtain ⟨lv,rows,hq,f,b⟩:=H.rk;clear H;have a1:=f.1;have a0:=f.2.1;have H:=b.l4;have g:=H.sy 1 (·.slc);obtain ⟨lo,lc,rfl⟩:=g;refine Ac func151 Z ntmps151 Z (Za 2 [] H Z ?_);intro b1 w H;refine Z2 14 [0,1,0,0] H Z (Ag Z (λh1=>U) (λh1=>?_));refine Zc 3 Z ?_;have b:Sep z (rdkA j n F m::blk b1 [Aa 0,Aa 0,Aa 0,Aa 0,Aa 0,Aa 0,Aa 0] 92::R) w:=(H.pick 5 [1,2,3,4,0] Z).toRk f;clear H;have H:=b.l2;refine Zc 1 Z (Ad Z (AX Z Z (out:=[Aa 0,Aa 0,Aa 0,Aa 0,Aa 0,Aa 0,Aa 0]) J) (Za 0 [] H Z ?_));intro u w H;refine Z4 20 [0] H Z ?_;intro w H;refine Ay (σ:=Nat×Sup) (λ⟨i,a⟩=>[(7,Aa (i:Int)),(6,.bool false),(5,.bool (decide (0<i))),(0,V j),(2,V b1),(3,Aa 0),(4,V u)])
   (λ⟨i,a⟩ w=>Sep z (blk u [Aa a.gen,Aa a.epoch,Aa a.pages,Aa a.start,Aa a.len,Aa a.head,Aa a.seq] 92::rdkA j n F m::blk b1 [Aa 0,Aa 0,Aa 0,Aa 0,Aa 0,Aa 0,Aa 0] 92::R) w/\(i<=2/\(i=1->a=l)/\(i=2->a=y))) (λ⟨i,a⟩=>2-i) ⟨0,⟨0,0,0,0,0,0,0⟩⟩
   (λ_ c=>(c.co Z (by go_num) (c.co Z Z c.cz))) ⟨H,⟨AbV _,λe=>by simp at e,λe=>by simp at e⟩⟩ ?_
 clear H;rintro ⟨i,a⟩ w ⟨b,hI⟩;dsimp only at hI b ⊢;have H:=b.l3;obtain ⟨hi,a4,a7⟩:=hI;refine Z0 7 [0] Z (Ag Z (λh2=>?_) (λh2=>?_))
 ·refine Zc 5 Z ?_;obtain ⟨s,t,k,b5,x,a6⟩:∃s:Sup,F i=BC s/\s.Ok (n:Int)/\s.gen%2=(i:Int)/\(i=0->s=l)/\(i=1->s=r):=by rcases (show i=0\/i=1 by omega) with rfl|rfl<;>first|exact ⟨l,a5,a8,g0,λ_=>rfl,λe=>by omega⟩|exact ⟨r,a2,a3,g1,λe=>by omega,λ_=>rfl⟩
  have hs:=k.1;have b6:=Sup.get k;have a9:(F i).length=256:=by rw[t];exact DL s
  refine Zc 3 Z (AA Z (call84 _) (Hb _ _ _ _ i U) H.f1 ?_);rintro _ w _ ⟨u3,rfl,rfl⟩ H;have b3:=H.sy 0 (·.slc);refine Z0 20 [4] Z (Ai Z (call185 _) (N0 _ (F i) _ (λh q=>by rw[a9];exact q.rd) s hs t) H ?_);intro w H;refine Za 3 [] H Z ?_;intro b4 w H;refine Z4 5 [0] H Z ?_;intro w H;rcases (show i=0\/i=1 by omega) with rfl|rfl
  ·refine k_updA 5 (v:=.bool false) Z Z ?_;replace H:=H.f2;obtain ⟨lv,rows,hq,f,b⟩:=H.rk;clear H;have a1:=f.1
   have a0:=f.2.1;have H:=b.l8;have g:=H.sy 1 (·.slc);obtain ⟨lo,lc,rfl⟩:=g;replace H:=H.f6.f1.f5;refine BV (Sep z (blk b4 [Aa s.gen,Aa s.epoch,Aa s.pages,Aa s.start,Aa s.len,Aa s.head,Aa s.seq] 92::blk j [.slice lo n lc,Aa 0,Aa 0,Aa 0,Aa 0,Aa (-1)] 133::blk u [Aa a.gen,Aa a.epoch,Aa a.pages,Aa a.start,Aa a.len,Aa a.head,Aa a.seq] 92::R)) 29 Z J (A4 H λw b=>?_);have H:=b.l8;refine CG [0,1,2,3,4,5,6,7] [0,7,0,1,0] [] (by exact H.pick 8 [0,1,2] Z) Z J Z (Cs [8] J O (Ar (Ba Z Z Z Z Z Z (λw=>call147 _ w) (Gu _ n k U) H Z ?_)));rintro _ w _ ⟨rfl,rfl⟩ H;refine BZ (H.pick 8 [0,1,2] Z) (Oj [9,10,11,12,13,14,15,16] [3,0,0,0,0] [s.gen%2] (by exact H.pick 8 [0,1,2] Z) Z J U Z (k_updA 56 (v:=.bool true) Z (congrArg Value.bool (decide_eq_true U)) (CG [17,18,19,20,21,22,23,24,25,26,27,28] [] [] (by exact H.pick 8 [0,1,2] Z) Z J Z (a_done J (gn (Z4 13 [0,7,2] H Z ?_))))));intro w H;have b:Sep z (rdkA j n F m::blk b4 [Aa s.gen,Aa s.epoch,Aa s.pages,Aa s.start,Aa s.len,Aa s.head,Aa s.seq] 92::blk u [Aa s.gen,Aa s.epoch,Aa s.pages,Aa s.start,Aa s.len,Aa s.head,Aa s.seq] 92::grow 5 1 u3 256 ((F 0).map u8)::blk b1 [Aa 0,Aa 0,Aa 0,Aa 0,Aa 0,Aa 0,Aa 0] 92::R) w:=(H.pick 8 [1,3,4,5,0,2,6,7] Z).toRk f;clear H;have H:=b.l5;refine k_updA 5 (v:=.bool (decide (0<0+1))) Z Z (Z1 5 [] [(0:Int)+1] Z U ?_);replace H:=H.f3.d.f1.d.f2.f1.f2;refine gf ?_;intro _ c;refine ⟨⟨0+1,s⟩,(c.co Z (by go_num) (c.co Z Z c.cz)),⟨H,?_⟩,?_⟩
   ·first|exact ⟨by dsimp only;omega,λ_=>x Z,λe=>by dsimp only at e;omega⟩|exact ⟨by dsimp only;omega,λe=>by dsimp only at e;omega,λ_=>o.trans (UN hy (by rw[<-p,<-o];assumption))⟩|exact ⟨by dsimp only;omega,λe=>by dsimp only at e;omega,λ_=>p.trans (UO hy (by rw[<-p,<-o];assumption))⟩
   (dsimp only;omega)
  refine k_updA 5 (v:=.bool true) Z Z ?_;have o:=a6 Z;have p:=a4 Z;replace H:=H.f2;obtain ⟨lv,rows,hq,f,b⟩:=H.rk;clear H;have a1:=f.1;have a0:=f.2.1;have H:=b.l8;have g:=H.sy 1 (·.slc);obtain ⟨lo,lc,rfl⟩:=g;replace H:=H.f6.f1.f5;refine BV (Sep z (blk b4 [Aa s.gen,Aa s.epoch,Aa s.pages,Aa s.start,Aa s.len,Aa s.head,Aa s.seq] 92::blk j [.slice lo n lc,Aa 0,Aa 0,Aa 0,Aa 0,Aa (-1)] 133::blk u [Aa a.gen,Aa a.epoch,Aa a.pages,Aa a.start,Aa a.len,Aa a.head,Aa a.seq] 92::R)) 29 Z J (A4 H λw b=>?_);have H:=b.l8;refine CG [0,1,2,3,4,5,6,7] [0,7,0,1,0] [] (by exact H.pick 8 [0,1,2] Z) Z J Z (Cs [8] J O (Ar (Ba Z Z Z Z Z Z (λw=>call147 _ w) (Gu _ n k U) H Z ?_)));rintro _ w _ ⟨rfl,rfl⟩ H;refine BZ (H.pick 8 [0,1,2] Z) (Oj [9,10,11,12,13,14,15,16] [3,0,0,0,0] [s.gen%2] (by exact H.pick 8 [0,1,2] Z) Z J U Z (k_updA 56 (v:=.bool true) Z (congrArg Value.bool (decide_eq_true U)) (CG [17,18,19,20,21,22,23,24,25,26,27,28] [0,0,0,0,2,0,0] [] (by exact H.pick 8 [0,1,2] Z) Z J Z (a_done J (gn (Zc 1 Z (Ag Z (λh3=>?_) (λh3=>?_))))))))
  ·refine Z4 11 [0,7,2] H Z ?_;intro w H;have b:Sep z (rdkA j n F m::blk b4 [Aa s.gen,Aa s.epoch,Aa s.pages,Aa s.start,Aa s.len,Aa s.head,Aa s.seq] 92::blk u [Aa s.gen,Aa s.epoch,Aa s.pages,Aa s.start,Aa s.len,Aa s.head,Aa s.seq] 92::grow 5 1 u3 256 ((F 1).map u8)::blk b1 [Aa 0,Aa 0,Aa 0,Aa 0,Aa 0,Aa 0,Aa 0] 92::R) w:=(H.pick 8 [1,3,4,5,0,2,6,7] Z).toRk f
   clear H;have H:=b.l5;refine k_updA 5 (v:=.bool (decide (0<1+1))) Z Z (Z1 5 [] [(1:Int)+1] Z U ?_);replace H:=H.f3.d.f1.d.f2.f1.f2;refine gf ?_;intro _ c;refine ⟨⟨1+1,s⟩,(c.co Z (by go_num) (c.co Z Z c.cz)),⟨H,?_⟩,?_⟩
   ·first|exact ⟨by dsimp only;omega,λ_=>x Z,λe=>by dsimp only at e;omega⟩|exact ⟨by dsimp only;omega,λe=>by dsimp only at e;omega,λ_=>o.trans (UN hy (by rw[<-p,<-o];assumption))⟩|exact ⟨by dsimp only;omega,λe=>by dsimp only at e;omega,λ_=>p.trans (UO hy (by rw[<-p,<-o];assumption))⟩
   (dsimp only;omega)
  refine Zc 3 Z ?_;have b:Sep z (rdkA j n F m::blk b4 [Aa s.gen,Aa s.epoch,Aa s.pages,Aa s.start,Aa s.len,Aa s.head,Aa s.seq] 92::blk u [Aa a.gen,Aa a.epoch,Aa a.pages,Aa a.start,Aa a.len,Aa a.head,Aa a.seq] 92::grow 5 1 u3 256 ((F 1).map u8)::blk b1 [Aa 0,Aa 0,Aa 0,Aa 0,Aa 0,Aa 0,Aa 0] 92::R) w:=(H.pick 8 [1,3,4,5,0,2,6,7] Z).toRk f;clear H;have H:=b.l5;refine k_updA 5 (v:=.bool (decide (0<1+1))) Z Z (Z1 5 [] [(1:Int)+1] Z U ?_);replace H:=H.f3.d.f1.d.f2.f1.f2;refine gf ?_;intro _ c;refine ⟨⟨1+1,a⟩,(c.co Z (by go_num) (c.co Z Z c.cz)),⟨H,?_⟩,?_⟩
  ·first|exact ⟨by dsimp only;omega,λ_=>x Z,λe=>by dsimp only at e;omega⟩|exact ⟨by dsimp only;omega,λe=>by dsimp only at e;omega,λ_=>o.trans (UN hy (by rw[<-p,<-o];assumption))⟩|exact ⟨by dsimp only;omega,λe=>by dsimp only at e;omega,λ_=>p.trans (UO hy (by rw[<-p,<-o];assumption))⟩
  (dsimp only;omega)
 refine Zc 2 Z (gx (Zc 4 Z ?_));obtain rfl:i=2:=by omega
 refine k_updA 5 (v:=.bool true) Z Z (Z4 25 [0,7,2] H Z ?_);intro w H;refine Zl [2,7] H Z ?_;obtain rfl:a=y:=a7 Z;exact ⟨_,⟨Z,Z⟩,H.pick 3 [1] Z⟩
theorem O5(a n m:Nat)(F:Nat->List UInt8)(s:Sup)(d:s.Ok (n:Int)):Aj 155 [V a,.agg #[Aa s.gen,Aa s.epoch,Aa s.pages,Aa s.start,Aa s.len,Aa s.head,Aa s.seq]] [rdkA a n F m] (λv G=>∃g:Nat,v=V g/\G=[blk g [V a,Aa s.gen,Aa s.epoch,Aa s.pages,Aa s.start,Aa s.len,Aa s.head,Aa s.seq,Aa s.head,Aa s.seq,Aa 0,.bool false] 249,rdkA a n F m]):=by
 intro z R w H;obtain ⟨p,rows,hq,f,b⟩:=H.rk;clear H;have j:=f.1;have o:=f.2.1;have H:=b.l4;have c:=H.sy 1 (·.slc);obtain ⟨lo,l,rfl⟩:=c;refine Ac func155 Z ntmps155 Z (Za 2 [] H Z ?_);intro i w H;refine Zc 5 Z (AK (Sep z (blk i [Aa s.gen,Aa s.epoch,Aa s.pages,Aa s.start,Aa s.len,Aa s.head,Aa s.seq] 92::blk a [.slice lo n l,Aa 0,Aa 0,Aa 0,Aa 0,Aa (-1)] 133::R)) 8 Z J (A4 H λw b=>?_));have H:=b.l5;refine AR 0 J Z Z J J J Z Z Z (Bt Z Z (vs:=[Aa s.gen,Aa s.epoch,Aa s.pages,Aa s.start,Aa s.len,Aa s.head,Aa s.seq]) J (λ_ e=>(e.blk 0 Z).part 0 7 _ Z)) (H.pick 5 [0,1] Z) (A6 [1,2,3,4] [0,0] J (λ_ e=>(AQ (e.blk 1 Z) AJ)) (by exact H.pick 5 [0,1] Z) Z J Z Z (AR 5 J Z Z J J J Z Z Z (EC Z (z:=2) J Z) (H.pick 5 [0,1] Z) (An [6] J O (Ar (Ba Z Z Z Z Z Z (λw=>call147 _ w) (Gu _ n d U) H Z ?_)))));rintro _ w _ ⟨rfl,rfl⟩ H;refine Am (λ_=>(H.pick 5 [0,1] Z)) (An [7] J O (Ar (B5 Z Z Z Z (Pj Z Z Z) (Pk 12 Z Z (Am (λh=>absurd Z h) (AT J (gn (Zc 5 Z ?_))))))));have b:Sep z (rdkA a n F m::blk i [Aa s.gen,Aa s.epoch,Aa s.pages,Aa s.start,Aa s.len,Aa s.head,Aa s.seq] 92::R) w:=(H.pick 5 [1,2,3,4,0] Z).toRk f;clear H;have H:=b.l2;refine Z2 7 [1,7,5,1,0,6,1,0] H Z (Ad Z (AX Z Z (out:=[V a,Aa s.gen,Aa s.epoch,Aa s.pages,Aa s.start,Aa s.len,Aa s.head,Aa s.seq,Aa s.head,Aa s.seq,Aa 0,.bool false]) J) (Za 0 [] H Z ?_));intro k w H;refine Zc 4 Z (Zr Z ?_);exact ⟨_,⟨k,Z,Z⟩,H.pick 3 [0,1] Z⟩
theorem FN(b c:Nat)(s:Sup)(a q u:Int)(hs:(0<=s.start/\s.start<=1099511627776)/\0<s.len/\s.len<=1099511627776)(x:Int)(g:0<=x/\x<=1099511627776):Aj 186 [V b,Aa x] [blk b [V c,Aa s.gen,Aa s.epoch,Aa s.pages,Aa s.start,Aa s.len,Aa s.head,Aa s.seq,Aa a,Aa q,Aa u,.bool false] 249] (λv G=>v=Aa (s.start+x%s.len)/\G=[blk b [V c,Aa s.gen,Aa s.epoch,Aa s.pages,Aa s.start,Aa s.len,Aa s.head,Aa s.seq,Aa a,Aa q,Aa u,.bool false] 249]):=by
 intro z R w H;refine Ac func186 Z ntmps186 Z (Zc 6 Z ?_);have d:=Adg x (show s.len≠0 by omega);have f:=AcU x (show 0<s.len by omega);refine Bd (Sep z _) J J H.drew (FT 14 [1,4,0,0,1,5,0,0] [x%s.len,s.start+x%s.len] Z J U (Bu (λw e=>?_)));have H:=e.l1;refine gn (Zc 2 Z (Zr Z ?_));exact ⟨_,⟨Z,Z⟩,H.pick 1 [0] Z⟩
theorem KV(b c:Nat)(s:Sup)(a q u:Int)(hs:(0<=s.start/\s.start<=1099511627776)/\0<s.len/\s.len<=1099511627776)(e:0<=u/\u<=1099511627776):Aj 191 [V b] [blk b [V c,Aa s.gen,Aa s.epoch,Aa s.pages,Aa s.start,Aa s.len,Aa s.head,Aa s.seq,Aa a,Aa q,Aa u,.bool false] 249] (λv G=>v=Aa (s.len-u)/\G=[blk b [V c,Aa s.gen,Aa s.epoch,Aa s.pages,Aa s.start,Aa s.len,Aa s.head,Aa s.seq,Aa a,Aa q,Aa u,.bool false] 249]):=by
 intro z R w H;refine Ac func191 Z ntmps191 Z (Z2 18 [11,0,0] H Z (Bd (Sep z _) J J H.drew (FT 11 [1,5,0,0,10,0,0] [s.len-u] Z J U (Bu (λw d=>?_)))));have H:=d.l1;refine gn (Zc 2 Z (Zr Z ?_));exact ⟨_,⟨Z,Z⟩,H.pick 1 [0] Z⟩
theorem Ip(b c:Nat)(s:Sup)(a q u:Int)(hs:(0<=s.start/\s.start<=1099511627776)/\0<s.len/\s.len<=1099511627776)(k:Int)(f:0<=k/\k<=1000000)(g:0<=a/\a<=1099511627776)(hq:0<=q/\q<=1099511627776)(e:0<=u/\u<=1099511627776):Aj 189 [V b,Aa k] [blk b [V c,Aa s.gen,Aa s.epoch,Aa s.pages,Aa s.start,Aa s.len,Aa s.head,Aa s.seq,Aa a,Aa q,Aa u,.bool false] 249] (λv G=>v=.tuple #[]/\G=[blk b [V c,Aa s.gen,Aa s.epoch,Aa s.pages,Aa s.start,Aa s.len,Aa s.head,Aa s.seq,Aa ((a+k)%s.len),Aa (q+1),Aa (u+k),.bool false] 249]):=by
 intro z R w H;refine Ac func189 Z ntmps189 Z (Zc 1 Z (Bh 15 J J (A4 H λw d=>?_)));have H:=d.l1;refine CL 15 [8,0,0,1,5,0,0,8] [a+k,(a+k)%s.len] H Z J U (BY (gw (Z5 27 [0,9,0,0,9,0,10,0,0,10,0] [q+1,u+k] H Z U ?_)));intro w H;refine Zf Z ?_;exact ⟨_,⟨Z,Z⟩,H.pick 1 [0] Z⟩
theorem Nq(v:Value)(es:List ImE)(A:Ah)(b:∀h,A h->rdH 3 v es.length (Bq es) h/\∀e∈es,rdH 1 e.2 240 (e.1.body.map u8) h)(s:∀e∈es,e.1.Ok)(hn:0<es.length/\es.length<=1048576)(n:∀(j i:Nat) (e f:ImE),j<i->es[j]?=some e->es[i]?=some f->e.1.num≠f.1.num):Aj 190 [v] [A] (λv G=>v=.bool true/\G=[A]):=by
 intro z R w H;obtain ⟨o,x,rfl⟩:=H.sy 0 (λq=>(b _ q).1.slc);have a1:=H.sy 0 (λq=>(b _ q).1.small);refine Ac func190 Z ntmps190 Z (Zc 12 Z ?_);refine Ay (σ:=Nat) (λi=>[(3,Aa (i:Int)),(0,.slice o es.length x)])
   (λi w=>Sep z (A::R) w/\(i<=es.length)) (λi=>es.length-i) 0
   fr_z ⟨H,AbV _⟩ ?_
 clear H;rintro i w ⟨l,g⟩;have H:=l.l1;have hi:=g;clear g;refine Z0 9 [0] Z (Ag Z (λh1=>?_) (λh1=>?_))
 ·refine Zc 5 Z ?_;obtain ⟨e,c⟩:∃e,es[i]?=some e:=⟨_,AbF U⟩;have hm:=s e (AbG c)
  obtain ⟨bo,bc,p⟩:Slc e.2 240:=H.sy 0 (λq=>((b _ q).2 e (AbG c)).slc);obtain ⟨m,bv⟩:=e;dsimp only at p hm;subst p;have a:=(H.rv 0 (λq=>(b _ q).1)).at (A7 c 0 _ Z);refine Zc 3 Z (Ad Z (Az Z (z:=3) (j:=i) (r:=i*3) J Z Z Z U a U) (Ad Z (BU Z Z (vs:=[Aa m.num,Aa m.kind,.slice bo 240 bc]) J O (AB (λk u hk=>(H.rv 0 (λq=>(b _ q).1)).at (A7 c k u hk)))) (AA Z (call143 _) (F3 m hm _ _ (λh q=>(b h q).2 _ (AbG c))) H ?_)));rintro _ w _ ⟨t,rfl,rfl⟩ H;have y:=H.sy 0 (·.slc);refine Z0 23 [4] Z ?_;refine Ay (σ:=Nat) (λk=>[(6,Aa (k:Int)),(0,.slice o es.length x),(3,Aa (i:Int)),(5,Aa 0),(7,Aa (i:Int)),(8,.slice o es.length x),(9,Aa (es.length:Int)),(10,.bool (decide ((i:Int)<(es.length:Int)))),(13,.tuple #[t,Aa 0]),(14,.slice o es.length x),(15,Aa (i:Int)),(16,FQ o (i*3)),(17,.agg #[Aa m.num,Aa m.kind,.slice bo 240 bc]),(18,.tuple #[t,Aa 0]),(19,t),(20,Aa 0),(21,Aa 0),(22,.bool false)])
    (λk w=>Sep z (grow 5 1 t ((Em m).length) ((Em m).map u8)::A::R) w/\(k<=i)) (λk=>i-k) 0
    fr_z ⟨H,AbV _⟩ ?_
  clear H;rintro k w ⟨l,g⟩;have H:=l.l2;have y:=H.sy 0 (·.slc);have hk:=g;clear g;refine Z0 8 [0] Z (Ag Z (λh2=>?_) (λh2=>?_))
  ·refine Zc 5 Z ?_;obtain ⟨f,hf⟩:∃f,es[k]?=some f:=⟨_,AbF U⟩;have a:=(H.rv 1 (λq=>(b _ q).1)).at (A7 c 0 _ Z)
   have a0:=n k i f _ U hf c;refine Bd (Sep z _) J J H.drew (Cm 2 [] Z J (Bn Z Z Z (Az Z (z:=3) (j:=k) (r:=k*3) J Z Z Z U a U) (Bn Z Z Z (BN Z (k:=0) (r:=k*3) J Z a Z) (Bn Z Z Z (AM Z Z J (λ_ hs=>(hs.rv 1 (λq=>(b _ q).1)).at (A7 hf 0 _ Z))) (Cm 2 [] Z J (Bn Z Z Z (Az Z (z:=3) (j:=i) (r:=i*3) J Z Z Z U a U) (Bn Z Z Z (BN Z (k:=0) (r:=i*3) J Z a Z) (Bn Z Z Z (AM Z Z J (λ_ hs=>(hs.rv 1 (λq=>(b _ q).1)).at (A7 c 0 _ Z))) (Cm 1 [] Z J (Bu (λw l=>?_)))))))))));have H:=l.l2;refine gn (Zc 1 Z (Ag Z (λh3=>?_) (λh3=>?_)))
   ·exact absurd h3 a0
   refine Z1 8 [] [(k:Int)+1] Z U (gf ?_);intro _ hF;refine ⟨(k+1),hF.cz,⟨H,?_⟩,?_⟩
   ·omega
   omega
  refine Zc 2 Z (gx (Z1 8 [] [(i:Int)+1] Z U ?_));replace H:=H.d;refine gf ?_;intro _ hF;refine ⟨(i+1),hF.cz,⟨H,?_⟩,?_⟩
  ·omega
  omega
 refine Zc 2 Z (gx (Z0 11 [0] Z (Zr Z ?_)));exact ⟨_,⟨congrArg Value.bool (decide_eq_true U),Z⟩,H.pick 1 [0] Z⟩
set_option maxHeartbeats 4000000 in
theorem LD (c f:Nat) (s:Sup) (a q u:Int) (c1:0<=s.epoch/\s.epoch<4294967296) (c0:0<=q/\q<1099511627776) (v:Value) (es:List ImE) (A:Ah) (o:∀h,A h->rdH 3 v es.length (Bq es) h/\∀e∈es,rdH 1 e.2 240 (e.1.body.map u8) h) (p:∀e∈es,e.1.Ok) (hn:1<=es.length/\es.length<=40):Aj 192 [V c,v] [blk c [V f,Aa s.gen,Aa s.epoch,Aa s.pages,Aa s.start,Aa s.len,Aa s.head,Aa s.seq,Aa a,Aa q,Aa u,.bool false] 249,A] (λv G=>∃v2:Value,v=v2/\G=[grow 5 1 v2 (sect (Bv s.epoch q (es.map Prod.fst))++AF s.epoch q (es.map Prod.fst)).length ((sect (Bv s.epoch q (es.map Prod.fst))++AF s.epoch q (es.map Prod.fst)).map u8),blk c [V f,Aa s.gen,Aa s.epoch,Aa s.pages,Aa s.start,Aa s.len,Aa s.head,Aa s.seq,Aa a,Aa q,Aa u,.bool false] 249,A]):=by
 intro z R w H;obtain ⟨ao,oc,rfl⟩:=H.sy 1 (λq=>(o _ q).1.slc);have b2:=H.sy 1 (λq=>(o _ q).1.small);have t:∀m∈(es.map Prod.fst),m.Ok:=λm hm=>by obtain ⟨e,n,rfl⟩:=AbP.1 hm;exact p e n
 have a9:(AF s.epoch q (es.map Prod.fst)).length=es.length*256:=by rw[DK t,AbN]
 have a8:(es.map Prod.fst).length=es.length:=AbN ..;refine Ac func192 Z ntmps192 Z (Zc 17 Z ?_);replace H:=(H.nilg 5 1).l3;replace H:=(H.nilg 3 1).l4;refine Zc 5 Z ?_;refine Ay (σ:=Nat×Value×Value) (λ⟨i,u9,n9⟩=>[(7,Aa (i:Int)),(5,u9),(6,n9),(0,V c),(1,.slice ao es.length oc),(4,.slice none 0 0)])
   (λ⟨i,u9,n9⟩ w=>Sep z (grow 3 1 n9 i ((((es.map Prod.fst).take i).map Img.num).map Aa)::grow 5 1 u9 ((AF s.epoch q ((es.map Prod.fst).take i)).length) ((AF s.epoch q ((es.map Prod.fst).take i)).map u8)::blk c [V f,Aa s.gen,Aa s.epoch,Aa s.pages,Aa s.start,Aa s.len,Aa s.head,Aa s.seq,Aa a,Aa q,Aa u,.bool false] 249::A::R) w/\(i<=es.length)) (λ⟨i,u9,n9⟩=>es.length-i) ⟨0,.slice none 0 0,.slice none 0 0⟩
   (λ_ hF=>(hF.co Z (by go_num) (hF.co Z (by go_num) hF.cz))) ⟨(by simpa [AF] using H),AbV _⟩ ?_
 clear H;rintro ⟨i,u9,n9⟩ w ⟨b,hI⟩;dsimp only at hI b ⊢;have H:=b.l4;have a2:=H.sy 0 (·.slc);have a6:=H.sy 1 (·.slc);have hi:=hI;clear hI;refine Z0 9 [0] Z (Ag Z (λh1=>?_) (λh1=>?_))
 ·refine Zc 5 Z ?_;obtain ⟨e,g⟩:∃e,es[i]?=some e:=⟨_,AbF U⟩;have hm:=p e (AbG g)
  obtain ⟨bo,bc,a1⟩:Slc e.2 240:=H.sy 3 (λq=>((o _ q).2 e (AbG g)).slc);obtain ⟨m,bv⟩:=e;dsimp only at a1 hm;subst a1;have l:=(H.rv 3 (λq=>(o _ q).1)).at (A7 g 0 _ Z);replace H:=H.f3.f3;refine AK (Sep z (blk c [V f,Aa s.gen,Aa s.epoch,Aa s.pages,Aa s.start,Aa s.len,Aa s.head,Aa s.seq,Aa a,Aa q,Aa u,.bool false] 249::A::R)) 19 Z J (A4 H λw b=>?_);have H:=b.l4;refine A6 [0,1,2,3,4,5,6,7,8,9,10] [1,2,0,9,0] J (λ_ hx=>(AQ (hx.blk 0 Z) AJ)) (by exact H.pick 4 [0,1] Z) Z J Z Z (AR 11 J Z Z J J J Z Z Z (Az Z (z:=3) (j:=i) (r:=i*3) J Z Z Z U l U) (H.pick 4 [0,1] Z) (AR 12 J Z Z J J J Z Z Z (BU Z Z (vs:=[Aa m.num,Aa m.kind,.slice bo 240 bc]) J O (λ_ hs k u hk=>(hs.rv 1 (λq=>(o _ q).1)).at (A7 g k u hk))) (H.pick 4 [0,1] Z) (An [13] J O (Ar (Ba Z Z Z Z Z Z (λw=>call224 _ w) (I3 s.epoch q U U m hm _ _ (λh q=>(o h q).2 _ (AbG g))) H.f1 Z ?_)))));rintro _ w _ ⟨u1,rfl,rfl⟩ H;have b6:=H.sy 0 (·.slc);refine Am (λ_=>(H.pick 5 [2,1] Z)) (A6 [14,15,16,17] [] J (λ_ _=>AJ) (by exact H.pick 5 [2,1] Z) Z J Z Z (An [18] J O (Ar (B5 Z Z Z Z (AS Z Z) (Am (λh=>absurd Z h) (AT J (gn (Zc 2 Z ?_))))))));have a3:(es.map Prod.fst)[i]?=some m:=by rw[AbY,g];rfl
  have b0:(AF s.epoch q ((es.map Prod.fst).take i)).length<=10240:=by rw[DK (λx hx=>t x (Acr hx)),AbM];omega
  have b1:(sect (Bk s.epoch q m)).length=256:=sect_len (AcO (C4 hm.2.2));refine Zc 3 Z (AG Z (AO 4 H Z Z J Bf Z Z (H.rv 0 (·.rd)) (by intro c9 a0;obtain ⟨b9,_,rfl⟩:=AbP.1 a0;rfl) U) ?_);rintro v2 w b;have b:Sep z (grow 5 1 u1 ((sect (Bk s.epoch q m)).length) ((sect (Bk s.epoch q m)).map u8)::A::blk c [V f,Aa s.gen,Aa s.epoch,Aa s.pages,Aa s.start,Aa s.len,Aa s.head,Aa s.seq,Aa a,Aa q,Aa u,.bool false] 249::grow 3 1 n9 i ((((es.map Prod.fst).take i).map Img.num).map Aa)::grow 5 1 v2 ((AF s.epoch q ((es.map Prod.fst).take i)).length+(sect (Bk s.epoch q m)).length) ((AF s.epoch q ((es.map Prod.fst).take i)).map u8++(sect (Bk s.epoch q m)).map u8)::R) w:=b;have a4:((AF s.epoch q ((es.map Prod.fst).take i)).map u8++(sect (Bk s.epoch q m)).map u8:List Value)=(AF s.epoch q ((es.map Prod.fst).take (i+1))).map u8:=(by rw[<-FK a3];simp);rw[a4] at b;rw[show ((AF s.epoch q ((es.map Prod.fst).take i)).length+(sect (Bk s.epoch q m)).length:Nat)=(AF s.epoch q ((es.map Prod.fst).take (i+1))).length from (by rw[<-FK a3,AbH])] at b;have H:=b.l5;have b5:=H.sy 4 (·.slc);refine Zc 3 Z ?_;replace H:=(H.pick 5 [1,2,3,4] Z).l4;have l:=(H.rv 0 (λq=>(o _ q).1)).at (A7 g 0 _ Z);refine Zc 4 Z (Ad Z (Az Z (z:=3) (j:=i) (r:=i*3) J Z Z Z U l U) (Ad Z (BN Z (k:=0) (r:=i*3) J Z l Z) (Ad Z (AM Z Z J (AB ((H.rv 0 (λq=>(o _ q).1)).at (A7 g 0 _ Z)))) (AG Z (AL H Z J BP Z (by decide) (by decide) (out:=[Aa m.num]) J) ?_))));rintro _ w ⟨b3,rfl,H⟩;refine AG Z (AO 3 H Z Z J BP Z Z (H.rv 0 (·.rd U U O Z)) (by simp[Value.oneCell']) U) ?_;rintro v4 w b;have b:Sep z (blk b3 [Aa m.num] 3::A::blk c [V f,Aa s.gen,Aa s.epoch,Aa s.pages,Aa s.start,Aa s.len,Aa s.head,Aa s.seq,Aa a,Aa q,Aa u,.bool false] 249::grow 3 1 v4 (i+1) ((((es.map Prod.fst).take i).map Img.num).map Aa++[Aa m.num])::grow 5 1 v2 ((AF s.epoch q ((es.map Prod.fst).take (i+1))).length) ((AF s.epoch q ((es.map Prod.fst).take (i+1))).map u8)::R) w:=b;have a5:((((es.map Prod.fst).take i).map Img.num).map Aa++[Aa m.num]:List Value)=(((es.map Prod.fst).take (i+1)).map Img.num).map Aa:=(by rw[AbZ,AbY,g];simp);rw[a5] at b;have H:=b.l5;have b7:=H.sy 3 (·.slc);refine Z1 9 [] [(i:Int)+1] Z U ?_;replace H:=H.d.f1.f3.f3;refine gf ?_;intro _ hF;refine ⟨⟨i+1,v2,v4⟩,hF.cz,⟨H,?_⟩,?_⟩
  ·show i+1<=es.length;omega
  (dsimp only;omega)
 refine Zc 2 Z (gx (Zc 3 Z ?_));obtain rfl:i=es.length:=by omega
 rw[show (es.map Prod.fst).take es.length=(es.map Prod.fst) from AbJ O] at H;have b:Sep z (grow 3 1 n9 (es.map Prod.fst).length (((es.map Prod.fst).map Img.num).map Aa)::grow 5 1 u9 ((AF s.epoch q (es.map Prod.fst)).length) ((AF s.epoch q (es.map Prod.fst)).map u8)::blk c [V f,Aa s.gen,Aa s.epoch,Aa s.pages,Aa s.start,Aa s.len,Aa s.head,Aa s.seq,Aa a,Aa q,Aa u,.bool false] 249::A::R) w:=by have n:=H;rw[show es.length=(es.map Prod.fst).length from by simp] at n;exact n
 clear H;have H:=b.l4;have a6:=H.sy 1 (·.slc);have a2:=H.sy 0 (·.slc);obtain ⟨no,nc,rfl⟩:=a2;replace H:=H.f2;refine AK (Sep z (blk c [V f,Aa s.gen,Aa s.epoch,Aa s.pages,Aa s.start,Aa s.len,Aa s.head,Aa s.seq,Aa a,Aa q,Aa u,.bool false] 249::R)) 19 Z J (A4 H λw b=>?_);have H:=b.l4;refine A6 [0,1,2,3,4,5,6,7,8,9,10] [1,2,0,9,0] J (λ_ hx=>(AQ (hx.blk 0 Z) AJ)) (by exact H.pick 4 [0] Z) Z J Z Z (An [11] J O (Ar (Ba Z Z Z Z Z Z (λw=>call222 _ w) (Nm _ (AF s.epoch q (es.map Prod.fst)) _ (λh q=>q.rd)) H.f2 Z ?_)));rintro _ w _ ⟨rfl,rfl⟩ H;refine Am (λ_=>(H.pick 4 [1] Z)) (AR 12 J Z Z J J J Z Z Z (AX Z Z (out:=[Aa s.epoch,Aa q,.slice no ((es.map Prod.fst).length) nc,u32 (AC (AF s.epoch q (es.map Prod.fst)))]) J) (H.pick 4 [1] Z) (An [13] J O (Ar (Ba Z Z Z Z Z Z (λw=>call221 _ w) (Kh s.epoch q _ ((es.map Prod.fst).map Img.num) _ _ (λh q=>by have e9:((es.map Prod.fst).map Img.num).length=(es.map Prod.fst).length:=AbN ..;rw[e9];exact q.rd) U U (by rw[AbN];omega) (λy hy=>by obtain ⟨m9,n,rfl⟩:=AbP.1 hy;exact (t m9 n).1)) H.f2 Z ?_))));rintro _ w _ ⟨u5,rfl,rfl⟩ H;have b4:=H.sy 0 (·.slc);refine Am (λ_=>(H.pick 5 [3] Z)) (A6 [14,15,16,17] [] J (λ_ _=>AJ) (by exact H.pick 5 [3] Z) Z J Z Z (An [18] J O (Ar (B5 Z Z Z Z (AS Z Z) (Am (λh=>absurd Z h) (AT J (gn (Zc 5 Z (AG Z (AO 0 H Z Z J Bf Z Z (H.rv 2 (·.rd)) (by intro c9 a0;obtain ⟨b9,_,rfl⟩:=AbP.1 a0;rfl) (by have n:(sect (Bv s.epoch q (es.map Prod.fst))).length=256:=sect_len (hdL_le U);unfold Bv at n;omega)) ?_)))))))));rintro v6 w b;have b:Sep z (grow 5 1 v6 ((sect (Bv s.epoch q (es.map Prod.fst))).length+(AF s.epoch q (es.map Prod.fst)).length) ((sect (Bv s.epoch q (es.map Prod.fst))).map u8++(AF s.epoch q (es.map Prod.fst)).map u8)::grow 3 1 (.slice no ((es.map Prod.fst).length) nc) ((es.map Prod.fst).length) (((es.map Prod.fst).map Img.num).map Aa)::grow 5 1 u9 ((AF s.epoch q (es.map Prod.fst)).length) ((AF s.epoch q (es.map Prod.fst)).map u8)::blk c [V f,Aa s.gen,Aa s.epoch,Aa s.pages,Aa s.start,Aa s.len,Aa s.head,Aa s.seq,Aa a,Aa q,Aa u,.bool false] 249::A::R) w:=b;have a7:((sect (Bv s.epoch q (es.map Prod.fst))).map u8++(AF s.epoch q (es.map Prod.fst)).map u8:List Value)=(sect (Bv s.epoch q (es.map Prod.fst))++AF s.epoch q (es.map Prod.fst)).map u8:=O;rw[a7] at b;rw[show ((sect (Bv s.epoch q (es.map Prod.fst))).length+(AF s.epoch q (es.map Prod.fst)).length:Nat)=(sect (Bv s.epoch q (es.map Prod.fst))++AF s.epoch q (es.map Prod.fst)).length from (by rw[AbH])] at b;have H:=b.l5;have b8:=H.sy 0 (·.slc);refine Zc 10 Z (Zr Z ?_);exact ⟨_,⟨_,Z,Z⟩,H.pick 5 [0,3,4] Z⟩
set_option maxHeartbeats 4000000 in
theorem LE (o l:Nat) (s:Sup) (a q u:Int) (n m:Nat) (a2:m<=1000000000) (a3:n<=4096) (F:Nat->List UInt8) (hs:(0<=s.start/\s.start<=1099511627776)/\0<s.len/\s.len<=1099511627776) (x:0<=s.epoch/\s.epoch<4294967296) (a0:0<=q/\q<1099511627776) (v:Value) (es:List ImE) (A:Ah) (hA:∀h,A h->rdH 3 v es.length (Bq es) h/\∀e∈es,rdH 1 e.2 240 (e.1.body.map u8) h) (b:∀e∈es,e.1.Ok) (hn:1<=es.length/\es.length<=40) (k:∀(j i:Nat) (e f:ImE),j<i->es[j]?=some e->es[i]?=some f->e.1.num≠f.1.num) (ha:0<=a/\a+1+es.length<=s.len) (hu:0<=u/\u+1+es.length<=s.len) (a1:s.start+s.len<=n):Aj 161 [V o,v] [blk o [V l,Aa s.gen,Aa s.epoch,Aa s.pages,Aa s.start,Aa s.len,Aa s.head,Aa s.seq,Aa a,Aa q,Aa u,.bool false] 249,rdkA l n F m,A] (λv G=>v=Aa 0/\G=[blk o [V l,Aa s.gen,Aa s.epoch,Aa s.pages,Aa s.start,Aa s.len,Aa s.head,Aa s.seq,Aa ((a+((1+es.length:Nat):Int))%s.len),Aa (q+1),Aa (u+((1+es.length:Nat):Int)),.bool false] 249,rdkA l n (Ey F (s.start+a).toNat (sect (Bv s.epoch q (es.map Prod.fst))++AF s.epoch q (es.map Prod.fst)) (1+es.length)) (m+(1+es.length)),A]):=by
 intro z R w H;obtain ⟨ao,oc,rfl⟩:=H.sy 2 (λq=>(hA _ q).1.slc);have d:∀m∈(es.map Prod.fst),m.Ok:=λm hm=>by obtain ⟨e,h9,rfl⟩:=AbP.1 hm;exact b e h9
 refine Ac func161 Z ntmps161 Z (Z0 13 [0] Z (Ag Z (λh1=>U) (λh1=>?_)));refine Zc 6 Z (Ai Z (call190 _) (Nq _ es _ hA b U k) H.f2 ?_);intro w H;refine Z3 24 [11,1,0] [((1+es.length:Nat):Int)] H Z U (Ai Z (call191 _) (KV _ _ _ _ _ _ hs U) H.f1 ?_);intro w H;refine Z0 3 [0] Z (Ak 28 Z (λh2=>U) (λh2=>?_));refine Z2 8 [1,2,0,0,0] H Z (Ak 36 Z (λh3=>U) (λh3=>?_));refine Z2 8 [9,0,0,0] H Z (Ag Z (λh4=>U) (λh4=>?_));refine Zc 6 Z (AA Z (call192 _) (LD _ _ _ _ _ _ x a0 _ es _ hA b U) H ?_);rintro rv w _ ⟨_,rfl,rfl⟩ H;refine Zc 4 Z ?_;have c:(sect (Bv s.epoch q (es.map Prod.fst))++AF s.epoch q (es.map Prod.fst)).length=(256*(1+es.length)):=by rw[AbH,sect_len (hdL_le (by rw[AbN];omega)),DK d,AbN];omega
 obtain ⟨gb,y,rest,t,c1,c2,c3,g⟩:=H.ungrow 0 Z U;subst t;clear H;have H:=g.l4;rw[c] at c1 c3;refine Bd (Sep z _) J J H.drew (FT 11 [1,5,1,0,8,1,0] [s.len-a] Z J U (Bn Z Z Z (LR Z Z Z) (Cm 1 [] Z J (Bu (λw g=>?_)))));have H:=g.l4;refine gn (Zc 2 Z (k_updA 7 (v:=Aa ((1+es.length:Nat):Int)) Z (congrArg Aa U) ?_));replace H:=H.f1;refine AK (Sep z (blk o [V l,Aa s.gen,Aa s.epoch,Aa s.pages,Aa s.start,Aa s.len,Aa s.head,Aa s.seq,Aa a,Aa q,Aa u,.bool false] 249::R)) 16 Z J (A4 H λw g=>?_);have H:=g.l4;refine A6 [0,1,2,3,4,5,6,7,8,10,11] [0,0,8,0] J (λ_ hx=>(AQ (hx.blk 0 Z) AJ)) (by exact H.pick 4 [0] Z) Z J Z Z (AR 12 J Z Z J J J Z Z Z (GQ Z Z Z (r:=((256*(1+es.length):Nat):Int)) U U) (H.pick 4 [0] Z) (AR 13 J Z Z J J J Z Z Z (Bj Z (z:=1) (p:=0) (q:=(256*(1+es.length))) (o':=0) (l':=(256*(1+es.length))) (c':=y) J Z (.inl ⟨Z,Z⟩) (.inr ⟨_,_,_,Z,Z,Z⟩) U U U U U U) (H.pick 4 [0] Z) (An [9] J O (Ar (Ba Z Z Z Z Z Z (λw=>call186 _ w) (FN _ _ _ _ _ _ hs a U) H Z ?_)))));rintro _ w _ ⟨rfl,rfl⟩ H;refine Am (λ_=>(H.pick 4 [0] Z)) (An [14] J O (Ar (k_updA 67 (v:=Aa (((s.start+a).toNat:Nat):Int)) Z (congrArg Aa (by rw[AcG U U];omega)) (Ba Z Z Z Z Z Z (λw=>call149 _ w) (Fz _ n _ U _ ((s.start+a).toNat) (1+es.length) false _ (sect (Bv s.epoch q (es.map Prod.fst))++AF s.epoch q (es.map Prod.fst)) _ (λh q=>by rw[c];exact q.rd U U (by rw[AbH,AbN];omega) (by rw[Ab1,AcD,Acs (by rw[AbN];omega)])) c U U) H.f1.f3 Z ?_))));rintro _ w _ ⟨rfl,rfl⟩ H;refine Am (λ_=>(H.pick 4 [2] Z)) (An [15] J O (Ar (B5 Z Z Z Z (AS Z Z) (Am (λh=>absurd Z h) (AT J (gn (Z0 13 [3,0] Z (Ag Z (λh5=>U) (λh5=>?_)))))))));refine Z0 16 [4] Z (Ai Z (call189 _) (Ip _ _ _ _ _ _ hs ((1+es.length:Nat):Int) U U U U) H.f2 ?_);intro w H;refine Zc 8 Z (Zr Z ?_);exact ⟨_,⟨Z,Z⟩,H.pick 4 [0,1,3] Z⟩
theorem UP{e q:Int}{ims:List Img}(a:∀m∈ims,m.Ok){i:Nat}{m:Img}(h:ims[i]?=some m){rest:List Value}:(((AF e q ims).map u8++rest).drop (256*i)).take (256*1)=(sect (Bk e q m)).map u8:=by
 have d:=(AbE.1 h).1;have f:=a m (AbG h);have j:AF e q ims=AF e q (ims.take i)++(sect (Bk e q m)++AF e q (ims.drop (i+1))):=by
  have g:ims=ims.take i++m::ims.drop (i+1):=by
   have:=AcC i ims;rw[Add d,show ims[i]=m from (AbE.1 h).2] at this;exact this.symm
  have:=congrArg (AF e q) g;rw[this];simp[AF]
 have k:(AF e q (ims.take i)).length=256*i:=by rw[DK (λx b=>a x (Acr b)),AbM];omega
 have c:(sect (Bk e q m)).length=256:=sect_len (AcO (C4 f.2.2));rw[j,Ab7,AbK,AdE (by rw[AbN];exact k),Ab7,AbK,Acs (by rw[AbN,c])]
set_option maxHeartbeats 4000000 in
theorem Sc (pl g:Nat) (s:Sup) (a q u:Int) (n m9:Nat) (c7:n<=4096) (F:Nat->List UInt8) (hs:(0<=s.start/\s.start<=1099511627776)/\0<s.len/\s.len<=1099511627776) (a6:0<=s.epoch/\s.epoch<4294967296) (b8:0<=q/\q<1099511627776) (ims:List Img) (f:∀m∈ims,m.Ok) (hn:1<=ims.length/\ims.length<=40) (ha:0<=a/\a+1+ims.length<=s.len) (c5:s.start+s.len<=n) (o:∀(j:Nat) (m:Img),ims[j]?=some m->F (s.start+a+1+(j:Int)).toNat=sect (Bk s.epoch q m)) (nv:Value) (B:Ah) (hB:∀h,B h->rdH 1 nv ims.length ((ims.map Img.num).map Aa) h):Aj 188 [V pl,.agg #[Aa s.epoch,Aa q,nv,u32 (AC (AF s.epoch q ims))]] [blk pl [V g,Aa s.gen,Aa s.epoch,Aa s.pages,Aa s.start,Aa s.len,Aa s.head,Aa s.seq,Aa a,Aa q,Aa u,.bool false] 249,rdkA g n F m9,B] (λv G=>∃(v2:Value) (es:List ImE) (hq:Hp),es.map Prod.fst=ims/\(∀e∈es,imeOk hq e)/\v=.tuple #[v2,.bool true,Aa 0]/\G=[grow 118 3 v2 ims.length (Bq es),poolA hq,blk pl [V g,Aa s.gen,Aa s.epoch,Aa s.pages,Aa s.start,Aa s.len,Aa s.head,Aa s.seq,Aa a,Aa q,Aa u,.bool false] 249,rdkA g n F m9,B]):=by
 intro z R w H;obtain ⟨ao,oc,rfl⟩:=H.sy 2 (λq=>(hB _ q).slc);have a5:(AF s.epoch q ims).length=ims.length*256:=DK f;refine Ac func188 Z ntmps188 Z (Za 2 [] H Z ?_);intro b1 w H;refine Zc 12 Z ?_;replace H:=(H.nilg 5 1).l5;refine Zc 5 Z ?_;refine Ay (σ:=Nat×Value) (λ⟨i,u9⟩=>[(8,Aa (i:Int)),(7,u9),(0,V pl),(3,V b1)])
   (λ⟨i,u9⟩ w=>Sep z (grow 5 1 u9 ((AF s.epoch q (ims.take i)).length) ((AF s.epoch q (ims.take i)).map u8)::blk b1 [Aa s.epoch,Aa q,.slice ao ims.length oc,u32 (AC (AF s.epoch q ims))] 233::blk pl [V g,Aa s.gen,Aa s.epoch,Aa s.pages,Aa s.start,Aa s.len,Aa s.head,Aa s.seq,Aa a,Aa q,Aa u,.bool false] 249::rdkA g n F m9::B::R) w/\(i<=ims.length)) (λ⟨i,u9⟩=>ims.length-i) ⟨0,.slice none 0 0⟩
   (λ_ o=>(o.co Z (by go_num) o.cz)) ⟨(by simpa [AF] using H),AbV _⟩ ?_
 clear H;rintro ⟨i,u9⟩ w ⟨b,hI⟩;dsimp only at hI b ⊢;have H:=b.l5;have c8:=H.sy 0 (·.slc);have hi:=hI;clear hI;refine Z2 10 [2,1,0,0] H Z (Ag Z (λh1=>?_) (λh1=>?_))
 ·refine Zc 5 Z ?_;obtain ⟨m,c⟩:∃m,ims[i]?=some m:=⟨_,AbF U⟩;have t:=f m (AbG c)
  have a1:(sect (Bk s.epoch q m)).length=256:=sect_len (AcO (C4 t.2.2));replace H:=H.f2;refine AK (Sep z (blk pl [V g,Aa s.gen,Aa s.epoch,Aa s.pages,Aa s.start,Aa s.len,Aa s.head,Aa s.seq,Aa a,Aa q,Aa u,.bool false] 249::R)) 19 Z J (A4 H λw b=>?_);have H:=b.l5;refine A6 [0,1,2,3,4,5,6,7,8] [0,0,8,0] J (λ_ l=>(AQ (l.blk 0 Z) AJ)) (by exact H.pick 5 [0] Z) Z J Z Z (AR 9 J Z Z J J J Z Z Z (CA Z Z Z (r:=a+1) U U) (H.pick 5 [0] Z) (A6 [10] [] J (λ_ _=>AJ) (by exact H.pick 5 [0] Z) Z J Z Z (AR 11 J Z Z J J J Z Z Z (CA Z Z Z (r:=a+1+(i:Int)) U U) (H.pick 5 [0] Z) (An [12] J O (Ar (Ba Z Z Z Z Z Z (λw=>call186 _ w) (FN _ _ _ _ _ _ hs (a+1+(i:Int)) U) H Z ?_))))));rintro _ w _ ⟨rfl,rfl⟩ H;refine Am (λ_=>(H.pick 5 [0] Z)) (An [13] J O (Ar (k_updA 37 (v:=Aa (((s.start+a+1+(i:Int)).toNat:Nat):Int)) Z (congrArg Aa (by rw[AcG U U];omega)) (Ba Z Z Z Z Z Z (λw=>call84 _ w) (Hb _ _ _ _ ((s.start+a+1+(i:Int)).toNat) U) H.f3 Z ?_))));rintro _ w _ ⟨u2,rfl,rfl⟩ H;have c6:=H.sy 0 (·.slc);refine Am (λ_=>(H.pick 6 [2] Z)) (A6 [14,15,16,17] [] J (λ_ _=>AJ) (by exact H.pick 6 [2] Z) Z J Z Z (An [18] J O (Ar (B5 Z Z Z Z (AS Z Z) (Am (λh=>absurd Z h) (AT J (gn (Zc 3 Z ?_))))))));rw[o i m c] at H;refine Z0 8 [4] Z ?_;have c0:(AF s.epoch q (ims.take i)).length<=10240:=by rw[DK (λx l=>f x (Acr l)),AbM];omega
  refine Zc 3 Z (AG Z (AO 3 H Z Z J Bf Z Z (H.rv 0 (·.rd)) (by intro c9 b2;obtain ⟨b9,_,rfl⟩:=AbP.1 b2;rfl) U) ?_);rintro v3 w b;have b:Sep z (grow 5 1 u2 256 ((sect (Bk s.epoch q m)).map u8)::rdkA g n F m9::blk pl [V g,Aa s.gen,Aa s.epoch,Aa s.pages,Aa s.start,Aa s.len,Aa s.head,Aa s.seq,Aa a,Aa q,Aa u,.bool false] 249::grow 5 1 v3 ((AF s.epoch q (ims.take i)).length+256) ((AF s.epoch q (ims.take i)).map u8++(sect (Bk s.epoch q m)).map u8)::blk b1 [Aa s.epoch,Aa q,.slice ao ims.length oc,u32 (AC (AF s.epoch q ims))] 233::B::R) w:=b;have b7:((AF s.epoch q (ims.take i)).map u8++(sect (Bk s.epoch q m)).map u8:List Value)=(AF s.epoch q (ims.take (i+1))).map u8:=(by rw[<-FK c];simp);rw[b7] at b;rw[show ((AF s.epoch q (ims.take i)).length+256:Nat)=(AF s.epoch q (ims.take (i+1))).length from (by rw[<-FK c,AbH,a1])] at b;have H:=b.l6;have c4:=H.sy 3 (·.slc);refine Zc 4 Z ?_;replace H:=(H.pick 6 [1,2,3,4,5] Z).l5;refine Z1 5 [] [(i:Int)+1] Z U ?_;replace H:=H.f4.f1.f2.f4.f4;refine gf ?_;intro _ o;refine ⟨⟨i+1,v3⟩,o.cz,⟨H,?_⟩,?_⟩
  ·show i+1<=ims.length;omega
  (dsimp only;omega)
 refine Zc 2 Z (gx (Zc 4 Z ?_));obtain rfl:i=ims.length:=by omega
 rw[AcB] at H;replace H:=H.f1;refine AK (Sep z (blk b1 [Aa s.epoch,Aa q,.slice ao ims.length oc,u32 (AC (AF s.epoch q ims))] 233::R)) 5 Z J (A4 H λw b=>?_);have H:=b.l5;refine A6 [0,2,3] [3,0] J (λ_ l=>(AQ (l.blk 0 Z) AJ)) (by exact H.pick 5 [0] Z) Z J Z Z (An [1] J O (Ar (Ba Z Z Z Z Z Z (λw=>call222 _ w) (Nm _ (AF s.epoch q ims) _ (λh q=>q.rd)) H.f1 Z ?_)));rintro _ w _ ⟨rfl,rfl⟩ H;refine Am (λ_=>(H.pick 5 [1] Z)) (An [4] J O (Ar (B5 Z Z Z Z (Oh (k:=.u32) Z J Z Z) (Am (λh=>absurd Z h) (AT J (gn (Zc 1 Z (Ag Z (λh2=>?_) (λh2=>?_)))))))))
 ·exact absurd Z h2
 refine Zc 3 Z ?_;obtain ⟨gb,a2,rest,b0,c1,c2,c3,b⟩:=H.ungrow 0 Z U;subst b0;clear H;have H:=b.l5;rw[a5] at c1 c3;replace H:=((E9 H).nilg 118 3).l7;refine Zc 11 Z ?_;refine Ay (σ:=Nat×Value×List ImE×Hp) (λ⟨i,v9,es,hq⟩=>[(12,Aa (i:Int)),(11,v9),(0,V pl),(3,V b1),(7,.slice (some ⟨gb,0,none⟩) ((AF s.epoch q ims).length) a2)])
   (λ⟨i,v9,es,hq⟩ w=>Sep z (grow 118 3 v9 i (Bq es)::poolA hq::blk gb ((AF s.epoch q ims).map u8++rest) 5::blk b1 [Aa s.epoch,Aa q,.slice ao ims.length oc,u32 (AC (AF s.epoch q ims))] 233::blk pl [V g,Aa s.gen,Aa s.epoch,Aa s.pages,Aa s.start,Aa s.len,Aa s.head,Aa s.seq,Aa a,Aa q,Aa u,.bool false] 249::rdkA g n F m9::B::R) w/\(i<=ims.length/\es.map Prod.fst=ims.take i/\∀e∈es,imeOk hq e)) (λ⟨i,v9,es,hq⟩=>ims.length-i) ⟨0,.slice none 0 0,[],λ_=>none⟩
   (λ_ o=>(o.co Z (by go_num) o.cz)) ⟨H,⟨AbV _,Z,λe he=>nomatch he⟩⟩ ?_
 clear H;rintro ⟨i,v9,es,hq⟩ w ⟨b,hI⟩;dsimp only at hI b ⊢;have H:=b.l7;have d0:=H.sy 0 (·.slc);obtain ⟨hi,a0,hE⟩:=hI;refine Z2 10 [2,3,0,0] H Z (Ag Z (λh3=>?_) (λh3=>?_))
 ·refine Zc 5 Z ?_;obtain ⟨m,c⟩:∃m,ims[i]?=some m:=⟨_,AbF U⟩;have t:=f m (AbG c)
  have a1:(sect (Bk s.epoch q m)).length=256:=sect_len (AcO (C4 t.2.2));refine Z1 7 [] [((256*i:Nat):Int),((256*i:Nat):Int),((256*i+256:Nat):Int)] Z U (Ad Z (Bj Z (z:=1) (p:=(256*i)) (q:=(256*i+256)) (o':=256*i) (l':=256) (c':=a2-256*i) J Z (.inr ⟨_,_,_,Z,Z,Z⟩) (.inr ⟨_,_,_,Z,Z,Z⟩) U U U U U U) (AA Z (call223 _) (N2 _ (sect (Bk s.epoch q m)) _ (λh q9=>by rw[a1];exact q9.rd U U (by rw[AbH,AbN];omega) (UP f c)) _ _ a6 b8 m t Z) H.f2 ?_));rintro _ w _ ⟨bv,rfl,rfl⟩ H;have a8:=H.sy 0 (·.slc);obtain ⟨bo,y,rfl⟩:=a8;refine Za 5 [] H Z ?_;intro b4 w H;refine Z4 8 [0] H Z ?_;intro w H;have a4:=(H.rd 8 Z hB).at (j:=i) (u:=Aa m.num) (by rw[AbY,AbY,c];rfl);refine Bd (Sep z _) J J H.drew (E7 12 [1,2,0] (λ_ l=>(AQ (l.blk 6 Z) AJ)) Z J Z (CE 83 Z (λh4=>?_) (λh4=>?_)))
  ·exact absurd Z h4
  refine E7 8 [9,0] (λ_ l=>(AQ (l.blk 6 Z) AJ)) Z J Z (CE 91 Z (λh5=>?_) (λh5=>?_))
  ·exact absurd Z h5
  refine E7 5 [0,0,2,1] (λ_ l=>(AQ (l.blk 0 Z) (AQ (l.blk 5 Z) AJ))) Z J Z (Bn Z Z Z (Az Z (z:=1) (j:=i) (r:=i) J Z Z Z U a4 U) (Bn Z Z Z (AM Z Z J (λ_ hs=>(hs.rd 8 Z hB).at (j:=i) (u:=Aa m.num) (by rw[AbY,AbY,c];rfl))) ?_));refine Cm 2 [] Z J (Bu (λw b=>?_));have H:=b.l9;refine gn (Zc 1 Z (Ag Z (λh6=>?_) (λh6=>?_)))
  ·exact absurd Z h6
  refine Z2 5 [0,3] H Z (AG Z (AL H Z J A5 Z (by decide) (by decide) (out:=[Aa m.num,Aa m.kind,.slice bo 240 y]) J) ?_);rintro _ w ⟨b5,rfl,H⟩;refine AG Z (AO 4 H Z Z J A5 Z Z (H.rv 0 (·.rd U U O Z)) (Aq Z (Aq Z (Aq Z AN))) U) ?_;rintro v6 w b;have b:Sep z (blk b5 [Aa m.num,Aa m.kind,.slice bo 240 y] 118::blk b4 [Aa m.num,Aa m.kind,.slice bo 240 y] 118::grow 5 1 (.slice bo 240 y) 240 (m.body.map u8)::blk gb ((AF s.epoch q ims).map u8++rest) 5::grow 118 3 v6 (i+1) (Bq es++[Aa m.num,Aa m.kind,.slice bo 240 y])::poolA hq::blk b1 [Aa s.epoch,Aa q,.slice ao ims.length oc,u32 (AC (AF s.epoch q ims))] 233::blk pl [V g,Aa s.gen,Aa s.epoch,Aa s.pages,Aa s.start,Aa s.len,Aa s.head,Aa s.seq,Aa a,Aa q,Aa u,.bool false] 249::rdkA g n F m9::B::R) w:=b;have b6:(Bq es++[Aa m.num,Aa m.kind,.slice bo 240 y]:List Value)=Bq (es++[((m,.slice bo 240 y):ImE)]):=(Jf es (m,.slice bo 240 y));rw[b6] at b;have H:=b.l10;have d1:=H.sy 4 (·.slc);refine Zc 4 Z ?_;replace H:=H.f2.f5;obtain ⟨a3,⟨a9,b3⟩,H⟩:=BG H (λh q=>q.rd);have a7:∀e∈es++[((m,.slice bo 240 y):ImE)],imeOk a3 e:=λe he=>by rcases Acd.1 he with q|q;exact (hE e q).le a9;rw[Acu] at q;subst q;exact ⟨t,b3⟩
  refine Z1 5 [] [(i:Int)+1] Z U ?_;replace H:=H.f2.d.f1.d.f6.f6.f6.f6.f5.f5.f6;refine gf ?_;intro _ o;refine ⟨⟨i+1,v6,(es++[((m,.slice bo 240 y):ImE)]),a3⟩,o.cz,⟨H,?_⟩,?_⟩
  ·exact ⟨by show i+1<=ims.length;omega,by rw[Ab7,a0,AbZ,c];rfl,a7⟩
  (dsimp only;omega)
 refine Zc 2 Z (gx (Zc 11 Z (Zr Z ?_)));obtain rfl:i=ims.length:=by omega
 rw[AcB] at a0;exact ⟨_,⟨_,es,hq,a0,hE,Z,Z⟩,H.pick 7 [0,1,4,5,6] Z⟩
def rOff(rs:List Rc)(i:Nat):Nat:=((rs.take i).map λr=>1+r.ims.length).sum
theorem Sd{rs:List Rc}{i:Nat}{r:Rc}(h:rs[i]?=some r):rOff rs (i+1)=rOff rs i+(1+r.ims.length):=by
 unfold rOff;rw[AbZ,h];simp
theorem KW{rs:List Rc}{i:Nat}(h:i<=rs.length):rOff rs i<=rOff rs rs.length:=by
 have:∀k,i+k<=rs.length->rOff rs i<=rOff rs (i+k):=by
  intro k
  induction k with
  | zero=>intro _;exact Ab9 _
  | succ k ih=>
   intro b;have c:=ih U;have a:=Sd (rs:=rs) (i:=i+k) (AbF U);rw[show i+(k+1)=i+k+1 by omega,a];omega
 have:=this (rs.length-i) U;rwa[show i+(rs.length-i)=rs.length by omega] at this
set_option maxHeartbeats 8000000 in
theorem UQ (b n m9:Nat) (c3:n<=4096) (F:Nat->List UInt8) (s:Sup) (t:s.Ok (n:Int)) (hh:s.head=0) (c9:s.epoch<4294967296) (rs:List Rc) (d0:s.seq+rs.length<1099511627776) (hR:∀(i:Nat) (r:Rc),rs[i]?=some r->r.seq=s.seq+(i:Int)/\(1<=r.ims.length/\r.ims.length<=40)/\(∀m∈r.ims,m.Ok)/\F (s.start+(rOff rs i:Int)).toNat=sect (Bv s.epoch r.seq r.ims)/\∀(j:Nat) (m:Img),r.ims[j]?=some m->F (s.start+(rOff rs i:Int)+1+(j:Int)).toNat=sect (Bk s.epoch r.seq m)) (a4:(rOff rs rs.length:Int)<s.len/\F (s.start+(rOff rs rs.length:Int)).toNat=List.replicate 256 0):Aj 152 [V b,.agg #[Aa s.gen,Aa s.epoch,Aa s.pages,Aa s.start,Aa s.len,Aa s.head,Aa s.seq]] [rdkA b n F m9] (λv G=>∃(pl:Nat) (v2:Value) (es:List RcE) (hq:Hp),es.map Prod.fst=rs/\rcesOk es hq/\v=.tuple #[V pl,v2,Aa 0]/\G=[grow 116 2 v2 rs.length (Et es),poolA hq,blk pl [V b,Aa s.gen,Aa s.epoch,Aa s.pages,Aa s.start,Aa s.len,Aa s.head,Aa s.seq,Aa (rOff rs rs.length:Int),Aa (s.seq+(rs.length:Int)),Aa (rOff rs rs.length:Int),.bool false] 249,rdkA b n F m9]):=by
 intro z R w H;replace H:=H.l1;have hk:=t.2;have d1:=Sup.get t;have hs:(0<=s.start/\s.start<=1099511627776)/\0<s.len/\s.len<=1099511627776:=⟨by omega,by omega,by omega⟩;refine Ac func152 Z ntmps152 Z (Za 2 [] H Z ?_);intro b1 w H;refine Z2 9 [0,7] H Z (AA Z (call155 _) (O5 _ n _ F s t) H.f1 ?_);rintro _ w _ ⟨pl,rfl,rfl⟩ H;refine Zc 14 Z ?_;replace H:=((E9 H).nilg 116 2).l5;refine Zc 6 Z ?_;refine Ay (σ:=Nat×Value×List RcE×Hp) (λ⟨i,v9,es,hq⟩=>[(8,v9),(0,V b),(3,V b1),(7,V pl)])
   (λ⟨i,v9,es,hq⟩ w=>Sep z (grow 116 2 v9 i (Et es)::poolA hq::blk pl [V b,Aa s.gen,Aa s.epoch,Aa s.pages,Aa s.start,Aa s.len,Aa s.head,Aa s.seq,Aa (rOff rs i:Int),Aa (s.seq+(i:Int)),Aa (rOff rs i:Int),.bool false] 249::rdkA b n F m9::blk b1 [Aa s.gen,Aa s.epoch,Aa s.pages,Aa s.start,Aa s.len,Aa s.head,Aa s.seq] 92::R) w/\(i<=rs.length/\es.map Prod.fst=rs.take i/\rcesOk es hq)) (λ⟨i,v9,es,hq⟩=>rs.length-i) ⟨0,.slice none 0 0,[],λ_=>none⟩
   fr_z ⟨(by simpa [rOff,Et,hh] using H),⟨AbV _,Z,λe f=>nomatch f⟩⟩ ?_
 clear H;rintro ⟨i,v9,es,hq⟩ w ⟨a,hI⟩;dsimp only at hI a ⊢;have H:=a.l5;have d4:=H.sy 0 (·.slc);obtain ⟨hi,u,hE⟩:=hI;refine Zc 2 Z ?_;have a8:=KW (rs:=rs) (i:=i) U;refine Bd (Sep z _) J J H.drew (E7 7 [10,0,4,1] (λ_ l=>(AQ (l.blk 2 Z) (AQ (l.blk 4 Z) AJ))) Z J Z (Bu (λw a=>?_)));have H:=a.l5;refine gn (Zc 1 Z (Ag Z (λh1=>?_) (λh1=>?_)))
 ·refine Zc 4 Z ?_;have b5:=KW (rs:=rs) (i:=i) U
  refine Z2 7 [8,2,0] H Z (Ai Z (call186 _) (FN _ _ _ _ _ _ hs (rOff rs i:Int) U) H.f2 ?_);intro w H;replace H:=H.l5;refine k_updA 35 (v:=Aa (((s.start+(rOff rs i:Int)).toNat:Nat):Int)) Z (congrArg Aa (by rw[AcG U U];omega)) (AA Z (call84 _) (Hb _ _ _ _ ((s.start+(rOff rs i:Int)).toNat) U) H.f3 ?_);rintro _ w _ ⟨u2,rfl,rfl⟩ H;replace H:=H.l6;have d2:=H.sy 0 (·.slc);refine Z0 18 [4] Z ?_;rcases AbX i rs.length with b9|b9
  ·obtain ⟨r,hr⟩:∃r,rs[i]?=some r:=⟨_,AbF U⟩;obtain ⟨a3,a0,p,c4,a6⟩:=hR i r hr;have c7:=Sd hr
   have c8:=KW (rs:=rs) (i:=i+1) U;rw[c4] at H;have a7:(sect (Bv s.epoch r.seq r.ims)).length=256:=sect_len (hdL_le a0.2);rw[<-a3] at H;have b7:=a6;refine Zc 2 Z (AA Z (call187 _) (P2 _ (sect (Bv s.epoch r.seq r.ims)) _ (λh q=>by rw[a7];exact q.rd) s.epoch r.seq U U r.ims a0 p Z) H ?_);rintro _ w _ ⟨pv,rfl,rfl⟩ H;replace H:=H.l7;have c1:=H.sy 0 (·.slc);obtain ⟨po,pc,rfl⟩:=c1;refine Zc 3 Z (AG Z (Bz (P:=prog) H Z (zs:=[Aa 0,Aa 0,.slice none 0 0,u32 0]) J) ?_);rintro _ w ⟨b3,rfl,H⟩;replace H:=H.l8;refine Z5 15 [0,2,0,0] [1+(r.ims.length:Int)] H Z U ?_;intro w H;refine Bd (Sep z _) J J H.drew (E7 10 [0,0,1,1] (λ_ l=>(AQ (l.blk 0 Z) (AQ (l.blk 7 Z) AJ))) Z J Z (CE 60 Z (λh2=>?_) (λh2=>?_)))
   ·exact absurd Z h2
   refine E7 9 [1,0,9,1] (λ_ l=>(AQ (l.blk 0 Z) (AQ (l.blk 4 Z) AJ))) Z J Z (CE 69 Z (λh3=>?_) (λh3=>?_))
   ·exact absurd Z h3
   refine FT 10 [4,7,0,10,4,0,0] [s.len-(rOff rs i:Int)] Z J U (Bu (λw a=>?_));have H:=a.l8;refine gn (Zc 1 Z (Ag Z (λh4=>U) (λh4=>?_)));refine Z2 6 [0,4] H Z (AA Z (call188 _) (Sc _ _ _ _ _ _ n _ c3 F hs U U r.ims p a0 U U b7 _ _ (λh q=>q.rd)) H.f1.f3.f4 ?_);rintro _ w _ ⟨iv,y,c6,a1,b2,rfl,rfl⟩ H;replace H:=H.l10;have a9:=H.sy 0 (·.slc);obtain ⟨g,c,rfl⟩:=a9;refine Z2 38 [4,9,2,0] H Z (AG Z (AL H Z J CR Z (by decide) (by decide) (out:=[Aa r.seq,.slice g r.ims.length c]) J) ?_);rintro _ w ⟨b4,rfl,H⟩;replace H:=H.l11;refine AG Z (AO 8 H Z Z J CR Z Z (H.rv 0 (·.rd U U O Z)) (Aq Z (Aq Z AN)) U) ?_;rintro v5 w a;have a:Sep z (blk b4 [Aa r.seq,.slice g r.ims.length c] 116::grow 118 3 (.slice g r.ims.length c) r.ims.length (Bq y)::poolA c6::blk pl [V b,Aa s.gen,Aa s.epoch,Aa s.pages,Aa s.start,Aa s.len,Aa s.head,Aa s.seq,Aa (rOff rs i:Int),Aa r.seq,Aa (rOff rs i:Int),.bool false] 249::rdkA b n F m9::grow 3 1 (.slice po r.ims.length pc) r.ims.length ((r.ims.map Img.num).map Aa)::blk b3 [Aa s.epoch,Aa r.seq,.slice po r.ims.length pc,u32 (AC (AF s.epoch r.seq r.ims))] 233::grow 5 1 u2 256 ((sect (Bv s.epoch r.seq r.ims)).map u8)::grow 116 2 v5 (i+1) (Et es++[Aa r.seq,.slice g r.ims.length c])::poolA hq::blk b1 [Aa s.gen,Aa s.epoch,Aa s.pages,Aa s.start,Aa s.len,Aa s.head,Aa s.seq] 92::R) w:=a;have c0:(Et es++[Aa r.seq,.slice g r.ims.length c]:List Value)=Et (es++[((r,.slice g r.ims.length c):RcE)]):=(Ml es (r,.slice g r.ims.length c));rw[c0] at a;have H:=a.l11;have d5:=H.sy 8 (·.slc);refine Zc 6 Z (Ai Z (call189 _) (Ip _ _ _ _ _ _ hs (1+(r.ims.length:Int)) U U U U) H.f3 ?_);intro w H;refine Zc 1 Z ?_;replace H:=H.f3.f9;obtain ⟨d3,⟨c2,b0⟩,H⟩:=Je H (M:=λh=>∀e∈y,imeOk h e) (λh q e f=>(b2 e f).le q) (λh h2 q s2 e f=>(q e f).le s2);replace H:=H.l10;replace H:=H.f3.f1;obtain ⟨a5,⟨a2,c5⟩,H⟩:=BG H (λh q=>q.rd);replace H:=H.l9;have b8:rcesOk (es++[((r,.slice g r.ims.length c):RcE)]) a5:=λe f=>by rcases Acd.1 f with q|q;exact (hE e q).le (λk o x=>a2 k o (c2 k o x));rw[Acu] at q;subst q;exact ⟨y,a1,c5,imesOk.of (λe f=>(b0 e f).le a2)⟩
   rw[show (((rOff rs i:Int)+(1+(r.ims.length:Int)))%s.len)=(rOff rs (i+1):Int) from by rw[AcG U U];omega,show (r.seq+1)=s.seq+((i+1:Nat):Int) from by omega,show ((rOff rs i:Int)+(1+(r.ims.length:Int)))=(rOff rs (i+1):Int) from by omega] at H;refine Zc 1 Z ?_;replace H:=H.f6.d.f5.d.f4.d.f2.d.f4.f3.f3.f3.f4;refine gf ?_;intro _ hF;refine ⟨⟨i+1,v5,(es++[((r,.slice g r.ims.length c):RcE)]),a5⟩,(hF.all Z),⟨H,?_⟩,?_⟩
   ·exact ⟨by show i+1<=rs.length;omega,by rw[Ab7,u,AbZ,hr];rfl,b8⟩
   (dsimp only;omega)
  obtain rfl:i=rs.length:=by omega
  rw[a4.2] at H;refine Zc 2 Z (Ai Z (call187 _) (N4 _ (List.replicate 256 0) _ (λh q=>q.rd) Z) H ?_);intro w H;refine Zc 3 Z (AG Z (Bz (P:=prog) H Z (zs:=[Aa 0,Aa 0,.slice none 0 0,u32 0]) J) ?_);rintro _ w ⟨b6,rfl,H⟩;replace H:=H.l7;refine Z5 15 [0,2,0,0] [1] H Z U ?_;intro w H;refine Bd (Sep z _) J J H.drew (Cm 29 [] Z J (Bu (λw a=>?_)));have H:=a.l7;refine gn (Zc 5 Z (gx (Zc 12 Z (Zr Z ?_))));rw[AcB] at u;exact ⟨_,⟨pl,_,es,hq,u,hE,Z,Z⟩,H.pick 7 [4,5,3,2] Z⟩
 (exfalso;omega)
section
def cutZ(z:Nat)(ao:Option Addr)(c p:Nat):Option Addr:=if c=p then ao else ao.map (·.add (p*z))
theorem rdH.cutZ{z:Nat}{f:Option Addr}{n c p m:Nat}{xs:List Value}{h:Hp}(r:rdH z (.slice f n c) n xs h)(x:0<z)(q:p+m<=n)(y:n<=c):rdH z (.slice (YthbbejpbkglmlaaGreatDoor.cutZ z f c p) m (c-p)) m ((xs.drop (p*z)).take (m*z)) h:=by
 obtain ⟨k,c',e,q1,v,w,s⟩:=r;cases e;have g:p*z+m*z<=n*z:=by rw[<-Nat.add_mul];exact Ade _ q
 refine ⟨_,_,Z,by omega,by omega,by simp;omega,λj u d=>?_⟩;have a:j<m*z:=by
  have:=(AbE.1 d).1;simp at this;omega
 obtain ⟨b,o,rfl,t⟩:=s (p*z+j) u (by
  rw[Acn,if_pos a,AcH] at d;exact d)
 have i:0<m:=Nat.pos_of_ne_zero λe=>by subst e;omega
 refine ⟨b,o+p*z,?_,by rw[Ac8];exact t⟩;unfold YthbbejpbkglmlaaGreatDoor.cutZ;rw[if_neg U];simp only[Acf];unfold Addr.add;split
 ·rename_i l;simp[l]
 rfl
theorem rdH.slcapZ{z:Nat}{d:Option Addr}{n c:Nat}{xs:List Value}{h:Hp}(r:rdH z (.slice d n c) n xs h):n<=c/\c<=9223372036854775807/\xs.length=n*z:=by
 obtain ⟨f,c',e,g,a,b,i⟩:=r;cases e;exact ⟨g,a,b⟩
section
variable{P:Program}{C:World->Prop}{o:Oper}{n:Nat}{ds:List Deferred}{L:List (Nat×Value)}{x y:Operand}
theorem Gv{z:Nat}{t:TypeId}{lo d:Option Operand}{g:Option Addr}{l c p q l' c':Nat}(j:o.op=.slice t x lo d none)(s:CY P t=some z)
  (r:ev L x=some (.slice g l c))(f:(lo=none/\p=0)\/∃y k i,lo=some y/\ev L y=some (.int k i)/\i=(p:Int))(a:(d=none/\q=l)\/∃y k i,d=some y/\ev L y=some (.int k i)/\i=(q:Int))(b:p<=q)(e:q<=c)
  (h:q-p=l')(m:c-p=c'):Ax P C n ds L o (.slice (cutZ z g c p) l' c'):=by
 subst h m;exact Ko j s r f a b e
end
def HE:ImE:=(⟨0,0,[]⟩,.slice none 0 0)
theorem E1{es:List ImE}{i:Nat}(h:i<es.length):es[i]?=some (es.getD i HE):=by
 rw[List.getD_eq_getElem?_getD,AbF h];rfl
theorem Gb(A B:List ImE):Bq (A++B)=Bq A++Bq B:=by simp[Bq]
theorem Nr:∀(L:List ImE) (p:Nat),(Bq L).drop (p*3)=Bq (L.drop p)
 | L,0=>by simp
 | [],p+1=>by simp[Bq]
 | x::L,p+1=>by
  have e1:Bq (x::L)=Aa x.1.num::Aa x.1.kind::x.2::Bq L:=rfl;rw[e1,show (p+1)*3=p*3+1+1+1 by omega,Acx,Acx,Acx,Acx];exact Nr L p
theorem Ns:∀(L:List ImE) (p:Nat),(Bq L).take (p*3)=Bq (L.take p)
 | L,0=>by simp[Bq]
 | [],p+1=>by simp[Bq]
 | x::L,p+1=>by
  have e1:Bq (x::L)=Aa x.1.num::Aa x.1.kind::x.2::Bq L:=rfl;rw[e1,show (p+1)*3=p*3+1+1+1 by omega,Acy,Acy,Acy,Acy,Ns L p];rfl
theorem X7{L:List ImE}(h:∀e∈L,e.2.oneCell'=true):∀c∈Bq L,c.oneCell'=true:=λc b=>by
 simp only[Bq,AdL] at b;obtain ⟨e,d,a⟩:=b;simp[ImE.cells] at a;rcases a with rfl|rfl|rfl
 ·rfl
 ·rfl
 exact h e d
theorem imC_sub{A B:List ImE}(h:∀e∈A,e∈B){c:Value}(a:c∈Bq A):c∈Bq B:=by
 simp only[Bq,AdL] at a ⊢;obtain ⟨e,b,d⟩:=a;exact ⟨e,h e b,d⟩
theorem rdH.cutI{a:Option Addr}{n c p m:Nat}{L:List ImE}{h:Hp}(r:rdH 3 (.slice a n c) n (Bq L) h)(d:p+m<=n)(b:n<=c):rdH 3 (.slice (YthbbejpbkglmlaaGreatDoor.cutZ 3 a c p) m (c-p)) m (Bq ((L.drop p).take m)) h:=by
 have:=r.cutZ U d b;rw[Nr,Ns] at this;exact this
set_option maxHeartbeats 2000000 in
theorem Gc (v:Value) (es:List ImE) (A:Ah) (o:∀h,A h->rdH 3 v es.length (Bq es) h/\∀e∈es,rdH 1 e.2 240 (e.1.body.map u8) h) (a4:∀e∈es,e.1.Ok) (hl:es.length<=1000000) (m:Img) (a:Option Addr) (b:Nat):Aj 153 [v,.agg #[Aa m.num,Aa m.kind,.slice a 240 b]] [A] (λv G=>∃v2:Value,v=v2/\G=[grow 118 3 v2 (putI es ((m,.slice a 240 b):ImE)).length (Bq (putI es ((m,.slice a 240 b):ImE))),A]):=by
 intro z R w H;obtain ⟨ao,oc,rfl⟩:=H.sy 0 (λq=>(o _ q).1.slc);have b0:=H.sy 0 (λq=>(o _ q).1.small);have a3:=H.sy 0 (λq=>(o _ q).1.slcapZ);have g:=H.says 0 Z (λh q=>X7 (λe c=>((o h q).2 e c).slc.one));refine Ac func153 Z ntmps153 Z (Za 2 [] H Z ?_);intro b1 w H;refine Zc 10 Z ?_;refine Ay (σ:=Nat) (λi=>[(5,Aa (i:Int)),(0,.slice ao es.length oc),(3,V b1),(4,.slice none 0 0)])
   (λi w=>Sep z (blk b1 [Aa m.num,Aa m.kind,.slice a 240 b] 118::A::R) w/\(i<=es.length/\∀(j:Nat) (y:ImE),j<i->es[j]?=some y->y.1.num<m.num)) (λi=>es.length-i) 0
   fr_z ⟨H,⟨AbV _,λj y h=>absurd h (Nat.not_lt_zero _)⟩⟩ ?_
 clear H;rintro i w ⟨n,x⟩;have H:=n.l2;obtain ⟨hi,x⟩:=x;refine Zc 2 Z (Bd (Sep z _) J J H.drew (JP 5 [0] [] Z J (CE 11 Z (λh1=>?_) (λh1=>?_))))
 ·have c:=E1 (es:=es) (i:=i) U
  refine Cm 2 [] Z J (Bn Z Z Z (Az Z (z:=3) (j:=i) (r:=i*3) J Z Z Z U ((H.rv 1 (λq=>(o _ q).1)).at (A7 c 0 _ Z)) U) (Bn Z Z Z (BN Z (k:=0) (r:=i*3) J Z ((H.rv 1 (λq=>(o _ q).1)).at (A7 c 0 _ Z)) Z) (Bn Z Z Z (AM Z Z J (λ_ hs=>(hs.rv 1 (λq=>(o _ q).1)).at (A7 c 0 _ Z))) (E7 4 [0,0] (λ_ hx=>(AQ (hx.blk 0 Z) AJ)) Z J Z (Bu (λw n=>?_))))));have H:=n.l2;refine gn (Zc 1 Z (Ag Z (λh2=>?_) (λh2=>?_)))
  ·refine Z1 9 [] [(i:Int)+1] Z U (gf ?_);intro _ hF;refine ⟨(i+1),hF.cz,⟨H,?_⟩,?_⟩
   ·exact ⟨by omega,λj y hj u=>by rcases Nat.lt_succ_iff_lt_or_eq.1 hj with q|q;exact x j y q u;subst q;have f:=c.symm.trans u;cases f;assumption⟩
   omega
  refine Zc 2 Z (gx (Zc 12 Z (Ad Z (Gv (z:=3) (p:=0) (q:=i) (l':=i) (c':=oc) Z J Z (.inl ⟨Z,Z⟩) (.inr ⟨_,_,_,Z,Z,Z⟩) U U Z Z) ?_)));replace H:=(H.nilg 118 3).l3;refine AG Z (AO 0 H Z Z J A5 Z Z (H.rv 2 (λq=>(o _ q).1.cutI U U)) (λt f=>g t (imC_sub (λe c=>Acr (by rwa[Ab1] at c)) f)) U) ?_;rintro v2 w n;have a1:([]++Bq ((es.drop 0).take i):List Value)=Bq (es.take i):=(by rw[Ab3,Ab1]);rw[a1] at n;have H:=n.l3;have a5:=H.sy 0 (·.slc);refine Z2 7 [1,3] H Z (AG Z (AL H Z J A5 Z (by decide) (by decide) (out:=[Aa m.num,Aa m.kind,.slice a 240 b]) J) ?_);rintro _ w ⟨b3,rfl,H⟩;refine AG Z (AO 1 H Z Z J A5 Z Z (H.rv 0 (·.rd U U O Z)) (Aq Z (Aq Z (Aq Z AN))) U) ?_;rintro v4 w H;have a7:=H.sy 1 (·.slc);refine Zc 5 Z (Bd (Sep z _) J J H.drew (JP 5 [0] [] Z J (CE 36 Z (λh3=>?_) (λh3=>?_))))
  ·have c:=E1 (es:=es) (i:=i) U
   refine Cm 2 [] Z J (Bn Z Z Z (Az Z (z:=3) (j:=i) (r:=i*3) J Z Z Z U ((H.rv 3 (λq=>(o _ q).1)).at (A7 c 0 _ Z)) U) (Bn Z Z Z (BN Z (k:=0) (r:=i*3) J Z ((H.rv 3 (λq=>(o _ q).1)).at (A7 c 0 _ Z)) Z) (Bn Z Z Z (AM Z Z J (λ_ hs=>(hs.rv 3 (λq=>(o _ q).1)).at (A7 c 0 _ Z))) (E7 4 [0,0] (λ_ hx=>(AQ (hx.blk 2 Z) AJ)) Z J Z (Bu (λw n=>?_))))));have H:=n.l4;refine gn (Zc 1 Z (Ag Z (λh4=>?_) (λh4=>?_)))
   ·refine Z1 11 [] [((i+1:Nat):Int)] Z U (Ad Z (Gv (z:=3) (p:=(i+1)) (q:=es.length) (l':=es.length-(i+1)) (c':=oc-(i+1)) Z J Z (.inr ⟨_,_,_,Z,Z,Z⟩) (.inl ⟨Z,Z⟩) U U Z Z) (AG Z (AO 1 H Z Z J A5 Z Z (H.rv 3 (λq=>(o _ q).1.cutI U U)) (λt f=>g t (imC_sub (λe c=>Adu (Acr c)) f)) U) ?_));rintro v5 w H;have a8:=H.sy 1 (·.slc)
    refine Zc 4 Z (Zr Z ?_);have d:putI es ((m,.slice a 240 b):ImE)=es.take i++[((m,.slice a 240 b):ImE)]++es.drop (i+1):=OG ((m,.slice a 240 b):ImE) x c (by assumption);have s:(putI es ((m,.slice a 240 b):ImE)).length=0+i+1+(es.length-(i+1)):=by rw[d];simp only[AbH,AbM,Acc,AdJ];omega
    rw[Ab1,show List.take (1*3) [Aa m.num,Aa m.kind,.slice a 240 b]=[Aa m.num,Aa m.kind,.slice a 240 b] from Z,show (Bq (es.take i)++[Aa m.num,Aa m.kind,.slice a 240 b]++Bq ((es.drop (i+1)).take (es.length-(i+1))):List Value)=Bq (putI es ((m,.slice a 240 b):ImE)) from by rw[d,Gb,Gb,AbJ (l:=es.drop (i+1)) (by rw[Acc];omega)];rfl,<-s] at H;exact ⟨_,⟨_,Z,Z⟩,H.pick 4 [1,3] Z⟩
   refine Zc 7 Z (Ad Z (Gv (z:=3) (p:=i) (q:=es.length) (l':=es.length-i) (c':=oc-i) Z J Z (.inr ⟨_,_,_,Z,Z,Z⟩) (.inl ⟨Z,Z⟩) U U Z Z) (AG Z (AO 1 H Z Z J A5 Z Z (H.rv 3 (λq=>(o _ q).1.cutI U U)) (λt f=>g t (imC_sub (λe c=>Adu (Acr c)) f)) U) ?_));rintro v6 w H;have b2:=H.sy 1 (·.slc);refine Zc 4 Z (Zr Z ?_);have d:putI es ((m,.slice a 240 b):ImE)=es.take i++[((m,.slice a 240 b):ImE)]++es.drop i:=KH ((m,.slice a 240 b):ImE) x U (λy u=>by first|(have f:=(AbE.1 u).1;omega)|(have f:=c.symm.trans u;cases f;dsimp only;omega));have s:(putI es ((m,.slice a 240 b):ImE)).length=0+i+1+(es.length-i):=by rw[d];simp only[AbH,AbM,Acc,AdJ];omega
   rw[Ab1,show List.take (1*3) [Aa m.num,Aa m.kind,.slice a 240 b]=[Aa m.num,Aa m.kind,.slice a 240 b] from Z,show (Bq (es.take i)++[Aa m.num,Aa m.kind,.slice a 240 b]++Bq ((es.drop i).take (es.length-i)):List Value)=Bq (putI es ((m,.slice a 240 b):ImE)) from by rw[d,Gb,Gb,AbJ (l:=es.drop i) (by rw[Acc];omega)];rfl,<-s] at H;exact ⟨_,⟨_,Z,Z⟩,H.pick 4 [1,3] Z⟩
  exact absurd h1 h3
 refine Cm 9 [] Z J (Bu (λw n=>?_));have H:=n.l2;refine gn (Zc 4 Z (gx (Zc 12 Z (Ad Z (Gv (z:=3) (p:=0) (q:=i) (l':=i) (c':=oc) Z J Z (.inl ⟨Z,Z⟩) (.inr ⟨_,_,_,Z,Z,Z⟩) U U Z Z) ?_))));replace H:=(H.nilg 118 3).l3;refine AG Z (AO 0 H Z Z J A5 Z Z (H.rv 2 (λq=>(o _ q).1.cutI U U)) (λt f=>g t (imC_sub (λe c=>Acr (by rwa[Ab1] at c)) f)) U) ?_;rintro v7 w n;have a0:([]++Bq ((es.drop 0).take i):List Value)=Bq (es.take i):=(by rw[Ab3,Ab1]);rw[a0] at n;have H:=n.l3;have a6:=H.sy 0 (·.slc);refine Z2 7 [1,3] H Z (AG Z (AL H Z J A5 Z (by decide) (by decide) (out:=[Aa m.num,Aa m.kind,.slice a 240 b]) J) ?_);rintro _ w ⟨b8,rfl,H⟩;refine AG Z (AO 1 H Z Z J A5 Z Z (H.rv 0 (·.rd U U O Z)) (Aq Z (Aq Z (Aq Z AN))) U) ?_;rintro v9 w H;have a9:=H.sy 1 (·.slc);refine Zc 5 Z (Bd (Sep z _) J J H.drew (JP 5 [0] [] Z J (CE 36 Z (λh5=>?_) (λh5=>?_))))
 ·exact absurd h5 h1
 refine Cm 9 [] Z J (Bu (λw n=>?_));have H:=n.l4;refine gn (Zc 9 Z (Ad Z (Gv (z:=3) (p:=i) (q:=es.length) (l':=es.length-i) (c':=oc-i) Z J Z (.inr ⟨_,_,_,Z,Z,Z⟩) (.inl ⟨Z,Z⟩) U U Z Z) (AG Z (AO 1 H Z Z J A5 Z Z (H.rv 3 (λq=>(o _ q).1.cutI U U)) (λt f=>g t (imC_sub (λe c=>Adu (Acr c)) f)) U) ?_)));rintro b4 w H;have a2:=H.sy 1 (·.slc);refine Zc 4 Z (Zr Z ?_);have d:putI es ((m,.slice a 240 b):ImE)=es.take i++[((m,.slice a 240 b):ImE)]++es.drop i:=KH ((m,.slice a 240 b):ImE) x U (λy u=>by first|(have f:=(AbE.1 u).1;omega)|(have f:=c.symm.trans u;cases f;dsimp only;omega));have s:(putI es ((m,.slice a 240 b):ImE)).length=0+i+1+(es.length-i):=by rw[d];simp only[AbH,AbM,Acc,AdJ];omega
 rw[Ab1,show List.take (1*3) [Aa m.num,Aa m.kind,.slice a 240 b]=[Aa m.num,Aa m.kind,.slice a 240 b] from Z,show (Bq (es.take i)++[Aa m.num,Aa m.kind,.slice a 240 b]++Bq ((es.drop i).take (es.length-i)):List Value)=Bq (putI es ((m,.slice a 240 b):ImE)) from by rw[d,Gb,Gb,AbJ (l:=es.drop i) (by rw[Acc];omega)];rfl,<-s] at H;exact ⟨_,⟨_,Z,Z⟩,H.pick 4 [1,3] Z⟩
end
theorem KX{m:Img}(h:m.Ok):(Em m).length=256:=DA (Fs h)
def Eo(F:Nat->List UInt8)(es:List ImE):Nat->List UInt8:=es.foldl (λF e=>BE F (2+e.1.num).toNat (Em e.1)) F
theorem Aab{F:Nat->List UInt8}{es:List ImE}{i:Nat}{e:ImE}(h:es[i]?=some e):Eo F (es.take (i+1))=BE (Eo F (es.take i)) (2+e.1.num).toNat (Em e.1):=by
 unfold Eo;rw[AbZ,h,Ac4];rfl
theorem EO(v:Value)(es:List ImE)(A:Ah)(a:∀h,A h->rdH 3 v es.length (Bq es) h/\∀e∈es,rdH 1 e.2 240 (e.1.body.map u8) h)(m:∀e∈es,e.1.Ok)(p:Int)(d:∀e∈es,e.1.num≠p):Aj 83 [v,Aa p] [A] (λv G=>v=.tuple #[.agg #[Aa 0,.slice none 0 0],.bool false]/\G=[A]):=by
 intro z R w H;obtain ⟨n,s,rfl⟩:=H.sy 0 (λq=>(a _ q).1.slc);have u:=H.sy 0 (λq=>(a _ q).1.small);refine Ac func83 Z ntmps83 Z (Za 2 [] H Z ?_);intro l w H;refine Zc 10 Z ?_;refine Ay (σ:=Nat) (λi=>[(6,Aa (i:Int)),(0,.slice n es.length s),(1,Aa p),(4,V l)])
   (λi w=>Sep z (blk l [Aa 0,.slice none 0 0] 40::A::R) w/\(i<=es.length)) (λi=>es.length-i) 0
   fr_z ⟨H,AbV _⟩ ?_
 clear H;rintro i w ⟨o,g⟩;have H:=o.l2;have y:=g;clear g;refine Z0 9 [0] Z (Ag Z (λt=>?_) (λt=>?_))
 ·refine Zc 5 Z ?_;have b:=E1 (es:=es) (i:=i) U
  have c:=d _ (AbG b);refine Zc 3 Z (Ad Z (Az Z (z:=3) (j:=i) (r:=i*3) J Z Z Z U ((H.rv 1 (λq=>(a _ q).1)).at (A7 b 0 _ Z)) U) (Ad Z (BN Z (k:=0) (r:=i*3) J Z ((H.rv 1 (λq=>(a _ q).1)).at (A7 b 0 _ Z)) Z) (Ad Z (AM Z Z J (AB ((H.rv 1 (λq=>(a _ q).1)).at (A7 b 0 _ Z)))) (Z0 4 [0] Z (Ag Z (λf=>?_) (λf=>?_))))))
  ·exact absurd f c
  refine Z1 8 [] [(i:Int)+1] Z U (gf ?_);intro _ x;refine ⟨(i+1),x.cz,⟨H,?_⟩,?_⟩
  ·omega
  omega
 refine Zc 2 Z (gx (Z4 10 [0] H Z ?_));intro w H;refine Zl [0,2] H Z ?_;exact ⟨_,⟨Z,Z⟩,H.pick 2 [1] Z⟩
set_option maxHeartbeats 4000000 in
theorem LF (ps f:Nat) (x:Sup) (lp ov:Value) (un:Bool) (n t:Nat) (a4:t<=900000000) (a5:n<=4096) (F:Nat->List UInt8) (s:Sup) (y:s.Ok (n:Int)) (v:Value) (es:List ImE) (A:Ah) (b:∀h,A h->rdH 3 v es.length (Bq es) h/\∀e∈es,rdH 1 e.2 240 (e.1.body.map u8) h) (p:∀e∈es,e.1.Ok) (a6:es.length<=1000000) (a2:∀e∈es,e.1.num+2<n):Aj 154 [V ps,.agg #[Aa s.gen,Aa s.epoch,Aa s.pages,Aa s.start,Aa s.len,Aa s.head,Aa s.seq]] [blk ps [V f,Aa x.gen,Aa x.epoch,Aa x.pages,Aa x.start,Aa x.len,Aa x.head,Aa x.seq,lp,v,.bool un,ov] 128,rdkA f n F t,A] (λv G=>v=Aa 0/\G=[blk ps [V f,Aa s.gen,Aa s.epoch,Aa s.pages,Aa s.start,Aa s.len,Aa s.head,Aa s.seq,lp,.slice none 0 0,.bool un,ov] 128,rdkA f n (BE (Eo F es) (s.gen%2).toNat (BC s)) (t+es.length+1),A]):=by
 intro z R w H;obtain ⟨ao,oc,rfl⟩:=H.sy 2 (λq=>(b _ q).1.slc);refine Ac func154 Z ntmps154 Z (Za 2 [] H Z ?_);intro b1 w H;refine Zc 10 Z ?_;refine Ay (σ:=Nat) (λi=>[(5,Aa (i:Int)),(0,V ps),(3,V b1)])
   (λi w=>Sep z (blk b1 [Aa s.gen,Aa s.epoch,Aa s.pages,Aa s.start,Aa s.len,Aa s.head,Aa s.seq] 92::blk ps [V f,Aa x.gen,Aa x.epoch,Aa x.pages,Aa x.start,Aa x.len,Aa x.head,Aa x.seq,lp,.slice ao es.length oc,.bool un,ov] 128::rdkA f n (Eo F (es.take i)) (t+i)::A::R) w/\(i<=es.length)) (λi=>es.length-i) 0
   fr_z ⟨(by simpa [Eo] using H),AbV _⟩ ?_
 clear H;rintro i w ⟨g,hI⟩;have H:=g.l4;have hi:=hI;clear hI;refine Z2 12 [9,1,0,0] H Z (Ag Z (λh1=>?_) (λh1=>?_))
 ·refine Zc 5 Z ?_;have a:=E1 (es:=es) (i:=i) U
  have d:=p _ (AbG a);obtain ⟨bo,bc,c⟩:Slc (es.getD i HE).2 240:=H.sy 3 (λq=>((b _ q).2 _ (AbG a)).slc);have l:=d.1;have o:=a2 _ (AbG a);have a0:=AbG a;obtain ⟨⟨m,bv⟩,a1⟩:∃e:ImE,es.getD i HE=e:=⟨_,Z⟩;rw[a1] at a d c o a0 l;dsimp only at c d o l;subst c;refine Z2 6 [9,1,0] H Z (Ad Z (Az Z (z:=3) (j:=i) (r:=i*3) J Z Z Z U ((H.rv 3 (λq=>(b _ q).1)).at (A7 a 0 _ Z)) U) (Ad Z (BU Z Z (vs:=[Aa m.num,Aa m.kind,.slice bo 240 bc]) J O (AB (λk u hk=>(H.rv 3 (λq=>(b _ q).1)).at (A7 a k u hk)))) (AA Z (call143 _) (F3 m d _ _ (λh q=>(b h q).2 _ (AbG a))) H.f3 ?_)));rintro _ w _ ⟨u2,rfl,rfl⟩ H;have a3:=H.sy 0 (·.slc);refine Zc 8 Z (Bh 14 J J (A4 H λw g=>?_));have H:=g.l5;refine Y0 9 [0,0,9,0] (AQ (H.blk 3 Z) AJ) Z J Z (Cj Z Z Z (Az Z (z:=3) (j:=i) (r:=i*3) J Z Z Z U ((H.rv 1 (λq=>(b _ q).1)).at (A7 a 0 _ Z)) U) (Cj Z Z Z (BN Z (k:=0) (r:=i*3) J Z ((H.rv 1 (λq=>(b _ q).1)).at (A7 a 0 _ Z)) Z) (Cj Z Z Z (AM Z Z J (AB ((H.rv 1 (λq=>(b _ q).1)).at (u:=Aa m.num) (A7 a 0 _ Z)))) (CL 2 [] [2+m.num] H Z J U (BY (gw (k_updA 42 (v:=Aa (((2+m.num).toNat:Nat):Int)) Z (congrArg Aa U) (Ai Z (call149 _) (Fz _ n _ U _ ((2+m.num).toNat) 1 false _ (Em m) _ (λh q=>q.rd) (KX d) U U) H.f4 ?_))))))));intro w H;rw[Ue _ _ (KX d)] at H;refine Z0 13 [4] Z ?_;replace H:=(H.pick 5 [0,2,3,4] Z).l4;rw[<-Aab a] at H;refine Z1 5 [] [(i:Int)+1] Z U ?_;replace H:=H.f1.f1.f3.f3;refine gf ?_;intro _ hF;refine ⟨(i+1),hF.cz,⟨H,?_⟩,?_⟩
  ·omega
  omega
 refine Zc 2 Z (gx (Zc 3 Z ?_));obtain rfl:i=es.length:=by omega
 rw[AcB] at H;refine Z2 5 [0,1,0] H Z (Ai Z (call113 _) (HD _ _ _ _) H.f2 ?_);intro w H;refine Z0 14 [4] Z (Bh 5 J J (A4 H λw g=>?_));have H:=g.l4;refine Ld 5 [0,2,0,1,7] [] H Z J (BY (gw (Ai Z (call150 _) (KU _ _ _ U _ s y) H ?_)));intro w H;refine Z4 36 [4,1,7,1,2,9,2] H Z ?_;intro w H;refine Zr Z ?_;exact ⟨_,⟨Z,Z⟩,H.pick 4 [2,0,3] Z⟩
def imP(v:Value)(es:List ImE)(hq:Hp):Prop:=rdH 3 v es.length (Bq es) hq/\∀e∈es,imeOk hq e
theorem imP.le{v:Value}{es:List ImE}{hq a:Hp}(h:imP v es hq)(s:BA hq a):imP v es a:=⟨h.1.le s,λe b=>(h.2 e b).le s⟩
theorem imP.slc{v:Value}{es:List ImE}{hq:Hp}(h:imP v es hq):Slc v es.length:=h.1.slc
theorem imP.rdA{v:Value}{es:List ImE}{hq h:Hp}(i:imP v es hq)(q:poolA hq h):rdH 3 v es.length (Bq es) h/\∀e∈es,rdH 1 e.2 240 (e.1.body.map u8) h:=⟨i.1.le q,λe a=>(i.2 e a).2.le q⟩
theorem imP.nil(hq:Hp):imP (.slice none 0 0) [] hq:=⟨⟨none,0,Z,by simp,by omega,Z,λj u h=>by simp[Bq] at h⟩,λe a=>nomatch a⟩
theorem imP.put{v b:Value}{es:List ImE}{x:ImE}{hq a:Hp}(h:imP v es hq)(s:BA hq a)(c:imeOk hq x)(r:rdH 3 b (putI es x).length (Bq (putI es x)) a):imP b (putI es x) a:=
 ⟨r,λe d=>by
  rcases putI_mem d with q|q
  ·subst q;exact c.le s
  exact (h.2 e q).le s⟩
theorem LG(ps c:Nat)(x:Sup)(b:Value)(a ov:Value):Aj 90 [V ps] [blk ps [V c,Aa x.gen,Aa x.epoch,Aa x.pages,Aa x.start,Aa x.len,Aa x.head,Aa x.seq,b,a,.bool false,ov] 128] (λv G=>v=Aa 0/\G=[blk ps [V c,Aa x.gen,Aa x.epoch,Aa x.pages,Aa x.start,Aa x.len,Aa x.head,Aa x.seq,b,a,.bool true,.slice none 0 0] 128]):=by
 intro z R w H;refine Ac func90 Z ntmps90 Z (Z4 39 [10,0,0,10,0,11,0] H Z ?_);intro w H;refine Zr Z ?_;exact ⟨_,⟨Z,Z⟩,H.pick 1 [0] Z⟩
theorem FO(ps c:Nat)(x:Sup)(b:Value)(a ov:Value)(d:Bool):Aj 67 [V ps] [blk ps [V c,Aa x.gen,Aa x.epoch,Aa x.pages,Aa x.start,Aa x.len,Aa x.head,Aa x.seq,b,a,.bool d,ov] 128] (λv G=>v=.tuple #[]/\G=[blk ps [V c,Aa x.gen,Aa x.epoch,Aa x.pages,Aa x.start,Aa x.len,Aa x.head,Aa x.seq,b,a,.bool false,.slice none 0 0] 128]):=by
 intro z R w H;refine Ac func67 Z ntmps67 Z (Z4 14 [10,0,11,0] H Z ?_);intro w H;refine Zf Z ?_;exact ⟨_,⟨Z,Z⟩,H.pick 1 [0] Z⟩
theorem Nt(ps a:Nat)(x:Sup)(d:Value)(c ov:Value)(n b:Nat)(F:Nat->List UInt8):Aj 59 [V ps] [blk ps [V a,Aa x.gen,Aa x.epoch,Aa x.pages,Aa x.start,Aa x.len,Aa x.head,Aa x.seq,d,c,.bool false,ov] 128,rdkA a n F b] (λv G=>v=Aa 0/\G=[blk ps [V a,Aa x.gen,Aa x.epoch,Aa x.pages,Aa x.start,Aa x.len,Aa x.head,Aa x.seq,d,c,.bool false,ov] 128,rdkA a n F b]):=by
 intro z R w H;refine Ac func59 Z ntmps59 Z (Z2 23 [10,0,0,0,0,0] H Z (Ai Z (call113 _) (HD _ _ _ _) H.f1 ?_));intro w H;refine Zc 4 Z (Zr Z ?_);exact ⟨_,⟨Z,Z⟩,H.pick 2 [1,0] Z⟩
set_option maxHeartbeats 4000000 in
theorem Iq (ps pr:Nat) (x:Sup) (lp:Value) (u ov:Value) (own:List ImE) (hq:Hp) (r:imP ov own hq) (b4:own.length<40) (m:Img) (hm:m.Ok) (b3:m.num<x.pages) (a1:∀e∈own,e.1.num≠m.num) (bv:Value) (B:Ah) (hB:∀h,B h->rdH 1 bv 240 (m.body.map u8) h):Aj 92 [V ps,Aa m.num,.agg #[Aa m.kind,bv]] [blk ps [V pr,Aa x.gen,Aa x.epoch,Aa x.pages,Aa x.start,Aa x.len,Aa x.head,Aa x.seq,lp,u,.bool true,ov] 128,poolA hq,B] (λv G=>∃(j a2:Value) (g:Hp),BA hq g/\imP j (putI own (m,a2)) g/\v=Aa 0/\G=[blk ps [V pr,Aa x.gen,Aa x.epoch,Aa x.pages,Aa x.start,Aa x.len,Aa x.head,Aa x.seq,lp,u,.bool true,j] 128,poolA g,B]):=by
 intro z R w H;obtain ⟨oo,a8,rfl⟩:=r.slc;obtain ⟨bo,bc,rfl⟩:=H.sy 2 (λq=>(hB _ q).slc);have a9:=hm.1;have b0:=hm.2.1;refine Ac func92 Z ntmps92 Z (Za 2 [] H Z ?_);intro b1 w H;refine Z2 22 [10,1,0,0] H Z (Ak 17 Z (λh1=>U) (λh1=>?_));refine Z2 10 [1,3,1,0,0] H Z (Ag Z (λh2=>U) (λh2=>?_));refine Z2 9 [0,0,0,0] H Z (Ak 29 Z (λh3=>U) (λh3=>?_));refine Z2 5 [0,0,0,0] H Z (Ak 34 Z (λh4=>U) (λh4=>?_));refine Z2 17 [1,0,0,4,11,1,0] H Z (Ai Z (call83 _) (EO _ own (poolA hq) (λh q=>r.rdA q) (λe y=>(r.2 e y).1) m.num a1) H.f2 ?_);intro w H;refine Za 3 [] H Z ?_;intro b2 w H;refine Z4 19 [0,11,3,0,0] H Z ?_;intro w H;refine Ag Z (λh5=>U) (λh5=>?_);refine Z2 12 [1,2,0] H Z ?_;replace H:=(H.nilg 5 1).l6;refine AG Z (AO 0 H Z Z J Bf Z Z (H.rd 5 Z hB) (by intro c9 a3;obtain ⟨b9,_,rfl⟩:=AbP.1 a3;rfl) U) ?_;rintro v3 w p;have a6:([]++m.body.map u8:List Value)=m.body.map u8:=(by rw[Ab3]);rw[a6] at p;have H:=p.l6;have a5:=H.sy 0 (·.slc);refine Zc 4 Z ?_;obtain ⟨c,d,rfl⟩:=a5;replace H:=H.f2;obtain ⟨n,⟨b,s⟩,H⟩:=BG H (λh q=>q.rd);have i:=r.le b;have a4:imeOk n ((m,.slice c 240 d):ImE):=⟨hm,s⟩;replace H:=H.f2.f3;refine AK (Sep z (blk ps [V pr,Aa x.gen,Aa x.epoch,Aa x.pages,Aa x.start,Aa x.len,Aa x.head,Aa x.seq,lp,u,.bool true,.slice oo own.length a8] 128::blk b1 [Aa m.kind,.slice bo 240 bc] 40::R)) 15 Z J (A4 H λw p=>?_);have H:=p.l5;refine A6 [0,1,2,3,4,5,6,7,8] [11,0,0,1] J (λ_ hx=>(AQ (hx.blk 0 Z) (AQ (hx.blk 1 Z) AJ))) (by exact H.pick 5 [0,1] Z) Z J Z Z (AR 9 J Z Z J J J Z Z Z (AX Z Z (out:=[Aa m.kind,.slice c 240 d]) J) (H.pick 5 [0,1] Z) (AR 10 J Z Z J J J Z Z Z (AX Z Z (out:=[Aa m.num,Aa m.kind,.slice c 240 d]) J) (H.pick 5 [0,1] Z) (An [11] J O (Ar (Ba Z Z Z Z Z Z (λw=>call153 _ w) (Gc _ own (poolA n) (λh q=>i.rdA q) (λe y=>(i.2 e y).1) U m _ _) H.f2 Z ?_)))));rintro a0 w _ ⟨_,rfl,rfl⟩ H;have f:=H.sy 0 (·.slc);refine Am (λ_=>(H.pick 6 [2,3] Z)) (A6 [12,13] [11] J (λ_ _=>AJ) (by exact H.pick 6 [2,3] Z) Z J Z Z (An [14] J O (Ar (B6 Z Z Z (Pp 2 H Z Z Z Z f.cells f.one J) ?_))));rintro w H;refine Am (λh=>absurd Z h) (AT J (gn ?_));replace H:=H.f1;obtain ⟨l,⟨a,t⟩,H⟩:=BG H (λh q=>q.rd);have a7:imP a0 (putI own ((m,.slice c 240 d):ImE)) l:=imP.put i a a4 t;refine Zc 7 Z (Zr Z ?_);exact ⟨_,⟨_,_,l,λk o e=>a k o (b k o e),a7,Z,Z⟩,H.pick 5 [1,0,4] Z⟩
def Cl(es:List ImE)(l:List ImE):List ImE:=l.foldl putI es
theorem Hc{es l:List ImE}{i:Nat}{e:ImE}(h:l[i]?=some e):Cl es (l.take (i+1))=putI (Cl es (l.take i)) e:=by
 unfold Cl;rw[AbZ,h,Ac4];rfl
set_option maxHeartbeats 1000000 in
theorem P3 (ps p pl:Nat) (x:Sup) (pv ov:Value) (a q u:Int) (own d:List ImE) (hq:Hp) (hO:imP ov own hq) (hI:imP pv d hq) (n m9:Nat) (b7:m9<=900000000) (a9:n<=4096) (F:Nat->List UInt8) (b0:(0<=x.start/\x.start<=1099511627776)/\0<x.len/\x.len<=1099511627776) (b6:0<=x.epoch/\x.epoch<4294967296) (b5:0<=q/\q<1099511627776) (hn:1<=own.length/\own.length<=40) (a7:d.length<=100000) (a3:∀(j i:Nat) (e f:ImE),j<i->own[j]?=some e->own[i]?=some f->e.1.num≠f.1.num) (ha:0<=a/\a+1+own.length<=x.len) (hu:0<=u/\u+1+own.length<=x.len) (b4:x.start+x.len<=n):Aj 97 [V ps] [blk ps [V p,Aa x.gen,Aa x.epoch,Aa x.pages,Aa x.start,Aa x.len,Aa x.head,Aa x.seq,V pl,pv,.bool true,ov] 128,blk pl [V p,Aa x.gen,Aa x.epoch,Aa x.pages,Aa x.start,Aa x.len,Aa x.head,Aa x.seq,Aa a,Aa q,Aa u,.bool false] 249,rdkA p n F m9,poolA hq] (λv G=>∃(c:Value) (b:Hp),BA hq b/\imP c (Cl d own) b/\v=Aa 0/\G=[blk ps [V p,Aa x.gen,Aa x.epoch,Aa x.pages,Aa x.start,Aa x.len,Aa x.head,Aa x.seq,V pl,c,.bool false,.slice none 0 0] 128,blk pl [V p,Aa x.gen,Aa x.epoch,Aa x.pages,Aa x.start,Aa x.len,Aa x.head,Aa x.seq,Aa ((a+((1+own.length:Nat):Int))%x.len),Aa (q+1),Aa (u+((1+own.length:Nat):Int)),.bool false] 249,rdkA p n (Ey F (x.start+a).toNat (sect (Bv x.epoch q (own.map Prod.fst))++AF x.epoch q (own.map Prod.fst)) (1+own.length)) (m9+(1+own.length)),poolA b]):=by
 intro z R w H;obtain ⟨oo,b2,rfl⟩:=hO.slc;refine Ac func97 Z ntmps97 Z (Z2 30 [10,0,0,11,0,0] H Z (Ai Z (call67 _) (FO _ _ _ _ _ _ _) H ?_));intro w H;refine Z0 10 [0] Z (Ag Z (λh1=>U) (λh1=>?_));refine Z2 9 [8,0,0] H Z (Ai Z (call161 _) (LE _ _ _ _ _ _ n _ U a9 _ b0 U U _ own (poolA hq) (λh q=>hO.rdA q) (λe s=>(hO.2 e s).1) U a3 U U U) H.f3.f3.f3 ?_);intro w H;refine Z0 30 [4,4] Z ?_;refine Ay (σ:=Nat×Value×Hp) (λ⟨i,c,b⟩=>[(5,Aa (i:Int)),(0,V ps),(2,Aa 0),(3,.slice oo own.length b2)])
   (λ⟨i,c,b⟩ w=>Sep z (blk pl [V p,Aa x.gen,Aa x.epoch,Aa x.pages,Aa x.start,Aa x.len,Aa x.head,Aa x.seq,Aa ((a+((1+own.length:Nat):Int))%x.len),Aa (q+1),Aa (u+((1+own.length:Nat):Int)),.bool false] 249::rdkA p n (Ey F (x.start+a).toNat (sect (Bv x.epoch q (own.map Prod.fst))++AF x.epoch q (own.map Prod.fst)) (1+own.length)) (m9+(1+own.length))::poolA b::blk ps [V p,Aa x.gen,Aa x.epoch,Aa x.pages,Aa x.start,Aa x.len,Aa x.head,Aa x.seq,V pl,c,.bool false,.slice none 0 0] 128::R) w/\(i<=own.length/\BA hq b/\imP c (Cl d (own.take i)) b/\(Cl d (own.take i)).length<=100000+i)) (λ⟨i,c,b⟩=>own.length-i) ⟨0,pv,hq⟩
   fr_z ⟨H,⟨AbV _,λk o e=>e,hI,by simpa [Cl] using a7⟩⟩ ?_
 clear H;rintro ⟨i,c,b⟩ w ⟨H',hI⟩;dsimp only at hI H' ⊢;have H:=H'.l4;obtain ⟨hi,a0,g,b3⟩:=hI;refine Z0 9 [0] Z (Ag Z (λh2=>?_) (λh2=>?_))
 ·refine Zc 4 Z ?_;have s:=E1 (es:=own) (i:=i) U
  have a1:=hO.le a0;have a2:=a1.2 _ (AbG s);obtain ⟨bo,bc,y⟩:Slc (own.getD i HE).2 240:=by have h9:=a2.2.slc;exact h9
  obtain ⟨⟨m,bv⟩,a6⟩:∃e:ImE,own.getD i HE=e:=⟨_,Z⟩;rw[a6] at s a2 y;dsimp only at y;subst y;obtain ⟨po,a8,rfl⟩:=g.slc;replace H:=H.f2.f3;refine AK (Sep z (blk ps [V p,Aa x.gen,Aa x.epoch,Aa x.pages,Aa x.start,Aa x.len,Aa x.head,Aa x.seq,V pl,.slice po ((Cl d (own.take i)).length) a8,.bool false,.slice none 0 0] 128::poolA b::R)) 13 Z J (A4 H λw H'=>?_);have H:=H'.l4;refine A6 [0,1,2,3,4,5,6] [9,0] J (λ_ hx=>(AQ (hx.blk 0 Z) AJ)) (by exact H.pick 4 [0,1] Z) Z J Z Z (AR 7 J Z Z J J J Z Z Z (Az Z (z:=3) (j:=i) (r:=i*3) J Z Z Z U ((H.rv 1 (λq=>(a1.rdA q).1)).at (A7 s 0 _ Z)) U) (H.pick 4 [0,1] Z) (AR 8 J Z Z J J J Z Z Z (BU Z Z (vs:=[Aa m.num,Aa m.kind,.slice bo 240 bc]) J O (λ_ hs k u hk=>(hs.rv 1 (λq=>(a1.rdA q).1)).at (A7 s k u hk))) (H.pick 4 [0,1] Z) (An [9] J O (Ar (Ba Z Z Z Z Z Z (λw=>call153 _ w) (Gc _ (Cl d (own.take i)) (poolA b) (λh q=>g.rdA q) (λe s=>(g.2 e s).1) U m _ _) H.f1 Z ?_)))));rintro a4 w _ ⟨_,rfl,rfl⟩ H;have t:=H.sy 0 (·.slc);refine Am (λ_=>(H.pick 5 [2,1] Z)) (A6 [10,11] [9] J (λ_ _=>AJ) (by exact H.pick 5 [2,1] Z) Z J Z Z (An [12] J O (Ar (B6 Z Z Z (Ma 2 H Z Z Z Z t.cells t.one J) ?_))));rintro w H;refine Am (λh=>absurd Z h) (AT J (gn ?_));replace H:=H.f1;obtain ⟨b,⟨l,a5⟩,H⟩:=BG H (λh q=>q.rd);have b1:imP a4 (putI (Cl d (own.take i)) ((m,.slice bo 240 bc):ImE)) b:=imP.put g l a2 a5;refine Z1 7 [] [(i:Int)+1] Z U ?_;replace H:=H.f1.f1.f3.f3;refine gf ?_;intro _ hF;refine ⟨⟨i+1,a4,b⟩,hF.cz,⟨H,?_⟩,?_⟩
  ·exact ⟨by show i+1<=own.length;omega,λk o e=>l k o (a0 k o e),by rw[Hc s];exact b1,by rw[Hc s];exact AdZ (putI_len _ _) U⟩
  (dsimp only;omega)
 refine Zc 2 Z (gx (Zc 8 Z (Zr Z ?_)));rw[show own.take i=own from AbJ U] at g;exact ⟨_,⟨c,b,a0,g,Z,Z⟩,H.pick 4 [3,0,1,2] Z⟩
theorem Se(i:Nat)(z:List UInt8):BE (λ_=>z) i z=λ_=>z:=by funext k;unfold BE;split<;>rfl
set_option maxHeartbeats 1000000 in
theorem Sf (e n f a:Nat) (t:f<=900000000) (j:n<=4096) (s l:Int) (c:(Bw (a:Int) s l 2).Ok (n:Int)):Aj 88 [V e,Aa (a:Int),Aa s,Aa l] [rdkA e n (λ_=>(List.replicate 256 (0:UInt8))) f] (λv G=>v=Aa 0/\G=[rdkA e n (BE (BE (λ_=>(List.replicate 256 (0:UInt8))) 1 (BC (Bw (a:Int) s l 1))) 0 (BC (Bw (a:Int) s l 2))) (f+a+2)]):=by
 intro z R w H;have b:=MU c;have y:=T6 c;refine Ac func88 Z ntmps88 Z (Zc 10 Z (Ad Z (AX Z Z (out:=[Aa 1,Aa 1,Aa (a:Int),Aa s,Aa l,Aa 0,Aa 1]) J) (Za 0 [] H Z ?_)));intro g w H;refine Z4 4 [0] H Z ?_;intro w H;replace H:=H.f1;obtain ⟨lv,rows,hq,m,d⟩:=H.rk;clear H;have a0:=m.1;have j:=m.2.1;have H:=d.l5;have i:=H.sy 1 (·.slc);obtain ⟨lo,r,rfl⟩:=i;replace H:=H.f4;refine AK (Sep z (blk g [Aa 1,Aa 1,Aa (a:Int),Aa s,Aa l,Aa 0,Aa 1] 92::blk e [.slice lo n r,Aa 0,Aa 0,Aa 0,Aa 0,Aa (-1)] 133::R)) 5 Z J (A4 H λw d=>?_);have H:=d.l5;refine AR 0 J Z Z J J J Z Z Z (Bt Z Z (vs:=[Aa 1,Aa 1,Aa (a:Int),Aa s,Aa l,Aa 0,Aa 1]) J (λ_ x=>(x.blk 0 Z).part 0 7 _ Z)) (H.pick 5 [0,1] Z) (A6 [1] [] J (λ_ _=>AJ) (by exact H.pick 5 [0,1] Z) Z J Z Z (An [2] J O (Ar (Ba Z Z Z Z Z Z (λw=>call148 _ w) (X5 _ _ _ _ U) H.f1 Z ?_))));rintro _ w _ ⟨rfl,rfl⟩ H;refine Am (λ_=>(H.pick 5 [1,0] Z)) (An [3] J O (Ar (Ba Z Z Z Z Z Z (λw=>call147 _ w) (Gu (Bw (a:Int) s l 1) n b U) H Z ?_)));rintro _ w _ ⟨rfl,rfl⟩ H;refine Am (λ_=>(H.pick 5 [1,0] Z)) (An [4] J O (Ar (B5 Z Z Z Z (AS Z Z) (Am (λh=>absurd Z h) (AT J (gn (Zc 3 Z ?_)))))));have d:Sep z (rdkA e n (λ_=>(List.replicate 256 (0:UInt8))) f::blk g [Aa 1,Aa 1,Aa (a:Int),Aa s,Aa l,Aa 0,Aa 1] 92::R) w:=(H.pick 5 [0,2,3,4,1] Z).toRk m;clear H;have H:=d.l2;refine Z0 15 [4] Z ?_;refine Ay (σ:=Nat) (λp=>[(11,Aa (p:Int)),(0,V e),(1,Aa (a:Int)),(9,V g),(10,Aa 0)])
   (λp w=>Sep z (rdkA e n (λ_=>(List.replicate 256 (0:UInt8))) (f+p)::blk g [Aa 1,Aa 1,Aa (a:Int),Aa s,Aa l,Aa 0,Aa 1] 92::R) w/\(p<=a)) (λp=>a-p) 0
   fr_z ⟨H,AbV _⟩ ?_
 clear H;rintro p w ⟨d,o⟩;have H:=d.l2;have hp:=o;clear o;refine Z0 8 [0] Z (Ag Z (λu=>?_) (λu=>?_))
 ·refine Z1 9 [] [((2+p:Nat):Int)] Z U (AG Z (Dx (k:=256) H Z J Bf Z Z Z U) ?_);rintro _ w ⟨b2,rfl,H⟩;refine Ai Z (call149 _) (Fz _ n _ U _ (2+p) 1 false _ (List.replicate 256 (0:UInt8)) _ (λh q=>by rw[AbQ];exact q.rd U U O (by simp[u8])) O U U) H.f1 ?_;intro w H;rw[Ue _ _ O,Se] at H;refine Zc 4 Z ?_;replace H:=(H.pick 3 [0,2] Z).l2
  refine Z1 14 [4] [(p:Int)+1] Z U (gf ?_);intro _ hF;refine ⟨(p+1),hF.cz,⟨H,?_⟩,?_⟩
  ·omega
  omega
 refine Zc 2 Z (gx (Zc 3 Z ?_));obtain rfl:p=a:=by omega
 refine Zc 2 Z (Ai Z (call113 _) (HD _ _ _ _) H ?_);intro w H;refine Z2 17 [4,1,7] H Z (Ai Z (call150 _) (KU _ _ _ U _ (Bw (p:Int) s l 1) b) H ?_);intro w H;refine Z4 23 [4,0,1,1,7] H Z ?_;intro w H;refine Ai Z (call150 _) (KU _ _ _ U _ (Bw (p:Int) s l 2) c) H ?_;intro w H;refine Zc 4 Z (Zr Z ?_);exact ⟨_,⟨Z,Z⟩,H.pick 2 [0] Z⟩
theorem KY{y:Sup}{n:Int}(h:y.Ok n)(c:y.gen<1099511627776)(d:y.epoch<1099511627776):(BF y).Ok n:=by
 have b:=h.2;have a:=Sup.get h;exact Sup.ok_mk (by show 0<=y.gen+1/\y.gen+1<=_;omega) (by show 0<=y.epoch+1/\y.epoch+1<=_;omega) (by show 16<=y.pages/\y.pages<=1024;omega) (by show 2+y.pages<=y.start/\y.start<=_;omega) (by show 64<=y.len/\y.len<=_;omega) (by show (0:Int)<=0/\(0:Int)<y.len;omega) (by show (0:Int)<=1/\(1:Int)<=_;omega) (by show y.start<=n-y.len/\y.len<=n;omega)
def FS:List Img->Img->List Img
 | [],x=>[x]
 | y::l,x=>if y.num<x.num then y::FS l x else if y.num=x.num then x::l else x::y::l
def Dk(l xs:List Img):List Img:=xs.foldl FS l
theorem Jz(x:ImE):∀es:List ImE,(putI es x).map Prod.fst=FS (es.map Prod.fst) x.1
 | []=>rfl
 | y::l=>by
  simp only[putI,FS,Aca];split
  ·rw[Aca,Jz x l]
  split<;>rfl
theorem LH(l a b:List Img):Dk l (a++b)=Dk (Dk l a) b:=Ac4 ..
theorem putD_mem{x e:Img}:∀{es:List Img},e∈FS es x->e=x\/e∈es
 | [],h=>by simp[FS] at h;exact .inl h
 | y::l,h=>by
  simp only[FS] at h;split at h
  ·rcases Acb.1 h with q|q
   ·exact .inr (by simp[q])
   rcases putD_mem q with r|r
   ·exact .inl r
   exact .inr (Adh _ r)
  split at h
  ·rcases Acb.1 h with q|q
   ·exact .inl q
   exact .inr (Adh _ q)
  rcases Acb.1 h with q|q
  ·exact .inl q
  exact .inr q
theorem putDs_mem{e:Img}:∀{xs l:List Img},e∈Dk l xs->e∈l\/e∈xs
 | [],_,h=>.inl h
 | x::xs,l,h=>by
  rcases putDs_mem (xs:=xs) (l:=FS l x) h with q|q
  ·rcases putD_mem q with r|r
   ·exact .inr (by simp[r])
   exact .inl r
  exact .inr (Adh _ q)
theorem putDs_snoc(l a:List Img)(x:Img):Dk l (a++[x])=FS (Dk l a) x:=by rw[LH];rfl
set_option maxHeartbeats 1000000 in
theorem JA (f n m9:Nat) (f8:m9<=900000000) (c5:n<=4096) (F:Nat->List UInt8) (x0 x1 y:Sup) (d7:F 0=BC x0) (d5:F 1=BC x1) (d4:x0.Ok (n:Int)) (d3:x1.Ok (n:Int)) (g0:x0.gen%2=0) (g1:x1.gen%2=1) (hy:(x0.gen<x1.gen/\y=x1)\/(x1.gen<=x0.gen/\y=x0)) (d0:2<=n) (hh:y.head=0) (e1:y.gen<1099511627776) (d1:y.epoch<4294967296) (rs:List Rc) (e5:rs.length<=1000) (b7:∀r∈rs,∀m∈r.ims,m.num+2<(n:Int)) (d2:y.seq+rs.length<1099511627776) (hR:∀(i:Nat) (r:Rc),rs[i]?=some r->r.seq=y.seq+(i:Int)/\(1<=r.ims.length/\r.ims.length<=40)/\(∀m∈r.ims,m.Ok)/\F (y.start+(rOff rs i:Int)).toNat=sect (Bv y.epoch r.seq r.ims)/\∀(j:Nat) (m:Img),r.ims[j]?=some m->F (y.start+(rOff rs i:Int)+1+(j:Int)).toNat=sect (Bk y.epoch r.seq m)) (c1:(rOff rs rs.length:Int)<y.len/\F (y.start+(rOff rs rs.length:Int)).toNat=List.replicate 256 0):Aj 89 [V f] [rdkA f n F m9] (λv G=>∃(ps pl:Nat) (a8:List ImE),a8.map Prod.fst=Dk [] (rs.flatMap Rc.ims)/\(∀e∈a8,e.1.Ok)/\v=.tuple #[V ps,Aa 0]/\G=[blk ps [V f,Aa ((BF y).gen),Aa ((BF y).epoch),Aa ((BF y).pages),Aa ((BF y).start),Aa ((BF y).len),Aa ((BF y).head),Aa ((BF y).seq),V pl,.slice none 0 0,.bool false,.slice none 0 0] 128,blk pl [V f,Aa ((BF y).gen),Aa ((BF y).epoch),Aa ((BF y).pages),Aa ((BF y).start),Aa ((BF y).len),Aa ((BF y).head),Aa ((BF y).seq),Aa 0,Aa 1,Aa 0,.bool false] 249,rdkA f n (BE (Eo F a8) ((BF y).gen%2).toNat (BC (BF y))) (m9+a8.length+1)]):=by
 intro z R w H;have a5:y.Ok (n:Int):=by rcases hy with ⟨_,rfl⟩|⟨_,rfl⟩<;>assumption
 have f7:=a5.2;have e8:=Sup.get a5;refine Ac func89 Z ntmps89 Z (Zc 9 Z (Ai Z (call151 _) (X6 _ _ _ F x0 x1 y d7 d5 d4 d3 g0 g1 hy d0) H ?_));intro w H;refine Za 3 [] H Z ?_;intro b1 w H;refine Z4 18 [0,4,0,7] H Z ?_;intro w H;refine AA Z (call152 _) (UQ _ n _ c5 F y a5 hh d1 rs d2 hR c1) H.f1 ?_;rintro _ w _ ⟨b4,rv,es,hq,b6,hE,rfl,rfl⟩ H;have e0:=H.sy 0 (·.slc);obtain ⟨ro,l,rfl⟩:=e0;refine Z2 26 [4,0,4,0,0] H Z (Ak 32 Z (λh1=>U) (λh1=>?_));refine Z2 6 [1,4,0,0] H Z (Ag Z (λh2=>U) (λh2=>?_));refine Zc 5 Z (Ad Z (AX Z Z (out:=[V f,Aa 0,Aa 0,Aa 0,Aa 0,Aa 0,Aa 0,Aa 0,.pointer none,.slice none 0 0,.bool false,.slice none 0 0]) J) (Za 0 [] H Z ?_));intro b2 w H;refine Zc 5 Z ?_;have d9:=imP.nil hq;have e3:es.length=rs.length:=by rw[<-b6,AbN]
 refine Zc 5 Z ?_;refine Ay (σ:=Nat×Value×List ImE×Hp) (λ⟨i,p,b,d⟩=>[(9,Aa (i:Int)),(0,V f),(2,.pointer none),(3,Aa 0),(4,V b1),(5,Aa 0),(7,.slice ro rs.length l),(8,V b2)])
   (λ⟨i,p,b,d⟩ w=>Sep z (blk b2 [V f,Aa 0,Aa 0,Aa 0,Aa 0,Aa 0,Aa 0,Aa 0,.pointer none,p,.bool false,.slice none 0 0] 128::grow 116 2 (.slice ro rs.length l) rs.length (Et es)::poolA d::blk b4 [V f,Aa y.gen,Aa y.epoch,Aa y.pages,Aa y.start,Aa y.len,Aa y.head,Aa y.seq,Aa (rOff rs rs.length:Int),Aa (y.seq+(rs.length:Int)),Aa (rOff rs rs.length:Int),.bool false] 249::rdkA f n F m9::blk b1 [Aa y.gen,Aa y.epoch,Aa y.pages,Aa y.start,Aa y.len,Aa y.head,Aa y.seq] 92::R) w/\(i<=rs.length/\BA hq d/\imP p b d/\b.map Prod.fst=Dk [] ((rs.take i).flatMap Rc.ims)/\b.length<=40*i)) (λ⟨i,p,b,d⟩=>rs.length-i) ⟨0,.slice none 0 0,[],hq⟩
   fr_z ⟨H,⟨AbV _,λk o e=>e,d9,Z,by simp⟩⟩ ?_
 clear H;rintro ⟨i,p,b,d⟩ w ⟨H',hI⟩;dsimp only at hI H' ⊢;have H:=H'.l6;obtain ⟨hi,d6,a3,a4,e9⟩:=hI;refine Z0 9 [0] Z (Ag Z (λh3=>?_) (λh3=>?_))
 ·refine Zc 5 Z ?_;obtain ⟨⟨r,f6⟩,g⟩:∃e:RcE,es[i]?=some e:=⟨_,AbF U⟩;have hr:rs[i]?=some r:=by rw[<-b6,AbY,g];rfl
  obtain ⟨_,e6,c4,_⟩:=hR i r hr;obtain ⟨b8,b5,t,a9⟩:=hE _ (AbG g);dsimp only at b5 t a9;obtain ⟨io,ic,rfl⟩:=t.slc;have e4:b8.length=r.ims.length:=by rw[<-b5,AbN]
  refine Zc 5 Z ?_;refine Ay (σ:=Nat×Value×List ImE×Hp) (λ⟨j,x,a,c⟩=>[(10,Aa (j:Int)),(0,V f),(2,.pointer none),(3,Aa 0),(4,V b1),(5,Aa 0),(7,.slice ro rs.length l),(8,V b2),(9,Aa (i:Int)),(40,Aa (i:Int)),(41,.slice ro rs.length l),(42,Aa (rs.length:Int)),(43,.bool (decide ((i:Int)<(rs.length:Int))))])
    (λ⟨j,x,a,c⟩ w=>Sep z (blk b2 [V f,Aa 0,Aa 0,Aa 0,Aa 0,Aa 0,Aa 0,Aa 0,.pointer none,x,.bool false,.slice none 0 0] 128::grow 116 2 (.slice ro rs.length l) rs.length (Et es)::poolA c::blk b4 [V f,Aa y.gen,Aa y.epoch,Aa y.pages,Aa y.start,Aa y.len,Aa y.head,Aa y.seq,Aa (rOff rs rs.length:Int),Aa (y.seq+(rs.length:Int)),Aa (rOff rs rs.length:Int),.bool false] 249::rdkA f n F m9::blk b1 [Aa y.gen,Aa y.epoch,Aa y.pages,Aa y.start,Aa y.len,Aa y.head,Aa y.seq] 92::R) w/\(j<=r.ims.length/\BA hq c/\imP x a c/\a.map Prod.fst=Dk (Dk [] ((rs.take i).flatMap Rc.ims)) (r.ims.take j)/\a.length<=40*i+j)) (λ⟨j,x,a,c⟩=>r.ims.length-j) ⟨0,p,b,d⟩
    fr_z ⟨H,⟨AbV _,d6,a3,by rw[a4];rfl,by omega⟩⟩ ?_
  clear H;rintro ⟨j,x,a,c⟩ w ⟨H',hI⟩;dsimp only at hI H' ⊢;have H:=H'.l6;obtain ⟨hj,a2,a0,c6,f0⟩:=hI;refine Zc 6 Z (Ad Z (Az Z (z:=2) (j:=i) (r:=i*2) J Z Z Z U ((H.rv 1 (·.rd)).at (Ec g 0 _ Z)) U) (Ad Z (BN Z (k:=1) (r:=i*2+1) J Z ((H.rv 1 (·.rd)).at (Ec g 0 _ Z)) Z) (Ad Z (AM Z Z J (AB ((H.rv 1 (·.rd)).at (Ec g 1 _ Z)))) (Z0 4 [0] Z (Ag Z (λh4=>?_) (λh4=>?_))))))
  ·refine Zc 4 Z ?_;obtain ⟨⟨m,bv⟩,a7⟩:∃e:ImE,b8[j]?=some e:=⟨_,AbF U⟩;have b9:r.ims[j]?=some m:=by rw[<-b5,AbY,a7];rfl
   have c7:=c4 m (AbG b9);have a6:=a9 _ (AbG a7);dsimp only at a6;rw[c7.2.2] at a6;obtain ⟨bo,bc,rfl⟩:Slc bv 240:=a6.slc;have d8:imeOk c ((m,.slice bo 240 bc):ImE):=⟨c7,a6.le a2⟩;obtain ⟨po,c3,rfl⟩:=a0.slc;replace H:=H.f1.f2.f2;refine AK (Sep z (blk b2 [V f,Aa 0,Aa 0,Aa 0,Aa 0,Aa 0,Aa 0,Aa 0,.pointer none,.slice po a.length c3,.bool false,.slice none 0 0] 128::poolA c::grow 116 2 (.slice ro rs.length l) rs.length (Et es)::R)) 17 Z J (A4 H λw H'=>?_);have H:=H'.l6;refine A6 [0,1,2,3,4,5,6] [9,0] J (λ_ hx=>(AQ (hx.blk 0 Z) AJ)) (by exact H.pick 6 [0,1,2] Z) Z J Z Z (AR 7 J Z Z J J J Z Z Z (Az Z (z:=2) (j:=i) (r:=i*2) J Z Z Z U ((H.rv 2 (·.rd)).at (Ec g 0 _ Z)) U) (H.pick 6 [0,1,2] Z) (AR 8 J Z Z J J J Z Z Z (BN Z (k:=1) (r:=i*2+1) J Z ((H.rv 2 (·.rd)).at (Ec g 0 _ Z)) Z) (H.pick 6 [0,1,2] Z) (AR 9 J Z Z J J J Z Z Z (AM Z Z J (λ_ hs=>(hs.rv 2 (·.rd)).at (Ec g 1 _ Z))) (H.pick 6 [0,1,2] Z) (A6 [10] [] J (λ_ _=>AJ) (by exact H.pick 6 [0,1,2] Z) Z J Z Z (AR 11 J Z Z J J J Z Z Z (Az Z (z:=3) (j:=j) (r:=j*3) J Z Z Z U ((H.rv 1 (λq=>(t.le a2).le q)).at (A7 a7 0 _ Z)) U) (H.pick 6 [0,1,2] Z) (AR 12 J Z Z J J J Z Z Z (BU Z Z (vs:=[Aa m.num,Aa m.kind,.slice bo 240 bc]) J O (λ_ hs k u hk=>(hs.rv 1 (λq=>(t.le a2).le q)).at (A7 a7 k u hk))) (H.pick 6 [0,1,2] Z) (An [13] J O (Ar (Ba Z Z Z Z Z Z (λw=>call153 _ w) (Gc _ a (poolA c) (λh q=>a0.rdA q) (λe g=>(a0.2 e g).1) U m _ _) H.f1 Z ?_)))))))));rintro c0 w _ ⟨_,rfl,rfl⟩ H;have b3:=H.sy 0 (·.slc);refine Am (λ_=>(H.pick 7 [2,1,3] Z)) (A6 [14,15] [9] J (λ_ _=>AJ) (by exact H.pick 7 [2,1,3] Z) Z J Z Z (An [16] J O (Ar (B6 Z Z Z (Ma 2 H Z Z Z Z b3.cells b3.one J) ?_))));rintro w H;refine Am (λh=>absurd Z h) (AT J (gn ?_));replace H:=H.f1;obtain ⟨c8,⟨a1,c9⟩,H⟩:=BG H (λh q=>q.rd);have e2:imP c0 (putI a ((m,.slice bo 240 bc):ImE)) c8:=imP.put a0 a1 d8 c9;refine Z1 7 [] [(j:Int)+1] Z U ?_;replace H:=H.f5.f5.f5.f3.f5.f5;refine gf ?_;intro _ hF;refine ⟨⟨j+1,c0,putI a ((m,.slice bo 240 bc):ImE),c8⟩,hF.cz,⟨H,?_⟩,?_⟩
   ·exact ⟨by show j+1<=r.ims.length;omega,λk o e=>a1 k o (a2 k o e),e2,by rw[Jz,c6,AbZ,b9];exact (putDs_snoc _ _ _).symm,AdZ (putI_len _ _) U⟩
   (dsimp only;omega)
  refine Zc 2 Z (gx (Z1 8 [] [(i:Int)+1] Z U (gf ?_)));intro _ hF;refine ⟨⟨i+1,x,a,c⟩,hF.cz,⟨H,?_⟩,?_⟩
  ·exact ⟨by show i+1<=rs.length;omega,a2,a0,by rw[AbZ,hr];simp only[Option.toList_some,List.flatMap_append,List.flatMap_singleton];rw[LH,c6,show r.ims.take j=r.ims from AbJ U],by show a.length<=40*(i+1);omega⟩
  (dsimp only;omega)
 refine Zc 2 Z (gx (Z5 33 [0,5,0,0,5,1,5,0,1,5,5,5,6,5] [y.gen+1,y.epoch+1] H Z U ?_));intro w H;obtain rfl:i=rs.length:=by omega
 obtain ⟨s,hs⟩:∃s:Sup,s=BF y:=⟨_,Z⟩;have b0:s.Ok (n:Int):=by rw[hs];exact KY a5 e1 U
 have e7:s.pages=y.pages:=by rw[hs];rfl
 have H':Sep z (blk b2 [V f,Aa 0,Aa 0,Aa 0,Aa 0,Aa 0,Aa 0,Aa 0,.pointer none,p,.bool false,.slice none 0 0] 128::grow 116 2 (.slice ro rs.length l) rs.length (Et es)::poolA d::blk b4 [V f,Aa y.gen,Aa y.epoch,Aa y.pages,Aa y.start,Aa y.len,Aa y.head,Aa y.seq,Aa (rOff rs rs.length:Int),Aa (y.seq+(rs.length:Int)),Aa (rOff rs rs.length:Int),.bool false] 249::rdkA f n F m9::blk b1 [Aa s.gen,Aa s.epoch,Aa s.pages,Aa s.start,Aa s.len,Aa s.head,Aa s.seq] 92::R) w:=by rw[hs];exact H
 clear H;have H:=H'.l6;have c2:∀e∈b,e.1.num+2<(n:Int):=λe g=>by have h1:e.1∈Dk [] ((rs.take rs.length).flatMap Rc.ims):=a4▸Acz g;rcases putDs_mem h1 with q|q;exact nomatch q;obtain ⟨r,hr,hm⟩:=AdL.1 q;exact b7 r (Acr hr) e.1 hm
 obtain ⟨po,c3,rfl⟩:=a3.slc;refine Z2 3 [5,7] H Z (Ai Z (call154 _) (LF _ _ (Sup.mk 0 0 0 0 0 0 0) _ _ _ n _ U c5 F s b0 _ b (poolA d) (λh q=>a3.rdA q) (λe g=>(a3.2 e g).1) U c2) H.f2.f4.f2 ?_);intro w H;refine Z2 18 [4,5,7] H Z (AA Z (call155 _) (O5 _ n _ _ s b0) H.f1 ?_);rintro _ w _ ⟨pl,rfl,rfl⟩ H;refine Z4 13 [8,2] H Z ?_;intro w H;refine Zr Z ?_;subst hs;rw[AcB] at a4;exact ⟨_,⟨b2,pl,b,a4,λe g=>(a3.2 e g).1,Z,Z⟩,H.pick 7 [2,0,1] Z⟩
def JB(F:Nat->List UInt8)(ims:List Img):Nat->List UInt8:=ims.foldl (λF m=>BE F (2+m.num).toNat (Em m)) F
theorem Nu(F:Nat->List UInt8)(es:List ImE):Eo F es=JB F (es.map Prod.fst):=by
 unfold Eo JB;rw[List.foldl_map]
theorem putQ_off{i:Nat}:∀{ims:List Img} {F:Nat->List UInt8},(∀m∈ims,(2+m.num).toNat≠i)->JB F ims i=F i
 | [],_,_=>rfl
 | m::l,F,h=>by
  show JB (BE F _ _) l i=F i;rw[putQ_off (λx hx=>h x (Adh _ hx)),upf_other _ _ (Ada (h m O))]
theorem KZ{m:Img}:∀{ims:List Img} {F:Nat->List UInt8},(∀x∈ims,0<=x.num)->(ims.map Img.num).Nodup->m∈ims->JB F ims (2+m.num).toNat=Em m
 | [],_,_,_,hm=>nomatch hm
 | x::l,F,h0,hd,hm=>by
  show JB (BE F _ _) l _=_;simp only[Aca,AcZ] at hd;rcases Acb.1 hm with rfl|hm
  ·rw[putQ_off (λy hy e=>hd.1 (by have h1:=h0 y (by simp[hy]);have h2:=h0 m O;rw[show m.num=y.num by omega];exact Acz hy)),Do]
  exact KZ (λy hy=>h0 y (by simp[hy])) hd.2 hm
theorem JC{x:Img}:∀{l:List Img},(∀y∈l,y.num<x.num)->FS l x=l++[x]
 | [],_=>rfl
 | y::l,h=>by
  simp only[FS];rw[if_pos (h y O),JC (λz hz=>h z (by simp[hz]))];rfl
theorem HF:∀{xs l:List Img},(l++xs).Pairwise (λa b=>a.num<b.num)->Dk l xs=l++xs
 | [],l,_=>by simp[Dk]
 | x::xs,l,h=>by
  show Dk (FS l x) xs=_;have h1:∀y∈l,y.num<x.num:=λy c=>(List.pairwise_append.1 h).2.2 y c x O;rw[JC h1,HF (by rwa[AbK,Adc]),AbK,Adc]

def JD(e q:Int)(ims:List Img):List (List UInt8):=sect (Bv e q ims)::ims.map λm=>sect (Bk e q m)
theorem Sg(e q:Int)(ims:List Img):sect (Bv e q ims)++AF e q ims=(JD e q ims).flatten:=by simp[JD,AF,List.flatMap]
theorem Nv(e q:Int)(ims:List Img):(JD e q ims).length=1+ims.length:=by simp[JD];omega
theorem UR{e q:Int}{ims:List Img}(b:ims.length<=40)(a:∀m∈ims,m.Ok):∀s∈JD e q ims,s.length=256:=λs hs=>by
 rcases Acb.1 hs with rfl|hs
 ·exact sect_len (hdL_le b)
 obtain ⟨m,c,rfl⟩:=AbP.1 hs;exact sect_len (AcO (C4 (a m c).2.2))
theorem Aac{F:Nat->List UInt8}{a:Nat}{e q:Int}{ims:List Img}(c:ims.length<=40)(b:∀m∈ims,m.Ok):Ey F a (sect (Bv e q ims)++AF e q ims) (1+ims.length)=Ij F a (JD e q ims):=by
 rw[<-Nv e q ims];exact Xz (Sg e q ims) (UR c b)

def Sh(C:Nat->Nat)(n:Nat)(cb:List UInt8):Nat->Img
 | 0=>⟨((0:Nat):Int),1,cb⟩
 | i+1=>⟨((i+1:Nat):Int),2,DG (Cc C n i)⟩
theorem CB(C:Nat->Nat)(n:Nat)(cb:List UInt8)(i:Nat):(Sh C n cb i).num=(i:Int):=by cases i<;>rfl
theorem Hd{C:Nat->Nat}{n:Nat}{cb:List UInt8}(a:cb.length=240){i:Nat}(b:i<=1023):(Sh C n cb i).Ok:=by
 cases i with
 | zero=>exact ⟨by show 0<=((0:Nat):Int)/\((0:Nat):Int)<=1023;omega,by show 1<=(1:Int)/\(1:Int)<=5;omega,a⟩
 | succ i=>exact ⟨by show 0<=((i+1:Nat):Int)/\((i+1:Nat):Int)<=1023;omega,by show 1<=(2:Int)/\(2:Int)<=5;omega,Fx (CU _ _ _)⟩
abbrev Fg(n:Nat)(cb:List UInt8)(i:Nat):Img:=Sh (C1 (manyN n+1)) n cb i
def Ct(n:Nat)(cb:List UInt8)(k:Nat):List Img:=(List.range k).map (Fg n cb)
theorem DH(n:Nat)(cb:List UInt8)(k:Nat):(Ct n cb k).length=k:=by simp[Ct]
theorem X8(n:Nat)(cb:List UInt8)(k:Nat):Ct n cb (k+1)=Ct n cb k++[Fg n cb k]:=by simp[Ct,Ac5]
theorem D8{n:Nat}{cb:List UInt8}{k:Nat}{m:Img}(h:m∈Ct n cb k):∃i,i<k/\m=Fg n cb i:=by
 obtain ⟨i,a,rfl⟩:=AbP.1 h;exact ⟨i,AcL.1 a,Z⟩
theorem Gw(n:Nat)(cb:List UInt8)(k:Nat):(Ct n cb k).Pairwise (λa b=>a.num<b.num):=by
 unfold Ct;rw[AcR];exact List.pairwise_lt_range.imp λh=>by rw[CB,CB];omega
theorem Nw{l:List Img}(h:l.Pairwise (λa b=>a.num<b.num)):(l.map Img.num).Nodup:=by
 unfold List.Nodup;rw[AcR];exact h.imp λh=>by omega
theorem Aad{l:List ImE}(h:(l.map Prod.fst).Pairwise (λa b=>a.num<b.num)):∀(j i:Nat) (e f:ImE),j<i->l[j]?=some e->l[i]?=some f->e.1.num≠f.1.num:=λj i e f c k m=>by
 rw[AcR,Adv] at h;obtain ⟨o,n⟩:=AbE.1 k;obtain ⟨d,g⟩:=AbE.1 m;have:=h j i o d c;rw[n,g] at this;omega

def Ki(n:Nat)(s l:Int):Nat->List UInt8:=BE (BE (λ_=>List.replicate 256 0) 1 (BC (Bw (n:Int) s l 1))) 0 (BC (Bw (n:Int) s l 2))
def Bi(n:Nat)(s l:Int):Sup:=BF (Bw (n:Int) s l 2)
def Ir(n:Nat)(s l:Int):Nat->List UInt8:=BE (Ki n s l) 1 (BC (Bi n s l))
def DV(n:Nat)(s l:Int)(cb:List UInt8):Nat->List UInt8:=Ij (Ir n s l) s.toNat (JD 2 1 (Ct n cb (manyN n+1)))
def CJ(n:Nat)(cb:List UInt8):List Rc:=[⟨1,Ct n cb (manyN n+1)⟩]
theorem Nx{n:Nat}{s l:Int}{d:Int}(h:(Bw (n:Int) s l 2).Ok d):(Bi n s l).Ok d:=KY h (by show (2:Int)<_;omega) (by show (1:Int)<_;omega)
theorem We(n:Nat)(s l:Int):Ki n s l 0=BC (Bw (n:Int) s l 2):=Do _ _ _
theorem AaY(n:Nat)(s l:Int):Ki n s l 1=BC (Bw (n:Int) s l 1):=by unfold Ki;rw[upf_other _ _ U,Do]
theorem K0(n:Nat)(s l:Int){i:Nat}(h:2<=i):Ki n s l i=List.replicate 256 0:=by unfold Ki;rw[upf_other _ _ U,upf_other _ _ U]
theorem Wf(n:Nat){s:Int}(l:Int)(cb:List UInt8)(hs:2<=s):DV n s l cb 0=BC (Bw (n:Int) s l 2):=by
 unfold DV;rw[HB (.inl U)];unfold Ir;rw[upf_other _ _ U];exact We n s l
theorem Wg(n:Nat){s:Int}(l:Int)(cb:List UInt8)(hs:2<=s):DV n s l cb 1=BC (Bi n s l):=by
 unfold DV;rw[HB (.inl U)];unfold Ir;rw[Do]
theorem Ya(n:Nat){s:Int}(l:Int)(cb:List UInt8)(hs:2<=s):DV n s l cb (s+((1+(manyN n+1):Nat):Int)).toNat=List.replicate 256 0:=by
 unfold DV;rw[HB (.inr (by rw[Nv,DH];omega))];unfold Ir;rw[upf_other _ _ U];exact K0 n s l U
theorem Aae(n:Nat){s:Int}(l:Int)(cb:List UInt8)(hs:2<=s):DV n s l cb s.toNat=sect (Bv 2 1 (Ct n cb (manyN n+1))):=OH (j:=0) Z
theorem Aaf(n:Nat){s:Int}(l:Int)(cb:List UInt8)(hs:2<=s){j:Nat}{m:Img}(h:(Ct n cb (manyN n+1))[j]?=some m):DV n s l cb (s.toNat+(j+1))=sect (Bk 2 1 m):=OH (by
 show (sect _::_)[j+1]?=_;rw[Ab4,AbY,h];rfl)
theorem Wh{n:Nat}{s l:Int}{cb:List UInt8}(f:cb.length=240)(d:n<=1024)(hs:2<=s):∀(i:Nat) (r:Rc),(CJ n cb)[i]?=some r->r.seq=(Bi n s l).seq+(i:Int)/\(1<=r.ims.length/\r.ims.length<=40)/\(∀m∈r.ims,m.Ok)/\DV n s l cb ((Bi n s l).start+(rOff (CJ n cb) i:Int)).toNat=sect (Bv (Bi n s l).epoch r.seq r.ims)/\∀(j:Nat) (m:Img),r.ims[j]?=some m->DV n s l cb ((Bi n s l).start+(rOff (CJ n cb) i:Int)+1+(j:Int)).toNat=sect (Bk (Bi n s l).epoch r.seq m):=λi r h=>by
 have b:i=0:=by have:=(AbE.1 h).1;simp[CJ] at this;exact this
 subst b;have c:(⟨1,Ct n cb (manyN n+1)⟩:Rc)=r:=by simpa [CJ] using h
 subst c;have g:=DO d;refine ⟨Z,⟨by dsimp only;rw[DH];omega,by dsimp only;rw[DH];omega⟩,λm a=>?_,?_,λj m e=>?_⟩
 ·obtain ⟨i,b,rfl⟩:=D8 a;exact Hd f U
 ·show DV n s l cb (s+((0:Nat):Int)).toNat=_
  rw[show s+((0:Nat):Int)=s by omega];exact Aae n l cb hs
 show DV n s l cb (s+((0:Nat):Int)+1+(j:Int)).toNat=_;rw[show (s+((0:Nat):Int)+1+(j:Int)).toNat=s.toNat+(j+1) by omega];exact Aaf n l cb hs e
theorem O6{n:Nat}{s l:Int}{cb:List UInt8}(a:n<=1024)(hs:2<=s)(c:64<=l):(rOff (CJ n cb) (CJ n cb).length:Int)<(Bi n s l).len/\DV n s l cb ((Bi n s l).start+(rOff (CJ n cb) (CJ n cb).length:Int)).toNat=List.replicate 256 0:=by
 have b:=DO a;have e:rOff (CJ n cb) (CJ n cb).length=1+(manyN n+1):=by simp[rOff,CJ,DH]
 rw[e];exact ⟨by show _<l;omega,Ya n l cb hs⟩
theorem K1{n:Nat}{s l:Int}{cb:List UInt8}{a:List ImE}(h:a.map Prod.fst=Dk [] ((CJ n cb).flatMap Rc.ims)){g:Nat}(d:g<=1)(x:List UInt8){i:Nat}(c:i<=manyN n):BE (Eo (DV n s l cb) a) g x (2+i)=Em (Fg n cb i):=by
 have e:(CJ n cb).flatMap Rc.ims=Ct n cb (manyN n+1):=by simp[CJ]
 rw[e,HF (by rw[Ab3];exact Gw _ _ _),Ab3] at h;rw[upf_other _ _ U,Nu,h];have:=KZ (F:=DV n s l cb) (m:=Fg n cb i) (λx b=>by obtain ⟨j,_,rfl⟩:=D8 b;rw[CB];omega) (Nw (Gw n cb (manyN n+1))) (AbP.2 ⟨i,AcL.2 U,Z⟩);rwa[CB,show (2+(i:Int)).toNat=2+i by omega] at this

theorem Aag(n:Nat)(s l:Int):BE (Eo (Ki n s l) []) ((BF (Bw (n:Int) s l 2)).gen%2).toNat (BC (BF (Bw (n:Int) s l 2)))=Ir n s l:=rfl
theorem AaZ{n:Nat}{cb:List UInt8}{own:List ImE}{k:Nat}(h:own.map Prod.fst=Ct n cb k):∀e∈own,e.1.num≠(Fg n cb k).num:=λe a=>by
 have c:e.1∈Ct n cb k:=h▸Acz a;obtain ⟨i,d,b⟩:=D8 c;rw[b,CB,CB];omega
theorem Si{n:Nat}{cb:List UInt8}{own:List ImE}{k:Nat}(h:own.map Prod.fst=Ct n cb k)(a:Value):(putI own (Fg n cb k,a)).map Prod.fst=Ct n cb (k+1):=by
 rw[Jz,h,JC,<-X8];intro y b;obtain ⟨i,c,rfl⟩:=D8 b;rw[CB,CB];omega
theorem LI{n:Nat}{cb:List UInt8}{own:List ImE}{k:Nat}(h:own.map Prod.fst=Ct n cb k):own.length=k:=by
 rw[<-AbN (f:=Prod.fst),h,DH]
theorem Aah{n:Nat}{s l:Int}{cb:List UInt8}{own:List ImE}(e:cb.length=240)(c:n<=1024)(h:own.map Prod.fst=Ct n cb (manyN n+1)):Ey (Ir n s l) ((Bi n s l).start+0).toNat (sect (Bv (Bi n s l).epoch 1 (own.map Prod.fst))++AF (Bi n s l).epoch 1 (own.map Prod.fst)) (1+own.length)=DV n s l cb:=by
 have g:=DO c;have d:=LI h;have a:own.length=(Ct n cb (manyN n+1)).length:=by rw[d,DH]
 rw[h,show (Bi n s l).start+0=s from AeF _,a];rw[Aac (by rw[DH];omega) (λm b=>by obtain ⟨i,f,rfl⟩:=D8 b;exact Hd e U)];rfl
theorem US{n:Nat}{s l:Int}(hs:2<=s)(a:64<=l):(rOff ([]:List Rc) ([]:List Rc).length:Int)<(Bw (n:Int) s l 2).len/\Ki n s l ((Bw (n:Int) s l 2).start+(rOff ([]:List Rc) ([]:List Rc).length:Int)).toNat=List.replicate 256 0:=by
 have e:rOff ([]:List Rc) ([]:List Rc).length=0:=rfl;rw[e];exact ⟨by show ((0:Nat):Int)<l;omega,K0 n s l (by show 2<=(s+((0:Nat):Int)).toNat;omega)⟩
theorem O7{n:Nat}{cb:List UInt8}(c:n<=1024){d:Int}(e:12<=d):∀r∈CJ n cb,∀m∈r.ims,m.num+2<d:=λr b m a=>by
 have f:=DO c;rw[show r=⟨1,Ct n cb (manyN n+1)⟩ from Acu.1 b] at a;obtain ⟨i,g,rfl⟩:=D8 a;rw[CB];omega
theorem UT(C:Nat->Nat)(n j:Nat):cnL (D7 (LC C (j+1)) j (Cc C n j) 120) n=cnL (LC C (j+1+1)) n:=by
 rw[Ady j 1];exact OY C n j
theorem CV(n:Nat)(h:16<=n/\n<=1024):Aj 94 [Aa (n:Int)] [] (λv G=>v=Aa (manyN n:Int)/\G=[]):=by
 intro z R w H;have c:manyN n=(n+119)/120:=rfl;refine Ac func94 Z ntmps94 Z (Z0 11 [0] Z (Ak 6 Z (λg=>U) (λg=>?_)));refine Z0 5 [0] Z (Ag Z (λb=>U) (λb=>?_));refine Zc 9 Z ?_;refine Ay (σ:=Nat) (λi=>[(3,Aa (i:Int)),(0,Aa (n:Int)),(2,Aa 0)])
   (λi w=>Sep z (R) w/\(i<=manyN n)) (λi=>manyN n-i) 0
   fr_z ⟨H,AbV _⟩ ?_
 clear H;rintro i w ⟨e,a⟩;have H:=e.l0;have j:=a;clear a;refine Z1 9 [0] [(i:Int)*120] Z U (Ag Z (λf=>?_) (λf=>?_))
 ·refine Z1 9 [] [(i:Int)+1] Z U (gf ?_);intro _ d;refine ⟨(i+1),d.cz,⟨H,?_⟩,?_⟩
  ·omega
  omega
 obtain rfl:i=manyN n:=by omega
 refine Zc 2 Z (gx (Zc 9 Z (Zr Z ?_)));exact ⟨_,⟨Z,Z⟩,H⟩
theorem O8(n:Nat)(p:16<=n/\n<=1024):Aj 93 [Aa (n:Int)] [] (λv G=>∃f g bw:Nat,v=V f/\G=[blk f [.slice (some ⟨g,0,none⟩) n n,.slice (some ⟨bw,0,none⟩) n n] 166,Aw g (λ_=>0) n,Aw bw (λ_=>0) n]):=by
 intro z R w H;refine Ac func93 Z ntmps93 Z (Z0 11 [0] Z (Ak 5 Z (λo=>U) (λo=>?_)));refine Z0 5 [0] Z (Ag Z (λj=>U) (λj=>?_));refine Zc 3 Z (AK (Sep z (R)) 7 Z J (A4 H λw l=>?_));have H:=l.l0;refine A6 [0,2] [] J (λ_ _=>AJ) (by exact H) Z J Z Z (An [1,3] J O (Pl ?_ ?_))
 ·refine Ck Z Z Z Z (Dx (k:=n) H Z J BP Z Z Z U) ?_;rintro _ w ⟨e,rfl,H⟩;refine Am (λ_=>(H.pick 1 [] Z)) (An [3] J O (Ar (Ck Z Z Z Z (Dx (k:=n) H Z J BP Z Z Z U) ?_)));rintro _ w ⟨a,rfl,H⟩;refine Am (λ_=>(H.pick 2 [] Z)) (AR 4 J Z Z J J J Z Z Z (AX Z Z (out:=[.slice (some ⟨e,0,none⟩) n n,.slice (some ⟨a,0,none⟩) n n]) J) (H.pick 2 [] Z) (An [5] J O (Ar (Ck Z Z Z Z (FE H Z Z (cs:=[.slice (some ⟨e,0,none⟩) n n,.slice (some ⟨a,0,none⟩) n n]) Z) ?_))));rintro _ w ⟨i,rfl,H⟩;refine Am (λ_=>(H.pick 3 [] Z)) (An [6] J O (Ar (B5 Z Z Z Z (AS Z Z) (Am (λh=>absurd Z h) (AT J (gn (Zc 2 Z (Zr Z ?_))))))));have b:List.replicate n (Aa 0)=cnL (λ_=>0) n:=by
    unfold cnL;rw[AeL,AdH];rfl
  rw[b] at H;exact ⟨_,⟨i,e,a,Z,Z⟩,H.pick 3 [0,2,1] Z⟩
 refine Ck Z Z Z Z (Dx (k:=n) H Z J BP Z Z Z U) ?_;rintro _ w ⟨c,rfl,H⟩;refine Am (λ_=>(H.pick 1 [] Z)) (An [1] J O (Ar (Ck Z Z Z Z (Dx (k:=n) H Z J BP Z Z Z U) ?_)));rintro _ w ⟨d,rfl,H⟩;refine Am (λ_=>(H.pick 2 [] Z)) (AR 4 J Z Z J J J Z Z Z (AX Z Z (out:=[.slice (some ⟨d,0,none⟩) n n,.slice (some ⟨c,0,none⟩) n n]) J) (H.pick 2 [] Z) (An [5] J O (Ar (Ck Z Z Z Z (FE H Z Z (cs:=[.slice (some ⟨d,0,none⟩) n n,.slice (some ⟨c,0,none⟩) n n]) Z) ?_))));rintro _ w ⟨m,rfl,H⟩;refine Am (λ_=>(H.pick 3 [] Z)) (An [6] J O (Ar (B5 Z Z Z Z (AS Z Z) (Am (λh=>absurd Z h) (AT J (gn (Zc 2 Z (Zr Z ?_))))))));have b:List.replicate n (Aa 0)=cnL (λ_=>0) n:=by
   unfold cnL;rw[AeL,AdH];rfl
 rw[b] at H;exact ⟨_,⟨m,d,c,Z,Z⟩,H.pick 3 [0,1,2] Z⟩
theorem FA(b a bw n:Nat)(C:Nat->Nat)(p:Nat)(hp:p<n)(e:16<=n/\n<=1024):Aj 112 [V b,Aa (p:Int)] [blk b [.slice (some ⟨a,0,none⟩) n n,.slice (some ⟨bw,0,none⟩) n n] 166,Aw a C n] (λv G=>v=Aa (C p:Int)/\G=[blk b [.slice (some ⟨a,0,none⟩) n n,.slice (some ⟨bw,0,none⟩) n n] 166,Aw a C n]):=by
 intro z R w H;refine Ac func112 Z ntmps112 Z (Z0 11 [0] Z (Ak 7 Z (λd=>U) (λd=>?_)));refine Z2 10 [0,0,0,0] H Z (Ag Z (λc=>U) (λc=>?_));refine Z3 10 [0,0,0,1,p,p] [] H Z U (Ad Z (AY Z Z J (AB (H.cel 1 Z p (cnL_at _ U)))) (Zc 4 Z (Zr Z ?_)));exact ⟨_,⟨Z,Z⟩,H⟩
theorem Ny(b a bw n:Nat)(C:Nat->Nat)(p:Int)(hp:p<0\/(n:Int)<=p)(e:16<=n/\n<=1024):Aj 112 [V b,Aa p] [blk b [.slice (some ⟨a,0,none⟩) n n,.slice (some ⟨bw,0,none⟩) n n] 166,Aw a C n] (λv G=>v=Aa 0/\G=[blk b [.slice (some ⟨a,0,none⟩) n n,.slice (some ⟨bw,0,none⟩) n n] 166,Aw a C n]):=by
 intro z R w H;refine Ac func112 Z ntmps112 Z (Z0 11 [0] Z (Ak 7 Z (λd=>?_) (λd=>?_)))
 ·refine Zc 17 Z (Zr Z ?_);exact ⟨_,⟨Z,Z⟩,H⟩
 refine Z2 10 [0,0,0,0] H Z (Ag Z (λc=>?_) (λc=>?_))
 ·refine Zc 6 Z (Zr Z ?_);exact ⟨_,⟨Z,Z⟩,H⟩
 (exfalso;omega)
theorem IQ(b a bw n:Nat)(C:Nat->Nat)(p x:Nat)(y:Int)(hp:p<n)(l:16<=n/\n<=1024)(k:(C p:Int)+y=x)(e:x<=1000)(m:C p<=1000):Aj 95 [V b,Aa (p:Int),Aa y] [blk b [.slice (some ⟨a,0,none⟩) n n,.slice (some ⟨bw,0,none⟩) n n] 166,Aw a C n] (λv G=>v=Aa 0/\G=[blk b [.slice (some ⟨a,0,none⟩) n n,.slice (some ⟨bw,0,none⟩) n n] 166,Aw a (updN C p x) n]):=by
 intro z R w H;refine Ac func95 Z ntmps95 Z (Z0 11 [0] Z (Ak 9 Z (λj=>U) (λj=>?_)));refine Z2 10 [0,0,0,0] H Z (Ag Z (λd=>U) (λd=>?_));refine Z0 8 [0] Z (Ak 20 Z (λg=>U) (λg=>?_));refine Z0 4 [0] Z (Ak 24 Z (λi=>U) (λi=>?_));refine Z3 6 [0,0,0,1,p,p] [] H Z U (Ad Z (AY Z Z J (AB (H.cel 1 Z p (cnL_at _ U)))) (Z1 5 [0] [(C p:Int)+y] Z U (Ak 36 Z (λh=>U) (λh=>?_))));refine Z3 6 [0,0,0,1,p,p] [] H Z U (Ad Z (AY Z Z J (AB (H.cel 1 Z p (cnL_at _ U)))) (Z1 6 [0] [(C p:Int)+y] Z U (Ag Z (λc=>U) (λc=>?_))));refine Zc 3 Z (Bh 15 J J (A4 H λw f=>?_));have H:=f.l2;refine CL 11 [0,0,0,0,0,0,1,p,p] [] H Z J U (Cj Z Z Z (AY Z Z J (AB (H.cel 1 Z p (cnL_at _ U)))) (CL 3 [1,p,p] [(C p:Int)+y] H Z J U (BY (gw (A9 Z Z (AD 1 H Z Z Z Z (vs:=[Aa ((C p:Int)+y)]) Z (Aq Z AN) J (by simp only[B3,AbI,AbO];omega) (out:=cnL (updN C p x) n) (Ej _ U k)) ?_)))));rintro w H;refine Zc 8 Z (Zr Z ?_);exact ⟨_,⟨Z,Z⟩,H⟩
theorem Yb{C:Nat->Nat}{n i k:Nat}(h:k<120):(Cc C n i)[k]?=some (if 120*i+k<n then (C (120*i+k):Int) else 0):=by simp[Cc,h]
theorem UU(b a bw n:Nat)(C:Nat->Nat)(p:Nat)(c:16<=n/\n<=1024):Aj 112 [V b,Aa (p:Int)] [blk b [.slice (some ⟨a,0,none⟩) n n,.slice (some ⟨bw,0,none⟩) n n] 166,Aw a C n] (λv G=>v=Aa (if p<n then (C p:Int) else 0)/\G=[blk b [.slice (some ⟨a,0,none⟩) n n,.slice (some ⟨bw,0,none⟩) n n] 166,Aw a C n]):=by
 by_cases h:p<n
 ·rw[if_pos h];exact FA b a bw n C p h c
 rw[if_neg h];exact Ny b a bw n C (p:Int) (.inr U) c
theorem IR(C:Nat->Nat){n i j:Nat}{ns:List Int}(h:j=120\/n<=120*i+j):cnL (D7 C i ns j) n=cnL (D7 C i ns 120) n:=by
 rcases h with rfl|h
 ·rfl
 unfold cnL;refine Adm λp hp=>?_;have hp:=AcL.1 hp;unfold D7;by_cases h1:p/120=i
 ·by_cases h2:p%120<j
  ·rw[if_pos ⟨h1,h2⟩,if_pos ⟨h1,by omega⟩]
  exfalso;omega
 rw[if_neg (λq=>h1 q.1),if_neg (λq=>h1 q.1)]
def Is(C W:Nat->Nat)(i:Nat):Nat->Nat:=λp=>if p<i then C p else W p
theorem Wi(C W:Nat->Nat):Is C W 0=W:=by funext p;simp[Is]
theorem Wj(C W:Nat->Nat)(i:Nat):updN (Is C W i) i (C i)=Is C W (i+1):=by
 funext p;unfold updN Is;by_cases e:p=i
 ·subst e;simp
 rw[if_neg e];by_cases h:p<i
 ·rw[if_pos h,if_pos U]
 rw[if_neg h,if_neg U]
theorem Wk(C W:Nat->Nat)(n:Nat):cnL (Is C W n) n=cnL C n:=by
 unfold cnL;refine Adm λp hp=>?_;unfold Is;rw[if_pos (AcL.1 hp)]
theorem UV(c a bw n:Nat)(C:Nat->Nat)(i:Nat)(l:i<manyN n)(q:16<=n/\n<=1024):Aj 160 [V c,Aa (i:Int)] [blk c [.slice (some ⟨a,0,none⟩) n n,.slice (some ⟨bw,0,none⟩) n n] 166,Aw a C n] (λv G=>∃e:Value,v=e/\G=[grow 3 1 e (Cc C n i).length ((Cc C n i).map Aa),blk c [.slice (some ⟨a,0,none⟩) n n,.slice (some ⟨bw,0,none⟩) n n] 166,Aw a C n]):=by
 intro z R w H;have m:120*i<n:=by unfold manyN at l;omega
 refine Ac func160 Z ntmps160 Z (Zc 12 Z ?_);replace H:=(H.nilg 3 1).l3;refine Z1 7 [] [((120*i:Nat):Int)] Z U ?_;refine Ay (σ:=Nat×Value) (λ⟨k,u⟩=>[(6,Aa ((120*i+k:Nat):Int)),(5,u),(0,V c),(1,Aa (i:Int)),(4,.slice none 0 0)])
   (λ⟨k,u⟩ w=>Sep z (grow 3 1 u k (((Cc C n i).take k).map Aa)::blk c [.slice (some ⟨a,0,none⟩) n n,.slice (some ⟨bw,0,none⟩) n n] 166::Aw a C n::R) w/\(k<=120)) (λ⟨k,u⟩=>120-k) ⟨0,.slice none 0 0⟩
   (λ_ f=>(f.co Z (by go_num) f.cz)) ⟨(by simpa using H),AbV _⟩ ?_
 clear H;rintro ⟨k,u⟩ w ⟨b,g⟩;dsimp only at g b ⊢;have H:=b.l3;have s:=H.sy 0 (·.slc);have r:=g;clear g;refine Z1 10 [0] [(i:Int)+1,((i:Int)+1)*120] Z U (Ag Z (λo=>?_) (λo=>?_))
 ·refine Zc 8 Z (Ai Z (call112 _) (UU _ _ _ _ _ (120*i+k) U) H.f2.f2 ?_);intro w H;refine AG Z (AL H Z J BP Z (by decide) (by decide) (out:=[Aa (if (120*i+k)<n then (C (120*i+k):Int) else 0)]) J) ?_;rintro _ w ⟨p,rfl,H⟩;refine AG Z (AO 3 H Z Z J BP Z Z (H.rv 0 (·.rd U U O Z)) (by simp[Value.oneCell']) U) ?_;rintro e w b;have b:Sep z (blk p [Aa (if (120*i+k)<n then (C (120*i+k):Int) else 0)] 3::blk c [.slice (some ⟨a,0,none⟩) n n,.slice (some ⟨bw,0,none⟩) n n] 166::Aw a C n::grow 3 1 e (k+1) (((Cc C n i).take k).map Aa++[Aa (if (120*i+k)<n then (C (120*i+k):Int) else 0)])::R) w:=b
  have h:(((Cc C n i).take k).map Aa++[Aa (if (120*i+k)<n then (C (120*i+k):Int) else 0)]:List Value)=((Cc C n i).take (k+1)).map Aa:=(by rw[AbZ,Yb U];simp);rw[h] at b;have H:=b.l4;have j:=H.sy 3 (·.slc);refine Z1 9 [] [((120*i+(k+1):Nat):Int)] Z U ?_;replace H:=H.d.f1.f1.f2;refine gf ?_;intro _ f;refine ⟨⟨k+1,e⟩,(f.all Z),⟨H,?_⟩,?_⟩
  ·show k+1<=120;omega
  (dsimp only;omega)
 refine Zc 2 Z (gx (Zc 3 Z ?_));obtain rfl:k=120:=by omega
 rw[show (Cc C n i).take 120=Cc C n i from AbJ (AcO (CU _ _ _)),show (120:Nat)=(Cc C n i).length from (CU _ _ _).symm] at H;refine Zc 6 Z (Zr Z ?_);exact ⟨_,⟨_,Z,Z⟩,H.pick 3 [0,1,2] Z⟩
theorem Nz(b a bw n:Nat)(C:Nat->Nat)(i:Nat)(f:i<manyN n)(o:16<=n/\n<=1024)(m:∀k,C k<=1000):Aj 96 [V b,Aa (i:Int)] [blk b [.slice (some ⟨a,0,none⟩) n n,.slice (some ⟨bw,0,none⟩) n n] 166,Aw a C n] (λv G=>∃c:Value,v=c/\G=[grow 5 1 c (DG (Cc C n i)).length ((DG (Cc C n i)).map u8),blk b [.slice (some ⟨a,0,none⟩) n n,.slice (some ⟨bw,0,none⟩) n n] 166,Aw a C n]):=by
 intro z R w H;have g:120*i<n:=by unfold manyN at f;omega
 refine Ac func96 Z ntmps96 Z (Z0 11 [0] Z (Ak 9 Z (λl=>U) (λl=>?_)));refine Z2 6 [0,0,0] H Z (Ai Z (call94 _) (CV _ U) H ?_);intro w H;refine Z0 4 [0] Z (Ag Z (λe=>U) (λe=>?_));refine Zc 6 Z (AA Z (call160 _) (UV _ _ _ _ _ i U U) H ?_);rintro d w _ ⟨_,rfl,rfl⟩ H;refine AA Z (call159 _) (Io (Cc C n i) _ _ (λh q=>q.rd) (CU _ _ _) (Kg m _ _)) H ?_;rintro _ w _ ⟨p,rfl,rfl⟩ H;have j:=H.sy 0 (·.slc);refine Zc 14 Z (Zr Z ?_);exact ⟨_,⟨_,Z,Z⟩,H.pick 4 [0,2,3] Z⟩
set_option maxHeartbeats 1000000 in
theorem UW (m f bw n:Nat) (C:Nat->Nat) (W:Nat->Nat) (i:Nat) (hi:i<manyN n) (hn:16<=n/\n<=1024) (v:Value) (bs:List UInt8) (A:Ah) (hA:∀h,A h->rdH 1 v bs.length (bs.map u8) h) (ns:List Int) (a1:ns.length=120) (c:∀x∈ns,0<=x/\x<=1000) (t:bs=DG ns) (hz:∀(k:Nat) (x:Int),ns[k]?=some x->n<=120*i+k->x=0):Aj 163 [V m,Aa (i:Int),v] [blk m [.slice (some ⟨f,0,none⟩) n n,.slice (some ⟨bw,0,none⟩) n n] 166,Aw f C n,Aw bw W n,A] (λv G=>v=Aa 0/\G=[blk m [.slice (some ⟨f,0,none⟩) n n,.slice (some ⟨bw,0,none⟩) n n] 166,Aw f (D7 C i ns 120) n,Aw bw (D7 W i ns 120) n,A]):=by
 intro z R w H;have a2:120*i<n:=by unfold manyN at hi;omega
 obtain ⟨ao,oc,rfl⟩:=H.sy 3 (λq=>(hA _ q).slc);have y:=H.sy 3 (λq=>(hA _ q).small);refine Ac func163 Z ntmps163 Z (Z0 11 [0] Z (Ak 13 Z (λh1=>U) (λh1=>?_)));refine Z2 6 [0,0,0] H Z (Ai Z (call94 _) (CV _ U) H ?_);intro w H;refine Z0 4 [0] Z (Ag Z (λh2=>U) (λh2=>?_));refine Zc 5 Z (AA Z (call195 _) (Nn _ bs A hA ns a1 c t) H.f3 ?_);rintro _ w _ ⟨v1,rfl,rfl⟩ H;have a0:=H.sy 0 (·.slc);obtain ⟨d,e,rfl⟩:=a0;refine Z0 19 [0] Z (Ag Z (λh3=>U) (λh3=>?_));refine Zc 9 Z ?_;refine Ay (σ:=Nat) (λj=>[(9,Aa (j:Int)),(0,V m),(1,Aa (i:Int)),(7,.slice d ns.length e)])
   (λj w=>Sep z (grow 3 1 (.slice d ns.length e) ns.length (ns.map Aa)::A::blk m [.slice (some ⟨f,0,none⟩) n n,.slice (some ⟨bw,0,none⟩) n n] 166::Aw f C n::Aw bw W n::R) w/\(j<=120)) (λj=>120-j) 0
   fr_z ⟨H,AbV _⟩ ?_
 clear H;rintro j w ⟨g,o⟩;have H:=g.l5;have hj:=o;clear o;refine Z0 7 [0] Z (Ag Z (λh4=>?_) (λh4=>?_))
 ·refine Zc 5 Z ?_;obtain ⟨x,b⟩:∃x,ns[j]?=some x:=⟨_,AbF U⟩;have l:=c x (AbG b)
  refine Zc 3 Z (Ad Z (Az Z (z:=1) (j:=j) (r:=j) J Z Z Z U ((H.rv 0 (·.rd)).at (j:=j) (u:=Aa x) (by simp[b])) U) (Ad Z (AM Z Z J (AB ((H.rv 0 (·.rd)).at (j:=j) (u:=Aa x) (by simp[b])))) (Z0 2 [0] Z (Ak 44 Z (λh5=>U) (λh5=>?_)))));refine Zc 2 Z (Ad Z (Az Z (z:=1) (j:=j) (r:=j) J Z Z Z U ((H.rv 0 (·.rd)).at (j:=j) (u:=Aa x) (by simp[b])) U) (Ad Z (AM Z Z J (AB ((H.rv 0 (·.rd)).at (j:=j) (u:=Aa x) (by simp[b])))) (Z0 3 [0] Z (Ak 51 Z (λh6=>U) (λh6=>?_)))));refine Zc 2 Z (Ad Z (Az Z (z:=1) (j:=j) (r:=j) J Z Z Z U ((H.rv 0 (·.rd)).at (j:=j) (u:=Aa x) (by simp[b])) U) (Ad Z (AM Z Z J (AB ((H.rv 0 (·.rd)).at (j:=j) (u:=Aa x) (by simp[b])))) (Z0 2 [0] Z (Ak 57 Z (λh7=>?_) (λh7=>?_)))))
  ·refine Z3 14 [0,2,0,0] [(i:Int)*120,((i:Int)*120)+(j:Int)] H Z U (Ag Z (λh8=>?_) (λh8=>?_))
   ·(exfalso;have:=hz j x b;omega)
   refine Z1 8 [] [(j:Int)+1] Z U (gf ?_);intro _ p;refine ⟨(j+1),p.cz,⟨H,?_⟩,?_⟩
   ·omega
   omega
  refine Z1 23 [] [(j:Int)+1] Z U (gf ?_);intro _ p;refine ⟨(j+1),p.cz,⟨H,?_⟩,?_⟩
  ·omega
  omega
 have a:j=120\/n<=120*i+j:=.inl U;refine Zc 2 Z (gx (Zc 9 Z ?_));refine Ay (σ:=Nat) (λj=>[(10,Aa (j:Int)),(0,V m),(1,Aa (i:Int)),(7,.slice d ns.length e)])
   (λj w=>Sep z (grow 3 1 (.slice d ns.length e) ns.length (ns.map Aa)::A::blk m [.slice (some ⟨f,0,none⟩) n n,.slice (some ⟨bw,0,none⟩) n n] 166::Aw f (D7 C i ns j) n::Aw bw (D7 W i ns j) n::R) w/\(j<=120)) (λj=>120-j) 0
   fr_z ⟨(by rw[Jt,Jt];exact H),AbV _⟩ ?_
 clear H;rintro j w ⟨g,o⟩;have H:=g.l5;have hj:=o;clear o;refine Z0 6 [0] Z (Ak 72 Z (λh9=>?_) (λh9=>?_))
 ·refine Z3 13 [0,2,0,0] [(i:Int)*120,((i:Int)*120)+(j:Int)] H Z U (Ag Z (λs=>?_) (λs=>?_))
  ·refine Zc 5 Z ?_;obtain ⟨x,b⟩:∃x,ns[j]?=some x:=⟨_,AbF U⟩;have l:=c x (AbG b)
   refine Bh 13 J J (A4 H λw g=>?_);have H:=g.l5;refine CL 10 [0,2,0] [(i:Int)*120,((i:Int)*120)+(j:Int)] H Z J U (Cj Z Z Z (Az Z (z:=1) (j:=j) (r:=j) J Z Z Z U ((H.rv 0 (·.rd)).at (j:=j) (u:=Aa x) (by simp[b])) U) (Cj Z Z Z (AM Z Z J (AB ((H.rv 0 (·.rd)).at (j:=j) (u:=Aa x) (by simp[b])))) (CL 1 [1,(120*i+j),120*i+j] [] H Z J U (BY (gw (A9 Z Z (AD 3 H Z Z Z Z (vs:=[Aa x]) Z (Aq Z AN) J (by simp only[B3,AbI,AbO];omega) (out:=cnL (D7 C i ns (j+1)) n) ((Ej (x:=x.toNat) _ U U).trans (by rw[Ju C U b l.1]))) ?_))))));rintro w H;refine Zc 2 Z (Bh 13 J J (A4 H λw g=>?_));have H:=g.l5;refine CL 10 [1,2,0] [(i:Int)*120,((i:Int)*120)+(j:Int)] H Z J U (Cj Z Z Z (Az Z (z:=1) (j:=j) (r:=j) J Z Z Z U ((H.rv 0 (·.rd)).at (j:=j) (u:=Aa x) (by simp[b])) U) (Cj Z Z Z (AM Z Z J (AB ((H.rv 0 (·.rd)).at (j:=j) (u:=Aa x) (by simp[b])))) (CL 1 [1,(120*i+j),120*i+j] [] H Z J U (BY (gw (A9 Z Z (AD 4 H Z Z Z Z (vs:=[Aa x]) Z (Aq Z AN) J (by simp only[B3,AbI,AbO];omega) (out:=cnL (D7 W i ns (j+1)) n) ((Ej (x:=x.toNat) _ U U).trans (by rw[Ju W U b l.1]))) ?_))))));rintro w H;refine Z1 8 [] [(j:Int)+1] Z U (gf ?_);intro _ p;refine ⟨(j+1),p.cz,⟨H,?_⟩,?_⟩
   ·omega
   omega
  have a:j=120\/n<=120*i+j:=.inr U;refine Zc 2 Z (gx (Zc 8 Z (Zr Z ?_)));dsimp only[Aw] at H;rw[IR C a,IR W a] at H;exact ⟨_,⟨Z,Z⟩,H.pick 5 [2,3,4,1] Z⟩
 have a:j=120\/n<=120*i+j:=.inl U;refine Zc 16 Z (gx (Zc 8 Z (Zr Z ?_)));dsimp only[Aw] at H;rw[IR C a,IR W a] at H;exact ⟨_,⟨Z,Z⟩,H.pick 5 [2,3,4,1] Z⟩
theorem P4(b a bw n:Nat)(C:Nat->Nat)(W:Nat->Nat)(g:16<=n/\n<=1024):Aj 123 [V b] [blk b [.slice (some ⟨a,0,none⟩) n n,.slice (some ⟨bw,0,none⟩) n n] 166,Aw a C n,Aw bw W n] (λv G=>v=.tuple #[]/\G=[blk b [.slice (some ⟨a,0,none⟩) n n,.slice (some ⟨bw,0,none⟩) n n] 166,Aw a C n,Aw bw C n]):=by
 intro z R w H;refine Ac func123 Z ntmps123 Z (Zc 6 Z ?_);refine Ay (σ:=Nat) (λi=>[(2,Aa (i:Int)),(0,V b)])
   (λi w=>Sep z (blk b [.slice (some ⟨a,0,none⟩) n n,.slice (some ⟨bw,0,none⟩) n n] 166::Aw a C n::Aw bw (Is C W i) n::R) w/\(i<=n)) (λi=>n-i) 0
   fr_z ⟨(by rw[Wi];exact H),AbV _⟩ ?_
 clear H;rintro i w ⟨c,d⟩;have H:=c.l3;have h:=d;clear d;refine Z2 12 [0,0,0,0] H Z (Ag Z (λe=>?_) (λe=>?_))
 ·refine Zc 4 Z (Bh 13 J J (A4 H λw c=>?_))
  have H:=c.l3;refine CL 11 [1,0,0,0,0,0,1,i,i] [] H Z J U (Cj Z Z Z (AY Z Z J (AB (H.cel 1 Z i (cnL_at _ U)))) (CL 1 [1,i,i] [] H Z J U (BY (gw (A9 Z Z (AD 2 H Z Z Z Z (vs:=[Aa (C i:Int)]) Z (Aq Z AN) J (by simp only[B3,AbI,AbO];omega) (out:=cnL (Is C W (i+1)) n) ((Ej (x:=C i) _ U Z).trans (by rw[Wj]))) ?_)))));rintro w H;refine Z1 8 [] [(i:Int)+1] Z U (gf ?_);intro _ f;refine ⟨(i+1),f.cz,⟨H,?_⟩,?_⟩
  ·omega
  omega
 obtain rfl:n=i:=by omega
 refine Zc 2 Z (gx (Zc 1 Z (Zf Z ?_)));dsimp only[Aw] at H;rw[Wk] at H;exact ⟨_,⟨Z,Z⟩,H.pick 3 [0,1,2] Z⟩
set_option maxHeartbeats 1000000 in
theorem UX (ps d:Nat) (x:Sup) (p f ov:Value) (s:Bool) (own a:List ImE) (hq:Hp) (o:imP ov own hq) (g:imP f a hq) (n r:Nat) (F:Nat->List UInt8) (m:Img) (k:m.Ok) (a1:m.num<x.pages) (a2:x.pages+2<=n) (j:∀e∈own,e.1.num≠m.num) (l:∀e∈a,e.1.num≠m.num) (hF:F (2+m.num).toNat=Em m):Aj 32 [V ps,Aa m.num] [blk ps [V d,Aa x.gen,Aa x.epoch,Aa x.pages,Aa x.start,Aa x.len,Aa x.head,Aa x.seq,p,f,.bool s,ov] 128,rdkA d n F r,poolA hq] (λv G=>∃t:Value,v=.tuple #[.agg #[Aa m.kind,t],Aa 0]/\G=[grow 5 1 t 240 (m.body.map u8),blk ps [V d,Aa x.gen,Aa x.epoch,Aa x.pages,Aa x.start,Aa x.len,Aa x.head,Aa x.seq,p,f,.bool s,ov] 128,rdkA d n F r,poolA hq]):=by
 intro z R w H;replace H:=H.l3;obtain ⟨oo,a3,rfl⟩:=o.slc;obtain ⟨po,a0,rfl⟩:=g.slc;have u:=k.1;refine Ac func32 Z ntmps32 Z (Za 2 [] H Z ?_);intro b1 w H;refine Z0 9 [0] Z (Ak 13 Z (λh1=>?_) (λh1=>?_))
 ·(exfalso;omega)
 refine Z2 10 [1,3,1,0,0] H Z (Ag Z (λy=>?_) (λy=>?_))
 ·(exfalso;omega)
 refine Z2 9 [11,1,0] H Z (Ai Z (call83 _) (EO _ own (poolA hq) (λh q=>o.rdA q) (λe i=>(o.2 e i).1) m.num j) H.f3 ?_);intro w H;refine Za 3 [] H Z ?_;intro b2 w H;refine Z4 20 [0,9,3,0] H Z ?_;intro w H;refine Ai Z (call83 _) (EO _ a (poolA hq) (λh q=>g.rdA q) (λe i=>(g.2 e i).1) m.num l) H.f1 ?_;intro w H;refine Z5 24 [1,0,3,0] [2+m.num] H Z U ?_;intro w H;refine k_updA 51 (v:=Aa (((2+m.num).toNat:Nat):Int)) Z (congrArg Aa U) (AA Z (call84 _) (Hb _ _ _ _ ((2+m.num).toNat) U) H.f4 ?_);rintro _ w _ ⟨u9,rfl,rfl⟩ H;replace H:=H.l6;rw[hF] at H;refine Z0 21 [4] Z (AA Z (call85 _) (P1 _ (Em m) _ (λh q=>by rw[KX k];exact q.rd) m k Z) H ?_);rintro _ w _ ⟨c,rfl,rfl⟩ H;replace H:=H.l7;have b:=H.says 0 Z (λh q=>q.slc);refine Zc 3 Z (A9 Z Z (AD 4 H Z Z Z Z (vs:=[Aa m.kind,c]) Z (Aq Z (Aq b.one AN)) J O (out:=[Aa m.kind,c]) Z) ?_);rintro w H;replace H:=H.l7;refine Z2 16 [4,2] H Z (A9 Z Z (AD 5 H Z Z Z Z (vs:=[Aa m.kind,c]) Z (Aq Z (Aq b.one AN)) J O (out:=[Aa m.kind,c]) Z) ?_);rintro w H;replace H:=H.l7;refine Zc 4 Z (Zl [5,2] H Z ?_);exact ⟨_,⟨_,Z,Z⟩,H.pick 7 [0,6,2,3] Z⟩
def FV(C:Nat->Nat)(n:Nat):List Value:=(List.range n).map λp=>.bool (decide (0<(C p:Int)))
theorem Aa0(C:Nat->Nat)(i:Nat):FV C (i+1)=FV C i++[.bool (decide (0<(C i:Int)))]:=by simp[FV,Ac5]
theorem HG(pq ps l b c bw n:Nat)(x:Sup)(j g ov:Value)(k:Bool)(C W:Nat->Nat)(r:Value)(hn:16<=n/\n<=1024)(p:x.pages=n):Aj 69 [V pq] [blk pq [V ps,V b,r] 76,blk b [.slice (some ⟨c,0,none⟩) n n,.slice (some ⟨bw,0,none⟩) n n] 166,Aw c C n,Aw bw W n,blk ps [V l,Aa x.gen,Aa x.epoch,Aa x.pages,Aa x.start,Aa x.len,Aa x.head,Aa x.seq,j,g,.bool k,ov] 128] (λv G=>∃f:Value,v=.tuple #[]/\G=[blk pq [V ps,V b,f] 76,grow 4 1 f n (FV C n),blk b [.slice (some ⟨c,0,none⟩) n n,.slice (some ⟨bw,0,none⟩) n n] 166,Aw c C n,Aw bw C n,blk ps [V l,Aa x.gen,Aa x.epoch,Aa x.pages,Aa x.start,Aa x.len,Aa x.head,Aa x.seq,j,g,.bool k,ov] 128]):=by
 intro z R w H;refine Ac func69 Z ntmps69 Z (Z2 6 [1,0,0] H Z (Ai Z (call123 _) (P4 _ _ _ _ _ _ U) H.f3.f3.f3 ?_));intro w H;refine Z4 11 [2,3] H Z ?_;intro w H;replace H:=(H.nilg 4 1).l6;refine Zc 5 Z ?_;refine Ay (σ:=Nat×Value) (λ⟨i,u⟩=>[(2,Aa (i:Int)),(0,V pq)])
   (λ⟨i,u⟩ w=>Sep z (grow 4 1 u i (FV C i)::blk b [.slice (some ⟨c,0,none⟩) n n,.slice (some ⟨bw,0,none⟩) n n] 166::Aw c C n::Aw bw C n::blk pq [V ps,V b,u] 76::blk ps [V l,Aa x.gen,Aa x.epoch,Aa x.pages,Aa x.start,Aa x.len,Aa x.head,Aa x.seq,j,g,.bool k,ov] 128::R) w/\(i<=n)) (λ⟨i,u⟩=>n-i) ⟨0,.slice none 0 0⟩
   fr_z ⟨(by simpa [FV] using H),AbV _⟩ ?_
 clear H;rintro ⟨i,u⟩ w ⟨a,m⟩;dsimp only at m a ⊢;have H:=a.l6;have su:=H.sy 0 (·.slc);have hi:=m;clear m;refine Z2 12 [0,4,0,1,3,5,0] H Z (k_updA 19 (v:=Aa (n:Int)) Z (congrArg Aa p) (Z0 3 [0] Z (Ag Z (λs=>?_) (λs=>?_))))
 ·refine Zc 4 Z ?_;replace H:=H.f4;refine AK (Sep z (blk pq [V ps,V b,u] 76::R)) 17 Z J (A4 H λw a=>?_)
  have H:=a.l6;refine A6 [0,1,2,3,4,5,6,7,8,9] [2,0,1,0] J (λ_ t=>(AQ (t.blk 0 Z) AJ)) (by exact H.pick 6 [0] Z) Z J Z Z (An [10] J O (Ar (Ba Z Z Z Z Z Z (λw=>call112 _ w) (FA _ _ _ _ _ i U U) H.f3.f3 Z ?_)));rintro _ w _ ⟨rfl,rfl⟩ H;refine Am (λ_=>(H.pick 6 [2] Z)) (A6 [11] [] J (λ_ _=>AJ) (by exact H.pick 6 [2] Z) Z J Z Z (An [12] J O (Ar (Ck Z Z Z Z (AL H Z J Ov Z (by decide) (by decide) (out:=[.bool (decide ((0:Int)<(C i:Int)))]) J) ?_))));rintro _ w ⟨y,rfl,H⟩;refine Am (λ_=>(H.pick 7 [3] Z)) (An [13] J O (Ar (Ck Z Z Z Z (AO 4 H Z Z J Ov Z Z (H.rv 0 (·.rd U U O Z)) (by simp[Value.oneCell']) U) ?_)));rintro f w a;have a:Sep z (blk y [.bool (decide ((0:Int)<(C i:Int)))] 4::blk b [.slice (some ⟨c,0,none⟩) n n,.slice (some ⟨bw,0,none⟩) n n] 166::Aw c C n::blk pq [V ps,V b,u] 76::grow 4 1 f (i+1) (FV C i++[.bool (decide ((0:Int)<(C i:Int)))])::Aw bw C n::blk ps [V l,Aa x.gen,Aa x.epoch,Aa x.pages,Aa x.start,Aa x.len,Aa x.head,Aa x.seq,j,g,.bool k,ov] 128::R) w:=a;have o:(FV C i++[.bool (decide ((0:Int)<(C i:Int)))]:List Value)=FV C (i+1):=(Aa0 C i).symm;rw[o] at a;have H:=a.l7;have e:=H.sy 4 (·.slc);refine Am (λ_=>(H.pick 7 [3] Z)) (A6 [14,15] [2] J (λ_ _=>AJ) (by exact H.pick 7 [3] Z) Z J Z Z (An [16] J O (Ar (B6 Z Z Z (Kp 3 H Z Z Z Z e.cells e.one J) ?_))));rintro w H;refine Am (λh=>absurd Z h) (AT J (gn (Z1 7 [] [(i:Int)+1] Z U ?_)));replace H:=H.d.f5.f3.f5.f4.f4.f5;refine gf ?_;intro _ q;refine ⟨⟨i+1,f⟩,q.cz,⟨H,?_⟩,?_⟩
  ·show i+1<=n;omega
  (dsimp only;omega)
 obtain rfl:n=i:=by omega
 refine Zc 2 Z (gx (Zc 1 Z (Zf Z ?_)));exact ⟨_,⟨_,Z,Z⟩,H.pick 6 [4,0,1,2,3,5] Z⟩
theorem LJ(ps b:Nat)(x:Sup)(g c ov:Value)(d:Bool)(own a:List ImE)(hq:Hp)(s:imP ov own hq)(o:imP c a hq)(n i:Nat)(F:Nat->List UInt8)(m:Img)(q:m.Ok)(f:m.num<x.pages)(h:x.pages+2<=n)(k:∀e∈own,e.1.num≠m.num)(j:∀e∈a,e.1.num≠m.num)(r:F (2+m.num).toNat=Em m)(p:Int)(hp:m.num=p):Aj 32 [V ps,Aa p] [blk ps [V b,Aa x.gen,Aa x.epoch,Aa x.pages,Aa x.start,Aa x.len,Aa x.head,Aa x.seq,g,c,.bool d,ov] 128,rdkA b n F i,poolA hq] (λv G=>∃l:Value,v=.tuple #[.agg #[Aa m.kind,l],Aa 0]/\G=[grow 5 1 l 240 (m.body.map u8),blk ps [V b,Aa x.gen,Aa x.epoch,Aa x.pages,Aa x.start,Aa x.len,Aa x.head,Aa x.seq,g,c,.bool d,ov] 128,rdkA b n F i,poolA hq]):=by
 subst hp;exact UX ps b x g c ov d own a hq s o n i F m q f h k j r
set_option maxHeartbeats 2000000 in
theorem NA (ps a dn u n:Nat) (x:Sup) (t:Value) (F:Nat->List UInt8) (C:Nat->Nat) (hn:16<=n/\n<=1024) (g:x.pages=n) (a2:n+2<=dn) (cb:List UInt8) (a1:cb.length=240) (f:∀i,i<=manyN n->F (2+i)=Em (Sh C n cb i)) (hC:∀k,C k<=1000) (o:∀p,p<=manyN n->C p=1):Aj 98 [V ps] [blk ps [V a,Aa x.gen,Aa x.epoch,Aa x.pages,Aa x.start,Aa x.len,Aa x.head,Aa x.seq,t,.slice none 0 0,.bool false,.slice none 0 0] 128,rdkA a dn F u] (λv G=>∃(pq b c bw:Nat) (tv:Value),v=.tuple #[V pq,Aa 0]/\G=[blk pq [V ps,V b,tv] 76,grow 4 1 tv n (FV C n),blk b [.slice (some ⟨c,0,none⟩) n n,.slice (some ⟨bw,0,none⟩) n n] 166,Aw c C n,Aw bw C n,blk ps [V a,Aa x.gen,Aa x.epoch,Aa x.pages,Aa x.start,Aa x.len,Aa x.head,Aa x.seq,t,.slice none 0 0,.bool false,.slice none 0 0] 128,rdkA a dn F u]):=by
 intro z R w H;have a3:=HC hn.1;have a4:=DO hn.2;replace H:=(E9 H).l3;have r:=imP.nil (λ_=>none);refine Ac func98 Z ntmps98 Z (Z2 14 [1,3,1,0] H Z (k_updA 16 (v:=Aa (n:Int)) Z (congrArg Aa g) (AA Z (call93 _) (O8 n U) H ?_)));rintro _ w _ ⟨b,c,bw,rfl,rfl⟩ H;refine Za 1 [] H Z ?_;intro s w H;refine Z2 10 [1,3,5,0] H Z (k_updA 24 (v:=Aa (n:Int)) Z (congrArg Aa g) (Ai Z (call94 _) (CV _ U) H ?_));intro w H;refine Zc 15 Z ?_;refine Ay (σ:=Nat) (λi=>[(7,Aa (i:Int)),(6,.bool false),(0,V ps),(4,V s),(5,Aa (manyN n:Int))])
   (λi w=>Sep z (blk s [V ps,V b,.slice none 0 0] 76::blk b [.slice (some ⟨c,0,none⟩) n n,.slice (some ⟨bw,0,none⟩) n n] 166::Aw c (LC C i) n::Aw bw (LC C i) n::poolA (λ_=>none)::blk ps [V a,Aa x.gen,Aa x.epoch,Aa x.pages,Aa x.start,Aa x.len,Aa x.head,Aa x.seq,t,.slice none 0 0,.bool false,.slice none 0 0] 128::rdkA a dn F u::R) w/\(i<=manyN n+1)) (λi=>manyN n+1-i) 0
   fr_z ⟨(by rw[OX];exact H),AbV _⟩ ?_
 clear H;rintro i w ⟨m,l⟩;have H:=m.l7;have y:=l;clear l;refine Z0 8 [0] Z (Ag Z (λh1=>?_) (λh1=>?_))
 ·refine Zc 8 Z (AA Z (call32 _) (LJ _ _ _ _ _ _ _ [] [] _ r r _ _ F (Sh C n cb i) (Hd a1 U) (by rw[CB];omega) U (λe he=>nomatch he) (λe he=>nomatch he) (by rw[CB,show (2+((i:Nat):Int)).toNat=2+i by omega];exact f _ U) _ (CB _ _ _ _)) H.f4.f6.f6 ?_);rintro _ w _ ⟨bv,rfl,rfl⟩ H;have a0:=H.sy 0 (·.slc)
  obtain ⟨bo,bc,rfl⟩:=a0;refine Za 3 [] H Z ?_;intro b2 w H;refine Z4 21 [0,4,0] H Z ?_;intro w H;refine Ag Z (λh2=>?_) (λh2=>?_)
  ·obtain rfl:i=0:=by omega
   refine Z2 6 [0,0,0] H Z (k_updA 45 (v:=Aa 1) Z Z (Z1 14 [4] [(0:Int)+1] Z U ?_));replace H:=H.f1.d.d.f1.f1.f2.f6.f6.f6.f6;refine gf ?_;intro _ f;refine ⟨(0+1),f.cz,⟨(by rw[R1];exact H),?_⟩,?_⟩
   ·omega
   omega
  obtain ⟨j,rfl⟩:∃j,i=j+1:=⟨i-1,by omega⟩;refine Z2 7 [0,0,0] H Z (k_updA 49 (v:=Aa 2) Z Z (Z0 7 [4] Z (Bh 8 J J (A4 H λw m=>?_))));have H:=m.l9;refine CL 8 [1,5,0,1,0,0] [(j:Int)] H Z J U (BY (gw (Ai Z (call163 _) (UW _ _ _ _ _ _ j U U _ (DG (Cc C n j)) _ (λh q=>by rw[Fx (CU C n j)];exact q.rd) (Cc C n j) (CU _ _ _) (Kg hC _ _) Z R4) H.f1.f8.f8.f8 ?_)));intro w H;dsimp only[Aw] at H;rw[UT] at H;refine Z1 18 [4] [((j+1):Int)+1] Z U ?_;replace H:=H.f4.d.f3.d.f4.f4.f5.f5.f5.f5.f6;refine gf ?_;intro _ f;refine ⟨(j+1+1),f.cz,⟨H,?_⟩,?_⟩
  ·omega
  omega
 obtain rfl:i=manyN n+1:=by omega
 refine Zc 2 Z (gx (Zc 4 Z ?_));dsimp only[Aw] at H;rw[R3] at H;refine Zc 5 Z ?_;refine Ay (σ:=Nat) (λi=>[(10,Aa (i:Int)),(6,.bool false),(4,V s),(5,Aa (manyN n:Int))])
   (λi w=>Sep z (blk s [V ps,V b,.slice none 0 0] 76::blk b [.slice (some ⟨c,0,none⟩) n n,.slice (some ⟨bw,0,none⟩) n n] 166::Aw c C n::Aw bw C n::poolA (λ_=>none)::blk ps [V a,Aa x.gen,Aa x.epoch,Aa x.pages,Aa x.start,Aa x.len,Aa x.head,Aa x.seq,t,.slice none 0 0,.bool false,.slice none 0 0] 128::rdkA a dn F u::R) w/\(i<=manyN n+1)) (λi=>manyN n+1-i) 0
   fr_z ⟨H,AbV _⟩ ?_
 clear H;rintro i w ⟨m,l⟩;have H:=m.l7;have y:=l;clear l;refine Z0 8 [0] Z (Ag Z (λh3=>?_) (λh3=>?_))
 ·refine Z2 12 [1,0,0] H Z (Ai Z (call112 _) (FA _ _ _ _ _ i U U) H.f2.f2 ?_);intro w H;refine k_updA 77 (v:=Aa 1) Z (congrArg Aa (by rw[o i U];rfl)) (Z1 11 [4] [(i:Int)+1] Z U ?_);replace H:=H.f6.f6.f6.f6.f5.f5.f6;refine gf ?_;intro _ f;refine ⟨(i+1),f.cz,⟨H,?_⟩,?_⟩
  ·omega
  omega
 obtain rfl:i=manyN n+1:=by omega
 refine Zc 2 Z (gx (Zc 14 Z (AA Z (call69 _) (HG _ _ _ _ _ _ n _ _ _ _ _ _ _ _ U g) H.f5.f4.f4.f4.f4 ?_)));rintro _ w _ ⟨tv,rfl,rfl⟩ H;refine Zc 10 Z (Zr Z ?_);exact ⟨_,⟨s,b,c,bw,_,Z,Z⟩,H.pick 8 [0,1,2,3,4,5,7] Z⟩
set_option maxHeartbeats 4000000 in
theorem Kj (a dn m n:Nat) (c1:m<=800000000) (g:dn<=4096) (s l:Int) (hn:16<=n/\n<=1024) (b:(Bw (n:Int) s l 2).Ok (dn:Int)):Aj 36 [V a,Aa (n:Int),Aa s,Aa l] [rdkA a dn (λ_=>(List.replicate 256 (0:UInt8))) m] (λv G=>∃(cb:List UInt8) (m2:Nat),cb.length=240/\m2<=m+2000/\v=Aa 0/\G=[rdkA a dn (DV n s l cb) m2]):=by
 intro z R w H;have c3:=T6 b;have b8:64<=l:=b.2.2.2.2.1;have b9:=HC hn.1;have c5:=DO hn.2;have b3:(0<=(Bi n s l).start/\(Bi n s l).start<=1099511627776)/\0<(Bi n s l).len/\(Bi n s l).len<=1099511627776:=by show (0<=s/\s<=1099511627776)/\0<l/\l<=1099511627776;omega
 have a6:0<=(Bi n s l).epoch/\(Bi n s l).epoch<4294967296:=by show (0:Int)<=1+1/\(1:Int)+1<4294967296;omega
 refine Ac func36 Z ntmps36 Z (Zc 11 Z (Ai Z (call88 _) (Sf _ dn _ n U g _ _ b) H ?_));intro w H;refine Z0 16 [4] Z (AA Z (call89 _) (JA _ dn _ U g (Ki n s l) (Bw (n:Int) s l 2) (Bw (n:Int) s l 1) (Bw (n:Int) s l 2) (We n s l) (AaY n s l) b (MU b) Z Z (.inr ⟨by show (1:Int)<=2;omega,Z⟩) U Z (by show (2:Int)<1099511627776;omega) (by show (1:Int)<4294967296;omega) [] O (λr h=>nomatch h) (by show (1:Int)+((0:Nat):Int)<1099511627776;omega) (λi r h=>by simp at h) (US U U)) H ?_);rintro _ w _ ⟨ps,o,b6,a3,b7,rfl,rfl⟩ H;obtain rfl:b6=[]:=List.map_eq_nil_iff.1 a3;rw[Aag] at H;have j:Sep z (blk ps [V a,Aa ((Bi n s l).gen),Aa ((Bi n s l).epoch),Aa ((Bi n s l).pages),Aa ((Bi n s l).start),Aa ((Bi n s l).len),Aa ((Bi n s l).head),Aa ((Bi n s l).seq),V o,.slice none 0 0,.bool false,.slice none 0 0] 128::blk o [V a,Aa ((Bi n s l).gen),Aa ((Bi n s l).epoch),Aa ((Bi n s l).pages),Aa ((Bi n s l).start),Aa ((Bi n s l).len),Aa ((Bi n s l).head),Aa ((Bi n s l).seq),Aa 0,Aa 1,Aa 0,.bool false] 249::rdkA a dn (Ir n s l) (m+n+2+([]:List ImE).length+1)::R) w:=H;clear H;have H:=j.l3;replace H:=(E9 H).l4;have b5:=imP.nil (λ_=>none);refine Z0 20 [4] Z (Ai Z (call90 _) (LG _ _ (Bi n s l) _ _ _) H.f1 ?_);intro w H;refine Zc 4 Z (AG Z (OW (k:=8) (out:=GG) H Z J Fd Z Z U J) ?_);rintro _ w ⟨b1,rfl,H⟩;refine Zc 1 Z (AA Z (call91 _) (R7 _ _ (λh q=>q.rd U U (by simp[GG]) (by simp[GG]))) H ?_);rintro _ w _ ⟨u1,cb,c,rfl,rfl⟩ H;rw[c] at H;have a8:=H.sy 0 (·.slc);obtain ⟨c0,d3,rfl⟩:=a8;refine Zc 12 Z (AA Z (call92 _) (Iq _ _ (Bi n s l) _ _ _ [] _ b5 O (Fg n cb 0) (Hd c U) (by rw[CB];show ((0:Nat):Int)<(n:Int);omega) (λe he=>nomatch he) _ _ (λh q=>q.rd)) H.f3.f3 ?_);rintro _ w _ ⟨t,a2,a4,c4,a1,rfl,rfl⟩ H;refine Zc 5 Z ?_;have y:=Si (n:=n) (cb:=cb) (k:=0) (own:=[]) Z a2;generalize putI [] (Fg n cb 0,a2)=own0 at a1 y;refine Z0 9 [4] Z ?_;replace H:=(H.pick 6 [0,1,3,4,5] Z).l5;refine Zc 2 Z (AA Z (call93 _) (O8 n U) H ?_);rintro _ w _ ⟨pc,bn,bw,rfl,rfl⟩ H;refine Zc 10 Z ?_;refine Ay (σ:=Nat) (λi=>[(14,Aa (i:Int)),(1,Aa (n:Int)),(8,Aa 0),(9,Aa 0),(10,V ps),(13,V pc)])
   (λi w=>Sep z (blk pc [.slice (some ⟨bn,0,none⟩) n n,.slice (some ⟨bw,0,none⟩) n n] 166::Aw bn (C1 i) n::Aw bw (λ_=>0) n::blk ps [V a,Aa ((Bi n s l).gen),Aa ((Bi n s l).epoch),Aa ((Bi n s l).pages),Aa ((Bi n s l).start),Aa ((Bi n s l).len),Aa ((Bi n s l).head),Aa ((Bi n s l).seq),V o,.slice none 0 0,.bool true,t] 128::poolA a4::blk b1 GG 207::blk o [V a,Aa ((Bi n s l).gen),Aa ((Bi n s l).epoch),Aa ((Bi n s l).pages),Aa ((Bi n s l).start),Aa ((Bi n s l).len),Aa ((Bi n s l).head),Aa ((Bi n s l).seq),Aa 0,Aa 1,Aa 0,.bool false] 249::rdkA a dn (Ir n s l) (m+n+2+([]:List ImE).length+1)::R) w/\(i<=manyN n+1)) (λi=>manyN n+1-i) 0
   fr_z ⟨(by rw[KS];exact H),AbV _⟩ ?_
 clear H;rintro i w ⟨j,p⟩;have H:=j.l8;have a7:=p;clear p;have x:C1 i i=0:=by simp[C1]
 refine Zc 5 Z (Ai Z (call94 _) (CV _ U) H ?_);intro w H;refine Z0 3 [0] Z (Ag Z (λh1=>?_) (λh1=>?_))
 ·refine Zc 7 Z (Ai Z (call95 _) (IQ _ _ _ _ (C1 i) i 1 1 U U (by rw[x];rfl) U (by rw[x];omega)) H ?_);intro w H;refine Z1 8 [] [(i:Int)+1] Z U (gf ?_);intro _ hF;refine ⟨(i+1),hF.cz,⟨(by rw[<-KR];exact H),?_⟩,?_⟩
  ·omega
  omega
 obtain rfl:i=manyN n+1:=by omega
 refine Zc 2 Z (gx (Zc 9 Z ?_));refine Ay (σ:=Nat×Value×List ImE×Hp) (λ⟨i,ov,own,hq⟩=>[(15,Aa (i:Int)),(1,Aa (n:Int)),(9,Aa 0),(10,V ps),(13,V pc)])
   (λ⟨i,ov,own,hq⟩ w=>Sep z (blk pc [.slice (some ⟨bn,0,none⟩) n n,.slice (some ⟨bw,0,none⟩) n n] 166::Aw bn (C1 (manyN n+1)) n::Aw bw (λ_=>0) n::blk ps [V a,Aa ((Bi n s l).gen),Aa ((Bi n s l).epoch),Aa ((Bi n s l).pages),Aa ((Bi n s l).start),Aa ((Bi n s l).len),Aa ((Bi n s l).head),Aa ((Bi n s l).seq),V o,.slice none 0 0,.bool true,ov] 128::poolA hq::blk b1 GG 207::blk o [V a,Aa ((Bi n s l).gen),Aa ((Bi n s l).epoch),Aa ((Bi n s l).pages),Aa ((Bi n s l).start),Aa ((Bi n s l).len),Aa ((Bi n s l).head),Aa ((Bi n s l).seq),Aa 0,Aa 1,Aa 0,.bool false] 249::rdkA a dn (Ir n s l) (m+n+2+([]:List ImE).length+1)::R) w/\(i<=manyN n/\imP ov own hq/\own.map Prod.fst=Ct n cb (i+1))) (λ⟨i,ov,own,hq⟩=>manyN n-i) ⟨0,t,own0,a4⟩
   fr_z ⟨H,⟨AbV _,a1,y⟩⟩ ?_
 clear H;rintro ⟨i,ov,own,hq⟩ w ⟨j,p⟩;dsimp only at p j ⊢;have H:=j.l8;obtain ⟨a7,u,f⟩:=p;have c9:=LI f;refine Zc 5 Z (Ai Z (call94 _) (CV _ U) H ?_);intro w H;refine Z0 3 [0] Z (Ag Z (λh2=>?_) (λh2=>?_))
 ·refine Z1 11 [] [((i+1:Nat):Int)] Z U (AA Z (call96 _) (Nz _ _ _ _ _ i U U (F1 _)) H ?_);rintro u2 w _ ⟨_,rfl,rfl⟩ H;rw[show (DG (Cc (C1 (manyN n+1)) n i)).length=240 from Fx (CU _ _ _)] at H;have a9:=H.sy 0 (·.slc)
  obtain ⟨d0,d1,rfl⟩:=a9;refine Zc 1 Z (AA Z (call92 _) (Iq _ _ (Bi n s l) _ _ _ own _ u U (Fg n cb (i+1)) (Hd c U) (by rw[CB];show ((i+1:Nat):Int)<(n:Int);omega) (AaZ f) _ _ (λh q=>q.rd)) H.f5.f5 ?_);rintro _ w _ ⟨b0,a0,b2,c6,a5,rfl,rfl⟩ H;refine Zc 4 Z ?_;have b4:=Si f a0;refine Z1 14 [4] [(i:Int)+1] Z U ?_;replace H:=H.f2.d.f7.f7.f7.f4.f4.f7.f7.f7;refine gf ?_;intro _ hF;refine ⟨⟨i+1,b0,putI own (Fg n cb (i+1),a0),b2⟩,hF.cz,⟨H,?_⟩,?_⟩
  ·exact ⟨by show i+1<=manyN n;omega,a5,b4⟩
  (dsimp only;omega)
 obtain rfl:i=manyN n:=by omega
 refine Zc 2 Z (gx (Zc 5 Z (AA Z (call97 _) (P3 _ _ _ (Bi n s l) _ _ 0 1 0 own [] _ u (imP.nil _) dn _ (by rw[AbO];omega) g (Ir n s l) b3 a6 U U O (Aad (by rw[f];exact Gw _ _ _)) (by show 0<=(0:Int)/\0+1+(own.length:Int)<=l;omega) (by show 0<=(0:Int)/\0+1+(own.length:Int)<=l;omega) (by show s+l<=(dn:Int);omega)) H.f4.f7.f7.f6 ?_)));rintro _ w _ ⟨c7,d2,c2,c8,rfl,rfl⟩ H;rw[Aah c hn.2 f] at H;refine Z0 16 [4] Z (Ai Z (call59 _) (Nt _ _ (Bi n s l) _ _ _ dn _ _) H.f2.f1 ?_);intro w H;refine Zc 4 Z (Zr Z ?_);exact ⟨_,⟨cb,_,c,by rw[AbO];omega,Z,Z⟩,H.pick 8 [1] Z⟩
def pkI(c:Int)(N:Nat):Nat:=((if c<0 then -(c+1) else c).tmod N).toNat
theorem Aai(c:Int){N:Nat}(h:0<N):pkI c N<N:=by
 unfold pkI;have a:(0:Int)<=if c<0 then -(c+1) else c:=by split<;>omega
 have b:=Aep (if c<0 then -(c+1) else c) (by omega:(0:Int)<(N:Int));have d:=AeM (N:Int) a;omega
def Gx(kd fl:Int):Pg:=⟨kd,List.replicate 240 (Fi fl)⟩
theorem NB{a:Int}(b:Int)(h:1<=a/\a<=5):(Gx a b).Ok:=⟨h,by simp[Gx]⟩
theorem CW(a b:Int):(Gx a b).body.length=240:=by simp[Gx]
theorem Sj(i:Nat)(x y:UInt8)(a:i<240):((List.replicate i x++List.replicate (240-i) y).map u8).take i++[u8 x]++((List.replicate i x++List.replicate (240-i) y).map u8).drop (i+1)=(List.replicate (i+1) x++List.replicate (240-(i+1)) y).map u8:=by
 rw[Ab7,AbR O,AbJ O,Aco,Ab6 O,Ab3];simp only[Adr,AbQ,AdB];rw[show 240-i-(i+1-i)=240-(i+1) from by omega,Ab7,Adr,Adr,List.replicate_succ',AbK]
theorem O9(c:Int)(N:Nat)(f: -9223372036854775808<=c/\c<=9223372036854775807)(hN:0<N/\N<=1099511627776):Aj 8 [Aa c,Aa (N:Int)] [] (λv G=>v=Aa (pkI c N:Int)/\G=[]):=by
 intro z R w H;refine Ac func8 Z ntmps8 Z (Z0 12 [0] Z (Ag Z (λe=>?_) (λe=>?_)))
 ·refine Z1 3 [] [c+1] Z U (Ad Z (Od Z Z (r:= -(c+1)) U U) (Zc 7 Z (Ad Z (JJ Z Z Z U) ?_)))
  have b:=AeM (N:Int) (show 0<= -(c+1) by omega);refine Zc 4 Z (Zr Z ?_);have d:(-(c+1)).tmod (N:Int)=(pkI c N:Int):=by unfold pkI;rw[if_pos U];omega
  exact ⟨_,⟨congrArg Aa d,Z⟩,H⟩
 refine Zc 6 Z (Ad Z (JJ Z Z Z U) ?_);have b:=AeM (N:Int) (show 0<=c by omega);refine Zc 4 Z (Zr Z ?_);have d:c.tmod (N:Int)=(pkI c N:Int):=by unfold pkI;rw[if_neg U];omega
 exact ⟨_,⟨congrArg Aa d,Z⟩,H⟩
theorem E2(h m c a j:Int)(e:Value)(n:e.oneCell'=true):Aj 13 [.agg #[Aa h,Aa m,Aa c,Aa a,Aa j,e]] [] (λv G=>∃b,v=.agg #[Aa c,.slice (some ⟨b,0,none⟩) 240 240]/\G=[blk b ((Gx c a).body.map u8) 5]):=by
 intro z R w H;refine Ac func13 Z ntmps13 Z (Za 2 [] H Z ?_);intro l w H;refine Za 0 [] H Z ?_;intro f w H;refine Zc 4 Z (AG Z (Dx (k:=240) H Z J Bf Z Z Z U) ?_);rintro _ w ⟨d,rfl,H⟩;refine Zc 10 Z ?_;refine Ay (σ:=Nat) (λi=>[(4,Aa (i:Int)),(1,V l),(2,V f),(3,.slice (some ⟨d,0,none⟩) 240 240)])
   (λi w=>Sep z (blk d ((List.replicate i (Fi a)++List.replicate (240-i) (0:UInt8)).map u8) 5::blk f [Aa 0,.slice none 0 0] 40::blk l [Aa h,Aa m,Aa c,Aa a,Aa j,e] 43::R) w/\(i<=240)) (λi=>240-i) 0
   fr_z ⟨(by simpa [u8] using H),by omega⟩ ?_
 clear H;rintro i w ⟨o,g⟩;have H:=o.l3;have r:=g;clear g;refine Z0 9 [0] Z (Ag Z (λp=>?_) (λp=>?_))
 ·refine Z2 9 [3,2,0] H Z (Ad Z (LS Z J Z) (Z1 1 [1,i,i] [] Z U (A9 Z Z (AD 0 H Z Z Z Z (vs:=[u8 (Fi a)]) Z (by simp[u8,u32,Value.oneCell']) J (by simp;omega) (out:=((List.replicate (i+1) (Fi a)++List.replicate (240-(i+1)) (0:UInt8)).map u8)) (Sj i _ _ U)) ?_)));rintro w H;refine Z1 8 [] [(i:Int)+1] Z U (gf ?_);intro _ q;refine ⟨(i+1),q.cz,⟨H,?_⟩,?_⟩
  ·omega
  omega
 obtain rfl:i=240:=by omega
 refine Zc 2 Z (gx (Z4 12 [2,2,0,1] H Z ?_));intro w H;refine Zl [1,2] H Z ?_;rw[show (List.replicate 240 (Fi a)++List.replicate (240-240) (0:UInt8)).map u8=(Gx c a).body.map u8 from by simp[Gx]] at H;exact ⟨_,⟨d,Z,Z⟩,H.pick 3 [0] Z⟩
theorem LK{n:Nat}{bs:List UInt8}(a:bs.length=256){M:Nat->Pg}(b:M=Cb (λ_=>C5) (some (gF n (bs.take 240) (manyN n),1+manyN n))):M 0=⟨1,bs.take 240⟩/\∀i,i<manyN n->M (1+i)=CO (C1 (manyN n+1)) n i:=by
 subst b;refine ⟨Z,λi c=>?_⟩;simp only[Cb,gF];rw[if_neg U,if_pos U,show 1+i-1=i by omega];rfl
theorem Fh{n:Nat}(h:16<=n/\n<=298):(Bw (n:Int) 300 90 2).Ok ((400:Nat):Int):=
 Sup.ok_mk (by show 0<=(2:Int)/\(2:Int)<=1099511627776;omega) (by show 0<=(1:Int)/\(1:Int)<=1099511627776;omega) (by show 16<=(n:Int)/\(n:Int)<=1024;omega) (by show 2+(n:Int)<=300/\(300:Int)<=1099511627776;omega) (by show 64<=(90:Int)/\(90:Int)<=1099511627776;omega) (by show 0<=(0:Int)/\(0:Int)<90;omega) (by show 0<=(1:Int)/\(1:Int)<=1099511627776;omega) (by show (300:Int)<=((400:Nat):Int)-90/\(90:Int)<=((400:Nat):Int);omega)
set_option maxHeartbeats 2000000 in
theorem Yc (q pd pr n:Nat) (c:16<=n/\n<=298) (Tb:Ah) (hT:Fw Tb) (D2:Dsk) (a:StG) (bs:List UInt8) (u:bs.length=256) (hO:OInv D2 a.x a.B (λb=>b=a.rs)) (s:Clean D2) (y:a.x.gen<=((5:Nat):Int)/\a.x.epoch<=((5:Nat):Int)) (h:a.x.pages=n) (hM:a.M=Cb (λ_=>C5) (some (gF n (bs.take 240) (manyN n),1+manyN n))) (cb:List UInt8) (l:cb.length=240) (m2:Nat) (a3:m2<=4000):Aj 37 [V q] [blk q [V pd,V pr,.pointer none,.pointer none] 32,diskA pd D2,Tb,rdkA pr 400 (DV n 300 90 cb) m2] (λv G=>∃(pp pq:Nat) (M0:Nat->Pg),v=.bool true/\G=[blk q [V pd,V pr,V pp,V pq] 32,poA Tb pp 6 n M0 (C1 (manyN n+1)) none]):=by
 intro z R w H;have d:16<=n/\n<=1024:=⟨c.1,by omega⟩;refine Ac func37 Z ntmps37 Z (Z4 27 [2,0,3,0,0,0,0] H Z ?_);intro w H;refine AA Z (call30 _) (MW _ _ _ _ _ _ hO s y U) H.f1 ?_;rintro _ w _ ⟨ps,D3,b,g,o,a2,rfl,rfl⟩ H;have r:pgMap (ov b) a.B=a.M:=by rw[g];rfl
 obtain ⟨a0,f⟩:=LK (n:=n) u (r.trans hM);refine Z2 13 [1,1,0] H Z (AA Z (call89 _) (JA _ 400 _ U U (DV n 300 90 cb) (Bw (n:Int) 300 90 2) (Bi n 300 90) (Bi n 300 90) (Wf n 90 cb U) (Wg n 90 cb U) (Fh c) (Nx (Fh c)) Z Z (.inl ⟨by show (2:Int)<2+1;omega,Z⟩) U Z (by show (2:Int)+1<1099511627776;omega) (by show (1:Int)+1<4294967296;omega) (CJ n cb) (by simp[CJ]) (O7 d.2 U) (by show (1:Int)+((1:Nat):Int)<1099511627776;omega) (Wh l d.2 U) (O6 d.2 U U)) H.f3 ?_);rintro _ w _ ⟨pt,pl,a4,j,a1,rfl,rfl⟩ H;refine Z0 18 [4] Z (Ad Z (QG Z J Z Z) (Pk 41 Z Z (Zc 19 Z (AA Z (call31 _) (O0 _ _ _ _ 6 n (C1 (manyN n+1)) o d h (bs.take 240) a0 f (λk=>F1 _ k) (λp hp=>by unfold C1;rw[if_pos U])) H.f3 ?_))));rintro _ w _ ⟨pp,pc,bn,m,pa,rfl,rfl⟩ H;refine Zc 10 Z (AA Z (call98 _) (NA _ _ 400 _ n (BF (Bi n 300 90)) _ _ (C1 (manyN n+1)) d Z U cb l (λi hi=>K1 j (by show (((2:Int)+1+1)%2).toNat<=1;decide) _ hi) (F1 _) (λp hp=>by unfold C1;rw[if_pos U])) H.f8.f7 ?_);rintro _ w _ ⟨pq,qc,qn,qw,tv,rfl,rfl⟩ H;refine Z4 35 [2,14,3,14,3] H Z ?_;intro w H;refine Ad Z (QF Z J Z Z) (YU 71 Z Z (Zc 5 Z (Zr Z ?_)));have H8:=(H.pick 16 [8,7,9,10,11,12,15,14] Z).toPo (X:=⟨ps,pd,pc,bn,m,pa,D3,(MV a.x (pgMap (ov b) a.B)),CD,[],0,By,Tb⟩) (mb:=6) (n:=n) (M0:=pgMap (ov b) a.B) (C0:=C1 (manyN n+1)) (t:=none) ⟨d,o,h,⟨hT,Z⟩,λp _=>rfl,f,λk=>F1 _ k,λp hp=>(by unfold C1;rw[if_pos U]),λ_=>⟨Z,Z⟩,λ_ e=>(by cases e)⟩ Z;exact ⟨_,⟨_,_,_,Z,Z⟩,H8.pick 2 [1,0] Z⟩
set_option maxHeartbeats 2000000 in
theorem UY (n:Nat) (a:16<=n/\n<=298) (Tb:Ah) (p:Fw Tb):Aj 9 [Aa (n:Int)] [Tb] (λv G=>∃(j pd h pp pq:Nat) (M0:Nat->Pg),v=.tuple #[V j,.bool true]/\G=[blk j [V pd,V h,V pp,V pq] 32,poA Tb pp 6 n M0 (C1 (manyN n+1)) none]):=by
 intro z R w H;have i:16<=n/\n<=1024:=⟨a.1,by omega⟩;refine Ac func9 Z ntmps9 Z (Zc 8 Z (AA Z (call33 _) (Rw 400) H ?_));rintro _ w _ (⟨b,rfl,rfl⟩|⟨_,pd,rfl,rfl⟩) k
 ·exact absurd U b
 have H:=k.l2;refine Zc 9 Z (AA Z (call34 _) (Sb 400 U) H ?_);rintro _ w _ ⟨h,rfl,rfl⟩ H;refine Za 31 [4] H Z ?_;intro s w H;refine Zc 7 Z (AA Z (call35 _) (LA _ 400 n _ _ i (Fh a)) H.f2 ?_);rintro _ w _ ⟨D2,G2,bs,e,q,c,f,l,d,o,rfl,rfl⟩ H;refine Zc 7 Z (AA Z (call36 _) (Kj _ 400 0 n U U 300 90 i (Fh a)) H.f2 ?_);rintro _ w _ ⟨cb,r,g,m,rfl,rfl⟩ H;refine Z0 17 [4] Z (AA Z (call37 _) (Yc _ _ _ n a Tb p _ _ bs e q c f d o cb g r U) H.f3.f2.f3 ?_);rintro _ w _ ⟨pp,pq,M0,rfl,rfl⟩ H;refine Zc 12 Z (Zr Z ?_);exact ⟨_,⟨s,pd,h,pp,pq,M0,Z,Z⟩,H.pick 2 [0,1] Z⟩
theorem Sk(pp ps c a n:Nat)(x:Pg)(f:x.Ok)(b:Value)(B:Ah)(d:∀h,B h->rdH 1 b 240 (x.body.map u8) h):Aj 12 [V pp,.agg #[Aa x.kind,b]] [plB pp ps c a n false,B] (λv G=>v=.tuple #[Aa 0,Aa 18]/\G=[plB pp ps c a n false,B]):=by
 intro z R w H;obtain ⟨e,g,rfl⟩:=H.sy 1 (λq=>(d _ q).slc);refine Ac func12 Z ntmps12 Z (Za 2 [] H Z ?_);intro i w H;refine Z2 22 [4,1,0] H Z (Zr Z ?_);exact ⟨_,⟨Z,Z⟩,H.perm 3 [1,2] Z Z⟩
section
section
variable{Tb:Ah}
variable{z w:World}{Γ:List Ah}{pp mb n:Nat}{M0:Nat->Pg}{C0:Nat->Nat}{t:Option PoT}{T:PoT}
theorem Sep.poTab(H:Sep z (poA Tb pp mb n M0 C0 t::Γ) w):Fw Tb/\Sep z (Tb::Γ) w:=by
 obtain ⟨X,a,H⟩:=H.po;refine ⟨a.tab.2▸a.tab.1,?_⟩;have h:=H.pick 7 [6] Z;rw[<-a.tab.2];exact h
theorem NC(pp mb n:Nat)(M0:Nat->Pg)(C0:Nat->Nat)(T:PoT)(x:Pg)(g:x.Ok)(b:Value)(B:Ah)(f:∀h,B h->rdH 1 b 240 (x.body.map u8) h)(i:T.k<40)(j:cnt T.F 0 1024≠0):
  Aj 12 [V pp,.agg #[Aa x.kind,b]] [poA Tb pp mb n M0 C0 (some T),B] (λv G=>∃p a:Nat,((T.F p=true/\∀q,q<p->T.F q=false)/\a<=T.k+1/\cnt (BI T.F p) 0 1024+1=cnt T.F 0 1024)/\v=.tuple #[Aa (p:Int),Aa 0]/\G=[poA Tb pp mb n M0 C0 (some ⟨BS T.M p x,BS T.C p 1,BI T.F p,a⟩),B]):=
 (X3 pp mb n M0 C0 T x g b B f i).mono λv Γ h=>by
  rcases h with h|⟨p,a,e,c,d⟩
  ·exact absurd h.1 j
  exact ⟨p,a,e,c,d⟩
theorem UZ(pp mb n:Nat)(M0:Nat->Pg)(C0:Nat->Nat)(x:Pg)(d:x.Ok)(a:Value)(B:Ah)(c:∀h,B h->rdH 1 a 240 (x.body.map u8) h):
  Aj 12 [V pp,.agg #[Aa x.kind,a]] [poA Tb pp mb n M0 C0 none,B] (λv G=>v=.tuple #[Aa 0,Aa 18]/\G=[poA Tb pp mb n M0 C0 none,B]):=by
 intro z R w H;obtain ⟨X,e,H⟩:=H.po;refine Ret.mono (Cn.at (Sk pp X.ps X.pc X.pa n x d a B c) H 8 [0,7,1,2,3,4,5,6] Z Z) ?_;rintro v w' ⟨Γ',⟨rfl,rfl⟩,b⟩;exact ⟨_,⟨Z,Z⟩,(b.pick 8 [0,2,3,4,5,6,7,1] Z).toPo e Z⟩
end
theorem E3{b:Nat}{xs:List Value}{ty:TypeId}{h:Hp}(a:blk b xs ty h)(c:xs.length=240):rdH 1 (.slice (some ⟨b,0,none⟩) 240 240) 240 xs h:=a.rd U U U (by simp;exact AbJ U)
theorem Sl{F:Nat->Bool}{p q:Nat}(h:F p=true/\∀r,r<p->F r=false)(b:F q=true)(a:∀r,r<q->F r=false):p=q:=by
 rcases Adj p q with e|e|e
 ·have:=a p e;rw[h.1] at this;cases this
 ·exact e
 have:=h.2 q e;rw[b] at this;cases this
theorem Aa1:cnt (frC 16 (C1 (manyN 16+1))) 0 1024≠0:=by decide+kernel
theorem Aa2:cnt (BI (frC 16 (C1 (manyN 16+1))) 2) 0 1024≠0:=by decide+kernel
theorem Aa3(C:Nat->Nat):BS C 2 1 2=1:=Z7 C 2 1
theorem Aa4:frC 16 (C1 (manyN 16+1)) 2=true:=by decide
theorem Aaj:∀r,r<2->frC 16 (C1 (manyN 16+1)) r=false:=by decide
theorem Aa5:BI (frC 16 (C1 (manyN 16+1))) 2 3=true:=by decide
theorem Aak:∀r,r<3->BI (frC 16 (C1 (manyN 16+1))) 2 r=false:=by decide
theorem Yd:((cnt (frC 16 (BS (BS (BS (C1 (manyN 16+1)) 2 1) 2 0) 3 1)) 0 1024:Nat):Int)=13:=by decide+kernel
set_option maxHeartbeats 2000000 in
theorem U0 (Tb:Ah) (l:Fw Tb):Aj 16 [] [Tb] (λv G=>v=.bool true/\G=[Tb]):=by
 intro z R w H;replace H:=H.l1;refine Ac func16 Z ntmps16 Z (Zc 7 Z (AA Z (call9 _) (UY 16 U Tb l) H ?_));rintro _ w _ ⟨o,pd,s,pp,pq,M0,rfl,rfl⟩ H;replace H:=H.l2;refine Z2 35 [2,0,0,2,0,0] H Z (Ad Z (AX Z Z (out:=[Aa 0,Aa 0,Aa 5,Aa 3,Aa 0,.slice none 0 0]) J) (Za 0 [] H Z ?_));intro r w H;refine Z4 7 [0,0,6] H Z ?_;intro w H;refine AA Z (call13 _) (E2 _ _ 5 3 _ (.slice none 0 0) Z) H ?_;rintro _ w _ ⟨m,rfl,rfl⟩ H;replace H:=H.l4;refine Ai Z (call12 _) (UZ _ _ _ _ _ (Gx 5 3) (NB 3 U) _ _ (λh q=>E3 q (by rw[AbN];exact CW _ _))) H.f3 ?_;intro w H;replace H:=H.l4;refine Zc 10 Z (Ai Z (call11 _) (KT _ _ _ _ _) H ?_);intro w H;replace H:=H.l4;refine Z2 7 [2,6] H Z (AA Z (call13 _) (E2 _ _ 5 3 _ (.slice none 0 0) Z) H ?_);rintro _ w _ ⟨k,rfl,rfl⟩ H;replace H:=H.l5;refine AA Z (call12 _) (NC _ _ _ _ _ _ (Gx 5 3) (NB 3 U) _ _ (λh q=>E3 q (by rw[AbN];exact CW _ _)) (by show (0:Nat)<40;omega) (by exact Aa1)) H.f1 ?_;rintro _ w _ ⟨p,e,⟨c,a,g⟩,rfl,rfl⟩ H;replace H:=H.l5;obtain rfl:p=2:=Sl c (by exact Aa4) (by exact Aaj);refine Zc 3 Z (k_updA 46 (v:=Aa 2) Z Z (Zc 8 Z (Ai Z (call15 _) (drop_p _ _ _ _ _ _ 2 (by decide) (by exact Aa3 (C1 (manyN 16+1)))) H ?_)));intro w H;replace H:=H.l5;refine Z2 7 [3,6] H Z (AA Z (call13 _) (E2 _ _ 5 3 _ (.slice none 0 0) Z) H ?_);rintro _ w _ ⟨n,rfl,rfl⟩ H;replace H:=H.l6;refine AA Z (call12 _) (NC _ _ _ _ _ _ (Gx 5 3) (NB 3 U) _ _ (λh q=>E3 q (by rw[AbN];exact CW _ _)) (by show e<40;have:e<=0+1:=a;omega) (by exact Aa2)) H.f1 ?_;rintro _ w _ ⟨j,f,⟨b,d,i⟩,rfl,rfl⟩ H;replace H:=H.l6;obtain rfl:j=3:=Sl b (by exact Aa5) (by exact Aak);refine Zc 3 Z (k_updA 56 (v:=Aa 3) Z Z (Zc 7 Z (Ai Z (call14 _) (UJ _ _ _ _ _ _ (by show f+manyN 16<=40;have:e<=0+1:=a;have:f<=e+1:=d;have:manyN 16=1:=rfl;omega) U) H ?_)));intro w H;replace H:=H.l6;refine Z0 37 [3,3,3,3,3,3,3,3] Z (Ai Z (call10 _) (Z8 _ _ _ _ _ _) H ?_);intro w H;replace H:=H.l6;refine k_updA 92 (v:=Aa 13) Z (congrArg Aa Yd) (Z0 4 [3] Z (Ai Z (call18 _) (O2 _ _ _ _ _ _ 3 U) H ?_));intro w H;replace H:=H.l6;refine k_updA 97 (v:=Aa 1) Z Z (Z0 6 [3] Z (Zr Z ?_));exact ⟨_,⟨Z,Z⟩,((H.pick 6 [0] Z).poTab).2⟩
end
section
open Go.ChangeShapes Go.WideShapes Go.ChangeAt Go.RowKit Go.Joins
theorem own:ownKnob prog.godebug=none:=by kernel_rfl
theorem Pa:laidOutB prog=true:=by kernel_rfl
theorem int_cells:prog.cellsOf 3=1:=by kernel_rfl
theorem U1{H:Type}{enc:TypeId×Value->H}{W:World}{fuel:Nat}{v:Value}{d:DataW H}{p:List MemPlace}(h:DataW.trod enc prog W 0 (λ_=>true) true fuel 22 [v]=some (d,p)):∃xs:List Int,Rd 1 v xs.length (xs.map (Value.int .i64)) W/\xs.length<=Rows.uptoBulk d/\∀x∈xs,(Lit.int .i64 x).wf=true:=by
 have k:∀(l:List Int),l.length<=Rows.uptoBulkAll (lits (H:=H) .i64 l):=λl=>by
  induction l with
  | nil=>simp
  | cons x l ih=>simp only[lits,Aca,Rows.uptoBulkAll,Rows.uptoBulk,AbI] at ih ⊢;omega
 rcases open_ints underlying22 underlying3 int_cells h with ⟨c,m⟩|⟨a,f,w,zs,c,_,r,hm,t,m,e,s⟩
 ·simp only[AdD,and_true] at c;subst c;exact ⟨[],by simpa using Rd.nil 1 W,by simp,by simp⟩
 simp only[AdD,and_true] at c;subst c;simp only[if_true] at t;have hd:d=.slice (lits .i64 (zs.take f)) (lits .i64 (zs.drop f)):=by have:=congrArg Prod.fst m;simpa using this
 refine ⟨zs.take f,⟨some a,w,by simp[t,Acm r],by simp[t,Acm r,r],(by unfold maxLen at hm;omega),by simp,λj u z=>?_⟩,?_,λx m=>s x (Acr m)⟩
 ·rw[AbY] at z
  obtain ⟨y,q,rfl⟩:=Adq.1 z;have n:j<f:=by
   have:=(AbE.1 q).1;simp at this;omega
  have o:zs[j]?=some y:=by rw[Acn] at q;simpa [n] using q
  have hc:=e j U;rw[show zs.getD j 0=y from by simp[List.getD,o]] at hc;obtain ⟨b,off,i⟩:=a;have g:i=none:=by
   have h0:=e 0 U;simpa [Addr.add] using World.cell?_spot h0
  subst g;exact ⟨b,off,Z,by unfold E6;rw[<-Ad6];exact hc⟩
 rw[hd];have:=k (zs.take f);simp only[Rows.uptoBulk];omega
def LY:DataW Unit->List Value
 | .lit (.int k n)=>[.int k n]
 | .agg parts=>flatWs parts
 | _=>[]
where flatWs:List (DataW Unit)->List Value
 | []=>[]
 | d::ds=>LY d++flatWs ds
def U2:Obj->Obj
 | .cells c t frozen=>.cells (if c.size=32 then (LY Rows.laid_unicode_utf8_acceptRanges).toArray else if c.size=64 then (LY Rows.laid_math_bits_deBruijn64tab).toArray else (LY Rows.laid_unicode_utf8_first).toArray) t frozen
 | o=>o
noncomputable def Iu(os:Os):World:=
 {World.holding prog os ⟨#[],#[],[]⟩ with heap:=(((World.holding prog os ⟨#[],#[],[]⟩).heap.modify 0 U2).modify 1 U2).modify 2 U2}
theorem I4{α:Type}(P:Nat->α->Prop):∀n,(∀i,i<n->∃a,P i a)->∃l:List α,l.length=n/\∀i a,l[i]?=some a->P i a
 | 0,_=>⟨[],Z,λi a h=>by simp at h⟩
 | n+1,h=>by
  obtain ⟨l,hl,hp⟩:=I4 P n (λi e=>h i U);obtain ⟨a,d⟩:=h n U;refine ⟨l++[a],by simp[hl],λi b c=>?_⟩;rcases AbX i n with q|q
  ·rw[AbU U] at c;exact hp i b c
  rw[AbT U] at c;obtain rfl:i=n:=by have:=(AbE.1 c).1;simp at this;omega
  simp[hl] at c;subst c;exact d
abbrev Aa6(x:Int):Prop:= -9223372036854775808<=x/\x<=9223372036854775807
theorem Wl{n:Int}(h:(Lit.int .i64 n).wf=true):Aa6 n:=by
 simp only[Lit.wf,Ab8,decide_eq_true_eq] at h;have b:IntKind.i64.min= -9223372036854775808:=by decide
 have a:IntKind.i64.max=9223372036854775807:=by decide
 rw[b,a] at h;exact h
theorem U3{H:Type}(d:DataW H):1<=Rows.uptoBulk d:=by
 cases d with
 | lit l=>cases l<;>simp[Rows.uptoBulk]
 | nil=>simp[Rows.uptoBulk]
 | ptr d=>simp[Rows.uptoBulk]
 | slice elems spare=>simp[Rows.uptoBulk]
 | agg parts=>simp[Rows.uptoBulk]
 | iface t d=>simp[Rows.uptoBulk]
 | map entries=>simp[Rows.uptoBulk]
 | held h=>simp[Rows.uptoBulk]
theorem U4{H:Type}(l:List (DataW H)):l.length<=Rows.uptoBulkAll l:=by
 induction l with
 | nil=>simp
 | cons x r ih=>have:=U3 x;simp only[Rows.uptoBulkAll,AbI];omega
theorem Aal:prog.globalNamed "math/bits.deBruijn64tab"=some 0:=by kernel_rfl
theorem U5:(prog.globals[0]?).map (·.type)=some 220:=by kernel_rfl
theorem Ye:prog.cellsOf 220=64:=by kernel_rfl
theorem Yf:prog.cellsOf 5=1:=by kernel_rfl
def tzL:List Int:=Lib.deBruijn64tab.map Int.ofNat
theorem LZ{W:World}(h:laidMetH prog Rows.poolRefsUptoRow.laid W):Lib.TabIs prog W "math/bits.deBruijn64tab" .u8 tzL:=
 Lib.tabIs_of_head (rest:=[("unicode/utf8.acceptRanges",Rows.laid_unicode_utf8_acceptRanges),("unicode/utf8.first",Rows.laid_unicode_utf8_first)]) Aal U5 underlying220 underlying5 Yf Ye h
theorem K2{W:World}(h:Lib.TabIs prog W "math/bits.deBruijn64tab" .u8 tzL):∃t a,W.heap[0]?=some (.cells (tzL.map λz=>Value.int .u8 z).toArray t a):=by
 unfold Lib.TabIs World.var? at h;rw[Aal] at h;simp only[Ad8] at h
 cases e:W.heap[0]? with
 | none=>rw[e] at h;cases h
 | some o=>
  rw[e] at h;cases o<;>simp at h;subst h;exact ⟨_,_,Z⟩
def IS(W:World):Ah:=λh=>∀k,k<W.heap.size->k≠0->h k=W.heap[k]?
def ND(W:World):Ah:=λh=>h 0=W.heap[0]?
theorem Aam:(List.range 64).all (λj=>tzL[j]? == some ((RR j).toNat:Int))=true:=by decide+kernel
theorem Aa7{W:World}(d:Lib.TabIs prog W "math/bits.deBruijn64tab" .u8 tzL):Fw (ND W):=λh f j b=>by
 obtain ⟨t,a,e⟩:=K2 d;have:=Ad9.1 Aam j (AcL.2 b);have c:tzL[j]?=some ((RR j).toNat:Int):=by simpa using this
 exact ⟨_,t,a,(show h 0=_ from f).trans e,by simp[c,u8]⟩
theorem Yg{W:World}(a:Lib.TabIs prog W "math/bits.deBruijn64tab" .u8 tzL):0<W.heap.size:=by
 obtain ⟨t,b,e⟩:=K2 a;rcases Ads W.heap.size with q|q
 ·rw[Acj U] at e;cases e
 exact q
theorem Sm{W:World}(k:Lib.TabIs prog W "math/bits.deBruijn64tab" .u8 tzL){b o:Nat}{v:Value}(a:E6 b o v W)(i:∀x,v≠ .int .u8 x):∀h,IS W h->celH h b o v:=λh j=>by
 have c:b≠0:=λe=>by
  subst e;obtain ⟨t,f,e⟩:=K2 k;unfold E6 World.cell? at a;rw[e] at a;simp at a;obtain ⟨z,_,g⟩:=a;exact i _ g.symm
 unfold E6 World.cell? at a
 cases hh:W.heap[b]? with
 | none=>rw[hh] at a;simp at a
 | some o'=>
  rw[hh] at a
  cases o' with
  | cells cs ty f=>
   simp at a;have d:b<W.heap.size:=by
    rcases AbX b W.heap.size with q|q
    ·exact q
    rw[Acj q] at hh;cases hh
   exact ⟨cs,ty,f,(j b d c).trans hh,a⟩
  | _=>simp at a
theorem NE{sz:Nat}{v:Value}{n:Nat}{xs:List Value}{W:World}(o:Lib.TabIs prog W "math/bits.deBruijn64tab" .u8 tzL)(r:Rd sz v n xs W)(l:∀u∈xs,∀x,u≠ .int .u8 x):∀h,IS W h->rdH sz v n xs h:=λh m=>by
 obtain ⟨q,c,e,k,d,g,i⟩:=r;exact ⟨q,c,e,k,d,g,λj u a=>by
  obtain ⟨b,p,f,s⟩:=i j u a;exact ⟨b,p,f,Sm o s (l u (AbG a)) h m⟩⟩
theorem Pb{h:Hp}{own:Nat->Nat}{i k:Nat}{o:Obj}(e:h.part own i k=some o):h k=some o:=by
 unfold Hp.part at e;split at e
 ·exact e
 cases e
theorem Cn.run2{P:Program}{f:FuncId}{args:List Value}{W:World}{u:Value}(n:0<W.heap.size)(h:Cn P f args [IS W,ND W] (λv G=>v=u/\G=[IS W,ND W])):Calls P f args.toArray W (Ret λv W'=>v=u/\Ext No W W'):=by
 have j:Sep W [IS W,ND W] W:=⟨Z,Z,Z,λq=>if q=0 then 1 else 0,λi A a=>by
  match i,a with
  | 0,a=>cases a;intro k c e;simp[Hp.part,hp,e]
  | 1,a=>cases a;show Hp.part _ _ _ 0=_;simp[Hp.part,hp]⟩
 refine Ret.mono (h W [] W j) ?_;rintro v W' ⟨Γ,⟨rfl,rfl⟩,H⟩;obtain ⟨own,b⟩:=H.own;have l:=b 0 _ Z;have m:=b 1 _ Z;have d:∀k,k<W.heap.size->hp W' k=W.heap[k]? :=λk c=>by
  obtain ⟨o,g⟩:∃o,W.heap[k]?=some o:=⟨_,AdT c⟩;rw[g];by_cases q:k=0
  ·subst q;exact Pb ((show _=_ from m).trans g)
  exact Pb ((l k c q).trans g)
 have H2:Sep W [base W] W':=⟨H.os,H.tape,H.output,λk=>if k<W.heap.size then 0 else 1,λi A a=>by
  match i,a with
  | 0,a=>cases a;intro k c;unfold Hp.part;rw[if_pos (by simp[c])];exact d k c⟩
 exact ⟨Z,Sep.done 0 H2 Z⟩
section
variable{H:Type}{enc:TypeId×Value->H}{P:Program}{w:World}{base:Nat}{spare:Nat->Bool}{held:Bool}
end
section
variable{H:Type}{enc:TypeId×Value->H}{P:Program}{w:World}{base:Nat}{spare:Nat->Bool}{held:Bool}
theorem Aa8{m n:TypeId}{args:Array Value}{ds:List (DataW H)}{ps:List MemPlace}(h:DataW.TrodAll enc P w base spare held [m,n] args.toList ds ps):
  ∃b e d f c a,args= #[b,e]/\ds=[d,f]/\ps=c++a/\DataW.Trod enc P w base spare held m b d c/\DataW.Trod enc P w base spare held n e f a:=by
 obtain ⟨b,q,d,p,c,s,k,rfl,rfl,l,j⟩:=trodAll_cons h;obtain ⟨e,o,f,r,a,t,rfl,rfl,rfl,g,i⟩:=trodAll_cons j;obtain ⟨rfl,rfl,rfl⟩:=trodAll_nil i;exact ⟨b,e,d,f,c,a,by cases args;simp_all,Z,by simp,l,g⟩
theorem Yh{b e:TypeId}{g d:Value}{c h:DataW H}{a f:List MemPlace}(j:DataW.Trod enc P w base spare held b g c a)(i:DataW.Trod enc P w base spare held e d h f):DataW.TrodAll enc P w base spare held [b,e] [g,d] [c,h] (a++f):=
 ⟨a,_,j,(trodAll_mk1 i),Z⟩
end
section
variable{H:Type}{enc:TypeId×Value->H}{P:Program}{w:World}{base:Nat}{spare:Nat->Bool}{held:Bool}
end
end
set_option maxHeartbeats 2000000 in
theorem Sn (ps pd pt md j:Nat) (x:Sup) (q:Value) (g:A0) (k:Nat) (hq:Hp) (n:Nat) (hn:(n:Int)<x.pages) (m:Int) (hk:m<1\/5<m) (s:Value) (a1:s.oneCell'=true):Aj 41 [V ps,Aa (n:Int),.agg #[Aa m,s]] [stB ps pd pt x q md true (.map (some j)),DN j g k hq] (λv G=>v=Aa 1/\G=[stB ps pd pt x q md true (.map (some j)),DN j g k hq]):=by
 intro z R w H;replace H:=H.l2;obtain ⟨a0,p,a,b,H⟩:=H.pgsc 1 Z;replace H:=H.l2;refine Ac func41 Z ntmps41 Z (Za 2 [] H Z ?_);intro b1 w H;refine Z2 10 [12,1,0] H Z ?_;rcases a.get n with ⟨o,d⟩|⟨l,c,o,f,i,d⟩
 ·refine Ad Z (CI (e:=40) (zv:=.agg #[Aa 0,.slice none 0 0]) Z J J Z Z (AB (H.bk 2 Z))) (k_updA 15 (v:=.tuple #[.agg #[Aa 0,.slice none 0 0],.bool false]) Z (by simp[Cq,d]) (Za 3 [] H Z ?_));intro b2 w H;refine Z4 22 [0,11,2,0,0] H Z ?_;intro w H;refine Ak 27 Z (λh1=>U) (λh1=>?_)
  refine Z2 11 [2,4,2,0,0] H Z (Ag Z (λu=>U) (λu=>?_));refine Z2 6 [0,1,0,0] H Z (Ak 40 Z (λy=>?_) (λy=>?_))
  ·refine Zc 20 Z (Zr Z ?_);replace H:=(H.toPgsc 3 Z a b).l4
   exact ⟨_,⟨Z,Z⟩,H.perm 4 [2,3] Z Z⟩
  refine Z2 5 [0,1,0,0] H Z (Ak 45 Z (λh4=>?_) (λh4=>?_))
  ·refine Zc 15 Z (Zr Z ?_);replace H:=(H.toPgsc 3 Z a b).l4
   exact ⟨_,⟨Z,Z⟩,H.perm 4 [2,3] Z Z⟩
  (exfalso;omega)
 have r:=f.1;have h:Slc c 240:=i.slc;refine Ad Z (CI (e:=40) (zv:=.agg #[Aa 0,.slice none 0 0]) Z J J Z Z (AB (H.bk 2 Z))) (k_updA 15 (v:=.tuple #[.agg #[Aa l.kind,c],.bool true]) Z (by simp[Cq,d]) (Za 3 [] H Z ?_));intro b3 w H;refine A9 Z Z (AD 0 H Z Z Z Z (vs:=[Aa l.kind,c]) Z (Aq Z (Aq h.one AN)) J O (out:=[Aa l.kind,c]) Z) ?_;rintro w H;replace H:=H.l4;refine Z2 21 [11,2,0,0] H Z (Ak 27 Z (λh5=>U) (λh5=>?_));refine Z2 11 [2,4,2,0,0] H Z (Ag Z (λt=>U) (λt=>?_));refine Z2 6 [0,1,0,0] H Z (Ak 40 Z (λh7=>?_) (λh7=>?_))
 ·refine Zc 20 Z (Zr Z ?_);replace H:=(H.toPgsc 3 Z a b).l4
  exact ⟨_,⟨Z,Z⟩,H.perm 4 [2,3] Z Z⟩
 refine Z2 5 [0,1,0,0] H Z (Ak 45 Z (λh8=>?_) (λh8=>?_))
 ·refine Zc 15 Z (Zr Z ?_);replace H:=(H.toPgsc 3 Z a b).l4
  exact ⟨_,⟨Z,Z⟩,H.perm 4 [2,3] Z Z⟩
 (exfalso;omega)
theorem NF(ps pd pt md:Nat)(x:Sup)(b c:Value)(a:Bool)(p:Int)(hp:p<0\/x.pages<=p):Aj 21 [V ps,Aa p] [stB ps pd pt x b md a c] (λv G=>v=.tuple #[.agg #[Aa 0,.slice none 0 0],Aa 2]/\G=[stB ps pd pt x b md a c]):=by
 intro z R w H;replace H:=H.l1;refine Ac func21 Z ntmps21 Z (Za 2 [] H Z ?_);intro f w H;refine Z0 9 [0] Z (Ak 16 Z (λe=>?_) (λe=>?_))
 ·refine Z4 19 [0] H Z ?_;intro w H;refine Zl [0,2] H Z ?_;exact ⟨_,⟨Z,Z⟩,H.perm 2 [1] Z Z⟩
 refine Z2 10 [2,4,1,0,0] H Z (Ag Z (λd=>?_) (λd=>?_))
 ·refine Z4 8 [0] H Z ?_;intro w H;refine Zl [0,2] H Z ?_;exact ⟨_,⟨Z,Z⟩,H.perm 2 [1] Z Z⟩
 (exfalso;omega)
theorem U6(ps pd pt md:Nat)(x:Sup)(b a:Value):Aj 28 [V ps] [stB ps pd pt x b md true a] (λv G=>v=Aa 17/\G=[stB ps pd pt x b md true a]):=by
 intro z R w H;replace H:=H.l1;refine Ac func28 Z ntmps28 Z (Z2 21 [11,0,0] H Z (Zr Z ?_));exact ⟨_,⟨Z,Z⟩,H⟩
def GP(C W:Nat->Nat)(a k:Nat):Bool:=(List.range k).any λj=>decide (C (a+j)≠W (a+j))
def Ep(C W:Nat->Nat)(n q:Nat):Bool:=GP C W (120*q) (min 120 (n-120*q))
def Ce(C W:Nat->Nat)(n i:Nat):List Int:=((List.range i).filter λq=>Ep C W n q).map λq:Nat=>(q:Int)
theorem Aan(C W:Nat->Nat)(a:Nat):GP C W a 0=false:=rfl
theorem NG(C W:Nat->Nat)(a k:Nat):GP C W a (k+1)=(GP C W a k||decide (C (a+k)≠W (a+k))):=by simp[GP,Ac5,List.any_append]
theorem So{C W:Nat->Nat}{a k:Nat}(h:GP C W a k=true):GP C W a (k+1)=true:=by rw[NG,h];rfl
theorem Sp{C W:Nat->Nat}{a k:Nat}(h:GP C W a k=false):GP C W a (k+1)=decide ((C (a+k):Int)≠(W (a+k):Int)):=by
 rw[NG,h,Bool.false_or];exact decide_eq_decide.2 U
theorem NH(C W:Nat->Nat)(n i:Nat):(Ce C W n i).length<=i:=by
 unfold Ce;rw[AbN];have:=List.length_filter_le (λq=>Ep C W n q) (List.range i);rwa[AdH] at this
theorem Kk(C W:Nat->Nat)(n:Nat){i:Nat}(h:Ep C W n i=true):Ce C W n (i+1)=Ce C W n i++[(i:Int)]:=by simp[Ce,Ac5,Ad3,h]
theorem Sq(C W:Nat->Nat)(n:Nat){i:Nat}(h:Ep C W n i=false):Ce C W n (i+1)=Ce C W n i:=by simp[Ce,Ac5,Ad3,h]
set_option maxHeartbeats 1000000 in
theorem N5 (g f bw n:Nat) (C:Nat->Nat) (W:Nat->Nat) (hn:16<=n/\n<=1024):Aj 111 [V g] [blk g [.slice (some ⟨f,0,none⟩) n n,.slice (some ⟨bw,0,none⟩) n n] 166,Aw f C n,Aw bw W n] (λv G=>∃j:Value,v=j/\G=[grow 3 1 j (Ce C W n (manyN n)).length ((Ce C W n (manyN n)).map Aa),blk g [.slice (some ⟨f,0,none⟩) n n,.slice (some ⟨bw,0,none⟩) n n] 166,Aw f C n,Aw bw W n]):=by
 intro z R w H;replace H:=H.l3;have a2:manyN n=(n+119)/120:=rfl;refine Ac func111 Z ntmps111 Z (Zc 12 Z ?_);replace H:=(H.nilg 3 1).l4;refine Zc 5 Z ?_;refine Ay (σ:=Nat×Value) (λ⟨i,u⟩=>[(4,Aa (i:Int)),(3,u),(0,V g),(2,.slice none 0 0)])
   (λ⟨i,u⟩ w=>Sep z (grow 3 1 u ((Ce C W n i).length) ((Ce C W n i).map Aa)::blk g [.slice (some ⟨f,0,none⟩) n n,.slice (some ⟨bw,0,none⟩) n n] 166::Aw f C n::Aw bw W n::R) w/\(i<=manyN n)) (λ⟨i,u⟩=>manyN n-i) ⟨0,.slice none 0 0⟩
   (λ_ b=>(b.co Z (by go_num) b.cz)) ⟨(by simpa [Ce] using H),AbV _⟩ ?_
 clear H;rintro ⟨i,u⟩ w ⟨c,h⟩;dsimp only at h c ⊢;have H:=c.l4;have su:=H.sy 0 (·.slc);have hi:=h;clear h;have a1:=NH C W n i;refine Z2 9 [0,1,0] H Z (Ai Z (call94 _) (CV _ U) H ?_);intro w H;refine Z0 3 [0] Z (Ag Z (λh1=>?_) (λh1=>?_))
 ·refine Z1 18 [] [((120*i:Nat):Int)] Z U ?_;refine Ay (σ:=Nat) (λk=>[(6,Aa ((120*i+k:Nat):Int)),(5,.bool (GP C W (120*i) k)),(0,V g),(2,.slice none 0 0),(3,u),(4,Aa (i:Int)),(7,Aa (i:Int)),(8,V g),(9,V g),(10,V g),(11,.slice (some ⟨f,0,none⟩) n n),(12,Aa (n:Int)),(13,Aa (manyN n:Int)),(14,.bool (decide ((i:Int)<(manyN n:Int)))),(17,Aa (i:Int)),(18,Aa ((120*i:Nat):Int))])
    (λk w=>Sep z (grow 3 1 u ((Ce C W n i).length) ((Ce C W n i).map Aa)::blk g [.slice (some ⟨f,0,none⟩) n n,.slice (some ⟨bw,0,none⟩) n n] 166::Aw f C n::Aw bw W n::R) w/\(k<=120/\120*i+k<=n)) (λk=>120-k) 0
    (λ_ b=>(b.co Z (by go_num) (b.co Z (congrArg Value.bool (Aan C W _).symm) (b.all Z)))) ⟨H,⟨AbV _,by omega⟩⟩ ?_
  clear H;rintro k w ⟨c,h⟩;have H:=c.l4;have su:=H.sy 0 (·.slc);obtain ⟨hk,a3⟩:=h;refine Z1 9 [0] [(i:Int)+1,((i:Int)+1)*120] Z U (Ak 24 Z (λx=>?_) (λx=>?_))
  ·refine Z2 10 [0,1,0,0] H Z (Ag Z (λy=>?_) (λy=>?_))
   ·refine Zc 4 Z (Bd (Sep z _) J J H.drew (Cm 2 [] Z J (ST 36 Z (λp=>?_) (λp=>?_))))
    ·have a:k=min 120 (n-120*i)->Ep C W n i=true:=λe=>by unfold Ep;rw[<-e];exact p
     refine Cm 17 [] Z J (Bu (λw c=>?_));have H:=c.l4;refine gn (Z1 7 [] [((120*i+(k+1):Nat):Int)] Z U (gf ?_));intro _ b;refine ⟨(k+1),(b.co Z Z (b.co Z (congrArg Value.bool (by first|exact (So (by assumption)).symm|exact (Sp (by assumption)).symm)) (b.all Z))),⟨H,?_⟩,?_⟩
     ·exact ⟨by omega,by omega⟩
     omega
    have a:k=min 120 (n-120*i)->Ep C W n i=false:=λe=>by unfold Ep;rw[<-e];simpa using p
    refine FT 6 [0,1,0,1,(120*i+k),(120*i+k)] [] Z J U (Bn Z Z Z (AY Z Z J (λ_ r=>r.cel 2 Z (120*i+k) (cnL_at _ U))) (FT 6 [1,1,0,1,(120*i+k),(120*i+k)] [] Z J U (Bn Z Z Z (AY Z Z J (λ_ r=>r.cel 3 Z (120*i+k) (cnL_at _ U))) (Cm 3 [] Z J (Bu (λw c=>?_))))));have H:=c.l4;refine gn (Z1 7 [] [((120*i+(k+1):Nat):Int)] Z U (gf ?_));intro _ b;refine ⟨(k+1),(b.co Z Z (b.co Z (congrArg Value.bool (by first|exact (So (by assumption)).symm|exact (Sp (by assumption)).symm)) (b.all Z))),⟨H,?_⟩,?_⟩
    ·exact ⟨by omega,by omega⟩
    omega
   refine Zc 2 Z (gx (Zc 7 Z (DP Z (λq=>?_) (λq=>?_))))
   ·have a:k=min 120 (n-120*i)->Ep C W n i=true:=λe=>by unfold Ep;rw[<-e];exact q
    refine Zc 3 Z (AG Z (AL H Z J BP Z (by decide) (by decide) (out:=[Aa (i:Int)]) J) ?_);rintro _ w ⟨b1,rfl,H⟩;replace H:=H.l5;refine AG Z (AO 1 H Z Z J BP Z Z (H.rv 0 (·.rd U U O Z)) (by simp[Value.oneCell']) U) ?_;rintro j w c;have c:Sep z (blk b1 [Aa (i:Int)] 3::grow 3 1 j ((Ce C W n i).length+1) ((Ce C W n i).map Aa++[Aa (i:Int)])::blk g [.slice (some ⟨f,0,none⟩) n n,.slice (some ⟨bw,0,none⟩) n n] 166::Aw f C n::Aw bw W n::R) w:=c;have m:((Ce C W n i).map Aa++[Aa (i:Int)]:List Value)=(Ce C W n (i+1)).map Aa:=(by rw[Kk C W n (a U)];simp);rw[m] at c;rw[show ((Ce C W n i).length+1:Nat)=(Ce C W n (i+1)).length from (by rw[Kk C W n (a U)];simp)] at c;have H:=c.l5;have t:=H.sy 1 (·.slc);refine Z1 9 [] [(i:Int)+1] Z U ?_;replace H:=H.d;refine gf ?_;intro _ b;refine ⟨⟨i+1,j⟩,b.cz,⟨H,?_⟩,?_⟩
    ·show i+1<=manyN n;omega
    (dsimp only;omega)
   have a:k=min 120 (n-120*i)->Ep C W n i=false:=λe=>by unfold Ep;rw[<-e];simpa using q
   refine Z1 8 [] [(i:Int)+1] Z U (gf ?_);intro _ b;refine ⟨⟨i+1,u⟩,b.cz,⟨(by rw[Sq C W n (a U)];exact H),?_⟩,?_⟩
   ·show i+1<=manyN n;omega
   (dsimp only;omega)
  refine Zc 13 Z (gx (Zc 7 Z (DP Z (λl=>?_) (λl=>?_))))
  ·have a:k=min 120 (n-120*i)->Ep C W n i=true:=λe=>by unfold Ep;rw[<-e];exact l
   refine Zc 3 Z (AG Z (AL H Z J BP Z (by decide) (by decide) (out:=[Aa (i:Int)]) J) ?_);rintro _ w ⟨b3,rfl,H⟩;replace H:=H.l5;refine AG Z (AO 1 H Z Z J BP Z Z (H.rv 0 (·.rd U U O Z)) (by simp[Value.oneCell']) U) ?_;rintro s w c;have c:Sep z (blk b3 [Aa (i:Int)] 3::grow 3 1 s ((Ce C W n i).length+1) ((Ce C W n i).map Aa++[Aa (i:Int)])::blk g [.slice (some ⟨f,0,none⟩) n n,.slice (some ⟨bw,0,none⟩) n n] 166::Aw f C n::Aw bw W n::R) w:=c;have o:((Ce C W n i).map Aa++[Aa (i:Int)]:List Value)=(Ce C W n (i+1)).map Aa:=(by rw[Kk C W n (a U)];simp);rw[o] at c;rw[show ((Ce C W n i).length+1:Nat)=(Ce C W n (i+1)).length from (by rw[Kk C W n (a U)];simp)] at c;have H:=c.l5;have a0:=H.sy 1 (·.slc);refine Z1 9 [] [(i:Int)+1] Z U ?_;replace H:=H.d;refine gf ?_;intro _ b;refine ⟨⟨i+1,s⟩,b.cz,⟨H,?_⟩,?_⟩
   ·show i+1<=manyN n;omega
   (dsimp only;omega)
  have a:k=min 120 (n-120*i)->Ep C W n i=false:=λe=>by unfold Ep;rw[<-e];simpa using l
  refine Z1 8 [] [(i:Int)+1] Z U (gf ?_);intro _ b;refine ⟨⟨i+1,u⟩,b.cz,⟨(by rw[Sq C W n (a U)];exact H),?_⟩,?_⟩
  ·show i+1<=manyN n;omega
  (dsimp only;omega)
 obtain rfl:i=manyN n:=by omega
 refine Zc 2 Z (gx (Zc 9 Z (Zr Z ?_)));exact ⟨_,⟨_,Z,Z⟩,H.pick 4 [0,1,2,3] Z⟩
theorem U7(b a bw n:Nat)(C:Nat->Nat)(W:Nat->Nat)(g:16<=n/\n<=1024):Aj 68 [V b] [blk b [.slice (some ⟨a,0,none⟩) n n,.slice (some ⟨bw,0,none⟩) n n] 166,Aw a C n,Aw bw W n] (λv G=>v=.tuple #[]/\G=[blk b [.slice (some ⟨a,0,none⟩) n n,.slice (some ⟨bw,0,none⟩) n n] 166,Aw a W n,Aw bw W n]):=by
 intro z R w H;replace H:=H.l3;refine Ac func68 Z ntmps68 Z (Zc 6 Z ?_);refine Ay (σ:=Nat) (λi=>[(2,Aa (i:Int)),(0,V b)])
   (λi w=>Sep z (blk b [.slice (some ⟨a,0,none⟩) n n,.slice (some ⟨bw,0,none⟩) n n] 166::Aw a (Is W C i) n::Aw bw W n::R) w/\(i<=n)) (λi=>n-i) 0
   fr_z ⟨(by rw[Wi];exact H),AbV _⟩ ?_
 clear H;rintro i w ⟨c,d⟩;have H:=c.l3;have h:=d;clear d;refine Z2 12 [0,0,0,0] H Z (Ag Z (λe=>?_) (λe=>?_))
 ·refine Zc 4 Z (Bh 13 J J (A4 H λw c=>?_))
  have H:=c.l3;refine CL 11 [0,0,0,1,0,0,1,i,i] [] H Z J U (Cj Z Z Z (AY Z Z J (AB (H.cel 2 Z i (cnL_at _ U)))) (CL 1 [1,i,i] [] H Z J U (BY (gw (A9 Z Z (AD 1 H Z Z Z Z (vs:=[Aa (W i:Int)]) Z (Aq Z AN) J (by simp only[B3,AbI,AbO];omega) (out:=cnL (Is W C (i+1)) n) ((Ej (x:=W i) _ U Z).trans (by rw[Wj]))) ?_)))));rintro w H;replace H:=H.l3;refine Z1 8 [] [(i:Int)+1] Z U (gf ?_);intro _ f;refine ⟨(i+1),f.cz,⟨H,?_⟩,?_⟩
  ·omega
  omega
 obtain rfl:n=i:=by omega
 refine Zc 2 Z (gx (Zc 1 Z (Zf Z ?_)));dsimp only[Aw] at H;rw[Wk] at H;exact ⟨_,⟨Z,Z⟩,H.pick 3 [0,1,2] Z⟩
theorem U8(b a bw n:Nat)(C:Nat->Nat)(p:Nat)(hp:p<n)(g:16<=n/\n<=1024)(h:C p=1000):Aj 95 [V b,Aa (p:Int),Aa 1] [blk b [.slice (some ⟨a,0,none⟩) n n,.slice (some ⟨bw,0,none⟩) n n] 166,Aw a C n] (λv G=>v=Aa 21/\G=[blk b [.slice (some ⟨a,0,none⟩) n n,.slice (some ⟨bw,0,none⟩) n n] 166,Aw a C n]):=by
 intro z R w H;replace H:=H.l2;refine Ac func95 Z ntmps95 Z (Z0 11 [0] Z (Ak 9 Z (λf=>U) (λf=>?_)));refine Z2 10 [0,0,0,0] H Z (Ag Z (λc=>U) (λc=>?_));refine Z3 18 [4,4,0,0,0,1,p,p] [] H Z U (Ad Z (AY Z Z J (AB (H.cel 1 Z p (cnL_at _ U)))) (Z1 5 [0] [(C p:Int)+1] Z U (Ak 36 Z (λd=>U) (λd=>?_))));refine Z3 6 [0,0,0,1,p,p] [] H Z U (Ad Z (AY Z Z J (AB (H.cel 1 Z p (cnL_at _ U)))) (Z1 6 [0] [(C p:Int)+1] Z U (Ag Z (λe=>?_) (λe=>?_))))
 ·refine Zc 6 Z (Zr Z ?_);exact ⟨_,⟨Z,Z⟩,H⟩
 (exfalso;omega)
set_option maxHeartbeats 2000000 in
theorem P5 (k d:Nat) (s:Sup) (a q u:Int) (n m:Nat) (F:Nat->List UInt8) (hs:(0<=s.start/\s.start<=1099511627776)/\0<s.len/\s.len<=1099511627776) (v:Value) (es:List ImE) (A:Ah) (o:∀h,A h->rdH 3 v es.length (Bq es) h/\∀e∈es,rdH 1 e.2 240 (e.1.body.map u8) h) (b:∀e∈es,e.1.Ok) (y:1<=es.length/\es.length<=40) (c:∀(j i:Nat) (e f:ImE),j<i->es[j]?=some e->es[i]?=some f->e.1.num≠f.1.num) (hu:0<=u/\u<=1099511627776) (g:s.len<u+1+es.length):Aj 161 [V k,v] [blk k [V d,Aa s.gen,Aa s.epoch,Aa s.pages,Aa s.start,Aa s.len,Aa s.head,Aa s.seq,Aa a,Aa q,Aa u,.bool false] 249,rdkA d n F m,A] (λv G=>v=Aa 15/\G=[blk k [V d,Aa s.gen,Aa s.epoch,Aa s.pages,Aa s.start,Aa s.len,Aa s.head,Aa s.seq,Aa a,Aa q,Aa u,.bool false] 249,rdkA d n F m,A]):=by
 intro z R w H;replace H:=H.l3;obtain ⟨ao,oc,rfl⟩:=H.sy 2 (λq=>(o _ q).1.slc);have l:∀m∈(es.map Prod.fst),m.Ok:=λm r=>by obtain ⟨e,t,rfl⟩:=AbP.1 r;exact b e t
 refine Ac func161 Z ntmps161 Z (Z0 13 [0] Z (Ag Z (λx=>U) (λx=>?_)));refine Zc 6 Z (Ai Z (call190 _) (Nq _ es _ o b U c) H.f2 ?_);intro w H;refine Z3 24 [11,1,0] [((1+es.length:Nat):Int)] H Z U (Ai Z (call191 _) (KV _ _ _ _ _ _ hs U) H.f1 ?_);intro w H;refine Z0 3 [0] Z (Ak 28 Z (λp=>?_) (λp=>?_))
 ·refine Zc 23 Z (Zr Z ?_);exact ⟨_,⟨Z,Z⟩,H.pick 3 [0,2,1] Z⟩
 (exfalso;omega)
set_option maxHeartbeats 4000000 in
theorem P6 (y g:Nat) (s:Sup) (a q u:Int) (n m:Nat) (a5:m<=900000000) (a6:n<=4096) (F:Nat->List UInt8) (hs:(0<=s.start/\s.start<=1099511627776)/\0<s.len/\s.len<=1099511627776) (a2:0<=s.epoch/\s.epoch<4294967296) (a3:0<=q/\q<1099511627776) (v:Value) (es:List ImE) (A:Ah) (hA:∀h,A h->rdH 3 v es.length (Bq es) h/\∀e∈es,rdH 1 e.2 240 (e.1.body.map u8) h) (b:∀e∈es,e.1.Ok) (hn:1<=es.length/\es.length<=40) (t:∀(j i:Nat) (e f:ImE),j<i->es[j]?=some e->es[i]?=some f->e.1.num≠f.1.num) (ha:0<=a/\a<s.len/\s.len<a+1+es.length) (hu:0<=u/\u+1+es.length<=s.len) (a4:s.start+s.len<=n):Aj 161 [V y,v] [blk y [V g,Aa s.gen,Aa s.epoch,Aa s.pages,Aa s.start,Aa s.len,Aa s.head,Aa s.seq,Aa a,Aa q,Aa u,.bool false] 249,rdkA g n F m,A] (λv G=>v=Aa 0/\G=[blk y [V g,Aa s.gen,Aa s.epoch,Aa s.pages,Aa s.start,Aa s.len,Aa s.head,Aa s.seq,Aa ((a+((1+es.length:Nat):Int))%s.len),Aa (q+1),Aa (u+((1+es.length:Nat):Int)),.bool false] 249,rdkA g n (Ey (Ey F (s.start+a).toNat ((sect (Bv s.epoch q (es.map Prod.fst))++AF s.epoch q (es.map Prod.fst)).take (256*(s.len-a).toNat)) (s.len-a).toNat) s.start.toNat ((sect (Bv s.epoch q (es.map Prod.fst))++AF s.epoch q (es.map Prod.fst)).drop (256*(s.len-a).toNat)) (1+es.length-(s.len-a).toNat)) (m+(s.len-a).toNat+(1+es.length-(s.len-a).toNat)),A]):=by
 intro z R w H;replace H:=H.l3;obtain ⟨ao,oc,rfl⟩:=H.sy 2 (λq=>(hA _ q).1.slc);have k:∀m∈(es.map Prod.fst),m.Ok:=λm hm=>by obtain ⟨e,h9,rfl⟩:=AbP.1 hm;exact b e h9
 obtain ⟨f,hf⟩:∃f,f=(s.len-a).toNat:=⟨_,Z⟩;refine Ac func161 Z ntmps161 Z (Z0 13 [0] Z (Ag Z (λh1=>U) (λh1=>?_)));refine Zc 6 Z (Ai Z (call190 _) (Nq _ es _ hA b U t) H.f2 ?_);intro w H;refine Z3 24 [11,1,0] [((1+es.length:Nat):Int)] H Z U (Ai Z (call191 _) (KV _ _ _ _ _ _ hs U) H.f1 ?_);intro w H;refine Z0 3 [0] Z (Ak 28 Z (λh2=>U) (λh2=>?_));refine Z2 8 [1,2,0,0,0] H Z (Ak 36 Z (λh3=>U) (λh3=>?_));refine Z2 8 [9,0,0,0] H Z (Ag Z (λh4=>U) (λh4=>?_));refine Zc 6 Z (AA Z (call192 _) (LD _ _ _ _ _ _ a2 a3 _ es _ hA b U) H ?_);rintro rv w _ ⟨_,rfl,rfl⟩ H;replace H:=H.l4;refine Zc 4 Z ?_;have d:(sect (Bv s.epoch q (es.map Prod.fst))++AF s.epoch q (es.map Prod.fst)).length=(256*(1+es.length)):=by rw[AbH,sect_len (hdL_le (by rw[AbN];omega)),DK k,AbN];omega
 obtain ⟨gb,x,rest,a1,c1,c2,c3,c⟩:=H.ungrow 0 Z U;subst a1;clear H;have H:=c.l4;rw[d] at c1 c3;have a0:((sect (Bv s.epoch q (es.map Prod.fst))++AF s.epoch q (es.map Prod.fst)).take (256*f)).length=256*f:=by rw[AbM,d];omega
 have o:((sect (Bv s.epoch q (es.map Prod.fst))++AF s.epoch q (es.map Prod.fst)).drop (256*f)).length=256*(1+es.length-f):=by rw[Acc,d];omega
 refine Bd (Sep z _) J J H.drew (FT 11 [1,5,1,0,8,1,0] [s.len-a] Z J U (Bn Z Z Z (LR Z Z Z) (Cm 1 [] Z J (Bu (λw c=>?_)))));have H:=c.l4;refine gn (Zc 2 Z (k_updA 7 (v:=Aa (f:Int)) Z (congrArg Aa U) ?_));replace H:=H.f1;refine AK (Sep z (blk y [V g,Aa s.gen,Aa s.epoch,Aa s.pages,Aa s.start,Aa s.len,Aa s.head,Aa s.seq,Aa a,Aa q,Aa u,.bool false] 249::R)) 16 Z J (A4 H λw c=>?_);have H:=c.l4;refine A6 [0,1,2,3,4,5,6,7,8,10,11] [0,0,8,0] J (λ_ hx=>(AQ (hx.blk 0 Z) AJ)) (by exact H.pick 4 [0] Z) Z J Z Z (AR 12 J Z Z J J J Z Z Z (GQ Z Z Z (r:=((256*f:Nat):Int)) U U) (H.pick 4 [0] Z) (AR 13 J Z Z J J J Z Z Z (Bj Z (z:=1) (p:=0) (q:=(256*f)) (o':=0) (l':=(256*f)) (c':=x) J Z (.inl ⟨Z,Z⟩) (.inr ⟨_,_,_,Z,Z,Z⟩) U U U U U U) (H.pick 4 [0] Z) (An [9] J O (Ar (Ba Z Z Z Z Z Z (λw=>call186 _ w) (FN _ _ _ _ _ _ hs a U) H Z ?_)))));rintro _ w _ ⟨rfl,rfl⟩ H;replace H:=H.l4;refine Am (λ_=>(H.pick 4 [0] Z)) (An [14] J O (Ar (k_updA 67 (v:=Aa (((s.start+a).toNat:Nat):Int)) Z (congrArg Aa (by rw[AcG U U];omega)) (Ba Z Z Z Z Z Z (λw=>call149 _ w) (Fz _ n _ U _ ((s.start+a).toNat) f false _ ((sect (Bv s.epoch q (es.map Prod.fst))++AF s.epoch q (es.map Prod.fst)).take (256*f)) _ (λh q=>by rw[a0];exact q.rd U U (by rw[AbH,AbN];omega) (by rw[Ab1,AcD,AbR (by rw[AbN];omega),Adt])) a0 U U) H.f1.f3 Z ?_))));rintro _ w _ ⟨rfl,rfl⟩ H;replace H:=H.l4;refine Am (λ_=>(H.pick 4 [2] Z)) (An [15] J O (Ar (B5 Z Z Z Z (AS Z Z) (Am (λh=>absurd Z h) (AT J (gn (Z0 13 [3,0] Z (Ag Z (λh5=>?_) (λh5=>?_)))))))))
 ·replace H:=H.f2;refine AK (Sep z (blk y [V g,Aa s.gen,Aa s.epoch,Aa s.pages,Aa s.start,Aa s.len,Aa s.head,Aa s.seq,Aa a,Aa q,Aa u,.bool false] 249::R)) 12 Z J (A4 H λw c=>?_)
  have H:=c.l4;refine A6 [0,1,2,3,4,6,7] [0,0] J (λ_ hx=>(AQ (hx.blk 0 Z) AJ)) (by exact H.pick 4 [0] Z) Z J Z Z (AR 8 J Z Z J J J Z Z Z (GQ Z Z Z (r:=((256*f:Nat):Int)) U U) (H.pick 4 [0] Z) (AR 9 J Z Z J J J Z Z Z (Bj Z (z:=1) (p:=(256*f)) (q:=(sect (Bv s.epoch q (es.map Prod.fst))++AF s.epoch q (es.map Prod.fst)).length) (o':=256*f) (l':=(256*(1+es.length-f))) (c':=x-256*f) J Z (.inr ⟨_,_,_,Z,Z,Z⟩) (.inl ⟨Z,Z⟩) U U U U U U) (H.pick 4 [0] Z) (An [5] J O (Ar (Ba Z Z Z Z Z Z (λw=>call186 _ w) (FN _ _ _ _ _ _ hs 0 U) H Z ?_)))));rintro _ w _ ⟨rfl,rfl⟩ H;replace H:=H.l4;refine Am (λ_=>(H.pick 4 [0] Z)) (An [10] J O (Ar (k_updA 85 (v:=Aa ((s.start.toNat:Nat):Int)) Z (congrArg Aa (by rw[Int.zero_emod];omega)) (Ba Z Z Z Z Z Z (λw=>call149 _ w) (Fz _ n _ U _ (s.start.toNat) (1+es.length-f) false _ ((sect (Bv s.epoch q (es.map Prod.fst))++AF s.epoch q (es.map Prod.fst)).drop (256*f)) _ (λh q=>by rw[o];exact q.rd (off:=256*f) (l:=256*(1+es.length-f)) U U (by rw[AbH,AbN];omega) (by rw[AcD,Ace (by rw[AbN];omega),Acs (by rw[Acc,AbN];omega),Aeu])) o U U) H.f2.f2 Z ?_))));rintro _ w _ ⟨rfl,rfl⟩ H;replace H:=H.l4;refine Am (λ_=>(H.pick 4 [2] Z)) (An [11] J O (Ar (B5 Z Z Z Z (AS Z Z) (Am (λh=>absurd Z h) (AT J (gn (Z0 15 [4] Z (Ai Z (call189 _) (Ip _ _ _ _ _ _ hs ((1+es.length:Nat):Int) U U U U) H.f2 ?_))))))));intro w H;refine Zc 8 Z (Zr Z ?_);subst hf;exact ⟨_,⟨Z,Z⟩,H.pick 4 [0,1,3] Z⟩
 (exfalso;omega)
theorem Yi(b c:Nat)(s:Sup)(a q u:Int):Aj 193 [V b] [blk b [V c,Aa s.gen,Aa s.epoch,Aa s.pages,Aa s.start,Aa s.len,Aa s.head,Aa s.seq,Aa a,Aa q,Aa u,.bool false] 249] (λv G=>v=.tuple #[Aa a,Aa q]/\G=[blk b [V c,Aa s.gen,Aa s.epoch,Aa s.pages,Aa s.start,Aa s.len,Aa s.head,Aa s.seq,Aa a,Aa q,Aa u,.bool false] 249]):=by
 intro z R w H;replace H:=H.l1;refine Ac func193 Z ntmps193 Z (Zc 7 Z (Bd (Sep z _) J J H.drew (E7 10 [8,0,9,0] (λ_ d=>(AQ (d.blk 0 Z) AJ)) Z J Z (Bu (λw e=>?_)))));have H:=e.l1;refine gn (Zc 2 Z (Zr Z ?_));exact ⟨_,⟨Z,Z⟩,H.pick 1 [0] Z⟩
theorem Yj(b c:Nat)(s:Sup)(a q u:Int):Aj 194 [V b] [blk b [V c,Aa s.gen,Aa s.epoch,Aa s.pages,Aa s.start,Aa s.len,Aa s.head,Aa s.seq,Aa a,Aa q,Aa u,.bool false] 249] (λv G=>v=.tuple #[]/\G=[blk b [V c,Aa s.gen,Aa s.epoch,Aa s.pages,Aa s.start,Aa s.len,Aa s.head,Aa s.seq,Aa a,Aa q,Aa 0,.bool false] 249]):=by
 intro z R w H;replace H:=H.l1;refine Ac func194 Z ntmps194 Z (Z4 14 [10,0,11,0] H Z ?_);intro w H;refine Zf Z ?_;exact ⟨_,⟨Z,Z⟩,H.pick 1 [0] Z⟩
theorem K3{F:Nat->List UInt8}{a:Nat}{bs:List UInt8}{j i:Nat}(h:i<a\/a+j<=i):Ey F a bs j i=F i:=by unfold Ey;rw[if_neg U]
theorem Kl(p d:Nat)(s:Sup)(a q u:Int)(n m:Nat)(t:m<=900000000)(k:n<=4096)(F:Nat->List UInt8)(hs:(0<=s.start/\s.start<=1099511627776)/\0<s.len/\s.len<=1099511627776)(l:0<=s.epoch/\s.epoch<4294967296)(r:0<=q/\q<1099511627776)(v:Value)(es:List ImE)(A:Ah)(hA:∀h,A h->rdH 3 v es.length (Bq es) h/\∀e∈es,rdH 1 e.2 240 (e.1.body.map u8) h)(c:∀e∈es,e.1.Ok)(x:1<=es.length/\es.length<=40)(b:∀(j i:Nat) (e f:ImE),j<i->es[j]?=some e->es[i]?=some f->e.1.num≠f.1.num)(w:0<=a/\a<s.len)(z:0<=u/\u+1+es.length<=s.len)(g:s.start+s.len<=n):
  Aj 161 [V p,v] [blk p [V d,Aa s.gen,Aa s.epoch,Aa s.pages,Aa s.start,Aa s.len,Aa s.head,Aa s.seq,Aa a,Aa q,Aa u,.bool false] 249,rdkA d n F m,A] (λv G=>∃(y:Nat->List UInt8) (m2:Nat),((∀i,i<s.start.toNat->y i=F i)/\m2<=m+(1+es.length))/\v=Aa 0/\G=[blk p [V d,Aa s.gen,Aa s.epoch,Aa s.pages,Aa s.start,Aa s.len,Aa s.head,Aa s.seq,Aa ((a+((1+es.length:Nat):Int))%s.len),Aa (q+1),Aa (u+((1+es.length:Nat):Int)),.bool false] 249,rdkA d n y m2,A]):=by
 by_cases h:a+1+es.length<=s.len
 ·exact (LE p d s a q u n m U k F hs l r v es A hA c x b ⟨w.1,h⟩ z g).mono λv Γ o=>⟨_,_,⟨λi hi=>K3 (.inl U),Ab9 _⟩,o.1,o.2⟩
 exact (P6 p d s a q u n m t k F hs l r v es A hA c x b ⟨w.1,w.2,by omega⟩ z g).mono λv Γ o=>⟨_,_,⟨λi hi=>(K3 (.inl U)).trans (K3 (.inl U)),by omega⟩,o.1,o.2⟩
def BW(x:Sup)(a q:Int):Sup:=⟨x.gen+1,x.epoch,x.pages,x.start,x.len,a,q⟩
set_option maxHeartbeats 2000000 in
theorem Sr (ps d f:Nat) (x b:Sup) (a q u:Int) (p:Value) (c:List ImE) (hq:Hp) (k:imP p c hq) (n i:Nat) (a0:i<=900000000) (m:n<=4096) (F:Nat->List UInt8) (t:(0<=b.start/\b.start<=1099511627776)/\0<b.len/\b.len<=1099511627776) (hu:0<=u/\u<=1099511627776) (a3:0<=x.gen/\x.gen<1099511627776) (a2:1<=c.length/\c.length<=1000000) (o:∀e∈c,e.1.num+2<n) (j:(BW x a q).Ok (n:Int)):Aj 162 [V ps] [blk ps [V d,Aa x.gen,Aa x.epoch,Aa x.pages,Aa x.start,Aa x.len,Aa x.head,Aa x.seq,V f,p,.bool false,.slice none 0 0] 128,blk f [V d,Aa b.gen,Aa b.epoch,Aa b.pages,Aa b.start,Aa b.len,Aa b.head,Aa b.seq,Aa a,Aa q,Aa u,.bool false] 249,rdkA d n F i,poolA hq] (λv G=>v=Aa 0/\G=[blk ps [V d,Aa ((BW x a q).gen),Aa ((BW x a q).epoch),Aa ((BW x a q).pages),Aa ((BW x a q).start),Aa ((BW x a q).len),Aa ((BW x a q).head),Aa ((BW x a q).seq),V f,.slice none 0 0,.bool false,.slice none 0 0] 128,blk f [V d,Aa b.gen,Aa b.epoch,Aa b.pages,Aa b.start,Aa b.len,Aa b.head,Aa b.seq,Aa a,Aa q,Aa 0,.bool false] 249,rdkA d n (BE (Eo F c) ((BW x a q).gen%2).toNat (BC (BW x a q))) (i+c.length+1),poolA hq]):=by
 intro z R w H;replace H:=H.l4;obtain ⟨po,l,rfl⟩:=k.slc;refine Ac func162 Z ntmps162 Z (Z2 27 [10,0,0,9,0,0,0] H Z (Ak 17 Z (λh1=>U) (λh1=>?_)));refine Z2 23 [1,1,0,0,0] H Z (Ag Z (λr=>U) (λr=>?_));refine Z2 8 [0,0,0] H Z (Ai Z (call113 _) (HD _ _ _ _) H.f2 ?_);intro w H;refine Za 19 [4,1,1,7] H Z ?_;intro b1 w H;refine Z5 18 [0,0,0,0,0,0,8,2,0] [x.gen+1] H Z U ?_;intro w H;refine Ai Z (call193 _) (Yi _ _ b _ _ _) H.f3 ?_;intro w H;refine Z4 22 [5,1,6,1] H Z ?_;intro w H;obtain ⟨s,hs⟩:∃s:Sup,s=BW x a q:=⟨_,Z⟩;have y:Sep z (blk f [V d,Aa b.gen,Aa b.epoch,Aa b.pages,Aa b.start,Aa b.len,Aa b.head,Aa b.seq,Aa a,Aa q,Aa u,.bool false] 249::blk b1 [Aa s.gen,Aa s.epoch,Aa s.pages,Aa s.start,Aa s.len,Aa s.head,Aa s.seq] 92::rdkA d n F i::blk ps [V d,Aa x.gen,Aa x.epoch,Aa x.pages,Aa x.start,Aa x.len,Aa x.head,Aa x.seq,V f,.slice po c.length l,.bool false,.slice none 0 0] 128::poolA hq::R) w:=by rw[hs];exact H
 clear H;have H:=y.l5;have g:s.Ok (n:Int):=by rw[hs];exact j
 have a1:s.pages=x.pages:=by rw[hs];rfl
 refine Z2 3 [1,7] H Z (Ai Z (call154 _) (LF _ _ x _ _ _ n _ U m F s g _ c (poolA hq) (λh q=>k.rdA q) (λe he=>(k.2 e he).1) U o) H.f4.f3.f4 ?_);intro w H;refine Z2 19 [4,8,0,0] H Z (Ai Z (call194 _) (Yj _ _ b _ _ _) H.f3 ?_);intro w H;refine Zc 8 Z (Zr Z ?_);subst hs;exact ⟨_,⟨Z,Z⟩,H.pick 5 [1,0,2,3] Z⟩
theorem JE(v:Value)(es:List ImE)(A:Ah)(a:∀h,A h->rdH 3 v es.length (Bq es) h/\∀e∈es,rdH 1 e.2 240 (e.1.body.map u8) h)(s:∀e∈es,e.1.Ok)(p:Int)(i:Nat)(m:Img)(g:Option Addr)(l:Nat)(b:es[i]?=some ((m,.slice g 240 l):ImE))(f:m.num=p)(d:∀(j:Nat) (e:ImE),j<i->es[j]?=some e->e.1.num≠p):Aj 83 [v,Aa p] [A] (λv G=>v=.tuple #[.agg #[Aa m.kind,.slice g 240 l],.bool true]/\G=[A]):=by
 intro z R w H;replace H:=H.l1;obtain ⟨ao,oc,rfl⟩:=H.sy 0 (λq=>(a _ q).1.slc);have a1:=H.sy 0 (λq=>(a _ q).1.small);have t:=(AbE.1 b).1;refine Ac func83 Z ntmps83 Z (Za 2 [] H Z ?_);intro o w H;refine Zc 10 Z ?_;refine Ay (σ:=Nat) (λj=>[(6,Aa (j:Int)),(0,.slice ao es.length oc),(1,Aa p),(4,V o)])
   (λj w=>Sep z (blk o [Aa 0,.slice none 0 0] 40::A::R) w/\(j<=i)) (λj=>i-j) 0
   fr_z ⟨H,AbV _⟩ ?_
 clear H;rintro j w ⟨H',n⟩;have H:=H'.l2;have hj:=n;clear n;refine Z0 9 [0] Z (Ag Z (λh1=>?_) (λh1=>?_))
 ·refine Zc 5 Z ?_;have c:=E1 (es:=es) (i:=j) U
  refine Zc 3 Z (Ad Z (Az Z (z:=3) (j:=j) (r:=j*3) J Z Z Z U ((H.rv 1 (λq=>(a _ q).1)).at (A7 c 0 _ Z)) U) (Ad Z (BN Z (k:=0) (r:=j*3) J Z ((H.rv 1 (λq=>(a _ q).1)).at (A7 c 0 _ Z)) Z) (Ad Z (AM Z Z J (AB ((H.rv 1 (λq=>(a _ q).1)).at (A7 c 0 _ Z)))) (Z0 4 [0] Z (Ag Z (λx=>?_) (λx=>?_))))))
  ·obtain rfl:j=i:=AcQ λy=>d j _ U c (by assumption)
   refine Zc 4 Z (Ad Z (Az Z (z:=3) (j:=j) (r:=j*3) J Z Z Z U ((H.rv 1 (λq=>(a _ q).1)).at (A7 c 0 _ Z)) U) (Ad Z (BN Z (k:=1) (r:=j*3+1) J Z ((H.rv 1 (λq=>(a _ q).1)).at (A7 c 0 _ Z)) Z) (Ad Z (BU Z Z (vs:=[Aa m.kind,.slice g 240 l]) J O (AB (λk u hk=>by have h9:=(H.rv 1 (λq=>(a _ q).1)).at (A7 b (1+k) u (by rw[Ady];exact hk));rwa[<-Ac8] at h9))) (Z4 5 [0] H Z ?_))));intro w H;refine Zl [0,2] H Z ?_;exact ⟨_,⟨Z,Z⟩,H.pick 2 [1] Z⟩
  have a0:j<i:=Nat.lt_of_le_of_ne hj (λe=>by subst e;exact absurd ((congrArg (λe:ImE=>e.1.num) (AdV (c.symm.trans b))).trans f) (by assumption));refine Z1 8 [] [(j:Int)+1] Z U (gf ?_);intro _ hF;refine ⟨(j+1),hF.cz,⟨H,?_⟩,?_⟩
  ·omega
  omega
 (exfalso;omega)
theorem P7(ps e:Nat)(x:Sup)(d:Value)(b ov:Value)(p:Int)(hp:0<=p/\p<x.pages)(a:Int)(c:Value)(bs:List UInt8)(B:Ah)(k:∀h,B h->rdH 1 c 240 (bs.map u8) h)(m:a<1\/5<a):Aj 92 [V ps,Aa p,.agg #[Aa a,c]] [blk ps [V e,Aa x.gen,Aa x.epoch,Aa x.pages,Aa x.start,Aa x.len,Aa x.head,Aa x.seq,d,b,.bool true,ov] 128,B] (λv G=>v=Aa 1/\G=[blk ps [V e,Aa x.gen,Aa x.epoch,Aa x.pages,Aa x.start,Aa x.len,Aa x.head,Aa x.seq,d,b,.bool true,ov] 128,B]):=by
 intro z R w H;replace H:=H.l2;obtain ⟨l,n,rfl⟩:=H.sy 1 (λq=>(k _ q).slc);refine Ac func92 Z ntmps92 Z (Za 2 [] H Z ?_);intro o w H;refine Z2 22 [10,1,0,0] H Z (Ak 17 Z (λj=>U) (λj=>?_));refine Z2 10 [1,3,1,0,0] H Z (Ag Z (λf=>U) (λf=>?_));refine Z2 9 [0,0,0,0] H Z (Ak 29 Z (λg=>?_) (λg=>?_))
 ·refine Zc 19 Z (Zr Z ?_);exact ⟨_,⟨Z,Z⟩,H.pick 3 [1,2] Z⟩
 refine Z2 5 [0,0,0,0] H Z (Ak 34 Z (λi=>?_) (λi=>?_))
 ·refine Zc 14 Z (Zr Z ?_);exact ⟨_,⟨Z,Z⟩,H.pick 3 [1,2] Z⟩
 (exfalso;omega)
set_option maxHeartbeats 2000000 in
theorem P9 (ps i:Nat) (x:Sup) (d:Value) (c ov:Value) (own:List ImE) (hq:Hp) (b:imP ov own hq) (y:own.length=40) (m:Img) (f:m.Ok) (p:m.num<x.pages) (a:∀e∈own,e.1.num≠m.num) (g:Value) (B:Ah) (u:∀h,B h->rdH 1 g 240 (m.body.map u8) h):Aj 92 [V ps,Aa m.num,.agg #[Aa m.kind,g]] [blk ps [V i,Aa x.gen,Aa x.epoch,Aa x.pages,Aa x.start,Aa x.len,Aa x.head,Aa x.seq,d,c,.bool true,ov] 128,poolA hq,B] (λv G=>v=Aa 16/\G=[blk ps [V i,Aa x.gen,Aa x.epoch,Aa x.pages,Aa x.start,Aa x.len,Aa x.head,Aa x.seq,d,c,.bool true,ov] 128,poolA hq,B]):=by
 intro z R w H;replace H:=H.l3;obtain ⟨oo,a0,rfl⟩:=b.slc;obtain ⟨bo,bc,rfl⟩:=H.sy 2 (λq=>(u _ q).slc);have j:=f.1;have o:=f.2.1;refine Ac func92 Z ntmps92 Z (Za 2 [] H Z ?_);intro b1 w H;refine Z2 22 [10,1,0,0] H Z (Ak 17 Z (λt=>U) (λt=>?_));refine Z2 10 [1,3,1,0,0] H Z (Ag Z (λk=>U) (λk=>?_));refine Z2 9 [0,0,0,0] H Z (Ak 29 Z (λl=>U) (λl=>?_));refine Z2 5 [0,0,0,0] H Z (Ak 34 Z (λr=>U) (λr=>?_));refine Z2 17 [1,0,0,4,11,1,0] H Z (Ai Z (call83 _) (EO _ own (poolA hq) (λh q=>b.rdA q) (λe n=>(b.2 e n).1) m.num a) H.f2 ?_);intro w H;refine Za 3 [] H Z ?_;intro b2 w H;refine Z4 19 [0,11,3,0,0] H Z ?_;intro w H;refine Ag Z (λs=>?_) (λs=>?_)
 ·refine Zc 6 Z (Zr Z ?_);exact ⟨_,⟨Z,Z⟩,H.pick 5 [3,1,4] Z⟩
 (exfalso;omega)
set_option maxHeartbeats 4000000 in
theorem Qb (ps pr:Nat) (x:Sup) (lp:Value) (pv ov:Value) (own:List ImE) (hq:Hp) (t:imP ov own hq) (b6:own.length<=40) (m:Img) (hm:m.Ok) (b5:m.num<x.pages) (i:Nat) (f:Img) (fv:Value) (p:own[i]?=some ((f,fv):ImE)) (a6:f.num=m.num) (u:∀(j:Nat) (e:ImE),j<i->own[j]?=some e->e.1.num≠m.num) (bv:Value) (B:Ah) (hB:∀h,B h->rdH 1 bv 240 (m.body.map u8) h):Aj 92 [V ps,Aa m.num,.agg #[Aa m.kind,bv]] [blk ps [V pr,Aa x.gen,Aa x.epoch,Aa x.pages,Aa x.start,Aa x.len,Aa x.head,Aa x.seq,lp,pv,.bool true,ov] 128,poolA hq,B] (λv G=>∃(r a3:Value) (l:Hp),BA hq l/\imP r (putI own (m,a3)) l/\v=Aa 0/\G=[blk ps [V pr,Aa x.gen,Aa x.epoch,Aa x.pages,Aa x.start,Aa x.len,Aa x.head,Aa x.seq,lp,pv,.bool true,r] 128,poolA l,B]):=by
 intro z R w H;replace H:=H.l3;obtain ⟨oo,a9,rfl⟩:=t.slc;obtain ⟨bo,bc,rfl⟩:=H.sy 2 (λq=>(hB _ q).slc);have b3:=hm.1;have b4:=hm.2.1;obtain ⟨fo,fc,rfl⟩:Slc fv 240:=by have h9:=(t.2 _ (AbG p));have h8:=h9.2.slc;exact h8
 refine Ac func92 Z ntmps92 Z (Za 2 [] H Z ?_);intro b1 w H;refine Z2 22 [10,1,0,0] H Z (Ak 17 Z (λh1=>U) (λh1=>?_));refine Z2 10 [1,3,1,0,0] H Z (Ag Z (λh2=>U) (λh2=>?_));refine Z2 9 [0,0,0,0] H Z (Ak 29 Z (λh3=>U) (λh3=>?_));refine Z2 5 [0,0,0,0] H Z (Ak 34 Z (λh4=>U) (λh4=>?_));refine Z2 17 [1,0,0,4,11,1,0] H Z (Ai Z (call83 _) (JE _ own (poolA hq) (λh q=>t.rdA q) (λe he=>(t.2 e he).1) m.num _ _ _ _ p a6 u) H.f2 ?_);intro w H;refine Za 3 [] H Z ?_;intro b2 w H;refine Z4 32 [0,1,2,0] H Z ?_;intro w H;replace H:=(H.nilg 5 1).l6;refine AG Z (AO 0 H Z Z J Bf Z Z (H.rd 5 Z hB) (by intro c9 a4;obtain ⟨b9,_,rfl⟩:=AbP.1 a4;rfl) U) ?_;rintro v3 w H';have a8:([]++m.body.map u8:List Value)=m.body.map u8:=(by rw[Ab3]);rw[a8] at H';have H:=H'.l6;have a7:=H.sy 0 (·.slc);refine Zc 4 Z ?_;obtain ⟨c,d,rfl⟩:=a7;replace H:=H.f2;obtain ⟨y,⟨b,a0⟩,H⟩:=BG H (λh q=>q.rd);replace H:=H.l5;have n:=t.le b;have a5:imeOk y ((m,.slice c 240 d):ImE):=⟨hm,a0⟩;replace H:=H.f2.f3;refine AK (Sep z (blk ps [V pr,Aa x.gen,Aa x.epoch,Aa x.pages,Aa x.start,Aa x.len,Aa x.head,Aa x.seq,lp,pv,.bool true,.slice oo own.length a9] 128::blk b1 [Aa m.kind,.slice bo 240 bc] 40::R)) 15 Z J (A4 H λw H'=>?_);have H:=H'.l5;refine A6 [0,1,2,3,4,5,6,7,8] [11,0,0,1] J (λ_ hx=>(AQ (hx.blk 0 Z) (AQ (hx.blk 1 Z) AJ))) (by exact H.pick 5 [0,1] Z) Z J Z Z (AR 9 J Z Z J J J Z Z Z (AX Z Z (out:=[Aa m.kind,.slice c 240 d]) J) (H.pick 5 [0,1] Z) (AR 10 J Z Z J J J Z Z Z (AX Z Z (out:=[Aa m.num,Aa m.kind,.slice c 240 d]) J) (H.pick 5 [0,1] Z) (An [11] J O (Ar (Ba Z Z Z Z Z Z (λw=>call153 _ w) (Gc _ own (poolA y) (λh q=>n.rdA q) (λe he=>(n.2 e he).1) U m _ _) H.f2 Z ?_)))));rintro a2 w _ ⟨_,rfl,rfl⟩ H;replace H:=H.l6;have g:=H.sy 0 (·.slc);refine Am (λ_=>(H.pick 6 [2,3] Z)) (A6 [12,13] [11] J (λ_ _=>AJ) (by exact H.pick 6 [2,3] Z) Z J Z Z (An [14] J O (Ar (B6 Z Z Z (Pp 2 H Z Z Z Z g.cells g.one J) ?_))));rintro w H;replace H:=H.l6;refine Am (λh=>absurd Z h) (AT J (gn ?_));replace H:=H.f1;obtain ⟨s,⟨a,a1⟩,H⟩:=BG H (λh q=>q.rd);replace H:=H.l5;have b0:imP a2 (putI own ((m,.slice c 240 d):ImE)) s:=imP.put n a a5 a1;refine Zc 7 Z (Zr Z ?_);exact ⟨_,⟨_,_,s,λk o e=>a k o (b k o e),b0,Z,Z⟩,H.pick 5 [1,0,4] Z⟩
theorem Ss(ps d:Nat)(x:Sup)(c b ov:Value)(a:Bool)(p:Int)(hp:p<0\/x.pages<=p):Aj 32 [V ps,Aa p] [blk ps [V d,Aa x.gen,Aa x.epoch,Aa x.pages,Aa x.start,Aa x.len,Aa x.head,Aa x.seq,c,b,.bool a,ov] 128] (λv G=>v=.tuple #[.agg #[Aa 0,.slice none 0 0],Aa 2]/\G=[blk ps [V d,Aa x.gen,Aa x.epoch,Aa x.pages,Aa x.start,Aa x.len,Aa x.head,Aa x.seq,c,b,.bool a,ov] 128]):=by
 intro z R w H;replace H:=H.l1;refine Ac func32 Z ntmps32 Z (Za 2 [] H Z ?_);intro g w H;refine Z0 9 [0] Z (Ak 13 Z (λf=>?_) (λf=>?_))
 ·refine Z4 19 [0] H Z ?_;intro w H;refine Zl [0,2] H Z ?_;exact ⟨_,⟨Z,Z⟩,H.pick 2 [1] Z⟩
 refine Z2 10 [1,3,1,0,0] H Z (Ag Z (λe=>?_) (λe=>?_))
 ·refine Z4 8 [0] H Z ?_;intro w H;refine Zl [0,2] H Z ?_;exact ⟨_,⟨Z,Z⟩,H.pick 2 [1] Z⟩
 (exfalso;omega)
set_option maxHeartbeats 1000000 in
theorem St (ps r:Nat) (x:Sup) (k b ov:Value) (l:Bool) (own g:List ImE) (hq:Hp) (f:imP ov own hq) (t:imP b g hq) (p:Int) (hp:0<=p/\p<x.pages) (i:Nat) (m:Img) (n:Option Addr) (o:Nat) (c:own[i]?=some ((m,.slice n 240 o):ImE)) (d:m.num=p) (a:∀(j:Nat) (e:ImE),j<i->own[j]?=some e->e.1.num≠p):Aj 32 [V ps,Aa p] [blk ps [V r,Aa x.gen,Aa x.epoch,Aa x.pages,Aa x.start,Aa x.len,Aa x.head,Aa x.seq,k,b,.bool l,ov] 128,poolA hq] (λv G=>v=.tuple #[.agg #[Aa m.kind,.slice n 240 o],Aa 0]/\G=[blk ps [V r,Aa x.gen,Aa x.epoch,Aa x.pages,Aa x.start,Aa x.len,Aa x.head,Aa x.seq,k,b,.bool l,ov] 128,poolA hq]):=by
 intro z R w H;replace H:=H.l2;obtain ⟨oo,a0,rfl⟩:=f.slc;obtain ⟨po,y,rfl⟩:=t.slc;refine Ac func32 Z ntmps32 Z (Za 2 [] H Z ?_);intro b1 w H;refine Z0 9 [0] Z (Ak 13 Z (λh1=>U) (λh1=>?_));refine Z2 10 [1,3,1,0,0] H Z (Ag Z (λs=>U) (λs=>?_));refine Z2 9 [11,1,0] H Z (Ai Z (call83 _) (JE _ own (poolA hq) (λh q=>f.rdA q) (λe u=>(f.2 e u).1) p _ _ _ _ c d a) H.f2 ?_);intro w H;refine Za 3 [] H Z ?_;intro b2 w H;refine Z4 19 [0,0,2,2] H Z ?_;intro w H;refine Zl [2,2] H Z ?_;exact ⟨_,⟨Z,Z⟩,H.pick 4 [3,1] Z⟩
set_option maxHeartbeats 1000000 in
theorem Su (ps u:Nat) (x:Sup) (o c ov:Value) (r:Bool) (own a:List ImE) (hq:Hp) (n:imP ov own hq) (f:imP c a hq) (p:Int) (hp:0<=p/\p<x.pages) (k:∀e∈own,e.1.num≠p) (i:Nat) (m:Img) (s:Option Addr) (t:Nat) (d:a[i]?=some ((m,.slice s 240 t):ImE)) (l:m.num=p) (b:∀(j:Nat) (e:ImE),j<i->a[j]?=some e->e.1.num≠p):Aj 32 [V ps,Aa p] [blk ps [V u,Aa x.gen,Aa x.epoch,Aa x.pages,Aa x.start,Aa x.len,Aa x.head,Aa x.seq,o,c,.bool r,ov] 128,poolA hq] (λv G=>v=.tuple #[.agg #[Aa m.kind,.slice s 240 t],Aa 0]/\G=[blk ps [V u,Aa x.gen,Aa x.epoch,Aa x.pages,Aa x.start,Aa x.len,Aa x.head,Aa x.seq,o,c,.bool r,ov] 128,poolA hq]):=by
 intro z R w H;replace H:=H.l2;obtain ⟨oo,a1,rfl⟩:=n.slc;obtain ⟨po,a0,rfl⟩:=f.slc;refine Ac func32 Z ntmps32 Z (Za 2 [] H Z ?_);intro b1 w H;refine Z0 9 [0] Z (Ak 13 Z (λh1=>U) (λh1=>?_));refine Z2 10 [1,3,1,0,0] H Z (Ag Z (λy=>U) (λy=>?_));refine Z2 9 [11,1,0] H Z (Ai Z (call83 _) (EO _ own (poolA hq) (λh q=>n.rdA q) (λe g=>(n.2 e g).1) p k) H.f2 ?_);intro w H;refine Za 3 [] H Z ?_;intro b2 w H;refine Z4 20 [0,9,3,0] H Z ?_;intro w H;refine Ai Z (call83 _) (JE _ a (poolA hq) (λh q=>f.rdA q) (λe g=>(f.2 e g).1) p _ _ _ _ d l b) H.f1 ?_;intro w H;refine Z4 22 [1,1,2,2] H Z ?_;intro w H;refine Zl [2,2] H Z ?_;exact ⟨_,⟨Z,Z⟩,H.pick 4 [3,0] Z⟩
set_option maxHeartbeats 1000000 in
theorem Sv (ps b:Nat) (x:Sup) (k c ov:Value) (m:Bool) (own a:List ImE) (hq:Hp) (j:imP ov own hq) (d:imP c a hq) (p:Int) (hp:0<=p/\p<x.pages) (g:∀e∈own,e.1.num≠p) (i:∀e∈a,e.1.num≠p) (n l:Nat) (F:Nat->List UInt8) (u:x.pages+2<=n) (s:n<=4096) (t:F (2+p).toNat=List.replicate 256 0):Aj 32 [V ps,Aa p] [blk ps [V b,Aa x.gen,Aa x.epoch,Aa x.pages,Aa x.start,Aa x.len,Aa x.head,Aa x.seq,k,c,.bool m,ov] 128,rdkA b n F l,poolA hq] (λv G=>v=.tuple #[.agg #[Aa 0,.slice none 0 0],Aa 0]/\G=[blk ps [V b,Aa x.gen,Aa x.epoch,Aa x.pages,Aa x.start,Aa x.len,Aa x.head,Aa x.seq,k,c,.bool m,ov] 128,rdkA b n F l,poolA hq]):=by
 intro z R w H;replace H:=H.l3;obtain ⟨oo,a0,rfl⟩:=j.slc;obtain ⟨po,r,rfl⟩:=d.slc;refine Ac func32 Z ntmps32 Z (Za 2 [] H Z ?_);intro b1 w H;refine Z0 9 [0] Z (Ak 13 Z (λy=>U) (λy=>?_));refine Z2 10 [1,3,1,0,0] H Z (Ag Z (λo=>U) (λo=>?_));refine Z2 9 [11,1,0] H Z (Ai Z (call83 _) (EO _ own (poolA hq) (λh q=>j.rdA q) (λe f=>(j.2 e f).1) p g) H.f3 ?_);intro w H;refine Za 3 [] H Z ?_;intro b2 w H;refine Z4 20 [0,9,3,0] H Z ?_;intro w H;refine Ai Z (call83 _) (EO _ a (poolA hq) (λh q=>d.rdA q) (λe f=>(d.2 e f).1) p i) H.f1 ?_;intro w H;refine Z5 24 [1,0,3,0] [2+p] H Z U ?_;intro w H;refine k_updA 51 (v:=Aa (((2+p).toNat:Nat):Int)) Z (congrArg Aa U) (AA Z (call84 _) (Hb _ _ _ _ ((2+p).toNat) U) H.f4 ?_);rintro _ w _ ⟨u9,rfl,rfl⟩ H;replace H:=H.l6;rw[t] at H;refine Z0 21 [4] Z (Ai Z (call85 _) (N1 _ (List.replicate 256 (0:UInt8)) _ (λh q=>q.rd) _ Z) H ?_);intro w H;refine Z4 25 [3,3,2,4] H Z ?_;intro w H;refine Zl [4,2] H Z ?_;exact ⟨_,⟨Z,Z⟩,H.pick 6 [5,1,2] Z⟩
theorem Qc(ps c:Nat)(x:Sup)(b:Value)(a ov:Value):Aj 90 [V ps] [blk ps [V c,Aa x.gen,Aa x.epoch,Aa x.pages,Aa x.start,Aa x.len,Aa x.head,Aa x.seq,b,a,.bool true,ov] 128] (λv G=>v=Aa 17/\G=[blk ps [V c,Aa x.gen,Aa x.epoch,Aa x.pages,Aa x.start,Aa x.len,Aa x.head,Aa x.seq,b,a,.bool true,ov] 128]):=by
 intro z R w H;replace H:=H.l1;refine Ac func90 Z ntmps90 Z (Z2 21 [10,0,0] H Z (Zr Z ?_));exact ⟨_,⟨Z,Z⟩,H.pick 1 [0] Z⟩
theorem Sw(ps c:Nat)(x:Sup)(b:Value)(a ov:Value):Aj 59 [V ps] [blk ps [V c,Aa x.gen,Aa x.epoch,Aa x.pages,Aa x.start,Aa x.len,Aa x.head,Aa x.seq,b,a,.bool true,ov] 128] (λv G=>v=Aa 17/\G=[blk ps [V c,Aa x.gen,Aa x.epoch,Aa x.pages,Aa x.start,Aa x.len,Aa x.head,Aa x.seq,b,a,.bool true,ov] 128]):=by
 intro z R w H;replace H:=H.l1;refine Ac func59 Z ntmps59 Z (Z2 21 [10,0,0] H Z (Zr Z ?_));exact ⟨_,⟨Z,Z⟩,H.pick 1 [0] Z⟩
theorem N6(ps c:Nat)(x:Sup)(b:Value)(a ov:Value)(d:Slc ov 0):Aj 97 [V ps] [blk ps [V c,Aa x.gen,Aa x.epoch,Aa x.pages,Aa x.start,Aa x.len,Aa x.head,Aa x.seq,b,a,.bool true,ov] 128] (λv G=>v=Aa 0/\G=[blk ps [V c,Aa x.gen,Aa x.epoch,Aa x.pages,Aa x.start,Aa x.len,Aa x.head,Aa x.seq,b,a,.bool false,.slice none 0 0] 128]):=by
 intro z R w H;replace H:=H.l1;obtain ⟨f,e,rfl⟩:=d;refine Ac func97 Z ntmps97 Z (Z2 30 [10,0,0,11,0,0] H Z (Ai Z (call67 _) (FO _ _ _ _ _ _ _) H ?_));intro w H;refine Z0 17 [3] Z (Zr Z ?_);exact ⟨_,⟨Z,Z⟩,H.pick 1 [0] Z⟩
set_option maxHeartbeats 2000000 in
theorem N7 (ps s pl:Nat) (x b:Sup) (pv ov:Value) (a q u:Int) (own d:List ImE) (hq:Hp) (hO:imP ov own hq) (hI:imP pv d hq) (n m9:Nat) (c2:m9<=800000000) (b3:n<=4096) (F:Nat->List UInt8) (b1:(0<=b.start/\b.start<=1099511627776)/\0<b.len/\b.len<=1099511627776) (b6:0<=b.epoch/\b.epoch<4294967296) (b5:0<=q/\q<1099511627776) (hn:1<=own.length/\own.length<=40) (b0:d.length<=100000) (a4:∀(j i:Nat) (e f:ImE),j<i->own[j]?=some e->own[i]?=some f->e.1.num≠f.1.num) (ha:0<=a/\a<b.len) (c1:b.start+b.len<=n) (hu:0<=u/\u+1+own.length<=b.len):Aj 97 [V ps] [blk ps [V s,Aa x.gen,Aa x.epoch,Aa x.pages,Aa x.start,Aa x.len,Aa x.head,Aa x.seq,V pl,pv,.bool true,ov] 128,blk pl [V s,Aa b.gen,Aa b.epoch,Aa b.pages,Aa b.start,Aa b.len,Aa b.head,Aa b.seq,Aa a,Aa q,Aa u,.bool false] 249,rdkA s n F m9,poolA hq] (λv G=>∃(g:Value) (c:Hp) (F2:Nat->List UInt8) (m2:Nat),BA hq c/\imP g (Cl d own) c/\(∀i,i<b.start.toNat->F2 i=F i)/\m2<=m9+d.length+50/\v=Aa 0/\G=[blk ps [V s,Aa x.gen,Aa x.epoch,Aa x.pages,Aa x.start,Aa x.len,Aa x.head,Aa x.seq,V pl,g,.bool false,.slice none 0 0] 128,blk pl [V s,Aa b.gen,Aa b.epoch,Aa b.pages,Aa b.start,Aa b.len,Aa b.head,Aa b.seq,Aa ((a+((1+own.length:Nat):Int))%b.len),Aa (q+1),Aa (u+((1+own.length:Nat):Int)),.bool false] 249,rdkA s n F2 m2,poolA c]):=by
 intro z R w H;replace H:=H.l4;obtain ⟨oo,b8,rfl⟩:=hO.slc;obtain ⟨po,b2,rfl⟩:=hI.slc;refine Ac func97 Z ntmps97 Z (Z2 30 [10,0,0,11,0,0] H Z (Ai Z (call67 _) (FO _ _ _ _ _ _ _) H ?_));intro w H;refine Z0 10 [0] Z (Ag Z (λh1=>U) (λh1=>?_));refine Z2 9 [8,0,0] H Z (AA Z (call161 _) (Kl _ _ b _ _ _ n _ U b3 _ b1 b6 b5 _ own (poolA hq) (λh q=>hO.rdA q) (λe t=>(hO.2 e t).1) hn a4 ha U U) H.f3.f3.f3 ?_);rintro _ w _ ⟨F2,m2,⟨a7,c0⟩,rfl,rfl⟩ H;refine Z0 30 [4,4] Z ?_;refine Ay (σ:=Nat×Value×Hp) (λ⟨i,g,c⟩=>[(5,Aa (i:Int)),(0,V ps),(2,Aa 0),(3,.slice oo own.length b8)])
   (λ⟨i,g,c⟩ w=>Sep z (blk pl [V s,Aa b.gen,Aa b.epoch,Aa b.pages,Aa b.start,Aa b.len,Aa b.head,Aa b.seq,Aa ((a+((1+own.length:Nat):Int))%b.len),Aa (q+1),Aa (u+((1+own.length:Nat):Int)),.bool false] 249::rdkA s n F2 m2::poolA c::blk ps [V s,Aa x.gen,Aa x.epoch,Aa x.pages,Aa x.start,Aa x.len,Aa x.head,Aa x.seq,V pl,g,.bool false,.slice none 0 0] 128::R) w/\(i<=own.length/\BA hq c/\imP g (Cl d (own.take i)) c/\(Cl d (own.take i)).length<=100000+i)) (λ⟨i,g,c⟩=>own.length-i) ⟨0,.slice po d.length b2,hq⟩
   fr_z ⟨H,⟨AbV _,λk o e=>e,hI,by first|exact AbV _|simpa [Cl] using b0⟩⟩ ?_
 clear H;rintro ⟨i,g,c⟩ w ⟨H',hI⟩;dsimp only at hI H' ⊢;have H:=H'.l4;obtain ⟨hi,a1,l,b9⟩:=hI;refine Z0 9 [0] Z (Ag Z (λh2=>?_) (λh2=>?_))
 ·refine Zc 4 Z ?_;have t:=E1 (es:=own) (i:=i) U
  have a2:=hO.le a1;have a3:=a2.2 _ (AbG t);obtain ⟨bo,bc,a0⟩:Slc (own.getD i HE).2 240:=by have h9:=a3.2.slc;exact h9
  obtain ⟨⟨m,bv⟩,a8⟩:∃e:ImE,own.getD i HE=e:=⟨_,Z⟩;rw[a8] at t a3 a0;dsimp only at a0;subst a0;obtain ⟨b4,a9,rfl⟩:=l.slc;replace H:=H.f2.f3;refine AK (Sep z (blk ps [V s,Aa x.gen,Aa x.epoch,Aa x.pages,Aa x.start,Aa x.len,Aa x.head,Aa x.seq,V pl,.slice b4 ((Cl d (own.take i)).length) a9,.bool false,.slice none 0 0] 128::poolA c::R)) 13 Z J (A4 H λw H'=>?_);have H:=H'.l4;refine A6 [0,1,2,3,4,5,6] [9,0] J (λ_ hx=>(AQ (hx.blk 0 Z) AJ)) (by exact H.pick 4 [0,1] Z) Z J Z Z (AR 7 J Z Z J J J Z Z Z (Az Z (z:=3) (j:=i) (r:=i*3) J Z Z Z U ((H.rv 1 (λq=>(a2.rdA q).1)).at (A7 t 0 _ Z)) U) (H.pick 4 [0,1] Z) (AR 8 J Z Z J J J Z Z Z (BU Z Z (vs:=[Aa m.num,Aa m.kind,.slice bo 240 bc]) J O (λ_ hs k u hk=>(hs.rv 1 (λq=>(a2.rdA q).1)).at (A7 t k u hk))) (H.pick 4 [0,1] Z) (An [9] J O (Ar (Ba Z Z Z Z Z Z (λw=>call153 _ w) (Gc _ (Cl d (own.take i)) (poolA c) (λh q=>l.rdA q) (λe t=>(l.2 e t).1) U m _ _) H.f1 Z ?_)))));rintro a5 w _ ⟨_,rfl,rfl⟩ H;replace H:=H.l5;have y:=H.sy 0 (·.slc);refine Am (λ_=>(H.pick 5 [2,1] Z)) (A6 [10,11] [9] J (λ_ _=>AJ) (by exact H.pick 5 [2,1] Z) Z J Z Z (An [12] J O (Ar (B6 Z Z Z (Ma 2 H Z Z Z Z y.cells y.one J) ?_))));rintro w H;replace H:=H.l5;refine Am (λh=>absurd Z h) (AT J (gn ?_));replace H:=H.f1;obtain ⟨c,⟨p,a6⟩,H⟩:=BG H (λh q=>q.rd);replace H:=H.l4;have b7:imP a5 (putI (Cl d (own.take i)) ((m,.slice bo 240 bc):ImE)) c:=imP.put l p a3 a6;refine Z1 7 [] [(i:Int)+1] Z U ?_;replace H:=H.f1.f1.f3.f3;refine gf ?_;intro _ hF;refine ⟨⟨i+1,a5,c⟩,hF.cz,⟨H,?_⟩,?_⟩
  ·exact ⟨by show i+1<=own.length;omega,λk o e=>p k o (a1 k o e),by rw[Hc t];exact b7,by rw[Hc t];exact AdZ (putI_len _ _) U⟩
  (dsimp only;omega)
 refine Zc 2 Z (gx (Zc 8 Z (Zr Z ?_)));rw[show own.take i=own from AbJ U] at l;exact ⟨_,⟨g,c,F2,m2,a1,l,a7,by omega,Z,Z⟩,H.pick 4 [3,0,1,2] Z⟩
set_option maxHeartbeats 2000000 in
theorem N8 (ps t pl:Nat) (x b:Sup) (pv ov:Value) (a q u:Int) (own g:List ImE) (hq:Hp) (hO:imP ov own hq) (hI:imP pv g hq) (n m9:Nat) (c9:m9<=800000000) (a9:n<=4096) (F:Nat->List UInt8) (a3:(0<=b.start/\b.start<=1099511627776)/\0<b.len/\b.len<=1099511627776) (c1:0<=b.epoch/\b.epoch<4294967296) (c0:0<=q/\q<1099511627776) (hn:1<=own.length/\own.length<=40) (b6:g.length<=100000) (y:∀(j i:Nat) (e f:ImE),j<i->own[j]?=some e->own[i]?=some f->e.1.num≠f.1.num) (ha:0<=a/\a<b.len) (c7:b.start+b.len<=n) (hu:0<=u/\u<=b.len) (a2:b.len<u+1+own.length) (c4:64<=b.len) (b8:0<=x.gen/\x.gen<1099511627776) (b0:1<=g.length/\g.length<=1000000) (b9:∀e∈g,e.1.num+2<n) (b3:(BW x a q).Ok (n:Int)):Aj 97 [V ps] [blk ps [V t,Aa x.gen,Aa x.epoch,Aa x.pages,Aa x.start,Aa x.len,Aa x.head,Aa x.seq,V pl,pv,.bool true,ov] 128,blk pl [V t,Aa b.gen,Aa b.epoch,Aa b.pages,Aa b.start,Aa b.len,Aa b.head,Aa b.seq,Aa a,Aa q,Aa u,.bool false] 249,rdkA t n F m9,poolA hq] (λv G=>∃(d:Value) (c:Hp) (F2:Nat->List UInt8) (m2:Nat),BA hq c/\imP d (Cl [] own) c/\(∀i,i<b.start.toNat->F2 i=(BE (Eo F g) ((BW x a q).gen%2).toNat (BC (BW x a q))) i)/\m2<=m9+g.length+50/\v=Aa 0/\G=[blk ps [V t,Aa ((BW x a q).gen),Aa ((BW x a q).epoch),Aa ((BW x a q).pages),Aa ((BW x a q).start),Aa ((BW x a q).len),Aa ((BW x a q).head),Aa ((BW x a q).seq),V pl,d,.bool false,.slice none 0 0] 128,blk pl [V t,Aa b.gen,Aa b.epoch,Aa b.pages,Aa b.start,Aa b.len,Aa b.head,Aa b.seq,Aa ((a+((1+own.length:Nat):Int))%b.len),Aa (q+1),Aa (0+((1+own.length:Nat):Int)),.bool false] 249,rdkA t n F2 m2,poolA c]):=by
 intro z R w H;replace H:=H.l4;obtain ⟨oo,c3,rfl⟩:=hO.slc;obtain ⟨po,c8,rfl⟩:=hI.slc;refine Ac func97 Z ntmps97 Z (Z2 30 [10,0,0,11,0,0] H Z (Ai Z (call67 _) (FO _ _ _ _ _ _ _) H ?_));intro w H;refine Z0 10 [0] Z (Ag Z (λh1=>U) (λh1=>?_));refine Z2 9 [8,0,0] H Z (Ai Z (call161 _) (P5 _ _ b _ _ _ n _ _ a3 _ own (poolA hq) (λh q=>hO.rdA q) (λe p=>(hO.2 e p).1) hn y U a2) H.f3.f3.f3 ?_);intro w H;refine Z0 14 [3] Z (Ai Z (call162 _) (Sr _ _ _ x b _ _ _ _ g _ hI n _ U a9 F a3 U b8 b0 b9 b3) H.f2.f2.f2.f3 ?_);intro w H;refine Z2 16 [3,8,0,0] H Z (AA Z (call161 _) (Kl _ _ b _ _ _ n _ U a9 _ a3 c1 c0 _ own (poolA hq) (λh q=>hO.rdA q) (λe p=>(hO.2 e p).1) hn y ha U U) H.f3.f3.f3 ?_);rintro _ w _ ⟨F2,m2,⟨b2,c6⟩,rfl,rfl⟩ H;refine Z0 15 [4] Z ?_;have a8:=imP.nil hq;refine Zc 5 Z ?_;refine Ay (σ:=Nat×Value×Hp) (λ⟨i,d,c⟩=>[(5,Aa (i:Int)),(0,V ps),(2,Aa 0),(3,.slice oo own.length c3)])
   (λ⟨i,d,c⟩ w=>Sep z (blk pl [V t,Aa b.gen,Aa b.epoch,Aa b.pages,Aa b.start,Aa b.len,Aa b.head,Aa b.seq,Aa ((a+((1+own.length:Nat):Int))%b.len),Aa (q+1),Aa (0+((1+own.length:Nat):Int)),.bool false] 249::rdkA t n F2 m2::poolA c::blk ps [V t,Aa ((BW x a q).gen),Aa ((BW x a q).epoch),Aa ((BW x a q).pages),Aa ((BW x a q).start),Aa ((BW x a q).len),Aa ((BW x a q).head),Aa ((BW x a q).seq),V pl,d,.bool false,.slice none 0 0] 128::R) w/\(i<=own.length/\BA hq c/\imP d (Cl [] (own.take i)) c/\(Cl [] (own.take i)).length<=100000+i)) (λ⟨i,d,c⟩=>own.length-i) ⟨0,.slice none 0 0,hq⟩
   fr_z ⟨H,⟨AbV _,λk o e=>e,(by simpa [Cl] using a8),by first|exact AbV _|simpa [Cl] using b6⟩⟩ ?_
 clear H;rintro ⟨i,d,c⟩ w ⟨H',hI⟩;dsimp only at hI H' ⊢;have H:=H'.l4;obtain ⟨hi,a4,l,c5⟩:=hI;refine Z0 9 [0] Z (Ag Z (λh2=>?_) (λh2=>?_))
 ·refine Zc 4 Z ?_;have p:=E1 (es:=own) (i:=i) U
  have a5:=hO.le a4;have a6:=a5.2 _ (AbG p);obtain ⟨bo,bc,a1⟩:Slc (own.getD i HE).2 240:=by have h9:=a6.2.slc;exact h9
  obtain ⟨⟨m,bv⟩,b4⟩:∃e:ImE,own.getD i HE=e:=⟨_,Z⟩;rw[b4] at p a6 a1;dsimp only at a1;subst a1;obtain ⟨b7,b5,rfl⟩:=l.slc;replace H:=H.f2.f3;refine AK (Sep z (blk ps [V t,Aa ((BW x a q).gen),Aa ((BW x a q).epoch),Aa ((BW x a q).pages),Aa ((BW x a q).start),Aa ((BW x a q).len),Aa ((BW x a q).head),Aa ((BW x a q).seq),V pl,.slice b7 ((Cl [] (own.take i)).length) b5,.bool false,.slice none 0 0] 128::poolA c::R)) 13 Z J (A4 H λw H'=>?_);have H:=H'.l4;refine A6 [0,1,2,3,4,5,6] [9,0] J (λ_ hx=>(AQ (hx.blk 0 Z) AJ)) (by exact H.pick 4 [0,1] Z) Z J Z Z (AR 7 J Z Z J J J Z Z Z (Az Z (z:=3) (j:=i) (r:=i*3) J Z Z Z U ((H.rv 1 (λq=>(a5.rdA q).1)).at (A7 p 0 _ Z)) U) (H.pick 4 [0,1] Z) (AR 8 J Z Z J J J Z Z Z (BU Z Z (vs:=[Aa m.num,Aa m.kind,.slice bo 240 bc]) J O (λ_ hs k u hk=>(hs.rv 1 (λq=>(a5.rdA q).1)).at (A7 p k u hk))) (H.pick 4 [0,1] Z) (An [9] J O (Ar (Ba Z Z Z Z Z Z (λw=>call153 _ w) (Gc _ (Cl [] (own.take i)) (poolA c) (λh q=>l.rdA q) (λe p=>(l.2 e p).1) U m _ _) H.f1 Z ?_)))));rintro a7 w _ ⟨_,rfl,rfl⟩ H;replace H:=H.l5;have a0:=H.sy 0 (·.slc);refine Am (λ_=>(H.pick 5 [2,1] Z)) (A6 [10,11] [9] J (λ_ _=>AJ) (by exact H.pick 5 [2,1] Z) Z J Z Z (An [12] J O (Ar (B6 Z Z Z (Ma 2 H Z Z Z Z a0.cells a0.one J) ?_))));rintro w H;replace H:=H.l5;refine Am (λh=>absurd Z h) (AT J (gn ?_));replace H:=H.f1;obtain ⟨c,⟨s,b1⟩,H⟩:=BG H (λh q=>q.rd);replace H:=H.l4;have c2:imP a7 (putI (Cl [] (own.take i)) ((m,.slice bo 240 bc):ImE)) c:=imP.put l s a6 b1;refine Z1 7 [] [(i:Int)+1] Z U ?_;replace H:=H.f1.f1.f3.f3;refine gf ?_;intro _ hF;refine ⟨⟨i+1,a7,c⟩,hF.cz,⟨H,?_⟩,?_⟩
  ·exact ⟨by show i+1<=own.length;omega,λk o e=>s k o (a4 k o e),by rw[Hc p];exact c2,by rw[Hc p];exact AdZ (putI_len _ _) U⟩
  (dsimp only;omega)
 refine Zc 2 Z (gx (Zc 8 Z (Zr Z ?_)));rw[show own.take i=own from AbJ U] at l;exact ⟨_,⟨d,c,F2,m2,a4,l,b2,by omega,Z,Z⟩,H.pick 4 [3,0,1,2] Z⟩
def Asc(es:List ImE):Prop:=es.Pairwise λa b=>a.1.num<b.1.num
theorem putI_iff{x e:ImE}:∀{es:List ImE},Asc es->(e∈putI es x↔e=x\/(e∈es/\e.1.num≠x.1.num))
 | [],_=>by simp[putI]
 | y::l,h=>by
  have h2:=Ac2.1 h;have ih:=putI_iff (x:=x) (e:=e) h2.2;simp only[putI];by_cases c1:y.1.num<x.1.num
  ·rw[if_pos c1,Acb,ih,Acb]
   constructor
   ·rintro (q|q|q)
    ·subst q;exact .inr ⟨.inl Z,by omega⟩
    ·exact .inl q
    exact .inr ⟨.inr q.1,q.2⟩
   rintro (q|⟨q|q,r⟩)
   ·exact .inr (.inl q)
   ·exact .inl q
   exact .inr (.inr ⟨q,r⟩)
  rw[if_neg c1];by_cases c2:y.1.num=x.1.num
  ·rw[if_pos c2,Acb,Acb]
   constructor
   ·rintro (q|q)
    ·exact .inl q
    have:=h2.1 e q;exact .inr ⟨.inr q,by omega⟩
   rintro (q|⟨q|q,r⟩)
   ·exact .inl q
   ·subst q;exact absurd c2 r
   exact .inr q
  rw[if_neg c2,Acb,Acb];constructor
  ·rintro (q|q|q)
   ·exact .inl q
   ·subst q;exact .inr ⟨.inl Z,c2⟩
   have:=h2.1 e q;exact .inr ⟨.inr q,by omega⟩
  rintro (q|⟨q|q,r⟩)
  ·exact .inl q
  ·exact .inr (.inl q)
  exact .inr (.inr q)
theorem JF{x:ImE}:∀{es:List ImE},Asc es->Asc (putI es x)
 | [],_=>by simp[putI,Asc]
 | y::l,h=>by
  have h2:=Ac2.1 h;simp only[putI];by_cases c1:y.1.num<x.1.num
  ·rw[if_pos c1]
   refine Ac2.2 ⟨λe a=>?_,JF h2.2⟩;rcases (putI_iff h2.2).1 a with q|q
   ·subst q;exact c1
   exact h2.1 e q.1
  rw[if_neg c1];by_cases c2:y.1.num=x.1.num
  ·rw[if_pos c2]
   exact Ac2.2 ⟨λe a=>by have:=h2.1 e a;omega,h2.2⟩
  rw[if_neg c2];refine Ac2.2 ⟨λe a=>?_,h⟩;rcases Acb.1 a with q|q
  ·subst q;omega
  have:=h2.1 e q;omega
theorem Asc.one{es:List ImE}(h:Asc es){a b:ImE}(d:a∈es)(f:b∈es)(e:a.1.num=b.1.num):a=b:=by
 induction es with
 | nil=>nomatch d
 | cons y l ih=>
  have c:=Ac2.1 h;rcases Acb.1 d with q|q<;>rcases Acb.1 f with r|r
  ·rw[q,r]
  ·have:=c.1 b r;subst q;omega
  ·have:=c.1 a q;subst r;omega
  exact ih c.2 q r
theorem Asc.dis{es:List ImE}(h:Asc es):∀(j i:Nat) (e f:ImE),j<i->es[j]?=some e->es[i]?=some f->e.1.num≠f.1.num:=λj i e f a d g=>by
 unfold Asc at h;rw[Adv] at h;obtain ⟨l,k⟩:=AbE.1 d;obtain ⟨b,c⟩:=AbE.1 g;have:=h j i l b a;rw[k,c] at this;omega
theorem Asc.len{es:List ImE}(h:Asc es){n:Nat}(b:∀e∈es,0<=e.1.num/\e.1.num<n):es.length<=n:=by
 have f:(es.map λe=>e.1.num.toNat).Nodup:=by
  unfold List.Nodup;rw[AcR];exact (Adv.2 λi j d c a=>by
   have:=(Adv.1 h) i j d c a;have m:=b _ (Ac1 d);have k:=b _ (Ac1 c);omega)
 have:=GZ (s:=es.map λe=>e.1.num.toNat) (l:=List.range n) f (λp hp=>by
  obtain ⟨e,g,rfl⟩:=AbP.1 hp;have:=b e g;exact AcL.2 U)
 simpa using this
theorem HH{p:Int}:∀{es:List ImE},(∃e∈es,e.1.num=p)->∃(i:Nat) (e:ImE),es[i]?=some e/\e.1.num=p/\∀(j:Nat) (f:ImE),j<i->es[j]?=some f->f.1.num≠p
 | [],⟨_,h,_⟩=>nomatch h
 | y::l,h=>by
  by_cases c:y.1.num=p
  ·exact ⟨0,y,Z,c,λj f b=>by omega⟩
  obtain ⟨e,he,hp⟩:=h;rcases Acb.1 he with q|q
  ·subst q;exact absurd hp c
  obtain ⟨i,f,m,d,k⟩:=HH (es:=l) ⟨e,q,hp⟩;refine ⟨i+1,f,by simpa using m,d,λj g b a=>?_⟩
  cases j with
  | zero=>simp at a;subst a;exact c
  | succ j=>exact k j g U (by simpa using a)
theorem putN_put{es l:List ImE}(h:Asc es)(g:Asc l):Asc (Cl es l)/\∀e,e∈Cl es l↔e∈l\/(e∈es/\∀f∈l,e.1.num≠f.1.num):=by
 induction l generalizing es with
 | nil=>exact ⟨h,λe=>by simp[Cl]⟩
 | cons y l ih=>
  have b:=Ac2.1 g;obtain ⟨c,d⟩:=ih (JF (x:=y) h) b.2;refine ⟨c,λe=>?_⟩;show e∈Cl (putI es y) l↔_;rw[d,putI_iff h,Acb];constructor
  ·rintro (q|⟨q|q,r⟩)
   ·exact .inl (.inr q)
   ·exact .inl (.inl q)
   exact .inr ⟨q.1,λf a=>by
    rcases Acb.1 a with s|s
    ·subst s;exact q.2
    exact r f s⟩
  rintro ((q|q)|⟨q,r⟩)
  ·exact .inr ⟨.inl q,λf a=>by have:=b.1 f a;subst q;omega⟩
  ·exact .inl q
  exact .inr ⟨.inr ⟨q,r y O⟩,λf a=>r f (by simp[a])⟩

def HomeR(pgs:List ImE)(F:Nat->List UInt8)(p:Nat)(x:Pg):Prop:=
 (∃e∈pgs,e.1.num=(p:Int)/\x=DB e.1)\/((∀e∈pgs,e.1.num≠(p:Int))/\((F (2+p)=List.replicate 256 0/\x=C5)\/∃m:Img,m.Ok/\m.num=(p:Int)/\F (2+p)=Em m/\x=DB m))
def OwnR(own:List ImE)(n:Nat)(g:A0)(k:Nat):Prop:=
 own.length=k/\k<=40/\Asc own/\(∀e∈own,e.1.num<(n:Int))/\∀p:Nat,(∃e∈own,e.1.num=(p:Int)/\g p=some (DB e.1))\/((∀e∈own,e.1.num≠(p:Int))/\g p=none)
theorem OwnR.nil(n:Nat):OwnR [] n CD 0:=⟨Z,by omega,.nil,λ_ h=>(nomatch h),λp=>.inr ⟨λ_ h=>(nomatch h),Z⟩⟩
theorem HomeR.le{a:List ImE}{F b:Nat->List UInt8}{p:Nat}{x:Pg}(h:HomeR a F p x)(e:b (2+p)=F (2+p)):HomeR a b p x:=by
 unfold HomeR at *;rw[e];exact h
theorem HomeR.put{a own:List ImE}{F:Nat->List UInt8}{p n k:Nat}{x:Pg}{g:A0}{K:Nat->Pg}(h:HomeR a F p (K p))(t:Asc a)(O_:OwnR own n g k)(i:x=Cb K (some (g,k)) p):HomeR (Cl a own) F p x:=by
 obtain ⟨_,_,l,_,s⟩:=O_;obtain ⟨_,d⟩:=putN_put t l;subst i;rcases s p with ⟨e,b,hp,j⟩|⟨c,j⟩
 ·exact .inl ⟨e,(d e).2 (.inl b),hp,by simp[Cb,j]⟩
 have u:Cb K (some (g,k)) p=K p:=by simp[Cb,j]
 rw[u];rcases h with ⟨e,b,hp,i⟩|⟨r,m⟩
 ·exact .inl ⟨e,(d e).2 (.inr ⟨b,λf o=>by rw[hp];exact Ada (c f o)⟩),hp,i⟩
 exact .inr ⟨λe b=>by
  rcases (d e).1 b with q|q
  ·exact c e q
  exact r e q.1,m⟩
theorem HomeR.ck{a:List ImE}{F:Nat->List UInt8}{p n:Nat}{x:Pg}(h:HomeR a F p x)(o:Asc a)(b:∀e∈a,e.1.Ok){g:Nat}(r:g<=1)(y:List UInt8):HomeR [] (BE (Eo F a) g y) p x:=by
 refine .inr ⟨λ_ h=>(nomatch h),?_⟩;rw[upf_other _ _ U,Nu];have d:∀m∈a.map Prod.fst,0<=m.num:=λm f=>by
  obtain ⟨e,c,rfl⟩:=AbP.1 f;exact (b e c).1.1
 rcases h with ⟨e,c,hp,l⟩|⟨k,i⟩
 ·refine .inr ⟨e.1,b e c,hp,?_,l⟩
  have:=KZ (F:=F) (m:=e.1) d (Nw (by rw[AcR];exact o)) (Acz c);rwa[hp,show (2+(p:Int)).toNat=2+p by omega] at this
 have j:JB F (a.map Prod.fst) (2+p)=F (2+p):=putQ_off λm f=>by
  obtain ⟨e,c,rfl⟩:=AbP.1 f;have:=k e c;have q:=(b e c).1.1;omega
 rw[j];exact i
theorem OwnR.put{own:List ImE}{n k:Nat}{g:A0}(O_:OwnR own n g k)(m:Img)(j:Value)(z:0<=m.num/\m.num<n)(w:¬(g m.num.toNat=none/\40<=k)):OwnR (putI own (m,j)) n (pgSet g m.num.toNat (DB m)) (k+(if (g m.num.toNat).isSome then 0 else 1)):=by
 obtain ⟨u,x,f,r,t⟩:=O_;have o:((m.num.toNat:Nat):Int)=m.num:=by omega
 have i:(putI own (m,j)).length=k+(if (g m.num.toNat).isSome then 0 else 1):=by
  rcases t m.num.toNat with ⟨e,a,hp,d⟩|⟨b,d⟩
  ·rw[d]
   have:∀es:List ImE,Asc es->(∃e∈es,e.1.num=m.num)->(putI es (m,j)).length=es.length:=by
    intro es
    induction es with
    | nil=>rintro _ ⟨_,h,_⟩;nomatch h
    | cons y l ih=>
     rintro ha ⟨e,a,hp⟩;have s:=Ac2.1 ha;simp only[putI];by_cases c1:y.1.num<m.num
     ·rw[if_pos c1,AbI,ih s.2 ⟨e,by
       rcases Acb.1 a with q|q
       ·subst q;omega
       exact q,hp⟩,AbI]
     rw[if_neg c1];have c2:y.1.num=m.num:=by
      rcases Acb.1 a with q|q
      ·subst q;exact hp
      have:=s.1 e q;omega
     rw[if_pos c2];rfl
   rw[this own f ⟨e,a,by omega⟩,u];simp
  rw[d];have:∀es:List ImE,(∀e∈es,e.1.num≠m.num)->(putI es (m,j)).length=es.length+1:=by
   intro es
   induction es with
   | nil=>intro _;rfl
   | cons y l ih=>
    intro h;simp only[putI];by_cases c1:y.1.num<m.num
    ·rw[if_pos c1,AbI,ih (λe a=>h e (by simp[a])),AbI]
    rw[if_neg c1,if_neg (h y O)];rfl
  rw[this own (λe a=>by have:=b e a;omega),u];simp
 refine ⟨i,?_,JF f,λe a=>?_,λp=>?_⟩
 ·by_cases c:(g m.num.toNat).isSome
  ·rw[if_pos c];omega
  rw[if_neg c];have:g m.num.toNat=none:=by simpa using c
  have:¬40<=k:=λq=>w ⟨this,q⟩;omega
 ·rcases (putI_iff f).1 a with q|q
  ·subst q;exact z.2
  exact r e q.1
 by_cases c:p=m.num.toNat
 ·subst c
  exact .inl ⟨(m,j),(putI_iff f).2 (.inl Z),o.symm,by simp[pgSet]⟩
 have v:m.num≠(p:Int):=λq=>c U;rcases t p with ⟨e,a,hp,d⟩|⟨b,d⟩
 ·exact .inl ⟨e,(putI_iff f).2 (.inr ⟨a,by show e.1.num≠m.num;omega⟩),hp,by simp[pgSet,c,d]⟩
 exact .inr ⟨λe a=>by
  rcases (putI_iff f).1 a with q|q
  ·subst q;exact v
  exact b e q.1,by simp[pgSet,c,d]⟩
section
abbrev rsB(ps pr pl:Nat)(x:Sup)(pv:Value)(un:Bool)(ov:Value):Ah:=blk ps [.pointer (some ⟨pr,0,none⟩),.int .i64 x.gen,.int .i64 x.epoch,.int .i64 x.pages,.int .i64 x.start,.int .i64 x.len,.int .i64 x.head,.int .i64 x.seq,.pointer (some ⟨pl,0,none⟩),pv,.bool un,ov] 128
abbrev Pc(pl pr:Nat)(s:Sup)(a q u:Int):Ah:=blk pl [.pointer (some ⟨pr,0,none⟩),.int .i64 s.gen,.int .i64 s.epoch,.int .i64 s.pages,.int .i64 s.start,.int .i64 s.len,.int .i64 s.head,.int .i64 s.seq,.int .i64 a,.int .i64 q,.int .i64 u,.bool false] 249
structure RsX where
 pr:Nat
 pl:Nat
 x:Sup
 sl:Sup
 pv:Value
 ov:Value
 own:List ImE
 pgs:List ImE
 F:Nat->List UInt8
 m:Nat
 a:Int
 q:Int
 u:Int
def Aao(own:List ImE)(n:Nat):C7->Prop
 | none=>own=[]
 | some o=>OwnR own n o.1 o.2
structure RsP(dn mb n:Nat)(K:Nat->Pg)(t:C7)(hq:Hp)(X:RsX):Prop where
 hn:16<=n/\n<=1024
 hdn:dn<=4096/\n<=600
 pg:X.x.pages=n
 ok:X.x.Ok (dn:Int)
 sl:X.sl.start=X.x.start/\X.sl.len=X.x.len/\0<=X.sl.epoch/\X.sl.epoch<=1000
 bd:X.m<=5000+700*mb/\X.x.gen<=10+mb/\0<=X.q/\X.q<=10+mb
 la:0<=X.a/\X.a<X.sl.len
 lu:0<=X.u/\X.u<=X.sl.len/\(X.u=0\/X.pgs≠[])
 im:imP X.pv X.pgs hq
 up:Asc X.pgs
 lt:∀e∈X.pgs,e.1.num<(n:Int)
 K:∀p,p<n->HomeR X.pgs X.F p (K p)
 io:imP X.ov X.own hq
 ow:Aao X.own n t
def Wm(ps dn:Nat)(t:C7)(hq:Hp)(X:RsX):List Ah:=[rsB ps X.pr X.pl X.x X.pv t.isSome X.ov,Pc X.pl X.pr X.sl X.a X.q X.u,rdkA X.pr dn X.F X.m,poolA hq]
def rsoA(ps dn mb n:Nat)(K:Nat->Pg)(t:C7)(hq:Hp):Ah:=λh=>∃X,RsP dn mb n K t hq X/\seps (Wm ps dn t hq X) h
section
variable{z w:World}{Γ:List Ah}{ps dn mb n:Nat}{K:Nat->Pg}{t:C7}{hq:Hp}
theorem Sep.rso(H:Sep z (rsoA ps dn mb n K t hq::Γ) w):∃X,RsP dn mb n K t hq X/\Sep z (Wm ps dn t hq X++Γ) w:=
 H.into (p:=λX=>RsP dn mb n K t hq X) (As:=λX=>Wm ps dn t hq X) (λ_ q=>q)
theorem Sep.toRso{X:RsX}(H:Sep z Γ w)(b:RsP dn mb n K t hq X)(a:Γ.take 4=Wm ps dn t hq X):Sep z (rsoA ps dn mb n K t hq::Γ.drop 4) w:=
 H.made 4 (λh q=>⟨X,b,by rwa[a] at q⟩)
theorem rsoA.pool{h:Hp}(a:rsoA ps dn mb n K t hq h):BA hq h:=by
 obtain ⟨X,_,hs⟩:=a;obtain ⟨h',c,b⟩:=DZ hs (i:=3) Z;exact λk o e=>b k o (c k o e)
theorem RsP.box{X:RsX}(P:RsP dn mb n K t hq X):2+(n:Int)<=X.x.start/\X.x.start+X.x.len<=dn/\64<=X.x.len/\(0<=X.x.gen/\X.x.gen<=1099511627776)/\X.x.start<=1099511627776/\X.x.len<=1099511627776:=by
 have c:=P.ok.2;have a:=Sup.get P.ok;have b:=P.pg;omega
theorem RsP.imok{X:RsX}(P:RsP dn mb n K t hq X):∀e∈X.pgs,e.1.Ok:=λe a=>(P.im.2 e a).1
theorem RsP.len{X:RsX}(P:RsP dn mb n K t hq X):X.pgs.length<=600:=by
 have:=P.up.len (n:=n) (λe a=>⟨(P.imok e a).1.1,P.lt e a⟩);have:=P.hdn;omega
theorem Yk(ps dn mb n:Nat)(K:Nat->Pg)(hq:Hp):Aj 90 [V ps] [rsoA ps dn mb n K none hq] (λv G=>v=Aa 0/\G=[rsoA ps dn mb n K (some (CD,0)) hq]):=by
 intro z R w H;obtain ⟨X,P,H⟩:=H.rso;refine Ret.mono (Cn.at (LG ps X.pr X.x _ X.pv X.ov) H 4 [0,1,2,3] Z Z) ?_;rintro v w' ⟨Γ',⟨rfl,rfl⟩,a⟩;exact ⟨_,⟨Z,Z⟩,(a.pick 4 [0,1,2,3] Z).toRso (X:= {X with ov:=.slice none 0 0,own:=[]}) ⟨P.hn,P.hdn,P.pg,P.ok,P.sl,P.bd,P.la,P.lu,P.im,P.up,P.lt,P.K,imP.nil hq,OwnR.nil n⟩ Z⟩
theorem U9(ps dn mb n:Nat)(K:Nat->Pg)(o:A0×Nat)(hq:Hp):Aj 90 [V ps] [rsoA ps dn mb n K (some o) hq] (λv G=>v=Aa 17/\G=[rsoA ps dn mb n K (some o) hq]):=by
 intro z R w H;obtain ⟨X,P,H⟩:=H.rso;refine Ret.mono (Cn.at (Qc ps X.pr X.x _ X.pv X.ov) H 4 [0,1,2,3] Z Z) ?_;rintro v w' ⟨Γ',⟨rfl,rfl⟩,a⟩;exact ⟨_,⟨Z,Z⟩,(a.pick 4 [0,1,2,3] Z).toRso P Z⟩
theorem Yl(ps dn mb n:Nat)(K:Nat->Pg)(t:C7)(hq:Hp):Aj 67 [V ps] [rsoA ps dn mb n K t hq] (λv G=>v=.tuple #[]/\G=[rsoA ps dn mb n K none hq]):=by
 intro z R w H;obtain ⟨X,P,H⟩:=H.rso;refine Ret.mono (Cn.at (FO ps X.pr X.x _ X.pv X.ov t.isSome) H 4 [0,1,2,3] Z Z) ?_;rintro v w' ⟨Γ',⟨rfl,rfl⟩,a⟩;exact ⟨_,⟨Z,Z⟩,(a.pick 4 [0,1,2,3] Z).toRso (X:= {X with ov:=.slice none 0 0,own:=[]}) ⟨P.hn,P.hdn,P.pg,P.ok,P.sl,P.bd,P.la,P.lu,P.im,P.up,P.lt,P.K,imP.nil hq,Z⟩ Z⟩
theorem Aap(ps dn mb n:Nat)(K:Nat->Pg)(hq:Hp):Aj 59 [V ps] [rsoA ps dn mb n K none hq] (λv G=>v=Aa 0/\G=[rsoA ps dn mb n K none hq]):=by
 intro z R w H;obtain ⟨X,P,H⟩:=H.rso;refine Ret.mono (Cn.at (Nt ps X.pr X.x _ X.pv X.ov dn X.m X.F) H 4 [0,2,1,3] Z Z) ?_;rintro v w' ⟨Γ',⟨rfl,rfl⟩,a⟩;exact ⟨_,⟨Z,Z⟩,(a.pick 4 [0,2,1,3] Z).toRso P Z⟩
theorem Ym(ps dn mb n:Nat)(K:Nat->Pg)(o:A0×Nat)(hq:Hp):Aj 59 [V ps] [rsoA ps dn mb n K (some o) hq] (λv G=>v=Aa 17/\G=[rsoA ps dn mb n K (some o) hq]):=by
 intro z R w H;obtain ⟨X,P,H⟩:=H.rso;refine Ret.mono (Cn.at (Sw ps X.pr X.x _ X.pv X.ov) H 4 [0,1,2,3] Z Z) ?_;rintro v w' ⟨Γ',⟨rfl,rfl⟩,a⟩;exact ⟨_,⟨Z,Z⟩,(a.pick 4 [0,1,2,3] Z).toRso P Z⟩

theorem Va(ps dn mb n:Nat)(K:Nat->Pg)(o:A0×Nat)(hq:Hp)(p a:Int)(hp:0<=p/\p<n)(b:Value)(bs:List UInt8)(B:Ah)(d:∀h,B h->rdH 1 b 240 (bs.map u8) h)(e:a<1\/5<a):Aj 92 [V ps,Aa p,.agg #[Aa a,b]] [rsoA ps dn mb n K (some o) hq,B] (λv G=>v=Aa 1/\G=[rsoA ps dn mb n K (some o) hq,B]):=by
 intro z R w H;obtain ⟨X,P,H⟩:=H.rso;have f:=P.pg;refine Ret.mono (Cn.at (P7 ps X.pr X.x _ X.pv X.ov p U a b bs B d e) H 5 [0,4,1,2,3] Z Z) ?_;rintro v w' ⟨Γ',⟨rfl,rfl⟩,c⟩;exact ⟨_,⟨Z,Z⟩,(c.pick 5 [0,2,3,4,1] Z).toRso P Z⟩
theorem Vb(ps dn mb n:Nat)(K:Nat->Pg)(g:A0)(k:Nat)(hq:Hp)(p:Nat)(hp:p<n)(x:Pg)(c:x.Ok)(b:Value)(B:Ah)(o:∀h,B h->rdH 1 b 240 (x.body.map u8) h)(i:g p=none/\40<=k):Aj 92 [V ps,Aa (p:Int),.agg #[Aa x.kind,b]] [rsoA ps dn mb n K (some (g,k)) hq,B] (λv G=>v=Aa 16/\G=[rsoA ps dn mb n K (some (g,k)) hq,B]):=by
 intro z R w H;obtain ⟨X,P,H⟩:=H.rso;have l:=P.pg;have r:=P.hn;obtain ⟨s,j,t,m,q⟩:OwnR X.own n g k:=P.ow;have a:∀e∈X.own,e.1.num≠(p:Int):=by
  rcases q p with ⟨e,_,_,d⟩|⟨h,_⟩
  ·rw[i.1] at d;cases d
  exact h
 refine Ret.mono (Cn.at (P9 ps X.pr X.x _ X.pv X.ov X.own hq P.io U ⟨(p:Int),x.kind,x.body⟩ ⟨⟨by show 0<=(p:Int);omega,by show (p:Int)<=1023;omega⟩,c.1,c.2⟩ (by show (p:Int)<_;omega) a b B o) H 5 [0,3,4,1,2] Z Z) ?_;rintro v w' ⟨Γ',⟨rfl,rfl⟩,f⟩;exact ⟨_,⟨Z,Z⟩,(f.pick 5 [0,3,4,1,2] Z).toRso P Z⟩
theorem Yn(ps dn mb n:Nat)(K:Nat->Pg)(g:A0)(k:Nat)(hq:Hp)(p:Nat)(hp:p<n)(x:Pg)(hx:x.Ok)(r:Value)(B:Ah)(hB:∀h,B h->rdH 1 r 240 (x.body.map u8) h)(hk:¬(g p=none/\40<=k)):Aj 92 [V ps,Aa (p:Int),.agg #[Aa x.kind,r]] [rsoA ps dn mb n K (some (g,k)) hq,B] (λv G=>∃b,v=Aa 0/\G=[rsoA ps dn mb n K (some (pgSet g p x,k+(if (g p).isSome then 0 else 1))) b,B]):=by
 intro z R w H;obtain ⟨X,P,H⟩:=H.rso;have a1:=P.pg;have hn:=P.hn;have O_:OwnR X.own n g k:=P.ow;obtain ⟨ol,a0,oa,a2,og⟩:=id O_;have hm:(⟨(p:Int),x.kind,x.body⟩:Img).Ok:=⟨⟨by show 0<=(p:Int);omega,by show (p:Int)<=1023;omega⟩,hx.1,hx.2⟩;have fin:∀(c d:Value) (b:Hp) (w':World),BA hq b->imP c (putI X.own (⟨(p:Int),x.kind,x.body⟩,d)) b->Sep z ([rsB ps X.pr X.pl X.x X.pv true c,poolA b,B]++([Pc X.pl X.pr X.sl X.a X.q X.u,rdkA X.pr dn X.F X.m]++R)) w'->Sep z ([rsoA ps dn mb n K (some (pgSet g p x,k+(if (g p).isSome then 0 else 1))) b,B]++R) w':=λc d b w' hs y l=>
  (l.pick 5 [0,3,4,1,2] Z).toRso (X:= {X with ov:=c,own:=putI X.own (⟨(p:Int),x.kind,x.body⟩,d)}) ⟨P.hn,P.hdn,P.pg,P.ok,P.sl,P.bd,P.la,P.lu,P.im.le hs,P.up,P.lt,P.K,y,O_.put ⟨(p:Int),x.kind,x.body⟩ _ ⟨by show 0<=(p:Int);omega,by show (p:Int)<n;omega⟩ hk⟩ Z
 rcases og p with ⟨e,he,t,hg⟩|⟨s,hg⟩
 ·obtain ⟨i,f,y,hf,o⟩:=HH ⟨e,he,t⟩
  refine Ret.mono (Cn.at (Qb ps X.pr X.x _ X.pv X.ov X.own hq P.io U ⟨(p:Int),x.kind,x.body⟩ hm (by show (p:Int)<_;omega) i f.1 f.2 y hf o r B hB) H 5 [0,3,4,1,2] Z Z) ?_;rintro v w' ⟨Γ',⟨c,d,b,hs,j,rfl,rfl⟩,l⟩;exact ⟨_,⟨b,Z,Z⟩,fin c d b w' hs j l⟩
 refine Ret.mono (Cn.at (Iq ps X.pr X.x _ X.pv X.ov X.own hq P.io (Adz λq=>hk ⟨hg,by omega⟩) ⟨(p:Int),x.kind,x.body⟩ hm (by show (p:Int)<_;omega) s r B hB) H 5 [0,3,4,1,2] Z Z) ?_;rintro v w' ⟨Γ',⟨c,d,b,hs,j,rfl,rfl⟩,l⟩;exact ⟨_,⟨b,Z,Z⟩,fin c d b w' hs j l⟩
end
end
section
section
variable{z w:World}{Γ:List Ah}{ps dn mb n:Nat}{K:Nat->Pg}{t:C7}{hq:Hp}
theorem curPg_own{own:List ImE}(h:Aao own n t)(p:Nat):(∃e∈own,e.1.num=(p:Int)/\Cb K t p=DB e.1)\/((∀e∈own,e.1.num≠(p:Int))/\Cb K t p=K p):=by
 cases t with
 | none=>
  have h':own=[]:=h;subst h';exact .inr ⟨λ_ h=>(nomatch h),Z⟩
 | some o=>
  obtain ⟨_,_,_,_,c⟩:OwnR own n o.1 o.2:=h;rcases c p with ⟨e,d,hp,b⟩|⟨a,b⟩
  ·exact .inl ⟨e,d,hp,by simp[Cb,b]⟩
  exact .inr ⟨a,by simp[Cb,b]⟩
theorem Wn{v:Value}{es:List ImE}(h:imP v es hq){e:ImE}(g:e∈es):∃a b,e=(e.1,.slice a 240 b)/\rdH 1 e.2 e.1.body.length (e.1.body.map u8) hq:=by
 have c:=h.2 e g;obtain ⟨a,b,d⟩:Slc e.2 240:=by have f:=c.2.slc;exact f
 exact ⟨a,b,by rw[<-d],by rw[c.1.2.2];exact c.2⟩
theorem Aaq(ps dn mb n:Nat)(K:Nat->Pg)(t:C7)(hq:Hp)(p:Nat)(hp:p<n):Aj 32 [V ps,Aa (p:Int)] [rsoA ps dn mb n K t hq] (λv G=>∃(v2:Value) (b:Hp),rdH 1 v2 (Cb K t p).body.length ((Cb K t p).body.map u8) b/\v=.tuple #[.agg #[Aa (Cb K t p).kind,v2],Aa 0]/\G=[rsoA ps dn mb n K t b]):=by
 intro z R w H;obtain ⟨X,P,H⟩:=H.rso;have a3:=P.pg;have hn:=P.hn;have a4:=P.box;have a1:=P.hdn.1;have a2:=P.hdn.2;rcases curPg_own (K:=K) P.ow p with ⟨e0,a,c,hc⟩|⟨l,hc⟩
 ·obtain ⟨i,e,r,f,d⟩:=HH ⟨e0,a,c⟩
  have s:e=e0:=by
   cases t with
   | none=>have h':X.own=[]:=P.ow;rw[h'] at a;nomatch a
   | some o=>
    obtain ⟨_,_,oa,_⟩:OwnR X.own n o.1 o.2:=P.ow;exact oa.one (AbG r) a (by rw[f,c])
  subst s;obtain ⟨bo,bc,h1,h2⟩:=Wn P.io a;rw[h1] at r;refine Ret.mono (Cn.at (St ps X.pr X.x _ X.pv X.ov t.isSome X.own X.pgs hq P.io P.im (p:Int) U i e.1 bo bc r f d) H 4 [0,3,1,2] Z Z) ?_;rintro v w' ⟨Γ',⟨rfl,rfl⟩,k⟩;rw[hc];exact ⟨_,⟨.slice bo 240 bc,hq,by rw[h1] at h2;exact h2,Z,Z⟩,(k.pick 4 [0,2,3,1] Z).toRso P Z⟩
 rw[hc];rcases P.K p hp with ⟨e0,a,c,y⟩|⟨a0,y⟩
 ·obtain ⟨i,e,r,f,d⟩:=HH ⟨e0,a,c⟩
  have s:e=e0:=P.up.one (AbG r) a (by rw[f,c]);subst s;obtain ⟨bo,bc,h1,h2⟩:=Wn P.im a;rw[h1] at r;refine Ret.mono (Cn.at (Su ps X.pr X.x _ X.pv X.ov t.isSome X.own X.pgs hq P.io P.im (p:Int) U l i e.1 bo bc r f d) H 4 [0,3,1,2] Z Z) ?_;rintro v w' ⟨Γ',⟨rfl,rfl⟩,k⟩;rw[y];exact ⟨_,⟨.slice bo 240 bc,hq,by rw[h1] at h2;exact h2,Z,Z⟩,(k.pick 4 [0,2,3,1] Z).toRso P Z⟩
 rcases y with ⟨hF,y⟩|⟨m,hm,g,hF,y⟩
 ·refine Ret.mono (Cn.at (Sv ps X.pr X.x _ X.pv X.ov t.isSome X.own X.pgs hq P.io P.im (p:Int) U l a0 dn X.m X.F U a1 (by rw[show (2+(p:Int)).toNat=2+p by omega];exact hF)) H 4 [0,2,3,1] Z Z) ?_
  rintro v w' ⟨Γ',⟨rfl,rfl⟩,k⟩;rw[y];exact ⟨_,⟨.slice none 0 0,hq,⟨none,0,Z,by simp[C5],by omega,by simp[C5],λj u h=>by simp[C5] at h⟩,Z,Z⟩,(k.pick 4 [0,3,1,2] Z).toRso P Z⟩
 refine Ret.mono (Cn.at (LJ ps X.pr X.x _ X.pv X.ov t.isSome X.own X.pgs hq P.io P.im dn X.m X.F m hm U U (λe f=>by rw[g];exact l e f) (λe f=>by rw[g];exact a0 e f) (by rw[g,show (2+(p:Int)).toNat=2+p by omega];exact hF) (p:Int) g) H 4 [0,2,3,1] Z Z) ?_;rintro v w' ⟨Γ',⟨v2,rfl,rfl⟩,k⟩;obtain ⟨b,⟨hs,hr⟩,H2⟩:=BG (k.pick 5 [3,0,1,2,4] Z) (λh q=>q.rd);rw[y];exact ⟨_,⟨v2,b,by show rdH 1 v2 m.body.length (m.body.map u8) b;rw[hm.2.2];exact hr,Z,Z⟩,(H2.pick 4 [1,3,2,0] Z).toRso (X:=X) ⟨P.hn,P.hdn,P.pg,P.ok,P.sl,P.bd,P.la,P.lu,P.im.le hs,P.up,P.lt,P.K,P.io.le hs,P.ow⟩ Z⟩
theorem Yo(ps dn mb n:Nat)(K:Nat->Pg)(t:C7)(hq:Hp)(p:Int)(hp:p<0\/(n:Int)<=p):Aj 32 [V ps,Aa p] [rsoA ps dn mb n K t hq] (λv G=>v=.tuple #[.agg #[Aa 0,.slice none 0 0],Aa 2]/\G=[rsoA ps dn mb n K t hq]):=by
 intro z R w H;obtain ⟨X,P,H⟩:=H.rso;have b:=P.pg;refine Ret.mono (Cn.at (Ss ps X.pr X.x _ X.pv X.ov t.isSome p U) H 4 [0,1,2,3] Z Z) ?_;rintro v w' ⟨Γ',⟨rfl,rfl⟩,a⟩;exact ⟨_,⟨Z,Z⟩,(a.pick 4 [0,1,2,3] Z).toRso P Z⟩

theorem Vc(ps dn mb n:Nat)(K:Nat->Pg)(g:A0)(k:Nat)(hq:Hp)(c2:mb<=1100000):Aj 97 [V ps] [rsoA ps dn mb n K (some (g,k)) hq] (λv G=>∃b,v=Aa 0/\G=[rsoA ps dn (mb+1) n (Cb K (some (g,k))) none b]):=by
 intro z R w H;obtain ⟨X,P,H⟩:=H.rso;have c0:=P.pg;have hn:=P.hn;have c1:=P.box;have y:=P.hdn.1;have b5:=P.hdn.2;have b9:=P.len;obtain ⟨s1,s2,s3,s4⟩:=P.sl;obtain ⟨b1,b2,b3,b4⟩:=P.bd;obtain ⟨a1,a2⟩:=P.la;obtain ⟨u1,u2,u3⟩:=P.lu;have O_:OwnR X.own n g k:=P.ow;obtain ⟨ol,b7,r,a9,og⟩:=id O_;rcases Ads X.own.length with h0|h0
 ·have a5:X.own=[]:=Adl.1 h0
  refine Ret.mono (Cn.at (N6 ps X.pr X.x _ X.pv X.ov (by have i:=P.io.slc;rw[h0] at i;exact i)) H 4 [0,1,2,3] Z Z) ?_;rintro v w' ⟨Γ',⟨rfl,rfl⟩,t⟩;exact ⟨_,⟨hq,Z,Z⟩,(t.pick 4 [0,1,2,3] Z).toRso (X:= {X with ov:=.slice none 0 0,own:=[]}) ⟨P.hn,P.hdn,P.pg,P.ok,P.sl,⟨by show X.m<=_;omega,by show X.x.gen<=_;omega,b3,by show X.q<=_;omega⟩,P.la,P.lu,P.im,P.up,P.lt,λp hp=>by
   have i:=HomeR.put (P.K p hp) P.up O_ Z;rw[a5] at i;exact i,imP.nil hq,Z⟩ Z⟩
 have a6:∃e,e∈X.own:=by
  obtain ⟨e,l,i⟩:=List.exists_cons_of_length_pos h0;exact ⟨e,by rw[i];simp⟩
 have a0:=Adg (X.a+((1+X.own.length:Nat):Int)) (show X.sl.len≠0 by omega);have a4:=AcU (X.a+((1+X.own.length:Nat):Int)) (show 0<X.sl.len by omega);have d:∀(c:List ImE),(∀e∈c,e.1.num<(n:Int))->Asc c->∀e∈Cl c X.own,e.1.num<(n:Int):=λc h1 h2 e he=>by
  rcases ((putN_put h2 r).2 e).1 he with q|q
  ·exact a9 e q
  exact h1 e q.1
 have s:∀(c:List ImE),Asc c->Cl c X.own≠[]:=λc h2 q=>by
  obtain ⟨e,he⟩:=a6;have:=((putN_put h2 r).2 e).2 (.inl he);rw[q] at this;nomatch this
 by_cases hfit:X.u+1+X.own.length<=X.sl.len
 ·refine Ret.mono (Cn.at (N7 ps X.pr X.pl X.x X.sl X.pv X.ov X.a X.q X.u X.own X.pgs hq P.io P.im dn X.m U y X.F U U U U U r.dis U U U) H 4 [0,1,2,3] Z Z) ?_
  rintro v w' ⟨Γ',⟨o,b,F2,m2,hs,j,f,a7,rfl,rfl⟩,t⟩;exact ⟨_,⟨b,Z,Z⟩,(t.pick 4 [0,1,2,3] Z).toRso (X:=⟨X.pr,X.pl,X.x,X.sl,o,.slice none 0 0,[],Cl X.pgs X.own,F2,m2,(X.a+((1+X.own.length:Nat):Int))%X.sl.len,X.q+1,X.u+((1+X.own.length:Nat):Int)⟩) ⟨P.hn,P.hdn,P.pg,P.ok,P.sl,⟨by show m2<=_;omega,by show X.x.gen<=_;omega,by show 0<=X.q+1;omega,by show X.q+1<=_;omega⟩,⟨a0,a4⟩,⟨by show 0<=X.u+((1+X.own.length:Nat):Int);omega,by show X.u+((1+X.own.length:Nat):Int)<=X.sl.len;omega,.inr (s _ P.up)⟩,j,(putN_put P.up r).1,d _ P.lt P.up,λp hp=>(HomeR.put (P.K p hp) P.up O_ Z).le (f _ U),imP.nil b,Z⟩ Z⟩
 have b0:X.pgs≠[]:=by
  rcases u3 with q|q
  ·omega
  exact q
 have b8:1<=X.pgs.length:=List.length_pos_iff.2 b0;have b6:=Sup.get P.ok;have a3:(BW X.x X.a X.q).Ok (dn:Int):=Sup.ok_mk (by show 0<=X.x.gen+1/\X.x.gen+1<=_;omega) (by show 0<=X.x.epoch/\X.x.epoch<=_;omega) (by show 16<=X.x.pages/\X.x.pages<=1024;omega) (by show 2+X.x.pages<=X.x.start/\X.x.start<=_;omega) (by show 64<=X.x.len/\X.x.len<=_;omega) (by show 0<=X.a/\X.a<X.x.len;omega) (by show 0<=X.q/\X.q<=_;omega) (by show X.x.start<=(dn:Int)-X.x.len/\X.x.len<=(dn:Int);omega);have a8:((BW X.x X.a X.q).gen%2).toNat<=1:=by
  have:=AcU (BW X.x X.a X.q).gen (show (0:Int)<2 by omega);omega
 refine Ret.mono (Cn.at (N8 ps X.pr X.pl X.x X.sl X.pv X.ov X.a X.q X.u X.own X.pgs hq P.io P.im dn X.m U y X.F U U U U U r.dis U U U U U U U (λe he=>by have:=P.lt e he;omega) a3) H 4 [0,1,2,3] Z Z) ?_;rintro v w' ⟨Γ',⟨o,b,F2,m2,hs,j,f,a7,rfl,rfl⟩,t⟩;exact ⟨_,⟨b,Z,Z⟩,(t.pick 4 [0,1,2,3] Z).toRso (X:=⟨X.pr,X.pl,BW X.x X.a X.q,X.sl,o,.slice none 0 0,[],Cl [] X.own,F2,m2,(X.a+((1+X.own.length:Nat):Int))%X.sl.len,X.q+1,0+((1+X.own.length:Nat):Int)⟩) ⟨P.hn,P.hdn,P.pg,a3,P.sl,⟨by show m2<=_;omega,by show X.x.gen+1<=_;omega,by show 0<=X.q+1;omega,by show X.q+1<=_;omega⟩,⟨a0,a4⟩,⟨by show 0<=0+((1+X.own.length:Nat):Int);omega,by show 0+((1+X.own.length:Nat):Int)<=X.sl.len;omega,.inr (s _ .nil)⟩,j,(putN_put .nil r).1,d _ (λ_ h=>(nomatch h)) .nil,λp hp=>(HomeR.put (HomeR.ck (n:=n) (P.K p hp) P.up P.imok a8 _) .nil O_ Z).le (f _ U),imP.nil b,Z⟩ Z⟩
end
end
section
section
variable{P:Program}{o:Oper}{w z:World}{Γ:List Ah}{n:Nat}{ds:List Deferred}{L:List (Nat×Value)}{v:Value}{x y:Operand}
theorem Vd(i:Nat)(H:Sep z Γ w){t e:TypeId}{sz m c j q:Nat}{r:Option Addr}{xs vs:List Value}(s:Γ[i]?=some (grow e sz (.slice r m c) m xs))(ho:o.op=.store t x y)(hx:ev L x=some (FQ r q))(hq:j*sz=q)(hy:ev L y=some v)(hv:v.cells=vs.toArray)(h1:∀u∈vs,u.oneCell'=true)
  (hs:(P.info? t).map (·.size)=some vs.length)(hl:vs.length=sz)(hj:j<m){out:List Value}(d:xs.take (j*sz)++vs++xs.drop (j*sz+sz)=out):
  Dt P n ds L o w (λw'=>Sep z (Γ.set i (grow e sz (.slice r m c) m out)) w'):=λa hF=>by
 have l:xs.length=m*sz:=H.says i s (λh g=>g.len);obtain ⟨g,a3,rest,hu,h3,h4,h5,H2⟩:=H.ungrow i s U;cases hu;have f:i<Γ.length:=(AbE.1 s).1;have a1:j*sz+sz<=m*sz:=by rw[<-Nat.succ_mul];exact Ade _ hj
 have a0:(Γ.set i (blk g (xs++rest) e))[i]?=some (blk g (xs++rest) e):=by rw[AcJ f]
 have a2:m*sz+(c-m)*sz=c*sz:=by rw[<-Nat.add_mul];congr 1;omega
 obtain ⟨w',hr,H3⟩:=AD (P:=P) (n:=n) (ds:=ds) (L:=L) i H2 (p:=0+q) (vs:=vs) a0 ho hx hy hv h1 hs (by rw[AbH,l,h5,hl];omega) (out:=out++rest) (by
  rw[AcW,<-hq,hl,AbR U,Ace U,<-d];simp only[AbK]) a hF
 refine ⟨w',hr,?_⟩;rw[Ad2] at H3;have k:out.length=m*sz:=by rw[<-d];simp only[AbH,AbM,Acc];omega
 have:=H3.mono i (B:=grow e sz (.slice (some ⟨g,0,none⟩) m c) m out) (by rw[AcJ f]) (λh b=>blk.grow b h3 h4 (by rw[AbH,k,h5];omega) (by rw[<-k,Acs];rfl));rw[Ad2] at this;exact this
end
end
end Go.Proofs.YthbbejpbkglmlaaGreatDoor
