/-
  Steps to: A transaction that is aborted or refused has not happened No condition.
-/
import Derived.Test.YthbbejpbkglmlaaGreatDoorPart3
set_option maxRecDepth 100000
set_option linter.unusedSimpArgs false
set_option linter.unusedVariables false
open Go.Proofs.Tryz
namespace Go.Proofs.YthbbejpbkglmlaaGreatDoor
open Go.RowKit
theorem hdL_le{e q:Int}{ims:List Img}(h:ims.length<=40):(Bx e q ims).length<=252:=by
 unfold Bx;simp only[Ab2,Ae,BV,Ab7,Ab3,Aca];omega
set_option maxHeartbeats 2000000 in
theorem KF (e q:Int) (a:UInt32) (ns:List Int) (s:Value) (A:Ah) (n:∀h,A h->rdH 1 s ns.length (ns.map Aa) h) (he:0<=e/\e<=1099511627776) (hq:0<=q/\q<=1099511627776) (hn:1<=ns.length/\ns.length<=40) (m:∀y∈ns,0<=y/\y<=1023):Aj 221 [.agg #[Aa e,Aa q,s,u32 a]] [A] (λv G=>∃p:Value,v=.tuple #[p,Aa 0]/\G=[grow 5 1 p (sect (([80,76,79,71]:List UInt8)++Ag 8 e++Ag 8 q++Ag 4 (a.toNat:Int)++Ag 2 (ns.length:Int)++(ns).flatMap (Ag 4))).length ((sect (([80,76,79,71]:List UInt8)++Ag 8 e++Ag 8 q++Ag 4 (a.toNat:Int)++Ag 2 (ns.length:Int)++(ns).flatMap (Ag 4))).map u8),A]):=by
 intro z R w H;obtain ⟨k,g,rfl⟩:=H.sy 0 (λq=>(n _ q).slc);refine Ac func221 Z ntmps221 Z (Za 2 [] H Z ?_);intro d w H;refine Z2 9 [0,0,0] H Z (Ai Z (call156 _) (Dl _ _) H ?_);intro w H;refine Ad Z (AY Z Z) (Zc 1 Z (Ak 10 Z (λh1=>U) (λh1=>?_)));refine Z2 2 [1,0,0] H Z (Ai Z (call156 _) (Dl _ _) H ?_);intro w H;refine Ad Z (AY Z Z) (Zc 2 Z (Ak 16 Z (λh2=>U) (λh2=>?_)));refine Z2 6 [2,0,0,0] H Z (Ak 22 Z (λx=>U) (λx=>?_));refine Z2 7 [2,0,0,0] H Z (Af Z (λh4=>U) (λh4=>?_));refine Zc 3 Z (AL (Sep z (blk d [Aa e,Aa q,.slice k ns.length g,u32 a] 233::R)) 9 Z J (A0 H λw c=>?_));have H:=c.l2;refine A7 [2,3,5,6] [0,0,1,0] J (λ_ f=>(AS (f.blk 0 Z) AJ)) (by exact H.pick 2 [0] Z) Z J Z Z (An [0] J O (Ar (Co Z Z Z Z (AM H Z J Bg Z (by decide) (by decide) (out:=[u8 80,u8 76,u8 79,u8 71]) J) ?_)));rintro _ w ⟨t,rfl,H⟩;refine Am (λ_=>(H.pick 3 [1] Z)) (An [1] J O (Ar (Co Z Z Z Z (Ns 0 H Z Z J J Z ⟨Z,by omega⟩) ?_)));rintro _ w ⟨rfl,c⟩;have c:Sep z (LO (.slice (some ⟨t,0,none⟩) 4 4) ([80,76,79,71]:List UInt8).length (([80,76,79,71]:List UInt8).map u8)::blk d [Aa e,Aa q,.slice k ns.length g,u32 a] 233::A::R) w:=c;have H:=c.l3;refine Am (λ_=>(H.pick 3 [1] Z)) (An [4] J O (Ar ?_));replace H:=(H.mono 0 (B:=bsA 5 (.slice (some ⟨t,0,none⟩) 4 4) ([80,76,79,71]:List UInt8)) Z (λh q=>.inl q)).l3;refine A6 Z Z Z Z Z Z (λw=>call157 _ w) (Cv _ ([80,76,79,71]:List UInt8) e 8 U (by first|omega|(simp only[Ab2,Ab3,Aca,Acb,Ab8,Ae,Al,Aq]<;>omega)|(simp[Ae,Al,Aq,Sup.list,sect_len]<;>omega)|simp[Ae,Al,Aq,Sup.list,sect_len])) H Z ?_;rintro u3 w _ ⟨_,rfl,rfl⟩ H;have a0:=H.sy 0 (·.slc);refine Am (λ_=>(H.pick 3 [1] Z)) (An [7] J O (Ar ?_));replace H:=(H.mono 0 (B:=bsA 5 u3 (([80,76,79,71]:List UInt8)++Ag 8 e)) Z (λh q=>.inr q)).l3;refine A6 Z Z Z Z Z Z (λw=>call157 _ w) (Cv _ (([80,76,79,71]:List UInt8)++Ag 8 e) q 8 U (by first|omega|(simp only[Ab2,Ab3,Aca,Acb,Ab8,Ae,Al,Aq]<;>omega)|(simp[Ae,Al,Aq,Sup.list,sect_len]<;>omega)|simp[Ae,Al,Aq,Sup.list,sect_len])) H Z ?_;rintro u4 w _ ⟨_,rfl,rfl⟩ H;have a2:=H.sy 0 (·.slc);refine Am (λ_=>(H.pick 3 [1] Z)) (An [8] J O (Ar (B8 Z Z Z Z (AU Z Z) (Am (λh=>absurd Z h) (AT J (gn (Zc 2 Z ?_)))))));replace H:=H.f1;refine AL (Sep z (blk d [Aa e,Aa q,.slice k ns.length g,u32 a] 233::R)) 10 Z J (A0 H λw c=>?_);have H:=c.l3;refine A7 [0,1,2] [3,0] J (λ_ f=>(AS (f.blk 0 Z) AJ)) (by exact H.pick 3 [0] Z) Z J Z Z (AQ 3 J Z Z J J J Z Z Z (Ra Z J Z) (H.pick 3 [0] Z) (A7 [5,6] [2,0] J (λ_ f=>(AS (f.blk 0 Z) AJ)) (by exact H.pick 3 [0] Z) Z J Z Z (AQ 7 J Z Z J J J Z Z Z (EI Z (z:=1) J Z) (H.pick 3 [0] Z) (An [4] J O (Ar ?_)))));replace H:=(H.mono 1 (B:=bsA 5 u4 ((([80,76,79,71]:List UInt8)++Ag 8 e)++Ag 8 q)) Z (λh q=>.inr q)).l3;refine A6 Z Z Z Z Z Z (λw=>call157 _ w) (Cv _ ((([80,76,79,71]:List UInt8)++Ag 8 e)++Ag 8 q) (a.toNat:Int) 4 U (by first|omega|(simp only[Ab2,Ab3,Aca,Acb,Ab8,Ae,Al,Aq]<;>omega)|(simp[Ae,Al,Aq,Sup.list,sect_len]<;>omega)|simp[Ae,Al,Aq,Sup.list,sect_len])) H.f1 Z ?_;rintro u5 w _ ⟨_,rfl,rfl⟩ H;have a4:=H.sy 0 (·.slc);refine Am (λ_=>(H.pick 3 [1] Z)) (An [8] J O (Ar ?_));replace H:=(H.mono 0 (B:=bsA 5 u5 (((([80,76,79,71]:List UInt8)++Ag 8 e)++Ag 8 q)++Ag 4 (a.toNat:Int))) Z (λh q=>.inr q)).l3;refine A6 Z Z Z Z Z Z (λw=>call157 _ w) (Cv _ (((([80,76,79,71]:List UInt8)++Ag 8 e)++Ag 8 q)++Ag 4 (a.toNat:Int)) (ns.length:Int) 2 U (by first|omega|(simp only[Ab2,Ab3,Aca,Acb,Ab8,Ae,Al,Aq]<;>omega)|(simp[Ae,Al,Aq,Sup.list,sect_len]<;>omega)|simp[Ae,Al,Aq,Sup.list,sect_len])) H Z ?_;rintro u6 w _ ⟨_,rfl,rfl⟩ H;have a5:=H.sy 0 (·.slc);refine Am (λ_=>(H.pick 3 [1] Z)) (An [9] J O (Ar (B8 Z Z Z Z (AU Z Z) (Am (λh=>absurd Z h) (AT J (gn (Zc 3 Z ?_)))))));rw[show ((((([80,76,79,71]:List UInt8)++Ag 8 e)++Ag 8 q)++Ag 4 (a.toNat:Int))++Ag 2 (ns.length:Int))=([80,76,79,71]:List UInt8)++Ag 8 e++Ag 8 q++Ag 4 (a.toNat:Int)++Ag 2 (ns.length:Int)++(ns.take 0).flatMap (Ag 4) from by simp] at H;refine Zc 5 Z ?_;refine Ay (σ:=Nat×Value) (λ⟨i,u⟩=>[(5,Aa (i:Int)),(4,u),(1,V d)])
   (λ⟨i,u⟩ w=>Sep z (grow 5 1 u ((([80,76,79,71]:List UInt8)++Ag 8 e++Ag 8 q++Ag 4 (a.toNat:Int)++Ag 2 (ns.length:Int)++(ns.take i).flatMap (Ag 4)).length) ((([80,76,79,71]:List UInt8)++Ag 8 e++Ag 8 q++Ag 4 (a.toNat:Int)++Ag 2 (ns.length:Int)++(ns.take i).flatMap (Ag 4)).map u8)::blk d [Aa e,Aa q,.slice k ns.length g,u32 a] 233::A::R) w/\(i<=ns.length)) (λ⟨i,u⟩=>ns.length-i) ⟨0,u6⟩
   fr_z ⟨H,Acg _⟩ ?_
 clear H;rintro ⟨i,u⟩ w ⟨c,o⟩;dsimp only at o c ⊢;have H:=c.l3;have su:=H.sy 0 (·.slc);have hi:=o;clear o;refine Z2 10 [2,1,0,0] H Z (Af Z (λh5=>?_) (λh5=>?_))
 ·refine Zc 6 Z ?_;obtain ⟨y,l⟩:∃y,ns[i]?=some y:=⟨_,Ab0 U⟩;have a6:=m y (Ab1 l)
  have b:=(H.rd 2 Z n).at (j:=i) (u:=Aa y) (by rw[Ach,l];rfl);refine Z2 4 [2,1,0] H Z (Ad Z (Aw Z (z:=1) (j:=i) (r:=i) J Z Z Z U b U) (Ad Z (AK Z Z J (AB b)) (Ai Z (call156 _) (Dl _ _) H ?_)));intro w H;refine Ad Z (AY Z Z) (Zc 2 Z (Af Z (λh6=>U) (λh6=>?_)));refine Zc 2 Z ?_;have b:=(H.rd 2 Z n).at (j:=i) (u:=Aa y) (by rw[Ach,l];rfl);refine Z2 5 [2,1,0] H Z (Ad Z (Aw Z (z:=1) (j:=i) (r:=i) J Z Z Z U b U) (Ad Z (AK Z Z J (AB b)) ?_));replace H:=(H.mono 0 (B:=bsA 5 u (([80,76,79,71]:List UInt8)++Ag 8 e++Ag 8 q++Ag 4 (a.toNat:Int)++Ag 2 (ns.length:Int)++(ns.take i).flatMap (Ag 4))) Z (λh q=>.inr q)).l3;refine AA Z (call157 _) (Cv _ (([80,76,79,71]:List UInt8)++Ag 8 e++Ag 8 q++Ag 4 (a.toNat:Int)++Ag 2 (ns.length:Int)++(ns.take i).flatMap (Ag 4)) y 4 U (by first|omega|(simp only[Ab2,Ab3,Aca,Acb,Ab8,Ae,Al,Aq]<;>omega)|(simp[Ae,Al,Aq,Sup.list,sect_len]<;>omega)|simp[Ae,Al,Aq,Sup.list,sect_len])) H ?_;rintro u7 w _ ⟨_,rfl,rfl⟩ H;have a3:=H.sy 0 (·.slc);refine Zc 2 Z ?_;rw[show ((([80,76,79,71]:List UInt8)++Ag 8 e++Ag 8 q++Ag 4 (a.toNat:Int)++Ag 2 (ns.length:Int)++(ns.take i).flatMap (Ag 4))++Ag 4 y)=([80,76,79,71]:List UInt8)++Ag 8 e++Ag 8 q++Ag 4 (a.toNat:Int)++Ag 2 (ns.length:Int)++(ns.take (i+1)).flatMap (Ag 4) from (by rw[Ack,l];simp)] at H;refine Z1 7 [] [(i:Int)+1] Z U (gf ?_);intro _ hF;refine ⟨⟨i+1,u7⟩,hF.cz,⟨H,?_⟩,?_⟩
  ·show i+1<=ns.length;omega
  (dsimp only;omega)
 refine Zc 2 Z (gx (Zc 3 Z ?_));rw[show ns.take i=ns from Ab4 U] at H;refine Zc 2 Z (AA Z (call183 _) (GP _ (([80,76,79,71]:List UInt8)++Ag 8 e++Ag 8 q++Ag 4 (a.toNat:Int)++Ag 2 (ns.length:Int)++(ns).flatMap (Ag 4)) (by first|omega|(simp only[Ab2,Ab3,Aca,Acb,Ab8,Ae,Al,Aq]<;>omega)|(simp[Ae,Al,Aq,Sup.list,sect_len]<;>omega)|simp[Ae,Al,Aq,Sup.list,sect_len])) H ?_);rintro u8 w _ ⟨_,rfl,rfl⟩ H;have a1:=H.sy 0 (·.slc);refine Zc 5 Z (Zr Z ?_);exact ⟨_,⟨_,Z,Z⟩,H.pick 3 [0,2] Z⟩
theorem Ov(e q:Int)(c:UInt32)(d:0<=e/\e<=1099511627776)(hq:0<=q/\q<=1099511627776):Aj 221 [.agg #[Aa e,Aa q,.slice none 0 0,u32 c]] [] (λv G=>v=.tuple #[.slice none 0 0,Aa 1]/\G=[]):=by
 intro z R w H;refine Ac func221 Z ntmps221 Z (Za 2 [] H Z ?_);intro f w H;refine Z2 9 [0,0,0] H Z (Ai Z (call156 _) (Dl _ _) H ?_);intro w H;refine Ad Z (AY Z Z) (Zc 1 Z (Ak 10 Z (λa=>U) (λa=>?_)));refine Z2 2 [1,0,0] H Z (Ai Z (call156 _) (Dl _ _) H ?_);intro w H;refine Ad Z (AY Z Z) (Zc 2 Z (Ak 16 Z (λb=>U) (λb=>?_)));refine Z2 21 [2,0,0,3] H Z (Zr Z ?_);exact ⟨_,⟨Z,Z⟩,H.pick 1 [] Z⟩
theorem Ow(v:Value)(sec:List UInt8)(A:Ah)(a:∀h,A h->rdH 1 v sec.length (sec.map u8) h)(d:sec=List.replicate 256 0):Aj 187 [v] [A] (λv G=>v=.tuple #[.agg #[Aa 0,Aa 0,.slice none 0 0,.int .u32 0],.bool false]/\G=[A]):=by
 intro z R w H;have k:sec.length=256:=by rw[d];simp
 obtain ⟨b,o,c,rfl⟩:=H.sy 0 (λq=>(a _ q).sl (by rw[Ab7];omega));have g:=H.sy 0 (λq=>(a _ q).cap);refine Ac func187 Z ntmps187 Z (Zc 2 Z (AG Z (BC (P:=prog) H Z (zs:=[Aa 0,Aa 0,.slice none 0 0,u32 0]) J) ?_));rintro _ w ⟨e,rfl,H⟩;refine Zc 6 Z (Ai Z (call142 _) (Cr _ sec _ a 4 8 (by first|omega|simp_all)) H.f1 ?_);intro w H;refine k_updA 10 (v:=Aa 0) Z (congrArg Aa (by rw[d];rfl)) (Zc 1 Z (Ai Z (call142 _) (Cr _ sec _ a 12 8 (by first|omega|simp_all)) H ?_));intro w H;refine k_updA 12 (v:=Aa 0) Z (congrArg Aa (by rw[d];rfl)) (Zc 1 Z (Ai Z (call142 _) (Cr _ sec _ a 20 4 (by first|omega|simp_all)) H ?_));intro w H;refine k_updA 14 (v:=Aa 0) Z (congrArg Aa (by rw[d];rfl)) (Ad Z (Ie Z J Z) (Ad Z (AW Z Z (out:=[Aa 0,Aa 0,.slice none 0 0,u32 (DU 0)]) J) (AG Z (BC (P:=prog) H Z (zs:=[Aa 0,Aa 0,.slice none 0 0,u32 0]) J) ?_)));rintro _ w ⟨f,rfl,H⟩;refine Z4 6 [0] H Z ?_;intro w H;refine Ai Z (call142 _) (Cr _ sec _ a 24 2 (by first|omega|simp_all)) H.f1 ?_;intro w H;refine k_updA 18 (v:=Aa 0) Z (congrArg Aa (by rw[d];rfl)) (Zc 10 Z ?_);refine Ay (σ:=Nat) (λi=>[(6,Aa (i:Int)),(0,.slice (some ⟨b,o,none⟩) sec.length c),(2,V e),(3,.bool false),(4,V f),(5,Aa 0)])
   (λi w=>Sep z (A::blk f [Aa 0,Aa 0,.slice none 0 0,u32 (DU 0)] 233::blk e [Aa 0,Aa 0,.slice none 0 0,u32 0] 233::R) w/\(True)) (λi=>0) 0
   fr_z ⟨H,trivial⟩ ?_
 clear H;rintro i w ⟨j,m⟩;have H:=j.l3;refine Z0 7 [0] Z (Ak 22 Z (λl=>U) (λl=>?_));refine Zc 8 Z (gx (Z2 5 [1,4] H Z (Ai Z (call221 _) (Ov _ _ _ U U) H ?_)));intro w H;refine Z0 23 [3] Z (Ad Z (AW Z Z (out:=[Aa 0,Aa 0,.slice none 0 0,u32 0]) J) (Z4 5 [2] H Z ?_));intro w H;refine Zl [2,4] H Z ?_;exact ⟨_,⟨Z,Z⟩,H.pick 3 [0] Z⟩
set_option maxHeartbeats 2000000 in
theorem Qt (v:Value) (sec:List UInt8) (A:Ah) (g:∀h,A h->rdH 1 v sec.length (sec.map u8) h) (e q:Int) (he:0<=e/\e<=1099511627776) (hq:0<=q/\q<=1099511627776) (ims:List Img) (k:1<=ims.length/\ims.length<=40) (n:∀m∈ims,m.Ok) (a:sec=sect (Bx e q ims)):Aj 187 [v] [A] (λv G=>∃v2:Value,v=.tuple #[.agg #[Aa e,Aa q,v2,u32 (AD (AH e q ims))],.bool true]/\G=[grow 3 1 v2 ims.length ((ims.map Img.num).map Aa),A]):=by
 intro z R w H;replace H:=H.l1;have a1:sec.length=256:=by rw[a];exact sect_len (hdL_le k.2)
 obtain ⟨b,o,c,rfl⟩:=H.sy 0 (λq=>(g _ q).sl (by rw[Ab7];omega));have a0:=H.sy 0 (λq=>(g _ q).cap);refine Ac func187 Z ntmps187 Z (Zc 2 Z (AG Z (BC (P:=prog) H Z (zs:=[Aa 0,Aa 0,.slice none 0 0,u32 0]) J) ?_));rintro _ w ⟨t,rfl,H⟩;replace H:=H.l2;refine Zc 6 Z (Ai Z (call142 _) (Cr _ sec _ g 4 8 (by first|omega|simp_all)) H.f1 ?_);intro w H;replace H:=H.l2;refine k_updA 10 (v:=Aa e) Z (congrArg Aa (by rw[a];exact P0 k.2 he)) (Zc 1 Z (Ai Z (call142 _) (Cr _ sec _ g 12 8 (by first|omega|simp_all)) H ?_));intro w H;replace H:=H.l2;refine k_updA 12 (v:=Aa q) Z (congrArg Aa (by rw[a];exact P1 k.2 hq)) (Zc 1 Z (Ai Z (call142 _) (Cr _ sec _ g 20 4 (by first|omega|simp_all)) H ?_));intro w H;replace H:=H.l2;refine Ad Z (Ie Z J Z) (k_updA 15 (v:=u32 (AD (AH e q ims))) Z (congrArg u32 (by rw[a];exact ZC k.2)) (Ad Z (AW Z Z (out:=[Aa e,Aa q,.slice none 0 0,u32 (AD (AH e q ims))]) J) (AG Z (BC (P:=prog) H Z (zs:=[Aa 0,Aa 0,.slice none 0 0,u32 0]) J) ?_)));rintro _ w ⟨p,rfl,H⟩;replace H:=H.l3;refine Z4 6 [0] H Z ?_;intro w H;refine Ai Z (call142 _) (Cr _ sec _ g 24 2 (by first|omega|simp_all)) H.f1 ?_;intro w H;replace H:=H.l3;refine k_updA 18 (v:=Aa (ims.length:Int)) Z (congrArg Aa (by obtain ⟨m9,h1,s⟩:=Rw (sec:=sec);rw[h1,<-s,a,MK k.2])) (Zc 5 Z ?_);replace H:=(H.nilg 3 1).l4;refine Zc 5 Z ?_;refine Ay (σ:=Nat×Value) (λ⟨i,u⟩=>[(6,Aa (i:Int)),(0,.slice (some ⟨b,o,none⟩) sec.length c),(2,V t),(3,.bool false),(4,V p),(5,Aa (ims.length:Int))])
   (λ⟨i,u⟩ w=>Sep z (grow 3 1 u i (((ims.take i).map Img.num).map Aa)::A::blk p [Aa e,Aa q,u,u32 (AD (AH e q ims))] 233::blk t [Aa 0,Aa 0,.slice none 0 0,u32 0] 233::R) w/\(i<=ims.length)) (λ⟨i,u⟩=>ims.length-i) ⟨0,.slice none 0 0⟩
   fr_z ⟨(by simpa using H),Acg _⟩ ?_
 clear H;rintro ⟨i,u⟩ w ⟨f,hI⟩;dsimp only at hI f ⊢;have H:=f.l4;have su:=H.sy 0 (·.slc);have hi:=hI;clear hI;refine Z0 7 [0] Z (Ak 22 Z (λh1=>?_) (λh1=>?_))
 ·refine Z0 5 [0] Z (Af Z (λs=>?_) (λs=>?_))
  ·refine Zc 4 Z ?_;obtain ⟨m,j⟩:∃m,ims[i]?=some m:=⟨_,Ab0 U⟩;replace H:=H.f1.f2;refine AL (Sep z (blk p [Aa e,Aa q,u,u32 (AD (AH e q ims))] 233::A::R)) 11 Z J (A0 H λw f=>?_)
   have H:=f.l4;refine A7 [0,1,2,3] [2,0] J (λ_ hx=>(AS (hx.blk 0 Z) AJ)) (by exact H.pick 4 [0,1] Z) Z J Z Z (AQ 4 J Z Z J J J Z Z Z (GX Z Z Z (r:=((4*i:Nat):Int)) U U) (H.pick 4 [0,1] Z) (AQ 5 J Z Z J J J Z Z Z (CD Z Z Z (r:=((26+4*i:Nat):Int)) U U) (H.pick 4 [0,1] Z) (An [6] J O (Ar (A6 Z Z Z Z Z Z (λw=>call142 _ w) (Cr _ sec _ g (26+4*i) 4 (by first|omega|simp_all)) H.f1 Z ?_)))));rintro _ w _ ⟨rfl,rfl⟩ H;replace H:=H.l4;refine k_updA 34 (v:=Aa m.num) Z (congrArg Aa (by rw[a];exact TT k.2 j (n m (Ab1 j)))) (Am (λ_=>(H.pick 4 [1,0] Z)) (An [7] J O (Ar (Co Z Z Z Z (AM H Z J BQ Z (by decide) (by decide) (out:=[Aa m.num]) J) ?_))));rintro _ w ⟨b3,rfl,H⟩;replace H:=H.l5;refine Am (λ_=>(H.pick 5 [2,1] Z)) (An [8] J O (Ar (Co Z Z Z Z (AO 3 H Z Z J BQ Z Z (H.rv 0 (·.rd U U O Z)) (by simp[Value.oneCell']) U) ?_)));rintro v4 w f;have f:Sep z (blk b3 [Aa m.num] 3::A::blk p [Aa e,Aa q,u,u32 (AD (AH e q ims))] 233::grow 3 1 v4 (i+1) (((ims.take i).map Img.num).map Aa++[Aa m.num])::blk t [Aa 0,Aa 0,.slice none 0 0,u32 0] 233::R) w:=f;have x:(((ims.take i).map Img.num).map Aa++[Aa m.num]:List Value)=((ims.take (i+1)).map Img.num).map Aa:=(by rw[Ack,j];simp);rw[x] at f;have H:=f.l5;have l:=H.sy 3 (·.slc);refine Am (λ_=>(H.pick 5 [2,1] Z)) (A7 [9] [2] J (λ_ _=>AJ) (by exact H.pick 5 [2,1] Z) Z J Z Z (An [10] J O (Ar (Ca Z Z Z (KN 2 H Z Z Z Z l.cells l.one J) ?_))));rintro w H;replace H:=H.l5;refine Am (λh=>absurd Z h) (AT J (gn (Z1 7 [] [(i:Int)+1] Z U ?_)));replace H:=H.d.f3.f2.f2.f3;refine gf ?_;intro _ hF;refine ⟨⟨i+1,v4⟩,hF.cz,⟨H,?_⟩,?_⟩
   ·show i+1<=ims.length;omega
   (dsimp only;omega)
  (exfalso;omega)
 refine Zc 8 Z (gx (Zc 3 Z ?_));obtain rfl:i=ims.length:=by omega
 rw[AcW] at H;refine Z2 2 [2,4] H Z (AA Z (call221 _) (KF e q _ (ims.map Img.num) _ _ (λh q=>by have e9:(ims.map Img.num).length=ims.length:=Ab7 ..;rw[e9];exact q.rd) U U (by rw[Ab7];omega) (λy hy=>by obtain ⟨m9,h9,rfl⟩:=Ab9.1 hy;exact (n m9 h9).1)) H ?_);rintro _ w _ ⟨u5,rfl,rfl⟩ H;replace H:=H.l5;have a2:=H.sy 0 (·.slc);refine Z0 15 [4] Z (Ai Z (call140 _) (FD _ _ (sect (Bx e q ims)) sec _ _ (λh q=>q.rd) g) H.f2.f1 ?_);intro w H;replace H:=H.l5;refine k_updA 48 (v:=.bool true) Z (congrArg Value.bool (decide_eq_true a.symm)) (Z2 10 [3,4] H Z (Ba Z Z (AF 4 H Z Z Z Z (vs:=[Aa e,Aa q,u,u32 (AD (AH e q ims))]) Z (Ap Z (Ap Z (Ap su.one (Ap Z AR)))) J O (out:=[Aa e,Aa q,u,u32 (AD (AH e q ims))]) Z) ?_));rintro w H;replace H:=H.l5;refine Zc 4 Z (Zl [4,4] H Z ?_);exact ⟨_,⟨_,Z,Z⟩,H.pick 5 [2,1] Z⟩
theorem IG(ns:List Int)(l:Value)(A:Ah)(e:∀h,A h->rdH 1 l ns.length (ns.map Aa) h)(hl:ns.length=120)(d:∀y∈ns,0<=y/\y<=1000):Aj 159 [l] [A] (λv G=>∃k:Value,v=.tuple #[k,Aa 0]/\G=[grow 5 1 k (DI ns).length ((DI ns).map u8),A]):=by
 intro z R w H;obtain ⟨s,m,rfl⟩:=H.sy 0 (λq=>(e _ q).slc);refine Ac func159 Z ntmps159 Z (Zc 13 Z ?_);replace H:=(H.nilg 5 1).l2;refine Zc 5 Z ?_;refine Ay (σ:=Nat×Value) (λ⟨i,u⟩=>[(5,Aa (i:Int)),(4,u),(0,.slice s ns.length m)])
   (λ⟨i,u⟩ w=>Sep z (grow 5 1 u (((ns.take i).flatMap (Ag 2)).length) (((ns.take i).flatMap (Ag 2)).map u8)::A::R) w/\(i<=ns.length)) (λ⟨i,u⟩=>ns.length-i) ⟨0,.slice none 0 0⟩
   (λ_ c=>(c.co Z (by go_num) c.cz)) ⟨(by simpa using H),Acg _⟩ ?_
 clear H;rintro ⟨i,u⟩ w ⟨g,f⟩;dsimp only at f g ⊢;have H:=g.l2;have su:=H.sy 0 (·.slc);have hi:=f;clear f;refine Z0 9 [0] Z (Af Z (λt=>?_) (λt=>?_))
 ·refine Zc 6 Z ?_;obtain ⟨y,b⟩:∃y,ns[i]?=some y:=⟨_,Ab0 U⟩;have x:=d y (Ab1 b)
  have a:=(H.rd 1 Z e).at (j:=i) (u:=Aa y) (by rw[Ach,b];rfl);refine Zc 3 Z (Ad Z (Aw Z (z:=1) (j:=i) (r:=i) J Z Z Z U a U) (Ad Z (AK Z Z J (AB a)) (Ai Z (call156 _) (Dl _ _) H ?_)));intro w H;refine Ad Z (AY Z Z) (Zc 2 Z (Af Z (λh2=>U) (λh2=>?_)));refine Zc 2 Z ?_;have a:=(H.rd 1 Z e).at (j:=i) (u:=Aa y) (by rw[Ach,b];rfl);refine Zc 4 Z (Ad Z (Aw Z (z:=1) (j:=i) (r:=i) J Z Z Z U a U) (Ad Z (AK Z Z J (AB a)) ?_));replace H:=(H.mono 0 (B:=bsA 5 u ((ns.take i).flatMap (Ag 2))) Z (λh q=>.inr q)).l2;refine AA Z (call157 _) (Cv _ ((ns.take i).flatMap (Ag 2)) y 2 U (by first|omega|(simp only[Ab2,Ab3,Aca,Acb,Ab8,Ae,Al,Aq]<;>omega)|(simp[Ae,Al,Aq,Sup.list,sect_len]<;>omega)|simp[Ae,Al,Aq,Sup.list,sect_len])) H ?_;rintro p w _ ⟨_,rfl,rfl⟩ H;have o:=H.sy 0 (·.slc);refine Zc 2 Z ?_;rw[show (((ns.take i).flatMap (Ag 2))++Ag 2 y)=(ns.take (i+1)).flatMap (Ag 2) from (by rw[Ack,b];simp)] at H;refine Z1 7 [] [(i:Int)+1] Z U (gf ?_);intro _ c;refine ⟨⟨i+1,p⟩,c.cz,⟨H,?_⟩,?_⟩
  ·show i+1<=ns.length;omega
  (dsimp only;omega)
 refine Zc 2 Z (gx (Zc 4 Z ?_));rw[show ns.take i=ns from Ab4 U] at H;refine Z0 6 [0] Z (Af Z (λn=>U) (λn=>?_));refine Zc 10 Z (Zr Z ?_);exact ⟨_,⟨_,Z,Z⟩,H.pick 2 [0,1] Z⟩
theorem NM(v:Value)(sec:List UInt8)(A:Ah)(k:∀h,A h->rdH 1 v sec.length (sec.map u8) h)(ns:List Int)(l:ns.length=120)(g:∀y∈ns,0<=y/\y<=1000)(a:sec=DI ns):Aj 195 [v] [A] (λv G=>∃f:Value,v=.tuple #[f,.bool true]/\G=[grow 3 1 f ns.length (ns.map Aa),A]):=by
 intro z R w H;have t:sec.length=240:=by rw[a];exact FC l
 obtain ⟨b,o,c,rfl⟩:=H.sy 0 (λq=>(k _ q).sl (by rw[Ab7];omega));have p:=H.sy 0 (λq=>(k _ q).cap);refine Ac func195 Z ntmps195 Z (Zc 13 Z ?_);replace H:=(H.nilg 3 1).l2;refine Zc 5 Z ?_;refine Ay (σ:=Nat×Value) (λ⟨i,u⟩=>[(5,Aa (i:Int)),(4,u),(0,.slice (some ⟨b,o,none⟩) sec.length c),(2,.slice none 0 0),(3,.bool false)])
   (λ⟨i,u⟩ w=>Sep z (grow 3 1 u i ((ns.take i).map Aa)::A::R) w/\(i<=120)) (λ⟨i,u⟩=>120-i) ⟨0,.slice none 0 0⟩
   (λ_ j=>(j.co Z (by go_num) j.cz)) ⟨(by simpa using H),Acg _⟩ ?_
 clear H;rintro ⟨i,u⟩ w ⟨e,n⟩;dsimp only at n e ⊢;have H:=e.l2;have su:=H.sy 0 (·.slc);have hi:=n;clear n;refine Z0 7 [0] Z (Af Z (λh1=>?_) (λh1=>?_))
 ·refine Zc 4 Z ?_;obtain ⟨y,r⟩:∃y,ns[i]?=some y:=⟨_,Ab0 U⟩;refine Z1 5 [] [((2*i:Nat):Int)] Z U (Ai Z (call142 _) (Cr _ sec _ k (2*i) 2 (by first|omega|simp_all)) H.f1 ?_);intro w H;refine k_updA 16 (v:=Aa y) Z (congrArg Aa (by rw[a];exact Sd g r)) (AG Z (AM H Z J BQ Z (by decide) (by decide) (out:=[Aa y]) J) ?_);rintro _ w ⟨b1,rfl,H⟩;refine AG Z (AO 2 H Z Z J BQ Z Z (H.rv 0 (·.rd U U O Z)) (by simp[Value.oneCell']) U) ?_;rintro f w e;have e:Sep z (blk b1 [Aa y] 3::A::grow 3 1 f (i+1) ((ns.take i).map Aa++[Aa y])::R) w:=e
  have m:((ns.take i).map Aa++[Aa y]:List Value)=(ns.take (i+1)).map Aa:=(by rw[Ack,r];simp);rw[m] at e;have H:=e.l3;have x:=H.sy 2 (·.slc);refine Z1 9 [] [(i:Int)+1] Z U ?_;replace H:=H.d.f1;refine gf ?_;intro _ j;refine ⟨⟨i+1,f⟩,j.cz,⟨H,?_⟩,?_⟩
  ·show i+1<=120;omega
  (dsimp only;omega)
 refine Zc 2 Z (gx (Zc 3 Z ?_));obtain rfl:i=120:=by omega
 rw[show ns.take 120=ns from Ab4 U,show (120:Nat)=ns.length from l.symm] at H;refine Zc 2 Z (AA Z (call159 _) (IG ns _ _ (λh q=>q.rd) l g) H ?_);rintro _ w _ ⟨u3,rfl,rfl⟩ H;have s:=H.sy 0 (·.slc);refine Z0 15 [4] Z (Ai Z (call140 _) (FD _ _ (DI ns) sec _ _ (λh q=>q.rd) k) H.f2.f1 ?_);intro w H;refine k_updA 29 (v:=.bool true) Z (congrArg Value.bool (decide_eq_true a.symm)) (Zc 15 Z (Zr Z ?_));exact ⟨_,⟨_,Z,Z⟩,H.pick 3 [2,1] Z⟩
theorem So:Aj 158 [.agg #[Aa 0,Aa 0,Aa 0,Aa 0,Aa 0,Aa 0]] [] (λv G=>v=.bool true/\G=[]):=by
 intro z R w H;refine Ac func158 Z ntmps158 Z (Za 2 [] H Z ?_);intro f w H;refine Z2 7 [0,0,0] H Z (Ai Z (call156 _) (Dl _ _) H ?_);intro w H;refine Zc 1 Z (Ak 6 Z (λa=>?_) (λa=>?_))
 ·refine Z2 2 [1,0,0] H Z (Ai Z (call156 _) (Dl _ _) H ?_);intro w H;refine Zc 2 Z (Ak 11 Z (λd=>?_) (λd=>?_))
  ·refine Z2 2 [2,0,0] H Z (Ai Z (call156 _) (Dl _ _) H ?_);intro w H;refine Zc 2 Z (Ak 16 Z (λb=>?_) (λb=>?_))
   ·refine Z2 2 [3,0,0] H Z (Ai Z (call156 _) (Dl _ _) H ?_);intro w H;refine Zc 2 Z (Ak 21 Z (λc=>?_) (λc=>?_))
    ·refine Z2 2 [5,0,0] H Z (Ai Z (call156 _) (Dl _ _) H ?_);intro w H;refine Zc 2 Z (Ak 26 Z (λe=>?_) (λe=>?_))
     ·refine Z2 2 [4,0,0] H Z (Ai Z (call156 _) (Dl _ _) H ?_);intro w H;refine Zc 5 Z (Zr Z ?_);exact ⟨_,⟨congrArg Value.bool (decide_eq_true U),Z⟩,H.pick 1 [] Z⟩
     (exfalso;omega)
    (exfalso;omega)
   (exfalso;omega)
  (exfalso;omega)
 (exfalso;omega)
set_option maxHeartbeats 2000000 in
theorem Sp (vv:Value) (A:Ah) (p:∀h,A h->rdH 6 vv 8 GN h):Aj 91 [.agg #[Aa 1,vv,.slice none 0 0]] [A] (λv G=>∃(t:Value) (cb:List UInt8),cb.length=240/\v=.tuple #[t,Aa 0]/\G=[grow 5 1 t cb.length (cb.map u8),A]):=by
 intro z R w H;obtain ⟨n,f,rfl⟩:=H.sy 0 (λq=>(p _ q).slc);refine Ac func91 Z ntmps91 Z (Za 2 [] H Z ?_);intro c w H;refine Z2 9 [0,0,0] H Z (Ai Z (call156 _) (Dl _ _) H ?_);intro w H;refine Ad Z (AY Z Z) (Zc 1 Z (Ak 12 Z (λh1=>U) (λh1=>?_)));refine Z2 17 [2,0,0,4,1,0,0,4] H Z (AL (Sep z (blk c [Aa 1,.slice n 8 f,.slice none 0 0] 139::R)) 8 Z J (A0 H λw a=>?_));have H:=a.l2;refine A7 [0,1,3,4] [0,0,2,0] J (λ_ e=>(AS (e.blk 0 Z) AJ)) (by exact H.pick 2 [0] Z) Z J Z Z (AQ 5 J Z Z J J J Z Z Z (EI Z (z:=1) J Z) (H.pick 2 [0] Z) (An [2] J O (Ar ?_)));replace H:=(H.nilg 5 1).l3;replace H:=(H.mono 0 (B:=bsA 5 (.slice none 0 0) ([]:List UInt8)) Z (λh q=>.inr q)).l3;refine A6 Z Z Z Z Z Z (λw=>call157 _ w) (Cv _ ([]:List UInt8) 1 4 U (by first|omega|(simp only[Ab2,Ab3,Aca,Acb,Ab8,Ae,Al,Aq]<;>omega)|(simp[Ae,Al,Aq,Sup.list,sect_len]<;>omega)|simp[Ae,Al,Aq,Sup.list,sect_len])) H Z ?_;rintro u2 w _ ⟨_,rfl,rfl⟩ H;have a6:=H.sy 0 (·.slc);refine Am (λ_=>(H.pick 3 [1] Z)) (An [6] J O (Ar ?_));replace H:=(H.mono 0 (B:=bsA 5 u2 (([]:List UInt8)++Ag 4 1)) Z (λh q=>.inr q)).l3;refine A6 Z Z Z Z Z Z (λw=>call157 _ w) (Cv _ (([]:List UInt8)++Ag 4 1) 0 1 U (by first|omega|(simp only[Ab2,Ab3,Aca,Acb,Ab8,Ae,Al,Aq]<;>omega)|(simp[Ae,Al,Aq,Sup.list,sect_len]<;>omega)|simp[Ae,Al,Aq,Sup.list,sect_len])) H Z ?_;rintro y w _ ⟨_,rfl,rfl⟩ H;have l:=H.sy 0 (·.slc);refine Am (λ_=>(H.pick 3 [1] Z)) (An [7] J O (Ar (B8 Z Z Z Z (AU Z Z) (Am (λh=>absurd Z h) (AT J (gn (Zc 8 Z ?_)))))));refine Ay (σ:=Nat) (λk=>[(5,Aa (k:Int)),(4,y),(1,V c)])
   (λk w=>Sep z (grow 5 1 y (((([]:List UInt8)++Ag 4 1)++Ag 1 0).length) (((([]:List UInt8)++Ag 4 1)++Ag 1 0).map u8)::blk c [Aa 1,.slice n 8 f,.slice none 0 0] 139::A::R) w/\(True)) (λk=>0) 0
   fr_z ⟨H,trivial⟩ ?_
 clear H;rintro k w ⟨a,s⟩;have H:=a.l3;have l:=H.sy 0 (·.slc);refine Z2 10 [2,1,0,0] H Z (Af Z (λh2=>U) (λh2=>?_));refine Zc 2 Z (gx (Zc 5 Z (AA Z (call141 _) (Gj _ ((([]:List UInt8)++Ag 4 1)++Ag 1 0) 21 ⟨by first|omega|(simp only[Ab2,Ab3,Aca,Acb,Ab8,Ae,Al,Aq]<;>omega)|(simp[Ae,Al,Aq,Sup.list,sect_len]<;>omega)|simp[Ae,Al,Aq,Sup.list,sect_len],by omega⟩) H ?_)));rintro u4 w _ ⟨_,rfl,rfl⟩ H;have a5:=H.sy 0 (·.slc);refine Zc 5 Z ?_;have g:((((([]:List UInt8)++Ag 4 1)++Ag 1 0)++List.replicate (21-((([]:List UInt8)++Ag 4 1)++Ag 1 0).length) (0:UInt8))).length=21:=by simp[Ae]
 refine Zc 5 Z ?_;refine Ay (σ:=Nat×Value×List UInt8) (λ⟨i,u,bs⟩=>[(6,Aa (i:Int)),(4,u),(1,V c)])
   (λ⟨i,u,bs⟩ w=>Sep z (grow 5 1 u bs.length (bs.map u8)::blk c [Aa 1,.slice n 8 f,.slice none 0 0] 139::A::R) w/\(i<=8/\bs.length=21+19*i)) (λ⟨i,u,bs⟩=>8-i) ⟨0,u4,(((([]:List UInt8)++Ag 4 1)++Ag 1 0)++List.replicate (21-((([]:List UInt8)++Ag 4 1)++Ag 1 0).length) (0:UInt8))⟩
   fr_z ⟨H,⟨Acg _,g⟩⟩ ?_
 clear H;rintro ⟨i,u,bs⟩ w ⟨a,s⟩;dsimp only at s a ⊢;have H:=a.l3;have su:=H.sy 0 (·.slc);obtain ⟨hi,a8⟩:=s;refine Z0 7 [0] Z (Af Z (λh3=>?_) (λh3=>?_))
 ·refine Zc 5 Z ?_;have b:=(H.rd 2 Z p).at (KD (show i<8 by omega) 0 _ Z)
  refine Z2 4 [1,1,0] H Z (Ad Z (Aw Z (z:=6) (j:=i) (r:=i*6) J Z Z Z U b U) (Ad Z (BO Z Z (vs:=[Aa 0,Aa 0,Aa 0,Aa 0,Aa 0,Aa 0]) J O (AB (λk u hk=>(H.rd 2 Z p).at (KD U k u hk)))) (Za 0 [] H Z ?_)));intro x w H;refine Z4 7 [0,0,6] H Z ?_;intro w H;refine Ai Z (call158 _) (So) H ?_;intro w H;refine Zc 7 Z (AL (Sep z (blk x [Aa 0,Aa 0,Aa 0,Aa 0,Aa 0,Aa 0] 207::R)) 11 Z J (A0 H λw a=>?_));have H:=a.l4;refine A7 [0,1,2,4,5,7,8] [0,0,1,0,2,0] J (λ_ e=>(AS (e.blk 0 Z) AJ)) (by exact H.pick 4 [0] Z) Z J Z Z (An [3] J O (Ar ?_));replace H:=(H.mono 1 (B:=bsA 5 u bs) Z (λh q=>.inr q)).l4;refine A6 Z Z Z Z Z Z (λw=>call157 _ w) (Cv _ bs 0 4 U (by first|omega|(simp only[Ab2,Ab3,Aca,Acb,Ab8,Ae,Al,Aq]<;>omega)|(simp[Ae,Al,Aq,Sup.list,sect_len]<;>omega)|simp[Ae,Al,Aq,Sup.list,sect_len])) H.f1 Z ?_;rintro u6 w _ ⟨_,rfl,rfl⟩ H;have a9:=H.sy 0 (·.slc);refine Am (λ_=>(H.pick 4 [1] Z)) (An [6] J O (Ar ?_));replace H:=(H.mono 0 (B:=bsA 5 u6 (bs++Ag 4 0)) Z (λh q=>.inr q)).l4;refine A6 Z Z Z Z Z Z (λw=>call157 _ w) (Cv _ (bs++Ag 4 0) 0 1 U (by first|omega|(simp only[Ab2,Ab3,Aca,Acb,Ab8,Ae,Al,Aq]<;>omega)|(simp[Ae,Al,Aq,Sup.list,sect_len]<;>omega)|simp[Ae,Al,Aq,Sup.list,sect_len])) H Z ?_;rintro u7 w _ ⟨_,rfl,rfl⟩ H;have a7:=H.sy 0 (·.slc);refine Am (λ_=>(H.pick 4 [1] Z)) (An [9] J O (Ar ?_));replace H:=(H.mono 0 (B:=bsA 5 u7 (bs++Ag 4 0++Ag 1 0)) Z (λh q=>.inr q)).l4;refine A6 Z Z Z Z Z Z (λw=>call157 _ w) (Cv _ (bs++Ag 4 0++Ag 1 0) 0 4 U (by first|omega|(simp only[Ab2,Ab3,Aca,Acb,Ab8,Ae,Al,Aq]<;>omega)|(simp[Ae,Al,Aq,Sup.list,sect_len]<;>omega)|simp[Ae,Al,Aq,Sup.list,sect_len])) H Z ?_;rintro u8 w _ ⟨_,rfl,rfl⟩ H;have a3:=H.sy 0 (·.slc);refine Am (λ_=>(H.pick 4 [1] Z)) (An [10] J O (Ar (B8 Z Z Z Z (AU Z Z) (Am (λh=>absurd Z h) (AT J (gn (Zc 1 Z ?_)))))));replace H:=H.f1;refine AL (Sep z (blk x [Aa 0,Aa 0,Aa 0,Aa 0,Aa 0,Aa 0] 207::R)) 11 Z J (A0 H λw a=>?_);have H:=a.l4;refine A7 [0,1,2,4,5,7,8] [3,0,4,0,5,0] J (λ_ e=>(AS (e.blk 0 Z) AJ)) (by exact H.pick 4 [0] Z) Z J Z Z (An [3] J O (Ar ?_));replace H:=(H.mono 1 (B:=bsA 5 u8 (bs++Ag 4 0++Ag 1 0++Ag 4 0)) Z (λh q=>.inr q)).l4;refine A6 Z Z Z Z Z Z (λw=>call157 _ w) (Cv _ (bs++Ag 4 0++Ag 1 0++Ag 4 0) 0 4 U (by first|omega|(simp only[Ab2,Ab3,Aca,Acb,Ab8,Ae,Al,Aq]<;>omega)|(simp[Ae,Al,Aq,Sup.list,sect_len]<;>omega)|simp[Ae,Al,Aq,Sup.list,sect_len])) H.f1 Z ?_;rintro u9 w _ ⟨_,rfl,rfl⟩ H;have b0:=H.sy 0 (·.slc);refine Am (λ_=>(H.pick 4 [1] Z)) (An [6] J O (Ar ?_));replace H:=(H.mono 0 (B:=bsA 5 u9 (bs++Ag 4 0++Ag 1 0++Ag 4 0++Ag 4 0)) Z (λh q=>.inr q)).l4;refine A6 Z Z Z Z Z Z (λw=>call157 _ w) (Cv _ (bs++Ag 4 0++Ag 1 0++Ag 4 0++Ag 4 0) 0 2 U (by first|omega|(simp only[Ab2,Ab3,Aca,Acb,Ab8,Ae,Al,Aq]<;>omega)|(simp[Ae,Al,Aq,Sup.list,sect_len]<;>omega)|simp[Ae,Al,Aq,Sup.list,sect_len])) H Z ?_;rintro o w _ ⟨_,rfl,rfl⟩ H;have a0:=H.sy 0 (·.slc);refine Am (λ_=>(H.pick 4 [1] Z)) (An [9] J O (Ar ?_));replace H:=(H.mono 0 (B:=bsA 5 o (bs++Ag 4 0++Ag 1 0++Ag 4 0++Ag 4 0++Ag 2 0)) Z (λh q=>.inr q)).l4;refine A6 Z Z Z Z Z Z (λw=>call157 _ w) (Cv _ (bs++Ag 4 0++Ag 1 0++Ag 4 0++Ag 4 0++Ag 2 0) 0 4 U (by first|omega|(simp only[Ab2,Ab3,Aca,Acb,Ab8,Ae,Al,Aq]<;>omega)|(simp[Ae,Al,Aq,Sup.list,sect_len]<;>omega)|simp[Ae,Al,Aq,Sup.list,sect_len])) H Z ?_;rintro m w _ ⟨_,rfl,rfl⟩ H;have a1:=H.sy 0 (·.slc);refine Am (λ_=>(H.pick 4 [1] Z)) (An [10] J O (Ar (B8 Z Z Z Z (AU Z Z) (Am (λh=>absurd Z h) (AT J (gn (Z1 7 [] [(i:Int)+1] Z U ?_)))))));replace H:=H.f1.d;refine gf ?_;intro _ hF;refine ⟨⟨i+1,m,bs++Ag 4 0++Ag 1 0++Ag 4 0++Ag 4 0++Ag 2 0++Ag 4 0⟩,hF.cz,⟨H,?_⟩,?_⟩
  ·exact ⟨by show i+1<=8;omega,by dsimp only;simp[Ae];omega⟩
  (dsimp only;omega)
 refine Zc 2 Z (gx (Zc 5 Z (AA Z (call141 _) (Gj _ bs 240 ⟨by first|omega|(simp only[Ab2,Ab3,Aca,Acb,Ab8,Ae,Al,Aq]<;>omega)|(simp[Ae,Al,Aq,Sup.list,sect_len]<;>omega)|simp[Ae,Al,Aq,Sup.list,sect_len],by omega⟩) H ?_)));rintro a4 w _ ⟨_,rfl,rfl⟩ H;have a2:=H.sy 0 (·.slc);refine Zc 5 Z (Zr Z ?_);exact ⟨_,⟨_,_,by simp;omega,Z,Z⟩,H.pick 3 [0,2] Z⟩
theorem Yr(a n:Nat)(lo:Option Addr)(b:Nat)(c:n<=4096):Aj 148 [V a] [blk a [.slice lo n b,Aa 0,Aa 0,Aa 0,Aa 0,Aa (-1)] 133] (λv G=>v=Aa (n:Int)/\G=[blk a [.slice lo n b,Aa 0,Aa 0,Aa 0,Aa 0,Aa (-1)] 133]):=by
 intro z R w H;refine Ac func148 Z ntmps148 Z (Z2 16 [0,0,0] H Z (Zr Z ?_));exact ⟨_,⟨Z,Z⟩,H.pick 1 [0] Z⟩
theorem NN(a n:Nat)(lo:Option Addr)(b:Nat)(c:n<=4096)(x k:Int):Aj 137 [V a,Aa x,Aa k] [blk a [.slice lo n b,Aa 0,Aa 0,Aa 0,Aa 0,Aa (-1)] 133] (λv G=>v=.bool (decide (0<=x/\1<=k/\x<(n:Int)/\k<=(n:Int)-x))/\G=[blk a [.slice lo n b,Aa 0,Aa 0,Aa 0,Aa 0,Aa (-1)] 133]):=by
 intro z R w H;refine Ac func137 Z ntmps137 Z (Z0 10 [0] Z (Ak 9 Z (λe=>?_) (λe=>?_)))
 ·refine Z0 4 [0] Z (Ak 13 Z (λf=>?_) (λf=>?_))
  ·refine Z2 9 [0,0,0,0] H Z (Ak 22 Z (λd=>?_) (λd=>?_))
   ·refine Z3 14 [0,0,0,0] [(n:Int)-x] H Z U (Zr Z ?_);exact ⟨_,⟨congrArg Value.bool (by first|(rw[eq_comm,decide_eq_false_iff_not];omega)|(rw[Acl];simp<;>omega)),Z⟩,H.pick 1 [0] Z⟩
   refine Zc 14 Z (Zr Z ?_);exact ⟨_,⟨congrArg Value.bool (by first|(rw[eq_comm,decide_eq_false_iff_not];omega)|(rw[Acl];simp<;>omega)),Z⟩,H.pick 1 [0] Z⟩
  refine Zc 23 Z (Zr Z ?_);exact ⟨_,⟨congrArg Value.bool (by first|(rw[eq_comm,decide_eq_false_iff_not];omega)|(rw[Acl];simp<;>omega)),Z⟩,H.pick 1 [0] Z⟩
 refine Zc 27 Z (Zr Z ?_);exact ⟨_,⟨congrArg Value.bool (by first|(rw[eq_comm,decide_eq_false_iff_not];omega)|(rw[Acl];simp<;>omega)),Z⟩,H.pick 1 [0] Z⟩
theorem Sq(a n:Nat)(lo:Option Addr)(b:Nat)(c:n<=4096):Aj 138 [V a,Aa 1] [blk a [.slice lo n b,Aa 0,Aa 0,Aa 0,Aa 0,Aa (-1)] 133] (λv G=>v=.bool false/\G=[blk a [.slice lo n b,Aa 0,Aa 0,Aa 0,Aa 0,Aa (-1)] 133]):=by
 intro z R w H;refine Ac func138 Z ntmps138 Z (Z3 24 [1,4,1,1,2,0,0,3] [] H Z U (Zr Z ?_));exact ⟨_,⟨Z,Z⟩,H.pick 1 [0] Z⟩
theorem Sr(a n:Nat)(lo:Option Addr)(b:Nat)(c:n<=4096):Aj 138 [V a,Aa 2] [blk a [.slice lo n b,Aa 0,Aa 0,Aa 0,Aa 0,Aa (-1)] 133] (λv G=>v=.bool false/\G=[blk a [.slice lo n b,Aa 0,Aa 0,Aa 0,Aa 0,Aa (-1)] 133]):=by
 intro z R w H;refine Ac func138 Z ntmps138 Z (Z3 24 [1,4,1,2,3,0,0,3] [] H Z U (Zr Z ?_));exact ⟨_,⟨Z,Z⟩,H.pick 1 [0] Z⟩
theorem Ss(a n:Nat)(lo:Option Addr)(b:Nat)(c:n<=4096):Aj 138 [V a,Aa 3] [blk a [.slice lo n b,Aa 0,Aa 0,Aa 0,Aa 0,Aa (-1)] 133] (λv G=>v=.bool false/\G=[blk a [.slice lo n b,Aa 0,Aa 0,Aa 0,Aa 0,Aa (-1)] 133]):=by
 intro z R w H;refine Ac func138 Z ntmps138 Z (Z3 24 [1,4,1,3,4,0,0,3] [] H Z U (Zr Z ?_));exact ⟨_,⟨Z,Z⟩,H.pick 1 [0] Z⟩
theorem Pu(a n:Nat)(lo:Option Addr)(b:Nat)(c:n<=4096):Aj 170 [V a] [blk a [.slice lo n b,Aa 0,Aa 0,Aa 0,Aa 0,Aa (-1)] 133] (λv G=>v=.tuple #[]/\G=[blk a [.slice lo n b,Aa 0,Aa 0,Aa 0,Aa 0,Aa (-1)] 133]):=by
 intro z R w H;refine Ac func170 Z ntmps170 Z (Z2 11 [5,0,0,4] H Z (Zf Z ?_));exact ⟨_,⟨Z,Z⟩,H.pick 1 [0] Z⟩
theorem Pv(y n:Nat)(lo:Option Addr)(t:Nat)(a3:n<=4096)(rows:List RRow)(hq:Hp)(i:Nat)(r:RRow)(f:rows[i]?=some r)(p:List UInt8)(h:r.Ok hq p)(a4:i<n):Aj 139 [V y,Aa (i:Int)] [blk y [.slice lo n t,Aa 0,Aa 0,Aa 0,Aa 0,Aa (-1)] 133,grow 135 2 (.slice lo n t) n (Cy rows),poolA hq,seps (rows.map RRow.asn)] (λv G=>∃u:Value,rdH 1 u 256 (p.map u8) hq/\v=u/\G=[blk y [.slice lo n t,Aa 0,Aa 0,Aa 0,Aa 0,Aa (-1)] 133,grow 135 2 (.slice lo n t) n (Cy rows),poolA hq,seps (rows.map RRow.asn)]):=by
 intro z R w H;refine Ac func139 Z ntmps139 Z (Zc 6 Z ?_);have o:=h.l;obtain ⟨b,dc,g⟩:=h.d;obtain ⟨dv,vv,a⟩:=r;dsimp only at g;subst g;obtain ⟨vo,vc,a0⟩:Slc vv a.length:=H.sy 3 (λq=>(Nq f q).slc);subst a0;have a1:=H.sy 3 (λq=>(Nq f q).small);dsimp only at a1;have e:=(H.rv 1 (·.rd)).at (E7 f 0 _ Z);refine Z2 6 [0,0,0] H Z (Ad Z (Aw Z (z:=2) (j:=i) (r:=i*2) J Z Z Z U e U) (Ad Z (BO Z Z (vs:=[.slice b 256 dc,.slice vo a.length vc]) J O (AB (λk u hk=>(H.rv 1 (·.rd)).at (E7 f k u hk)))) (Za 0 [] H Z ?_)));intro b1 w H;refine Z4 12 [0,1,0,0,0] H Z ?_;intro w H;refine Af Z (λh1=>?_) (λh1=>?_)
 ·refine Zc 1 Z ?_;obtain ⟨s,m⟩:∃s,a[a.length-1]?=some s:=⟨_,Ab0 U⟩;have c:=(H.rv 4 (λq=>Nq f q)).at m
  have a2:RRow.last ⟨.slice b 256 dc,.slice vo a.length vc,a⟩=s:=by simp[RRow.last,AeU,m]
  refine Z3 7 [1,0,0,1,0,0] [((a.length-1:Nat):Int)] H Z U (Ad Z (Aw Z (z:=1) (j:=(a.length-1)) (r:=(a.length-1)) J Z Z U U c U) (Ad Z (AK Z Z J (AB c)) (Zc 4 Z (Zr Z ?_))));exact ⟨_,⟨s,by rw[<-a2];exact o,Z,Z⟩,H.pick 5 [1,2,3,4] Z⟩
 refine Z2 10 [0,0,0] H Z (Zr Z ?_);have x:a=[]:=AdF.1 U;exact ⟨_,⟨_,by have:=o;rw[show RRow.last ⟨.slice b 256 dc,.slice vo a.length vc,a⟩=.slice b 256 dc by simp[RRow.last,x]] at this;exact this,Z,Z⟩,H.pick 5 [1,2,3,4] Z⟩
theorem Hi(c n m:Nat)(F:Nat->List UInt8)(a:Nat)(ha:a<n):Aj 84 [V c,Aa (a:Int),Aa 1] [rdkA c n F m] (λv G=>∃p:Value,v=.tuple #[p,Aa 0]/\G=[grow 5 1 p 256 ((F a).map u8),rdkA c n F m]):=by
 intro z R w H;obtain ⟨lv,rows,hq,e,b⟩:=H.rk;clear H;have a1:=e.1;have y:=e.2.1;have H:=b.l4;have g:=H.sy 1 (·.slc);obtain ⟨lo,f,rfl⟩:=g;obtain ⟨r,s⟩:∃r,rows[a]?=some r:=⟨_,Ab0 U⟩;have i:=(e.2.2 a r s).1;refine Ac func84 Z ntmps84 Z (Zc 12 Z (Ai Z (call137 _) (NN _ _ _ _ U _ _) H ?_));intro w H;refine Ad Z (AY Z Z) (Zc 2 Z (Af Z (λh1=>U) (λh1=>?_)));refine Zc 6 Z (Ai Z (call138 _) (Sq _ _ _ _ U) H ?_);intro w H;refine Zc 6 Z ?_;replace H:=(H.nilg 5 1).l5;refine Zc 12 Z ?_;refine Ay (σ:=Nat×Value) (λ⟨j,u⟩=>[(9,Aa ((a+j:Nat):Int)),(8,u),(0,V c),(1,Aa (a:Int)),(2,Aa 1),(6,.slice none 0 0),(7,Aa 0)])
   (λ⟨j,u⟩ w=>Sep z (grow 5 1 u (256*j) (((List.replicate j (F a)).flatten).map u8)::blk c [.slice lo n f,Aa 0,Aa 0,Aa 0,Aa 0,Aa (-1)] 133::grow 135 2 (.slice lo n f) n (Cy rows)::poolA hq::seps (rows.map RRow.asn)::R) w/\(j<=1)) (λ⟨j,u⟩=>1-j) ⟨0,.slice none 0 0⟩
   (λ_ d=>(d.co Z (by go_num) d.cz)) ⟨(by simpa using H),Acg _⟩ ?_
 clear H;rintro ⟨j,u⟩ w ⟨b,o⟩;dsimp only at o b ⊢;have H:=b.l5;have su:=H.sy 0 (·.slc);have hj:=o;clear o;refine Z1 10 [0] [((a+1:Nat):Int)] Z U (Af Z (λx=>?_) (λx=>?_))
 ·obtain rfl:j=0:=by omega
  refine Zc 8 Z (AA Z (call139 _) (Pv _ _ _ _ U _ _ a _ s _ i U) H.f4.f4.f4.f4 ?_);rintro lq w _ ⟨_,h,rfl,rfl⟩ H;refine AG Z (AO 4 H Z Z J Bg Z Z (H.rv 2 (λq=>h.le q)) (by intro c9 l;obtain ⟨b9,_,rfl⟩:=Ab9.1 l;rfl) U) ?_;rintro t w b;have b:Sep z (blk c [.slice lo n f,Aa 0,Aa 0,Aa 0,Aa 0,Aa (-1)] 133::grow 135 2 (.slice lo n f) n (Cy rows)::poolA hq::seps (rows.map RRow.asn)::grow 5 1 t ((256*0)+256) (((List.replicate 0 (F a)).flatten).map u8++(F a).map u8)::R) w:=b;have k:(((List.replicate 0 (F a)).flatten).map u8++(F a).map u8:List Value)=((List.replicate (0+1) (F a)).flatten).map u8:=O;rw[k] at b;rw[show ((256*0)+256:Nat)=(256*(0+1)) from by omega] at b;have H:=b.l5;have a0:=H.sy 4 (·.slc);refine Z1 9 [] [((a+(0+1):Nat):Int)] Z U ?_;replace H:=H.f3.f3.f3.f3.f4;refine gf ?_;intro _ d;refine ⟨⟨0+1,t⟩,(d.all Z),⟨H,?_⟩,?_⟩
  ·show 0+1<=1;omega
  (dsimp only;omega)
 refine Zc 2 Z (gx (Zc 10 Z (Zr Z ?_)));obtain rfl:j=1:=by omega
 rw[show ((List.replicate 1 (F a)).flatten)=F a from by simp] at H;have b:=(H.pick 5 [1,2,3,4,0] Z).toRk e;exact ⟨_,⟨_,Z,Z⟩,b.pick 2 [1,0] Z⟩
section
section
variable{P:Program}{o:Oper}{n:Nat}{ds:List Deferred}{L:List (Nat×Value)}{x y:Operand}{v:Value}{z w:World}{Γ:List Ah}
theorem JP(i:Nat)(H:Sep z Γ w){t e:TypeId}{sz m c q:Nat}{l:Option Addr}{xs vs:List Value}(k:Γ[i]?=some (grow e sz (.slice l m c) m xs))(ho:o.op=.store t x y)(hx:ev L x=some (FY l q))(hy:ev L y=some v)(hv:v.cells=vs.toArray)(h1:∀u∈vs,u.oneCell'=true)
  (hs:(P.info? t).map (·.size)=some vs.length)(hm:0<m)(hq:q+vs.length<=m*sz){out:List Value}(d:xs.take q++vs++xs.drop (q+vs.length)=out):
  Dv P n ds L o w (λw'=>Sep z (Γ.set i (grow e sz (.slice l m c) m out)) w'):=λa hF=>by
 have s:xs.length=m*sz:=H.says i k (λh g=>g.len);obtain ⟨g,a0,rest,hu,h3,h4,h5,H2⟩:=H.ungrow i k hm;cases hu;have j:i<Γ.length:=(AbZ.1 k).1;have r:(Γ.set i (blk g (xs++rest) e))[i]?=some (blk g (xs++rest) e):=by rw[Ac4 j]
 have a1:m*sz+(c-m)*sz=c*sz:=by rw[<-Nat.add_mul];congr 1;omega
 obtain ⟨w',hr,H3⟩:=AF (P:=P) (n:=n) (ds:=ds) (L:=L) i H2 (p:=0+q) (vs:=vs) r ho hx hy hv h1 hs (by rw[Ab2,s,h5];omega) (out:=out++rest) (by
  rw[Adi,Acc U,AcC U,<-d];simp only[Ab5]) a hF
 refine ⟨w',hr,?_⟩;rw[Aeo] at H3;have f:out.length=m*sz:=by rw[<-d];simp only[Ab2,Ab8,AcA];omega
 have:=H3.mono i (B:=grow e sz (.slice (some ⟨g,0,none⟩) m c) m out) (by rw[Ac4 j]) (λh b=>blk.grow b h3 h4 (by rw[Ab2,f,h5];omega) (by rw[<-f,AcP];rfl));rw[Aeo] at this;exact this
end
theorem JQ{W:List RRow}{i:Nat}{x x2:RRow}(h:W[i]?=some x)(k:Nat)(a:List Value)(j:k+a.length<=2)(c:x.cells.take k++a++x.cells.drop (k+a.length)=x2.cells):(Cy W).take (i*2+k)++a++(Cy W).drop (i*2+k+a.length)=Cy (W.set i x2):=by
 obtain ⟨b,rfl⟩:=AbZ.1 h;have g:W=W.take i++W[i]::W.drop (i+1):=by rw[<-Adw b,AcX]
 have d:W.set i x2=W.take i++x2::W.drop (i+1):=by rw[Adf,if_pos b]
 have e:(Cy (W.take i)).length=i*2:=by rw[XV,Ab8,AcI U]
 have f:Cy W=Cy (W.take i)++(W[i].cells++Cy (W.drop (i+1))):=by
  have:=congrArg Cy g;rw[K3] at this;exact this.trans (congrArg (Cy (W.take i)++ ·) Z)
 have m:W[i].cells.length=2:=rfl;rw[f,d,K3];rw[Ad5,AcL,e,show i*2+k-i*2=k by omega,show i*2+k+a.length-i*2=k+a.length by omega];rw[Ab4 U,Acr (l:=Cy (W.take i)) U,Aco];rw[Acc U,AcC U];show _=Cy (W.take i)++(x2.cells++Cy (W.drop (i+1)));rw[<-c];simp[Ab5]
theorem Aat(F:Nat->List UInt8)(i:Nat):BL F i (F i)=F:=by
 funext k;unfold BL;split
 ·rename_i e;rw[e]
 rfl
set_option maxHeartbeats 4000000 in
theorem FE (pr n m:Nat) (c2:m<=1000000000) (F:Nat->List UInt8) (a k:Nat) (a5:Bool) (v:Value) (bs:List UInt8) (A:Ah) (hA:∀h,A h->rdH 1 v bs.length (bs.map u8) h) (c6:bs.length=256*k) (hk:1<=k) (c1:a+k<=n):Aj 149 [V pr,Aa (a:Int),v,.bool a5] [rdkA pr n F m,A] (λv G=>v=Aa 0/\G=[rdkA pr n (EE F a bs k) (m+k),A]):=by
 intro z R w H;replace H:=H.l2;obtain ⟨lv,rows,hq,hX,t⟩:=H.rk;clear H;have c5:=hX.1;have c4:=hX.2.1;have H:=t.l5;have a8:=H.says 1 Z (λh q=>q.slc);obtain ⟨lo,lc,rfl⟩:=a8;obtain ⟨b,o,c,rfl⟩:=H.says 4 Z (λh q=>(hA h q).sl (by rw[Ab7];omega));have b8:=H.says 4 Z (λh q=>(hA h q).cap);refine Ac func149 Z ntmps149 Z (Z1 19 [0] [(k:Int)] Z U (Ak 17 Z (λh1=>?_) (λh1=>?_)))
 ·(exfalso;omega)
 refine Z1 16 [4] [0] Z U (Ai Z (call137 _) (NN _ _ _ _ U _ _) H ?_);intro w H;replace H:=H.l5;refine Ad Z (AY Z Z) (Zc 2 Z (Af Z (λh2=>?_) (λh2=>?_)))
 ·(exfalso;omega)
 refine Zc 6 Z (Ai Z (call138 _) (Sr _ _ _ _ U) H ?_);intro w H;refine Z2 19 [5,0,0,4] H Z ?_;refine Ay (σ:=Nat×List RRow×Hp) (λ⟨i,e,x⟩=>[(10,Aa (i:Int)),(0,V pr),(1,Aa (a:Int)),(2,.slice (some ⟨b,o,none⟩) bs.length c),(3,.bool a5),(8,Aa 0),(9,Aa (k:Int))])
   (λ⟨i,e,x⟩ w=>Sep z (blk pr [.slice lo n lc,Aa 0,Aa 0,Aa 0,Aa 0,Aa (-1)] 133::grow 135 2 (.slice lo n lc) n (Cy e)::poolA x::seps (e.map RRow.asn)::A::R) w/\(i<=k/\RdP n (EE F a bs i) (m+i) e x)) (λ⟨i,e,x⟩=>k-i) ⟨0,rows,hq⟩
   fr_z ⟨H,⟨Acg _,by rw[ZV];exact hX⟩⟩ ?_
 clear H;rintro ⟨i,e,x⟩ w ⟨t,hI⟩;dsimp only at hI t ⊢;have H:=t.l5;obtain ⟨hi,y⟩:=hI;have c0:=y.1;refine Z0 8 [0] Z (Af Z (λh3=>?_) (λh3=>?_))
 ·refine Z1 18 [] [((256*i:Nat):Int),((256*i:Nat):Int),((256*i+256:Nat):Int)] Z U (Ad Z (Bj Z (z:=1) (p:=(256*i)) (q:=(256*i+256)) (o':=o+256*i) (l':=256) (c':=c-256*i) J Z (.inr ⟨_,_,_,Z,Z,Z⟩) (.inr ⟨_,_,_,Z,Z,Z⟩) U U U U U U) ?_);replace H:=(H.nilg 5 1).l6
  refine AG Z (AO 0 H Z Z J Bg Z Z (H.rd 5 Z (λh q=>(hA h q).cut (lo:=256*i) (m:=256) U U U)) (by intro c9 b7;obtain ⟨b9,_,rfl⟩:=Ab9.1 b7;rfl) U) ?_;rintro v1 w t;have b0:([]++((bs.drop (256*i)).take 256).map u8:List Value)=((bs.drop (256*i)).take 256).map u8:=(by rw[Aco]);rw[b0] at t;have H:=t.l6;have b6:=H.says 0 Z (λh q=>q.slc);refine Zc 4 Z ?_;obtain ⟨l,f,rfl⟩:=b6;obtain ⟨r,hr⟩:∃r,e[a+i]?=some r:=⟨_,Ab0 U⟩;have a9:=(y.2.2 _ r hr).1;have b1:=(y.2.2 _ r hr).2;replace H:=H.f4;have t:=Nr hr H;clear H;obtain ⟨u,dc,a6⟩:=a9.d;obtain ⟨dv,vv,g⟩:=r;dsimp only at a6 b1;subst a6;have t:Sep z (grow 38 1 vv g.length g::seps ((e.map RRow.asn).eraseIdx (a+i))::grow 5 1 (.slice l 256 f) 256 (((bs.drop (256*i)).take 256).map u8)::blk pr [.slice lo n lc,Aa 0,Aa 0,Aa 0,Aa 0,Aa (-1)] 133::grow 135 2 (.slice lo n lc) n (Cy e)::poolA x::A::R) w:=t;have H:=t.l7;have b3:=H.says 0 Z (λh q=>q.slc);obtain ⟨vo,vc,rfl⟩:=b3;have c3:=H.says 0 Z (λh q=>q.rd.small);have s:=(H.rd 4 Z (λh q=>q.rd)).at (E7 hr 0 _ Z);have b4:=(H.rd 4 Z (λh q=>q.rd)).at (E7 hr 1 _ Z);replace H:=H.f4.f4;refine AL (Sep z (blk pr [.slice lo n lc,Aa 0,Aa 0,Aa 0,Aa 0,Aa (-1)] 133::grow 135 2 (.slice lo n lc) n (Cy e)::R)) 23 Z J (A0 H λw t=>?_);have H:=t.l7;refine A7 [0,1,2,3,4,5] [0,0] J (λ_ hx=>(AS (hx.blk 0 Z) AJ)) (by exact H.pick 7 [0,1] Z) Z J Z Z (AQ 6 J Z Z J J J Z Z Z (CD Z Z Z (r:=((a+i:Nat):Int)) U U) (H.pick 7 [0,1] Z) (A7 [7,8,9,10,11,12] [0,0] J (λ_ hx=>(AS (hx.blk 0 Z) AJ)) (by exact H.pick 7 [0,1] Z) Z J Z Z (AQ 13 J Z Z J J J Z Z Z (CD Z Z Z (r:=((a+i:Nat):Int)) U U) (H.pick 7 [0,1] Z) (AQ 14 J Z Z J J J Z Z Z (Aw Z (z:=2) (j:=(a+i)) (r:=(a+i)*2) J Z Z Z U s U) (H.pick 7 [0,1] Z) (AQ 15 J Z Z J J J Z Z Z (BF Z (k:=1) (r:=(a+i)*2+1) J Z s Z) (H.pick 7 [0,1] Z) (AQ 16 J Z Z J J J Z Z Z (AK Z Z J (λ_ hs=>(hs.rd 1 Z (λh q=>q.rd)).at (E7 hr 1 _ Z))) (H.pick 7 [0,1] Z) (A7 [17] [] J (λ_ _=>AJ) (by exact H.pick 7 [0,1] Z) Z J Z Z (An [18] J O (Ar (Co Z Z Z Z (AM H Z J F9 Z (by decide) (by decide) (out:=[.slice l 256 f]) J) ?_))))))))));rintro _ w ⟨b2,rfl,H⟩;replace H:=H.l8;refine Am (λ_=>(H.pick 8 [1,2] Z)) (An [19] J O (Ar (Co Z Z Z Z (AO 3 H Z Z J F9 Z Z (H.rd 0 Z (λh q=>q.rd U U O Z)) (Ap Z AR) U) ?_)));rintro v3 w t;have t:Sep z (blk b2 [.slice l 256 f] 38::blk pr [.slice lo n lc,Aa 0,Aa 0,Aa 0,Aa 0,Aa (-1)] 133::grow 135 2 (.slice lo n lc) n (Cy e)::grow 38 1 v3 (g.length+1) (g++[.slice l 256 f])::seps ((e.map RRow.asn).eraseIdx (a+i))::grow 5 1 (.slice l 256 f) 256 (((bs.drop (256*i)).take 256).map u8)::poolA x::A::R) w:=t;have b5:(g++[.slice l 256 f]:List Value)=g++[.slice l 256 f]:=O;rw[b5] at t;have H:=t.l8;have a7:=H.says 3 Z (λh q=>q.slc);refine Am (λ_=>(H.pick 8 [1,2] Z)) (AQ 20 J Z Z J J J Z Z Z (Aw Z (z:=2) (j:=(a+i)) (r:=(a+i)*2) J Z Z Z U s U) (H.pick 8 [1,2] Z) (AQ 21 J Z Z J J J Z Z Z (BF Z (k:=1) (r:=(a+i)*2+1) J Z s Z) (H.pick 8 [1,2] Z) (An [22] J O (Ar (Ca Z Z Z (JP 2 H Z Z Z Z (vs:=[v3]) a7.cells (Ap a7.one AR) J U (by simp only[Ab3,Aca];omega) (out:=Cy (e.set (a+i) ⟨.slice u 256 dc,v3,g++[(.slice l 256 f)]⟩)) (JQ (x2:=⟨.slice u 256 dc,v3,g++[(.slice l 256 f)]⟩) hr 1 _ O (by simp[RRow.cells]))) ?_)))));rintro w H;replace H:=H.l8;refine Am (λh=>absurd Z h) (AT J (gn (Zc 6 Z (DQ Z (λh4=>?_) (λh4=>?_)))))
  ·have a4:(e.set (a+i) ⟨.slice u 256 dc,v3,g++[(.slice l 256 f)]⟩)[a+i]?=some ⟨.slice u 256 dc,v3,g++[(.slice l 256 f)]⟩:=Ac4 U
   have s:=(H.rd 2 Z (λh q=>q.rd)).at (E7 a4 0 _ Z);refine Z3 10 [0,1,0] [((a+i:Nat):Int)] H Z U (Ad Z (Aw Z (z:=2) (j:=(a+i)) (r:=(a+i)*2) J Z Z Z U s U) (Ba Z Z (JP 2 H Z Z Z Z (vs:=[(.slice l 256 f),.slice none 0 0]) Z (Ap Z (Ap Z AR)) J U (by simp only[Ab3,Aca];omega) (out:=Cy ((e.set (a+i) ⟨.slice u 256 dc,v3,g++[(.slice l 256 f)]⟩).set (a+i) ⟨(.slice l 256 f),.slice none 0 0,[]⟩)) (JQ (x2:=⟨(.slice l 256 f),.slice none 0 0,[]⟩) a4 0 _ O (by simp[RRow.cells]))) ?_));rintro w H;replace H:=H.l8;refine Zc 3 Z ?_;rw[Aeo] at H;replace H:=((H.pick 8 [0,1,2,4,5,6,7] Z).nilg 38 1).l8;replace H:=H.f4.f1;have t:Sep z (RRow.asn ⟨(.slice l 256 f),.slice none 0 0,[]⟩::seps ((e.map RRow.asn).eraseIdx (a+i))::blk b2 [.slice l 256 f] 38::blk pr [.slice lo n lc,Aa 0,Aa 0,Aa 0,Aa 0,Aa (-1)] 133::grow 135 2 (.slice lo n lc) n (Cy (e.set (a+i) ⟨(.slice l 256 f),.slice none 0 0,[]⟩))::grow 5 1 (.slice l 256 f) 256 (((bs.drop (256*i)).take 256).map u8)::poolA x::A::R) w:=H;clear H;have H:=JH ⟨(.slice l 256 f),.slice none 0 0,[]⟩ U t;clear t;replace H:=H.f4.f5;obtain ⟨a0,⟨a1,a3⟩,H⟩:=BM H (λh q=>q.rd);replace H:=H.l6;have a2:RdP n (EE F a bs (i+1)) (m+(i+1)) (e.set (a+i) ⟨(.slice l 256 f),.slice none 0 0,[]⟩) a0:=by rw[Ql];exact (y.le a1).set ⟨by rw[Ab8,AcA];omega,⟨_,_,Z⟩,by simpa [RRow.last] using a3⟩ U (by simp;try omega)
   refine Z1 5 [] [(i:Int)+1] Z U ?_;replace H:=H.f2.d.f4.f2.f2.f4.f4;refine gf ?_;intro _ hF;refine ⟨⟨i+1,e.set (a+i) ⟨(.slice l 256 f),.slice none 0 0,[]⟩,a0⟩,hF.cz,⟨H,?_⟩,?_⟩
   ·exact ⟨by show i+1<=k;omega,a2⟩
   (dsimp only;omega)
  refine Zc 3 Z ?_;replace H:=H.f4.f4;have t:Sep z (RRow.asn ⟨.slice u 256 dc,v3,g++[(.slice l 256 f)]⟩::seps ((e.map RRow.asn).eraseIdx (a+i))::blk b2 [.slice l 256 f] 38::blk pr [.slice lo n lc,Aa 0,Aa 0,Aa 0,Aa 0,Aa (-1)] 133::grow 135 2 (.slice lo n lc) n (Cy (e.set (a+i) ⟨.slice u 256 dc,v3,g++[(.slice l 256 f)]⟩))::grow 5 1 (.slice l 256 f) 256 (((bs.drop (256*i)).take 256).map u8)::poolA x::A::R) w:=by have h9:=H;rw[show g.length+1=(g++[(.slice l 256 f)]:List Value).length from by simp] at h9;exact h9
  clear H;have H:=JH ⟨.slice u 256 dc,v3,g++[(.slice l 256 f)]⟩ U t;clear t;replace H:=H.f4.f5;obtain ⟨a0,⟨a1,a3⟩,H⟩:=BM H (λh q=>q.rd);replace H:=H.l6;have a2:RdP n (EE F a bs (i+1)) (m+(i+1)) (e.set (a+i) ⟨.slice u 256 dc,v3,g++[(.slice l 256 f)]⟩) a0:=by rw[Ql];exact (y.le a1).set ⟨by rw[Ab8,AcA];omega,⟨_,_,Z⟩,by simpa [RRow.last] using a3⟩ U (by simp;try omega)
  refine Z1 5 [] [(i:Int)+1] Z U ?_;replace H:=H.f2.d.f4.f2.f2.f4.f4;refine gf ?_;intro _ hF;refine ⟨⟨i+1,e.set (a+i) ⟨.slice u 256 dc,v3,g++[(.slice l 256 f)]⟩,a0⟩,hF.cz,⟨H,?_⟩,?_⟩
  ·exact ⟨by show i+1<=k;omega,a2⟩
  (dsimp only;omega)
 refine Zc 2 Z (gx (Zc 5 Z (Ai Z (call170 _) (Pu _ _ _ _ U) H ?_)));intro w H;refine Zc 8 Z (Zr Z ?_);obtain rfl:i=k:=by omega
 have t:=(H.pick 5 [0,1,2,3,4] Z).toRk y;exact ⟨_,⟨Z,Z⟩,t⟩
set_option maxHeartbeats 4000000 in
theorem HP (k n m:Nat) (F:Nat->List UInt8):Aj 113 [V k] [rdkA k n F m] (λv G=>v=Aa 0/\G=[rdkA k n F m]):=by
 intro z R w H;obtain ⟨lv,rows,hq,x,e⟩:=H.rk;clear H;have a2:=x.1;have a1:=x.2.1;have H:=e.l4;have t:=H.sy 1 (·.slc);obtain ⟨lo,s,rfl⟩:=t;refine Ac func113 Z ntmps113 Z (Zc 9 Z (Ai Z (call138 _) (Ss _ _ _ _ U) H ?_));intro w H;refine Z2 19 [5,0,0,4] H Z ?_;refine Ay (σ:=Nat×List RRow) (λ⟨i,a⟩=>[(3,Aa (i:Int)),(0,V k),(2,Aa 0)])
   (λ⟨i,a⟩ w=>Sep z (blk k [.slice lo n s,Aa 0,Aa 0,Aa 0,Aa 0,Aa (-1)] 133::grow 135 2 (.slice lo n s) n (Cy a)::poolA hq::seps (a.map RRow.asn)::R) w/\(i<=n/\RdP n F m a hq)) (λ⟨i,a⟩=>n-i) ⟨0,rows⟩
   fr_z ⟨H,⟨Acg _,x⟩⟩ ?_
 clear H;rintro ⟨i,a⟩ w ⟨e,hI⟩;dsimp only at hI e ⊢;have H:=e.l4;obtain ⟨hi,b⟩:=hI;have a0:=b.1;refine Z2 12 [0,0,0,0] H Z (Af Z (λh1=>?_) (λh1=>?_))
 ·refine Zc 4 Z ?_;obtain ⟨r,o⟩:∃r,a[i]?=some r:=⟨_,Ab0 U⟩;have q:=(b.2.2 _ r o).1
  have g:=(H.rv 1 (·.rd)).at (E7 o 0 _ Z);refine AL (Sep z (blk k [.slice lo n s,Aa 0,Aa 0,Aa 0,Aa 0,Aa (-1)] 133::grow 135 2 (.slice lo n s) n (Cy a)::R)) 11 Z J (A0 H λw e=>?_);have H:=e.l4;refine A7 [0,1,2,3,4,5,6] [0,0] J (λ_ hx=>(AS (hx.blk 0 Z) AJ)) (by exact H.pick 4 [0,1] Z) Z J Z Z (An [7] J O (Ar (A6 Z Z Z Z Z Z (λw=>call139 _ w) (Pv _ _ _ _ U _ _ i _ o _ q U) H Z ?_)));rintro lq w _ ⟨_,l,rfl,rfl⟩ H;have y:=l.slc;obtain ⟨c,f,rfl⟩:=y;refine Am (λ_=>(H.pick 4 [0,1] Z)) (AQ 8 J Z Z J J J Z Z Z (AW Z Z (out:=[.slice c 256 f,.slice none 0 0]) J) (H.pick 4 [0,1] Z) (AQ 9 J Z Z J J J Z Z Z (Aw Z (z:=2) (j:=i) (r:=i*2) J Z Z Z U g U) (H.pick 4 [0,1] Z) (An [10] J O (Ar (Ca Z Z Z (JP 1 H Z Z Z Z (vs:=[(.slice c 256 f),.slice none 0 0]) Z (Ap Z (Ap Z AR)) J U (by simp only[Ab3,Aca];omega) (out:=Cy (a.set i ⟨(.slice c 256 f),.slice none 0 0,[]⟩)) (JQ (x2:=⟨(.slice c 256 f),.slice none 0 0,[]⟩) o 0 _ O (by simp[RRow.cells]))) ?_)))));rintro w H;refine Am (λh=>absurd Z h) (AT J (gn (Zc 2 Z ?_)));replace H:=H.f3;replace H:=((Nr o H).d.nilg 38 1).l5;replace H:=(JH (rows:=a) ⟨(.slice c 256 f),.slice none 0 0,[]⟩ U H).l4;have u:RdP n F m (a.set i ⟨(.slice c 256 f),.slice none 0 0,[]⟩) hq:=by have h9:=b.set (i:=i) (p:=F i) (r:=⟨(.slice c 256 f),.slice none 0 0,[]⟩) ⟨q.len,⟨_,_,Z⟩,by simpa [RRow.last] using l⟩ (Acv m) (Acg _);rwa[Aat] at h9
  refine Z1 5 [] [(i:Int)+1] Z U ?_;replace H:=H.f3.f3.f3;refine gf ?_;intro _ hF;refine ⟨⟨i+1,a.set i ⟨(.slice c 256 f),.slice none 0 0,[]⟩⟩,hF.cz,⟨H,?_⟩,?_⟩
  ·exact ⟨by show i+1<=n;omega,u⟩
  (dsimp only;omega)
 refine Zc 2 Z (gx (Zc 5 Z (Ai Z (call170 _) (Pu _ _ _ _ U) H ?_)));intro w H;refine Zc 8 Z (Zr Z ?_);have e:=(H.pick 4 [0,1,2,3] Z).toRk b;exact ⟨_,⟨Z,Z⟩,e⟩
end
theorem U9{rows:List RRow}{hq a:Hp}{z:List UInt8}(h:∀(j:Nat) (r:RRow),rows[j]?=some r->r.Ok hq z/\r.pvs.length<=0)(s:Bz hq a){rn:RRow}(c:rn.Ok a z)(d:rn.pvs.length<=0):∀(j:Nat) (r:RRow),(rows++[rn])[j]?=some r->r.Ok a z/\r.pvs.length<=0:=λj r e=>by
 rcases Acy.1 (Ab1 e) with q|q
 ·obtain ⟨i,b⟩:=List.mem_iff_getElem?.1 q
  exact ⟨(h i r b).1.le s,(h i r b).2⟩
 rw[AcK] at q;subst q;exact ⟨c,d⟩
set_option maxHeartbeats 2000000 in
theorem St (n:Nat) (hn:1<=n/\n<=4096):Aj 34 [Aa (n:Int)] [] (λv G=>∃t:Nat,v=.tuple #[V t,Aa 0]/\G=[rdkA t n (λ_=>(List.replicate 256 (0:UInt8))) 0]):=by
 intro z R w H;refine Ac func34 Z ntmps34 Z (Z0 12 [0] Z (Ak 8 Z (λh1=>U) (λh1=>?_)));refine Z0 5 [0] Z (Af Z (λh2=>U) (λh2=>?_));refine Zc 4 Z (Ad Z (AW Z Z (out:=[.slice none 0 0,Aa 0,Aa 0,Aa 0,Aa 0,Aa (-1)]) J) (Za 0 [] H Z ?_));intro e w H;refine Zc 5 Z ?_;replace H:=(((EK H).nilg 135 2).void (B:=seps (([]:List RRow).map RRow.asn)) (λh=>⟨λ_=>0,λi A h=>by simp at h⟩)).l4;refine Zc 5 Z ?_;refine Ay (σ:=Nat×Value×List RRow×Hp) (λ⟨i,u,rows,hq⟩=>[(5,Aa (i:Int)),(0,Aa (n:Int)),(2,.pointer none),(3,Aa 0),(4,V e)])
   (λ⟨i,u,rows,hq⟩ w=>Sep z (seps (rows.map RRow.asn)::grow 135 2 u i (Cy rows)::poolA hq::blk e [u,Aa 0,Aa 0,Aa 0,Aa 0,Aa (-1)] 133::R) w/\(i<=n/\rows.length=i/\∀(j:Nat) (r:RRow),rows[j]?=some r->r.Ok hq (List.replicate 256 (0:UInt8))/\r.pvs.length<=0)) (λ⟨i,u,rows,hq⟩=>n-i) ⟨0,.slice none 0 0,[],λ_=>none⟩
   fr_z ⟨H,⟨Acg _,Z,λj r h=>by simp at h⟩⟩ ?_
 clear H;rintro ⟨i,u,rows,hq⟩ w ⟨a,y⟩;dsimp only at y a ⊢;have H:=a.l4;have su:=H.sy 1 (·.slc);obtain ⟨hi,f,x⟩:=y;refine Z0 8 [0] Z (Af Z (λh3=>?_) (λh3=>?_))
 ·refine Zc 4 Z ?_;replace H:=H.f3;refine AL (Sep z (blk e [u,Aa 0,Aa 0,Aa 0,Aa 0,Aa (-1)] 133::R)) 12 Z J (A0 H λw a=>?_)
  have H:=a.l4;refine A7 [0,1,2,3,4] [0,0] J (λ_ hx=>(AS (hx.blk 0 Z) AJ)) (by exact H.pick 4 [0] Z) Z J Z Z (An [5] J O (Ar (Co Z Z Z Z (Dy (k:=256) H Z J Bg Z Z Z U) ?_)));rintro _ w ⟨b,rfl,H⟩;refine Am (λ_=>(H.pick 5 [1] Z)) (AQ 6 J Z Z J J J Z Z Z (AW Z Z (out:=[.slice (some ⟨b,0,none⟩) 256 256,.slice none 0 0]) J) (H.pick 5 [1] Z) (An [7] J O (Ar (Co Z Z Z Z (AM H Z J DR Z (by decide) (by decide) (out:=[.slice (some ⟨b,0,none⟩) 256 256,.slice none 0 0]) J) ?_))));rintro _ w ⟨b3,rfl,H⟩;refine Am (λ_=>(H.pick 6 [2] Z)) (An [8] J O (Ar (Co Z Z Z Z (AO 4 H Z Z J DR Z Z (H.rv 0 (·.rd U U O Z)) (Ap Z (Ap Z AR)) U) ?_)));rintro s w a;have a:Sep z (blk b3 [.slice (some ⟨b,0,none⟩) 256 256,.slice none 0 0] 135::blk b (List.replicate 256 (u8 0)) 5::blk e [u,Aa 0,Aa 0,Aa 0,Aa 0,Aa (-1)] 133::seps (rows.map RRow.asn)::grow 135 2 s (i+1) (Cy rows++[.slice (some ⟨b,0,none⟩) 256 256,.slice none 0 0])::poolA hq::R) w:=a;have m:(Cy rows++[.slice (some ⟨b,0,none⟩) 256 256,.slice none 0 0]:List Value)=Cy (rows++[⟨.slice (some ⟨b,0,none⟩) 256 256,.slice none 0 0,[]⟩]):=(by rw[K3];rfl);rw[m] at a;have H:=a.l6;have c:=H.sy 4 (·.slc);refine Am (λ_=>(H.pick 6 [2] Z)) (A7 [9,10] [0] J (λ_ _=>AJ) (by exact H.pick 6 [2] Z) Z J Z Z (An [11] J O (Ar (Ca Z Z Z (PP 2 H Z Z Z Z c.cells c.one J) ?_))));rintro w H;refine Am (λh=>absurd Z h) (AT J (gn (Zc 2 Z ?_)));replace H:=H.f3;have a:=H.nilg 38 1;clear H;have H:=R0 (rows:=rows) ⟨.slice (some ⟨b,0,none⟩) 256 256,.slice none 0 0,[]⟩ a;clear a;replace H:=H.f2.f5;obtain ⟨o,⟨g,l⟩,H⟩:=BM H (sz:=1) (n:=256) (v:=.slice (some ⟨b,0,none⟩) 256 256) (xs:=(List.replicate 256 (0:UInt8)).map u8) (λh q=>q.rd U U O (by simp[u8]));have p:=U9 x g (rn:=⟨.slice (some ⟨b,0,none⟩) 256 256,.slice none 0 0,[]⟩) ⟨by simp,⟨_,_,Z⟩,by simpa [RRow.last] using l⟩ (Acv 0);refine Z1 5 [] [(i:Int)+1] Z U ?_;replace H:=H.f2.d.f2.f1.f3.f3;refine gf ?_;intro _ hF;refine ⟨⟨i+1,s,rows++[⟨.slice (some ⟨b,0,none⟩) 256 256,.slice none 0 0,[]⟩],o⟩,hF.cz,⟨H,?_⟩,?_⟩
  ·exact ⟨by show i+1<=n;omega,by simp[f],p⟩
  (dsimp only;omega)
 refine Zc 2 Z (gx (Zc 10 Z (Zr Z ?_)));obtain rfl:i=n:=by omega
 exact ⟨_,⟨e,Z,Z⟩,(H.pick 4 [3,1,2,0] Z).toRk ⟨f,hn,x⟩⟩
theorem GA(s:Sup)(n:Nat)(a:s.Ok (n:Int))(c:n<=4096):Aj 147 [.agg #[Aa s.gen,Aa s.epoch,Aa s.pages,Aa s.start,Aa s.len,Aa s.head,Aa s.seq],Aa (n:Int)] [] (λv G=>v=Aa 0/\G=[]):=by
 intro z R w H;have hs:=a.1;have k:=a.2;have m:=Sup.get a;refine Ac func147 Z ntmps147 Z (Za 2 [] H Z ?_);intro j w H;refine Z2 6 [0,7] H Z (AA Z (call184 _) (GV _ hs) H ?_);rintro _ w _ ⟨l,rfl,rfl⟩ H;have b:=H.sy 0 (·.slc);refine Z2 18 [4,2,1,0,0] H Z (Ak 19 Z (λh=>U) (λh=>?_));refine Z2 5 [2,1,0,0] H Z (Ak 24 Z (λi=>U) (λi=>?_));refine Z3 8 [3,1,0,2,1,0,0] [2+s.pages] H Z U (Ak 32 Z (λd=>U) (λd=>?_));refine Z2 5 [4,1,0,0] H Z (Ak 37 Z (λf=>U) (λf=>?_));refine Z3 9 [3,1,0,4,1,0,0] [s.start+s.len] H Z U (Ak 46 Z (λg=>U) (λg=>?_));refine Z2 8 [5,1,0,4,1,0,0] H Z (Af Z (λe=>U) (λe=>?_));refine Zc 8 Z (Zr Z ?_);exact ⟨_,⟨Z,Z⟩,H.pick 2 [] Z⟩
theorem Va{b a y:Sup}(c:(b.gen<a.gen/\y=a)\/(a.gen<=b.gen/\y=b))(h:b.gen<a.gen):a=y:=by
 rcases c with ⟨_,q⟩|⟨q,_⟩
 ·exact q.symm
 omega
theorem Vb{a b y:Sup}(c:(a.gen<b.gen/\y=b)\/(b.gen<=a.gen/\y=a))(h:¬a.gen<b.gen):a=y:=by
 rcases c with ⟨q,_⟩|⟨_,q⟩
 ·omega
 exact q.symm
set_option maxHeartbeats 2000000 in
theorem Lh (c n m:Nat) (k:m<=1000000000) (F:Nat->List UInt8) (s:Sup) (a:s.Ok (n:Int)):Aj 150 [V c,.agg #[Aa s.gen,Aa s.epoch,Aa s.pages,Aa s.start,Aa s.len,Aa s.head,Aa s.seq]] [rdkA c n F m] (λv G=>v=Aa 0/\G=[rdkA c n (BL F (s.gen%2).toNat (BE s)) (m+1)]):=by
 intro z R w H;obtain ⟨r,rows,hq,f,b⟩:=H.rk;clear H;have o:=f.1;have j:=f.2.1;have H:=b.l4;have d:=H.sy 1 (·.slc);obtain ⟨lo,p,rfl⟩:=d;have hs:=a.1;have t:=a.2;have l:=Sup.get a;refine Ac func150 Z ntmps150 Z (Za 2 [] H Z ?_);intro g w H;refine Zc 4 Z (AL (Sep z (blk g [Aa s.gen,Aa s.epoch,Aa s.pages,Aa s.start,Aa s.len,Aa s.head,Aa s.seq] 92::blk c [.slice lo n p,Aa 0,Aa 0,Aa 0,Aa 0,Aa (-1)] 133::R)) 8 Z J (A0 H λw b=>?_));have H:=b.l5;refine AQ 0 J Z Z J J J Z Z Z (Bu Z Z (vs:=[Aa s.gen,Aa s.epoch,Aa s.pages,Aa s.start,Aa s.len,Aa s.head,Aa s.seq]) J (λ_ e=>(e.blk 0 Z).part 0 7 _ Z)) (H.pick 5 [0,1] Z) (A7 [1,2,3,4] [0,0] J (λ_ e=>(AS (e.blk 1 Z) AJ)) (by exact H.pick 5 [0,1] Z) Z J Z Z (AQ 5 J Z Z J J J Z Z Z (EI Z (z:=2) J Z) (H.pick 5 [0,1] Z) (An [6] J O (Ar (A6 Z Z Z Z Z Z (λw=>call147 _ w) (GA _ n a U) H Z ?_)))));rintro _ w _ ⟨rfl,rfl⟩ H;refine Am (λ_=>(H.pick 5 [0,1] Z)) (An [7] J O (Ar (B8 Z Z Z Z (AU Z Z) (Am (λh=>absurd Z h) (AT J (gn (Z0 12 [4] Z ?_)))))));have b:Sep z (rdkA c n F m::blk g [Aa s.gen,Aa s.epoch,Aa s.pages,Aa s.start,Aa s.len,Aa s.head,Aa s.seq] 92::R) w:=(H.pick 5 [1,2,3,4,0] Z).toRk f;clear H;have H:=b.l2;refine Z2 2 [1,7] H Z (AA Z (call184 _) (GV _ hs) H ?_);rintro _ w _ ⟨u,rfl,rfl⟩ H;have i:=H.sy 0 (·.slc);refine Z3 14 [0,2,0] [(((s.gen%2).toNat:Nat):Int)] H Z U (Ai Z (call149 _) (FE _ n _ U _ ((s.gen%2).toNat) 1 true _ (BE s) _ (λh q=>q.rd) (by first|(rw[DN])|(simp[DB, *])|omega) U U) H.f1 ?_);intro w H;rw[UB _ _ (by first|(rw[DN])|(simp[DB, *])|omega)] at H;refine Zc 4 Z (Zr Z ?_);exact ⟨_,⟨Z,Z⟩,H.pick 3 [0] Z⟩
set_option maxHeartbeats 4000000 in
theorem Ys (j n m:Nat) (F:Nat->List UInt8) (o r y:Sup) (a9:F 0=BE o) (a2:F 1=BE r) (a6:o.Ok (n:Int)) (a5:r.Ok (n:Int)) (g0:o.gen%2=0) (g1:r.gen%2=1) (hy:(o.gen<r.gen/\y=r)\/(r.gen<=o.gen/\y=o)) (b0:2<=n):Aj 151 [V j] [rdkA j n F m] (λv G=>v=.tuple #[.agg #[Aa y.gen,Aa y.epoch,Aa y.pages,Aa y.start,Aa y.len,Aa y.head,Aa y.seq],Aa 0]/\G=[rdkA j n F m]):=by
 intro z R w H;obtain ⟨lv,rows,hq,f,b⟩:=H.rk;clear H;have a1:=f.1;have a0:=f.2.1;have H:=b.l4;have g:=H.sy 1 (·.slc);obtain ⟨lo,lc,rfl⟩:=g;refine Ac func151 Z ntmps151 Z (Za 2 [] H Z ?_);intro b1 w H;refine Z2 14 [0,1,0,0] H Z (Af Z (λh1=>U) (λh1=>?_));refine Zc 3 Z ?_;have b:Sep z (rdkA j n F m::blk b1 [Aa 0,Aa 0,Aa 0,Aa 0,Aa 0,Aa 0,Aa 0] 92::R) w:=(H.pick 5 [1,2,3,4,0] Z).toRk f;clear H;have H:=b.l2;refine Zc 1 Z (Ad Z (AW Z Z (out:=[Aa 0,Aa 0,Aa 0,Aa 0,Aa 0,Aa 0,Aa 0]) J) (Za 0 [] H Z ?_));intro x w H;refine Z4 20 [0] H Z ?_;intro w H;refine Ay (σ:=Nat×Sup) (λ⟨i,a⟩=>[(7,Aa (i:Int)),(6,.bool false),(5,.bool (decide (0<i))),(0,V j),(2,V b1),(3,Aa 0),(4,V x)])
   (λ⟨i,a⟩ w=>Sep z (blk x [Aa a.gen,Aa a.epoch,Aa a.pages,Aa a.start,Aa a.len,Aa a.head,Aa a.seq] 92::rdkA j n F m::blk b1 [Aa 0,Aa 0,Aa 0,Aa 0,Aa 0,Aa 0,Aa 0] 92::R) w/\(i<=2/\(i=1->a=o)/\(i=2->a=y))) (λ⟨i,a⟩=>2-i) ⟨0,⟨0,0,0,0,0,0,0⟩⟩
   (λ_ c=>(c.co Z (by go_num) (c.co Z Z c.cz))) ⟨H,⟨Acg _,λe=>by simp at e,λe=>by simp at e⟩⟩ ?_
 clear H;rintro ⟨i,a⟩ w ⟨b,hI⟩;dsimp only at hI b ⊢;have H:=b.l3;obtain ⟨hi,a4,a3⟩:=hI;refine Z0 7 [0] Z (Af Z (λh2=>?_) (λh2=>?_))
 ·refine Zc 5 Z ?_;obtain ⟨s,t,l,b5,u,a7⟩:∃s:Sup,F i=BE s/\s.Ok (n:Int)/\s.gen%2=(i:Int)/\(i=0->s=o)/\(i=1->s=r):=by rcases (show i=0\/i=1 by omega) with rfl|rfl<;>first|exact ⟨o,a9,a6,g0,λ_=>rfl,λe=>by omega⟩|exact ⟨r,a2,a5,g1,λe=>by omega,λ_=>rfl⟩
  have hs:=l.1;have b6:=Sup.get l;have a8:(F i).length=256:=by rw[t];exact DN s
  refine Zc 3 Z (AA Z (call84 _) (Hi _ _ _ _ i U) H.f1 ?_);rintro _ w _ ⟨u3,rfl,rfl⟩ H;have b3:=H.sy 0 (·.slc);refine Z0 20 [4] Z (Ai Z (call185 _) (Or _ (F i) _ (λh q=>by rw[a8];exact q.rd) s hs t) H ?_);intro w H;refine Za 3 [] H Z ?_;intro b4 w H;refine Z4 5 [0] H Z ?_;intro w H;rcases (show i=0\/i=1 by omega) with rfl|rfl
  ·refine k_updA 5 (v:=.bool false) Z Z ?_;replace H:=H.f2;obtain ⟨lv,rows,hq,f,b⟩:=H.rk;clear H;have a1:=f.1
   have a0:=f.2.1;have H:=b.l8;have g:=H.sy 1 (·.slc);obtain ⟨lo,lc,rfl⟩:=g;replace H:=H.f6.f1.f5;refine BA (Sep z (blk b4 [Aa s.gen,Aa s.epoch,Aa s.pages,Aa s.start,Aa s.len,Aa s.head,Aa s.seq] 92::blk j [.slice lo n lc,Aa 0,Aa 0,Aa 0,Aa 0,Aa (-1)] 133::blk x [Aa a.gen,Aa a.epoch,Aa a.pages,Aa a.start,Aa a.len,Aa a.head,Aa a.seq] 92::R)) 29 Z J (A0 H λw b=>?_);have H:=b.l8;refine Cj [0,1,2,3,4,5,6,7] [0,7,0,1,0] [] (by exact H.pick 8 [0,1,2] Z) Z J Z (BZ [8] J O (Ar (A6 Z Z Z Z Z Z (λw=>call147 _ w) (GA _ n l U) H Z ?_)));rintro _ w _ ⟨rfl,rfl⟩ H;refine BI (H.pick 8 [0,1,2] Z) (Mx [9,10,11,12,13,14,15,16] [3,0,0,0,0] [s.gen%2] (by exact H.pick 8 [0,1,2] Z) Z J U Z (k_updA 56 (v:=.bool true) Z (congrArg Value.bool (decide_eq_true U)) (Cj [17,18,19,20,21,22,23,24,25,26,27,28] [] [] (by exact H.pick 8 [0,1,2] Z) Z J Z (a_done J (gn (Z4 13 [0,7,2] H Z ?_))))));intro w H;have b:Sep z (rdkA j n F m::blk b4 [Aa s.gen,Aa s.epoch,Aa s.pages,Aa s.start,Aa s.len,Aa s.head,Aa s.seq] 92::blk x [Aa s.gen,Aa s.epoch,Aa s.pages,Aa s.start,Aa s.len,Aa s.head,Aa s.seq] 92::grow 5 1 u3 256 ((F 0).map u8)::blk b1 [Aa 0,Aa 0,Aa 0,Aa 0,Aa 0,Aa 0,Aa 0] 92::R) w:=(H.pick 8 [1,3,4,5,0,2,6,7] Z).toRk f;clear H;have H:=b.l5;refine k_updA 5 (v:=.bool (decide (0<0+1))) Z Z (Z1 5 [] [(0:Int)+1] Z U ?_);replace H:=H.f3.d.f1.d.f2.f1.f2;refine gf ?_;intro _ c;refine ⟨⟨0+1,s⟩,(c.co Z (by go_num) (c.co Z Z c.cz)),⟨H,?_⟩,?_⟩
   ·first|exact ⟨by dsimp only;omega,λ_=>u Z,λe=>by dsimp only at e;omega⟩|exact ⟨by dsimp only;omega,λe=>by dsimp only at e;omega,λ_=>p.trans (Va hy (by rw[<-k,<-p];assumption))⟩|exact ⟨by dsimp only;omega,λe=>by dsimp only at e;omega,λ_=>k.trans (Vb hy (by rw[<-k,<-p];assumption))⟩
   (dsimp only;omega)
  refine k_updA 5 (v:=.bool true) Z Z ?_;have p:=a7 Z;have k:=a4 Z;replace H:=H.f2;obtain ⟨lv,rows,hq,f,b⟩:=H.rk;clear H;have a1:=f.1;have a0:=f.2.1;have H:=b.l8;have g:=H.sy 1 (·.slc);obtain ⟨lo,lc,rfl⟩:=g;replace H:=H.f6.f1.f5;refine BA (Sep z (blk b4 [Aa s.gen,Aa s.epoch,Aa s.pages,Aa s.start,Aa s.len,Aa s.head,Aa s.seq] 92::blk j [.slice lo n lc,Aa 0,Aa 0,Aa 0,Aa 0,Aa (-1)] 133::blk x [Aa a.gen,Aa a.epoch,Aa a.pages,Aa a.start,Aa a.len,Aa a.head,Aa a.seq] 92::R)) 29 Z J (A0 H λw b=>?_);have H:=b.l8;refine Cj [0,1,2,3,4,5,6,7] [0,7,0,1,0] [] (by exact H.pick 8 [0,1,2] Z) Z J Z (BZ [8] J O (Ar (A6 Z Z Z Z Z Z (λw=>call147 _ w) (GA _ n l U) H Z ?_)));rintro _ w _ ⟨rfl,rfl⟩ H;refine BI (H.pick 8 [0,1,2] Z) (Mx [9,10,11,12,13,14,15,16] [3,0,0,0,0] [s.gen%2] (by exact H.pick 8 [0,1,2] Z) Z J U Z (k_updA 56 (v:=.bool true) Z (congrArg Value.bool (decide_eq_true U)) (Cj [17,18,19,20,21,22,23,24,25,26,27,28] [0,0,0,0,2,0,0] [] (by exact H.pick 8 [0,1,2] Z) Z J Z (a_done J (gn (Zc 1 Z (Af Z (λh3=>?_) (λh3=>?_))))))))
  ·refine Z4 11 [0,7,2] H Z ?_;intro w H;have b:Sep z (rdkA j n F m::blk b4 [Aa s.gen,Aa s.epoch,Aa s.pages,Aa s.start,Aa s.len,Aa s.head,Aa s.seq] 92::blk x [Aa s.gen,Aa s.epoch,Aa s.pages,Aa s.start,Aa s.len,Aa s.head,Aa s.seq] 92::grow 5 1 u3 256 ((F 1).map u8)::blk b1 [Aa 0,Aa 0,Aa 0,Aa 0,Aa 0,Aa 0,Aa 0] 92::R) w:=(H.pick 8 [1,3,4,5,0,2,6,7] Z).toRk f
   clear H;have H:=b.l5;refine k_updA 5 (v:=.bool (decide (0<1+1))) Z Z (Z1 5 [] [(1:Int)+1] Z U ?_);replace H:=H.f3.d.f1.d.f2.f1.f2;refine gf ?_;intro _ c;refine ⟨⟨1+1,s⟩,(c.co Z (by go_num) (c.co Z Z c.cz)),⟨H,?_⟩,?_⟩
   ·first|exact ⟨by dsimp only;omega,λ_=>u Z,λe=>by dsimp only at e;omega⟩|exact ⟨by dsimp only;omega,λe=>by dsimp only at e;omega,λ_=>p.trans (Va hy (by rw[<-k,<-p];assumption))⟩|exact ⟨by dsimp only;omega,λe=>by dsimp only at e;omega,λ_=>k.trans (Vb hy (by rw[<-k,<-p];assumption))⟩
   (dsimp only;omega)
  refine Zc 3 Z ?_;have b:Sep z (rdkA j n F m::blk b4 [Aa s.gen,Aa s.epoch,Aa s.pages,Aa s.start,Aa s.len,Aa s.head,Aa s.seq] 92::blk x [Aa a.gen,Aa a.epoch,Aa a.pages,Aa a.start,Aa a.len,Aa a.head,Aa a.seq] 92::grow 5 1 u3 256 ((F 1).map u8)::blk b1 [Aa 0,Aa 0,Aa 0,Aa 0,Aa 0,Aa 0,Aa 0] 92::R) w:=(H.pick 8 [1,3,4,5,0,2,6,7] Z).toRk f;clear H;have H:=b.l5;refine k_updA 5 (v:=.bool (decide (0<1+1))) Z Z (Z1 5 [] [(1:Int)+1] Z U ?_);replace H:=H.f3.d.f1.d.f2.f1.f2;refine gf ?_;intro _ c;refine ⟨⟨1+1,a⟩,(c.co Z (by go_num) (c.co Z Z c.cz)),⟨H,?_⟩,?_⟩
  ·first|exact ⟨by dsimp only;omega,λ_=>u Z,λe=>by dsimp only at e;omega⟩|exact ⟨by dsimp only;omega,λe=>by dsimp only at e;omega,λ_=>p.trans (Va hy (by rw[<-k,<-p];assumption))⟩|exact ⟨by dsimp only;omega,λe=>by dsimp only at e;omega,λ_=>k.trans (Vb hy (by rw[<-k,<-p];assumption))⟩
  (dsimp only;omega)
 refine Zc 2 Z (gx (Zc 4 Z ?_));obtain rfl:i=2:=by omega
 refine k_updA 5 (v:=.bool true) Z Z (Z4 25 [0,7,2] H Z ?_);intro w H;refine Zl [2,7] H Z ?_;obtain rfl:a=y:=a3 Z;exact ⟨_,⟨Z,Z⟩,H.pick 3 [1] Z⟩
theorem Pw(a n m:Nat)(F:Nat->List UInt8)(s:Sup)(d:s.Ok (n:Int)):Aj 155 [V a,.agg #[Aa s.gen,Aa s.epoch,Aa s.pages,Aa s.start,Aa s.len,Aa s.head,Aa s.seq]] [rdkA a n F m] (λv G=>∃i:Nat,v=V i/\G=[blk i [V a,Aa s.gen,Aa s.epoch,Aa s.pages,Aa s.start,Aa s.len,Aa s.head,Aa s.seq,Aa s.head,Aa s.seq,Aa 0,.bool false] 249,rdkA a n F m]):=by
 intro z R w H;obtain ⟨p,rows,hq,f,b⟩:=H.rk;clear H;have k:=f.1;have j:=f.2.1;have H:=b.l4;have c:=H.sy 1 (·.slc);obtain ⟨lo,l,rfl⟩:=c;refine Ac func155 Z ntmps155 Z (Za 2 [] H Z ?_);intro g w H;refine Zc 5 Z (AL (Sep z (blk g [Aa s.gen,Aa s.epoch,Aa s.pages,Aa s.start,Aa s.len,Aa s.head,Aa s.seq] 92::blk a [.slice lo n l,Aa 0,Aa 0,Aa 0,Aa 0,Aa (-1)] 133::R)) 8 Z J (A0 H λw b=>?_));have H:=b.l5;refine AQ 0 J Z Z J J J Z Z Z (Bu Z Z (vs:=[Aa s.gen,Aa s.epoch,Aa s.pages,Aa s.start,Aa s.len,Aa s.head,Aa s.seq]) J (λ_ e=>(e.blk 0 Z).part 0 7 _ Z)) (H.pick 5 [0,1] Z) (A7 [1,2,3,4] [0,0] J (λ_ e=>(AS (e.blk 1 Z) AJ)) (by exact H.pick 5 [0,1] Z) Z J Z Z (AQ 5 J Z Z J J J Z Z Z (EI Z (z:=2) J Z) (H.pick 5 [0,1] Z) (An [6] J O (Ar (A6 Z Z Z Z Z Z (λw=>call147 _ w) (GA _ n d U) H Z ?_)))));rintro _ w _ ⟨rfl,rfl⟩ H;refine Am (λ_=>(H.pick 5 [0,1] Z)) (An [7] J O (Ar (B8 Z Z Z Z (PK Z Z Z) (PL 12 Z Z (Am (λh=>absurd Z h) (AT J (gn (Zc 5 Z ?_))))))));have b:Sep z (rdkA a n F m::blk g [Aa s.gen,Aa s.epoch,Aa s.pages,Aa s.start,Aa s.len,Aa s.head,Aa s.seq] 92::R) w:=(H.pick 5 [1,2,3,4,0] Z).toRk f;clear H;have H:=b.l2;refine Z2 7 [1,7,5,1,0,6,1,0] H Z (Ad Z (AW Z Z (out:=[V a,Aa s.gen,Aa s.epoch,Aa s.pages,Aa s.start,Aa s.len,Aa s.head,Aa s.seq,Aa s.head,Aa s.seq,Aa 0,.bool false]) J) (Za 0 [] H Z ?_));intro o w H;refine Zc 4 Z (Zr Z ?_);exact ⟨_,⟨o,Z,Z⟩,H.pick 3 [0,1] Z⟩
theorem FU(b c:Nat)(s:Sup)(a q u:Int)(hs:(0<=s.start/\s.start<=1099511627776)/\0<s.len/\s.len<=1099511627776)(x:Int)(g:0<=x/\x<=1099511627776):Aj 186 [V b,Aa x] [blk b [V c,Aa s.gen,Aa s.epoch,Aa s.pages,Aa s.start,Aa s.len,Aa s.head,Aa s.seq,Aa a,Aa q,Aa u,.bool false] 249] (λv G=>v=Aa (s.start+x%s.len)/\G=[blk b [V c,Aa s.gen,Aa s.epoch,Aa s.pages,Aa s.start,Aa s.len,Aa s.head,Aa s.seq,Aa a,Aa q,Aa u,.bool false] 249]):=by
 intro z R w H;refine Ac func186 Z ntmps186 Z (Zc 6 Z ?_);have e:=Adz x (show s.len≠0 by omega);have f:=Adg x (show 0<s.len by omega);refine Bd (Sep z _) J J H.drew (F1 14 [1,4,0,0,1,5,0,0] [x%s.len,s.start+x%s.len] Z J U (Bv (λw d=>?_)));have H:=d.l1;refine gn (Zc 2 Z (Zr Z ?_));exact ⟨_,⟨Z,Z⟩,H.pick 1 [0] Z⟩
theorem Li(b c:Nat)(s:Sup)(a q u:Int)(hs:(0<=s.start/\s.start<=1099511627776)/\0<s.len/\s.len<=1099511627776)(e:0<=u/\u<=1099511627776):Aj 191 [V b] [blk b [V c,Aa s.gen,Aa s.epoch,Aa s.pages,Aa s.start,Aa s.len,Aa s.head,Aa s.seq,Aa a,Aa q,Aa u,.bool false] 249] (λv G=>v=Aa (s.len-u)/\G=[blk b [V c,Aa s.gen,Aa s.epoch,Aa s.pages,Aa s.start,Aa s.len,Aa s.head,Aa s.seq,Aa a,Aa q,Aa u,.bool false] 249]):=by
 intro z R w H;refine Ac func191 Z ntmps191 Z (Z2 18 [11,0,0] H Z (Bd (Sep z _) J J H.drew (F1 11 [1,5,0,0,10,0,0] [s.len-u] Z J U (Bv (λw d=>?_)))));have H:=d.l1;refine gn (Zc 2 Z (Zr Z ?_));exact ⟨_,⟨Z,Z⟩,H.pick 1 [0] Z⟩
theorem IH(b c:Nat)(s:Sup)(a q u:Int)(hs:(0<=s.start/\s.start<=1099511627776)/\0<s.len/\s.len<=1099511627776)(k:Int)(f:0<=k/\k<=1000000)(g:0<=a/\a<=1099511627776)(hq:0<=q/\q<=1099511627776)(e:0<=u/\u<=1099511627776):Aj 189 [V b,Aa k] [blk b [V c,Aa s.gen,Aa s.epoch,Aa s.pages,Aa s.start,Aa s.len,Aa s.head,Aa s.seq,Aa a,Aa q,Aa u,.bool false] 249] (λv G=>v=.tuple #[]/\G=[blk b [V c,Aa s.gen,Aa s.epoch,Aa s.pages,Aa s.start,Aa s.len,Aa s.head,Aa s.seq,Aa ((a+k)%s.len),Aa (q+1),Aa (u+k),.bool false] 249]):=by
 intro z R w H;refine Ac func189 Z ntmps189 Z (Zc 1 Z (Bh 15 J J (A0 H λw d=>?_)));have H:=d.l1;refine CP 15 [8,0,0,1,5,0,0,8] [a+k,(a+k)%s.len] H Z J U (B3 (gw (Z5 27 [0,9,0,0,9,0,10,0,0,10,0] [q+1,u+k] H Z U ?_)));intro w H;refine Zf Z ?_;exact ⟨_,⟨Z,Z⟩,H.pick 1 [0] Z⟩
theorem NO(v:Value)(es:List ImE)(A:Ah)(b:∀h,A h->rdH 3 v es.length (Bm es) h/\∀e∈es,rdH 1 e.2 240 (e.1.body.map u8) h)(n:∀e∈es,e.1.Ok)(hn:0<es.length/\es.length<=1048576)(l:∀(j i:Nat) (e f:ImE),j<i->es[j]?=some e->es[i]?=some f->e.1.num≠f.1.num):Aj 190 [v] [A] (λv G=>v=.bool true/\G=[A]):=by
 intro z R w H;obtain ⟨g,t,rfl⟩:=H.sy 0 (λq=>(b _ q).1.slc);have a1:=H.sy 0 (λq=>(b _ q).1.small);refine Ac func190 Z ntmps190 Z (Zc 12 Z ?_);refine Ay (σ:=Nat) (λi=>[(3,Aa (i:Int)),(0,.slice g es.length t)])
   (λi w=>Sep z (A::R) w/\(i<=es.length)) (λi=>es.length-i) 0
   fr_z ⟨H,Acg _⟩ ?_
 clear H;rintro i w ⟨o,s⟩;have H:=o.l1;have hi:=s;clear s;refine Z0 9 [0] Z (Af Z (λh1=>?_) (λh1=>?_))
 ·refine Zc 5 Z ?_;obtain ⟨e,c⟩:∃e,es[i]?=some e:=⟨_,Ab0 U⟩;have hm:=n e (Ab1 c)
  obtain ⟨bo,bc,p⟩:Slc e.2 240:=H.sy 0 (λq=>((b _ q).2 e (Ab1 c)).slc);obtain ⟨m,bv⟩:=e;dsimp only at p hm;subst p;have a:=(H.rv 0 (λq=>(b _ q).1)).at (A8 c 0 _ Z);refine Zc 3 Z (Ad Z (Aw Z (z:=3) (j:=i) (r:=i*3) J Z Z Z U a U) (Ad Z (BO Z Z (vs:=[Aa m.num,Aa m.kind,.slice bo 240 bc]) J O (AB (λk u hk=>(H.rv 0 (λq=>(b _ q).1)).at (A8 c k u hk)))) (AA Z (call143 _) (Gb m hm _ _ (λh q=>(b h q).2 _ (Ab1 c))) H ?_)));rintro _ w _ ⟨x,rfl,rfl⟩ H;have y:=H.sy 0 (·.slc);refine Z0 23 [4] Z ?_;refine Ay (σ:=Nat) (λk=>[(6,Aa (k:Int)),(0,.slice g es.length t),(3,Aa (i:Int)),(5,Aa 0),(7,Aa (i:Int)),(8,.slice g es.length t),(9,Aa (es.length:Int)),(10,.bool (decide ((i:Int)<(es.length:Int)))),(13,.tuple #[x,Aa 0]),(14,.slice g es.length t),(15,Aa (i:Int)),(16,FY g (i*3)),(17,.agg #[Aa m.num,Aa m.kind,.slice bo 240 bc]),(18,.tuple #[x,Aa 0]),(19,x),(20,Aa 0),(21,Aa 0),(22,.bool false)])
    (λk w=>Sep z (grow 5 1 x ((Es m).length) ((Es m).map u8)::A::R) w/\(k<=i)) (λk=>i-k) 0
    fr_z ⟨H,Acg _⟩ ?_
  clear H;rintro k w ⟨o,s⟩;have H:=o.l2;have y:=H.sy 0 (·.slc);have hk:=s;clear s;refine Z0 8 [0] Z (Af Z (λh2=>?_) (λh2=>?_))
  ·refine Zc 5 Z ?_;obtain ⟨f,hf⟩:∃f,es[k]?=some f:=⟨_,Ab0 U⟩;have a:=(H.rv 1 (λq=>(b _ q).1)).at (A8 c 0 _ Z)
   have a0:=l k i f _ U hf c;refine Bd (Sep z _) J J H.drew (Cq 2 [] Z J (Bo Z Z Z (Aw Z (z:=3) (j:=k) (r:=k*3) J Z Z Z U a U) (Bo Z Z Z (BF Z (k:=0) (r:=k*3) J Z a Z) (Bo Z Z Z (AK Z Z J (λ_ hs=>(hs.rv 1 (λq=>(b _ q).1)).at (A8 hf 0 _ Z))) (Cq 2 [] Z J (Bo Z Z Z (Aw Z (z:=3) (j:=i) (r:=i*3) J Z Z Z U a U) (Bo Z Z Z (BF Z (k:=0) (r:=i*3) J Z a Z) (Bo Z Z Z (AK Z Z J (λ_ hs=>(hs.rv 1 (λq=>(b _ q).1)).at (A8 c 0 _ Z))) (Cq 1 [] Z J (Bv (λw o=>?_)))))))))));have H:=o.l2;refine gn (Zc 1 Z (Af Z (λh3=>?_) (λh3=>?_)))
   ·exact absurd h3 a0
   refine Z1 8 [] [(k:Int)+1] Z U (gf ?_);intro _ hF;refine ⟨(k+1),hF.cz,⟨H,?_⟩,?_⟩
   ·omega
   omega
  refine Zc 2 Z (gx (Z1 8 [] [(i:Int)+1] Z U ?_));replace H:=H.d;refine gf ?_;intro _ hF;refine ⟨(i+1),hF.cz,⟨H,?_⟩,?_⟩
  ·omega
  omega
 refine Zc 2 Z (gx (Z0 11 [0] Z (Zr Z ?_)));exact ⟨_,⟨congrArg Value.bool (decide_eq_true U),Z⟩,H.pick 1 [0] Z⟩
set_option maxHeartbeats 4000000 in
theorem LW (c f:Nat) (s:Sup) (a q u:Int) (b1:0<=s.epoch/\s.epoch<4294967296) (b2:0<=q/\q<1099511627776) (v:Value) (es:List ImE) (A:Ah) (o:∀h,A h->rdH 3 v es.length (Bm es) h/\∀e∈es,rdH 1 e.2 240 (e.1.body.map u8) h) (n:∀e∈es,e.1.Ok) (hn:1<=es.length/\es.length<=40):Aj 192 [V c,v] [blk c [V f,Aa s.gen,Aa s.epoch,Aa s.pages,Aa s.start,Aa s.len,Aa s.head,Aa s.seq,Aa a,Aa q,Aa u,.bool false] 249,A] (λv G=>∃v2:Value,v=v2/\G=[grow 5 1 v2 (sect (Bx s.epoch q (es.map Prod.fst))++AH s.epoch q (es.map Prod.fst)).length ((sect (Bx s.epoch q (es.map Prod.fst))++AH s.epoch q (es.map Prod.fst)).map u8),blk c [V f,Aa s.gen,Aa s.epoch,Aa s.pages,Aa s.start,Aa s.len,Aa s.head,Aa s.seq,Aa a,Aa q,Aa u,.bool false] 249,A]):=by
 intro z R w H;obtain ⟨ao,oc,rfl⟩:=H.sy 1 (λq=>(o _ q).1.slc);have c1:=H.sy 1 (λq=>(o _ q).1.small);have t:∀m∈(es.map Prod.fst),m.Ok:=λm hm=>by obtain ⟨e,p,rfl⟩:=Ab9.1 hm;exact n e p
 have b4:(AH s.epoch q (es.map Prod.fst)).length=es.length*256:=by rw[DM t,Ab7]
 have a8:(es.map Prod.fst).length=es.length:=Ab7 ..;refine Ac func192 Z ntmps192 Z (Zc 17 Z ?_);replace H:=(H.nilg 5 1).l3;replace H:=(H.nilg 3 1).l4;refine Zc 5 Z ?_;refine Ay (σ:=Nat×Value×Value) (λ⟨i,u9,n9⟩=>[(7,Aa (i:Int)),(5,u9),(6,n9),(0,V c),(1,.slice ao es.length oc),(4,.slice none 0 0)])
   (λ⟨i,u9,n9⟩ w=>Sep z (grow 3 1 n9 i ((((es.map Prod.fst).take i).map Img.num).map Aa)::grow 5 1 u9 ((AH s.epoch q ((es.map Prod.fst).take i)).length) ((AH s.epoch q ((es.map Prod.fst).take i)).map u8)::blk c [V f,Aa s.gen,Aa s.epoch,Aa s.pages,Aa s.start,Aa s.len,Aa s.head,Aa s.seq,Aa a,Aa q,Aa u,.bool false] 249::A::R) w/\(i<=es.length)) (λ⟨i,u9,n9⟩=>es.length-i) ⟨0,.slice none 0 0,.slice none 0 0⟩
   (λ_ hF=>(hF.co Z (by go_num) (hF.co Z (by go_num) hF.cz))) ⟨(by simpa [AH] using H),Acg _⟩ ?_
 clear H;rintro ⟨i,u9,n9⟩ w ⟨b,hI⟩;dsimp only at hI b ⊢;have H:=b.l4;have a1:=H.sy 0 (·.slc);have a6:=H.sy 1 (·.slc);have hi:=hI;clear hI;refine Z0 9 [0] Z (Af Z (λh1=>?_) (λh1=>?_))
 ·refine Zc 5 Z ?_;obtain ⟨e,g⟩:∃e,es[i]?=some e:=⟨_,Ab0 U⟩;have hm:=n e (Ab1 g)
  obtain ⟨bo,bc,a3⟩:Slc e.2 240:=H.sy 3 (λq=>((o _ q).2 e (Ab1 g)).slc);obtain ⟨m,bv⟩:=e;dsimp only at a3 hm;subst a3;have l:=(H.rv 3 (λq=>(o _ q).1)).at (A8 g 0 _ Z);replace H:=H.f3.f3;refine AL (Sep z (blk c [V f,Aa s.gen,Aa s.epoch,Aa s.pages,Aa s.start,Aa s.len,Aa s.head,Aa s.seq,Aa a,Aa q,Aa u,.bool false] 249::A::R)) 19 Z J (A0 H λw b=>?_);have H:=b.l4;refine A7 [0,1,2,3,4,5,6,7,8,9,10] [1,2,0,9,0] J (λ_ hx=>(AS (hx.blk 0 Z) AJ)) (by exact H.pick 4 [0,1] Z) Z J Z Z (AQ 11 J Z Z J J J Z Z Z (Aw Z (z:=3) (j:=i) (r:=i*3) J Z Z Z U l U) (H.pick 4 [0,1] Z) (AQ 12 J Z Z J J J Z Z Z (BO Z Z (vs:=[Aa m.num,Aa m.kind,.slice bo 240 bc]) J O (λ_ hs k u hk=>(hs.rv 1 (λq=>(o _ q).1)).at (A8 g k u hk))) (H.pick 4 [0,1] Z) (An [13] J O (Ar (A6 Z Z Z Z Z Z (λw=>call224 _ w) (Jm s.epoch q U U m hm _ _ (λh q=>(o h q).2 _ (Ab1 g))) H.f1 Z ?_)))));rintro _ w _ ⟨u1,rfl,rfl⟩ H;have a9:=H.sy 0 (·.slc);refine Am (λ_=>(H.pick 5 [2,1] Z)) (A7 [14,15,16,17] [] J (λ_ _=>AJ) (by exact H.pick 5 [2,1] Z) Z J Z Z (An [18] J O (Ar (B8 Z Z Z Z (AU Z Z) (Am (λh=>absurd Z h) (AT J (gn (Zc 2 Z ?_))))))));have a2:(es.map Prod.fst)[i]?=some m:=by rw[Ach,g];rfl
  have b6:(AH s.epoch q ((es.map Prod.fst).take i)).length<=10240:=by rw[DM (λx hx=>t x (AcO hx)),Ab8];omega
  have b7:(sect (Bk s.epoch q m)).length=256:=sect_len (Ac8 (C7 hm.2.2));refine Zc 3 Z (AG Z (AO 4 H Z Z J Bg Z Z (H.rv 0 (·.rd)) (by intro c9 a0;obtain ⟨b9,_,rfl⟩:=Ab9.1 a0;rfl) U) ?_);rintro v2 w b;have b:Sep z (grow 5 1 u1 ((sect (Bk s.epoch q m)).length) ((sect (Bk s.epoch q m)).map u8)::A::blk c [V f,Aa s.gen,Aa s.epoch,Aa s.pages,Aa s.start,Aa s.len,Aa s.head,Aa s.seq,Aa a,Aa q,Aa u,.bool false] 249::grow 3 1 n9 i ((((es.map Prod.fst).take i).map Img.num).map Aa)::grow 5 1 v2 ((AH s.epoch q ((es.map Prod.fst).take i)).length+(sect (Bk s.epoch q m)).length) ((AH s.epoch q ((es.map Prod.fst).take i)).map u8++(sect (Bk s.epoch q m)).map u8)::R) w:=b;have a7:((AH s.epoch q ((es.map Prod.fst).take i)).map u8++(sect (Bk s.epoch q m)).map u8:List Value)=(AH s.epoch q ((es.map Prod.fst).take (i+1))).map u8:=(by rw[<-FQ a2];simp);rw[a7] at b;rw[show ((AH s.epoch q ((es.map Prod.fst).take i)).length+(sect (Bk s.epoch q m)).length:Nat)=(AH s.epoch q ((es.map Prod.fst).take (i+1))).length from (by rw[<-FQ a2,Ab2])] at b;have H:=b.l5;have b8:=H.sy 4 (·.slc);refine Zc 3 Z ?_;replace H:=(H.pick 5 [1,2,3,4] Z).l4;have l:=(H.rv 0 (λq=>(o _ q).1)).at (A8 g 0 _ Z);refine Zc 4 Z (Ad Z (Aw Z (z:=3) (j:=i) (r:=i*3) J Z Z Z U l U) (Ad Z (BF Z (k:=0) (r:=i*3) J Z l Z) (Ad Z (AK Z Z J (AB ((H.rv 0 (λq=>(o _ q).1)).at (A8 g 0 _ Z)))) (AG Z (AM H Z J BQ Z (by decide) (by decide) (out:=[Aa m.num]) J) ?_))));rintro _ w ⟨b3,rfl,H⟩;refine AG Z (AO 3 H Z Z J BQ Z Z (H.rv 0 (·.rd U U O Z)) (by simp[Value.oneCell']) U) ?_;rintro v4 w b;have b:Sep z (blk b3 [Aa m.num] 3::A::blk c [V f,Aa s.gen,Aa s.epoch,Aa s.pages,Aa s.start,Aa s.len,Aa s.head,Aa s.seq,Aa a,Aa q,Aa u,.bool false] 249::grow 3 1 v4 (i+1) ((((es.map Prod.fst).take i).map Img.num).map Aa++[Aa m.num])::grow 5 1 v2 ((AH s.epoch q ((es.map Prod.fst).take (i+1))).length) ((AH s.epoch q ((es.map Prod.fst).take (i+1))).map u8)::R) w:=b;have a5:((((es.map Prod.fst).take i).map Img.num).map Aa++[Aa m.num]:List Value)=(((es.map Prod.fst).take (i+1)).map Img.num).map Aa:=(by rw[Ack,Ach,g];simp);rw[a5] at b;have H:=b.l5;have b0:=H.sy 3 (·.slc);refine Z1 9 [] [(i:Int)+1] Z U ?_;replace H:=H.d.f1.f3.f3;refine gf ?_;intro _ hF;refine ⟨⟨i+1,v2,v4⟩,hF.cz,⟨H,?_⟩,?_⟩
  ·show i+1<=es.length;omega
  (dsimp only;omega)
 refine Zc 2 Z (gx (Zc 3 Z ?_));obtain rfl:i=es.length:=by omega
 rw[show (es.map Prod.fst).take es.length=(es.map Prod.fst) from Ab4 O] at H;have b:Sep z (grow 3 1 n9 (es.map Prod.fst).length (((es.map Prod.fst).map Img.num).map Aa)::grow 5 1 u9 ((AH s.epoch q (es.map Prod.fst)).length) ((AH s.epoch q (es.map Prod.fst)).map u8)::blk c [V f,Aa s.gen,Aa s.epoch,Aa s.pages,Aa s.start,Aa s.len,Aa s.head,Aa s.seq,Aa a,Aa q,Aa u,.bool false] 249::A::R) w:=by have p:=H;rw[show es.length=(es.map Prod.fst).length from by simp] at p;exact p
 clear H;have H:=b.l4;have a6:=H.sy 1 (·.slc);have a1:=H.sy 0 (·.slc);obtain ⟨no,nc,rfl⟩:=a1;replace H:=H.f2;refine AL (Sep z (blk c [V f,Aa s.gen,Aa s.epoch,Aa s.pages,Aa s.start,Aa s.len,Aa s.head,Aa s.seq,Aa a,Aa q,Aa u,.bool false] 249::R)) 19 Z J (A0 H λw b=>?_);have H:=b.l4;refine A7 [0,1,2,3,4,5,6,7,8,9,10] [1,2,0,9,0] J (λ_ hx=>(AS (hx.blk 0 Z) AJ)) (by exact H.pick 4 [0] Z) Z J Z Z (An [11] J O (Ar (A6 Z Z Z Z Z Z (λw=>call222 _ w) (NL _ (AH s.epoch q (es.map Prod.fst)) _ (λh q=>q.rd)) H.f2 Z ?_)));rintro _ w _ ⟨rfl,rfl⟩ H;refine Am (λ_=>(H.pick 4 [1] Z)) (AQ 12 J Z Z J J J Z Z Z (AW Z Z (out:=[Aa s.epoch,Aa q,.slice no ((es.map Prod.fst).length) nc,u32 (AD (AH s.epoch q (es.map Prod.fst)))]) J) (H.pick 4 [1] Z) (An [13] J O (Ar (A6 Z Z Z Z Z Z (λw=>call221 _ w) (KF s.epoch q _ ((es.map Prod.fst).map Img.num) _ _ (λh q=>by have e9:((es.map Prod.fst).map Img.num).length=(es.map Prod.fst).length:=Ab7 ..;rw[e9];exact q.rd) U U (by rw[Ab7];omega) (λy hy=>by obtain ⟨m9,p,rfl⟩:=Ab9.1 hy;exact (t m9 p).1)) H.f2 Z ?_))));rintro _ w _ ⟨u5,rfl,rfl⟩ H;have b5:=H.sy 0 (·.slc);refine Am (λ_=>(H.pick 5 [3] Z)) (A7 [14,15,16,17] [] J (λ_ _=>AJ) (by exact H.pick 5 [3] Z) Z J Z Z (An [18] J O (Ar (B8 Z Z Z Z (AU Z Z) (Am (λh=>absurd Z h) (AT J (gn (Zc 5 Z (AG Z (AO 0 H Z Z J Bg Z Z (H.rv 2 (·.rd)) (by intro c9 a0;obtain ⟨b9,_,rfl⟩:=Ab9.1 a0;rfl) (by have p:(sect (Bx s.epoch q (es.map Prod.fst))).length=256:=sect_len (hdL_le U);unfold Bx at p;omega)) ?_)))))))));rintro v6 w b;have b:Sep z (grow 5 1 v6 ((sect (Bx s.epoch q (es.map Prod.fst))).length+(AH s.epoch q (es.map Prod.fst)).length) ((sect (Bx s.epoch q (es.map Prod.fst))).map u8++(AH s.epoch q (es.map Prod.fst)).map u8)::grow 3 1 (.slice no ((es.map Prod.fst).length) nc) ((es.map Prod.fst).length) (((es.map Prod.fst).map Img.num).map Aa)::grow 5 1 u9 ((AH s.epoch q (es.map Prod.fst)).length) ((AH s.epoch q (es.map Prod.fst)).map u8)::blk c [V f,Aa s.gen,Aa s.epoch,Aa s.pages,Aa s.start,Aa s.len,Aa s.head,Aa s.seq,Aa a,Aa q,Aa u,.bool false] 249::A::R) w:=b;have a4:((sect (Bx s.epoch q (es.map Prod.fst))).map u8++(AH s.epoch q (es.map Prod.fst)).map u8:List Value)=(sect (Bx s.epoch q (es.map Prod.fst))++AH s.epoch q (es.map Prod.fst)).map u8:=O;rw[a4] at b;rw[show ((sect (Bx s.epoch q (es.map Prod.fst))).length+(AH s.epoch q (es.map Prod.fst)).length:Nat)=(sect (Bx s.epoch q (es.map Prod.fst))++AH s.epoch q (es.map Prod.fst)).length from (by rw[Ab2])] at b;have H:=b.l5;have c0:=H.sy 0 (·.slc);refine Zc 10 Z (Zr Z ?_);exact ⟨_,⟨_,Z,Z⟩,H.pick 5 [0,3,4] Z⟩
set_option maxHeartbeats 4000000 in
theorem LX (o d:Nat) (s:Sup) (a q u:Int) (n m:Nat) (a1:m<=1000000000) (a2:n<=4096) (F:Nat->List UInt8) (hs:(0<=s.start/\s.start<=1099511627776)/\0<s.len/\s.len<=1099511627776) (y:0<=s.epoch/\s.epoch<4294967296) (a0:0<=q/\q<1099511627776) (v:Value) (es:List ImE) (A:Ah) (hA:∀h,A h->rdH 3 v es.length (Bm es) h/\∀e∈es,rdH 1 e.2 240 (e.1.body.map u8) h) (b:∀e∈es,e.1.Ok) (hn:1<=es.length/\es.length<=40) (k:∀(j i:Nat) (e f:ImE),j<i->es[j]?=some e->es[i]?=some f->e.1.num≠f.1.num) (ha:0<=a/\a+1+es.length<=s.len) (hu:0<=u/\u+1+es.length<=s.len) (a3:s.start+s.len<=n):Aj 161 [V o,v] [blk o [V d,Aa s.gen,Aa s.epoch,Aa s.pages,Aa s.start,Aa s.len,Aa s.head,Aa s.seq,Aa a,Aa q,Aa u,.bool false] 249,rdkA d n F m,A] (λv G=>v=Aa 0/\G=[blk o [V d,Aa s.gen,Aa s.epoch,Aa s.pages,Aa s.start,Aa s.len,Aa s.head,Aa s.seq,Aa ((a+((1+es.length:Nat):Int))%s.len),Aa (q+1),Aa (u+((1+es.length:Nat):Int)),.bool false] 249,rdkA d n (EE F (s.start+a).toNat (sect (Bx s.epoch q (es.map Prod.fst))++AH s.epoch q (es.map Prod.fst)) (1+es.length)) (m+(1+es.length)),A]):=by
 intro z R w H;obtain ⟨ao,oc,rfl⟩:=H.sy 2 (λq=>(hA _ q).1.slc);have g:∀m∈(es.map Prod.fst),m.Ok:=λm hm=>by obtain ⟨e,h9,rfl⟩:=Ab9.1 hm;exact b e h9
 refine Ac func161 Z ntmps161 Z (Z0 13 [0] Z (Af Z (λh1=>U) (λh1=>?_)));refine Zc 6 Z (Ai Z (call190 _) (NO _ es _ hA b U k) H.f2 ?_);intro w H;refine Z3 24 [11,1,0] [((1+es.length:Nat):Int)] H Z U (Ai Z (call191 _) (Li _ _ _ _ _ _ hs U) H.f1 ?_);intro w H;refine Z0 3 [0] Z (Ak 28 Z (λh2=>U) (λh2=>?_));refine Z2 8 [1,2,0,0,0] H Z (Ak 36 Z (λh3=>U) (λh3=>?_));refine Z2 8 [9,0,0,0] H Z (Af Z (λh4=>U) (λh4=>?_));refine Zc 6 Z (AA Z (call192 _) (LW _ _ _ _ _ _ y a0 _ es _ hA b U) H ?_);rintro rv w _ ⟨_,rfl,rfl⟩ H;refine Zc 4 Z ?_;have c:(sect (Bx s.epoch q (es.map Prod.fst))++AH s.epoch q (es.map Prod.fst)).length=(256*(1+es.length)):=by rw[Ab2,sect_len (hdL_le (by rw[Ab7];omega)),DM g,Ab7];omega
 obtain ⟨gb,x,rest,t,c1,c2,c3,l⟩:=H.ungrow 0 Z U;subst t;clear H;have H:=l.l4;rw[c] at c1 c3;refine Bd (Sep z _) J J H.drew (F1 11 [1,5,1,0,8,1,0] [s.len-a] Z J U (Bo Z Z Z (Mc Z Z Z) (Cq 1 [] Z J (Bv (λw l=>?_)))));have H:=l.l4;refine gn (Zc 2 Z (k_updA 7 (v:=Aa ((1+es.length:Nat):Int)) Z (congrArg Aa U) ?_));replace H:=H.f1;refine AL (Sep z (blk o [V d,Aa s.gen,Aa s.epoch,Aa s.pages,Aa s.start,Aa s.len,Aa s.head,Aa s.seq,Aa a,Aa q,Aa u,.bool false] 249::R)) 16 Z J (A0 H λw l=>?_);have H:=l.l4;refine A7 [0,1,2,3,4,5,6,7,8,10,11] [0,0,8,0] J (λ_ hx=>(AS (hx.blk 0 Z) AJ)) (by exact H.pick 4 [0] Z) Z J Z Z (AQ 12 J Z Z J J J Z Z Z (GX Z Z Z (r:=((256*(1+es.length):Nat):Int)) U U) (H.pick 4 [0] Z) (AQ 13 J Z Z J J J Z Z Z (Bj Z (z:=1) (p:=0) (q:=(256*(1+es.length))) (o':=0) (l':=(256*(1+es.length))) (c':=x) J Z (.inl ⟨Z,Z⟩) (.inr ⟨_,_,_,Z,Z,Z⟩) U U U U U U) (H.pick 4 [0] Z) (An [9] J O (Ar (A6 Z Z Z Z Z Z (λw=>call186 _ w) (FU _ _ _ _ _ _ hs a U) H Z ?_)))));rintro _ w _ ⟨rfl,rfl⟩ H;refine Am (λ_=>(H.pick 4 [0] Z)) (An [14] J O (Ar (k_updA 67 (v:=Aa (((s.start+a).toNat:Nat):Int)) Z (congrArg Aa (by rw[Ac1 U U];omega)) (A6 Z Z Z Z Z Z (λw=>call149 _ w) (FE _ n _ U _ ((s.start+a).toNat) (1+es.length) false _ (sect (Bx s.epoch q (es.map Prod.fst))++AH s.epoch q (es.map Prod.fst)) _ (λh q=>by rw[c];exact q.rd U U (by rw[Ab2,Ab7];omega) (by rw[Acm,AcY,AcP (by rw[Ab7];omega)])) c U U) H.f1.f3 Z ?_))));rintro _ w _ ⟨rfl,rfl⟩ H;refine Am (λ_=>(H.pick 4 [2] Z)) (An [15] J O (Ar (B8 Z Z Z Z (AU Z Z) (Am (λh=>absurd Z h) (AT J (gn (Z0 13 [3,0] Z (Af Z (λh5=>U) (λh5=>?_)))))))));refine Z0 16 [4] Z (Ai Z (call189 _) (IH _ _ _ _ _ _ hs ((1+es.length:Nat):Int) U U U U) H.f2 ?_);intro w H;refine Zc 8 Z (Zr Z ?_);exact ⟨_,⟨Z,Z⟩,H.pick 4 [0,1,3] Z⟩
theorem Vc{e q:Int}{ims:List Img}(a:∀m∈ims,m.Ok){i:Nat}{m:Img}(h:ims[i]?=some m){rest:List Value}:(((AH e q ims).map u8++rest).drop (256*i)).take (256*1)=(sect (Bk e q m)).map u8:=by
 have f:=(AbZ.1 h).1;have j:=a m (Ab1 h);have c:AH e q ims=AH e q (ims.take i)++(sect (Bk e q m)++AH e q (ims.drop (i+1))):=by
  have b:ims=ims.take i++m::ims.drop (i+1):=by
   have:=AcX i ims;rw[Adw f,show ims[i]=m from (AbZ.1 h).2] at this;exact this.symm
  have:=congrArg (AH e q) b;rw[this];simp[AH]
 have d:(AH e q (ims.take i)).length=256*i:=by rw[DM (λx g=>a x (AcO g)),Ab8];omega
 have k:(sect (Bk e q m)).length=256:=sect_len (Ac8 (C7 j.2.2));rw[c,Acp,Ab5,AdZ (by rw[Ab7];exact d),Acp,Ab5,AcP (by rw[Ab7,k])]
set_option maxHeartbeats 4000000 in
theorem Su (y g:Nat) (s:Sup) (a q u:Int) (n m9:Nat) (d0:n<=4096) (F:Nat->List UInt8) (hs:(0<=s.start/\s.start<=1099511627776)/\0<s.len/\s.len<=1099511627776) (a9:0<=s.epoch/\s.epoch<4294967296) (b0:0<=q/\q<1099511627776) (ims:List Img) (f:∀m∈ims,m.Ok) (hn:1<=ims.length/\ims.length<=40) (ha:0<=a/\a+1+ims.length<=s.len) (c4:s.start+s.len<=n) (t:∀(j:Nat) (m:Img),ims[j]?=some m->F (s.start+a+1+(j:Int)).toNat=sect (Bk s.epoch q m)) (nv:Value) (B:Ah) (hB:∀h,B h->rdH 1 nv ims.length ((ims.map Img.num).map Aa) h):Aj 188 [V y,.agg #[Aa s.epoch,Aa q,nv,u32 (AD (AH s.epoch q ims))]] [blk y [V g,Aa s.gen,Aa s.epoch,Aa s.pages,Aa s.start,Aa s.len,Aa s.head,Aa s.seq,Aa a,Aa q,Aa u,.bool false] 249,rdkA g n F m9,B] (λv G=>∃(v2:Value) (es:List ImE) (hq:Hp),es.map Prod.fst=ims/\(∀e∈es,imeOk hq e)/\v=.tuple #[v2,.bool true,Aa 0]/\G=[grow 118 3 v2 ims.length (Bm es),poolA hq,blk y [V g,Aa s.gen,Aa s.epoch,Aa s.pages,Aa s.start,Aa s.len,Aa s.head,Aa s.seq,Aa a,Aa q,Aa u,.bool false] 249,rdkA g n F m9,B]):=by
 intro z R w H;obtain ⟨ao,oc,rfl⟩:=H.sy 2 (λq=>(hB _ q).slc);have b2:(AH s.epoch q ims).length=ims.length*256:=DM f;refine Ac func188 Z ntmps188 Z (Za 2 [] H Z ?_);intro b1 w H;refine Zc 12 Z ?_;replace H:=(H.nilg 5 1).l5;refine Zc 5 Z ?_;refine Ay (σ:=Nat×Value) (λ⟨i,u9⟩=>[(8,Aa (i:Int)),(7,u9),(0,V y),(3,V b1)])
   (λ⟨i,u9⟩ w=>Sep z (grow 5 1 u9 ((AH s.epoch q (ims.take i)).length) ((AH s.epoch q (ims.take i)).map u8)::blk b1 [Aa s.epoch,Aa q,.slice ao ims.length oc,u32 (AD (AH s.epoch q ims))] 233::blk y [V g,Aa s.gen,Aa s.epoch,Aa s.pages,Aa s.start,Aa s.len,Aa s.head,Aa s.seq,Aa a,Aa q,Aa u,.bool false] 249::rdkA g n F m9::B::R) w/\(i<=ims.length)) (λ⟨i,u9⟩=>ims.length-i) ⟨0,.slice none 0 0⟩
   (λ_ t=>(t.co Z (by go_num) t.cz)) ⟨(by simpa [AH] using H),Acg _⟩ ?_
 clear H;rintro ⟨i,u9⟩ w ⟨b,hI⟩;dsimp only at hI b ⊢;have H:=b.l5;have c6:=H.sy 0 (·.slc);have hi:=hI;clear hI;refine Z2 10 [2,1,0,0] H Z (Af Z (λh1=>?_) (λh1=>?_))
 ·refine Zc 5 Z ?_;obtain ⟨m,c⟩:∃m,ims[i]?=some m:=⟨_,Ab0 U⟩;have o:=f m (Ab1 c)
  have a1:(sect (Bk s.epoch q m)).length=256:=sect_len (Ac8 (C7 o.2.2));replace H:=H.f2;refine AL (Sep z (blk y [V g,Aa s.gen,Aa s.epoch,Aa s.pages,Aa s.start,Aa s.len,Aa s.head,Aa s.seq,Aa a,Aa q,Aa u,.bool false] 249::R)) 19 Z J (A0 H λw b=>?_);have H:=b.l5;refine A7 [0,1,2,3,4,5,6,7,8] [0,0,8,0] J (λ_ l=>(AS (l.blk 0 Z) AJ)) (by exact H.pick 5 [0] Z) Z J Z Z (AQ 9 J Z Z J J J Z Z Z (CD Z Z Z (r:=a+1) U U) (H.pick 5 [0] Z) (A7 [10] [] J (λ_ _=>AJ) (by exact H.pick 5 [0] Z) Z J Z Z (AQ 11 J Z Z J J J Z Z Z (CD Z Z Z (r:=a+1+(i:Int)) U U) (H.pick 5 [0] Z) (An [12] J O (Ar (A6 Z Z Z Z Z Z (λw=>call186 _ w) (FU _ _ _ _ _ _ hs (a+1+(i:Int)) U) H Z ?_))))));rintro _ w _ ⟨rfl,rfl⟩ H;refine Am (λ_=>(H.pick 5 [0] Z)) (An [13] J O (Ar (k_updA 37 (v:=Aa (((s.start+a+1+(i:Int)).toNat:Nat):Int)) Z (congrArg Aa (by rw[Ac1 U U];omega)) (A6 Z Z Z Z Z Z (λw=>call84 _ w) (Hi _ _ _ _ ((s.start+a+1+(i:Int)).toNat) U) H.f3 Z ?_))));rintro _ w _ ⟨u2,rfl,rfl⟩ H;have c0:=H.sy 0 (·.slc);refine Am (λ_=>(H.pick 6 [2] Z)) (A7 [14,15,16,17] [] J (λ_ _=>AJ) (by exact H.pick 6 [2] Z) Z J Z Z (An [18] J O (Ar (B8 Z Z Z Z (AU Z Z) (Am (λh=>absurd Z h) (AT J (gn (Zc 3 Z ?_))))))));rw[t i m c] at H;refine Z0 8 [4] Z ?_;have c7:(AH s.epoch q (ims.take i)).length<=10240:=by rw[DM (λx l=>f x (AcO l)),Ab8];omega
  refine Zc 3 Z (AG Z (AO 3 H Z Z J Bg Z Z (H.rv 0 (·.rd)) (by intro c9 b8;obtain ⟨b9,_,rfl⟩:=Ab9.1 b8;rfl) U) ?_);rintro v3 w b;have b:Sep z (grow 5 1 u2 256 ((sect (Bk s.epoch q m)).map u8)::rdkA g n F m9::blk y [V g,Aa s.gen,Aa s.epoch,Aa s.pages,Aa s.start,Aa s.len,Aa s.head,Aa s.seq,Aa a,Aa q,Aa u,.bool false] 249::grow 5 1 v3 ((AH s.epoch q (ims.take i)).length+256) ((AH s.epoch q (ims.take i)).map u8++(sect (Bk s.epoch q m)).map u8)::blk b1 [Aa s.epoch,Aa q,.slice ao ims.length oc,u32 (AD (AH s.epoch q ims))] 233::B::R) w:=b;have b7:((AH s.epoch q (ims.take i)).map u8++(sect (Bk s.epoch q m)).map u8:List Value)=(AH s.epoch q (ims.take (i+1))).map u8:=(by rw[<-FQ c];simp);rw[b7] at b;rw[show ((AH s.epoch q (ims.take i)).length+256:Nat)=(AH s.epoch q (ims.take (i+1))).length from (by rw[<-FQ c,Ab2,a1])] at b;have H:=b.l6;have c8:=H.sy 3 (·.slc);refine Zc 4 Z ?_;replace H:=(H.pick 6 [1,2,3,4,5] Z).l5;refine Z1 5 [] [(i:Int)+1] Z U ?_;replace H:=H.f4.f1.f2.f4.f4;refine gf ?_;intro _ t;refine ⟨⟨i+1,v3⟩,t.cz,⟨H,?_⟩,?_⟩
  ·show i+1<=ims.length;omega
  (dsimp only;omega)
 refine Zc 2 Z (gx (Zc 4 Z ?_));obtain rfl:i=ims.length:=by omega
 rw[AcW] at H;replace H:=H.f1;refine AL (Sep z (blk b1 [Aa s.epoch,Aa q,.slice ao ims.length oc,u32 (AD (AH s.epoch q ims))] 233::R)) 5 Z J (A0 H λw b=>?_);have H:=b.l5;refine A7 [0,2,3] [3,0] J (λ_ l=>(AS (l.blk 0 Z) AJ)) (by exact H.pick 5 [0] Z) Z J Z Z (An [1] J O (Ar (A6 Z Z Z Z Z Z (λw=>call222 _ w) (NL _ (AH s.epoch q ims) _ (λh q=>q.rd)) H.f1 Z ?_)));rintro _ w _ ⟨rfl,rfl⟩ H;refine Am (λ_=>(H.pick 5 [1] Z)) (An [4] J O (Ar (B8 Z Z Z Z (OK (k:=.u32) Z J Z Z) (Am (λh=>absurd Z h) (AT J (gn (Zc 1 Z (Af Z (λh2=>?_) (λh2=>?_)))))))))
 ·exact absurd Z h2
 refine Zc 3 Z ?_;obtain ⟨gb,a2,rest,a5,c1,c2,c3,b⟩:=H.ungrow 0 Z U;subst a5;clear H;have H:=b.l5;rw[b2] at c1 c3;replace H:=((EK H).nilg 118 3).l7;refine Zc 11 Z ?_;refine Ay (σ:=Nat×Value×List ImE×Hp) (λ⟨i,v9,es,hq⟩=>[(12,Aa (i:Int)),(11,v9),(0,V y),(3,V b1),(7,.slice (some ⟨gb,0,none⟩) ((AH s.epoch q ims).length) a2)])
   (λ⟨i,v9,es,hq⟩ w=>Sep z (grow 118 3 v9 i (Bm es)::poolA hq::blk gb ((AH s.epoch q ims).map u8++rest) 5::blk b1 [Aa s.epoch,Aa q,.slice ao ims.length oc,u32 (AD (AH s.epoch q ims))] 233::blk y [V g,Aa s.gen,Aa s.epoch,Aa s.pages,Aa s.start,Aa s.len,Aa s.head,Aa s.seq,Aa a,Aa q,Aa u,.bool false] 249::rdkA g n F m9::B::R) w/\(i<=ims.length/\es.map Prod.fst=ims.take i/\∀e∈es,imeOk hq e)) (λ⟨i,v9,es,hq⟩=>ims.length-i) ⟨0,.slice none 0 0,[],λ_=>none⟩
   (λ_ t=>(t.co Z (by go_num) t.cz)) ⟨H,⟨Acg _,Z,λe he=>nomatch he⟩⟩ ?_
 clear H;rintro ⟨i,v9,es,hq⟩ w ⟨b,hI⟩;dsimp only at hI b ⊢;have H:=b.l7;have c5:=H.sy 0 (·.slc);obtain ⟨hi,a0,hE⟩:=hI;refine Z2 10 [2,3,0,0] H Z (Af Z (λh3=>?_) (λh3=>?_))
 ·refine Zc 5 Z ?_;obtain ⟨m,c⟩:∃m,ims[i]?=some m:=⟨_,Ab0 U⟩;have o:=f m (Ab1 c)
  have a1:(sect (Bk s.epoch q m)).length=256:=sect_len (Ac8 (C7 o.2.2));refine Z1 7 [] [((256*i:Nat):Int),((256*i:Nat):Int),((256*i+256:Nat):Int)] Z U (Ad Z (Bj Z (z:=1) (p:=(256*i)) (q:=(256*i+256)) (o':=256*i) (l':=256) (c':=a2-256*i) J Z (.inr ⟨_,_,_,Z,Z,Z⟩) (.inr ⟨_,_,_,Z,Z,Z⟩) U U U U U U) (AA Z (call223 _) (Ou _ (sect (Bk s.epoch q m)) _ (λh q9=>by rw[a1];exact q9.rd U U (by rw[Ab2,Ab7];omega) (Vc f c)) _ _ a9 b0 m o Z) H.f2 ?_));rintro _ w _ ⟨bv,rfl,rfl⟩ H;have b6:=H.sy 0 (·.slc);obtain ⟨bo,bc,rfl⟩:=b6;refine Za 5 [] H Z ?_;intro b4 w H;refine Z4 8 [0] H Z ?_;intro w H;have a3:=(H.rd 8 Z hB).at (j:=i) (u:=Aa m.num) (by rw[Ach,Ach,c];rfl);refine Bd (Sep z _) J J H.drew (Fg 12 [1,2,0] (λ_ l=>(AS (l.blk 6 Z) AJ)) Z J Z (CJ 83 Z (λh4=>?_) (λh4=>?_)))
  ·exact absurd Z h4
  refine Fg 8 [9,0] (λ_ l=>(AS (l.blk 6 Z) AJ)) Z J Z (CJ 91 Z (λh5=>?_) (λh5=>?_))
  ·exact absurd Z h5
  refine Fg 5 [0,0,2,1] (λ_ l=>(AS (l.blk 0 Z) (AS (l.blk 5 Z) AJ))) Z J Z (Bo Z Z Z (Aw Z (z:=1) (j:=i) (r:=i) J Z Z Z U a3 U) (Bo Z Z Z (AK Z Z J (λ_ hs=>(hs.rd 8 Z hB).at (j:=i) (u:=Aa m.num) (by rw[Ach,Ach,c];rfl))) ?_));refine Cq 2 [] Z J (Bv (λw b=>?_));have H:=b.l9;refine gn (Zc 1 Z (Af Z (λh6=>?_) (λh6=>?_)))
  ·exact absurd Z h6
  refine Z2 5 [0,3] H Z (AG Z (AM H Z J AX Z (by decide) (by decide) (out:=[Aa m.num,Aa m.kind,.slice bo 240 bc]) J) ?_);rintro _ w ⟨b5,rfl,H⟩;refine AG Z (AO 4 H Z Z J AX Z Z (H.rv 0 (·.rd U U O Z)) (Ap Z (Ap Z (Ap Z AR))) U) ?_;rintro v6 w b;have b:Sep z (blk b5 [Aa m.num,Aa m.kind,.slice bo 240 bc] 118::blk b4 [Aa m.num,Aa m.kind,.slice bo 240 bc] 118::grow 5 1 (.slice bo 240 bc) 240 (m.body.map u8)::blk gb ((AH s.epoch q ims).map u8++rest) 5::grow 118 3 v6 (i+1) (Bm es++[Aa m.num,Aa m.kind,.slice bo 240 bc])::poolA hq::blk b1 [Aa s.epoch,Aa q,.slice ao ims.length oc,u32 (AD (AH s.epoch q ims))] 233::blk y [V g,Aa s.gen,Aa s.epoch,Aa s.pages,Aa s.start,Aa s.len,Aa s.head,Aa s.seq,Aa a,Aa q,Aa u,.bool false] 249::rdkA g n F m9::B::R) w:=b;have a8:(Bm es++[Aa m.num,Aa m.kind,.slice bo 240 bc]:List Value)=Bm (es++[((m,.slice bo 240 bc):ImE)]):=(HF es (m,.slice bo 240 bc));rw[a8] at b;have H:=b.l10;have d1:=H.sy 4 (·.slc);refine Zc 4 Z ?_;replace H:=H.f2.f5;obtain ⟨a4,⟨a6,b3⟩,H⟩:=BM H (λh q=>q.rd);have a7:∀e∈es++[((m,.slice bo 240 bc):ImE)],imeOk a4 e:=λe he=>by rcases Acy.1 he with q|q;exact (hE e q).le a6;rw[AcK] at q;subst q;exact ⟨o,b3⟩
  refine Z1 5 [] [(i:Int)+1] Z U ?_;replace H:=H.f2.d.f1.d.f6.f6.f6.f6.f5.f5.f6;refine gf ?_;intro _ t;refine ⟨⟨i+1,v6,(es++[((m,.slice bo 240 bc):ImE)]),a4⟩,t.cz,⟨H,?_⟩,?_⟩
  ·exact ⟨by show i+1<=ims.length;omega,by rw[Acp,a0,Ack,c];rfl,a7⟩
  (dsimp only;omega)
 refine Zc 2 Z (gx (Zc 11 Z (Zr Z ?_)));obtain rfl:i=ims.length:=by omega
 rw[AcW] at a0;exact ⟨_,⟨_,es,hq,a0,hE,Z,Z⟩,H.pick 7 [0,1,4,5,6] Z⟩
def rOff(rs:List Rc)(i:Nat):Nat:=((rs.take i).map λr=>1+r.ims.length).sum
theorem Sv{rs:List Rc}{i:Nat}{r:Rc}(h:rs[i]?=some r):rOff rs (i+1)=rOff rs i+(1+r.ims.length):=by
 unfold rOff;rw[Ack,h];simp
theorem Lj{rs:List Rc}{i:Nat}(h:i<=rs.length):rOff rs i<=rOff rs rs.length:=by
 have:∀k,i+k<=rs.length->rOff rs i<=rOff rs (i+k):=by
  intro k
  induction k with
  | zero=>intro _;exact Acv _
  | succ k ih=>
   intro c;have b:=ih U;have a:=Sv (rs:=rs) (i:=i+k) (Ab0 U);rw[show i+(k+1)=i+k+1 by omega,a];omega
 have:=this (rs.length-i) U;rwa[show i+(rs.length-i)=rs.length by omega] at this
set_option maxHeartbeats 8000000 in
theorem Vd (b n m9:Nat) (c5:n<=4096) (F:Nat->List UInt8) (s:Sup) (t:s.Ok (n:Int)) (hh:s.head=0) (d1:s.epoch<4294967296) (rs:List Rc) (d4:s.seq+rs.length<1099511627776) (hR:∀(i:Nat) (r:Rc),rs[i]?=some r->r.seq=s.seq+(i:Int)/\(1<=r.ims.length/\r.ims.length<=40)/\(∀m∈r.ims,m.Ok)/\F (s.start+(rOff rs i:Int)).toNat=sect (Bx s.epoch r.seq r.ims)/\∀(j:Nat) (m:Img),r.ims[j]?=some m->F (s.start+(rOff rs i:Int)+1+(j:Int)).toNat=sect (Bk s.epoch r.seq m)) (a5:(rOff rs rs.length:Int)<s.len/\F (s.start+(rOff rs rs.length:Int)).toNat=List.replicate 256 0):Aj 152 [V b,.agg #[Aa s.gen,Aa s.epoch,Aa s.pages,Aa s.start,Aa s.len,Aa s.head,Aa s.seq]] [rdkA b n F m9] (λv G=>∃(u:Nat) (v2:Value) (es:List RcE) (hq:Hp),es.map Prod.fst=rs/\rcesOk es hq/\v=.tuple #[V u,v2,Aa 0]/\G=[grow 116 2 v2 rs.length (EA es),poolA hq,blk u [V b,Aa s.gen,Aa s.epoch,Aa s.pages,Aa s.start,Aa s.len,Aa s.head,Aa s.seq,Aa (rOff rs rs.length:Int),Aa (s.seq+(rs.length:Int)),Aa (rOff rs rs.length:Int),.bool false] 249,rdkA b n F m9]):=by
 intro z R w H;replace H:=H.l1;have hk:=t.2;have d6:=Sup.get t;have hs:(0<=s.start/\s.start<=1099511627776)/\0<s.len/\s.len<=1099511627776:=⟨by omega,by omega,by omega⟩;refine Ac func152 Z ntmps152 Z (Za 2 [] H Z ?_);intro b1 w H;refine Z2 9 [0,7] H Z (AA Z (call155 _) (Pw _ n _ F s t) H.f1 ?_);rintro _ w _ ⟨u,rfl,rfl⟩ H;refine Zc 14 Z ?_;replace H:=((EK H).nilg 116 2).l5;refine Zc 6 Z ?_;refine Ay (σ:=Nat×Value×List RcE×Hp) (λ⟨i,v9,es,hq⟩=>[(8,v9),(0,V b),(3,V b1),(7,V u)])
   (λ⟨i,v9,es,hq⟩ w=>Sep z (grow 116 2 v9 i (EA es)::poolA hq::blk u [V b,Aa s.gen,Aa s.epoch,Aa s.pages,Aa s.start,Aa s.len,Aa s.head,Aa s.seq,Aa (rOff rs i:Int),Aa (s.seq+(i:Int)),Aa (rOff rs i:Int),.bool false] 249::rdkA b n F m9::blk b1 [Aa s.gen,Aa s.epoch,Aa s.pages,Aa s.start,Aa s.len,Aa s.head,Aa s.seq] 92::R) w/\(i<=rs.length/\es.map Prod.fst=rs.take i/\rcesOk es hq)) (λ⟨i,v9,es,hq⟩=>rs.length-i) ⟨0,.slice none 0 0,[],λ_=>none⟩
   fr_z ⟨(by simpa [rOff,EA,hh] using H),⟨Acg _,Z,λe c=>nomatch c⟩⟩ ?_
 clear H;rintro ⟨i,v9,es,hq⟩ w ⟨a,hI⟩;dsimp only at hI a ⊢;have H:=a.l5;have d3:=H.sy 0 (·.slc);obtain ⟨hi,y,hE⟩:=hI;refine Zc 2 Z ?_;have b8:=Lj (rs:=rs) (i:=i) U;refine Bd (Sep z _) J J H.drew (Fg 7 [10,0,4,1] (λ_ p=>(AS (p.blk 2 Z) (AS (p.blk 4 Z) AJ))) Z J Z (Bv (λw a=>?_)));have H:=a.l5;refine gn (Zc 1 Z (Af Z (λh1=>?_) (λh1=>?_)))
 ·refine Zc 4 Z ?_;have c3:=Lj (rs:=rs) (i:=i) U
  refine Z2 7 [8,2,0] H Z (Ai Z (call186 _) (FU _ _ _ _ _ _ hs (rOff rs i:Int) U) H.f2 ?_);intro w H;replace H:=H.l5;refine k_updA 35 (v:=Aa (((s.start+(rOff rs i:Int)).toNat:Nat):Int)) Z (congrArg Aa (by rw[Ac1 U U];omega)) (AA Z (call84 _) (Hi _ _ _ _ ((s.start+(rOff rs i:Int)).toNat) U) H.f3 ?_);rintro _ w _ ⟨u2,rfl,rfl⟩ H;replace H:=H.l6;have d2:=H.sy 0 (·.slc);refine Z0 18 [4] Z ?_;rcases Acj i rs.length with c7|c7
  ·obtain ⟨r,hr⟩:∃r,rs[i]?=some r:=⟨_,Ab0 U⟩;obtain ⟨a3,a1,l,b7,a6⟩:=hR i r hr;have c8:=Sv hr
   have c9:=Lj (rs:=rs) (i:=i+1) U;rw[b7] at H;have b9:(sect (Bx s.epoch r.seq r.ims)).length=256:=sect_len (hdL_le a1.2);rw[<-a3] at H;have c0:=a6;refine Zc 2 Z (AA Z (call187 _) (Qt _ (sect (Bx s.epoch r.seq r.ims)) _ (λh q=>by rw[b9];exact q.rd) s.epoch r.seq U U r.ims a1 l Z) H ?_);rintro _ w _ ⟨pv,rfl,rfl⟩ H;replace H:=H.l7;have c2:=H.sy 0 (·.slc);obtain ⟨po,pc,rfl⟩:=c2;refine Zc 3 Z (AG Z (BC (P:=prog) H Z (zs:=[Aa 0,Aa 0,.slice none 0 0,u32 0]) J) ?_);rintro _ w ⟨b3,rfl,H⟩;replace H:=H.l8;refine Z5 15 [0,2,0,0] [1+(r.ims.length:Int)] H Z U ?_;intro w H;refine Bd (Sep z _) J J H.drew (Fg 10 [0,0,1,1] (λ_ p=>(AS (p.blk 0 Z) (AS (p.blk 7 Z) AJ))) Z J Z (CJ 60 Z (λh2=>?_) (λh2=>?_)))
   ·exact absurd Z h2
   refine Fg 9 [1,0,9,1] (λ_ p=>(AS (p.blk 0 Z) (AS (p.blk 4 Z) AJ))) Z J Z (CJ 69 Z (λh3=>?_) (λh3=>?_))
   ·exact absurd Z h3
   refine F1 10 [4,7,0,10,4,0,0] [s.len-(rOff rs i:Int)] Z J U (Bv (λw a=>?_));have H:=a.l8;refine gn (Zc 1 Z (Af Z (λh4=>U) (λh4=>?_)));refine Z2 6 [0,4] H Z (AA Z (call188 _) (Su _ _ _ _ _ _ n _ c5 F hs U U r.ims l a1 U U c0 _ _ (λh q=>q.rd)) H.f1.f3.f4 ?_);rintro _ w _ ⟨iv,a0,b5,a4,b2,rfl,rfl⟩ H;replace H:=H.l10;have b0:=H.sy 0 (·.slc);obtain ⟨g,f,rfl⟩:=b0;refine Z2 38 [4,9,2,0] H Z (AG Z (AM H Z J CU Z (by decide) (by decide) (out:=[Aa r.seq,.slice g r.ims.length f]) J) ?_);rintro _ w ⟨b4,rfl,H⟩;replace H:=H.l11;refine AG Z (AO 8 H Z Z J CU Z Z (H.rv 0 (·.rd U U O Z)) (Ap Z (Ap Z AR)) U) ?_;rintro v5 w a;have a:Sep z (blk b4 [Aa r.seq,.slice g r.ims.length f] 116::grow 118 3 (.slice g r.ims.length f) r.ims.length (Bm a0)::poolA b5::blk u [V b,Aa s.gen,Aa s.epoch,Aa s.pages,Aa s.start,Aa s.len,Aa s.head,Aa s.seq,Aa (rOff rs i:Int),Aa r.seq,Aa (rOff rs i:Int),.bool false] 249::rdkA b n F m9::grow 3 1 (.slice po r.ims.length pc) r.ims.length ((r.ims.map Img.num).map Aa)::blk b3 [Aa s.epoch,Aa r.seq,.slice po r.ims.length pc,u32 (AD (AH s.epoch r.seq r.ims))] 233::grow 5 1 u2 256 ((sect (Bx s.epoch r.seq r.ims)).map u8)::grow 116 2 v5 (i+1) (EA es++[Aa r.seq,.slice g r.ims.length f])::poolA hq::blk b1 [Aa s.gen,Aa s.epoch,Aa s.pages,Aa s.start,Aa s.len,Aa s.head,Aa s.seq] 92::R) w:=a;have c4:(EA es++[Aa r.seq,.slice g r.ims.length f]:List Value)=EA (es++[((r,.slice g r.ims.length f):RcE)]):=(MI es (r,.slice g r.ims.length f));rw[c4] at a;have H:=a.l11;have d5:=H.sy 8 (·.slc);refine Zc 6 Z (Ai Z (call189 _) (IH _ _ _ _ _ _ hs (1+(r.ims.length:Int)) U U U U) H.f3 ?_);intro w H;refine Zc 1 Z ?_;replace H:=H.f3.f9;obtain ⟨d0,⟨c6,a8⟩,H⟩:=Jx H (M:=λh=>∀e∈a0,imeOk h e) (λh q e c=>(b2 e c).le q) (λh h2 q s2 e c=>(q e c).le s2);replace H:=H.l10;replace H:=H.f3.f1;obtain ⟨a7,⟨a2,c1⟩,H⟩:=BM H (λh q=>q.rd);replace H:=H.l9;have a9:rcesOk (es++[((r,.slice g r.ims.length f):RcE)]) a7:=λe c=>by rcases Acy.1 c with q|q;exact (hE e q).le (λk o x=>a2 k o (c6 k o x));rw[AcK] at q;subst q;exact ⟨a0,a4,c1,imesOk.of (λe c=>(a8 e c).le a2)⟩
   rw[show (((rOff rs i:Int)+(1+(r.ims.length:Int)))%s.len)=(rOff rs (i+1):Int) from by rw[Ac1 U U];omega,show (r.seq+1)=s.seq+((i+1:Nat):Int) from by omega,show ((rOff rs i:Int)+(1+(r.ims.length:Int)))=(rOff rs (i+1):Int) from by omega] at H;refine Zc 1 Z ?_;replace H:=H.f6.d.f5.d.f4.d.f2.d.f4.f3.f3.f3.f4;refine gf ?_;intro _ hF;refine ⟨⟨i+1,v5,(es++[((r,.slice g r.ims.length f):RcE)]),a7⟩,(hF.all Z),⟨H,?_⟩,?_⟩
   ·exact ⟨by show i+1<=rs.length;omega,by rw[Acp,y,Ack,hr];rfl,a9⟩
   (dsimp only;omega)
  obtain rfl:i=rs.length:=by omega
  rw[a5.2] at H;refine Zc 2 Z (Ai Z (call187 _) (Ow _ (List.replicate 256 0) _ (λh q=>q.rd) Z) H ?_);intro w H;refine Zc 3 Z (AG Z (BC (P:=prog) H Z (zs:=[Aa 0,Aa 0,.slice none 0 0,u32 0]) J) ?_);rintro _ w ⟨b6,rfl,H⟩;replace H:=H.l7;refine Z5 15 [0,2,0,0] [1] H Z U ?_;intro w H;refine Bd (Sep z _) J J H.drew (Cq 29 [] Z J (Bv (λw a=>?_)));have H:=a.l7;refine gn (Zc 5 Z (gx (Zc 12 Z (Zr Z ?_))));rw[AcW] at y;exact ⟨_,⟨u,_,es,hq,y,hE,Z,Z⟩,H.pick 7 [4,5,3,2] Z⟩
 (exfalso;omega)
section
def cutZ(z:Nat)(ao:Option Addr)(c p:Nat):Option Addr:=if c=p then ao else ao.map (·.add (p*z))
theorem rdH.cutZ{z:Nat}{f:Option Addr}{n c p m:Nat}{xs:List Value}{h:Hp}(r:rdH z (.slice f n c) n xs h)(x:0<z)(k:p+m<=n)(y:n<=c):rdH z (.slice (YthbbejpbkglmlaaGreatDoor.cutZ z f c p) m (c-p)) m ((xs.drop (p*z)).take (m*z)) h:=by
 obtain ⟨g,c',e,w,q2,v,i⟩:=r;cases e;have s:p*z+m*z<=n*z:=by rw[<-Nat.add_mul];exact Adx _ k
 refine ⟨_,_,Z,by omega,by omega,by simp;omega,λj u a=>?_⟩;have d:j<m*z:=by
  have:=(AbZ.1 a).1;simp at this;omega
 obtain ⟨b,o,rfl,t⟩:=i (p*z+j) u (by
  rw[AcJ,if_pos d,Ac2] at a;exact a)
 have q:0<m:=Nat.pos_of_ne_zero λe=>by subst e;omega
 refine ⟨b,o+p*z,?_,by rw[Adt];exact t⟩;unfold YthbbejpbkglmlaaGreatDoor.cutZ;rw[if_neg U];simp only[Acz];unfold Addr.add;split
 ·rename_i l;simp[l]
 rfl
theorem rdH.slcapZ{z:Nat}{d:Option Addr}{n c:Nat}{xs:List Value}{h:Hp}(r:rdH z (.slice d n c) n xs h):n<=c/\c<=9223372036854775807/\xs.length=n*z:=by
 obtain ⟨b,c',e,f,g,a,i⟩:=r;cases e;exact ⟨f,g,a⟩
section
variable{P:Program}{C:World->Prop}{o:Oper}{n:Nat}{ds:List Deferred}{L:List (Nat×Value)}{x y:Operand}
theorem GB{z:Nat}{t:TypeId}{lo d:Option Operand}{g:Option Addr}{l c p q l' c':Nat}(m:o.op=.slice t x lo d none)(j:C4 P t=some z)
  (r:ev L x=some (.slice g l c))(a:(lo=none/\p=0)\/∃y k i,lo=some y/\ev L y=some (.int k i)/\i=(p:Int))(f:(d=none/\q=l)\/∃y k i,d=some y/\ev L y=some (.int k i)/\i=(q:Int))(e:p<=q)(b:q<=c)
  (s:q-p=l')(h:c-p=c'):Az P C n ds L o (.slice (cutZ z g c p) l' c'):=by
 subst s h;exact KM m j r a f e b
end
def HQ:ImE:=(⟨0,0,[]⟩,.slice none 0 0)
theorem Fa{es:List ImE}{i:Nat}(h:i<es.length):es[i]?=some (es.getD i HQ):=by
 rw[List.getD_eq_getElem?_getD,Ab0 h];rfl
theorem Gk(A B:List ImE):Bm (A++B)=Bm A++Bm B:=by simp[Bm]
theorem NP:∀(L:List ImE) (p:Nat),(Bm L).drop (p*3)=Bm (L.drop p)
 | L,0=>by simp
 | [],p+1=>by simp[Bm]
 | x::L,p+1=>by
  have e1:Bm (x::L)=Aa x.1.num::Aa x.1.kind::x.2::Bm L:=rfl;rw[e1,show (p+1)*3=p*3+1+1+1 by omega,AcS,AcS,AcS,AcS];exact NP L p
theorem NQ:∀(L:List ImE) (p:Nat),(Bm L).take (p*3)=Bm (L.take p)
 | L,0=>by simp[Bm]
 | [],p+1=>by simp[Bm]
 | x::L,p+1=>by
  have e1:Bm (x::L)=Aa x.1.num::Aa x.1.kind::x.2::Bm L:=rfl;rw[e1,show (p+1)*3=p*3+1+1+1 by omega,AcT,AcT,AcT,AcT,NQ L p];rfl
theorem Yt{L:List ImE}(h:∀e∈L,e.2.oneCell'=true):∀c∈Bm L,c.oneCell'=true:=λc b=>by
 simp only[Bm,Ad6] at b;obtain ⟨e,d,a⟩:=b;simp[ImE.cells] at a;rcases a with rfl|rfl|rfl
 ·rfl
 ·rfl
 exact h e d
theorem imC_sub{A B:List ImE}(h:∀e∈A,e∈B){c:Value}(a:c∈Bm A):c∈Bm B:=by
 simp only[Bm,Ad6] at a ⊢;obtain ⟨e,d,b⟩:=a;exact ⟨e,h e d,b⟩
theorem rdH.cutI{a:Option Addr}{n c p m:Nat}{L:List ImE}{h:Hp}(r:rdH 3 (.slice a n c) n (Bm L) h)(b:p+m<=n)(d:n<=c):rdH 3 (.slice (YthbbejpbkglmlaaGreatDoor.cutZ 3 a c p) m (c-p)) m (Bm ((L.drop p).take m)) h:=by
 have:=r.cutZ U b d;rw[NP,NQ] at this;exact this
set_option maxHeartbeats 2000000 in
theorem Gl (v:Value) (es:List ImE) (A:Ah) (o:∀h,A h->rdH 3 v es.length (Bm es) h/\∀e∈es,rdH 1 e.2 240 (e.1.body.map u8) h) (a3:∀e∈es,e.1.Ok) (hl:es.length<=1000000) (m:Img) (b:Option Addr) (a:Nat):Aj 153 [v,.agg #[Aa m.num,Aa m.kind,.slice b 240 a]] [A] (λv G=>∃v2:Value,v=v2/\G=[grow 118 3 v2 (putI es ((m,.slice b 240 a):ImE)).length (Bm (putI es ((m,.slice b 240 a):ImE))),A]):=by
 intro z R w H;obtain ⟨ao,x,rfl⟩:=H.sy 0 (λq=>(o _ q).1.slc);have b4:=H.sy 0 (λq=>(o _ q).1.small);have a4:=H.sy 0 (λq=>(o _ q).1.slcapZ);have f:=H.says 0 Z (λh q=>Yt (λe c=>((o h q).2 e c).slc.one));refine Ac func153 Z ntmps153 Z (Za 2 [] H Z ?_);intro b1 w H;refine Zc 10 Z ?_;refine Ay (σ:=Nat) (λi=>[(5,Aa (i:Int)),(0,.slice ao es.length x),(3,V b1),(4,.slice none 0 0)])
   (λi w=>Sep z (blk b1 [Aa m.num,Aa m.kind,.slice b 240 a] 118::A::R) w/\(i<=es.length/\∀(j:Nat) (y:ImE),j<i->es[j]?=some y->y.1.num<m.num)) (λi=>es.length-i) 0
   fr_z ⟨H,⟨Acg _,λj y h=>absurd h (Nat.not_lt_zero _)⟩⟩ ?_
 clear H;rintro i w ⟨n,hI⟩;have H:=n.l2;obtain ⟨hi,hI⟩:=hI;refine Zc 2 Z (Bd (Sep z _) J J H.drew (J8 5 [0] [] Z J (CJ 11 Z (λh1=>?_) (λh1=>?_))))
 ·have c:=Fa (es:=es) (i:=i) U
  refine Cq 2 [] Z J (Bo Z Z Z (Aw Z (z:=3) (j:=i) (r:=i*3) J Z Z Z U ((H.rv 1 (λq=>(o _ q).1)).at (A8 c 0 _ Z)) U) (Bo Z Z Z (BF Z (k:=0) (r:=i*3) J Z ((H.rv 1 (λq=>(o _ q).1)).at (A8 c 0 _ Z)) Z) (Bo Z Z Z (AK Z Z J (λ_ hs=>(hs.rv 1 (λq=>(o _ q).1)).at (A8 c 0 _ Z))) (Fg 4 [0,0] (λ_ hx=>(AS (hx.blk 0 Z) AJ)) Z J Z (Bv (λw n=>?_))))));have H:=n.l2;refine gn (Zc 1 Z (Af Z (λh2=>?_) (λh2=>?_)))
  ·refine Z1 9 [] [(i:Int)+1] Z U (gf ?_);intro _ hF;refine ⟨(i+1),hF.cz,⟨H,?_⟩,?_⟩
   ·exact ⟨by omega,λj y hj u=>by rcases Nat.lt_succ_iff_lt_or_eq.1 hj with q|q;exact hI j y q u;subst q;have d:=c.symm.trans u;cases d;assumption⟩
   omega
  refine Zc 2 Z (gx (Zc 12 Z (Ad Z (GB (z:=3) (p:=0) (q:=i) (l':=i) (c':=x) Z J Z (.inl ⟨Z,Z⟩) (.inr ⟨_,_,_,Z,Z,Z⟩) U U Z Z) ?_)));replace H:=(H.nilg 118 3).l3;refine AG Z (AO 0 H Z Z J AX Z Z (H.rv 2 (λq=>(o _ q).1.cutI U U)) (λt d=>f t (imC_sub (λe c=>AcO (by rwa[Acm] at c)) d)) U) ?_;rintro v2 w n;have a1:([]++Bm ((es.drop 0).take i):List Value)=Bm (es.take i):=(by rw[Aco,Acm]);rw[a1] at n;have H:=n.l3;have a8:=H.sy 0 (·.slc);refine Z2 7 [1,3] H Z (AG Z (AM H Z J AX Z (by decide) (by decide) (out:=[Aa m.num,Aa m.kind,.slice b 240 a]) J) ?_);rintro _ w ⟨b3,rfl,H⟩;refine AG Z (AO 1 H Z Z J AX Z Z (H.rv 0 (·.rd U U O Z)) (Ap Z (Ap Z (Ap Z AR))) U) ?_;rintro v4 w H;have a6:=H.sy 1 (·.slc);refine Zc 5 Z (Bd (Sep z _) J J H.drew (J8 5 [0] [] Z J (CJ 36 Z (λh3=>?_) (λh3=>?_))))
  ·have c:=Fa (es:=es) (i:=i) U
   refine Cq 2 [] Z J (Bo Z Z Z (Aw Z (z:=3) (j:=i) (r:=i*3) J Z Z Z U ((H.rv 3 (λq=>(o _ q).1)).at (A8 c 0 _ Z)) U) (Bo Z Z Z (BF Z (k:=0) (r:=i*3) J Z ((H.rv 3 (λq=>(o _ q).1)).at (A8 c 0 _ Z)) Z) (Bo Z Z Z (AK Z Z J (λ_ hs=>(hs.rv 3 (λq=>(o _ q).1)).at (A8 c 0 _ Z))) (Fg 4 [0,0] (λ_ hx=>(AS (hx.blk 2 Z) AJ)) Z J Z (Bv (λw n=>?_))))));have H:=n.l4;refine gn (Zc 1 Z (Af Z (λh4=>?_) (λh4=>?_)))
   ·refine Z1 11 [] [((i+1:Nat):Int)] Z U (Ad Z (GB (z:=3) (p:=(i+1)) (q:=es.length) (l':=es.length-(i+1)) (c':=x-(i+1)) Z J Z (.inr ⟨_,_,_,Z,Z,Z⟩) (.inl ⟨Z,Z⟩) U U Z Z) (AG Z (AO 1 H Z Z J AX Z Z (H.rv 3 (λq=>(o _ q).1.cutI U U)) (λt d=>f t (imC_sub (λe c=>AdP (AcO c)) d)) U) ?_));rintro v5 w H;have a5:=H.sy 1 (·.slc)
    refine Zc 4 Z (Zr Z ?_);have g:putI es ((m,.slice b 240 a):ImE)=es.take i++[((m,.slice b 240 a):ImE)]++es.drop (i+1):=O5 ((m,.slice b 240 a):ImE) hI c (by assumption);have s:(putI es ((m,.slice b 240 a):ImE)).length=0+i+1+(es.length-(i+1)):=by rw[g];simp only[Ab2,Ab8,AcA,Ad4];omega
    rw[Acm,show List.take (1*3) [Aa m.num,Aa m.kind,.slice b 240 a]=[Aa m.num,Aa m.kind,.slice b 240 a] from Z,show (Bm (es.take i)++[Aa m.num,Aa m.kind,.slice b 240 a]++Bm ((es.drop (i+1)).take (es.length-(i+1))):List Value)=Bm (putI es ((m,.slice b 240 a):ImE)) from by rw[g,Gk,Gk,Ab4 (l:=es.drop (i+1)) (by rw[AcA];omega)];rfl,<-s] at H;exact ⟨_,⟨_,Z,Z⟩,H.pick 4 [1,3] Z⟩
   refine Zc 7 Z (Ad Z (GB (z:=3) (p:=i) (q:=es.length) (l':=es.length-i) (c':=x-i) Z J Z (.inr ⟨_,_,_,Z,Z,Z⟩) (.inl ⟨Z,Z⟩) U U Z Z) (AG Z (AO 1 H Z Z J AX Z Z (H.rv 3 (λq=>(o _ q).1.cutI U U)) (λt d=>f t (imC_sub (λe c=>AdP (AcO c)) d)) U) ?_));rintro v6 w H;have b0:=H.sy 1 (·.slc);refine Zc 4 Z (Zr Z ?_);have g:putI es ((m,.slice b 240 a):ImE)=es.take i++[((m,.slice b 240 a):ImE)]++es.drop i:=K4 ((m,.slice b 240 a):ImE) hI U (λy u=>by first|(have d:=(AbZ.1 u).1;omega)|(have d:=c.symm.trans u;cases d;dsimp only;omega));have s:(putI es ((m,.slice b 240 a):ImE)).length=0+i+1+(es.length-i):=by rw[g];simp only[Ab2,Ab8,AcA,Ad4];omega
   rw[Acm,show List.take (1*3) [Aa m.num,Aa m.kind,.slice b 240 a]=[Aa m.num,Aa m.kind,.slice b 240 a] from Z,show (Bm (es.take i)++[Aa m.num,Aa m.kind,.slice b 240 a]++Bm ((es.drop i).take (es.length-i)):List Value)=Bm (putI es ((m,.slice b 240 a):ImE)) from by rw[g,Gk,Gk,Ab4 (l:=es.drop i) (by rw[AcA];omega)];rfl,<-s] at H;exact ⟨_,⟨_,Z,Z⟩,H.pick 4 [1,3] Z⟩
  exact absurd h1 h3
 refine Cq 9 [] Z J (Bv (λw n=>?_));have H:=n.l2;refine gn (Zc 4 Z (gx (Zc 12 Z (Ad Z (GB (z:=3) (p:=0) (q:=i) (l':=i) (c':=x) Z J Z (.inl ⟨Z,Z⟩) (.inr ⟨_,_,_,Z,Z,Z⟩) U U Z Z) ?_))));replace H:=(H.nilg 118 3).l3;refine AG Z (AO 0 H Z Z J AX Z Z (H.rv 2 (λq=>(o _ q).1.cutI U U)) (λt d=>f t (imC_sub (λe c=>AcO (by rwa[Acm] at c)) d)) U) ?_;rintro v7 w n;have a0:([]++Bm ((es.drop 0).take i):List Value)=Bm (es.take i):=(by rw[Aco,Acm]);rw[a0] at n;have H:=n.l3;have a9:=H.sy 0 (·.slc);refine Z2 7 [1,3] H Z (AG Z (AM H Z J AX Z (by decide) (by decide) (out:=[Aa m.num,Aa m.kind,.slice b 240 a]) J) ?_);rintro _ w ⟨b8,rfl,H⟩;refine AG Z (AO 1 H Z Z J AX Z Z (H.rv 0 (·.rd U U O Z)) (Ap Z (Ap Z (Ap Z AR))) U) ?_;rintro v9 w H;have b2:=H.sy 1 (·.slc);refine Zc 5 Z (Bd (Sep z _) J J H.drew (J8 5 [0] [] Z J (CJ 36 Z (λh5=>?_) (λh5=>?_))))
 ·exact absurd h5 h1
 refine Cq 9 [] Z J (Bv (λw n=>?_));have H:=n.l4;refine gn (Zc 9 Z (Ad Z (GB (z:=3) (p:=i) (q:=es.length) (l':=es.length-i) (c':=x-i) Z J Z (.inr ⟨_,_,_,Z,Z,Z⟩) (.inl ⟨Z,Z⟩) U U Z Z) (AG Z (AO 1 H Z Z J AX Z Z (H.rv 3 (λq=>(o _ q).1.cutI U U)) (λt d=>f t (imC_sub (λe c=>AdP (AcO c)) d)) U) ?_)));rintro a7 w H;have a2:=H.sy 1 (·.slc);refine Zc 4 Z (Zr Z ?_);have g:putI es ((m,.slice b 240 a):ImE)=es.take i++[((m,.slice b 240 a):ImE)]++es.drop i:=K4 ((m,.slice b 240 a):ImE) hI U (λy u=>by first|(have d:=(AbZ.1 u).1;omega)|(have d:=c.symm.trans u;cases d;dsimp only;omega));have s:(putI es ((m,.slice b 240 a):ImE)).length=0+i+1+(es.length-i):=by rw[g];simp only[Ab2,Ab8,AcA,Ad4];omega
 rw[Acm,show List.take (1*3) [Aa m.num,Aa m.kind,.slice b 240 a]=[Aa m.num,Aa m.kind,.slice b 240 a] from Z,show (Bm (es.take i)++[Aa m.num,Aa m.kind,.slice b 240 a]++Bm ((es.drop i).take (es.length-i)):List Value)=Bm (putI es ((m,.slice b 240 a):ImE)) from by rw[g,Gk,Gk,Ab4 (l:=es.drop i) (by rw[AcA];omega)];rfl,<-s] at H;exact ⟨_,⟨_,Z,Z⟩,H.pick 4 [1,3] Z⟩
end
theorem Lk{m:Img}(h:m.Ok):(Es m).length=256:=DB (Fz h)
def Ev(F:Nat->List UInt8)(es:List ImE):Nat->List UInt8:=es.foldl (λF e=>BL F (2+e.1.num).toNat (Es e.1)) F
theorem Aau{F:Nat->List UInt8}{es:List ImE}{i:Nat}{e:ImE}(h:es[i]?=some e):Ev F (es.take (i+1))=BL (Ev F (es.take i)) (2+e.1.num).toNat (Es e.1):=by
 unfold Ev;rw[Ack,h,Adq];rfl
theorem EX(v:Value)(es:List ImE)(A:Ah)(a:∀h,A h->rdH 3 v es.length (Bm es) h/\∀e∈es,rdH 1 e.2 240 (e.1.body.map u8) h)(m:∀e∈es,e.1.Ok)(p:Int)(d:∀e∈es,e.1.num≠p):Aj 83 [v,Aa p] [A] (λv G=>v=.tuple #[.agg #[Aa 0,.slice none 0 0],.bool false]/\G=[A]):=by
 intro z R w H;obtain ⟨s,n,rfl⟩:=H.sy 0 (λq=>(a _ q).1.slc);have x:=H.sy 0 (λq=>(a _ q).1.small);refine Ac func83 Z ntmps83 Z (Za 2 [] H Z ?_);intro f w H;refine Zc 10 Z ?_;refine Ay (σ:=Nat) (λi=>[(6,Aa (i:Int)),(0,.slice s es.length n),(1,Aa p),(4,V f)])
   (λi w=>Sep z (blk f [Aa 0,.slice none 0 0] 40::A::R) w/\(i<=es.length)) (λi=>es.length-i) 0
   fr_z ⟨H,Acg _⟩ ?_
 clear H;rintro i w ⟨o,g⟩;have H:=o.l2;have y:=g;clear g;refine Z0 9 [0] Z (Af Z (λt=>?_) (λt=>?_))
 ·refine Zc 5 Z ?_;have b:=Fa (es:=es) (i:=i) U
  have c:=d _ (Ab1 b);refine Zc 3 Z (Ad Z (Aw Z (z:=3) (j:=i) (r:=i*3) J Z Z Z U ((H.rv 1 (λq=>(a _ q).1)).at (A8 b 0 _ Z)) U) (Ad Z (BF Z (k:=0) (r:=i*3) J Z ((H.rv 1 (λq=>(a _ q).1)).at (A8 b 0 _ Z)) Z) (Ad Z (AK Z Z J (AB ((H.rv 1 (λq=>(a _ q).1)).at (A8 b 0 _ Z)))) (Z0 4 [0] Z (Af Z (λl=>?_) (λl=>?_))))))
  ·exact absurd l c
  refine Z1 8 [] [(i:Int)+1] Z U (gf ?_);intro _ u;refine ⟨(i+1),u.cz,⟨H,?_⟩,?_⟩
  ·omega
  omega
 refine Zc 2 Z (gx (Z4 10 [0] H Z ?_));intro w H;refine Zl [0,2] H Z ?_;exact ⟨_,⟨Z,Z⟩,H.pick 2 [1] Z⟩
set_option maxHeartbeats 4000000 in
theorem LY (ps d:Nat) (x:Sup) (lp ov:Value) (y:Bool) (n t:Nat) (a5:t<=900000000) (a6:n<=4096) (F:Nat->List UInt8) (s:Sup) (a0:s.Ok (n:Int)) (v:Value) (es:List ImE) (A:Ah) (b:∀h,A h->rdH 3 v es.length (Bm es) h/\∀e∈es,rdH 1 e.2 240 (e.1.body.map u8) h) (g:∀e∈es,e.1.Ok) (a7:es.length<=1000000) (a3:∀e∈es,e.1.num+2<n):Aj 154 [V ps,.agg #[Aa s.gen,Aa s.epoch,Aa s.pages,Aa s.start,Aa s.len,Aa s.head,Aa s.seq]] [blk ps [V d,Aa x.gen,Aa x.epoch,Aa x.pages,Aa x.start,Aa x.len,Aa x.head,Aa x.seq,lp,v,.bool y,ov] 128,rdkA d n F t,A] (λv G=>v=Aa 0/\G=[blk ps [V d,Aa s.gen,Aa s.epoch,Aa s.pages,Aa s.start,Aa s.len,Aa s.head,Aa s.seq,lp,.slice none 0 0,.bool y,ov] 128,rdkA d n (BL (Ev F es) (s.gen%2).toNat (BE s)) (t+es.length+1),A]):=by
 intro z R w H;obtain ⟨ao,oc,rfl⟩:=H.sy 2 (λq=>(b _ q).1.slc);refine Ac func154 Z ntmps154 Z (Za 2 [] H Z ?_);intro b1 w H;refine Zc 10 Z ?_;refine Ay (σ:=Nat) (λi=>[(5,Aa (i:Int)),(0,V ps),(3,V b1)])
   (λi w=>Sep z (blk b1 [Aa s.gen,Aa s.epoch,Aa s.pages,Aa s.start,Aa s.len,Aa s.head,Aa s.seq] 92::blk ps [V d,Aa x.gen,Aa x.epoch,Aa x.pages,Aa x.start,Aa x.len,Aa x.head,Aa x.seq,lp,.slice ao es.length oc,.bool y,ov] 128::rdkA d n (Ev F (es.take i)) (t+i)::A::R) w/\(i<=es.length)) (λi=>es.length-i) 0
   fr_z ⟨(by simpa [Ev] using H),Acg _⟩ ?_
 clear H;rintro i w ⟨l,hI⟩;have H:=l.l4;have hi:=hI;clear hI;refine Z2 12 [9,1,0,0] H Z (Af Z (λh1=>?_) (λh1=>?_))
 ·refine Zc 5 Z ?_;have a:=Fa (es:=es) (i:=i) U
  have f:=g _ (Ab1 a);obtain ⟨bo,bc,c⟩:Slc (es.getD i HQ).2 240:=H.sy 3 (λq=>((b _ q).2 _ (Ab1 a)).slc);have o:=f.1;have p:=a3 _ (Ab1 a);have a2:=Ab1 a;obtain ⟨⟨m,bv⟩,a1⟩:∃e:ImE,es.getD i HQ=e:=⟨_,Z⟩;rw[a1] at a f c p a2 o;dsimp only at c f p o;subst c;refine Z2 6 [9,1,0] H Z (Ad Z (Aw Z (z:=3) (j:=i) (r:=i*3) J Z Z Z U ((H.rv 3 (λq=>(b _ q).1)).at (A8 a 0 _ Z)) U) (Ad Z (BO Z Z (vs:=[Aa m.num,Aa m.kind,.slice bo 240 bc]) J O (AB (λk u hk=>(H.rv 3 (λq=>(b _ q).1)).at (A8 a k u hk)))) (AA Z (call143 _) (Gb m f _ _ (λh q=>(b h q).2 _ (Ab1 a))) H.f3 ?_)));rintro _ w _ ⟨u2,rfl,rfl⟩ H;have a4:=H.sy 0 (·.slc);refine Zc 8 Z (Bh 14 J J (A0 H λw l=>?_));have H:=l.l5;refine Zp 9 [0,0,9,0] (AS (H.blk 3 Z) AJ) Z J Z (Cm Z Z Z (Aw Z (z:=3) (j:=i) (r:=i*3) J Z Z Z U ((H.rv 1 (λq=>(b _ q).1)).at (A8 a 0 _ Z)) U) (Cm Z Z Z (BF Z (k:=0) (r:=i*3) J Z ((H.rv 1 (λq=>(b _ q).1)).at (A8 a 0 _ Z)) Z) (Cm Z Z Z (AK Z Z J (AB ((H.rv 1 (λq=>(b _ q).1)).at (u:=Aa m.num) (A8 a 0 _ Z)))) (CP 2 [] [2+m.num] H Z J U (B3 (gw (k_updA 42 (v:=Aa (((2+m.num).toNat:Nat):Int)) Z (congrArg Aa U) (Ai Z (call149 _) (FE _ n _ U _ ((2+m.num).toNat) 1 false _ (Es m) _ (λh q=>q.rd) (Lk f) U U) H.f4 ?_))))))));intro w H;rw[UB _ _ (Lk f)] at H;refine Z0 13 [4] Z ?_;replace H:=(H.pick 5 [0,2,3,4] Z).l4;rw[<-Aau a] at H;refine Z1 5 [] [(i:Int)+1] Z U ?_;replace H:=H.f1.f1.f3.f3;refine gf ?_;intro _ hF;refine ⟨(i+1),hF.cz,⟨H,?_⟩,?_⟩
  ·omega
  omega
 refine Zc 2 Z (gx (Zc 3 Z ?_));obtain rfl:i=es.length:=by omega
 rw[AcW] at H;refine Z2 5 [0,1,0] H Z (Ai Z (call113 _) (HP _ _ _ _) H.f2 ?_);intro w H;refine Z0 14 [4] Z (Bh 5 J J (A0 H λw l=>?_));have H:=l.l4;refine Lz 5 [0,2,0,1,7] [] H Z J (B3 (gw (Ai Z (call150 _) (Lh _ _ _ U _ s a0) H ?_)));intro w H;refine Z4 36 [4,1,7,1,2,9,2] H Z ?_;intro w H;refine Zr Z ?_;exact ⟨_,⟨Z,Z⟩,H.pick 4 [2,0,3] Z⟩
def imP(v:Value)(es:List ImE)(hq:Hp):Prop:=rdH 3 v es.length (Bm es) hq/\∀e∈es,imeOk hq e
theorem imP.le{v:Value}{es:List ImE}{hq a:Hp}(h:imP v es hq)(s:Bz hq a):imP v es a:=⟨h.1.le s,λe b=>(h.2 e b).le s⟩
theorem imP.slc{v:Value}{es:List ImE}{hq:Hp}(h:imP v es hq):Slc v es.length:=h.1.slc
theorem imP.rdA{v:Value}{es:List ImE}{hq h:Hp}(i:imP v es hq)(q:poolA hq h):rdH 3 v es.length (Bm es) h/\∀e∈es,rdH 1 e.2 240 (e.1.body.map u8) h:=⟨i.1.le q,λe a=>(i.2 e a).2.le q⟩
theorem imP.nil(hq:Hp):imP (.slice none 0 0) [] hq:=⟨⟨none,0,Z,by simp,by omega,Z,λj u h=>by simp[Bm] at h⟩,λe a=>nomatch a⟩
theorem imP.put{v b:Value}{es:List ImE}{x:ImE}{hq a:Hp}(h:imP v es hq)(s:Bz hq a)(d:imeOk hq x)(r:rdH 3 b (putI es x).length (Bm (putI es x)) a):imP b (putI es x) a:=
 ⟨r,λe c=>by
  rcases putI_mem c with q|q
  ·subst q;exact d.le s
  exact (h.2 e q).le s⟩
theorem LZ(ps a:Nat)(x:Sup)(c:Value)(b ov:Value):Aj 90 [V ps] [blk ps [V a,Aa x.gen,Aa x.epoch,Aa x.pages,Aa x.start,Aa x.len,Aa x.head,Aa x.seq,c,b,.bool false,ov] 128] (λv G=>v=Aa 0/\G=[blk ps [V a,Aa x.gen,Aa x.epoch,Aa x.pages,Aa x.start,Aa x.len,Aa x.head,Aa x.seq,c,b,.bool true,.slice none 0 0] 128]):=by
 intro z R w H;refine Ac func90 Z ntmps90 Z (Z4 39 [10,0,0,10,0,11,0] H Z ?_);intro w H;refine Zr Z ?_;exact ⟨_,⟨Z,Z⟩,H.pick 1 [0] Z⟩
theorem FV(ps a:Nat)(x:Sup)(c:Value)(b ov:Value)(d:Bool):Aj 67 [V ps] [blk ps [V a,Aa x.gen,Aa x.epoch,Aa x.pages,Aa x.start,Aa x.len,Aa x.head,Aa x.seq,c,b,.bool d,ov] 128] (λv G=>v=.tuple #[]/\G=[blk ps [V a,Aa x.gen,Aa x.epoch,Aa x.pages,Aa x.start,Aa x.len,Aa x.head,Aa x.seq,c,b,.bool false,.slice none 0 0] 128]):=by
 intro z R w H;refine Ac func67 Z ntmps67 Z (Z4 14 [10,0,11,0] H Z ?_);intro w H;refine Zf Z ?_;exact ⟨_,⟨Z,Z⟩,H.pick 1 [0] Z⟩
theorem NR(ps a:Nat)(x:Sup)(c:Value)(b ov:Value)(n d:Nat)(F:Nat->List UInt8):Aj 59 [V ps] [blk ps [V a,Aa x.gen,Aa x.epoch,Aa x.pages,Aa x.start,Aa x.len,Aa x.head,Aa x.seq,c,b,.bool false,ov] 128,rdkA a n F d] (λv G=>v=Aa 0/\G=[blk ps [V a,Aa x.gen,Aa x.epoch,Aa x.pages,Aa x.start,Aa x.len,Aa x.head,Aa x.seq,c,b,.bool false,ov] 128,rdkA a n F d]):=by
 intro z R w H;refine Ac func59 Z ntmps59 Z (Z2 23 [10,0,0,0,0,0] H Z (Ai Z (call113 _) (HP _ _ _ _) H.f1 ?_));intro w H;refine Zc 4 Z (Zr Z ?_);exact ⟨_,⟨Z,Z⟩,H.pick 2 [1,0] Z⟩
set_option maxHeartbeats 4000000 in
theorem II (ps u:Nat) (x:Sup) (lp:Value) (pv ov:Value) (own:List ImE) (hq:Hp) (p:imP ov own hq) (b0:own.length<40) (m:Img) (hm:m.Ok) (b4:m.num<x.pages) (a6:∀e∈own,e.1.num≠m.num) (bv:Value) (B:Ah) (hB:∀h,B h->rdH 1 bv 240 (m.body.map u8) h):Aj 92 [V ps,Aa m.num,.agg #[Aa m.kind,bv]] [blk ps [V u,Aa x.gen,Aa x.epoch,Aa x.pages,Aa x.start,Aa x.len,Aa x.head,Aa x.seq,lp,pv,.bool true,ov] 128,poolA hq,B] (λv G=>∃(l a5:Value) (g:Hp),Bz hq g/\imP l (putI own (m,a5)) g/\v=Aa 0/\G=[blk ps [V u,Aa x.gen,Aa x.epoch,Aa x.pages,Aa x.start,Aa x.len,Aa x.head,Aa x.seq,lp,pv,.bool true,l] 128,poolA g,B]):=by
 intro z R w H;obtain ⟨oo,a0,rfl⟩:=p.slc;obtain ⟨bo,bc,rfl⟩:=H.sy 2 (λq=>(hB _ q).slc);have a9:=hm.1;have b3:=hm.2.1;refine Ac func92 Z ntmps92 Z (Za 2 [] H Z ?_);intro b1 w H;refine Z2 22 [10,1,0,0] H Z (Ak 17 Z (λh1=>U) (λh1=>?_));refine Z2 10 [1,3,1,0,0] H Z (Af Z (λh2=>U) (λh2=>?_));refine Z2 9 [0,0,0,0] H Z (Ak 29 Z (λh3=>U) (λh3=>?_));refine Z2 5 [0,0,0,0] H Z (Ak 34 Z (λh4=>U) (λh4=>?_));refine Z2 17 [1,0,0,4,11,1,0] H Z (Ai Z (call83 _) (EX _ own (poolA hq) (λh q=>p.rdA q) (λe y=>(p.2 e y).1) m.num a6) H.f2 ?_);intro w H;refine Za 3 [] H Z ?_;intro b2 w H;refine Z4 19 [0,11,3,0,0] H Z ?_;intro w H;refine Af Z (λh5=>U) (λh5=>?_);refine Z2 12 [1,2,0] H Z ?_;replace H:=(H.nilg 5 1).l6;refine AG Z (AO 0 H Z Z J Bg Z Z (H.rd 5 Z hB) (by intro c9 a7;obtain ⟨b9,_,rfl⟩:=Ab9.1 a7;rfl) U) ?_;rintro v3 w r;have a4:([]++m.body.map u8:List Value)=m.body.map u8:=(by rw[Aco]);rw[a4] at r;have H:=r.l6;have a2:=H.sy 0 (·.slc);refine Zc 4 Z ?_;obtain ⟨c,d,rfl⟩:=a2;replace H:=H.f2;obtain ⟨j,⟨a,a1⟩,H⟩:=BM H (λh q=>q.rd);have i:=p.le a;have t:imeOk j ((m,.slice c 240 d):ImE):=⟨hm,a1⟩;replace H:=H.f2.f3;refine AL (Sep z (blk ps [V u,Aa x.gen,Aa x.epoch,Aa x.pages,Aa x.start,Aa x.len,Aa x.head,Aa x.seq,lp,pv,.bool true,.slice oo own.length a0] 128::blk b1 [Aa m.kind,.slice bo 240 bc] 40::R)) 15 Z J (A0 H λw r=>?_);have H:=r.l5;refine A7 [0,1,2,3,4,5,6,7,8] [11,0,0,1] J (λ_ hx=>(AS (hx.blk 0 Z) (AS (hx.blk 1 Z) AJ))) (by exact H.pick 5 [0,1] Z) Z J Z Z (AQ 9 J Z Z J J J Z Z Z (AW Z Z (out:=[Aa m.kind,.slice c 240 d]) J) (H.pick 5 [0,1] Z) (AQ 10 J Z Z J J J Z Z Z (AW Z Z (out:=[Aa m.num,Aa m.kind,.slice c 240 d]) J) (H.pick 5 [0,1] Z) (An [11] J O (Ar (A6 Z Z Z Z Z Z (λw=>call153 _ w) (Gl _ own (poolA j) (λh q=>i.rdA q) (λe y=>(i.2 e y).1) U m _ _) H.f2 Z ?_)))));rintro a3 w _ ⟨_,rfl,rfl⟩ H;have f:=H.sy 0 (·.slc);refine Am (λ_=>(H.pick 6 [2,3] Z)) (A7 [12,13] [11] J (λ_ _=>AJ) (by exact H.pick 6 [2,3] Z) Z J Z Z (An [14] J O (Ar (Ca Z Z Z (PQ 2 H Z Z Z Z f.cells f.one J) ?_))));rintro w H;refine Am (λh=>absurd Z h) (AT J (gn ?_));replace H:=H.f1;obtain ⟨n,⟨b,a8⟩,H⟩:=BM H (λh q=>q.rd);have s:imP a3 (putI own ((m,.slice c 240 d):ImE)) n:=imP.put i b t a8;refine Zc 7 Z (Zr Z ?_);exact ⟨_,⟨_,_,n,λk o e=>b k o (a k o e),s,Z,Z⟩,H.pick 5 [1,0,4] Z⟩
def Cp(es:List ImE)(l:List ImE):List ImE:=l.foldl putI es
theorem Hj{es l:List ImE}{i:Nat}{e:ImE}(h:l[i]?=some e):Cp es (l.take (i+1))=putI (Cp es (l.take i)) e:=by
 unfold Cp;rw[Ack,h,Adq];rfl
set_option maxHeartbeats 1000000 in
theorem Qu (ps p y:Nat) (x:Sup) (pv ov:Value) (a q u:Int) (own d:List ImE) (hq:Hp) (hO:imP ov own hq) (hI:imP pv d hq) (n m9:Nat) (b6:m9<=900000000) (b2:n<=4096) (F:Nat->List UInt8) (a6:(0<=x.start/\x.start<=1099511627776)/\0<x.len/\x.len<=1099511627776) (b5:0<=x.epoch/\x.epoch<4294967296) (b7:0<=q/\q<1099511627776) (hn:1<=own.length/\own.length<=40) (a7:d.length<=100000) (a5:∀(j i:Nat) (e f:ImE),j<i->own[j]?=some e->own[i]?=some f->e.1.num≠f.1.num) (ha:0<=a/\a+1+own.length<=x.len) (hu:0<=u/\u+1+own.length<=x.len) (b8:x.start+x.len<=n):Aj 97 [V ps] [blk ps [V p,Aa x.gen,Aa x.epoch,Aa x.pages,Aa x.start,Aa x.len,Aa x.head,Aa x.seq,V y,pv,.bool true,ov] 128,blk y [V p,Aa x.gen,Aa x.epoch,Aa x.pages,Aa x.start,Aa x.len,Aa x.head,Aa x.seq,Aa a,Aa q,Aa u,.bool false] 249,rdkA p n F m9,poolA hq] (λv G=>∃(c:Value) (b:Hp),Bz hq b/\imP c (Cp d own) b/\v=Aa 0/\G=[blk ps [V p,Aa x.gen,Aa x.epoch,Aa x.pages,Aa x.start,Aa x.len,Aa x.head,Aa x.seq,V y,c,.bool false,.slice none 0 0] 128,blk y [V p,Aa x.gen,Aa x.epoch,Aa x.pages,Aa x.start,Aa x.len,Aa x.head,Aa x.seq,Aa ((a+((1+own.length:Nat):Int))%x.len),Aa (q+1),Aa (u+((1+own.length:Nat):Int)),.bool false] 249,rdkA p n (EE F (x.start+a).toNat (sect (Bx x.epoch q (own.map Prod.fst))++AH x.epoch q (own.map Prod.fst)) (1+own.length)) (m9+(1+own.length)),poolA b]):=by
 intro z R w H;obtain ⟨oo,b0,rfl⟩:=hO.slc;refine Ac func97 Z ntmps97 Z (Z2 30 [10,0,0,11,0,0] H Z (Ai Z (call67 _) (FV _ _ _ _ _ _ _) H ?_));intro w H;refine Z0 10 [0] Z (Af Z (λh1=>U) (λh1=>?_));refine Z2 9 [8,0,0] H Z (Ai Z (call161 _) (LX _ _ _ _ _ _ n _ U b2 _ a6 U U _ own (poolA hq) (λh q=>hO.rdA q) (λe s=>(hO.2 e s).1) U a5 U U U) H.f3.f3.f3 ?_);intro w H;refine Z0 30 [4,4] Z ?_;refine Ay (σ:=Nat×Value×Hp) (λ⟨i,c,b⟩=>[(5,Aa (i:Int)),(0,V ps),(2,Aa 0),(3,.slice oo own.length b0)])
   (λ⟨i,c,b⟩ w=>Sep z (blk y [V p,Aa x.gen,Aa x.epoch,Aa x.pages,Aa x.start,Aa x.len,Aa x.head,Aa x.seq,Aa ((a+((1+own.length:Nat):Int))%x.len),Aa (q+1),Aa (u+((1+own.length:Nat):Int)),.bool false] 249::rdkA p n (EE F (x.start+a).toNat (sect (Bx x.epoch q (own.map Prod.fst))++AH x.epoch q (own.map Prod.fst)) (1+own.length)) (m9+(1+own.length))::poolA b::blk ps [V p,Aa x.gen,Aa x.epoch,Aa x.pages,Aa x.start,Aa x.len,Aa x.head,Aa x.seq,V y,c,.bool false,.slice none 0 0] 128::R) w/\(i<=own.length/\Bz hq b/\imP c (Cp d (own.take i)) b/\(Cp d (own.take i)).length<=100000+i)) (λ⟨i,c,b⟩=>own.length-i) ⟨0,pv,hq⟩
   fr_z ⟨H,⟨Acg _,λk o e=>e,hI,by simpa [Cp] using a7⟩⟩ ?_
 clear H;rintro ⟨i,c,b⟩ w ⟨H',hI⟩;dsimp only at hI H' ⊢;have H:=H'.l4;obtain ⟨hi,a3,g,b4⟩:=hI;refine Z0 9 [0] Z (Af Z (λh2=>?_) (λh2=>?_))
 ·refine Zc 4 Z ?_;have s:=Fa (es:=own) (i:=i) U
  have a0:=hO.le a3;have a1:=a0.2 _ (Ab1 s);obtain ⟨bo,bc,a2⟩:Slc (own.getD i HQ).2 240:=by have h9:=a1.2.slc;exact h9
  obtain ⟨⟨m,bv⟩,b1⟩:∃e:ImE,own.getD i HQ=e:=⟨_,Z⟩;rw[b1] at s a1 a2;dsimp only at a2;subst a2;obtain ⟨po,b3,rfl⟩:=g.slc;replace H:=H.f2.f3;refine AL (Sep z (blk ps [V p,Aa x.gen,Aa x.epoch,Aa x.pages,Aa x.start,Aa x.len,Aa x.head,Aa x.seq,V y,.slice po ((Cp d (own.take i)).length) b3,.bool false,.slice none 0 0] 128::poolA b::R)) 13 Z J (A0 H λw H'=>?_);have H:=H'.l4;refine A7 [0,1,2,3,4,5,6] [9,0] J (λ_ hx=>(AS (hx.blk 0 Z) AJ)) (by exact H.pick 4 [0,1] Z) Z J Z Z (AQ 7 J Z Z J J J Z Z Z (Aw Z (z:=3) (j:=i) (r:=i*3) J Z Z Z U ((H.rv 1 (λq=>(a0.rdA q).1)).at (A8 s 0 _ Z)) U) (H.pick 4 [0,1] Z) (AQ 8 J Z Z J J J Z Z Z (BO Z Z (vs:=[Aa m.num,Aa m.kind,.slice bo 240 bc]) J O (λ_ hs k u hk=>(hs.rv 1 (λq=>(a0.rdA q).1)).at (A8 s k u hk))) (H.pick 4 [0,1] Z) (An [9] J O (Ar (A6 Z Z Z Z Z Z (λw=>call153 _ w) (Gl _ (Cp d (own.take i)) (poolA b) (λh q=>g.rdA q) (λe s=>(g.2 e s).1) U m _ _) H.f1 Z ?_)))));rintro a4 w _ ⟨_,rfl,rfl⟩ H;have t:=H.sy 0 (·.slc);refine Am (λ_=>(H.pick 5 [2,1] Z)) (A7 [10,11] [9] J (λ_ _=>AJ) (by exact H.pick 5 [2,1] Z) Z J Z Z (An [12] J O (Ar (Ca Z Z Z (Mw 2 H Z Z Z Z t.cells t.one J) ?_))));rintro w H;refine Am (λh=>absurd Z h) (AT J (gn ?_));replace H:=H.f1;obtain ⟨b,⟨l,a8⟩,H⟩:=BM H (λh q=>q.rd);have a9:imP a4 (putI (Cp d (own.take i)) ((m,.slice bo 240 bc):ImE)) b:=imP.put g l a1 a8;refine Z1 7 [] [(i:Int)+1] Z U ?_;replace H:=H.f1.f1.f3.f3;refine gf ?_;intro _ hF;refine ⟨⟨i+1,a4,b⟩,hF.cz,⟨H,?_⟩,?_⟩
  ·exact ⟨by show i+1<=own.length;omega,λk o e=>l k o (a3 k o e),by rw[Hj s];exact a9,by rw[Hj s];exact Ael (putI_len _ _) U⟩
  (dsimp only;omega)
 refine Zc 2 Z (gx (Zc 8 Z (Zr Z ?_)));rw[show own.take i=own from Ab4 U] at g;exact ⟨_,⟨c,b,a3,g,Z,Z⟩,H.pick 4 [3,0,1,2] Z⟩
theorem Sw(i:Nat)(z:List UInt8):BL (λ_=>z) i z=λ_=>z:=by funext k;unfold BL;split<;>rfl
set_option maxHeartbeats 1000000 in
theorem Sx (d n f a:Nat) (r:f<=900000000) (i:n<=4096) (s l:Int) (e:(By (a:Int) s l 2).Ok (n:Int)):Aj 88 [V d,Aa (a:Int),Aa s,Aa l] [rdkA d n (λ_=>(List.replicate 256 (0:UInt8))) f] (λv G=>v=Aa 0/\G=[rdkA d n (BL (BL (λ_=>(List.replicate 256 (0:UInt8))) 1 (BE (By (a:Int) s l 1))) 0 (BE (By (a:Int) s l 2))) (f+a+2)]):=by
 intro z R w H;have b:=Nl e;have a0:=Ut e;refine Ac func88 Z ntmps88 Z (Zc 10 Z (Ad Z (AW Z Z (out:=[Aa 1,Aa 1,Aa (a:Int),Aa s,Aa l,Aa 0,Aa 1]) J) (Za 0 [] H Z ?_)));intro g w H;refine Z4 4 [0] H Z ?_;intro w H;replace H:=H.f1;obtain ⟨lv,rows,hq,m,c⟩:=H.rk;clear H;have t:=m.1;have i:=m.2.1;have H:=c.l5;have j:=H.sy 1 (·.slc);obtain ⟨lo,u,rfl⟩:=j;replace H:=H.f4;refine AL (Sep z (blk g [Aa 1,Aa 1,Aa (a:Int),Aa s,Aa l,Aa 0,Aa 1] 92::blk d [.slice lo n u,Aa 0,Aa 0,Aa 0,Aa 0,Aa (-1)] 133::R)) 5 Z J (A0 H λw c=>?_);have H:=c.l5;refine AQ 0 J Z Z J J J Z Z Z (Bu Z Z (vs:=[Aa 1,Aa 1,Aa (a:Int),Aa s,Aa l,Aa 0,Aa 1]) J (λ_ y=>(y.blk 0 Z).part 0 7 _ Z)) (H.pick 5 [0,1] Z) (A7 [1] [] J (λ_ _=>AJ) (by exact H.pick 5 [0,1] Z) Z J Z Z (An [2] J O (Ar (A6 Z Z Z Z Z Z (λw=>call148 _ w) (Yr _ _ _ _ U) H.f1 Z ?_))));rintro _ w _ ⟨rfl,rfl⟩ H;refine Am (λ_=>(H.pick 5 [1,0] Z)) (An [3] J O (Ar (A6 Z Z Z Z Z Z (λw=>call147 _ w) (GA (By (a:Int) s l 1) n b U) H Z ?_)));rintro _ w _ ⟨rfl,rfl⟩ H;refine Am (λ_=>(H.pick 5 [1,0] Z)) (An [4] J O (Ar (B8 Z Z Z Z (AU Z Z) (Am (λh=>absurd Z h) (AT J (gn (Zc 3 Z ?_)))))));have c:Sep z (rdkA d n (λ_=>(List.replicate 256 (0:UInt8))) f::blk g [Aa 1,Aa 1,Aa (a:Int),Aa s,Aa l,Aa 0,Aa 1] 92::R) w:=(H.pick 5 [0,2,3,4,1] Z).toRk m;clear H;have H:=c.l2;refine Z0 15 [4] Z ?_;refine Ay (σ:=Nat) (λp=>[(11,Aa (p:Int)),(0,V d),(1,Aa (a:Int)),(9,V g),(10,Aa 0)])
   (λp w=>Sep z (rdkA d n (λ_=>(List.replicate 256 (0:UInt8))) (f+p)::blk g [Aa 1,Aa 1,Aa (a:Int),Aa s,Aa l,Aa 0,Aa 1] 92::R) w/\(p<=a)) (λp=>a-p) 0
   fr_z ⟨H,Acg _⟩ ?_
 clear H;rintro p w ⟨c,o⟩;have H:=c.l2;have hp:=o;clear o;refine Z0 8 [0] Z (Af Z (λx=>?_) (λx=>?_))
 ·refine Z1 9 [] [((2+p:Nat):Int)] Z U (AG Z (Dy (k:=256) H Z J Bg Z Z Z U) ?_);rintro _ w ⟨b2,rfl,H⟩;refine Ai Z (call149 _) (FE _ n _ U _ (2+p) 1 false _ (List.replicate 256 (0:UInt8)) _ (λh q=>by rw[Acb];exact q.rd U U O (by simp[u8])) O U U) H.f1 ?_;intro w H;rw[UB _ _ O,Sw] at H;refine Zc 4 Z ?_;replace H:=(H.pick 3 [0,2] Z).l2
  refine Z1 14 [4] [(p:Int)+1] Z U (gf ?_);intro _ hF;refine ⟨(p+1),hF.cz,⟨H,?_⟩,?_⟩
  ·omega
  omega
 refine Zc 2 Z (gx (Zc 3 Z ?_));obtain rfl:p=a:=by omega
 refine Zc 2 Z (Ai Z (call113 _) (HP _ _ _ _) H ?_);intro w H;refine Z2 17 [4,1,7] H Z (Ai Z (call150 _) (Lh _ _ _ U _ (By (p:Int) s l 1) b) H ?_);intro w H;refine Z4 23 [4,0,1,1,7] H Z ?_;intro w H;refine Ai Z (call150 _) (Lh _ _ _ U _ (By (p:Int) s l 2) e) H ?_;intro w H;refine Zc 4 Z (Zr Z ?_);exact ⟨_,⟨Z,Z⟩,H.pick 2 [0] Z⟩
theorem Ll{y:Sup}{n:Int}(h:y.Ok n)(c:y.gen<1099511627776)(b:y.epoch<1099511627776):(BN y).Ok n:=by
 have d:=h.2;have a:=Sup.get h;exact Sup.ok_mk (by show 0<=y.gen+1/\y.gen+1<=_;omega) (by show 0<=y.epoch+1/\y.epoch+1<=_;omega) (by show 16<=y.pages/\y.pages<=1024;omega) (by show 2+y.pages<=y.start/\y.start<=_;omega) (by show 64<=y.len/\y.len<=_;omega) (by show (0:Int)<=0/\(0:Int)<y.len;omega) (by show (0:Int)<=1/\(1:Int)<=_;omega) (by show y.start<=n-y.len/\y.len<=n;omega)
def F0:List Img->Img->List Img
 | [],x=>[x]
 | y::l,x=>if y.num<x.num then y::F0 l x else if y.num=x.num then x::l else x::y::l
def Dm(l xs:List Img):List Img:=xs.foldl F0 l
theorem JR(x:ImE):∀es:List ImE,(putI es x).map Prod.fst=F0 (es.map Prod.fst) x.1
 | []=>rfl
 | y::l=>by
  simp only[putI,F0,Acw];split
  ·rw[Acw,JR x l]
  split<;>rfl
theorem L0(l a b:List Img):Dm l (a++b)=Dm (Dm l a) b:=Adq ..
theorem putD_mem{x e:Img}:∀{es:List Img},e∈F0 es x->e=x\/e∈es
 | [],h=>by simp[F0] at h;exact .inl h
 | y::l,h=>by
  simp only[F0] at h;split at h
  ·rcases Acx.1 h with q|q
   ·exact .inr (by simp[q])
   rcases putD_mem q with r|r
   ·exact .inl r
   exact .inr (AdA _ r)
  split at h
  ·rcases Acx.1 h with q|q
   ·exact .inl q
   exact .inr (AdA _ q)
  rcases Acx.1 h with q|q
  ·exact .inl q
  exact .inr q
theorem putDs_mem{e:Img}:∀{xs l:List Img},e∈Dm l xs->e∈l\/e∈xs
 | [],_,h=>.inl h
 | x::xs,l,h=>by
  rcases putDs_mem (xs:=xs) (l:=F0 l x) h with q|q
  ·rcases putD_mem q with r|r
   ·exact .inr (by simp[r])
   exact .inl r
  exact .inr (AdA _ q)
theorem putDs_snoc(l a:List Img)(x:Img):Dm l (a++[x])=F0 (Dm l a) x:=by rw[L0];rfl
set_option maxHeartbeats 1000000 in
theorem JS (f n m9:Nat) (e6:m9<=900000000) (c6:n<=4096) (F:Nat->List UInt8) (x0 x1 y:Sup) (d2:F 0=BE x0) (c9:F 1=BE x1) (e1:x0.Ok (n:Int)) (d9:x1.Ok (n:Int)) (g0:x0.gen%2=0) (g1:x1.gen%2=1) (hy:(x0.gen<x1.gen/\y=x1)\/(x1.gen<=x0.gen/\y=x0)) (d3:2<=n) (hh:y.head=0) (e0:y.gen<1099511627776) (d0:y.epoch<4294967296) (rs:List Rc) (f6:rs.length<=1000) (c0:∀r∈rs,∀m∈r.ims,m.num+2<(n:Int)) (d5:y.seq+rs.length<1099511627776) (hR:∀(i:Nat) (r:Rc),rs[i]?=some r->r.seq=y.seq+(i:Int)/\(1<=r.ims.length/\r.ims.length<=40)/\(∀m∈r.ims,m.Ok)/\F (y.start+(rOff rs i:Int)).toNat=sect (Bx y.epoch r.seq r.ims)/\∀(j:Nat) (m:Img),r.ims[j]?=some m->F (y.start+(rOff rs i:Int)+1+(j:Int)).toNat=sect (Bk y.epoch r.seq m)) (c5:(rOff rs rs.length:Int)<y.len/\F (y.start+(rOff rs rs.length:Int)).toNat=List.replicate 256 0):Aj 89 [V f] [rdkA f n F m9] (λv G=>∃(ps pl:Nat) (a6:List ImE),a6.map Prod.fst=Dm [] (rs.flatMap Rc.ims)/\(∀e∈a6,e.1.Ok)/\v=.tuple #[V ps,Aa 0]/\G=[blk ps [V f,Aa ((BN y).gen),Aa ((BN y).epoch),Aa ((BN y).pages),Aa ((BN y).start),Aa ((BN y).len),Aa ((BN y).head),Aa ((BN y).seq),V pl,.slice none 0 0,.bool false,.slice none 0 0] 128,blk pl [V f,Aa ((BN y).gen),Aa ((BN y).epoch),Aa ((BN y).pages),Aa ((BN y).start),Aa ((BN y).len),Aa ((BN y).head),Aa ((BN y).seq),Aa 0,Aa 1,Aa 0,.bool false] 249,rdkA f n (BL (Ev F a6) ((BN y).gen%2).toNat (BE (BN y))) (m9+a6.length+1)]):=by
 intro z R w H;have a7:y.Ok (n:Int):=by rcases hy with ⟨_,rfl⟩|⟨_,rfl⟩<;>assumption
 have e8:=a7.2;have f7:=Sup.get a7;refine Ac func89 Z ntmps89 Z (Zc 9 Z (Ai Z (call151 _) (Ys _ _ _ F x0 x1 y d2 c9 e1 d9 g0 g1 hy d3) H ?_));intro w H;refine Za 3 [] H Z ?_;intro b1 w H;refine Z4 18 [0,4,0,7] H Z ?_;intro w H;refine AA Z (call152 _) (Vd _ n _ c6 F y a7 hh d0 rs d5 hR c5) H.f1 ?_;rintro _ w _ ⟨b5,rv,es,hq,c3,hE,rfl,rfl⟩ H;have d8:=H.sy 0 (·.slc);obtain ⟨ro,p,rfl⟩:=d8;refine Z2 26 [4,0,4,0,0] H Z (Ak 32 Z (λh1=>U) (λh1=>?_));refine Z2 6 [1,4,0,0] H Z (Af Z (λh2=>U) (λh2=>?_));refine Zc 5 Z (Ad Z (AW Z Z (out:=[V f,Aa 0,Aa 0,Aa 0,Aa 0,Aa 0,Aa 0,Aa 0,.pointer none,.slice none 0 0,.bool false,.slice none 0 0]) J) (Za 0 [] H Z ?_));intro b2 w H;refine Zc 5 Z ?_;have d4:=imP.nil hq;have e3:es.length=rs.length:=by rw[<-c3,Ab7]
 refine Zc 5 Z ?_;refine Ay (σ:=Nat×Value×List ImE×Hp) (λ⟨i,l,b,d⟩=>[(9,Aa (i:Int)),(0,V f),(2,.pointer none),(3,Aa 0),(4,V b1),(5,Aa 0),(7,.slice ro rs.length p),(8,V b2)])
   (λ⟨i,l,b,d⟩ w=>Sep z (blk b2 [V f,Aa 0,Aa 0,Aa 0,Aa 0,Aa 0,Aa 0,Aa 0,.pointer none,l,.bool false,.slice none 0 0] 128::grow 116 2 (.slice ro rs.length p) rs.length (EA es)::poolA d::blk b5 [V f,Aa y.gen,Aa y.epoch,Aa y.pages,Aa y.start,Aa y.len,Aa y.head,Aa y.seq,Aa (rOff rs rs.length:Int),Aa (y.seq+(rs.length:Int)),Aa (rOff rs rs.length:Int),.bool false] 249::rdkA f n F m9::blk b1 [Aa y.gen,Aa y.epoch,Aa y.pages,Aa y.start,Aa y.len,Aa y.head,Aa y.seq] 92::R) w/\(i<=rs.length/\Bz hq d/\imP l b d/\b.map Prod.fst=Dm [] ((rs.take i).flatMap Rc.ims)/\b.length<=40*i)) (λ⟨i,l,b,d⟩=>rs.length-i) ⟨0,.slice none 0 0,[],hq⟩
   fr_z ⟨H,⟨Acg _,λk o e=>e,d4,Z,by simp⟩⟩ ?_
 clear H;rintro ⟨i,l,b,d⟩ w ⟨H',hI⟩;dsimp only at hI H' ⊢;have H:=H'.l6;obtain ⟨hi,e2,a1,a5,e5⟩:=hI;refine Z0 9 [0] Z (Af Z (λh3=>?_) (λh3=>?_))
 ·refine Zc 5 Z ?_;obtain ⟨⟨r,f0⟩,g⟩:∃e:RcE,es[i]?=some e:=⟨_,Ab0 U⟩;have hr:rs[i]?=some r:=by rw[<-c3,Ach,g];rfl
  obtain ⟨_,f8,b8,_⟩:=hR i r hr;obtain ⟨c4,b4,t,b0⟩:=hE _ (Ab1 g);dsimp only at b4 t b0;obtain ⟨io,ic,rfl⟩:=t.slc;have e4:c4.length=r.ims.length:=by rw[<-b4,Ab7]
  refine Zc 5 Z ?_;refine Ay (σ:=Nat×Value×List ImE×Hp) (λ⟨j,x,a,c⟩=>[(10,Aa (j:Int)),(0,V f),(2,.pointer none),(3,Aa 0),(4,V b1),(5,Aa 0),(7,.slice ro rs.length p),(8,V b2),(9,Aa (i:Int)),(40,Aa (i:Int)),(41,.slice ro rs.length p),(42,Aa (rs.length:Int)),(43,.bool (decide ((i:Int)<(rs.length:Int))))])
    (λ⟨j,x,a,c⟩ w=>Sep z (blk b2 [V f,Aa 0,Aa 0,Aa 0,Aa 0,Aa 0,Aa 0,Aa 0,.pointer none,x,.bool false,.slice none 0 0] 128::grow 116 2 (.slice ro rs.length p) rs.length (EA es)::poolA c::blk b5 [V f,Aa y.gen,Aa y.epoch,Aa y.pages,Aa y.start,Aa y.len,Aa y.head,Aa y.seq,Aa (rOff rs rs.length:Int),Aa (y.seq+(rs.length:Int)),Aa (rOff rs rs.length:Int),.bool false] 249::rdkA f n F m9::blk b1 [Aa y.gen,Aa y.epoch,Aa y.pages,Aa y.start,Aa y.len,Aa y.head,Aa y.seq] 92::R) w/\(j<=r.ims.length/\Bz hq c/\imP x a c/\a.map Prod.fst=Dm (Dm [] ((rs.take i).flatMap Rc.ims)) (r.ims.take j)/\a.length<=40*i+j)) (λ⟨j,x,a,c⟩=>r.ims.length-j) ⟨0,l,b,d⟩
    fr_z ⟨H,⟨Acg _,e2,a1,by rw[a5];rfl,by omega⟩⟩ ?_
  clear H;rintro ⟨j,x,a,c⟩ w ⟨H',hI⟩;dsimp only at hI H' ⊢;have H:=H'.l6;obtain ⟨hj,a0,a2,b9,e9⟩:=hI;refine Zc 6 Z (Ad Z (Aw Z (z:=2) (j:=i) (r:=i*2) J Z Z Z U ((H.rv 1 (·.rd)).at (Eh g 0 _ Z)) U) (Ad Z (BF Z (k:=1) (r:=i*2+1) J Z ((H.rv 1 (·.rd)).at (Eh g 0 _ Z)) Z) (Ad Z (AK Z Z J (AB ((H.rv 1 (·.rd)).at (Eh g 1 _ Z)))) (Z0 4 [0] Z (Af Z (λh4=>?_) (λh4=>?_))))))
  ·refine Zc 4 Z ?_;obtain ⟨⟨m,bv⟩,a8⟩:∃e:ImE,c4[j]?=some e:=⟨_,Ab0 U⟩;have b7:r.ims[j]?=some m:=by rw[<-b4,Ach,a8];rfl
   have b6:=b8 m (Ab1 b7);have a4:=b0 _ (Ab1 a8);dsimp only at a4;rw[b6.2.2] at a4;obtain ⟨bo,bc,rfl⟩:Slc bv 240:=a4.slc;have d7:imeOk c ((m,.slice bo 240 bc):ImE):=⟨b6,a4.le a0⟩;obtain ⟨po,c7,rfl⟩:=a2.slc;replace H:=H.f1.f2.f2;refine AL (Sep z (blk b2 [V f,Aa 0,Aa 0,Aa 0,Aa 0,Aa 0,Aa 0,Aa 0,.pointer none,.slice po a.length c7,.bool false,.slice none 0 0] 128::poolA c::grow 116 2 (.slice ro rs.length p) rs.length (EA es)::R)) 17 Z J (A0 H λw H'=>?_);have H:=H'.l6;refine A7 [0,1,2,3,4,5,6] [9,0] J (λ_ hx=>(AS (hx.blk 0 Z) AJ)) (by exact H.pick 6 [0,1,2] Z) Z J Z Z (AQ 7 J Z Z J J J Z Z Z (Aw Z (z:=2) (j:=i) (r:=i*2) J Z Z Z U ((H.rv 2 (·.rd)).at (Eh g 0 _ Z)) U) (H.pick 6 [0,1,2] Z) (AQ 8 J Z Z J J J Z Z Z (BF Z (k:=1) (r:=i*2+1) J Z ((H.rv 2 (·.rd)).at (Eh g 0 _ Z)) Z) (H.pick 6 [0,1,2] Z) (AQ 9 J Z Z J J J Z Z Z (AK Z Z J (λ_ hs=>(hs.rv 2 (·.rd)).at (Eh g 1 _ Z))) (H.pick 6 [0,1,2] Z) (A7 [10] [] J (λ_ _=>AJ) (by exact H.pick 6 [0,1,2] Z) Z J Z Z (AQ 11 J Z Z J J J Z Z Z (Aw Z (z:=3) (j:=j) (r:=j*3) J Z Z Z U ((H.rv 1 (λq=>(t.le a0).le q)).at (A8 a8 0 _ Z)) U) (H.pick 6 [0,1,2] Z) (AQ 12 J Z Z J J J Z Z Z (BO Z Z (vs:=[Aa m.num,Aa m.kind,.slice bo 240 bc]) J O (λ_ hs k u hk=>(hs.rv 1 (λq=>(t.le a0).le q)).at (A8 a8 k u hk))) (H.pick 6 [0,1,2] Z) (An [13] J O (Ar (A6 Z Z Z Z Z Z (λw=>call153 _ w) (Gl _ a (poolA c) (λh q=>a2.rdA q) (λe g=>(a2.2 e g).1) U m _ _) H.f1 Z ?_)))))))));rintro c2 w _ ⟨_,rfl,rfl⟩ H;have a9:=H.sy 0 (·.slc);refine Am (λ_=>(H.pick 7 [2,1,3] Z)) (A7 [14,15] [9] J (λ_ _=>AJ) (by exact H.pick 7 [2,1,3] Z) Z J Z Z (An [16] J O (Ar (Ca Z Z Z (Mw 2 H Z Z Z Z a9.cells a9.one J) ?_))));rintro w H;refine Am (λh=>absurd Z h) (AT J (gn ?_));replace H:=H.f1;obtain ⟨c1,⟨a3,d1⟩,H⟩:=BM H (λh q=>q.rd);have d6:imP c2 (putI a ((m,.slice bo 240 bc):ImE)) c1:=imP.put a2 a3 d7 d1;refine Z1 7 [] [(j:Int)+1] Z U ?_;replace H:=H.f5.f5.f5.f3.f5.f5;refine gf ?_;intro _ hF;refine ⟨⟨j+1,c2,putI a ((m,.slice bo 240 bc):ImE),c1⟩,hF.cz,⟨H,?_⟩,?_⟩
   ·exact ⟨by show j+1<=r.ims.length;omega,λk o e=>a3 k o (a0 k o e),d6,by rw[JR,b9,Ack,b7];exact (putDs_snoc _ _ _).symm,Ael (putI_len _ _) U⟩
   (dsimp only;omega)
  refine Zc 2 Z (gx (Z1 8 [] [(i:Int)+1] Z U (gf ?_)));intro _ hF;refine ⟨⟨i+1,x,a,c⟩,hF.cz,⟨H,?_⟩,?_⟩
  ·exact ⟨by show i+1<=rs.length;omega,a0,a2,by rw[Ack,hr];simp only[Option.toList_some,List.flatMap_append,List.flatMap_singleton];rw[L0,b9,show r.ims.take j=r.ims from Ab4 U],by show a.length<=40*(i+1);omega⟩
  (dsimp only;omega)
 refine Zc 2 Z (gx (Z5 33 [0,5,0,0,5,1,5,0,1,5,5,5,6,5] [y.gen+1,y.epoch+1] H Z U ?_));intro w H;obtain rfl:i=rs.length:=by omega
 obtain ⟨s,hs⟩:∃s:Sup,s=BN y:=⟨_,Z⟩;have b3:s.Ok (n:Int):=by rw[hs];exact Ll a7 e0 U
 have e7:s.pages=y.pages:=by rw[hs];rfl
 have H':Sep z (blk b2 [V f,Aa 0,Aa 0,Aa 0,Aa 0,Aa 0,Aa 0,Aa 0,.pointer none,l,.bool false,.slice none 0 0] 128::grow 116 2 (.slice ro rs.length p) rs.length (EA es)::poolA d::blk b5 [V f,Aa y.gen,Aa y.epoch,Aa y.pages,Aa y.start,Aa y.len,Aa y.head,Aa y.seq,Aa (rOff rs rs.length:Int),Aa (y.seq+(rs.length:Int)),Aa (rOff rs rs.length:Int),.bool false] 249::rdkA f n F m9::blk b1 [Aa s.gen,Aa s.epoch,Aa s.pages,Aa s.start,Aa s.len,Aa s.head,Aa s.seq] 92::R) w:=by rw[hs];exact H
 clear H;have H:=H'.l6;have c8:∀e∈b,e.1.num+2<(n:Int):=λe g=>by have h1:e.1∈Dm [] ((rs.take rs.length).flatMap Rc.ims):=a5▸AcU g;rcases putDs_mem h1 with q|q;exact nomatch q;obtain ⟨r,hr,hm⟩:=Ad6.1 q;exact c0 r (AcO hr) e.1 hm
 obtain ⟨po,c7,rfl⟩:=a1.slc;refine Z2 3 [5,7] H Z (Ai Z (call154 _) (LY _ _ (Sup.mk 0 0 0 0 0 0 0) _ _ _ n _ U c6 F s b3 _ b (poolA d) (λh q=>a1.rdA q) (λe g=>(a1.2 e g).1) U c8) H.f2.f4.f2 ?_);intro w H;refine Z2 18 [4,5,7] H Z (AA Z (call155 _) (Pw _ n _ _ s b3) H.f1 ?_);rintro _ w _ ⟨pl,rfl,rfl⟩ H;refine Z4 13 [8,2] H Z ?_;intro w H;refine Zr Z ?_;subst hs;rw[AcW] at a5;exact ⟨_,⟨b2,pl,b,a5,λe g=>(a1.2 e g).1,Z,Z⟩,H.pick 7 [2,0,1] Z⟩
def JT(F:Nat->List UInt8)(ims:List Img):Nat->List UInt8:=ims.foldl (λF m=>BL F (2+m.num).toNat (Es m)) F
theorem NS(F:Nat->List UInt8)(es:List ImE):Ev F es=JT F (es.map Prod.fst):=by
 unfold Ev JT;rw[List.foldl_map]
theorem putQ_off{i:Nat}:∀{ims:List Img} {F:Nat->List UInt8},(∀m∈ims,(2+m.num).toNat≠i)->JT F ims i=F i
 | [],_,_=>rfl
 | m::l,F,h=>by
  show JT (BL F _ _) l i=F i;rw[putQ_off (λx hx=>h x (AdA _ hx)),upf_other _ _ (AdC (h m O))]
theorem Lm{m:Img}:∀{ims:List Img} {F:Nat->List UInt8},(∀x∈ims,0<=x.num)->(ims.map Img.num).Nodup->m∈ims->JT F ims (2+m.num).toNat=Es m
 | [],_,_,_,hm=>nomatch hm
 | x::l,F,h0,hd,hm=>by
  show JT (BL F _ _) l _=_;simp only[Acw,Adl] at hd;rcases Acx.1 hm with rfl|hm
  ·rw[putQ_off (λy hy e=>hd.1 (by have h1:=h0 y (by simp[hy]);have h2:=h0 m O;rw[show m.num=y.num by omega];exact AcU hy)),Dr]
  exact Lm (λy hy=>h0 y (by simp[hy])) hd.2 hm
theorem JU{x:Img}:∀{l:List Img},(∀y∈l,y.num<x.num)->F0 l x=l++[x]
 | [],_=>rfl
 | y::l,h=>by
  simp only[F0];rw[if_pos (h y O),JU (λz hz=>h z (by simp[hz]))];rfl
theorem HR:∀{xs l:List Img},(l++xs).Pairwise (λa b=>a.num<b.num)->Dm l xs=l++xs
 | [],l,_=>by simp[Dm]
 | x::xs,l,h=>by
  show Dm (F0 l x) xs=_;have h1:∀y∈l,y.num<x.num:=λy c=>(List.pairwise_append.1 h).2.2 y c x O;rw[JU h1,HR (by rwa[Ab5,AdN]),Ab5,AdN]

def JV(e q:Int)(ims:List Img):List (List UInt8):=sect (Bx e q ims)::ims.map λm=>sect (Bk e q m)
theorem Sy(e q:Int)(ims:List Img):sect (Bx e q ims)++AH e q ims=(JV e q ims).flatten:=by simp[JV,AH,List.flatMap]
theorem NT(e q:Int)(ims:List Img):(JV e q ims).length=1+ims.length:=by simp[JV];omega
theorem Ve{e q:Int}{ims:List Img}(b:ims.length<=40)(a:∀m∈ims,m.Ok):∀s∈JV e q ims,s.length=256:=λs hs=>by
 rcases Acx.1 hs with rfl|hs
 ·exact sect_len (hdL_le b)
 obtain ⟨m,c,rfl⟩:=Ab9.1 hs;exact sect_len (Ac8 (C7 (a m c).2.2))
theorem Aav{F:Nat->List UInt8}{a:Nat}{e q:Int}{ims:List Img}(c:ims.length<=40)(b:∀m∈ims,m.Ok):EE F a (sect (Bx e q ims)++AH e q ims) (1+ims.length)=IA F a (JV e q ims):=by
 rw[<-NT e q ims];exact XW (Sy e q ims) (Ve c b)

def Sz(C:Nat->Nat)(n:Nat)(cb:List UInt8):Nat->Img
 | 0=>⟨((0:Nat):Int),1,cb⟩
 | i+1=>⟨((i+1:Nat):Int),2,DI (Ce C n i)⟩
theorem CE(C:Nat->Nat)(n:Nat)(cb:List UInt8)(i:Nat):(Sz C n cb i).num=(i:Int):=by cases i<;>rfl
theorem Hk{C:Nat->Nat}{n:Nat}{cb:List UInt8}(a:cb.length=240){i:Nat}(b:i<=1023):(Sz C n cb i).Ok:=by
 cases i with
 | zero=>exact ⟨by show 0<=((0:Nat):Int)/\((0:Nat):Int)<=1023;omega,by show 1<=(1:Int)/\(1:Int)<=5;omega,a⟩
 | succ i=>exact ⟨by show 0<=((i+1:Nat):Int)/\((i+1:Nat):Int)<=1023;omega,by show 1<=(2:Int)/\(2:Int)<=5;omega,FC (CX _ _ _)⟩
abbrev Fq(n:Nat)(cb:List UInt8)(i:Nat):Img:=Sz (C1 (manyN n+1)) n cb i
def Cw(n:Nat)(cb:List UInt8)(k:Nat):List Img:=(List.range k).map (Fq n cb)
theorem DJ(n:Nat)(cb:List UInt8)(k:Nat):(Cw n cb k).length=k:=by simp[Cw]
theorem Yu(n:Nat)(cb:List UInt8)(k:Nat):Cw n cb (k+1)=Cw n cb k++[Fq n cb k]:=by simp[Cw,Ade]
theorem Ec{n:Nat}{cb:List UInt8}{k:Nat}{m:Img}(h:m∈Cw n cb k):∃i,i<k/\m=Fq n cb i:=by
 obtain ⟨i,a,rfl⟩:=Ab9.1 h;exact ⟨i,Ac5.1 a,Z⟩
theorem GC(n:Nat)(cb:List UInt8)(k:Nat):(Cw n cb k).Pairwise (λa b=>a.num<b.num):=by
 unfold Cw;rw[Adb];exact List.pairwise_lt_range.imp λh=>by rw[CE,CE];omega
theorem NU{l:List Img}(h:l.Pairwise (λa b=>a.num<b.num)):(l.map Img.num).Nodup:=by
 unfold List.Nodup;rw[Adb];exact h.imp λh=>by omega
theorem Aaw{l:List ImE}(h:(l.map Prod.fst).Pairwise (λa b=>a.num<b.num)):∀(j i:Nat) (e f:ImE),j<i->l[j]?=some e->l[i]?=some f->e.1.num≠f.1.num:=λj i e f c d m=>by
 rw[Adb,AdQ] at h;obtain ⟨k,g⟩:=AbZ.1 d;obtain ⟨n,o⟩:=AbZ.1 m;have:=h j i k n c;rw[g,o] at this;omega

def KG(n:Nat)(s l:Int):Nat->List UInt8:=BL (BL (λ_=>List.replicate 256 0) 1 (BE (By (n:Int) s l 1))) 0 (BE (By (n:Int) s l 2))
def Bi(n:Nat)(s l:Int):Sup:=BN (By (n:Int) s l 2)
def IJ(n:Nat)(s l:Int):Nat->List UInt8:=BL (KG n s l) 1 (BE (Bi n s l))
def DY(n:Nat)(s l:Int)(cb:List UInt8):Nat->List UInt8:=IA (IJ n s l) s.toNat (JV 2 1 (Cw n cb (manyN n+1)))
def CN(n:Nat)(cb:List UInt8):List Rc:=[⟨1,Cw n cb (manyN n+1)⟩]
theorem NV{n:Nat}{s l:Int}{d:Int}(h:(By (n:Int) s l 2).Ok d):(Bi n s l).Ok d:=Ll h (by show (2:Int)<_;omega) (by show (1:Int)<_;omega)
theorem WB(n:Nat)(s l:Int):KG n s l 0=BE (By (n:Int) s l 2):=Dr _ _ _
theorem Abi(n:Nat)(s l:Int):KG n s l 1=BE (By (n:Int) s l 1):=by unfold KG;rw[upf_other _ _ U,Dr]
theorem Ln(n:Nat)(s l:Int){i:Nat}(h:2<=i):KG n s l i=List.replicate 256 0:=by unfold KG;rw[upf_other _ _ U,upf_other _ _ U]
theorem WC(n:Nat){s:Int}(l:Int)(cb:List UInt8)(hs:2<=s):DY n s l cb 0=BE (By (n:Int) s l 2):=by
 unfold DY;rw[HM (.inl U)];unfold IJ;rw[upf_other _ _ U];exact WB n s l
theorem WD(n:Nat){s:Int}(l:Int)(cb:List UInt8)(hs:2<=s):DY n s l cb 1=BE (Bi n s l):=by
 unfold DY;rw[HM (.inl U)];unfold IJ;rw[Dr]
theorem Yv(n:Nat){s:Int}(l:Int)(cb:List UInt8)(hs:2<=s):DY n s l cb (s+((1+(manyN n+1):Nat):Int)).toNat=List.replicate 256 0:=by
 unfold DY;rw[HM (.inr (by rw[NT,DJ];omega))];unfold IJ;rw[upf_other _ _ U];exact Ln n s l U
theorem Aax(n:Nat){s:Int}(l:Int)(cb:List UInt8)(hs:2<=s):DY n s l cb s.toNat=sect (Bx 2 1 (Cw n cb (manyN n+1))):=O6 (j:=0) Z
theorem Aay(n:Nat){s:Int}(l:Int)(cb:List UInt8)(hs:2<=s){j:Nat}{m:Img}(h:(Cw n cb (manyN n+1))[j]?=some m):DY n s l cb (s.toNat+(j+1))=sect (Bk 2 1 m):=O6 (by
 show (sect _::_)[j+1]?=_;rw[Acq,Ach,h];rfl)
theorem WE{n:Nat}{s l:Int}{cb:List UInt8}(e:cb.length=240)(d:n<=1024)(hs:2<=s):∀(i:Nat) (r:Rc),(CN n cb)[i]?=some r->r.seq=(Bi n s l).seq+(i:Int)/\(1<=r.ims.length/\r.ims.length<=40)/\(∀m∈r.ims,m.Ok)/\DY n s l cb ((Bi n s l).start+(rOff (CN n cb) i:Int)).toNat=sect (Bx (Bi n s l).epoch r.seq r.ims)/\∀(j:Nat) (m:Img),r.ims[j]?=some m->DY n s l cb ((Bi n s l).start+(rOff (CN n cb) i:Int)+1+(j:Int)).toNat=sect (Bk (Bi n s l).epoch r.seq m):=λi r h=>by
 have b:i=0:=by have:=(AbZ.1 h).1;simp[CN] at this;exact this
 subst b;have c:(⟨1,Cw n cb (manyN n+1)⟩:Rc)=r:=by simpa [CN] using h
 subst c;have g:=DP d;refine ⟨Z,⟨by dsimp only;rw[DJ];omega,by dsimp only;rw[DJ];omega⟩,λm a=>?_,?_,λj m f=>?_⟩
 ·obtain ⟨i,b,rfl⟩:=Ec a;exact Hk e U
 ·show DY n s l cb (s+((0:Nat):Int)).toNat=_
  rw[show s+((0:Nat):Int)=s by omega];exact Aax n l cb hs
 show DY n s l cb (s+((0:Nat):Int)+1+(j:Int)).toNat=_;rw[show (s+((0:Nat):Int)+1+(j:Int)).toNat=s.toNat+(j+1) by omega];exact Aay n l cb hs f
theorem Px{n:Nat}{s l:Int}{cb:List UInt8}(a:n<=1024)(hs:2<=s)(b:64<=l):(rOff (CN n cb) (CN n cb).length:Int)<(Bi n s l).len/\DY n s l cb ((Bi n s l).start+(rOff (CN n cb) (CN n cb).length:Int)).toNat=List.replicate 256 0:=by
 have c:=DP a;have e:rOff (CN n cb) (CN n cb).length=1+(manyN n+1):=by simp[rOff,CN,DJ]
 rw[e];exact ⟨by show _<l;omega,Yv n l cb hs⟩
theorem Lo{n:Nat}{s l:Int}{cb:List UInt8}{a:List ImE}(h:a.map Prod.fst=Dm [] ((CN n cb).flatMap Rc.ims)){g:Nat}(d:g<=1)(x:List UInt8){i:Nat}(c:i<=manyN n):BL (Ev (DY n s l cb) a) g x (2+i)=Es (Fq n cb i):=by
 have e:(CN n cb).flatMap Rc.ims=Cw n cb (manyN n+1):=by simp[CN]
 rw[e,HR (by rw[Aco];exact GC _ _ _),Aco] at h;rw[upf_other _ _ U,NS,h];have:=Lm (F:=DY n s l cb) (m:=Fq n cb i) (λx b=>by obtain ⟨j,_,rfl⟩:=Ec b;rw[CE];omega) (NU (GC n cb (manyN n+1))) (Ab9.2 ⟨i,Ac5.2 U,Z⟩);rwa[CE,show (2+(i:Int)).toNat=2+i by omega] at this

theorem Aaz(n:Nat)(s l:Int):BL (Ev (KG n s l) []) ((BN (By (n:Int) s l 2)).gen%2).toNat (BE (BN (By (n:Int) s l 2)))=IJ n s l:=rfl
theorem Abj{n:Nat}{cb:List UInt8}{own:List ImE}{k:Nat}(h:own.map Prod.fst=Cw n cb k):∀e∈own,e.1.num≠(Fq n cb k).num:=λe a=>by
 have c:e.1∈Cw n cb k:=h▸AcU a;obtain ⟨i,d,b⟩:=Ec c;rw[b,CE,CE];omega
theorem SA{n:Nat}{cb:List UInt8}{own:List ImE}{k:Nat}(h:own.map Prod.fst=Cw n cb k)(a:Value):(putI own (Fq n cb k,a)).map Prod.fst=Cw n cb (k+1):=by
 rw[JR,h,JU,<-Yu];intro y b;obtain ⟨i,c,rfl⟩:=Ec b;rw[CE,CE];omega
theorem L2{n:Nat}{cb:List UInt8}{own:List ImE}{k:Nat}(h:own.map Prod.fst=Cw n cb k):own.length=k:=by
 rw[<-Ab7 (f:=Prod.fst),h,DJ]
theorem AaA{n:Nat}{s l:Int}{cb:List UInt8}{own:List ImE}(e:cb.length=240)(c:n<=1024)(h:own.map Prod.fst=Cw n cb (manyN n+1)):EE (IJ n s l) ((Bi n s l).start+0).toNat (sect (Bx (Bi n s l).epoch 1 (own.map Prod.fst))++AH (Bi n s l).epoch 1 (own.map Prod.fst)) (1+own.length)=DY n s l cb:=by
 have g:=DP c;have d:=L2 h;have b:own.length=(Cw n cb (manyN n+1)).length:=by rw[d,DJ]
 rw[h,show (Bi n s l).start+0=s from Ae1 _,b];rw[Aav (by rw[DJ];omega) (λm a=>by obtain ⟨i,f,rfl⟩:=Ec a;exact Hk e U)];rfl
theorem Vf{n:Nat}{s l:Int}(hs:2<=s)(a:64<=l):(rOff ([]:List Rc) ([]:List Rc).length:Int)<(By (n:Int) s l 2).len/\KG n s l ((By (n:Int) s l 2).start+(rOff ([]:List Rc) ([]:List Rc).length:Int)).toNat=List.replicate 256 0:=by
 have e:rOff ([]:List Rc) ([]:List Rc).length=0:=rfl;rw[e];exact ⟨by show ((0:Nat):Int)<l;omega,Ln n s l (by show 2<=(s+((0:Nat):Int)).toNat;omega)⟩
theorem Py{n:Nat}{cb:List UInt8}(c:n<=1024){d:Int}(f:12<=d):∀r∈CN n cb,∀m∈r.ims,m.num+2<d:=λr b m a=>by
 have e:=DP c;rw[show r=⟨1,Cw n cb (manyN n+1)⟩ from AcK.1 b] at a;obtain ⟨i,g,rfl⟩:=Ec a;rw[CE];omega
theorem Vg(C:Nat->Nat)(n j:Nat):cnL (Eb (LC C (j+1)) j (Ce C n j) 120) n=cnL (LC C (j+1+1)) n:=by
 rw[AdT j 1];exact Pp C n j
theorem CY(n:Nat)(h:16<=n/\n<=1024):Aj 94 [Aa (n:Int)] [] (λv G=>v=Aa (manyN n:Int)/\G=[]):=by
 intro z R w H;have b:manyN n=(n+119)/120:=rfl;refine Ac func94 Z ntmps94 Z (Z0 11 [0] Z (Ak 6 Z (λd=>U) (λd=>?_)));refine Z0 5 [0] Z (Af Z (λg=>U) (λg=>?_));refine Zc 9 Z ?_;refine Ay (σ:=Nat) (λi=>[(3,Aa (i:Int)),(0,Aa (n:Int)),(2,Aa 0)])
   (λi w=>Sep z (R) w/\(i<=manyN n)) (λi=>manyN n-i) 0
   fr_z ⟨H,Acg _⟩ ?_
 clear H;rintro i w ⟨c,a⟩;have H:=c.l0;have j:=a;clear a;refine Z1 9 [0] [(i:Int)*120] Z U (Af Z (λe=>?_) (λe=>?_))
 ·refine Z1 9 [] [(i:Int)+1] Z U (gf ?_);intro _ f;refine ⟨(i+1),f.cz,⟨H,?_⟩,?_⟩
  ·omega
  omega
 obtain rfl:i=manyN n:=by omega
 refine Zc 2 Z (gx (Zc 9 Z (Zr Z ?_)));exact ⟨_,⟨Z,Z⟩,H⟩
theorem Pz(n:Nat)(p:16<=n/\n<=1024):Aj 93 [Aa (n:Int)] [] (λv G=>∃f g bw:Nat,v=V f/\G=[blk f [.slice (some ⟨g,0,none⟩) n n,.slice (some ⟨bw,0,none⟩) n n] 166,Ax g (λ_=>0) n,Ax bw (λ_=>0) n]):=by
 intro z R w H;refine Ac func93 Z ntmps93 Z (Z0 11 [0] Z (Ak 5 Z (λl=>U) (λl=>?_)));refine Z0 5 [0] Z (Af Z (λo=>U) (λo=>?_));refine Zc 3 Z (AL (Sep z (R)) 7 Z J (A0 H λw i=>?_));have H:=i.l0;refine A7 [0,2] [] J (λ_ _=>AJ) (by exact H) Z J Z Z (An [1,3] J O (PM ?_ ?_))
 ·refine Co Z Z Z Z (Dy (k:=n) H Z J BQ Z Z Z U) ?_;rintro _ w ⟨a,rfl,H⟩;refine Am (λ_=>(H.pick 1 [] Z)) (An [3] J O (Ar (Co Z Z Z Z (Dy (k:=n) H Z J BQ Z Z Z U) ?_)));rintro _ w ⟨e,rfl,H⟩;refine Am (λ_=>(H.pick 2 [] Z)) (AQ 4 J Z Z J J J Z Z Z (AW Z Z (out:=[.slice (some ⟨a,0,none⟩) n n,.slice (some ⟨e,0,none⟩) n n]) J) (H.pick 2 [] Z) (An [5] J O (Ar (Co Z Z Z Z (FJ H Z Z (cs:=[.slice (some ⟨a,0,none⟩) n n,.slice (some ⟨e,0,none⟩) n n]) Z) ?_))));rintro _ w ⟨j,rfl,H⟩;refine Am (λ_=>(H.pick 3 [] Z)) (An [6] J O (Ar (B8 Z Z Z Z (AU Z Z) (Am (λh=>absurd Z h) (AT J (gn (Zc 2 Z (Zr Z ?_))))))));have d:List.replicate n (Aa 0)=cnL (λ_=>0) n:=by
    unfold cnL;rw[Ae7,Ad2];rfl
  rw[d] at H;exact ⟨_,⟨j,a,e,Z,Z⟩,H.pick 3 [0,2,1] Z⟩
 refine Co Z Z Z Z (Dy (k:=n) H Z J BQ Z Z Z U) ?_;rintro _ w ⟨b,rfl,H⟩;refine Am (λ_=>(H.pick 1 [] Z)) (An [1] J O (Ar (Co Z Z Z Z (Dy (k:=n) H Z J BQ Z Z Z U) ?_)));rintro _ w ⟨c,rfl,H⟩;refine Am (λ_=>(H.pick 2 [] Z)) (AQ 4 J Z Z J J J Z Z Z (AW Z Z (out:=[.slice (some ⟨c,0,none⟩) n n,.slice (some ⟨b,0,none⟩) n n]) J) (H.pick 2 [] Z) (An [5] J O (Ar (Co Z Z Z Z (FJ H Z Z (cs:=[.slice (some ⟨c,0,none⟩) n n,.slice (some ⟨b,0,none⟩) n n]) Z) ?_))));rintro _ w ⟨m,rfl,H⟩;refine Am (λ_=>(H.pick 3 [] Z)) (An [6] J O (Ar (B8 Z Z Z Z (AU Z Z) (Am (λh=>absurd Z h) (AT J (gn (Zc 2 Z (Zr Z ?_))))))));have d:List.replicate n (Aa 0)=cnL (λ_=>0) n:=by
   unfold cnL;rw[Ae7,Ad2];rfl
 rw[d] at H;exact ⟨_,⟨m,c,b,Z,Z⟩,H.pick 3 [0,1,2] Z⟩
theorem FF(b a bw n:Nat)(C:Nat->Nat)(p:Nat)(hp:p<n)(e:16<=n/\n<=1024):Aj 112 [V b,Aa (p:Int)] [blk b [.slice (some ⟨a,0,none⟩) n n,.slice (some ⟨bw,0,none⟩) n n] 166,Ax a C n] (λv G=>v=Aa (C p:Int)/\G=[blk b [.slice (some ⟨a,0,none⟩) n n,.slice (some ⟨bw,0,none⟩) n n] 166,Ax a C n]):=by
 intro z R w H;refine Ac func112 Z ntmps112 Z (Z0 11 [0] Z (Ak 7 Z (λc=>U) (λc=>?_)));refine Z2 10 [0,0,0,0] H Z (Af Z (λd=>U) (λd=>?_));refine Z3 10 [0,0,0,1,p,p] [] H Z U (Ad Z (A5 Z Z J (AB (H.cel 1 Z p (cnL_at _ U)))) (Zc 4 Z (Zr Z ?_)));exact ⟨_,⟨Z,Z⟩,H⟩
theorem NW(b a bw n:Nat)(C:Nat->Nat)(p:Int)(hp:p<0\/(n:Int)<=p)(e:16<=n/\n<=1024):Aj 112 [V b,Aa p] [blk b [.slice (some ⟨a,0,none⟩) n n,.slice (some ⟨bw,0,none⟩) n n] 166,Ax a C n] (λv G=>v=Aa 0/\G=[blk b [.slice (some ⟨a,0,none⟩) n n,.slice (some ⟨bw,0,none⟩) n n] 166,Ax a C n]):=by
 intro z R w H;refine Ac func112 Z ntmps112 Z (Z0 11 [0] Z (Ak 7 Z (λc=>?_) (λc=>?_)))
 ·refine Zc 17 Z (Zr Z ?_);exact ⟨_,⟨Z,Z⟩,H⟩
 refine Z2 10 [0,0,0,0] H Z (Af Z (λd=>?_) (λd=>?_))
 ·refine Zc 6 Z (Zr Z ?_);exact ⟨_,⟨Z,Z⟩,H⟩
 (exfalso;omega)
theorem I8(b a bw n:Nat)(C:Nat->Nat)(p x:Nat)(y:Int)(hp:p<n)(m:16<=n/\n<=1024)(j:(C p:Int)+y=x)(c:x<=1000)(l:C p<=1000):Aj 95 [V b,Aa (p:Int),Aa y] [blk b [.slice (some ⟨a,0,none⟩) n n,.slice (some ⟨bw,0,none⟩) n n] 166,Ax a C n] (λv G=>v=Aa 0/\G=[blk b [.slice (some ⟨a,0,none⟩) n n,.slice (some ⟨bw,0,none⟩) n n] 166,Ax a (updN C p x) n]):=by
 intro z R w H;refine Ac func95 Z ntmps95 Z (Z0 11 [0] Z (Ak 9 Z (λi=>U) (λi=>?_)));refine Z2 10 [0,0,0,0] H Z (Af Z (λk=>U) (λk=>?_));refine Z0 8 [0] Z (Ak 20 Z (λe=>U) (λe=>?_));refine Z0 4 [0] Z (Ak 24 Z (λg=>U) (λg=>?_));refine Z3 6 [0,0,0,1,p,p] [] H Z U (Ad Z (A5 Z Z J (AB (H.cel 1 Z p (cnL_at _ U)))) (Z1 5 [0] [(C p:Int)+y] Z U (Ak 36 Z (λh=>U) (λh=>?_))));refine Z3 6 [0,0,0,1,p,p] [] H Z U (Ad Z (A5 Z Z J (AB (H.cel 1 Z p (cnL_at _ U)))) (Z1 6 [0] [(C p:Int)+y] Z U (Af Z (λf=>U) (λf=>?_))));refine Zc 3 Z (Bh 15 J J (A0 H λw d=>?_));have H:=d.l2;refine CP 11 [0,0,0,0,0,0,1,p,p] [] H Z J U (Cm Z Z Z (A5 Z Z J (AB (H.cel 1 Z p (cnL_at _ U)))) (CP 3 [1,p,p] [(C p:Int)+y] H Z J U (B3 (gw (Ba Z Z (AF 1 H Z Z Z Z (vs:=[Aa ((C p:Int)+y)]) Z (Ap Z AR) J (by simp only[B6,Ab3,Aca];omega) (out:=cnL (updN C p x) n) (En _ U j)) ?_)))));rintro w H;refine Zc 8 Z (Zr Z ?_);exact ⟨_,⟨Z,Z⟩,H⟩
theorem Yw{C:Nat->Nat}{n i k:Nat}(h:k<120):(Ce C n i)[k]?=some (if 120*i+k<n then (C (120*i+k):Int) else 0):=by simp[Ce,h]
theorem Vh(b a bw n:Nat)(C:Nat->Nat)(p:Nat)(c:16<=n/\n<=1024):Aj 112 [V b,Aa (p:Int)] [blk b [.slice (some ⟨a,0,none⟩) n n,.slice (some ⟨bw,0,none⟩) n n] 166,Ax a C n] (λv G=>v=Aa (if p<n then (C p:Int) else 0)/\G=[blk b [.slice (some ⟨a,0,none⟩) n n,.slice (some ⟨bw,0,none⟩) n n] 166,Ax a C n]):=by
 by_cases h:p<n
 ·rw[if_pos h];exact FF b a bw n C p h c
 rw[if_neg h];exact NW b a bw n C (p:Int) (.inr U) c
theorem I9(C:Nat->Nat){n i j:Nat}{ns:List Int}(h:j=120\/n<=120*i+j):cnL (Eb C i ns j) n=cnL (Eb C i ns 120) n:=by
 rcases h with rfl|h
 ·rfl
 unfold cnL;refine AdG λp hp=>?_;have hp:=Ac5.1 hp;unfold Eb;by_cases h1:p/120=i
 ·by_cases h2:p%120<j
  ·rw[if_pos ⟨h1,h2⟩,if_pos ⟨h1,by omega⟩]
  exfalso;omega
 rw[if_neg (λq=>h1 q.1),if_neg (λq=>h1 q.1)]
def IK(C W:Nat->Nat)(i:Nat):Nat->Nat:=λp=>if p<i then C p else W p
theorem WF(C W:Nat->Nat):IK C W 0=W:=by funext p;simp[IK]
theorem WG(C W:Nat->Nat)(i:Nat):updN (IK C W i) i (C i)=IK C W (i+1):=by
 funext p;unfold updN IK;by_cases e:p=i
 ·subst e;simp
 rw[if_neg e];by_cases h:p<i
 ·rw[if_pos h,if_pos U]
 rw[if_neg h,if_neg U]
theorem WH(C W:Nat->Nat)(n:Nat):cnL (IK C W n) n=cnL C n:=by
 unfold cnL;refine AdG λp hp=>?_;unfold IK;rw[if_pos (Ac5.1 hp)]
theorem Vi(c a bw n:Nat)(C:Nat->Nat)(i:Nat)(o:i<manyN n)(s:16<=n/\n<=1024):Aj 160 [V c,Aa (i:Int)] [blk c [.slice (some ⟨a,0,none⟩) n n,.slice (some ⟨bw,0,none⟩) n n] 166,Ax a C n] (λv G=>∃e:Value,v=e/\G=[grow 3 1 e (Ce C n i).length ((Ce C n i).map Aa),blk c [.slice (some ⟨a,0,none⟩) n n,.slice (some ⟨bw,0,none⟩) n n] 166,Ax a C n]):=by
 intro z R w H;have m:120*i<n:=by unfold manyN at o;omega
 refine Ac func160 Z ntmps160 Z (Zc 12 Z ?_);replace H:=(H.nilg 3 1).l3;refine Z1 7 [] [((120*i:Nat):Int)] Z U ?_;refine Ay (σ:=Nat×Value) (λ⟨k,u⟩=>[(6,Aa ((120*i+k:Nat):Int)),(5,u),(0,V c),(1,Aa (i:Int)),(4,.slice none 0 0)])
   (λ⟨k,u⟩ w=>Sep z (grow 3 1 u k (((Ce C n i).take k).map Aa)::blk c [.slice (some ⟨a,0,none⟩) n n,.slice (some ⟨bw,0,none⟩) n n] 166::Ax a C n::R) w/\(k<=120)) (λ⟨k,u⟩=>120-k) ⟨0,.slice none 0 0⟩
   (λ_ f=>(f.co Z (by go_num) f.cz)) ⟨(by simpa using H),Acg _⟩ ?_
 clear H;rintro ⟨k,u⟩ w ⟨b,h⟩;dsimp only at h b ⊢;have H:=b.l3;have q:=H.sy 0 (·.slc);have r:=h;clear h;refine Z1 10 [0] [(i:Int)+1,((i:Int)+1)*120] Z U (Af Z (λp=>?_) (λp=>?_))
 ·refine Zc 8 Z (Ai Z (call112 _) (Vh _ _ _ _ _ (120*i+k) U) H.f2.f2 ?_);intro w H;refine AG Z (AM H Z J BQ Z (by decide) (by decide) (out:=[Aa (if (120*i+k)<n then (C (120*i+k):Int) else 0)]) J) ?_;rintro _ w ⟨l,rfl,H⟩;refine AG Z (AO 3 H Z Z J BQ Z Z (H.rv 0 (·.rd U U O Z)) (by simp[Value.oneCell']) U) ?_;rintro e w b;have b:Sep z (blk l [Aa (if (120*i+k)<n then (C (120*i+k):Int) else 0)] 3::blk c [.slice (some ⟨a,0,none⟩) n n,.slice (some ⟨bw,0,none⟩) n n] 166::Ax a C n::grow 3 1 e (k+1) (((Ce C n i).take k).map Aa++[Aa (if (120*i+k)<n then (C (120*i+k):Int) else 0)])::R) w:=b
  have g:(((Ce C n i).take k).map Aa++[Aa (if (120*i+k)<n then (C (120*i+k):Int) else 0)]:List Value)=((Ce C n i).take (k+1)).map Aa:=(by rw[Ack,Yw U];simp);rw[g] at b;have H:=b.l4;have j:=H.sy 3 (·.slc);refine Z1 9 [] [((120*i+(k+1):Nat):Int)] Z U ?_;replace H:=H.d.f1.f1.f2;refine gf ?_;intro _ f;refine ⟨⟨k+1,e⟩,(f.all Z),⟨H,?_⟩,?_⟩
  ·show k+1<=120;omega
  (dsimp only;omega)
 refine Zc 2 Z (gx (Zc 3 Z ?_));obtain rfl:k=120:=by omega
 rw[show (Ce C n i).take 120=Ce C n i from Ab4 (Ac8 (CX _ _ _)),show (120:Nat)=(Ce C n i).length from (CX _ _ _).symm] at H;refine Zc 6 Z (Zr Z ?_);exact ⟨_,⟨_,Z,Z⟩,H.pick 3 [0,1,2] Z⟩
theorem NX(b a bw n:Nat)(C:Nat->Nat)(i:Nat)(f:i<manyN n)(p:16<=n/\n<=1024)(g:∀k,C k<=1000):Aj 96 [V b,Aa (i:Int)] [blk b [.slice (some ⟨a,0,none⟩) n n,.slice (some ⟨bw,0,none⟩) n n] 166,Ax a C n] (λv G=>∃c:Value,v=c/\G=[grow 5 1 c (DI (Ce C n i)).length ((DI (Ce C n i)).map u8),blk b [.slice (some ⟨a,0,none⟩) n n,.slice (some ⟨bw,0,none⟩) n n] 166,Ax a C n]):=by
 intro z R w H;have e:120*i<n:=by unfold manyN at f;omega
 refine Ac func96 Z ntmps96 Z (Z0 11 [0] Z (Ak 9 Z (λj=>U) (λj=>?_)));refine Z2 6 [0,0,0] H Z (Ai Z (call94 _) (CY _ U) H ?_);intro w H;refine Z0 4 [0] Z (Af Z (λm=>U) (λm=>?_));refine Zc 6 Z (AA Z (call160 _) (Vi _ _ _ _ _ i U U) H ?_);rintro l w _ ⟨_,rfl,rfl⟩ H;refine AA Z (call159 _) (IG (Ce C n i) _ _ (λh q=>q.rd) (CX _ _ _) (KE g _ _)) H ?_;rintro _ w _ ⟨o,rfl,rfl⟩ H;have d:=H.sy 0 (·.slc);refine Zc 14 Z (Zr Z ?_);exact ⟨_,⟨_,Z,Z⟩,H.pick 4 [0,2,3] Z⟩
set_option maxHeartbeats 1000000 in
theorem Vj (m f bw n:Nat) (C:Nat->Nat) (W:Nat->Nat) (i:Nat) (hi:i<manyN n) (hn:16<=n/\n<=1024) (v:Value) (bs:List UInt8) (A:Ah) (hA:∀h,A h->rdH 1 v bs.length (bs.map u8) h) (ns:List Int) (s:ns.length=120) (c:∀x∈ns,0<=x/\x<=1000) (y:bs=DI ns) (hz:∀(k:Nat) (x:Int),ns[k]?=some x->n<=120*i+k->x=0):Aj 163 [V m,Aa (i:Int),v] [blk m [.slice (some ⟨f,0,none⟩) n n,.slice (some ⟨bw,0,none⟩) n n] 166,Ax f C n,Ax bw W n,A] (λv G=>v=Aa 0/\G=[blk m [.slice (some ⟨f,0,none⟩) n n,.slice (some ⟨bw,0,none⟩) n n] 166,Ax f (Eb C i ns 120) n,Ax bw (Eb W i ns 120) n,A]):=by
 intro z R w H;have a2:120*i<n:=by unfold manyN at hi;omega
 obtain ⟨ao,oc,rfl⟩:=H.sy 3 (λq=>(hA _ q).slc);have a1:=H.sy 3 (λq=>(hA _ q).small);refine Ac func163 Z ntmps163 Z (Z0 11 [0] Z (Ak 13 Z (λh1=>U) (λh1=>?_)));refine Z2 6 [0,0,0] H Z (Ai Z (call94 _) (CY _ U) H ?_);intro w H;refine Z0 4 [0] Z (Af Z (λh2=>U) (λh2=>?_));refine Zc 5 Z (AA Z (call195 _) (NM _ bs A hA ns s c y) H.f3 ?_);rintro _ w _ ⟨v1,rfl,rfl⟩ H;have a0:=H.sy 0 (·.slc);obtain ⟨d,e,rfl⟩:=a0;refine Z0 19 [0] Z (Af Z (λh3=>U) (λh3=>?_));refine Zc 9 Z ?_;refine Ay (σ:=Nat) (λj=>[(9,Aa (j:Int)),(0,V m),(1,Aa (i:Int)),(7,.slice d ns.length e)])
   (λj w=>Sep z (grow 3 1 (.slice d ns.length e) ns.length (ns.map Aa)::A::blk m [.slice (some ⟨f,0,none⟩) n n,.slice (some ⟨bw,0,none⟩) n n] 166::Ax f C n::Ax bw W n::R) w/\(j<=120)) (λj=>120-j) 0
   fr_z ⟨H,Acg _⟩ ?_
 clear H;rintro j w ⟨l,p⟩;have H:=l.l5;have hj:=p;clear p;refine Z0 7 [0] Z (Af Z (λh4=>?_) (λh4=>?_))
 ·refine Zc 5 Z ?_;obtain ⟨x,b⟩:∃x,ns[j]?=some x:=⟨_,Ab0 U⟩;have g:=c x (Ab1 b)
  refine Zc 3 Z (Ad Z (Aw Z (z:=1) (j:=j) (r:=j) J Z Z Z U ((H.rv 0 (·.rd)).at (j:=j) (u:=Aa x) (by simp[b])) U) (Ad Z (AK Z Z J (AB ((H.rv 0 (·.rd)).at (j:=j) (u:=Aa x) (by simp[b])))) (Z0 2 [0] Z (Ak 44 Z (λh5=>U) (λh5=>?_)))));refine Zc 2 Z (Ad Z (Aw Z (z:=1) (j:=j) (r:=j) J Z Z Z U ((H.rv 0 (·.rd)).at (j:=j) (u:=Aa x) (by simp[b])) U) (Ad Z (AK Z Z J (AB ((H.rv 0 (·.rd)).at (j:=j) (u:=Aa x) (by simp[b])))) (Z0 3 [0] Z (Ak 51 Z (λh6=>U) (λh6=>?_)))));refine Zc 2 Z (Ad Z (Aw Z (z:=1) (j:=j) (r:=j) J Z Z Z U ((H.rv 0 (·.rd)).at (j:=j) (u:=Aa x) (by simp[b])) U) (Ad Z (AK Z Z J (AB ((H.rv 0 (·.rd)).at (j:=j) (u:=Aa x) (by simp[b])))) (Z0 2 [0] Z (Ak 57 Z (λh7=>?_) (λh7=>?_)))))
  ·refine Z3 14 [0,2,0,0] [(i:Int)*120,((i:Int)*120)+(j:Int)] H Z U (Af Z (λh8=>?_) (λh8=>?_))
   ·(exfalso;have:=hz j x b;omega)
   refine Z1 8 [] [(j:Int)+1] Z U (gf ?_);intro _ o;refine ⟨(j+1),o.cz,⟨H,?_⟩,?_⟩
   ·omega
   omega
  refine Z1 23 [] [(j:Int)+1] Z U (gf ?_);intro _ o;refine ⟨(j+1),o.cz,⟨H,?_⟩,?_⟩
  ·omega
  omega
 have a:j=120\/n<=120*i+j:=.inl U;refine Zc 2 Z (gx (Zc 9 Z ?_));refine Ay (σ:=Nat) (λj=>[(10,Aa (j:Int)),(0,V m),(1,Aa (i:Int)),(7,.slice d ns.length e)])
   (λj w=>Sep z (grow 3 1 (.slice d ns.length e) ns.length (ns.map Aa)::A::blk m [.slice (some ⟨f,0,none⟩) n n,.slice (some ⟨bw,0,none⟩) n n] 166::Ax f (Eb C i ns j) n::Ax bw (Eb W i ns j) n::R) w/\(j<=120)) (λj=>120-j) 0
   fr_z ⟨(by rw[JL,JL];exact H),Acg _⟩ ?_
 clear H;rintro j w ⟨l,p⟩;have H:=l.l5;have hj:=p;clear p;refine Z0 6 [0] Z (Ak 72 Z (λh9=>?_) (λh9=>?_))
 ·refine Z3 13 [0,2,0,0] [(i:Int)*120,((i:Int)*120)+(j:Int)] H Z U (Af Z (λt=>?_) (λt=>?_))
  ·refine Zc 5 Z ?_;obtain ⟨x,b⟩:∃x,ns[j]?=some x:=⟨_,Ab0 U⟩;have g:=c x (Ab1 b)
   refine Bh 13 J J (A0 H λw l=>?_);have H:=l.l5;refine CP 10 [0,2,0] [(i:Int)*120,((i:Int)*120)+(j:Int)] H Z J U (Cm Z Z Z (Aw Z (z:=1) (j:=j) (r:=j) J Z Z Z U ((H.rv 0 (·.rd)).at (j:=j) (u:=Aa x) (by simp[b])) U) (Cm Z Z Z (AK Z Z J (AB ((H.rv 0 (·.rd)).at (j:=j) (u:=Aa x) (by simp[b])))) (CP 1 [1,(120*i+j),120*i+j] [] H Z J U (B3 (gw (Ba Z Z (AF 3 H Z Z Z Z (vs:=[Aa x]) Z (Ap Z AR) J (by simp only[B6,Ab3,Aca];omega) (out:=cnL (Eb C i ns (j+1)) n) ((En (x:=x.toNat) _ U U).trans (by rw[JM C U b g.1]))) ?_))))));rintro w H;refine Zc 2 Z (Bh 13 J J (A0 H λw l=>?_));have H:=l.l5;refine CP 10 [1,2,0] [(i:Int)*120,((i:Int)*120)+(j:Int)] H Z J U (Cm Z Z Z (Aw Z (z:=1) (j:=j) (r:=j) J Z Z Z U ((H.rv 0 (·.rd)).at (j:=j) (u:=Aa x) (by simp[b])) U) (Cm Z Z Z (AK Z Z J (AB ((H.rv 0 (·.rd)).at (j:=j) (u:=Aa x) (by simp[b])))) (CP 1 [1,(120*i+j),120*i+j] [] H Z J U (B3 (gw (Ba Z Z (AF 4 H Z Z Z Z (vs:=[Aa x]) Z (Ap Z AR) J (by simp only[B6,Ab3,Aca];omega) (out:=cnL (Eb W i ns (j+1)) n) ((En (x:=x.toNat) _ U U).trans (by rw[JM W U b g.1]))) ?_))))));rintro w H;refine Z1 8 [] [(j:Int)+1] Z U (gf ?_);intro _ o;refine ⟨(j+1),o.cz,⟨H,?_⟩,?_⟩
   ·omega
   omega
  have a:j=120\/n<=120*i+j:=.inr U;refine Zc 2 Z (gx (Zc 8 Z (Zr Z ?_)));dsimp only[Ax] at H;rw[I9 C a,I9 W a] at H;exact ⟨_,⟨Z,Z⟩,H.pick 5 [2,3,4,1] Z⟩
 have a:j=120\/n<=120*i+j:=.inl U;refine Zc 16 Z (gx (Zc 8 Z (Zr Z ?_)));dsimp only[Ax] at H;rw[I9 C a,I9 W a] at H;exact ⟨_,⟨Z,Z⟩,H.pick 5 [2,3,4,1] Z⟩
theorem Qw(b a bw n:Nat)(C:Nat->Nat)(W:Nat->Nat)(h:16<=n/\n<=1024):Aj 123 [V b] [blk b [.slice (some ⟨a,0,none⟩) n n,.slice (some ⟨bw,0,none⟩) n n] 166,Ax a C n,Ax bw W n] (λv G=>v=.tuple #[]/\G=[blk b [.slice (some ⟨a,0,none⟩) n n,.slice (some ⟨bw,0,none⟩) n n] 166,Ax a C n,Ax bw C n]):=by
 intro z R w H;refine Ac func123 Z ntmps123 Z (Zc 6 Z ?_);refine Ay (σ:=Nat) (λi=>[(2,Aa (i:Int)),(0,V b)])
   (λi w=>Sep z (blk b [.slice (some ⟨a,0,none⟩) n n,.slice (some ⟨bw,0,none⟩) n n] 166::Ax a C n::Ax bw (IK C W i) n::R) w/\(i<=n)) (λi=>n-i) 0
   fr_z ⟨(by rw[WF];exact H),Acg _⟩ ?_
 clear H;rintro i w ⟨c,d⟩;have H:=c.l3;have g:=d;clear d;refine Z2 12 [0,0,0,0] H Z (Af Z (λe=>?_) (λe=>?_))
 ·refine Zc 4 Z (Bh 13 J J (A0 H λw c=>?_))
  have H:=c.l3;refine CP 11 [1,0,0,0,0,0,1,i,i] [] H Z J U (Cm Z Z Z (A5 Z Z J (AB (H.cel 1 Z i (cnL_at _ U)))) (CP 1 [1,i,i] [] H Z J U (B3 (gw (Ba Z Z (AF 2 H Z Z Z Z (vs:=[Aa (C i:Int)]) Z (Ap Z AR) J (by simp only[B6,Ab3,Aca];omega) (out:=cnL (IK C W (i+1)) n) ((En (x:=C i) _ U Z).trans (by rw[WG]))) ?_)))));rintro w H;refine Z1 8 [] [(i:Int)+1] Z U (gf ?_);intro _ f;refine ⟨(i+1),f.cz,⟨H,?_⟩,?_⟩
  ·omega
  omega
 obtain rfl:n=i:=by omega
 refine Zc 2 Z (gx (Zc 1 Z (Zf Z ?_)));dsimp only[Ax] at H;rw[WH] at H;exact ⟨_,⟨Z,Z⟩,H.pick 3 [0,1,2] Z⟩
set_option maxHeartbeats 1000000 in
theorem Vk (ps c:Nat) (x:Sup) (s j ov:Value) (r:Bool) (own a:List ImE) (hq:Hp) (f:imP ov own hq) (o:imP j a hq) (n t:Nat) (F:Nat->List UInt8) (m:Img) (i:m.Ok) (a2:m.num<x.pages) (u:x.pages+2<=n) (k:∀e∈own,e.1.num≠m.num) (l:∀e∈a,e.1.num≠m.num) (hF:F (2+m.num).toNat=Es m):Aj 32 [V ps,Aa m.num] [blk ps [V c,Aa x.gen,Aa x.epoch,Aa x.pages,Aa x.start,Aa x.len,Aa x.head,Aa x.seq,s,j,.bool r,ov] 128,rdkA c n F t,poolA hq] (λv G=>∃p:Value,v=.tuple #[.agg #[Aa m.kind,p],Aa 0]/\G=[grow 5 1 p 240 (m.body.map u8),blk ps [V c,Aa x.gen,Aa x.epoch,Aa x.pages,Aa x.start,Aa x.len,Aa x.head,Aa x.seq,s,j,.bool r,ov] 128,rdkA c n F t,poolA hq]):=by
 intro z R w H;replace H:=H.l3;obtain ⟨oo,a0,rfl⟩:=f.slc;obtain ⟨po,a1,rfl⟩:=o.slc;have y:=i.1;refine Ac func32 Z ntmps32 Z (Za 2 [] H Z ?_);intro b1 w H;refine Z0 9 [0] Z (Ak 13 Z (λh1=>?_) (λh1=>?_))
 ·(exfalso;omega)
 refine Z2 10 [1,3,1,0,0] H Z (Af Z (λh2=>?_) (λh2=>?_))
 ·(exfalso;omega)
 refine Z2 9 [11,1,0] H Z (Ai Z (call83 _) (EX _ own (poolA hq) (λh q=>f.rdA q) (λe g=>(f.2 e g).1) m.num k) H.f3 ?_);intro w H;refine Za 3 [] H Z ?_;intro b2 w H;refine Z4 20 [0,9,3,0] H Z ?_;intro w H;refine Ai Z (call83 _) (EX _ a (poolA hq) (λh q=>o.rdA q) (λe g=>(o.2 e g).1) m.num l) H.f1 ?_;intro w H;refine Z5 24 [1,0,3,0] [2+m.num] H Z U ?_;intro w H;refine k_updA 51 (v:=Aa (((2+m.num).toNat:Nat):Int)) Z (congrArg Aa U) (AA Z (call84 _) (Hi _ _ _ _ ((2+m.num).toNat) U) H.f4 ?_);rintro _ w _ ⟨u9,rfl,rfl⟩ H;replace H:=H.l6;rw[hF] at H;refine Z0 21 [4] Z (AA Z (call85 _) (Qr _ (Es m) _ (λh q=>by rw[Lk i];exact q.rd) m i Z) H ?_);rintro _ w _ ⟨d,rfl,rfl⟩ H;replace H:=H.l7;have b:=H.says 0 Z (λh q=>q.slc);refine Zc 3 Z (Ba Z Z (AF 4 H Z Z Z Z (vs:=[Aa m.kind,d]) Z (Ap Z (Ap b.one AR)) J O (out:=[Aa m.kind,d]) Z) ?_);rintro w H;replace H:=H.l7;refine Z2 16 [4,2] H Z (Ba Z Z (AF 5 H Z Z Z Z (vs:=[Aa m.kind,d]) Z (Ap Z (Ap b.one AR)) J O (out:=[Aa m.kind,d]) Z) ?_);rintro w H;replace H:=H.l7;refine Zc 4 Z (Zl [5,2] H Z ?_);exact ⟨_,⟨_,Z,Z⟩,H.pick 7 [0,6,2,3] Z⟩
def F4(C:Nat->Nat)(n:Nat):List Value:=(List.range n).map λp=>.bool (decide (0<(C p:Int)))
theorem Abk(C:Nat->Nat)(i:Nat):F4 C (i+1)=F4 C i++[.bool (decide (0<(C i:Int)))]:=by simp[F4,Ade]
theorem HS(pq ps g b c bw n:Nat)(x:Sup)(l k ov:Value)(j:Bool)(C W:Nat->Nat)(q:Value)(hn:16<=n/\n<=1024)(m:x.pages=n):Aj 69 [V pq] [blk pq [V ps,V b,q] 76,blk b [.slice (some ⟨c,0,none⟩) n n,.slice (some ⟨bw,0,none⟩) n n] 166,Ax c C n,Ax bw W n,blk ps [V g,Aa x.gen,Aa x.epoch,Aa x.pages,Aa x.start,Aa x.len,Aa x.head,Aa x.seq,l,k,.bool j,ov] 128] (λv G=>∃e:Value,v=.tuple #[]/\G=[blk pq [V ps,V b,e] 76,grow 4 1 e n (F4 C n),blk b [.slice (some ⟨c,0,none⟩) n n,.slice (some ⟨bw,0,none⟩) n n] 166,Ax c C n,Ax bw C n,blk ps [V g,Aa x.gen,Aa x.epoch,Aa x.pages,Aa x.start,Aa x.len,Aa x.head,Aa x.seq,l,k,.bool j,ov] 128]):=by
 intro z R w H;refine Ac func69 Z ntmps69 Z (Z2 6 [1,0,0] H Z (Ai Z (call123 _) (Qw _ _ _ _ _ _ U) H.f3.f3.f3 ?_));intro w H;refine Z4 11 [2,3] H Z ?_;intro w H;replace H:=(H.nilg 4 1).l6;refine Zc 5 Z ?_;refine Ay (σ:=Nat×Value) (λ⟨i,u⟩=>[(2,Aa (i:Int)),(0,V pq)])
   (λ⟨i,u⟩ w=>Sep z (grow 4 1 u i (F4 C i)::blk b [.slice (some ⟨c,0,none⟩) n n,.slice (some ⟨bw,0,none⟩) n n] 166::Ax c C n::Ax bw C n::blk pq [V ps,V b,u] 76::blk ps [V g,Aa x.gen,Aa x.epoch,Aa x.pages,Aa x.start,Aa x.len,Aa x.head,Aa x.seq,l,k,.bool j,ov] 128::R) w/\(i<=n)) (λ⟨i,u⟩=>n-i) ⟨0,.slice none 0 0⟩
   fr_z ⟨(by simpa [F4] using H),Acg _⟩ ?_
 clear H;rintro ⟨i,u⟩ w ⟨a,p⟩;dsimp only at p a ⊢;have H:=a.l6;have su:=H.sy 0 (·.slc);have hi:=p;clear p;refine Z2 12 [0,4,0,1,3,5,0] H Z (k_updA 19 (v:=Aa (n:Int)) Z (congrArg Aa m) (Z0 3 [0] Z (Af Z (λt=>?_) (λt=>?_))))
 ·refine Zc 4 Z ?_;replace H:=H.f4;refine AL (Sep z (blk pq [V ps,V b,u] 76::R)) 17 Z J (A0 H λw a=>?_)
  have H:=a.l6;refine A7 [0,1,2,3,4,5,6,7,8,9] [2,0,1,0] J (λ_ y=>(AS (y.blk 0 Z) AJ)) (by exact H.pick 6 [0] Z) Z J Z Z (An [10] J O (Ar (A6 Z Z Z Z Z Z (λw=>call112 _ w) (FF _ _ _ _ _ i U U) H.f3.f3 Z ?_)));rintro _ w _ ⟨rfl,rfl⟩ H;refine Am (λ_=>(H.pick 6 [2] Z)) (A7 [11] [] J (λ_ _=>AJ) (by exact H.pick 6 [2] Z) Z J Z Z (An [12] J O (Ar (Co Z Z Z Z (AM H Z J OU Z (by decide) (by decide) (out:=[.bool (decide ((0:Int)<(C i:Int)))]) J) ?_))));rintro _ w ⟨s,rfl,H⟩;refine Am (λ_=>(H.pick 7 [3] Z)) (An [13] J O (Ar (Co Z Z Z Z (AO 4 H Z Z J OU Z Z (H.rv 0 (·.rd U U O Z)) (by simp[Value.oneCell']) U) ?_)));rintro e w a;have a:Sep z (blk s [.bool (decide ((0:Int)<(C i:Int)))] 4::blk b [.slice (some ⟨c,0,none⟩) n n,.slice (some ⟨bw,0,none⟩) n n] 166::Ax c C n::blk pq [V ps,V b,u] 76::grow 4 1 e (i+1) (F4 C i++[.bool (decide ((0:Int)<(C i:Int)))])::Ax bw C n::blk ps [V g,Aa x.gen,Aa x.epoch,Aa x.pages,Aa x.start,Aa x.len,Aa x.head,Aa x.seq,l,k,.bool j,ov] 128::R) w:=a;have o:(F4 C i++[.bool (decide ((0:Int)<(C i:Int)))]:List Value)=F4 C (i+1):=(Abk C i).symm;rw[o] at a;have H:=a.l7;have f:=H.sy 4 (·.slc);refine Am (λ_=>(H.pick 7 [3] Z)) (A7 [14,15] [2] J (λ_ _=>AJ) (by exact H.pick 7 [3] Z) Z J Z Z (An [16] J O (Ar (Ca Z Z Z (KN 3 H Z Z Z Z f.cells f.one J) ?_))));rintro w H;refine Am (λh=>absurd Z h) (AT J (gn (Z1 7 [] [(i:Int)+1] Z U ?_)));replace H:=H.d.f5.f3.f5.f4.f4.f5;refine gf ?_;intro _ r;refine ⟨⟨i+1,e⟩,r.cz,⟨H,?_⟩,?_⟩
  ·show i+1<=n;omega
  (dsimp only;omega)
 obtain rfl:n=i:=by omega
 refine Zc 2 Z (gx (Zc 1 Z (Zf Z ?_)));exact ⟨_,⟨_,Z,Z⟩,H.pick 6 [4,0,1,2,3,5] Z⟩
theorem L3(ps b:Nat)(x:Sup)(f c ov:Value)(h:Bool)(own a:List ImE)(hq:Hp)(o:imP ov own hq)(r:imP c a hq)(n k:Nat)(F:Nat->List UInt8)(m:Img)(q:m.Ok)(j:m.num<x.pages)(d:x.pages+2<=n)(g:∀e∈own,e.1.num≠m.num)(i:∀e∈a,e.1.num≠m.num)(s:F (2+m.num).toNat=Es m)(p:Int)(hp:m.num=p):Aj 32 [V ps,Aa p] [blk ps [V b,Aa x.gen,Aa x.epoch,Aa x.pages,Aa x.start,Aa x.len,Aa x.head,Aa x.seq,f,c,.bool h,ov] 128,rdkA b n F k,poolA hq] (λv G=>∃l:Value,v=.tuple #[.agg #[Aa m.kind,l],Aa 0]/\G=[grow 5 1 l 240 (m.body.map u8),blk ps [V b,Aa x.gen,Aa x.epoch,Aa x.pages,Aa x.start,Aa x.len,Aa x.head,Aa x.seq,f,c,.bool h,ov] 128,rdkA b n F k,poolA hq]):=by
 subst hp;exact Vk ps b x f c ov h own a hq o r n k F m q j d g i s
set_option maxHeartbeats 2000000 in
theorem NY (ps a dn u n:Nat) (x:Sup) (t:Value) (F:Nat->List UInt8) (C:Nat->Nat) (hn:16<=n/\n<=1024) (g:x.pages=n) (a3:n+2<=dn) (cb:List UInt8) (a2:cb.length=240) (f:∀i,i<=manyN n->F (2+i)=Es (Sz C n cb i)) (hC:∀k,C k<=1000) (m:∀p,p<=manyN n->C p=1):Aj 98 [V ps] [blk ps [V a,Aa x.gen,Aa x.epoch,Aa x.pages,Aa x.start,Aa x.len,Aa x.head,Aa x.seq,t,.slice none 0 0,.bool false,.slice none 0 0] 128,rdkA a dn F u] (λv G=>∃(pq b c bw:Nat) (tv:Value),v=.tuple #[V pq,Aa 0]/\G=[blk pq [V ps,V b,tv] 76,grow 4 1 tv n (F4 C n),blk b [.slice (some ⟨c,0,none⟩) n n,.slice (some ⟨bw,0,none⟩) n n] 166,Ax c C n,Ax bw C n,blk ps [V a,Aa x.gen,Aa x.epoch,Aa x.pages,Aa x.start,Aa x.len,Aa x.head,Aa x.seq,t,.slice none 0 0,.bool false,.slice none 0 0] 128,rdkA a dn F u]):=by
 intro z R w H;have a5:=HO hn.1;have a4:=DP hn.2;replace H:=(EK H).l3;have l:=imP.nil (λ_=>none);refine Ac func98 Z ntmps98 Z (Z2 14 [1,3,1,0] H Z (k_updA 16 (v:=Aa (n:Int)) Z (congrArg Aa g) (AA Z (call93 _) (Pz n U) H ?_)));rintro _ w _ ⟨b,c,bw,rfl,rfl⟩ H;refine Za 1 [] H Z ?_;intro o w H;refine Z2 10 [1,3,5,0] H Z (k_updA 24 (v:=Aa (n:Int)) Z (congrArg Aa g) (Ai Z (call94 _) (CY _ U) H ?_));intro w H;refine Zc 15 Z ?_;refine Ay (σ:=Nat) (λi=>[(7,Aa (i:Int)),(6,.bool false),(0,V ps),(4,V o),(5,Aa (manyN n:Int))])
   (λi w=>Sep z (blk o [V ps,V b,.slice none 0 0] 76::blk b [.slice (some ⟨c,0,none⟩) n n,.slice (some ⟨bw,0,none⟩) n n] 166::Ax c (LC C i) n::Ax bw (LC C i) n::poolA (λ_=>none)::blk ps [V a,Aa x.gen,Aa x.epoch,Aa x.pages,Aa x.start,Aa x.len,Aa x.head,Aa x.seq,t,.slice none 0 0,.bool false,.slice none 0 0] 128::rdkA a dn F u::R) w/\(i<=manyN n+1)) (λi=>manyN n+1-i) 0
   fr_z ⟨(by rw[Po];exact H),Acg _⟩ ?_
 clear H;rintro i w ⟨r,s⟩;have H:=r.l7;have a0:=s;clear s;refine Z0 8 [0] Z (Af Z (λh1=>?_) (λh1=>?_))
 ·refine Zc 8 Z (AA Z (call32 _) (L3 _ _ _ _ _ _ _ [] [] _ l l _ _ F (Sz C n cb i) (Hk a2 U) (by rw[CE];omega) U (λe y=>nomatch y) (λe y=>nomatch y) (by rw[CE,show (2+((i:Nat):Int)).toNat=2+i by omega];exact f _ U) _ (CE _ _ _ _)) H.f4.f6.f6 ?_);rintro _ w _ ⟨bv,rfl,rfl⟩ H;have a1:=H.sy 0 (·.slc)
  obtain ⟨bo,bc,rfl⟩:=a1;refine Za 3 [] H Z ?_;intro b2 w H;refine Z4 21 [0,4,0] H Z ?_;intro w H;refine Af Z (λh2=>?_) (λh2=>?_)
  ·obtain rfl:i=0:=by omega
   refine Z2 6 [0,0,0] H Z (k_updA 45 (v:=Aa 1) Z Z (Z1 14 [4] [(0:Int)+1] Z U ?_));replace H:=H.f1.d.d.f1.f1.f2.f6.f6.f6.f6;refine gf ?_;intro _ f;refine ⟨(0+1),f.cz,⟨(by rw[Si];exact H),?_⟩,?_⟩
   ·omega
   omega
  obtain ⟨j,rfl⟩:∃j,i=j+1:=⟨i-1,by omega⟩;refine Z2 7 [0,0,0] H Z (k_updA 49 (v:=Aa 2) Z Z (Z0 7 [4] Z (Bh 8 J J (A0 H λw r=>?_))));have H:=r.l9;refine CP 8 [1,5,0,1,0,0] [(j:Int)] H Z J U (B3 (gw (Ai Z (call163 _) (Vj _ _ _ _ _ _ j U U _ (DI (Ce C n j)) _ (λh q=>by rw[FC (CX C n j)];exact q.rd) (Ce C n j) (CX _ _ _) (KE hC _ _) Z Sl) H.f1.f8.f8.f8 ?_)));intro w H;dsimp only[Ax] at H;rw[Vg] at H;refine Z1 18 [4] [((j+1):Int)+1] Z U ?_;replace H:=H.f4.d.f3.d.f4.f4.f5.f5.f5.f5.f6;refine gf ?_;intro _ f;refine ⟨(j+1+1),f.cz,⟨H,?_⟩,?_⟩
  ·omega
  omega
 obtain rfl:i=manyN n+1:=by omega
 refine Zc 2 Z (gx (Zc 4 Z ?_));dsimp only[Ax] at H;rw[Sk] at H;refine Zc 5 Z ?_;refine Ay (σ:=Nat) (λi=>[(10,Aa (i:Int)),(6,.bool false),(4,V o),(5,Aa (manyN n:Int))])
   (λi w=>Sep z (blk o [V ps,V b,.slice none 0 0] 76::blk b [.slice (some ⟨c,0,none⟩) n n,.slice (some ⟨bw,0,none⟩) n n] 166::Ax c C n::Ax bw C n::poolA (λ_=>none)::blk ps [V a,Aa x.gen,Aa x.epoch,Aa x.pages,Aa x.start,Aa x.len,Aa x.head,Aa x.seq,t,.slice none 0 0,.bool false,.slice none 0 0] 128::rdkA a dn F u::R) w/\(i<=manyN n+1)) (λi=>manyN n+1-i) 0
   fr_z ⟨H,Acg _⟩ ?_
 clear H;rintro i w ⟨r,s⟩;have H:=r.l7;have a0:=s;clear s;refine Z0 8 [0] Z (Af Z (λh3=>?_) (λh3=>?_))
 ·refine Z2 12 [1,0,0] H Z (Ai Z (call112 _) (FF _ _ _ _ _ i U U) H.f2.f2 ?_);intro w H;refine k_updA 77 (v:=Aa 1) Z (congrArg Aa (by rw[m i U];rfl)) (Z1 11 [4] [(i:Int)+1] Z U ?_);replace H:=H.f6.f6.f6.f6.f5.f5.f6;refine gf ?_;intro _ f;refine ⟨(i+1),f.cz,⟨H,?_⟩,?_⟩
  ·omega
  omega
 obtain rfl:i=manyN n+1:=by omega
 refine Zc 2 Z (gx (Zc 14 Z (AA Z (call69 _) (HS _ _ _ _ _ _ n _ _ _ _ _ _ _ _ U g) H.f5.f4.f4.f4.f4 ?_)));rintro _ w _ ⟨tv,rfl,rfl⟩ H;refine Zc 10 Z (Zr Z ?_);exact ⟨_,⟨o,b,c,bw,_,Z,Z⟩,H.pick 8 [0,1,2,3,4,5,7] Z⟩
set_option maxHeartbeats 4000000 in
theorem KH (a dn o n:Nat) (c1:o<=800000000) (g:dn<=4096) (s l:Int) (hn:16<=n/\n<=1024) (b:(By (n:Int) s l 2).Ok (dn:Int)):Aj 36 [V a,Aa (n:Int),Aa s,Aa l] [rdkA a dn (λ_=>(List.replicate 256 (0:UInt8))) o] (λv G=>∃(cb:List UInt8) (m2:Nat),cb.length=240/\m2<=o+2000/\v=Aa 0/\G=[rdkA a dn (DY n s l cb) m2]):=by
 intro z R w H;have d2:=Ut b;have b7:64<=l:=b.2.2.2.2.1;have d3:=HO hn.1;have c2:=DP hn.2;have a6:(0<=(Bi n s l).start/\(Bi n s l).start<=1099511627776)/\0<(Bi n s l).len/\(Bi n s l).len<=1099511627776:=by show (0<=s/\s<=1099511627776)/\0<l/\l<=1099511627776;omega
 have a7:0<=(Bi n s l).epoch/\(Bi n s l).epoch<4294967296:=by show (0:Int)<=1+1/\(1:Int)+1<4294967296;omega
 refine Ac func36 Z ntmps36 Z (Zc 11 Z (Ai Z (call88 _) (Sx _ dn _ n U g _ _ b) H ?_));intro w H;refine Z0 16 [4] Z (AA Z (call89 _) (JS _ dn _ U g (KG n s l) (By (n:Int) s l 2) (By (n:Int) s l 1) (By (n:Int) s l 2) (WB n s l) (Abi n s l) b (Nl b) Z Z (.inr ⟨by show (1:Int)<=2;omega,Z⟩) U Z (by show (2:Int)<1099511627776;omega) (by show (1:Int)<4294967296;omega) [] O (λr h=>nomatch h) (by show (1:Int)+((0:Nat):Int)<1099511627776;omega) (λi r h=>by simp at h) (Vf U U)) H ?_);rintro _ w _ ⟨ps,j,b5,a1,b8,rfl,rfl⟩ H;obtain rfl:b5=[]:=List.map_eq_nil_iff.1 a1;rw[Aaz] at H;have m:Sep z (blk ps [V a,Aa ((Bi n s l).gen),Aa ((Bi n s l).epoch),Aa ((Bi n s l).pages),Aa ((Bi n s l).start),Aa ((Bi n s l).len),Aa ((Bi n s l).head),Aa ((Bi n s l).seq),V j,.slice none 0 0,.bool false,.slice none 0 0] 128::blk j [V a,Aa ((Bi n s l).gen),Aa ((Bi n s l).epoch),Aa ((Bi n s l).pages),Aa ((Bi n s l).start),Aa ((Bi n s l).len),Aa ((Bi n s l).head),Aa ((Bi n s l).seq),Aa 0,Aa 1,Aa 0,.bool false] 249::rdkA a dn (IJ n s l) (o+n+2+([]:List ImE).length+1)::R) w:=H;clear H;have H:=m.l3;replace H:=(EK H).l4;have b3:=imP.nil (λ_=>none);refine Z0 20 [4] Z (Ai Z (call90 _) (LZ _ _ (Bi n s l) _ _ _) H.f1 ?_);intro w H;refine Zc 4 Z (AG Z (Pn (k:=8) (out:=GN) H Z J Fl Z Z U J) ?_);rintro _ w ⟨b1,rfl,H⟩;refine Zc 1 Z (AA Z (call91 _) (Sp _ _ (λh q=>q.rd U U (by simp[GN]) (by simp[GN]))) H ?_);rintro _ w _ ⟨u1,cb,f,rfl,rfl⟩ H;rw[f] at H;have a5:=H.sy 0 (·.slc);obtain ⟨c9,d1,rfl⟩:=a5;refine Zc 12 Z (AA Z (call92 _) (II _ _ (Bi n s l) _ _ _ [] _ b3 O (Fq n cb 0) (Hk f U) (by rw[CE];show ((0:Nat):Int)<(n:Int);omega) (λe he=>nomatch he) _ _ (λh q=>q.rd)) H.f3.f3 ?_);rintro _ w _ ⟨p,a0,a2,c5,u,rfl,rfl⟩ H;refine Zc 5 Z ?_;have a4:=SA (n:=n) (cb:=cb) (k:=0) (own:=[]) Z a0;generalize putI [] (Fq n cb 0,a0)=own0 at u a4;refine Z0 9 [4] Z ?_;replace H:=(H.pick 6 [0,1,3,4,5] Z).l5;refine Zc 2 Z (AA Z (call93 _) (Pz n U) H ?_);rintro _ w _ ⟨pc,bn,bw,rfl,rfl⟩ H;refine Zc 10 Z ?_;refine Ay (σ:=Nat) (λi=>[(14,Aa (i:Int)),(1,Aa (n:Int)),(8,Aa 0),(9,Aa 0),(10,V ps),(13,V pc)])
   (λi w=>Sep z (blk pc [.slice (some ⟨bn,0,none⟩) n n,.slice (some ⟨bw,0,none⟩) n n] 166::Ax bn (C1 i) n::Ax bw (λ_=>0) n::blk ps [V a,Aa ((Bi n s l).gen),Aa ((Bi n s l).epoch),Aa ((Bi n s l).pages),Aa ((Bi n s l).start),Aa ((Bi n s l).len),Aa ((Bi n s l).head),Aa ((Bi n s l).seq),V j,.slice none 0 0,.bool true,p] 128::poolA a2::blk b1 GN 207::blk j [V a,Aa ((Bi n s l).gen),Aa ((Bi n s l).epoch),Aa ((Bi n s l).pages),Aa ((Bi n s l).start),Aa ((Bi n s l).len),Aa ((Bi n s l).head),Aa ((Bi n s l).seq),Aa 0,Aa 1,Aa 0,.bool false] 249::rdkA a dn (IJ n s l) (o+n+2+([]:List ImE).length+1)::R) w/\(i<=manyN n+1)) (λi=>manyN n+1-i) 0
   fr_z ⟨(by rw[Lf];exact H),Acg _⟩ ?_
 clear H;rintro i w ⟨m,y⟩;have H:=m.l8;have a8:=y;clear y;have t:C1 i i=0:=by simp[C1]
 refine Zc 5 Z (Ai Z (call94 _) (CY _ U) H ?_);intro w H;refine Z0 3 [0] Z (Af Z (λh1=>?_) (λh1=>?_))
 ·refine Zc 7 Z (Ai Z (call95 _) (I8 _ _ _ _ (C1 i) i 1 1 U U (by rw[t];rfl) U (by rw[t];omega)) H ?_);intro w H;refine Z1 8 [] [(i:Int)+1] Z U (gf ?_);intro _ hF;refine ⟨(i+1),hF.cz,⟨(by rw[<-Le];exact H),?_⟩,?_⟩
  ·omega
  omega
 obtain rfl:i=manyN n+1:=by omega
 refine Zc 2 Z (gx (Zc 9 Z ?_));refine Ay (σ:=Nat×Value×List ImE×Hp) (λ⟨i,ov,own,hq⟩=>[(15,Aa (i:Int)),(1,Aa (n:Int)),(9,Aa 0),(10,V ps),(13,V pc)])
   (λ⟨i,ov,own,hq⟩ w=>Sep z (blk pc [.slice (some ⟨bn,0,none⟩) n n,.slice (some ⟨bw,0,none⟩) n n] 166::Ax bn (C1 (manyN n+1)) n::Ax bw (λ_=>0) n::blk ps [V a,Aa ((Bi n s l).gen),Aa ((Bi n s l).epoch),Aa ((Bi n s l).pages),Aa ((Bi n s l).start),Aa ((Bi n s l).len),Aa ((Bi n s l).head),Aa ((Bi n s l).seq),V j,.slice none 0 0,.bool true,ov] 128::poolA hq::blk b1 GN 207::blk j [V a,Aa ((Bi n s l).gen),Aa ((Bi n s l).epoch),Aa ((Bi n s l).pages),Aa ((Bi n s l).start),Aa ((Bi n s l).len),Aa ((Bi n s l).head),Aa ((Bi n s l).seq),Aa 0,Aa 1,Aa 0,.bool false] 249::rdkA a dn (IJ n s l) (o+n+2+([]:List ImE).length+1)::R) w/\(i<=manyN n/\imP ov own hq/\own.map Prod.fst=Cw n cb (i+1))) (λ⟨i,ov,own,hq⟩=>manyN n-i) ⟨0,p,own0,a2⟩
   fr_z ⟨H,⟨Acg _,u,a4⟩⟩ ?_
 clear H;rintro ⟨i,ov,own,hq⟩ w ⟨m,y⟩;dsimp only at y m ⊢;have H:=m.l8;obtain ⟨a8,x,c⟩:=y;have c0:=L2 c;refine Zc 5 Z (Ai Z (call94 _) (CY _ U) H ?_);intro w H;refine Z0 3 [0] Z (Af Z (λh2=>?_) (λh2=>?_))
 ·refine Z1 11 [] [((i+1:Nat):Int)] Z U (AA Z (call96 _) (NX _ _ _ _ _ i U U (Ga _)) H ?_);rintro u2 w _ ⟨_,rfl,rfl⟩ H;rw[show (DI (Ce (C1 (manyN n+1)) n i)).length=240 from FC (CX _ _ _)] at H;have a9:=H.sy 0 (·.slc)
  obtain ⟨c8,c4,rfl⟩:=a9;refine Zc 1 Z (AA Z (call92 _) (II _ _ (Bi n s l) _ _ _ own _ x U (Fq n cb (i+1)) (Hk f U) (by rw[CE];show ((i+1:Nat):Int)<(n:Int);omega) (Abj c) _ _ (λh q=>q.rd)) H.f5.f5 ?_);rintro _ w _ ⟨b4,a3,b6,b9,b2,rfl,rfl⟩ H;refine Zc 4 Z ?_;have b0:=SA c a3;refine Z1 14 [4] [(i:Int)+1] Z U ?_;replace H:=H.f2.d.f7.f7.f7.f4.f4.f7.f7.f7;refine gf ?_;intro _ hF;refine ⟨⟨i+1,b4,putI own (Fq n cb (i+1),a3),b6⟩,hF.cz,⟨H,?_⟩,?_⟩
  ·exact ⟨by show i+1<=manyN n;omega,b2,b0⟩
  (dsimp only;omega)
 obtain rfl:i=manyN n:=by omega
 refine Zc 2 Z (gx (Zc 5 Z (AA Z (call97 _) (Qu _ _ _ (Bi n s l) _ _ 0 1 0 own [] _ x (imP.nil _) dn _ (by rw[Aca];omega) g (IJ n s l) a6 a7 U U O (Aaw (by rw[c];exact GC _ _ _)) (by show 0<=(0:Int)/\0+1+(own.length:Int)<=l;omega) (by show 0<=(0:Int)/\0+1+(own.length:Int)<=l;omega) (by show s+l<=(dn:Int);omega)) H.f4.f7.f7.f6 ?_)));rintro _ w _ ⟨c6,c3,d0,c7,rfl,rfl⟩ H;rw[AaA f hn.2 c] at H;refine Z0 16 [4] Z (Ai Z (call59 _) (NR _ _ (Bi n s l) _ _ _ dn _ _) H.f2.f1 ?_);intro w H;refine Zc 4 Z (Zr Z ?_);exact ⟨_,⟨cb,_,f,by rw[Aca];omega,Z,Z⟩,H.pick 8 [1] Z⟩
def pkI(c:Int)(N:Nat):Nat:=((if c<0 then -(c+1) else c).tmod N).toNat
theorem SB(c:Int){N:Nat}(h:0<N):pkI c N<N:=by
 unfold pkI;have a:(0:Int)<=if c<0 then -(c+1) else c:=by split<;>omega
 have d:=AeL (if c<0 then -(c+1) else c) (by omega:(0:Int)<(N:Int));have b:=Ae8 (N:Int) a;omega
def F5(kd fl:Int):Pg:=⟨kd,List.replicate 240 (Ft fl)⟩
theorem NZ{a:Int}(b:Int)(h:1<=a/\a<=5):(F5 a b).Ok:=⟨h,by simp[F5]⟩
theorem CI(a b:Int):(F5 a b).body.length=240:=by simp[F5]
theorem SC(i:Nat)(x y:UInt8)(a:i<240):((List.replicate i x++List.replicate (240-i) y).map u8).take i++[u8 x]++((List.replicate i x++List.replicate (240-i) y).map u8).drop (i+1)=(List.replicate (i+1) x++List.replicate (240-(i+1)) y).map u8:=by
 rw[Acp,Acc O,Ab4 O,AcL,Acr O,Aco];simp only[AdL,Acb,AdW];rw[show 240-i-(i+1-i)=240-(i+1) from by omega,Acp,AdL,AdL,List.replicate_succ',Ab5]
theorem Lp(c:Int)(N:Nat)(f: -9223372036854775808<=c/\c<=9223372036854775807)(hN:0<N/\N<=1099511627776):Aj 8 [Aa c,Aa (N:Int)] [] (λv G=>v=Aa (pkI c N:Int)/\G=[]):=by
 intro z R w H;refine Ac func8 Z ntmps8 Z (Z0 12 [0] Z (Af Z (λe=>?_) (λe=>?_)))
 ·refine Z1 3 [] [c+1] Z U (Ad Z (OG Z Z (r:= -(c+1)) U U) (Zc 7 Z (Ad Z (Mb Z Z Z U) ?_)))
  have a:=Ae8 (N:Int) (show 0<= -(c+1) by omega);refine Zc 4 Z (Zr Z ?_);have b:(-(c+1)).tmod (N:Int)=(pkI c N:Int):=by unfold pkI;rw[if_pos U];omega
  exact ⟨_,⟨congrArg Aa b,Z⟩,H⟩
 refine Zc 6 Z (Ad Z (Mb Z Z Z U) ?_);have a:=Ae8 (N:Int) (show 0<=c by omega);refine Zc 4 Z (Zr Z ?_);have b:c.tmod (N:Int)=(pkI c N:Int):=by unfold pkI;rw[if_neg U];omega
 exact ⟨_,⟨congrArg Aa b,Z⟩,H⟩
theorem Eo(j h c a g:Int)(d:Value)(q:d.oneCell'=true):Aj 13 [.agg #[Aa j,Aa h,Aa c,Aa a,Aa g,d]] [] (λv G=>∃b,v=.agg #[Aa c,.slice (some ⟨b,0,none⟩) 240 240]/\G=[blk b ((F5 c a).body.map u8) 5]):=by
 intro z R w H;refine Ac func13 Z ntmps13 Z (Za 2 [] H Z ?_);intro f w H;refine Za 0 [] H Z ?_;intro l w H;refine Zc 4 Z (AG Z (Dy (k:=240) H Z J Bg Z Z Z U) ?_);rintro _ w ⟨e,rfl,H⟩;refine Zc 10 Z ?_;refine Ay (σ:=Nat) (λi=>[(4,Aa (i:Int)),(1,V f),(2,V l),(3,.slice (some ⟨e,0,none⟩) 240 240)])
   (λi w=>Sep z (blk e ((List.replicate i (Ft a)++List.replicate (240-i) (0:UInt8)).map u8) 5::blk l [Aa 0,.slice none 0 0] 40::blk f [Aa j,Aa h,Aa c,Aa a,Aa g,d] 43::R) w/\(i<=240)) (λi=>240-i) 0
   fr_z ⟨(by simpa [u8] using H),by omega⟩ ?_
 clear H;rintro i w ⟨n,m⟩;have H:=n.l3;have r:=m;clear m;refine Z0 9 [0] Z (Af Z (λo=>?_) (λo=>?_))
 ·refine Z2 9 [3,2,0] H Z (Ad Z (Md Z J Z) (Z1 1 [1,i,i] [] Z U (Ba Z Z (AF 0 H Z Z Z Z (vs:=[u8 (Ft a)]) Z (by simp[u8,u32,Value.oneCell']) J (by simp;omega) (out:=((List.replicate (i+1) (Ft a)++List.replicate (240-(i+1)) (0:UInt8)).map u8)) (SC i _ _ U)) ?_)));rintro w H;refine Z1 8 [] [(i:Int)+1] Z U (gf ?_);intro _ p;refine ⟨(i+1),p.cz,⟨H,?_⟩,?_⟩
  ·omega
  omega
 obtain rfl:i=240:=by omega
 refine Zc 2 Z (gx (Z4 12 [2,2,0,1] H Z ?_));intro w H;refine Zl [1,2] H Z ?_;rw[show (List.replicate 240 (Ft a)++List.replicate (240-240) (0:UInt8)).map u8=(F5 c a).body.map u8 from by simp[F5]] at H;exact ⟨_,⟨e,Z,Z⟩,H.pick 3 [0] Z⟩
theorem L4{n:Nat}{bs:List UInt8}(a:bs.length=256){M:Nat->Pg}(b:M=Cd (λ_=>Db) (some (gF n (bs.take 240) (manyN n),1+manyN n))):M 0=⟨1,bs.take 240⟩/\∀i,i<manyN n->M (1+i)=CC (C1 (manyN n+1)) n i:=by
 subst b;refine ⟨Z,λi c=>?_⟩;simp only[Cd,gF];rw[if_neg U,if_pos U,show 1+i-1=i by omega];rfl
theorem Fs{n:Nat}(h:16<=n/\n<=298):(By (n:Int) 300 90 2).Ok ((400:Nat):Int):=
 Sup.ok_mk (by show 0<=(2:Int)/\(2:Int)<=1099511627776;omega) (by show 0<=(1:Int)/\(1:Int)<=1099511627776;omega) (by show 16<=(n:Int)/\(n:Int)<=1024;omega) (by show 2+(n:Int)<=300/\(300:Int)<=1099511627776;omega) (by show 64<=(90:Int)/\(90:Int)<=1099511627776;omega) (by show 0<=(0:Int)/\(0:Int)<90;omega) (by show 0<=(1:Int)/\(1:Int)<=1099511627776;omega) (by show (300:Int)<=((400:Nat):Int)-90/\(90:Int)<=((400:Nat):Int);omega)
set_option maxHeartbeats 2000000 in
theorem Yx (pb pd s n:Nat) (c:16<=n/\n<=298) (Tb:Ah) (hT:Fp Tb) (q:Dsk) (a:StG) (bs:List UInt8) (a1:bs.length=256) (hO:OInv q a.x a.B (λb=>b=a.rs)) (a0:Clean q) (y:a.x.gen<=((5:Nat):Int)/\a.x.epoch<=((5:Nat):Int)) (j:a.x.pages=n) (hM:a.M=Cd (λ_=>Db) (some (gF n (bs.take 240) (manyN n),1+manyN n))) (cb:List UInt8) (l:cb.length=240) (m2:Nat) (a5:m2<=4000):Aj 37 [V pb] [blk pb [V pd,V s,.pointer none,.pointer none] 32,diskA pd q,Tb,rdkA s 400 (DY n 300 90 cb) m2] (λv G=>∃(pp pq:Nat) (M0:Nat->Pg),v=.bool true/\G=[blk pb [V pd,V s,V pp,V pq] 32,poA (Tb,pd) pp 6 n M0 (C1 (manyN n+1)) none]):=by
 intro z R w H;have d:16<=n/\n<=1024:=⟨c.1,by omega⟩;refine Ac func37 Z ntmps37 Z (Z4 27 [2,0,3,0,0,0,0] H Z ?_);intro w H;refine AA Z (call30 _) (Nn _ _ _ _ _ _ hO a0 y U) H.f1 ?_;rintro _ w _ ⟨ps,D3,b,g,o,a3,rfl,rfl⟩ H;have u:pgMap (ov b) a.B=a.M:=by rw[g];rfl
 obtain ⟨r,f⟩:=L4 (n:=n) a1 (u.trans hM);refine Z2 13 [1,1,0] H Z (AA Z (call89 _) (JS _ 400 _ U U (DY n 300 90 cb) (By (n:Int) 300 90 2) (Bi n 300 90) (Bi n 300 90) (WC n 90 cb U) (WD n 90 cb U) (Fs c) (NV (Fs c)) Z Z (.inl ⟨by show (2:Int)<2+1;omega,Z⟩) U Z (by show (2:Int)+1<1099511627776;omega) (by show (1:Int)+1<4294967296;omega) (CN n cb) (by simp[CN]) (Py d.2 U) (by show (1:Int)+((1:Nat):Int)<1099511627776;omega) (WE l d.2 U) (Px d.2 U U)) H.f3 ?_);rintro _ w _ ⟨pt,pl,a4,h,a2,rfl,rfl⟩ H;refine Z0 18 [4] Z (Ad Z (Q4 Z J Z Z) (PL 41 Z Z (Zc 19 Z (AA Z (call31 _) (Pr _ _ _ _ 6 n (C1 (manyN n+1)) o d j (bs.take 240) r f (λk=>Ga _ k) (λp hp=>by unfold C1;rw[if_pos U])) H.f3 ?_))));rintro _ w _ ⟨pp,pc,bn,m,pa,rfl,rfl⟩ H;refine Zc 10 Z (AA Z (call98 _) (NY _ _ 400 _ n (BN (Bi n 300 90)) _ _ (C1 (manyN n+1)) d Z U cb l (λi hi=>Lo h (by show (((2:Int)+1+1)%2).toNat<=1;decide) _ hi) (Ga _) (λp hp=>by unfold C1;rw[if_pos U])) H.f8.f7 ?_);rintro _ w _ ⟨pq,qc,qn,qw,tv,rfl,rfl⟩ H;refine Z4 35 [2,14,3,14,3] H Z ?_;intro w H;refine Ad Z (Q3 Z J Z Z) (Zi 71 Z Z (Zc 5 Z (Zr Z ?_)));have H8:=(H.pick 16 [8,7,9,10,11,12,15,14] Z).toPo (X:=⟨ps,pd,pc,bn,m,pa,D3,(Nm a.x (pgMap (ov b) a.B)),CG,[],0,Bw,Tb⟩) (Tb:=(Tb,pd)) (mb:=6) (n:=n) (M0:=pgMap (ov b) a.B) (C0:=C1 (manyN n+1)) (t:=none) ⟨d,o,j,⟨hT,Z,Z⟩,λp _=>rfl,f,λk=>Ga _ k,λp hp=>(by unfold C1;rw[if_pos U]),λ_=>⟨Z,Z⟩,λ_ e=>(by cases e)⟩ Z;exact ⟨_,⟨_,_,_,Z,Z⟩,H8.pick 2 [1,0] Z⟩
set_option maxHeartbeats 2000000 in
theorem Vl (n:Nat) (a:16<=n/\n<=298) (Tb:Ah) (l:Fp Tb):Aj 9 [Aa (n:Int)] [Tb] (λv G=>∃(j pd b pp pq:Nat) (M0:Nat->Pg),v=.tuple #[V j,.bool true]/\G=[blk j [V pd,V b,V pp,V pq] 32,poA (Tb,pd) pp 6 n M0 (C1 (manyN n+1)) none]):=by
 intro z R w H;have i:16<=n/\n<=1024:=⟨a.1,by omega⟩;refine Ac func9 Z ntmps9 Z (Zc 8 Z (AA Z (call33 _) (RP 400) H ?_));rintro _ w _ (⟨e,rfl,rfl⟩|⟨_,pd,rfl,rfl⟩) o
 ·exact absurd U e
 have H:=o.l2;refine Zc 9 Z (AA Z (call34 _) (St 400 U) H ?_);rintro _ w _ ⟨b,rfl,rfl⟩ H;refine Za 31 [4] H Z ?_;intro p w H;refine Zc 7 Z (AA Z (call35 _) (LS _ 400 n _ _ i (Fs a)) H.f2 ?_);rintro _ w _ ⟨D2,G2,bs,h,k,d,c,m,f,r,rfl,rfl⟩ H;refine Zc 7 Z (AA Z (call36 _) (KH _ 400 0 n U U 300 90 i (Fs a)) H.f2 ?_);rintro _ w _ ⟨cb,q,g,s,rfl,rfl⟩ H;refine Z0 17 [4] Z (AA Z (call37 _) (Yx _ _ _ n a Tb l _ _ bs h k d c f r cb g q U) H.f3.f2.f3 ?_);rintro _ w _ ⟨pp,pq,M0,rfl,rfl⟩ H;refine Zc 12 Z (Zr Z ?_);exact ⟨_,⟨p,pd,b,pp,pq,M0,Z,Z⟩,H.pick 2 [0,1] Z⟩
theorem SD(pp ps a b n:Nat)(x:Pg)(i:x.Ok)(c:Value)(B:Ah)(d:∀h,B h->rdH 1 c 240 (x.body.map u8) h):Aj 12 [V pp,.agg #[Aa x.kind,c]] [plB pp ps a b n false,B] (λv G=>v=.tuple #[Aa 0,Aa 18]/\G=[plB pp ps a b n false,B]):=by
 intro z R w H;obtain ⟨g,f,rfl⟩:=H.sy 1 (λq=>(d _ q).slc);refine Ac func12 Z ntmps12 Z (Za 2 [] H Z ?_);intro e w H;refine Z2 22 [4,1,0] H Z (Zr Z ?_);exact ⟨_,⟨Z,Z⟩,H.perm 3 [1,2] Z Z⟩
section
section
variable{Tb:Ah×Nat}
variable{z w:World}{Γ:List Ah}{pp mb n:Nat}{M0:Nat->Pg}{C0:Nat->Nat}{t:Option PoT}{T:PoT}
theorem Sep.poTab(H:Sep z (poA Tb pp mb n M0 C0 t::Γ) w):Fp Tb.1/\Sep z (Tb.1::Γ) w:=by
 obtain ⟨X,a,H⟩:=H.po;refine ⟨a.tab.2.1▸a.tab.1,?_⟩;have h:=H.pick 7 [6] Z;rw[<-a.tab.2.1];exact h
theorem N0(pp mb n:Nat)(M0:Nat->Pg)(C0:Nat->Nat)(T:PoT)(x:Pg)(g:x.Ok)(b:Value)(B:Ah)(f:∀h,B h->rdH 1 b 240 (x.body.map u8) h)(d:T.k<40)(i:cnt T.F 0 1024≠0):
  Aj 12 [V pp,.agg #[Aa x.kind,b]] [poA Tb pp mb n M0 C0 (some T),B] (λv G=>∃p a:Nat,((T.F p=true/\∀q,q<p->T.F q=false)/\a<=T.k+1/\cnt (BW T.F p) 0 1024+1=cnt T.F 0 1024)/\v=.tuple #[Aa (p:Int),Aa 0]/\G=[poA Tb pp mb n M0 C0 (some ⟨BY T.M p x,BY T.C p 1,BW T.F p,a⟩),B]):=
 (Yp pp mb n M0 C0 T x g b B f d).mono λv Γ h=>by
  rcases h with h|⟨p,a,e,j,c⟩
  ·exact absurd h.1 i
  exact ⟨p,a,e,j,c⟩
theorem Vm(pp mb n:Nat)(M0:Nat->Pg)(C0:Nat->Nat)(x:Pg)(d:x.Ok)(a:Value)(B:Ah)(c:∀h,B h->rdH 1 a 240 (x.body.map u8) h):
  Aj 12 [V pp,.agg #[Aa x.kind,a]] [poA Tb pp mb n M0 C0 none,B] (λv G=>v=.tuple #[Aa 0,Aa 18]/\G=[poA Tb pp mb n M0 C0 none,B]):=by
 intro z R w H;obtain ⟨X,e,H⟩:=H.po;refine Ret.mono (Cn.at (SD pp X.ps X.pc X.pa n x d a B c) H 8 [0,7,1,2,3,4,5,6] Z Z) ?_;rintro v w' ⟨Γ',⟨rfl,rfl⟩,b⟩;exact ⟨_,⟨Z,Z⟩,(b.pick 8 [0,2,3,4,5,6,7,1] Z).toPo e Z⟩
end
theorem Ep{b:Nat}{xs:List Value}{ty:TypeId}{h:Hp}(a:blk b xs ty h)(c:xs.length=240):rdH 1 (.slice (some ⟨b,0,none⟩) 240 240) 240 xs h:=a.rd U U U (by simp;exact Ab4 U)
theorem SE{F:Nat->Bool}{p q:Nat}(h:F p=true/\∀r,r<p->F r=false)(a:F q=true)(b:∀r,r<q->F r=false):p=q:=by
 rcases AdD p q with e|e|e
 ·have:=b p e;rw[h.1] at this;cases this
 ·exact e
 have:=h.2 q e;rw[a] at this;cases this
theorem Abl:cnt (frC 16 (C1 (manyN 16+1))) 0 1024≠0:=by decide+kernel
theorem Abm:cnt (BW (frC 16 (C1 (manyN 16+1))) 2) 0 1024≠0:=by decide+kernel
theorem Abn(C:Nat->Nat):BY C 2 1 2=1:=Aar C 2 1
theorem Abo:frC 16 (C1 (manyN 16+1)) 2=true:=by decide
theorem AaB:∀r,r<2->frC 16 (C1 (manyN 16+1)) r=false:=by decide
theorem Abp:BW (frC 16 (C1 (manyN 16+1))) 2 3=true:=by decide
theorem AaC:∀r,r<3->BW (frC 16 (C1 (manyN 16+1))) 2 r=false:=by decide
theorem Yy:((cnt (frC 16 (BY (BY (BY (C1 (manyN 16+1)) 2 1) 2 0) 3 1)) 0 1024:Nat):Int)=13:=by decide+kernel
set_option maxHeartbeats 2000000 in
theorem JW (Tb:Ah) (k:Fp Tb):Aj 16 [] [Tb] (λv G=>v=.bool true/\G=[Tb]):=by
 intro z R w H;replace H:=H.l1;refine Ac func16 Z ntmps16 Z (Zc 7 Z (AA Z (call9 _) (Vl 16 U Tb k) H ?_));rintro _ w _ ⟨o,pd,s,pp,pq,M0,rfl,rfl⟩ H;replace H:=H.l2;refine Z2 35 [2,0,0,2,0,0] H Z (Ad Z (AW Z Z (out:=[Aa 0,Aa 0,Aa 5,Aa 3,Aa 0,.slice none 0 0]) J) (Za 0 [] H Z ?_));intro r w H;refine Z4 7 [0,0,6] H Z ?_;intro w H;refine AA Z (call13 _) (Eo _ _ 5 3 _ (.slice none 0 0) Z) H ?_;rintro _ w _ ⟨l,rfl,rfl⟩ H;replace H:=H.l4;refine Ai Z (call12 _) (Vm _ _ _ _ _ (F5 5 3) (NZ 3 U) _ _ (λh q=>Ep q (by rw[Ab7];exact CI _ _))) H.f3 ?_;intro w H;replace H:=H.l4;refine Zc 10 Z (Ai Z (call11 _) (Lg _ _ _ _ _) H ?_);intro w H;replace H:=H.l4;refine Z2 7 [2,6] H Z (AA Z (call13 _) (Eo _ _ 5 3 _ (.slice none 0 0) Z) H ?_);rintro _ w _ ⟨n,rfl,rfl⟩ H;replace H:=H.l5;refine AA Z (call12 _) (N0 _ _ _ _ _ _ (F5 5 3) (NZ 3 U) _ _ (λh q=>Ep q (by rw[Ab7];exact CI _ _)) (by show (0:Nat)<40;omega) (by exact Abl)) H.f1 ?_;rintro _ w _ ⟨p,e,⟨c,a,f⟩,rfl,rfl⟩ H;replace H:=H.l5;obtain rfl:p=2:=SE c (by exact Abo) (by exact AaB);refine Zc 3 Z (k_updA 46 (v:=Aa 2) Z Z (Zc 8 Z (Ai Z (call15 _) (drop_p _ _ _ _ _ _ 2 (by decide) (by exact Abn (C1 (manyN 16+1)))) H ?_)));intro w H;replace H:=H.l5;refine Z2 7 [3,6] H Z (AA Z (call13 _) (Eo _ _ 5 3 _ (.slice none 0 0) Z) H ?_);rintro _ w _ ⟨j,rfl,rfl⟩ H;replace H:=H.l6;refine AA Z (call12 _) (N0 _ _ _ _ _ _ (F5 5 3) (NZ 3 U) _ _ (λh q=>Ep q (by rw[Ab7];exact CI _ _)) (by show e<40;have:e<=0+1:=a;omega) (by exact Abm)) H.f1 ?_;rintro _ w _ ⟨m,i,⟨b,d,g⟩,rfl,rfl⟩ H;replace H:=H.l6;obtain rfl:m=3:=SE b (by exact Abp) (by exact AaC);refine Zc 3 Z (k_updA 56 (v:=Aa 3) Z Z (Zc 7 Z (Ai Z (call14 _) (U6 _ _ _ _ _ _ (by show i+manyN 16<=40;have:e<=0+1:=a;have:i<=e+1:=d;have:manyN 16=1:=rfl;omega) U) H ?_)));intro w H;replace H:=H.l6;refine Z0 37 [3,3,3,3,3,3,3,3] Z (Ai Z (call10 _) (Sm _ _ _ _ _ _) H ?_);intro w H;replace H:=H.l6;refine k_updA 92 (v:=Aa 13) Z (congrArg Aa Yy) (Z0 4 [3] Z (Ai Z (call18 _) (Ps _ _ _ _ _ _ 3 U) H ?_));intro w H;replace H:=H.l6;refine k_updA 97 (v:=Aa 1) Z Z (Z0 6 [3] Z (Zr Z ?_));exact ⟨_,⟨Z,Z⟩,((H.pick 6 [0] Z).poTab).2⟩
end
section
open Go.ChangeShapes Go.WideShapes Go.ChangeAt Go.RowKit Go.Joins
theorem own:ownKnob prog.godebug=none:=by kernel_rfl
theorem PA:laidOutB prog=true:=by kernel_rfl
theorem int_cells:prog.cellsOf 3=1:=by kernel_rfl
theorem Vn{H:Type}{enc:TypeId×Value->H}{W:World}{fuel:Nat}{v:Value}{d:DataW H}{p:List MemPlace}(h:DataW.trod enc prog W 0 (λ_=>true) true fuel 22 [v]=some (d,p)):∃xs:List Int,Rd 1 v xs.length (xs.map (Value.int .i64)) W/\xs.length<=Rows.uptoBulk d/\∀x∈xs,(Lit.int .i64 x).wf=true:=by
 have k:∀(l:List Int),l.length<=Rows.uptoBulkAll (lits (H:=H) .i64 l):=λl=>by
  induction l with
  | nil=>simp
  | cons x l ih=>simp only[lits,Acw,Rows.uptoBulkAll,Rows.uptoBulk,Ab3] at ih ⊢;omega
 rcases open_ints underlying22 underlying3 int_cells h with ⟨f,m⟩|⟨a,c,o,zs,f,_,n,hm,s,m,e,r⟩
 ·simp only[AdY,and_true] at f;subst f;exact ⟨[],by simpa using Rd.nil 1 W,by simp,by simp⟩
 simp only[AdY,and_true] at f;subst f;simp only[if_true] at s;have hd:d=.slice (lits .i64 (zs.take c)) (lits .i64 (zs.drop c)):=by have:=congrArg Prod.fst m;simpa using this
 refine ⟨zs.take c,⟨some a,o,by simp[s,AcI n],by simp[s,AcI n,n],(by unfold maxLen at hm;omega),by simp,λj u z=>?_⟩,?_,λx m=>r x (AcO m)⟩
 ·rw[Ach] at z
  obtain ⟨y,t,rfl⟩:=AdK.1 z;have w:j<c:=by
   have:=(AbZ.1 t).1;simp at this;omega
  have q:zs[j]?=some y:=by rw[AcJ] at t;simpa [w] using t
  have hc:=e j U;rw[show zs.getD j 0=y from by simp[List.getD,q]] at hc;obtain ⟨b,off,i⟩:=a;have g:i=none:=by
   have h0:=e 0 U;simpa [Addr.add] using World.cell?_spot h0
  subst g;exact ⟨b,off,Z,by unfold Fe;rw[<-Aes];exact hc⟩
 rw[hd];have:=k (zs.take c);simp only[Rows.uptoBulk];omega
def Mj:DataW Unit->List Value
 | .lit (.int k n)=>[.int k n]
 | .agg parts=>flatWs parts
 | _=>[]
where flatWs:List (DataW Unit)->List Value
 | []=>[]
 | d::ds=>Mj d++flatWs ds
def Vo:Obj->Obj
 | .cells c t frozen=>.cells (if c.size=32 then (Mj Rows.laid_unicode_utf8_acceptRanges).toArray else if c.size=64 then (Mj Rows.laid_math_bits_deBruijn64tab).toArray else (Mj Rows.laid_unicode_utf8_first).toArray) t frozen
 | o=>o
noncomputable def IL(os:Os):World:=
 {World.holding prog os ⟨#[],#[],[]⟩ with heap:=(((World.holding prog os ⟨#[],#[],[]⟩).heap.modify 0 Vo).modify 1 Vo).modify 2 Vo}
theorem Jn{α:Type}(P:Nat->α->Prop):∀n,(∀i,i<n->∃a,P i a)->∃l:List α,l.length=n/\∀i a,l[i]?=some a->P i a
 | 0,_=>⟨[],Z,λi a h=>by simp at h⟩
 | n+1,h=>by
  obtain ⟨l,hl,hp⟩:=Jn P n (λi e=>h i U);obtain ⟨a,d⟩:=h n U;refine ⟨l++[a],by simp[hl],λi b c=>?_⟩;rcases Acj i n with q|q
  ·rw[Acf U] at c;exact hp i b c
  rw[Ace U] at c;obtain rfl:i=n:=by have:=(AbZ.1 c).1;simp at this;omega
  simp[hl] at c;subst c;exact d
abbrev Abq(x:Int):Prop:= -9223372036854775808<=x/\x<=9223372036854775807
theorem WI{n:Int}(h:(Lit.int .i64 n).wf=true):Abq n:=by
 simp only[Lit.wf,Acu,decide_eq_true_eq] at h;have b:IntKind.i64.min= -9223372036854775808:=by decide
 have a:IntKind.i64.max=9223372036854775807:=by decide
 rw[b,a] at h;exact h
theorem Vp{H:Type}(d:DataW H):1<=Rows.uptoBulk d:=by
 cases d with
 | lit l=>cases l<;>simp[Rows.uptoBulk]
 | nil=>simp[Rows.uptoBulk]
 | ptr d=>simp[Rows.uptoBulk]
 | slice elems spare=>simp[Rows.uptoBulk]
 | agg parts=>simp[Rows.uptoBulk]
 | iface t d=>simp[Rows.uptoBulk]
 | map entries=>simp[Rows.uptoBulk]
 | held h=>simp[Rows.uptoBulk]
theorem Vq{H:Type}(l:List (DataW H)):l.length<=Rows.uptoBulkAll l:=by
 induction l with
 | nil=>simp
 | cons x r ih=>have:=Vp x;simp only[Rows.uptoBulkAll,Ab3];omega
theorem AaD:prog.globalNamed "math/bits.deBruijn64tab"=some 0:=by kernel_rfl
theorem Vr:(prog.globals[0]?).map (·.type)=some 220:=by kernel_rfl
theorem Yz:prog.cellsOf 220=64:=by kernel_rfl
theorem YA:prog.cellsOf 5=1:=by kernel_rfl
def tzL:List Int:=Lib.deBruijn64tab.map Int.ofNat
theorem Mk{W:World}(h:laidMetH prog Rows.poolRefsUptoRow.laid W):Lib.TabIs prog W "math/bits.deBruijn64tab" .u8 tzL:=
 Lib.tabIs_of_head (rest:=[("unicode/utf8.acceptRanges",Rows.laid_unicode_utf8_acceptRanges),("unicode/utf8.first",Rows.laid_unicode_utf8_first)]) AaD Vr underlying220 underlying5 YA Yz h
theorem Lq{W:World}(h:Lib.TabIs prog W "math/bits.deBruijn64tab" .u8 tzL):∃t a,W.heap[0]?=some (.cells (tzL.map λz=>Value.int .u8 z).toArray t a):=by
 unfold Lib.TabIs World.var? at h;rw[AaD] at h;simp only[Aeu] at h
 cases e:W.heap[0]? with
 | none=>rw[e] at h;cases h
 | some o=>
  rw[e] at h;cases o<;>simp at h;subst h;exact ⟨_,_,Z⟩
def Ja(W:World):Ah:=λh=>∀k,k<W.heap.size->k≠0->h k=W.heap[k]?
def N1(W:World):Ah:=λh=>h 0=W.heap[0]?
theorem AaE:(List.range 64).all (λj=>tzL[j]? == some ((R9 j).toNat:Int))=true:=by decide+kernel
theorem Abr{W:World}(c:Lib.TabIs prog W "math/bits.deBruijn64tab" .u8 tzL):Fp (N1 W):=λh a j f=>by
 obtain ⟨t,b,e⟩:=Lq c;have:=Aev.1 AaE j (Ac5.2 f);have d:tzL[j]?=some ((R9 j).toNat:Int):=by simpa using this
 exact ⟨_,t,b,(show h 0=_ from a).trans e,by simp[d,u8]⟩
theorem YB{W:World}(a:Lib.TabIs prog W "math/bits.deBruijn64tab" .u8 tzL):0<W.heap.size:=by
 obtain ⟨t,b,e⟩:=Lq a;rcases AdM W.heap.size with q|q
 ·rw[AcG U] at e;cases e
 exact q
theorem SF{W:World}(i:Lib.TabIs prog W "math/bits.deBruijn64tab" .u8 tzL){b o:Nat}{v:Value}(a:Fe b o v W)(k:∀x,v≠ .int .u8 x):∀h,Ja W h->celH h b o v:=λh g=>by
 have c:b≠0:=λe=>by
  subst e;obtain ⟨t,f,e⟩:=Lq i;unfold Fe World.cell? at a;rw[e] at a;simp at a;obtain ⟨z,_,j⟩:=a;exact k _ j.symm
 unfold Fe World.cell? at a
 cases hh:W.heap[b]? with
 | none=>rw[hh] at a;simp at a
 | some o'=>
  rw[hh] at a
  cases o' with
  | cells cs ty f=>
   simp at a;have d:b<W.heap.size:=by
    rcases Acj b W.heap.size with q|q
    ·exact q
    rw[AcG q] at hh;cases hh
   exact ⟨cs,ty,f,(g b d c).trans hh,a⟩
  | _=>simp at a
theorem N2{sz:Nat}{v:Value}{n:Nat}{xs:List Value}{W:World}(i:Lib.TabIs prog W "math/bits.deBruijn64tab" .u8 tzL)(r:Rd sz v n xs W)(o:∀u∈xs,∀x,u≠ .int .u8 x):∀h,Ja W h->rdH sz v n xs h:=λh g=>by
 obtain ⟨m,c,e,l,s,d,k⟩:=r;exact ⟨m,c,e,l,s,d,λj u a=>by
  obtain ⟨b,p,f,q⟩:=k j u a;exact ⟨b,p,f,SF i q (o u (Ab1 a)) h g⟩⟩
theorem PB{h:Hp}{own:Nat->Nat}{i k:Nat}{o:Obj}(e:h.part own i k=some o):h k=some o:=by
 unfold Hp.part at e;split at e
 ·exact e
 cases e
theorem Cn.run2{P:Program}{f:FuncId}{args:List Value}{W:World}{u:Value}(n:0<W.heap.size)(h:Cn P f args [Ja W,N1 W] (λv G=>v=u/\G=[Ja W,N1 W])):Calls P f args.toArray W (Ret λv W'=>v=u/\Ext No W W'):=by
 have m:Sep W [Ja W,N1 W] W:=⟨Z,Z,Z,λq=>if q=0 then 1 else 0,λi A a=>by
  match i,a with
  | 0,a=>cases a;intro k c e;simp[Hp.part,hp,e]
  | 1,a=>cases a;show Hp.part _ _ _ 0=_;simp[Hp.part,hp]⟩
 refine Ret.mono (h W [] W m) ?_;rintro v W' ⟨Γ,⟨rfl,rfl⟩,H⟩;obtain ⟨own,b⟩:=H.own;have j:=b 0 _ Z;have l:=b 1 _ Z;have d:∀k,k<W.heap.size->hp W' k=W.heap[k]? :=λk c=>by
  obtain ⟨o,g⟩:∃o,W.heap[k]?=some o:=⟨_,Aef c⟩;rw[g];by_cases q:k=0
  ·subst q;exact PB ((show _=_ from l).trans g)
  exact PB ((j k c q).trans g)
 have H2:Sep W [base W] W':=⟨H.os,H.tape,H.output,λk=>if k<W.heap.size then 0 else 1,λi A a=>by
  match i,a with
  | 0,a=>cases a;intro k c;unfold Hp.part;rw[if_pos (by simp[c])];exact d k c⟩
 exact ⟨Z,Sep.done 0 H2 Z⟩
section
variable{H:Type}{enc:TypeId×Value->H}{P:Program}{w:World}{base:Nat}{spare:Nat->Bool}{held:Bool}
end
section
variable{H:Type}{enc:TypeId×Value->H}{P:Program}{w:World}{base:Nat}{spare:Nat->Bool}{held:Bool}
end
section
variable{H:Type}{enc:TypeId×Value->H}{P:Program}{w:World}{base:Nat}{spare:Nat->Bool}{held:Bool}
theorem Abs{t s r:TypeId}{args:Array Value}{ds:List (DataW H)}{ps:List MemPlace}(h:DataW.TrodAll enc P w base spare held [t,s,r] args.toList ds ps):
  ∃i j b e d g f a c,args= #[i,j,b]/\ds=[e,d,g]/\ps=f++(a++c)/\DataW.Trod enc P w base spare held t i e f/\DataW.Trod enc P w base spare held s j d a/\DataW.Trod enc P w base spare held r b g c:=by
 obtain ⟨i,y,e,v,f,q0,o,rfl,rfl,p,m⟩:=trodAll_cons h;obtain ⟨j,x,d,u,a,q1,rfl,rfl,rfl,q,k⟩:=trodAll_cons m;obtain ⟨b,a0,g,z,c,q2,rfl,rfl,rfl,l,n⟩:=trodAll_cons k;obtain ⟨rfl,rfl,rfl⟩:=trodAll_nil n;exact ⟨i,j,b,e,d,g,f,a,c,by cases args;simp_all,Z,by simp,p,q,l⟩
theorem YC{e g f:TypeId}{l i h:Value}{j c d:DataW H}{b a k:List MemPlace}(n:DataW.Trod enc P w base spare held e l j b)(m:DataW.Trod enc P w base spare held g i c a)(o:DataW.Trod enc P w base spare held f h d k):DataW.TrodAll enc P w base spare held [e,g,f] [l,i,h] [j,c,d] (b++(a++k)):=
 ⟨b,_,n,⟨a,_,m,(trodAll_mk1 o),Z⟩,Z⟩
end
end
set_option maxHeartbeats 2000000 in
theorem SG (ps pd pt md j:Nat) (x:Sup) (r:Value) (g:AZ) (k:Nat) (hq:Hp) (n:Nat) (hn:(n:Int)<x.pages) (m:Int) (hk:m<1\/5<m) (s:Value) (a1:s.oneCell'=true):Aj 41 [V ps,Aa (n:Int),.agg #[Aa m,s]] [stB ps pd pt x r md true (.map (some j)),Dg j g k hq] (λv G=>v=Aa 1/\G=[stB ps pd pt x r md true (.map (some j)),Dg j g k hq]):=by
 intro z R w H;replace H:=H.l2;obtain ⟨a0,p,a,b,H⟩:=H.pgsc 1 Z;replace H:=H.l2;refine Ac func41 Z ntmps41 Z (Za 2 [] H Z ?_);intro b1 w H;refine Z2 10 [12,1,0] H Z ?_;rcases a.get n with ⟨l,d⟩|⟨o,c,l,f,h,d⟩
 ·refine Ad Z (CM (e:=40) (zv:=.agg #[Aa 0,.slice none 0 0]) Z J J Z Z (AB (H.bk 2 Z))) (k_updA 15 (v:=.tuple #[.agg #[Aa 0,.slice none 0 0],.bool false]) Z (by simp[Cu,d]) (Za 3 [] H Z ?_));intro b2 w H;refine Z4 22 [0,11,2,0,0] H Z ?_;intro w H;refine Ak 27 Z (λh1=>U) (λh1=>?_)
  refine Z2 11 [2,4,2,0,0] H Z (Af Z (λh2=>U) (λh2=>?_));refine Z2 6 [0,1,0,0] H Z (Ak 40 Z (λt=>?_) (λt=>?_))
  ·refine Zc 20 Z (Zr Z ?_);replace H:=(H.toPgsc 3 Z a b).l4
   exact ⟨_,⟨Z,Z⟩,H.perm 4 [2,3] Z Z⟩
  refine Z2 5 [0,1,0,0] H Z (Ak 45 Z (λh4=>?_) (λh4=>?_))
  ·refine Zc 15 Z (Zr Z ?_);replace H:=(H.toPgsc 3 Z a b).l4
   exact ⟨_,⟨Z,Z⟩,H.perm 4 [2,3] Z Z⟩
  (exfalso;omega)
 have q:=f.1;have i:Slc c 240:=h.slc;refine Ad Z (CM (e:=40) (zv:=.agg #[Aa 0,.slice none 0 0]) Z J J Z Z (AB (H.bk 2 Z))) (k_updA 15 (v:=.tuple #[.agg #[Aa o.kind,c],.bool true]) Z (by simp[Cu,d]) (Za 3 [] H Z ?_));intro b3 w H;refine Ba Z Z (AF 0 H Z Z Z Z (vs:=[Aa o.kind,c]) Z (Ap Z (Ap i.one AR)) J O (out:=[Aa o.kind,c]) Z) ?_;rintro w H;replace H:=H.l4;refine Z2 21 [11,2,0,0] H Z (Ak 27 Z (λh5=>U) (λh5=>?_));refine Z2 11 [2,4,2,0,0] H Z (Af Z (λu=>U) (λu=>?_));refine Z2 6 [0,1,0,0] H Z (Ak 40 Z (λy=>?_) (λy=>?_))
 ·refine Zc 20 Z (Zr Z ?_);replace H:=(H.toPgsc 3 Z a b).l4
  exact ⟨_,⟨Z,Z⟩,H.perm 4 [2,3] Z Z⟩
 refine Z2 5 [0,1,0,0] H Z (Ak 45 Z (λh8=>?_) (λh8=>?_))
 ·refine Zc 15 Z (Zr Z ?_);replace H:=(H.toPgsc 3 Z a b).l4
  exact ⟨_,⟨Z,Z⟩,H.perm 4 [2,3] Z Z⟩
 (exfalso;omega)
theorem N3(ps pd pt md:Nat)(x:Sup)(a c:Value)(b:Bool)(p:Int)(hp:p<0\/x.pages<=p):Aj 21 [V ps,Aa p] [stB ps pd pt x a md b c] (λv G=>v=.tuple #[.agg #[Aa 0,.slice none 0 0],Aa 2]/\G=[stB ps pd pt x a md b c]):=by
 intro z R w H;replace H:=H.l1;refine Ac func21 Z ntmps21 Z (Za 2 [] H Z ?_);intro f w H;refine Z0 9 [0] Z (Ak 16 Z (λd=>?_) (λd=>?_))
 ·refine Z4 19 [0] H Z ?_;intro w H;refine Zl [0,2] H Z ?_;exact ⟨_,⟨Z,Z⟩,H.perm 2 [1] Z Z⟩
 refine Z2 10 [2,4,1,0,0] H Z (Af Z (λe=>?_) (λe=>?_))
 ·refine Z4 8 [0] H Z ?_;intro w H;refine Zl [0,2] H Z ?_;exact ⟨_,⟨Z,Z⟩,H.perm 2 [1] Z Z⟩
 (exfalso;omega)
theorem Vs(ps pd pt md:Nat)(x:Sup)(b a:Value):Aj 28 [V ps] [stB ps pd pt x b md true a] (λv G=>v=Aa 17/\G=[stB ps pd pt x b md true a]):=by
 intro z R w H;replace H:=H.l1;refine Ac func28 Z ntmps28 Z (Z2 21 [11,0,0] H Z (Zr Z ?_));exact ⟨_,⟨Z,Z⟩,H⟩
def GW(C W:Nat->Nat)(a k:Nat):Bool:=(List.range k).any λj=>decide (C (a+j)≠W (a+j))
def Ew(C W:Nat->Nat)(n q:Nat):Bool:=GW C W (120*q) (min 120 (n-120*q))
def Cg(C W:Nat->Nat)(n i:Nat):List Int:=((List.range i).filter λq=>Ew C W n q).map λq:Nat=>(q:Int)
theorem AaF(C W:Nat->Nat)(a:Nat):GW C W a 0=false:=rfl
theorem N4(C W:Nat->Nat)(a k:Nat):GW C W a (k+1)=(GW C W a k||decide (C (a+k)≠W (a+k))):=by simp[GW,Ade,List.any_append]
theorem SH{C W:Nat->Nat}{a k:Nat}(h:GW C W a k=true):GW C W a (k+1)=true:=by rw[N4,h];rfl
theorem SI{C W:Nat->Nat}{a k:Nat}(h:GW C W a k=false):GW C W a (k+1)=decide ((C (a+k):Int)≠(W (a+k):Int)):=by
 rw[N4,h,Bool.false_or];exact decide_eq_decide.2 U
theorem N5(C W:Nat->Nat)(n i:Nat):(Cg C W n i).length<=i:=by
 unfold Cg;rw[Ab7];have:=List.length_filter_le (λq=>Ew C W n q) (List.range i);rwa[Ad2] at this
theorem KI(C W:Nat->Nat)(n:Nat){i:Nat}(h:Ew C W n i=true):Cg C W n (i+1)=Cg C W n i++[(i:Int)]:=by simp[Cg,Ade,Aep,h]
theorem SJ(C W:Nat->Nat)(n:Nat){i:Nat}(h:Ew C W n i=false):Cg C W n (i+1)=Cg C W n i:=by simp[Cg,Ade,Aep,h]
set_option maxHeartbeats 1000000 in
theorem Ox (g f bw n:Nat) (C:Nat->Nat) (W:Nat->Nat) (hn:16<=n/\n<=1024):Aj 111 [V g] [blk g [.slice (some ⟨f,0,none⟩) n n,.slice (some ⟨bw,0,none⟩) n n] 166,Ax f C n,Ax bw W n] (λv G=>∃h:Value,v=h/\G=[grow 3 1 h (Cg C W n (manyN n)).length ((Cg C W n (manyN n)).map Aa),blk g [.slice (some ⟨f,0,none⟩) n n,.slice (some ⟨bw,0,none⟩) n n] 166,Ax f C n,Ax bw W n]):=by
 intro z R w H;replace H:=H.l3;have a2:manyN n=(n+119)/120:=rfl;refine Ac func111 Z ntmps111 Z (Zc 12 Z ?_);replace H:=(H.nilg 3 1).l4;refine Zc 5 Z ?_;refine Ay (σ:=Nat×Value) (λ⟨i,u⟩=>[(4,Aa (i:Int)),(3,u),(0,V g),(2,.slice none 0 0)])
   (λ⟨i,u⟩ w=>Sep z (grow 3 1 u ((Cg C W n i).length) ((Cg C W n i).map Aa)::blk g [.slice (some ⟨f,0,none⟩) n n,.slice (some ⟨bw,0,none⟩) n n] 166::Ax f C n::Ax bw W n::R) w/\(i<=manyN n)) (λ⟨i,u⟩=>manyN n-i) ⟨0,.slice none 0 0⟩
   (λ_ b=>(b.co Z (by go_num) b.cz)) ⟨(by simpa [Cg] using H),Acg _⟩ ?_
 clear H;rintro ⟨i,u⟩ w ⟨c,j⟩;dsimp only at j c ⊢;have H:=c.l4;have x:=H.sy 0 (·.slc);have hi:=j;clear j;have y:=N5 C W n i;refine Z2 9 [0,1,0] H Z (Ai Z (call94 _) (CY _ U) H ?_);intro w H;refine Z0 3 [0] Z (Af Z (λh1=>?_) (λh1=>?_))
 ·refine Z1 18 [] [((120*i:Nat):Int)] Z U ?_;refine Ay (σ:=Nat) (λk=>[(6,Aa ((120*i+k:Nat):Int)),(5,.bool (GW C W (120*i) k)),(0,V g),(2,.slice none 0 0),(3,u),(4,Aa (i:Int)),(7,Aa (i:Int)),(8,V g),(9,V g),(10,V g),(11,.slice (some ⟨f,0,none⟩) n n),(12,Aa (n:Int)),(13,Aa (manyN n:Int)),(14,.bool (decide ((i:Int)<(manyN n:Int)))),(17,Aa (i:Int)),(18,Aa ((120*i:Nat):Int))])
    (λk w=>Sep z (grow 3 1 u ((Cg C W n i).length) ((Cg C W n i).map Aa)::blk g [.slice (some ⟨f,0,none⟩) n n,.slice (some ⟨bw,0,none⟩) n n] 166::Ax f C n::Ax bw W n::R) w/\(k<=120/\120*i+k<=n)) (λk=>120-k) 0
    (λ_ b=>(b.co Z (by go_num) (b.co Z (congrArg Value.bool (AaF C W _).symm) (b.all Z)))) ⟨H,⟨Acg _,by omega⟩⟩ ?_
  clear H;rintro k w ⟨c,j⟩;have H:=c.l4;have x:=H.sy 0 (·.slc);obtain ⟨hk,a3⟩:=j;refine Z1 9 [0] [(i:Int)+1,((i:Int)+1)*120] Z U (Ak 24 Z (λh2=>?_) (λh2=>?_))
  ·refine Z2 10 [0,1,0,0] H Z (Af Z (λt=>?_) (λt=>?_))
   ·refine Zc 4 Z (Bd (Sep z _) J J H.drew (Cq 2 [] Z J (Tm 36 Z (λm=>?_) (λm=>?_))))
    ·have a:k=min 120 (n-120*i)->Ew C W n i=true:=λe=>by unfold Ew;rw[<-e];exact m
     refine Cq 17 [] Z J (Bv (λw c=>?_));have H:=c.l4;refine gn (Z1 7 [] [((120*i+(k+1):Nat):Int)] Z U (gf ?_));intro _ b;refine ⟨(k+1),(b.co Z Z (b.co Z (congrArg Value.bool (by first|exact (SH (by assumption)).symm|exact (SI (by assumption)).symm)) (b.all Z))),⟨H,?_⟩,?_⟩
     ·exact ⟨by omega,by omega⟩
     omega
    have a:k=min 120 (n-120*i)->Ew C W n i=false:=λe=>by unfold Ew;rw[<-e];simpa using m
    refine F1 6 [0,1,0,1,(120*i+k),(120*i+k)] [] Z J U (Bo Z Z Z (A5 Z Z J (λ_ r=>r.cel 2 Z (120*i+k) (cnL_at _ U))) (F1 6 [1,1,0,1,(120*i+k),(120*i+k)] [] Z J U (Bo Z Z Z (A5 Z Z J (λ_ r=>r.cel 3 Z (120*i+k) (cnL_at _ U))) (Cq 3 [] Z J (Bv (λw c=>?_))))));have H:=c.l4;refine gn (Z1 7 [] [((120*i+(k+1):Nat):Int)] Z U (gf ?_));intro _ b;refine ⟨(k+1),(b.co Z Z (b.co Z (congrArg Value.bool (by first|exact (SH (by assumption)).symm|exact (SI (by assumption)).symm)) (b.all Z))),⟨H,?_⟩,?_⟩
    ·exact ⟨by omega,by omega⟩
    omega
   refine Zc 2 Z (gx (Zc 7 Z (DQ Z (λq=>?_) (λq=>?_))))
   ·have a:k=min 120 (n-120*i)->Ew C W n i=true:=λe=>by unfold Ew;rw[<-e];exact q
    refine Zc 3 Z (AG Z (AM H Z J BQ Z (by decide) (by decide) (out:=[Aa (i:Int)]) J) ?_);rintro _ w ⟨b1,rfl,H⟩;replace H:=H.l5;refine AG Z (AO 1 H Z Z J BQ Z Z (H.rv 0 (·.rd U U O Z)) (by simp[Value.oneCell']) U) ?_;rintro h w c;have c:Sep z (blk b1 [Aa (i:Int)] 3::grow 3 1 h ((Cg C W n i).length+1) ((Cg C W n i).map Aa++[Aa (i:Int)])::blk g [.slice (some ⟨f,0,none⟩) n n,.slice (some ⟨bw,0,none⟩) n n] 166::Ax f C n::Ax bw W n::R) w:=c;have o:((Cg C W n i).map Aa++[Aa (i:Int)]:List Value)=(Cg C W n (i+1)).map Aa:=(by rw[KI C W n (a U)];simp);rw[o] at c;rw[show ((Cg C W n i).length+1:Nat)=(Cg C W n (i+1)).length from (by rw[KI C W n (a U)];simp)] at c;have H:=c.l5;have a1:=H.sy 1 (·.slc);refine Z1 9 [] [(i:Int)+1] Z U ?_;replace H:=H.d;refine gf ?_;intro _ b;refine ⟨⟨i+1,h⟩,b.cz,⟨H,?_⟩,?_⟩
    ·show i+1<=manyN n;omega
    (dsimp only;omega)
   have a:k=min 120 (n-120*i)->Ew C W n i=false:=λe=>by unfold Ew;rw[<-e];simpa using q
   refine Z1 8 [] [(i:Int)+1] Z U (gf ?_);intro _ b;refine ⟨⟨i+1,u⟩,b.cz,⟨(by rw[SJ C W n (a U)];exact H),?_⟩,?_⟩
   ·show i+1<=manyN n;omega
   (dsimp only;omega)
  refine Zc 13 Z (gx (Zc 7 Z (DQ Z (λl=>?_) (λl=>?_))))
  ·have a:k=min 120 (n-120*i)->Ew C W n i=true:=λe=>by unfold Ew;rw[<-e];exact l
   refine Zc 3 Z (AG Z (AM H Z J BQ Z (by decide) (by decide) (out:=[Aa (i:Int)]) J) ?_);rintro _ w ⟨b3,rfl,H⟩;replace H:=H.l5;refine AG Z (AO 1 H Z Z J BQ Z Z (H.rv 0 (·.rd U U O Z)) (by simp[Value.oneCell']) U) ?_;rintro s w c;have c:Sep z (blk b3 [Aa (i:Int)] 3::grow 3 1 s ((Cg C W n i).length+1) ((Cg C W n i).map Aa++[Aa (i:Int)])::blk g [.slice (some ⟨f,0,none⟩) n n,.slice (some ⟨bw,0,none⟩) n n] 166::Ax f C n::Ax bw W n::R) w:=c;have p:((Cg C W n i).map Aa++[Aa (i:Int)]:List Value)=(Cg C W n (i+1)).map Aa:=(by rw[KI C W n (a U)];simp);rw[p] at c;rw[show ((Cg C W n i).length+1:Nat)=(Cg C W n (i+1)).length from (by rw[KI C W n (a U)];simp)] at c;have H:=c.l5;have a0:=H.sy 1 (·.slc);refine Z1 9 [] [(i:Int)+1] Z U ?_;replace H:=H.d;refine gf ?_;intro _ b;refine ⟨⟨i+1,s⟩,b.cz,⟨H,?_⟩,?_⟩
   ·show i+1<=manyN n;omega
   (dsimp only;omega)
  have a:k=min 120 (n-120*i)->Ew C W n i=false:=λe=>by unfold Ew;rw[<-e];simpa using l
  refine Z1 8 [] [(i:Int)+1] Z U (gf ?_);intro _ b;refine ⟨⟨i+1,u⟩,b.cz,⟨(by rw[SJ C W n (a U)];exact H),?_⟩,?_⟩
  ·show i+1<=manyN n;omega
  (dsimp only;omega)
 obtain rfl:i=manyN n:=by omega
 refine Zc 2 Z (gx (Zc 9 Z (Zr Z ?_)));exact ⟨_,⟨_,Z,Z⟩,H.pick 4 [0,1,2,3] Z⟩
theorem Vt(b a bw n:Nat)(C:Nat->Nat)(W:Nat->Nat)(h:16<=n/\n<=1024):Aj 68 [V b] [blk b [.slice (some ⟨a,0,none⟩) n n,.slice (some ⟨bw,0,none⟩) n n] 166,Ax a C n,Ax bw W n] (λv G=>v=.tuple #[]/\G=[blk b [.slice (some ⟨a,0,none⟩) n n,.slice (some ⟨bw,0,none⟩) n n] 166,Ax a W n,Ax bw W n]):=by
 intro z R w H;replace H:=H.l3;refine Ac func68 Z ntmps68 Z (Zc 6 Z ?_);refine Ay (σ:=Nat) (λi=>[(2,Aa (i:Int)),(0,V b)])
   (λi w=>Sep z (blk b [.slice (some ⟨a,0,none⟩) n n,.slice (some ⟨bw,0,none⟩) n n] 166::Ax a (IK W C i) n::Ax bw W n::R) w/\(i<=n)) (λi=>n-i) 0
   fr_z ⟨(by rw[WF];exact H),Acg _⟩ ?_
 clear H;rintro i w ⟨c,d⟩;have H:=c.l3;have g:=d;clear d;refine Z2 12 [0,0,0,0] H Z (Af Z (λe=>?_) (λe=>?_))
 ·refine Zc 4 Z (Bh 13 J J (A0 H λw c=>?_))
  have H:=c.l3;refine CP 11 [0,0,0,1,0,0,1,i,i] [] H Z J U (Cm Z Z Z (A5 Z Z J (AB (H.cel 2 Z i (cnL_at _ U)))) (CP 1 [1,i,i] [] H Z J U (B3 (gw (Ba Z Z (AF 1 H Z Z Z Z (vs:=[Aa (W i:Int)]) Z (Ap Z AR) J (by simp only[B6,Ab3,Aca];omega) (out:=cnL (IK W C (i+1)) n) ((En (x:=W i) _ U Z).trans (by rw[WG]))) ?_)))));rintro w H;replace H:=H.l3;refine Z1 8 [] [(i:Int)+1] Z U (gf ?_);intro _ f;refine ⟨(i+1),f.cz,⟨H,?_⟩,?_⟩
  ·omega
  omega
 obtain rfl:n=i:=by omega
 refine Zc 2 Z (gx (Zc 1 Z (Zf Z ?_)));dsimp only[Ax] at H;rw[WH] at H;exact ⟨_,⟨Z,Z⟩,H.pick 3 [0,1,2] Z⟩
theorem Vu(b a bw n:Nat)(C:Nat->Nat)(p:Nat)(hp:p<n)(g:16<=n/\n<=1024)(h:C p=1000):Aj 95 [V b,Aa (p:Int),Aa 1] [blk b [.slice (some ⟨a,0,none⟩) n n,.slice (some ⟨bw,0,none⟩) n n] 166,Ax a C n] (λv G=>v=Aa 21/\G=[blk b [.slice (some ⟨a,0,none⟩) n n,.slice (some ⟨bw,0,none⟩) n n] 166,Ax a C n]):=by
 intro z R w H;replace H:=H.l2;refine Ac func95 Z ntmps95 Z (Z0 11 [0] Z (Ak 9 Z (λd=>U) (λd=>?_)));refine Z2 10 [0,0,0,0] H Z (Af Z (λf=>U) (λf=>?_));refine Z3 18 [4,4,0,0,0,1,p,p] [] H Z U (Ad Z (A5 Z Z J (AB (H.cel 1 Z p (cnL_at _ U)))) (Z1 5 [0] [(C p:Int)+1] Z U (Ak 36 Z (λc=>U) (λc=>?_))));refine Z3 6 [0,0,0,1,p,p] [] H Z U (Ad Z (A5 Z Z J (AB (H.cel 1 Z p (cnL_at _ U)))) (Z1 6 [0] [(C p:Int)+1] Z U (Af Z (λe=>?_) (λe=>?_))))
 ·refine Zc 6 Z (Zr Z ?_);exact ⟨_,⟨Z,Z⟩,H⟩
 (exfalso;omega)
set_option maxHeartbeats 2000000 in
theorem Qx (g d:Nat) (s:Sup) (a q u:Int) (n m:Nat) (F:Nat->List UInt8) (hs:(0<=s.start/\s.start<=1099511627776)/\0<s.len/\s.len<=1099511627776) (v:Value) (es:List ImE) (A:Ah) (o:∀h,A h->rdH 3 v es.length (Bm es) h/\∀e∈es,rdH 1 e.2 240 (e.1.body.map u8) h) (b:∀e∈es,e.1.Ok) (hn:1<=es.length/\es.length<=40) (c:∀(j i:Nat) (e f:ImE),j<i->es[j]?=some e->es[i]?=some f->e.1.num≠f.1.num) (hu:0<=u/\u<=1099511627776) (k:s.len<u+1+es.length):Aj 161 [V g,v] [blk g [V d,Aa s.gen,Aa s.epoch,Aa s.pages,Aa s.start,Aa s.len,Aa s.head,Aa s.seq,Aa a,Aa q,Aa u,.bool false] 249,rdkA d n F m,A] (λv G=>v=Aa 15/\G=[blk g [V d,Aa s.gen,Aa s.epoch,Aa s.pages,Aa s.start,Aa s.len,Aa s.head,Aa s.seq,Aa a,Aa q,Aa u,.bool false] 249,rdkA d n F m,A]):=by
 intro z R w H;replace H:=H.l3;obtain ⟨ao,y,rfl⟩:=H.sy 2 (λq=>(o _ q).1.slc);have l:∀m∈(es.map Prod.fst),m.Ok:=λm t=>by obtain ⟨e,p,rfl⟩:=Ab9.1 t;exact b e p
 refine Ac func161 Z ntmps161 Z (Z0 13 [0] Z (Af Z (λx=>U) (λx=>?_)));refine Zc 6 Z (Ai Z (call190 _) (NO _ es _ o b U c) H.f2 ?_);intro w H;refine Z3 24 [11,1,0] [((1+es.length:Nat):Int)] H Z U (Ai Z (call191 _) (Li _ _ _ _ _ _ hs U) H.f1 ?_);intro w H;refine Z0 3 [0] Z (Ak 28 Z (λr=>?_) (λr=>?_))
 ·refine Zc 23 Z (Zr Z ?_);exact ⟨_,⟨Z,Z⟩,H.pick 3 [0,2,1] Z⟩
 (exfalso;omega)
set_option maxHeartbeats 4000000 in
theorem Qy (x g:Nat) (s:Sup) (a q u:Int) (n m:Nat) (a4:m<=900000000) (a5:n<=4096) (F:Nat->List UInt8) (hs:(0<=s.start/\s.start<=1099511627776)/\0<s.len/\s.len<=1099511627776) (a2:0<=s.epoch/\s.epoch<4294967296) (a3:0<=q/\q<1099511627776) (v:Value) (es:List ImE) (A:Ah) (hA:∀h,A h->rdH 3 v es.length (Bm es) h/\∀e∈es,rdH 1 e.2 240 (e.1.body.map u8) h) (b:∀e∈es,e.1.Ok) (hn:1<=es.length/\es.length<=40) (y:∀(j i:Nat) (e f:ImE),j<i->es[j]?=some e->es[i]?=some f->e.1.num≠f.1.num) (ha:0<=a/\a<s.len/\s.len<a+1+es.length) (hu:0<=u/\u+1+es.length<=s.len) (a6:s.start+s.len<=n):Aj 161 [V x,v] [blk x [V g,Aa s.gen,Aa s.epoch,Aa s.pages,Aa s.start,Aa s.len,Aa s.head,Aa s.seq,Aa a,Aa q,Aa u,.bool false] 249,rdkA g n F m,A] (λv G=>v=Aa 0/\G=[blk x [V g,Aa s.gen,Aa s.epoch,Aa s.pages,Aa s.start,Aa s.len,Aa s.head,Aa s.seq,Aa ((a+((1+es.length:Nat):Int))%s.len),Aa (q+1),Aa (u+((1+es.length:Nat):Int)),.bool false] 249,rdkA g n (EE (EE F (s.start+a).toNat ((sect (Bx s.epoch q (es.map Prod.fst))++AH s.epoch q (es.map Prod.fst)).take (256*(s.len-a).toNat)) (s.len-a).toNat) s.start.toNat ((sect (Bx s.epoch q (es.map Prod.fst))++AH s.epoch q (es.map Prod.fst)).drop (256*(s.len-a).toNat)) (1+es.length-(s.len-a).toNat)) (m+(s.len-a).toNat+(1+es.length-(s.len-a).toNat)),A]):=by
 intro z R w H;replace H:=H.l3;obtain ⟨ao,oc,rfl⟩:=H.sy 2 (λq=>(hA _ q).1.slc);have t:∀m∈(es.map Prod.fst),m.Ok:=λm hm=>by obtain ⟨e,h9,rfl⟩:=Ab9.1 hm;exact b e h9
 obtain ⟨f,hf⟩:∃f,f=(s.len-a).toNat:=⟨_,Z⟩;refine Ac func161 Z ntmps161 Z (Z0 13 [0] Z (Af Z (λh1=>U) (λh1=>?_)));refine Zc 6 Z (Ai Z (call190 _) (NO _ es _ hA b U y) H.f2 ?_);intro w H;refine Z3 24 [11,1,0] [((1+es.length:Nat):Int)] H Z U (Ai Z (call191 _) (Li _ _ _ _ _ _ hs U) H.f1 ?_);intro w H;refine Z0 3 [0] Z (Ak 28 Z (λh2=>U) (λh2=>?_));refine Z2 8 [1,2,0,0,0] H Z (Ak 36 Z (λh3=>U) (λh3=>?_));refine Z2 8 [9,0,0,0] H Z (Af Z (λh4=>U) (λh4=>?_));refine Zc 6 Z (AA Z (call192 _) (LW _ _ _ _ _ _ a2 a3 _ es _ hA b U) H ?_);rintro rv w _ ⟨_,rfl,rfl⟩ H;replace H:=H.l4;refine Zc 4 Z ?_;have d:(sect (Bx s.epoch q (es.map Prod.fst))++AH s.epoch q (es.map Prod.fst)).length=(256*(1+es.length)):=by rw[Ab2,sect_len (hdL_le (by rw[Ab7];omega)),DM t,Ab7];omega
 obtain ⟨gb,o,rest,a1,c1,c2,c3,c⟩:=H.ungrow 0 Z U;subst a1;clear H;have H:=c.l4;rw[d] at c1 c3;have k:((sect (Bx s.epoch q (es.map Prod.fst))++AH s.epoch q (es.map Prod.fst)).take (256*f)).length=256*f:=by rw[Ab8,d];omega
 have a0:((sect (Bx s.epoch q (es.map Prod.fst))++AH s.epoch q (es.map Prod.fst)).drop (256*f)).length=256*(1+es.length-f):=by rw[AcA,d];omega
 refine Bd (Sep z _) J J H.drew (F1 11 [1,5,1,0,8,1,0] [s.len-a] Z J U (Bo Z Z Z (Mc Z Z Z) (Cq 1 [] Z J (Bv (λw c=>?_)))));have H:=c.l4;refine gn (Zc 2 Z (k_updA 7 (v:=Aa (f:Int)) Z (congrArg Aa U) ?_));replace H:=H.f1;refine AL (Sep z (blk x [V g,Aa s.gen,Aa s.epoch,Aa s.pages,Aa s.start,Aa s.len,Aa s.head,Aa s.seq,Aa a,Aa q,Aa u,.bool false] 249::R)) 16 Z J (A0 H λw c=>?_);have H:=c.l4;refine A7 [0,1,2,3,4,5,6,7,8,10,11] [0,0,8,0] J (λ_ hx=>(AS (hx.blk 0 Z) AJ)) (by exact H.pick 4 [0] Z) Z J Z Z (AQ 12 J Z Z J J J Z Z Z (GX Z Z Z (r:=((256*f:Nat):Int)) U U) (H.pick 4 [0] Z) (AQ 13 J Z Z J J J Z Z Z (Bj Z (z:=1) (p:=0) (q:=(256*f)) (o':=0) (l':=(256*f)) (c':=o) J Z (.inl ⟨Z,Z⟩) (.inr ⟨_,_,_,Z,Z,Z⟩) U U U U U U) (H.pick 4 [0] Z) (An [9] J O (Ar (A6 Z Z Z Z Z Z (λw=>call186 _ w) (FU _ _ _ _ _ _ hs a U) H Z ?_)))));rintro _ w _ ⟨rfl,rfl⟩ H;replace H:=H.l4;refine Am (λ_=>(H.pick 4 [0] Z)) (An [14] J O (Ar (k_updA 67 (v:=Aa (((s.start+a).toNat:Nat):Int)) Z (congrArg Aa (by rw[Ac1 U U];omega)) (A6 Z Z Z Z Z Z (λw=>call149 _ w) (FE _ n _ U _ ((s.start+a).toNat) f false _ ((sect (Bx s.epoch q (es.map Prod.fst))++AH s.epoch q (es.map Prod.fst)).take (256*f)) _ (λh q=>by rw[k];exact q.rd U U (by rw[Ab2,Ab7];omega) (by rw[Acm,AcY,Acc (by rw[Ab7];omega),AdO])) k U U) H.f1.f3 Z ?_))));rintro _ w _ ⟨rfl,rfl⟩ H;replace H:=H.l4;refine Am (λ_=>(H.pick 4 [2] Z)) (An [15] J O (Ar (B8 Z Z Z Z (AU Z Z) (Am (λh=>absurd Z h) (AT J (gn (Z0 13 [3,0] Z (Af Z (λh5=>?_) (λh5=>?_)))))))))
 ·replace H:=H.f2;refine AL (Sep z (blk x [V g,Aa s.gen,Aa s.epoch,Aa s.pages,Aa s.start,Aa s.len,Aa s.head,Aa s.seq,Aa a,Aa q,Aa u,.bool false] 249::R)) 12 Z J (A0 H λw c=>?_)
  have H:=c.l4;refine A7 [0,1,2,3,4,6,7] [0,0] J (λ_ hx=>(AS (hx.blk 0 Z) AJ)) (by exact H.pick 4 [0] Z) Z J Z Z (AQ 8 J Z Z J J J Z Z Z (GX Z Z Z (r:=((256*f:Nat):Int)) U U) (H.pick 4 [0] Z) (AQ 9 J Z Z J J J Z Z Z (Bj Z (z:=1) (p:=(256*f)) (q:=(sect (Bx s.epoch q (es.map Prod.fst))++AH s.epoch q (es.map Prod.fst)).length) (o':=256*f) (l':=(256*(1+es.length-f))) (c':=o-256*f) J Z (.inr ⟨_,_,_,Z,Z,Z⟩) (.inl ⟨Z,Z⟩) U U U U U U) (H.pick 4 [0] Z) (An [5] J O (Ar (A6 Z Z Z Z Z Z (λw=>call186 _ w) (FU _ _ _ _ _ _ hs 0 U) H Z ?_)))));rintro _ w _ ⟨rfl,rfl⟩ H;replace H:=H.l4;refine Am (λ_=>(H.pick 4 [0] Z)) (An [10] J O (Ar (k_updA 85 (v:=Aa ((s.start.toNat:Nat):Int)) Z (congrArg Aa (by rw[Int.zero_emod];omega)) (A6 Z Z Z Z Z Z (λw=>call149 _ w) (FE _ n _ U _ (s.start.toNat) (1+es.length-f) false _ ((sect (Bx s.epoch q (es.map Prod.fst))++AH s.epoch q (es.map Prod.fst)).drop (256*f)) _ (λh q=>by rw[a0];exact q.rd (off:=256*f) (l:=256*(1+es.length-f)) U U (by rw[Ab2,Ab7];omega) (by rw[AcY,AcC (by rw[Ab7];omega),AcP (by rw[AcA,Ab7];omega),AeQ])) a0 U U) H.f2.f2 Z ?_))));rintro _ w _ ⟨rfl,rfl⟩ H;replace H:=H.l4;refine Am (λ_=>(H.pick 4 [2] Z)) (An [11] J O (Ar (B8 Z Z Z Z (AU Z Z) (Am (λh=>absurd Z h) (AT J (gn (Z0 15 [4] Z (Ai Z (call189 _) (IH _ _ _ _ _ _ hs ((1+es.length:Nat):Int) U U U U) H.f2 ?_))))))));intro w H;refine Zc 8 Z (Zr Z ?_);subst hf;exact ⟨_,⟨Z,Z⟩,H.pick 4 [0,1,3] Z⟩
 (exfalso;omega)
theorem YD(b c:Nat)(s:Sup)(a q u:Int):Aj 193 [V b] [blk b [V c,Aa s.gen,Aa s.epoch,Aa s.pages,Aa s.start,Aa s.len,Aa s.head,Aa s.seq,Aa a,Aa q,Aa u,.bool false] 249] (λv G=>v=.tuple #[Aa a,Aa q]/\G=[blk b [V c,Aa s.gen,Aa s.epoch,Aa s.pages,Aa s.start,Aa s.len,Aa s.head,Aa s.seq,Aa a,Aa q,Aa u,.bool false] 249]):=by
 intro z R w H;replace H:=H.l1;refine Ac func193 Z ntmps193 Z (Zc 7 Z (Bd (Sep z _) J J H.drew (Fg 10 [8,0,9,0] (λ_ e=>(AS (e.blk 0 Z) AJ)) Z J Z (Bv (λw d=>?_)))));have H:=d.l1;refine gn (Zc 2 Z (Zr Z ?_));exact ⟨_,⟨Z,Z⟩,H.pick 1 [0] Z⟩
theorem YE(b c:Nat)(s:Sup)(a q u:Int):Aj 194 [V b] [blk b [V c,Aa s.gen,Aa s.epoch,Aa s.pages,Aa s.start,Aa s.len,Aa s.head,Aa s.seq,Aa a,Aa q,Aa u,.bool false] 249] (λv G=>v=.tuple #[]/\G=[blk b [V c,Aa s.gen,Aa s.epoch,Aa s.pages,Aa s.start,Aa s.len,Aa s.head,Aa s.seq,Aa a,Aa q,Aa 0,.bool false] 249]):=by
 intro z R w H;replace H:=H.l1;refine Ac func194 Z ntmps194 Z (Z4 14 [10,0,11,0] H Z ?_);intro w H;refine Zf Z ?_;exact ⟨_,⟨Z,Z⟩,H.pick 1 [0] Z⟩
theorem Lr{F:Nat->List UInt8}{a:Nat}{bs:List UInt8}{j i:Nat}(h:i<a\/a+j<=i):EE F a bs j i=F i:=by unfold EE;rw[if_neg U]
theorem KJ(k d:Nat)(s:Sup)(a q u:Int)(n m:Nat)(w:m<=900000000)(o:n<=4096)(F:Nat->List UInt8)(hs:(0<=s.start/\s.start<=1099511627776)/\0<s.len/\s.len<=1099511627776)(l:0<=s.epoch/\s.epoch<4294967296)(p:0<=q/\q<1099511627776)(v:Value)(es:List ImE)(A:Ah)(hA:∀h,A h->rdH 3 v es.length (Bm es) h/\∀e∈es,rdH 1 e.2 240 (e.1.body.map u8) h)(c:∀e∈es,e.1.Ok)(x:1<=es.length/\es.length<=40)(b:∀(j i:Nat) (e f:ImE),j<i->es[j]?=some e->es[i]?=some f->e.1.num≠f.1.num)(t:0<=a/\a<s.len)(y:0<=u/\u+1+es.length<=s.len)(r:s.start+s.len<=n):
  Aj 161 [V k,v] [blk k [V d,Aa s.gen,Aa s.epoch,Aa s.pages,Aa s.start,Aa s.len,Aa s.head,Aa s.seq,Aa a,Aa q,Aa u,.bool false] 249,rdkA d n F m,A] (λv G=>∃(z:Nat->List UInt8) (m2:Nat),((∀i,i<s.start.toNat->z i=F i)/\m2<=m+(1+es.length))/\v=Aa 0/\G=[blk k [V d,Aa s.gen,Aa s.epoch,Aa s.pages,Aa s.start,Aa s.len,Aa s.head,Aa s.seq,Aa ((a+((1+es.length:Nat):Int))%s.len),Aa (q+1),Aa (u+((1+es.length:Nat):Int)),.bool false] 249,rdkA d n z m2,A]):=by
 by_cases h:a+1+es.length<=s.len
 ·exact (LX k d s a q u n m U o F hs l p v es A hA c x b ⟨t.1,h⟩ y r).mono λv Γ g=>⟨_,_,⟨λi hi=>Lr (.inl U),Acv _⟩,g.1,g.2⟩
 exact (Qy k d s a q u n m w o F hs l p v es A hA c x b ⟨t.1,t.2,by omega⟩ y r).mono λv Γ g=>⟨_,_,⟨λi hi=>(Lr (.inl U)).trans (Lr (.inl U)),by omega⟩,g.1,g.2⟩
def B0(x:Sup)(a q:Int):Sup:=⟨x.gen+1,x.epoch,x.pages,x.start,x.len,a,q⟩
set_option maxHeartbeats 2000000 in
theorem SK (ps d f:Nat) (x b:Sup) (a q u:Int) (p:Value) (c:List ImE) (hq:Hp) (o:imP p c hq) (n i:Nat) (a0:i<=900000000) (k:n<=4096) (F:Nat->List UInt8) (t:(0<=b.start/\b.start<=1099511627776)/\0<b.len/\b.len<=1099511627776) (hu:0<=u/\u<=1099511627776) (a1:0<=x.gen/\x.gen<1099511627776) (a2:1<=c.length/\c.length<=1000000) (l:∀e∈c,e.1.num+2<n) (j:(B0 x a q).Ok (n:Int)):Aj 162 [V ps] [blk ps [V d,Aa x.gen,Aa x.epoch,Aa x.pages,Aa x.start,Aa x.len,Aa x.head,Aa x.seq,V f,p,.bool false,.slice none 0 0] 128,blk f [V d,Aa b.gen,Aa b.epoch,Aa b.pages,Aa b.start,Aa b.len,Aa b.head,Aa b.seq,Aa a,Aa q,Aa u,.bool false] 249,rdkA d n F i,poolA hq] (λv G=>v=Aa 0/\G=[blk ps [V d,Aa ((B0 x a q).gen),Aa ((B0 x a q).epoch),Aa ((B0 x a q).pages),Aa ((B0 x a q).start),Aa ((B0 x a q).len),Aa ((B0 x a q).head),Aa ((B0 x a q).seq),V f,.slice none 0 0,.bool false,.slice none 0 0] 128,blk f [V d,Aa b.gen,Aa b.epoch,Aa b.pages,Aa b.start,Aa b.len,Aa b.head,Aa b.seq,Aa a,Aa q,Aa 0,.bool false] 249,rdkA d n (BL (Ev F c) ((B0 x a q).gen%2).toNat (BE (B0 x a q))) (i+c.length+1),poolA hq]):=by
 intro z R w H;replace H:=H.l4;obtain ⟨po,m,rfl⟩:=o.slc;refine Ac func162 Z ntmps162 Z (Z2 27 [10,0,0,9,0,0,0] H Z (Ak 17 Z (λh1=>U) (λh1=>?_)));refine Z2 23 [1,1,0,0,0] H Z (Af Z (λy=>U) (λy=>?_));refine Z2 8 [0,0,0] H Z (Ai Z (call113 _) (HP _ _ _ _) H.f2 ?_);intro w H;refine Za 19 [4,1,1,7] H Z ?_;intro b1 w H;refine Z5 18 [0,0,0,0,0,0,8,2,0] [x.gen+1] H Z U ?_;intro w H;refine Ai Z (call193 _) (YD _ _ b _ _ _) H.f3 ?_;intro w H;refine Z4 22 [5,1,6,1] H Z ?_;intro w H;obtain ⟨s,hs⟩:∃s:Sup,s=B0 x a q:=⟨_,Z⟩;have H':Sep z (blk f [V d,Aa b.gen,Aa b.epoch,Aa b.pages,Aa b.start,Aa b.len,Aa b.head,Aa b.seq,Aa a,Aa q,Aa u,.bool false] 249::blk b1 [Aa s.gen,Aa s.epoch,Aa s.pages,Aa s.start,Aa s.len,Aa s.head,Aa s.seq] 92::rdkA d n F i::blk ps [V d,Aa x.gen,Aa x.epoch,Aa x.pages,Aa x.start,Aa x.len,Aa x.head,Aa x.seq,V f,.slice po c.length m,.bool false,.slice none 0 0] 128::poolA hq::R) w:=by rw[hs];exact H
 clear H;have H:=H'.l5;have g:s.Ok (n:Int):=by rw[hs];exact j
 have a3:s.pages=x.pages:=by rw[hs];rfl
 refine Z2 3 [1,7] H Z (Ai Z (call154 _) (LY _ _ x _ _ _ n _ U k F s g _ c (poolA hq) (λh q=>o.rdA q) (λe r=>(o.2 e r).1) U l) H.f4.f3.f4 ?_);intro w H;refine Z2 19 [4,8,0,0] H Z (Ai Z (call194 _) (YE _ _ b _ _ _) H.f3 ?_);intro w H;refine Zc 8 Z (Zr Z ?_);subst hs;exact ⟨_,⟨Z,Z⟩,H.pick 5 [1,0,2,3] Z⟩
theorem JX(v:Value)(es:List ImE)(A:Ah)(a:∀h,A h->rdH 3 v es.length (Bm es) h/\∀e∈es,rdH 1 e.2 240 (e.1.body.map u8) h)(n:∀e∈es,e.1.Ok)(p:Int)(i:Nat)(m:Img)(l:Option Addr)(f:Nat)(c:es[i]?=some ((m,.slice l 240 f):ImE))(g:m.num=p)(d:∀(j:Nat) (e:ImE),j<i->es[j]?=some e->e.1.num≠p):Aj 83 [v,Aa p] [A] (λv G=>v=.tuple #[.agg #[Aa m.kind,.slice l 240 f],.bool true]/\G=[A]):=by
 intro z R w H;replace H:=H.l1;obtain ⟨ao,t,rfl⟩:=H.sy 0 (λq=>(a _ q).1.slc);have a2:=H.sy 0 (λq=>(a _ q).1.small);have a1:=(AbZ.1 c).1;refine Ac func83 Z ntmps83 Z (Za 2 [] H Z ?_);intro o w H;refine Zc 10 Z ?_;refine Ay (σ:=Nat) (λj=>[(6,Aa (j:Int)),(0,.slice ao es.length t),(1,Aa p),(4,V o)])
   (λj w=>Sep z (blk o [Aa 0,.slice none 0 0] 40::A::R) w/\(j<=i)) (λj=>i-j) 0
   fr_z ⟨H,Acg _⟩ ?_
 clear H;rintro j w ⟨H',s⟩;have H:=H'.l2;have hj:=s;clear s;refine Z0 9 [0] Z (Af Z (λh1=>?_) (λh1=>?_))
 ·refine Zc 5 Z ?_;have b:=Fa (es:=es) (i:=j) U
  refine Zc 3 Z (Ad Z (Aw Z (z:=3) (j:=j) (r:=j*3) J Z Z Z U ((H.rv 1 (λq=>(a _ q).1)).at (A8 b 0 _ Z)) U) (Ad Z (BF Z (k:=0) (r:=j*3) J Z ((H.rv 1 (λq=>(a _ q).1)).at (A8 b 0 _ Z)) Z) (Ad Z (AK Z Z J (AB ((H.rv 1 (λq=>(a _ q).1)).at (A8 b 0 _ Z)))) (Z0 4 [0] Z (Af Z (λh2=>?_) (λh2=>?_))))))
  ·obtain rfl:j=i:=Ada λx=>d j _ U b (by assumption)
   refine Zc 4 Z (Ad Z (Aw Z (z:=3) (j:=j) (r:=j*3) J Z Z Z U ((H.rv 1 (λq=>(a _ q).1)).at (A8 b 0 _ Z)) U) (Ad Z (BF Z (k:=1) (r:=j*3+1) J Z ((H.rv 1 (λq=>(a _ q).1)).at (A8 b 0 _ Z)) Z) (Ad Z (BO Z Z (vs:=[Aa m.kind,.slice l 240 f]) J O (AB (λk u y=>by have h9:=(H.rv 1 (λq=>(a _ q).1)).at (A8 c (1+k) u (by rw[AdT];exact y));rwa[<-Adt] at h9))) (Z4 5 [0] H Z ?_))));intro w H;refine Zl [0,2] H Z ?_;exact ⟨_,⟨Z,Z⟩,H.pick 2 [1] Z⟩
  have a0:j<i:=Nat.lt_of_le_of_ne hj (λe=>by subst e;exact absurd ((congrArg (λe:ImE=>e.1.num) (Aeh (b.symm.trans c))).trans g) (by assumption));refine Z1 8 [] [(j:Int)+1] Z U (gf ?_);intro _ hF;refine ⟨(j+1),hF.cz,⟨H,?_⟩,?_⟩
  ·omega
  omega
 (exfalso;omega)
theorem Qz(ps d:Nat)(x:Sup)(c:Value)(b ov:Value)(p:Int)(hp:0<=p/\p<x.pages)(a:Int)(e:Value)(bs:List UInt8)(B:Ah)(j:∀h,B h->rdH 1 e 240 (bs.map u8) h)(n:a<1\/5<a):Aj 92 [V ps,Aa p,.agg #[Aa a,e]] [blk ps [V d,Aa x.gen,Aa x.epoch,Aa x.pages,Aa x.start,Aa x.len,Aa x.head,Aa x.seq,c,b,.bool true,ov] 128,B] (λv G=>v=Aa 1/\G=[blk ps [V d,Aa x.gen,Aa x.epoch,Aa x.pages,Aa x.start,Aa x.len,Aa x.head,Aa x.seq,c,b,.bool true,ov] 128,B]):=by
 intro z R w H;replace H:=H.l2;obtain ⟨o,m,rfl⟩:=H.sy 1 (λq=>(j _ q).slc);refine Ac func92 Z ntmps92 Z (Za 2 [] H Z ?_);intro l w H;refine Z2 22 [10,1,0,0] H Z (Ak 17 Z (λi=>U) (λi=>?_));refine Z2 10 [1,3,1,0,0] H Z (Af Z (λk=>U) (λk=>?_));refine Z2 9 [0,0,0,0] H Z (Ak 29 Z (λf=>?_) (λf=>?_))
 ·refine Zc 19 Z (Zr Z ?_);exact ⟨_,⟨Z,Z⟩,H.pick 3 [1,2] Z⟩
 refine Z2 5 [0,0,0,0] H Z (Ak 34 Z (λg=>?_) (λg=>?_))
 ·refine Zc 14 Z (Zr Z ?_);exact ⟨_,⟨Z,Z⟩,H.pick 3 [1,2] Z⟩
 (exfalso;omega)
set_option maxHeartbeats 2000000 in
theorem QA (ps c:Nat) (x:Sup) (g:Value) (f ov:Value) (own:List ImE) (hq:Hp) (a:imP ov own hq) (r:own.length=40) (m:Img) (d:m.Ok) (y:m.num<x.pages) (b:∀e∈own,e.1.num≠m.num) (i:Value) (B:Ah) (hB:∀h,B h->rdH 1 i 240 (m.body.map u8) h):Aj 92 [V ps,Aa m.num,.agg #[Aa m.kind,i]] [blk ps [V c,Aa x.gen,Aa x.epoch,Aa x.pages,Aa x.start,Aa x.len,Aa x.head,Aa x.seq,g,f,.bool true,ov] 128,poolA hq,B] (λv G=>v=Aa 16/\G=[blk ps [V c,Aa x.gen,Aa x.epoch,Aa x.pages,Aa x.start,Aa x.len,Aa x.head,Aa x.seq,g,f,.bool true,ov] 128,poolA hq,B]):=by
 intro z R w H;replace H:=H.l3;obtain ⟨oo,o,rfl⟩:=a.slc;obtain ⟨bo,bc,rfl⟩:=H.sy 2 (λq=>(hB _ q).slc);have k:=d.1;have t:=d.2.1;refine Ac func92 Z ntmps92 Z (Za 2 [] H Z ?_);intro b1 w H;refine Z2 22 [10,1,0,0] H Z (Ak 17 Z (λu=>U) (λu=>?_));refine Z2 10 [1,3,1,0,0] H Z (Af Z (λp=>U) (λp=>?_));refine Z2 9 [0,0,0,0] H Z (Ak 29 Z (λj=>U) (λj=>?_));refine Z2 5 [0,0,0,0] H Z (Ak 34 Z (λl=>U) (λl=>?_));refine Z2 17 [1,0,0,4,11,1,0] H Z (Ai Z (call83 _) (EX _ own (poolA hq) (λh q=>a.rdA q) (λe n=>(a.2 e n).1) m.num b) H.f2 ?_);intro w H;refine Za 3 [] H Z ?_;intro b2 w H;refine Z4 19 [0,11,3,0,0] H Z ?_;intro w H;refine Af Z (λs=>?_) (λs=>?_)
 ·refine Zc 6 Z (Zr Z ?_);exact ⟨_,⟨Z,Z⟩,H.pick 5 [3,1,4] Z⟩
 (exfalso;omega)
set_option maxHeartbeats 4000000 in
theorem QB (ps pr:Nat) (x:Sup) (lp:Value) (pv ov:Value) (own:List ImE) (hq:Hp) (p:imP ov own hq) (b4:own.length<=40) (m:Img) (hm:m.Ok) (b6:m.num<x.pages) (i:Nat) (f:Img) (fv:Value) (y:own[i]?=some ((f,fv):ImE)) (a7:f.num=m.num) (u:∀(j:Nat) (e:ImE),j<i->own[j]?=some e->e.1.num≠m.num) (bv:Value) (B:Ah) (hB:∀h,B h->rdH 1 bv 240 (m.body.map u8) h):Aj 92 [V ps,Aa m.num,.agg #[Aa m.kind,bv]] [blk ps [V pr,Aa x.gen,Aa x.epoch,Aa x.pages,Aa x.start,Aa x.len,Aa x.head,Aa x.seq,lp,pv,.bool true,ov] 128,poolA hq,B] (λv G=>∃(s a8:Value) (l:Hp),Bz hq l/\imP s (putI own (m,a8)) l/\v=Aa 0/\G=[blk ps [V pr,Aa x.gen,Aa x.epoch,Aa x.pages,Aa x.start,Aa x.len,Aa x.head,Aa x.seq,lp,pv,.bool true,s] 128,poolA l,B]):=by
 intro z R w H;replace H:=H.l3;obtain ⟨oo,a2,rfl⟩:=p.slc;obtain ⟨bo,bc,rfl⟩:=H.sy 2 (λq=>(hB _ q).slc);have b3:=hm.1;have b5:=hm.2.1;obtain ⟨fo,fc,rfl⟩:Slc fv 240:=by have h9:=(p.2 _ (Ab1 y));have h8:=h9.2.slc;exact h8
 refine Ac func92 Z ntmps92 Z (Za 2 [] H Z ?_);intro b1 w H;refine Z2 22 [10,1,0,0] H Z (Ak 17 Z (λh1=>U) (λh1=>?_));refine Z2 10 [1,3,1,0,0] H Z (Af Z (λh2=>U) (λh2=>?_));refine Z2 9 [0,0,0,0] H Z (Ak 29 Z (λh3=>U) (λh3=>?_));refine Z2 5 [0,0,0,0] H Z (Ak 34 Z (λh4=>U) (λh4=>?_));refine Z2 17 [1,0,0,4,11,1,0] H Z (Ai Z (call83 _) (JX _ own (poolA hq) (λh q=>p.rdA q) (λe he=>(p.2 e he).1) m.num _ _ _ _ y a7 u) H.f2 ?_);intro w H;refine Za 3 [] H Z ?_;intro b2 w H;refine Z4 32 [0,1,2,0] H Z ?_;intro w H;replace H:=(H.nilg 5 1).l6;refine AG Z (AO 0 H Z Z J Bg Z Z (H.rd 5 Z hB) (by intro c9 a9;obtain ⟨b9,_,rfl⟩:=Ab9.1 a9;rfl) U) ?_;rintro v3 w H';have a6:([]++m.body.map u8:List Value)=m.body.map u8:=(by rw[Aco]);rw[a6] at H';have H:=H'.l6;have a4:=H.sy 0 (·.slc);refine Zc 4 Z ?_;obtain ⟨c,d,rfl⟩:=a4;replace H:=H.f2;obtain ⟨r,⟨a,a3⟩,H⟩:=BM H (λh q=>q.rd);replace H:=H.l5;have n:=p.le a;have a1:imeOk r ((m,.slice c 240 d):ImE):=⟨hm,a3⟩;replace H:=H.f2.f3;refine AL (Sep z (blk ps [V pr,Aa x.gen,Aa x.epoch,Aa x.pages,Aa x.start,Aa x.len,Aa x.head,Aa x.seq,lp,pv,.bool true,.slice oo own.length a2] 128::blk b1 [Aa m.kind,.slice bo 240 bc] 40::R)) 15 Z J (A0 H λw H'=>?_);have H:=H'.l5;refine A7 [0,1,2,3,4,5,6,7,8] [11,0,0,1] J (λ_ hx=>(AS (hx.blk 0 Z) (AS (hx.blk 1 Z) AJ))) (by exact H.pick 5 [0,1] Z) Z J Z Z (AQ 9 J Z Z J J J Z Z Z (AW Z Z (out:=[Aa m.kind,.slice c 240 d]) J) (H.pick 5 [0,1] Z) (AQ 10 J Z Z J J J Z Z Z (AW Z Z (out:=[Aa m.num,Aa m.kind,.slice c 240 d]) J) (H.pick 5 [0,1] Z) (An [11] J O (Ar (A6 Z Z Z Z Z Z (λw=>call153 _ w) (Gl _ own (poolA r) (λh q=>n.rdA q) (λe he=>(n.2 e he).1) U m _ _) H.f2 Z ?_)))));rintro a5 w _ ⟨_,rfl,rfl⟩ H;replace H:=H.l6;have g:=H.sy 0 (·.slc);refine Am (λ_=>(H.pick 6 [2,3] Z)) (A7 [12,13] [11] J (λ_ _=>AJ) (by exact H.pick 6 [2,3] Z) Z J Z Z (An [14] J O (Ar (Ca Z Z Z (PQ 2 H Z Z Z Z g.cells g.one J) ?_))));rintro w H;replace H:=H.l6;refine Am (λh=>absurd Z h) (AT J (gn ?_));replace H:=H.f1;obtain ⟨t,⟨b,b0⟩,H⟩:=BM H (λh q=>q.rd);replace H:=H.l5;have a0:imP a5 (putI own ((m,.slice c 240 d):ImE)) t:=imP.put n b a1 b0;refine Zc 7 Z (Zr Z ?_);exact ⟨_,⟨_,_,t,λk o e=>b k o (a k o e),a0,Z,Z⟩,H.pick 5 [1,0,4] Z⟩
theorem SL(ps c:Nat)(x:Sup)(b a ov:Value)(d:Bool)(p:Int)(hp:p<0\/x.pages<=p):Aj 32 [V ps,Aa p] [blk ps [V c,Aa x.gen,Aa x.epoch,Aa x.pages,Aa x.start,Aa x.len,Aa x.head,Aa x.seq,b,a,.bool d,ov] 128] (λv G=>v=.tuple #[.agg #[Aa 0,.slice none 0 0],Aa 2]/\G=[blk ps [V c,Aa x.gen,Aa x.epoch,Aa x.pages,Aa x.start,Aa x.len,Aa x.head,Aa x.seq,b,a,.bool d,ov] 128]):=by
 intro z R w H;replace H:=H.l1;refine Ac func32 Z ntmps32 Z (Za 2 [] H Z ?_);intro g w H;refine Z0 9 [0] Z (Ak 13 Z (λe=>?_) (λe=>?_))
 ·refine Z4 19 [0] H Z ?_;intro w H;refine Zl [0,2] H Z ?_;exact ⟨_,⟨Z,Z⟩,H.pick 2 [1] Z⟩
 refine Z2 10 [1,3,1,0,0] H Z (Af Z (λf=>?_) (λf=>?_))
 ·refine Z4 8 [0] H Z ?_;intro w H;refine Zl [0,2] H Z ?_;exact ⟨_,⟨Z,Z⟩,H.pick 2 [1] Z⟩
 (exfalso;omega)
set_option maxHeartbeats 1000000 in
theorem SM (ps l:Nat) (x:Sup) (r f ov:Value) (n:Bool) (own d:List ImE) (hq:Hp) (b:imP ov own hq) (hI:imP f d hq) (p:Int) (hp:0<=p/\p<x.pages) (i:Nat) (m:Img) (o:Option Addr) (k:Nat) (g:own[i]?=some ((m,.slice o 240 k):ImE)) (c:m.num=p) (a:∀(j:Nat) (e:ImE),j<i->own[j]?=some e->e.1.num≠p):Aj 32 [V ps,Aa p] [blk ps [V l,Aa x.gen,Aa x.epoch,Aa x.pages,Aa x.start,Aa x.len,Aa x.head,Aa x.seq,r,f,.bool n,ov] 128,poolA hq] (λv G=>v=.tuple #[.agg #[Aa m.kind,.slice o 240 k],Aa 0]/\G=[blk ps [V l,Aa x.gen,Aa x.epoch,Aa x.pages,Aa x.start,Aa x.len,Aa x.head,Aa x.seq,r,f,.bool n,ov] 128,poolA hq]):=by
 intro z R w H;replace H:=H.l2;obtain ⟨oo,t,rfl⟩:=b.slc;obtain ⟨po,y,rfl⟩:=hI.slc;refine Ac func32 Z ntmps32 Z (Za 2 [] H Z ?_);intro b1 w H;refine Z0 9 [0] Z (Ak 13 Z (λh1=>U) (λh1=>?_));refine Z2 10 [1,3,1,0,0] H Z (Af Z (λu=>U) (λu=>?_));refine Z2 9 [11,1,0] H Z (Ai Z (call83 _) (JX _ own (poolA hq) (λh q=>b.rdA q) (λe s=>(b.2 e s).1) p _ _ _ _ g c a) H.f2 ?_);intro w H;refine Za 3 [] H Z ?_;intro b2 w H;refine Z4 19 [0,0,2,2] H Z ?_;intro w H;refine Zl [2,2] H Z ?_;exact ⟨_,⟨Z,Z⟩,H.pick 4 [3,1] Z⟩
set_option maxHeartbeats 1000000 in
theorem SN (ps r:Nat) (x:Sup) (u g ov:Value) (s:Bool) (own a:List ImE) (hq:Hp) (c:imP ov own hq) (n:imP g a hq) (p:Int) (hp:0<=p/\p<x.pages) (k:∀e∈own,e.1.num≠p) (i:Nat) (m:Img) (t:Option Addr) (o:Nat) (l:a[i]?=some ((m,.slice t 240 o):ImE)) (f:m.num=p) (b:∀(j:Nat) (e:ImE),j<i->a[j]?=some e->e.1.num≠p):Aj 32 [V ps,Aa p] [blk ps [V r,Aa x.gen,Aa x.epoch,Aa x.pages,Aa x.start,Aa x.len,Aa x.head,Aa x.seq,u,g,.bool s,ov] 128,poolA hq] (λv G=>v=.tuple #[.agg #[Aa m.kind,.slice t 240 o],Aa 0]/\G=[blk ps [V r,Aa x.gen,Aa x.epoch,Aa x.pages,Aa x.start,Aa x.len,Aa x.head,Aa x.seq,u,g,.bool s,ov] 128,poolA hq]):=by
 intro z R w H;replace H:=H.l2;obtain ⟨oo,y,rfl⟩:=c.slc;obtain ⟨po,a0,rfl⟩:=n.slc;refine Ac func32 Z ntmps32 Z (Za 2 [] H Z ?_);intro b1 w H;refine Z0 9 [0] Z (Ak 13 Z (λh1=>U) (λh1=>?_));refine Z2 10 [1,3,1,0,0] H Z (Af Z (λh2=>U) (λh2=>?_));refine Z2 9 [11,1,0] H Z (Ai Z (call83 _) (EX _ own (poolA hq) (λh q=>c.rdA q) (λe d=>(c.2 e d).1) p k) H.f2 ?_);intro w H;refine Za 3 [] H Z ?_;intro b2 w H;refine Z4 20 [0,9,3,0] H Z ?_;intro w H;refine Ai Z (call83 _) (JX _ a (poolA hq) (λh q=>n.rdA q) (λe d=>(n.2 e d).1) p _ _ _ _ l f b) H.f1 ?_;intro w H;refine Z4 22 [1,1,2,2] H Z ?_;intro w H;refine Zl [2,2] H Z ?_;exact ⟨_,⟨Z,Z⟩,H.pick 4 [3,0] Z⟩
set_option maxHeartbeats 1000000 in
theorem SO (ps b:Nat) (x:Sup) (m f ov:Value) (k:Bool) (own a:List ImE) (hq:Hp) (c:imP ov own hq) (j:imP f a hq) (p:Int) (hp:0<=p/\p<x.pages) (g:∀e∈own,e.1.num≠p) (i:∀e∈a,e.1.num≠p) (n l:Nat) (F:Nat->List UInt8) (o:x.pages+2<=n) (u:n<=4096) (s:F (2+p).toNat=List.replicate 256 0):Aj 32 [V ps,Aa p] [blk ps [V b,Aa x.gen,Aa x.epoch,Aa x.pages,Aa x.start,Aa x.len,Aa x.head,Aa x.seq,m,f,.bool k,ov] 128,rdkA b n F l,poolA hq] (λv G=>v=.tuple #[.agg #[Aa 0,.slice none 0 0],Aa 0]/\G=[blk ps [V b,Aa x.gen,Aa x.epoch,Aa x.pages,Aa x.start,Aa x.len,Aa x.head,Aa x.seq,m,f,.bool k,ov] 128,rdkA b n F l,poolA hq]):=by
 intro z R w H;replace H:=H.l3;obtain ⟨oo,r,rfl⟩:=c.slc;obtain ⟨po,y,rfl⟩:=j.slc;refine Ac func32 Z ntmps32 Z (Za 2 [] H Z ?_);intro b1 w H;refine Z0 9 [0] Z (Ak 13 Z (λh1=>U) (λh1=>?_));refine Z2 10 [1,3,1,0,0] H Z (Af Z (λt=>U) (λt=>?_));refine Z2 9 [11,1,0] H Z (Ai Z (call83 _) (EX _ own (poolA hq) (λh q=>c.rdA q) (λe d=>(c.2 e d).1) p g) H.f3 ?_);intro w H;refine Za 3 [] H Z ?_;intro b2 w H;refine Z4 20 [0,9,3,0] H Z ?_;intro w H;refine Ai Z (call83 _) (EX _ a (poolA hq) (λh q=>j.rdA q) (λe d=>(j.2 e d).1) p i) H.f1 ?_;intro w H;refine Z5 24 [1,0,3,0] [2+p] H Z U ?_;intro w H;refine k_updA 51 (v:=Aa (((2+p).toNat:Nat):Int)) Z (congrArg Aa U) (AA Z (call84 _) (Hi _ _ _ _ ((2+p).toNat) U) H.f4 ?_);rintro _ w _ ⟨u9,rfl,rfl⟩ H;replace H:=H.l6;rw[s] at H;refine Z0 21 [4] Z (Ai Z (call85 _) (Ot _ (List.replicate 256 (0:UInt8)) _ (λh q=>q.rd) _ Z) H ?_);intro w H;refine Z4 25 [3,3,2,4] H Z ?_;intro w H;refine Zl [4,2] H Z ?_;exact ⟨_,⟨Z,Z⟩,H.pick 6 [5,1,2] Z⟩
theorem QC(ps a:Nat)(x:Sup)(c:Value)(b ov:Value):Aj 90 [V ps] [blk ps [V a,Aa x.gen,Aa x.epoch,Aa x.pages,Aa x.start,Aa x.len,Aa x.head,Aa x.seq,c,b,.bool true,ov] 128] (λv G=>v=Aa 17/\G=[blk ps [V a,Aa x.gen,Aa x.epoch,Aa x.pages,Aa x.start,Aa x.len,Aa x.head,Aa x.seq,c,b,.bool true,ov] 128]):=by
 intro z R w H;replace H:=H.l1;refine Ac func90 Z ntmps90 Z (Z2 21 [10,0,0] H Z (Zr Z ?_));exact ⟨_,⟨Z,Z⟩,H.pick 1 [0] Z⟩
theorem SP(ps a:Nat)(x:Sup)(c:Value)(b ov:Value):Aj 59 [V ps] [blk ps [V a,Aa x.gen,Aa x.epoch,Aa x.pages,Aa x.start,Aa x.len,Aa x.head,Aa x.seq,c,b,.bool true,ov] 128] (λv G=>v=Aa 17/\G=[blk ps [V a,Aa x.gen,Aa x.epoch,Aa x.pages,Aa x.start,Aa x.len,Aa x.head,Aa x.seq,c,b,.bool true,ov] 128]):=by
 intro z R w H;replace H:=H.l1;refine Ac func59 Z ntmps59 Z (Z2 21 [10,0,0] H Z (Zr Z ?_));exact ⟨_,⟨Z,Z⟩,H.pick 1 [0] Z⟩
theorem Oy(ps a:Nat)(x:Sup)(c:Value)(b ov:Value)(d:Slc ov 0):Aj 97 [V ps] [blk ps [V a,Aa x.gen,Aa x.epoch,Aa x.pages,Aa x.start,Aa x.len,Aa x.head,Aa x.seq,c,b,.bool true,ov] 128] (λv G=>v=Aa 0/\G=[blk ps [V a,Aa x.gen,Aa x.epoch,Aa x.pages,Aa x.start,Aa x.len,Aa x.head,Aa x.seq,c,b,.bool false,.slice none 0 0] 128]):=by
 intro z R w H;replace H:=H.l1;obtain ⟨f,e,rfl⟩:=d;refine Ac func97 Z ntmps97 Z (Z2 30 [10,0,0,11,0,0] H Z (Ai Z (call67 _) (FV _ _ _ _ _ _ _) H ?_));intro w H;refine Z0 17 [3] Z (Zr Z ?_);exact ⟨_,⟨Z,Z⟩,H.pick 1 [0] Z⟩
set_option maxHeartbeats 2000000 in
theorem Oz (ps s pl:Nat) (x b:Sup) (pv ov:Value) (a q u:Int) (own d:List ImE) (hq:Hp) (hO:imP ov own hq) (hI:imP pv d hq) (n m9:Nat) (c1:m9<=800000000) (b6:n<=4096) (F:Nat->List UInt8) (b3:(0<=b.start/\b.start<=1099511627776)/\0<b.len/\b.len<=1099511627776) (a7:0<=b.epoch/\b.epoch<4294967296) (a8:0<=q/\q<1099511627776) (hn:1<=own.length/\own.length<=40) (a9:d.length<=100000) (a5:∀(j i:Nat) (e f:ImE),j<i->own[j]?=some e->own[i]?=some f->e.1.num≠f.1.num) (ha:0<=a/\a<b.len) (c2:b.start+b.len<=n) (hu:0<=u/\u+1+own.length<=b.len):Aj 97 [V ps] [blk ps [V s,Aa x.gen,Aa x.epoch,Aa x.pages,Aa x.start,Aa x.len,Aa x.head,Aa x.seq,V pl,pv,.bool true,ov] 128,blk pl [V s,Aa b.gen,Aa b.epoch,Aa b.pages,Aa b.start,Aa b.len,Aa b.head,Aa b.seq,Aa a,Aa q,Aa u,.bool false] 249,rdkA s n F m9,poolA hq] (λv G=>∃(g:Value) (c:Hp) (F2:Nat->List UInt8) (m2:Nat),Bz hq c/\imP g (Cp d own) c/\(∀i,i<b.start.toNat->F2 i=F i)/\m2<=m9+d.length+50/\v=Aa 0/\G=[blk ps [V s,Aa x.gen,Aa x.epoch,Aa x.pages,Aa x.start,Aa x.len,Aa x.head,Aa x.seq,V pl,g,.bool false,.slice none 0 0] 128,blk pl [V s,Aa b.gen,Aa b.epoch,Aa b.pages,Aa b.start,Aa b.len,Aa b.head,Aa b.seq,Aa ((a+((1+own.length:Nat):Int))%b.len),Aa (q+1),Aa (u+((1+own.length:Nat):Int)),.bool false] 249,rdkA s n F2 m2,poolA c]):=by
 intro z R w H;replace H:=H.l4;obtain ⟨oo,b4,rfl⟩:=hO.slc;obtain ⟨po,b7,rfl⟩:=hI.slc;refine Ac func97 Z ntmps97 Z (Z2 30 [10,0,0,11,0,0] H Z (Ai Z (call67 _) (FV _ _ _ _ _ _ _) H ?_));intro w H;refine Z0 10 [0] Z (Af Z (λh1=>U) (λh1=>?_));refine Z2 9 [8,0,0] H Z (AA Z (call161 _) (KJ _ _ b _ _ _ n _ U b6 _ b3 a7 a8 _ own (poolA hq) (λh q=>hO.rdA q) (λe t=>(hO.2 e t).1) hn a5 ha U U) H.f3.f3.f3 ?_);rintro _ w _ ⟨F2,m2,⟨a6,b9⟩,rfl,rfl⟩ H;refine Z0 30 [4,4] Z ?_;refine Ay (σ:=Nat×Value×Hp) (λ⟨i,g,c⟩=>[(5,Aa (i:Int)),(0,V ps),(2,Aa 0),(3,.slice oo own.length b4)])
   (λ⟨i,g,c⟩ w=>Sep z (blk pl [V s,Aa b.gen,Aa b.epoch,Aa b.pages,Aa b.start,Aa b.len,Aa b.head,Aa b.seq,Aa ((a+((1+own.length:Nat):Int))%b.len),Aa (q+1),Aa (u+((1+own.length:Nat):Int)),.bool false] 249::rdkA s n F2 m2::poolA c::blk ps [V s,Aa x.gen,Aa x.epoch,Aa x.pages,Aa x.start,Aa x.len,Aa x.head,Aa x.seq,V pl,g,.bool false,.slice none 0 0] 128::R) w/\(i<=own.length/\Bz hq c/\imP g (Cp d (own.take i)) c/\(Cp d (own.take i)).length<=100000+i)) (λ⟨i,g,c⟩=>own.length-i) ⟨0,.slice po d.length b7,hq⟩
   fr_z ⟨H,⟨Acg _,λk o e=>e,hI,by first|exact Acg _|simpa [Cp] using a9⟩⟩ ?_
 clear H;rintro ⟨i,g,c⟩ w ⟨H',hI⟩;dsimp only at hI H' ⊢;have H:=H'.l4;obtain ⟨hi,a0,l,c0⟩:=hI;refine Z0 9 [0] Z (Af Z (λh2=>?_) (λh2=>?_))
 ·refine Zc 4 Z ?_;have t:=Fa (es:=own) (i:=i) U
  have a1:=hO.le a0;have a2:=a1.2 _ (Ab1 t);obtain ⟨bo,bc,a3⟩:Slc (own.getD i HQ).2 240:=by have h9:=a2.2.slc;exact h9
  obtain ⟨⟨m,bv⟩,b5⟩:∃e:ImE,own.getD i HQ=e:=⟨_,Z⟩;rw[b5] at t a2 a3;dsimp only at a3;subst a3;obtain ⟨b8,b2,rfl⟩:=l.slc;replace H:=H.f2.f3;refine AL (Sep z (blk ps [V s,Aa x.gen,Aa x.epoch,Aa x.pages,Aa x.start,Aa x.len,Aa x.head,Aa x.seq,V pl,.slice b8 ((Cp d (own.take i)).length) b2,.bool false,.slice none 0 0] 128::poolA c::R)) 13 Z J (A0 H λw H'=>?_);have H:=H'.l4;refine A7 [0,1,2,3,4,5,6] [9,0] J (λ_ hx=>(AS (hx.blk 0 Z) AJ)) (by exact H.pick 4 [0,1] Z) Z J Z Z (AQ 7 J Z Z J J J Z Z Z (Aw Z (z:=3) (j:=i) (r:=i*3) J Z Z Z U ((H.rv 1 (λq=>(a1.rdA q).1)).at (A8 t 0 _ Z)) U) (H.pick 4 [0,1] Z) (AQ 8 J Z Z J J J Z Z Z (BO Z Z (vs:=[Aa m.num,Aa m.kind,.slice bo 240 bc]) J O (λ_ hs k u hk=>(hs.rv 1 (λq=>(a1.rdA q).1)).at (A8 t k u hk))) (H.pick 4 [0,1] Z) (An [9] J O (Ar (A6 Z Z Z Z Z Z (λw=>call153 _ w) (Gl _ (Cp d (own.take i)) (poolA c) (λh q=>l.rdA q) (λe t=>(l.2 e t).1) U m _ _) H.f1 Z ?_)))));rintro a4 w _ ⟨_,rfl,rfl⟩ H;replace H:=H.l5;have y:=H.sy 0 (·.slc);refine Am (λ_=>(H.pick 5 [2,1] Z)) (A7 [10,11] [9] J (λ_ _=>AJ) (by exact H.pick 5 [2,1] Z) Z J Z Z (An [12] J O (Ar (Ca Z Z Z (Mw 2 H Z Z Z Z y.cells y.one J) ?_))));rintro w H;replace H:=H.l5;refine Am (λh=>absurd Z h) (AT J (gn ?_));replace H:=H.f1;obtain ⟨c,⟨p,b0⟩,H⟩:=BM H (λh q=>q.rd);replace H:=H.l4;have b1:imP a4 (putI (Cp d (own.take i)) ((m,.slice bo 240 bc):ImE)) c:=imP.put l p a2 b0;refine Z1 7 [] [(i:Int)+1] Z U ?_;replace H:=H.f1.f1.f3.f3;refine gf ?_;intro _ hF;refine ⟨⟨i+1,a4,c⟩,hF.cz,⟨H,?_⟩,?_⟩
  ·exact ⟨by show i+1<=own.length;omega,λk o e=>p k o (a0 k o e),by rw[Hj t];exact b1,by rw[Hj t];exact Ael (putI_len _ _) U⟩
  (dsimp only;omega)
 refine Zc 2 Z (gx (Zc 8 Z (Zr Z ?_)));rw[show own.take i=own from Ab4 U] at l;exact ⟨_,⟨g,c,F2,m2,a0,l,a6,by omega,Z,Z⟩,H.pick 4 [3,0,1,2] Z⟩
set_option maxHeartbeats 2000000 in
theorem OA (ps t pl:Nat) (x b:Sup) (pv ov:Value) (a q u:Int) (own g:List ImE) (hq:Hp) (hO:imP ov own hq) (hI:imP pv g hq) (n m9:Nat) (c7:m9<=800000000) (a9:n<=4096) (F:Nat->List UInt8) (a6:(0<=b.start/\b.start<=1099511627776)/\0<b.len/\b.len<=1099511627776) (b3:0<=b.epoch/\b.epoch<4294967296) (b4:0<=q/\q<1099511627776) (hn:1<=own.length/\own.length<=40) (b5:g.length<=100000) (a0:∀(j i:Nat) (e f:ImE),j<i->own[j]?=some e->own[i]?=some f->e.1.num≠f.1.num) (ha:0<=a/\a<b.len) (c8:b.start+b.len<=n) (hu:0<=u/\u<=b.len) (a3:b.len<u+1+own.length) (c4:64<=b.len) (c2:0<=x.gen/\x.gen<1099511627776) (b0:1<=g.length/\g.length<=1000000) (c1:∀e∈g,e.1.num+2<n) (b2:(B0 x a q).Ok (n:Int)):Aj 97 [V ps] [blk ps [V t,Aa x.gen,Aa x.epoch,Aa x.pages,Aa x.start,Aa x.len,Aa x.head,Aa x.seq,V pl,pv,.bool true,ov] 128,blk pl [V t,Aa b.gen,Aa b.epoch,Aa b.pages,Aa b.start,Aa b.len,Aa b.head,Aa b.seq,Aa a,Aa q,Aa u,.bool false] 249,rdkA t n F m9,poolA hq] (λv G=>∃(d:Value) (c:Hp) (F2:Nat->List UInt8) (m2:Nat),Bz hq c/\imP d (Cp [] own) c/\(∀i,i<b.start.toNat->F2 i=(BL (Ev F g) ((B0 x a q).gen%2).toNat (BE (B0 x a q))) i)/\m2<=m9+g.length+50/\v=Aa 0/\G=[blk ps [V t,Aa ((B0 x a q).gen),Aa ((B0 x a q).epoch),Aa ((B0 x a q).pages),Aa ((B0 x a q).start),Aa ((B0 x a q).len),Aa ((B0 x a q).head),Aa ((B0 x a q).seq),V pl,d,.bool false,.slice none 0 0] 128,blk pl [V t,Aa b.gen,Aa b.epoch,Aa b.pages,Aa b.start,Aa b.len,Aa b.head,Aa b.seq,Aa ((a+((1+own.length:Nat):Int))%b.len),Aa (q+1),Aa (0+((1+own.length:Nat):Int)),.bool false] 249,rdkA t n F2 m2,poolA c]):=by
 intro z R w H;replace H:=H.l4;obtain ⟨oo,b9,rfl⟩:=hO.slc;obtain ⟨po,c9,rfl⟩:=hI.slc;refine Ac func97 Z ntmps97 Z (Z2 30 [10,0,0,11,0,0] H Z (Ai Z (call67 _) (FV _ _ _ _ _ _ _) H ?_));intro w H;refine Z0 10 [0] Z (Af Z (λh1=>U) (λh1=>?_));refine Z2 9 [8,0,0] H Z (Ai Z (call161 _) (Qx _ _ b _ _ _ n _ _ a6 _ own (poolA hq) (λh q=>hO.rdA q) (λe p=>(hO.2 e p).1) hn a0 U a3) H.f3.f3.f3 ?_);intro w H;refine Z0 14 [3] Z (Ai Z (call162 _) (SK _ _ _ x b _ _ _ _ g _ hI n _ U a9 F a6 U c2 b0 c1 b2) H.f2.f2.f2.f3 ?_);intro w H;refine Z2 16 [3,8,0,0] H Z (AA Z (call161 _) (KJ _ _ b _ _ _ n _ U a9 _ a6 b3 b4 _ own (poolA hq) (λh q=>hO.rdA q) (λe p=>(hO.2 e p).1) hn a0 ha U U) H.f3.f3.f3 ?_);rintro _ w _ ⟨F2,m2,⟨b1,c5⟩,rfl,rfl⟩ H;refine Z0 15 [4] Z ?_;have a8:=imP.nil hq;refine Zc 5 Z ?_;refine Ay (σ:=Nat×Value×Hp) (λ⟨i,d,c⟩=>[(5,Aa (i:Int)),(0,V ps),(2,Aa 0),(3,.slice oo own.length b9)])
   (λ⟨i,d,c⟩ w=>Sep z (blk pl [V t,Aa b.gen,Aa b.epoch,Aa b.pages,Aa b.start,Aa b.len,Aa b.head,Aa b.seq,Aa ((a+((1+own.length:Nat):Int))%b.len),Aa (q+1),Aa (0+((1+own.length:Nat):Int)),.bool false] 249::rdkA t n F2 m2::poolA c::blk ps [V t,Aa ((B0 x a q).gen),Aa ((B0 x a q).epoch),Aa ((B0 x a q).pages),Aa ((B0 x a q).start),Aa ((B0 x a q).len),Aa ((B0 x a q).head),Aa ((B0 x a q).seq),V pl,d,.bool false,.slice none 0 0] 128::R) w/\(i<=own.length/\Bz hq c/\imP d (Cp [] (own.take i)) c/\(Cp [] (own.take i)).length<=100000+i)) (λ⟨i,d,c⟩=>own.length-i) ⟨0,.slice none 0 0,hq⟩
   fr_z ⟨H,⟨Acg _,λk o e=>e,(by simpa [Cp] using a8),by first|exact Acg _|simpa [Cp] using b5⟩⟩ ?_
 clear H;rintro ⟨i,d,c⟩ w ⟨H',hI⟩;dsimp only at hI H' ⊢;have H:=H'.l4;obtain ⟨hi,a1,l,c6⟩:=hI;refine Z0 9 [0] Z (Af Z (λh2=>?_) (λh2=>?_))
 ·refine Zc 4 Z ?_;have p:=Fa (es:=own) (i:=i) U
  have a2:=hO.le a1;have a4:=a2.2 _ (Ab1 p);obtain ⟨bo,bc,a5⟩:Slc (own.getD i HQ).2 240:=by have h9:=a4.2.slc;exact h9
  obtain ⟨⟨m,bv⟩,c0⟩:∃e:ImE,own.getD i HQ=e:=⟨_,Z⟩;rw[c0] at p a4 a5;dsimp only at a5;subst a5;obtain ⟨c3,b8,rfl⟩:=l.slc;replace H:=H.f2.f3;refine AL (Sep z (blk ps [V t,Aa ((B0 x a q).gen),Aa ((B0 x a q).epoch),Aa ((B0 x a q).pages),Aa ((B0 x a q).start),Aa ((B0 x a q).len),Aa ((B0 x a q).head),Aa ((B0 x a q).seq),V pl,.slice c3 ((Cp [] (own.take i)).length) b8,.bool false,.slice none 0 0] 128::poolA c::R)) 13 Z J (A0 H λw H'=>?_);have H:=H'.l4;refine A7 [0,1,2,3,4,5,6] [9,0] J (λ_ hx=>(AS (hx.blk 0 Z) AJ)) (by exact H.pick 4 [0,1] Z) Z J Z Z (AQ 7 J Z Z J J J Z Z Z (Aw Z (z:=3) (j:=i) (r:=i*3) J Z Z Z U ((H.rv 1 (λq=>(a2.rdA q).1)).at (A8 p 0 _ Z)) U) (H.pick 4 [0,1] Z) (AQ 8 J Z Z J J J Z Z Z (BO Z Z (vs:=[Aa m.num,Aa m.kind,.slice bo 240 bc]) J O (λ_ hs k u hk=>(hs.rv 1 (λq=>(a2.rdA q).1)).at (A8 p k u hk))) (H.pick 4 [0,1] Z) (An [9] J O (Ar (A6 Z Z Z Z Z Z (λw=>call153 _ w) (Gl _ (Cp [] (own.take i)) (poolA c) (λh q=>l.rdA q) (λe p=>(l.2 e p).1) U m _ _) H.f1 Z ?_)))));rintro a7 w _ ⟨_,rfl,rfl⟩ H;replace H:=H.l5;have y:=H.sy 0 (·.slc);refine Am (λ_=>(H.pick 5 [2,1] Z)) (A7 [10,11] [9] J (λ_ _=>AJ) (by exact H.pick 5 [2,1] Z) Z J Z Z (An [12] J O (Ar (Ca Z Z Z (Mw 2 H Z Z Z Z y.cells y.one J) ?_))));rintro w H;replace H:=H.l5;refine Am (λh=>absurd Z h) (AT J (gn ?_));replace H:=H.f1;obtain ⟨c,⟨s,b6⟩,H⟩:=BM H (λh q=>q.rd);replace H:=H.l4;have b7:imP a7 (putI (Cp [] (own.take i)) ((m,.slice bo 240 bc):ImE)) c:=imP.put l s a4 b6;refine Z1 7 [] [(i:Int)+1] Z U ?_;replace H:=H.f1.f1.f3.f3;refine gf ?_;intro _ hF;refine ⟨⟨i+1,a7,c⟩,hF.cz,⟨H,?_⟩,?_⟩
  ·exact ⟨by show i+1<=own.length;omega,λk o e=>s k o (a1 k o e),by rw[Hj p];exact b7,by rw[Hj p];exact Ael (putI_len _ _) U⟩
  (dsimp only;omega)
 refine Zc 2 Z (gx (Zc 8 Z (Zr Z ?_)));rw[show own.take i=own from Ab4 U] at l;exact ⟨_,⟨d,c,F2,m2,a1,l,b1,by omega,Z,Z⟩,H.pick 4 [3,0,1,2] Z⟩
def Asc(es:List ImE):Prop:=es.Pairwise λa b=>a.1.num<b.1.num
theorem putI_iff{x e:ImE}:∀{es:List ImE},Asc es->(e∈putI es x↔e=x\/(e∈es/\e.1.num≠x.1.num))
 | [],_=>by simp[putI]
 | y::l,h=>by
  have h2:=Ado.1 h;have ih:=putI_iff (x:=x) (e:=e) h2.2;simp only[putI];by_cases c1:y.1.num<x.1.num
  ·rw[if_pos c1,Acx,ih,Acx]
   constructor
   ·rintro (q|q|q)
    ·subst q;exact .inr ⟨.inl Z,by omega⟩
    ·exact .inl q
    exact .inr ⟨.inr q.1,q.2⟩
   rintro (q|⟨q|q,r⟩)
   ·exact .inr (.inl q)
   ·exact .inl q
   exact .inr (.inr ⟨q,r⟩)
  rw[if_neg c1];by_cases c2:y.1.num=x.1.num
  ·rw[if_pos c2,Acx,Acx]
   constructor
   ·rintro (q|q)
    ·exact .inl q
    have:=h2.1 e q;exact .inr ⟨.inr q,by omega⟩
   rintro (q|⟨q|q,r⟩)
   ·exact .inl q
   ·subst q;exact absurd c2 r
   exact .inr q
  rw[if_neg c2,Acx,Acx];constructor
  ·rintro (q|q|q)
   ·exact .inl q
   ·subst q;exact .inr ⟨.inl Z,c2⟩
   have:=h2.1 e q;exact .inr ⟨.inr q,by omega⟩
  rintro (q|⟨q|q,r⟩)
  ·exact .inl q
  ·exact .inr (.inl q)
  exact .inr (.inr q)
theorem JY{x:ImE}:∀{es:List ImE},Asc es->Asc (putI es x)
 | [],_=>by simp[putI,Asc]
 | y::l,h=>by
  have h2:=Ado.1 h;simp only[putI];by_cases c1:y.1.num<x.1.num
  ·rw[if_pos c1]
   refine Ado.2 ⟨λe a=>?_,JY h2.2⟩;rcases (putI_iff h2.2).1 a with q|q
   ·subst q;exact c1
   exact h2.1 e q.1
  rw[if_neg c1];by_cases c2:y.1.num=x.1.num
  ·rw[if_pos c2]
   exact Ado.2 ⟨λe a=>by have:=h2.1 e a;omega,h2.2⟩
  rw[if_neg c2];refine Ado.2 ⟨λe a=>?_,h⟩;rcases Acx.1 a with q|q
  ·subst q;omega
  have:=h2.1 e q;omega
theorem Asc.one{es:List ImE}(h:Asc es){a b:ImE}(d:a∈es)(f:b∈es)(e:a.1.num=b.1.num):a=b:=by
 induction es with
 | nil=>nomatch d
 | cons y l ih=>
  have c:=Ado.1 h;rcases Acx.1 d with q|q<;>rcases Acx.1 f with r|r
  ·rw[q,r]
  ·have:=c.1 b r;subst q;omega
  ·have:=c.1 a q;subst r;omega
  exact ih c.2 q r
theorem Asc.dis{es:List ImE}(h:Asc es):∀(j i:Nat) (e f:ImE),j<i->es[j]?=some e->es[i]?=some f->e.1.num≠f.1.num:=λj i e f a b g=>by
 unfold Asc at h;rw[AdQ] at h;obtain ⟨d,c⟩:=AbZ.1 b;obtain ⟨k,l⟩:=AbZ.1 g;have:=h j i d k a;rw[c,l] at this;omega
theorem Asc.len{es:List ImE}(h:Asc es){n:Nat}(a:∀e∈es,0<=e.1.num/\e.1.num<n):es.length<=n:=by
 have g:(es.map λe=>e.1.num.toNat).Nodup:=by
  unfold List.Nodup;rw[Adb];exact (AdQ.2 λi j c d b=>by
   have:=(AdQ.1 h) i j c d b;have k:=a _ (Adn c);have m:=a _ (Adn d);omega)
 have:=G8 (s:=es.map λe=>e.1.num.toNat) (l:=List.range n) g (λp hp=>by
  obtain ⟨e,f,rfl⟩:=Ab9.1 hp;have:=a e f;exact Ac5.2 U)
 simpa using this
theorem HT{p:Int}:∀{es:List ImE},(∃e∈es,e.1.num=p)->∃(i:Nat) (e:ImE),es[i]?=some e/\e.1.num=p/\∀(j:Nat) (f:ImE),j<i->es[j]?=some f->f.1.num≠p
 | [],⟨_,h,_⟩=>nomatch h
 | y::l,h=>by
  by_cases c:y.1.num=p
  ·exact ⟨0,y,Z,c,λj f m=>by omega⟩
  obtain ⟨e,he,hp⟩:=h;rcases Acx.1 he with q|q
  ·subst q;exact absurd hp c
  obtain ⟨i,f,b,k,d⟩:=HT (es:=l) ⟨e,q,hp⟩;refine ⟨i+1,f,by simpa using b,k,λj g m a=>?_⟩
  cases j with
  | zero=>simp at a;subst a;exact c
  | succ j=>exact d j g U (by simpa using a)
theorem putN_put{es l:List ImE}(h:Asc es)(d:Asc l):Asc (Cp es l)/\∀e,e∈Cp es l↔e∈l\/(e∈es/\∀f∈l,e.1.num≠f.1.num):=by
 induction l generalizing es with
 | nil=>exact ⟨h,λe=>by simp[Cp]⟩
 | cons y l ih=>
  have b:=Ado.1 d;obtain ⟨c,g⟩:=ih (JY (x:=y) h) b.2;refine ⟨c,λe=>?_⟩;show e∈Cp (putI es y) l↔_;rw[g,putI_iff h,Acx];constructor
  ·rintro (q|⟨q|q,r⟩)
   ·exact .inl (.inr q)
   ·exact .inl (.inl q)
   exact .inr ⟨q.1,λf a=>by
    rcases Acx.1 a with s|s
    ·subst s;exact q.2
    exact r f s⟩
  rintro ((q|q)|⟨q,r⟩)
  ·exact .inr ⟨.inl q,λf a=>by have:=b.1 f a;subst q;omega⟩
  ·exact .inl q
  exact .inr ⟨.inr ⟨q,r y O⟩,λf a=>r f (by simp[a])⟩

def HomeR(pgs:List ImE)(F:Nat->List UInt8)(p:Nat)(x:Pg):Prop:=
 (∃e∈pgs,e.1.num=(p:Int)/\x=DC e.1)\/((∀e∈pgs,e.1.num≠(p:Int))/\((F (2+p)=List.replicate 256 0/\x=Db)\/∃m:Img,m.Ok/\m.num=(p:Int)/\F (2+p)=Es m/\x=DC m))
def OwnR(own:List ImE)(n:Nat)(g:AZ)(k:Nat):Prop:=
 own.length=k/\k<=40/\Asc own/\(∀e∈own,e.1.num<(n:Int))/\∀p:Nat,(∃e∈own,e.1.num=(p:Int)/\g p=some (DC e.1))\/((∀e∈own,e.1.num≠(p:Int))/\g p=none)
theorem OwnR.nil(n:Nat):OwnR [] n CG 0:=⟨Z,by omega,.nil,λ_ h=>(nomatch h),λp=>.inr ⟨λ_ h=>(nomatch h),Z⟩⟩
theorem HomeR.le{a:List ImE}{F b:Nat->List UInt8}{p:Nat}{x:Pg}(h:HomeR a F p x)(e:b (2+p)=F (2+p)):HomeR a b p x:=by
 unfold HomeR at *;rw[e];exact h
theorem HomeR.put{a own:List ImE}{F:Nat->List UInt8}{p n k:Nat}{x:Pg}{g:AZ}{K:Nat->Pg}(h:HomeR a F p (K p))(t:Asc a)(O_:OwnR own n g k)(i:x=Cd K (some (g,k)) p):HomeR (Cp a own) F p x:=by
 obtain ⟨_,_,u,_,l⟩:=O_;obtain ⟨_,j⟩:=putN_put t u;subst i;rcases l p with ⟨e,b,hp,d⟩|⟨c,d⟩
 ·exact .inl ⟨e,(j e).2 (.inl b),hp,by simp[Cd,d]⟩
 have s:Cd K (some (g,k)) p=K p:=by simp[Cd,d]
 rw[s];rcases h with ⟨e,b,hp,i⟩|⟨o,m⟩
 ·exact .inl ⟨e,(j e).2 (.inr ⟨b,λf r=>by rw[hp];exact AdC (c f r)⟩),hp,i⟩
 exact .inr ⟨λe b=>by
  rcases (j e).1 b with q|q
  ·exact c e q
  exact o e q.1,m⟩
theorem HomeR.ck{a:List ImE}{F:Nat->List UInt8}{p n:Nat}{x:Pg}(h:HomeR a F p x)(o:Asc a)(c:∀e∈a,e.1.Ok){g:Nat}(q:g<=1)(y:List UInt8):HomeR [] (BL (Ev F a) g y) p x:=by
 refine .inr ⟨λ_ h=>(nomatch h),?_⟩;rw[upf_other _ _ U,NS];have d:∀m∈a.map Prod.fst,0<=m.num:=λm f=>by
  obtain ⟨e,b,rfl⟩:=Ab9.1 f;exact (c e b).1.1
 rcases h with ⟨e,b,hp,l⟩|⟨k,i⟩
 ·refine .inr ⟨e.1,c e b,hp,?_,l⟩
  have:=Lm (F:=F) (m:=e.1) d (NU (by rw[Adb];exact o)) (AcU b);rwa[hp,show (2+(p:Int)).toNat=2+p by omega] at this
 have j:JT F (a.map Prod.fst) (2+p)=F (2+p):=putQ_off λm f=>by
  obtain ⟨e,b,rfl⟩:=Ab9.1 f;have:=k e b;have r:=(c e b).1.1;omega
 rw[j];exact i
theorem OwnR.put{own:List ImE}{n k:Nat}{g:AZ}(O_:OwnR own n g k)(m:Img)(j:Value)(w:0<=m.num/\m.num<n)(v:¬(g m.num.toNat=none/\40<=k)):OwnR (putI own (m,j)) n (pgSet g m.num.toNat (DC m)) (k+(if (g m.num.toNat).isSome then 0 else 1)):=by
 obtain ⟨s,x,f,o,t⟩:=O_;have r:((m.num.toNat:Nat):Int)=m.num:=by omega
 have i:(putI own (m,j)).length=k+(if (g m.num.toNat).isSome then 0 else 1):=by
  rcases t m.num.toNat with ⟨e,a,hp,d⟩|⟨b,d⟩
  ·rw[d]
   have:∀es:List ImE,Asc es->(∃e∈es,e.1.num=m.num)->(putI es (m,j)).length=es.length:=by
    intro es
    induction es with
    | nil=>rintro _ ⟨_,h,_⟩;nomatch h
    | cons y l ih=>
     rintro ha ⟨e,a,hp⟩;have u:=Ado.1 ha;simp only[putI];by_cases c1:y.1.num<m.num
     ·rw[if_pos c1,Ab3,ih u.2 ⟨e,by
       rcases Acx.1 a with q|q
       ·subst q;omega
       exact q,hp⟩,Ab3]
     rw[if_neg c1];have z:y.1.num=m.num:=by
      rcases Acx.1 a with q|q
      ·subst q;exact hp
      have:=u.1 e q;omega
     rw[if_pos z];rfl
   rw[this own f ⟨e,a,by omega⟩,s];simp
  rw[d];have:∀es:List ImE,(∀e∈es,e.1.num≠m.num)->(putI es (m,j)).length=es.length+1:=by
   intro es
   induction es with
   | nil=>intro _;rfl
   | cons y l ih=>
    intro h;simp only[putI];by_cases c1:y.1.num<m.num
    ·rw[if_pos c1,Ab3,ih (λe a=>h e (by simp[a])),Ab3]
    rw[if_neg c1,if_neg (h y O)];rfl
  rw[this own (λe a=>by have:=b e a;omega),s];simp
 refine ⟨i,?_,JY f,λe a=>?_,λp=>?_⟩
 ·by_cases c:(g m.num.toNat).isSome
  ·rw[if_pos c];omega
  rw[if_neg c];have:g m.num.toNat=none:=by simpa using c
  have:¬40<=k:=λq=>v ⟨this,q⟩;omega
 ·rcases (putI_iff f).1 a with q|q
  ·subst q;exact w.2
  exact o e q.1
 by_cases c:p=m.num.toNat
 ·subst c
  exact .inl ⟨(m,j),(putI_iff f).2 (.inl Z),r.symm,by simp[pgSet]⟩
 have hc:m.num≠(p:Int):=λq=>c U;rcases t p with ⟨e,a,hp,d⟩|⟨b,d⟩
 ·exact .inl ⟨e,(putI_iff f).2 (.inr ⟨a,by show e.1.num≠m.num;omega⟩),hp,by simp[pgSet,c,d]⟩
 exact .inr ⟨λe a=>by
  rcases (putI_iff f).1 a with q|q
  ·subst q;exact hc
  exact b e q.1,by simp[pgSet,c,d]⟩
section
abbrev rsB(ps pr pl:Nat)(x:Sup)(pv:Value)(un:Bool)(ov:Value):Ah:=blk ps [.pointer (some ⟨pr,0,none⟩),.int .i64 x.gen,.int .i64 x.epoch,.int .i64 x.pages,.int .i64 x.start,.int .i64 x.len,.int .i64 x.head,.int .i64 x.seq,.pointer (some ⟨pl,0,none⟩),pv,.bool un,ov] 128
abbrev PC(pl pr:Nat)(s:Sup)(a q u:Int):Ah:=blk pl [.pointer (some ⟨pr,0,none⟩),.int .i64 s.gen,.int .i64 s.epoch,.int .i64 s.pages,.int .i64 s.start,.int .i64 s.len,.int .i64 s.head,.int .i64 s.seq,.int .i64 a,.int .i64 q,.int .i64 u,.bool false] 249
structure RsX where
 pr:Nat
 pl:Nat
 x:Sup
 sl:Sup
 pv:Value
 ov:Value
 own:List ImE
 pgs:List ImE
 F:Nat->List UInt8
 m:Nat
 a:Int
 q:Int
 u:Int
def AaG(own:List ImE)(n:Nat):CV->Prop
 | none=>own=[]
 | some o=>OwnR own n o.1 o.2
structure RsP(dn mb n:Nat)(K:Nat->Pg)(t:CV)(hq:Hp)(X:RsX):Prop where
 hn:16<=n/\n<=1024
 hdn:dn<=4096/\n<=600
 pg:X.x.pages=n
 ok:X.x.Ok (dn:Int)
 sl:X.sl.start=X.x.start/\X.sl.len=X.x.len/\0<=X.sl.epoch/\X.sl.epoch<=1000
 bd:X.m<=5000+700*mb/\X.x.gen<=10+mb/\0<=X.q/\X.q<=10+mb
 la:0<=X.a/\X.a<X.sl.len
 lu:0<=X.u/\X.u<=X.sl.len/\(X.u=0\/X.pgs≠[])
 im:imP X.pv X.pgs hq
 up:Asc X.pgs
 lt:∀e∈X.pgs,e.1.num<(n:Int)
 K:∀p,p<n->HomeR X.pgs X.F p (K p)
 io:imP X.ov X.own hq
 ow:AaG X.own n t
def WJ(ps dn:Nat)(t:CV)(hq:Hp)(X:RsX):List Ah:=[rsB ps X.pr X.pl X.x X.pv t.isSome X.ov,PC X.pl X.pr X.sl X.a X.q X.u,rdkA X.pr dn X.F X.m,poolA hq]
def rsoA(ps dn mb n:Nat)(K:Nat->Pg)(t:CV)(hq:Hp):Ah:=λh=>∃X,RsP dn mb n K t hq X/\seps (WJ ps dn t hq X) h
section
variable{z w:World}{Γ:List Ah}{ps dn mb n:Nat}{K:Nat->Pg}{t:CV}{hq:Hp}
theorem Sep.rso(H:Sep z (rsoA ps dn mb n K t hq::Γ) w):∃X,RsP dn mb n K t hq X/\Sep z (WJ ps dn t hq X++Γ) w:=
 H.into (p:=λX=>RsP dn mb n K t hq X) (As:=λX=>WJ ps dn t hq X) (λ_ q=>q)
theorem Sep.toRso{X:RsX}(H:Sep z Γ w)(b:RsP dn mb n K t hq X)(a:Γ.take 4=WJ ps dn t hq X):Sep z (rsoA ps dn mb n K t hq::Γ.drop 4) w:=
 H.made 4 (λh q=>⟨X,b,by rwa[a] at q⟩)
theorem rsoA.pool{h:Hp}(a:rsoA ps dn mb n K t hq h):Bz hq h:=by
 obtain ⟨X,_,hs⟩:=a;obtain ⟨h',b,c⟩:=Dq hs (i:=3) Z;exact λk o e=>c k o (b k o e)
theorem RsP.box{X:RsX}(P:RsP dn mb n K t hq X):2+(n:Int)<=X.x.start/\X.x.start+X.x.len<=dn/\64<=X.x.len/\(0<=X.x.gen/\X.x.gen<=1099511627776)/\X.x.start<=1099511627776/\X.x.len<=1099511627776:=by
 have a:=P.ok.2;have c:=Sup.get P.ok;have b:=P.pg;omega
theorem RsP.imok{X:RsX}(P:RsP dn mb n K t hq X):∀e∈X.pgs,e.1.Ok:=λe a=>(P.im.2 e a).1
theorem RsP.len{X:RsX}(P:RsP dn mb n K t hq X):X.pgs.length<=600:=by
 have:=P.up.len (n:=n) (λe a=>⟨(P.imok e a).1.1,P.lt e a⟩);have:=P.hdn;omega
theorem YF(ps dn mb n:Nat)(K:Nat->Pg)(hq:Hp):Aj 90 [V ps] [rsoA ps dn mb n K none hq] (λv G=>v=Aa 0/\G=[rsoA ps dn mb n K (some (CG,0)) hq]):=by
 intro z R w H;obtain ⟨X,P,H⟩:=H.rso;refine Ret.mono (Cn.at (LZ ps X.pr X.x _ X.pv X.ov) H 4 [0,1,2,3] Z Z) ?_;rintro v w' ⟨Γ',⟨rfl,rfl⟩,a⟩;exact ⟨_,⟨Z,Z⟩,(a.pick 4 [0,1,2,3] Z).toRso (X:= {X with ov:=.slice none 0 0,own:=[]}) ⟨P.hn,P.hdn,P.pg,P.ok,P.sl,P.bd,P.la,P.lu,P.im,P.up,P.lt,P.K,imP.nil hq,OwnR.nil n⟩ Z⟩
theorem Vv(ps dn mb n:Nat)(K:Nat->Pg)(o:AZ×Nat)(hq:Hp):Aj 90 [V ps] [rsoA ps dn mb n K (some o) hq] (λv G=>v=Aa 17/\G=[rsoA ps dn mb n K (some o) hq]):=by
 intro z R w H;obtain ⟨X,P,H⟩:=H.rso;refine Ret.mono (Cn.at (QC ps X.pr X.x _ X.pv X.ov) H 4 [0,1,2,3] Z Z) ?_;rintro v w' ⟨Γ',⟨rfl,rfl⟩,a⟩;exact ⟨_,⟨Z,Z⟩,(a.pick 4 [0,1,2,3] Z).toRso P Z⟩
theorem YG(ps dn mb n:Nat)(K:Nat->Pg)(t:CV)(hq:Hp):Aj 67 [V ps] [rsoA ps dn mb n K t hq] (λv G=>v=.tuple #[]/\G=[rsoA ps dn mb n K none hq]):=by
 intro z R w H;obtain ⟨X,P,H⟩:=H.rso;refine Ret.mono (Cn.at (FV ps X.pr X.x _ X.pv X.ov t.isSome) H 4 [0,1,2,3] Z Z) ?_;rintro v w' ⟨Γ',⟨rfl,rfl⟩,a⟩;exact ⟨_,⟨Z,Z⟩,(a.pick 4 [0,1,2,3] Z).toRso (X:= {X with ov:=.slice none 0 0,own:=[]}) ⟨P.hn,P.hdn,P.pg,P.ok,P.sl,P.bd,P.la,P.lu,P.im,P.up,P.lt,P.K,imP.nil hq,Z⟩ Z⟩
theorem AaH(ps dn mb n:Nat)(K:Nat->Pg)(hq:Hp):Aj 59 [V ps] [rsoA ps dn mb n K none hq] (λv G=>v=Aa 0/\G=[rsoA ps dn mb n K none hq]):=by
 intro z R w H;obtain ⟨X,P,H⟩:=H.rso;refine Ret.mono (Cn.at (NR ps X.pr X.x _ X.pv X.ov dn X.m X.F) H 4 [0,2,1,3] Z Z) ?_;rintro v w' ⟨Γ',⟨rfl,rfl⟩,a⟩;exact ⟨_,⟨Z,Z⟩,(a.pick 4 [0,2,1,3] Z).toRso P Z⟩
theorem YH(ps dn mb n:Nat)(K:Nat->Pg)(o:AZ×Nat)(hq:Hp):Aj 59 [V ps] [rsoA ps dn mb n K (some o) hq] (λv G=>v=Aa 17/\G=[rsoA ps dn mb n K (some o) hq]):=by
 intro z R w H;obtain ⟨X,P,H⟩:=H.rso;refine Ret.mono (Cn.at (SP ps X.pr X.x _ X.pv X.ov) H 4 [0,1,2,3] Z Z) ?_;rintro v w' ⟨Γ',⟨rfl,rfl⟩,a⟩;exact ⟨_,⟨Z,Z⟩,(a.pick 4 [0,1,2,3] Z).toRso P Z⟩

theorem Vw(ps dn mb n:Nat)(K:Nat->Pg)(o:AZ×Nat)(hq:Hp)(p a:Int)(hp:0<=p/\p<n)(b:Value)(bs:List UInt8)(B:Ah)(f:∀h,B h->rdH 1 b 240 (bs.map u8) h)(e:a<1\/5<a):Aj 92 [V ps,Aa p,.agg #[Aa a,b]] [rsoA ps dn mb n K (some o) hq,B] (λv G=>v=Aa 1/\G=[rsoA ps dn mb n K (some o) hq,B]):=by
 intro z R w H;obtain ⟨X,P,H⟩:=H.rso;have d:=P.pg;refine Ret.mono (Cn.at (Qz ps X.pr X.x _ X.pv X.ov p U a b bs B f e) H 5 [0,4,1,2,3] Z Z) ?_;rintro v w' ⟨Γ',⟨rfl,rfl⟩,c⟩;exact ⟨_,⟨Z,Z⟩,(c.pick 5 [0,2,3,4,1] Z).toRso P Z⟩
theorem Vx(ps dn mb n:Nat)(K:Nat->Pg)(g:AZ)(k:Nat)(hq:Hp)(p:Nat)(hp:p<n)(x:Pg)(d:x.Ok)(b:Value)(B:Ah)(o:∀h,B h->rdH 1 b 240 (x.body.map u8) h)(i:g p=none/\40<=k):Aj 92 [V ps,Aa (p:Int),.agg #[Aa x.kind,b]] [rsoA ps dn mb n K (some (g,k)) hq,B] (λv G=>v=Aa 16/\G=[rsoA ps dn mb n K (some (g,k)) hq,B]):=by
 intro z R w H;obtain ⟨X,P,H⟩:=H.rso;have l:=P.pg;have s:=P.hn;obtain ⟨r,q,t,m,f⟩:OwnR X.own n g k:=P.ow;have a:∀e∈X.own,e.1.num≠(p:Int):=by
  rcases f p with ⟨e,_,_,c⟩|⟨h,_⟩
  ·rw[i.1] at c;cases c
  exact h
 refine Ret.mono (Cn.at (QA ps X.pr X.x _ X.pv X.ov X.own hq P.io U ⟨(p:Int),x.kind,x.body⟩ ⟨⟨by show 0<=(p:Int);omega,by show (p:Int)<=1023;omega⟩,d.1,d.2⟩ (by show (p:Int)<_;omega) a b B o) H 5 [0,3,4,1,2] Z Z) ?_;rintro v w' ⟨Γ',⟨rfl,rfl⟩,j⟩;exact ⟨_,⟨Z,Z⟩,(j.pick 5 [0,3,4,1,2] Z).toRso P Z⟩
theorem YI(ps dn mb n:Nat)(K:Nat->Pg)(g:AZ)(k:Nat)(hq:Hp)(p:Nat)(hp:p<n)(x:Pg)(hx:x.Ok)(r:Value)(B:Ah)(hB:∀h,B h->rdH 1 r 240 (x.body.map u8) h)(hk:¬(g p=none/\40<=k)):Aj 92 [V ps,Aa (p:Int),.agg #[Aa x.kind,r]] [rsoA ps dn mb n K (some (g,k)) hq,B] (λv G=>∃b,v=Aa 0/\G=[rsoA ps dn mb n K (some (pgSet g p x,k+(if (g p).isSome then 0 else 1))) b,B]):=by
 intro z R w H;obtain ⟨X,P,H⟩:=H.rso;have a0:=P.pg;have hn:=P.hn;have O_:OwnR X.own n g k:=P.ow;obtain ⟨ol,a2,oa,a1,og⟩:=id O_;have hm:(⟨(p:Int),x.kind,x.body⟩:Img).Ok:=⟨⟨by show 0<=(p:Int);omega,by show (p:Int)<=1023;omega⟩,hx.1,hx.2⟩;have fin:∀(c d:Value) (b:Hp) (w':World),Bz hq b->imP c (putI X.own (⟨(p:Int),x.kind,x.body⟩,d)) b->Sep z ([rsB ps X.pr X.pl X.x X.pv true c,poolA b,B]++([PC X.pl X.pr X.sl X.a X.q X.u,rdkA X.pr dn X.F X.m]++R)) w'->Sep z ([rsoA ps dn mb n K (some (pgSet g p x,k+(if (g p).isSome then 0 else 1))) b,B]++R) w':=λc d b w' hs s l=>
  (l.pick 5 [0,3,4,1,2] Z).toRso (X:= {X with ov:=c,own:=putI X.own (⟨(p:Int),x.kind,x.body⟩,d)}) ⟨P.hn,P.hdn,P.pg,P.ok,P.sl,P.bd,P.la,P.lu,P.im.le hs,P.up,P.lt,P.K,s,O_.put ⟨(p:Int),x.kind,x.body⟩ _ ⟨by show 0<=(p:Int);omega,by show (p:Int)<n;omega⟩ hk⟩ Z
 rcases og p with ⟨e,he,t,hg⟩|⟨y,hg⟩
 ·obtain ⟨i,f,s,hf,o⟩:=HT ⟨e,he,t⟩
  refine Ret.mono (Cn.at (QB ps X.pr X.x _ X.pv X.ov X.own hq P.io U ⟨(p:Int),x.kind,x.body⟩ hm (by show (p:Int)<_;omega) i f.1 f.2 s hf o r B hB) H 5 [0,3,4,1,2] Z Z) ?_;rintro v w' ⟨Γ',⟨c,d,b,hs,j,rfl,rfl⟩,l⟩;exact ⟨_,⟨b,Z,Z⟩,fin c d b w' hs j l⟩
 refine Ret.mono (Cn.at (II ps X.pr X.x _ X.pv X.ov X.own hq P.io (AdU λq=>hk ⟨hg,by omega⟩) ⟨(p:Int),x.kind,x.body⟩ hm (by show (p:Int)<_;omega) y r B hB) H 5 [0,3,4,1,2] Z Z) ?_;rintro v w' ⟨Γ',⟨c,d,b,hs,j,rfl,rfl⟩,l⟩;exact ⟨_,⟨b,Z,Z⟩,fin c d b w' hs j l⟩
end
end
section
section
variable{z w:World}{Γ:List Ah}{ps dn mb n:Nat}{K:Nat->Pg}{t:CV}{hq:Hp}
theorem curPg_own{own:List ImE}(h:AaG own n t)(p:Nat):(∃e∈own,e.1.num=(p:Int)/\Cd K t p=DC e.1)\/((∀e∈own,e.1.num≠(p:Int))/\Cd K t p=K p):=by
 cases t with
 | none=>
  have h':own=[]:=h;subst h';exact .inr ⟨λ_ h=>(nomatch h),Z⟩
 | some o=>
  obtain ⟨_,_,_,_,d⟩:OwnR own n o.1 o.2:=h;rcases d p with ⟨e,c,hp,b⟩|⟨a,b⟩
  ·exact .inl ⟨e,c,hp,by simp[Cd,b]⟩
  exact .inr ⟨a,by simp[Cd,b]⟩
theorem WK{v:Value}{es:List ImE}(h:imP v es hq){e:ImE}(d:e∈es):∃c b,e=(e.1,.slice c 240 b)/\rdH 1 e.2 e.1.body.length (e.1.body.map u8) hq:=by
 have a:=h.2 e d;obtain ⟨c,b,g⟩:Slc e.2 240:=by have f:=a.2.slc;exact f
 exact ⟨c,b,by rw[<-g],by rw[a.1.2.2];exact a.2⟩
theorem AaI(ps dn mb n:Nat)(K:Nat->Pg)(t:CV)(hq:Hp)(p:Nat)(hp:p<n):Aj 32 [V ps,Aa (p:Int)] [rsoA ps dn mb n K t hq] (λv G=>∃(v2:Value) (b:Hp),rdH 1 v2 (Cd K t p).body.length ((Cd K t p).body.map u8) b/\v=.tuple #[.agg #[Aa (Cd K t p).kind,v2],Aa 0]/\G=[rsoA ps dn mb n K t b]):=by
 intro z R w H;obtain ⟨X,P,H⟩:=H.rso;have a3:=P.pg;have hn:=P.hn;have a4:=P.box;have a1:=P.hdn.1;have a2:=P.hdn.2;rcases curPg_own (K:=K) P.ow p with ⟨e0,a,d,hc⟩|⟨s,hc⟩
 ·obtain ⟨i,e,k,f,c⟩:=HT ⟨e0,a,d⟩
  have r:e=e0:=by
   cases t with
   | none=>have h':X.own=[]:=P.ow;rw[h'] at a;nomatch a
   | some o=>
    obtain ⟨_,_,oa,_⟩:OwnR X.own n o.1 o.2:=P.ow;exact oa.one (Ab1 k) a (by rw[f,d])
  subst r;obtain ⟨bo,bc,h1,h2⟩:=WK P.io a;rw[h1] at k;refine Ret.mono (Cn.at (SM ps X.pr X.x _ X.pv X.ov t.isSome X.own X.pgs hq P.io P.im (p:Int) U i e.1 bo bc k f c) H 4 [0,3,1,2] Z Z) ?_;rintro v w' ⟨Γ',⟨rfl,rfl⟩,l⟩;rw[hc];exact ⟨_,⟨.slice bo 240 bc,hq,by rw[h1] at h2;exact h2,Z,Z⟩,(l.pick 4 [0,2,3,1] Z).toRso P Z⟩
 rw[hc];rcases P.K p hp with ⟨e0,a,d,y⟩|⟨a0,y⟩
 ·obtain ⟨i,e,k,f,c⟩:=HT ⟨e0,a,d⟩
  have r:e=e0:=P.up.one (Ab1 k) a (by rw[f,d]);subst r;obtain ⟨bo,bc,h1,h2⟩:=WK P.im a;rw[h1] at k;refine Ret.mono (Cn.at (SN ps X.pr X.x _ X.pv X.ov t.isSome X.own X.pgs hq P.io P.im (p:Int) U s i e.1 bo bc k f c) H 4 [0,3,1,2] Z Z) ?_;rintro v w' ⟨Γ',⟨rfl,rfl⟩,l⟩;rw[y];exact ⟨_,⟨.slice bo 240 bc,hq,by rw[h1] at h2;exact h2,Z,Z⟩,(l.pick 4 [0,2,3,1] Z).toRso P Z⟩
 rcases y with ⟨hF,y⟩|⟨m,hm,g,hF,y⟩
 ·refine Ret.mono (Cn.at (SO ps X.pr X.x _ X.pv X.ov t.isSome X.own X.pgs hq P.io P.im (p:Int) U s a0 dn X.m X.F U a1 (by rw[show (2+(p:Int)).toNat=2+p by omega];exact hF)) H 4 [0,2,3,1] Z Z) ?_
  rintro v w' ⟨Γ',⟨rfl,rfl⟩,l⟩;rw[y];exact ⟨_,⟨.slice none 0 0,hq,⟨none,0,Z,by simp[Db],by omega,by simp[Db],λj u h=>by simp[Db] at h⟩,Z,Z⟩,(l.pick 4 [0,3,1,2] Z).toRso P Z⟩
 refine Ret.mono (Cn.at (L3 ps X.pr X.x _ X.pv X.ov t.isSome X.own X.pgs hq P.io P.im dn X.m X.F m hm U U (λe f=>by rw[g];exact s e f) (λe f=>by rw[g];exact a0 e f) (by rw[g,show (2+(p:Int)).toNat=2+p by omega];exact hF) (p:Int) g) H 4 [0,2,3,1] Z Z) ?_;rintro v w' ⟨Γ',⟨v2,rfl,rfl⟩,l⟩;obtain ⟨b,⟨hs,hr⟩,H2⟩:=BM (l.pick 5 [3,0,1,2,4] Z) (λh q=>q.rd);rw[y];exact ⟨_,⟨v2,b,by show rdH 1 v2 m.body.length (m.body.map u8) b;rw[hm.2.2];exact hr,Z,Z⟩,(H2.pick 4 [1,3,2,0] Z).toRso (X:=X) ⟨P.hn,P.hdn,P.pg,P.ok,P.sl,P.bd,P.la,P.lu,P.im.le hs,P.up,P.lt,P.K,P.io.le hs,P.ow⟩ Z⟩
theorem YJ(ps dn mb n:Nat)(K:Nat->Pg)(t:CV)(hq:Hp)(p:Int)(hp:p<0\/(n:Int)<=p):Aj 32 [V ps,Aa p] [rsoA ps dn mb n K t hq] (λv G=>v=.tuple #[.agg #[Aa 0,.slice none 0 0],Aa 2]/\G=[rsoA ps dn mb n K t hq]):=by
 intro z R w H;obtain ⟨X,P,H⟩:=H.rso;have b:=P.pg;refine Ret.mono (Cn.at (SL ps X.pr X.x _ X.pv X.ov t.isSome p U) H 4 [0,1,2,3] Z Z) ?_;rintro v w' ⟨Γ',⟨rfl,rfl⟩,a⟩;exact ⟨_,⟨Z,Z⟩,(a.pick 4 [0,1,2,3] Z).toRso P Z⟩

theorem Vy(ps dn mb n:Nat)(K:Nat->Pg)(g:AZ)(k:Nat)(hq:Hp)(b5:mb<=1100000):Aj 97 [V ps] [rsoA ps dn mb n K (some (g,k)) hq] (λv G=>∃b,v=Aa 0/\G=[rsoA ps dn (mb+1) n (Cd K (some (g,k))) none b]):=by
 intro z R w H;obtain ⟨X,P,H⟩:=H.rso;have b6:=P.pg;have hn:=P.hn;have b8:=P.box;have y:=P.hdn.1;have c1:=P.hdn.2;have b9:=P.len;obtain ⟨s1,s2,s3,s4⟩:=P.sl;obtain ⟨b1,b2,b3,b4⟩:=P.bd;obtain ⟨a1,a2⟩:=P.la;obtain ⟨u1,u2,u3⟩:=P.lu;have O_:OwnR X.own n g k:=P.ow;obtain ⟨ol,c0,r,a9,og⟩:=id O_;rcases AdM X.own.length with h0|h0
 ·have a3:X.own=[]:=AdF.1 h0
  refine Ret.mono (Cn.at (Oy ps X.pr X.x _ X.pv X.ov (by have o:=P.io.slc;rw[h0] at o;exact o)) H 4 [0,1,2,3] Z Z) ?_;rintro v w' ⟨Γ',⟨rfl,rfl⟩,H'⟩;exact ⟨_,⟨hq,Z,Z⟩,(H'.pick 4 [0,1,2,3] Z).toRso (X:= {X with ov:=.slice none 0 0,own:=[]}) ⟨P.hn,P.hdn,P.pg,P.ok,P.sl,⟨by show X.m<=_;omega,by show X.x.gen<=_;omega,b3,by show X.q<=_;omega⟩,P.la,P.lu,P.im,P.up,P.lt,λp hp=>by
   have o:=HomeR.put (P.K p hp) P.up O_ Z;rw[a3] at o;exact o,imP.nil hq,Z⟩ Z⟩
 have a4:∃e,e∈X.own:=by
  obtain ⟨e,l,o⟩:=List.exists_cons_of_length_pos h0;exact ⟨e,by rw[o];simp⟩
 have t:=Adz (X.a+((1+X.own.length:Nat):Int)) (show X.sl.len≠0 by omega);have a0:=Adg (X.a+((1+X.own.length:Nat):Int)) (show 0<X.sl.len by omega);have d:∀(c:List ImE),(∀e∈c,e.1.num<(n:Int))->Asc c->∀e∈Cp c X.own,e.1.num<(n:Int):=λc h1 h2 e he=>by
  rcases ((putN_put h2 r).2 e).1 he with q|q
  ·exact a9 e q
  exact h1 e q.1
 have s:∀(c:List ImE),Asc c->Cp c X.own≠[]:=λc h2 q=>by
  obtain ⟨e,he⟩:=a4;have:=((putN_put h2 r).2 e).2 (.inl he);rw[q] at this;nomatch this
 by_cases hfit:X.u+1+X.own.length<=X.sl.len
 ·refine Ret.mono (Cn.at (Oz ps X.pr X.pl X.x X.sl X.pv X.ov X.a X.q X.u X.own X.pgs hq P.io P.im dn X.m U y X.F U U U U U r.dis U U U) H 4 [0,1,2,3] Z Z) ?_
  rintro v w' ⟨Γ',⟨j,b,F2,m2,hs,i,f,a7,rfl,rfl⟩,H'⟩;exact ⟨_,⟨b,Z,Z⟩,(H'.pick 4 [0,1,2,3] Z).toRso (X:=⟨X.pr,X.pl,X.x,X.sl,j,.slice none 0 0,[],Cp X.pgs X.own,F2,m2,(X.a+((1+X.own.length:Nat):Int))%X.sl.len,X.q+1,X.u+((1+X.own.length:Nat):Int)⟩) ⟨P.hn,P.hdn,P.pg,P.ok,P.sl,⟨by show m2<=_;omega,by show X.x.gen<=_;omega,by show 0<=X.q+1;omega,by show X.q+1<=_;omega⟩,⟨t,a0⟩,⟨by show 0<=X.u+((1+X.own.length:Nat):Int);omega,by show X.u+((1+X.own.length:Nat):Int)<=X.sl.len;omega,.inr (s _ P.up)⟩,i,(putN_put P.up r).1,d _ P.lt P.up,λp hp=>(HomeR.put (P.K p hp) P.up O_ Z).le (f _ U),imP.nil b,Z⟩ Z⟩
 have a6:X.pgs≠[]:=by
  rcases u3 with q|q
  ·omega
  exact q
 have b7:1<=X.pgs.length:=List.length_pos_iff.2 a6;have b0:=Sup.get P.ok;have a5:(B0 X.x X.a X.q).Ok (dn:Int):=Sup.ok_mk (by show 0<=X.x.gen+1/\X.x.gen+1<=_;omega) (by show 0<=X.x.epoch/\X.x.epoch<=_;omega) (by show 16<=X.x.pages/\X.x.pages<=1024;omega) (by show 2+X.x.pages<=X.x.start/\X.x.start<=_;omega) (by show 64<=X.x.len/\X.x.len<=_;omega) (by show 0<=X.a/\X.a<X.x.len;omega) (by show 0<=X.q/\X.q<=_;omega) (by show X.x.start<=(dn:Int)-X.x.len/\X.x.len<=(dn:Int);omega);have a8:((B0 X.x X.a X.q).gen%2).toNat<=1:=by
  have:=Adg (B0 X.x X.a X.q).gen (show (0:Int)<2 by omega);omega
 refine Ret.mono (Cn.at (OA ps X.pr X.pl X.x X.sl X.pv X.ov X.a X.q X.u X.own X.pgs hq P.io P.im dn X.m U y X.F U U U U U r.dis U U U U U U U (λe he=>by have:=P.lt e he;omega) a5) H 4 [0,1,2,3] Z Z) ?_;rintro v w' ⟨Γ',⟨j,b,F2,m2,hs,i,f,a7,rfl,rfl⟩,H'⟩;exact ⟨_,⟨b,Z,Z⟩,(H'.pick 4 [0,1,2,3] Z).toRso (X:=⟨X.pr,X.pl,B0 X.x X.a X.q,X.sl,j,.slice none 0 0,[],Cp [] X.own,F2,m2,(X.a+((1+X.own.length:Nat):Int))%X.sl.len,X.q+1,0+((1+X.own.length:Nat):Int)⟩) ⟨P.hn,P.hdn,P.pg,a5,P.sl,⟨by show m2<=_;omega,by show X.x.gen+1<=_;omega,by show 0<=X.q+1;omega,by show X.q+1<=_;omega⟩,⟨t,a0⟩,⟨by show 0<=0+((1+X.own.length:Nat):Int);omega,by show 0+((1+X.own.length:Nat):Int)<=X.sl.len;omega,.inr (s _ .nil)⟩,i,(putN_put .nil r).1,d _ (λ_ h=>(nomatch h)) .nil,λp hp=>(HomeR.put (HomeR.ck (n:=n) (P.K p hp) P.up P.imok a8 _) .nil O_ Z).le (f _ U),imP.nil b,Z⟩ Z⟩
end
end
section
section
variable{P:Program}{o:Oper}{w z:World}{Γ:List Ah}{n:Nat}{ds:List Deferred}{L:List (Nat×Value)}{v:Value}{x y:Operand}
theorem Vz(i:Nat)(H:Sep z Γ w){t e:TypeId}{sz m c j q:Nat}{r:Option Addr}{xs vs:List Value}(l:Γ[i]?=some (grow e sz (.slice r m c) m xs))(ho:o.op=.store t x y)(hx:ev L x=some (FY r q))(hq:j*sz=q)(hy:ev L y=some v)(hv:v.cells=vs.toArray)(h1:∀u∈vs,u.oneCell'=true)
  (hs:(P.info? t).map (·.size)=some vs.length)(hl:vs.length=sz)(hj:j<m){out:List Value}(d:xs.take (j*sz)++vs++xs.drop (j*sz+sz)=out):
  Dv P n ds L o w (λw'=>Sep z (Γ.set i (grow e sz (.slice r m c) m out)) w'):=λa hF=>by
 have a0:xs.length=m*sz:=H.says i l (λh g=>g.len);obtain ⟨g,a1,rest,hu,h3,h4,h5,H2⟩:=H.ungrow i l U;cases hu;have k:i<Γ.length:=(AbZ.1 l).1;have a3:j*sz+sz<=m*sz:=by rw[<-Nat.succ_mul];exact Adx _ hj
 have s:(Γ.set i (blk g (xs++rest) e))[i]?=some (blk g (xs++rest) e):=by rw[Ac4 k]
 have a2:m*sz+(c-m)*sz=c*sz:=by rw[<-Nat.add_mul];congr 1;omega
 obtain ⟨w',hr,H3⟩:=AF (P:=P) (n:=n) (ds:=ds) (L:=L) i H2 (p:=0+q) (vs:=vs) s ho hx hy hv h1 hs (by rw[Ab2,a0,h5,hl];omega) (out:=out++rest) (by
  rw[Adi,<-hq,hl,Acc U,AcC U,<-d];simp only[Ab5]) a hF
 refine ⟨w',hr,?_⟩;rw[Aeo] at H3;have f:out.length=m*sz:=by rw[<-d];simp only[Ab2,Ab8,AcA];omega
 have:=H3.mono i (B:=grow e sz (.slice (some ⟨g,0,none⟩) m c) m out) (by rw[Ac4 k]) (λh b=>blk.grow b h3 h4 (by rw[Ab2,f,h5];omega) (by rw[<-f,AcP];rfl));rw[Aeo] at this;exact this
end
end
end Go.Proofs.YthbbejpbkglmlaaGreatDoor
