/-
  Steps to: Law VolumesIsolated: what is written to one volume is read in no other one. No condition.
-/
import Derived.Test.YtemljpjnhjnncaaGreatDoorPart2
set_option maxRecDepth 100000
set_option linter.unusedSimpArgs false
set_option linter.unusedVariables false
open Go.Proofs.Tryz
namespace Go.Proofs.YtemljpjnhjnncaaGreatDoor
open Go.RowKit
variable{n m i j e g r:Nat}{t s p q:Int}{V:List Value}{B S:List UInt8}{T:TypeId}{L:List (Nat×Value)}{v u y:Value}{z:World}{l:List Int}{R:List Nat}{N:Act->World->Prop}{b c:Bool}{x:Operand}{o:List Oper}{K:Value->World->Prop}{C:Nat->Nat}{P:Program}{F:Nat->Bool}{a:Act}
variable{Γ:List Ai}{h:Hp}{A:Ai}
variable{D:Dsk}
theorem F9(k:Nat)(ns:List Int):(ns.flatMap (Ag k)).length=k*ns.length:=by
 induction ns with
 | nil=>rfl
 | cons x ns ih=>simp only[AeG,Aee,Ah,ih,Aeg];rw[Ago];omega
theorem RM(h:l[i]?=some t):(l.take i).flatMap (Ag n)++Ag n t=(l.take (i+1)).flatMap (Ag n):=by
 rw[AeN,h];simp
theorem Tt(k:Nat)(ns:List Int):∀{j:Nat} {x:Int},ns[j]?=some x->((ns.flatMap (Ag k)).drop (k*j)).take k=Ag k x:=by
 induction ns with
 | nil=>intro j x h;simp at h
 | cons y ys ih=>
  intro j x h
  cases j with
  | zero=>simp at h;subst h;rw[AeG,Nat.mul_zero,Aeu,AeF (Ah k y)]
  | succ j=>
   rw[AeG,show k*(j+1)=(Ag k y).length+k*j by rw[Ah,Ago];omega,Ae6,AeK U,AeQ,show (Ag k y).length+k*j-(Ag k y).length=k*j by omega];exact ih (by simpa using h)
abbrev K5(ns:List Int):List UInt8:=ns.flatMap (Ag 2)
theorem YC(h:l.length=120):(K5 l).length=240:=by rw[F9,h]
theorem Vv(h:B.length=240):((AJ B).drop 0).take 240=B:=by
 unfold AJ;rw[Aeu,AeF h]
theorem Abu(hs:∀t∈l,0<=t/\t<=1000)(h:l[j]?=some t):AX (((K5 l).drop (2*j)).take 2)=t:=by
 rw[Tt 2 l h];have:=hs t (Aec h);exact BV this.1 U U
theorem D5(h:l[i]?=some t):(l.take i).map I++[I t]=(l.take (i+1)).map I:=by
 rw[AeN,h];simp
def DW(lf:Bool):Int:=if lf=true then 1 else 0
theorem Tu(lf:Bool):0<=DW lf/\DW lf<=1:=by cases lf<;>simp[DW]
theorem Abv(lf:Bool):(decide (DW lf=1))=lf:=by cases lf<;>simp[DW]
def Qo(e:Int×Int):List UInt8:=Ag 4 e.1++Ag 2 e.2
abbrev Gm(ks vs:List Int)(i:Nat):List UInt8:=((ks.zip vs).take i).flatMap Qo
theorem Ds(l:List (Int×Int)):(l.flatMap Qo).length=6*l.length:=by
 induction l with
 | nil=>rfl
 | cons x l ih=>simp only[AeG,Aee,Qo,Ah,Aeg] at ih ⊢;omega
theorem Tv{vs:List Int}(a:l[i]?=some t)(b:vs[i]?=some s):(l.zip vs)[i]?=some (t,s):=by
 simp[List.getElem?_zip_eq_some,a,b]
theorem YD{vs:List Int}(a:i<=l.length)(b:i<=vs.length):(Gm l vs i).length=6*i:=by
 rw[Ds,Aex,AfH];omega
theorem YE{vs:List Int}(a:l[i]?=some t)(b:vs[i]?=some s):Gm l vs (i+1)=Gm l vs i++Ag 4 t++Ag 2 s:=by
 unfold Gm;rw[AeN,Tv a b];simp[Qo]
theorem Vw(a vs:List Int):Gm a vs 0=[]:=by simp[Gm]
def Ga(lf:Bool)(ks vs:List Int):List UInt8:=Ag 1 (DW lf)++Ag 1 (ks.length:Int)++Gm ks vs ks.length
def G9(lf:Bool)(ks vs:List Int):List UInt8:=((AJ (Ga lf ks vs)).drop 0).take 240
theorem Gu{lf:Bool}{vs:List Int}(h:l.length=vs.length):(Ga lf l vs).length=2+6*l.length:=by
 unfold Ga;rw[Aee,Aee,Ah,Ah,YD (Aei _) U]
theorem YF{lf:Bool}{vs:List Int}(h:l.length=vs.length)(a:l.length<=8):(G9 lf l vs).length=240:=by
 have:=Gu (lf:=lf) h;unfold G9;rw[Aeu,Aex,AS U];omega
theorem Js{lf:Bool}{vs:List Int}(h:l.length=vs.length)(a:l.length<=8)(hp:n+m<=2+6*l.length):((G9 lf l vs).drop n).take m=((Ga lf l vs).drop n).take m:=by
 have b:=Gu (lf:=lf) h;unfold G9 AJ;rw[Aeu,AfW,AeD,AeE U,AeT U,Aet (by rw[AeM];omega)]
theorem YG{vs:List Int}(h:l.length=vs.length)(a:l.length<=8):AX (((G9 b l vs).drop 0).take 1)=DW b:=by
 rw[Js h a U];have:=Tu b;unfold Ga;rw[Aeu,Aeh,AeF (Ah 1 _)];exact BV this.1 U U
theorem YH{vs:List Int}(h:l.length=vs.length)(a:l.length<=8):AX (((G9 b l vs).drop 1).take 1)=(l.length:Int):=by
 rw[Js h a U];unfold Ga;rw[G7 _ _ (by rw[Ah]) (by rw[Ah])];exact BV U U U
theorem Abw(a vs:List Int):∀{i:Nat} {x y:Int},a[i]?=some x->vs[i]?=some y->∀n,i<n->∃t,(Gm a vs n).drop (6*i)=Ag 4 x++Ag 2 y++t:=by
 intro i x y g h n j;have e:(a.zip vs).take n=(a.zip vs).take i++((a.zip vs).take n).drop i:=by
  have f:((a.zip vs).take n).take i=(a.zip vs).take i:=by rw[AeD,AeE U]
  rw[<-f,AeL]
 have c:((a.zip vs).take n)[i]?=some (x,y):=by rw[AeX,if_pos j,Tv g h]
 have b:=(Aeb.1 c).1;have e2:((a.zip vs).take n).drop i=(x,y)::((a.zip vs).take n).drop (i+1):=by
  rw[AeZ b];congr 1;exact (Aeb.1 c).2
 have k:(((a.zip vs).take i).flatMap Qo).length=6*i:=by
  rw[Ds,Aex];simp at b;simp;omega
 have d:(a.zip vs).take n=(a.zip vs).take i++(x,y)::((a.zip vs).take n).drop (i+1):=by rw[<-e2];exact e
 generalize ((a.zip vs).take n).drop (i+1)=T at d;exact ⟨T.flatMap Qo,by unfold Gm;rw[d,Af1,AfR k,AeG];rfl⟩
theorem Xu(lf:Bool){vs:List Int}(b:l[i]?=some s)(c:vs[i]?=some p):∃t,(Ga lf l vs).drop (2+6*i)=Ag 4 s++(Ag 2 p++t):=by
 have hi:=(Aeb.1 b).1;obtain ⟨t,e⟩:=Abw l vs b c l.length hi;refine ⟨t,?_⟩;have a:(Ag 1 (DW lf)++Ag 1 (l.length:Int)).length=2:=by simp[Ah]
 unfold Ga;rw[Ae6,AeK (by rw[a];omega),AeQ,a,show 2+6*i-2=6*i by omega,e,Aeh]
theorem Abx{vs:List Int}(h:l.length=vs.length)(c:l.length<=8)(a:l[i]?=some s)(f:vs[i]?=some p)(d:0<=s/\s<=1048575):AX (((G9 b l vs).drop (2+6*i)).take 4)=s:=by
 have hi:=(Aeb.1 a).1;rw[Js h c U];obtain ⟨t,e⟩:=Xu b a f;rw[e,AeF (Ah 4 _)];exact BV d.1 U U
theorem Aby{vs:List Int}(h:l.length=vs.length)(c:l.length<=8)(a:l[i]?=some s)(g:vs[i]?=some p)(f:0<=p/\p<=1023):AX (((G9 b l vs).drop (2+6*i+4)).take 2)=p:=by
 have hi:=(Aeb.1 a).1;rw[Js h c U];obtain ⟨t,e⟩:=Xu b a g;have d:(Ga b l vs).drop (2+6*i+4)=((Ga b l vs).drop (2+6*i)).drop 4:=by rw[AhG]
 rw[d,e,AfR (Ah 4 _),AeF (Ah 2 _)];exact BV f.1 U U
theorem Qq{lf:Bool}{vs:List Int}(h:l.length=vs.length)(c:l.length<=8):rz (((G9 lf l vs).drop (2+6*l.length)).take (240-(2+6*l.length)))=0:=by
 have a:=Gu (lf:=lf) h;unfold G9 AJ;rw[Aeu,AfW,AeD,Nat.min_self,<-a,AfR Z];refine LP.2 (λx b=>?_);have:=Afg b;exact (Af3.1 this).2
def Xv:List Value:=List.replicate 48 (.int .i64 0)
theorem LS(a:B.length=256):Cn prog 102 [Y n] [blk n (A5 B t) 167] (λv Γ=>v=.slice (some ⟨n,0,none⟩) 240 240/\Γ=[blk n (A5 B t) 167]):=by
 intro z R w H;refine Ae func102 Z ntmps102 Z (Z0 10 [0] Z (Ab Z (SJ (n':=256) (z:=1) Z J Z Z Z (q:=240) Z Z (by decide) (by decide)) (Zc 4 Z (Zr Z ?_))));exact ⟨_,⟨Z,Z⟩,H⟩
theorem PC(ns:List Int)(p:ns.length=120)(a:∀x∈ns,0<=x/\x<=1000)(e:∀h,A h->rdH 1 y 120 (ns.map I) h):Cn prog 105 [y] [A] (λv Γ=>∃g,v=.tuple #[.slice (some ⟨g,0,none⟩) 240 240,I 0]/\Γ=[blk g (A5 (AJ (K5 ns)) ((2*120:Nat):Int)) 167,A]):=by
 intro z R w H;obtain ⟨ao,k,rfl⟩:=H.sy 0 (λq=>(e _ q).slc);refine Ae func105 Z ntmps105 Z (Z0 19 [4] Z (AR Z (Cb (P:=prog) H Z (zs:=(A5 (AJ []) 0)) J) ?_));rintro _ w ⟨c,rfl,H⟩;refine Zc 11 Z ?_;refine AB (σ:=Nat) (λi=>[(12,I (i:Int)),(4,Y c),(10,.slice ao 120 k),(11,I 120)])
   (λi w=>Sep z (blk c (A5 (AJ ((ns.take i).flatMap (Ag 2))) ((2*i:Nat):Int)) 167::A::R) w/\(i<=120)) (λi=>120-i) 0
   fr_z ⟨(by simpa using H),by omega⟩ ?_
 clear H;rintro i w ⟨s,f⟩;have H:=s.l2;have m:=f;clear f;refine Z0 6 [0] Z (Af Z (λl=>?_) (λl=>?_))
 ·obtain ⟨x,d⟩:∃x,ns[i]?=some x:=⟨_,Aed U⟩;have t:=a x (Aec d)
  refine Zc 6 Z ?_;have b:=(H.rd 1 Z e).at (j:=i) (u:=I x) (by simp[d]);refine Ab Z (Aj Z (z:=1) (j:=i) (r:=i) J Z Z Z U b U) (Ab Z (Ax Z Z J (Ay b)) (Zc 7 Z (z_E_ Z (call99 _) (CX) H ?_)));intro w H;refine Ab Z (AF Z Z) (Zc 2 Z (Af Z (λn=>U) (λn=>?_)));refine Zc 4 Z (z_E_ Z (call100 _) (CG (2*i) 2 x (AS (by first|omega|(simp[Ah,F9,-List.length_flatMap]<;>omega))) U) H ?_);intro w H;rw[show ((2*i+2:Nat):Int)=(((2*(i+1):Nat):Int):Int) from by omega] at H;rw[show Bt (AJ ((ns.take i).flatMap (Ag 2))) (Ag 2 x) (2*i)=AJ ((ns.take i).flatMap (Ag 2)++Ag 2 x) from BE (by first|omega|(simp[Ah,F9,-List.length_flatMap]<;>omega)) (by first|omega|(simp[Ah,F9,-List.length_flatMap]<;>omega))] at H;have H:Sep z (blk c (A5 (AJ ((ns.take i).flatMap (Ag 2)++Ag 2 x)) ((2*(i+1):Nat):Int)) 167::A::R) w:=H;refine Z1 7 [] [(i:Int)+1] Z U (gf ?_);intro _ o;refine ⟨(i+1),o.cz,⟨(by rw[<-RM d];exact H),?_⟩,?_⟩
  ·omega
  omega
 obtain rfl:i=120:=by omega
 refine Zc 2 Z (gx (Zc 3 Z ?_));rw[Aej U] at H;have H:Sep z (blk c (A5 (AJ (K5 ns)) ((2*120:Nat):Int)) 167::A::R) w:=H;refine Zc 1 Z (z_E_ Z (call102 _) (LS (AS (by first|omega|(simp[Ah,F9,-List.length_flatMap]<;>omega)))) H ?_);intro w H;refine Zc 5 Z (Zr Z ?_);exact ⟨_,⟨c,Z,Z⟩,H.perm 2 [0,1] Z Z⟩
theorem Abz(k:Nat)(b o n c:Nat)(xs:List UInt8)(d:∀h,A h->rdH 1 (.slice (some ⟨b,o,none⟩) n c) n (xs.map u8) h)(hn:n<=c)(hk:k<=n)(u:0<k)(ys:List UInt8)(hy:xs.take k=ys)(o2 s c2:Nat)(g:(if c=k then o else o+k)=o2)(e:n-k=s)(f:c-k=c2):Cn prog 165 [Y i,I (k:Int)] [blk i [.slice (some ⟨b,o,none⟩) n c] 258,A] (λv Γ=>v=I (AX ys)/\Γ=[blk i [.slice (some ⟨b,o2,none⟩) s c2] 258,A]):=by
 intro z R w H;subst hy g e f;have a0:=H.sy 1 (λq=>(d _ q).len);have a1:=H.sy 1 (λq=>(d _ q).cap);refine Ae func165 Z ntmps165 Z (Z2 18 [0,0,0] H Z (Ab Z (BL Z (z:=1) (p:=0) (q:=k) (o':=o) (l':=k) (c':=c) J Z (.inl ⟨Z,Z⟩) (.inr ⟨_,_,_,Z,Z,Z⟩) U U U U U U) (Zc 5 Z ?_)));refine AB (σ:=Nat) (λj=>[(15,I (j:Int)),(5,I (AX (xs.take j))),(0,Y i),(1,I (k:Int)),(4,I 0),(13,.slice (some ⟨b,o,none⟩) k c),(14,I (k:Int))])
   (λj w=>Sep z (blk i [.slice (some ⟨b,o,none⟩) n c] 258::A::R) w/\(j<=k)) (λj=>k-j) 0
   (λ_ a=>(a.co Z (by go_num) a.cz)) ⟨H,by omega⟩ ?_
 clear H;rintro j w ⟨H',l⟩;have H:=H'.l2;have y:=l;clear l;refine Z0 6 [0] Z (Af Z (λt=>?_) (λt=>?_))
 ·obtain ⟨x,r⟩:∃x,xs[j]?=some x:=⟨_,Aed U⟩;refine Z1 7 [1,j,o+j] [] Z U (Ab Z (Bg Z Z J (Ay (H.cell 1 Z (λh q=>(d h q).at r)))) (Zc 5 Z (Ab Z (SD Z Z Z (m:=8) Z (by decide)) (Zc 1 Z (Ab Z (Rn Z J Z) (Ab Z (Xg Z Z Z (N5) ⟨by omega,by have:=x.toNat_lt;omega⟩) (Z1 8 [] [(j:Int)+1] Z U (gf ?_))))))));intro _ a;refine ⟨(j+1),(a.co Z (by go_num) (a.co Z (congrArg I (Mx r)) (a.all Z))),⟨H,?_⟩,?_⟩
  ·omega
  omega
 obtain rfl:j=k:=by omega
 refine Zc 2 Z (gx (Z2 10 [0,0,0] H Z (Ab Z (UD Z (z:=1) J Z Z (p:=j) Z U U (o':=if c=j then o else o+j) (l':=n-j) (c':=c-j) (by rw[AeP]) Z Z) (Z4 12 [0,0] H Z ?_))));intro w H;refine Zr Z ?_;exact ⟨_,⟨Z,Z⟩,H⟩
theorem PD(bd:List UInt8)(p:∀h,A h->rdH 1 (.slice (some ⟨n,j,none⟩) 240 e) 240 (bd.map u8) h)(ns:List Int)(a3:ns.length=120)(a:∀x∈ns,0<=x/\x<=1000)(l:bd=K5 ns):Cn prog 163 [.slice (some ⟨n,j,none⟩) 240 e] [A] (λv Γ=>∃u,v=.tuple #[u,.bool true]/\Γ=[grow 3 1 u 120 (ns.map I),A]):=by
 intro z R w H;have a1:=H.sy 0 (λq=>(p _ q).cap);refine Ae func163 Z ntmps163 Z (Za 21 [4] H Z ?_);intro k w H;refine Z4 10 [0] H Z ?_;intro w H;replace H:=(H.nilg 3 1).l3;refine Zc 5 Z ?_;refine AB (σ:=Nat×Value×Nat) (λ⟨i,v,x⟩=>[(12,I (i:Int)),(5,v),(4,Y k)])
   (λ⟨i,v,x⟩ w=>Sep z (grow 3 1 v i ((ns.take i).map I)::blk k [.slice (some ⟨n,x,none⟩) (240-2*i) (e-2*i)] 258::A::R) w/\(i<=120/\(i<120->x=j+2*i))) (λ⟨i,v,x⟩=>120-i) ⟨0,.slice none 0 0,j⟩
   (λ_ c=>(c.co Z (by go_num) c.cz)) ⟨H,⟨by omega,λ_=>rfl⟩⟩ ?_
 clear H;rintro ⟨i,v,x⟩ w ⟨b,hI⟩;dsimp only at hI b ⊢;have H:=b.l3;have sv:=H.sy 0 (·.slc);obtain ⟨a2,s⟩:=hI;refine Z0 6 [0] Z (Af Z (λh1=>?_) (λh1=>?_))
 ·have r:i<120:=by omega
  have o:=s r;obtain ⟨y,f⟩:∃y,ns[i]?=some y:=⟨_,Aed U⟩;have a4:=a y (Aec f);have g:AX ((bd.drop (2*i)).take 2)=y:=by rw[l];exact Abu a f
  refine Zc 6 Z (z_E_ Z (call165 _) (Abz 2 n x (240-2*i) (e-2*i) ((bd.drop (2*i)).take (240-2*i)) (λh q=>by have:=(p h q).cut (lo:=2*i) (m:=240-2*i) (c':=e-2*i) U U U;rw[o];exact this) U U U ((bd.drop (2*i)).take 2) (by rw[AeD,AeE U]) (if e-2*i=2 then x else x+2) (240-2*(i+1)) (e-2*(i+1)) Z U U) H.f2.f2 ?_);intro w H;refine AD 14 (v:=I y) Z (congrArg I g) (Zc 7 Z (z_E_ Z (call99 _) (CX) H ?_));intro w H;refine Ab Z (AF Z Z) (Zc 2 Z (Af Z (λh2=>U) (λh2=>?_)));refine Zc 5 Z (AR Z (AP H Z J BA Z (by decide) (by decide) (out:=[I y]) J) ?_);rintro _ w ⟨b2,rfl,H⟩;refine AR Z (A0 3 H Z Z J BA Z Z (H.rv 0 (·.rd U U O Z)) (by simp[Value.oneCell']) U) ?_;rintro v3 w b;have b:Sep z (blk b2 [I y] 3::blk k [.slice (some ⟨n,(if e-2*i=2 then x else x+2),none⟩) (240-2*(i+1)) (e-2*(i+1))] 258::A::grow 3 1 v3 (i+1) ((ns.take i).map I++[I y])::R) w:=b;have t:((ns.take i).map I++[I y]:List Value)=(ns.take (i+1)).map I:=(D5 f);rw[t] at b;have H:=b.l4;refine Z1 8 [] [(i:Int)+1] Z U ?_;replace H:=H.d.f1.f1.f2;refine gf ?_;intro _ c;refine ⟨⟨i+1,v3,if e-2*i=2 then x else x+2⟩,c.cz,⟨H,?_⟩,?_⟩
  ·refine ⟨by dsimp only;omega,λq=>?_⟩;dsimp only at q ⊢;rw[if_neg U];omega
  omega
 obtain rfl:i=120:=by omega
 refine Zc 2 Z (gx (Zc 10 Z (Zr Z ?_)));rw[Aej U] at H;exact ⟨_,⟨v,Z,Z⟩,H.perm 3 [0,2] Z Z⟩
theorem Tw(lf:Bool){kv vv:Value}(b vs:List Int){B:Ai}(hA:∀h,A h->rdH 1 kv b.length (b.map I) h)(t:∀h,B h->rdH 1 vv vs.length (vs.map I) h)(p:b.length=vs.length)(h8:b.length<=8)(hk:∀x∈b,0<=x/\x<=1048575)(hv:∀y∈vs,0<=y/\y<=1023):Cn prog 217 [.agg #[.bool lf,kv,vv]] [A,B] (λv Γ=>∃pw,v=.tuple #[.slice (some ⟨pw,0,none⟩) 240 240,I 0]/\Γ=[blk pw (A5 (AJ (Ga lf b vs)) ((2+6*b.length:Nat):Int)) 167,A,B]):=by
 intro z R w H;obtain ⟨f,g,rfl⟩:=H.sy 0 (λq=>(hA _ q).slc);obtain ⟨m,l,rfl⟩:=H.sy 1 (λq=>(t _ q).slc);have c:=p;refine Ae func217 Z ntmps217 Z (Za 2 [] H Z ?_);intro e w H;refine Z2 15 [1,0,0,2,0,0,0] H Z (Al 15 Z (λh1=>U) (λh1=>?_));refine Z2 7 [1,0,0,0] H Z (Af Z (λh2=>U) (λh2=>?_));refine Zc 4 Z (AR Z (Cb (P:=prog) H Z (zs:=(A5 (AJ []) 0)) J) ?_);rintro _ w ⟨k,rfl,H⟩;refine Zc 7 Z (Xm (λa w=>Fr 59 [] [(5,I (DW lf)),(0,.agg #[.bool lf,.slice f b.length g,.slice m vs.length l]),(1,Y e),(2,.slice none 0 0),(3,I 0),(4,Y k),(8,.pointer (some ⟨e,1,none⟩)),(9,.slice f b.length g),(10,I (b.length:Int)),(11,.pointer (some ⟨e,2,none⟩)),(12,.slice m vs.length l),(13,I (vs.length:Int)),(14,.bool (decide ((b.length:Int)≠(vs.length:Int)))),(15,.bool false),(16,.pointer (some ⟨e,1,none⟩)),(17,.slice f b.length g),(18,I (b.length:Int)),(19,.bool (decide ((8:Int)<(b.length:Int)))),(20,.bool (decide ((8:Int)<(b.length:Int))))] a/\Sep z (blk k (A5 (AJ ([])) 0) 167::blk e [.bool lf,.slice f b.length g,.slice m vs.length l] 201::A::B::R) w) ?_ ?_)
 ·refine Z2 6 [0,1,0] H Z (Ep Z (λh3=>?_) (λh3=>?_))
  ·refine Zc 3 Z ?_;exact gf λ_ n=>⟨(n.co Z (congrArg I (by simp[DW, *])) (n.all Z)),H⟩
  refine Zc 1 Z ?_;exact gf λ_ n=>⟨(n.co Z (congrArg I (by simp[DW, *])) (n.all Z)),H⟩
 rintro a w ⟨n,H⟩;revert a;refine Zc 3 Z (z_E_ Z (call100 _) (CG 0 1 (DW lf) (AS (by first|omega|(simp[Ah,c,Ds,AfH,-List.length_flatMap]<;>omega))) U) H ?_);intro w H;rw[show Bt (AJ []) (Ag 1 (DW lf)) 0=AJ (Ag 1 (DW lf)) from BE Z (by first|omega|(simp[Ah,c,Ds,AfH,-List.length_flatMap]<;>omega))] at H;have H:Sep z (blk k (A5 (AJ (Ag 1 (DW lf))) 1) 167::blk e [.bool lf,.slice f b.length g,.slice m vs.length l] 201::A::B::R) w:=H;refine Z2 7 [1,1,0] H Z (z_E_ Z (call100 _) (CG 1 1 (b.length:Int) (AS (by first|omega|(simp[Ah,c,Ds,AfH,-List.length_flatMap]<;>omega))) U) H ?_);intro w H;rw[show Bt (AJ (Ag 1 (DW lf))) (Ag 1 (b.length:Int)) 1=AJ (Ag 1 (DW lf)++Ag 1 (b.length:Int)) from BE (by first|omega|(simp[Ah,c,Ds,AfH,-List.length_flatMap]<;>omega)) (by first|omega|(simp[Ah,c,Ds,AfH,-List.length_flatMap]<;>omega))] at H;have H:Sep z (blk k (A5 (AJ (Ag 1 (DW lf)++Ag 1 (b.length:Int))) 2) 167::blk e [.bool lf,.slice f b.length g,.slice m vs.length l] 201::A::B::R) w:=H;refine Z2 12 [1,1,0] H Z ?_;refine AB (σ:=Nat) (λi=>[(32,I (i:Int)),(1,Y e),(4,Y k),(30,.slice f b.length g),(31,I (b.length:Int))])
   (λi w=>Sep z (blk k (A5 (AJ (Ag 1 (DW lf)++Ag 1 (b.length:Int)++Gm b vs i)) ((2+6*i:Nat):Int)) 167::blk e [.bool lf,.slice f b.length g,.slice m vs.length l] 201::A::B::R) w/\(i<=b.length)) (λi=>b.length-i) 0
   fr_z ⟨(by rw[Vw,AeV];exact H),by omega⟩ ?_
 clear H;rintro i w ⟨H',hI⟩;have H:=H'.l4;have a2:=hI;clear hI;refine Z0 6 [0] Z (Af Z (λh4=>?_) (λh4=>?_))
 ·have a0:i<b.length:=by omega
  obtain ⟨x,hx⟩:∃x,b[i]?=some x:=⟨_,Aed a0⟩;obtain ⟨y,o⟩:∃y,vs[i]?=some y:=⟨_,Aed U⟩;have a1:=hk x (Aec hx);have a3:=hv y (Aec o);refine Zc 6 Z ?_;have s:=(H.rd 2 Z hA).at (j:=i) (u:=I x) (by simp[hx]);refine Zc 1 Z (Ab Z (Aj Z (z:=1) (j:=i) (r:=i) J Z Z Z U s U) (Ab Z (Ax Z Z J (Ay s)) (Zc 8 Z (z_E_ Z (call99 _) (CX) H ?_))));intro w H;refine Ab Z (AF Z Z) (Zc 1 Z (Al 40 Z (λh5=>U) (λh5=>?_)));have d:=(H.rd 3 Z t).at (j:=i) (u:=I y) (by simp[o]);refine Z2 3 [2,1,0] H Z (Ab Z (Aj Z (z:=1) (j:=i) (r:=i) J Z Z Z U d U) (Ab Z (Ax Z Z J (Ay d)) (z_E_ Z (call99 _) (CX) H ?_)));intro w H;refine Ab Z (AF Z Z) (Zc 3 Z (Af Z (λh6=>U) (λh6=>?_)));refine Zc 5 Z (z_E_ Z (call100 _) (CG (2+6*i) 4 x (AS (by first|omega|(simp[Ah,c,Ds,AfH,-List.length_flatMap]<;>omega))) U) H ?_);intro w H;rw[show Bt (AJ (Ag 1 (DW lf)++Ag 1 (b.length:Int)++Gm b vs i)) (Ag 4 x) (2+6*i)=AJ (Ag 1 (DW lf)++Ag 1 (b.length:Int)++Gm b vs i++Ag 4 x) from BE (by first|omega|(simp[Ah,c,Ds,AfH,-List.length_flatMap]<;>omega)) (by first|omega|(simp[Ah,c,Ds,AfH,-List.length_flatMap]<;>omega))] at H;have H:Sep z (blk k (A5 (AJ (Ag 1 (DW lf)++Ag 1 (b.length:Int)++Gm b vs i++Ag 4 x)) ((2+6*i+4:Nat):Int)) 167::blk e [.bool lf,.slice f b.length g,.slice m vs.length l] 201::A::B::R) w:=H;refine Zc 3 Z ?_;have d:=(H.rd 3 Z t).at (j:=i) (u:=I y) (by simp[o]);refine Z2 3 [2,1,0] H Z (Ab Z (Aj Z (z:=1) (j:=i) (r:=i) J Z Z Z U d U) (Ab Z (Ax Z Z J (Ay d)) (z_E_ Z (call100 _) (CG (2+6*i+4) 2 y (AS (by first|omega|(simp[Ah,c,Ds,AfH,-List.length_flatMap]<;>omega))) U) H ?_)));intro w H;rw[show ((2+6*i+6:Nat):Int)=(((2+6*(i+1):Nat):Int):Int) from by omega] at H;rw[show Bt (AJ (Ag 1 (DW lf)++Ag 1 (b.length:Int)++Gm b vs i++Ag 4 x)) (Ag 2 y) (2+6*i+4)=AJ (Ag 1 (DW lf)++Ag 1 (b.length:Int)++Gm b vs i++Ag 4 x++Ag 2 y) from BE (by first|omega|(simp[Ah,c,Ds,AfH,-List.length_flatMap]<;>omega)) (by first|omega|(simp[Ah,c,Ds,AfH,-List.length_flatMap]<;>omega))] at H;have H:Sep z (blk k (A5 (AJ (Ag 1 (DW lf)++Ag 1 (b.length:Int)++Gm b vs i++Ag 4 x++Ag 2 y)) ((2+6*(i+1):Nat):Int)) 167::blk e [.bool lf,.slice f b.length g,.slice m vs.length l] 201::A::B::R) w:=H;refine Z1 7 [] [(i:Int)+1] Z U (gf ?_);intro _ n;refine ⟨(i+1),n.cz,⟨(by rw[YE hx o,<-Aeh,<-Aeh];exact H),?_⟩,?_⟩
  ·omega
  omega
 obtain rfl:i=b.length:=by omega
 refine Zc 2 Z (gx (Zc 3 Z ?_));have H:Sep z (blk k (A5 (AJ (Ga lf b vs)) ((2+6*b.length:Nat):Int)) 167::blk e [.bool lf,.slice f b.length g,.slice m vs.length l] 201::A::B::R) w:=H;refine Zc 1 Z (z_E_ Z (call102 _) (LS (AS (by first|omega|(simp[Ah,Gu p]<;>omega)))) H ?_);intro w H;refine Zc 5 Z (Zr Z ?_);exact ⟨_,⟨k,Z,Z⟩,H.perm 4 [0,2,3] Z Z⟩
theorem MB(bd:List UInt8)(hA:∀h,A h->rdH 1 (.slice (some ⟨n,j,none⟩) 240 e) 240 (bd.map u8) h)(lf:Bool)(a vs:List Int)(c:a.length=vs.length)(h8:a.length<=8)(hk:∀x∈a,0<=x/\x<=1048575)(hv:∀y∈vs,0<=y/\y<=1023)(f:bd=G9 lf a vs):Cn prog 176 [.slice (some ⟨n,j,none⟩) 240 e] [A] (λv Γ=>∃v1 v2,v=.tuple #[.agg #[.bool lf,v1,v2],.bool true]/\Γ=[grow 3 1 v1 a.length (a.map I),grow 3 1 v2 a.length (vs.map I),A]):=by
 intro z R w H;replace H:=H.l1;have c5:=H.sy 0 (λq=>(hA _ q).cap);have c4:=Tu lf;have g0:AX ((bd.drop 0).take 1)=DW lf:=by rw[f];exact YG c h8
 have g1:AX ((bd.drop 1).take 1)=(a.length:Int):=by rw[f];exact YH c h8
 refine Ae func176 Z ntmps176 Z (Za 2 [] H Z ?_);intro t w H;refine Za 18 [4] H Z ?_;intro o w H;refine Z4 5 [0] H Z ?_;intro w H;refine z_E_ Z (call165 _) (Cz 1 n j 240 (e) ((bd.drop 0).take 240) (λh q=>by have:=(hA h q).cut (lo:=0) (m:=240) (c':=e) U U U;exact this) U U ((bd.drop 0).take 1) (by rw[AeD,AeE U]) (j+1) 239 (e-1) U U U) H.f2.f1 ?_;intro w H;replace H:=H.l3;refine AD 16 (v:=I (DW lf)) Z (congrArg I g0) (z_E_ Z (call165 _) (Cz 1 n (j+1) 239 ((e-1)) ((bd.drop 1).take 239) (λh q=>by have:=(hA h q).cut (lo:=1) (m:=239) (c':=(e-1)) U U U;exact this) U U ((bd.drop 1).take 1) (by rw[AeD,AeE U]) (j+2) 238 (e-2) U U U) H ?_);intro w H;replace H:=H.l3;refine AD 17 (v:=I (a.length:Int)) Z (congrArg I g1) (Z0 10 [0] Z (Al 20 Z (λh1=>U) (λh1=>?_)));refine Z0 5 [0] Z (Af Z (λh2=>U) (λh2=>?_));refine Z0 6 [0] Z (AD 26 (v:=.bool lf) Z (congrArg Value.bool (Abv lf)) (Za 1 [] H Z ?_));intro l w H;refine Z4 5 [0] H Z ?_;intro w H;replace H:=(H.nilg 3 1).l5;replace H:=(H.nilg 3 1).l6;refine Zc 6 Z ?_;refine AB (σ:=Nat×Value×Value) (λ⟨i,v,u⟩=>[(29,I (i:Int)),(2,Y t),(4,Y o),(7,Y l),(28,I (a.length:Int))])
   (λ⟨i,v,u⟩ w=>Sep z (grow 3 1 u i ((vs.take i).map I)::grow 3 1 v i ((a.take i).map I)::blk l [.bool lf,v,u] 201::blk o [.slice (some ⟨n,(j+(2+6*i)),none⟩) (240-(2+6*i)) (e-(2+6*i))] 258::A::blk t [.bool false,.slice none 0 0,.slice none 0 0] 201::R) w/\(i<=a.length)) (λ⟨i,v,u⟩=>a.length-i) ⟨0,.slice none 0 0,.slice none 0 0⟩
   fr_z ⟨H,AeO _⟩ ?_
 clear H;rintro ⟨i,v,u⟩ w ⟨b,hI⟩;dsimp only at hI b ⊢;have H:=b.l6;have su:=H.sy 0 (·.slc);have sv:=H.sy 1 (·.slc);have c7:=hI;refine Z0 6 [0] Z (Af Z (λh3=>?_) (λh3=>?_))
 ·have c3:i<a.length:=by omega
  obtain ⟨x,g⟩:∃x,a[i]?=some x:=⟨_,Aed c3⟩;obtain ⟨y,hy⟩:∃y,vs[i]?=some y:=⟨_,Aed U⟩;have b9:=hk x (Aec g);have c2:=hv y (Aec hy);have gx:AX ((bd.drop (2+6*i)).take 4)=x:=by rw[f];exact Abx c h8 g hy b9
  have gy:AX ((bd.drop (2+6*i+4)).take 2)=y:=by rw[f];exact Aby c h8 g hy c2
  refine Zc 6 Z (z_E_ Z (call165 _) (Cz 4 n (j+(2+6*i)) (240-(2+6*i)) ((e-(2+6*i))) ((bd.drop (2+6*i)).take (240-(2+6*i))) (λh q=>by have:=(hA h q).cut (lo:=(2+6*i)) (m:=(240-(2+6*i))) (c':=(e-(2+6*i))) U U U;exact this) U U ((bd.drop (2+6*i)).take 4) (by rw[AeD,AeE U]) (j+(2+6*i+4)) (240-(2+6*i+4)) (e-(2+6*i+4)) U U U) H.f4.f4 ?_);intro w H;replace H:=H.l6;refine AD 31 (v:=I x) Z (congrArg I gx) (z_E_ Z (call165 _) (Cz 2 n (j+(2+6*i+4)) (240-(2+6*i+4)) ((e-(2+6*i+4))) ((bd.drop (2+6*i+4)).take (240-(2+6*i+4))) (λh q=>by have:=(hA h q).cut (lo:=(2+6*i+4)) (m:=(240-(2+6*i+4))) (c':=(e-(2+6*i+4))) U U U;exact this) U U ((bd.drop (2+6*i+4)).take 2) (by rw[AeD,AeE U]) (j+(2+6*(i+1))) (240-(2+6*(i+1))) (e-(2+6*(i+1))) U U U) H ?_);intro w H;replace H:=H.l6;refine AD 32 (v:=I y) Z (congrArg I gy) (Zc 8 Z (z_E_ Z (call99 _) (CX) H ?_));intro w H;replace H:=H.l6;refine Ab Z (AF Z Z) (Zc 1 Z (Al 36 Z (λh4=>U) (λh4=>?_)));refine Zc 1 Z (z_E_ Z (call99 _) (CX) H ?_);intro w H;replace H:=H.l6;refine Ab Z (AF Z Z) (Zc 3 Z (Af Z (λh5=>U) (λh5=>?_)));refine Zc 2 Z ?_;replace H:=H.f4;refine Oo (Sep z (blk l [.bool lf,v,u] 201::R)) [11,12,13] 14 Z J (AZ H λw b=>?_);have H:=b.l6;refine Iz 0 Z J J J J Z Z Z (DS Z (k:=1) (r:=1) J Z Z) (H.pick 6 [0] Z) (Iz 1 Z J J J J Z Z Z (Bg Z Z J (λ_ g=>g.cel 0 Z 1 Z)) (H.pick 6 [0] Z) (Iz 2 Z J J J J Z Z Z (Cj Z Z) (H.pick 6 [0] Z) (Iz 5 Z J J J J Z Z Z (DS Z (k:=2) (r:=2) J Z Z) (H.pick 6 [0] Z) (Iz 6 Z J J J J Z Z Z (Bg Z Z J (λ_ g=>g.cel 0 Z 2 Z)) (H.pick 6 [0] Z) (Iz 7 Z J J J J Z Z Z (Cj Z Z) (H.pick 6 [0] Z) (C6 [3,8] J O (JS ?_ ?_)))))))
  ·refine Ca Z Z Z Z (AP H Z J BA Z (by decide) (by decide) (out:=[I x]) J) ?_;rintro _ w ⟨b4,rfl,H⟩;replace H:=H.l7;refine Ar (λ_=>(H.pick 7 [1] Z)) (C6 [4,8] J O (JS ?_ ?_))
   ·refine Ca Z Z Z Z (A0 5 H Z Z J BA Z Z (H.rv 0 (·.rd U U O Z)) (by simp[Value.oneCell']) U) ?_;rintro v5 w b;have b:Sep z (blk b4 [I x] 3::blk l [.bool lf,v,u] 201::blk o [.slice (some ⟨n,(j+(2+6*(i+1))),none⟩) (240-(2+6*(i+1))) (e-(2+6*(i+1)))] 258::A::grow 3 1 u i ((vs.take i).map I)::grow 3 1 v5 (i+1) ((a.take i).map I++[I x])::blk t [.bool false,.slice none 0 0,.slice none 0 0] 201::R) w:=b
    have c1:((a.take i).map I++[I x]:List Value)=(a.take (i+1)).map I:=(D5 g);rw[c1] at b;have H:=b.l7;have a8:=H.sy 5 (·.slc);refine Ar (λ_=>(H.pick 7 [1] Z)) (Iz 10 Z J J J J Z Z Z (DS Z (k:=1) (r:=1) J Z Z) (H.pick 7 [1] Z) (C6 [8] J O (Am (Ca Z Z Z Z (AP H Z J BA Z (by decide) (by decide) (out:=[I y]) J) ?_))));rintro _ w ⟨b6,rfl,H⟩;replace H:=H.l8;refine Ar (λ_=>(H.pick 8 [2] Z)) (C6 [9] J O (Am (Ca Z Z Z Z (A0 5 H Z Z J BA Z Z (H.rv 0 (·.rd U U O Z)) (by simp[Value.oneCell']) U) ?_)));rintro v7 w b;have b:Sep z (blk b6 [I y] 3::blk b4 [I x] 3::blk l [.bool lf,v,u] 201::blk o [.slice (some ⟨n,(j+(2+6*(i+1))),none⟩) (240-(2+6*(i+1))) (e-(2+6*(i+1)))] 258::A::grow 3 1 v7 (i+1) ((vs.take i).map I++[I y])::grow 3 1 v5 (i+1) ((a.take (i+1)).map I)::blk t [.bool false,.slice none 0 0,.slice none 0 0] 201::R) w:=b;have b7:((vs.take i).map I++[I y]:List Value)=(vs.take (i+1)).map I:=(D5 hy);rw[b7] at b;have H:=b.l8;have a9:=H.sy 5 (·.slc);refine Ar (λ_=>(H.pick 8 [2] Z)) (C6 [11] J O (Am (Bi Z Z Z (Lq 2 H Z Z Z Z a8.cells a8.one J) ?_)));rintro w H;replace H:=H.l8;refine Ar (λh=>absurd h (by decide)) (C6 [12] J O (Am (CD Z Z Z Z (DS Z (k:=2) (r:=2) J Z Z) (Ar (λh=>absurd h (by decide)) (C6 [13] J O (Am (Bi Z Z Z (JT 2 H Z Z Z Z a9.cells a9.one J) ?_)))))));rintro w H;replace H:=H.l8;refine Ar (λh=>absurd h (by decide)) (KZ J (gn (Z1 6 [] [(i:Int)+1] Z U ?_)));replace H:=H.f1.d.d.f5.f3.f3.f3.f5.f5;refine gf ?_;intro _ hF;refine ⟨⟨i+1,v5,v7⟩,hF.cz,⟨H,?_⟩,?_⟩
    ·dsimp only;omega
    omega
   refine Ca Z Z Z Z (AP H Z J BA Z (by decide) (by decide) (out:=[I y]) J) ?_;rintro _ w ⟨b8,rfl,H⟩;replace H:=H.l8;refine Ar (λ_=>(H.pick 8 [2] Z)) (C6 [4] J O (Am (Ca Z Z Z Z (A0 6 H Z Z J BA Z Z (H.rv 1 (·.rd U U O Z)) (by simp[Value.oneCell']) U) ?_)));rintro v9 w b;have b:Sep z (blk b8 [I y] 3::blk b4 [I x] 3::blk l [.bool lf,v,u] 201::blk o [.slice (some ⟨n,(j+(2+6*(i+1))),none⟩) (240-(2+6*(i+1))) (e-(2+6*(i+1)))] 258::A::grow 3 1 u i ((vs.take i).map I)::grow 3 1 v9 (i+1) ((a.take i).map I++[I x])::blk t [.bool false,.slice none 0 0,.slice none 0 0] 201::R) w:=b;have c0:((a.take i).map I++[I x]:List Value)=(a.take (i+1)).map I:=(D5 g);rw[c0] at b;have H:=b.l8;have a7:=H.sy 6 (·.slc);refine Ar (λ_=>(H.pick 8 [2] Z)) (Iz 10 Z J J J J Z Z Z (DS Z (k:=1) (r:=1) J Z Z) (H.pick 8 [2] Z) (C6 [9] J O (Am (Ca Z Z Z Z (A0 5 H Z Z J BA Z Z (H.rv 0 (·.rd U U O Z)) (by simp[Value.oneCell']) U) ?_))));rintro a2 w b;have b:Sep z (blk b8 [I y] 3::blk b4 [I x] 3::blk l [.bool lf,v,u] 201::blk o [.slice (some ⟨n,(j+(2+6*(i+1))),none⟩) (240-(2+6*(i+1))) (e-(2+6*(i+1)))] 258::A::grow 3 1 a2 (i+1) ((vs.take i).map I++[I y])::grow 3 1 v9 (i+1) ((a.take (i+1)).map I)::blk t [.bool false,.slice none 0 0,.slice none 0 0] 201::R) w:=b;have a5:((vs.take i).map I++[I y]:List Value)=(vs.take (i+1)).map I:=(D5 hy);rw[a5] at b;have H:=b.l8;have a0:=H.sy 5 (·.slc);refine Ar (λ_=>(H.pick 8 [2] Z)) (C6 [11] J O (Am (Bi Z Z Z (Lq 2 H Z Z Z Z a7.cells a7.one J) ?_)));rintro w H;replace H:=H.l8;refine Ar (λh=>absurd h (by decide)) (C6 [12] J O (Am (CD Z Z Z Z (DS Z (k:=2) (r:=2) J Z Z) (Ar (λh=>absurd h (by decide)) (C6 [13] J O (Am (Bi Z Z Z (JT 2 H Z Z Z Z a0.cells a0.one J) ?_)))))));rintro w H;replace H:=H.l8;refine Ar (λh=>absurd h (by decide)) (KZ J (gn (Z1 6 [] [(i:Int)+1] Z U ?_)));replace H:=H.f1.d.d.f5.f3.f3.f3.f5.f5;refine gf ?_;intro _ hF;refine ⟨⟨i+1,v9,a2⟩,hF.cz,⟨H,?_⟩,?_⟩
   ·dsimp only;omega
   omega
  refine Ca Z Z Z Z (AP H Z J BA Z (by decide) (by decide) (out:=[I y]) J) ?_;rintro _ w ⟨b0,rfl,H⟩;replace H:=H.l7;refine Ar (λ_=>(H.pick 7 [1] Z)) (C6 [3] J O (Am (Ca Z Z Z Z (AP H Z J BA Z (by decide) (by decide) (out:=[I x]) J) ?_)));rintro _ w ⟨b5,rfl,H⟩;replace H:=H.l8;refine Ar (λ_=>(H.pick 8 [2] Z)) (C6 [4] J O (Am (Ca Z Z Z Z (A0 6 H Z Z J BA Z Z (H.rv 0 (·.rd U U O Z)) (by simp[Value.oneCell']) U) ?_)));rintro a1 w b;have b:Sep z (blk b5 [I x] 3::blk b0 [I y] 3::blk l [.bool lf,v,u] 201::blk o [.slice (some ⟨n,(j+(2+6*(i+1))),none⟩) (240-(2+6*(i+1))) (e-(2+6*(i+1)))] 258::A::grow 3 1 u i ((vs.take i).map I)::grow 3 1 a1 (i+1) ((a.take i).map I++[I x])::blk t [.bool false,.slice none 0 0,.slice none 0 0] 201::R) w:=b;have a6:((a.take i).map I++[I x]:List Value)=(a.take (i+1)).map I:=(D5 g);rw[a6] at b;have H:=b.l8;have s:=H.sy 6 (·.slc);refine Ar (λ_=>(H.pick 8 [2] Z)) (Iz 10 Z J J J J Z Z Z (DS Z (k:=1) (r:=1) J Z Z) (H.pick 8 [2] Z) (C6 [9] J O (Am (Ca Z Z Z Z (A0 5 H Z Z J BA Z Z (H.rv 1 (·.rd U U O Z)) (by simp[Value.oneCell']) U) ?_))));rintro a3 w b;have b:Sep z (blk b5 [I x] 3::blk b0 [I y] 3::blk l [.bool lf,v,u] 201::blk o [.slice (some ⟨n,(j+(2+6*(i+1))),none⟩) (240-(2+6*(i+1))) (e-(2+6*(i+1)))] 258::A::grow 3 1 a3 (i+1) ((vs.take i).map I++[I y])::grow 3 1 a1 (i+1) ((a.take (i+1)).map I)::blk t [.bool false,.slice none 0 0,.slice none 0 0] 201::R) w:=b;have a4:((vs.take i).map I++[I y]:List Value)=(vs.take (i+1)).map I:=(D5 hy);rw[a4] at b;have H:=b.l8;have p:=H.sy 5 (·.slc);refine Ar (λ_=>(H.pick 8 [2] Z)) (C6 [11] J O (Am (Bi Z Z Z (Lq 2 H Z Z Z Z s.cells s.one J) ?_)));rintro w H;replace H:=H.l8;refine Ar (λh=>absurd h (by decide)) (C6 [12] J O (Am (CD Z Z Z Z (DS Z (k:=2) (r:=2) J Z Z) (Ar (λh=>absurd h (by decide)) (C6 [13] J O (Am (Bi Z Z Z (JT 2 H Z Z Z Z p.cells p.one J) ?_)))))));rintro w H;replace H:=H.l8;refine Ar (λh=>absurd h (by decide)) (KZ J (gn (Z1 6 [] [(i:Int)+1] Z U ?_)));replace H:=H.f1.d.d.f5.f3.f3.f3.f5.f5;refine gf ?_;intro _ hF;refine ⟨⟨i+1,a1,a3⟩,hF.cz,⟨H,?_⟩,?_⟩
  ·dsimp only;omega
  omega
 obtain rfl:i=a.length:=by omega
 refine Zc 2 Z (gx (Zc 5 Z (z_E_ Z (call166 _) (KT n (j+(2+6*a.length)) (240-(2+6*a.length)) ((e-(2+6*a.length))) ((bd.drop (2+6*a.length)).take (240-(2+6*a.length))) (λh q=>by have:=(hA h q).cut (lo:=(2+6*a.length)) (m:=(240-(2+6*a.length))) (c':=(e-(2+6*a.length))) U U U;exact this) (.inr ⟨by omega,by rw[f];exact Qq c h8,by omega⟩)) H.f4.f4 ?_)));intro w H;replace H:=H.l6;refine Ab Z (AF Z Z) (Zc 2 Z (Af Z (λh6=>?_) (λh6=>?_)))
 ·exact absurd (by rw[f];exact Qq c h8) h6
 refine Z2 5 [4,3] H Z (Az Z Z (Ak 5 H Z Z Z Z (vs:=[.bool lf,v,u]) Z (Ad Z (Ad sv.one (Ad su.one Aw))) J O (out:=[.bool lf,v,u]) Z) ?_);rintro w H;replace H:=H.l6;refine Zc 4 Z (Zl [5,3] H Z ?_);have e1:a.take a.length=a:=Ae7;have e2:vs.take a.length=vs:=by rw[c];exact Ae7
 rw[e1,e2] at H;exact ⟨_,⟨v,u,Z,Z⟩,H.perm 6 [3,2,1] Z Z⟩
def C4(C:Nat->Nat)(n:Nat):List Value:=(List.range n).map λk=>.int .i64 (C k:Int)
abbrev Cf(bn:Nat)(C:Nat->Nat)(n:Nat):Ai:=blk bn (C4 C n) 3
abbrev coB(pc bn n m:Nat):Ai:=blk pc [.slice (some ⟨bn,0,none⟩) n n,.map (some m)] 175
def updN(C:Nat->Nat)(p x:Nat):Nat->Nat:=λq=>if q=p then x else C q
theorem CW(C:Nat->Nat)(n:Nat):(C4 C n).length=n:=by simp[C4]
theorem cnL_at(C:Nat->Nat)(h:m<n):(C4 C n)[m]?=some (I (C m:Int)):=by simp[C4,h]
theorem Jt{x:Nat}(h:m<n)(c:t=(x:Int)):(C4 C n).take m++[I t]++(C4 C n).drop (m+1)=C4 (updN C m x) n:=by
 subst c;have e:=Afa (l:=C4 C n) (i:=m) (a:=I (x:Int));rw[if_pos (by rw[CW];exact h)] at e;rw[Aeh,List.singleton_append,<-e];refine Afq λj=>?_;rw[Afo];rcases Aeq j n with b|b
 ·rw[cnL_at (updN C m x) b]
  split
  ·rename_i e1;subst e1;rw[if_pos (by rw[CW];exact h)];simp[updN]
  rename_i e1;rw[cnL_at C b];simp[updN,AfS e1]
 rw[AeI (by rw[CW];exact b),AeI (by rw[CW];exact b)];split
 ·rename_i e1;subst e1;rw[if_neg (by rw[CW];omega)]
 rfl
structure WasOk(C C0:Nat->Nat)(n:Nat)(l:List IE)(clk:Nat):Prop where
 clk:∀p∈l,p.2.2<clk
 born:(l.map λp:IE=>p.2.2).Nodup
 keys:(l.map λp:IE=>p.1).Nodup
 ent:∀p∈l,∃k:Nat,p.1=(k:Int)/\k<n/\p.2.1=.int .i64 (C0 k:Int)
 rest:∀k,k<n->(∀p∈l,p.1≠(k:Int))->C k=C0 k
theorem WasOk.nil(C:Nat->Nat)(n clk:Nat):WasOk C C n [] clk:=⟨by simp,by simp,by simp,by simp,λ_ _ _=>rfl⟩
theorem MC:∀{l:List IE} {k:Int},CO l k=none->∀p∈l,p.1≠k
 | [],_,_,p,h=>by simp at h
 | q::l,k,h,p,hp=>by
  simp only[CO] at h;split at h
  ·cases h
  rename_i hne;rcases Aen.1 hp with rfl|hp
  ·exact λe=>hne e.symm
  exact MC h p hp
theorem MD:∀{l:List IE} {k:Int} {v:Value},CO l k=some v->∃p∈l,p.1=k/\p.2.1=v
 | [],_,_,h=>by simp[CO] at h
 | q::l,k,v,h=>by
  simp only[CO] at h;split at h
  ·rename_i e;simp at h;exact ⟨q,by simp,e.symm,h⟩
  obtain ⟨p,hp,h1,h2⟩:=MD h;exact ⟨p,by simp[hp],h1,h2⟩
theorem Oq:∀{l:List IE} {p:IE},(l.map λp:IE=>p.1).Nodup->p∈l->CO l p.1=some p.2.1
 | [],p,_,h=>by simp at h
 | q::l,p,hn,h=>by
  simp only[AeJ,Afi] at hn;simp only[CO];rcases Aen.1 h with rfl|h
  ·simp
  rw[if_neg (λe=>hn.1 (by rw[<-e];exact Aek.2 ⟨p,h,Z⟩))];exact Oq hn.2 h
theorem WasOk.has{C0:Nat->Nat}{clk p:Nat}{l:List IE}(W:WasOk C C0 n l clk)(h:CP l (p:Int)=true)(x:Nat):WasOk (updN C p x) C0 n l clk:=by
 refine ⟨W.clk,W.born,W.keys,W.ent,λk d a=>?_⟩;unfold updN;split
 ·rename_i e;subst e
  obtain ⟨v,b⟩:=Ae8.1 h;obtain ⟨q,hq,c,_⟩:=MD b;exact absurd c (a q hq)
 exact W.rest k d a
theorem WasOk.put{C0:Nat->Nat}{clk p:Nat}{l:List IE}(W:WasOk C C0 n l clk)(hp:p<n)(h:CP l (p:Int)=false)(x:Nat):
  WasOk (updN C p x) C0 n (E4 l (p:Int) (I (C p:Int)) clk) (putC l (p:Int) clk):=by
 have d:∀q∈l,q.1≠(p:Int):=MC (by unfold CP at h;simpa using h);have e1:E4 l (p:Int) (I (C p:Int)) clk=l++[((p:Int),I (C p:Int),clk)]:=by unfold E4;rw[h];rfl
 have e2:putC l (p:Int) clk=clk+1:=by unfold putC;rw[h];rfl
 have i:C p=C0 p:=W.rest p hp d;rw[e1,e2];refine ⟨λq hq=>?_,?_,?_,λq hq=>?_,λk j c=>?_⟩
 ·rcases Aep.1 hq with hq|hq
  ·have:=W.clk q hq;omega
  simp at hq;subst hq;simp
 ·rw[AeH,Ae9]
  refine ⟨W.born,by simp,λa g b f=>?_⟩;simp at f;subst f;obtain ⟨q,hq,rfl⟩:=Aek.1 g;have:=W.clk q hq;omega
 ·rw[AeH,Ae9]
  refine ⟨W.keys,by simp,λa g b f=>?_⟩;simp at f;subst f;obtain ⟨q,hq,rfl⟩:=Aek.1 g;exact d q hq
 ·rcases Aep.1 hq with hq|hq
  ·exact W.ent q hq
  simp at hq;subst hq;exact ⟨p,Z,hp,by rw[i]⟩
 unfold updN;split
 ·rename_i e;subst e
  exact absurd Z (c ((k:Int),I (C k:Int),clk) O)
 exact W.rest k j (λq hq=>c q (by simp[hq]))
theorem WasOk.len{C0:Nat->Nat}{clk:Nat}{l:List IE}(W:WasOk C C0 n l clk):l.length<=n:=by
 have h:=Jr (s:=l.map λp:IE=>p.1) (l:=(List.range n).map λk:Nat=>(k:Int)) W.keys (λx c=>by
  obtain ⟨p,hp,rfl⟩:=Aek.1 c;obtain ⟨k,a,b,_⟩:=W.ent p hp;rw[a];exact Aek.2 ⟨k,AfQ.2 b,Z⟩)
 simpa using h
def manyN(n:Nat):Nat:=(n+119)/120
def Ev(C:Nat->Nat)(n i:Nat):List Int:=(List.range 120).map λk=>if 120*i+k<n then (C (120*i+k):Int) else 0
theorem Ju(C:Nat->Nat)(n i:Nat):(Ev C n i).length=120:=by simp[Ev]
theorem Tx(h:∀k,C k<=1000):∀x∈Ev C n i,0<=x/\x<=1000:=λx a=>by
 simp only[Ev,Aek] at a;obtain ⟨k,_,rfl⟩:=a;split
 ·have:=h (120*i+k);omega
 omega
theorem Vx(C:Nat->Nat)(n i:Nat)(hi:120*i<n):(List.replicate 120 (I 0)).take 0++((C4 C n).drop (120*i)).take (min (n-120*i) 120)++(List.replicate 120 (I 0)).drop (0+min (n-120*i) 120)=(Ev C n i).map I:=by
 rw[AfE,AeQ,AfM];refine Afq λj=>?_;have b:(((C4 C n).drop (120*i)).take (min (n-120*i) 120)).length=min (n-120*i) 120:=by rw[Aex,AeM,CW];omega
 rcases Aeq j 120 with a|a
 ·have c:((Ev C n i).map I)[j]?=some (I (if 120*i+j<n then (C (120*i+j):Int) else 0)):=by simp[Ev,a]
  rw[c];rcases Aeq j (min (n-120*i) 120) with h|h
  ·rw[Aem U,AeX,if_pos h,Afl,cnL_at C U,if_pos U]
  rw[Aes U,b,Afl,List.getElem?_replicate,if_pos U,if_neg U]
 rw[AeI (by rw[Aee,b,AeM,Afj];omega),AeI (by simp[Ev];omega)]
theorem YI(C:Nat->Nat)(n:Nat):∀c∈C4 C n,c.oneCell'=true:=λc a=>by
 simp only[C4,Aek] at a;obtain ⟨k,_,rfl⟩:=a;rfl
def HK(C:Nat->Nat)(i:Nat)(ns:List Int)(j:Nat):Nat->Nat:=λp=>if p/120=i/\p%120<j then (ns.getD (p%120) 0).toNat else C p
theorem Vy(C:Nat->Nat)(i:Nat)(ns:List Int):HK C i ns 0=C:=by funext p;simp[HK]
theorem Vz(C:Nat->Nat)(c:j<120)(a:l[j]?=some t)(b:0<=t):updN (HK C i l j) (120*i+j) t.toNat=HK C i l (j+1):=by
 funext p;unfold updN HK;split
 ·rename_i e;subst e
  rw[if_pos ⟨by omega,by omega⟩,show (120*i+j)%120=j by omega];simp[List.getD,a]
 rename_i e;by_cases h:p/120=i/\p%120<j
 ·rw[if_pos h,if_pos ⟨h.1,by omega⟩]
 rw[if_neg h,if_neg (λq=>h ⟨q.1,by omega⟩)]
theorem VA(C:Nat->Nat)(h:n<=120*i+j)(a:j<120):C4 (HK C i l j) n=C4 (HK C i l (j+1)) n:=by
 refine Afq λp=>?_;rcases Aeq p n with hp|hp
 ·rw[cnL_at _ hp,cnL_at _ hp]
  unfold HK;by_cases q:p/120=i/\p%120<j
  ·rw[if_pos q,if_pos ⟨q.1,by omega⟩]
  rw[if_neg q,if_neg (λr=>q ⟨r.1,by omega⟩)]
 rw[AeI (by rw[CW];exact hp),AeI (by rw[CW];exact hp)]
def Ha(C C0:Nat->Nat)(s:List IE):Nat->Nat:=λk=>if s.any (λp=>decide (p.1=(k:Int))) then C0 k else C k
theorem YJ(C C0:Nat->Nat):Ha C C0 []=C:=by funext k;simp[Ha]
theorem VB(C C0:Nat->Nat){s:List IE}{p:IE}(b:p.1=(n:Int)):updN (Ha C C0 s) n (C0 n)=Ha C C0 (s++[p]):=by
 funext q;unfold updN Ha;rw[List.any_append];have a:([p]:List IE).any (λp=>decide (p.1=(q:Int)))=decide (n=q):=by
  simp[b];omega
 rw[a];split
 ·rename_i e;subst e;simp
 rename_i e;have:decide (n=q)=false:=decide_eq_false (λh=>e h.symm);rw[this,Bool.or_false]
theorem YK{C0:Nat->Nat}{l s:List IE}(W:WasOk C C0 n l m)(hs:s.Perm l):C4 (Ha C C0 s) n=C4 C0 n:=by
 refine Afq λk=>?_;rcases Aeq k n with a|a
 ·rw[cnL_at _ a,cnL_at _ a]
  unfold Ha;split
  ·rfl
  rename_i h;rw[W.rest k a (λp hp e=>h (by
   rw[Ahv];exact ⟨p,hs.mem_iff.2 hp,by simpa using e⟩))]
 rw[AeI (by rw[CW];exact a),AeI (by rw[CW];exact a)]
def unA(b1 pc bn m n:Nat)(C C0:Nat->Nat)(l s:List IE):Ai:=λh=>((∀p∈s,p∈l)/\(s.map λp:IE=>p.2.2).Nodup)/\seps [blk b1 [.pointer (some ⟨pc,0,none⟩)] 105,blk pc [.slice (some ⟨bn,0,none⟩) n n,.map (some m)] 175,blk bn (C4 (Ha C C0 s) n) 3] h
theorem Sep.un{w:World}{C0:Nat->Nat}{l s:List IE}(H:Sep z (unA i j e m n C C0 l s::Γ) w):((∀p∈s,p∈l)/\(s.map λp:IE=>p.2.2).Nodup)/\Sep z (YtemljpjnhjnncaaGreatDoor.blk i [Y j] 105::YtemljpjnhjnncaaGreatDoor.blk j [.slice (some ⟨e,0,none⟩) n n,.map (some m)] 175::YtemljpjnhjnncaaGreatDoor.blk e (C4 (Ha C C0 s) n) 3::Γ) w:=by
 obtain ⟨_,hp,a⟩:=H.into (σ:=Unit) (p:=λ_=>(∀p∈s,p∈l)/\(s.map λp:IE=>p.2.2).Nodup) (As:=λ_=>[YtemljpjnhjnncaaGreatDoor.blk i [Y j] 105,YtemljpjnhjnncaaGreatDoor.blk j [.slice (some ⟨e,0,none⟩) n n,.map (some m)] 175,YtemljpjnhjnncaaGreatDoor.blk e (C4 (Ha C C0 s) n) 3]) (λh q=>⟨(),q.1,q.2⟩);exact ⟨hp,a⟩
theorem Sep.toUn{w:World}{C0:Nat->Nat}{l s:List IE}(H:Sep z (YtemljpjnhjnncaaGreatDoor.blk i [Y j] 105::YtemljpjnhjnncaaGreatDoor.blk j [.slice (some ⟨e,0,none⟩) n n,.map (some m)] 175::YtemljpjnhjnncaaGreatDoor.blk e (C4 (Ha C C0 s) n) 3::Γ) w)(a:(∀p∈s,p∈l)/\(s.map λp:IE=>p.2.2).Nodup):Sep z (unA i j e m n C C0 l s::Γ) w:=
 H.made 3 (A:=unA i j e m n C C0 l s) (λh q=>⟨a,q⟩)
theorem Sep.permut{w:World}{Γ':List Ai}(p:Γ.Perm Γ'):∀Δ:List Ai,Sep z (Δ++Γ) w->Sep z (Δ++Γ') w:=by
 induction p with
 | nil=>exact λ_ H=>H
 | cons a _ ih=>
  intro Δ H;have:=ih (Δ++[a]) (by rw[Aeh];exact H);rw[Aeh] at this;exact this
 | swap a b l=>
  intro Δ H;have d:Sep z (b::a::(l++Δ)) w:=H.swap;have c:Sep z ((a::b::l)++Δ) w:=d.pick 2 [1,0] Z;exact c.swap
 | trans _ _ ih1 ih2=>exact λΔ H=>ih2 Δ (ih1 Δ H)
theorem VC{w:World}{B C:Ai}(H:Sep z (A::B::C::Γ) w):Sep z ((A::Γ)++[B,C]) w:=
 Sep.permut (Afk A (Af5 (l₁:=[B,C]) (l₂:=Γ))) [] H
theorem YL{w:World}{A2 a B C:Ai}{F:List Ai}(H:Sep z (A::A2::a::(Γ++([B,C]++F))) w):Sep z (A::A2::a::B::C::(Γ++F)) w:=
 Sep.permut (Ahe Γ [B,C] F) [A,A2,a] H
theorem YM{w:World}{B C:Ai}{F:List Ai}(H:Sep z (A::B::C::(Γ++F)) w):Sep z ((A::Γ)++([B,C]++F)) w:=
 Sep.permut (Ahe [B,C] Γ F) [A] H
theorem AbA{w:World}{D B C:Ai}(H:Sep z (D::((A::Γ)++[B,C])) w):Sep z (A::D::B::C::Γ) w:=
 Sep.permut ((AfX A D _).trans (Afk A (Afk D (Af5 (l₁:=Γ) (l₂:=[B,C]))))) [] H
theorem VD{L:List Int}(b:n<L.length):(L.map I++V).take n++[I t]++(L.map I++V).drop (n+1)=(L.set n t).map I++V:=by
 rw[Aet (by simp;omega),AeT (by simp;omega)];have e:=Afa (l:=L) (i:=n) (a:=t);rw[if_pos b] at e;rw[e];simp[Afp,AfU]
theorem GP(a:l[n]?=some t):(l.map I++V)[n]?=some (I t):=by
 rw[Aem (by simpa using (Aeb.1 a).1),Aeo,a];rfl
structure CpI(ys:List Int)(n k0 k j:Nat)(L:List Int):Prop where
 k0k:k0<=k
 kj:k+1<=k0+j
 j1:1<=j
 jn:k0+j<=n
 len:L.length=n
 same:∀i,k0+j<=i+1->L[i]?=ys[i]?
 mem:∀x,x∈L.take k↔x∈ys.take (k0+j)
theorem EZ(h:l[n]?=some t)(z:Int):z∈l.take (n+1)↔z∈l.take n\/z=t:=by
 rw[AeN,h];simp
theorem CpI.start{ys:List Int}{k:Nat}{x:Int}(d:ys.length=n)(f:1<=k)(c:k<n)(b:ys[k]?=some x)(a:ys[k-1]?=some x):CpI ys n k k 1 ys:=by
 refine ⟨Aei _,Aei _,Aei _,by omega,d,λ_ _=>rfl,λz=>?_⟩;rw[EZ b];refine ⟨.inl,λh=>h.elim id λe=>?_⟩;subst e;exact Ahs.2 ⟨k-1,by have:=(Aeb.1 a).1;omega,(Aeb.1 a).2⟩
theorem CpI.skip{ys L:List Int}{k:Nat}{x:Int}(I_:CpI ys n m k j L)(a:ys[m+j]?=some x)(b:ys[m+(j-1)]?=some x):CpI ys n m k (j+1) L:=by
 have f:=I_.j1;have c:=(Aeb.1 a).1;refine ⟨I_.k0k,by have:=I_.kj;omega,by omega,?_,I_.len,λi hi=>I_.same i U,λz=>?_⟩
 ·have hs:=I_.same (m+j) U
  rw[a] at hs;have:=(Aeb.1 hs).1;have:=I_.len;omega
 rw[<-Agc,EZ a,I_.mem z];refine ⟨.inl,λh=>h.elim id λe=>?_⟩;subst e;exact Ahs.2 ⟨m+(j-1),by have:=(Aeb.1 b).1;omega,(Aeb.1 b).2⟩
theorem CpI.put{ys L:List Int}{k:Nat}{x:Int}(I_:CpI ys n m k j L)(b:ys[m+j]?=some x):CpI ys n m (k+1) (j+1) (L.set k x):=by
 have f:=I_.j1;have d:=I_.kj;have a:=I_.len;have hs:=I_.same (m+j) U;rw[b] at hs;have c:=(Aeb.1 hs).1;have e:(L.set k x)[k]?=some x:=by rw[Afo];simp;omega
 refine ⟨by have:=I_.k0k;omega,by omega,by omega,by omega,by simpa using I_.len,λi hi=>?_,λz=>?_⟩
 ·rw[Afo,if_neg U];exact I_.same i U
 rw[EZ e,<-Agc,EZ b,<-I_.mem z,List.take_set_of_le (Aei _)]
def Fj(C C0:Nat->Nat)(s:List IE):List Int:=(s.filter λp=>decide (C0 p.1.toNat≠C p.1.toNat)).map λp=>p.1/120
theorem Qr{C0:Nat->Nat}{s:List IE}{p:IE}(a:p.1=(n:Int))(h:(C0 n:Int)≠(C n:Int)):Fj C C0 (s++[p])=Fj C C0 s++[(n:Int)/120]:=by
 unfold Fj;have:decide (C0 n≠C n)=true:=decide_eq_true (λe=>h (by rw[e]));rw[AfN,AeH];congr 1;simp only[List.filter,a,Ae4,this];simp[a]
theorem VE{C0:Nat->Nat}{s:List IE}{p:IE}(a:p.1=(n:Int))(h:(C0 n:Int)=(C n:Int)):Fj C C0 (s++[p])=Fj C C0 s:=by
 unfold Fj;have:decide (C0 n≠C n)=false:=decide_eq_false (λe=>e U);rw[AfN,AeH];simp only[List.filter,a,Ae4,this];simp
theorem AbB(C C0:Nat->Nat)(s:List IE):(Fj C C0 s).length<=s.length:=by unfold Fj;rw[Aef];exact AfT _ _
theorem YN{C0:Nat->Nat}{l s:List IE}(W:WasOk C C0 n l m)(hs:s.Perm l)(x:Int):x∈Fj C C0 s↔∃k:Nat,k<n/\C k≠C0 k/\x=((k/120:Nat):Int):=by
 unfold Fj;simp only[Aek,Afb,decide_eq_true_eq];constructor
 ·rintro ⟨p,⟨hp,a⟩,rfl⟩
  obtain ⟨k,b,d,_⟩:=W.ent p (hs.mem_iff.1 hp);rw[b,Ae4] at a;exact ⟨k,d,λe=>a e.symm,by rw[b];omega⟩
 rintro ⟨k,f,a,rfl⟩;have:∃p∈l,p.1=(k:Int):=by
  refine Afd λc=>a (W.rest k f λp hp e=>c ⟨p,hp,e⟩)
 obtain ⟨p,hp,b⟩:=this;exact ⟨p,⟨hs.mem_iff.2 hp,by rw[b,Ae4];exact λe=>a e.symm⟩,by rw[b];omega⟩
theorem Xw:Cn prog 104 [I t] [] (λv Γ=>v=.bool (decide (16<=t/\t<=1024))/\Γ=[]):=by
 intro z R w H;refine Ae func104 Z ntmps104 Z (Z0 10 [0] Z (Al 5 Z (λa=>?_) (λa=>?_)))
 ·refine Z0 7 [0] Z (Zr Z ?_);exact ⟨_,⟨congrArg Value.bool (by first|(rw[Aew];simp<;>omega)|(simp<;>omega)),Z⟩,H⟩
 refine Zc 7 Z (Zr Z ?_);exact ⟨_,⟨congrArg Value.bool (by first|(rw[Aew];simp<;>omega)|(simp<;>omega)),Z⟩,H⟩
theorem Gb(b:16<=n/\n<=1024):Cn prog 57 [I (n:Int)] [] (λv Γ=>v=I (manyN n:Int)/\Γ=[]):=by
 intro z R w H;refine Ae func57 Z ntmps57 Z (Zc 9 Z (z_E_ Z (call104 _) (Xw) H ?_));intro w H;refine Ab Z (AF Z Z) (Zc 2 Z (Af Z (λa=>U) (λa=>?_)));refine Z1 12 [] [(n:Int)+120,((n:Int)+120)-1,(((n:Int)+120)-1)/120] Z U (Zr Z ?_);exact ⟨_,⟨congrArg I (by unfold manyN;omega),Z⟩,H⟩
theorem Ty(h:16<=n/\n<=1024):Cn prog 56 [I (n:Int)] [] (λv Γ=>∃a b m:Nat,v=.tuple #[Y a,I 0]/\Γ=[coB a b n m,Cf b (λ_=>0) n,AH m [] 0]):=by
 intro z R w H;refine Ae func56 Z ntmps56 Z (Zc 10 Z (z_E_ Z (call104 _) (Xw) H ?_));intro w H;refine Ab Z (AF Z Z) (Zc 2 Z (Af Z (λe=>U) (λe=>?_)));refine Zc 5 Z (AR Z (Em (k:=n) H Z J BA Z Z Z U) ?_);rintro _ w ⟨d,rfl,H⟩;refine AR Z (F6 H Z) ?_;rintro _ w ⟨g,rfl,H⟩;refine Za 1 [] H Z ?_;intro c w H;refine Zc 5 Z (Zr Z ?_);have f:List.replicate n (I 0)=C4 (λ_=>0) n:=by
   unfold C4;rw[List.map_const',List.length_range];rfl
 rw[f] at H;exact ⟨_,⟨c,d,g,Z,Z⟩,H.perm 3 [0,2,1] Z Z⟩
theorem FA(hp:e<n)(c:16<=n/\n<=1024):Cn prog 112 [Y i,I (e:Int)] [coB i j n m,Cf j C n] (λv Γ=>v=I (C e:Int)/\Γ=[coB i j n m,Cf j C n]):=by
 intro z R w H;refine Ae func112 Z ntmps112 Z (Z0 11 [0] Z (Al 7 Z (λa=>U) (λa=>?_)));refine Z2 10 [0,0,0,0] H Z (Af Z (λb=>U) (λb=>?_));refine Z3 10 [0,0,0,1,e,e] [] H Z U (Ab Z (Bg Z Z J (Ay (H.cel 1 Z e (cnL_at _ U)))) (Zc 4 Z (Zr Z ?_)));exact ⟨_,⟨Z,Z⟩,H⟩
theorem IY(C0:Nat->Nat){l:List IE}(p x:Nat)(hp:p<n)(hn:16<=n/\n<=1024)(hx:(C p:Int)+t=x)(o:x<=1000)(y:C p<=1000)(W:WasOk C C0 n l g):Cn prog 58 [Y i,I (p:Int),I t] [coB i j n m,Cf j C n,AH m l g] (λv Γ=>∃(c:List IE) (a:Nat),WasOk (updN C p x) C0 n c a/\v=I 0/\Γ=[coB i j n m,Cf j (updN C p x) n,AH m c a]):=by
 intro z R w H;replace H:=H.l3;refine Ae func58 Z ntmps58 Z (Z0 11 [0] Z (Al 11 Z (λd=>U) (λd=>?_)));refine Z2 10 [0,0,0,0] H Z (Af Z (λf=>U) (λf=>?_));refine Z3 12 [0,0,0,1,p,p] [] H Z U (Ab Z (Bg Z Z J (Ay (H.cel 1 Z p (cnL_at _ U)))) (Z1 3 [0] [1000-(C p:Int)] Z U (Al 30 Z (λs=>U) (λs=>?_))));refine Z3 7 [0,0,0,1,p,p] [] H Z U (Ab Z (Bg Z Z J (Ay (H.cel 1 Z p (cnL_at _ U)))) (Ab Z (PO Z Z (r:= -(C p:Int)) U U) (Z0 4 [0] Z (Af Z (λu=>U) (λu=>?_)))));refine Z2 10 [1,0,0] H Z (Ab Z (DJ (e:=3) (zv:=I 0) Z J J Z Z (Ay (H.bk 2 Z))) (Zc 13 Z (Ep Z (λb=>?_) (λb=>?_))))
 ·have q:CP l (p:Int)=false:=by simpa using b
  refine BH 12 J J (AZ H λw k=>?_);have H:=k.l3;refine EQ 11 [1,0,0,0,0,0,1,p,p] [] H Z J U (B9 Z Z Z (Bg Z Z J (Ay (H.cel 1 Z p (cnL_at _ U)))) (CF (gw (Az Z Z (DO 2 (e:=3) H Z Z J Z Z Z) ?_))));rintro w H;replace H:=H.l3;refine Z3 10 [0,0,0,1,p,p] [] H Z U (Ab Z (Bg Z Z J (Ay (H.cel 1 Z p (cnL_at _ U)))) (Z1 3 [1,p,p] [(x:Int)] Z U (Az Z Z (Ak 1 H Z Z Z Z (vs:=[I (x:Int)]) Z (Ad Z Aw) J (by simp only[CW,Aeg,AeB];omega) (out:=C4 (updN C p x) n) (Jt U Z)) ?_)));rintro w H;replace H:=H.l3;refine Zc 8 Z (Zr Z ?_);exact ⟨_,⟨_,_,W.put hp q x,Z,Z⟩,H⟩
 have h:CP l (p:Int)=true:=by simpa using b
 refine Z3 10 [0,0,0,1,p,p] [] H Z U (Ab Z (Bg Z Z J (Ay (H.cel 1 Z p (cnL_at _ U)))) (Z1 3 [1,p,p] [(x:Int)] Z U (Az Z Z (Ak 1 H Z Z Z Z (vs:=[I (x:Int)]) Z (Ad Z Aw) J (by simp only[CW,Aeg,AeB];omega) (out:=C4 (updN C p x) n) (Jt U Z)) ?_)));rintro w H;replace H:=H.l3;refine Zc 8 Z (Zr Z ?_);exact ⟨_,⟨_,_,W.has h x,Z,Z⟩,H⟩
theorem Tz{l:List IE}:Cn prog 205 [Y i] [coB i j n m,AH m l g] (λv Γ=>v=.tuple #[]/\Γ=[coB i j n m,AH m [] g]):=by
 intro z R w H;refine Ae func205 Z ntmps205 Z (Z2 5 [1,0,0] H Z (KD Z Z (Jj 1 (e:=3) H Z Z J Z) ?_));rintro _ w ⟨rfl,H⟩;refine Zc 1 Z (Zf Z ?_);exact ⟨_,⟨Z,Z⟩,H⟩
theorem Qt(i:Nat)(hi:i<manyN n)(o:16<=n/\n<=1024)(d:∀k,C k<=1000):Cn prog 59 [Y j,I (i:Int)] [coB j e n m,Cf e C n] (λv Γ=>∃a:Nat,v=.slice (some ⟨a,0,none⟩) 240 240/\Γ=[blk a (A5 (AJ (K5 (Ev C n i))) ((2*120:Nat):Int)) 167,coB j e n m,Cf e C n]):=by
 intro z R w H;have b:120*i<n:=by unfold manyN at hi;omega
 refine Ae func59 Z ntmps59 Z (Z0 11 [0] Z (Al 10 Z (λf=>U) (λf=>?_)));refine Z2 6 [0,0,0] H Z (z_E_ Z (call57 _) (Gb U) H ?_);intro w H;refine Z0 4 [0] Z (Af Z (λg=>U) (λg=>?_));refine Zc 4 Z (AR Z (Em (k:=120) H Z J BA Z Z Z U) ?_);rintro _ w ⟨r,rfl,H⟩;refine Z3 12 [0,1,0] [(i:Int)*120] H Z U (Ab Z (BL Z (z:=1) (p:=(120*i)) (q:=n) (o':=120*i) (l':=(n-120*i)) (c':=(n-120*i)) J Z (.inr ⟨_,_,_,Z,Z,U⟩) (.inl ⟨Z,Z⟩) U U U U U U) (AR Z (XP 0 H Z Z J Z Z (m:=(n-120*i)) (news:=((C4 C n).drop (120*i))) (.inl (H.rv 2 (·.rd U U (by rw[CW];omega) (by rw[AeP];exact Aej (by rw[AeM,CW];omega))))) (λc l=>YI C n c (Afu l)) (by rw[Afj];omega) (k:=(min (n-120*i) 120)) Z (out:=((Ev C n i).map I)) (Vx C n i b)) ?_));rintro _ w ⟨rfl,H⟩;refine Zc 5 Z (Aq Z (call105 _) (PC (Ev C n i) (Ju _ _ _) (Tx d) (λh q=>q.rd U U (by simp[Ev]) (by rw[Aeu];exact Aej (by simp[Ev])))) H ?_);rintro _ w _ ⟨a,rfl,rfl⟩ H;refine Zc 14 Z (Zr Z ?_);exact ⟨_,⟨a,Z,Z⟩,H.perm 4 [0,2,3] Z Z⟩
theorem YO{p:Nat}{clk:Nat}(i:Nat)(hi:i<manyN n)(hn:16<=n/\n<=1024){b o c:Nat}(hA:∀h,A h->rdH 1 (.slice (some ⟨b,o,none⟩) 240 c) 240 (B.map u8) h)(ns:List Int)(a2:ns.length=120)(d:∀x∈ns,0<=x/\x<=1000)(a1:B=K5 ns)(hz:∀(k:Nat) (x:Int),ns[k]?=some x->n<=120*i+k->x=0):Cn prog 111 [Y g,I (i:Int),.slice (some ⟨b,o,none⟩) 240 c] [coB g p n m,Cf p C n,AH m ([]) clk,A] (λv Γ=>v=I 0/\Γ=[coB g p n m,Cf p (HK C i ns 120) n,AH m [] clk,A]):=by
 intro z R w H;replace H:=H.l4;have a4:120*i<n:=by unfold manyN at hi;omega
 refine Ae func111 Z ntmps111 Z (Z0 11 [0] Z (Al 16 Z (λh1=>U) (λh1=>?_)));refine Z2 6 [0,0,0] H Z (z_E_ Z (call57 _) (Gb U) H ?_);intro w H;refine Z0 4 [0] Z (Af Z (λh2=>U) (λh2=>?_));refine Zc 5 Z (Aq Z (call163 _) (PD B hA ns a2 d a1) H.f3 ?_);rintro _ w _ ⟨v1,rfl,rfl⟩ H;refine Zc 19 Z ?_;have a0:=H.sy 0 (·.slc);obtain ⟨f,a,rfl⟩:=a0;refine Zc 7 Z ?_;refine AB (σ:=Nat) (λj=>[(35,I (j:Int)),(0,Y g),(1,I (i:Int)),(7,.slice f 120 a),(33,.slice f 120 a),(34,I 120)])
   (λj w=>Sep z (grow 3 1 (.slice f 120 a) 120 (ns.map I)::A::coB g p n m::Cf p C n::AH m ([]) clk::R) w/\(j<=120)) (λj=>120-j) 0
   fr_z ⟨H,by omega⟩ ?_
 clear H;rintro j w ⟨H',y⟩;have H:=H'.l5;have hj:=y;clear y;refine Z0 6 [0] Z (Af Z (λh3=>?_) (λh3=>?_))
 ·obtain ⟨x,s⟩:∃x,ns[j]?=some x:=⟨_,Aed U⟩;have t:=d x (Aec s)
  refine Zc 7 Z ?_;have l:=(H.rv 0 (·.rd)).at (j:=j) (u:=I x) (by simp[s]);refine Ab Z (Aj Z (z:=1) (j:=j) (r:=j) J Z Z Z U l U) (Ab Z (Ax Z Z J (Ay l)) (Z0 9 [0] Z (Al 42 Z (λh4=>U) (λh4=>?_))));refine Z0 3 [0] Z (Al 45 Z (λh5=>?_) (λh5=>?_))
  ·refine Z3 14 [0,2,0,0] [(i:Int)*120,((i:Int)*120)+(j:Int)] H Z U (Af Z (λh6=>?_) (λh6=>?_))
   ·(exfalso;have:=hz j x s;omega)
   refine Z1 7 [] [(j:Int)+1] Z U (gf ?_);intro _ q;refine ⟨(j+1),q.cz,⟨H,?_⟩,?_⟩
   ·omega
   omega
  refine Z1 22 [] [(j:Int)+1] Z U (gf ?_);intro _ q;refine ⟨(j+1),q.cz,⟨H,?_⟩,?_⟩
  ·omega
  omega
 obtain rfl:j=120:=by omega
 refine Zc 2 Z (gx (Zc 11 Z ?_));refine AB (σ:=Nat) (λj=>[(61,I (j:Int)),(0,Y g),(1,I (i:Int)),(59,.slice f 120 a),(60,I 120)])
   (λj w=>Sep z (grow 3 1 (.slice f 120 a) 120 (ns.map I)::A::coB g p n m::Cf p (HK C i ns j) n::AH m ([]) clk::R) w/\(j<=120)) (λj=>120-j) 0
   fr_z ⟨(by rw[Vy];exact H),by omega⟩ ?_
 clear H;rintro j w ⟨H',y⟩;have H:=H'.l5;have hj:=y;clear y;refine Z0 6 [0] Z (Af Z (λh7=>?_) (λh7=>?_))
 ·obtain ⟨x,s⟩:∃x,ns[j]?=some x:=⟨_,Aed U⟩;have t:=d x (Aec s)
  refine Zc 7 Z ?_;have l:=(H.rv 0 (·.rd)).at (j:=j) (u:=I x) (by simp[s]);refine Ab Z (Aj Z (z:=1) (j:=j) (r:=j) J Z Z Z U l U) (Ab Z (Ax Z Z J (Ay l)) (Z3 24 [0,2,0,0] [(i:Int)*120,((i:Int)*120)+(j:Int)] H Z U (Af Z (λh8=>?_) (λh8=>?_))))
  ·refine Z3 9 [0,2,0,1,(120*i+j),120*i+j] [] H Z U (Az Z Z (Ak 3 H Z Z Z Z (vs:=[I x]) Z (Ad Z Aw) J (by simp only[CW,Aeg,AeB];omega) (out:=C4 (HK C i ns (j+1)) n) ((Jt (x:=x.toNat) U U).trans (by rw[Vz C U s t.1]))) ?_);rintro w H;replace H:=H.l5;refine Z2 8 [1,2,0] H Z (KD Z Z (Ny 4 (e:=3) H Z Z J Z Z) ?_);rintro _ w ⟨rfl,H⟩;replace H:=H.l5;refine Z1 7 [] [(j:Int)+1] Z U (gf ?_);intro _ q;refine ⟨(j+1),q.cz,⟨H,?_⟩,?_⟩
   ·omega
   omega
  refine Z1 7 [] [(j:Int)+1] Z U (gf ?_);intro _ q;refine ⟨(j+1),q.cz,⟨(by dsimp only[Cf];rw[<-VA C U U];exact H),?_⟩,?_⟩
  ·omega
  omega
 obtain rfl:j=120:=by omega
 refine Zc 2 Z (gx (Zc 8 Z (Zr Z ?_)));exact ⟨_,⟨Z,Z⟩,H.perm 5 [2,3,4,1] Z Z⟩
theorem VF(g m clk:Nat)(l:List IE)(d:∀p∈l,p.2.2<clk)(o:(l.map λp:IE=>p.2.2).Nodup):Xo prog 263 [Y g] [blk g [.map (some m)] 173,AH m l clk] (Abr l) [] (RH l):=by
 intro z k J_ n w b;have H:=b.l2;refine J2 (args:=[.func (.yield k) #[] #[],Y g]) func263 Z Z 14 ntmps263 Z ?_;refine CS ?_;refine Ce ?_;refine s_do Z Z Z (Bg Z Z J (Ay (H.cel 0 Z 0 Z))) ?_;refine E3 Z Z Z (HE 1 (e:=3) H Z Z J Z) ?_;rintro _ w ⟨h,rfl,b⟩;have H:=b.l3;refine AQ ?_;refine D9 ?_;refine LJ (σ:=List IE) (λs=>[(0,.func (.yield k) #[] #[]),(5,Y h)])
  (λs w=>Sep z (GG h m clk (s.map λp:IE=>p.2.2)::blk g [.map (some m)] 173::AH m l clk::J_ s) w/\(True)) (λs=>(Cl l (s.map λp:IE=>p.2.2)).length) ([])
  (λ_ f=>(f.all Z)) ⟨H,trivial⟩ ?_
 clear H;rintro s w ⟨b,q⟩;have H:=b.l3;refine CS ?_;refine Ce ?_;refine E3 Z Z Z (IP 0 2 H Z Z Z Z d) ?_;rintro _ w ⟨j,rfl,a,b⟩;have H:=b.l3;refine s_do Z Z Z (KH Z Z) ?_;refine AQ ?_;refine CS ?_;refine Ji Z (λi=>?_) (λi=>?_)
 ·-- yes:j.isSome
  obtain ⟨c,rfl⟩:=Ae8.1 i;refine Gs ?_;refine D9 ?_;refine CS ?_;refine Ce ?_;refine s_do Z Z Z (HF (p:=c) Z Z (Ay ⟨H.bk 0 Z,H.bk 2 Z⟩) (C7 a).1 o) ?_;refine s_do Z Z Z (Fe Z Z Z) ?_;refine s_do Z Z Z (Bl Z Z) ?_;refine AQ ?_;refine CS ?_;refine J1 ?_;refine Eq Z Z Z (Cj Z Z) ?_;refine Eq Z Z Z (Cj Z Z) ?_;replace H:=H.f2.f2;refine LL Z Z Z Z Z Z (n s _ (s++[c]) [GG h m clk ((s.map λp:IE=>p.2.2)++[c.2.2])] ⟨c,a,Z,Z⟩ _ H) ?_;rintro _ w ⟨rfl,b⟩;refine ⟨_,Z,?_⟩;have H:=b.l3;refine Eq Z Z Z (Kt Z Z) ?_;refine Rw ?_;refine Iq Z ?_;refine Gs ?_;replace H:=H.f1.f1.f2;intro _ f;refine ⟨(s++[c]),(f.all Z),⟨(by rw[AeH];exact H),?_⟩,?_⟩
  ·trivial
  (have:=EB a;rwa[show (s++[c]).map (λp:IE=>p.2.2)=(s.map λp:IE=>p.2.2)++[c.2.2] from by simp])
 -- no:j.isSome
 obtain rfl:j=none:=by simpa using i
 refine LI ?_;refine IG ?_;exact λ_ f=>⟨f.defers,s,a,H.perm 3 [1,2] Z Z⟩
theorem YP:Cn prog 239 [.map (some m)] [] (λv Γ=>∃a:Nat,v=.func (.func 263) #[] #[Y a]/\Γ=[blk a [.map (some m)] 173]):=by
 intro z R w H;refine Ae func239 Z ntmps239 Z (Za 2 [] H Z ?_);intro b w H;refine Zc 5 Z (Ab Z (C5 Z Z Z) (Zc 4 Z (Zr Z ?_)));exact ⟨_,⟨b,Z,Z⟩,H⟩
theorem YQ{C0:Nat->Nat}{l:List IE}{clk:Nat}(W:WasOk C C0 n l clk):Cn prog 202 [Y i] [coB i g n m,Cf g C n,AH m l clk] (λv Γ=>v=.tuple #[]/\Γ=[coB i g n m,Cf g C0 n,AH m [] clk]):=by
 intro z R w b;have H:=b.l3;refine NL func202 Z 25 ntmps202 Z (AY (AI (E3 Z Z Z (G0 H Z Z (cs:=[Y i]) Z) ?_)));rintro _ w ⟨o,rfl,b⟩;have H:=b.l4;refine AQ (AY (AY (AI (Gj 4 [0,1,1] (AO (H.blk 0 Z) (AO (H.blk 1 Z) AM)) Z J Z (Fu Z Z Z Z Z (λw=>call239 _ w) (YP) H Z ?_)))));rintro _ w _ ⟨t,rfl,rfl⟩ b;have H:=b.l5;refine AQ (FK ?_);replace H:=H.f4.f1.f4.f4.f4;dsimp only[Cf] at H;rw[show C4 C n=C4 (Ha C C0 []) n by rw[YJ]] at H;have b:=H.toUn (l:=l) (s:=[]) O;clear H;have H:=VC b;clear b;refine NO (λs=>(unA o i g m n C C0 l s::R)) Z (λu w=>call263 u w) Z (VF t m clk l W.clk W.born) H ?_ ?_
 ·rintro ro s v s2 ⟨p,hp,rfl,rfl⟩ w;obtain ⟨k,d,q,a0⟩:=W.ent p (C7 hp).1;refine Ce (BZ 1 Z Z (AQ ?_));refine λa hF=>⟨Z,λF w b=>?_⟩
  revert a hF;have H:Sep z (unA o i g m n C C0 l s::(R++([blk t [.map (some m)] 173,AH m l clk]++F))) w:=b;clear b;obtain ⟨c,b⟩:=H.un;clear H;have H:=YL b;clear b;have H:Sep z (blk o [Y i] 105::coB i g n m::Cf g (Ha C C0 s) n::blk t [.map (some m)] 173::AH m l clk::(R++F)) w:=H;refine D9 ?_;replace H:=H.f4.f2.f2;refine IN (Sep z (blk o [Y i] 105::coB i g n m::AH m l clk::(R++F))) 13 Z J (AZ H λw b=>?_);have H:=b.l5;refine Bu [0,1,2,3,4,5,6,7,8,9] [0,0,1,0,1,1] J (λ_ y=>(AO (y.blk 0 Z) (AO (y.blk 1 Z) AM))) (by exact H.pick 5 [0,1,2] Z) Z J Z Z (BJ 10 J Z Z J J J Z Z Z (FN (e:=3) (zv:=I 0) Z J J Z Z (λ_ y=>y.bk 2 Z)) (H.pick 5 [0,1,2] Z) (AD 19 (v:=I (C0 k:Int)) Z (by rw[Oq W.keys (C7 hp).1,a0];rfl) (BJ 11 J Z Z J J J Z Z Z (CI Z (z:=1) (j:=k) (r:=k) J Z Z d q U) (H.pick 5 [0,1,2] Z) (AE [12] J O (Am (Bi Z Z Z (Ak 3 H Z Z Z Z (vs:=[I (C0 k:Int)]) Z (Ad Z Aw) J (by simp only[CW,Aeg,AeB];omega) (out:=C4 (Ha C C0 (s++[p])) n) ((Jt (x:=C0 k) q Z).trans (by rw[VB C C0 d]))) ?_))))));rintro w b;have H:=b.l5;refine Ar (λh=>absurd Z h) (Bj J ?_);replace H:=H.f2.f4.f4.f4.f4;exact λ_ _=>YM (H.toUn (F3 c hp))
 rintro D0 w s f b;have H:=AbA b;clear b;obtain ⟨c,b⟩:=H.un;clear H;rw[YK W (Ho W.born c f)] at b;have H:Sep z (blk o [Y i] 105::coB i g n m::Cf g C0 n::bk D0 (.deferred (some []))::blk t [.map (some m)] 173::AH m l clk::R) w:=b;clear b;refine AI (Gj 4 [0,1,1] (AO (H.blk 0 Z) (AO (H.blk 1 Z) AM)) Z J Z (Xd Z Z (Jj 5 (e:=3) H Z Z J Z) ?_));rintro _ w ⟨rfl,b⟩;have H:=b.l6;refine AQ ?_;replace H:=H.f3;refine NN H (rs:=[]) Z [] (λ_=>trivial) (v:=.tuple #[]) Z (λw b=>?_);clear H;have H:=b.l5;exact ⟨[coB i g n m,Cf g C0 n,AH m ([]) clk],⟨Z,Z⟩,H.perm 5 [1,2,4] Z Z⟩
theorem compS_c(v0:Value)(ys:List Int)(d:ys.length<2):Cn prog 240 [v0] [grow 3 1 v0 ys.length (ys.map I)] (λv Γ=>∃(b:Value) (zs:List Int) (B:Ai),(zs.length<=ys.length/\(∀x,x∈zs↔x∈ys)/\∀h,B h->rdH 1 b zs.length (zs.map I) h)/\v=b/\Γ=[B]):=by
 intro z R w H;have a:=H.sy 0 (·.slc);refine Ae func240 Z ntmps240 Z (Zc 9 Z (Ab Z (Ed Z (sz:=1) J Z a) (Z0 3 [0] Z (Af Z (λc=>?_) (λc=>?_)))))
 ·refine Zc 7 Z (Zr Z ?_);exact ⟨_,⟨v0,ys,_,⟨Aei _,λ_=>Ahu,λh q=>q.rd⟩,Z,Z⟩,H⟩
 (exfalso;omega)
theorem compact_c(v0:Value)(ys:List Int)(hl:ys.length=n)(hn:2<=n/\n<=1073741824):Cn prog 240 [v0] [grow 3 1 v0 n (ys.map I)] (λv Γ=>∃(v1:Value) (zs:List Int) (B:Ai),(zs.length<=ys.length/\(∀x,x∈zs↔x∈ys)/\∀h,B h->rdH 1 v1 zs.length (zs.map I) h)/\v=v1/\Γ=[B]):=by
 intro z R w H;obtain ⟨g,c,rest,rfl,c1,c2,c3,H⟩:=H.ungrow 0 Z U;refine Ae func240 Z ntmps240 Z (Z0 13 [0] Z (Af Z (λh1=>U) (λh1=>?_)));refine Zc 9 Z ?_;refine AB (σ:=Nat) (λa=>[(3,I (a:Int)),(0,.slice (some ⟨g,0,none⟩) n c)])
   (λa w=>Sep z (blk g (ys.map I++rest) 3::R) w/\(1<=a/\a<=n)) (λa=>n-a) 1
   fr_z ⟨H,by omega⟩ ?_
 clear H;rintro a w ⟨l,r⟩;have H:=l.l1;have hk:=r;clear r;refine Z0 9 [0] Z (Af Z (λh2=>?_) (λh2=>?_))
 ·obtain ⟨x,d⟩:∃x,ys[a]?=some x:=⟨_,Aed U⟩;obtain ⟨y,e⟩:∃y,ys[a-1]?=some y:=⟨_,Aed U⟩;refine Zc 5 Z (Bv (Sep z _) J J H.drew (G4 3 [1,a,a] [] Z J U (AL Z Z Z (Bg Z Z J (λ_ m=>m.cel 0 Z a (GP d))) (G4 4 [1,(a-1),(a-1)] [(a:Int)-1] Z J U (AL Z Z Z (Bg Z Z J (λ_ m=>m.cel 0 Z (a-1) (GP e))) (B0 1 [] Z J (BI (λw l=>?_))))))));have H:=l.l1;refine gn (Zc 1 Z (Af Z (λh3=>?_) (λh3=>?_)))
  ·have o:x=y:=h3
   refine Zc 4 Z (Ab Z (BL Z (z:=1) (p:=a) (q:=n) (o':=a) (l':=n-a) (c':=c-a) J Z (.inr ⟨_,_,_,Z,Z,Z⟩) (.inl ⟨Z,Z⟩) U U U U U U) (Zc 10 Z ?_));refine AB (σ:=Nat×Nat×List Int) (λ⟨k,j,L⟩=>[(3,I (k:Int)),(5,I (j:Int)),(0,.slice (some ⟨g,0,none⟩) n c),(4,.slice (some ⟨g,a,none⟩) (n-a) (c-a)),(10,I (a:Int)),(11,.slice (some ⟨g,0,none⟩) n c),(12,I (n:Int)),(13,.bool (decide ((a:Int)<(n:Int)))),(16,.slice (some ⟨g,0,none⟩) n c),(17,I (a:Int)),(18,.pointer (some ⟨g,a,none⟩)),(19,I x),(20,.slice (some ⟨g,0,none⟩) n c),(21,I (a:Int)),(22,I ((a:Int)-1)),(23,.pointer (some ⟨g,(a-1),none⟩)),(24,I y),(25,.bool (decide ((x:Int)=y))),(26,.slice (some ⟨g,0,none⟩) n c),(27,I (a:Int)),(28,.slice (some ⟨g,a,none⟩) (n-a) (c-a))])
     (λ⟨k,j,L⟩ w=>Sep z (blk g (L.map I++rest) 3::R) w/\(CpI ys n a k j L)) (λ⟨k,j,L⟩=>n-j) ⟨a,1,ys⟩
     (λ_ f=>(f.co Z Z f.cz)) ⟨H,CpI.start hl U U d (by rw[o];exact e)⟩ ?_
   clear H;rintro ⟨k,j,L⟩ w ⟨l,r⟩;dsimp only at r l ⊢;have H:=l.l1;have b:=r;clear r;have a2:=b.kj;have a6:=b.j1;have a3:=b.jn;have a5:=b.len;refine Z0 9 [0] Z (Af Z (λh4=>?_) (λh4=>?_))
   ·obtain ⟨x,d⟩:∃x,ys[a+j]?=some x:=⟨_,Aed U⟩;obtain ⟨y,e⟩:∃y,ys[a+(j-1)]?=some y:=⟨_,Aed (by have:=b.j1;omega)⟩;have i:L[a+j]?=some x:=(b.same _ U).trans d
    have s:L[a+(j-1)]?=some y:=(b.same _ (by have:=b.j1;omega)).trans e;refine Zc 5 Z (Bv (Sep z _) J J H.drew (G4 3 [1,j,a+j] [] Z J U (AL Z Z Z (Bg Z Z J (λ_ m=>m.cel 0 Z (a+j) (GP i))) (G4 4 [1,(j-1),a+(j-1)] [(j:Int)-1] Z J U (AL Z Z Z (Bg Z Z J (λ_ m=>m.cel 0 Z (a+(j-1)) (GP s))) (B0 1 [] Z J (BI (λw l=>?_))))))));have H:=l.l1;refine gn (Zc 1 Z (Af Z (λu=>?_) (λu=>?_)))
    ·refine Z1 7 [1,j,a+j] [] Z U (Ab Z (Bg Z Z J (Ay (H.cel 0 Z (a+j) (GP i)))) (Z1 1 [1,k,k] [] Z U (Az Z Z (Ak 0 H Z Z Z Z (vs:=[I x]) Z (by simp[u8,u32,Value.oneCell']) J (by simp only[Aee,Aef,Aeg,AeB];have:=b.len;omega) (out:=((L.set k x).map I++rest)) (VD (by have:=b.len;have:=b.kj;have:=b.jn;omega))) ?_)));rintro w H;refine Z1 14 [] [(k:Int)+1,(j:Int)+1] Z U (gf ?_);intro _ f;refine ⟨⟨k+1,j+1,L.set k x⟩,(f.co Z (by go_num) f.cz),⟨H,?_⟩,?_⟩
     ·exact b.put d
     (dsimp only;omega)
    have o:x=y:=Aho.1 u;refine Z1 8 [] [(j:Int)+1] Z U (gf ?_);intro _ f;refine ⟨⟨k,j+1,L⟩,(f.co Z Z f.cz),⟨H,?_⟩,?_⟩
    ·exact b.skip d (by rw[o];exact e)
    (dsimp only;omega)
   have a1:a+j=n:=by omega
   refine Zc 2 Z (gx (Zc 6 Z (Ab Z (BL Z (z:=1) (p:=k) (q:=n) (o':=k) (l':=n-k) (c':=c-k) J Z (.inr ⟨_,_,_,Z,Z,Z⟩) (.inl ⟨Z,Z⟩) U U U U U U) (KD Z Z (Vu 0 H Z Z J Z (by have:=b.kj;have:=b.jn;omega) (by simp;have:=b.len;have:=b.kj;have:=b.jn;omega)) ?_))));rintro _ w ⟨rfl,H⟩;refine Zc 6 Z (Ab Z (BL Z (z:=1) (p:=0) (q:=k) (o':=0) (l':=k) (c':=c) J Z (.inl ⟨Z,Z⟩) (.inr ⟨_,_,_,Z,Z,Z⟩) U U U U U U) (Zc 4 Z (Zr Z ?_)));have t:(L.take k).length=k:=by rw[Aex];have:=b.len;have:=b.kj;have:=b.jn;omega
   exact ⟨_,⟨_,L.take k,_,⟨by have:=b.kj;have:=b.jn;omega,λz=>(b.mem z).trans (by rw[Aej U]),λh q=>by rw[t];exact q.rd (by have:=b.kj;have:=b.jn;omega) U (by simp;have:=b.len;have:=b.kj;have:=b.jn;omega) (by rw[Aeu,AeP,Aeh,AeF (by rw[Aex];simp;have:=b.len;have:=b.kj;have:=b.jn;omega),Aet (by simp;have:=b.len;have:=b.kj;have:=b.jn;omega),Afp])⟩,Z,Z⟩,H.perm 1 [0] Z Z⟩
  refine Z1 8 [] [(a:Int)+1] Z U (gf ?_);intro _ f;refine ⟨(a+1),f.cz,⟨H,?_⟩,?_⟩
  ·omega
  omega
 refine Zc 2 Z (gx (Zc 9 Z (Zr Z ?_)));exact ⟨_,⟨_,ys,_,⟨by omega,λ_=>Ahu,λh q=>by rw[hl];exact q.rd U U (by simp;omega) (by rw[Aeu,AeF (by simp;omega)])⟩,Z,Z⟩,H.perm 1 [0] Z Z⟩
theorem AbC(b:l.length<=1073741824):Cn prog 240 [u] [grow 3 1 u l.length (l.map I)] (λv Γ=>∃(a:Value) (zs:List Int) (B:Ai),(zs.length<=l.length/\(∀x,x∈zs↔x∈l)/\∀h,B h->rdH 1 a zs.length (zs.map I) h)/\v=a/\Γ=[B]):=by
 rcases Aeq l.length 2 with h|h
 ·exact compS_c u l h
 exact compact_c u l Z ⟨h,b⟩
theorem TA(C0:Nat->Nat){l:List IE}(hn:16<=n/\n<=1024)(W:WasOk C C0 n l g):Cn prog 204 [Y i] [coB i j n m,Cf j C n,AH m l g] (λv Γ=>∃(f:Value) (zs:List Int) (B:Ai),(zs.length<=n/\(∀x:Int,x∈zs↔∃k:Nat,k<n/\C k≠C0 k/\x=((k/120:Nat):Int))/\∀h,B h->rdH 1 f zs.length (zs.map I) h)/\v=f/\Γ=[B,coB i j n m,Cf j C n,AH m l g]):=by
 intro z R w H;replace H:=H.l3;have a8:=W.len;refine Ae func204 Z ntmps204 Z (Z2 17 [1,0,0] H Z (AR Z (HE 2 (e:=3) H Z Z J Z) ?_));rintro _ w ⟨rr,rfl,H⟩;replace H:=H.l4;refine Zc 1 Z ?_;replace H:=(H.nilg 3 1).l5;refine Zc 2 Z ?_;refine AB (σ:=List IE×Value) (λ⟨s,f⟩=>[(3,f),(0,Y i),(2,.slice none 0 0),(10,Y rr)])
   (λ⟨s,f⟩ w=>Sep z (grow 3 1 f ((Fj C C0 s).length) ((Fj C C0 s).map I)::GG rr m g (s.map λp:IE=>p.2.2)::coB i j n m::Cf j C n::AH m l g::R) w/\((∀p∈s,p∈l)/\(s.map λp:IE=>p.2.2).Nodup)) (λ⟨s,f⟩=>(Cl l (s.map λp:IE=>p.2.2)).length) ⟨[],.slice none 0 0⟩
   fr_z ⟨H,⟨by simp,by simp⟩⟩ ?_
 clear H;rintro ⟨s,f⟩ w ⟨q,hI⟩;dsimp only at hI q ⊢;have H:=q.l5;have o:=hI;clear hI;have a5:=KW o;have b0:=AbB C C0 s;refine Zc 2 Z (AR Z (IP 1 4 H Z Z Z Z W.clk) ?_);rintro _ w ⟨qx,rfl,a,H⟩;replace H:=H.l5;refine Ab Z (KH Z Z) (Zc 3 Z (Ep Z (λh1=>?_) (λh1=>?_)))
 ·obtain ⟨b,rfl⟩:=Ae8.1 h1;obtain ⟨k,c,b2,a1⟩:=W.ent b (C7 a).1;refine Zc 5 Z (Ab Z (HF (p:=b) Z Z (Ay ⟨H.bk 1 Z,H.bk 4 Z⟩) (C7 a).1 W.born) (Zc 2 Z (AD 14 (v:=I (k:Int)) Z (congrArg I c) (AD 15 (v:=I (C0 k:Int)) Z a1 (Z3 13 [0,2,0,1,k,k] [] H Z U (Ab Z (Bg Z Z J (Ay (H.cel 3 Z k (cnL_at _ U)))) (Z0 3 [0] Z (Af Z (λh2=>?_) (λh2=>?_)))))))))
  ·have t:(C0 k:Int)≠(C k:Int):=h2
   refine Z1 4 [] [(k:Int)/120] Z U (AR Z (AP H Z J BA Z (by decide) (by decide) (out:=[I ((k:Int)/120)]) J) ?_);rintro _ w ⟨b1,rfl,H⟩;replace H:=H.l6;refine AR Z (A0 1 H Z Z J BA Z Z (H.rv 0 (·.rd U U O Z)) (by simp[Value.oneCell']) U) ?_;rintro v2 w q;have q:Sep z (blk b1 [I ((k:Int)/120)] 3::grow 3 1 v2 ((Fj C C0 s).length+1) ((Fj C C0 s).map I++[I ((k:Int)/120)])::GG rr m g (JN (s.map λp:IE=>p.2.2) (some b))::coB i j n m::Cf j C n::AH m l g::R) w:=q;have a3:((Fj C C0 s).map I++[I ((k:Int)/120)]:List Value)=(Fj C C0 (s++[b])).map I:=(by rw[Qr c t];simp);rw[a3] at q;rw[show ((Fj C C0 s).length+1:Nat)=(Fj C C0 (s++[b])).length from (by rw[Qr c t];simp)] at q;have H:=q.l6;refine Zc 3 Z ?_;replace H:=H.d;refine gf ?_;intro _ hF;refine ⟨⟨s++[b],v2⟩,(hF.all Z),⟨(by dsimp only;rw[AeH];exact H),?_⟩,?_⟩
   ·exact F3 o a
   (have:=EB a;rwa[show (s++[b]).map (λp:IE=>p.2.2)=(s.map λp:IE=>p.2.2)++[b.2.2] from by simp])
  have a4:(C0 k:Int)=(C k:Int):=Aho.1 h2;refine Zc 2 Z (gf ?_);intro _ hF;refine ⟨⟨s++[b],f⟩,(hF.all Z),⟨(by dsimp only;rw[AeH,VE c a4];exact H),?_⟩,?_⟩
  ·exact F3 o a
  (have:=EB a;rwa[show (s++[b]).map (λp:IE=>p.2.2)=(s.map λp:IE=>p.2.2)++[b.2.2] from by simp])
 obtain rfl:qx=none:=by simpa using h1
 have u:RH l s:=a;refine Zc 2 Z (gx (Zc 5 Z (Aq Z (call196 _) (Tq U) H ?_)));rintro _ w _ ⟨rfl,ys,rfl,rfl⟩ H;refine Zc 5 Z ?_;have a9:((Fj C C0 s).mergeSort (λx y=>decide (x<=y))).length=(Fj C C0 s).length:=List.length_mergeSort _;refine Aq Z (call240 _) (AbC U) H ?_;rintro v2 w _ ⟨v3,zs,B,⟨b3,a2,a0⟩,rfl,rfl⟩ H;replace H:=H.l5;refine Zc 4 Z (Zr Z ?_);have r:=λx=>(a2 x).trans (List.mem_mergeSort.trans (YN W (Ho W.born o u) x));exact ⟨_,⟨_,zs,B,⟨by omega,r,a0⟩,Z,Z⟩,H.perm 5 [0,2,3,4] Z Z⟩
theorem K6(sec:List UInt8)(d:∀h,A h->rdH 1 (.slice (some ⟨i,j,none⟩) 256 e) 256 (sec.map u8) h)(n:Nat)(a:sec=List.replicate 256 0):Cn prog 144 [Y m,.slice (some ⟨i,j,none⟩) 256 e,I (n:Int)] [tblA m,A] (λv Γ=>v=.tuple #[.agg #[I 0,.slice none 0 0],.bool true]/\Γ=[tblA m,A]):=by
 intro z R w H;have b:=H.sy 1 (λq=>(d _ q).len);refine Ae func144 Z ntmps144 Z (Za 2 [] H Z ?_);intro f w H;refine Zc 10 Z (AR Z (Em (k:=256) H Z J CK Z Z Z U) ?_);rintro _ w ⟨g,rfl,H⟩;refine z_E_ Z (call186 _) (Xt sec (List.replicate 256 0) (λh q=>by rw[b];exact d h q) (λh q=>by rw[Afj,Ahf];exact q.rd U U O Z)) H.f3 ?_;intro w H;refine Zc 3 Z (Af Z (λc=>?_) (λc=>?_))
 ·refine Z4 8 [2] H Z ?_;intro w H;refine Zl [2,2] H Z ?_;exact ⟨_,⟨Z,Z⟩,H.perm 4 [3,0] Z Z⟩
 exact absurd a c
theorem ME(sec:List UInt8)(b:∀h,A h->rdH 1 (.slice (some ⟨j,e,none⟩) 256 r) 256 (sec.map u8) h)(n:Nat)(p:Pg)(hp:p.Ok)(hn:n<=1023)(a:sec=Ei n p):Cn prog 144 [Y i,.slice (some ⟨j,e,none⟩) 256 r,I (n:Int)] [tblA i,A] (λv Γ=>∃s,v=.tuple #[.agg #[I p.kind,s],.bool true]/\Γ=[grow 5 1 s 240 (p.body.map u8),tblA i,A]):=by
 intro z R w H;replace H:=H.l2;have d:=H.sy 1 (λq=>(b _ q).len);have t:=H.sy 1 (λq=>(b _ q).cap);obtain ⟨c0,c1,c2,c3,hd⟩:=N6 d;have x:=hp.1;refine Ae func144 Z ntmps144 Z (Za 2 [] H Z ?_);intro b1 w H;refine Zc 10 Z (AR Z (Em (k:=256) H Z J CK Z Z Z U) ?_);rintro _ w ⟨b2,rfl,H⟩;replace H:=H.l4;refine z_E_ Z (call186 _) (Xt sec (List.replicate 256 0) (λh q=>by rw[d];exact b h q) (λh q=>by rw[Afj,Ahf];exact q.rd U U O Z)) H.f3 ?_;intro w H;refine Zc 3 Z (Af Z (λl=>?_) (λl=>?_))
 ·exact absurd (a.symm.trans l) (PA hp)
 refine Zc 6 Z (Aq Z (call187 _) (LR sec b) H.f3 ?_);rintro _ w _ (⟨c,rfl,rfl⟩|⟨c,rfl,rfl⟩) H'
 ·have H:=H'.l4;refine Za 3 [] H Z ?_;intro b3 w H;refine Z4 16 [0] H Z ?_;intro w H;refine z_E_ Z (call165 _) (Cz 1 j (e+4) 248 (r-4) ((sec.drop 4).take 248) (λh q=>(b h q).cut (lo:=4) (m:=248) (c':=(r-4)) U U U) U U ((sec.drop 4).take 1) (by rw[AeD,AeE U]) (e+5) 247 (r-5) U U U) H.f2.f1 ?_;intro w H;replace H:=H.l5;refine AD 28 (v:=I p.kind) Z (congrArg I (by rw[a];exact Yz hp)) (Za 1 [] H Z ?_);intro b4 w H;refine Z4 10 [0,0,0,0,0] H Z ?_;intro w H;refine Al 33 Z (λy=>U) (λy=>?_)
  refine Z2 5 [0,0,0,0] H Z (Al 38 Z (λh3=>U) (λh3=>?_));refine Zc 1 Z (z_E_ Z (call99 _) (CX) H ?_);intro w H;replace H:=H.l6;refine Ab Z (AF Z Z) (Zc 2 Z (Al 43 Z (λu=>U) (λu=>?_)));refine z_E_ Z (call165 _) (Cz 4 j (e+5) 247 (r-5) ((sec.drop 5).take 247) (λh q=>(b h q).cut (lo:=5) (m:=247) (c':=(r-5)) U U U) U U ((sec.drop 5).take 4) (by rw[AeD,AeE U]) (e+9) 243 (r-9) U U U) H.f2.f2 ?_;intro w H;replace H:=H.l6;refine AD 44 (v:=I (n:Int)) Z (congrArg I (by rw[a];exact Abt hp hn)) (Z0 4 [0] Z (Al 48 Z (λo=>?_) (λo=>?_)))
  ·exact absurd Z o
  refine z_E_ Z (call165 _) (Cz 3 j (e+9) 243 (r-9) ((sec.drop 9).take 243) (λh q=>(b h q).cut (lo:=9) (m:=243) (c':=(r-9)) U U U) U U ((sec.drop 9).take 3) (by rw[AeD,AeE U]) (e+12) 240 (r-12) U U U) H ?_;intro w H;replace H:=H.l6;refine AD 49 (v:=I 0) Z (congrArg I (by rw[a];exact RJ hp)) (Z2 11 [4,0,0,0] H Z (Aq Z (call151 _) (Jq 240 p.body ((λh q=>by have:=(b h q).cut (lo:=12) (m:=240) (c':=r-12) U U U;rw[a,YA hp] at this;exact this)) U) H.f1 ?_));rintro _ w _ ⟨g,f,rest,rfl,⟨cg,cc,cl⟩,rfl⟩ H;refine Z4 12 [1,3,3,2,6] H Z ?_;intro w H;refine Zl [6,2] H Z ?_;replace H:=(H.mono 0 (B:=grow 5 1 (.slice (some ⟨g,0,none⟩) 240 f) 240 (p.body.map u8)) Z (λh q=>q.grow U U (by simp[hp.2];omega) (by rw[AeP,Aet (by simp[hp.2])];exact Aej (by simp[hp.2])))).l7;exact ⟨_,⟨_,Z,Z⟩,H.perm 7 [0,4,1] Z Z⟩
 exact absurd (a▸Abs hp) c
def MF(D:Dsk)(S:List IE):Dsk:= {D with dur:=λi=>if (i:Int)∈S.map (λp:IE=>p.1) then D.cont i else D.dur i}
theorem Jv{es:List Ent}{e:Ent}(b:e∈es)(hs:seps (es.map Ent.row) h):rdH 1 e.v e.pvs.length e.pvs h:=by
 obtain ⟨i,hi⟩:=Ae2 b;obtain ⟨h',c,a⟩:=FP hs (i:=i) (A:=e.row) (by rw[Aeo,hi];rfl);exact (grow.rd c).le a
theorem YR :MF D []=D:=by simp[MF]
theorem YS{q:List UInt8}{b:Nat->List UInt8}(e:B.length=n*256)(hq:q.length=256)(d:m<n)(c:∀i,i<n->(B.drop (i*256)).take 256=b i):
  (B.take (m*256)++q++B.drop (m*256+256)).length=n*256/\∀i,i<n->((B.take (m*256)++q++B.drop (m*256+256)).drop (i*256)).take 256=if i=m then q else b i:=by
 have a:(B.take (m*256)).length=m*256:=by rw[Aex];omega
 refine ⟨by simp only[Aee,AeM,a];omega,λi hi=>?_⟩;rcases AfI i m with h|h|h
 ·rw[if_neg U,<-c i hi,Aeh,AeT (by rw[a];omega),Aet (by rw[AeM,a];omega),AfW,AeD,AeE U]
 ·subst h
  rw[if_pos Z,Aeh,Ae6,AeK U,AeQ,a,AgD,Aeu,AgY,Aej U,hq];simp
 rw[if_neg U,<-c i hi,Ae6,AeK (by rw[Aee,a];omega),AeQ,Aee,a,hq,AhG];congr 2;omega
theorem VG{S:List IE}{es:List Ent}{hq:Hp}(d:D.Ok)(a:(MF D S).In B es m hq){p:IE}{k:Nat}(hp:p.1=(k:Int))(b:k<D.n):(MF D (S++[p])).In (B.take (k*256)++D.cont k++B.drop (k*256+256)) es m hq:=by
 have c:=YS (q:=D.cont k) a.len (Dsk.cont_len d b) b a.own;refine ⟨c.1,λi hi=>?_,a.ent,a.all,a.nodup,a.born,a.clk⟩;rw[c.2 i hi];show _=(if (i:Int)∈(S++[p]).map (λp:IE=>p.1) then D.cont i else D.dur i);show (if i=k then D.cont k else (if (i:Int)∈S.map (λp:IE=>p.1) then D.cont i else D.dur i))=_;simp only[AeH,AeJ,Afz,Aep,Aft,hp];by_cases h:i=k
 ·subst h;rw[if_pos Z,if_pos (.inr Z)]
 rw[if_neg h];have:¬((i:Int)=(k:Int)):=by omega
 simp only[this,or_false]
theorem YT{S:List IE}{es:List Ent}{hq:Hp}(b:(MF D S).In B es m hq)(k:Cl (es.map Ent.ie) (S.map λp:IE=>p.2.2)=[])(l:∀p∈S,p∈es.map Ent.ie):Dsk.In {D with dur:=D.cont,ver:=λ_=>[]} B [] m hq:=by
 have key:∀i,i<D.n->(MF D S).dur i=D.cont i:=λi hi=>by
  simp only[MF];split
  ·rfl
  rename_i j;by_cases hv:D.ver i=[]
  ·exact (J0 hv).symm
  obtain ⟨e,a,u⟩:=b.all i hi hv;exfalso;have g:e.ie∈es.map Ent.ie:=Aez a;by_cases q:e.born∈S.map λp:IE=>p.2.2
  ·obtain ⟨p,hp,o⟩:=Aek.1 q
   obtain ⟨t,d,rfl⟩:=Aek.1 (l p hp);obtain ⟨s,f⟩:=Ae2 a;obtain ⟨r,c⟩:=Ae2 d;have:=F7 b.born f c o.symm;subst this;rw[f] at c;cases c;exact j (Aek.2 ⟨_,hp,by show (e.key:Int)=i;omega⟩)
  have:e.ie∈Cl (es.map Ent.ie) (S.map λp:IE=>p.2.2):=by
   simp only[Cl,Afb];exact ⟨g,by simpa [Ent.ie] using q⟩
  rw[k] at this;cases this
 exact ⟨b.len,λi hi=>(b.own i hi).trans (key i hi),λe a=>(by cases a),λi hi h=>absurd Z h,by simp,by simp,λe a=>(by cases a)⟩
theorem Ada(a:D.Ok){f:Nat->List UInt8}(h:∀i,i<D.n->(f i).length=256){e:Int}{d:Bool}(g:0<=t/\t<=1099511627776)(j:0<=s/\s<=1099511627776)(b:0<=q/\q<=1099511627776)(c:0<=e/\e<=1099511627776):Dsk.Ok ⟨D.n,f,λ_=>[],t,s,q,d,e⟩:=
 ⟨a.n1,a.n2,h,λi hi p hp=>(by cases hp),g,j,b,c⟩
set_option maxHeartbeats 1000000 in
theorem HL {pd:Nat}:Cn prog 92 [Y pd] [diskA pd D] (λv Γ=>((D.f3=1\/(D.cut=true/\D.left=0))/\v=I 12/\Γ=[diskA pd {D with f3:=Bf D.f3}])\/(¬(D.f3=1\/(D.cut=true/\D.left=0))/\v=I 0/\Γ=[diskA pd D.fl])):=by
 intro z R w H;replace H:=H.l1;obtain ⟨bd,m,f0,bs,es,clk,hq,c,o,H'⟩:=H.disk;clear H;have b4:=c.n1;have b6:=c.n2;have c0:=c.f3;have b5:=c.left;have H:=H'.l5;have a5:∀p∈es.map Ent.ie,p.2.2<clk:=λp hp=>by obtain ⟨e,he,rfl⟩:=Aek.1 hp;exact o.clk e he
 have b1:(es.map Ent.ie).map (λp:IE=>p.2.2)=es.map Ent.born:=by rw[Afn];rfl
 have hn:((es.map Ent.ie).map λp:IE=>p.2.2).Nodup:=by rw[b1];exact o.born
 refine Ae func92 Z ntmps92 Z (Zc 9 Z (z_E_ Z (call148 _) (UO U) H ?_));intro w H;refine Zc 1 Z (Al 7 Z (λh1=>?_) (λh1=>?_))
 ·refine Zc 12 Z (Zr Z ?_);replace H:=(Sep.toDisk (D:= {D with f3:=Bf D.f3}) (pd:=pd) (bd:=bd) (m:=m) (f0:=f0) (bs:=bs) (es:=es) (clk:=clk) (hq:=hq) (Γ:=R) H (c.f c.f1 c.f2 (Fg c.f3) c.left) (o.f _ _ _ _ _)).l1
  exact ⟨_,.inl ⟨by simp_all,Z,Z⟩,H⟩
 refine Zc 1 Z (z_E_ Z (call149 _) (SS) H ?_);intro w H;refine Zc 3 Z (Ep Z (λh2=>?_) (λh2=>?_))
 ·refine Zc 6 Z (Zr Z ?_);replace H:=(Sep.toDisk (D:= {D with f3:=Bf D.f3}) (pd:=pd) (bd:=bd) (m:=m) (f0:=f0) (bs:=bs) (es:=es) (clk:=clk) (hq:=hq) (Γ:=R) H (c.f c.f1 c.f2 (Fg c.f3) c.left) (o.f _ _ _ _ _)).l1
  exact ⟨_,.inl ⟨by simp_all,Z,Z⟩,H⟩
 refine Z2 9 [1,0,0] H Z (AR Z (HE 2 (e:=223) H Z Z J Z) ?_);rintro _ w ⟨rr,rfl,H⟩;replace H:=H.l6;refine Zc 3 Z ?_;refine AB (σ:=List IE×List UInt8) (λ⟨S,b⟩=>[(0,Y pd),(2,I 0),(15,Y rr)])
   (λ⟨S,b⟩ w=>Sep z (GG rr m clk (S.map λp:IE=>p.2.2)::blk pd [.slice (some ⟨bd,0,none⟩) (D.n*256) (D.n*256),.map (some m),I f0,I D.f1,I D.f2,I (if D.f3=0 then 0 else D.f3-1),.bool D.cut,I D.left] 98::blk bd (b.map u8) 5::AH m (es.map Ent.ie) clk::poolA hq::seps (es.map Ent.row)::R) w/\((∀p∈S,p∈es.map Ent.ie)/\(MF D S).In b es clk hq)) (λ⟨S,b⟩=>(Cl (es.map Ent.ie) (S.map λp:IE=>p.2.2)).length) ⟨[],bs⟩
   (λ_ hF=>(hF.all Z)) ⟨H,λp hp=>absurd hp O,by rw[YR];exact o⟩ ?_
 clear H;rintro ⟨S,b⟩ w ⟨H',hI⟩;dsimp only at hI H' ⊢;have H:=H'.l6;obtain ⟨hS,g⟩:=hI;refine Zc 2 Z (AR Z (IP 0 3 H Z Z Z Z a5) ?_);rintro _ w ⟨qx,rfl,u,H⟩;replace H:=H.l6;refine Ab Z (KH Z Z) (Zc 3 Z (Ep Z (λh3=>?_) (λh3=>?_)))
 ·obtain ⟨p1,rfl⟩:=Ae8.1 h3;refine Zc 5 Z ?_;obtain ⟨⟨l,ve,a,ps,bo⟩,d,rfl⟩:=Aek.1 (C7 u).1;obtain ⟨a8,x,y,a3,a4⟩:=g.ent _ d;obtain ⟨ao,cc,a7⟩:=H.sy 5 (λq=>(Jv d q).slc);dsimp only at a7 a8 x y a3 a4
  subst a7;have a6:=H.rv 5 (λq=>Jv d q);have b2:=H.sy 5 (λq=>(Jv d q).small);dsimp only at b2;have b3:0<a.length:=by rw[y];exact Ahc.2 a3
  have a1:l<D.n:=a8;obtain ⟨pv,t⟩:∃pv,a[a.length-1]?=some pv:=⟨_,Aed U⟩;obtain ⟨p,hp⟩:∃p,ps[a.length-1]?=some p:=⟨_,Aed U⟩;have a9:D.cont l=p:=Mv (n:=a.length) (by rw[y,x];rfl) (by rw[show D.ver l=ps from x.symm];exact hp);obtain ⟨s,a0⟩:=a4 _ _ _ t hp;have b0:=a6.at t;refine Ab Z (HF (p:=(Ent.ie ⟨l,.slice ao a.length cc,a,ps,bo⟩)) Z Z (Ay ⟨H.bk 0 Z,H.bk 3 Z⟩) (Aez d) hn) (Zc 6 Z (Bh (Sep z (GG rr m clk (JN (S.map λp:IE=>p.2.2) (some (Ent.ie ⟨l,.slice ao a.length cc,a,ps,bo⟩)))::blk pd [.slice (some ⟨bd,0,none⟩) (D.n*256) (D.n*256),.map (some m),I f0,I D.f1,I D.f2,I (if D.f3=0 then 0 else D.f3-1),.bool D.cut,I D.left] 98::blk bd (b.map u8) 5::AH m (es.map Ent.ie) clk::poolA hq::seps (es.map Ent.row)::R)) 10 Z J (AZ H λw H'=>?_)));have H:=H'.l6;refine Bu [0,1,3,4] [] J (λ_ _=>AM) (by exact H.pick 6 [0,1,2,3,4,5] Z) Z J Z Z (BJ 5 J Z Z J J J Z Z Z (Fs Z (z:=1) J Z) (H.pick 6 [0,1,2,3,4,5] Z) (BJ 6 J Z Z J J J Z Z Z (Hs Z Z Z (r:=((a.length-1:Nat):Int)) U U) (H.pick 6 [0,1,2,3,4,5] Z) (BJ 7 J Z Z J J J Z Z Z (Aj Z (z:=1) (j:=(a.length-1)) (r:=(a.length-1)) J Z Z Z U b0 U) (H.pick 6 [0,1,2,3,4,5] Z) (BJ 8 J Z Z J J J Z Z Z (Ax Z Z J (λ_ hx=>(hx.rv 5 (λq=>Jv d q)).at t)) (H.pick 6 [0,1,2,3,4,5] Z) (AE [2] J O (Am (Bo Z Z Z Z Z Z (λw=>call152 _ w) (Xn l U U) H.f1 Z ?_)))))));rintro _ w _ ⟨rfl,rfl⟩ H;replace H:=H.l6;refine Ar (λ_=>(H.pick 6 [1,0,2,3,4,5] Z)) (AE [9] J O (Am (Ca Z Z Z Z (F5 2 H Z Z J Z Z (m:=256) (news:=(p.map u8)) (.inl (H.rv 4 (λq=>a0.le q))) (by simp[u8,Value.oneCell']) (by have:=g.len;simp;omega) (k:=256) U (out:=((b.take (l*256)++p++b.drop (l*256+256)).map u8)) (by simp[s,Aej])) ?_)));rintro _ w ⟨rfl,H⟩;replace H:=H.l6;refine Ar (λh=>absurd Z h) (Bj J (gn (Zc 1 Z ?_)));replace H:=H.f5.f5.f5.f5.f4.f5;refine gf ?_;intro _ hF;refine ⟨⟨S++[(Ent.ie ⟨l,.slice ao a.length cc,a,ps,bo⟩)],(b.take (l*256)++p++b.drop (l*256+256))⟩,(hF.all Z),⟨(by dsimp only;rw[AeH];exact H),?_⟩,?_⟩
  ·refine ⟨λp hp=>?_,?_⟩
   ·rcases Aep.1 hp with hp|hp
    ·exact hS p hp
    simp at hp;subst hp;exact Aez d
   have:=VG c g (p:=(Ent.ie ⟨l,.slice ao a.length cc,a,ps,bo⟩)) (k:=l) Z a1;rwa[a9] at this
  (dsimp only;have:=EB u;rwa[show (S++[(Ent.ie ⟨l,.slice ao a.length cc,a,ps,bo⟩)]).map (λp:IE=>p.2.2)=(S.map λp:IE=>p.2.2)++[bo] from by simp[Ent.ie]])
 obtain rfl:qx=none:=by simpa using h3
 refine Zc 2 Z (gx (Zc 3 Z ?_));have a2:=YT g u hS;refine Z2 5 [1,1,0] H Z (KD Z Z (Jj 3 (e:=223) H Z Z J Z) ?_);rintro _ w ⟨rfl,H⟩;replace H:=H.l6;refine Z3 10 [7,1,0] [D.left-1] H Z U (Ab Z (Nb Z Z Z) (Z4 11 [7,1] H Z ?_));intro w H;refine Zr Z ?_;replace H:=(H.mono 5 (B:=seps (([]:List Ent).map Ent.row)) Z (λh q=>⟨λ_=>0,λi A hi=>by simp at hi⟩)).l6;replace H:=H.f5.f5.f5.f5.f5;replace H:=(Sep.toDisk (D:=D.fl) (pd:=pd) (bd:=bd) (m:=m) (f0:=f0) (bs:=b) (es:=([]:List Ent)) (clk:=clk) (hq:=hq) (Γ:=GG rr m clk (JN (S.map λp:IE=>p.2.2) none)::R) H (Ada c (λi hi=>Dsk.cont_len c hi) c.f1 c.f2 (Fg c.f3) U) (a2.f _ _ _ _ _)).l2;exact ⟨_,.inr ⟨by simp_all,Z,Z⟩,H.perm 2 [0] Z Z⟩
def wr1(D:Dsk)(fua:Bool)(i:Nat)(p:List UInt8):Dsk:= {Dsk.ws {D with f2:=Bf D.f2} fua i [p] with left:=max 0 (D.left-1)}
theorem Kb{a:Bool}(p:List UInt8)(hp:p.length=256)(f:∀h,A h->rdH 1 (.slice (some ⟨j,e,none⟩) 256 r) 256 (p.map u8) h)(b:∀i,(D.ver i).length<=1099511627776)(d:0<=t/\t+1<=(D.n:Int)):
  Cn prog 91 [Y m,I t,.slice (some ⟨j,e,none⟩) 256 r,.bool a] [diskA m D,A] (λv Γ=>(D.bad/\v=I 11/\Γ=[diskA m D.wf,A])\/(¬D.bad/\v=I 0/\Γ=[diskA m (wr1 D a t.toNat p),A])):=by
 have h:=Qn m j e r D t a [p] A (by simpa using hp) O b (λh q=>by simpa using f h q);refine Cn.mono h ?_;have c:0<=t/\t+(([p]:List (List UInt8)).length:Int)<=(D.n:Int):=by simpa using d
 rintro v Γ (⟨g,_⟩|⟨_,g,rfl,rfl⟩|⟨_,g,rfl,rfl⟩)
 ·exact absurd c g
 ·exact .inl ⟨g,Z,Z⟩
 exact .inr ⟨λh=>by rcases h with h|h;exact g.1 h;exact g.2 h,Z,Z⟩
theorem HM:Cn prog 90 [Y i] [diskA i D] (λv Γ=>v=I (D.n:Int)/\Γ=[diskA i D]):=by
 refine Cn.mono (Cn.onDisk (post:=λv Γ=>v=I (D.n:Int)/\Γ=[]) (pre:=[]) (λa bd m f0=>?_)) ?_
 ·have b:=a.n2
  refine Cn.mono (KF i bd m (D.n*256) f0 D.f1 D.f2 D.f3 D.left D.cut U) ?_;rintro v Γ ⟨rfl,rfl⟩;exact ⟨[],⟨congrArg I U,Z⟩,Z⟩
 rintro v Γ ⟨Γ',⟨rfl,rfl⟩,rfl⟩;exact ⟨Z,Z⟩
theorem Or(s:Sup)(b:s.Ok (D.n:Int))(d:∀i,(D.ver i).length<=1099511627776):Cn prog 94 [Y m,Y j,.agg #[I s.gen,I s.epoch,I s.pages,I s.start,I s.len,I s.head,I s.seq]] [diskA m D,tblA j] (λv Γ=>(D.bad/\v=I 11/\Γ=[diskA m D.wf,tblA j])\/(¬D.bad/\v=I 0/\Γ=[diskA m (Fi D s),tblA j])):=by
 intro z R w H;have o:=H.sy 0 (λq=>(diskA.ok q).n1);have l:=H.sy 0 (λq=>(diskA.ok q).n2);have k:=Sup.get b;have g:=b.2;refine Ae func94 Z ntmps94 Z (Za 2 [] H Z ?_);intro r w H;refine Zc 5 Z (Bv (Sep z _) J J H.drew (GF 9 [0,7] [] Z J (Dm Z Z Z Z Z (λw=>call90 _ w) (v:=I (D.n:Int)) (cq (HM) (by rintro _ _ ⟨rfl,rfl⟩;exact ⟨Z,Z⟩) 2 [1,0] [1,0] Z Z Z Z) (Dm Z Z Z Z Z (λw=>call89 _ w) (v:=I (if s.Ok (D.n:Int) then 0 else 1)) (cq (HJ _ U) (by rintro _ _ ⟨rfl,rfl⟩;exact ⟨Z,Z⟩) 0 [] [] Z Z Z Z) (B0 2 [] Z J (BI (λw e=>?_)))))));have H:=e.l3;refine gn (Zc 1 Z (Af Z (λf=>?_) (λf=>?_)))
 ·exact absurd (if_pos b) f
 refine Z2 6 [0,7] H Z (Aq Z (call153 _) (RK (λx p=>b.1 x p)) H.f2 ?_);rintro _ w _ ⟨t,rfl,rfl⟩ H;refine Z3 24 [4,0,2,0] [s.gen%2] H Z U (Aq Z (call91 _) (Kb (DD s) (GM s) (λh q=>HH (lo:=0) (n:=256) (c:=256) (ys:=DD s) q (GM s) U U U (by rw[Aeu];exact Aej (Agi (GM s)))) d U) H.f3 ?_);rintro _ w _ (⟨a,rfl,rfl⟩|⟨a,rfl,rfl⟩) e
 ·have H:=e.l4;refine Zc 4 Z (Zr Z ?_);exact ⟨_,.inl ⟨a,Z,Z⟩,H.perm 4 [0,2] Z Z⟩
 have H:=e.l4;refine Zc 4 Z (Zr Z ?_);exact ⟨_,.inr ⟨a,Z,Z⟩,H.perm 4 [0,2] Z Z⟩
set_option maxHeartbeats 1000000 in
theorem AbD (k:D.f1=0) (x c b:Sup) (d:c.Ok (D.n:Int)) (f:b.Ok (D.n:Int)) (g0:c.gen%2=0) (g1:b.gen%2=1) (c0:D.cont 0=DD c) (c1:D.cont 1=DD b) (a:x=if c.gen<b.gen then b else c):Cn prog 95 [Y i,Y e] [diskA i D,tblA e] (λv Γ=>v=.tuple #[.agg #[I x.gen,I x.epoch,I x.pages,I x.start,I x.len,I x.head,I x.seq],I 0]/\Γ=[diskA i D,tblA e]):=by
 intro z R w H;have a4:=H.sy 0 (λq=>(diskA.ok q).n1);have a7:=H.sy 0 (λq=>(diskA.ok q).n2);have a5:=Sup.get d;have a3:=Sup.get f;have a6:=d.2;have a8:=f.2;refine Ae func95 Z ntmps95 Z (Za 2 [] H Z ?_);intro b1 w H;refine Zc 14 Z (z_E_ Z (call90 _) (HM) H.f1 ?_);intro w H;refine Z0 4 [0] Z (Af Z (λh1=>U) (λh1=>?_));refine Za 4 [] H Z ?_;intro b2 w H;refine Zc 14 Z (GI 3 (DF (Z0 21 [3] Z (Aq Z (call143 _) (IW) H.f1 ?_))));rintro _ w _ (⟨a,_,_⟩|⟨_,a,_,_⟩|⟨_,_,g0,l,p,rfl,⟨a2,s,r⟩,rfl⟩) g
 ·exact absurd ⟨by omega,by omega⟩ a
 ·(rw[k] at a;cases a)
 rw[diskA.f1 k] at g;have H:=g.l5;refine Z5 25 [4,2,1,0,0,2] [1] H Z U ?_;intro w H;refine gf (DF (Z0 21 [3] Z (Aq Z (call143 _) (IW) H.f1 ?_)));rintro _ w _ (⟨a,_,_⟩|⟨_,a,_,_⟩|⟨_,_,g1,o,t,rfl,⟨a0,a1,y⟩,rfl⟩) g
 ·exact absurd ⟨by omega,by omega⟩ a
 ·(rw[k] at a;cases a)
 rw[diskA.f1 k] at g;have H:=g.l6;refine Z5 25 [4,2,1,1,1,3] [2] H Z U ?_;intro w H;refine gf (DF (Z0 9 [4] Z (gx (Zc 13 Z (Ab Z (Bc Z Z (out:=[I (-1),I 0,I 0,I 0,I 0,I 0,I 0]) J) (Za 0 [] H Z ?_))))));intro b3 w H;refine Z4 11 [0,4,2] H Z ?_;intro w H;refine GI 3 (DF (Z0 14 [3] Z (Ab Z (E6 (m:=2) Z J Z Z Z (j:=0) Z (u:=.slice (some ⟨g0,0,none⟩) 256 l) Z) (Zc 8 Z (z_E_ Z (call154 _) (KX (D.cont (0:Int).toNat) (λh q=>EF q (by rw[show D.cont (0:Int).toNat=DD c from c0];exact GM _) ⟨a2,s,r⟩) c d.1 c0) H.f3.f6 ?_)))));intro w H;refine Za 3 [] H Z ?_;intro b4 w H;refine Z4 5 [0] H Z ?_;intro w H;refine Bv (Sep z _) J J H.drew (GF 4 [0,7] [] Z J (Dm Z Z Z Z Z (λw=>call90 _ w) (v:=I (D.n:Int)) (cq (HM) (by rintro _ _ ⟨rfl,rfl⟩;exact ⟨Z,Z⟩) 6 [5,0,1,2,3,4] [1,2,3,4,5,0] Z Z Z Z) (Dm Z Z Z Z Z (λw=>call89 _ w) (v:=I (if c.Ok (D.n:Int) then 0 else 1)) (cq (HJ _ U) (by rintro _ _ ⟨rfl,rfl⟩;exact ⟨Z,Z⟩) 0 [] [] Z Z Z Z) (B0 3 [] Z J (Cd 68 Z (λh2=>?_) (λh2=>?_))))))
 ·refine G4 7 [0,0,0,0] [c.gen%2] Z J U (Cd 75 Z (λh3=>?_) (λh3=>?_))
  ·refine DZ 6 [0,0,0,1] (λ_ a=>(AO (a.blk 0 Z) (AO (a.blk 3 Z) AM))) Z J Z (BI (λw g=>?_));have H:=g.l8;refine gn (Zc 1 Z (Af Z (λh4=>?_) (λh4=>?_)))
   ·refine Z5 10 [0,7,3] [1] H Z U ?_;intro w H;refine gf (DF (Z0 14 [3] Z (Ab Z (E6 (m:=2) Z J Z Z Z (j:=1) Z (u:=.slice (some ⟨g1,0,none⟩) 256 o) Z) (Zc 8 Z (z_E_ Z (call154 _) (KX (D.cont (1:Int).toNat) (λh q=>EF q (by rw[show D.cont (1:Int).toNat=DD b from c1];exact GM _) ⟨a0,a1,y⟩) b f.1 c1) H.f4.f2 ?_)))));intro w H;refine Za 3 [] H Z ?_;intro b5 w H;refine Z4 5 [0] H Z ?_;intro w H;refine Bv (Sep z _) J J H.drew (GF 4 [0,7] [] Z J (Dm Z Z Z Z Z (λw=>call90 _ w) (v:=I (D.n:Int)) (cq (HM) (by rintro _ _ ⟨rfl,rfl⟩;exact ⟨Z,Z⟩) 7 [6,0,1,2,3,4,5] [1,2,3,4,5,6,0] Z Z Z Z) (Dm Z Z Z Z Z (λw=>call89 _ w) (v:=I (if b.Ok (D.n:Int) then 0 else 1)) (cq (HJ _ U) (by rintro _ _ ⟨rfl,rfl⟩;exact ⟨Z,Z⟩) 0 [] [] Z Z Z Z) (B0 3 [] Z J (Cd 68 Z (λh5=>?_) (λh5=>?_))))))
    ·refine G4 7 [0,0,0,0] [b.gen%2] Z J U (Cd 75 Z (λh6=>?_) (λh6=>?_))
     ·refine DZ 6 [0,0,0,1] (λ_ a=>(AO (a.blk 0 Z) (AO (a.blk 5 Z) AM))) Z J Z (BI (λw g=>?_));have H:=g.l9;refine gn (Zc 1 Z (Af Z (λh7=>?_) (λh7=>?_)))
      ·refine Z5 10 [0,7,5] [2] H Z U ?_;intro w H;refine gf (DF (Z0 9 [4] Z (gx (Z2 10 [0,5,0,0] H Z (Af Z (λh8=>U) (λh8=>?_))))))
       refine Z4 10 [5,7,8] H Z ?_;intro w H;refine Zl [8,7] H Z ?_;obtain rfl:x=b:=by rw[a];first|exact if_pos U|exact if_neg U
       exact ⟨_,⟨rfl,rfl⟩,H.perm 9 [6,1] rfl rfl⟩
      refine Z1 7 [] [2] Z U (gf (DF (Z0 9 [4] Z (gx (Z2 10 [0,5,0,0] H Z (Af Z (λh9=>U) (λh9=>?_)))))));refine Z4 10 [5,7,8] H Z ?_;intro w H;refine Zl [8,7] H Z ?_;obtain rfl:x=c:=by rw[a];first|exact if_pos U|exact if_neg U
      exact ⟨_,⟨rfl,rfl⟩,H.perm 9 [6,1] rfl rfl⟩
     (exfalso;omega)
    exact absurd (if_pos f) h5
   (exfalso;omega)
  (exfalso;omega)
 exact absurd (if_pos d) h2
theorem VH(g m clk:Nat)(l:List IE)(d:∀p∈l,p.2.2<clk)(o:(l.map λp:IE=>p.2.2).Nodup):Xo prog 197 [Y g] [blk g [.map (some m)] 134,AH m l clk] (Abr l) [] (RH l):=by
 intro z k J_ n w b;have H:=b.l2;refine J2 (args:=[.func (.yield k) #[] #[],Y g]) func197 Z Z 14 ntmps197 Z ?_;refine CS ?_;refine Ce ?_;refine s_do Z Z Z (Bg Z Z J (Ay (H.cel 0 Z 0 Z))) ?_;refine E3 Z Z Z (HE 1 (e:=104) H Z Z J Z) ?_;rintro _ w ⟨h,rfl,b⟩;have H:=b.l3;refine AQ ?_;refine D9 ?_;refine LJ (σ:=List IE) (λs=>[(0,.func (.yield k) #[] #[]),(5,Y h)])
  (λs w=>Sep z (GG h m clk (s.map λp:IE=>p.2.2)::blk g [.map (some m)] 134::AH m l clk::J_ s) w/\(True)) (λs=>(Cl l (s.map λp:IE=>p.2.2)).length) ([])
  (λ_ f=>(f.all Z)) ⟨H,trivial⟩ ?_
 clear H;rintro s w ⟨b,q⟩;have H:=b.l3;refine CS ?_;refine Ce ?_;refine E3 Z Z Z (IP 0 2 H Z Z Z Z d) ?_;rintro _ w ⟨j,rfl,a,b⟩;have H:=b.l3;refine s_do Z Z Z (KH Z Z) ?_;refine AQ ?_;refine CS ?_;refine Ji Z (λi=>?_) (λi=>?_)
 ·-- yes:j.isSome
  obtain ⟨c,rfl⟩:=Ae8.1 i;refine Gs ?_;refine D9 ?_;refine CS ?_;refine Ce ?_;refine s_do Z Z Z (HF (p:=c) Z Z (Ay ⟨H.bk 0 Z,H.bk 2 Z⟩) (C7 a).1 o) ?_;refine s_do Z Z Z (Fe Z Z Z) ?_;refine s_do Z Z Z (Bl Z Z) ?_;refine AQ ?_;refine CS ?_;refine J1 ?_;refine Eq Z Z Z (Cj Z Z) ?_;refine Eq Z Z Z (Cj Z Z) ?_;replace H:=H.f2.f2;refine LL Z Z Z Z Z Z (n s _ (s++[c]) [GG h m clk ((s.map λp:IE=>p.2.2)++[c.2.2])] ⟨c,a,Z,Z⟩ _ H) ?_;rintro _ w ⟨rfl,b⟩;refine ⟨_,Z,?_⟩;have H:=b.l3;refine Eq Z Z Z (Kt Z Z) ?_;refine Rw ?_;refine Iq Z ?_;refine Gs ?_;replace H:=H.f1.f1.f2;intro _ f;refine ⟨(s++[c]),(f.all Z),⟨(by rw[AeH];exact H),?_⟩,?_⟩
  ·trivial
  (have:=EB a;rwa[show (s++[c]).map (λp:IE=>p.2.2)=(s.map λp:IE=>p.2.2)++[c.2.2] from by simp])
 -- no:j.isSome
 obtain rfl:j=none:=by simpa using i
 refine LI ?_;refine IG ?_;exact λ_ f=>⟨f.defers,s,a,H.perm 3 [1,2] Z Z⟩
theorem Ot{l:List IE}(j:∀p∈l,p.2.2<i)(t:(l.map λp:IE=>p.2.2).Nodup)(y:l.length<=1099511627776):Cn prog 227 [.slice none 0 0,.func (.func 197) #[] #[Y n]] [blk n [.map (some m)] 134,AH m l i] (λv Γ=>∃s:List IE,s.Perm l/\Γ=[blk n [.map (some m)] 134,AH m l i,grow 3 1 v s.length (kC s)]):=by
 intro z R w b;have H:=b.l2;refine NL func227 Z 13 ntmps227 Z (AY (AI (E3 Z Z Z (G0 H Z Z (cs:=[.slice none 0 0]) Z) ?_)));rintro _ w ⟨q,rfl,b⟩;have H:=b.l3;refine BZ 1 Z Z (AQ (AY (AY (AI (BZ 1 Z Z (AQ (FK ?_)))))));have b:=H.nilg 3 1;have H:=b.l4;replace H:=H.f1;have b:=H.toVec (l:=l) (s:=[]) O O;have H:=b.l3;replace H:=H.f2.f2;have b:=Sep.swap (As:=[blk n [.map (some m)] 134,AH m l i]) (Bs:=(vecA q l []::R)) H;clear H;refine UQ (λs=>(vecA q l s::R)) Z (λu w=>call197 u w) Z (VH n m i l j t) b ?_ ?_
 ·rintro ro s v s2 ⟨p,hp,rfl,rfl⟩ w;refine Ce (BZ 1 Z Z (AQ ?_));refine λa hF=>⟨Z,λF w b=>?_⟩
  revert a hF;have H:=b.l1;obtain ⟨c,f,b⟩:=H.vec;clear H;have H:=b.l2;have x:=KW c;refine D9 (Ce (Gj 2 [0] (AO (H.blk 0 Z) AM) Z J Z (E3 Z Z Z (AP H Z J (Elt.mk (P:=prog) (e:=3) (z:=I 0) (sz:=1) (by_:=8) J Z U U) Z (by decide) (by decide) (out:=[I p.1]) J) ?_)));rintro _ w ⟨b2,rfl,b⟩;have H:=b.l3;refine E3 Z Z Z (A0 2 H Z Z J (Elt.mk (P:=prog) (e:=3) (z:=I 0) (sz:=1) (by_:=8) J Z U U) Z Z (H.rv 0 (·.rd U U O Z)) (by simp[Value.oneCell']) U) ?_;rintro v3 w b;have b:Sep z (blk b2 [I p.1] 3::blk q [f] 81::grow 3 1 v3 (s.length+1) (kC s++[I p.1])::(R++F)) w:=b;have r:(kC s++[I p.1]:List Value)=kC (s++[p]):=Yw s p;rw[r] at b;rw[show (s.length+1:Nat)=(s++[p]).length from by simp] at b;have H:=b.l3;have k:=H.sy 2 (·.slc);refine F0 Z Z (Lp 1 H Z Z Z Z k.cells k.one J) ?_;rintro w b;have H:=b.l3;refine AQ ?_;replace H:=H.d;have h:=F3 c hp;exact λ_ _=>H.toVec h.1 h.2
 rintro D0 w s g b;have H:=b.l2;replace H:=H.f1;obtain ⟨c,f,b⟩:=H.vec;clear H;have H:=b.l3;refine AY (AI (Gj 2 [0] (AO (H.blk 0 Z) AM) Z J Z (AQ (D7 ?_))));replace H:=H.f2;refine NN H (rs:=[.tmp 4]) Z [f] (λ_=>⟨Z,trivial⟩) (v:=f) Z (λw b=>?_);clear H;have H:=b.l2;have b:=Sep.swap (As:=grow 3 1 f s.length (kC s)::R) (Bs:=[blk n [.map (some m)] 134,AH m l i]) (H.pick 2 [1] Z);exact ⟨[blk n [.map (some m)] 134,AH m l i,grow 3 1 f s.length (kC s)],⟨s,Ho t c g,Z⟩,b⟩
theorem Qu:Cn prog 161 [.map (some m)] [] (λv Γ=>∃a,v=.func (.func 197) #[] #[Y a]/\Γ=[blk a [.map (some m)] 134]):=by
 intro z R w H;refine Ae func161 Z ntmps161 Z (Za 2 [] H Z ?_);intro b w H;refine Zc 5 Z (Ab Z (C5 Z Z Z) (Zc 4 Z (Zr Z ?_)));exact ⟨_,⟨b,Z,Z⟩,H⟩
theorem RN{l:List IE}(a:∀p∈l,p.2.2<i)(c:(l.map λp:IE=>p.2.2).Nodup)(b:l.length<=1099511627776):Cn prog 195 [.func (.func 197) #[] #[Y n]] [blk n [.map (some m)] 134,AH m l i] (λv Γ=>∃s:List IE,s.Perm l/\Γ=[blk n [.map (some m)] 134,AH m l i,grow 3 1 v s.length (kC s)]):=by
 intro z R w H;refine Ae func195 Z ntmps195 Z (Zc 8 Z (Aq Z (call227 _) (Ot a c b) H ?_));rintro e w _ ⟨s,hs,rfl⟩ H;refine Zc 4 Z (Zr Z ?_);exact ⟨_,⟨s,hs,Z⟩,H⟩
theorem MG{l:List IE}(a:∀p∈l,p.2.2<i)(g:(l.map λp:IE=>p.2.2).Nodup)(c:l.length<=1099511627776):Cn prog 160 [.func (.func 197) #[] #[Y n]] [blk n [.map (some m)] 134,AH m l i] (λv Γ=>∃s:List IE,s.Perm l/\Γ=[grow 3 1 v ((s.map λp:IE=>p.1).mergeSort (λx y=>decide (x<=y))).length (((s.map λp:IE=>p.1).mergeSort (λx y=>decide (x<=y))).map I),blk n [.map (some m)] 134,AH m l i]):=by
 intro z R w H;refine Ae func160 Z ntmps160 Z (Zc 8 Z (Aq Z (call195 _) (RN a g c) H ?_));rintro d w _ ⟨s,hs,rfl⟩ H;refine Zc 6 Z ?_;have b:(s.map λp:IE=>p.1).length=s.length:=by simp
 have e:=hs.length_eq;replace H:=(H.mono 2 (B:=grow 3 1 d (s.map λp:IE=>p.1).length ((s.map λp:IE=>p.1).map I)) Z (λh q=>by rw[b,Afn];exact q)).l3;refine Aq Z (call196 _) (Tq U) H.f2 ?_;rintro _ w _ ⟨rfl,ys,rfl,rfl⟩ H;refine Zc 9 Z (Zr Z ?_);exact ⟨_,⟨s,hs,Z⟩,H⟩
def Fa(f:BD)(ks:List Int):Prop:=ks.Pairwise (· < ·)/\∀k:Int,k∈ks↔0<=k/\(f k.toNat).isSome=true
def pgLst(f:BD)(ks:List Int):List (Nat×Pg):=ks.map λk=>(k.toNat,(f k.toNat).getD noPg)
theorem Ew{f:BD}(h:Fa f l)(n:Nat)(p:Pg):(n,p)∈pgLst f l↔f n=some p:=by
 unfold pgLst;rw[Aek];constructor
 ·rintro ⟨k,b,e⟩
  obtain ⟨c,a⟩:=(h.2 k).1 b;obtain ⟨q,hq⟩:=Ae8.1 a;rw[hq] at e;simp only[Option.getD_some,Afx] at e;obtain ⟨e1,e2⟩:=e;rw[<-e1,hq,e2]
 intro e;refine ⟨(n:Int),(h.2 _).2 ⟨by omega,by rw[Ae4,e];rfl⟩,?_⟩;rw[Ae4,e];rfl
theorem EU{f:BD}(h:Fa f l):((pgLst f l).map Prod.fst).Nodup:=by
 unfold pgLst;rw[Afn];refine AfJ.2 (List.Pairwise.imp_of_mem ?_ h.1);intro a b d e c;have g:=((h.2 a).1 d).1;have i:=((h.2 b).1 e).1;simp only[AgL];omega
theorem VI{f:BD}{p:Pg}(b:l[j]?=some (n:Int))(a:f n=some p):(pgLst f l)[j]?=some (n,p):=by
 unfold pgLst;rw[Aeo,b];simp[a]
theorem YU{l:List (Nat×Pg)}{p:Pg}(h:l[j]?=some (n,p)):wr1 (hwD D (l.take j)) false ((2:Int)+(n:Int)).toNat (Ei n p)=hwD D (l.take (j+1)):=by
 rw[AeN,h];show _=hwD D (l.take j++[(n,p)]);rw[Vh,show ((2:Int)+(n:Int)).toNat=2+n from by omega];rfl
def Dsk.flb(D:Dsk):Prop:=D.f3=1\/(D.cut=true/\D.left=0)
def LT(D:Dsk)(l:List (Nat×Pg))(c:Int)(D2:Dsk):Prop:=
 (∃j,(hwD D (l.take j)).bad/\c=11/\D2=(hwD D (l.take j)).wf)\/((hwD D l).flb/\c=12/\D2= {hwD D l with f3:=Bf (hwD D l).f3})\/((hwD D l).fl.bad/\c=11/\D2=(hwD D l).fl.wf)
theorem PgsIn.small{f:BD}{es:List PgE}{clk:Nat}{hq:Hp}(h:PgsIn f es clk hq)(a:∀n,(f n).isSome=true->n<1024):es.length<=1024:=by
 have:=Jr (s:=es.map PgE.n) (l:=List.range 1024) h.nodup (λk c=>by
  obtain ⟨e,b,rfl⟩:=Aek.1 c;exact AfQ.2 (a _ (by rw[(h.ent e b).1];rfl)))
 simpa using this
theorem VJ{x:Sup}{q:Value}{f:BD}{hq:Hp}(l:∀n,(f n).isSome=true->n<1024):Cn prog 157 [Y m] [stB m i j x u g b q,pgsA g f hq] (λv Γ=>(∃c:List Int,Fa f c/\Γ=[grow 3 1 v c.length (c.map I),stB m i j x u g b q,pgsA g f hq])):=by
 intro z R w H;replace H:=H.l2;obtain ⟨es,clk,a,H⟩:=H.pgs 1 Z;replace H:=H.l2;have d:es.length<=1099511627776:=by have:=a.small l;omega
 refine Ae func157 Z ntmps157 Z (Z2 11 [10,0,0] H Z (Aq Z (call161 _) (Qu) H ?_));rintro _ w _ ⟨t,rfl,rfl⟩ H;replace H:=H.l3;have o:∀h:IE->Nat,(es.map PgE.ie).map h=es.map λe=>h e.ie:=λh=>by simp
 refine Aq Z (call160 _) (MG (λp hp=>by obtain ⟨e,r,rfl⟩:=Aek.1 hp;exact a.clk e r) (by rw[o];exact a.born) (by simp;exact d)) H.f2.f1 ?_;rintro v2 w _ ⟨s,hs,rfl⟩ H;replace H:=H.l4;have k:Fa f ((s.map λp:IE=>p.1).mergeSort (λx y=>decide (x<=y))):=a.keys hs;refine Zc 4 Z (Zr Z ?_);replace H:=(H.toPgs 2 Z a).l4;exact ⟨_,⟨_,k,Z⟩,H.perm 4 [0,3,2] Z Z⟩
set_option maxHeartbeats 2000000 in
theorem VK (ps pd l md:Nat) (x:Sup) (lp mo:Value) (un:Bool) (f:BD) (hq:Hp) (y:Sup) (D:Dsk) (a3:∀n,(f n).isSome=true->n<1024) (a8:∀n,(f n).isSome=true->2+n<D.n) (a5:y.Ok (D.n:Int)) (a4:∀i,(D.ver i).length<=1000000000000):Cn prog 97 [Y ps,.agg #[I y.gen,I y.epoch,I y.pages,I y.start,I y.len,I y.head,I y.seq]] [stB ps pd l x lp md un mo,tblA l,diskA pd D,pgsA md f hq,poolA hq] (λv Γ=>∃a:List Int,Fa f a/\((v=I 0/\Γ=[stB ps pd l y lp md un mo,tblA l,diskA pd (Fi (hwD D (pgLst f a)).fl y),pgsA md Dp hq,poolA hq])\/(∃(c:Int) (D2:Dsk),c≠0/\LT D (pgLst f a) c D2/\v=I c/\Γ=[stB ps pd l x lp md un mo,tblA l,diskA pd D2,pgsA md f hq,poolA hq]))):=by
 intro z R w H;refine Ae func97 Z ntmps97 Z (Za 2 [] H Z ?_);intro b1 w H;refine Zc 7 Z (Aq Z (call157 _) (VJ a3) H.f4.f2 ?_);rintro v3 w _ ⟨a,m,rfl⟩ H;have b3:=H.sy 0 (·.slc);have b6:=H.sy 0 (·.rd.small);obtain ⟨s,c3,rfl⟩:=b3;have H:Sep z (grow 3 1 (.slice s a.length c3) a.length (a.map I)::stB ps pd l x lp md un mo::pgsA md f hq::blk b1 [I y.gen,I y.epoch,I y.pages,I y.start,I y.len,I y.head,I y.seq] 132::tblA l::diskA pd D::poolA hq::R) w:=H;obtain ⟨es,clk,t,H⟩:=H.pgs 2 Z;refine Zc 5 Z ?_;refine AB (σ:=Nat) (λj=>[(15,I (j:Int)),(0,Y ps),(3,Y b1),(13,.slice s a.length c3),(14,I (a.length:Int))])
   (λj w=>Sep z (grow 3 1 (.slice s a.length c3) a.length (a.map I)::stB ps pd l x lp md un mo::AH md (es.map PgE.ie) clk::blk b1 [I y.gen,I y.epoch,I y.pages,I y.start,I y.len,I y.head,I y.seq] 132::tblA l::diskA pd (hwD D ((pgLst f a).take j))::poolA hq::R) w/\(j<=a.length)) (λj=>a.length-j) 0
   fr_z ⟨H,by omega⟩ ?_
 clear H;rintro j w ⟨g,hI⟩;have H:=g.l7;have c1:=hI;clear hI;refine Z0 6 [0] Z (Af Z (λh1=>?_) (λh1=>?_))
 ·have b4:j<a.length:=by omega
  refine Zc 6 Z ?_;obtain ⟨x,hx⟩:∃x,a[j]?=some x:=⟨_,Aed U⟩;obtain ⟨b7,o⟩:=(m.2 x).1 (Aec hx);obtain ⟨n,rfl⟩:∃n:Nat,x=(n:Int):=⟨x.toNat,by omega⟩;rw[Ae4] at o;obtain ⟨p,pv,a9,b,a6,b0⟩:∃(p:Pg) (v:Value),f n=some p/\p.Ok/\rdH 1 v 240 (p.body.map u8) hq/\CO (es.map PgE.ie) (n:Int)=some (.agg #[I p.kind,v]):=by
    rcases t.get n with ⟨q,_⟩|q
    · rw[q] at o;cases o
    · exact q
  have hn:=a3 n o;have b9:=a8 n o;have a1:=(H.rv 0 (·.rd)).at (j:=j) (u:=I (n:Int)) (by simp[hx]);have a2:∀i,((hwD D ((pgLst f a).take j)).ver i).length<=1099511627776:=λi=>by have h1:=Oh ((pgLst f a).take j) D i ((EU m).sublist ((List.take_sublist _ _).map _));have h2:=a4 i;omega
  refine Ab Z (Aj Z (z:=1) (j:=j) (r:=j) J Z Z Z U a1 U) (Ab Z (Ax Z Z J (Ay a1)) (Zc 4 Z ?_));replace H:=H.f2.f2;refine AN (Sep z (stB ps pd l x lp md un mo::AH md (es.map PgE.ie) clk::R)) 18 Z J (AZ H λw g=>?_);have H:=g.l7;refine AT [0,1,2,3,4,5,6,7,8,9] [1,0,0,10,0,0] [] (by exact H.pick 7 [0,1] Z) Z J Z (BN 10 Z J J J Z Z Z (FN (e:=104) (zv:=.agg #[I 0,.slice none 0 0]) Z J J Z Z (λ_ hx=>hx.bk 1 Z)) (H.pick 7 [0,1] Z) (AD 30 (v:=.agg #[I p.kind,pv]) Z (by rw[b0];rfl) (BN 11 Z J J J Z Z Z (Bc Z Z (out:=[I (n:Int),I p.kind,pv]) J) (H.pick 7 [0,1] Z) (AC [12] J O (Am (Bo Z Z Z Z Z Z (λw=>call158 _ w) (MA p.body (λh q=>by rw[b.2];exact a6.le q)) H.f6.f5 Z ?_))))));rintro _ w _ (⟨k,rfl,rfl⟩|⟨_,pw,rfl,rfl⟩) g
  ·exact absurd ⟨⟨by omega,by omega⟩,b.1,b.2⟩ k
  have H:=g.l8;refine Av (H.pick 8 [3,4] Z) (AT [13,14,15,16,17] [] [] (by exact H.pick 8 [3,4] Z) Z J Z (a_done J (gn (Z3 20 [4,0,3,0] [(2:Int)+(n:Int)] H Z U (Aq Z (call91 _) (Kb (Ei n p) (FS b) (λh q=>HH (lo:=0) (n:=256) (c:=256) (ys:=Ei n p) q (FS b) U U U (by rw[Aeu];exact Aej (Agi (FS b)))) a2 (by rw[E9];omega)) H.f7 ?_)))));rintro _ w _ (⟨k,rfl,rfl⟩|⟨k,rfl,rfl⟩) g
  ·have H:=g.l8;refine Z0 17 [3] Z (Zr Z ?_);replace H:=(H.toPgs 5 Z t).l8
   exact ⟨_,⟨a,m,.inr ⟨_,_,by decide,.inl ⟨j,k,Z,Z⟩,Z,Z⟩⟩,H.perm 8 [4,2,0,5,3] Z Z⟩
  have H:=g.l8;refine Z1 17 [4] [(j:Int)+1] Z U ?_;replace H:=H.f1.d.f2.f1.f2.f6.f5.f5.f6;refine gf ?_;intro _ hF;refine ⟨(j+1),hF.cz,⟨(by rw[<-YU (VI hx a9)];exact H),?_⟩,?_⟩
  ·omega
  omega
 obtain rfl:j=a.length:=by omega
 refine Zc 2 Z (gx (Zc 4 Z ?_));have b2:(pgLst f a).take a.length=pgLst f a:=Aej (by simp only[pgLst,Aef];omega);rw[b2] at H;have H:Sep z (grow 3 1 (.slice s a.length c3) a.length (a.map I)::stB ps pd l x lp md un mo::AH md (es.map PgE.ie) clk::blk b1 [I y.gen,I y.epoch,I y.pages,I y.start,I y.len,I y.head,I y.seq] 132::tblA l::diskA pd (hwD D (pgLst f a))::poolA hq::R) w:=H;refine Z2 5 [0,1,0] H Z (Aq Z (call92 _) (HL) H.f5 ?_);rintro _ w _ (⟨a0,rfl,rfl⟩|⟨a0,rfl,rfl⟩) g
 ·have H:=g.l7;refine Z0 17 [3] Z (Zr Z ?_);replace H:=(H.toPgs 3 Z t).l7
  exact ⟨_,⟨a,m,.inr ⟨_,_,by decide,.inr (.inl ⟨a0,Z,Z⟩),Z,Z⟩⟩,H.perm 7 [2,5,0,3,6] Z Z⟩
 have H:=g.l7;refine Z0 14 [4] Z ?_;replace H:=H.f4.f3;refine AN (Sep z (stB ps pd l x lp md un mo::blk b1 [I y.gen,I y.epoch,I y.pages,I y.start,I y.len,I y.head,I y.seq] 132::R)) 11 Z J (AZ H λw g=>?_);have H:=g.l7;refine AT [0,1,2,3,4,5,6,7,8] [0,0,0,1,0,0,1,7] [] (by exact H.pick 7 [0,1] Z) Z J Z (AC [9] J O (Am (Bo Z Z Z Z Z Z (λw=>call94 _ w) (Or y (by show y.Ok ((hwD D (pgLst f a)).n:Int);rw[E9];exact a5) (λi=>by show ([]:List (List UInt8)).length<=_;simp)) H.f5.f3 Z ?_)));rintro _ w _ (⟨a7,rfl,rfl⟩|⟨a7,rfl,rfl⟩) g
 ·have H:=g.l7;refine Av (H.pick 7 [2,3] Z) (AT [10] [] [] (by exact H.pick 7 [2,3] Z) Z J Z (a_done J (gn (Z0 15 [3] Z (Zr Z ?_)))));replace H:=(H.toPgs 5 Z t).l7
  exact ⟨_,⟨a,m,.inr ⟨_,_,by decide,.inr (.inr ⟨a7,Z,Z⟩),Z,Z⟩⟩,H.perm 7 [2,1,0,5,6] Z Z⟩
 have H:=g.l7;refine Av (H.pick 7 [2,3] Z) (AT [10] [] [] (by exact H.pick 7 [2,3] Z) Z J Z (a_done J (gn (Z4 25 [4,3,7,2,2,10,2,0] H Z ?_))));intro w H;refine KD Z Z (Jj 5 (e:=104) H Z Z J Z) ?_;rintro _ w ⟨rfl,H⟩;refine Zc 8 Z (Zr Z ?_);replace H:=(H.toPgs 5 Z (PgsIn.none hq clk)).l7;exact ⟨_,⟨a,m,.inl ⟨Z,Z⟩⟩,H.perm 7 [2,1,0,5,6] Z Z⟩
theorem YV(ps pd a md:Nat)(x:Sup):Cn prog 106 [Y ps] [stB ps pd a x u md b y] (λv Γ=>v=.tuple #[]/\Γ=[stB ps pd a x u md false (.map none)]):=by
 intro z R w H;refine Ae func106 Z ntmps106 Z (Z4 10 [11,0,12,0] H Z ?_);intro w H;refine Zf Z ?_;exact ⟨_,⟨Z,Z⟩,H⟩
theorem YW(ps pd a md:Nat)(x:Sup):Cn prog 53 [Y ps] [stB ps pd a x u md false y] (λv Γ=>v=I 0/\∃m,Γ=[stB ps pd a x u md true (.map (some m)),AH m [] 0]):=by
 intro z R w H;refine Ae func53 Z ntmps53 Z (Z4 28 [11,0,0,11,0] H Z ?_);intro w H;refine AR Z (F6 H Z) ?_;rintro _ w ⟨b,rfl,H⟩;refine Z4 11 [12,1] H Z ?_;intro w H;refine Zr Z ?_;exact ⟨_,⟨Z,b,Z⟩,H.perm 2 [1,0] Z Z⟩
theorem Qw(ps pd a md:Nat)(x:Sup):Cn prog 109 [Y ps] [stB ps pd a x u md b y] (λv Γ=>v=.agg #[I x.gen,I x.epoch,I x.pages,I x.start,I x.len,I x.head,I x.seq]/\Γ=[stB ps pd a x u md b y]):=by
 intro z R w H;refine Ae func109 Z ntmps109 Z (Za 2 [] H Z ?_);intro c w H;refine Z4 12 [2,1,7,0] H Z ?_;intro w H;refine Zl [0,7] H Z ?_;exact ⟨_,⟨Z,Z⟩,H.perm 2 [1] Z Z⟩
theorem GQ(p:Pg)(g:Value)(d:∀h,A h->rdH 1 g 240 (p.body.map u8) h)(hp:p.Ok):Cn prog 103 [.agg #[I p.kind,g]] [A] (λv Γ=>∃e,v=.agg #[I p.kind,e]/\Γ=[grow 5 1 e 240 (p.body.map u8),A]):=by
 intro z R w H;replace H:=H.l1;obtain ⟨b,o,c,rfl⟩:=H.sy 0 (λq=>(d _ q).sl (by simp[hp.2]));have i:=d;refine Ae func103 Z ntmps103 Z (Za 2 [] H Z ?_);intro f w H;refine Za 0 [] H Z ?_;intro j w H;refine Zc 3 Z ?_;replace H:=H.f1.f2;refine AN (Sep z (A::blk f [I p.kind,.slice (some ⟨b,o,none⟩) 240 c] 104::R)) 7 Z J (AZ H λw k=>?_);have H:=k.l3;refine AT [0,1,2,3] [0,1,0,1,1,0] [] (by exact H.pick 3 [0,1] Z) Z J Z (AC [4] J O (Am (Bo Z Z Z Z Z Z (λw=>call159 _ w) (Vq 240 p.body i U) H Z ?_)));rintro e w _ ⟨_,rfl,rfl⟩ H;replace H:=H.l4;obtain ⟨a,c1,rfl⟩:=H.sy 0 (·.slc);have H:Sep z (grow 5 1 (.slice a 240 c1) 240 (p.body.map u8)::A::blk f [I p.kind,.slice (some ⟨b,o,none⟩) 240 c] 104::blk j [I 0,.slice none 0 0] 104::R) w:=H;refine Av (H.pick 4 [1,2] Z) (AT [5] [] [] (by exact H.pick 4 [1,2] Z) Z J Z (AC [6] J O (Am (Bi Z Z Z (Ak 3 H Z Z Z Z (vs:=[I p.kind,.slice a 240 c1]) Z (by simp[u8,u32,Value.oneCell']) J O (out:=[I p.kind,.slice a 240 c1]) Z) ?_))));rintro w H;replace H:=H.l4;refine Av (H.pick 4 [1,2] Z) (a_done J (gn (Zc 2 Z (Zl [3,2] H Z ?_))));exact ⟨_,⟨_,Z,Z⟩,H.perm 4 [0,1] Z Z⟩
set_option maxHeartbeats 2000000 in
theorem VL (ps pd l md:Nat) (x:Sup) (f:BD) (hq:Hp) (D:Dsk) (n:Nat) (hn:(n:Int)<x.pages) (s:D.f1=0) (y:x.Ok (D.n:Int)) (q j:Pg) (k:q=(f n).getD j) (hB:f n=none->HomeP (D.cont (2+n)) n j):Cn prog 85 [Y ps,I (n:Int)] [stB ps pd l x u md b (.map none),tblA l,diskA pd D,pgsA md f hq,poolA hq] (λv Γ=>(q=noPg/\v=.tuple #[.agg #[I 0,.slice none 0 0],I 0]/\Γ=[stB ps pd l x u md b (.map none),tblA l,diskA pd D,pgsA md f hq,poolA hq])\/(q.Ok/\∃d,v=.tuple #[.agg #[I q.kind,d],I 0]/\Γ=[grow 5 1 d 240 (q.body.map u8),stB ps pd l x u md b (.map none),tblA l,diskA pd D,pgsA md f hq,poolA hq])):=by
 intro z R w H;replace H:=H.l5;have a4:=y.2;obtain ⟨es,clk,i,H⟩:=H.pgs 3 Z;replace H:=H.l5;refine Ae func85 Z ntmps85 Z (Za 2 [] H Z ?_);intro b1 w H;refine Z0 9 [0] Z (Al 16 Z (λh1=>U) (λh1=>?_));refine Z2 10 [2,4,1,0,0] H Z (Af Z (λh2=>U) (λh2=>?_));refine Z2 10 [12,1,0] H Z (Ab Z (Ry (e:=104) (zv:=.agg #[I 0,.slice none 0 0]) Z J J Z Z) (Za 3 [] H Z ?_));intro b2 w H;refine Z4 20 [0,10,2,0] H Z ?_;intro w H;rcases i.get n with ⟨hf,hg⟩|⟨p,o,hf,c,r,hg⟩
 ·refine Ab Z (DJ (e:=104) (zv:=.agg #[I 0,.slice none 0 0]) Z J J Z Z (Ay (H.bk 5 Z))) (AD 44 (v:=.tuple #[.agg #[I 0,.slice none 0 0],.bool false]) Z (by simp[CP,hg]) (Za 3 [] H Z ?_));intro b3 w H;refine Z5 20 [0,0,3,0] [(2:Int)+(n:Int)] H Z U ?_;intro w H;refine Aq Z (call143 _) (IW) H.f5 ?_;rintro _ w _ (⟨t,_,_⟩|⟨_,t,_,_⟩|⟨_,_,gb,a2,rest,rfl,⟨cg,cc,cl⟩,rfl⟩) H'
  ·exact absurd ⟨by omega,by omega⟩ t
  ·(rw[s] at t;cases t)
  rw[diskA.f1 s,show ((2:Int)+(n:Int)).toNat=2+n from by omega] at H';have H:=H'.l9;refine Z2 25 [4,1,5,0] H Z ?_;rcases hB (by simp_all) with ⟨hz,rfl⟩|⟨a,m⟩
  ·refine z_E_ Z (call144 _) (K6 (D.cont (2+n)) (λh q=>EF q (by rw[hz];first|rfl|exact FS a) ⟨cg,cc,cl⟩) n hz) H.f6 ?_;intro w H;refine Za 3 [] H Z ?_;intro b4 w H;refine Z4 22 [0,0,2,6] H Z ?_;intro w H;refine Zl [6,2] H Z ?_;replace H:=(H.toPgs 8 Z i).l10
   exact ⟨_,.inl ⟨by first|(rw[k];simp_all;done)|(simp_all;done),rfl,rfl⟩,H.perm 10 [7,1,3,8,9] rfl rfl⟩
  refine Aq Z (call144 _) (ME (D.cont (2+n)) (λh q=>EF q (by rw[m];first|rfl|exact FS a) ⟨cg,cc,cl⟩) n j a U m) H.f6 ?_;rintro _ w _ ⟨d,rfl,rfl⟩ H;replace H:=H.l10;have g:=H.sy 0 (·.slc);refine Za 3 [] H Z ?_;intro b5 w H;refine Az Z Z (Ak 0 H Z Z Z Z (vs:=[I j.kind,d]) Z (Ad Z (Ad g.one Aw)) J O (out:=[I j.kind,d]) Z) ?_;rintro w H;replace H:=H.l11;refine Z2 16 [0,2] H Z (Az Z Z (Ak 7 H Z Z Z Z (vs:=[I j.kind,d]) Z (Ad Z (Ad g.one Aw)) J O (out:=[I j.kind,d]) Z) ?_);rintro w H;replace H:=H.l11;refine Zc 4 Z (Zl [7,2] H Z ?_);replace H:=(H.toPgs 9 Z i).l11;obtain rfl:q=j:=by rw[k];simp_all
  exact ⟨_,.inr ⟨by first|exact c|exact hpoko|exact a,_,rfl,rfl⟩,H.perm 11 [1,8,2,4,9,10] rfl rfl⟩
 have a3:=c.1;have a0:Slc o 240:=r.slc;refine Ab Z (DJ (e:=104) (zv:=.agg #[I 0,.slice none 0 0]) Z J J Z Z (Ay (H.bk 5 Z))) (AD 44 (v:=.tuple #[.agg #[I p.kind,o],.bool true]) Z (by simp[CP,hg]) (Za 3 [] H Z ?_));intro b6 w H;refine Az Z Z (Ak 0 H Z Z Z Z (vs:=[I p.kind,o]) Z (Ad Z (Ad a0.one Aw)) J O (out:=[I p.kind,o]) Z) ?_;rintro w H;replace H:=H.l8;refine Z2 12 [0,2] H Z (Aq Z (call103 _) (GQ p o (λh q=>r.le q) c) H.f7 ?_);rintro _ w _ ⟨d,rfl,rfl⟩ H;replace H:=H.l9;have g:=H.sy 0 (·.slc);refine Az Z Z (Ak 4 H Z Z Z Z (vs:=[I p.kind,d]) Z (Ad Z (Ad g.one Aw)) J O (out:=[I p.kind,d]) Z) ?_;rintro w H;replace H:=H.l9;refine Zc 4 Z (Zl [4,2] H Z ?_);replace H:=(H.toPgs 8 Z i).l9;obtain rfl:q=p:=by rw[k];simp_all
 exact ⟨_,.inr ⟨by first|exact c|exact hpoko|exact a,_,rfl,rfl⟩,H.perm 9 [0,5,6,7,8,1] rfl rfl⟩
set_option maxHeartbeats 2000000 in
theorem VN (ps pd pt md mo:Nat) (x:Sup) (f g:BD) (k:Nat) (hq:Hp) (D:Dsk) (n:Nat) (hn:(n:Int)<x.pages) (a3:D.f1=0) (a5:x.Ok (D.n:Int)) (q y:Pg) (s:q=((g n).or (f n)).getD y) (hB:(g n).or (f n)=none->HomeP (D.cont (2+n)) n y):Cn prog 85 [Y ps,I (n:Int)] [stB ps pd pt x u md b (.map (some mo)),tblA pt,diskA pd D,pgsA md f hq,Eu mo g k hq,poolA hq] (λv Γ=>(q=noPg/\v=.tuple #[.agg #[I 0,.slice none 0 0],I 0]/\Γ=[stB ps pd pt x u md b (.map (some mo)),tblA pt,diskA pd D,pgsA md f hq,Eu mo g k hq,poolA hq])\/(q.Ok/\∃m,v=.tuple #[.agg #[I q.kind,m],I 0]/\Γ=[grow 5 1 m 240 (q.body.map u8),stB ps pd pt x u md b (.map (some mo)),tblA pt,diskA pd D,pgsA md f hq,Eu mo g k hq,poolA hq])):=by
 intro z R w H;replace H:=H.l6;have c2:=a5.2;obtain ⟨es,clk,o,H⟩:=H.pgs 3 Z;replace H:=H.l6;obtain ⟨c1,b8,i,j,H⟩:=H.pgsc 4 Z;replace H:=H.l6;refine Ae func85 Z ntmps85 Z (Za 2 [] H Z ?_);intro b1 w H;refine Z0 9 [0] Z (Al 16 Z (λh1=>U) (λh1=>?_));refine Z2 10 [2,4,1,0,0] H Z (Af Z (λh2=>U) (λh2=>?_));refine Z2 10 [12,1,0] H Z ?_;rcases i.get n with ⟨a6,a0⟩|⟨po,r,a6,a,t,a0⟩
 ·refine Ab Z (DJ (e:=104) (zv:=.agg #[I 0,.slice none 0 0]) Z J J Z Z (Ay (H.bk 5 Z))) (AD 32 (v:=.tuple #[.agg #[I 0,.slice none 0 0],.bool false]) Z (by simp[CP,a0]) (Za 3 [] H Z ?_));intro b2 w H;refine Z4 20 [0,10,2,0] H Z ?_;intro w H;rcases o.get n with ⟨hf,hg⟩|⟨p,pv,hf,d,a2,hg⟩
  ·refine Ab Z (DJ (e:=104) (zv:=.agg #[I 0,.slice none 0 0]) Z J J Z Z (Ay (H.bk 5 Z))) (AD 44 (v:=.tuple #[.agg #[I 0,.slice none 0 0],.bool false]) Z (by simp[CP,hg]) (Za 3 [] H Z ?_));intro b3 w H;refine Z5 20 [0,0,3,0] [(2:Int)+(n:Int)] H Z U ?_;intro w H;refine Aq Z (call143 _) (IW) H.f5 ?_;rintro _ w _ (⟨hx,_,_⟩|⟨_,hx,_,_⟩|⟨_,_,gb,b9,rest,rfl,⟨cg,cc,cl⟩,rfl⟩) H'
   ·exact absurd ⟨by omega,by omega⟩ hx
   ·(rw[a3] at hx;cases hx)
   rw[diskA.f1 a3,show ((2:Int)+(n:Int)).toNat=2+n from by omega] at H';have H:=H'.l10;refine Z2 25 [4,1,5,0] H Z ?_;rcases hB (by simp_all) with ⟨hz,rfl⟩|⟨c,a1⟩
   ·refine z_E_ Z (call144 _) (K6 (D.cont (2+n)) (λh q=>EF q (by rw[hz];first|rfl|exact FS c) ⟨cg,cc,cl⟩) n hz) H.f6 ?_;intro w H;refine Za 3 [] H Z ?_;intro b4 w H;refine Z4 22 [0,0,2,6] H Z ?_;intro w H;refine Zl [6,2] H Z ?_;replace H:=(H.toPgs 8 Z o).l11
    replace H:=(H.toPgsc 9 Z i j).l11;exact ⟨_,.inl ⟨by first|(rw[s];simp_all;done)|(simp_all;done),rfl,rfl⟩,H.perm 11 [7,1,3,8,9,10] rfl rfl⟩
   refine Aq Z (call144 _) (ME (D.cont (2+n)) (λh q=>EF q (by rw[a1];first|rfl|exact FS c) ⟨cg,cc,cl⟩) n y c U a1) H.f6 ?_;rintro _ w _ ⟨m,rfl,rfl⟩ H;replace H:=H.l11;have l:=H.sy 0 (·.slc);refine Za 3 [] H Z ?_;intro b5 w H;refine Az Z Z (Ak 0 H Z Z Z Z (vs:=[I y.kind,m]) Z (Ad Z (Ad l.one Aw)) J O (out:=[I y.kind,m]) Z) ?_;rintro w H;replace H:=H.l12;refine Z2 16 [0,2] H Z (Az Z Z (Ak 7 H Z Z Z Z (vs:=[I y.kind,m]) Z (Ad Z (Ad l.one Aw)) J O (out:=[I y.kind,m]) Z) ?_);rintro w H;replace H:=H.l12;refine Zc 4 Z (Zl [7,2] H Z ?_);replace H:=(H.toPgs 9 Z o).l12;replace H:=(H.toPgsc 10 Z i j).l12;obtain rfl:q=y:=by rw[s];simp_all
   exact ⟨_,.inr ⟨by first|exact d|exact a|exact c,_,rfl,rfl⟩,H.perm 12 [1,8,2,4,9,10,11] rfl rfl⟩
  have c0:=d.1;have a7:Slc pv 240:=a2.slc;refine Ab Z (DJ (e:=104) (zv:=.agg #[I 0,.slice none 0 0]) Z J J Z Z (Ay (H.bk 5 Z))) (AD 44 (v:=.tuple #[.agg #[I p.kind,pv],.bool true]) Z (by simp[CP,hg]) (Za 3 [] H Z ?_));intro b6 w H;refine Az Z Z (Ak 0 H Z Z Z Z (vs:=[I p.kind,pv]) Z (Ad Z (Ad a7.one Aw)) J O (out:=[I p.kind,pv]) Z) ?_;rintro w H;replace H:=H.l9;refine Z2 12 [0,2] H Z (Aq Z (call103 _) (GQ p pv (λh q=>a2.le q) d) H.f8 ?_);rintro _ w _ ⟨m,rfl,rfl⟩ H;replace H:=H.l10;have l:=H.sy 0 (·.slc);refine Az Z Z (Ak 4 H Z Z Z Z (vs:=[I p.kind,m]) Z (Ad Z (Ad l.one Aw)) J O (out:=[I p.kind,m]) Z) ?_;rintro w H;replace H:=H.l10;refine Zc 4 Z (Zl [4,2] H Z ?_);replace H:=(H.toPgs 8 Z o).l10;replace H:=(H.toPgsc 9 Z i j).l10;obtain rfl:q=p:=by rw[s];simp_all
  exact ⟨_,.inr ⟨by first|exact d|exact a|exact c,_,rfl,rfl⟩,H.perm 10 [0,5,6,7,8,9,1] rfl rfl⟩
 have a9:=a.1;have a4:Slc r 240:=t.slc;refine Ab Z (DJ (e:=104) (zv:=.agg #[I 0,.slice none 0 0]) Z J J Z Z (Ay (H.bk 5 Z))) (AD 32 (v:=.tuple #[.agg #[I po.kind,r],.bool true]) Z (by simp[CP,a0]) (Za 3 [] H Z ?_));intro b7 w H;refine Az Z Z (Ak 0 H Z Z Z Z (vs:=[I po.kind,r]) Z (Ad Z (Ad a4.one Aw)) J O (out:=[I po.kind,r]) Z) ?_;rintro w H;replace H:=H.l8;refine Z2 12 [0,2] H Z (Aq Z (call103 _) (GQ po r (λh q=>t.le q) a) H.f7 ?_);rintro _ w _ ⟨m,rfl,rfl⟩ H;replace H:=H.l9;have l:=H.sy 0 (·.slc);refine Az Z Z (Ak 3 H Z Z Z Z (vs:=[I po.kind,m]) Z (Ad Z (Ad l.one Aw)) J O (out:=[I po.kind,m]) Z) ?_;rintro w H;replace H:=H.l9;refine Zc 4 Z (Zl [3,2] H Z ?_);replace H:=(H.toPgs 7 Z o).l9;replace H:=(H.toPgsc 8 Z i j).l9;obtain rfl:q=po:=by rw[s];simp_all
 exact ⟨_,.inr ⟨by first|exact d|exact a|exact c,_,rfl,rfl⟩,H.perm 9 [0,4,5,6,7,8,1] rfl rfl⟩
set_option maxHeartbeats 2000000 in
theorem VO (ps pd y md f:Nat) (x:Sup) (g:BD) (k:Nat) (hq:Hp) (n:Nat) (hn:(n:Int)<x.pages) (p:Pg) (hp:p.Ok) (bv:Value) (A:Ai) (hA:∀h,A h->rdH 1 bv 240 (p.body.map u8) h):Cn prog 55 [Y ps,I (n:Int),.agg #[I p.kind,bv]] [stB ps pd y x u md true (.map (some f)),Eu f g k hq,poolA hq,A] (λv Γ=>((g n=none/\40<=k)/\v=I 16/\Γ=[stB ps pd y x u md true (.map (some f)),Eu f g k hq,poolA hq,A])\/(¬(g n=none/\40<=k)/\∃a,CJ hq a/\v=I 0/\Γ=[stB ps pd y x u md true (.map (some f)),Eu f (pgSet g n p) (k+(if (g n).isSome then 0 else 1)) a,poolA a,A])):=by
 intro z R w H;replace H:=H.l4;obtain ⟨a0,o,d,c,H⟩:=H.pgsc 1 Z;replace H:=H.l4;obtain ⟨bb,oo,cc,rfl⟩:=H.sy 3 (λq=>(hA _ q).sl (by simp[hp.2]));have a7:=hp.1;have a6:(a0.map PgE.ie).length=k:=by simp[c]
 refine Ae func55 Z ntmps55 Z (Za 2 [] H Z ?_);intro b1 w H;refine Z2 10 [12,1,0] H Z ?_;rcases d.get n with ⟨m,r⟩|⟨po,l,m,s,a2,r⟩
 ·refine Ab Z (DJ (e:=104) (zv:=.agg #[I 0,.slice none 0 0]) Z J J Z Z (Ay (H.bk 2 Z))) (AD 15 (v:=.tuple #[.agg #[I 0,.slice none 0 0],.bool false]) Z (by simp[CP,r]) (Za 3 [] H Z ?_));intro b2 w H;refine Z4 22 [0,11,2,0,0] H Z ?_;intro w H;refine Al 27 Z (λh1=>U) (λh1=>?_)
  refine Z2 11 [2,4,2,0,0] H Z (Af Z (λh2=>U) (λh2=>?_));refine Z2 6 [0,1,0,0] H Z (Al 40 Z (λh3=>U) (λh3=>?_));refine Z2 5 [0,1,0,0] H Z (Al 45 Z (λh4=>U) (λh4=>?_));refine Z2 18 [1,1,0,4,12,2,0] H Z (Ab Z (NS (e:=104) Z J Z (Ay (H.bk 3 Z))) (Z0 5 [0] Z (Af Z (λh5=>?_) (λh5=>?_))))
  ·refine Zc 6 Z (Zr Z ?_);replace H:=(H.toPgsc 3 Z d c).l6
   exact ⟨_,.inl ⟨⟨m,by omega⟩,Z,Z⟩,H.perm 6 [2,3,4,5] Z Z⟩
  refine Zc 4 Z ?_;replace H:=H.f1.f2;refine AN (Sep z (stB ps pd y x u md true (.map (some f))::blk b1 [I p.kind,.slice (some ⟨bb,oo,none⟩) 240 cc] 104::R)) 8 Z J (AZ H λw H'=>?_);have H:=H'.l6;refine AT [0,1,2,3,4,5] [12,0,0,1,2] [] (by exact H.pick 6 [0,1] Z) Z J Z (AC [6] J O (Am (Bo Z Z Z Z Z Z (λw=>call103 _ w) (GQ p _ hA hp) H.f5 Z ?_)));rintro _ w _ ⟨v1,rfl,rfl⟩ H;replace H:=H.l7;refine Av (H.pick 7 [2,3] Z) (AC [7] J O (Am (Bi Z Z Z (DO 5 (e:=104) H Z Z J Z Z Z) ?_)));rintro w H;replace H:=H.l7;refine Av (H.pick 7 [2,3] Z) (a_done J (gn (Zc 7 Z (Zr Z ?_))));replace H:=H.f6;obtain ⟨a,⟨b,i⟩,H⟩:=DV H (λh q=>q.rd);replace H:=H.l6;obtain ⟨es2,a1,j,t⟩:=(d.le b).put (k:=n) (p:=p) hp i;rw[a1] at H;have H:Sep z (poolA a::A::stB ps pd y x u md true (.map (some f))::blk b1 [I p.kind,.slice (some ⟨bb,oo,none⟩) 240 cc] 104::blk b2 [I 0,.slice none 0 0] 104::AH f (es2.map PgE.ie) (putC (a0.map PgE.ie) (n:Int) o)::R) w:=H;replace H:=(H.toPgsc 5 Z j (by rw[t,c])).l6;exact ⟨_,.inr ⟨λq=>by first|(rw[m] at q;cases q.1;done)|omega,a,b,rfl,rfl⟩,H.perm 6 [2,5,0,1] rfl rfl⟩
 have a3:Slc l 240:=a2.slc;refine Ab Z (DJ (e:=104) (zv:=.agg #[I 0,.slice none 0 0]) Z J J Z Z (Ay (H.bk 2 Z))) (AD 15 (v:=.tuple #[.agg #[I po.kind,l],.bool true]) Z (by simp[CP,r]) (Za 3 [] H Z ?_));intro b3 w H;refine Az Z Z (Ak 0 H Z Z Z Z (vs:=[I po.kind,l]) Z (Ad Z (Ad a3.one Aw)) J O (out:=[I po.kind,l]) Z) ?_;rintro w H;replace H:=H.l6;refine Z2 21 [11,2,0,0] H Z (Al 27 Z (λh6=>U) (λh6=>?_));refine Z2 11 [2,4,2,0,0] H Z (Af Z (λh7=>U) (λh7=>?_));refine Z2 6 [0,1,0,0] H Z (Al 40 Z (λh8=>U) (λh8=>?_));refine Z2 5 [0,1,0,0] H Z (Al 45 Z (λh9=>U) (λh9=>?_));refine Z2 29 [1,1,0,4] H Z ?_;replace H:=H.f1.f2;refine AN (Sep z (stB ps pd y x u md true (.map (some f))::blk b1 [I p.kind,.slice (some ⟨bb,oo,none⟩) 240 cc] 104::R)) 8 Z J (AZ H λw H'=>?_);have H:=H'.l6;refine AT [0,1,2,3,4,5] [12,0,0,1,2] [] (by exact H.pick 6 [0,1] Z) Z J Z (AC [6] J O (Am (Bo Z Z Z Z Z Z (λw=>call103 _ w) (GQ p _ hA hp) H.f5 Z ?_)));rintro _ w _ ⟨v1,rfl,rfl⟩ H;replace H:=H.l7;refine Av (H.pick 7 [2,3] Z) (AC [7] J O (Am (Bi Z Z Z (DO 5 (e:=104) H Z Z J Z Z Z) ?_)));rintro w H;replace H:=H.l7;refine Av (H.pick 7 [2,3] Z) (a_done J (gn (Zc 7 Z (Zr Z ?_))));replace H:=H.f6;obtain ⟨a,⟨b,i⟩,H⟩:=DV H (λh q=>q.rd);replace H:=H.l6;obtain ⟨es2,a1,j,t⟩:=(d.le b).put (k:=n) (p:=p) hp i;rw[a1] at H;have H:Sep z (poolA a::A::stB ps pd y x u md true (.map (some f))::blk b1 [I p.kind,.slice (some ⟨bb,oo,none⟩) 240 cc] 104::blk b3 [I po.kind,l] 104::AH f (es2.map PgE.ie) (putC (a0.map PgE.ie) (n:Int) o)::R) w:=H;replace H:=(H.toPgsc 5 Z j (by rw[t,c])).l6;exact ⟨_,.inr ⟨λq=>by first|(rw[m] at q;cases q.1;done)|omega,a,b,rfl,rfl⟩,H.perm 6 [2,5,0,1] rfl rfl⟩
section
theorem Jw{s:Sup}(hs:SOk s)(x:Int):s.start<=(ringAt s x:Int)/\(ringAt s x:Int)<s.start+s.len:=by
 have d:=hs.start;have b:=hs.head;have a:=Agk x (by omega:s.len≠0);have c:=Af4 x (by omega:0<s.len);unfold ringAt;omega
def Ou(s:Sup)(D D':Dsk):Prop:=∀i:Nat,s.start<=(i:Int)->(i:Int)<s.start+s.len->D'.dur i=D.dur i/\D'.ver i=D.ver i
def SameOut(s:Sup)(D D':Dsk):Prop:=∀i:Nat,¬(s.start<=(i:Int)/\(i:Int)<s.start+s.len)->D'.dur i=D.dur i/\D'.ver i=D.ver i
theorem PInv.out{D D':Dsk}{s:Sup}{rs:List Rc}{f:List (List UInt8)}{a q u:Int}{b:Bool}{sure:Nat}(h:PInv D s rs f a q u b sure)(hs:SOk s)(g:Ou s D D'):PInv D' s rs f a q u b sure:=by
 have d:∀x:Int,D'.dur (ringAt s x)=D.dur (ringAt s x)/\D'.ver (ringAt s x)=D.ver (ringAt s x):=λx=>g _ (Jw hs x).1 (Jw hs x).2;refine ⟨h.fa,h.fq,h.fu,h.ul,h.pb,h.part,h.recs,λi hi c e=>h.old i hi c ?_,λi c e=>?_,λi c e=>?_,h.sure⟩
 ·unfold Do at e ⊢;rwa[(d _).1,(d _).2] at e
 ·have:=h.last i c e
  unfold Dsk.cont at this ⊢;rw[(d _).1,(d _).2];exact this
 rw[(d _).1,(d _).2];exact h.dura i c e
theorem RO{f:BD}{ims:List Img}(h:(f n).isSome=true):(EK f ims n).isSome=true:=by rw[Qk,h];rfl
theorem Gi(a:List Rc):∀(rs:List Rc) {n:Nat},(ov rs n).isSome=true->(ov (rs++a) n).isSome=true:=by
 induction a with
 | nil=>intro rs n h;rwa[AeV]
 | cons r a ih=>
  intro rs n h;rw[show rs++r::a=(rs++[r])++a from by simp];exact ih _ (by rw[Jp];exact RO h)
theorem HN{rs:List Rc}(h:(ov (rs.take m) n).isSome=true):(ov rs n).isSome=true:=by
 have:=Gi (rs.drop m) _ h;rwa[AeL] at this
structure Clean(D:Dsk):Prop where
 f1:D.f1=0
 f2:D.f2=0
 f3:D.f3=0
 cut:D.cut=false
theorem Clean.bad{D:Dsk}(h:Clean D):¬D.bad:=by
 rintro (g|⟨g,_⟩)
 ·rw[h.f2] at g;cases g
 rw[h.cut] at g;cases g
theorem Clean.flb{D:Dsk}(h:Clean D):¬D.flb:=by
 rintro (g|⟨g,_⟩)
 ·rw[h.f3] at g;cases g
 rw[h.cut] at g;cases g
theorem Clean.wr1{D:Dsk}(h:Clean D)(b:Bool)(x:Nat)(p:List UInt8):Clean (wr1 D b x p):=by
 have a:=Dsk.ws_f b [p] {D with f2:=Bf D.f2} x;refine ⟨a.1.trans h.f1,a.2.1.trans ?_,a.2.2.1.trans h.f3,a.2.2.2.1.trans h.cut⟩;show Bf D.f2=0;rw[h.f2];rfl
theorem Clean.wr{D:Dsk}(h:Clean D)(x:Nat)(ps:List (List UInt8)):Clean (D.wr x ps):=by
 have a:=Dsk.ws_f false ps {D with f2:=Bf D.f2} x;refine ⟨a.1.trans h.f1,a.2.1.trans ?_,a.2.2.1.trans h.f3,a.2.2.2.1.trans h.cut⟩;show Bf D.f2=0;rw[h.f2];rfl
theorem Clean.hw(l:List (Nat×Pg)):∀{D:Dsk},Clean D->Clean (hwD D l):=by
 induction l with
 | nil=>intro D h;exact h
 | cons x l ih=>intro D h;rw[hwD_cons];exact ih (h.wr _ _)
theorem Clean.fl{D:Dsk}(h:Clean D):Clean D.fl:=⟨h.f1,h.f2,by show Bf D.f3=0;rw[h.f3];rfl,h.cut⟩
theorem Clean.sv{D:Dsk}(h:Clean D)(x:Sup):Clean (Fi D x):=h.wr1 true _ _
theorem Clean.setF{D:Dsk}(h:Clean D){l:List (Nat×Pg)}{c:Int}{a:Dsk}:¬LT D l c a:=by
 rintro (⟨j,g,_⟩|⟨g,_⟩|⟨g,_⟩)
 ·exact (h.hw _).bad g
 ·exact (h.hw _).flb g
 exact (h.hw _).fl.bad g

structure SInv(D:Dsk)(x:Sup)(B:Nat->Pg)(rs:List Rc)(ptl:List (List UInt8))(a q u:Int)(b:Bool)(sure:Nat):Prop where
 ok:x.Ok (D.n:Int)
 p:PInv D x rs ptl a q u b sure
 s:SOk x
 gen:1<=x.gen
 num:∀r∈rs,∀m∈r.ims,m.num<x.pages
 home:∀i:Nat,(i:Int)<x.pages->∀c,Do D (2+i) c->HomeP c i (B i)\/((ov (rs.take sure) i).isSome=true/\∃p,HomeP c i p)
 sup:D.dur (x.gen%2).toNat=DD x/\D.ver (x.gen%2).toNat=[]
 oth:∃y:Sup,y.Ok (D.n:Int)/\y.gen=x.gen-1/\D.dur ((x.gen+1)%2).toNat=DD y/\D.ver ((x.gen+1)%2).toNat=[]
 rest:∀i:Nat,2+x.pages<=(i:Int)->¬(x.start<=(i:Int)/\(i:Int)<x.start+x.len)->∀c,Do D i c->∀e q,Tg c e q->e<=x.epoch
variable{D D':Dsk}{x:Sup}{B:Nat->Pg}{rs:List Rc}{ptl:List (List UInt8)}{a q u:Int}{b:Bool}{sure:Nat}
theorem SInv.cur(h:SInv D x B rs ptl a q u b sure)(hi:(i:Int)<x.pages)(c:ov rs i=none):HomeP (D.cont (2+i)) i (B i):=by
 rcases h.home i hi _ (cont_has D _) with g|⟨g,_⟩
 ·exact g
 have:=HN g;rw[c] at this;cases this
theorem SInv.ovb(h:SInv D x B rs ptl a q u b sure)(d:(ov rs n).isSome=true):(n:Int)<x.pages:=by
 obtain ⟨p,hp⟩:=Ae8.1 d;obtain ⟨r,e,m,c,f,_⟩:=KQ _ rs Z hp;have g:=h.num r e m c;have i:=h.ok.2;omega
theorem SInv.ovok(h:SInv D x B rs ptl a q u b sure){p:Pg}(d:ov rs n=some p):p.Ok:=by
 obtain ⟨r,e,m,f,_,rfl⟩:=KQ _ rs Z d;obtain ⟨j,c⟩:=Ae2 e;exact Qj ((h.p.recs j r c).2.2 m f)
theorem SInv.f(h:SInv D x B rs ptl a q u b sure)(k:D'.n=D.n)(g:D'.dur=D.dur)(j:D'.ver=D.ver):SInv D' x B rs ptl a q u b sure:=
 ⟨by rw[k];exact h.ok,h.p.f g j,h.s,h.gen,h.num,λi hi c e=>h.home i hi c (by unfold Do at e ⊢;rwa[g,j] at e),by rw[g,j];exact h.sup,by
  obtain ⟨y,a,b,c,d⟩:=h.oth;exact ⟨y,by rw[k];exact a,b,by rw[g];exact c,by rw[j];exact d⟩,λi hi l c e=>h.rest i hi l c (by unfold Do at e ⊢;rwa[g,j] at e)⟩
theorem SInv.log(h:SInv D x B rs ptl a q u b sure)(v:D'.n=D.n)(o:SameOut x D D'){e:List Rc}{f:List (List UInt8)}{w:Int}{b':Bool}(hp:PInv D' x e f t p w b' sure)(l:e.take sure=rs.take sure)(k:∀r∈e,∀m∈r.ims,m.num<x.pages):SInv D' x B e f t p w b' sure:=by
 have hk:=h.ok.2;have z:=h.gen;have g:∀i:Nat,(i:Int)<x.start->D'.dur i=D.dur i/\D'.ver i=D.ver i:=λi hi=>o i U;refine ⟨by rw[v];exact h.ok,hp,h.s,z,k,λi hi c j=>?_,?_,?_,λi hi l c j=>h.rest i hi l c (by have:=o i l;unfold Do at j ⊢;rwa[this.1,this.2] at j)⟩
 ·have:=g (2+i) U
  unfold Do at j;rw[this.1,this.2] at j;rw[l];exact h.home i hi c j
 ·have:=g (x.gen%2).toNat U
  rw[this.1,this.2];exact h.sup
 obtain ⟨y,a,b,c,d⟩:=h.oth;have:=g ((x.gen+1)%2).toNat U;exact ⟨y,by rw[v];exact a,b,by rw[this.1];exact c,by rw[this.2];exact d⟩
theorem EH{D:Dsk}(h:D.ver i=[]):D.cont i=D.dur i:=J0 h
theorem SInv.flush(h:SInv D x B rs ptl a q u b sure):SInv D.fl x B rs ptl a q u b rs.length:=by
 refine ⟨h.ok,h.p.flush,h.s,h.gen,h.num,λi hi c e=>?_,?_,?_,λi hi j c e=>h.rest i hi j c (fl_has e)⟩
 ·rw[Ae7]
  rcases h.home i hi c (fl_has e) with g|⟨k,f⟩
  ·exact .inl g
  exact .inr ⟨HN k,f⟩
 ·exact ⟨(EH h.sup.2).trans h.sup.1,Z⟩
 obtain ⟨y,a,b,c,d⟩:=h.oth;exact ⟨y,a,b,(EH d).trans c,Z⟩
theorem YX(a:x.Ok (D.n:Int)){l:List (Nat×Pg)}(b:∀y∈l,(y.1:Int)<x.pages):Ou x D (hwD D l):=λi hi _=>by
 have d:=a.2;refine ⟨by rw[KR],KS l D i λy c e=>?_⟩;have:=b y c;omega
theorem SInv.hw(h:SInv D x B rs ptl a q u b rs.length){l:List (Nat×Pg)}(n:∀y∈l,ov rs y.1=some y.2):SInv (hwD D l) x B rs ptl a q u b rs.length:=by
 have t:=h.gen;have k:∀y∈l,(y.1:Int)<x.pages:=λy j=>h.ovb (by rw[n y j];rfl);have f:∀i:Nat,i<2->(hwD D l).ver i=D.ver i:=λi hi=>KS l D i λy _ e=>by omega
 refine ⟨by rw[E9];exact h.ok,h.p.out h.s (YX h.ok k),h.s,t,h.num,λi hi c m=>?_,?_,?_,λi hi o c m=>?_⟩
 ·rcases hw_has l D _ c m with g|⟨y,j,r,m⟩
  ·exact h.home i hi c g
  refine .inr ⟨?_,y.2,.inr ⟨h.ovok (n y j),?_⟩⟩
  ·rw[Ae7,show i=y.1 from by omega,n y j];rfl
  rw[m,show i=y.1 from by omega]
 ·rw[KR,f _ U];exact h.sup
 ·obtain ⟨y,a,b,c,d⟩:=h.oth
  exact ⟨y,by rw[E9];exact a,b,by rw[KR];exact c,by rw[f _ U];exact d⟩
 rcases hw_has l D _ c m with g|⟨y,j,r,_⟩
 ·exact h.rest i hi o c g
 have:=k y j;omega
theorem SInv.setF(h:SInv D x B rs ptl a q u b rs.length){e:List Int}(g:Fa (ov rs) e){c:Int}{k:Dsk}(m:LT D (pgLst (ov rs) e) c k):SInv k x B rs ptl a q u b rs.length:=by
 have i:∀l:List (Nat×Pg),(∀y∈l,y∈pgLst (ov rs) e)->SInv (hwD D l) x B rs ptl a q u b rs.length:=λl n=>h.hw λy d=>(Ew g y.1 y.2).1 (n y d);rcases m with ⟨j,_,_,rfl⟩|⟨_,_,rfl⟩|⟨_,_,rfl⟩
 ·exact (i _ λy d=>Afg d).f Z Z Z
 ·exact (i _ λy d=>d).f Z Z Z
 exact (i _ λy d=>d).flush.f Z Z Z
theorem SInv.settled(h:SInv D x B rs ptl a q u b rs.length)(f:Fa (ov rs) l)(hq:q<=1099511627776){y:Sup}(hy:y.Ok (D.n:Int))(t:y.start=x.start)(o:y.len=x.len)(h3:y.epoch=x.epoch)(h4:y.head=a)(h5:y.seq=q)(h6:y.pages=x.pages)(h7:y.gen=x.gen+1):
  SInv (Fi (hwD D (pgLst (ov rs) l)).fl y) y (pgMap (ov rs) B) [] [] a q 0 false 0:=by
 have hk:=h.ok.2;have hg:=h.gen;have k:SInv (hwD D (pgLst (ov rs) l)) x B rs ptl a q u b rs.length:=h.hw λz w=>(Ew f z.1 z.2).1 w;have j:=k.flush;have m:=h.p.at_ok h.s;have a6:=Sup.get hy;have a2:=h.p.fq;have a4:0<=q:=by split at a2<;>omega
 have v:SOk y:=⟨by rw[t];exact h.s.start,by rw[h4,o];exact m,by rw[h3];exact h.s.epoch,by rw[h5];exact a4⟩;have a3:Ou x (hwD D (pgLst (ov rs) l)).fl (Fi (hwD D (pgLst (ov rs) l)).fl y):=λi hi _=>by
  have:=ER (hwD D (pgLst (ov rs) l)).fl y i U;exact this
 have a1:=j.p.out h.s a3;have a0:=a1.drop h.s hq t o h3 h4 h5 U (by rw[h4,o];exact m);refine ⟨by show y.Ok ((hwD D _).n:Int);rw[E9];exact hy,a0,v,by omega,λr hr=>(by cases hr),λi hi c g=>.inl ?_,HI _ y,?_,λi hi hr c g e q' ht=>?_⟩
 ·have d:=ER (hwD D (pgLst (ov rs) l)).fl y (2+i) U
  unfold Do at g;rw[d.1,d.2] at g;rcases g with rfl|g
  ·show HomeP ((hwD D (pgLst (ov rs) l)).cont (2+i)) i _
   unfold pgMap
   cases ho:ov rs i with
   | some p=>
    have hm:(i,p)∈pgLst (ov rs) l:=(Ew f i p).2 ho;rw[Xr D (EU f) (i,p) hm];exact .inr ⟨h.ovok ho,Z⟩
   | none=>
    rw[hw_cont_out _ D _ (λz w e=>by
     have:=(Ew f z.1 z.2).1 w;rw[show z.1=i from by omega,ho] at this;cases this)]
    exact h.cur U ho
  cases g
 ·refine ⟨x,by show x.Ok ((hwD D _).n:Int);rw[E9];exact h.ok,by omega,?_⟩
  have d:=ER (hwD D (pgLst (ov rs) l)).fl y ((y.gen+1)%2).toNat U;rw[d.1,d.2,show (y.gen+1)%2=x.gen%2 from by omega];exact j.sup
 have d:=ER (hwD D (pgLst (ov rs) l)).fl y i U;unfold Do at g;rw[d.1,d.2] at g;rw[h3];exact j.rest i U (by rwa[t,o] at hr) c g e q' ht
theorem SInv.tags(h:SInv D x B rs ptl a q u b sure)(hq:q<=1099511627776){i:Nat}(hi:2+x.pages<=(i:Int)){c:List UInt8}(d:Do D i c){e f:Int}(g:Tg c e f):e<=x.epoch:=by
 by_cases hr:x.start<=(i:Int)/\(i:Int)<x.start+x.len
 ·have m:0<x.len:=by have:=h.s.head;omega
  obtain ⟨j,l,k⟩:=Of m x.head ((i:Int)-x.start);have hi:ringAt x ((i:Int)-x.start)=i:=by
   unfold ringAt;rw[Agl U U];omega
  have:=h.p.tags h.s hq l (c:=c) (by rw[<-k,hi];exact d) g;omega
 exact h.rest i hi hr c d e f g
theorem PInv.fresh{D:Dsk}{s:Sup}(hs:SOk s)(h:∀i:Nat,s.start<=(i:Int)->(i:Int)<s.start+s.len->∀c,Do D i c->∀e q,Tg c e q->e<s.epoch):PInv D s [] [] s.head s.seq 0 false 0:=by
 refine ⟨?_,by simp,by simp[secs],by have:=hs.head;omega,λ_=>rfl,.inl Z,λj r h=>by simp at h,λi hi c a=>.inl λe q b=>.inl ?_,λi c h=>by simp[secs] at h,λi c h=>by simp[secs] at h,Aei _⟩
 ·rw[Int.add_zero,Agl hs.head.1 hs.head.2]
 have:=Jw hs (s.head+i);exact h _ this.1 this.2 c a e q b
end
def Xx(c:Int)(ims:List Img)(room:Prop):Prop:=(c=16/\ims.length > 40)\/(c=1/\ims.length<=40/\(ims=[]\/¬EG ims))\/(c=15/\(1<=ims.length/\ims.length<=40)/\EG ims/\¬room)
structure OpM where
 k0:Int
 kd:Int
 fl:Int
 k4:Int
 k5:Int
 ns:List Int
abbrev OpE:=OpM×Value×Value
def OpE.cells(e:OpE):List Value:=[.int .i64 e.1.k0,e.2.1,.int .i64 e.1.kd,.int .i64 e.1.fl,.int .i64 e.1.k4,.int .i64 e.1.k5,e.2.2]
def s5:Sup:=⟨1,1,16,18,64,0,5⟩
theorem SameOut.one{s:Sup}{x:Nat}{ps:List (List UInt8)}(b:s.start<=x)(a:(x:Int)+ps.length<=s.start+s.len):SameOut s D (D.wr x ps):=λi hi=>⟨by rw[Ti],Gt _ _ U⟩
theorem SameOut.trans{s:Sup}{D a d:Dsk}(b:SameOut s D a)(c:SameOut s a d):SameOut s D d:=λi hi=>⟨(c i hi).1.trans (b i hi).1,(c i hi).2.trans (b i hi).2⟩
theorem MH(a x:Sup){nu:Bool}(ims:List Img)(hA:∀h,A h->imgsH v ims h)(D:Dsk){B:Nat->Pg}{rs:List Rc}{ptl:List (List UInt8)}{u:Int}{sure:Nat}(o:SInv D x B rs ptl t q u b sure)(a6:∀m∈ims,m.num<x.pages)(h1:a.start=x.start)(h2:a.len=x.len)(h3:a.epoch=x.epoch)(a8:a.Ok (D.n:Int))(a9:nu=decide (a.epoch<4294967296))(hq:0<=q/\q<=1099511627776)(a3:∀i,(D.ver i).length<=1000000000000):
  Cn prog 162 [Y j,v] [blk j [Y e,Y g,I a.gen,I a.epoch,I a.pages,I a.start,I a.len,I a.head,I a.seq,I t,I q,I u,.bool b,.bool nu] 244,tblA g,diskA e D,A] (λv Γ=>
   (∃(Da:Dsk) (a2 q2 u2:Int),(1<=ims.length/\ims.length<=40)/\EG ims/\SInv Da x B (rs++[⟨q,ims⟩]) [] a2 q2 u2 b sure/\b=false/\(Clean D->Clean Da)/\(Da.n=D.n/\∀i,(Da.ver i).length<=(D.ver i).length+2)/\q2=q+1/\u2=u+(1+(ims.length:Int))/\v=I 0/\Γ=[blk j [Y e,Y g,I a.gen,I a.epoch,I a.pages,I a.start,I a.len,I a.head,I a.seq,I a2,I q2,I u2,.bool b,.bool nu] 244,tblA g,diskA e Da,A])\/
   (∃c:Int,Xx c ims (1+(ims.length:Int)<=(if b then 0 else x.len-u)/\nu=true/\q<1099511627776)/\v=I c/\Γ=[blk j [Y e,Y g,I a.gen,I a.epoch,I a.pages,I a.start,I a.len,I a.head,I a.seq,I t,I q,I u,.bool b,.bool nu] 244,tblA g,diskA e D,A])\/
   (∃(Df:Dsk) (a5:List (List UInt8)),¬Clean D/\SInv Df x B rs a5 t (q+1) u true sure/\(Df.n=D.n/\∀i,(Df.ver i).length<=(D.ver i).length+2)/\v=I 11/\Γ=[blk j [Y e,Y g,I a.gen,I a.epoch,I a.pages,I a.start,I a.len,I a.head,I a.seq,I t,I (q+1),I u,.bool true,.bool nu] 244,tblA g,diskA e Df,A])):=by
 have hP:=o.p;have hs:=o.s;have b3:=hP.at_ok hs;have b4:=hs.head;have b1:=hs.start;have b2:=hP.fu;have b0:=hP.ul;refine Cn.mono (Vo j e g a t q u b nu v ims A hA D a8 a9 U U U a3) ?_;rintro v Γ (⟨l,rfl,rfl⟩|⟨l,y,rfl,rfl⟩|⟨l,y,g3,rfl,rfl⟩|⟨l,y,g3,k,hk,g4⟩)
 ·exact .inr (.inl ⟨16,.inl ⟨Z,l⟩,Z,Z⟩)
 ·exact .inr (.inl ⟨1,.inr (.inl ⟨Z,l,y⟩),Z,Z⟩)
 ·exact .inr (.inl ⟨15,.inr (.inr ⟨Z,l,y,by rw[<-h2];exact g3⟩),Z,Z⟩)
 have a4:=g3.1
 cases b with
 | true=>rw[if_pos Z] at a4;omega
 | false=>
  rw[if_neg (by decide)] at a4;have w:1+(ims.length:Int)<=x.len-u:=by omega
  have a1:(k:Int)=min (1+(ims.length:Int)) (x.len-t):=by rw[<-h2];exact hk
  have a0:=FQ x.epoch q ims;rw[h1,h3] at g4;have l1:=λi=>Dsk.wr_len D (x.start+t).toNat ((BC x.epoch q ims).take k) i;have l2:=λi=>Dsk.wr_len (D.wr (x.start+t).toNat ((BC x.epoch q ims).take k)) x.start.toNat ((BC x.epoch q ims).drop k) i;have o1:SameOut x D (D.wr (x.start+t).toNat ((BC x.epoch q ims).take k)):=SameOut.one U (by rw[Aex,a0];omega);have o2:SameOut x (D.wr (x.start+t).toNat ((BC x.epoch q ims).take k)) ((D.wr (x.start+t).toNat ((BC x.epoch q ims).take k)).wr x.start.toNat ((BC x.epoch q ims).drop k)):=SameOut.one U (by rw[AeM,a0];omega);have d:=hP.app hs l y.1 w a1;have a7:(rs++[(⟨q,ims⟩:Rc)]).take sure=rs.take sure:=Aet hP.sure;have f:∀r∈rs++[(⟨q,ims⟩:Rc)],∀m∈r.ims,m.num<x.pages:=λr w m hm=>by
   rcases Aep.1 w with w|w
   ·exact o.num r w m hm
   rw[Aft.1 w] at hm;exact a6 m hm
  rcases g4 with ⟨_,g5,rfl,rfl⟩|⟨_,g5,_,rfl,rfl⟩|⟨g5,rfl,rfl⟩|⟨_,g6,g5,rfl,rfl⟩
  ·unfold E7 at d
   rw[if_neg U] at d;exact .inl ⟨_,(t+(1+(ims.length:Int)))%x.len,q+1,u+(1+(ims.length:Int)),l,y,o.log (Dsk.wr_n _ _ _) o1 d a7 f,Z,λz=>z.wr _ _,⟨Dsk.wr_n _ _ _,λi=>by have:=l1 i;omega⟩,Z,Z,Z,by simp only[lgB,h1,h2,h3]⟩
  ·unfold E7 at d
   rw[if_pos U] at d;exact .inl ⟨_,(t+(1+(ims.length:Int)))%x.len,q+1,u+(1+(ims.length:Int)),l,y,o.log (by rw[Dsk.wr_n,Dsk.wr_n]) (o1.trans o2) d a7 f,Z,λz=>(z.wr _ _).wr _ _,⟨by rw[Dsk.wr_n,Dsk.wr_n],λi=>by have:=l1 i;have:=l2 i;omega⟩,Z,Z,Z,by simp only[lgB,h1,h2,h3]⟩
  ·exact .inr (.inr ⟨D.wf,_,λz=>z.bad g5,SInv.log (D':=D.wf) o Z (λ_ _=>⟨Z,Z⟩) hP.fail0 Z o.num,⟨Z,λi=>by show (D.ver i).length<=_;omega⟩,Z,by simp only[lgB,h1,h3]⟩)
  exact .inr (.inr ⟨Dsk.wf (D.wr (x.start+t).toNat ((BC x.epoch q ims).take k)),_,λz=>(z.wr _ _).bad g5,SInv.log (D':=Dsk.wf (D.wr (x.start+t).toNat ((BC x.epoch q ims).take k))) o (Dsk.wr_n _ _ _) o1 (hP.fail1 hs l y.1 w a1 g6) Z o.num,⟨Dsk.wr_n _ _ _,λi=>by have:=l1 i;show ((D.wr (x.start+t).toNat ((BC x.epoch q ims).take k)).ver i).length<=_;omega⟩,Z,by simp only[lgB,h1,h3]⟩)
def Ee(x:Sup)(a q:Int):Sup:= {x with gen:=x.gen+1,head:=a,seq:=q}
theorem Ni(x:Sup)(a q:Int):(Ee x a q).gen=x.gen+1/\(Ee x a q).epoch=x.epoch/\(Ee x a q).pages=x.pages/\(Ee x a q).start=x.start/\(Ee x a q).len=x.len/\(Ee x a q).head=a/\(Ee x a q).seq=q:=⟨Z,Z,Z,Z,Z,Z,Z⟩
theorem Sup.ok_mk{s:Sup}{n:Int}(e:0<=s.gen/\s.gen<=1099511627776)(f:0<=s.epoch/\s.epoch<=1099511627776)(h:16<=s.pages/\s.pages<=1024)(g:2+s.pages<=s.start/\s.start<=1099511627776)(i:64<=s.len/\s.len<=1099511627776)(c:0<=s.head/\s.head<s.len)(d:0<=s.seq/\s.seq<=1099511627776)(b:s.start<=n-s.len/\s.len<=n):s.Ok n:=by
 refine ⟨λy a=>?_,by omega,by omega,by omega,by omega,by omega,by omega,by omega⟩;simp only[Sup.list,Aen,List.not_mem_nil,or_false] at a;omega
theorem IZ{x:Sup}{o:Value}(f:BD)(y:Sup)(D:Dsk)(t:∀n,(f n).isSome=true->n<1024)(r:∀n,(f n).isSome=true->2+n<D.n)(k:y.Ok (D.n:Int))(l:∀i,(D.ver i).length<=1000000000000):
  Cn prog 97 [Y m,.agg #[I y.gen,I y.epoch,I y.pages,I y.start,I y.len,I y.head,I y.seq]] [stB m j e x u g b o,tblA e,diskA j D,pgsA g f h,poolA h] (λv Γ=>(∃a:List Int,Fa f a/\v=I 0/\Γ=[stB m j e y u g b o,tblA e,diskA j (Fi (hwD D (pgLst f a)).fl y),pgsA g Dp h,poolA h])\/(∃(a:List Int) (c:Int) (p:Dsk),Fa f a/\c≠0/\LT D (pgLst f a) c p/\v=I c/\Γ=[stB m j e x u g b o,tblA e,diskA j p,pgsA g f h,poolA h])):=by
 refine Cn.mono (VK m j e g x u o b f h y D t r k l) ?_;rintro v Γ ⟨a,d,⟨q,s⟩|⟨c,p,q,s,w,z⟩⟩
 ·exact .inl ⟨a,d,q,s⟩
 exact .inr ⟨a,c,p,d,q,s,w,z⟩
theorem TC{a:Dsk}{l:List (Nat×Pg)}(h:LT D l t a):a.n=D.n:=by
 rcases h with ⟨j,_,_,rfl⟩|⟨_,_,rfl⟩|⟨_,_,rfl⟩
 ·exact E9 _ _
 ·exact E9 _ _
 exact E9 _ _
theorem Ow{b:Dsk}{l:List (Nat×Pg)}(a:(l.map Prod.fst).Nodup)(h:LT D l t b)(i:Nat):(b.ver i).length<=(D.ver i).length+1:=by
 rcases h with ⟨j,_,_,rfl⟩|⟨_,_,rfl⟩|⟨_,_,rfl⟩
 ·exact Oh _ D i (a.sublist ((List.take_sublist _ _).map _))
 ·exact Oh _ D i a
 show ([]:List (List UInt8)).length<=_;simp
theorem HO(h:∀i,D.ver i=[])(x:Sup)(i:Nat):(Fi D x).ver i=[]:=by
 by_cases e:i=(x.gen%2).toNat
 ·rw[e];exact (HI D x).2
 rw[(ER D x i e).2];exact h i
theorem Ox(h:(0:Int)<(if b then 0 else t-s)):b=false/\s<t:=by
 cases b with
 | true=>rw[if_pos Z] at h;omega
 | false=>rw[if_neg (by decide)] at h;exact ⟨Z,by omega⟩
theorem PgsIn.nil_iff{f:BD}{es:List PgE}{clk:Nat}{hq:Hp}(h:PgsIn f es clk hq):es.length=0↔∀n,f n=Option.none:=by
 constructor
 ·intro e n
  obtain rfl:=Age.1 e
  cases a:f n with
  | none=>rfl
  | some p=>obtain ⟨e,b,_⟩:=h.all n p a;cases b
 intro a
 cases es with
 | nil=>rfl
 | cons e es=>
  have:=(h.ent e O).1;rw[a] at this;cases this
set_option maxHeartbeats 2000000 in
theorem I0 {md:Nat} {x sL:Sup} {un nu:Bool} {hq:Hp} {B:Nat->Pg} {rs:List Rc} {ptl:List (List UInt8)} {u:Int} {sure:Nat} (hS:SInv D x B rs ptl t q u b sure) (hL:sL.start=x.start/\sL.len=x.len/\sL.epoch=x.epoch) (b7:q<=1099511627776) (a9:∀i,(D.ver i).length<=1000000000000):Cn prog 76 [Y m] [stB m j g x (Y r) md un y,lgB r j g sL t q u b nu,tblA g,diskA j D,pgsA md (ov rs) hq,poolA hq] (λv Γ=>((∀n,ov rs n=none)/\b=false/\u<x.len/\v=I 0/\Γ=[stB m j g x (Y r) md un y,lgB r j g sL t q u b nu,tblA g,diskA j D,pgsA md (ov rs) hq,poolA hq])\/(∃D2:Dsk,¬((∀n,ov rs n=none)/\b=false/\u<x.len)/\SInv D2 (Ee x t q) (pgMap (ov rs) B) [] [] t q 0 false 0/\(Clean D->Clean D2)/\D2.n=D.n/\(∀i,D2.ver i=[])/\v=I 0/\Γ=[stB m j g (Ee x t q) (Y r) md un y,lgB r j g sL t q 0 false nu,tblA g,diskA j D2,pgsA md Dp hq,poolA hq])\/(∃(c:Int) (D2:Dsk) (a1:Nat),c≠0/\(¬Clean D\/1099511627776<x.gen+1)/\(SInv D2 x B rs ptl t q u b a1/\sure<=a1)/\D2.n=D.n/\(∀i,(D2.ver i).length<=(D.ver i).length+1)/\v=I c/\Γ=[stB m j g x (Y r) md un y,lgB r j g sL t q u b nu,tblA g,diskA j D2,pgsA md (ov rs) hq,poolA hq])):=by
 intro z R w H;replace H:=H.l6;have a4:=hS.ok;have b3:=Sup.get a4;have c1:=a4.2;have hP:=hS.p;have b9:=hP.at_ok hS.s;have b5:=hP.ul;have b8:=hP.fu;have b0:=hS.gen;have a6:=hP.fq;have c2:0<=q:=by split at a6<;>omega
 have a2:∀n,(ov rs n).isSome=true->n<1024:=λn h=>by have:=hS.ovb h;omega
 have a3:∀n,(ov rs n).isSome=true->2+n<D.n:=λn h=>by have:=hS.ovb h;omega
 have c0:=Ni x t q;obtain ⟨es,clk,a,H⟩:=H.pgs 4 Z;replace H:=H.l6;refine Ae func76 Z ntmps76 Z (Z2 12 [10,0,0] H Z (Ab Z (NS (e:=104) Z J Z (Ay (H.bk 4 Z))) (Z0 2 [0] Z (Al 12 Z (λh1=>?_) (λh1=>?_)))))
 ·refine Z2 4 [9,0,0] H Z (z_E_ Z (call127 _) (Tn U) H.f1 ?_);intro w H;refine Z0 4 [0] Z (Af Z (λh2=>?_) (λh2=>?_))
  ·refine Zc 6 Z (Zr Z ?_);replace H:=(H.toPgs 4 Z a).l6
   have a5:=a.nil_iff.1 (by simpa using h1);exact ⟨_,.inl ⟨a5,(Ox h2).1,by have:=(Ox h2).2;omega,Z,Z⟩,H.perm 6 [1,0,2,3,4,5] Z Z⟩
  refine Za 8 [2,1,7] H Z ?_;intro b1 w H;refine Z5 18 [0,0,0,0,0,0,9,2,0] [x.gen+1] H Z U ?_;intro w H;refine z_E_ Z (call128 _) (To) H.f1 ?_;intro w H;refine Z4 17 [5,1,6,1,0,1,0,0] H Z ?_;intro w H;refine Af Z (λh3=>?_) (λh3=>?_)
  ·refine Zc 6 Z (Zr Z ?_);replace H:=(H.toPgs 5 Z a).l7
   exact ⟨_,.inr (.inr ⟨_,D,sure,by decide,.inr U,⟨hS,Aei _⟩,Z,λi=>by omega,Z,Z⟩),H.perm 7 [2,0,3,4,5,6] Z Z⟩
  refine Zc 4 Z ?_;have a0:(Ee x t q).Ok (D.n:Int):=Sup.ok_mk U U U U U U U U;refine Z2 5 [0,2,0] H Z (Aq Z (call92 _) (HL) H.f4 ?_);rintro _ w _ (⟨l,rfl,rfl⟩|⟨l,rfl,rfl⟩) H'
  ·have H:=H'.l7;refine Z0 17 [3] Z (Zr Z ?_);replace H:=(H.toPgs 5 Z a).l7
   exact ⟨_,.inr (.inr ⟨_,_,sure,by decide,.inl (λhc=>hc.flb l),⟨SInv.f (D':= {D with f3:=Bf D.f3}) hS Z Z Z,Aei _⟩,Z,λi=>by show (D.ver i).length<=_;omega,Z,Z⟩),H.perm 7 [3,1,4,0,5,6] Z Z⟩
  have H:=H'.l7;refine Z0 14 [4] Z ?_;replace H:=(H.toPgs 5 Z a).l7;refine Z2 3 [2,7] H Z (Aq Z (call97 _) (IZ (ov rs) (Ee x t q) D.fl a2 a3 a0 (λi=>by show ([]:List (List UInt8)).length<=_;simp)) H.f6.f6.f2.f6.f6 ?_);rintro _ w _ (⟨ks,d,rfl,rfl⟩|⟨ks,c,D2,d,o,k,rfl,rfl⟩) H'
  ·have H:=H'.l7;refine Z2 18 [4,9,0,0] H Z (z_E_ Z (call129 _) (Tp) H.f5 ?_);intro w H;refine Zc 8 Z (Zr Z ?_);exact ⟨_,.inr (.inl ⟨_,(λe=>by first|exact h1 (by have:=a.nil_iff.2 e.1;simpa using this)|exact h2 (by rw[e.2.1];simp;omega)),hS.flush.settled d U a0 Z Z Z Z Z Z Z,λhc=>((hc.fl.hw _).fl).sv _,by show (hwD _ _).n=_;exact E9 _ _,HO (λ_=>rfl) _,Z,Z⟩),H.perm 7 [1,0,2,3,4,5] Z Z⟩
  have H:=H'.l7;refine Z0 9 [0] Z (Af Z (λh4=>?_) (λh4=>?_))
  ·refine Zc 7 Z (Zr Z ?_);exact ⟨_,.inr (.inr ⟨_,D2,rs.length,o,.inl (λhc=>hc.fl.setF k),⟨hS.flush.setF d k,hP.sure⟩,TC (D:=D.fl) k,λi=>by have:=Ow (EU d) k i;have h0:(D.fl.ver i).length=0:=rfl;omega,Z,Z⟩),H.perm 7 [0,5,1,2,3,4] Z Z⟩
  exact absurd o h4
 refine Za 18 [2,0,7] H Z ?_;intro b2 w H;refine Z5 18 [0,0,0,0,0,0,9,1,0] [x.gen+1] H Z U ?_;intro w H;refine z_E_ Z (call128 _) (To) H.f2 ?_;intro w H;refine Z4 17 [5,1,6,1,0,1,0,0] H Z ?_;intro w H;refine Af Z (λh5=>?_) (λh5=>?_)
 ·refine Zc 6 Z (Zr Z ?_);replace H:=(H.toPgs 5 Z a).l7
  exact ⟨_,.inr (.inr ⟨_,D,sure,by decide,.inr U,⟨hS,Aei _⟩,Z,λi=>by omega,Z,Z⟩),H.perm 7 [2,0,3,4,5,6] Z Z⟩
 refine Zc 4 Z ?_;have a0:(Ee x t q).Ok (D.n:Int):=Sup.ok_mk U U U U U U U U;refine Z2 5 [0,2,0] H Z (Aq Z (call92 _) (HL) H.f4 ?_);rintro _ w _ (⟨l,rfl,rfl⟩|⟨l,rfl,rfl⟩) H'
 ·have H:=H'.l7;refine Z0 17 [3] Z (Zr Z ?_);replace H:=(H.toPgs 5 Z a).l7
  exact ⟨_,.inr (.inr ⟨_,_,sure,by decide,.inl (λhc=>hc.flb l),⟨SInv.f (D':= {D with f3:=Bf D.f3}) hS Z Z Z,Aei _⟩,Z,λi=>by show (D.ver i).length<=_;omega,Z,Z⟩),H.perm 7 [3,1,4,0,5,6] Z Z⟩
 have H:=H'.l7;refine Z0 14 [4] Z ?_;replace H:=(H.toPgs 5 Z a).l7;refine Z2 3 [2,7] H Z (Aq Z (call97 _) (IZ (ov rs) (Ee x t q) D.fl a2 a3 a0 (λi=>by show ([]:List (List UInt8)).length<=_;simp)) H.f6.f6.f2.f6.f6 ?_);rintro _ w _ (⟨ks,d,rfl,rfl⟩|⟨ks,c,D2,d,o,k,rfl,rfl⟩) H'
 ·have H:=H'.l7;refine Z2 18 [4,9,0,0] H Z (z_E_ Z (call129 _) (Tp) H.f5 ?_);intro w H;refine Zc 8 Z (Zr Z ?_);exact ⟨_,.inr (.inl ⟨_,(λe=>by first|exact h1 (by have:=a.nil_iff.2 e.1;simpa using this)|exact h2 (by rw[e.2.1];simp;omega)),hS.flush.settled d U a0 Z Z Z Z Z Z Z,λhc=>((hc.fl.hw _).fl).sv _,by show (hwD _ _).n=_;exact E9 _ _,HO (λ_=>rfl) _,Z,Z⟩),H.perm 7 [1,0,2,3,4,5] Z Z⟩
 have H:=H'.l7;refine Z0 9 [0] Z (Af Z (λh6=>?_) (λh6=>?_))
 ·refine Zc 7 Z (Zr Z ?_);exact ⟨_,.inr (.inr ⟨_,D2,rs.length,o,.inl (λhc=>hc.fl.setF k),⟨hS.flush.setF d k,hP.sure⟩,TC (D:=D.fl) k,λi=>by have:=Ow (EU d) k i;have h0:(D.fl.ver i).length=0:=rfl;omega,Z,Z⟩),H.perm 7 [0,5,1,2,3,4] Z Z⟩
 exact absurd o h6
def Cr(g:BD)(ks:List Int):List Img:=ks.map λk=>⟨k,((g k.toNat).getD noPg).kind,((g k.toNat).getD noPg).body⟩
theorem RP(g:BD)(a:List Int):(Cr g a).length=a.length:=by simp[Cr]
theorem PE{g:BD}{p:Pg}(b:l[j]?=some (n:Int))(a:g n=some p):(Cr g l).take j++[(⟨(n:Int),p.kind,p.body⟩:Img)]=(Cr g l).take (j+1):=by
 rw[AeN];congr 1;unfold Cr;rw[Aeo,b];simp[a]
theorem PgsIn.okp{f:BD}{es:List PgE}{clk:Nat}{hq:Hp}(h:PgsIn f es clk hq){p:Pg}(hp:f n=some p):p.Ok:=by
 obtain ⟨e,c,b⟩:=h.all n p hp;obtain ⟨a,d,_⟩:=h.ent e c;rw[b,hp] at a;cases a;exact d
theorem MI{g:BD}(h:Fa g l)(f:∀n p,g n=some p->p.Ok)(e:∀n,(g n).isSome=true->n<1024):EG (Cr g l):=by
 have a:∀k∈l,∃p,g k.toNat=some p/\0<=k/\k<1024:=λk d=>by
  obtain ⟨b,c⟩:=(h.2 k).1 d;obtain ⟨p,hp⟩:=Ae8.1 c;have:=e _ c;exact ⟨p,hp,b,by omega⟩
 refine ⟨λm j=>?_,?_⟩
 ·obtain ⟨k,d,rfl⟩:=Aek.1 j
  obtain ⟨p,hp,b,c⟩:=a k d;have:=f _ p hp;simp only[hp,Option.getD_some];exact ⟨⟨b,by dsimp only;omega⟩,this.1,this.2⟩
 unfold Cr;rw[Afn];refine AfJ.2 (h.1.imp λi=>?_);simp only[AgL];omega
theorem RQ{g:BD}(h:Fa g l)(c:∀n,(g n).isSome=true->(n:Int)<t):∀m∈Cr g l,m.num<t:=λm d=>by
 obtain ⟨k,b,rfl⟩:=Aek.1 d;obtain ⟨e,a⟩:=(h.2 k).1 b;have:=c _ a;dsimp only;omega
theorem TD{ims:List Img}{a:Prop}(h:Xx t ims a)(b:1<=ims.length/\ims.length<=40)(c:EG ims):t=15/\¬a:=by
 rcases h with ⟨_,h⟩|⟨_,_,rfl|h⟩|⟨rfl,_,_,h⟩
 ·omega
 ·simp at b
 ·exact absurd c h
 exact ⟨Z,h⟩
theorem YY{ims:List Img}:∀(f:BD) (n:Nat),(ims.map Img.num).Nodup->(∀m∈ims,0<=m.num)->EK f ims n=((ims.find? λm=>decide (m.num=(n:Int))).map GN).or (f n):=by
 induction ims with
 | nil=>intro f n _ _;rfl
 | cons m ims ih=>
  intro f n b hp;simp only[AeJ,Afi] at b;have:EK f (m::ims)=EK (pgSet f m.num.toNat (GN m)) ims:=rfl;rw[this,ih _ _ b.2 (λc i=>hp c (by simp[i])),List.find?_cons];have h:=hp m O;by_cases e:m.num=(n:Int)
  ·have d:(ims.find? λm=>decide (m.num=(n:Int)))=none:=by
    rw[Ahg];intro c a g;exact b.1 (Aek.2 ⟨c,a,by simp at g;omega⟩)
   rw[d];simp[e,pgSet]
  have:¬n=m.num.toNat:=by omega
  simp[e,pgSet,this]
theorem RR{f g:BD}(h:Fa g l)(i:EG (Cr g l)):EK f (Cr g l)=Hn f g:=by
 funext n;rw[YY _ _ i.2 (λm c=>(i.1 m c).1.1)];unfold Hn;congr 1
 cases hg:g n with
 | some p=>
  have j:(n:Int)∈l:=(h.2 _).2 ⟨by omega,by rw[Ae4,hg];rfl⟩
  cases a:(Cr g l).find? λm=>decide (m.num=(n:Int)) with
  | none=>
   rw[Ahg] at a;exact absurd O (a _ (Aek.2 ⟨(n:Int),j,Z⟩))
  | some m=>
   have d:=List.find?_some a;obtain ⟨k,b,rfl⟩:=Aek.1 (List.mem_of_find?_eq_some a);simp only[decide_eq_true_eq] at d;subst d;simp[hg,GN]
 | none=>
  have a:((Cr g l).find? λm=>decide (m.num=(n:Int)))=none:=by
   rw[Ahg];intro m c e;obtain ⟨k,b,rfl⟩:=Aek.1 c;simp only[decide_eq_true_eq] at e;subst e;have:=((h.2 _).1 b).2;rw[Ae4,hg] at this;cases this
  rw[a];rfl
theorem Qx{rs:List Rc}(h:∀n,ov rs n=none)(c:∀(j:Nat) (r:Rc),rs[j]?=some r->1<=r.ims.length):rs=[]:=by
 cases rs with
 | nil=>rfl
 | cons r rs=>
  exfalso;have d:=c 0 r Z;have b:(ov [r] ((r.ims[0]'U).num.toNat)).isSome=true:=by
   show (EK Dp r.ims _).isSome=true;rw[Qk];simp only[Dp,Option.isSome_none,Bool.false_or,Ahv];exact ⟨r.ims[0]'U,AfO _,by simp⟩
  have a:=Gi rs [r] b;rw[show [r]++rs=r::rs from Z,h] at a;cases a
set_option maxHeartbeats 4000000 in
theorem TE {pd pt pl md mo:Nat} {x sL:Sup} {un nu:Bool} {hq:Hp} {g:BD} {k:Nat} {B:Nat->Pg} {rs:List Rc} {ptl:List (List UInt8)} {u:Int} {sure:Nat} (hS:SInv D x B rs ptl t q u b sure) (hL:sL.start=x.start/\sL.len=x.len/\sL.epoch=x.epoch) (c6:sL.Ok (D.n:Int)) (e0:nu=decide (sL.epoch<4294967296)) (j3:q<1099511627775) (c8:∀i,(D.ver i).length<=1000000000000) (g0:∀n,(g n).isSome=true->(n:Int)<x.pages) (hk:1<=k/\k<=40):Cn prog 107 [Y m] [stB m pd pt x (Y pl) md un (.map (some mo)),lgB pl pd pt sL t q u b nu,tblA pt,diskA pd D,pgsA md (ov rs) hq,Eu mo g k hq,poolA hq] (λv Γ=>(∃(o:List Int) (f:Hp) (D2:Dsk) (x2:Sup) (B2:Nat->Pg) (d9:List Rc) (a2 u2:Int) (a0:Nat),Fa g o/\CJ hq f/\SInv D2 x2 B2 (d9++[⟨q,Cr g o⟩]) [] a2 (q+1) u2 false a0/\pgMap (ov d9) B2=pgMap (ov rs) B/\(x2=x\/x2=Ee x t q)/\(Clean D->Clean D2)/\(D2.n=D.n/\∀i,(D2.ver i).length<=(D.ver i).length+2)/\v=I 0/\Γ=[stB m pd pt x2 (Y pl) md un (.map (some mo)),lgB pl pd pt sL a2 (q+1) u2 false nu,tblA pt,diskA pd D2,pgsA md (ov d9) f,Eu mo g k f,poolA f])\/(∃(c:Int) (f:Hp) (D2:Dsk) (x2:Sup) (B2:Nat->Pg) (d4:List Rc) (a5:List (List UInt8)) (a2 q2 u2:Int) (b2:Bool) (a0:Nat),c≠0/\(¬Clean D\/1099511627776<x.gen+1)/\CJ hq f/\SInv D2 x2 B2 d4 a5 a2 q2 u2 b2 a0/\pgMap (ov d4) B2=pgMap (ov rs) B/\(x2=x\/x2=Ee x t q)/\(D2.n=D.n/\∀i,(D2.ver i).length<=(D.ver i).length+2)/\(q<=q2/\q2<=q+1)/\v=I c/\Γ=[stB m pd pt x2 (Y pl) md un (.map (some mo)),lgB pl pd pt sL a2 q2 u2 b2 nu,tblA pt,diskA pd D2,pgsA md (ov d4) f,Eu mo g k f,poolA f])):=by
 intro z R w H;replace H:=H.l7;have e3:=hS.ok;have j0:=Sup.get e3;have k1:=e3.2;have hP:=hS.p;have j9:=hP.ul;have g9:=hP.fu;have g6:=hP.fq;have e6:0<=q:=by split at g6<;>omega
 have i4:∀n,(ov rs n).isSome=true->n<1024:=λn h=>by have:=hS.ovb h;omega
 have i8:∀n,(ov rs n).isSome=true->2+n<D.n:=λn h=>by have:=hS.ovb h;omega
 have i2:=H.sy 3 (λq=>(diskA.ok q).n2);have g5:=Ni x t q;obtain ⟨a6,a9,l,a1,H⟩:=H.pgsc 5 Z;replace H:=H.l7;have g8:a6.length<=1099511627776:=by omega
 refine Ae func107 Z ntmps107 Z (Z2 17 [12,0,0] H Z (Aq Z (call161 _) (Qu) H ?_));rintro _ w _ ⟨bb,rfl,rfl⟩ H;replace H:=H.l8;have g3:∀h:IE->Nat,(a6.map PgE.ie).map h=a6.map λe=>h e.ie:=λh=>by simp
 refine Aq Z (call160 _) (MG (λp hp=>by obtain ⟨e,he,rfl⟩:=Aek.1 hp;exact l.clk e he) (by rw[g3];exact l.born) (by simp;exact g8)) H.f6.f1 ?_;rintro v2 w _ ⟨s,hs,rfl⟩ H;replace H:=H.l9;have b0:Fa g ((s.map λp:IE=>p.1).mergeSort (λx y=>decide (x<=y))):=l.keys hs;have g7:((s.map λp:IE=>p.1).mergeSort (λx y=>decide (x<=y))).length=k:=by simp[hs.length_eq,a1]
 obtain ⟨o,f2⟩:∃o:List Int,((s.map λp:IE=>p.1).mergeSort (λx y=>decide (x<=y)))=o:=⟨_,Z⟩;rw[f2] at H b0 g7;clear f2 hs;have H:Sep z (grow 3 1 v2 o.length (o.map I)::blk bb [.map (some mo)] 134::AH mo (a6.map PgE.ie) a9::stB m pd pt x (Y pl) md un (.map (some mo))::lgB pl pd pt sL t q u b nu::tblA pt::diskA pd D::pgsA md (ov rs) hq::poolA hq::R) w:=H;have e8:=H.sy 0 (·.slc);obtain ⟨b8,c3,rfl⟩:=e8;have H:Sep z (grow 3 1 (.slice b8 o.length c3) o.length (o.map I)::blk bb [.map (some mo)] 134::AH mo (a6.map PgE.ie) a9::stB m pd pt x (Y pl) md un (.map (some mo))::lgB pl pd pt sL t q u b nu::tblA pt::diskA pd D::pgsA md (ov rs) hq::poolA hq::R) w:=H;replace H:=(H.nilg 161 3).l10;have h6:=RP g o;have e2:∀n p,g n=some p->p.Ok:=λn p h=>l.okp h;have e7:∀n,(g n).isSome=true->n<1024:=λn h=>by have:=g0 n h;omega
 have c9:EG (Cr g o):=MI b0 e2 e7;have b6:=RQ b0 g0;have f0:1<=(Cr g o).length/\(Cr g o).length<=40:=by omega
 refine Zc 5 Z ?_;refine AB (σ:=Nat×Value×List ImE) (λ⟨j,v1,ie⟩=>[(15,I (j:Int)),(3,v1),(0,Y m),(2,I 0),(13,.slice b8 o.length c3),(14,I (o.length:Int))])
   (λ⟨j,v1,ie⟩ w=>Sep z (grow 161 3 v1 j (Gl ie)::grow 3 1 (.slice b8 o.length c3) o.length (o.map I)::blk bb [.map (some mo)] 134::AH mo (a6.map PgE.ie) a9::stB m pd pt x (Y pl) md un (.map (some mo))::lgB pl pd pt sL t q u b nu::tblA pt::diskA pd D::pgsA md (ov rs) hq::poolA hq::R) w/\(j<=o.length/\ie.map Prod.fst=(Cr g o).take j/\imesOk ie hq)) (λ⟨j,v1,ie⟩=>o.length-j) ⟨0,.slice none 0 0,[]⟩
   (λ_ hF=>(hF.co Z (by go_num) hF.cz)) ⟨H,by omega,Z,λe he=>absurd he O⟩ ?_
 clear H;rintro ⟨j,v1,ie⟩ w ⟨H',hI⟩;dsimp only at hI H' ⊢;have H:=H'.l10;have j2:=H.sy 0 (·.slc);obtain ⟨j8,c4,c2⟩:=hI;refine Z0 6 [0] Z (Af Z (λh1=>?_) (λh1=>?_))
 ·have i5:j<o.length:=by omega
  refine Zc 6 Z ?_;obtain ⟨x,hx⟩:∃x,o[j]?=some x:=⟨_,Aed U⟩;obtain ⟨j6,d3⟩:=(b0.2 x).1 (Aec hx);obtain ⟨n,rfl⟩:∃n:Nat,x=(n:Int):=⟨x.toNat,by omega⟩;rw[Ae4] at d3;obtain ⟨p,pv,g2,e9,e5,g4⟩:∃(p:Pg) (v:Value),g n=some p/\p.Ok/\rdH 1 v 240 (p.body.map u8) hq/\CO (a6.map PgE.ie) (n:Int)=some (.agg #[I p.kind,v]):=by
    rcases l.get n with ⟨q,_⟩|q
    · rw[q] at d3;cases d3
    · exact q
  have h4:Slc pv 240:=e5.slc;have c5:=(H.rv 1 (·.rd)).at (j:=j) (u:=I (n:Int)) (by simp[hx]);refine Ab Z (Aj Z (z:=1) (j:=j) (r:=j) J Z Z Z U c5 U) (Ab Z (Ax Z Z J (Ay c5)) (Z2 11 [12,4,0] H Z (Ab Z (FN (e:=104) (zv:=.agg #[I 0,.slice none 0 0]) Z J J Z Z (Ay (H.bk 3 Z))) (AD 26 (v:=.agg #[I p.kind,pv]) Z (by rw[g4];rfl) (Ab Z (Bc Z Z (out:=[I (n:Int),I p.kind,pv]) J) (AR Z (AP H Z J DA Z (by decide) (by decide) (out:=[I (n:Int),I p.kind,pv]) J) ?_))))));rintro _ w ⟨b1,rfl,H⟩;replace H:=H.l11;refine AR Z (A0 1 H Z Z J DA Z Z (H.rv 0 (·.rd U U O Z)) (Ad Z (Ad Z (Ad h4.one Aw))) U) ?_;rintro v2 w H';have H':Sep z (blk b1 [I (n:Int),I p.kind,pv] 161::grow 161 3 v2 (j+1) (Gl ie++[I (n:Int),I p.kind,pv])::grow 3 1 (.slice b8 o.length c3) o.length (o.map I)::blk bb [.map (some mo)] 134::AH mo (a6.map PgE.ie) a9::stB m pd pt x (Y pl) md un (.map (some mo))::lgB pl pd pt sL t q u b nu::tblA pt::diskA pd D::pgsA md (ov rs) hq::poolA hq::R) w:=H';have h5:(Gl ie++[I (n:Int),I p.kind,pv]:List Value)=Gl (ie++[(⟨(n:Int),p.kind,p.body⟩,pv)]):=N9 ie (⟨(n:Int),p.kind,p.body⟩,pv);rw[h5] at H';have H:=H'.l11;refine Z1 8 [] [(j:Int)+1] Z U ?_;replace H:=H.d;refine gf ?_;intro _ hF;refine ⟨⟨j+1,v2,ie++[(⟨(n:Int),p.kind,p.body⟩,pv)]⟩,hF.cz,⟨H,?_⟩,?_⟩
  ·dsimp only
   refine ⟨by omega,by rw[AeH,c4,<-PE hx g2];rfl,λe he=>?_⟩;rcases Aep.1 he with q|q
   ·exact c2 e q
   rw[Aft.1 q];show rdH 1 pv p.body.length _ _;rw[e9.2];exact e5
  (dsimp only;omega)
 obtain rfl:j=o.length:=by omega
 refine Zc 2 Z (gx (Zc 3 Z ?_));replace H:=H.f9;obtain ⟨f,⟨a,g1⟩,H⟩:=DV H (λh q=>q.rd);replace H:=H.l9;have d7:ie.map Prod.fst=Cr g o:=by rw[c4];exact Aej U
 have e1:imgsH v1 (Cr g o) f:=⟨ie,d7,by rw[h6];exact g1,c2.le a⟩;replace H:=(H.mono 8 (B:=pgsA md (ov rs) f) Z (pgsA.le a)).l9;have d2:nu=true:=by rw[e0];have:=hS.s.epoch;simp;omega
 refine Z2 6 [9,4,0] H Z (Aq Z (call162 _) (MH sL x (Cr g o) (λh q=>e1.le q) D hS b6 hL.1 hL.2.1 hL.2.2 c6 e0 ⟨e6,by omega⟩ c8) H.f7.f7.f7 ?_);rintro _ w _ (⟨Da,a3,q3,u3,h0,h8,a7,b9,b3,c0,d6,d8,rfl,rfl⟩|⟨cq,a8,hv,rfl⟩|⟨Df,a5,b5,a7,c1,rfl,rfl⟩) H'
 ·have H:=H'.l9;subst d6;subst d8;refine Z0 18 [3] Z (Zr Z ?_);replace H:=(H.toPgsc 6 Z (l.le a) a1).l9
  subst b9;exact ⟨_,.inl ⟨o,f,Da,x,B,rs,a3,_,sure,b0,a,a7,Z,.inl Z,b3,c0,Z,Z⟩,H.perm 9 [7,0,1,2,8,6,3] Z Z⟩
 ·have H:=H'.l9;obtain ⟨e4,h9⟩:=TD a8 f0 c9;subst e4;subst hv;refine Z0 16 [4] Z (Aq Z (call76 _) (I0 hS hL U c8) H.f3.f8.f4.f4.f4.f8 ?_);rintro _ w _ (⟨h7,b9,i1,rfl,rfl⟩|⟨D2,i6,b7,c7,a4,d5,rfl,rfl⟩|⟨j7,D2,a0,b4,d1,⟨b7,i0⟩,a4,d0,rfl,rfl⟩) H'
  ·(obtain rfl:=Qx h7 (λj r h=>(hP.recs j r h).2.1.1);exact absurd ⟨by rw[b9,if_neg (by decide)];have j5:u=0:=g9;omega,d2,by omega⟩ h9)
  ·have H:=H'.l9;refine Z2 23 [3,9,0,0] H Z (Aq Z (call162 _) (MH sL (Ee x t q) (Cr g o) (λh q=>e1.le q) D2 b7 b6 hL.1 hL.2.1 hL.2.2 (by rw[a4];exact c6) e0 ⟨e6,by omega⟩ (λi=>by rw[d5];simp)) H.f5.f4.f4.f4 ?_);rintro _ w _ (⟨Da,a3,q3,u3,h0,h8,a7,b9,b3,c0,d6,d8,rfl,rfl⟩|⟨cq,a8,hv,rfl⟩|⟨Df,a5,b5,a7,c1,rfl,rfl⟩) H'
   ·have H:=H'.l9;subst d6;subst d8;refine Zc 4 Z (Zr Z ?_);replace H:=(H.toPgsc 8 Z (l.le a) a1).l9
    exact ⟨_,.inl ⟨o,f,Da,_,_,[],a3,_,0,b0,a,a7,Z,.inr Z,λhc=>b3 (c7 hc),⟨c0.1.trans a4,λi=>by have h1:=c0.2 i;rw[d5] at h1;simp at h1;omega⟩,Z,Z⟩,H.perm 9 [4,0,1,2,5,8,3] Z Z⟩
   ·exact absurd ⟨by rw[if_neg (by decide)];have:=g5.2.2.2.2.1;omega,d2,by omega⟩ (TD a8 f0 c9).2
   have H:=H'.l9;refine Zc 4 Z (Zr Z ?_);replace H:=(H.toPgsc 8 Z (l.le a) a1).l9;exact ⟨_,.inr ⟨_,f,Df,_,_,[],a5,t,q+1,0,true,0,by decide,.inl (λhc=>b5 (c7 hc)),a,a7,Z,.inr Z,⟨c1.1.trans a4,λi=>by have h1:=c1.2 i;rw[d5] at h1;simp at h1;omega⟩,by omega,Z,Z⟩,H.perm 9 [4,0,1,2,5,8,3] Z Z⟩
  have H:=H'.l9;refine Z0 15 [0] Z (Af Z (λh2=>?_) (λh2=>?_))
  ·exact absurd h2 b4
  refine Z0 6 [0] Z (Af Z (λh3=>?_) (λh3=>?_))
  ·refine Zc 6 Z (Zr Z ?_);replace H:=(H.toPgsc 8 Z (l.le a) a1).l9
   exact ⟨_,.inr ⟨_,f,D2,x,B,rs,ptl,t,q,u,b,a0,by first|decide|exact b4,d1,a,b7,rfl,.inl rfl,⟨a4,λi=>by have:=d0 i;omega⟩,by omega,Z,Z⟩,H.perm 9 [0,1,2,3,4,8,5] Z Z⟩
  refine Zc 7 Z (Zr Z ?_);replace H:=(H.toPgsc 8 Z (l.le a) a1).l9;exact ⟨_,.inr ⟨_,f,D2,x,B,rs,ptl,t,q,u,b,a0,by first|decide|exact b4,d1,a,b7,rfl,.inl rfl,⟨a4,λi=>by have:=d0 i;omega⟩,by omega,Z,Z⟩,H.perm 9 [0,1,2,3,4,8,5] Z Z⟩
 have H:=H'.l9;refine Z0 18 [3] Z (Zr Z ?_);replace H:=(H.toPgsc 6 Z (l.le a) a1).l9;exact ⟨_,.inr ⟨_,f,Df,x,B,rs,a5,t,q+1,u,true,sure,by decide,.inl b5,a,a7,Z,.inl Z,c1,by omega,Z,Z⟩,H.perm 9 [7,0,1,2,8,6,3] Z Z⟩
def I1(f g:BD)(S:List IE):BD:=λi=>if (i:Int)∈S.map (λp:IE=>p.1) then g i else f i
theorem VP(f g:BD):I1 f g []=f:=by funext i;simp[I1]
theorem TF{f g:BD}{S:List IE}{p:Pg}{q:IE}(hq:q.1=(n:Int))(a:g n=some p):I1 f g (S++[q])=pgSet (I1 f g S) n p:=by
 funext i;unfold I1 pgSet;simp only[AeH,AeJ,Afz,Aep,Aft,hq];by_cases h:i=n
 ·subst h;simp[a]
 have:¬((i:Int)=(n:Int)):=by omega
 simp only[this,or_false,h,if_false]
theorem VQ{f g:BD}{es:List PgE}{hq:Hp}{S:List IE}(h:PgsIn g es m hq)(r:Cl (es.map PgE.ie) (S.map λp:IE=>p.2.2)=[])(l:∀p∈S,p∈es.map PgE.ie):I1 f g S=Hn f g:=by
 funext i;unfold I1 Hn;by_cases hi:(i:Int)∈S.map (λp:IE=>p.1)
 ·rw[if_pos hi]
  obtain ⟨p,hp,e⟩:=Aek.1 hi;obtain ⟨b,a,rfl⟩:=Aek.1 (l p hp);have c:=(h.ent b a).1;have:b.n=i:=by have:(b.n:Int)=i:=e;omega
  rw[this] at c;rw[c];rfl
 rw[if_neg hi]
 cases hg:g i with
 | none=>rfl
 | some p=>
  exfalso;obtain ⟨b,a,v⟩:=h.all i p hg;have o:b.ie∈es.map PgE.ie:=Aez a;by_cases q:b.born∈S.map λp:IE=>p.2.2
  ·obtain ⟨p',d,s⟩:=Aek.1 q
   obtain ⟨e1,k,rfl⟩:=Aek.1 (l p' d);obtain ⟨u,c⟩:=Ae2 a;obtain ⟨t,j⟩:=Ae2 k;have:=F7 h.born c j s.symm;subst this;rw[c] at j;cases j;exact hi (Aek.2 ⟨_,d,by show (b.n:Int)=i;omega⟩)
  have:b.ie∈Cl (es.map PgE.ie) (S.map λp:IE=>p.2.2):=by
   simp only[Cl,Afb];exact ⟨o,by simpa [PgE.ie] using q⟩
  rw[r] at this;cases this
theorem Kc(f g:BD)(B:Nat->Pg):pgMap (Hn f g) B=λi=>(g i).getD (pgMap f B i):=by
 funext i;unfold pgMap Hn;cases g i<;>rfl
theorem YZ{f g:BD}{k:Nat}:Cn prog 108 [.map (some m),.map (some i)] [pgsA m f h,Eu i g k h] (λv Γ=>v=.tuple #[]/\Γ=[pgsA m (Hn f g) h,Eu i g k h]):=by
 intro z R w H;replace H:=H.l2;obtain ⟨es,clk,a8,H⟩:=H.pgs 0 Z;replace H:=H.l2;obtain ⟨c,a,b,a3,H⟩:=H.pgsc 1 Z;replace H:=H.l2;have a0:∀p∈c.map PgE.ie,p.2.2<a:=λp hp=>by obtain ⟨e,he,rfl⟩:=Aek.1 hp;exact b.clk e he
 have hn:((c.map PgE.ie).map λp:IE=>p.2.2).Nodup:=by rw[Afn];exact b.born
 refine Ae func108 Z ntmps108 Z (Zc 3 Z (AR Z (HE 1 (e:=104) H Z Z J Z) ?_));rintro _ w ⟨rr,rfl,H⟩;replace H:=H.l3;refine Zc 3 Z ?_;refine AB (σ:=List IE×List PgE×Nat) (λ⟨S,r,s⟩=>[(0,.map (some m)),(7,Y rr)])
   (λ⟨S,r,s⟩ w=>Sep z (GG rr i a (S.map λp:IE=>p.2.2)::AH m (r.map PgE.ie) s::AH i (c.map PgE.ie) a::R) w/\((∀p∈S,p∈c.map PgE.ie)/\PgsIn (I1 f g S) r s h)) (λ⟨S,r,s⟩=>(Cl (c.map PgE.ie) (S.map λp:IE=>p.2.2)).length) ⟨[],es,clk⟩
   (λ_ hF=>(hF.all Z)) ⟨H,λp hp=>absurd hp O,by rw[VP];exact a8⟩ ?_
 clear H;rintro ⟨S,r,s⟩ w ⟨H',hI⟩;dsimp only at hI H' ⊢;have H:=H'.l3;obtain ⟨hS,a6⟩:=hI;refine Zc 2 Z (AR Z (IP 0 2 H Z Z Z Z a0) ?_);rintro _ w ⟨qx,rfl,u,H⟩;replace H:=H.l3;refine Ab Z (KH Z Z) (Zc 3 Z (Ep Z (λh1=>?_) (λh1=>?_)))
 ·obtain ⟨p1,rfl⟩:=Ae8.1 h1;refine Zc 5 Z ?_;obtain ⟨⟨o,j,l,bo⟩,y,rfl⟩:=Aek.1 (C7 u).1;obtain ⟨a4,a1,x⟩:=b.ent _ y;dsimp only at a4 a1 x
  have a7:Slc l 240:=x.slc;obtain ⟨a5,a9,a2,_⟩:=a6.put (k:=o) (p:=j) (v:=l) a1 x;refine Ab Z (HF (p:=(PgE.ie ⟨o,j,l,bo⟩)) Z Z (Ay ⟨H.bk 0 Z,H.bk 2 Z⟩) (Aez y) hn) (Za 2 [] H Z ?_);intro b1 w H;refine Zc 1 Z (Az Z Z (Ak 0 H Z Z Z Z (vs:=[I j.kind,l]) Z (Ad Z (Ad a7.one Aw)) J O (out:=[I j.kind,l]) Z) ?_);rintro w H;replace H:=H.l4;refine Z2 6 [0,2] H Z (Az Z Z (DO 2 (e:=104) H Z Z J Z Z Z) ?_);rintro w H;replace H:=H.l4;refine Zc 1 Z ?_;have H':=H;have H:Sep z (blk b1 [I j.kind,l] 104::GG rr i a (JN (S.map λp:IE=>p.2.2) (some (PgE.ie ⟨o,j,l,bo⟩)))::AH m (E4 (r.map PgE.ie) (o:Int) (.agg #[I j.kind,l]) s) (putC (r.map PgE.ie) (o:Int) s)::AH i (c.map PgE.ie) a::R) w:=H';clear H';rw[a9] at H;have H:Sep z (blk b1 [I j.kind,l] 104::GG rr i a (JN (S.map λp:IE=>p.2.2) (some (PgE.ie ⟨o,j,l,bo⟩)))::AH m (a5.map PgE.ie) (putC (r.map PgE.ie) (o:Int) s)::AH i (c.map PgE.ie) a::R) w:=H;refine Zc 1 Z ?_;replace H:=H.d;refine gf ?_;intro _ hF;refine ⟨⟨S++[(PgE.ie ⟨o,j,l,bo⟩)],a5,putC (r.map PgE.ie) (o:Int) s⟩,(hF.all Z),⟨(by dsimp only;rw[AeH];exact H),?_⟩,?_⟩
  ·refine ⟨λp hp=>?_,?_⟩
   ·rcases Aep.1 hp with hp|hp
    ·exact hS p hp
    simp at hp;subst hp;exact Aez y
   dsimp only;rw[TF (n:=o) (p:=j) (q:=(PgE.ie ⟨o,j,l,bo⟩)) Z a4];exact a2
  (dsimp only;have:=EB u;rwa[show (S++[(PgE.ie ⟨o,j,l,bo⟩)]).map (λp:IE=>p.2.2)=(S.map λp:IE=>p.2.2)++[bo] from by simp[PgE.ie]])
 obtain rfl:qx=none:=by simpa using h1
 refine Zc 2 Z (gx (Zc 1 Z (Zf Z ?_)));have t:=a6;rw[VQ b u hS] at t;replace H:=(H.toPgs 1 Z t).l3;replace H:=(H.toPgsc 2 Z b a3).l3;exact ⟨_,⟨Z,Z⟩,H.perm 3 [1,2] Z Z⟩
theorem LU{x:Sup}{c:Value}:Xp prog 106 [Y n] [stB n m i x y j b c] (λv Γ=>v=.tuple #[]/\Γ=[stB n m i x y j false (.map none)]):=by
 intro z R u w a;have H:=a.l1;refine NR func106 Z 8 ntmps106 Z (AI (Mr 4 [11] Z J (F0 Z Z (AcW 0 H Z Z Z Z Z Z J) ?_)));rintro w a;have H:=a.l1;refine Mr 2 [12] Z J (F0 Z Z (AcX 0 H Z Z Z Z Z Z J) ?_);rintro w a;have H:=a.l1;refine AQ (dn0 Z ?_);exact ⟨[stB n m i x y j false (.map none)],⟨Z,Z⟩,H⟩
set_option maxHeartbeats 4000000 in
theorem VR (ps pd j o md mo:Nat) (x s:Sup) (nu:Bool) (hq:Hp) (g:BD) (k:Nat) (D:Dsk) (B:Nat->Pg) (rs:List Rc) (ptl:List (List UInt8)) (a q u:Int) (b:Bool) (sure:Nat) (hS:SInv D x B rs ptl a q u b sure) (hL:s.start=x.start/\s.len=x.len/\s.epoch=x.epoch) (b0:s.Ok (D.n:Int)) (c5:nu=decide (s.epoch<4294967296)) (c3:q<1099511627775) (b5:∀i,(D.ver i).length<=1000000000000) (b9:∀n,(g n).isSome=true->(n:Int)<x.pages) (hk:k<=40):Cn prog 60 [Y ps] [stB ps pd j x (Y o) md true (.map (some mo)),lgB o pd j s a q u b nu,tblA j,diskA pd D,pgsA md (ov rs) hq,Eu mo g k hq,poolA hq] (λv Γ=>(k=0/\v=I 0/\Γ=[stB ps pd j x (Y o) md false (.map none),lgB o pd j s a q u b nu,tblA j,diskA pd D,pgsA md (ov rs) hq,poolA hq])\/(1<=k/\∃(d:Hp) (r:Dsk) (x2:Sup) (B2:Nat->Pg) (l:List Rc) (a2 u2:Int) (f:Nat),CJ hq d/\SInv r x2 B2 l [] a2 (q+1) u2 false f/\(pgMap (ov l) B2=pgMap (Hn (ov rs) g) B/\∀n,(g n).isSome=true->(ov l n).isSome=true)/\(x2=x\/x2=Ee x a q)/\(Clean D->Clean r)/\(r.n=D.n/\∀i,(r.ver i).length<=(D.ver i).length+2)/\v=I 0/\Γ=[stB ps pd j x2 (Y o) md false (.map none),lgB o pd j s a2 (q+1) u2 false nu,tblA j,diskA pd r,pgsA md (ov l) d,poolA d])\/(1<=k/\∃(c:Int) (d:Hp) (r:Dsk) (x2:Sup) (B2:Nat->Pg) (l:List Rc) (y:List (List UInt8)) (a2 q2 u2:Int) (b2:Bool) (f:Nat),c≠0/\(¬Clean D\/1099511627776<x.gen+1)/\CJ hq d/\SInv r x2 B2 l y a2 q2 u2 b2 f/\pgMap (ov l) B2=pgMap (ov rs) B/\(x2=x\/x2=Ee x a q)/\(r.n=D.n/\∀i,(r.ver i).length<=(D.ver i).length+2)/\(q<=q2/\q2<=q+1)/\v=I c/\Γ=[stB ps pd j x2 (Y o) md false (.map none),lgB o pd j s a2 q2 u2 b2 nu,tblA j,diskA pd r,pgsA md (ov l) d,poolA d])):=by
 intro z R w m;have H:=m.l7;have c9:=hS.ok.2;have b7:∀n,(g n).isSome=true->n<1024:=λn h=>by have:=b9 n h;omega
 obtain ⟨c6,c7,a3,a4,m⟩:=H.pgsc 5 Z;clear H;have H:=m.l7;have b3:∀n p,g n=some p->p.Ok:=λn p h=>a3.okp h;have c8:(c6.map PgE.ie).length=k:=by simp[a4]
 refine SX func60 Z 30 ntmps60 Z (AY (AI (BZ 1 Z Z (AQ (AY (AY (AI (Gj 5 [11,0] (AO (H.blk 0 Z) AM) Z J Z (AQ (EA Z (DG (AY (AI ?_)))))))))))));refine BZ 1 Z Z (LM Z Z Z Z (AQ (AY (AY (AI (Gj 4 [12,0] (AO (H.blk 0 Z) AM) Z J Z (s_do Z Z Z (NS (e:=104) Z J Z (Ay (H.bk 5 Z))) (BZ 1 Z Z (AQ (Gq Z (λh1=>?_) (λh1=>?_)))))))))))
 ·refine AY (AI (BZ 1 Z Z (AQ (D7 ?_))));intro a_ hF;unfold Jk;rw[hF.defers];refine GH (λw=>call106 _ w) (LU) H 7 [0,1,2,3,4,5,6] Z Z ?_;rintro _ w _ ⟨rfl,rfl⟩ m;clear H;have H:=m.l7;refine Rz hF (rs:=[.tmp 2]) Z [I 0] ⟨Z,trivial⟩ (v:=I 0) Z ?_;exact ⟨[stB ps pd j x (Y o) md false (.map none),lgB o pd j s a q u b nu,tblA j,diskA pd D,pgsA md (ov rs) hq,poolA hq],.inl ⟨by omega,Z,Z⟩,H.perm 7 [0,1,2,3,4,6] Z Z⟩
 refine DG (AY (AY ?_));have b8:1<=k:=by omega
 have m:=H.toPgsc 5 Z a3 a4;have H:=m.l7;refine AI (BZ 1 Z Z (Fu Z Z Z Z Z (λw=>call107 _ w) (TE hS hL b0 c5 c3 b5 b9 U) H Z ?_));rintro _ w _ (⟨ks,d,r,x2,B2,a0,a2,u2,f,c0,t,a6,a5,a9,b1,a8,rfl,rfl⟩|⟨c4,d,r,x2,B2,l,y,a2,q2,u2,b4,f,a1,c1,t,a6,a5,a9,a8,b6,rfl,rfl⟩) m
 ·have H:=m.l7;refine BZ 1 Z Z (AQ (AY (AI (BZ 2 Z Z (AdD 19 Z Z (AQ (EA Z (DG (AY (AN (Sep z (stB ps pd j x2 (Y o) md true (.map (some mo))::R)) 9 Z J (AZ H λw m=>?_)))))))))))
  have H:=m.l7;refine a_L [0,1,2,3,4,5,6,7] [10,0,12,0] (λ_ hx=>(AO (hx.blk 0 Z) AM)) (by exact H.pick 7 [0] Z) Z J Z Z (AC [8] J O (Am (Bo Z Z Z Z Z Z (λw=>call108 _ w) (YZ) H.f5.f5 Z ?_)));rintro _ w _ ⟨rfl,rfl⟩ m;have H:=m.l7;refine Av (H.pick 7 [2] Z) (a_done J (AY (AI (BZ 1 Z Z (AQ (D7 ?_))))));intro a_ hF;unfold Jk;rw[hF.defers];refine GH (λw=>call106 _ w) (LU) H 7 [2,0,1,3,4,5,6] Z Z ?_;rintro _ w _ ⟨rfl,rfl⟩ m;clear H;have H:=m.l7;refine Rz hF (rs:=[.tmp 2]) Z [I 0] ⟨Z,trivial⟩ (v:=I 0) Z ?_;have a7:Hn (ov a0) g=ov (a0++[⟨q,Cr g ks⟩]):=by rw[Jp,RR c0 (MI c0 b3 b7)]
  rw[a7] at H;have H:Sep z (stB ps pd j x2 (Y o) md false (.map none)::pgsA md (ov (a0++[⟨q,Cr g ks⟩])) d::Eu mo g k d::lgB o pd j s a2 (q+1) u2 false nu::tblA j::diskA pd r::poolA d::R) w:=H;exact ⟨[stB ps pd j x2 (Y o) md false (.map none),lgB o pd j s a2 (q+1) u2 false nu,tblA j,diskA pd r,pgsA md (ov (a0++[⟨q,Cr g ks⟩])) d,poolA d],.inr (.inl ⟨b8,d,r,x2,B2,_,a2,u2,f,t,a6,⟨by rw[<-a7,Kc,Kc,a5],λn hn=>by rw[<-a7];obtain ⟨p_,c2⟩:=Ae8.1 hn;simp[Hn,c2]⟩,a9,b1,a8,Z,Z⟩),H.perm 7 [0,3,4,5,1,6] Z Z⟩
 have H:=m.l7;refine BZ 1 Z Z (AQ (AY (AI (BZ 2 Z Z (AQ (Gq Z (λh2=>?_) (λh2=>?_)))))))
 ·refine AY (AI (BZ 2 Z Z (AQ (D7 ?_))));intro a_ hF;unfold Jk;rw[hF.defers];refine GH (λw=>call106 _ w) (LU) H 7 [0,1,2,3,4,5,6] Z Z ?_;rintro _ w _ ⟨rfl,rfl⟩ m;clear H;have H:=m.l7;refine Rz hF (rs:=[.tmp 2]) Z [I c4] ⟨Z,trivial⟩ (v:=I c4) Z ?_;exact ⟨[stB ps pd j x2 (Y o) md false (.map none),lgB o pd j s a2 q2 u2 b4 nu,tblA j,diskA pd r,pgsA md (ov l) d,poolA d],.inr (.inr ⟨b8,_,d,r,x2,B2,l,y,a2,q2,u2,b4,f,a1,c1,t,a6,a5,a9,a8,b6,Z,Z⟩),H.perm 7 [0,1,2,3,4,6] Z Z⟩
 exact absurd a1 h2
section
def Dr(x:Sup):Sup:= {x with gen:=x.gen+1,epoch:=x.epoch+1,head:=0,seq:=1}
theorem Xy(x:Sup):(Dr x).gen=x.gen+1/\(Dr x).epoch=x.epoch+1/\(Dr x).pages=x.pages/\(Dr x).start=x.start/\(Dr x).len=x.len/\(Dr x).head=0/\(Dr x).seq=1:=⟨Z,Z,Z,Z,Z,Z,Z⟩
def Adb(D:Dsk)(s:Sup)(a q u:Int):Prop:=s.len<=u\/∀ims,¬nextP (Di D s a) s.epoch q (s.len-u) ims
structure OInv(D:Dsk)(x:Sup)(B:Nat->Pg)(Gd:List Rc->Prop):Prop where
 ok:x.Ok (D.n:Int)
 s:SOk x
 gen:1<=x.gen
 ver:∀i,D.ver i=[]
 sup:D.dur (x.gen%2).toNat=DD x
 oth:∃y:Sup,y.Ok (D.n:Int)/\y.gen=x.gen-1/\D.dur ((x.gen+1)%2).toNat=DD y
 tags:∀i:Nat,2+x.pages<=(i:Int)->∀e q,Tg (D.dur i) e q->e<=x.epoch
 read:∀(got:List Rc) (a q u:Int),Runs D x x.head x.seq 0 got a q u->Adb D x a q u->Gd got
 recs:∀got,Gd got->∀r∈got,(1<=r.ims.length/\r.ims.length<=40)/\∀m∈r.ims,m.Ok/\m.num<x.pages
 gd:∀got,Gd got->∀i:Nat,(i:Int)<x.pages->ov got i=none->HomeP (D.dur (2+i)) i (B i)
theorem RS{rs:List Rc}(a:i<=m)(h:(ov (rs.take i) n).isSome=true):(ov (rs.take m) n).isSome=true:=by
 have:=Gi ((rs.take m).drop i) _ (show (ov ((rs.take m).take i) n).isSome=true by rw[AeD,AeE a];exact h);rwa[AeL] at this
theorem SInv.crashed{D D':Dsk}{x:Sup}{B:Nat->Pg}{rs:List Rc}{ptl:List (List UInt8)}{a u:Int}{sure:Nat}(h:SInv D x B rs ptl a q u b sure)(hq:q<=1099511627776)(l:Crashed D D'):OInv D' x B (λf=>sure<=f.length/\f.length<=rs.length/\f=rs.take f.length):=by
 have hg:=h.gen;refine ⟨by rw[l.n];exact h.ok,h.s,hg,l.ver,?_,?_,λi hi e z ht=>h.tags hq hi (l.dur i) ht,λf a' z u' t v=>h.p.read h.s l hq t v,λf k r t=>?_,λf k i hi ho=>?_⟩
 ·rcases l.dur (x.gen%2).toNat with g|g
  ·rw[g];exact h.sup.1
  rw[h.sup.2] at g;cases g
 ·obtain ⟨y,a,b,c,d⟩:=h.oth
  refine ⟨y,by rw[l.n];exact a,b,?_⟩;rcases l.dur ((x.gen+1)%2).toNat with g|g
  ·rw[g];exact c
  rw[d] at g;cases g
 ·rw[k.2.2] at t
  have o:=Afg t;obtain ⟨j,hj⟩:=Ae2 o;obtain ⟨_,h2,h3⟩:=h.p.recs j r hj;exact ⟨h2,λm w=>⟨h3 m w,h.num r o m w⟩⟩
 rcases h.home i hi _ (l.dur _) with g|⟨g,_⟩
 ·exact g
 have:=RS k.1 g;rw[<-k.2.2,ho] at this;cases this
variable{D:Dsk}{x:Sup}{B:Nat->Pg}{Gd:List Rc->Prop}
theorem OInv.ovb(h:OInv D x B Gd){a:List Rc}(c:Gd a)(d:(ov a n).isSome=true):(n:Int)<x.pages:=by
 obtain ⟨p,hp⟩:=Ae8.1 d;obtain ⟨r,e,m,b,f,_⟩:=KQ _ a Z hp;have g:=((h.recs a c r e).2 m b).2;have i:=h.ok.2;omega
theorem OInv.ovok(h:OInv D x B Gd){a:List Rc}(b:Gd a){p:Pg}(c:ov a n=some p):p.Ok:=by
 obtain ⟨r,d,m,e,_,rfl⟩:=KQ _ a Z c;exact Qj ((h.recs a b r d).2 m e).1
theorem OInv.opened(h:OInv D x B Gd){a:List Rc}(w:Gd a)(j:Fa (ov a) l)(m:(Dr x).Ok (D.n:Int))(he:x.epoch+1<4294967296):
  SInv (Fi (hwD D (pgLst (ov a) l)).fl (Dr x)) (Dr x) (pgMap (ov a) B) [] [] 0 1 0 false 0:=by
 have hk:=h.ok.2;have a0:=h.gen;have hf:=Xy x;have k:=h.s;have t:SOk (Dr x):=⟨by rw[hf.2.2.2.1];exact k.start,by have:=k.head;omega,by have:=k.epoch;omega,by omega⟩;have o:∀y∈pgLst (ov a) l,(y.1:Int)<x.pages:=λy m=>h.ovb w (by rw[(Ew j y.1 y.2).1 m];rfl);have d:∀i c,Do (Fi (hwD D (pgLst (ov a) l)).fl (Dr x)) i c->i≠((Dr x).gen%2).toNat->c=(hwD D (pgLst (ov a) l)).cont i:=λi c b hi=>by
  have f:=ER (hwD D (pgLst (ov a) l)).fl (Dr x) i hi;unfold Do at b;rw[f.1,f.2] at b;rcases b with b|b
  ·exact b
  cases b
 have q:∀i:Nat,i<2->(hwD D (pgLst (ov a) l)).cont i=D.dur i:=λi hi=>by
  rw[hw_cont_out _ D i (λy _ e=>by omega)];exact EH (h.ver i)
 refine ⟨by show (Dr x).Ok ((hwD D _).n:Int);rw[E9];exact m,?_,t,by omega,λr hr=>(by cases hr),λi hi c b=>.inl ?_,HI _ _,?_,λi hi hr c b e u v=>?_⟩
 ·have:=PInv.fresh (D:=Fi (hwD D (pgLst (ov a) l)).fl (Dr x)) t (λi h1 h2 c b e u v=>?_)
  ·rw[hf.2.2.2.2.2.1,hf.2.2.2.2.2.2] at this;exact this
  have hi:=d i c b U;rw[hw_cont_out _ D i (λy m e=>by have:=o y m;omega),EH (h.ver i)] at hi;subst hi;have:=h.tags i U e u v;omega
 ·have g:=d (2+i) c b U
  subst g;unfold pgMap
  cases f:ov a i with
  | some p=>
   have hm:(i,p)∈pgLst (ov a) l:=(Ew j i p).2 f;rw[Xr D (EU j) (i,p) hm];exact .inr ⟨h.ovok w f,Z⟩
  | none=>
   rw[hw_cont_out _ D _ (λz hz e=>by
    have:=(Ew j z.1 z.2).1 hz;rw[show z.1=i from by omega,f] at this;cases this),EH (h.ver _)]
   exact h.gd a w i U f
 ·refine ⟨x,by show x.Ok ((hwD D _).n:Int);rw[E9];exact h.ok,by omega,?_⟩
  have f:=ER (hwD D (pgLst (ov a) l)).fl (Dr x) (((Dr x).gen+1)%2).toNat U;refine ⟨?_,by rw[f.2];rfl⟩;rw[f.1];show (hwD D (pgLst (ov a) l)).cont _=_;rw[q _ U,show ((Dr x).gen+1)%2=x.gen%2 from by omega];exact h.sup
 have g:=d i c b U;rw[hw_cont_out _ D i (λy m e=>by have:=o y m;omega),EH (h.ver i)] at g;subst g;have:=h.tags i U e u v;omega

def EV(D:Dsk):Nat->Dsk
 | 0=>D
 | k+1=>(EV D k).wr (2+k) [List.replicate 256 0]
theorem Oy(D:Dsk):∀k,(EV D k).n=D.n
 | 0=>rfl
 | k+1=>by show ((EV D k).wr _ _).n=_;rw[Dsk.wr_n];exact Oy D k
theorem Y0(n i:Nat):(EV (Ct n) m).cont i=List.replicate 256 0:=by
 induction m with
 | zero=>rfl
 | succ m ih=>
  show ((EV (Ct n) m).wr _ _).cont i=_;rw[wr_cont,ih];by_cases h:2+m<=i
  ·rw[if_pos h]
   rcases AgT (i-(2+m)) with e|e
   ·rw[e];rfl
   rw[AeI (by simp;omega)];rfl
  rw[if_neg h];rfl
theorem FT{D:Dsk}(h:Clean D):∀k,Clean (EV D k)
 | 0=>h
 | k+1=>(FT h k).wr _ _
theorem TG(n:Nat)(i:Nat):∀k,((EV (Ct n) k).ver i).length<=k
 | 0=>by simp[EV,Ct]
 | k+1=>by
  have h1:=Dsk.wr_len (EV (Ct n) k) (2+k) [List.replicate 256 0] i;have a:=TG n i k;show (((EV (Ct n) k).wr _ _).ver i).length<=_;omega
def CA(p s l g:Int):Sup:=⟨g,1,p,s,l,0,1⟩
def MJ(n:Nat)(p s l:Int):Dsk:=Fi (Fi (EV (Ct n) p.toNat).fl (CA p s l 1)) (CA p s l 2)
theorem FB(n:Nat):Clean (Ct n):=⟨Z,Z,Z,Z⟩
theorem VS:Clean (MJ n p s t):=((FT (FB n) _).fl.sv _).sv _
theorem VT(n:Nat)(p s l:Int):(MJ n p s l).n=n:=Oy _ _
theorem TH(i:Nat):(MJ n p s t).ver i=[]:=HO (HO (λ_=>rfl) _) _ i
theorem Oz(hi:2<=i):(MJ n p s t).dur i=List.replicate 256 0:=by
 have a:=ER (Fi (EV (Ct n) p.toNat).fl (CA p s t 1)) (CA p s t 2) i (by show i≠((2:Int)%2).toNat;simp;omega);have b:=ER (EV (Ct n) p.toNat).fl (CA p s t 1) i (by show i≠((1:Int)%2).toNat;simp;omega);exact (a.1.trans b.1).trans (Y0 n i)
theorem Y1(d:(CA p s t 2).Ok (n:Int)):OInv (MJ n p s t) (CA p s t 2) (λ_=>noPg) (λb=>b=[]):=by
 have w:(CA p s t 2).gen=2/\(CA p s t 2).epoch=1/\(CA p s t 2).pages=p/\(CA p s t 2).start=s/\(CA p s t 2).len=t/\(CA p s t 2).head=0/\(CA p s t 2).seq=1:=⟨Z,Z,Z,Z,Z,Z,Z⟩;have o:=Sup.get d;have v:=d.2;have f:SOk (CA p s t 2):=⟨by omega,by omega,by omega,by omega⟩;have c:∀z:Int,(MJ n p s t).cont (ringAt (CA p s t 2) z)=List.replicate 256 0:=λz=>by
  have:=Jw f z;rw[EH (TH _)];exact Oz U
 refine ⟨by rw[VT];exact d,f,by omega,TH,(HI _ _).1,⟨CA p s t 1,?_,Z,?_⟩,λi j e q k=>?_,λb a q u h m=>?_,λb g r h=>?_,λb _ i hi _=>?_⟩
 ·rw[VT]
  exact Sup.ok_mk (by show 0<=(1:Int)/\(1:Int)<=1099511627776;omega) (by show 0<=(1:Int)/\(1:Int)<=1099511627776;omega) (by show 16<=p/\p<=1024;omega) (by show 2+p<=s/\s<=1099511627776;omega) (by show 64<=t/\t<=1099511627776;omega) (by show 0<=(0:Int)/\(0:Int)<t;omega) (by show 0<=(1:Int)/\(1:Int)<=1099511627776;omega) (by show s<=n-t/\t<=n;omega)
 ·have j:=ER (Fi (EV (Ct n) p.toNat).fl (CA p s t 1)) (CA p s t 2) 1 (by show 1≠((2:Int)%2).toNat;decide)
  exact j.1.trans (HI (EV (Ct n) p.toNat).fl (CA p s t 1)).1
 ·rw[Oz U] at k
  exact (Ve k).elim
 ·cases h with
  | nil=>rfl
  | snoc r hlt hn=>
   exfalso;have l:=hn.1;have e:∀z,Di (MJ n p s t) (CA p s t 2) z 0=List.replicate 256 0:=λz=>c (z+((0:Nat):Int));rw[e] at l;exact Mz l
 ·subst g;cases h
 rw[Oz U];exact .inl ⟨Z,Z⟩
end
theorem OInv.two{x:Sup}{B:Nat->Pg}{Gd:List Rc->Prop}(h:OInv D x B Gd):∃a b:Sup,a.Ok (D.n:Int)/\b.Ok (D.n:Int)/\a.gen%2=0/\b.gen%2=1/\D.cont 0=DD a/\D.cont 1=DD b/\x=if a.gen<b.gen then b else a:=by
 obtain ⟨y,f,i,c⟩:=h.oth;have hs:=h.sup;have g:=h.gen;have d:=EH (h.ver 0);have c1:=EH (h.ver 1);rcases (show x.gen%2=0\/x.gen%2=1 by omega) with e|e
 ·rw[show (x.gen%2).toNat=0 by omega] at hs
  rw[show ((x.gen+1)%2).toNat=1 by omega] at c;exact ⟨x,y,h.ok,f,e,by omega,d.trans hs,c1.trans c,by rw[if_neg U]⟩
 rw[show (x.gen%2).toNat=1 by omega] at hs;rw[show ((x.gen+1)%2).toNat=0 by omega] at c;exact ⟨y,x,f,h.ok,by omega,e,d.trans c,c1.trans hs,by rw[if_pos U]⟩
theorem AbE{x:Sup}(h:x.Ok t)(a:1<=x.gen)(c:x.gen+1<=1099511627776)(b:x.epoch+1<=1099511627776):(Dr x).Ok t:=by
 have hs:=Sup.get h;have d:=h.2;have e:=Xy x;exact Sup.ok_mk U U U U U U U U
theorem OA{rs:List Rc}{r:Rc}(h:rs[n]?=some r):EK (ov (rs.take n)) r.ims=ov (rs.take (n+1)):=by
 rw[AeN,h];exact (Jp _ _).symm
theorem M4{f:BD}{ims:List Img}{m:Img}(h:ims[n]?=some m):pgSet (EK f (ims.take n)) m.num.toNat (GN m)=EK f (ims.take (n+1)):=by
 rw[AeN,h];exact (Vg).symm
set_option maxHeartbeats 4000000 in
theorem sopen_c (pd:Nat) (D:Dsk) (x:Sup) (B:Nat->Pg) (Gd:List Rc->Prop) (hO:OInv D x B Gd) (b8:Clean D) (h5:x.gen+1<=1099511627776) (e6:x.epoch+1<4294967296):Cn prog 52 [Y pd] [diskA pd D] (λv Γ=>∃(ps pl b md:Nat) (hq:Hp) (D2:Dsk) (d3:List Rc),Gd d3/\SInv D2 (Dr x) (pgMap (ov d3) B) [] [] 0 1 0 false 0/\Clean D2/\D2.n=D.n/\(∀i,D2.ver i=[])/\v=.tuple #[Y ps,I 0]/\Γ=[stB ps pd b (Dr x) (Y pl) md false (.map none),lgB pl pd b (Dr x) 0 1 0 false (decide ((Dr x).epoch<4294967296)),tblA b,diskA pd D2,pgsA md Dp hq,poolA hq]):=by
 intro z R w H;obtain ⟨y0,y1,f0,f8,e9,g0,e8,g2,f9⟩:=hO.two;have a9:=hO.ok;have g9:=Sup.get a9;have h6:=a9.2;have d4:=hO.gen;have a4:(Dr x).Ok (D.n:Int):=AbE a9 d4 U U;refine Ae func52 Z ntmps52 Z (Zc 19 Z (Aq Z (call93 _) (Oj) H ?_));rintro _ w _ ⟨b,rfl,rfl⟩ H;refine AR Z (F6 H Z) ?_;rintro _ w ⟨s,rfl,H⟩;refine Ab Z (Bc Z Z (out:=[Y pd,Y b,I 0,I 0,I 0,I 0,I 0,I 0,I 0,.pointer none,.map (some s),.bool false,.map none]) J) (Za 0 [] H Z ?_);intro b2 w H;refine Z2 10 [1,0,0] H Z (z_E_ Z (call95 _) (AbD b8.f1 x y0 y1 f0 f8 e9 g0 e8 g2 f9) H.f2.f3 ?_);intro w H;refine Za 3 [] H Z ?_;intro b3 w H;refine Z4 24 [0,4,0,7,2,3] H Z ?_;intro w H;replace H:=H.f3;refine AN (Sep z (stB b2 pd b x (.pointer none) s false (.map none)::blk b3 [I x.gen,I x.epoch,I x.pages,I x.start,I x.len,I x.head,I x.seq] 132::R)) 14 Z J (AZ H λw y=>?_);have H:=y.l5;refine AT [0,1,2,3,4,5] [1,0,0,1,7] [] (by exact H.pick 5 [0,1] Z) Z J Z (AC [6] J O (Am (Bo Z Z Z Z Z Z (λw=>call96 _ w) (Abq x a9 b8.f1) H.f2.f3 Z ?_)));rintro _ w _ ⟨b1,a,a5,q5,u5,v5,a0,rfl,a8,b6,m,rfl⟩ H;obtain ⟨c5,c2,rfl⟩:=m.slc;obtain ⟨es2,c1,a7,d5⟩:=m;have g7:es2.length=a.length:=by rw[<-c1];simp
 have a3:=hO.read a a5 q5 u5 a8 b6;have e4:=hO.recs a a3;have g3:=a7.small;have e3:∀n,(ov a n).isSome=true->n<1024:=λn h=>by have:=hO.ovb a3 h;omega
 have d7:∀n,(ov a n).isSome=true->2+n<D.n:=λn h=>by have:=hO.ovb a3 h;omega
 have H:Sep z (poolA a0::lgB b1 pd b x a5 q5 u5 false (decide (x.epoch<4294967296))::tblA b::diskA pd D::stB b2 pd b x (.pointer none) s false (.map none)::blk b3 [I x.gen,I x.epoch,I x.pages,I x.start,I x.len,I x.head,I x.seq] 132::AH s ([]) 0::R) w:=H;refine Av (H.pick 7 [4,5] Z) (AT [7,8,9,10,11,12,13] [] [] (by exact H.pick 7 [4,5] Z) Z J Z (a_done J (gn (Z5 36 [4,0,5,0,0,5,1,5,0,1,5,0,5,0,0] [x.gen+1,x.epoch+1] H Z U ?_))));intro w H;refine Al 62 Z (λh1=>U) (λh1=>?_);refine Z2 6 [1,5,0,0] H Z (Af Z (λh2=>U) (λh2=>?_));refine Zc 11 Z ?_;refine AB (σ:=Nat×List PgE×Nat) (λ⟨k,es,cl⟩=>[(69,I (k:Int)),(0,Y pd),(2,.pointer none),(3,I 0),(4,Y b2),(5,Y b3),(67,.slice c5 a.length c2),(68,I (a.length:Int))])
   (λ⟨k,es,cl⟩ w=>Sep z (poolA a0::lgB b1 pd b x a5 q5 u5 false (decide (x.epoch<4294967296))::tblA b::diskA pd D::stB b2 pd b x (.pointer none) s false (.map none)::blk b3 [I (x.gen+1),I (x.epoch+1),I x.pages,I x.start,I x.len,I x.head,I x.seq] 132::AH s (es.map PgE.ie) cl::R) w/\(k<=a.length/\PgsIn (ov (a.take k)) es cl a0)) (λ⟨k,es,cl⟩=>a.length-k) ⟨0,[],0⟩
   fr_z ⟨H,by omega,PgsIn.none _ _⟩ ?_
 clear H;rintro ⟨k,es,cl⟩ w ⟨y,hI⟩;dsimp only at hI y ⊢;have H:=y.l7;obtain ⟨h0,c0⟩:=hI;refine Z0 6 [0] Z (Af Z (λh3=>?_) (λh3=>?_))
 ·refine Zc 6 Z ?_;obtain ⟨⟨g,w1⟩,b7⟩:∃e:RcE,es2[k]?=some e:=⟨_,Aed U⟩;have d8:a[k]?=some g:=by rw[<-c1];simp[b7]
  obtain ⟨c7,c4,f,d6⟩:=d5 _ (Aec b7);dsimp only at c4 f;obtain ⟨a6,c3,rfl⟩:=f.slc;have g4:c7.length=g.ims.length:=by rw[<-c4];simp
  have g8:=f.small;have e2:=e4 _ (Aec d8);have e0:=(H.rv 0 (λq=>a7.le q)).at (LQ b7 0 _ Z);refine Ab Z (Aj Z (z:=2) (j:=k) (r:=k*2) J Z Z Z U e0 U) (Ab Z (Bp Z Z (vs:=[I g.seq,.slice a6 g.ims.length c3]) J O (Ay (λk u hk=>(H.rv 0 (λq=>a7.le q)).at (LQ b7 k u hk)))) (Za 0 [] H Z ?_));intro b4 w H;refine Z4 12 [0,1,0,0] H Z ?_;intro w H;refine AB (σ:=Nat×List PgE×Nat) (λ⟨j,ei,ci⟩=>[(76,I (j:Int)),(0,Y pd),(2,.pointer none),(3,I 0),(4,Y b2),(5,Y b3),(10,Y b4),(67,.slice c5 a.length c2),(68,I (a.length:Int)),(69,I (k:Int)),(70,.bool (decide ((k:Int)<(a.length:Int)))),(71,Hj c5 (k*2)),(72,.agg #[I g.seq,.slice a6 g.ims.length c3]),(73,.pointer (some ⟨b4,1,none⟩)),(74,.slice a6 g.ims.length c3),(75,I (g.ims.length:Int))])
    (λ⟨j,ei,ci⟩ w=>Sep z (blk b4 [I g.seq,.slice a6 g.ims.length c3] 159::poolA a0::lgB b1 pd b x a5 q5 u5 false (decide (x.epoch<4294967296))::tblA b::diskA pd D::stB b2 pd b x (.pointer none) s false (.map none)::blk b3 [I (x.gen+1),I (x.epoch+1),I x.pages,I x.start,I x.len,I x.head,I x.seq] 132::AH s (ei.map PgE.ie) ci::R) w/\(j<=g.ims.length/\PgsIn (EK (ov (a.take k)) (g.ims.take j)) ei ci a0)) (λ⟨j,ei,ci⟩=>g.ims.length-j) ⟨0,es,cl⟩
    fr_z ⟨H,by omega,c0⟩ ?_
  clear H;rintro ⟨j,ei,ci⟩ w ⟨y,hI⟩;dsimp only at hI y ⊢;have H:=y.l8;obtain ⟨h7,t⟩:=hI;refine Z0 6 [0] Z (Af Z (λh4=>?_) (λh4=>?_))
  ·refine Zc 6 Z ?_;obtain ⟨⟨⟨a2,l,c9⟩,u1⟩,o⟩:∃e:ImE,c7[j]?=some e:=⟨_,Aed U⟩;have c6:g.ims[j]?=some ⟨a2,l,c9⟩:=by rw[<-c4];simp[o]
   obtain ⟨⟨d1,d9⟩,b9,a1⟩:=(e2.2 _ (Aec c6)).1;dsimp only at d1 d9 b9 a1;obtain ⟨n,rfl⟩:∃n:Nat,a2=(n:Int):=⟨a2.toNat,by omega⟩;have b0:=d6 _ (Aec o);dsimp only at b0;rw[a1] at b0;have e7:=b0.slc;have e1:=(H.rv 1 (λq=>f.le q)).at (Jo o 0 _ Z);obtain ⟨d0,g1,c8,_⟩:=t.put (k:=n) (p:=⟨l,c9⟩) (v:=u1) ⟨b9,a1⟩ b0;refine Ab Z (Aj Z (z:=3) (j:=j) (r:=j*3) J Z Z Z U e1 U) (Ab Z (Bp Z Z (vs:=[I (n:Int),I l,u1]) J O (Ay (λk u hk=>(H.rv 1 (λq=>f.le q)).at (Jo o k u hk)))) (Za 0 [] H Z ?_));intro b5 w H;refine Az Z Z (Ak 0 H Z Z Z Z (vs:=[I (n:Int),I l,u1]) Z (Ad Z (Ad Z (Ad e7.one Aw))) J O (out:=[I (n:Int),I l,u1]) Z) ?_;rintro w H;refine Zc 2 Z ?_;replace H:=H.f6;refine AN (Sep z (stB b2 pd b x (.pointer none) s false (.map none)::blk b5 [I (n:Int),I l,u1] 161::R)) 9 Z J (AZ H λw y=>?_);have H:=y.l9;refine AT [0,1,2,3,4,5,6,7] [10,0,0,0,1,0,1,1,2] [] (by exact H.pick 9 [0,1] Z) Z J Z (AC [8] J O (Am (Bi Z Z Z (DO 8 (e:=104) H Z Z J Z Z Z) ?_)));rintro w H;refine Av (H.pick 9 [0,1] Z) (a_done J (gn ?_));rw[g1] at H;have H:Sep z (stB b2 pd b x (.pointer none) s false (.map none)::blk b5 [I (n:Int),I l,u1] 161::blk b4 [I g.seq,.slice a6 g.ims.length c3] 159::poolA a0::lgB b1 pd b x a5 q5 u5 false (decide (x.epoch<4294967296))::tblA b::diskA pd D::blk b3 [I (x.gen+1),I (x.epoch+1),I x.pages,I x.start,I x.len,I x.head,I x.seq] 132::AH s (d0.map PgE.ie) (putC (ei.map PgE.ie) (n:Int) ci)::R) w:=H;refine Z1 6 [] [(j:Int)+1] Z U ?_;replace H:=H.f1.d.f7.f7.f2.f7.f7.f7.f7.f7;refine gf ?_;intro _ hF;refine ⟨⟨j+1,d0,putC (ei.map PgE.ie) (n:Int) ci⟩,hF.cz,⟨H,?_⟩,?_⟩
   ·dsimp only
    exact ⟨by omega,(M4 c6)▸c8⟩
   (dsimp only;omega)
  obtain rfl:j=g.ims.length:=by omega
  refine Zc 2 Z (gx (Z1 7 [] [(k:Int)+1] Z U ?_));replace H:=H.d;refine gf ?_;intro _ hF;refine ⟨⟨k+1,ei,ci⟩,hF.cz,⟨H,?_⟩,?_⟩
  ·dsimp only
   rw[Aej (Aei _),OA d8] at t;exact ⟨by omega,t⟩
  (dsimp only;omega)
 obtain rfl:k=a.length:=by omega
 have t:=c0;rw[Aej (Aei _)] at t;refine Zc 2 Z (gx (Z4 15 [5,5,6,5,5,7] H Z ?_));intro w H;replace H:=(H.toPgs 6 Z t).l7;refine Aq Z (call97 _) (IZ (ov a) (Dr x) D e3 d7 a4 (λi=>by rw[hO.ver];simp)) H.f6.f4.f4.f5 ?_;rintro _ w _ (⟨ks,d2,rfl,rfl⟩|⟨ks,c,D2,d2,g5,e5,rfl,rfl⟩) y
 ·have H:=y.l7;refine Z0 13 [4] Z ?_;replace H:=H.f6.f1;refine Bh (Sep z (stB b2 pd b (Dr x) (.pointer none) s false (.map none)::blk b3 [I (x.gen+1),I (x.epoch+1),I x.pages,I x.start,I x.len,I 0,I 1] 132::R)) 11 Z J (AZ H λw y=>?_)
  have H:=y.l7;refine Bu [0,1,2,3,4,5] [1,0] J (λ_ hx=>(AO (hx.blk 0 Z) AM)) (by exact H.pick 7 [0,1] Z) Z J Z Z (BJ 6 J Z Z J J J Z Z Z (BU Z Z (vs:=[I (x.gen+1),I (x.epoch+1),I x.pages,I x.start,I x.len,I 0,I 1]) J (λ_ hx=>(hx.blk 1 Z).part 0 7 _ Z)) (H.pick 7 [0,1] Z) (AE [7] J O (Am (Bo Z Z Z Z Z Z (λw=>call98 _ w) (Qm (Dr x) (by show (Dr x).Ok ((hwD D _).n:Int);rw[E9];exact a4)) H.f3 Z ?_))));rintro _ w _ ⟨pl,rfl,rfl⟩ H;refine Ar (λ_=>(H.pick 8 [2,3] Z)) (Bu [8,9] [9] J (λ_ _=>AM) (by exact H.pick 8 [2,3] Z) Z J Z Z (AE [10] J O (Am (Bi Z Z Z (AdH 2 H Z Z Z Z Z Z J) ?_))));rintro w H;refine Ar (λh=>absurd Z h) (Bj J (gn (Zc 9 Z (Zr Z ?_))));exact ⟨_,⟨b2,pl,_,s,_,_,a,a3,hO.opened a3 d2 a4 e6,(((b8.hw _).fl).sv _),by show (hwD _ _).n=_;exact E9 _ _,HO (λ_=>rfl) _,Z,Z⟩,H.perm 8 [2,0,4,1,5,6] Z Z⟩
 exact absurd e5 b8.setF
theorem Y2(n k:Nat):wr1 (EV (Ct n) k) false ((2:Int)+(k:Int)).toNat (List.replicate 256 0)=EV (Ct n) (k+1):=by
 rw[show ((2:Int)+(k:Int)).toNat=2+k from by omega];rfl
theorem AbF(h:(CA p s t 2).Ok (n:Int)):(CA p s t 1).Ok (n:Int):=by
 have b:=h.2;have hs:=Sup.get h;have a:(CA p s t 2).pages=p/\(CA p s t 2).start=s/\(CA p s t 2).len=t/\(CA p s t 2).head=0:=⟨Z,Z,Z,Z⟩;exact Sup.ok_mk (by show 0<=(1:Int)/\(1:Int)<=1099511627776;omega) (by show 0<=(1:Int)/\(1:Int)<=1099511627776;omega) (by show 16<=p/\p<=1024;omega) (by show 2+p<=s/\s<=1099511627776;omega) (by show 64<=t/\t<=1099511627776;omega) (by show 0<=(0:Int)/\(0:Int)<t;omega) (by show 0<=(1:Int)/\(1:Int)<=1099511627776;omega) (by show s<=n-t/\t<=n;omega)
theorem AdQ(h:(CA p s t 2).Ok (n:Int)):(16<=p/\p<=1024)/\2+p<=s/\s+t<=n/\0<=t:=by
 have b:=h.2;have a:(CA p s t 2).pages=p/\(CA p s t 2).start=s/\(CA p s t 2).len=t/\(CA p s t 2).head=0:=⟨Z,Z,Z,Z⟩;omega
set_option maxHeartbeats 2000000 in
theorem VU (n:Nat) (c:(CA p s t 2).Ok (n:Int)):Cn prog 51 [Y m,I p,I s,I t] [diskA m (Ct n)] (λv Γ=>v=I 0/\Γ=[diskA m (MJ n p s t)]):=by
 intro z R w a;have H:Sep z (diskA m (Ct n)::R) w:=a;clear a;have b:(CA p s t 1).Ok (n:Int):=AbF c;have a2:(16<=p/\p<=1024)/\2+p<=s/\s+t<=n/\0<=t:=AdQ c;have l:=H.sy 0 (λq=>(diskA.ok q).n2);refine enter func51 Z 57 ntmps51 Z (AY (AI (BZ 1 Z Z (AQ (AY (AY (AI (BZ 1 Z Z (s_do Z Z Z (Nu Z J Z Z) (AQ (EA Z (DG (AY ?_)))))))))))));refine AI (BZ 3 Z Z (s_do Z Z Z (Bc Z Z (out:=[I 1,I 1,I p,I s,I t,I 0,I 1]) J) (E3 Z Z Z (Cb (P:=prog) H Z (zs:=[I 0,I 0,I 0,I 0,I 0,I 0,I 0]) J) ?_)));rintro _ w ⟨y,rfl,a⟩;have H:=a.l2;refine F0 Z Z (Ak 0 H Z Z Z Z (vs:=[I 1,I 1,I p,I s,I t,I 0,I 1]) Z (by simp[u8,u32,Value.oneCell']) J O (out:=[I 1,I 1,I p,I s,I t,I 0,I 1]) Z) ?_;rintro w a;have H:=a.l2;refine AQ (AY (AY (Bv (Sep z _) J J H.drew (AL Z Z Z (BU Z Z (vs:=[I 1,I 1,I p,I s,I t,I 0,I 1]) J (λ_ hx=>(hx.blk 0 Z).part 0 7 _ Z)) (B0 1 [] Z J (Dm Z Z Z Z Z (λw=>call90 _ w) (v:=I ((Ct n).n:Int)) (cq (HM) (by rintro _ _ ⟨rfl,rfl⟩;exact ⟨Z,Z⟩) 2 [1,0] [1,0] Z Z Z Z) (Dm Z Z Z Z Z (λw=>call89 _ w) (v:=I (if (Sup.mk 1 1 p s t 0 1).Ok ((Ct n).n:Int) then 0 else 1)) (cq (HJ (Sup.mk 1 1 p s t 0 1) U) (by rintro _ _ ⟨rfl,rfl⟩;exact ⟨Z,Z⟩) 0 [] [] Z Z Z Z) (B0 1 [] Z J (BI (λw a=>?_))))))))));have H:=a.l2;refine Gq Z (λo=>?_) (λo=>?_)
 ·exact (o (if_pos b)).elim
 refine DG (AY (AY (AI (BZ 2 Z Z (AQ (FK ?_))))));refine Sl (σ:=Nat) (λk=>[(27,I (k:Int)),(0,Y m),(9,Y y),(26,I p)])
   (λk w=>Sep z (blk y [I 1,I 1,I p,I s,I t,I 0,I 1] 132::diskA m (EV (Ct n) k)::R) w/\(k<=p.toNat)) (λk=>p.toNat-k) 0
   fr_z ⟨H,by omega⟩ ?_
 clear H;rintro k w ⟨a,x⟩;have H:=a.l2;have a1:=x;clear x;refine AY (AI (BZ 1 Z Z (AQ (AY (Gq Z (λh2=>?_) (λh2=>?_))))))
 ·refine DG (AY (FK (AY (AI (BZ 2 Z Z (AQ (AY (AI (BZ 2 Z Z (s_do Z Z Z (C3 Z Z Z (r:=(2:Int)+(k:Int)) U U) (E3 Z Z Z (Em (k:=256) H Z J (Elt.mk (P:=prog) (e:=5) (z:=u8 0) (sz:=1) (by_:=1) J Z U U) Z Z Z U) ?_)))))))))));rintro _ w ⟨b2,rfl,a⟩;have H:=a.l3;refine Fu Z Z Z Z Z (λw=>call91 _ w) (Kb (List.replicate 256 0) O (λh q=>by rw[Ahf];exact q.rd U U O Z) (λi=>by have:=TG n i k;omega) (by rw[Oy];show 0<=(2:Int)+(k:Int)/\(2:Int)+(k:Int)+1<=(n:Int);omega)) H.f2 Z ?_;rintro _ w _ (⟨g,rfl,rfl⟩|⟨_,rfl,rfl⟩) a
  ·exact absurd g (FT (FB n) k).bad
  have H:=a.l3;refine BZ 1 Z Z (AQ (AY (AI (BZ 2 Z Z (AD 36 (u:=.bool (decide ((0:Int)≠0))) (v:=.bool false) Z (congrArg Value.bool (by decide)) (AQ (EA Z (DG (AI (s_do Z Z Z (C3 Z Z Z (r:=(k:Int)+1) U U) (BZ 1 Z Z (AQ ?_))))))))))));replace H:=H.f1.d.f1;intro _ hF;refine ⟨(k+1),hF.cz,⟨(by rw[<-Y2];exact H),?_⟩,?_⟩
  ·omega
  omega
 obtain rfl:k=p.toNat:=by omega
 refine Si (IG (AY (AY (AI (BZ 1 Z Z (Fu Z Z Z Z Z (λw=>call92 _ w) (HL) H.f1 Z ?_))))));rintro _ w _ (⟨j,rfl,rfl⟩|⟨_,rfl,rfl⟩) a
 ·exact absurd j (FT (FB n) p.toNat).flb
 have H:=a.l2;refine BZ 1 Z Z (AQ (AY (AI (BZ 2 Z Z (AD 42 (u:=.bool (decide ((0:Int)≠0))) (v:=.bool false) Z (congrArg Value.bool (by decide)) (AQ (EA Z (DG (AY (AI (Fu Z Z Z Z Z (λw=>call93 _ w) (Oj) H Z ?_)))))))))));rintro _ w _ ⟨pt,rfl,rfl⟩ a;have H:=a.l3;refine BZ 1 Z Z (AQ (AY (AY (AI (BZ 2 Z Z (s_do Z Z Z (BU Z Z (vs:=[I 1,I 1,I p,I s,I t,I 0,I 1]) J (Ay ((H.blk 2 Z).part 0 7 _ Z))) (Fu Z Z Z Z Z (λw=>call94 _ w) (Or (CA p s t 1) (by show (CA p s t 1).Ok ((EV (Ct n) p.toNat).n:Int);rw[Oy];exact b) (λi=>by show ([]:List (List UInt8)).length<=_;simp)) H.f1 Z ?_)))))));rintro _ w _ (⟨f,rfl,rfl⟩|⟨_,rfl,rfl⟩) a
 ·exact absurd f ((FT (FB n) p.toNat).fl).bad
 have H:=a.l3;refine BZ 1 Z Z (AQ (AY (AI (BZ 2 Z Z (AD 50 (u:=.bool (decide ((0:Int)≠0))) (v:=.bool false) Z (congrArg Value.bool (by decide)) (AQ (EA Z (DG (AY (AI (Mr 1 [0] Z J (F0 Z Z (Ak 2 H Z Z Z Z (vs:=[I 2]) Z (by simp[u8,u32,Value.oneCell']) J O (out:=[I 2,I 1,I p,I s,I t,I 0,I 1]) Z) ?_))))))))))));rintro w a;have H:=a.l3;refine AQ (AY (AI (BZ 2 Z Z (s_do Z Z Z (BU Z Z (vs:=[I 2,I 1,I p,I s,I t,I 0,I 1]) J (Ay ((H.blk 2 Z).part 0 7 _ Z))) (Fu Z Z Z Z Z (λw=>call94 _ w) (Or (CA p s t 2) (by show (CA p s t 2).Ok ((EV (Ct n) p.toNat).n:Int);rw[Oy];exact c) (λi=>by rw[HO (λ_=>rfl)];simp)) H Z ?_)))));rintro _ w _ (⟨f,rfl,rfl⟩|⟨_,rfl,rfl⟩) a
 ·exact absurd f (((FT (FB n) p.toNat).fl.sv _)).bad
 have H:=a.l3;refine BZ 1 Z Z (AQ (D7 (Fq Z [I 0] ⟨Z,trivial⟩ (v:=I 0) Z ?_)));exact ⟨[diskA m (Fi (Fi ((EV (Ct n) p.toNat).fl) (CA p s t 1)) (CA p s t 2))],⟨Z,Z⟩,H.perm 3 [0] Z Z⟩
theorem Y3(ps pd b md:Nat)(x:Sup)(D:Dsk):Cn prog 61 [Y ps] [stB ps pd b x u md false y,diskA pd D] (λv Γ=>(D.flb/\v=I 12/\Γ=[stB ps pd b x u md false y,diskA pd {D with f3:=Bf D.f3}])\/(¬D.flb/\v=I 0/\Γ=[stB ps pd b x u md false y,diskA pd D.fl])):=by
 intro z R w c;have H:Sep z (stB ps pd b x u md false y::diskA pd D::R) w:=c;clear c;refine enter func61 Z 12 ntmps61 Z (AY (AI (BZ 1 Z Z (AQ (AY (AY (AI (Gj 4 [11,0] (AO (H.blk 0 Z) AM) Z J Z (AQ (EA Z (DG (AY (AI ?_)))))))))))));refine Gj 4 [0,0] (AO (H.blk 0 Z) AM) Z J Z (Fu Z Z Z Z Z (λw=>call92 _ w) (HL) H.f1 Z ?_);rintro _ w _ (⟨a,rfl,rfl⟩|⟨a,rfl,rfl⟩) c
 ·have H:=c.l2;refine BZ 1 Z Z (AQ (D7 (Fq Z [I 12] ⟨Z,trivial⟩ (v:=I 12) Z ?_)));exact ⟨[stB ps pd b x u md false y,diskA pd ({D with f3:=Bf D.f3})],.inl ⟨a,Z,Z⟩,H.perm 2 [1,0] Z Z⟩
 have H:=c.l2;refine BZ 1 Z Z (AQ (D7 (Fq Z [I 0] ⟨Z,trivial⟩ (v:=I 0) Z ?_)));exact ⟨[stB ps pd b x u md false y,diskA pd D.fl],.inr ⟨a,Z,Z⟩,H.perm 2 [1,0] Z Z⟩
set_option maxHeartbeats 2000000 in
theorem RT (ps pd d f md:Nat) (x j:Sup) (k:Bool) (hq:Hp) (D:Dsk) (B:Nat->Pg) (rs:List Rc) (ptl:List (List UInt8)) (a q u:Int) (b:Bool) (sure:Nat) (hS:SInv D x B rs ptl a q u b sure) (hL:j.start=x.start/\j.len=x.len/\j.epoch=x.epoch) (a7:q<=1099511627776) (t:∀i,(D.ver i).length<=1000000000000):Cn prog 37 [Y ps] [stB ps pd d x (Y f) md false y,lgB f pd d j a q u b k,tblA d,diskA pd D,pgsA md (ov rs) hq,poolA hq] (λv Γ=>((∀n,ov rs n=none)/\b=false/\u<x.len/\v=I 0/\Γ=[stB ps pd d x (Y f) md false y,lgB f pd d j a q u b k,tblA d,diskA pd D,pgsA md (ov rs) hq,poolA hq])\/(∃g:Dsk,¬((∀n,ov rs n=none)/\b=false/\u<x.len)/\SInv g (Ee x a q) (pgMap (ov rs) B) [] [] a q 0 false 0/\(Clean D->Clean g)/\g.n=D.n/\(∀i,g.ver i=[])/\v=I 0/\Γ=[stB ps pd d (Ee x a q) (Y f) md false y,lgB f pd d j a q 0 false k,tblA d,diskA pd g,pgsA md Dp hq,poolA hq])\/(∃(c:Int) (g:Dsk) (e:Nat),c≠0/\(¬Clean D\/1099511627776<x.gen+1)/\(SInv g x B rs ptl a q u b e/\sure<=e)/\g.n=D.n/\(∀i,(g.ver i).length<=(D.ver i).length+1)/\v=I c/\Γ=[stB ps pd d x (Y f) md false y,lgB f pd d j a q u b k,tblA d,diskA pd g,pgsA md (ov rs) hq,poolA hq])):=by
 intro z R w o;have H:Sep z (stB ps pd d x (Y f) md false y::lgB f pd d j a q u b k::tblA d::diskA pd D::pgsA md (ov rs) hq::poolA hq::R) w:=o;clear o;refine enter func37 Z 9 ntmps37 Z (AY (AI (BZ 1 Z Z (AQ (AY (AY (AI (Gj 4 [11,0] (AO (H.blk 0 Z) AM) Z J Z (AQ (EA Z (DG (AY (AI ?_)))))))))))));refine BZ 1 Z Z (Fu Z Z Z Z Z (λw=>call76 _ w) (I0 hS hL U t) H Z ?_);rintro _ w _ (⟨a4,a5,r,rfl,rfl⟩|⟨g,a2,l,s,h,a6,rfl,rfl⟩|⟨m,g,e,a0,a1,⟨l,p⟩,h,a3,rfl,rfl⟩) o
 ·have H:=o.l6;refine BZ 1 Z Z (AQ (D7 (Fq Z [I 0] ⟨Z,trivial⟩ (v:=I 0) Z ?_)));exact ⟨[stB ps pd d x (Y f) md false y,lgB f pd d j a q u b k,tblA d,diskA pd D,pgsA md (ov rs) hq,poolA hq],.inl ⟨a4,a5,r,Z,Z⟩,H⟩
 ·have H:=o.l6;refine BZ 1 Z Z (AQ (D7 (Fq Z [I 0] ⟨Z,trivial⟩ (v:=I 0) Z ?_)));exact ⟨[stB ps pd d (Ee x a q) (Y f) md false y,lgB f pd d j a q 0 false k,tblA d,diskA pd g,pgsA md Dp hq,poolA hq],.inr (.inl ⟨g,a2,l,s,h,a6,Z,Z⟩),H⟩
 have H:=o.l6;refine BZ 1 Z Z (AQ (D7 (Fq Z [I m] ⟨Z,trivial⟩ (v:=I m) Z ?_)));exact ⟨[stB ps pd d x (Y f) md false y,lgB f pd d j a q u b k,tblA d,diskA pd g,pgsA md (ov rs) hq,poolA hq],.inr (.inr ⟨m,g,e,a0,a1,⟨l,p⟩,h,a3,Z,Z⟩),H⟩
section
structure StG where
 x:Sup
 B:Nat->Pg
 rs:List Rc
 ptl:List (List UInt8)
 a:Int
 q:Int
 u:Int
 b:Bool
 sure:Nat
def StG.M(G:StG):Nat->Pg:=pgMap (ov G.rs) G.B
def StG.home(G:StG):Prop:=∀n,ov G.rs n=none
structure StX where
 pl:Nat
 pt:Nat
 md:Nat
 mm:Nat
 sL:Sup
 nu:Bool
 hq:Hp
abbrev Hb:=Option (BD×Nat)
def AbG(mm:Nat):Hb->Value
 | none=>.map none
 | some _=>.map (some mm)
def AdR(mm:Nat)(hq:Hp):Hb->List Ai
 | none=>[]
 | some o=>[Eu mm o.1 o.2 hq]
abbrev AbH(ps pd pt md:Nat)(x:Sup)(lp:Value)(un:Bool)(mo:Value):Ai:=blk ps [.pointer (some ⟨pd,0,none⟩),.pointer (some ⟨pt,0,none⟩),.int .i64 x.gen,.int .i64 x.epoch,.int .i64 x.pages,.int .i64 x.start,.int .i64 x.len,.int .i64 x.head,.int .i64 x.seq,lp,.map (some md),.bool un,mo] 136
abbrev AbI(pl pd pt:Nat)(sL:Sup)(a q u:Int)(b nu:Bool):Ai:=blk pl [.pointer (some ⟨pd,0,none⟩),.pointer (some ⟨pt,0,none⟩),.int .i64 sL.gen,.int .i64 sL.epoch,.int .i64 sL.pages,.int .i64 sL.start,.int .i64 sL.len,.int .i64 sL.head,.int .i64 sL.seq,.int .i64 a,.int .i64 q,.int .i64 u,.bool b,.bool nu] 244
def RU(ps pd:Nat)(D:Dsk)(G:StG)(own:Hb)(X:StX):List Ai:=
 [AbH ps pd X.pt X.md G.x (.pointer (some ⟨X.pl,0,none⟩)) own.isSome (AbG X.mm own),AbI X.pl pd X.pt X.sL G.a G.q G.u G.b X.nu,tblA X.pt,diskA pd D,pgsA X.md (ov G.rs) X.hq,poolA X.hq]++AdR X.mm X.hq own
structure StP(D:Dsk)(G:StG)(own:Hb)(X:StX):Prop where
 inv:SInv D G.x G.B G.rs G.ptl G.a G.q G.u G.b G.sure
 l:X.sL.start=G.x.start/\X.sL.len=G.x.len/\X.sL.epoch=G.x.epoch
 ok:X.sL.Ok (D.n:Int)
 nu:X.nu=decide (X.sL.epoch<4294967296)
 own:∀o,own=some o->o.2<=40/\∀n,(o.1 n).isSome=true->(n:Int)<G.x.pages
def stoA(ps pd:Nat)(D:Dsk)(G:StG)(own:Hb):Ai:=λh=>∃X,StP D G own X/\seps (RU ps pd D G own X) h
structure Fine(D:Dsk)(G:StG)(m:Nat):Prop where
 clean:Clean D
 b:G.b=false
 ver:∀i,(D.ver i).length<=m
 gen:G.x.gen<=m
 epoch:G.x.epoch<=m
 q:G.q<=m
theorem Fine.le{D:Dsk}{G:StG}(h:Fine D G m)(e:m<=n):Fine D G n:=
 ⟨h.clean,h.b,λi=>Agr (h.ver i) e,by have:=h.gen;omega,by have:=h.epoch;omega,by have:=h.q;omega⟩
variable{z w:World}{Γ:List Ai}{ps pd:Nat}{D:Dsk}{G:StG}{own:Hb}
theorem Sep.sto(H:Sep z (stoA ps pd D G own::Γ) w):∃X,StP D G own X/\Sep z (RU ps pd D G own X++Γ) w:=
 H.into (p:=λX=>StP D G own X) (As:=λX=>RU ps pd D G own X) (λ_ q=>q)
theorem Sep.toSto{X:StX}(n:Nat)(H:Sep z Γ w)(b:StP D G own X)(a:Γ.take n=RU ps pd D G own X):Sep z (stoA ps pd D G own::Γ.drop n) w:=
 H.made n (λh q=>⟨X,b,by rwa[a] at q⟩)
def Ej(M:Nat->Pg):Hb->Nat->Pg
 | none,n=>M n
 | some o,n=>(o.1 n).getD (M n)
def Qy(x:Sup)(B:Nat->Pg):StG:=⟨Dr x,B,[],[],0,1,0,false,0⟩
theorem TI{pd:Nat}{D:Dsk}{x:Sup}{B:Nat->Pg}{Gd:List Rc->Prop}(f:OInv D x B Gd)(c:Clean D)(t:x.gen<=m/\x.epoch<=m)(s:m<=1000000000):
  Cn prog 52 [Y pd] [diskA pd D] (λv Γ=>∃(ps:Nat) (b:Dsk) (a:List Rc),Gd a/\Fine b (Qy x (pgMap (ov a) B)) (m+1)/\b.n=D.n/\v=.tuple #[Y ps,I 0]/\Γ=[stoA ps pd b (Qy x (pgMap (ov a) B)) none]):=by
 intro z R w H;refine Ret.mono (sopen_c pd D x B Gd f c U U z R w H) ?_;rintro v r ⟨Γ',⟨ps,l,g,md,hq,b,a,h,d,p,q,j,rfl,rfl⟩,k⟩;refine ⟨_,⟨ps,b,a,h,⟨p,Z,λi=>by rw[j];simp,?_,?_,?_⟩,q,Z,Z⟩,k.toSto (X:=⟨l,g,md,0,Dr x,decide ((Dr x).epoch<4294967296),hq⟩) 6 ⟨d,⟨Z,Z,Z⟩,d.ok,Z,λo e=>(by cases e)⟩ Z⟩
 ·show x.gen+1<=_;omega
 ·show x.epoch+1<=_;omega
 show (1:Int)<=_;omega
theorem Qz{ps pd:Nat}{D:Dsk}{G:StG}:Cn prog 53 [Y ps] [stoA ps pd D G none] (λv Γ=>v=I 0/\Γ=[stoA ps pd D G (some (Dp,0))]):=by
 intro z R w H;obtain ⟨X,a,H⟩:=H.sto;refine Ret.mono (Cn.at (YW ps pd X.pt X.md G.x) H 6 [0,1,2,3,4,5] Z Z) ?_;rintro v c ⟨Γ',⟨rfl,m,rfl⟩,b⟩;have H2:=b.mono 1 (B:=Eu m Dp 0 X.hq) Z (λh q=>⟨[],0,PgsIn.none _ _,Z,q⟩);have H3:=H2.pick 7 [0,2,3,4,5,6,1] Z;exact ⟨_,⟨Z,Z⟩,H3.toSto (X:=⟨X.pl,X.pt,X.md,m,X.sL,X.nu,X.hq⟩) 7 ⟨a.inv,a.l,a.ok,a.nu,λo e=>by cases e;exact ⟨by omega,λn h=>(by cases h)⟩⟩ Z⟩
theorem Y4{ps pd:Nat}{D:Dsk}{G:StG}{own:Hb}:Cn prog 106 [Y ps] [stoA ps pd D G own] (λv Γ=>v=.tuple #[]/\Γ=[stoA ps pd D G none]):=by
 intro z R w H;obtain ⟨X,c,H⟩:=H.sto;have H2:Sep z (AbH ps pd X.pt X.md G.x (.pointer (some ⟨X.pl,0,none⟩)) own.isSome (AbG X.mm own)::AbI X.pl pd X.pt X.sL G.a G.q G.u G.b X.nu::tblA X.pt::diskA pd D::pgsA X.md (ov G.rs) X.hq::poolA X.hq::R) w:=by
  cases own with
  | none=>exact H
  | some o=>exact H.pick 7 [0,1,2,3,4,5] Z
 refine Ret.mono (Cn.at (YV ps pd X.pt X.md G.x) H2 6 [0,1,2,3,4,5] Z Z) ?_;rintro v f ⟨Γ',⟨rfl,rfl⟩,d⟩;exact ⟨_,⟨Z,Z⟩,d.toSto (X:=X) 6 ⟨c.inv,c.l,c.ok,c.nu,λo e=>(by cases e)⟩ Z⟩
theorem Y5{ps pd:Nat}{D:Dsk}{G:StG}{own:Hb}:Cn prog 109 [Y ps] [stoA ps pd D G own] (λv Γ=>v=.agg #[I G.x.gen,I G.x.epoch,I G.x.pages,I G.x.start,I G.x.len,I G.x.head,I G.x.seq]/\Γ=[stoA ps pd D G own]):=by
 intro z R w H;obtain ⟨X,b,H⟩:=H.sto
 cases own with
 | none=>
  refine Ret.mono (Cn.at (Qw ps pd X.pt X.md G.x) H 6 [0,1,2,3,4,5] Z Z) ?_;rintro v c ⟨Γ',⟨rfl,rfl⟩,a⟩;exact ⟨_,⟨Z,Z⟩,a.toSto (X:=X) 6 b Z⟩
 | some o=>
  refine Ret.mono (Cn.at (Qw ps pd X.pt X.md G.x) H 7 [0,1,2,3,4,5,6] Z Z) ?_;rintro v c ⟨Γ',⟨rfl,rfl⟩,a⟩;exact ⟨_,⟨Z,Z⟩,a.toSto (X:=X) 7 b Z⟩
theorem Gv{ps pd:Nat}{D:Dsk}{G:StG}{g:BD}(n:Nat)(t:(n:Int)<G.x.pages)(p:Pg)(hp:p.Ok)(y:∀h,A h->rdH 1 u 240 (p.body.map u8) h):
  Cn prog 55 [Y ps,I (n:Int),.agg #[I p.kind,u]] [stoA ps pd D G (some (g,m)),A] (λv Γ=>((g n=none/\40<=m)/\v=I 16/\Γ=[stoA ps pd D G (some (g,m)),A])\/(¬(g n=none/\40<=m)/\v=I 0/\Γ=[stoA ps pd D G (some (pgSet g n p,m+(if (g n).isSome then 0 else 1))),A])):=by
 intro z R w H;obtain ⟨X,b,H⟩:=H.sto;obtain ⟨f,r⟩:=b.own _ Z;refine Ret.mono (Cn.at (VO ps pd X.pt X.md X.mm G.x g m X.hq n t p hp u A y) H 8 [0,6,5,7,1,2,3,4] Z Z) ?_;rintro v w' ⟨Γ',(⟨d,rfl,rfl⟩|⟨d,c,hs,rfl,rfl⟩),s⟩
 ·have H3:=s.pick 8 [0,4,5,6,7,2,1,3] Z
  exact ⟨_,.inl ⟨d,Z,Z⟩,H3.toSto (X:=X) (ps:=ps) (pd:=pd) (D:=D) (G:=G) (own:=some (g,m)) 7 b Z⟩
 have H3:=(s.pick 8 [0,4,5,6,7,2,1,3] Z).mono 4 (B:=pgsA X.md (ov G.rs) c) Z (λh q=>pgsA.le hs h q);refine ⟨_,.inr ⟨d,Z,Z⟩,H3.toSto (X:=⟨X.pl,X.pt,X.md,X.mm,X.sL,X.nu,c⟩) (ps:=ps) (pd:=pd) (D:=D) (G:=G) (own:=some (pgSet g n p,m+(if (g n).isSome then 0 else 1))) 7 ⟨b.inv,b.l,b.ok,b.nu,λo e=>?_⟩ Z⟩;cases e;refine ⟨?_,λi hi=>?_⟩
 ·show m+(if (g n).isSome then 0 else 1)<=40
  split
  ·exact f
  rename_i j;have k:g n=none:=by simpa using j
  have:¬40<=m:=λe=>d ⟨k,e⟩;omega
 have a:(pgSet g n p i).isSome=true:=hi;unfold pgSet at a;split at a
 ·rename_i e;subst e;exact t
 exact r i a
theorem K7(ps pd:Nat)(D:Dsk)(G:StG)(own:Hb)(n:Nat)(g:(n:Int)<G.x.pages)(f:D.f1=0)(q:Pg)(hq:q=Ej G.M own n):
  Cn prog 85 [Y ps,I (n:Int)] [stoA ps pd D G own] (λv Γ=>(q=noPg/\v=.tuple #[.agg #[I 0,.slice none 0 0],I 0]/\Γ=[stoA ps pd D G own])\/(q.Ok/\∃c,v=.tuple #[.agg #[I q.kind,c],I 0]/\Γ=[grow 5 1 c 240 (q.body.map u8),stoA ps pd D G own])):=by
 intro z R w H;obtain ⟨X,b,H⟩:=H.sto
 cases own with
 | none=>
  refine Ret.mono (Cn.at (VL ps pd X.pt X.md G.x (ov G.rs) X.hq D n g f b.inv.ok q (G.B n) hq (λe=>b.inv.cur g e)) H 6 [0,2,3,4,5,1] Z Z) ?_;rintro v h ⟨Γ',(⟨a,rfl,rfl⟩|⟨a,c,rfl,rfl⟩),d⟩
  ·have H3:=d.pick 6 [0,5,1,2,3,4] Z
   exact ⟨_,.inl ⟨a,Z,Z⟩,H3.toSto (X:=X) (ps:=ps) (pd:=pd) (D:=D) (G:=G) (own:=none) 6 b Z⟩
  have H3:=d.pick 7 [1,6,2,3,4,5,0] Z;have H4:=H3.toSto (X:=X) (ps:=ps) (pd:=pd) (D:=D) (G:=G) (own:=none) 6 b Z;exact ⟨_,.inr ⟨a,c,Z,Z⟩,H4.pick 2 [1,0] Z⟩
 | some o=>
  refine Ret.mono (Cn.at (VN ps pd X.pt X.md X.mm G.x (ov G.rs) o.1 o.2 X.hq D n g f b.inv.ok q (G.B n) (by rw[hq];show (o.1 n).getD ((ov G.rs n).getD (G.B n))=_;cases o.1 n<;>rfl) (λe=>b.inv.cur g (by cases a:o.1 n with|none=>rw[a] at e;exact e|some y=>rw[a] at e;cases e))) H 7 [0,2,3,4,6,5,1] Z Z) ?_;rintro v h ⟨Γ',(⟨a,rfl,rfl⟩|⟨a,c,rfl,rfl⟩),d⟩
  ·have H3:=d.pick 7 [0,6,1,2,3,5,4] Z
   exact ⟨_,.inl ⟨a,Z,Z⟩,H3.toSto (X:=X) (ps:=ps) (pd:=pd) (D:=D) (G:=G) (own:=some o) 7 b Z⟩
  have H3:=d.pick 8 [1,7,2,3,4,6,5,0] Z;have H4:=H3.toSto (X:=X) (ps:=ps) (pd:=pd) (D:=D) (G:=G) (own:=some o) 7 b Z;exact ⟨_,.inr ⟨a,c,Z,Z⟩,H4.pick 2 [1,0] Z⟩
theorem OB{ps pd:Nat}{D:Dsk}{G:StG}{g:BD}(m:Nat)(h:Fine D G m)(hm:m<=1000000000):
  Cn prog 60 [Y ps] [stoA ps pd D G (some (g,j))] (λv Γ=>∃(s:Dsk) (r:StG),Fine s r (m+2)/\s.n=D.n/\(r.M=Ej G.M (some (g,j))/\∀n,(g n).isSome=true->(ov r.rs n).isSome=true)/\(r.x=G.x\/r.x=Ee G.x G.a G.q)/\v=I 0/\Γ=[stoA ps pd s r none]):=by
 intro z R w H;obtain ⟨X,d,H⟩:=H.sto;obtain ⟨a6,a5⟩:=d.own _ Z;have h1:=h.gen;have h2:=h.epoch;have h3:=h.q;have hL:=d.l;have hc:=Ni G.x G.a G.q;refine Ret.mono (Cn.at (VR ps pd X.pt X.pl X.md X.mm G.x X.sL X.nu X.hq g j D G.B G.rs G.ptl G.a G.q G.u G.b G.sure d.inv d.l d.ok d.nu U (λi=>by have:=h.ver i;omega) a5 a6) H 7 [0,1,2,3,4,6,5] Z Z) ?_;rintro v w' ⟨Γ',(⟨h4,rfl,rfl⟩|⟨h4,a0,s,x2,B2,k,a2,u2,f,hs,a3,⟨a4,t⟩,a1,y,p,rfl,rfl⟩|⟨_,c,a0,s,x2,B2,k,a7,a2,q2,u2,b2,f,a8,hw,_⟩),H'⟩
 ·subst h4
  have hg:∀n,g n=none:=H.sy 6 (λq=>by obtain ⟨es,clk,h1,h2,_⟩:=q;exact h1.nil_iff.1 h2);exact ⟨_,⟨D,G,h.le U,Z,⟨by funext n;show _=(g n).getD _;rw[hg];rfl,λn hn=>by rw[hg] at hn;cases hn⟩,.inl Z,Z,Z⟩,H'.toSto (X:=X) 6 ⟨d.inv,d.l,d.ok,d.nu,λo e=>(by cases e)⟩ Z⟩
 ·have a9:x2.start=G.x.start/\x2.len=G.x.len/\x2.epoch=G.x.epoch/\x2.gen<=G.x.gen+1/\G.x.gen<=x2.gen:=by
   rcases a1 with rfl|rfl
   ·exact ⟨Z,Z,Z,by omega,by omega⟩
   exact ⟨Z,Z,Z,by omega,by omega⟩
  refine ⟨_,⟨s,⟨x2,B2,k,[],a2,G.q+1,u2,false,f⟩,⟨y h.clean,Z,λi=>by have:=p.2 i;have:=h.ver i;omega,by show x2.gen<=_;omega,by show x2.epoch<=_;omega,by show G.q+1<=_;omega⟩,p.1,⟨?_,t⟩,a1,Z,Z⟩,H'.toSto (X:=⟨X.pl,X.pt,X.md,X.mm,X.sL,X.nu,a0⟩) 6 ⟨a3,by show X.sL.start=x2.start/\X.sL.len=x2.len/\X.sL.epoch=x2.epoch;omega,by rw[p.1];exact d.ok,d.nu,λo e=>(by cases e)⟩ Z⟩;show pgMap (ov k) B2=_;rw[a4,Kc];rfl
 rcases hw with g|g
 ·exact absurd h.clean g
 omega
theorem sync_s{ps pd:Nat}{D:Dsk}{G:StG}(m:Nat)(a:Fine D G m):Cn prog 61 [Y ps] [stoA ps pd D G none] (λv Γ=>v=I 0/\Fine D.fl {G with sure:=G.rs.length} m/\Γ=[stoA ps pd D.fl {G with sure:=G.rs.length} none]):=by
 intro z R w H;obtain ⟨X,c,H⟩:=H.sto;refine Ret.mono (Cn.at (Y3 ps pd X.pt X.md G.x D) H 6 [0,3,1,2,4,5] Z Z) ?_;rintro v g ⟨Γ',(⟨d,_⟩|⟨_,rfl,rfl⟩),f⟩
 ·exact absurd d a.clean.flb
 have H3:=f.pick 6 [0,2,3,1,4,5] Z;exact ⟨_,⟨Z,⟨a.clean.fl,a.b,λi=>AeO _,a.gen,a.epoch,a.q⟩,Z⟩,H3.toSto (X:=X) 6 ⟨c.inv.flush,c.l,c.ok,c.nu,λo e=>(by cases e)⟩ Z⟩
theorem OC{ps pd:Nat}{D:Dsk}{G:StG}(m:Nat)(f:Fine D G m)(hm:m<=1000000000):
  Cn prog 37 [Y ps] [stoA ps pd D G none] (λv Γ=>∃(t:Dsk) (k:StG),Fine t k (m+1)/\t.n=D.n/\k.M=G.M/\k.home/\((G.home/\k.x=G.x)\/(¬G.home/\k.x=Ee G.x G.a G.q))/\v=I 0/\Γ=[stoA ps pd t k none]):=by
 intro z R w H;obtain ⟨X,d,H⟩:=H.sto;have h1:=f.gen;have h2:=f.epoch;have h3:=f.q;have hc:=Ni G.x G.a G.q;refine Ret.mono (Cn.at (RT ps pd X.pt X.pl X.md G.x X.sL X.nu X.hq D G.B G.rs G.ptl G.a G.q G.u G.b G.sure d.inv d.l U (λi=>by have:=f.ver i;omega)) H 6 [0,1,2,3,4,5] Z Z) ?_;rintro v w' ⟨Γ',(⟨hn,hb,hu,rfl,rfl⟩|⟨t,a0,a2,y,a1,a4,rfl,rfl⟩|⟨c,t,a3,a0,hw,_⟩),H'⟩
 ·exact ⟨_,⟨D,G,f.le U,Z,Z,hn,.inl ⟨hn,Z⟩,Z,Z⟩,H'.toSto (X:=X) 6 d Z⟩
 ·refine ⟨_,⟨t,⟨Ee G.x G.a G.q,pgMap (ov G.rs) G.B,[],[],G.a,G.q,0,false,0⟩,⟨y f.clean,Z,λi=>by rw[a4];simp,by show G.x.gen+1<=_;omega,by show G.x.epoch<=_;omega,by show G.q<=_;omega⟩,a1,Z,λ_=>rfl,.inr ⟨λhh=>a0 ⟨hh,f.b,?_⟩,Z⟩,Z,Z⟩,H'.toSto (X:=X) 6 ⟨a2,d.l,by rw[a1];exact d.ok,d.nu,λo e=>(by cases e)⟩ Z⟩
  have hr:=Qx hh (λj r h=>(d.inv.p.recs j r h).2.1.1);have hu:=d.inv.p.fu;have hl:=d.inv.s.head;rw[hr] at hu;have a5:G.u=0:=hu;omega
 rcases hw with g|g
 ·exact absurd f.clean g
 omega
end
abbrev plB(pp ps pc pa n:Nat)(un:Bool):Ai:=blk pp [.pointer (some ⟨ps,0,none⟩),.pointer (some ⟨pc,0,none⟩),.pointer (some ⟨pa,0,none⟩),.int .i64 (n:Int),.bool un] 117
theorem VV(pp ps pd a c m b n:Nat)(D:Dsk)(G:StG):Cn prog 120 [Y pp] [plB pp ps a b n false,stoA ps pd D G none] (λv Γ=>v=I 0/\Γ=[plB pp ps a b n true,stoA ps pd D G (some (Dp,0))]):=by
 intro z R w H;refine Ae func120 Z ntmps120 Z (Z2 12 [0,0,0,0] H Z (z_E_ Z (call53 _) (Qz) H.f1 ?_));intro w H;refine Z4 26 [4,1,0,3,4,1] H Z ?_;intro w H;refine Zr Z ?_;exact ⟨_,⟨Z,Z⟩,H.perm 2 [1,0] Z Z⟩
theorem Y6{C0:Nat->Nat}{l:List IE}{clk:Nat}{a S:Nat->Bool}(W:WasOk C C0 n l clk):Cn prog 168 [Y i] [plB i j e r n true,coB e g n m,Cf g C n,AH m l clk,alB r n F a S] (λv Γ=>v=.tuple #[]/\Γ=[plB i j e r n false,coB e g n m,Cf g C0 n,AH m ([]) clk,alB r n S BX S]):=by
 intro z R w H;refine Ae func168 Z ntmps168 Z (Z4 14 [4,0,1,0,0] H Z ?_);intro w H;refine z_E_ Z (call202 _) (YQ W) H.f3.f3.f3 ?_;intro w H;refine Z2 7 [2,3,0] H Z (z_E_ Z (call203 _) (X9) H.f4 ?_);intro w H;refine Zc 1 Z (Zf Z ?_);exact ⟨_,⟨Z,Z⟩,H.perm 5 [4,1,2,3,0] Z Z⟩
theorem VW(pp ps pd a b m c n:Nat)(D:Dsk)(G:StG)(g:BD)(k:Nat)(C C0:Nat->Nat)(l:List IE)(clk:Nat)(F d S:Nat->Bool)(W:WasOk C C0 n l clk):Cn prog 121 [Y pp] [stoA ps pd D G (some (g,k)),plB pp ps a c n true,coB a b n m,Cf b C n,AH m l clk,alB c n F d S] (λv Γ=>v=.tuple #[]/\Γ=[stoA ps pd D G none,plB pp ps a c n false,coB a b n m,Cf b C0 n,AH m ([]) clk,alB c n S BX S]):=by
 intro z R w H;refine Ae func121 Z ntmps121 Z (Z2 16 [4,1,0,0,0,1,0] H Z (z_E_ Z (call106 _) (Y4) H ?_));intro w H;refine Zc 4 Z (z_E_ Z (call168 _) (Y6 W) H.f5.f5.f5.f5.f5 ?_);intro w H;refine Zc 1 Z (Zf Z ?_);exact ⟨_,⟨Z,Z⟩,H.perm 6 [5,0,1,2,3,4] Z Z⟩
theorem VX(pp ps a b m d n:Nat)(c:Bool)(C:Nat->Nat)(p:Nat)(hp:p<n)(e:16<=n/\n<=1024):Cn prog 138 [Y pp,I (p:Int)] [plB pp ps a d n c,coB a b n m,Cf b C n] (λv Γ=>v=I (C p:Int)/\Γ=[plB pp ps a d n c,coB a b n m,Cf b C n]):=by
 intro z R w H;refine Ae func138 Z ntmps138 Z (Z2 12 [1,0,0] H Z (z_E_ Z (call112 _) (FA U U) H.f2.f2 ?_));intro w H;refine Zc 4 Z (Zr Z ?_);exact ⟨_,⟨Z,Z⟩,H.perm 3 [2,0,1] Z Z⟩
theorem Y7(pp ps b a n:Nat)(c:Bool)(F d S:Nat->Bool):Cn prog 23 [Y pp] [plB pp ps b a n c,alB a n F d S] (λv Γ=>v=I (cnt F 0 1024:Int)/\Γ=[plB pp ps b a n c,alB a n F d S]):=by
 intro z R w H;refine Ae func23 Z ntmps23 Z (Z2 11 [2,0,0] H Z (z_E_ Z (call64 _) (X8) H.f1 ?_));intro w H;refine Zc 4 Z (Zr Z ?_);exact ⟨_,⟨Z,Z⟩,H.perm 2 [1,0] Z Z⟩
theorem VY(pp ps b c n:Nat)(a:Bool):Cn prog 80 [Y pp] [plB pp ps b c n a] (λv Γ=>v=.bool a/\Γ=[plB pp ps b c n a]):=by
 intro z R w H;refine Ae func80 Z ntmps80 Z (Z2 15 [4,0,0] H Z (Zr Z ?_));exact ⟨_,⟨Z,Z⟩,H⟩
theorem VZ(pp ps pd c d m j n:Nat)(D:Dsk)(G:StG)(p:Nat)(x:Pg)(f:x.Ok)(i:Value)(B:Ai)(e:∀h,B h->rdH 1 i 240 (x.body.map u8) h)(g:BD)(k:Nat)(l:¬(g p=none/\40<=k))(hG:G.x.pages=n)(C:Nat->Nat)(hn:16<=n/\n<=1024)(hp:(p=0\/manyN n<p)/\p<n)(t:C p≠0):Cn prog 169 [Y pp,I (p:Int),.agg #[I x.kind,i]] [stoA ps pd D G (some (g,k)),plB pp ps c j n true,coB c d n m,Cf d C n,B] (λv Γ=>v=I 0/\Γ=[stoA ps pd D G (some (pgSet g p x,k+(if (g p).isSome then 0 else 1))),plB pp ps c j n true,coB c d n m,Cf d C n,B]):=by
 intro z R w H;obtain ⟨bo,u,rfl⟩:=H.sy 4 (λq=>(e _ q).slc);refine Ae func169 Z ntmps169 Z (Za 2 [] H Z ?_);intro y w H;refine Z2 23 [4,2,0,1,2,0] H Z (z_E_ Z (call112 _) (FA U U) H.f4.f4 ?_);intro w H;refine Z0 2 [0] Z (Al 21 Z (λo=>U) (λo=>?_));refine Z0 3 [0] Z (Al 24 Z (λr=>?_) (λr=>?_))
 ·refine Z2 5 [3,4,0] H Z (z_E_ Z (call57 _) (Gb U) H ?_);intro w H;refine Z0 6 [0] Z (Af Z (λs=>U) (λs=>?_))
  refine Zc 4 Z (BH 7 J J (AZ H λw b=>?_));have H:=b.l6;refine Mu 7 [0,0,4,0,2,2] [] H Z J (CF (gw (Aq Z (call55 _) (Gv p U _ f e) H.f5.f4 ?_)));rintro _ w _ (⟨a,rfl,rfl⟩|⟨_,rfl,rfl⟩) b
  ·exact absurd a l
  have H:=b.l6;refine Zc 4 Z (Zr Z ?_);exact ⟨_,⟨Z,Z⟩,H.perm 6 [0,5,2,3,1] Z Z⟩
 refine Zc 17 Z (BH 7 J J (AZ H λw b=>?_));have H:=b.l6;refine Mu 7 [0,0,4,0,2,2] [] H Z J (CF (gw (Aq Z (call55 _) (Gv p U _ f e) H.f5.f4 ?_)));rintro _ w _ (⟨a,rfl,rfl⟩|⟨_,rfl,rfl⟩) b
 ·exact absurd a l
 have H:=b.l6;refine Zc 4 Z (Zr Z ?_);exact ⟨_,⟨Z,Z⟩,H.perm 6 [0,5,2,3,1] Z Z⟩
theorem V1(pp ps pd d f m c n:Nat)(D:Dsk)(G:StG)(g:BD)(k:Nat)(C C0:Nat->Nat)(l:List IE)(clk:Nat)(F t S:Nat->Bool)(W:WasOk C C0 n l clk)(hn:16<=n/\n<=1024)(hG:G.x.pages=n)(p:Nat)(x:Pg)(u:x.Ok)(s:Value)(B:Ai)(r:∀h,B h->rdH 1 s 240 (x.body.map u8) h)(hk:¬(g p=none/\40<=k))(hp:p<n)(o:F p=true)(i:∀q,q<p->F q=false)(hC:C p=0)(A:Ai)(y:Hl A):Cn prog 82 [Y pp,.agg #[I x.kind,s]] [stoA ps pd D G (some (g,k)),plB pp ps d c n true,coB d f n m,Cf f C n,AH m l clk,alB c n F t S,A,B] (λv Γ=>∃(e:List IE) (a:Nat),WasOk (updN C p 1) C0 n e a/\v=.tuple #[I (p:Int),I 0]/\Γ=[stoA ps pd D G (some (pgSet g p x,k+(if (g p).isSome then 0 else 1))),plB pp ps d c n true,coB d f n m,Cf f (updN C p 1) n,AH m e a,alB c n (Dw F p) t S,A,B]):=by
 intro z R w H;obtain ⟨bo,bc,rfl⟩:=H.sy 7 (λq=>(r _ q).slc);refine Ae func82 Z ntmps82 Z (Za 2 [] H Z ?_);intro b1 w H;refine Z2 23 [4,2,0,2,2,0] H Z (z_E_ Z (call135 _) (Abg p U U o i y) H.f7.f7 ?_);intro w H;refine Zc 19 Z (BH 7 J J (AZ H λw j=>?_));have H:=j.l9;refine Mu 7 [0,0,4,0,2,2] [] H Z J (CF (gw (Aq Z (call55 _) (Gv p U _ u r) H.f8.f4 ?_)));rintro _ w _ (⟨b,rfl,rfl⟩|⟨_,rfl,rfl⟩) j
 ·exact absurd b hk
 have H:=j.l9;refine Z2 19 [4,1,5,0] H Z (Aq Z (call58 _) (IY C0 p 1 U U U U U W) H.f8.f8.f8 ?_);rintro _ w _ ⟨e,a,W2,rfl,rfl⟩ H;refine Zc 10 Z (Zr Z ?_);exact ⟨_,⟨e,a,W2,Z,Z⟩,H.perm 9 [3,8,0,1,2,5,6,4] Z Z⟩
theorem TJ(pp ps c a n:Nat)(x:Pg)(g:x.Ok)(d:Value)(B:Ai)(f:∀h,B h->rdH 1 d 240 (x.body.map u8) h)(F e S:Nat->Bool)(b:∀q,q<1024->F q=false):Cn prog 82 [Y pp,.agg #[I x.kind,d]] [plB pp ps c a n true,alB a n F e S,B] (λv Γ=>v=.tuple #[I 0,I 20]/\Γ=[plB pp ps c a n true,alB a n F e S,B]):=by
 intro z R w H;obtain ⟨k,i,rfl⟩:=H.sy 2 (λq=>(f _ q).slc);refine Ae func82 Z ntmps82 Z (Za 2 [] H Z ?_);intro j w H;refine Z2 23 [4,1,0,2,1,0] H Z (z_E_ Z (call135 _) (Ya b) H.f2 ?_);intro w H;refine Zc 22 Z (Zr Z ?_);exact ⟨_,⟨Z,Z⟩,H.perm 4 [2,0,3] Z Z⟩
theorem AbJ(pp ps b d m e n:Nat)(C C0:Nat->Nat)(l:List IE)(clk:Nat)(W:WasOk C C0 n l clk)(i:16<=n/\n<=1024)(p:Nat)(hp:manyN n<p/\p<n)(h:1<=C p/\C p<1000):Cn prog 146 [Y pp,I (p:Int)] [plB pp ps b e n true,coB b d n m,Cf d C n,AH m l clk] (λv Γ=>∃(c:List IE) (a:Nat),WasOk (updN C p (C p+1)) C0 n c a/\v=I 0/\Γ=[plB pp ps b e n true,coB b d n m,Cf d (updN C p (C p+1)) n,AH m c a]):=by
 intro z R w H;replace H:=H.l4;refine Ae func146 Z ntmps146 Z (Z2 25 [4,0,0,1,0,0] H Z (z_E_ Z (call112 _) (FA U U) H.f2.f2 ?_));intro w H;replace H:=H.l4;refine Z0 2 [0] Z (Al 19 Z (λf=>U) (λf=>?_));refine Z2 5 [3,2,0] H Z (z_E_ Z (call57 _) (Gb U) H ?_);intro w H;replace H:=H.l4;refine Z0 5 [0] Z (Af Z (λg=>U) (λg=>?_));refine Z2 10 [1,2,0] H Z (Aq Z (call58 _) (IY C0 p (C p+1) U U U U U W) H.f3.f2.f2 ?_);rintro _ w _ ⟨c,a,W2,rfl,rfl⟩ H;replace H:=H.l4;refine Zc 4 Z (Zr Z ?_);exact ⟨_,⟨c,a,W2,Z,Z⟩,H.perm 4 [3,0,1,2] Z Z⟩
theorem V4(pp ps b d m e n:Nat)(C C0:Nat->Nat)(l:List IE)(clk:Nat)(W:WasOk C C0 n l clk)(j:16<=n/\n<=1024)(p:Nat)(hp:manyN n<p/\p<n)(i:2<=C p/\C p<=1000):Cn prog 142 [Y pp,I (p:Int)] [plB pp ps b e n true,coB b d n m,Cf d C n,AH m l clk] (λv Γ=>∃(c:List IE) (a:Nat),WasOk (updN C p (C p-1)) C0 n c a/\v=I 0/\Γ=[plB pp ps b e n true,coB b d n m,Cf d (updN C p (C p-1)) n,AH m c a]):=by
 intro z R w H;replace H:=H.l4;refine Ae func142 Z ntmps142 Z (Z2 25 [4,0,0,1,0,0] H Z (z_E_ Z (call112 _) (FA U U) H.f2.f2 ?_));intro w H;replace H:=H.l4;refine Z0 2 [0] Z (Al 20 Z (λf=>U) (λf=>?_));refine Z2 5 [3,2,0] H Z (z_E_ Z (call57 _) (Gb U) H ?_);intro w H;replace H:=H.l4;refine Z0 5 [0] Z (Af Z (λg=>U) (λg=>?_));refine Z2 11 [1,2,0] H Z (Aq Z (call58 _) (IY C0 p (C p-1) U U U U U W) H.f3.f2.f2 ?_);rintro _ w _ ⟨c,a,W2,rfl,rfl⟩ H;replace H:=H.l4;refine Z2 20 [4,1,3,0] H Z (z_E_ Z (call112 _) (FA U U) H ?_);intro w H;replace H:=H.l4;refine AD 43 (v:=I ((C p-1:Nat):Int)) Z (congrArg I (by simp[updN])) (Z0 3 [0] Z (Af Z (λh=>U) (λh=>?_)));refine Zc 8 Z (Zr Z ?_);exact ⟨_,⟨c,a,W2,Z,Z⟩,H.perm 4 [3,0,1,2] Z Z⟩
theorem Y8(pp ps c e m b n:Nat)(C C0:Nat->Nat)(l:List IE)(clk:Nat)(W:WasOk C C0 n l clk)(o:16<=n/\n<=1024)(p:Nat)(hp:manyN n<p/\p<n)(F f S:Nat->Bool)(k:C p=1)(h:F p=false)(i:f p=false):Cn prog 142 [Y pp,I (p:Int)] [plB pp ps c b n true,coB c e n m,Cf e C n,AH m l clk,alB b n F f S] (λv Γ=>∃(d:List IE) (a:Nat),WasOk (updN C p (0)) C0 n d a/\v=I 0/\Γ=[plB pp ps c b n true,coB c e n m,Cf e (updN C p (0)) n,AH m d a,alB b n F (Gh f p) S]):=by
 intro z R w H;replace H:=H.l5;refine Ae func142 Z ntmps142 Z (Z2 25 [4,0,0,1,0,0] H Z (z_E_ Z (call112 _) (FA U U) H.f2.f2 ?_));intro w H;replace H:=H.l5;refine Z0 2 [0] Z (Al 20 Z (λg=>U) (λg=>?_));refine Z2 5 [3,2,0] H Z (z_E_ Z (call57 _) (Gb U) H ?_);intro w H;replace H:=H.l5;refine Z0 5 [0] Z (Af Z (λj=>U) (λj=>?_));refine Z2 11 [1,2,0] H Z (Aq Z (call58 _) (IY C0 p 0 U U U U U W) H.f3.f2.f2 ?_);rintro _ w _ ⟨d,a,W2,rfl,rfl⟩ H;replace H:=H.l5;refine Z2 20 [4,1,3,0] H Z (z_E_ Z (call112 _) (FA U U) H ?_);intro w H;replace H:=H.l5;refine AD 43 (v:=I 0) Z (congrArg I (by simp[updN])) (Z2 10 [3,2,3,0] H Z (z_E_ Z (call179 _) (X6 U U h i) H.f4 ?_));intro w H;replace H:=H.l5;refine Zc 8 Z (Zr Z ?_);exact ⟨_,⟨d,a,W2,Z,Z⟩,H.perm 5 [4,1,2,3,0] Z Z⟩
def DB(C:Nat->Nat)(n i:Nat):Pg:=⟨2,K5 (Ev C n i)⟩
theorem Fb:(DB C n i).Ok:=⟨⟨by show (1:Int)<=2;omega,by show (2:Int)<=5;omega⟩,YC (Ju _ _ _)⟩
theorem Y9(F:Nat->Bool)(a:Nat)(hi:i<n)(h:F (a+i)=true):1<=cnt F a n:=by
 have e:=HA F a i (n-i);rw[show i+(n-i)=n by omega] at e;obtain ⟨m,b⟩:∃m,n-i=1+m:=⟨n-i-1,by omega⟩;rw[b,HA] at e;have:cnt F (a+i) 1=1:=by simp[cnt,h]
 omega
theorem GR{F G:Nat->Bool}{a:Nat}:∀{n:Nat},(∀i,i<n->F (a+i)=G (a+i))->cnt F a n=cnt G a n
 | 0,_=>rfl
 | n+1,h=>by simp only[cnt];rw[GR (λi hi=>h i U),h n U]
theorem OD{G:Nat->Bool}(hi:i<n)(h:F i=true)(d:G i=false)(hs:∀j,j≠i->F j=G j):cnt G 0 n+1=cnt F 0 n:=by
 have e:=λF=>HA F 0 i (1+(n-i-1));have e2:=λF=>HA F (0+i) 1 (n-i-1);have c:=λF=>(e F).trans (by rw[e2 F]);rw[show i+(1+(n-i-1))=n by omega] at c;have g:cnt F 0 i=cnt G 0 i:=GR (λj f=>hs _ U);have k:cnt F (0+i+1) (n-i-1)=cnt G (0+i+1) (n-i-1):=GR (λj f=>hs _ U);have l:cnt F (0+i) 1=1:=by simp[cnt,h]
 have m:cnt G (0+i) 1=0:=by simp[cnt,d]
 have a:=c F;have b:=c G;omega
structure CmI(n:Nat)(C:Nat->Nat)(zs:List Int)(g0:BD)(k0 j:Nat)(g:BD)(k:Nat):Prop where
 jl:j<=zs.length
 old:∀p,(p=0\/manyN n<p)->g p=g0 p
 rm:k+cnt (λi=>(g (1+i)).isNone) 0 (manyN n)<=k0+manyN n
 set:∀i,i<manyN n->g (1+i)=none\/g (1+i)=some (DB C n i)
 dn:∀j',j'<j->∀i:Nat,zs[j']?=some (i:Int)->g (1+i)=some (DB C n i)
theorem QA(F:Nat->Bool)(a:Nat):∀n,cnt F a n<=n
 | 0=>Aei _
 | n+1=>by
  have:=QA F a n;have:(F (a+n)).toNat<=1:=by cases F (a+n)<;>simp
  simp only[cnt];omega
theorem CmI.start{zs:List Int}{a:BD}(h:∀i,i<manyN n->a (1+i)=none):CmI n C zs a m 0 a m:=
 ⟨AeO _,λ_ _=>rfl,by have:=QA (λi=>(a (1+i)).isNone) 0 (manyN n);omega,λi hi=>.inl (h i hi),λb c=>by omega⟩
theorem CmI.room{zs:List Int}{a g:BD}{k:Nat}(I_:CmI n C zs a m j g k)(hi:i<manyN n)(d:m+manyN n<=40):¬(g (1+i)=none/\40<=k):=λ⟨b,c⟩=>by
 have:=Y9 (λi=>(g (1+i)).isNone) 0 hi (by simp[b]);have:=I_.rm;omega
theorem CmI.put{zs:List Int}{c g:BD}{k:Nat}(I_:CmI n C zs c m j g k)(hi:i<manyN n)(f:zs[j]?=some (i:Int)):CmI n C zs c m (j+1) (pgSet g (1+i) (DB C n i)) (k+(if (g (1+i)).isSome then 0 else 1)):=by
 have b:=(Aeb.1 f).1;refine ⟨b,λp hp=>?_,?_,λq hq=>?_,λa r q hq=>?_⟩
 ·unfold pgSet;rw[if_neg U];exact I_.old p hp
 ·have o:=I_.rm
  split
  ·rename_i d
   rw[<-GR (F:=λi=>(g (1+i)).isNone)]
   ·exact o
   intro q _;unfold pgSet;split
   ·rename_i e;rw[show 0+q=i by omega];cases e2:g (1+i)<;>simp_all
   rfl
  rename_i d;have l:g (1+i)=none:=by simpa using d
  have:=OD (F:=λi=>(g (1+i)).isNone) (G:=λq=>(pgSet g (1+i) (DB C n i) (1+q)).isNone) hi (by simp[l]) (by simp[pgSet]) (λq hq=>by unfold pgSet;rw[if_neg U]);omega
 ·unfold pgSet;split
  ·rename_i e;obtain rfl:q=i:=by omega
   exact .inr Z
  exact I_.set q hq
 unfold pgSet;split
 ·rename_i e;obtain rfl:q=i:=by omega
  rfl
 rcases Aeq a j with h|h
 ·exact I_.dn a h q hq
 obtain rfl:a=j:=by omega
 rw[f] at hq;simp at hq;omega
theorem CmI.done{C0:Nat->Nat}{zs:List Int}{o g:BD}{k:Nat}(I_:CmI n C zs o m zs.length g k)(l:∀x:Int,x∈zs↔∃k:Nat,k<n/\C k≠C0 k/\x=((k/120:Nat):Int))(hi:i<manyN n):g (1+i)=some (DB C n i)\/g (1+i)=none/\DB C0 n i=DB C n i:=by
 rcases I_.set i hi with h|h
 ·refine .inr ⟨h,?_⟩
  have c:(i:Int)∉zs:=λf=>by
   obtain ⟨j,d⟩:=Ae2 f;have:=I_.dn j (Aeb.1 d).1 i d;rw[h] at this;cases this
  have:Ev C0 n i=Ev C n i:=by
   unfold Ev;refine AfC λq hq=>?_;split
   ·rename_i b
    have:=AfQ.1 hq;refine congrArg Int.ofNat (Afd λa=>c ((l _).2 ⟨120*i+q,b,λe=>a e.symm,by rw[show (120*i+q)/120=i by omega]⟩))
   rfl
  unfold DB;rw[this]
 exact .inl h
theorem Zb(h:m<n):m/120<manyN n:=by unfold manyN;omega
theorem OE(h:B.length=240):0+240*1<=(A5 (AJ B) t).length:=by
 have hp:=AS (l:=B) U;unfold A5;rw[Aee,Aef];omega
theorem QB(h:B.length=240):((A5 (AJ B) t).drop 0).take (240*1)=B.map u8:=by
 unfold A5;rw[Aeu,AeP];have hp:=AS (l:=B) U;rw[Aet (by rw[Aef];omega),<-Afp];have:=Vv h;rw[Aeu] at this;rw[this]
theorem TK(pp ps pd b p m e n:Nat)(D:Dsk)(G:StG)(mb:Nat)(g0:BD)(t:Nat)(C C0:Nat->Nat)(l:List IE)(clk:Nat)(F Dd S:Nat->Bool)(W:WasOk C C0 n l clk)(hn:16<=n/\n<=1024)(hG:G.x.pages=n)(hg:∀i,i<manyN n->g0 (1+i)=none)(hk:t+manyN n<=40)(a9:∀k,C k<=1000)(hF:Fine D G mb)(hm:mb<=1000000000):Cn prog 170 [Y pp] [stoA ps pd D G (some (g0,t)),plB pp ps b e n true,coB b p n m,Cf p C n,AH m l clk,alB e n F Dd S] (λv Γ=>∃(D2:Dsk) (f:StG) (g:BD) (k:Nat) (zs:List Int),CmI n C zs g0 t zs.length g k/\(∀x:Int,x∈zs↔∃k:Nat,k<n/\C k≠C0 k/\x=((k/120:Nat):Int))/\Fine D2 f (mb+2)/\D2.n=D.n/\f.M=Ej G.M (some (g,k))/\(f.x=G.x\/f.x=Ee G.x G.a G.q)/\v=I 0/\Γ=[stoA ps pd D2 f none,plB pp ps b e n false,coB b p n m,Cf p C n,AH m ([]) clk,alB e n (Dg F Dd) BX (Dg F Dd)]):=by
 intro z R w H;refine Ae func170 Z ntmps170 Z (Z2 25 [4,1,0,1,1,0] H Z (Aq Z (call204 _) (TA C0 U W) H.f4.f4.f4 ?_));rintro v1 w _ ⟨v2,zs,Z_,⟨b4,a3,s⟩,rfl,rfl⟩ H;obtain ⟨za,zc,rfl⟩:=H.sy 0 (λq=>(s _ q).slc);refine Zc 5 Z ?_;refine AB (σ:=Nat×BD×Nat) (λ⟨j,g,k⟩=>[(18,I (j:Int)),(0,Y pp),(16,.slice za zs.length zc),(17,I (zs.length:Int))])
   (λ⟨j,g,k⟩ w=>Sep z (Z_::coB b p n m::Cf p C n::AH m l clk::stoA ps pd D G (some (g,k))::plB pp ps b e n true::alB e n F Dd S::R) w/\(CmI n C zs g0 t j g k)) (λ⟨j,g,k⟩=>zs.length-j) ⟨0,g0,t⟩
   fr_z ⟨H,CmI.start hg⟩ ?_
 clear H;rintro ⟨j,g,k⟩ w ⟨o,hI⟩;dsimp only at hI o ⊢;have H:=o.l7;have hC:=hI;clear hI;have b3:=hC.jl;refine Z0 6 [0] Z (Af Z (λh1=>?_) (λh1=>?_))
 ·obtain ⟨z_,c⟩:∃z_,zs[j]?=some z_:=⟨_,Aed U⟩;obtain ⟨q_,a8,b1,y⟩:=(a3 z_).1 (Aec c);obtain ⟨i,a0⟩:∃i,i=q_/120:=⟨_,Z⟩;rw[<-a0] at y;subst y;have hi:i<manyN n:=a0▸Zb a8
  have b2:manyN n<n:=by unfold manyN;omega
  refine Zc 6 Z ?_;have a1:=(H.rd 0 Z s).at (j:=j) (u:=I (i:Int)) (by simp[c]);refine Ab Z (Aj Z (z:=1) (j:=j) (r:=j) J Z Z Z U a1 U) (Ab Z (Ax Z Z J (Ay a1)) (Zc 4 Z ?_));replace H:=H.f5;refine AN (Sep z (plB pp ps b e n true::R)) 16 Z J (AZ H λw o=>?_);have H:=o.l7;refine HD [0,1,2,3,4,5,6,7,8,9,10,11] [0,0,0,0,1,0,0] [((1+i:Nat):Int)] (by exact H.pick 7 [0] Z) Z J U Z (AC [12] J O (Am (Bo Z Z Z Z Z Z (λw=>call59 _ w) (Qt i hi U a9) H.f3.f3 Z ?_)));rintro _ w _ ⟨pw,rfl,rfl⟩ H;refine Av (H.pick 8 [3] Z) (AT [13] [] [] (by exact H.pick 8 [3] Z) Z J Z (AC [14] J O (Am (Bo Z Z Z Z Z Z (λw=>call55 _ w) (Gv (1+i) U (DB C n i) (Fb) (λh q=>q.rd U U (OE (Fb).2) (QB (Fb).2))) H.f6 Z ?_))));rintro _ w _ (⟨a2,rfl,rfl⟩|⟨_,rfl,rfl⟩) o
  ·exact absurd a2 (hC.room hi hk)
  have H:=o.l8;refine Av (H.pick 8 [4] Z) (AT [15] [] [] (by exact H.pick 8 [4] Z) Z J Z (a_done J (gn (Z1 15 [4] [(j:Int)+1] Z U ?_))));replace H:=H.f1.d.f6.f4.f2.f6.f5.f5.f6;refine gf ?_;intro _ hF;refine ⟨⟨j+1,pgSet g (1+i) (DB C n i),k+(if (g (1+i)).isSome then 0 else 1)⟩,hF.cz,⟨H,?_⟩,?_⟩
  ·exact hC.put hi c
  (dsimp only;omega)
 obtain rfl:j=zs.length:=by omega
 refine Zc 2 Z (gx (Z2 10 [0,0,5,0] H Z (Aq Z (call60 _) (OB mb hF hm) H.f4 ?_)));rintro _ w _ ⟨D2,f,a6,a7,⟨a5,b0⟩,a4,rfl,rfl⟩ H;refine Z4 26 [4,4,5,1,5,0] H Z ?_;intro w H;refine z_E_ Z (call205 _) (Tz) H.f4.f3 ?_;intro w H;refine Z2 8 [2,5,0] H Z (z_E_ Z (call114 _) (Mw) H.f6 ?_);intro w H;refine Zc 8 Z (Zr Z ?_);exact ⟨_,⟨D2,f,g,k,zs,hC,a3,a6,a7,a5,a4,Z,Z⟩,H.perm 7 [3,6,1,5,2,0] Z Z⟩
section
section
variable{P:Program}{o:Oper}{w z:World}{Γ:List Ai}{n:Nat}{ds:List Deferred}{L:List (Nat×Value)}{x y:Operand}
theorem Zd{e:TypeId}{k:Nat}(H:Sep z Γ w)(q:o.op=.makeSlice T x y)(r:P.underlying T=some (.slice e))(l:Elt P e u m j)(s:ev L x=some (I k))(t:ev L y=some (I k))(hk:j*k<=140737488355328){out:List Value}(c:madeCells u.cells (k*m)=out.toArray):
  Cy P n ds L o w (λv w'=>∃b,v=.slice (some ⟨b,0,none⟩) k k/\Sep z (blk b out e::Γ) w'):=λa g=>by
 obtain ⟨i,hi,hz,hs,hb,a0,p,f⟩:=l;have d:(i.bytes:Int)*(k:Int)<=281474976710656:=by
  rw[hb,<-Int.natCast_mul];omega
 have h:=run_make (P:=P) (w:=w) T e i u r hi hz .i64 .i64 (k:Int) (k:Int) U (Afm _) d (by
  have:1*k<=j*k:=AfG _ f;omega)
 have e1:madeCells u.cells (((k:Int)).toNat*i.size)=out.toArray:=by
  rw[Ae4,hs];exact c
 rw[e1] at h;refine ⟨_,_,?_,w.heap.size,Z,H.new (Du w (.cells out.toArray e)) (Aei _) (by show (w.heap.push _)[w.heap.size]?=_;simp)⟩;simp only[execOp,q,g.ev s,g.ev t,Aev,h,Aer,AeA,Ae4];rfl
end
theorem V5(h:B.length=256):0+240*1<=(A5 B t).length:=by unfold A5;rw[Aee,Aef];omega
theorem Ze(h:B.length=256):((A5 B t).drop 0).take (240*1)=(B.take 240).map u8:=by
 unfold A5;rw[Aeu,AeP,Aet (by rw[Aef];omega),Afp]
def C1(i:Nat):Nat->Nat:=λp=>if p<i then 1 else 0
theorem QC(i:Nat):updN (C1 i) i 1=C1 (i+1):=by
 funext p;unfold updN C1;split
 ·rw[if_pos U]
 by_cases h:p<i
 ·rw[if_pos h,if_pos U]
 rw[if_neg h,if_neg U]
theorem QD:C1 0=λ_=>0:=by funext p;simp[C1]
theorem RV(k:Nat):C1 i k<=1000:=by unfold C1;split<;>omega
def gF(n:Nat)(cb:List UInt8)(i:Nat):BD:=λp=>if p=0 then some ⟨1,cb⟩ else if p<=i then some (DB (C1 (manyN n+1)) n (p-1)) else none
theorem Zg(n:Nat)(a:List UInt8)(i:Nat):(some (pgSet (gF n a i) (1+i) (DB (C1 (manyN n+1)) n i),1+i+(if (gF n a i (1+i)).isSome then 0 else 1)):Hb)=some (gF n a (i+1),1+(i+1)):=by
 have e:gF n a i (1+i)=none:=by unfold gF;rw[if_neg U,if_neg U]
 rw[e];have:pgSet (gF n a i) (1+i) (DB (C1 (manyN n+1)) n i)=gF n a (i+1):=by
  funext p;unfold pgSet gF;split
  ·rename_i h;subst h;rw[if_neg U,if_pos U,show 1+i-1=i by omega]
  by_cases h0:p=0
  ·rw[if_pos h0,if_pos h0]
  rw[if_neg h0,if_neg h0];by_cases h1:p<=i
  ·rw[if_pos h1,if_pos U]
  rw[if_neg h1,if_neg U]
 rw[this];simp;omega
theorem Zh(n:Nat)(a:List UInt8):(some (pgSet Dp 0 ⟨1,a⟩,0+(if (Dp 0).isSome then 0 else 1)):Hb)=some (gF n a 0,1+0):=by
 have:pgSet Dp 0 ⟨1,a⟩=gF n a 0:=by
  funext p;unfold pgSet gF Dp;split
  ·rfl
  rw[if_neg U]
 rw[this];rfl
theorem OF{n:Nat}(h:n<=1024):manyN n<=9:=by unfold manyN;omega
theorem OG{n:Nat}(h:16<=n):1<=manyN n/\manyN n+1<n:=by unfold manyN;omega
theorem Sep.flDisk{z w:World}{Γ:List Ai}{ps pd:Nat}{D:Dsk}{G:StG}(H:Sep z (stoA ps pd D.fl {G with sure:=G.rs.length} none::Γ) w)(hq:G.q<=1099511627776):OInv D.fl G.x G.B (λd=>d=G.rs)/\Sep z (diskA pd D.fl::Γ) w:=by
 obtain ⟨X,g,H⟩:=H.sto;have h:=g.inv.crashed (D':=D.fl) hq ⟨Z,λ_=>rfl,λ_=>.inl Z⟩;have e:(λd:List Rc=>G.rs.length<=d.length/\d.length<=G.rs.length/\d=G.rs.take d.length)=λd=>d=G.rs:=funext λd=>propext ⟨λ⟨a,b,c⟩=>by rw[c];exact Aej U,λe=>by subst e;simp⟩;refine ⟨?_,H.pick 6 [3] Z⟩;have f:OInv D.fl G.x G.B (λd:List Rc=>G.rs.length<=d.length/\d.length<=G.rs.length/\d=G.rs.take d.length):=h;rw[e] at f;exact f
end
section
section
variable{P:Program}{C:World->Prop}{o:Oper}{n:Nat}{ds:List Deferred}{L:List (Nat×Value)}{x y:Operand}{xt yt:TypeId}
def MK(P:Program)(t:TypeId)(f:Nat)(cs:Array Value):Option Value:=match P.underlying t with
 | some (.struct fs)=>match fs[f]? with
  | some fd=>bif Ge P fd.type then cs[fd.offset]? else none
  | none=>none
 | _=>none
theorem OH{cs:Array Value}(h:o.op=.field T x m)(d:ev L x=some (.agg cs))(b:MK P T m cs=some v):Au P C n ds L o v:=λa f w _=>by
 unfold MK at b;split at b
 ·rename_i i c
  split at b
  ·rename_i e g
   cases hb:Ge P e.type with
   | false=>rw[hb] at b;cases b
   | true=>
    rw[hb] at b;simp only[cond_true] at b;simp only[execOp,h,f.ev d,Instr.field,Aev,run_underlying c,Aer,g];simp[asAgg,part,FM hb,b,go_sem]
  cases b
 cases b
end
end
def AV(n:Nat)(C:Nat->Nat):Nat->Bool:=λp=>decide (p<n/\C p=0)
def LC(C:Nat->Nat)(i:Nat):Nat->Nat:=λp=>if p/120+1<i then C p else 0
theorem Zi(C:Nat->Nat):LC C 0=λ_=>0:=by funext p;simp[LC]
theorem AbK(C:Nat->Nat):LC C 1=LC C 0:=by funext p;simp[LC]
theorem TL(C:Nat->Nat)(n i:Nat)(h:m<120):(Ev C n i).getD m 0=if 120*i+m<n then (C (120*i+m):Int) else 0:=by
 simp[Ev,List.getD,h]
theorem Zj(C:Nat->Nat)(n j:Nat):C4 (HK (LC C (1+j)) j (Ev C n j) 120) n=C4 (LC C (1+j+1)) n:=by
 unfold C4;refine AfC λp hp=>?_;have hp:=AfQ.1 hp;unfold HK LC;by_cases h:p/120=j
 ·rw[if_pos ⟨h,by omega⟩,if_pos U,TL _ _ _ U,if_pos U,show 120*j+p%120=p by omega];rfl
 rw[if_neg (λq=>h q.1)];by_cases h2:p/120+1<1+j
 ·rw[if_pos h2,if_pos U]
 rw[if_neg h2,if_neg U]
theorem AbL(C:Nat->Nat)(n:Nat):C4 (LC C (manyN n+1)) n=C4 C n:=by
 unfold C4;refine AfC λp hp=>?_;have hp:=AfQ.1 hp;unfold LC;rw[if_pos (by unfold manyN;omega)]
theorem AbM :∀(k:Nat) (x:Int),(Ev C n i)[k]?=some x->n<=120*i+k->x=0:=λk x h b=>by
 have a:=(Aeb.1 h).1;rw[Ju] at a;have:=TL C n i a;rw[List.getD,h,if_neg U] at this;simpa using this
def HP(C:Nat->Nat)(n i:Nat):Nat->Bool:=λp=>decide (p<n) && !(decide (p<i)&&decide (0<C p))
theorem V6(C:Nat->Nat)(n:Nat):HP C n 0=DR n:=by funext p;simp[HP,DR]
theorem Zk(C:Nat->Nat)(n:Nat):HP C n n=AV n C:=by
 funext p;unfold HP AV;rw[Aew];simp;omega
theorem V7(h:0<C i):Dw (HP C n i) i=HP C n (i+1):=by
 funext p;unfold Dw HP;rw[Aew];simp;by_cases e:p=i
 ·subst e;simp;omega
 simp[e];omega
theorem V8(h:¬0<C i):HP C n i=HP C n (i+1):=by
 funext p;unfold HP;by_cases e:p=i
 ·subst e;have:decide (0<C p)=false:=decide_eq_false h
  rw[this];simp
 have a:decide (p<i)=decide (p<i+1):=decide_eq_decide.2 U;rw[a]
theorem QE(F:Nat->Bool):Dg F BX=F:=by funext p;simp[Dg,BX]
theorem AbN(h:i<n):HP C n i i=true:=by unfold HP;simp[h]
theorem Zm{G:StG}(mb n:Nat)(C:Nat->Nat)(l:Fine D G mb)(hn:16<=n/\n<=1024)(hG:G.x.pages=n)(cb:List UInt8)(o:G.M 0=⟨1,cb⟩)(s:∀i,i<manyN n->G.M (1+i)=DB C n i)(hC:∀k,C k<=1000)(a4:∀p,p<=manyN n->C p=1):Cn prog 62 [Y e] [stoA e g D G none] (λv Γ=>∃pp b c m a:Nat,v=.tuple #[Y pp,I 0]/\Γ=[stoA e g D G none,plB pp e b a n false,coB b c n m,Cf c C n,AH m ([]) 0,alB a n (AV n C) BX (AV n C)]):=by
 intro z R w H;have b0:=OG hn.1;refine Ae func62 Z ntmps62 Z (Zc 21 Z (z_E_ Z (call109 _) (Y5) H ?_));intro w H;refine Ab Z (OH (v:=I G.x.pages) Z Z J) (AD 18 (v:=I (n:Int)) Z (congrArg I hG) (Ab Z (Bc Z Z (out:=[Y e,.pointer none,.pointer none,I (n:Int),.bool false]) J) (Za 0 [] H Z ?_)));intro r w H;refine Z2 10 [3,0,0] H Z (Aq Z (call56 _) (Ty U) H ?_);rintro _ w _ ⟨b,c,m,rfl,rfl⟩ H;refine Z4 15 [1,3,3,3,0] H Z ?_;intro w H;refine Aq Z (call110 _) (Abf U) H ?_;rintro _ w _ ⟨a,rfl,rfl⟩ H;refine Z4 11 [2,4,3,4,0] H Z ?_;intro w H;refine z_E_ Z (call57 _) (Gb U) H ?_;intro w H;refine Z1 17 [] [(manyN n:Int)+1] Z U ?_;refine AB (σ:=Nat) (λi=>[(47,I (i:Int)),(6,.bool false),(0,Y e),(4,Y r),(5,I (manyN n:Int)),(46,I ((manyN n:Int)+1))])
   (λi w=>Sep z (alB a n (DR n) BX (DR n)::coB b c n m::Cf c (LC C i) n::AH m ([]) 0::plB r e b a n false::stoA e g D G none::R) w/\(i<=manyN n+1)) (λi=>manyN n+1-i) 0
   fr_z ⟨(by rw[Zi];exact H),by omega⟩ ?_
 clear H;rintro i w ⟨f,t⟩;have H:=f.l6;have a5:=t;clear t;refine Z0 6 [0] Z (Af Z (λu=>?_) (λu=>?_))
 ·have a3:G.M i≠noPg:=λq=>by
    rcases AgT i with h0|h0
    · subst h0;rw[o] at q;cases q
    · have u:=s (i-1) U;rw[show 1+(i-1)=i by omega,q] at u;cases u
  refine Zc 14 Z (Aq Z (call85 _) (K7 e g D G none i U l.clean.f1 (G.M i) Z) H.f5 ?_);rintro _ w _ (⟨a8,rfl,rfl⟩|⟨a9,rv,rfl,rfl⟩) f
  ·exact absurd a8 a3
  have H:=f.l7;obtain ⟨gb,a7,rest,rfl,c1,c2,c3,H⟩:=H.ungrow 0 Z U;refine Za 3 [] H Z ?_;intro b2 w H;refine Z4 20 [0,4,0] H Z ?_;intro w H;refine Af Z (λh2=>?_) (λh2=>?_)
  ·obtain rfl:i=0:=by omega
   refine Z2 5 [0,0,0] H Z (AD 84 (v:=I 1) Z (congrArg I (by rw[o])) (Z1 11 [4] [(0:Int)+1] Z U ?_));replace H:=H.f1.d.d.f5.f5.f5.f5.f5;refine gf ?_;intro _ l;refine ⟨(0+1),l.cz,⟨(by rw[AbK];exact H),?_⟩,?_⟩
   ·omega
   omega
  obtain ⟨j,rfl⟩:∃j,i=1+j:=⟨i-1,by omega⟩;have a0:=s j U;have a1:(G.M (1+j)).body.length=240:=by rw[a0];exact (Fb).2
  have a6:(G.M (1+j)).body=K5 (Ev C n j):=by rw[a0];rfl
  refine BH 15 J J (AZ H λw f=>?_);have H:=f.l8;refine PV 4 [0,0] (AO (H.blk 0 Z) AM) Z J Z (AD 59 (v:=I 2) Z (congrArg I (by rw[s j U];rfl)) (EQ 11 [4,1,7,0,1,0,0] [(j:Int)] H Z J U (CF (gw (z_E_ Z (call111 _) (YO j U U (λh q=>q.rd U U (by rw[Aee,Aef,a1];omega) (by rw[Aeu,AeP,AeF (by rw[Aef,a1])])) (Ev C n j) (Ju _ _ _) (Tx hC) a6 AbM) H.f1.f6.f6.f6 ?_)))));intro w H;dsimp only[Cf] at H;rw[Zj] at H;have f:Sep z (coB b c n m::Cf c (LC C (1+j+1)) n::AH m ([]) 0::blk gb ((G.M (1+j)).body.map u8++rest) 5::blk b2 [I ((G.M (1+j)).kind),.slice (some ⟨gb,0,none⟩) 240 a7] 104::stoA e g D G none::alB a n (DR n) BX (DR n)::plB r e b a n false::R) w:=H;clear H;have H:=f.l8;refine Z1 11 [4] [((1+j):Int)+1] Z U ?_;replace H:=H.f4.d.f3.d.f3.f5.f4.f4.f4.f5;refine gf ?_;intro _ l;refine ⟨(1+j+1),l.cz,⟨H,?_⟩,?_⟩
  ·omega
  omega
 obtain rfl:i=manyN n+1:=by omega
 refine Zc 2 Z (gx (Zc 4 Z ?_));dsimp only[Cf] at H;rw[AbL] at H;have f:Sep z (alB a n (DR n) BX (DR n)::coB b c n m::Cf c C n::AH m ([]) 0::plB r e b a n false::stoA e g D G none::R) w:=H;clear H;have H:=f.l6;refine Z1 7 [] [(manyN n:Int)+1] Z U ?_;refine AB (σ:=Nat) (λi=>[(90,I (i:Int)),(6,.bool false),(4,Y r),(89,I ((manyN n:Int)+1))])
   (λi w=>Sep z (alB a n (DR n) BX (DR n)::coB b c n m::Cf c C n::AH m ([]) 0::plB r e b a n false::stoA e g D G none::R) w/\(i<=manyN n+1)) (λi=>manyN n+1-i) 0
   fr_z ⟨H,by omega⟩ ?_
 clear H;rintro i w ⟨f,t⟩;have H:=f.l6;have a5:=t;clear t;refine Z0 6 [0] Z (Af Z (λh3=>?_) (λh3=>?_))
 ·have a3:G.M i≠noPg:=λq=>by
    rcases AgT i with h0|h0
    · subst h0;rw[o] at q;cases q
    · have u:=s (i-1) U;rw[show 1+(i-1)=i by omega,q] at u;cases u
  refine Z2 18 [1,4,0] H Z (z_E_ Z (call112 _) (FA U U) H.f2.f2 ?_);intro w H;refine AD 100 (v:=I 1) Z (congrArg I (by rw[a4 i U];rfl)) (Z1 10 [4] [(i:Int)+1] Z U ?_);replace H:=H.f5.f5.f5.f4.f4.f5;refine gf ?_;intro _ l;refine ⟨(i+1),l.cz,⟨H,?_⟩,?_⟩
  ·omega
  omega
 obtain rfl:i=manyN n+1:=by omega
 refine Zc 2 Z (gx (Z2 22 [3,4,0] H Z ?_));refine AB (σ:=Nat) (λi=>[(109,I (i:Int)),(4,Y r),(108,I (n:Int))])
   (λi w=>Sep z (alB a n (HP C n i) BX (DR n)::coB b c n m::Cf c C n::AH m ([]) 0::plB r e b a n false::stoA e g D G none::R) w/\(i<=n)) (λi=>n-i) 0
   fr_z ⟨(by rw[V6];exact H),by omega⟩ ?_
 clear H;rintro i w ⟨f,t⟩;have H:=f.l6;have b3:=t;clear t;refine Z0 6 [0] Z (Af Z (λh4=>?_) (λh4=>?_))
 ·refine Z2 17 [1,4,0] H Z (z_E_ Z (call112 _) (FA U U) H.f2.f2 ?_);intro w H;refine Z0 3 [0] Z (Af Z (λh5=>?_) (λh5=>?_))
  ·have a2:0<C i:=by omega
   refine Z2 6 [2,4,0] H Z (z_E_ Z (call113 _) (S1 i U U (AbN U)) H.f2 ?_);intro w H;rw[V7 a2] at H;refine Z1 7 [] [(i:Int)+1] Z U (gf ?_);intro _ l;refine ⟨(i+1),l.cz,⟨H,?_⟩,?_⟩
   ·omega
   omega
  have y:¬0<C i:=by omega
  refine Z1 7 [] [(i:Int)+1] Z U ?_;replace H:=H.f5.f5.f5.f4.f4.f5;refine gf ?_;intro _ l;refine ⟨(i+1),l.cz,⟨(by rw[<-V8 y];exact H),?_⟩,?_⟩
  ·omega
  omega
 obtain rfl:n=i:=by omega
 refine Zc 2 Z (gx (Zc 3 Z ?_));rw[Zk] at H;refine Z2 5 [2,4,0] H Z (z_E_ Z (call114 _) (Mw) H ?_);intro w H;rw[QE] at H;refine Zc 10 Z (Zr Z ?_);exact ⟨_,⟨r,b,c,m,a,Z,Z⟩,H.perm 6 [5,4,1,2,3,0] Z Z⟩
section
variable{Tb:Ai}
def fup{α:Type}(f:Nat->α)(a:Nat)(x:α):Nat->α:=λi=>if i=a then x else f i
theorem BK{α:Type}(f:Nat->α)(a:Nat)(x:α):fup f a x a=x:=by simp[fup]
theorem fup_ne{α:Type}(f:Nat->α)(x:α)(h:i≠m):fup f m x i=f i:=by simp[fup,h]
structure PoX where
 ps:Nat
 pd:Nat
 pc:Nat
 bn:Nat
 mm:Nat
 pa:Nat
 D:Dsk
 G:StG
 g:BD
 l:List IE
 clk:Nat
 Dd:Nat->Bool
 A:Ai
structure PoT where
 M:Nat->Pg
 C:Nat->Nat
 F:Nat->Bool
 k:Nat
def poC(C0:Nat->Nat):Option PoT->Nat->Nat
 | none=>C0
 | some T=>T.C
def Xz(n:Nat)(C0:Nat->Nat):Option PoT->Nat->Bool
 | none=>AV n C0
 | some T=>T.F
def poM(M0:Nat->Pg):Option PoT->Nat->Pg
 | none=>M0
 | some T=>T.M
def TM(g:BD):Option PoT->Hb
 | none=>none
 | some T=>some (g,T.k)
def XA(pp n:Nat)(C0:Nat->Nat)(t:Option PoT)(X:PoX):List Ai:=
 [plB pp X.ps X.pc X.pa n t.isSome,stoA X.ps X.pd X.D X.G (TM X.g t),coB X.pc X.bn n X.mm,Cf X.bn (poC C0 t) n,AH X.mm X.l X.clk,alB X.pa n (Xz n C0 t) X.Dd (AV n C0),X.A]
structure PoQ(n:Nat)(C0:Nat->Nat)(T:PoT)(X:PoX):Prop where
 m:∀p,(p=0\/manyN n<p)->T.M p=Ej X.G.M (some (X.g,T.k)) p
 gn:∀i,i<manyN n->X.g (1+i)=none
 W:WasOk T.C C0 n X.l X.clk
 c:∀k,T.C k<=1000
 df:Dg T.F X.Dd=AV n T.C
 dj:∀p,X.Dd p=true->T.F p=false
 one:∀p,p<=manyN n->T.C p=1
structure PoP(Tb:Ai)(mb n:Nat)(M0:Nat->Pg)(C0:Nat->Nat)(t:Option PoT)(X:PoX):Prop where
 hn:16<=n/\n<=1024
 fine:Fine X.D X.G mb
 pg:X.G.x.pages=n
 tab:Hl X.A/\X.A=Tb
 m0:∀p,(p=0\/manyN n<p)->M0 p=X.G.M p
 cp:∀i,i<manyN n->X.G.M (1+i)=DB C0 n i
 c0:∀k,C0 k<=1000
 one:∀p,p<=manyN n->C0 p=1
 idle:t=none->X.l=[]/\X.Dd=BX
 tx:∀T,t=some T->PoQ n C0 T X
def poA(Tb:Ai)(pp mb n:Nat)(M0:Nat->Pg)(C0:Nat->Nat)(t:Option PoT):Ai:=λh=>∃X,PoP Tb mb n M0 C0 t X/\seps (XA pp n C0 t X) h
variable{z w:World}{Γ:List Ai}{pp mb n:Nat}{M0:Nat->Pg}{C0:Nat->Nat}{t:Option PoT}{T:PoT}
theorem Sep.po(H:Sep z (poA Tb pp mb n M0 C0 t::Γ) w):∃X,PoP Tb mb n M0 C0 t X/\Sep z (XA pp n C0 t X++Γ) w:=
 H.into (p:=λX=>PoP Tb mb n M0 C0 t X) (As:=λX=>XA pp n C0 t X) (λ_ q=>q)
theorem Sep.toPo{X:PoX}(H:Sep z Γ w)(b:PoP Tb mb n M0 C0 t X)(a:Γ.take 7=XA pp n C0 t X):Sep z (poA Tb pp mb n M0 C0 t::Γ.drop 7) w:=
 H.made 7 (λh q=>⟨X,b,by rwa[a] at q⟩)
theorem poA.hn{h:Hp}(a:poA Tb pp mb n M0 C0 t h):16<=n/\n<=1024:=by
 obtain ⟨X,b,_⟩:=a;exact b.hn
structure PoK(n:Nat)(T:PoT):Prop where
 c:∀k,T.C k<=1000
 free:∀p,T.F p=true->p<n/\T.C p=0/\manyN n<p
 one:∀p,p<=manyN n->T.C p=1
theorem PoQ.k{X:PoX}(Q:PoQ n C0 T X)(b:16<=n):PoK n T:=by
 refine ⟨Q.c,λp hp=>?_,Q.one⟩;have a:AV n T.C p=true:=by rw[<-Q.df];simp[Dg,hp]
 simp[AV] at a;refine ⟨a.1,a.2,?_⟩;rcases Aeq (manyN n) p with h|h
 ·exact h
 have:=Q.one p h;omega
theorem poA.k{h:Hp}(a:poA Tb pp mb n M0 C0 (some T) h):PoK n T:=by
 obtain ⟨X,b,_⟩:=a;exact (b.tx T Z).k b.hn.1
theorem poA.c0{h:Hp}(a:poA Tb pp mb n M0 C0 t h):(∀k,C0 k<=1000)/\∀p,p<=manyN n->C0 p=1:=by
 obtain ⟨X,b,_⟩:=a;exact ⟨b.c0,b.one⟩
def po0(n:Nat)(M0:Nat->Pg)(C0:Nat->Nat):PoT:=⟨M0,C0,AV n C0,0⟩
theorem Zn(pp mb n:Nat)(M0:Nat->Pg)(C0:Nat->Nat):Cn prog 120 [Y pp] [poA Tb pp mb n M0 C0 none] (λv Γ=>v=I 0/\Γ=[poA Tb pp mb n M0 C0 (some (po0 n M0 C0))]):=by
 intro z R w H;obtain ⟨X,a,H⟩:=H.po;obtain ⟨c,b⟩:=a.idle Z;refine Ret.mono (Cn.at (VV pp X.ps X.pd X.pc X.bn X.mm X.pa n X.D X.G) H 7 [0,1,2,3,4,5,6] Z Z) ?_;rintro v h ⟨Γ',⟨rfl,rfl⟩,d⟩;refine ⟨_,⟨Z,Z⟩,d.toPo (X:= {X with g:=Dp}) ⟨a.hn,a.fine,a.pg,a.tab,a.m0,a.cp,a.c0,a.one,λe=>(by cases e),λT e=>?_⟩ Z⟩;cases e;refine ⟨λp hp=>a.m0 p hp,λ_ _=>rfl,?_,a.c0,?_,λp hp=>?_,a.one⟩
 ·show WasOk C0 C0 n X.l X.clk
  rw[c];exact WasOk.nil _ _ _
 ·show Dg (AV n C0) X.Dd=AV n C0
  rw[b];exact QE _
 have:X.Dd p=true:=hp;rw[b] at this;cases this
theorem Zo(pp mb n:Nat)(M0:Nat->Pg)(C0:Nat->Nat)(T:PoT):Cn prog 121 [Y pp] [poA Tb pp mb n M0 C0 (some T)] (λv Γ=>v=.tuple #[]/\Γ=[poA Tb pp mb n M0 C0 none]):=by
 intro z R w H;obtain ⟨X,a,H⟩:=H.po;have Q:=a.tx T Z;refine Ret.mono (Cn.at (VW pp X.ps X.pd X.pc X.bn X.mm X.pa n X.D X.G X.g T.k T.C C0 X.l X.clk T.F X.Dd (AV n C0) Q.W) H 7 [1,0,2,3,4,5,6] Z Z) ?_;rintro v c ⟨Γ',⟨rfl,rfl⟩,b⟩;have H3:=b.pick 7 [1,0,2,3,4,5,6] Z;exact ⟨_,⟨Z,Z⟩,H3.toPo (X:= {X with l:=[],Dd:=BX}) ⟨a.hn,a.fine,a.pg,a.tab,a.m0,a.cp,a.c0,a.one,λ_=>⟨Z,Z⟩,λT e=>(by cases e)⟩ Z⟩
theorem Wa(pp mb n:Nat)(M0:Nat->Pg)(C0:Nat->Nat)(T:PoT)(s:T.k+manyN n<=40)(j:mb<=1000000000):Cn prog 170 [Y pp] [poA Tb pp mb n M0 C0 (some T)] (λv Γ=>v=I 0/\Γ=[poA Tb pp (mb+2) n T.M T.C none]):=by
 intro z R w H;obtain ⟨X,a,H⟩:=H.po;have Q:=a.tx T Z;refine Ret.mono (Cn.at (TK pp X.ps X.pd X.pc X.bn X.mm X.pa n X.D X.G mb X.g T.k T.C C0 X.l X.clk T.F X.Dd (AV n C0) Q.W a.hn a.pg Q.gn s Q.c a.fine j) H 7 [1,0,2,3,4,5,6] Z Z) ?_;rintro v t ⟨Γ',⟨D2,G2,g,k,zs,b,o,q,_,d,f,rfl,rfl⟩,r⟩;have H3:=r.pick 7 [1,0,2,3,4,5,6] Z;rw[Q.df] at H3;refine ⟨_,⟨Z,Z⟩,H3.toPo (X:= {X with l:=[],Dd:=BX,D:=D2,G:=G2}) ⟨a.hn,q,?_,a.tab,λp hp=>?_,λi hi=>?_,Q.c,Q.one,λ_=>⟨Z,Z⟩,λT e=>(by cases e)⟩ Z⟩
 ·have:=a.pg
  rcases f with e|e
  ·show G2.x.pages=_;rw[e];exact this
  show G2.x.pages=_;rw[e];exact this
 ·rw[Q.m p hp]
  show _=G2.M p;rw[d];simp only[Ej];rw[b.old p hp]
 show G2.M (1+i)=_;rw[d];simp only[Ej];rcases b.done o hi with h|⟨h,e⟩
 ·rw[h];rfl
 rw[h,<-e];exact a.cp i hi
theorem Zp(pp mb n:Nat)(M0:Nat->Pg)(C0:Nat->Nat)(t:Option PoT)(p:Nat)(hp:p<n):Cn prog 138 [Y pp,I (p:Int)] [poA Tb pp mb n M0 C0 t] (λv Γ=>v=I (poC C0 t p:Int)/\Γ=[poA Tb pp mb n M0 C0 t]):=by
 intro z R w H;obtain ⟨X,a,H⟩:=H.po;refine Ret.mono (Cn.at (VX pp X.ps X.pc X.bn X.mm X.pa n t.isSome (poC C0 t) p hp a.hn) H 7 [0,2,3,1,4,5,6] Z Z) ?_;rintro v c ⟨Γ',⟨rfl,rfl⟩,b⟩;exact ⟨_,⟨Z,Z⟩,(b.pick 7 [0,3,1,2,4,5,6] Z).toPo a Z⟩
theorem AbO(pp mb n:Nat)(M0:Nat->Pg)(C0:Nat->Nat)(t:Option PoT):Cn prog 23 [Y pp] [poA Tb pp mb n M0 C0 t] (λv Γ=>v=I (cnt (Xz n C0 t) 0 1024:Int)/\Γ=[poA Tb pp mb n M0 C0 t]):=by
 intro z R w H;obtain ⟨X,b,H⟩:=H.po;refine Ret.mono (Cn.at (Y7 pp X.ps X.pc X.pa n t.isSome (Xz n C0 t) X.Dd (AV n C0)) H 7 [0,5,1,2,3,4,6] Z Z) ?_;rintro v c ⟨Γ',⟨rfl,rfl⟩,a⟩;exact ⟨_,⟨Z,Z⟩,(a.pick 7 [0,2,3,4,5,1,6] Z).toPo b Z⟩
theorem Zq(pp mb n:Nat)(M0:Nat->Pg)(C0:Nat->Nat)(t:Option PoT):Cn prog 80 [Y pp] [poA Tb pp mb n M0 C0 t] (λv Γ=>v=.bool t.isSome/\Γ=[poA Tb pp mb n M0 C0 t]):=by
 intro z R w H;obtain ⟨X,b,H⟩:=H.po;refine Ret.mono (Cn.at (VY pp X.ps X.pc X.pa n t.isSome) H 7 [0,1,2,3,4,5,6] Z Z) ?_;rintro v c ⟨Γ',⟨rfl,rfl⟩,a⟩;exact ⟨_,⟨Z,Z⟩,a.toPo b Z⟩
theorem PoQ.put{X:PoX}{p:Nat}{x:Pg}(Q:PoQ n C0 T X)(hp:p=0\/manyN n<p)(a:Nat):PoQ n C0 {T with M:=fup T.M p x,k:=a} {X with g:=pgSet X.g p x} :=by
 refine ⟨λq hq=>?_,λi hi=>?_,Q.W,Q.c,Q.df,Q.dj,Q.one⟩
 ·simp only[fup,Ej,pgSet]
  split
  ·rfl
  exact Q.m q hq
 show pgSet X.g p x (1+i)=none;unfold pgSet;rw[if_neg U];exact Q.gn i hi
theorem write_p(pp mb n:Nat)(M0:Nat->Pg)(C0:Nat->Nat)(T:PoT)(p:Nat)(x:Pg)(i:x.Ok)(b:Value)(B:Ai)(f:∀h,B h->rdH 1 b 240 (x.body.map u8) h)(m:T.k<40)(hp:(p=0\/manyN n<p)/\p<n)(d:T.C p≠0):
  Cn prog 169 [Y pp,I (p:Int),.agg #[I x.kind,b]] [poA Tb pp mb n M0 C0 (some T),B] (λv Γ=>∃c,c<=T.k+1/\v=I 0/\Γ=[poA Tb pp mb n M0 C0 (some {T with M:=fup T.M p x,k:=c}),B]):=by
 intro z R w H;obtain ⟨X,a,H⟩:=H.po;have Q:=a.tx T Z;refine Ret.mono (Cn.at (VZ pp X.ps X.pd X.pc X.bn X.mm X.pa n X.D X.G p x i b B f X.g T.k (λq=>by omega) a.pg T.C a.hn hp d) H 8 [1,0,2,3,7,4,5,6] Z Z) ?_;rintro v l ⟨Γ',⟨rfl,rfl⟩,j⟩;refine ⟨_,⟨_,?_,Z,Z⟩,((j.pick 8 [1,0,2,3,5,6,7,4] Z).toPo (X:= {X with g:=pgSet X.g p x}) (t:=some {T with M:=fup T.M p x,k:=T.k+(if (X.g p).isSome then 0 else 1)}) ⟨a.hn,a.fine,a.pg,a.tab,a.m0,a.cp,a.c0,a.one,λe=>(by cases e),λT' e=>?_⟩ Z)⟩
 ·split<;>omega
 cases e;exact Q.put hp.1 _
theorem Adc(pp mb n:Nat)(M0:Nat->Pg)(C0:Nat->Nat)(T:PoT)(p:Nat)(hp:manyN n<p/\p<n)(d:1<=T.C p/\T.C p<1000):
  Cn prog 146 [Y pp,I (p:Int)] [poA Tb pp mb n M0 C0 (some T)] (λv Γ=>v=I 0/\Γ=[poA Tb pp mb n M0 C0 (some {T with C:=fup T.C p (T.C p+1)})]):=by
 intro z R w H;obtain ⟨X,a,H⟩:=H.po;have Q:=a.tx T Z;refine Ret.mono (Cn.at (AbJ pp X.ps X.pc X.bn X.mm X.pa n T.C C0 X.l X.clk Q.W a.hn p hp d) H 7 [0,2,3,4,1,5,6] Z Z) ?_;rintro v h ⟨Γ',⟨f,b,W2,rfl,rfl⟩,g⟩;refine ⟨_,⟨Z,Z⟩,((g.pick 7 [0,4,1,2,3,5,6] Z).toPo (X:= {X with l:=f,clk:=b}) (t:=some {T with C:=fup T.C p (T.C p+1)}) ⟨a.hn,a.fine,a.pg,a.tab,a.m0,a.cp,a.c0,a.one,λe=>(by cases e),λT' e=>?_⟩ Z)⟩;cases e;refine ⟨Q.m,Q.gn,W2,λk=>?_,?_,Q.dj,λq hq=>?_⟩
 ·show fup T.C p (T.C p+1) k<=1000
  unfold fup;split
  ·omega
  exact Q.c k
 ·show Dg T.F X.Dd=AV n (fup T.C p (T.C p+1))
  rw[Q.df];funext q;unfold AV fup;split
  ·rename_i e;subst e;simp;omega
  rfl
 show fup T.C p (T.C p+1) q=1;rw[fup_ne _ _ U];exact Q.one q hq
theorem Zs(pp mb n:Nat)(M0:Nat->Pg)(C0:Nat->Nat)(T:PoT)(p:Nat)(hp:manyN n<p/\p<n)(d:2<=T.C p):
  Cn prog 142 [Y pp,I (p:Int)] [poA Tb pp mb n M0 C0 (some T)] (λv Γ=>v=I 0/\Γ=[poA Tb pp mb n M0 C0 (some {T with C:=fup T.C p (T.C p-1)})]):=by
 intro z R w H;obtain ⟨X,a,H⟩:=H.po;have Q:=a.tx T Z;refine Ret.mono (Cn.at (V4 pp X.ps X.pc X.bn X.mm X.pa n T.C C0 X.l X.clk Q.W a.hn p hp ⟨d,Q.c p⟩) H 7 [0,2,3,4,1,5,6] Z Z) ?_;rintro v h ⟨Γ',⟨f,b,W2,rfl,rfl⟩,g⟩;refine ⟨_,⟨Z,Z⟩,((g.pick 7 [0,4,1,2,3,5,6] Z).toPo (X:= {X with l:=f,clk:=b}) (t:=some {T with C:=fup T.C p (T.C p-1)}) ⟨a.hn,a.fine,a.pg,a.tab,a.m0,a.cp,a.c0,a.one,λe=>(by cases e),λT' e=>?_⟩ Z)⟩;cases e;refine ⟨Q.m,Q.gn,W2,λk=>?_,?_,Q.dj,λq hq=>?_⟩
 ·show fup T.C p (T.C p-1) k<=1000
  have:=Q.c p;unfold fup;split
  ·omega
  exact Q.c k
 ·show Dg T.F X.Dd=AV n (fup T.C p (T.C p-1))
  rw[Q.df];funext q;unfold AV fup;split
  ·rename_i e;subst e;exact decide_eq_decide.2 U
  rfl
 show fup T.C p (T.C p-1) q=1;rw[fup_ne _ _ U];exact Q.one q hq
theorem AbP(pp mb n:Nat)(M0:Nat->Pg)(C0:Nat->Nat)(T:PoT)(p:Nat)(hp:manyN n<p/\p<n)(g:T.C p=1):
  Cn prog 142 [Y pp,I (p:Int)] [poA Tb pp mb n M0 C0 (some T)] (λv Γ=>v=I 0/\Γ=[poA Tb pp mb n M0 C0 (some {T with C:=fup T.C p 0})]):=by
 intro z R w H;obtain ⟨X,a,H⟩:=H.po;have Q:=a.tx T Z;have f:(T.F p||X.Dd p)=false:=by
  have:Dg T.F X.Dd p=AV n T.C p:=by rw[Q.df]
  unfold Dg AV at this;rw[this];simp;omega
 simp at f;refine Ret.mono (Cn.at (Y8 pp X.ps X.pc X.bn X.mm X.pa n T.C C0 X.l X.clk Q.W a.hn p hp T.F X.Dd (AV n C0) g f.1 f.2) H 7 [0,2,3,4,5,1,6] Z Z) ?_;rintro v j ⟨Γ',⟨h,d,W2,rfl,rfl⟩,i⟩;refine ⟨_,⟨Z,Z⟩,((i.pick 7 [0,5,1,2,3,4,6] Z).toPo (X:= {X with l:=h,clk:=d,Dd:=Gh X.Dd p}) (t:=some {T with C:=fup T.C p 0}) ⟨a.hn,a.fine,a.pg,a.tab,a.m0,a.cp,a.c0,a.one,λe=>(by cases e),λT' e=>?_⟩ Z)⟩;cases e;refine ⟨Q.m,Q.gn,W2,λk=>?_,?_,λq hq=>?_,λq hq=>?_⟩
 ·show fup T.C p 0 k<=1000
  unfold fup;split
  ·omega
  exact Q.c k
 ·show Dg T.F (Gh X.Dd p)=AV n (fup T.C p 0)
  funext q;have:Dg T.F X.Dd q=AV n T.C q:=by rw[Q.df]
  unfold Dg AV at this;unfold Dg Gh AV fup;rw[<-Bool.or_assoc,this];by_cases e:q=p
  ·subst e;simp[hp.2]
  simp[e]
 ·have b:Gh X.Dd p q=true:=hq
  unfold Gh at b;by_cases e:q=p
  ·subst e;exact f.1
  simp[e] at b;exact Q.dj q b
 show fup T.C p 0 q=1;rw[fup_ne _ _ U];exact Q.one q hq
theorem Zt(pp mb n:Nat)(M0:Nat->Pg)(C0:Nat->Nat)(T:PoT)(x:Pg)(hx:x.Ok)(o:Value)(B:Ai)(hB:∀h,B h->rdH 1 o 240 (x.body.map u8) h)(hk:T.k<40):
  Cn prog 82 [Y pp,.agg #[I x.kind,o]] [poA Tb pp mb n M0 C0 (some T),B] (λv Γ=>(cnt T.F 0 1024=0/\v=.tuple #[I 0,I 20]/\Γ=[poA Tb pp mb n M0 C0 (some T),B])\/
   ∃p f:Nat,(T.F p=true/\f<=T.k+1/\cnt (Dw T.F p) 0 1024+1=cnt T.F 0 1024)/\v=.tuple #[I (p:Int),I 0]/\Γ=[poA Tb pp mb n M0 C0 (some ⟨fup T.M p x,fup T.C p 1,Dw T.F p,f⟩),B]):=by
 intro z R w H;obtain ⟨X,a,H⟩:=H.po;have Q:=a.tx T Z;have K:=Q.k a.hn.1;have hn:=a.hn;by_cases hno:∀q,q<1024->T.F q=false
 ·refine Ret.mono (Cn.at (TJ pp X.ps X.pc X.pa n x hx o B hB T.F X.Dd (AV n C0) hno) H 8 [0,5,7,1,2,3,4,6] Z Z) ?_
  rintro v w' ⟨Γ',⟨rfl,rfl⟩,y⟩;refine ⟨_,.inl ⟨?_,Z,Z⟩,(y.pick 8 [0,3,4,5,6,1,7,2] Z).toPo a Z⟩;rw[GR (F:=T.F) (G:=BX) (λi hi=>by rw[hno _ U];rfl)];have:∀m,cnt BX 0 m=0:=λm=>by
   induction m with
   | zero=>rfl
   | succ m ih=>simp only[cnt,ih,BX];rfl
  exact this _
 have s:∃p,T.F p=true/\∀q,q<p->T.F q=false:=by
  have b:∃q,T.F q=true:=Afd λh=>hno (λq _=>by
   cases e:T.F q with
   | false=>rfl
   | true=>exact absurd ⟨q,e⟩ h)
  obtain ⟨q,hq⟩:=b;have:∀m q,q<=m->T.F q=true->∃p,T.F p=true/\∀q,q<p->T.F q=false:=λm=>by
   induction m with
   | zero=>intro q b u;exact ⟨q,u,λr hr=>by omega⟩
   | succ m ih=>
    intro q b u;by_cases h3:∃r,r<q/\T.F r=true
    ·obtain ⟨r,h4,h5⟩:=h3
     exact ih r U h5
    refine ⟨q,u,λr hr=>?_⟩
    cases e:T.F r with
    | false=>rfl
    | true=>exact absurd ⟨r,hr,e⟩ h3
  exact this q q (Aei _) hq
 obtain ⟨p,b,h0⟩:=s;obtain ⟨k1,f,k3⟩:=K.free p b;have hd:X.Dd p=false:=by
  cases e:X.Dd p with
  | false=>rfl
  | true=>have:=Q.dj p e;rw[b] at this;cases this
 refine Ret.mono (Cn.at (V1 pp X.ps X.pd X.pc X.bn X.mm X.pa n X.D X.G X.g T.k T.C C0 X.l X.clk T.F X.Dd (AV n C0) Q.W a.hn a.pg p x hx o B hB (λq=>by omega) k1 b h0 f X.A a.tab.1) H 8 [1,0,2,3,4,5,6,7] Z Z) ?_;rintro v w' ⟨Γ',⟨l2,d,W2,rfl,rfl⟩,y⟩;refine ⟨_,.inr ⟨p,_,⟨b,?_,?_⟩,Z,Z⟩,((y.pick 8 [1,0,2,3,4,5,6,7] Z).toPo (X:= {X with g:=pgSet X.g p x,l:=l2,clk:=d}) (t:=some ⟨fup T.M p x,fup T.C p 1,Dw T.F p,T.k+(if (X.g p).isSome then 0 else 1)⟩) ⟨a.hn,a.fine,a.pg,a.tab,a.m0,a.cp,a.c0,a.one,λe=>(by cases e),λT' e=>?_⟩ Z)⟩
 ·split<;>omega
 ·exact OD (F:=T.F) (G:=Dw T.F p) (i:=p) U b (by simp[Dw]) (λj hj=>by simp[Dw,hj])
 cases e
 have Q2:=Q.put (x:=x) (.inr k3) 0;refine ⟨Q2.m,Q2.gn,W2,λk=>?_,?_,λq hq=>?_,λq hq=>?_⟩
 ·show fup T.C p 1 k<=1000
  unfold fup;split
  ·omega
  exact Q.c k
 ·show Dg (Dw T.F p) X.Dd=AV n (fup T.C p 1)
  funext q;have:Dg T.F X.Dd q=AV n T.C q:=by rw[Q.df]
  unfold Dg AV at this;unfold Dg Dw AV fup;by_cases e:q=p
  ·subst e;simp[hd]
  simp only[e,decide_false,Bool.not_false,Bool.and_true,if_false];exact this
 ·have:=Q.dj q hq
  show Dw T.F p q=false;unfold Dw;rw[this];rfl
 show fup T.C p 1 q=1;rw[fup_ne _ _ U];exact Q.one q hq
end
section
def cutA(ao:Option Addr)(c p:Nat):Option Addr:=if c=p then ao else ao.map (·.add (p*1))
theorem rdH.cutA{f:Option Addr}{n c p m:Nat}{xs:List Int}{h:Hp}(r:rdH 1 (.slice f n c) n (xs.map I) h)(s:p+m<=n)(t:n<=c):rdH 1 (.slice (cutA f c p) m (c-p)) m (((xs.drop p).take m).map I) h:=by
 obtain ⟨k,c',e,w,v,l,q⟩:=r;cases e;refine ⟨_,_,Z,by omega,by omega,by simp at l ⊢;omega,λj u a=>?_⟩;have d:j<m:=by
  have:=(Aeb.1 a).1;simp at this;omega
 obtain ⟨b,o,rfl,i⟩:=q (p+j) u (by
  rw[Aeo] at a ⊢;rw[AeX,if_pos d,Afl] at a;exact a)
 refine ⟨b,o+p,?_,by rw[Agc];exact i⟩;unfold YtemljpjnhjnncaaGreatDoor.cutA;rw[if_neg U];simp only[AeR,AeP];unfold Addr.add;split
 ·rename_i g;simp[g]
 rfl
theorem rdH.slcap{b:Option Addr}{n c:Nat}{xs:List Value}(r:rdH 1 (.slice b n c) n xs h):n<=c/\c<=9223372036854775807/\xs.length=n:=by
 obtain ⟨a,c',e,f,d,g,i⟩:=r;cases e;exact ⟨f,d,by omega⟩
theorem GS:∀c∈l.map I,c.oneCell'=true:=λc a=>by
 obtain ⟨x,_,rfl⟩:=Aek.1 a;rfl
section
variable{P:Program}{C:World->Prop}{o:Oper}{n:Nat}{ds:List Deferred}{L:List (Nat×Value)}{x y:Operand}
theorem OI{lo hi:Option Operand}{e:Option Addr}{p q l' c':Nat}(g:o.op=.slice T x lo hi none)(h:Dn P T=some 1)
  (l:ev L x=some (.slice e m j))(c:(lo=none/\p=0)\/∃y k i,lo=some y/\ev L y=some (.int k i)/\i=(p:Int))(d:(hi=none/\q=m)\/∃y k i,hi=some y/\ev L y=some (.int k i)/\i=(q:Int))(a:p<=q)(b:q<=j)
  (f:q-p=l')(r:j-p=c'):Au P C n ds L o (.slice (cutA e j p) l' c'):=by
 subst f r;exact Jd g h l c d a b
end
structure CkN(lf:Bool)(ks vs:List Int):Prop where
 len:ks.length=vs.length
 l8:ks.length<=8
 ne:lf=true\/0<ks.length
 k:∀x∈ks,0<=x/\x<1048576
 v:∀y∈vs,1<=y/\y<1024
 s:∀(i:Nat) (x y:Int),ks[i]?=some x->ks[i+1]?=some y->x<y
structure FdI(ks:List Int)(key:Int)(at_:Nat):Prop where
 le:at_<=ks.length
 lt:∀(j:Nat) (x:Int),j<at_->ks[j]?=some x->x<key
 ge:∀x,ks[at_]?=some x->key<=x
structure FcI(ks:List Int)(key:Int)(at_:Nat):Prop where
 le:at_<=ks.length
 lt:∀(j:Nat) (x:Int),j<at_->ks[j]?=some x->x<=key
 ge:∀x,ks[at_]?=some x->key<x
theorem Eb{x:Int}(h:m<l.length):(l.map I++V).take m++[I x]++(l.map I++V).drop (m+1)=(l.set m x).map I++V:=by
 have e:=Afa (l:=l) (i:=m) (a:=x);rw[if_pos h] at e;rw[e,Aet (by simp;omega),AeT (by simp;omega)];simp[Afp,AfU]
theorem HQ{y:Int}:Cn prog 216 [I t,I y] [] (λv Γ=>v=.bool (decide ((0<=t/\t<1048576)/\1<=y/\y<1024))/\Γ=[]):=by
 intro z R w H;refine Ae func216 Z ntmps216 Z (Z0 10 [0] Z (Al 7 Z (λc=>?_) (λc=>?_)))
 ·refine Z0 4 [0] Z (Al 11 Z (λa=>?_) (λa=>?_))
  ·refine Z0 4 [0] Z (Al 15 Z (λb=>?_) (λb=>?_))
   ·refine Z0 7 [0] Z (Zr Z ?_);exact ⟨_,⟨congrArg Value.bool (by first|(rw[Aew];simp<;>omega)|(simp<;>omega)),Z⟩,H⟩
   refine Zc 7 Z (Zr Z ?_);exact ⟨_,⟨congrArg Value.bool (by first|(rw[Aew];simp<;>omega)|(simp<;>omega)),Z⟩,H⟩
  refine Zc 11 Z (Zr Z ?_);exact ⟨_,⟨congrArg Value.bool (by first|(rw[Aew];simp<;>omega)|(simp<;>omega)),Z⟩,H⟩
 refine Zc 15 Z (Zr Z ?_);exact ⟨_,⟨congrArg Value.bool (by first|(rw[Aew];simp<;>omega)|(simp<;>omega)),Z⟩,H⟩
theorem CT{kv vv:Value}(e vs:List Int){B:Ai}(m:∀h,A h->rdH 1 kv e.length (e.map I) h)(hB:∀h,B h->rdH 1 vv vs.length (vs.map I) h)(d:CkN b e vs):Cn prog 177 [.agg #[.bool b,kv,vv]] [A,B] (λv Γ=>v=I 0/\Γ=[A,B]):=by
 intro z R w H;obtain ⟨ka,kc,rfl⟩:=H.sy 0 (λq=>(m _ q).slc);obtain ⟨va,vc,rfl⟩:=H.sy 1 (λq=>(hB _ q).slc);have a9:=H.sy 0 (λq=>(m _ q).slcap);have b0:=H.sy 1 (λq=>(hB _ q).slcap);have a8:=d.len;have b2:=d.l8;have a2:=d.ne;refine Ae func177 Z ntmps177 Z (Za 2 [] H Z ?_);intro b1 w H;refine Z2 14 [1,0,0,2,0,0,0] H Z (Al 11 Z (λh1=>U) (λh1=>?_));refine Z2 6 [1,0,0,0] H Z (Al 17 Z (λh2=>U) (λh2=>?_));refine Z2 4 [0,0,0] H Z (FO 21 Z (λh3=>?_) (λh3=>?_))
 ·refine Z2 8 [1,0,0,0] H Z (Af Z (λh4=>?_) (λh4=>?_))
  ·(exfalso;rcases a2 with q|q<;>simp_all)
  refine Z2 12 [1,0,0] H Z ?_;refine AB (σ:=Nat) (λi=>[(31,I (i:Int)),(1,Y b1),(30,I (e.length:Int))])
    (λi w=>Sep z (blk b1 [.bool b,.slice ka e.length kc,.slice va vs.length vc] 201::A::B::R) w/\(i<=e.length)) (λi=>e.length-i) 0
    fr_z ⟨H,AeO _⟩ ?_
  clear H;rintro i w ⟨l,hI⟩;have H:=l.l3;clear hI;refine Z0 6 [0] Z (Af Z (λh5=>?_) (λh5=>?_))
  ·obtain ⟨x,c⟩:∃x,e[i]?=some x:=⟨_,Aed U⟩;obtain ⟨y,p⟩:∃y,vs[i]?=some y:=⟨_,Aed U⟩;have a4:=d.k x (Aec c)
   have a5:=d.v y (Aec p);refine Zc 11 Z ?_;have f:=(H.rd 1 Z m).at (j:=i) (u:=I x) (by simp[c]);have t:=(H.rd 2 Z hB).at (j:=i) (u:=I y) (by simp[p]);refine Bv (Sep z _) J J H.drew (DZ 3 [1,0] (λ_ c=>(AO (c.blk 0 Z) AM)) Z J Z (AL Z Z Z (Aj Z (z:=1) (j:=i) (r:=i) J Z Z Z U f U) (AL Z Z Z (Ax Z Z J (λ_ a=>(a.rd 1 Z m).at (j:=i) (u:=I x) (by simp[c]))) (DZ 3 [2,0] (λ_ c=>(AO (c.blk 0 Z) AM)) Z J Z (AL Z Z Z (Aj Z (z:=1) (j:=i) (r:=i) J Z Z Z U t U) (AL Z Z Z (Ax Z Z J (λ_ a=>(a.rd 2 Z hB).at (j:=i) (u:=I y) (by simp[p]))) (Dm Z Z Z Z Z (λw=>call216 _ w) (v:=.bool (decide ((0<=x/\x<1048576)/\1<=y/\y<1024))) (cq (HQ) (by rintro _ _ ⟨rfl,rfl⟩;exact ⟨Z,Z⟩) 0 [] [] Z Z Z Z) (AL Z Z Z (AF Z Z) (B0 1 [] Z J (Cd 46 Z (λh6=>U) (λh6=>?_)))))))))));refine B0 3 [] Z J (Cd 49 Z (λh7=>?_) (λh7=>?_))
   ·obtain ⟨n,g⟩:∃n,e[i-1]?=some n:=⟨_,Aed U⟩;have a0:=d.s (i-1) n x g (by rw[show i-1+1=i by omega];exact c)
    refine G4 4 [1,0,0] [(i:Int)-1] Z J U (AL Z Z Z (Aj Z (z:=1) (j:=(i-1)) (r:=(i-1)) J Z Z U U f U) (AL Z Z Z (Ax Z Z J (λ_ a=>(a.rd 1 Z m).at (j:=i-1) (u:=I n) (by simp[g]))) (DZ 3 [1,0] (λ_ c=>(AO (c.blk 0 Z) AM)) Z J Z (AL Z Z Z (Aj Z (z:=1) (j:=i) (r:=i) J Z Z Z U f U) (AL Z Z Z (Ax Z Z J (λ_ a=>(a.rd 1 Z m).at (j:=i) (u:=I x) (by simp[c]))) (B0 3 [] Z J (BI (λw l=>?_))))))));have H:=l.l3;refine gn (Zc 1 Z (Af Z (λh8=>U) (λh8=>?_)));refine Z1 7 [] [(i:Int)+1] Z U (gf ?_);intro _ o;refine ⟨(i+1),o.cz,⟨H,?_⟩,?_⟩
    ·omega
    omega
   refine B0 14 [] Z J (BI (λw l=>?_));have H:=l.l3;refine gn (Z1 9 [] [(i:Int)+1] Z U (gf ?_));intro _ o;refine ⟨(i+1),o.cz,⟨H,?_⟩,?_⟩
   ·omega
   omega
  refine Zc 2 Z (gx (Zc 8 Z (Zr Z ?_)));exact ⟨_,⟨Z,Z⟩,H.perm 3 [1,2] Z Z⟩
 refine Z2 21 [1,0,0] H Z ?_;refine AB (σ:=Nat) (λi=>[(31,I (i:Int)),(1,Y b1),(30,I (e.length:Int))])
   (λi w=>Sep z (blk b1 [.bool b,.slice ka e.length kc,.slice va vs.length vc] 201::A::B::R) w/\(i<=e.length)) (λi=>e.length-i) 0
   fr_z ⟨H,AeO _⟩ ?_
 clear H;rintro i w ⟨l,hI⟩;have H:=l.l3;clear hI;refine Z0 6 [0] Z (Af Z (λh9=>?_) (λh9=>?_))
 ·obtain ⟨x,c⟩:∃x,e[i]?=some x:=⟨_,Aed U⟩;obtain ⟨y,p⟩:∃y,vs[i]?=some y:=⟨_,Aed U⟩;have a4:=d.k x (Aec c)
  have a5:=d.v y (Aec p);refine Zc 11 Z ?_;have f:=(H.rd 1 Z m).at (j:=i) (u:=I x) (by simp[c]);have t:=(H.rd 2 Z hB).at (j:=i) (u:=I y) (by simp[p]);refine Bv (Sep z _) J J H.drew (DZ 3 [1,0] (λ_ c=>(AO (c.blk 0 Z) AM)) Z J Z (AL Z Z Z (Aj Z (z:=1) (j:=i) (r:=i) J Z Z Z U f U) (AL Z Z Z (Ax Z Z J (λ_ a=>(a.rd 1 Z m).at (j:=i) (u:=I x) (by simp[c]))) (DZ 3 [2,0] (λ_ c=>(AO (c.blk 0 Z) AM)) Z J Z (AL Z Z Z (Aj Z (z:=1) (j:=i) (r:=i) J Z Z Z U t U) (AL Z Z Z (Ax Z Z J (λ_ a=>(a.rd 2 Z hB).at (j:=i) (u:=I y) (by simp[p]))) (Dm Z Z Z Z Z (λw=>call216 _ w) (v:=.bool (decide ((0<=x/\x<1048576)/\1<=y/\y<1024))) (cq (HQ) (by rintro _ _ ⟨rfl,rfl⟩;exact ⟨Z,Z⟩) 0 [] [] Z Z Z Z) (AL Z Z Z (AF Z Z) (B0 1 [] Z J (Cd 46 Z (λa1=>U) (λa1=>?_)))))))))));refine B0 3 [] Z J (Cd 49 Z (λa6=>?_) (λa6=>?_))
  ·obtain ⟨n,g⟩:∃n,e[i-1]?=some n:=⟨_,Aed U⟩;have a0:=d.s (i-1) n x g (by rw[show i-1+1=i by omega];exact c)
   refine G4 4 [1,0,0] [(i:Int)-1] Z J U (AL Z Z Z (Aj Z (z:=1) (j:=(i-1)) (r:=(i-1)) J Z Z U U f U) (AL Z Z Z (Ax Z Z J (λ_ a=>(a.rd 1 Z m).at (j:=i-1) (u:=I n) (by simp[g]))) (DZ 3 [1,0] (λ_ c=>(AO (c.blk 0 Z) AM)) Z J Z (AL Z Z Z (Aj Z (z:=1) (j:=i) (r:=i) J Z Z Z U f U) (AL Z Z Z (Ax Z Z J (λ_ a=>(a.rd 1 Z m).at (j:=i) (u:=I x) (by simp[c]))) (B0 3 [] Z J (BI (λw l=>?_))))))));have H:=l.l3;refine gn (Zc 1 Z (Af Z (λa7=>U) (λa7=>?_)));refine Z1 7 [] [(i:Int)+1] Z U (gf ?_);intro _ o;refine ⟨(i+1),o.cz,⟨H,?_⟩,?_⟩
   ·omega
   omega
  refine B0 14 [] Z J (BI (λw l=>?_));have H:=l.l3;refine gn (Z1 9 [] [(i:Int)+1] Z U (gf ?_));intro _ o;refine ⟨(i+1),o.cz,⟨H,?_⟩,?_⟩
  ·omega
  omega
 refine Zc 2 Z (gx (Zc 8 Z (Zr Z ?_)));exact ⟨_,⟨Z,Z⟩,H.perm 3 [1,2] Z Z⟩
theorem Jx(lf:Bool)(kv p:Value)(a vs:List Int)(A B:Ai)(g:∀h,A h->rdH 1 kv a.length (a.map I) h)(s:∀h,B h->rdH 1 p vs.length (vs.map I) h)(key:Int)(a2:a.length<=8):Cn prog 133 [.agg #[.bool lf,kv,p],I key] [A,B] (λv Γ=>∃i:Nat,FdI a key i/\v=.tuple #[I (i:Int),.bool (decide (a[i]?=some key))]/\Γ=[A,B]):=by
 intro z R w H;obtain ⟨ka,kc,rfl⟩:=H.sy 0 (λq=>(g _ q).slc);obtain ⟨va,vc,rfl⟩:=H.sy 1 (λq=>(s _ q).slc);have a0:=H.sy 0 (λq=>(g _ q).slcap);refine Ae func133 Z ntmps133 Z (Za 2 [] H Z ?_);intro t w H;refine Zc 11 Z ?_;refine AB (σ:=Nat) (λi=>[(6,I (i:Int)),(1,I key),(2,Y t),(4,I 0),(5,.bool false)])
   (λi w=>Sep z (blk t [.bool lf,.slice ka a.length kc,.slice va vs.length vc] 201::A::B::R) w/\(i<=a.length/\∀(j:Nat) (x:Int),j<i->a[j]?=some x->x<key)) (λi=>a.length-i) 0
   fr_z ⟨H,⟨AeO _,λj x h=>by omega⟩⟩ ?_
 clear H;rintro i w ⟨l,hI⟩;have H:=l.l3;obtain ⟨k,c⟩:=hI;refine Z2 9 [1,0,0,0] H Z (Al 12 Z (λn=>?_) (λn=>?_))
 ·obtain ⟨x,e⟩:∃x,a[i]?=some x:=⟨_,Aed U⟩;refine Z2 3 [1,0,0] H Z ?_;have m:=(H.rd 1 Z g).at (j:=i) (u:=I x) (by simp[e])
  refine Ab Z (Aj Z (z:=1) (j:=i) (r:=i) J Z Z Z U m U) (Ab Z (Ax Z Z J (Ay ((H.rd 1 Z g).at (j:=i) (u:=I x) (by simp[e])))) (Z0 5 [0] Z (Af Z (λh2=>?_) (λh2=>?_))))
  ·refine Z1 9 [] [(i:Int)+1] Z U (gf ?_);intro _ f;refine ⟨(i+1),f.cz,⟨H,?_⟩,?_⟩
   ·refine ⟨by omega,λj y hj d=>?_⟩;rcases Aeq j i with h|h
    ·exact c j y h d
    obtain rfl:j=i:=by omega
    rw[e] at d;cases d;omega
   omega
  refine Zc 2 Z (gx (Zc 3 Z (Bv (Sep z _) J J H.drew (GF 7 [1,0,0,0] [] Z J (Cd 29 Z (λh3=>?_) (λh3=>?_))))))
  ·refine DZ 3 [1,0] (λ_ e=>(AO (e.blk 0 Z) AM)) Z J Z (AL Z Z Z (Aj Z (z:=1) (j:=i) (r:=i) J Z Z Z U m U) (AL Z Z Z (Ax Z Z J (λ_ o=>(o.rd 1 Z g).at (j:=i) (u:=I x) (by simp[e]))) (B0 5 [] Z J (BI (λw l=>?_)))));have H:=l.l3;refine gn (Zc 2 Z (Zr Z ?_));have f:FdI a key i:=⟨k,c,λy d=>by rw[e] at d;cases d;omega⟩
   exact ⟨_,⟨i,f,(congrArg (λb=>Value.tuple #[I (i:Int),.bool b]) (decide_eq_decide.2 (by rw[e];simp))),Z⟩,H.perm 3 [1,2] Z Z⟩
  exact absurd n h3
 refine Zc 13 Z (gx (Zc 3 Z (Bv (Sep z _) J J H.drew (GF 7 [1,0,0,0] [] Z J (Cd 29 Z (λh4=>?_) (λh4=>?_))))))
 ·exact absurd h4 n
 refine B0 10 [] Z J (BI (λw l=>?_));have H:=l.l3;refine gn (Zc 2 Z (Zr Z ?_));have f:FdI a key i:=⟨k,c,λy d=>by rw[AeI U] at d;cases d⟩;exact ⟨_,⟨i,f,(congrArg (λb=>Value.tuple #[I (i:Int),.bool b]) (decide_eq_false (by rw[AeI U];simp)).symm),Z⟩,H.perm 3 [1,2] Z Z⟩
theorem Wb(lf:Bool)(p g:Value){vs:List Int}(A B:Ai)(e:∀h,A h->rdH 1 p l.length (l.map I) h)(k:∀h,B h->rdH 1 g vs.length (vs.map I) h)(key:Int)(a0:l.length<=8):Cn prog 134 [.agg #[.bool lf,p,g],I key] [A,B] (λv Γ=>∃i:Nat,FcI l key i/\v=I ((i-1:Nat):Int)/\Γ=[A,B]):=by
 intro z R w H;obtain ⟨ka,kc,rfl⟩:=H.sy 0 (λq=>(e _ q).slc);obtain ⟨va,vc,rfl⟩:=H.sy 1 (λq=>(k _ q).slc);have n:=H.sy 0 (λq=>(e _ q).slcap);refine Ae func134 Z ntmps134 Z (Za 2 [] H Z ?_);intro m w H;refine Zc 10 Z ?_;refine AB (σ:=Nat) (λi=>[(5,I (i:Int)),(1,I key),(2,Y m),(4,I 0)])
   (λi w=>Sep z (blk m [.bool lf,.slice ka l.length kc,.slice va vs.length vc] 201::A::B::R) w/\(i<=l.length/\∀(j:Nat) (x:Int),j<i->l[j]?=some x->x<=key)) (λi=>l.length-i) 0
   fr_z ⟨H,⟨AeO _,λj x h=>by omega⟩⟩ ?_
 clear H;rintro i w ⟨H',hI⟩;have H:=H'.l3;obtain ⟨c,a⟩:=hI;refine Z2 9 [1,0,0,0] H Z (Al 11 Z (λs=>?_) (λs=>?_))
 ·obtain ⟨x,d⟩:∃x,l[i]?=some x:=⟨_,Aed U⟩;refine Z2 3 [1,0,0] H Z ?_;have f:=(H.rd 1 Z e).at (j:=i) (u:=I x) (by simp[d])
  refine Ab Z (Aj Z (z:=1) (j:=i) (r:=i) J Z Z Z U f U) (Ab Z (Ax Z Z J (Ay ((H.rd 1 Z e).at (j:=i) (u:=I x) (by simp[d])))) (Z0 5 [0] Z (Af Z (λh2=>?_) (λh2=>?_))))
  ·refine Z1 9 [] [(i:Int)+1] Z U (gf ?_);intro _ t;refine ⟨(i+1),t.cz,⟨H,?_⟩,?_⟩
   ·refine ⟨by omega,λj y hj b=>?_⟩;rcases Aeq j i with h|h
    ·exact a j y h b
    obtain rfl:j=i:=by omega
    rw[d] at b;cases b;omega
   omega
  refine Zc 2 Z (gx (Z1 6 [] [(i:Int)-1] Z U (Ab Z (Nb Z Z Z) (Zc 4 Z (Zr Z ?_)))));exact ⟨_,⟨i,⟨c,a,λy b=>by rw[d] at b;cases b;omega⟩,congrArg I U,Z⟩,H.perm 3 [1,2] Z Z⟩
 refine Zc 13 Z (gx (Z1 6 [] [(i:Int)-1] Z U (Ab Z (Nb Z Z Z) (Zc 4 Z (Zr Z ?_)))));exact ⟨_,⟨i,⟨c,a,λy b=>by rw[AeI U] at b;cases b⟩,congrArg I U,Z⟩,H.perm 3 [1,2] Z Z⟩
end
theorem DX(e vs:List Int){B:Ai}(r:∀h,A h->rdH 1 u e.length (e.map I) h)(m:∀h,B h->rdH 1 y vs.length (vs.map I) h)(p q:Nat)(a2:p<=q)(hq:q<=e.length)(x:e.length=vs.length)(a c:List Int)(l:(e.drop p).take (q-p)=a)(k:(vs.drop p).take (q-p)=c)(a3:e.length<=16):Cn prog 221 [.agg #[.bool b,u,y],I (p:Int),I (q:Int)] [A,B] (λv Γ=>∃v1 v2:Value,v=.agg #[.bool b,v1,v2]/\Γ=[grow 3 1 v1 a.length (a.map I),grow 3 1 v2 c.length (c.map I),A,B]):=by
 intro z R w H;replace H:=H.l2;obtain ⟨ka,kc,rfl⟩:=H.sy 0 (λq=>(r _ q).slc);obtain ⟨va,vc,rfl⟩:=H.sy 1 (λq=>(m _ q).slc);have a0:=H.sy 0 (λq=>(r _ q).slcap);have a1:=H.sy 1 (λq=>(m _ q).slcap);refine Ae func221 Z ntmps221 Z (Za 2 [] H Z ?_);intro b1 w H;refine Za 0 [] H Z ?_;intro b2 w H;refine Zc 3 Z ?_;replace H:=H.f3.f3.f3;refine AN (Sep z (blk b1 [.bool b,.slice ka e.length kc,.slice va vs.length vc] 201::A::B::R)) 16 Z J (AZ H λw d=>?_);have H:=d.l4;refine AT [0,1,2,3,4,5] [0,0,0,1,0,0] [] (by exact H.pick 4 [0,1,2] Z) Z J Z (BN 6 Z J J J Z Z Z (OI (p:=p) (q:=q) (l':=q-p) (c':=kc-p) Z J Z (.inr ⟨_,_,_,Z,Z,Z⟩) (.inr ⟨_,_,_,Z,Z,Z⟩) U U Z Z) (H.pick 4 [0,1,2] Z) (AT [8,9,10,11] [2,0,0] [] (by exact H.pick 4 [0,1,2] Z) Z J Z (BN 12 Z J J J Z Z Z (OI (p:=p) (q:=q) (l':=q-p) (c':=vc-p) Z J Z (.inr ⟨_,_,_,Z,Z,Z⟩) (.inr ⟨_,_,_,Z,Z,Z⟩) U U Z Z) (H.pick 4 [0,1,2] Z) (AC [7] J O (Am ?_)))));replace H:=(H.nilg 3 1).l5;refine Ca Z Z Z Z (A0 0 H Z Z J BA Z Z (H.rv 2 (λq=>(r _ q).cutA U U)) (GS) U) ?_;rintro v3 w d;have t:([]++((e.drop p).take (q-p)).map I:List Value)=a.map I:=(by rw[AeQ,l]);rw[t] at d;rw[show (0+(q-p):Nat)=a.length from (by rw[AfM,<-l];simp;omega)] at d;have H:=d.l5;have s:=H.sy 0 (·.slc);refine Av (H.pick 5 [1,2,3] Z) (AC [13] J O (Am ?_));replace H:=(H.nilg 3 1).l6;refine Ca Z Z Z Z (A0 0 H Z Z J BA Z Z (H.rv 4 (λq=>(m _ q).cutA U U)) (GS) U) ?_;rintro v4 w d;have o:([]++((vs.drop p).take (q-p)).map I:List Value)=c.map I:=(by rw[AeQ,k]);rw[o] at d;rw[show (0+(q-p):Nat)=c.length from (by rw[AfM,<-k];simp;omega)] at d;have H:=d.l6;have n:=H.sy 0 (·.slc);refine Av (H.pick 6 [2,3,4] Z) ?_;obtain ⟨f,i,rfl⟩:=s;obtain ⟨j,g,rfl⟩:=n;refine AT [14] [] [] (by exact H.pick 6 [2,3,4] Z) Z J Z (AC [15] J O (Am (Bi Z Z Z (Ak 5 H Z Z Z Z (vs:=[.bool b,.slice f a.length i,.slice j c.length g]) Z (by simp[u8,u32,Value.oneCell']) J O (out:=[.bool b,.slice f a.length i,.slice j c.length g]) Z) ?_)));rintro w H;replace H:=H.l6;refine Av (H.pick 6 [2,3,4] Z) (a_done J (gn (Zc 2 Z (Zl [5,3] H Z ?_))));exact ⟨_,⟨.slice f a.length i,.slice j c.length g,Z,Z⟩,H.perm 6 [1,0,3,4] Z Z⟩
theorem Fk(d a:List Int){B1:Ai}(r:∀h,A h->rdH 1 u d.length (d.map I) h)(t:∀h,B1 h->rdH 1 y a.length (a.map I) h){kv2 vv2:Value}(e f:List Int){A2 B2:Ai}(m:∀h,A2 h->rdH 1 kv2 e.length (e.map I) h)(p:∀h,B2 h->rdH 1 vv2 f.length (f.map I) h)(c1:d.length=a.length)(c4:e.length=f.length)(c2:d.length<=16)(c3:e.length<=16)(o vs:List Int)(hk:d++e=o)(hv:a++f=vs):Cn prog 220 [.agg #[.bool b,u,y],.agg #[.bool c,kv2,vv2]] [A,B1,A2,B2] (λv Γ=>∃v1 v2:Value,v=.agg #[.bool b,v1,v2]/\Γ=[grow 3 1 v1 o.length (o.map I),grow 3 1 v2 vs.length (vs.map I),A,B1,A2,B2]):=by
 intro z R w H;replace H:=H.l4;obtain ⟨a9,a3,rfl⟩:=H.sy 0 (λq=>(r _ q).slc);obtain ⟨a4,x,rfl⟩:=H.sy 1 (λq=>(t _ q).slc);have b8:=H.sy 0 (λq=>(r _ q).slcap);have b0:=H.sy 1 (λq=>(t _ q).slcap);obtain ⟨a7,a2,rfl⟩:=H.sy 2 (λq=>(m _ q).slc);obtain ⟨a8,a6,rfl⟩:=H.sy 3 (λq=>(p _ q).slc);have b6:=H.sy 2 (λq=>(m _ q).slcap);have b4:=H.sy 3 (λq=>(p _ q).slcap);refine Ae func220 Z ntmps220 Z (Za 2 [] H Z ?_);intro b1 w H;refine Za 0 [] H Z ?_;intro b2 w H;refine Za 0 [] H Z ?_;intro b3 w H;refine Z2 8 [2,3,1,2,0] H Z (Aq Z (call221 _) (DX d a r t 0 d.length U U U d a O (by rw[Ag3,Aeu,c1];simp) U) H.f4.f4 ?_);rintro _ w _ ⟨v4,v5,rfl,rfl⟩ H;replace H:=H.l9;have b5:=H.sy 0 (·.slc);obtain ⟨c0,b9,rfl⟩:=b5;have b7:=H.sy 1 (·.slc);obtain ⟨n,s,rfl⟩:=b7;refine Za 0 [] H Z ?_;intro a5 w H;refine Z4 9 [0,1,0,0,1,6,0] H Z ?_;intro w H;refine AR Z (A0 1 H Z Z J BA Z Z (H.rd 8 Z m) (GS) U) ?_;rintro g w j;have j:Sep z (blk a5 [.bool b,.slice c0 d.length b9,.slice n a.length s] 201::grow 3 1 g (d.length+e.length) (d.map I++e.map I)::grow 3 1 (.slice n a.length s) a.length (a.map I)::A::B1::blk b3 [.bool false,.slice none 0 0,.slice none 0 0] 201::blk b2 [.bool c,.slice a7 e.length a2,.slice a8 f.length a6] 201::blk b1 [.bool b,.slice a9 d.length a3,.slice a4 a.length x] 201::A2::B2::R) w:=j;have a1:(d.map I++e.map I:List Value)=o.map I:=(by rw[<-AeH,hk]);rw[a1] at j;rw[show (d.length+e.length:Nat)=o.length from (by rw[<-hk,Aee])] at j;have H:=j.l10;have k:=H.sy 1 (·.slc);refine Z0 1 [1] Z (Az Z Z (Lq 0 H Z Z Z Z k.cells k.one J) ?_);rintro w H;replace H:=H.l10;refine Z2 8 [2,0,0,2,6,0] H Z (AR Z (A0 2 H Z Z J BA Z Z (H.rd 9 Z p) (GS) U) ?_);rintro l w j;have j:Sep z (blk a5 [.bool b,g,.slice n a.length s] 201::grow 3 1 g o.length (o.map I)::grow 3 1 l (a.length+f.length) (a.map I++f.map I)::A::B1::blk b3 [.bool false,.slice none 0 0,.slice none 0 0] 201::blk b2 [.bool c,.slice a7 e.length a2,.slice a8 f.length a6] 201::blk b1 [.bool b,.slice a9 d.length a3,.slice a4 a.length x] 201::A2::B2::R) w:=j;have a0:(a.map I++f.map I:List Value)=vs.map I:=(by rw[<-AeH,hv]);rw[a0] at j;rw[show (a.length+f.length:Nat)=vs.length from (by rw[<-hv,Aee])] at j;have H:=j.l10;have i:=H.sy 2 (·.slc);refine Z0 1 [2] Z (Az Z Z (JT 0 H Z Z Z Z i.cells i.one J) ?_);rintro w H;replace H:=H.l10;refine Z2 5 [0,3] H Z (Az Z Z (Ak 5 H Z Z Z Z (vs:=[.bool b,g,l]) Z (Ad Z (Ad k.one (Ad i.one Aw))) J O (out:=[.bool b,g,l]) Z) ?_);rintro w H;replace H:=H.l10;refine Zc 3 Z (Zl [5,3] H Z ?_);exact ⟨_,⟨g,l,Z,Z⟩,H.perm 10 [1,2,3,4,8,9] Z Z⟩
theorem ML(a vs:List Int){B:Ai}(t:∀h,A h->rdH 1 u a.length (a.map I) h)(s:∀h,B h->rdH 1 y vs.length (vs.map I) h)(a5:a.length=vs.length)(b0:a.length<=16)(e c f d:List Int)(x:a.take ((a.length+1)/2)=e)(a3:vs.take ((a.length+1)/2)=c)(a4:a.drop ((a.length+1)/2)=f)(a2:vs.drop ((a.length+1)/2)=d):Cn prog 246 [.agg #[.bool b,u,y]] [A,B] (λv Γ=>∃v1 v2 v3 v4:Value,v=.tuple #[.agg #[.bool b,v1,v2],.agg #[.bool b,v3,v4]]/\Γ=[grow 3 1 v1 e.length (e.map I),grow 3 1 v2 c.length (c.map I),grow 3 1 v3 f.length (f.map I),grow 3 1 v4 d.length (d.map I),A,B]):=by
 intro z R w H;replace H:=H.l2;obtain ⟨ka,kc,rfl⟩:=H.sy 0 (λq=>(t _ q).slc);obtain ⟨va,vc,rfl⟩:=H.sy 1 (λq=>(s _ q).slc);have a6:=H.sy 0 (λq=>(t _ q).slcap);have a7:=H.sy 1 (λq=>(s _ q).slcap);refine Ae func246 Z ntmps246 Z (Za 2 [] H Z ?_);intro b1 w H;refine Za 0 [] H Z ?_;intro b2 w H;refine Za 0 [] H Z ?_;intro b3 w H;refine Z3 13 [1,2,0] [(a.length:Int)+1,(((a.length+1)/2:Nat):Int)] H Z U ?_;replace H:=H.f4.f4.f4;refine AN (Sep z (blk b1 [.bool b,.slice ka a.length kc,.slice va vs.length vc] 201::A::B::R)) 11 Z J (AZ H λw H'=>?_);have H:=H'.l5;refine AT [0,1,3,4,5,6,7] [0,3,0,3,1,0,0] [] (by exact H.pick 5 [0,1,2] Z) Z J Z (AC [2] J O (Am (Bo Z Z Z Z Z Z (λw=>call221 _ w) (DX a vs t s 0 ((a.length+1)/2) U U U e c (by simpa using x) (by simpa using a3) U) H.f2.f2 Z ?_)));rintro _ w _ ⟨v4,v5,rfl,rfl⟩ H;replace H:=H.l7;have a0:=H.sy 0 (·.slc);obtain ⟨n,m,rfl⟩:=a0;have a1:=H.sy 1 (·.slc);obtain ⟨l,o,rfl⟩:=a1;refine Av (H.pick 7 [4,2,3] Z) (AC [8] J O (Am (Bo Z Z Z Z Z Z (λw=>call221 _ w) (DX a vs t s ((a.length+1)/2) a.length U U U f d (by rw[Aej O];exact a4) (by rw[Aej (by simp;omega)];exact a2) U) H.f3.f3 Z ?_)));rintro _ w _ ⟨a8,a9,rfl,rfl⟩ H;replace H:=H.l9;have p:=H.sy 0 (·.slc);obtain ⟨i,k,rfl⟩:=p;have r:=H.sy 1 (·.slc);obtain ⟨g,j,rfl⟩:=r;refine Av (H.pick 9 [6,2,3] Z) (AC [9] J O (Am (Bi Z Z Z (Ak 8 H Z Z Z Z (vs:=[.bool b,.slice n e.length m,.slice l c.length o]) Z (by simp[u8,u32,Value.oneCell']) J O (out:=[.bool b,.slice n e.length m,.slice l c.length o]) Z) ?_)));rintro w H;replace H:=H.l9;refine Av (H.pick 9 [6,2,3] Z) (AC [10] J O (Am (Bi Z Z Z (Ak 7 H Z Z Z Z (vs:=[.bool b,.slice i f.length k,.slice g d.length j]) Z (by simp[u8,u32,Value.oneCell']) J O (out:=[.bool b,.slice i f.length k,.slice g d.length j]) Z) ?_)));rintro w H;replace H:=H.l9;refine Av (H.pick 9 [6,2,3] Z) (a_done J (gn (Zc 2 Z (Zl [8,3,7,3] H Z ?_))));exact ⟨_,⟨.slice n e.length m,.slice l c.length o,.slice i f.length k,.slice g d.length j,Z,Z⟩,H.perm 9 [4,5,0,1,2,3] Z Z⟩
theorem Wd(lf:Bool)(kv vv:Value){vs:List Int}(A B:Ai)(r:∀h,A h->rdH 1 kv l.length (l.map I) h)(p:∀h,B h->rdH 1 vv vs.length (vs.map I) h)(o:CkN lf l vs)(a9:2<=l.length)(c a d b:List Int)(u:l.take ((l.length+1)/2)=c)(a3:vs.take ((l.length+1)/2)=a)(a4:l.drop ((l.length+1)/2)=d)(a2:vs.drop ((l.length+1)/2)=b):Cn prog 219 [.agg #[.bool lf,kv,vv]] [A,B] (λv Γ=>∃v1 v2 v3 v4:Value,v=.tuple #[.agg #[.bool lf,v1,v2],.agg #[.bool lf,v3,v4],I 0]/\Γ=[grow 3 1 v1 c.length (c.map I),grow 3 1 v2 a.length (a.map I),grow 3 1 v3 d.length (d.map I),grow 3 1 v4 b.length (b.map I),A,B]):=by
 intro z R w H;replace H:=H.l2;obtain ⟨ka,kc,rfl⟩:=H.sy 0 (λq=>(r _ q).slc);obtain ⟨va,vc,rfl⟩:=H.sy 1 (λq=>(p _ q).slc);have a6:=H.sy 0 (λq=>(r _ q).slcap);have a7:=H.sy 1 (λq=>(p _ q).slcap);have a5:=o.len;have a8:=o.l8;refine Ae func219 Z ntmps219 Z (Za 2 [] H Z ?_);intro b1 w H;refine Za 0 [] H Z ?_;intro b2 w H;refine Za 0 [] H Z ?_;intro b3 w H;refine Z2 7 [2,3] H Z (z_E_ Z (call177 _) (CT l vs r p o) H.f4.f4 ?_);intro w H;refine Z2 9 [4,1,4,0,0] H Z (Af Z (λh1=>U) (λh1=>?_));refine Z2 5 [4,3] H Z (Aq Z (call246 _) (ML l vs r p U U c a d b u a3 a4 a2) H ?_);rintro _ w _ ⟨v4,v5,v6,v7,rfl,rfl⟩ H;replace H:=H.l9;have x:=H.sy 0 (·.slc);obtain ⟨m,n,rfl⟩:=x;have a0:=H.sy 1 (·.slc);obtain ⟨i,j,rfl⟩:=a0;have s:=H.sy 2 (·.slc);obtain ⟨f,k,rfl⟩:=s;have a1:=H.sy 3 (·.slc);obtain ⟨e,g,rfl⟩:=a1;refine Za 3 [] H Z ?_;intro t w H;refine Za 0 [] H Z ?_;intro y w H;refine Z4 5 [1,0] H Z ?_;intro w H;replace H:=H.f1;refine AN (Sep z (blk t [.bool lf,.slice m c.length n,.slice i a.length j] 201::blk y [.bool lf,.slice f d.length k,.slice e b.length g] 201::R)) 5 Z J (AZ H λw H'=>?_);have H:=H'.l11;refine AT [0,1] [0,3,1,3] [] (by exact H.pick 11 [0,1] Z) Z J Z (AC [2] J O (Am (Bi Z Z Z (Ak 9 H Z Z Z Z (vs:=[.bool lf,.slice m c.length n,.slice i a.length j]) Z (by simp[u8,u32,Value.oneCell']) J O (out:=[.bool lf,.slice m c.length n,.slice i a.length j]) Z) ?_)));rintro w H;replace H:=H.l11;refine Av (H.pick 11 [0,1] Z) (AC [3] J O (Am (Bi Z Z Z (Ak 8 H Z Z Z Z (vs:=[.bool lf,.slice f d.length k,.slice e b.length g]) Z (by simp[u8,u32,Value.oneCell']) J O (out:=[.bool lf,.slice f d.length k,.slice e b.length g]) Z) ?_)));rintro w H;replace H:=H.l11;refine Av (H.pick 11 [0,1] Z) (AT [4] [] [] (by exact H.pick 11 [0,1] Z) Z J Z (a_done J (gn (Zc 2 Z (Zl [9,3,8,3] H Z ?_)))));exact ⟨_,⟨.slice m c.length n,.slice i a.length j,.slice f d.length k,.slice e b.length g,Z,Z⟩,H.perm 11 [2,3,4,5,6,7] Z Z⟩
theorem QF(lf:Bool)(kv vv:Value){vs:List Int}(A B:Ai)(hA:∀h,A h->rdH 1 kv l.length (l.map I) h)(hB:∀h,B h->rdH 1 vv vs.length (vs.map I) h)(a2:CkN lf l vs)(i:Nat)(hi:i<l.length)(a b:List Int)(a1:l.take i++l.drop (i+1)=a)(a0:vs.take i++vs.drop (i+1)=b)(c:CkN lf a b):Cn prog 184 [.agg #[.bool lf,kv,vv],I (i:Int)] [A,B] (λv Γ=>∃v1 v2:Value,v=.tuple #[.agg #[.bool lf,v1,v2],I 0]/\Γ=[grow 3 1 v1 a.length (a.map I),grow 3 1 v2 b.length (b.map I),A,B]):=by
 intro z R w H;replace H:=H.l2;obtain ⟨ka,kc,rfl⟩:=H.sy 0 (λq=>(hA _ q).slc);obtain ⟨va,vc,rfl⟩:=H.sy 1 (λq=>(hB _ q).slc);have d9:=H.sy 0 (λq=>(hA _ q).slcap);have c8:=H.sy 1 (λq=>(hB _ q).slcap);have d2:=a2.len;have f8:=a2.l8;refine Ae func184 Z ntmps184 Z (Za 2 [] H Z ?_);intro b1 w H;refine Za 0 [] H Z ?_;intro b2 w H;refine Z2 8 [1,3] H Z (z_E_ Z (call177 _) (CT l vs hA hB a2) H.f3.f3 ?_);intro w H;refine Z0 10 [4,0] Z (Al 15 Z (λh1=>U) (λh1=>?_));refine Z2 9 [1,3,0,0] H Z (Af Z (λh2=>U) (λh2=>?_));refine Zc 4 Z ?_;replace H:=H.f1.f1.f3;refine AN (Sep z (blk b1 [.bool lf,.slice ka l.length kc,.slice va vs.length vc] 201::A::B::R)) 13 Z J (AZ H λw H'=>?_);have H:=H'.l4;refine HD [0,1,3,4,5,6,7,8] [0,3,0,3,1,0,0] [(i:Int)+1] (by exact H.pick 4 [0,1,2] Z) Z J U Z (AC [2,11] J O (JS ?_ ?_))
 ·refine Bo Z Z Z Z Z Z (λw=>call221 _ w) (DX l vs hA hB 0 i U U U (l.take i) (vs.take i) O O U) H.f2.f2 Z ?_;rintro _ w _ ⟨v3,v4,rfl,rfl⟩ H;replace H:=H.l6;have c1:=H.sy 0 (·.slc)
  obtain ⟨e6,g8,rfl⟩:=c1;have c0:=H.sy 1 (·.slc);obtain ⟨f9,e9,rfl⟩:=c0;refine Av (H.pick 6 [4,2,3] Z) (AC [9,11] J O (JS ?_ ?_))
  ·refine Bo Z Z Z Z Z Z (λw=>call221 _ w) (DX l vs hA hB (i+1) l.length U U U (l.drop (i+1)) (vs.drop (i+1)) (by rw[Aej O]) (by rw[Aej (by simp;omega)]) U) H.f3.f3 Z ?_;rintro _ w _ ⟨v9,e3,rfl,rfl⟩ H;replace H:=H.l8;have c2:=H.sy 0 (·.slc)
   obtain ⟨d3,c5,rfl⟩:=c2;have b9:=H.sy 1 (·.slc);obtain ⟨d7,d4,rfl⟩:=b9;refine Av (H.pick 8 [6,2,3] Z) (AC [10,11] J O (JS ?_ ?_))
   ·refine Bo Z Z Z Z Z Z (λw=>call220 _ w) (Fk (l.take i) (vs.take i) (λh q=>q.rd) (λh q=>q.rd) (l.drop (i+1)) (vs.drop (i+1)) (λh q=>q.rd) (λh q=>q.rd) (by simp;omega) (by simp;omega) (by simp;omega) (by simp;omega) a b a1 a0) H.f1.f1.f5.f5 Z ?_;rintro _ w _ ⟨f0,g2,rfl,rfl⟩ H;replace H:=H.l10;have b8:=H.sy 0 (·.slc)
    obtain ⟨t,o,rfl⟩:=b8;have b7:=H.sy 1 (·.slc);obtain ⟨e,f,rfl⟩:=b7;refine Av (H.pick 10 [8,6,7] Z) (AC [11] J O (Am (Ca Z Z Z Z (Cb (P:=prog) H Z (zs:=[.bool false,.slice none 0 0,.slice none 0 0]) J) ?_)));rintro _ w ⟨g0,rfl,H⟩;replace H:=H.l11;refine Av (H.pick 11 [9,7,8] Z) (AC [12] J O (Am (Bi Z Z Z (Ak 0 H Z Z Z Z (vs:=[.bool lf,.slice t a.length o,.slice e b.length f]) Z (by simp[u8,u32,Value.oneCell']) J O (out:=[.bool lf,.slice t a.length o,.slice e b.length f]) Z) ?_)));rintro w H;replace H:=H.l11;refine Av (H.pick 11 [9,7,8] Z) (a_done J (gn (Z2 5 [0,3] H Z (z_E_ Z (call177 _) (CT a b (λh q=>q.rd) (λh q=>q.rd) c) H.f2.f2 ?_))));intro w H;refine Z4 14 [4,2,3,10] H Z ?_;intro w H;refine Zl [10,3] H Z ?_;exact ⟨_,⟨.slice t a.length o,.slice e b.length f,Z,Z⟩,H.perm 11 [0,1,7,8] Z Z⟩
   refine Ca Z Z Z Z (Cb (P:=prog) H Z (zs:=[.bool false,.slice none 0 0,.slice none 0 0]) J) ?_;rintro _ w ⟨e4,rfl,H⟩;replace H:=H.l9;refine Av (H.pick 9 [7,3,4] Z) (AC [10] J O (Am (Bo Z Z Z Z Z Z (λw=>call220 _ w) (Fk (l.take i) (vs.take i) (λh q=>q.rd) (λh q=>q.rd) (l.drop (i+1)) (vs.drop (i+1)) (λh q=>q.rd) (λh q=>q.rd) (by simp;omega) (by simp;omega) (by simp;omega) (by simp;omega) a b a1 a0) H.f2.f2.f6.f6 Z ?_)));rintro _ w _ ⟨g5,g1,rfl,rfl⟩ H;replace H:=H.l11;have b5:=H.sy 0 (·.slc);obtain ⟨u,p,rfl⟩:=b5;have b4:=H.sy 1 (·.slc);obtain ⟨k,x,rfl⟩:=b4;refine Av (H.pick 11 [9,7,8] Z) (AC [12] J O (Am (Bi Z Z Z (Ak 6 H Z Z Z Z (vs:=[.bool lf,.slice u a.length p,.slice k b.length x]) Z (by simp[u8,u32,Value.oneCell']) J O (out:=[.bool lf,.slice u a.length p,.slice k b.length x]) Z) ?_)));rintro w H;replace H:=H.l11;refine Av (H.pick 11 [9,7,8] Z) (a_done J (gn (Z2 5 [6,3] H Z (z_E_ Z (call177 _) (CT a b (λh q=>q.rd) (λh q=>q.rd) c) H ?_))));intro w H;refine Z4 14 [4,6,3,10] H Z ?_;intro w H;refine Zl [10,3] H Z ?_;exact ⟨_,⟨.slice u a.length p,.slice k b.length x,Z,Z⟩,H.perm 11 [0,1,7,8] Z Z⟩
  refine Ca Z Z Z Z (Cb (P:=prog) H Z (zs:=[.bool false,.slice none 0 0,.slice none 0 0]) J) ?_;rintro _ w ⟨g3,rfl,H⟩;replace H:=H.l7;refine Av (H.pick 7 [5,3,4] Z) (AC [9] J O (Am (Bo Z Z Z Z Z Z (λw=>call221 _ w) (DX l vs hA hB (i+1) l.length U U U (l.drop (i+1)) (vs.drop (i+1)) (by rw[Aej O]) (by rw[Aej (by simp;omega)]) U) H.f4.f4 Z ?_)));rintro _ w _ ⟨h3,g6,rfl,rfl⟩ H;replace H:=H.l9;have a7:=H.sy 0 (·.slc);obtain ⟨e1,c9,rfl⟩:=a7;have a6:=H.sy 1 (·.slc);obtain ⟨c7,d8,rfl⟩:=a6;refine Av (H.pick 9 [7,2,3] Z) (AC [10] J O (Am (Bo Z Z Z Z Z Z (λw=>call220 _ w) (Fk (l.take i) (vs.take i) (λh q=>q.rd) (λh q=>q.rd) (l.drop (i+1)) (vs.drop (i+1)) (λh q=>q.rd) (λh q=>q.rd) (by simp;omega) (by simp;omega) (by simp;omega) (by simp;omega) a b a1 a0) H.f1.f1.f6.f6 Z ?_)));rintro _ w _ ⟨e8,e2,rfl,rfl⟩ H;replace H:=H.l11;have b0:=H.sy 0 (·.slc);obtain ⟨n,j,rfl⟩:=b0;have a5:=H.sy 1 (·.slc);obtain ⟨r,m,rfl⟩:=a5;refine Av (H.pick 11 [9,6,7] Z) (AC [12] J O (Am (Bi Z Z Z (Ak 8 H Z Z Z Z (vs:=[.bool lf,.slice n a.length j,.slice r b.length m]) Z (by simp[u8,u32,Value.oneCell']) J O (out:=[.bool lf,.slice n a.length j,.slice r b.length m]) Z) ?_)));rintro w H;replace H:=H.l11;refine Av (H.pick 11 [9,6,7] Z) (a_done J (gn (Z2 5 [8,3] H Z (z_E_ Z (call177 _) (CT a b (λh q=>q.rd) (λh q=>q.rd) c) H ?_))));intro w H;refine Z4 14 [4,8,3,10] H Z ?_;intro w H;refine Zl [10,3] H Z ?_;exact ⟨_,⟨.slice n a.length j,.slice r b.length m,Z,Z⟩,H.perm 11 [0,1,6,7] Z Z⟩
 refine Ca Z Z Z Z (Cb (P:=prog) H Z (zs:=[.bool false,.slice none 0 0,.slice none 0 0]) J) ?_;rintro _ w ⟨g4,rfl,H⟩;replace H:=H.l5;refine Av (H.pick 5 [1,2,3] Z) (AC [2] J O (Am (Bo Z Z Z Z Z Z (λw=>call221 _ w) (DX l vs hA hB 0 i U U U (l.take i) (vs.take i) O O U) H.f3.f3 Z ?_)));rintro _ w _ ⟨h0,g7,rfl,rfl⟩ H;replace H:=H.l7;have a9:=H.sy 0 (·.slc);obtain ⟨d6,e0,rfl⟩:=a9;have b6:=H.sy 1 (·.slc);obtain ⟨c6,c4,rfl⟩:=b6;refine Av (H.pick 7 [5,2,3] Z) (AC [9] J O (Am (Bo Z Z Z Z Z Z (λw=>call221 _ w) (DX l vs hA hB (i+1) l.length U U U (l.drop (i+1)) (vs.drop (i+1)) (by rw[Aej O]) (by rw[Aej (by simp;omega)]) U) H.f3.f3 Z ?_)));rintro _ w _ ⟨e7,e5,rfl,rfl⟩ H;replace H:=H.l9;have a4:=H.sy 0 (·.slc);obtain ⟨d1,d5,rfl⟩:=a4;have a3:=H.sy 1 (·.slc);obtain ⟨c3,d0,rfl⟩:=a3;refine Av (H.pick 9 [7,2,3] Z) (AC [10] J O (Am (Bo Z Z Z Z Z Z (λw=>call220 _ w) (Fk (l.take i) (vs.take i) (λh q=>q.rd) (λh q=>q.rd) (l.drop (i+1)) (vs.drop (i+1)) (λh q=>q.rd) (λh q=>q.rd) (by simp;omega) (by simp;omega) (by simp;omega) (by simp;omega) a b a1 a0) H.f1.f1.f5.f5 Z ?_)));rintro _ w _ ⟨f7,g9,rfl,rfl⟩ H;replace H:=H.l11;have a8:=H.sy 0 (·.slc);obtain ⟨g,d,rfl⟩:=a8;have b3:=H.sy 1 (·.slc);obtain ⟨y,s,rfl⟩:=b3;refine Av (H.pick 11 [9,6,7] Z) (AC [12] J O (Am (Bi Z Z Z (Ak 8 H Z Z Z Z (vs:=[.bool lf,.slice g a.length d,.slice y b.length s]) Z (by simp[u8,u32,Value.oneCell']) J O (out:=[.bool lf,.slice g a.length d,.slice y b.length s]) Z) ?_)));rintro w H;replace H:=H.l11;refine Av (H.pick 11 [9,6,7] Z) (a_done J (gn (Z2 5 [8,3] H Z (z_E_ Z (call177 _) (CT a b (λh q=>q.rd) (λh q=>q.rd) c) H ?_))));intro w H;refine Z4 14 [4,8,3,10] H Z ?_;intro w H;refine Zl [10,3] H Z ?_;exact ⟨_,⟨.slice g a.length d,.slice y b.length s,Z,Z⟩,H.perm 11 [0,1,6,7] Z Z⟩
theorem FdI.uniq{key:Int}(h:FdI l key i)(g:FdI l key j):i=j:=by
 rcases AfI i j with q|q|q
 ·have a:i<l.length:=by have:=g.le;omega
  have c:=h.ge l[i] (Aed a);have b:=g.lt i l[i] q (Aed a);omega
 ·exact q
 have a:j<l.length:=by have:=h.le;omega
 have c:=g.ge l[j] (Aed a);have b:=h.lt j l[j] q (Aed a);omega
theorem FcI.uniq{key:Int}(h:FcI l key i)(g:FcI l key j):i=j:=by
 rcases AfI i j with q|q|q
 ·have a:i<l.length:=by have:=g.le;omega
  have c:=h.ge l[i] (Aed a);have b:=g.lt i l[i] q (Aed a);omega
 ·exact q
 have a:j<l.length:=by have:=h.le;omega
 have c:=g.ge l[j] (Aed a);have b:=h.lt j l[j] q (Aed a);omega
theorem Zu(lf:Bool)(kv u:Value){vs:List Int}(A B:Ai)(g:∀h,A h->rdH 1 kv l.length (l.map I) h)(e:∀h,B h->rdH 1 u vs.length (vs.map I) h)(a:CkN lf l vs)(key:Int)(val:Int)(a6:(0<=key/\key<1048576)/\1<=val/\val<1024)(i:Nat)(s:FdI l key i)(j:l[i]?=some key):Cn prog 218 [.agg #[.bool lf,kv,u],I key,I val] [A,B] (λv Γ=>∃x v2:Value,v=.tuple #[.agg #[.bool lf,x,v2],I 0]/\Γ=[grow 3 1 x l.length (l.map I),grow 3 1 v2 vs.length ((vs.set i val).map I),A,B]):=by
 intro z R w H;replace H:=H.l2;obtain ⟨ka,kc,rfl⟩:=H.sy 0 (λq=>(g _ q).slc);obtain ⟨va,vc,rfl⟩:=H.sy 1 (λq=>(e _ q).slc);have y:=H.sy 0 (λq=>(g _ q).slcap);have a0:=H.sy 1 (λq=>(e _ q).slcap);have f:=a.len;have a7:=a.l8;have a8:=(Aeb.1 j).1;refine Ae func218 Z ntmps218 Z (Za 2 [] H Z ?_);intro b1 w H;refine Za 0 [] H Z ?_;intro b2 w H;refine Z2 8 [1,3] H Z (z_E_ Z (call177 _) (CT l vs g e a) H.f3.f3 ?_);intro w H;refine Z0 9 [4] Z (z_E_ Z (call216 _) (HQ) H ?_);intro w H;replace H:=H.l4;refine Ab Z (AF Z Z) (Zc 3 Z (Af Z (λh1=>U) (λh1=>?_)));refine Z2 7 [3,3] H Z (Aq Z (call133 _) (Jx _ _ _ l vs _ _ g e _ U) H ?_);rintro _ w _ ⟨d,k,rfl,rfl⟩ H;replace H:=H.l4;obtain rfl:=k.uniq s;refine AD 26 (v:=.tuple #[I (d:Int),.bool true]) Z (congrArg (λb=>Value.tuple #[I (d:Int),.bool b]) (decide_eq_true j)) (Z2 20 [3,3,1,3,0] H Z (Aq Z (call221 _) (DX l vs g e 0 l.length U U U l vs O (by rw[Ag3,Aeu,f];simp) U) H ?_));rintro _ w _ ⟨v4,v5,rfl,rfl⟩ H;replace H:=H.l6;have n:=H.sy 0 (·.slc);obtain ⟨r,p,rfl⟩:=n;have o:=H.sy 1 (·.slc);obtain ⟨a4,m,rfl⟩:=o;refine Za 0 [] H Z ?_;intro a5 w H;refine Z4 4 [0] H Z ?_;intro w H;obtain ⟨gq,a1,c,t,a9,a3,a2,H'⟩:=H.ungrow 2 Z U;cases t;clear H;have H:=H'.l7;refine Z3 6 [2,0,0,1,d,d] [] H Z U (Az Z Z (Ak 2 H Z Z Z Z (vs:=[I val]) Z (by simp[u8,u32,Value.oneCell']) J (by simp;omega) (out:=((vs.set d val).map I++c)) (Eb U)) ?_);rintro w H;replace H:=H.l7;refine Z4 10 [0,3,5] H Z ?_;intro w H;refine Zl [5,3] H Z ?_;have H2:=H.mono 2 (B:=grow 3 1 (.slice (some ⟨gq,0,none⟩) vs.length m) vs.length ((vs.set d val).map I)) Z (λh q=>q.grow U U (by simp;omega) (by rw[AeP,AeF O]));exact ⟨_,⟨.slice r l.length p,.slice (some ⟨gq,0,none⟩) vs.length m,Z,Z⟩,H2.perm 7 [1,2,3,4] Z Z⟩
theorem Zv(lf:Bool)(r k:Value){vs:List Int}(A B:Ai)(e:∀h,A h->rdH 1 r l.length (l.map I) h)(d:∀h,B h->rdH 1 k vs.length (vs.map I) h)(a:CkN lf l vs)(key:Int)(val:Int)(u:(0<=key/\key<1048576)/\1<=val/\val<1024)(i:Nat)(f:FdI l key i)(j:¬l[i]?=some key)(g:l.length=8):Cn prog 218 [.agg #[.bool lf,r,k],I key,I val] [A,B] (λv Γ=>v=.tuple #[.agg #[.bool false,.slice none 0 0,.slice none 0 0],I 15]/\Γ=[A,B]):=by
 intro z R w H;replace H:=H.l2;obtain ⟨ka,kc,rfl⟩:=H.sy 0 (λq=>(e _ q).slc);obtain ⟨va,vc,rfl⟩:=H.sy 1 (λq=>(d _ q).slc);have x:=a.l8;refine Ae func218 Z ntmps218 Z (Za 2 [] H Z ?_);intro b1 w H;refine Za 0 [] H Z ?_;intro y w H;refine Z2 8 [1,3] H Z (z_E_ Z (call177 _) (CT l vs e d a) H.f3.f3 ?_);intro w H;refine Z0 9 [4] Z (z_E_ Z (call216 _) (HQ) H ?_);intro w H;replace H:=H.l4;refine Ab Z (AF Z Z) (Zc 3 Z (Af Z (λs=>U) (λs=>?_)));refine Z2 7 [3,3] H Z (Aq Z (call133 _) (Jx _ _ _ l vs _ _ e d _ U) H ?_);rintro _ w _ ⟨o,c,rfl,rfl⟩ H;replace H:=H.l4;obtain rfl:=c.uniq f;refine AD 26 (v:=.tuple #[I (o:Int),.bool false]) Z (congrArg (λb=>Value.tuple #[I (o:Int),.bool b]) (decide_eq_false j)) (Z2 25 [1,3,0,0] H Z (Af Z (λt=>?_) (λt=>?_)))
 ·refine Z4 8 [2] H Z ?_;intro w H;refine Zl [2,3] H Z ?_;exact ⟨_,⟨Z,Z⟩,H.perm 4 [0,1] Z Z⟩
 (exfalso;omega)
theorem Zw(lf:Bool)(kv vv:Value){vs:List Int}(A B:Ai)(o:∀h,A h->rdH 1 kv l.length (l.map I) h)(n:∀h,B h->rdH 1 vv vs.length (vs.map I) h)(m:CkN lf l vs)(key:Int)(val:Int)(d3:(0<=key/\key<1048576)/\1<=val/\val<1024)(i:Nat)(k:FdI l key i)(a1:¬l[i]?=some key)(a0:l.length<8)(c d:List Int)(a2:l.take i++key::l.drop i=c)(a5:vs.take i++val::vs.drop i=d):Cn prog 218 [.agg #[.bool lf,kv,vv],I key,I val] [A,B] (λv Γ=>∃v1 v2:Value,v=.tuple #[.agg #[.bool lf,v1,v2],I 0]/\Γ=[grow 3 1 v1 c.length (c.map I),grow 3 1 v2 d.length (d.map I),A,B]):=by
 intro z R w H;replace H:=H.l2;obtain ⟨ka,kc,rfl⟩:=H.sy 0 (λq=>(o _ q).slc);obtain ⟨va,vc,rfl⟩:=H.sy 1 (λq=>(n _ q).slc);have c2:=H.sy 0 (λq=>(o _ q).slcap);have a8:=H.sy 1 (λq=>(n _ q).slcap);have b8:=m.len;have c7:=m.l8;have d0:=k.le;refine Ae func218 Z ntmps218 Z (Za 2 [] H Z ?_);intro b1 w H;refine Za 0 [] H Z ?_;intro b2 w H;refine Z2 8 [1,3] H Z (z_E_ Z (call177 _) (CT l vs o n m) H.f3.f3 ?_);intro w H;refine Z0 9 [4] Z (z_E_ Z (call216 _) (HQ) H ?_);intro w H;replace H:=H.l4;refine Ab Z (AF Z Z) (Zc 3 Z (Af Z (λh1=>U) (λh1=>?_)));refine Z2 7 [3,3] H Z (Aq Z (call133 _) (Jx _ _ _ l vs _ _ o n _ U) H ?_);rintro _ w _ ⟨a,x,rfl,rfl⟩ H;replace H:=H.l4;obtain rfl:=x.uniq k;refine AD 26 (v:=.tuple #[I (a:Int),.bool false]) Z (congrArg (λb=>Value.tuple #[I (a:Int),.bool b]) (decide_eq_false a1)) (Z2 25 [1,3,0,0] H Z (Af Z (λh2=>U) (λh2=>?_)));refine Zc 5 Z (AR Z (AP H Z J BA Z (by decide) (by decide) (out:=[I key]) J) ?_);rintro _ w ⟨b4,rfl,H⟩;replace H:=H.l5;refine Zc 1 Z (AR Z (AP H Z J BA Z (by decide) (by decide) (out:=[I val]) J) ?_);rintro _ w ⟨b5,rfl,H⟩;replace H:=H.l6;refine Za 1 [] H Z ?_;intro b6 w H;refine Z4 4 [0] H Z ?_;intro w H;replace H:=H.f4.f4.f2.f6;refine AN (Sep z (blk b1 [.bool lf,.slice ka l.length kc,.slice va vs.length vc] 201::blk b6 [.bool false,.slice (some ⟨b4,0,none⟩) 1 1,.slice (some ⟨b5,0,none⟩) 1 1] 201::A::B::R)) 14 Z J (AZ H λw H'=>?_);have H:=H'.l7;refine AT [0,1,3,5,6,7,8,9] [0,3,1,3,0,3,1,0,0] [] (by exact H.pick 7 [0,1,2,3] Z) Z J Z (AC [2] J O (Am (Bo Z Z Z Z Z Z (λw=>call221 _ w) (DX l vs o n 0 a U (k.le) U (l.take a) (vs.take a) O O U) H.f3.f3 Z ?_)));rintro _ w _ ⟨v7,v8,rfl,rfl⟩ H;replace H:=H.l9;have a4:=H.sy 0 (·.slc);obtain ⟨d4,b0,rfl⟩:=a4;have a3:=H.sy 1 (·.slc);obtain ⟨b9,a7,rfl⟩:=a3;refine Av (H.pick 9 [4,5,2,3] Z) (AC [4] J O (Am (Bo Z Z Z Z Z Z (λw=>call220 _ w) (Fk (l.take a) (vs.take a) (λh q=>q.rd) (λh q=>q.rd) ([key]) ([val]) (λh q=>q.rd U U O Z) (λh q=>q.rd U U O Z) (by simp<;>omega) (by simp<;>omega) (by simp<;>omega) (by simp<;>omega) (l.take a++[key]) (vs.take a++[val]) Z Z) H.f6.f7.f3.f3 Z ?_)));rintro _ w _ ⟨d1,c5,rfl,rfl⟩ H;replace H:=H.l11;have s:=H.sy 0 (·.slc);obtain ⟨a6,b3,rfl⟩:=s;have p:=H.sy 1 (·.slc);obtain ⟨c1,c0,rfl⟩:=p;refine Av (H.pick 11 [8,9,6,7] Z) (AC [10] J O (Am (Bo Z Z Z Z Z Z (λw=>call221 _ w) (DX l vs o n a l.length (k.le) U U (l.drop a) (vs.drop a) (by rw[Aej O]) (by rw[Aej (by simp;omega)]) U) H.f7.f7 Z ?_)));rintro _ w _ ⟨c8,c6,rfl,rfl⟩ H;replace H:=H.l13;have u:=H.sy 0 (·.slc);obtain ⟨a9,c4,rfl⟩:=u;have y:=H.sy 1 (·.slc);obtain ⟨b7,c3,rfl⟩:=y;refine Av (H.pick 13 [10,11,2,3] Z) (AC [11] J O (Am (Bo Z Z Z Z Z Z (λw=>call220 _ w) (Fk (l.take a++[key]) (vs.take a++[val]) (λh q=>q.rd) (λh q=>q.rd) (l.drop a) (vs.drop a) (λh q=>q.rd) (λh q=>q.rd) (by simp<;>omega) (by simp<;>omega) (by simp<;>omega) (by simp<;>omega) c d (by rw[Aeh];exact a2) (by rw[Aeh];exact a5)) H.f1.f1.f5.f5 Z ?_)));rintro _ w _ ⟨d2,c9,rfl,rfl⟩ H;replace H:=H.l15;have r:=H.sy 0 (·.slc);obtain ⟨e,j,rfl⟩:=r;have t:=H.sy 1 (·.slc);obtain ⟨f,g,rfl⟩:=t;refine Av (H.pick 15 [12,13,6,7] Z) (AC [12] J O (Am (Bi Z Z Z (Ak 14 H Z Z Z Z (vs:=[.bool lf,.slice e c.length j,.slice f d.length g]) Z (by simp[u8,u32,Value.oneCell']) J O (out:=[.bool lf,.slice e c.length j,.slice f d.length g]) Z) ?_)));rintro w H;replace H:=H.l15;refine Av (H.pick 15 [12,13,6,7] Z) (AT [13] [] [] (by exact H.pick 15 [12,13,6,7] Z) Z J Z (a_done J (gn (Zc 2 Z (Zl [14,3] H Z ?_)))));exact ⟨_,⟨.slice e c.length j,.slice f d.length g,Z,Z⟩,H.perm 15 [0,1,6,7] Z Z⟩
end Go.Proofs.YtemljpjnhjnncaaGreatDoor
