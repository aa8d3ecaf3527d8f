/-
  Steps to: Law VolumesPast: snapshots keep the past. No condition.
-/
import Derived.Test.YtemljpjnhjnncaaGreatDoorPast2
set_option maxRecDepth 100000
set_option linter.unusedSimpArgs false
set_option linter.unusedVariables false
open Go.Proofs.Tryz
namespace Go.Proofs.YtemljpjnhjnncaaGreatDoor
open Go.RowKit
variable{n m i j e g r:Nat}{t s p q:Int}{V:List Value}{B S:List UInt8}{T:TypeId}{L:List (Nat×Value)}{v u y:Value}{z:World}{l:List Int}{R:List Nat}{N:Act->World->Prop}{b c:Bool}{x:Operand}{o:List Oper}{K:Value->World->Prop}{C:Nat->Nat}{P:Program}{F:Nat->Bool}{a:Act}
variable{Γ:List Ai}{h:Hp}{A:Ai}
variable{D:Dsk}
theorem Ge(k:Nat)(ns:List Int):(ns.flatMap (Ag k)).length=k*ns.length:=by
 induction ns with
 | nil=>rfl
 | cons x ns ih=>simp only[AeJ,Aeg,Ah,ih,Aei];rw[Agr];omega
theorem RJ(h:l[i]?=some t):(l.take i).flatMap (Ag n)++Ag n t=(l.take (i+1)).flatMap (Ag n):=by
 rw[AeM,h];simp
theorem Tq(k:Nat)(ns:List Int):∀{j:Nat} {x:Int},ns[j]?=some x->((ns.flatMap (Ag k)).drop (k*j)).take k=Ag k x:=by
 induction ns with
 | nil=>intro j x h;simp at h
 | cons y ys ih=>
  intro j x h
  cases j with
  | zero=>simp at h;subst h;rw[AeJ,Nat.mul_zero,Aew,AeI (Ah k y)]
  | succ j=>
   rw[AeJ,show k*(j+1)=(Ag k y).length+k*j by rw[Ah,Agr];omega,Ae8,AeO U,AeS,show (Ag k y).length+k*j-(Ag k y).length=k*j by omega];exact ih (by simpa using h)
abbrev Ld(ns:List Int):List UInt8:=ns.flatMap (Ag 2)
theorem YF(h:l.length=120):(Ld l).length=240:=by rw[Ge,h]
theorem Vt(h:B.length=240):((AK B).drop 0).take 240=B:=by
 unfold AK;rw[Aew,AeI h]
theorem Abx(hs:∀t∈l,0<=t/\t<=1000)(h:l[j]?=some t):AY (((Ld l).drop (2*j)).take 2)=t:=by
 rw[Tq 2 l h];have:=hs t (Aee h);exact BV this.1 U U
theorem D7(h:l[i]?=some t):(l.take i).map I++[I t]=(l.take (i+1)).map I:=by
 rw[AeM,h];simp
def DY(lf:Bool):Int:=if lf=true then 1 else 0
theorem Ts(lf:Bool):0<=DY lf/\DY lf<=1:=by cases lf<;>simp[DY]
theorem Aby(lf:Bool):(decide (DY lf=1))=lf:=by cases lf<;>simp[DY]
def Qn(e:Int×Int):List UInt8:=Ag 4 e.1++Ag 2 e.2
abbrev Gr(ks vs:List Int)(i:Nat):List UInt8:=((ks.zip vs).take i).flatMap Qn
theorem Du(l:List (Int×Int)):(l.flatMap Qn).length=6*l.length:=by
 induction l with
 | nil=>rfl
 | cons x l ih=>simp only[AeJ,Aeg,Qn,Ah,Aei] at ih ⊢;omega
theorem Tt{vs:List Int}(a:l[i]?=some t)(b:vs[i]?=some s):(l.zip vs)[i]?=some (t,s):=by
 simp[List.getElem?_zip_eq_some,a,b]
theorem YG{vs:List Int}(a:i<=l.length)(b:i<=vs.length):(Gr l vs i).length=6*i:=by
 rw[Du,Aez,AfJ];omega
theorem YH{vs:List Int}(a:l[i]?=some t)(b:vs[i]?=some s):Gr l vs (i+1)=Gr l vs i++Ag 4 t++Ag 2 s:=by
 unfold Gr;rw[AeM,Tt a b];simp[Qn]
theorem Vu(a vs:List Int):Gr a vs 0=[]:=by simp[Gr]
def Gf(lf:Bool)(ks vs:List Int):List UInt8:=Ag 1 (DY lf)++Ag 1 (ks.length:Int)++Gr ks vs ks.length
def Hg(lf:Bool)(ks vs:List Int):List UInt8:=((AK (Gf lf ks vs)).drop 0).take 240
theorem Gz{lf:Bool}{vs:List Int}(h:l.length=vs.length):(Gf lf l vs).length=2+6*l.length:=by
 unfold Gf;rw[Aeg,Aeg,Ah,Ah,YG (Aek _) U]
theorem YI{lf:Bool}{vs:List Int}(h:l.length=vs.length)(a:l.length<=8):(Hg lf l vs).length=240:=by
 have:=Gz (lf:=lf) h;unfold Hg;rw[Aew,Aez,AU U];omega
theorem Jz{lf:Bool}{vs:List Int}(h:l.length=vs.length)(b:l.length<=8)(hp:n+m<=2+6*l.length):((Hg lf l vs).drop n).take m=((Gf lf l vs).drop n).take m:=by
 have a:=Gz (lf:=lf) h;unfold Hg AK;rw[Aew,AfX,AeF,AeG U,AeV U,Aev (by rw[AeQ];omega)]
theorem YJ{vs:List Int}(h:l.length=vs.length)(a:l.length<=8):AY (((Hg b l vs).drop 0).take 1)=DY b:=by
 rw[Jz h a U];have:=Ts b;unfold Gf;rw[Aew,Aej,AeI (Ah 1 _)];exact BV this.1 U U
theorem YK{vs:List Int}(h:l.length=vs.length)(a:l.length<=8):AY (((Hg b l vs).drop 1).take 1)=(l.length:Int):=by
 rw[Jz h a U];unfold Gf;rw[He _ _ (by rw[Ah]) (by rw[Ah])];exact BV U U U
theorem Abz(a vs:List Int):∀{i:Nat} {x y:Int},a[i]?=some x->vs[i]?=some y->∀n,i<n->∃t,(Gr a vs n).drop (6*i)=Ag 4 x++Ag 2 y++t:=by
 intro i x y h g n f;have e:(a.zip vs).take n=(a.zip vs).take i++((a.zip vs).take n).drop i:=by
  have k:((a.zip vs).take n).take i=(a.zip vs).take i:=by rw[AeF,AeG U]
  rw[<-k,AeP]
 have c:((a.zip vs).take n)[i]?=some (x,y):=by rw[Ae0,if_pos f,Tt h g]
 have b:=(Aed.1 c).1;have e2:((a.zip vs).take n).drop i=(x,y)::((a.zip vs).take n).drop (i+1):=by
  rw[Ae1 b];congr 1;exact (Aed.1 c).2
 have j:(((a.zip vs).take i).flatMap Qn).length=6*i:=by
  rw[Du,Aez];simp at b;simp;omega
 have d:(a.zip vs).take n=(a.zip vs).take i++(x,y)::((a.zip vs).take n).drop (i+1):=by rw[<-e2];exact e
 generalize ((a.zip vs).take n).drop (i+1)=T at d;exact ⟨T.flatMap Qn,by unfold Gr;rw[d,Af2,AfT j,AeJ];rfl⟩
theorem Xv(lf:Bool){vs:List Int}(b:l[i]?=some s)(c:vs[i]?=some p):∃t,(Gf lf l vs).drop (2+6*i)=Ag 4 s++(Ag 2 p++t):=by
 have hi:=(Aed.1 b).1;obtain ⟨t,e⟩:=Abz l vs b c l.length hi;refine ⟨t,?_⟩;have a:(Ag 1 (DY lf)++Ag 1 (l.length:Int)).length=2:=by simp[Ah]
 unfold Gf;rw[Ae8,AeO (by rw[a];omega),AeS,a,show 2+6*i-2=6*i by omega,e,Aej]
theorem AbA{vs:List Int}(h:l.length=vs.length)(c:l.length<=8)(a:l[i]?=some s)(f:vs[i]?=some p)(d:0<=s/\s<=1048575):AY (((Hg b l vs).drop (2+6*i)).take 4)=s:=by
 have hi:=(Aed.1 a).1;rw[Jz h c U];obtain ⟨t,e⟩:=Xv b a f;rw[e,AeI (Ah 4 _)];exact BV d.1 U U
theorem AbB{vs:List Int}(h:l.length=vs.length)(d:l.length<=8)(a:l[i]?=some s)(g:vs[i]?=some p)(f:0<=p/\p<=1023):AY (((Hg b l vs).drop (2+6*i+4)).take 2)=p:=by
 have hi:=(Aed.1 a).1;rw[Jz h d U];obtain ⟨t,e⟩:=Xv b a g;have c:(Gf b l vs).drop (2+6*i+4)=((Gf b l vs).drop (2+6*i)).drop 4:=by rw[AhI]
 rw[c,e,AfT (Ah 4 _),AeI (Ah 2 _)];exact BV f.1 U U
theorem Qo{lf:Bool}{vs:List Int}(h:l.length=vs.length)(c:l.length<=8):rz (((Hg lf l vs).drop (2+6*l.length)).take (240-(2+6*l.length)))=0:=by
 have b:=Gz (lf:=lf) h;unfold Hg AK;rw[Aew,AfX,AeF,Nat.min_self,<-b,AfT Z];refine LT.2 (λx a=>?_);have:=Afh a;exact (Af4.1 this).2
def Xw:List Value:=List.replicate 48 (.int .i64 0)
theorem LW(a:B.length=256):Aj 102 [Y n] [blk n (A7 B t) 167] (λv G=>v=.slice (some ⟨n,0,none⟩) 240 240/\G=[blk n (A7 B t) 167]):=by
 intro z R w H;refine Ae func102 Z ntmps102 Z (Z0 10 [0] Z (Ab Z (SH (n':=256) (z:=1) Z J Z Z Z (q:=240) Z Z (by decide) (by decide)) (Zc 4 Z (Zr Z ?_))));exact ⟨_,⟨Z,Z⟩,H⟩
theorem PC(ns:List Int)(t:ns.length=120)(b:∀x∈ns,0<=x/\x<=1000)(e:∀h,A h->rdH 1 y 120 (ns.map I) h):Aj 105 [y] [A] (λv G=>∃f,v=.tuple #[.slice (some ⟨f,0,none⟩) 240 240,I 0]/\G=[blk f (A7 (AK (Ld ns)) ((2*120:Nat):Int)) 167,A]):=by
 intro z R w H;obtain ⟨l,m,rfl⟩:=H.sy 0 (λq=>(e _ q).slc);refine Ae func105 Z ntmps105 Z (Z0 19 [4] Z (AP Z (BZ (P:=prog) H Z (zs:=(A7 (AK []) 0)) J) ?_));rintro _ w ⟨c,rfl,H⟩;refine Zc 11 Z ?_;refine AD (σ:=Nat) (λi=>[(12,I (i:Int)),(4,Y c),(10,.slice l 120 m),(11,I 120)])
   (λi w=>Sep z (blk c (A7 (AK ((ns.take i).flatMap (Ag 2))) ((2*i:Nat):Int)) 167::A::R) w/\(i<=120)) (λi=>120-i) 0
   fr_z ⟨(by simpa using H),by omega⟩ ?_
 clear H;rintro i w ⟨p,g⟩;have H:=p.l2;have o:=g;clear g;refine Z0 6 [0] Z (Af Z (λk=>?_) (λk=>?_))
 ·obtain ⟨x,d⟩:∃x,ns[i]?=some x:=⟨_,Aef U⟩;have a0:=b x (Aee d)
  refine Zc 6 Z ?_;have a:=(H.rd 1 Z e).at (j:=i) (u:=I x) (by simp[d]);refine Ab Z (Ak Z (z:=1) (j:=i) (r:=i) J Z Z Z U a U) (Ab Z (Ay Z Z J (Az a)) (Zc 7 Z (z_E_ Z (call99 _) (CY) H ?_)));intro w H;refine Ab Z (AH Z Z) (Zc 2 Z (Af Z (λs=>U) (λs=>?_)));refine Zc 4 Z (z_E_ Z (call100 _) (CH (2*i) 2 x (AU (by first|omega|(simp[Ah,Ge,-List.length_flatMap]<;>omega))) U) H ?_);intro w H;rw[show ((2*i+2:Nat):Int)=(((2*(i+1):Nat):Int):Int) from by omega] at H;rw[show Bx (AK ((ns.take i).flatMap (Ag 2))) (Ag 2 x) (2*i)=AK ((ns.take i).flatMap (Ag 2)++Ag 2 x) from BH (by first|omega|(simp[Ah,Ge,-List.length_flatMap]<;>omega)) (by first|omega|(simp[Ah,Ge,-List.length_flatMap]<;>omega))] at H;have H:Sep z (blk c (A7 (AK ((ns.take i).flatMap (Ag 2)++Ag 2 x)) ((2*(i+1):Nat):Int)) 167::A::R) w:=H;refine Z1 7 [] [(i:Int)+1] Z U (gf ?_);intro _ n;refine ⟨(i+1),n.cz,⟨(by rw[<-RJ d];exact H),?_⟩,?_⟩
  ·omega
  omega
 obtain rfl:i=120:=by omega
 refine Zc 2 Z (gx (Zc 3 Z ?_));rw[Ael U] at H;have H:Sep z (blk c (A7 (AK (Ld ns)) ((2*120:Nat):Int)) 167::A::R) w:=H;refine Zc 1 Z (z_E_ Z (call102 _) (LW (AU (by first|omega|(simp[Ah,Ge,-List.length_flatMap]<;>omega)))) H ?_);intro w H;refine Zc 5 Z (Zr Z ?_);exact ⟨_,⟨c,Z,Z⟩,H.perm 2 [0,1] Z Z⟩
theorem AbC(k:Nat)(b o n c:Nat)(xs:List UInt8)(d:∀h,A h->rdH 1 (.slice (some ⟨b,o,none⟩) n c) n (xs.map u8) h)(hn:n<=c)(hk:k<=n)(a2:0<k)(ys:List UInt8)(u:xs.take k=ys)(o2 r c2:Nat)(g:(if c=k then o else o+k)=o2)(e:n-k=r)(f:c-k=c2):Aj 165 [Y i,I (k:Int)] [blk i [.slice (some ⟨b,o,none⟩) n c] 258,A] (λv G=>v=I (AY ys)/\G=[blk i [.slice (some ⟨b,o2,none⟩) r c2] 258,A]):=by
 intro z R w H;subst u g e f;have y:=H.sy 1 (λq=>(d _ q).len);have a1:=H.sy 1 (λq=>(d _ q).cap);refine Ae func165 Z ntmps165 Z (Z2 18 [0,0,0] H Z (Ab Z (BO Z (z:=1) (p:=0) (q:=k) (o':=o) (l':=k) (c':=c) J Z (.inl ⟨Z,Z⟩) (.inr ⟨_,_,_,Z,Z,Z⟩) U U U U U U) (Zc 5 Z ?_)));refine AD (σ:=Nat) (λj=>[(15,I (j:Int)),(5,I (AY (xs.take j))),(0,Y i),(1,I (k:Int)),(4,I 0),(13,.slice (some ⟨b,o,none⟩) k c),(14,I (k:Int))])
   (λj w=>Sep z (blk i [.slice (some ⟨b,o,none⟩) n c] 258::A::R) w/\(j<=k)) (λj=>k-j) 0
   (λ_ a=>(a.co Z (by go_num) a.cz)) ⟨H,by omega⟩ ?_
 clear H;rintro j w ⟨H',s⟩;have H:=H'.l2;have a0:=s;clear s;refine Z0 6 [0] Z (Af Z (λt=>?_) (λt=>?_))
 ·obtain ⟨x,l⟩:∃x,xs[j]?=some x:=⟨_,Aef U⟩;refine Z1 7 [1,j,o+j] [] Z U (Ab Z (Bn Z Z J (Az (H.cell 1 Z (λh q=>(d h q).at l)))) (Zc 5 Z (Ab Z (SB Z Z Z (m:=8) Z (by decide)) (Zc 1 Z (Ab Z (Rk Z J Z) (Ab Z (Xh Z Z Z (Oa) ⟨by omega,by have:=x.toNat_lt;omega⟩) (Z1 8 [] [(j:Int)+1] Z U (gf ?_))))))));intro _ a;refine ⟨(j+1),(a.co Z (by go_num) (a.co Z (congrArg I (MC l)) (a.all Z))),⟨H,?_⟩,?_⟩
  ·omega
  omega
 obtain rfl:j=k:=by omega
 refine Zc 2 Z (gx (Z2 10 [0,0,0] H Z (Ab Z (UB Z (z:=1) J Z Z (p:=j) Z U U (o':=if c=j then o else o+j) (l':=n-j) (c':=c-j) (by rw[AeR]) Z Z) (Z4 12 [0,0] H Z ?_))));intro w H;refine Zr Z ?_;exact ⟨_,⟨Z,Z⟩,H⟩
theorem PD(bd:List UInt8)(f:∀h,A h->rdH 1 (.slice (some ⟨n,j,none⟩) 240 e) 240 (bd.map u8) h)(ns:List Int)(a1:ns.length=120)(a:∀x∈ns,0<=x/\x<=1000)(g:bd=Ld ns):Aj 163 [.slice (some ⟨n,j,none⟩) 240 e] [A] (λv G=>∃v1,v=.tuple #[v1,.bool true]/\G=[grow 3 1 v1 120 (ns.map I),A]):=by
 intro z R w H;have a5:=H.sy 0 (λq=>(f _ q).cap);refine Ae func163 Z ntmps163 Z (Za 21 [4] H Z ?_);intro t w H;refine Z4 10 [0] H Z ?_;intro w H;replace H:=(H.nilg 3 1).l3;refine Zc 5 Z ?_;refine AD (σ:=Nat×Value×Nat) (λ⟨i,v,x⟩=>[(12,I (i:Int)),(5,v),(4,Y t)])
   (λ⟨i,v,x⟩ w=>Sep z (grow 3 1 v i ((ns.take i).map I)::blk t [.slice (some ⟨n,x,none⟩) (240-2*i) (e-2*i)] 258::A::R) w/\(i<=120/\(i<120->x=j+2*i))) (λ⟨i,v,x⟩=>120-i) ⟨0,.slice none 0 0,j⟩
   (λ_ c=>(c.co Z (by go_num) c.cz)) ⟨H,⟨by omega,λ_=>rfl⟩⟩ ?_
 clear H;rintro ⟨i,v,x⟩ w ⟨b,hI⟩;dsimp only at hI b ⊢;have H:=b.l3;have sv:=H.sy 0 (·.slc);obtain ⟨a4,l⟩:=hI;refine Z0 6 [0] Z (Af Z (λh1=>?_) (λh1=>?_))
 ·have p:i<120:=by omega
  have k:=l p;obtain ⟨y,s⟩:∃y,ns[i]?=some y:=⟨_,Aef U⟩;have a2:=a y (Aee s);have r:AY ((bd.drop (2*i)).take 2)=y:=by rw[g];exact Abx a s
  refine Zc 6 Z (z_E_ Z (call165 _) (AbC 2 n x (240-2*i) (e-2*i) ((bd.drop (2*i)).take (240-2*i)) (λh q=>by have:=(f h q).cut (lo:=2*i) (m:=240-2*i) (c':=e-2*i) U U U;rw[k];exact this) U U U ((bd.drop (2*i)).take 2) (by rw[AeF,AeG U]) (if e-2*i=2 then x else x+2) (240-2*(i+1)) (e-2*(i+1)) Z U U) H.f2.f2 ?_);intro w H;refine AB 14 (v:=I y) Z (congrArg I r) (Zc 7 Z (z_E_ Z (call99 _) (CY) H ?_));intro w H;refine Ab Z (AH Z Z) (Zc 2 Z (Af Z (λh2=>U) (λh2=>?_)));refine Zc 5 Z (AP Z (AO H Z J BC Z (by decide) (by decide) (out:=[I y]) J) ?_);rintro _ w ⟨b2,rfl,H⟩;refine AP Z (AW 3 H Z Z J BC Z Z (H.rv 0 (·.rd U U O Z)) (by simp[Value.oneCell']) U) ?_;rintro u w b;have b:Sep z (blk b2 [I y] 3::blk t [.slice (some ⟨n,(if e-2*i=2 then x else x+2),none⟩) (240-2*(i+1)) (e-2*(i+1))] 258::A::grow 3 1 u (i+1) ((ns.take i).map I++[I y])::R) w:=b;have o:((ns.take i).map I++[I y]:List Value)=(ns.take (i+1)).map I:=(D7 s);rw[o] at b;have H:=b.l4;refine Z1 8 [] [(i:Int)+1] Z U ?_;replace H:=H.d.f1.f1.f2;refine gf ?_;intro _ c;refine ⟨⟨i+1,u,if e-2*i=2 then x else x+2⟩,c.cz,⟨H,?_⟩,?_⟩
  ·refine ⟨by dsimp only;omega,λq=>?_⟩;dsimp only at q ⊢;rw[if_neg U];omega
  omega
 obtain rfl:i=120:=by omega
 refine Zc 2 Z (gx (Zc 10 Z (Zr Z ?_)));rw[Ael U] at H;exact ⟨_,⟨v,Z,Z⟩,H.perm 3 [0,2] Z Z⟩
theorem Tu(lf:Bool){kv vv:Value}(b vs:List Int){B:Ai}(hA:∀h,A h->rdH 1 kv b.length (b.map I) h)(t:∀h,B h->rdH 1 vv vs.length (vs.map I) h)(s:b.length=vs.length)(h8:b.length<=8)(hk:∀x∈b,0<=x/\x<=1048575)(hv:∀y∈vs,0<=y/\y<=1023):Aj 217 [.agg #[.bool lf,kv,vv]] [A,B] (λv G=>∃pw,v=.tuple #[.slice (some ⟨pw,0,none⟩) 240 240,I 0]/\G=[blk pw (A7 (AK (Gf lf b vs)) ((2+6*b.length:Nat):Int)) 167,A,B]):=by
 intro z R w H;obtain ⟨g,f,rfl⟩:=H.sy 0 (λq=>(hA _ q).slc);obtain ⟨m,l,rfl⟩:=H.sy 1 (λq=>(t _ q).slc);have c:=s;refine Ae func217 Z ntmps217 Z (Za 2 [] H Z ?_);intro e w H;refine Z2 15 [1,0,0,2,0,0,0] H Z (An 15 Z (λh1=>U) (λh1=>?_));refine Z2 7 [1,0,0,0] H Z (Af Z (λh2=>U) (λh2=>?_));refine Zc 4 Z (AP Z (BZ (P:=prog) H Z (zs:=(A7 (AK []) 0)) J) ?_);rintro _ w ⟨k,rfl,H⟩;refine Zc 7 Z (Xn (λa w=>Fr 59 [] [(5,I (DY lf)),(0,.agg #[.bool lf,.slice g b.length f,.slice m vs.length l]),(1,Y e),(2,.slice none 0 0),(3,I 0),(4,Y k),(8,.pointer (some ⟨e,1,none⟩)),(9,.slice g b.length f),(10,I (b.length:Int)),(11,.pointer (some ⟨e,2,none⟩)),(12,.slice m vs.length l),(13,I (vs.length:Int)),(14,.bool (decide ((b.length:Int)≠(vs.length:Int)))),(15,.bool false),(16,.pointer (some ⟨e,1,none⟩)),(17,.slice g b.length f),(18,I (b.length:Int)),(19,.bool (decide ((8:Int)<(b.length:Int)))),(20,.bool (decide ((8:Int)<(b.length:Int))))] a/\Sep z (blk k (A7 (AK ([])) 0) 167::blk e [.bool lf,.slice g b.length f,.slice m vs.length l] 201::A::B::R) w) ?_ ?_)
 ·refine Z2 6 [0,1,0] H Z (Es Z (λh3=>?_) (λh3=>?_))
  ·refine Zc 3 Z ?_;exact gf λ_ n=>⟨(n.co Z (congrArg I (by simp[DY, *])) (n.all Z)),H⟩
  refine Zc 1 Z ?_;exact gf λ_ n=>⟨(n.co Z (congrArg I (by simp[DY, *])) (n.all Z)),H⟩
 rintro a w ⟨n,H⟩;revert a;refine Zc 3 Z (z_E_ Z (call100 _) (CH 0 1 (DY lf) (AU (by first|omega|(simp[Ah,c,Du,AfJ,-List.length_flatMap]<;>omega))) U) H ?_);intro w H;rw[show Bx (AK []) (Ag 1 (DY lf)) 0=AK (Ag 1 (DY lf)) from BH Z (by first|omega|(simp[Ah,c,Du,AfJ,-List.length_flatMap]<;>omega))] at H;have H:Sep z (blk k (A7 (AK (Ag 1 (DY lf))) 1) 167::blk e [.bool lf,.slice g b.length f,.slice m vs.length l] 201::A::B::R) w:=H;refine Z2 7 [1,1,0] H Z (z_E_ Z (call100 _) (CH 1 1 (b.length:Int) (AU (by first|omega|(simp[Ah,c,Du,AfJ,-List.length_flatMap]<;>omega))) U) H ?_);intro w H;rw[show Bx (AK (Ag 1 (DY lf))) (Ag 1 (b.length:Int)) 1=AK (Ag 1 (DY lf)++Ag 1 (b.length:Int)) from BH (by first|omega|(simp[Ah,c,Du,AfJ,-List.length_flatMap]<;>omega)) (by first|omega|(simp[Ah,c,Du,AfJ,-List.length_flatMap]<;>omega))] at H;have H:Sep z (blk k (A7 (AK (Ag 1 (DY lf)++Ag 1 (b.length:Int))) 2) 167::blk e [.bool lf,.slice g b.length f,.slice m vs.length l] 201::A::B::R) w:=H;refine Z2 12 [1,1,0] H Z ?_;refine AD (σ:=Nat) (λi=>[(32,I (i:Int)),(1,Y e),(4,Y k),(30,.slice g b.length f),(31,I (b.length:Int))])
   (λi w=>Sep z (blk k (A7 (AK (Ag 1 (DY lf)++Ag 1 (b.length:Int)++Gr b vs i)) ((2+6*i:Nat):Int)) 167::blk e [.bool lf,.slice g b.length f,.slice m vs.length l] 201::A::B::R) w/\(i<=b.length)) (λi=>b.length-i) 0
   fr_z ⟨(by rw[Vu,AeY];exact H),by omega⟩ ?_
 clear H;rintro i w ⟨H',hI⟩;have H:=H'.l4;have a3:=hI;clear hI;refine Z0 6 [0] Z (Af Z (λh4=>?_) (λh4=>?_))
 ·have a0:i<b.length:=by omega
  obtain ⟨x,hx⟩:∃x,b[i]?=some x:=⟨_,Aef a0⟩;obtain ⟨y,o⟩:∃y,vs[i]?=some y:=⟨_,Aef U⟩;have a1:=hk x (Aee hx);have a2:=hv y (Aee o);refine Zc 6 Z ?_;have p:=(H.rd 2 Z hA).at (j:=i) (u:=I x) (by simp[hx]);refine Zc 1 Z (Ab Z (Ak Z (z:=1) (j:=i) (r:=i) J Z Z Z U p U) (Ab Z (Ay Z Z J (Az p)) (Zc 8 Z (z_E_ Z (call99 _) (CY) H ?_))));intro w H;refine Ab Z (AH Z Z) (Zc 1 Z (An 40 Z (λh5=>U) (λh5=>?_)));have d:=(H.rd 3 Z t).at (j:=i) (u:=I y) (by simp[o]);refine Z2 3 [2,1,0] H Z (Ab Z (Ak Z (z:=1) (j:=i) (r:=i) J Z Z Z U d U) (Ab Z (Ay Z Z J (Az d)) (z_E_ Z (call99 _) (CY) H ?_)));intro w H;refine Ab Z (AH Z Z) (Zc 3 Z (Af Z (λh6=>U) (λh6=>?_)));refine Zc 5 Z (z_E_ Z (call100 _) (CH (2+6*i) 4 x (AU (by first|omega|(simp[Ah,c,Du,AfJ,-List.length_flatMap]<;>omega))) U) H ?_);intro w H;rw[show Bx (AK (Ag 1 (DY lf)++Ag 1 (b.length:Int)++Gr b vs i)) (Ag 4 x) (2+6*i)=AK (Ag 1 (DY lf)++Ag 1 (b.length:Int)++Gr b vs i++Ag 4 x) from BH (by first|omega|(simp[Ah,c,Du,AfJ,-List.length_flatMap]<;>omega)) (by first|omega|(simp[Ah,c,Du,AfJ,-List.length_flatMap]<;>omega))] at H;have H:Sep z (blk k (A7 (AK (Ag 1 (DY lf)++Ag 1 (b.length:Int)++Gr b vs i++Ag 4 x)) ((2+6*i+4:Nat):Int)) 167::blk e [.bool lf,.slice g b.length f,.slice m vs.length l] 201::A::B::R) w:=H;refine Zc 3 Z ?_;have d:=(H.rd 3 Z t).at (j:=i) (u:=I y) (by simp[o]);refine Z2 3 [2,1,0] H Z (Ab Z (Ak Z (z:=1) (j:=i) (r:=i) J Z Z Z U d U) (Ab Z (Ay Z Z J (Az d)) (z_E_ Z (call100 _) (CH (2+6*i+4) 2 y (AU (by first|omega|(simp[Ah,c,Du,AfJ,-List.length_flatMap]<;>omega))) U) H ?_)));intro w H;rw[show ((2+6*i+6:Nat):Int)=(((2+6*(i+1):Nat):Int):Int) from by omega] at H;rw[show Bx (AK (Ag 1 (DY lf)++Ag 1 (b.length:Int)++Gr b vs i++Ag 4 x)) (Ag 2 y) (2+6*i+4)=AK (Ag 1 (DY lf)++Ag 1 (b.length:Int)++Gr b vs i++Ag 4 x++Ag 2 y) from BH (by first|omega|(simp[Ah,c,Du,AfJ,-List.length_flatMap]<;>omega)) (by first|omega|(simp[Ah,c,Du,AfJ,-List.length_flatMap]<;>omega))] at H;have H:Sep z (blk k (A7 (AK (Ag 1 (DY lf)++Ag 1 (b.length:Int)++Gr b vs i++Ag 4 x++Ag 2 y)) ((2+6*(i+1):Nat):Int)) 167::blk e [.bool lf,.slice g b.length f,.slice m vs.length l] 201::A::B::R) w:=H;refine Z1 7 [] [(i:Int)+1] Z U (gf ?_);intro _ n;refine ⟨(i+1),n.cz,⟨(by rw[YH hx o,<-Aej,<-Aej];exact H),?_⟩,?_⟩
  ·omega
  omega
 obtain rfl:i=b.length:=by omega
 refine Zc 2 Z (gx (Zc 3 Z ?_));have H:Sep z (blk k (A7 (AK (Gf lf b vs)) ((2+6*b.length:Nat):Int)) 167::blk e [.bool lf,.slice g b.length f,.slice m vs.length l] 201::A::B::R) w:=H;refine Zc 1 Z (z_E_ Z (call102 _) (LW (AU (by first|omega|(simp[Ah,Gz s]<;>omega)))) H ?_);intro w H;refine Zc 5 Z (Zr Z ?_);exact ⟨_,⟨k,Z,Z⟩,H.perm 4 [0,2,3] Z Z⟩
theorem MG(bd:List UInt8)(hA:∀h,A h->rdH 1 (.slice (some ⟨n,j,none⟩) 240 e) 240 (bd.map u8) h)(lf:Bool)(a vs:List Int)(c:a.length=vs.length)(h8:a.length<=8)(hk:∀x∈a,0<=x/\x<=1048575)(hv:∀y∈vs,0<=y/\y<=1023)(f:bd=Hg lf a vs):Aj 176 [.slice (some ⟨n,j,none⟩) 240 e] [A] (λv G=>∃v1 v2,v=.tuple #[.agg #[.bool lf,v1,v2],.bool true]/\G=[grow 3 1 v1 a.length (a.map I),grow 3 1 v2 a.length (vs.map I),A]):=by
 intro z R w H;replace H:=H.l1;have c5:=H.sy 0 (λq=>(hA _ q).cap);have c4:=Ts lf;have g0:AY ((bd.drop 0).take 1)=DY lf:=by rw[f];exact YJ c h8
 have g1:AY ((bd.drop 1).take 1)=(a.length:Int):=by rw[f];exact YK c h8
 refine Ae func176 Z ntmps176 Z (Za 2 [] H Z ?_);intro t w H;refine Za 18 [4] H Z ?_;intro s w H;refine Z4 5 [0] H Z ?_;intro w H;refine z_E_ Z (call165 _) (CB 1 n j 240 (e) ((bd.drop 0).take 240) (λh q=>by have:=(hA h q).cut (lo:=0) (m:=240) (c':=e) U U U;exact this) U U ((bd.drop 0).take 1) (by rw[AeF,AeG U]) (j+1) 239 (e-1) U U U) H.f2.f1 ?_;intro w H;replace H:=H.l3;refine AB 16 (v:=I (DY lf)) Z (congrArg I g0) (z_E_ Z (call165 _) (CB 1 n (j+1) 239 ((e-1)) ((bd.drop 1).take 239) (λh q=>by have:=(hA h q).cut (lo:=1) (m:=239) (c':=(e-1)) U U U;exact this) U U ((bd.drop 1).take 1) (by rw[AeF,AeG U]) (j+2) 238 (e-2) U U U) H ?_);intro w H;replace H:=H.l3;refine AB 17 (v:=I (a.length:Int)) Z (congrArg I g1) (Z0 10 [0] Z (An 20 Z (λh1=>U) (λh1=>?_)));refine Z0 5 [0] Z (Af Z (λh2=>U) (λh2=>?_));refine Z0 6 [0] Z (AB 26 (v:=.bool lf) Z (congrArg Value.bool (Aby lf)) (Za 1 [] H Z ?_));intro l w H;refine Z4 5 [0] H Z ?_;intro w H;replace H:=(H.nilg 3 1).l5;replace H:=(H.nilg 3 1).l6;refine Zc 6 Z ?_;refine AD (σ:=Nat×Value×Value) (λ⟨i,v,u⟩=>[(29,I (i:Int)),(2,Y t),(4,Y s),(7,Y l),(28,I (a.length:Int))])
   (λ⟨i,v,u⟩ w=>Sep z (grow 3 1 u i ((vs.take i).map I)::grow 3 1 v i ((a.take i).map I)::blk l [.bool lf,v,u] 201::blk s [.slice (some ⟨n,(j+(2+6*i)),none⟩) (240-(2+6*i)) (e-(2+6*i))] 258::A::blk t [.bool false,.slice none 0 0,.slice none 0 0] 201::R) w/\(i<=a.length)) (λ⟨i,v,u⟩=>a.length-i) ⟨0,.slice none 0 0,.slice none 0 0⟩
   fr_z ⟨H,AeN _⟩ ?_
 clear H;rintro ⟨i,v,u⟩ w ⟨b,hI⟩;dsimp only at hI b ⊢;have H:=b.l6;have su:=H.sy 0 (·.slc);have sv:=H.sy 1 (·.slc);have c7:=hI;refine Z0 6 [0] Z (Af Z (λh3=>?_) (λh3=>?_))
 ·have b9:i<a.length:=by omega
  obtain ⟨x,g⟩:∃x,a[i]?=some x:=⟨_,Aef b9⟩;obtain ⟨y,hy⟩:∃y,vs[i]?=some y:=⟨_,Aef U⟩;have c1:=hk x (Aee g);have c0:=hv y (Aee hy);have gx:AY ((bd.drop (2+6*i)).take 4)=x:=by rw[f];exact AbA c h8 g hy c1
  have gy:AY ((bd.drop (2+6*i+4)).take 2)=y:=by rw[f];exact AbB c h8 g hy c0
  refine Zc 6 Z (z_E_ Z (call165 _) (CB 4 n (j+(2+6*i)) (240-(2+6*i)) ((e-(2+6*i))) ((bd.drop (2+6*i)).take (240-(2+6*i))) (λh q=>by have:=(hA h q).cut (lo:=(2+6*i)) (m:=(240-(2+6*i))) (c':=(e-(2+6*i))) U U U;exact this) U U ((bd.drop (2+6*i)).take 4) (by rw[AeF,AeG U]) (j+(2+6*i+4)) (240-(2+6*i+4)) (e-(2+6*i+4)) U U U) H.f4.f4 ?_);intro w H;replace H:=H.l6;refine AB 31 (v:=I x) Z (congrArg I gx) (z_E_ Z (call165 _) (CB 2 n (j+(2+6*i+4)) (240-(2+6*i+4)) ((e-(2+6*i+4))) ((bd.drop (2+6*i+4)).take (240-(2+6*i+4))) (λh q=>by have:=(hA h q).cut (lo:=(2+6*i+4)) (m:=(240-(2+6*i+4))) (c':=(e-(2+6*i+4))) U U U;exact this) U U ((bd.drop (2+6*i+4)).take 2) (by rw[AeF,AeG U]) (j+(2+6*(i+1))) (240-(2+6*(i+1))) (e-(2+6*(i+1))) U U U) H ?_);intro w H;replace H:=H.l6;refine AB 32 (v:=I y) Z (congrArg I gy) (Zc 8 Z (z_E_ Z (call99 _) (CY) H ?_));intro w H;replace H:=H.l6;refine Ab Z (AH Z Z) (Zc 1 Z (An 36 Z (λh4=>U) (λh4=>?_)));refine Zc 1 Z (z_E_ Z (call99 _) (CY) H ?_);intro w H;replace H:=H.l6;refine Ab Z (AH Z Z) (Zc 3 Z (Af Z (λh5=>U) (λh5=>?_)));refine Zc 2 Z ?_;replace H:=H.f4;refine Ou (Sep z (blk l [.bool lf,v,u] 201::R)) [11,12,13] 14 Z J (A4 H λw b=>?_);have H:=b.l6;refine IF 0 Z J J J J Z Z Z (DU Z (k:=1) (r:=1) J Z Z) (H.pick 6 [0] Z) (IF 1 Z J J J J Z Z Z (Bn Z Z J (λ_ g=>g.cel 0 Z 1 Z)) (H.pick 6 [0] Z) (IF 2 Z J J J J Z Z Z (Ck Z Z) (H.pick 6 [0] Z) (IF 5 Z J J J J Z Z Z (DU Z (k:=2) (r:=2) J Z Z) (H.pick 6 [0] Z) (IF 6 Z J J J J Z Z Z (Bn Z Z J (λ_ g=>g.cel 0 Z 2 Z)) (H.pick 6 [0] Z) (IF 7 Z J J J J Z Z Z (Ck Z Z) (H.pick 6 [0] Z) (C6 [3,8] J O (IP ?_ ?_)))))))
  ·refine B6 Z Z Z Z (AO H Z J BC Z (by decide) (by decide) (out:=[I x]) J) ?_;rintro _ w ⟨b4,rfl,H⟩;replace H:=H.l7;refine Au (λ_=>(H.pick 7 [1] Z)) (C6 [4,8] J O (IP ?_ ?_))
   ·refine B6 Z Z Z Z (AW 5 H Z Z J BC Z Z (H.rv 0 (·.rd U U O Z)) (by simp[Value.oneCell']) U) ?_;rintro v5 w b;have b:Sep z (blk b4 [I x] 3::blk l [.bool lf,v,u] 201::blk s [.slice (some ⟨n,(j+(2+6*(i+1))),none⟩) (240-(2+6*(i+1))) (e-(2+6*(i+1)))] 258::A::grow 3 1 u i ((vs.take i).map I)::grow 3 1 v5 (i+1) ((a.take i).map I++[I x])::blk t [.bool false,.slice none 0 0,.slice none 0 0] 201::R) w:=b
    have c2:((a.take i).map I++[I x]:List Value)=(a.take (i+1)).map I:=(D7 g);rw[c2] at b;have H:=b.l7;have b5:=H.sy 5 (·.slc);refine Au (λ_=>(H.pick 7 [1] Z)) (IF 10 Z J J J J Z Z Z (DU Z (k:=1) (r:=1) J Z Z) (H.pick 7 [1] Z) (C6 [8] J O (Am (B6 Z Z Z Z (AO H Z J BC Z (by decide) (by decide) (out:=[I y]) J) ?_))));rintro _ w ⟨b6,rfl,H⟩;replace H:=H.l8;refine Au (λ_=>(H.pick 8 [2] Z)) (C6 [9] J O (Am (B6 Z Z Z Z (AW 5 H Z Z J BC Z Z (H.rv 0 (·.rd U U O Z)) (by simp[Value.oneCell']) U) ?_)));rintro v7 w b;have b:Sep z (blk b6 [I y] 3::blk b4 [I x] 3::blk l [.bool lf,v,u] 201::blk s [.slice (some ⟨n,(j+(2+6*(i+1))),none⟩) (240-(2+6*(i+1))) (e-(2+6*(i+1)))] 258::A::grow 3 1 v7 (i+1) ((vs.take i).map I++[I y])::grow 3 1 v5 (i+1) ((a.take (i+1)).map I)::blk t [.bool false,.slice none 0 0,.slice none 0 0] 201::R) w:=b;have c3:((vs.take i).map I++[I y]:List Value)=(vs.take (i+1)).map I:=(D7 hy);rw[c3] at b;have H:=b.l8;have a9:=H.sy 5 (·.slc);refine Au (λ_=>(H.pick 8 [2] Z)) (C6 [11] J O (Am (Bj Z Z Z (Lu 2 H Z Z Z Z b5.cells b5.one J) ?_)));rintro w H;replace H:=H.l8;refine Au (λh=>absurd h (by decide)) (C6 [12] J O (Am (Ct Z Z Z Z (DU Z (k:=2) (r:=2) J Z Z) (Au (λh=>absurd h (by decide)) (C6 [13] J O (Am (Bj Z Z Z (J1 2 H Z Z Z Z a9.cells a9.one J) ?_)))))));rintro w H;replace H:=H.l8;refine Au (λh=>absurd h (by decide)) (K8 J (gn (Z1 6 [] [(i:Int)+1] Z U ?_)));replace H:=H.f1.d.d.f5.f3.f3.f3.f5.f5;refine gf ?_;intro _ hF;refine ⟨⟨i+1,v5,v7⟩,hF.cz,⟨H,?_⟩,?_⟩
    ·dsimp only;omega
    omega
   refine B6 Z Z Z Z (AO H Z J BC Z (by decide) (by decide) (out:=[I y]) J) ?_;rintro _ w ⟨b8,rfl,H⟩;replace H:=H.l8;refine Au (λ_=>(H.pick 8 [2] Z)) (C6 [4] J O (Am (B6 Z Z Z Z (AW 6 H Z Z J BC Z Z (H.rv 1 (·.rd U U O Z)) (by simp[Value.oneCell']) U) ?_)));rintro v9 w b;have b:Sep z (blk b8 [I y] 3::blk b4 [I x] 3::blk l [.bool lf,v,u] 201::blk s [.slice (some ⟨n,(j+(2+6*(i+1))),none⟩) (240-(2+6*(i+1))) (e-(2+6*(i+1)))] 258::A::grow 3 1 u i ((vs.take i).map I)::grow 3 1 v9 (i+1) ((a.take i).map I++[I x])::blk t [.bool false,.slice none 0 0,.slice none 0 0] 201::R) w:=b;have b7:((a.take i).map I++[I x]:List Value)=(a.take (i+1)).map I:=(D7 g);rw[b7] at b;have H:=b.l8;have a2:=H.sy 6 (·.slc);refine Au (λ_=>(H.pick 8 [2] Z)) (IF 10 Z J J J J Z Z Z (DU Z (k:=1) (r:=1) J Z Z) (H.pick 8 [2] Z) (C6 [9] J O (Am (B6 Z Z Z Z (AW 5 H Z Z J BC Z Z (H.rv 0 (·.rd U U O Z)) (by simp[Value.oneCell']) U) ?_))));rintro a4 w b;have b:Sep z (blk b8 [I y] 3::blk b4 [I x] 3::blk l [.bool lf,v,u] 201::blk s [.slice (some ⟨n,(j+(2+6*(i+1))),none⟩) (240-(2+6*(i+1))) (e-(2+6*(i+1)))] 258::A::grow 3 1 a4 (i+1) ((vs.take i).map I++[I y])::grow 3 1 v9 (i+1) ((a.take (i+1)).map I)::blk t [.bool false,.slice none 0 0,.slice none 0 0] 201::R) w:=b;have a3:((vs.take i).map I++[I y]:List Value)=(vs.take (i+1)).map I:=(D7 hy);rw[a3] at b;have H:=b.l8;have o:=H.sy 5 (·.slc);refine Au (λ_=>(H.pick 8 [2] Z)) (C6 [11] J O (Am (Bj Z Z Z (Lu 2 H Z Z Z Z a2.cells a2.one J) ?_)));rintro w H;replace H:=H.l8;refine Au (λh=>absurd h (by decide)) (C6 [12] J O (Am (Ct Z Z Z Z (DU Z (k:=2) (r:=2) J Z Z) (Au (λh=>absurd h (by decide)) (C6 [13] J O (Am (Bj Z Z Z (J1 2 H Z Z Z Z o.cells o.one J) ?_)))))));rintro w H;replace H:=H.l8;refine Au (λh=>absurd h (by decide)) (K8 J (gn (Z1 6 [] [(i:Int)+1] Z U ?_)));replace H:=H.f1.d.d.f5.f3.f3.f3.f5.f5;refine gf ?_;intro _ hF;refine ⟨⟨i+1,v9,a4⟩,hF.cz,⟨H,?_⟩,?_⟩
   ·dsimp only;omega
   omega
  refine B6 Z Z Z Z (AO H Z J BC Z (by decide) (by decide) (out:=[I y]) J) ?_;rintro _ w ⟨a5,rfl,H⟩;replace H:=H.l7;refine Au (λ_=>(H.pick 7 [1] Z)) (C6 [3] J O (Am (B6 Z Z Z Z (AO H Z J BC Z (by decide) (by decide) (out:=[I x]) J) ?_)));rintro _ w ⟨a8,rfl,H⟩;replace H:=H.l8;refine Au (λ_=>(H.pick 8 [2] Z)) (C6 [4] J O (Am (B6 Z Z Z Z (AW 6 H Z Z J BC Z Z (H.rv 0 (·.rd U U O Z)) (by simp[Value.oneCell']) U) ?_)));rintro a1 w b;have b:Sep z (blk a8 [I x] 3::blk a5 [I y] 3::blk l [.bool lf,v,u] 201::blk s [.slice (some ⟨n,(j+(2+6*(i+1))),none⟩) (240-(2+6*(i+1))) (e-(2+6*(i+1)))] 258::A::grow 3 1 u i ((vs.take i).map I)::grow 3 1 a1 (i+1) ((a.take i).map I++[I x])::blk t [.bool false,.slice none 0 0,.slice none 0 0] 201::R) w:=b;have a7:((a.take i).map I++[I x]:List Value)=(a.take (i+1)).map I:=(D7 g);rw[a7] at b;have H:=b.l8;have p:=H.sy 6 (·.slc);refine Au (λ_=>(H.pick 8 [2] Z)) (IF 10 Z J J J J Z Z Z (DU Z (k:=1) (r:=1) J Z Z) (H.pick 8 [2] Z) (C6 [9] J O (Am (B6 Z Z Z Z (AW 5 H Z Z J BC Z Z (H.rv 1 (·.rd U U O Z)) (by simp[Value.oneCell']) U) ?_))));rintro b0 w b;have b:Sep z (blk a8 [I x] 3::blk a5 [I y] 3::blk l [.bool lf,v,u] 201::blk s [.slice (some ⟨n,(j+(2+6*(i+1))),none⟩) (240-(2+6*(i+1))) (e-(2+6*(i+1)))] 258::A::grow 3 1 b0 (i+1) ((vs.take i).map I++[I y])::grow 3 1 a1 (i+1) ((a.take (i+1)).map I)::blk t [.bool false,.slice none 0 0,.slice none 0 0] 201::R) w:=b;have a6:((vs.take i).map I++[I y]:List Value)=(vs.take (i+1)).map I:=(D7 hy);rw[a6] at b;have H:=b.l8;have a0:=H.sy 5 (·.slc);refine Au (λ_=>(H.pick 8 [2] Z)) (C6 [11] J O (Am (Bj Z Z Z (Lu 2 H Z Z Z Z p.cells p.one J) ?_)));rintro w H;replace H:=H.l8;refine Au (λh=>absurd h (by decide)) (C6 [12] J O (Am (Ct Z Z Z Z (DU Z (k:=2) (r:=2) J Z Z) (Au (λh=>absurd h (by decide)) (C6 [13] J O (Am (Bj Z Z Z (J1 2 H Z Z Z Z a0.cells a0.one J) ?_)))))));rintro w H;replace H:=H.l8;refine Au (λh=>absurd h (by decide)) (K8 J (gn (Z1 6 [] [(i:Int)+1] Z U ?_)));replace H:=H.f1.d.d.f5.f3.f3.f3.f5.f5;refine gf ?_;intro _ hF;refine ⟨⟨i+1,a1,b0⟩,hF.cz,⟨H,?_⟩,?_⟩
  ·dsimp only;omega
  omega
 obtain rfl:i=a.length:=by omega
 refine Zc 2 Z (gx (Zc 5 Z (z_E_ Z (call166 _) (KY n (j+(2+6*a.length)) (240-(2+6*a.length)) ((e-(2+6*a.length))) ((bd.drop (2+6*a.length)).take (240-(2+6*a.length))) (λh q=>by have:=(hA h q).cut (lo:=(2+6*a.length)) (m:=(240-(2+6*a.length))) (c':=(e-(2+6*a.length))) U U U;exact this) (.inr ⟨by omega,by rw[f];exact Qo c h8,by omega⟩)) H.f4.f4 ?_)));intro w H;replace H:=H.l6;refine Ab Z (AH Z Z) (Zc 2 Z (Af Z (λh6=>?_) (λh6=>?_)))
 ·exact absurd (by rw[f];exact Qo c h8) h6
 refine Z2 5 [4,3] H Z (AC Z Z (Al 5 H Z Z Z Z (vs:=[.bool lf,v,u]) Z (Ad Z (Ad sv.one (Ad su.one Aw))) J O (out:=[.bool lf,v,u]) Z) ?_);rintro w H;replace H:=H.l6;refine Zc 4 Z (Zl [5,3] H Z ?_);have e1:a.take a.length=a:=Ae9;have e2:vs.take a.length=vs:=by rw[c];exact Ae9
 rw[e1,e2] at H;exact ⟨_,⟨v,u,Z,Z⟩,H.perm 6 [3,2,1] Z Z⟩
def C4(C:Nat->Nat)(n:Nat):List Value:=(List.range n).map λk=>.int .i64 (C k:Int)
abbrev Cg(bn:Nat)(C:Nat->Nat)(n:Nat):Ai:=blk bn (C4 C n) 3
abbrev coB(pc bn n m:Nat):Ai:=blk pc [.slice (some ⟨bn,0,none⟩) n n,.map (some m)] 175
def updN(C:Nat->Nat)(p x:Nat):Nat->Nat:=λq=>if q=p then x else C q
theorem CX(C:Nat->Nat)(n:Nat):(C4 C n).length=n:=by simp[C4]
theorem cnL_at(C:Nat->Nat)(h:m<n):(C4 C n)[m]?=some (I (C m:Int)):=by simp[C4,h]
theorem JA{x:Nat}(h:m<n)(c:t=(x:Int)):(C4 C n).take m++[I t]++(C4 C n).drop (m+1)=C4 (updN C m x) n:=by
 subst c;have e:=Afc (l:=C4 C n) (i:=m) (a:=I (x:Int));rw[if_pos (by rw[CX];exact h)] at e;rw[Aej,List.singleton_append,<-e];refine Afs λj=>?_;rw[Afq];rcases Aes j n with b|b
 ·rw[cnL_at (updN C m x) b]
  split
  ·rename_i e1;subst e1;rw[if_pos (by rw[CX];exact h)];simp[updN]
  rename_i e1;rw[cnL_at C b];simp[updN,AfU e1]
 rw[AeK (by rw[CX];exact b),AeK (by rw[CX];exact b)];split
 ·rename_i e1;subst e1;rw[if_neg (by rw[CX];omega)]
 rfl
structure WasOk(C C0:Nat->Nat)(n:Nat)(l:List IE)(clk:Nat):Prop where
 clk:∀p∈l,p.2.2<clk
 born:(l.map λp:IE=>p.2.2).Nodup
 keys:(l.map λp:IE=>p.1).Nodup
 ent:∀p∈l,∃k:Nat,p.1=(k:Int)/\k<n/\p.2.1=.int .i64 (C0 k:Int)
 rest:∀k,k<n->(∀p∈l,p.1≠(k:Int))->C k=C0 k
theorem WasOk.nil(C:Nat->Nat)(n clk:Nat):WasOk C C n [] clk:=⟨by simp,by simp,by simp,by simp,λ_ _ _=>rfl⟩
theorem MH:∀{l:List IE} {k:Int},CP l k=none->∀p∈l,p.1≠k
 | [],_,_,p,h=>by simp at h
 | q::l,k,h,p,hp=>by
  simp only[CP] at h;split at h
  ·cases h
  rename_i hne;rcases Aep.1 hp with rfl|hp
  ·exact λe=>hne e.symm
  exact MH h p hp
theorem MI:∀{l:List IE} {k:Int} {v:Value},CP l k=some v->∃p∈l,p.1=k/\p.2.1=v
 | [],_,_,h=>by simp[CP] at h
 | q::l,k,v,h=>by
  simp only[CP] at h;split at h
  ·rename_i e;simp at h;exact ⟨q,by simp,e.symm,h⟩
  obtain ⟨p,hp,h1,h2⟩:=MI h;exact ⟨p,by simp[hp],h1,h2⟩
theorem Ov:∀{l:List IE} {p:IE},(l.map λp:IE=>p.1).Nodup->p∈l->CP l p.1=some p.2.1
 | [],p,_,h=>by simp at h
 | q::l,p,hn,h=>by
  simp only[AeL,Afj] at hn;simp only[CP];rcases Aep.1 h with rfl|h
  ·simp
  rw[if_neg (λe=>hn.1 (by rw[<-e];exact Aem.2 ⟨p,h,Z⟩))];exact Ov hn.2 h
theorem WasOk.has{C0:Nat->Nat}{clk p:Nat}{l:List IE}(W:WasOk C C0 n l clk)(h:CQ l (p:Int)=true)(x:Nat):WasOk (updN C p x) C0 n l clk:=by
 refine ⟨W.clk,W.born,W.keys,W.ent,λk b a=>?_⟩;unfold updN;split
 ·rename_i e;subst e
  obtain ⟨v,d⟩:=Afa.1 h;obtain ⟨q,hq,c,_⟩:=MI d;exact absurd c (a q hq)
 exact W.rest k b a
theorem WasOk.put{C0:Nat->Nat}{clk p:Nat}{l:List IE}(W:WasOk C C0 n l clk)(hp:p<n)(h:CQ l (p:Int)=false)(x:Nat):
  WasOk (updN C p x) C0 n (E6 l (p:Int) (I (C p:Int)) clk) (putC l (p:Int) clk):=by
 have d:∀q∈l,q.1≠(p:Int):=MH (by unfold CQ at h;simpa using h);have e1:E6 l (p:Int) (I (C p:Int)) clk=l++[((p:Int),I (C p:Int),clk)]:=by unfold E6;rw[h];rfl
 have e2:putC l (p:Int) clk=clk+1:=by unfold putC;rw[h];rfl
 have j:C p=C0 p:=W.rest p hp d;rw[e1,e2];refine ⟨λq hq=>?_,?_,?_,λq hq=>?_,λk i c=>?_⟩
 ·rcases Aer.1 hq with hq|hq
  ·have:=W.clk q hq;omega
  simp at hq;subst hq;simp
 ·rw[AeH,Afb]
  refine ⟨W.born,by simp,λa g b f=>?_⟩;simp at f;subst f;obtain ⟨q,hq,rfl⟩:=Aem.1 g;have:=W.clk q hq;omega
 ·rw[AeH,Afb]
  refine ⟨W.keys,by simp,λa g b f=>?_⟩;simp at f;subst f;obtain ⟨q,hq,rfl⟩:=Aem.1 g;exact d q hq
 ·rcases Aer.1 hq with hq|hq
  ·exact W.ent q hq
  simp at hq;subst hq;exact ⟨p,Z,hp,by rw[j]⟩
 unfold updN;split
 ·rename_i e;subst e
  exact absurd Z (c ((k:Int),I (C k:Int),clk) O)
 exact W.rest k i (λq hq=>c q (by simp[hq]))
theorem WasOk.len{C0:Nat->Nat}{clk:Nat}{l:List IE}(W:WasOk C C0 n l clk):l.length<=n:=by
 have h:=Jy (s:=l.map λp:IE=>p.1) (l:=(List.range n).map λk:Nat=>(k:Int)) W.keys (λx b=>by
  obtain ⟨p,hp,rfl⟩:=Aem.1 b;obtain ⟨k,a,c,_⟩:=W.ent p hp;rw[a];exact Aem.2 ⟨k,AfS.2 c,Z⟩)
 simpa using h
def manyN(n:Nat):Nat:=(n+119)/120
def Ex(C:Nat->Nat)(n i:Nat):List Int:=(List.range 120).map λk=>if 120*i+k<n then (C (120*i+k):Int) else 0
theorem JB(C:Nat->Nat)(n i:Nat):(Ex C n i).length=120:=by simp[Ex]
theorem Tv(h:∀k,C k<=1000):∀x∈Ex C n i,0<=x/\x<=1000:=λx a=>by
 simp only[Ex,Aem] at a;obtain ⟨k,_,rfl⟩:=a;split
 ·have:=h (120*i+k);omega
 omega
theorem Vv(C:Nat->Nat)(n i:Nat)(hi:120*i<n):(List.replicate 120 (I 0)).take 0++((C4 C n).drop (120*i)).take (min (n-120*i) 120)++(List.replicate 120 (I 0)).drop (0+min (n-120*i) 120)=(Ex C n i).map I:=by
 rw[AfG,AeS,AfO];refine Afs λj=>?_;have b:(((C4 C n).drop (120*i)).take (min (n-120*i) 120)).length=min (n-120*i) 120:=by rw[Aez,AeQ,CX];omega
 rcases Aes j 120 with a|a
 ·have c:((Ex C n i).map I)[j]?=some (I (if 120*i+j<n then (C (120*i+j):Int) else 0)):=by simp[Ex,a]
  rw[c];rcases Aes j (min (n-120*i) 120) with h|h
  ·rw[Aeo U,Ae0,if_pos h,Afm,cnL_at C U,if_pos U]
  rw[Aeu U,b,Afm,List.getElem?_replicate,if_pos U,if_neg U]
 rw[AeK (by rw[Aeg,b,AeQ,Afk];omega),AeK (by simp[Ex];omega)]
theorem YL(C:Nat->Nat)(n:Nat):∀c∈C4 C n,c.oneCell'=true:=λc a=>by
 simp only[C4,Aem] at a;obtain ⟨k,_,rfl⟩:=a;rfl
def HQ(C:Nat->Nat)(i:Nat)(ns:List Int)(j:Nat):Nat->Nat:=λp=>if p/120=i/\p%120<j then (ns.getD (p%120) 0).toNat else C p
theorem Vw(C:Nat->Nat)(i:Nat)(ns:List Int):HQ C i ns 0=C:=by funext p;simp[HQ]
theorem Vx(C:Nat->Nat)(c:j<120)(a:l[j]?=some t)(b:0<=t):updN (HQ C i l j) (120*i+j) t.toNat=HQ C i l (j+1):=by
 funext p;unfold updN HQ;split
 ·rename_i e;subst e
  rw[if_pos ⟨by omega,by omega⟩,show (120*i+j)%120=j by omega];simp[List.getD,a]
 rename_i e;by_cases h:p/120=i/\p%120<j
 ·rw[if_pos h,if_pos ⟨h.1,by omega⟩]
 rw[if_neg h,if_neg (λq=>h ⟨q.1,by omega⟩)]
theorem Vy(C:Nat->Nat)(h:n<=120*i+j)(a:j<120):C4 (HQ C i l j) n=C4 (HQ C i l (j+1)) n:=by
 refine Afs λp=>?_;rcases Aes p n with hp|hp
 ·rw[cnL_at _ hp,cnL_at _ hp]
  unfold HQ;by_cases q:p/120=i/\p%120<j
  ·rw[if_pos q,if_pos ⟨q.1,by omega⟩]
  rw[if_neg q,if_neg (λr=>q ⟨r.1,by omega⟩)]
 rw[AeK (by rw[CX];exact hp),AeK (by rw[CX];exact hp)]
def Hh(C C0:Nat->Nat)(s:List IE):Nat->Nat:=λk=>if s.any (λp=>decide (p.1=(k:Int))) then C0 k else C k
theorem YM(C C0:Nat->Nat):Hh C C0 []=C:=by funext k;simp[Hh]
theorem Vz(C C0:Nat->Nat){s:List IE}{p:IE}(a:p.1=(n:Int)):updN (Hh C C0 s) n (C0 n)=Hh C C0 (s++[p]):=by
 funext q;unfold updN Hh;rw[List.any_append];have b:([p]:List IE).any (λp=>decide (p.1=(q:Int)))=decide (n=q):=by
  simp[a];omega
 rw[b];split
 ·rename_i e;subst e;simp
 rename_i e;have:decide (n=q)=false:=decide_eq_false (λh=>e h.symm);rw[this,Bool.or_false]
theorem YN{C0:Nat->Nat}{l s:List IE}(W:WasOk C C0 n l m)(hs:s.Perm l):C4 (Hh C C0 s) n=C4 C0 n:=by
 refine Afs λk=>?_;rcases Aes k n with a|a
 ·rw[cnL_at _ a,cnL_at _ a]
  unfold Hh;split
  ·rfl
  rename_i h;rw[W.rest k a (λp hp e=>h (by
   rw[Ahx];exact ⟨p,hs.mem_iff.2 hp,by simpa using e⟩))]
 rw[AeK (by rw[CX];exact a),AeK (by rw[CX];exact a)]
def unA(b1 pc bn m n:Nat)(C C0:Nat->Nat)(l s:List IE):Ai:=λh=>((∀p∈s,p∈l)/\(s.map λp:IE=>p.2.2).Nodup)/\seps [blk b1 [.pointer (some ⟨pc,0,none⟩)] 105,blk pc [.slice (some ⟨bn,0,none⟩) n n,.map (some m)] 175,blk bn (C4 (Hh C C0 s) n) 3] h
theorem Sep.un{w:World}{C0:Nat->Nat}{l s:List IE}(H:Sep z (unA i j e m n C C0 l s::Γ) w):((∀p∈s,p∈l)/\(s.map λp:IE=>p.2.2).Nodup)/\Sep z (YtemljpjnhjnncaaGreatDoor.blk i [Y j] 105::YtemljpjnhjnncaaGreatDoor.blk j [.slice (some ⟨e,0,none⟩) n n,.map (some m)] 175::YtemljpjnhjnncaaGreatDoor.blk e (C4 (Hh C C0 s) n) 3::Γ) w:=by
 obtain ⟨_,hp,a⟩:=H.into (σ:=Unit) (p:=λ_=>(∀p∈s,p∈l)/\(s.map λp:IE=>p.2.2).Nodup) (As:=λ_=>[YtemljpjnhjnncaaGreatDoor.blk i [Y j] 105,YtemljpjnhjnncaaGreatDoor.blk j [.slice (some ⟨e,0,none⟩) n n,.map (some m)] 175,YtemljpjnhjnncaaGreatDoor.blk e (C4 (Hh C C0 s) n) 3]) (λh q=>⟨(),q.1,q.2⟩);exact ⟨hp,a⟩
theorem Sep.toUn{w:World}{C0:Nat->Nat}{l s:List IE}(H:Sep z (YtemljpjnhjnncaaGreatDoor.blk i [Y j] 105::YtemljpjnhjnncaaGreatDoor.blk j [.slice (some ⟨e,0,none⟩) n n,.map (some m)] 175::YtemljpjnhjnncaaGreatDoor.blk e (C4 (Hh C C0 s) n) 3::Γ) w)(a:(∀p∈s,p∈l)/\(s.map λp:IE=>p.2.2).Nodup):Sep z (unA i j e m n C C0 l s::Γ) w:=
 H.made 3 (A:=unA i j e m n C C0 l s) (λh q=>⟨a,q⟩)
theorem Sep.permut{w:World}{Γ':List Ai}(p:Γ.Perm Γ'):∀Δ:List Ai,Sep z (Δ++Γ) w->Sep z (Δ++Γ') w:=by
 induction p with
 | nil=>exact λ_ H=>H
 | cons a _ ih=>
  intro Δ H;have:=ih (Δ++[a]) (by rw[Aej];exact H);rw[Aej] at this;exact this
 | swap a b l=>
  intro Δ H;have c:Sep z (b::a::(l++Δ)) w:=H.swap;have d:Sep z ((a::b::l)++Δ) w:=c.pick 2 [1,0] Z;exact d.swap
 | trans _ _ ih1 ih2=>exact λΔ H=>ih2 Δ (ih1 Δ H)
theorem VA{w:World}{B C:Ai}(H:Sep z (A::B::C::Γ) w):Sep z ((A::Γ)++[B,C]) w:=
 Sep.permut (Afl A (Af6 (l₁:=[B,C]) (l₂:=Γ))) [] H
theorem YO{w:World}{A2 A3 B C:Ai}{F:List Ai}(H:Sep z (A::A2::A3::(Γ++([B,C]++F))) w):Sep z (A::A2::A3::B::C::(Γ++F)) w:=
 Sep.permut (Ahg Γ [B,C] F) [A,A2,A3] H
theorem YP{w:World}{B C:Ai}{F:List Ai}(H:Sep z (A::B::C::(Γ++F)) w):Sep z ((A::Γ)++([B,C]++F)) w:=
 Sep.permut (Ahg [B,C] Γ F) [A] H
theorem AbD{w:World}{D B C:Ai}(H:Sep z (D::((A::Γ)++[B,C])) w):Sep z (A::D::B::C::Γ) w:=
 Sep.permut ((AfY A D _).trans (Afl A (Afl D (Af6 (l₁:=Γ) (l₂:=[B,C]))))) [] H
theorem VB{L:List Int}(b:n<L.length):(L.map I++V).take n++[I t]++(L.map I++V).drop (n+1)=(L.set n t).map I++V:=by
 rw[Aev (by simp;omega),AeV (by simp;omega)];have e:=Afc (l:=L) (i:=n) (a:=t);rw[if_pos b] at e;rw[e];simp[Afr,AfW]
theorem GV(a:l[n]?=some t):(l.map I++V)[n]?=some (I t):=by
 rw[Aeo (by simpa using (Aed.1 a).1),Aeq,a];rfl
structure CpI(ys:List Int)(n k0 k j:Nat)(L:List Int):Prop where
 k0k:k0<=k
 kj:k+1<=k0+j
 j1:1<=j
 jn:k0+j<=n
 len:L.length=n
 same:∀i,k0+j<=i+1->L[i]?=ys[i]?
 mem:∀x,x∈L.take k↔x∈ys.take (k0+j)
theorem E3(h:l[n]?=some t)(z:Int):z∈l.take (n+1)↔z∈l.take n\/z=t:=by
 rw[AeM,h];simp
theorem CpI.start{ys:List Int}{k:Nat}{x:Int}(c:ys.length=n)(f:1<=k)(d:k<n)(b:ys[k]?=some x)(a:ys[k-1]?=some x):CpI ys n k k 1 ys:=by
 refine ⟨Aek _,Aek _,Aek _,by omega,c,λ_ _=>rfl,λz=>?_⟩;rw[E3 b];refine ⟨.inl,λh=>h.elim id λe=>?_⟩;subst e;exact Ahu.2 ⟨k-1,by have:=(Aed.1 a).1;omega,(Aed.1 a).2⟩
theorem CpI.skip{ys L:List Int}{k:Nat}{x:Int}(I_:CpI ys n m k j L)(a:ys[m+j]?=some x)(b:ys[m+(j-1)]?=some x):CpI ys n m k (j+1) L:=by
 have f:=I_.j1;have c:=(Aed.1 a).1;refine ⟨I_.k0k,by have:=I_.kj;omega,by omega,?_,I_.len,λi hi=>I_.same i U,λz=>?_⟩
 ·have hs:=I_.same (m+j) U
  rw[a] at hs;have:=(Aed.1 hs).1;have:=I_.len;omega
 rw[<-Age,E3 a,I_.mem z];refine ⟨.inl,λh=>h.elim id λe=>?_⟩;subst e;exact Ahu.2 ⟨m+(j-1),by have:=(Aed.1 b).1;omega,(Aed.1 b).2⟩
theorem CpI.put{ys L:List Int}{k:Nat}{x:Int}(I_:CpI ys n m k j L)(a:ys[m+j]?=some x):CpI ys n m (k+1) (j+1) (L.set k x):=by
 have f:=I_.j1;have c:=I_.kj;have b:=I_.len;have hs:=I_.same (m+j) U;rw[a] at hs;have d:=(Aed.1 hs).1;have e:(L.set k x)[k]?=some x:=by rw[Afq];simp;omega
 refine ⟨by have:=I_.k0k;omega,by omega,by omega,by omega,by simpa using I_.len,λi hi=>?_,λz=>?_⟩
 ·rw[Afq,if_neg U];exact I_.same i U
 rw[E3 e,<-Age,E3 a,<-I_.mem z,List.take_set_of_le (Aek _)]
def Fl(C C0:Nat->Nat)(s:List IE):List Int:=(s.filter λp=>decide (C0 p.1.toNat≠C p.1.toNat)).map λp=>p.1/120
theorem Qq{C0:Nat->Nat}{s:List IE}{p:IE}(a:p.1=(n:Int))(h:(C0 n:Int)≠(C n:Int)):Fl C C0 (s++[p])=Fl C C0 s++[(n:Int)/120]:=by
 unfold Fl;have:decide (C0 n≠C n)=true:=decide_eq_true (λe=>h (by rw[e]));rw[AfP,AeH];congr 1;simp only[List.filter,a,Ae6,this];simp[a]
theorem VC{C0:Nat->Nat}{s:List IE}{p:IE}(a:p.1=(n:Int))(h:(C0 n:Int)=(C n:Int)):Fl C C0 (s++[p])=Fl C C0 s:=by
 unfold Fl;have:decide (C0 n≠C n)=false:=decide_eq_false (λe=>e U);rw[AfP,AeH];simp only[List.filter,a,Ae6,this];simp
theorem AbE(C C0:Nat->Nat)(s:List IE):(Fl C C0 s).length<=s.length:=by unfold Fl;rw[Aeh];exact AfV _ _
theorem YQ{C0:Nat->Nat}{l s:List IE}(W:WasOk C C0 n l m)(hs:s.Perm l)(x:Int):x∈Fl C C0 s↔∃k:Nat,k<n/\C k≠C0 k/\x=((k/120:Nat):Int):=by
 unfold Fl;simp only[Aem,Afd,decide_eq_true_eq];constructor
 ·rintro ⟨p,⟨hp,a⟩,rfl⟩
  obtain ⟨k,b,f,_⟩:=W.ent p (hs.mem_iff.1 hp);rw[b,Ae6] at a;exact ⟨k,f,λe=>a e.symm,by rw[b];omega⟩
 rintro ⟨k,d,a,rfl⟩;have:∃p∈l,p.1=(k:Int):=by
  refine Aff λc=>a (W.rest k d λp hp e=>c ⟨p,hp,e⟩)
 obtain ⟨p,hp,b⟩:=this;exact ⟨p,⟨hs.mem_iff.2 hp,by rw[b,Ae6];exact λe=>a e.symm⟩,by rw[b];omega⟩
theorem Xx:Aj 104 [I t] [] (λv G=>v=.bool (decide (16<=t/\t<=1024))/\G=[]):=by
 intro z R w H;refine Ae func104 Z ntmps104 Z (Z0 10 [0] Z (An 5 Z (λa=>?_) (λa=>?_)))
 ·refine Z0 7 [0] Z (Zr Z ?_);exact ⟨_,⟨congrArg Value.bool (by first|(rw[Aey];simp<;>omega)|(simp<;>omega)),Z⟩,H⟩
 refine Zc 7 Z (Zr Z ?_);exact ⟨_,⟨congrArg Value.bool (by first|(rw[Aey];simp<;>omega)|(simp<;>omega)),Z⟩,H⟩
theorem Gg(b:16<=n/\n<=1024):Aj 57 [I (n:Int)] [] (λv G=>v=I (manyN n:Int)/\G=[]):=by
 intro z R w H;refine Ae func57 Z ntmps57 Z (Zc 9 Z (z_E_ Z (call104 _) (Xx) H ?_));intro w H;refine Ab Z (AH Z Z) (Zc 2 Z (Af Z (λa=>U) (λa=>?_)));refine Z1 12 [] [(n:Int)+120,((n:Int)+120)-1,(((n:Int)+120)-1)/120] Z U (Zr Z ?_);exact ⟨_,⟨congrArg I (by unfold manyN;omega),Z⟩,H⟩
theorem Tw(h:16<=n/\n<=1024):Aj 56 [I (n:Int)] [] (λv G=>∃a b m:Nat,v=.tuple #[Y a,I 0]/\G=[coB a b n m,Cg b (λ_=>0) n,AI m [] 0]):=by
 intro z R w H;refine Ae func56 Z ntmps56 Z (Zc 10 Z (z_E_ Z (call104 _) (Xx) H ?_));intro w H;refine Ab Z (AH Z Z) (Zc 2 Z (Af Z (λc=>U) (λc=>?_)));refine Zc 5 Z (AP Z (Eo (k:=n) H Z J BC Z Z Z U) ?_);rintro _ w ⟨g,rfl,H⟩;refine AP Z (Ga H Z) ?_;rintro _ w ⟨d,rfl,H⟩;refine Za 1 [] H Z ?_;intro f w H;refine Zc 5 Z (Zr Z ?_);have e:List.replicate n (I 0)=C4 (λ_=>0) n:=by
   unfold C4;rw[List.map_const',List.length_range];rfl
 rw[e] at H;exact ⟨_,⟨f,g,d,Z,Z⟩,H.perm 3 [0,2,1] Z Z⟩
theorem FC(hp:e<n)(c:16<=n/\n<=1024):Aj 112 [Y i,I (e:Int)] [coB i j n m,Cg j C n] (λv G=>v=I (C e:Int)/\G=[coB i j n m,Cg j C n]):=by
 intro z R w H;refine Ae func112 Z ntmps112 Z (Z0 11 [0] Z (An 7 Z (λa=>U) (λa=>?_)));refine Z2 10 [0,0,0,0] H Z (Af Z (λb=>U) (λb=>?_));refine Z3 10 [0,0,0,1,e,e] [] H Z U (Ab Z (Bn Z Z J (Az (H.cel 1 Z e (cnL_at _ U)))) (Zc 4 Z (Zr Z ?_)));exact ⟨_,⟨Z,Z⟩,H⟩
theorem I5(C0:Nat->Nat){l:List IE}(p x:Nat)(hp:p<n)(y:16<=n/\n<=1024)(hx:(C p:Int)+t=x)(d:x<=1000)(hC:C p<=1000)(W:WasOk C C0 n l g):Aj 58 [Y i,I (p:Int),I t] [coB i j n m,Cg j C n,AI m l g] (λv G=>∃(c:List IE) (a:Nat),WasOk (updN C p x) C0 n c a/\v=I 0/\G=[coB i j n m,Cg j (updN C p x) n,AI m c a]):=by
 intro z R w H;replace H:=H.l3;refine Ae func58 Z ntmps58 Z (Z0 11 [0] Z (An 11 Z (λf=>U) (λf=>?_)));refine Z2 10 [0,0,0,0] H Z (Af Z (λo=>U) (λo=>?_));refine Z3 12 [0,0,0,1,p,p] [] H Z U (Ab Z (Bn Z Z J (Az (H.cel 1 Z p (cnL_at _ U)))) (Z1 3 [0] [1000-(C p:Int)] Z U (An 30 Z (λh=>U) (λh=>?_))));refine Z3 7 [0,0,0,1,p,p] [] H Z U (Ab Z (Bn Z Z J (Az (H.cel 1 Z p (cnL_at _ U)))) (Ab Z (PN Z Z (r:= -(C p:Int)) U U) (Z0 4 [0] Z (Af Z (λk=>U) (λk=>?_)))));refine Z2 10 [1,0,0] H Z (Ab Z (DK (e:=3) (zv:=I 0) Z J J Z Z (Az (H.bk 2 Z))) (Zc 13 Z (Es Z (λb=>?_) (λb=>?_))))
 ·have u:CQ l (p:Int)=false:=by simpa using b
  refine BK 12 J J (A4 H λw q=>?_);have H:=q.l3;refine ES 11 [1,0,0,0,0,0,1,p,p] [] H Z J U (Cc Z Z Z (Bn Z Z J (Az (H.cel 1 Z p (cnL_at _ U)))) (CG (gw (AC Z Z (DP 2 (e:=3) H Z Z J Z Z Z) ?_))));rintro w H;replace H:=H.l3;refine Z3 10 [0,0,0,1,p,p] [] H Z U (Ab Z (Bn Z Z J (Az (H.cel 1 Z p (cnL_at _ U)))) (Z1 3 [1,p,p] [(x:Int)] Z U (AC Z Z (Al 1 H Z Z Z Z (vs:=[I (x:Int)]) Z (Ad Z Aw) J (by simp only[CX,Aei,AeD];omega) (out:=C4 (updN C p x) n) (JA U Z)) ?_)));rintro w H;replace H:=H.l3;refine Zc 8 Z (Zr Z ?_);exact ⟨_,⟨_,_,W.put hp u x,Z,Z⟩,H⟩
 have s:CQ l (p:Int)=true:=by simpa using b
 refine Z3 10 [0,0,0,1,p,p] [] H Z U (Ab Z (Bn Z Z J (Az (H.cel 1 Z p (cnL_at _ U)))) (Z1 3 [1,p,p] [(x:Int)] Z U (AC Z Z (Al 1 H Z Z Z Z (vs:=[I (x:Int)]) Z (Ad Z Aw) J (by simp only[CX,Aei,AeD];omega) (out:=C4 (updN C p x) n) (JA U Z)) ?_)));rintro w H;replace H:=H.l3;refine Zc 8 Z (Zr Z ?_);exact ⟨_,⟨_,_,W.has s x,Z,Z⟩,H⟩
theorem Tx{l:List IE}:Aj 205 [Y i] [coB i j n m,AI m l g] (λv G=>v=.tuple #[]/\G=[coB i j n m,AI m [] g]):=by
 intro z R w H;refine Ae func205 Z ntmps205 Z (Z2 5 [1,0,0] H Z (KH Z Z (Jq 1 (e:=3) H Z Z J Z) ?_));rintro _ w ⟨rfl,H⟩;refine Zc 1 Z (Zf Z ?_);exact ⟨_,⟨Z,Z⟩,H⟩
theorem Qr(i:Nat)(hi:i<manyN n)(o:16<=n/\n<=1024)(l:∀k,C k<=1000):Aj 59 [Y j,I (i:Int)] [coB j e n m,Cg e C n] (λv G=>∃a:Nat,v=.slice (some ⟨a,0,none⟩) 240 240/\G=[blk a (A7 (AK (Ld (Ex C n i))) ((2*120:Nat):Int)) 167,coB j e n m,Cg e C n]):=by
 intro z R w H;have b:120*i<n:=by unfold manyN at hi;omega
 refine Ae func59 Z ntmps59 Z (Z0 11 [0] Z (An 10 Z (λd=>U) (λd=>?_)));refine Z2 6 [0,0,0] H Z (z_E_ Z (call57 _) (Gg U) H ?_);intro w H;refine Z0 4 [0] Z (Af Z (λg=>U) (λg=>?_));refine Zc 4 Z (AP Z (Eo (k:=120) H Z J BC Z Z Z U) ?_);rintro _ w ⟨r,rfl,H⟩;refine Z3 12 [0,1,0] [(i:Int)*120] H Z U (Ab Z (BO Z (z:=1) (p:=(120*i)) (q:=n) (o':=120*i) (l':=(n-120*i)) (c':=(n-120*i)) J Z (.inr ⟨_,_,_,Z,Z,U⟩) (.inl ⟨Z,Z⟩) U U U U U U) (AP Z (XS 0 H Z Z J Z Z (m:=(n-120*i)) (news:=((C4 C n).drop (120*i))) (.inl (H.rv 2 (·.rd U U (by rw[CX];omega) (by rw[AeR];exact Ael (by rw[AeQ,CX];omega))))) (λc f=>YL C n c (Afw f)) (by rw[Afk];omega) (k:=(min (n-120*i) 120)) Z (out:=((Ex C n i).map I)) (Vv C n i b)) ?_));rintro _ w ⟨rfl,H⟩;refine Zc 5 Z (Ar Z (call105 _) (PC (Ex C n i) (JB _ _ _) (Tv l) (λh q=>q.rd U U (by simp[Ex]) (by rw[Aew];exact Ael (by simp[Ex])))) H ?_);rintro _ w _ ⟨a,rfl,rfl⟩ H;refine Zc 14 Z (Zr Z ?_);exact ⟨_,⟨a,Z,Z⟩,H.perm 4 [0,2,3] Z Z⟩
theorem YR{p:Nat}{clk:Nat}(i:Nat)(hi:i<manyN n)(hn:16<=n/\n<=1024){b o c:Nat}(hA:∀h,A h->rdH 1 (.slice (some ⟨b,o,none⟩) 240 c) 240 (B.map u8) h)(ns:List Int)(a1:ns.length=120)(l:∀x∈ns,0<=x/\x<=1000)(a0:B=Ld ns)(hz:∀(k:Nat) (x:Int),ns[k]?=some x->n<=120*i+k->x=0):Aj 111 [Y g,I (i:Int),.slice (some ⟨b,o,none⟩) 240 c] [coB g p n m,Cg p C n,AI m ([]) clk,A] (λv G=>v=I 0/\G=[coB g p n m,Cg p (HQ C i ns 120) n,AI m [] clk,A]):=by
 intro z R w H;replace H:=H.l4;have a4:120*i<n:=by unfold manyN at hi;omega
 refine Ae func111 Z ntmps111 Z (Z0 11 [0] Z (An 16 Z (λh1=>U) (λh1=>?_)));refine Z2 6 [0,0,0] H Z (z_E_ Z (call57 _) (Gg U) H ?_);intro w H;refine Z0 4 [0] Z (Af Z (λh2=>U) (λh2=>?_));refine Zc 5 Z (Ar Z (call163 _) (PD B hA ns a1 l a0) H.f3 ?_);rintro _ w _ ⟨v1,rfl,rfl⟩ H;refine Zc 19 Z ?_;have a2:=H.sy 0 (·.slc);obtain ⟨a,f,rfl⟩:=a2;refine Zc 7 Z ?_;refine AD (σ:=Nat) (λj=>[(35,I (j:Int)),(0,Y g),(1,I (i:Int)),(7,.slice a 120 f),(33,.slice a 120 f),(34,I 120)])
   (λj w=>Sep z (grow 3 1 (.slice a 120 f) 120 (ns.map I)::A::coB g p n m::Cg p C n::AI m ([]) clk::R) w/\(j<=120)) (λj=>120-j) 0
   fr_z ⟨H,by omega⟩ ?_
 clear H;rintro j w ⟨H',y⟩;have H:=H'.l5;have hj:=y;clear y;refine Z0 6 [0] Z (Af Z (λh3=>?_) (λh3=>?_))
 ·obtain ⟨x,q⟩:∃x,ns[j]?=some x:=⟨_,Aef U⟩;have t:=l x (Aee q)
  refine Zc 7 Z ?_;have d:=(H.rv 0 (·.rd)).at (j:=j) (u:=I x) (by simp[q]);refine Ab Z (Ak Z (z:=1) (j:=j) (r:=j) J Z Z Z U d U) (Ab Z (Ay Z Z J (Az d)) (Z0 9 [0] Z (An 42 Z (λh4=>U) (λh4=>?_))));refine Z0 3 [0] Z (An 45 Z (λh5=>?_) (λh5=>?_))
  ·refine Z3 14 [0,2,0,0] [(i:Int)*120,((i:Int)*120)+(j:Int)] H Z U (Af Z (λh6=>?_) (λh6=>?_))
   ·(exfalso;have:=hz j x q;omega)
   refine Z1 7 [] [(j:Int)+1] Z U (gf ?_);intro _ s;refine ⟨(j+1),s.cz,⟨H,?_⟩,?_⟩
   ·omega
   omega
  refine Z1 22 [] [(j:Int)+1] Z U (gf ?_);intro _ s;refine ⟨(j+1),s.cz,⟨H,?_⟩,?_⟩
  ·omega
  omega
 obtain rfl:j=120:=by omega
 refine Zc 2 Z (gx (Zc 11 Z ?_));refine AD (σ:=Nat) (λj=>[(61,I (j:Int)),(0,Y g),(1,I (i:Int)),(59,.slice a 120 f),(60,I 120)])
   (λj w=>Sep z (grow 3 1 (.slice a 120 f) 120 (ns.map I)::A::coB g p n m::Cg p (HQ C i ns j) n::AI m ([]) clk::R) w/\(j<=120)) (λj=>120-j) 0
   fr_z ⟨(by rw[Vw];exact H),by omega⟩ ?_
 clear H;rintro j w ⟨H',y⟩;have H:=H'.l5;have hj:=y;clear y;refine Z0 6 [0] Z (Af Z (λh7=>?_) (λh7=>?_))
 ·obtain ⟨x,q⟩:∃x,ns[j]?=some x:=⟨_,Aef U⟩;have t:=l x (Aee q)
  refine Zc 7 Z ?_;have d:=(H.rv 0 (·.rd)).at (j:=j) (u:=I x) (by simp[q]);refine Ab Z (Ak Z (z:=1) (j:=j) (r:=j) J Z Z Z U d U) (Ab Z (Ay Z Z J (Az d)) (Z3 24 [0,2,0,0] [(i:Int)*120,((i:Int)*120)+(j:Int)] H Z U (Af Z (λh8=>?_) (λh8=>?_))))
  ·refine Z3 9 [0,2,0,1,(120*i+j),120*i+j] [] H Z U (AC Z Z (Al 3 H Z Z Z Z (vs:=[I x]) Z (Ad Z Aw) J (by simp only[CX,Aei,AeD];omega) (out:=C4 (HQ C i ns (j+1)) n) ((JA (x:=x.toNat) U U).trans (by rw[Vx C U q t.1]))) ?_);rintro w H;replace H:=H.l5;refine Z2 8 [1,2,0] H Z (KH Z Z (NC 4 (e:=3) H Z Z J Z Z) ?_);rintro _ w ⟨rfl,H⟩;replace H:=H.l5;refine Z1 7 [] [(j:Int)+1] Z U (gf ?_);intro _ s;refine ⟨(j+1),s.cz,⟨H,?_⟩,?_⟩
   ·omega
   omega
  refine Z1 7 [] [(j:Int)+1] Z U (gf ?_);intro _ s;refine ⟨(j+1),s.cz,⟨(by dsimp only[Cg];rw[<-Vy C U U];exact H),?_⟩,?_⟩
  ·omega
  omega
 obtain rfl:j=120:=by omega
 refine Zc 2 Z (gx (Zc 8 Z (Zr Z ?_)));exact ⟨_,⟨Z,Z⟩,H.perm 5 [2,3,4,1] Z Z⟩
theorem VD(g m clk:Nat)(l:List IE)(d:∀p∈l,p.2.2<clk)(n:(l.map λp:IE=>p.2.2).Nodup):Xp prog 263 [Y g] [blk g [.map (some m)] 173,AI m l clk] (Abu l) [] (RE l):=by
 intro z k J_ o w b;have H:=b.l2;refine J8 (args:=[.func (.yield k) #[] #[],Y g]) func263 Z Z 14 ntmps263 Z ?_;refine CT ?_;refine Cf ?_;refine s_do Z Z Z (Bn Z Z J (Az (H.cel 0 Z 0 Z))) ?_;refine E5 Z Z Z (HK 1 (e:=3) H Z Z J Z) ?_;rintro _ w ⟨j,rfl,b⟩;have H:=b.l3;refine AS ?_;refine Eb ?_;refine LN (σ:=List IE) (λs=>[(0,.func (.yield k) #[] #[]),(5,Y j)])
  (λs w=>Sep z (GM j m clk (s.map λp:IE=>p.2.2)::blk g [.map (some m)] 173::AI m l clk::J_ s) w/\(True)) (λs=>(Cm l (s.map λp:IE=>p.2.2)).length) ([])
  (λ_ f=>(f.all Z)) ⟨H,trivial⟩ ?_
 clear H;rintro s w ⟨b,q⟩;have H:=b.l3;refine CT ?_;refine Cf ?_;refine E5 Z Z Z (IW 0 2 H Z Z Z Z d) ?_;rintro _ w ⟨i,rfl,a,b⟩;have H:=b.l3;refine s_do Z Z Z (KL Z Z) ?_;refine AS ?_;refine CT ?_;refine Jp Z (λh=>?_) (λh=>?_)
 ·-- yes:i.isSome
  obtain ⟨c,rfl⟩:=Afa.1 h;refine Gx ?_;refine Eb ?_;refine CT ?_;refine Cf ?_;refine s_do Z Z Z (HL (p:=c) Z Z (Az ⟨H.bk 0 Z,H.bk 2 Z⟩) (C7 a).1 n) ?_;refine s_do Z Z Z (Fg Z Z Z) ?_;refine s_do Z Z Z (Bf Z Z) ?_;refine AS ?_;refine CT ?_;refine J7 ?_;refine Et Z Z Z (Ck Z Z) ?_;refine Et Z Z Z (Ck Z Z) ?_;replace H:=H.f2.f2;refine LP Z Z Z Z Z Z (o s _ (s++[c]) [GM j m clk ((s.map λp:IE=>p.2.2)++[c.2.2])] ⟨c,a,Z,Z⟩ _ H) ?_;rintro _ w ⟨rfl,b⟩;refine ⟨_,Z,?_⟩;have H:=b.l3;refine Et Z Z Z (Kx Z Z) ?_;refine Rt ?_;refine Iw Z ?_;refine Gx ?_;replace H:=H.f1.f1.f2;intro _ f;refine ⟨(s++[c]),(f.all Z),⟨(by rw[AeH];exact H),?_⟩,?_⟩
  ·trivial
  (have:=ED a;rwa[show (s++[c]).map (λp:IE=>p.2.2)=(s.map λp:IE=>p.2.2)++[c.2.2] from by simp])
 -- no:i.isSome
 obtain rfl:i=none:=by simpa using h
 refine LM ?_;refine IM ?_;exact λ_ f=>⟨f.defers,s,a,H.perm 3 [1,2] Z Z⟩
theorem YS:Aj 239 [.map (some m)] [] (λv G=>∃a:Nat,v=.func (.func 263) #[] #[Y a]/\G=[blk a [.map (some m)] 173]):=by
 intro z R w H;refine Ae func239 Z ntmps239 Z (Za 2 [] H Z ?_);intro b w H;refine Zc 5 Z (Ab Z (C5 Z Z Z) (Zc 4 Z (Zr Z ?_)));exact ⟨_,⟨b,Z,Z⟩,H⟩
theorem YT{C0:Nat->Nat}{l:List IE}{clk:Nat}(W:WasOk C C0 n l clk):Aj 202 [Y i] [coB i g n m,Cg g C n,AI m l clk] (λv G=>v=.tuple #[]/\G=[coB i g n m,Cg g C0 n,AI m [] clk]):=by
 intro z R w b;have H:=b.l3;refine NP func202 Z 25 ntmps202 Z (A0 (AJ (E5 Z Z Z (G9 H Z Z (cs:=[Y i]) Z) ?_)));rintro _ w ⟨q,rfl,b⟩;have H:=b.l4;refine AS (A0 (A0 (AJ (Gn 4 [0,1,1] (AR (H.blk 0 Z) (AR (H.blk 1 Z) AN)) Z J Z (Fw Z Z Z Z Z (λw=>call239 _ w) (YS) H Z ?_)))));rintro _ w _ ⟨y,rfl,rfl⟩ b;have H:=b.l5;refine AS (FM ?_);replace H:=H.f4.f1.f4.f4.f4;dsimp only[Cg] at H;rw[show C4 C n=C4 (Hh C C0 []) n by rw[YM]] at H;have b:=H.toUn (l:=l) (s:=[]) O;clear H;have H:=VA b;clear b;refine NS (λs=>(unA q i g m n C C0 l s::R)) Z (λu w=>call263 u w) Z (VD y m clk l W.clk W.born) H ?_ ?_
 ·rintro ro s v s2 ⟨p,hp,rfl,rfl⟩ w;obtain ⟨k,o,f,a0⟩:=W.ent p (C7 hp).1;refine Cf (B3 1 Z Z (AS ?_));refine λa hF=>⟨Z,λF w b=>?_⟩
  revert a hF;have H:Sep z (unA q i g m n C C0 l s::(R++([blk y [.map (some m)] 173,AI m l clk]++F))) w:=b;clear b;obtain ⟨c,b⟩:=H.un;clear H;have H:=YO b;clear b;have H:Sep z (blk q [Y i] 105::coB i g n m::Cg g (Hh C C0 s) n::blk y [.map (some m)] 173::AI m l clk::(R++F)) w:=H;refine Eb ?_;replace H:=H.f4.f2.f2;refine IV (Sep z (blk q [Y i] 105::coB i g n m::AI m l clk::(R++F))) 13 Z J (A4 H λw b=>?_);have H:=b.l5;refine Bv [0,1,2,3,4,5,6,7,8,9] [0,0,1,0,1,1] J (λ_ t=>(AR (t.blk 0 Z) (AR (t.blk 1 Z) AN))) (by exact H.pick 5 [0,1,2] Z) Z J Z Z (BG 10 J Z Z J J J Z Z Z (FP (e:=3) (zv:=I 0) Z J J Z Z (λ_ t=>t.bk 2 Z)) (H.pick 5 [0,1,2] Z) (AB 19 (v:=I (C0 k:Int)) Z (by rw[Ov W.keys (C7 hp).1,a0];rfl) (BG 11 J Z Z J J J Z Z Z (CJ Z (z:=1) (j:=k) (r:=k) J Z Z o f U) (H.pick 5 [0,1,2] Z) (AF [12] J O (Am (Bj Z Z Z (Al 3 H Z Z Z Z (vs:=[I (C0 k:Int)]) Z (Ad Z Aw) J (by simp only[CX,Aei,AeD];omega) (out:=C4 (Hh C C0 (s++[p])) n) ((JA (x:=C0 k) f Z).trans (by rw[Vz C C0 o]))) ?_))))));rintro w b;have H:=b.l5;refine Au (λh=>absurd Z h) (Bo J ?_);replace H:=H.f2.f4.f4.f4.f4;exact λ_ _=>YP (H.toUn (F7 c hp))
 rintro D0 w s d b;have H:=AbD b;clear b;obtain ⟨c,b⟩:=H.un;clear H;rw[YN W (Hv W.born c d)] at b;have H:Sep z (blk q [Y i] 105::coB i g n m::Cg g C0 n::bk D0 (.deferred (some []))::blk y [.map (some m)] 173::AI m l clk::R) w:=b;clear b;refine AJ (Gn 4 [0,1,1] (AR (H.blk 0 Z) (AR (H.blk 1 Z) AN)) Z J Z (Xe Z Z (Jq 5 (e:=3) H Z Z J Z) ?_));rintro _ w ⟨rfl,b⟩;have H:=b.l6;refine AS ?_;replace H:=H.f3;refine NR H (rs:=[]) Z [] (λ_=>trivial) (v:=.tuple #[]) Z (λw b=>?_);clear H;have H:=b.l5;exact ⟨[coB i g n m,Cg g C0 n,AI m ([]) clk],⟨Z,Z⟩,H.perm 5 [1,2,4] Z Z⟩
theorem compS_c(v0:Value)(ys:List Int)(d:ys.length<2):Aj 240 [v0] [grow 3 1 v0 ys.length (ys.map I)] (λv G=>∃(b:Value) (zs:List Int) (B:Ai),(zs.length<=ys.length/\(∀x,x∈zs↔x∈ys)/\∀h,B h->rdH 1 b zs.length (zs.map I) h)/\v=b/\G=[B]):=by
 intro z R w H;have a:=H.sy 0 (·.slc);refine Ae func240 Z ntmps240 Z (Zc 9 Z (Ab Z (Ef Z (sz:=1) J Z a) (Z0 3 [0] Z (Af Z (λc=>?_) (λc=>?_)))))
 ·refine Zc 7 Z (Zr Z ?_);exact ⟨_,⟨v0,ys,_,⟨Aek _,λ_=>Ahw,λh q=>q.rd⟩,Z,Z⟩,H⟩
 (exfalso;omega)
theorem compact_c(v0:Value)(ys:List Int)(u:ys.length=n)(hn:2<=n/\n<=1073741824):Aj 240 [v0] [grow 3 1 v0 n (ys.map I)] (λv G=>∃(v1:Value) (zs:List Int) (B:Ai),(zs.length<=ys.length/\(∀x,x∈zs↔x∈ys)/\∀h,B h->rdH 1 v1 zs.length (zs.map I) h)/\v=v1/\G=[B]):=by
 intro z R w H;obtain ⟨g,c,rest,rfl,c1,c2,c3,H⟩:=H.ungrow 0 Z U;refine Ae func240 Z ntmps240 Z (Z0 13 [0] Z (Af Z (λh1=>U) (λh1=>?_)));refine Zc 9 Z ?_;refine AD (σ:=Nat) (λa=>[(3,I (a:Int)),(0,.slice (some ⟨g,0,none⟩) n c)])
   (λa w=>Sep z (blk g (ys.map I++rest) 3::R) w/\(1<=a/\a<=n)) (λa=>n-a) 1
   fr_z ⟨H,by omega⟩ ?_
 clear H;rintro a w ⟨i,r⟩;have H:=i.l1;have hk:=r;clear r;refine Z0 9 [0] Z (Af Z (λh2=>?_) (λh2=>?_))
 ·obtain ⟨x,d⟩:∃x,ys[a]?=some x:=⟨_,Aef U⟩;obtain ⟨y,e⟩:∃y,ys[a-1]?=some y:=⟨_,Aef U⟩;refine Zc 5 Z (By (Sep z _) J J H.drew (Hb 3 [1,a,a] [] Z J U (AM Z Z Z (Bn Z Z J (λ_ o=>o.cel 0 Z a (GV d))) (Hb 4 [1,(a-1),(a-1)] [(a:Int)-1] Z J U (AM Z Z Z (Bn Z Z J (λ_ o=>o.cel 0 Z (a-1) (GV e))) (B4 1 [] Z J (BL (λw i=>?_))))))));have H:=i.l1;refine gn (Zc 1 Z (Af Z (λh3=>?_) (λh3=>?_)))
  ·have m:x=y:=h3
   refine Zc 4 Z (Ab Z (BO Z (z:=1) (p:=a) (q:=n) (o':=a) (l':=n-a) (c':=c-a) J Z (.inr ⟨_,_,_,Z,Z,Z⟩) (.inl ⟨Z,Z⟩) U U U U U U) (Zc 10 Z ?_));refine AD (σ:=Nat×Nat×List Int) (λ⟨k,j,L⟩=>[(3,I (k:Int)),(5,I (j:Int)),(0,.slice (some ⟨g,0,none⟩) n c),(4,.slice (some ⟨g,a,none⟩) (n-a) (c-a)),(10,I (a:Int)),(11,.slice (some ⟨g,0,none⟩) n c),(12,I (n:Int)),(13,.bool (decide ((a:Int)<(n:Int)))),(16,.slice (some ⟨g,0,none⟩) n c),(17,I (a:Int)),(18,.pointer (some ⟨g,a,none⟩)),(19,I x),(20,.slice (some ⟨g,0,none⟩) n c),(21,I (a:Int)),(22,I ((a:Int)-1)),(23,.pointer (some ⟨g,(a-1),none⟩)),(24,I y),(25,.bool (decide ((x:Int)=y))),(26,.slice (some ⟨g,0,none⟩) n c),(27,I (a:Int)),(28,.slice (some ⟨g,a,none⟩) (n-a) (c-a))])
     (λ⟨k,j,L⟩ w=>Sep z (blk g (L.map I++rest) 3::R) w/\(CpI ys n a k j L)) (λ⟨k,j,L⟩=>n-j) ⟨a,1,ys⟩
     (λ_ f=>(f.co Z Z f.cz)) ⟨H,CpI.start u U U d (by rw[m];exact e)⟩ ?_
   clear H;rintro ⟨k,j,L⟩ w ⟨i,r⟩;dsimp only at r i ⊢;have H:=i.l1;have b:=r;clear r;have a5:=b.kj;have a6:=b.j1;have a2:=b.jn;have a3:=b.len;refine Z0 9 [0] Z (Af Z (λh4=>?_) (λh4=>?_))
   ·obtain ⟨x,d⟩:∃x,ys[a+j]?=some x:=⟨_,Aef U⟩;obtain ⟨y,e⟩:∃y,ys[a+(j-1)]?=some y:=⟨_,Aef (by have:=b.j1;omega)⟩;have l:L[a+j]?=some x:=(b.same _ U).trans d
    have s:L[a+(j-1)]?=some y:=(b.same _ (by have:=b.j1;omega)).trans e;refine Zc 5 Z (By (Sep z _) J J H.drew (Hb 3 [1,j,a+j] [] Z J U (AM Z Z Z (Bn Z Z J (λ_ o=>o.cel 0 Z (a+j) (GV l))) (Hb 4 [1,(j-1),a+(j-1)] [(j:Int)-1] Z J U (AM Z Z Z (Bn Z Z J (λ_ o=>o.cel 0 Z (a+(j-1)) (GV s))) (B4 1 [] Z J (BL (λw i=>?_))))))));have H:=i.l1;refine gn (Zc 1 Z (Af Z (λh5=>?_) (λh5=>?_)))
    ·refine Z1 7 [1,j,a+j] [] Z U (Ab Z (Bn Z Z J (Az (H.cel 0 Z (a+j) (GV l)))) (Z1 1 [1,k,k] [] Z U (AC Z Z (Al 0 H Z Z Z Z (vs:=[I x]) Z (by simp[u8,u32,Value.oneCell']) J (by simp only[Aeg,Aeh,Aei,AeD];have:=b.len;omega) (out:=((L.set k x).map I++rest)) (VB (by have:=b.len;have:=b.kj;have:=b.jn;omega))) ?_)));rintro w H;refine Z1 14 [] [(k:Int)+1,(j:Int)+1] Z U (gf ?_);intro _ f;refine ⟨⟨k+1,j+1,L.set k x⟩,(f.co Z (by go_num) f.cz),⟨H,?_⟩,?_⟩
     ·exact b.put d
     (dsimp only;omega)
    have m:x=y:=Ahq.1 h5;refine Z1 8 [] [(j:Int)+1] Z U (gf ?_);intro _ f;refine ⟨⟨k,j+1,L⟩,(f.co Z Z f.cz),⟨H,?_⟩,?_⟩
    ·exact b.skip d (by rw[m];exact e)
    (dsimp only;omega)
   have a1:a+j=n:=by omega
   refine Zc 2 Z (gx (Zc 6 Z (Ab Z (BO Z (z:=1) (p:=k) (q:=n) (o':=k) (l':=n-k) (c':=c-k) J Z (.inr ⟨_,_,_,Z,Z,Z⟩) (.inl ⟨Z,Z⟩) U U U U U U) (KH Z Z (Vs 0 H Z Z J Z (by have:=b.kj;have:=b.jn;omega) (by simp;have:=b.len;have:=b.kj;have:=b.jn;omega)) ?_))));rintro _ w ⟨rfl,H⟩;refine Zc 6 Z (Ab Z (BO Z (z:=1) (p:=0) (q:=k) (o':=0) (l':=k) (c':=c) J Z (.inl ⟨Z,Z⟩) (.inr ⟨_,_,_,Z,Z,Z⟩) U U U U U U) (Zc 4 Z (Zr Z ?_)));have t:(L.take k).length=k:=by rw[Aez];have:=b.len;have:=b.kj;have:=b.jn;omega
   exact ⟨_,⟨_,L.take k,_,⟨by have:=b.kj;have:=b.jn;omega,λz=>(b.mem z).trans (by rw[Ael U]),λh q=>by rw[t];exact q.rd (by have:=b.kj;have:=b.jn;omega) U (by simp;have:=b.len;have:=b.kj;have:=b.jn;omega) (by rw[Aew,AeR,Aej,AeI (by rw[Aez];simp;have:=b.len;have:=b.kj;have:=b.jn;omega),Aev (by simp;have:=b.len;have:=b.kj;have:=b.jn;omega),Afr])⟩,Z,Z⟩,H.perm 1 [0] Z Z⟩
  refine Z1 8 [] [(a:Int)+1] Z U (gf ?_);intro _ f;refine ⟨(a+1),f.cz,⟨H,?_⟩,?_⟩
  ·omega
  omega
 refine Zc 2 Z (gx (Zc 9 Z (Zr Z ?_)));exact ⟨_,⟨_,ys,_,⟨by omega,λ_=>Ahw,λh q=>by rw[u];exact q.rd U U (by simp;omega) (by rw[Aew,AeI (by simp;omega)])⟩,Z,Z⟩,H.perm 1 [0] Z Z⟩
theorem AbF(b:l.length<=1073741824):Aj 240 [u] [grow 3 1 u l.length (l.map I)] (λv G=>∃(a:Value) (zs:List Int) (B:Ai),(zs.length<=l.length/\(∀x,x∈zs↔x∈l)/\∀h,B h->rdH 1 a zs.length (zs.map I) h)/\v=a/\G=[B]):=by
 rcases Aes l.length 2 with h|h
 ·exact compS_c u l h
 exact compact_c u l Z ⟨h,b⟩
theorem Ty(C0:Nat->Nat){l:List IE}(hn:16<=n/\n<=1024)(W:WasOk C C0 n l g):Aj 204 [Y i] [coB i j n m,Cg j C n,AI m l g] (λv G=>∃(o:Value) (zs:List Int) (B:Ai),(zs.length<=n/\(∀x:Int,x∈zs↔∃k:Nat,k<n/\C k≠C0 k/\x=((k/120:Nat):Int))/\∀h,B h->rdH 1 o zs.length (zs.map I) h)/\v=o/\G=[B,coB i j n m,Cg j C n,AI m l g]):=by
 intro z R w H;replace H:=H.l3;have a9:=W.len;refine Ae func204 Z ntmps204 Z (Z2 17 [1,0,0] H Z (AP Z (HK 2 (e:=3) H Z Z J Z) ?_));rintro _ w ⟨rr,rfl,H⟩;replace H:=H.l4;refine Zc 1 Z ?_;replace H:=(H.nilg 3 1).l5;refine Zc 2 Z ?_;refine AD (σ:=List IE×Value) (λ⟨s,o⟩=>[(3,o),(0,Y i),(2,.slice none 0 0),(10,Y rr)])
   (λ⟨s,o⟩ w=>Sep z (grow 3 1 o ((Fl C C0 s).length) ((Fl C C0 s).map I)::GM rr m g (s.map λp:IE=>p.2.2)::coB i j n m::Cg j C n::AI m l g::R) w/\((∀p∈s,p∈l)/\(s.map λp:IE=>p.2.2).Nodup)) (λ⟨s,o⟩=>(Cm l (s.map λp:IE=>p.2.2)).length) ⟨[],.slice none 0 0⟩
   fr_z ⟨H,⟨by simp,by simp⟩⟩ ?_
 clear H;rintro ⟨s,o⟩ w ⟨q,hI⟩;dsimp only at hI q ⊢;have H:=q.l5;have f:=hI;clear hI;have a5:=K5 f;have b3:=AbE C C0 s;refine Zc 2 Z (AP Z (IW 1 4 H Z Z Z Z W.clk) ?_);rintro _ w ⟨qx,rfl,a,H⟩;replace H:=H.l5;refine Ab Z (KL Z Z) (Zc 3 Z (Es Z (λh1=>?_) (λh1=>?_)))
 ·obtain ⟨b,rfl⟩:=Afa.1 h1;obtain ⟨k,c,a6,a2⟩:=W.ent b (C7 a).1;refine Zc 5 Z (Ab Z (HL (p:=b) Z Z (Az ⟨H.bk 1 Z,H.bk 4 Z⟩) (C7 a).1 W.born) (Zc 2 Z (AB 14 (v:=I (k:Int)) Z (congrArg I c) (AB 15 (v:=I (C0 k:Int)) Z a2 (Z3 13 [0,2,0,1,k,k] [] H Z U (Ab Z (Bn Z Z J (Az (H.cel 3 Z k (cnL_at _ U)))) (Z0 3 [0] Z (Af Z (λh2=>?_) (λh2=>?_)))))))))
  ·have r:(C0 k:Int)≠(C k:Int):=h2
   refine Z1 4 [] [(k:Int)/120] Z U (AP Z (AO H Z J BC Z (by decide) (by decide) (out:=[I ((k:Int)/120)]) J) ?_);rintro _ w ⟨b1,rfl,H⟩;replace H:=H.l6;refine AP Z (AW 1 H Z Z J BC Z Z (H.rv 0 (·.rd U U O Z)) (by simp[Value.oneCell']) U) ?_;rintro v2 w q;have q:Sep z (blk b1 [I ((k:Int)/120)] 3::grow 3 1 v2 ((Fl C C0 s).length+1) ((Fl C C0 s).map I++[I ((k:Int)/120)])::GM rr m g (JV (s.map λp:IE=>p.2.2) (some b))::coB i j n m::Cg j C n::AI m l g::R) w:=q;have a4:((Fl C C0 s).map I++[I ((k:Int)/120)]:List Value)=(Fl C C0 (s++[b])).map I:=(by rw[Qq c r];simp);rw[a4] at q;rw[show ((Fl C C0 s).length+1:Nat)=(Fl C C0 (s++[b])).length from (by rw[Qq c r];simp)] at q;have H:=q.l6;refine Zc 3 Z ?_;replace H:=H.d;refine gf ?_;intro _ hF;refine ⟨⟨s++[b],v2⟩,(hF.all Z),⟨(by dsimp only;rw[AeH];exact H),?_⟩,?_⟩
   ·exact F7 f a
   (have:=ED a;rwa[show (s++[b]).map (λp:IE=>p.2.2)=(s.map λp:IE=>p.2.2)++[b.2.2] from by simp])
  have a0:(C0 k:Int)=(C k:Int):=Ahq.1 h2;refine Zc 2 Z (gf ?_);intro _ hF;refine ⟨⟨s++[b],o⟩,(hF.all Z),⟨(by dsimp only;rw[AeH,VC c a0];exact H),?_⟩,?_⟩
  ·exact F7 f a
  (have:=ED a;rwa[show (s++[b]).map (λp:IE=>p.2.2)=(s.map λp:IE=>p.2.2)++[b.2.2] from by simp])
 obtain rfl:qx=none:=by simpa using h1
 have t:RE l s:=a;refine Zc 2 Z (gx (Zc 5 Z (Ar Z (call196 _) (To U) H ?_)));rintro _ w _ ⟨rfl,ys,rfl,rfl⟩ H;refine Zc 5 Z ?_;have a8:((Fl C C0 s).mergeSort (λx y=>decide (x<=y))).length=(Fl C C0 s).length:=List.length_mergeSort _;refine Ar Z (call240 _) (AbF U) H ?_;rintro v2 w _ ⟨v3,zs,B,⟨a7,a1,a3⟩,rfl,rfl⟩ H;replace H:=H.l5;refine Zc 4 Z (Zr Z ?_);have u:=λx=>(a1 x).trans (List.mem_mergeSort.trans (YQ W (Hv W.born f t) x));exact ⟨_,⟨_,zs,B,⟨by omega,u,a3⟩,Z,Z⟩,H.perm 5 [0,2,3,4] Z Z⟩
theorem Le(sec:List UInt8)(c:∀h,A h->rdH 1 (.slice (some ⟨i,j,none⟩) 256 e) 256 (sec.map u8) h)(n:Nat)(a:sec=List.replicate 256 0):Aj 144 [Y m,.slice (some ⟨i,j,none⟩) 256 e,I (n:Int)] [tblA m,A] (λv G=>v=.tuple #[.agg #[I 0,.slice none 0 0],.bool true]/\G=[tblA m,A]):=by
 intro z R w H;have b:=H.sy 1 (λq=>(c _ q).len);refine Ae func144 Z ntmps144 Z (Za 2 [] H Z ?_);intro g w H;refine Zc 10 Z (AP Z (Eo (k:=256) H Z J CL Z Z Z U) ?_);rintro _ w ⟨f,rfl,H⟩;refine z_E_ Z (call186 _) (Xu sec (List.replicate 256 0) (λh q=>by rw[b];exact c h q) (λh q=>by rw[Afk,Ahh];exact q.rd U U O Z)) H.f3 ?_;intro w H;refine Zc 3 Z (Af Z (λd=>?_) (λd=>?_))
 ·refine Z4 8 [2] H Z ?_;intro w H;refine Zl [2,2] H Z ?_;exact ⟨_,⟨Z,Z⟩,H.perm 4 [3,0] Z Z⟩
 exact absurd a d
theorem MJ(sec:List UInt8)(b:∀h,A h->rdH 1 (.slice (some ⟨j,e,none⟩) 256 r) 256 (sec.map u8) h)(n:Nat)(p:Pg)(hp:p.Ok)(u:n<=1023)(a:sec=Ek n p):Aj 144 [Y i,.slice (some ⟨j,e,none⟩) 256 r,I (n:Int)] [tblA i,A] (λv G=>∃o,v=.tuple #[.agg #[I p.kind,o],.bool true]/\G=[grow 5 1 o 240 (p.body.map u8),tblA i,A]):=by
 intro z R w H;replace H:=H.l2;have d:=H.sy 1 (λq=>(b _ q).len);have a0:=H.sy 1 (λq=>(b _ q).cap);obtain ⟨c0,c1,c2,c3,hd⟩:=Ob d;have t:=hp.1;refine Ae func144 Z ntmps144 Z (Za 2 [] H Z ?_);intro b1 w H;refine Zc 10 Z (AP Z (Eo (k:=256) H Z J CL Z Z Z U) ?_);rintro _ w ⟨b2,rfl,H⟩;replace H:=H.l4;refine z_E_ Z (call186 _) (Xu sec (List.replicate 256 0) (λh q=>by rw[d];exact b h q) (λh q=>by rw[Afk,Ahh];exact q.rd U U O Z)) H.f3 ?_;intro w H;refine Zc 3 Z (Af Z (λl=>?_) (λl=>?_))
 ·exact absurd (a.symm.trans l) (PA hp)
 refine Zc 6 Z (Ar Z (call187 _) (LV sec b) H.f3 ?_);rintro _ w _ (⟨c,rfl,rfl⟩|⟨c,rfl,rfl⟩) y
 ·have H:=y.l4;refine Za 3 [] H Z ?_;intro b3 w H;refine Z4 16 [0] H Z ?_;intro w H;refine z_E_ Z (call165 _) (CB 1 j (e+4) 248 (r-4) ((sec.drop 4).take 248) (λh q=>(b h q).cut (lo:=4) (m:=248) (c':=(r-4)) U U U) U U ((sec.drop 4).take 1) (by rw[AeF,AeG U]) (e+5) 247 (r-5) U U U) H.f2.f1 ?_;intro w H;replace H:=H.l5;refine AB 28 (v:=I p.kind) Z (congrArg I (by rw[a];exact YC hp)) (Za 1 [] H Z ?_);intro b4 w H;refine Z4 10 [0,0,0,0,0] H Z ?_;intro w H;refine An 33 Z (λh2=>U) (λh2=>?_)
  refine Z2 5 [0,0,0,0] H Z (An 38 Z (λx=>U) (λx=>?_));refine Zc 1 Z (z_E_ Z (call99 _) (CY) H ?_);intro w H;replace H:=H.l6;refine Ab Z (AH Z Z) (Zc 2 Z (An 43 Z (λh4=>U) (λh4=>?_)));refine z_E_ Z (call165 _) (CB 4 j (e+5) 247 (r-5) ((sec.drop 5).take 247) (λh q=>(b h q).cut (lo:=5) (m:=247) (c':=(r-5)) U U U) U U ((sec.drop 5).take 4) (by rw[AeF,AeG U]) (e+9) 243 (r-9) U U U) H.f2.f2 ?_;intro w H;replace H:=H.l6;refine AB 44 (v:=I (n:Int)) Z (congrArg I (by rw[a];exact Abw hp u)) (Z0 4 [0] Z (An 48 Z (λs=>?_) (λs=>?_)))
  ·exact absurd Z s
  refine z_E_ Z (call165 _) (CB 3 j (e+9) 243 (r-9) ((sec.drop 9).take 243) (λh q=>(b h q).cut (lo:=9) (m:=243) (c':=(r-9)) U U U) U U ((sec.drop 9).take 3) (by rw[AeF,AeG U]) (e+12) 240 (r-12) U U U) H ?_;intro w H;replace H:=H.l6;refine AB 49 (v:=I 0) Z (congrArg I (by rw[a];exact RG hp)) (Z2 11 [4,0,0,0] H Z (Ar Z (call151 _) (Jx 240 p.body ((λh q=>by have:=(b h q).cut (lo:=12) (m:=240) (c':=r-12) U U U;rw[a,YD hp] at this;exact this)) U) H.f1 ?_));rintro _ w _ ⟨g,f,rest,rfl,⟨cg,cc,cl⟩,rfl⟩ H;refine Z4 12 [1,3,3,2,6] H Z ?_;intro w H;refine Zl [6,2] H Z ?_;replace H:=(H.mono 0 (B:=grow 5 1 (.slice (some ⟨g,0,none⟩) 240 f) 240 (p.body.map u8)) Z (λh q=>q.grow U U (by simp[hp.2];omega) (by rw[AeR,Aev (by simp[hp.2])];exact Ael (by simp[hp.2])))).l7;exact ⟨_,⟨_,Z,Z⟩,H.perm 7 [0,4,1] Z Z⟩
 exact absurd (a▸Abv hp) c
def MK(D:Dsk)(S:List IE):Dsk:= {D with dur:=λi=>if (i:Int)∈S.map (λp:IE=>p.1) then D.cont i else D.dur i}
theorem JC{es:List Ent}{e:Ent}(c:e∈es)(hs:seps (es.map Ent.row) h):rdH 1 e.v e.pvs.length e.pvs h:=by
 obtain ⟨i,hi⟩:=Ae4 c;obtain ⟨h',b,a⟩:=FQ hs (i:=i) (A:=e.row) (by rw[Aeq,hi];rfl);exact (grow.rd b).le a
theorem YU :MK D []=D:=by simp[MK]
theorem YV{q:List UInt8}{b:Nat->List UInt8}(e:B.length=n*256)(hq:q.length=256)(d:m<n)(c:∀i,i<n->(B.drop (i*256)).take 256=b i):
  (B.take (m*256)++q++B.drop (m*256+256)).length=n*256/\∀i,i<n->((B.take (m*256)++q++B.drop (m*256+256)).drop (i*256)).take 256=if i=m then q else b i:=by
 have a:(B.take (m*256)).length=m*256:=by rw[Aez];omega
 refine ⟨by simp only[Aeg,AeQ,a];omega,λi hi=>?_⟩;rcases AfK i m with h|h|h
 ·rw[if_neg U,<-c i hi,Aej,AeV (by rw[a];omega),Aev (by rw[AeQ,a];omega),AfX,AeF,AeG U]
 ·subst h
  rw[if_pos Z,Aej,Ae8,AeO U,AeS,a,AgF,Aew,Ag0,Ael U,hq];simp
 rw[if_neg U,<-c i hi,Ae8,AeO (by rw[Aeg,a];omega),AeS,Aeg,a,hq,AhI];congr 2;omega
theorem VE{S:List IE}{es:List Ent}{hq:Hp}(d:D.Ok)(a:(MK D S).In B es m hq){p:IE}{k:Nat}(hp:p.1=(k:Int))(b:k<D.n):(MK D (S++[p])).In (B.take (k*256)++D.cont k++B.drop (k*256+256)) es m hq:=by
 have c:=YV (q:=D.cont k) a.len (Dsk.cont_len d b) b a.own;refine ⟨c.1,λi hi=>?_,a.ent,a.all,a.nodup,a.born,a.clk⟩;rw[c.2 i hi];show _=(if (i:Int)∈(S++[p]).map (λp:IE=>p.1) then D.cont i else D.dur i);show (if i=k then D.cont k else (if (i:Int)∈S.map (λp:IE=>p.1) then D.cont i else D.dur i))=_;simp only[AeH,AeL,AfB,Aer,Afn,hp];by_cases h:i=k
 ·subst h;rw[if_pos Z,if_pos (.inr Z)]
 rw[if_neg h];have:¬((i:Int)=(k:Int)):=by omega
 simp only[this,or_false]
theorem YW{S:List IE}{es:List Ent}{hq:Hp}(b:(MK D S).In B es m hq)(o:Cm (es.map Ent.ie) (S.map λp:IE=>p.2.2)=[])(k:∀p∈S,p∈es.map Ent.ie):Dsk.In {D with dur:=D.cont,ver:=λ_=>[]} B [] m hq:=by
 have key:∀i,i<D.n->(MK D S).dur i=D.cont i:=λi hi=>by
  simp only[MK];split
  ·rfl
  rename_i g;by_cases hv:D.ver i=[]
  ·exact (J6 hv).symm
  obtain ⟨e,a,u⟩:=b.all i hi hv;exfalso;have j:e.ie∈es.map Ent.ie:=AeB a;by_cases q:e.born∈S.map λp:IE=>p.2.2
  ·obtain ⟨p,hp,l⟩:=Aem.1 q
   obtain ⟨s,c,rfl⟩:=Aem.1 (k p hp);obtain ⟨t,f⟩:=Ae4 a;obtain ⟨r,d⟩:=Ae4 c;have:=Gb b.born f d l.symm;subst this;rw[f] at d;cases d;exact g (Aem.2 ⟨_,hp,by show (e.key:Int)=i;omega⟩)
  have:e.ie∈Cm (es.map Ent.ie) (S.map λp:IE=>p.2.2):=by
   simp only[Cm,Afd];exact ⟨j,by simpa [Ent.ie] using q⟩
  rw[o] at this;cases this
 exact ⟨b.len,λi hi=>(b.own i hi).trans (key i hi),λe a=>(by cases a),λi hi h=>absurd Z h,by simp,by simp,λe a=>(by cases a)⟩
theorem Adc(a:D.Ok){f:Nat->List UInt8}(j:∀i,i<D.n->(f i).length=256){e:Int}{d:Bool}(h:0<=t/\t<=1099511627776)(c:0<=s/\s<=1099511627776)(g:0<=q/\q<=1099511627776)(b:0<=e/\e<=1099511627776):Dsk.Ok ⟨D.n,f,λ_=>[],t,s,q,d,e⟩:=
 ⟨a.n1,a.n2,j,λi hi p hp=>(by cases hp),h,c,g,b⟩
set_option maxHeartbeats 1000000 in
theorem HR {pd:Nat}:Aj 92 [Y pd] [diskA pd D] (λv G=>((D.f3=1\/(D.cut=true/\D.left=0))/\v=I 12/\G=[diskA pd {D with f3:=Bi D.f3}])\/(¬(D.f3=1\/(D.cut=true/\D.left=0))/\v=I 0/\G=[diskA pd D.fl])):=by
 intro z R w H;replace H:=H.l1;obtain ⟨bd,m,f0,bs,es,clk,hq,c,o,H'⟩:=H.disk;clear H;have b9:=c.n1;have b8:=c.n2;have b4:=c.f3;have b6:=c.left;have H:=H'.l5;have a7:∀p∈es.map Ent.ie,p.2.2<clk:=λp hp=>by obtain ⟨e,he,rfl⟩:=Aem.1 hp;exact o.clk e he
 have b0:(es.map Ent.ie).map (λp:IE=>p.2.2)=es.map Ent.born:=by rw[Afp];rfl
 have hn:((es.map Ent.ie).map λp:IE=>p.2.2).Nodup:=by rw[b0];exact o.born
 refine Ae func92 Z ntmps92 Z (Zc 9 Z (z_E_ Z (call148 _) (UM U) H ?_));intro w H;refine Zc 1 Z (An 7 Z (λh1=>?_) (λh1=>?_))
 ·refine Zc 12 Z (Zr Z ?_);replace H:=(Sep.toDisk (D:= {D with f3:=Bi D.f3}) (pd:=pd) (bd:=bd) (m:=m) (f0:=f0) (bs:=bs) (es:=es) (clk:=clk) (hq:=hq) (Γ:=R) H (c.f c.f1 c.f2 (Fi c.f3) c.left) (o.f _ _ _ _ _)).l1
  exact ⟨_,.inl ⟨by simp_all,Z,Z⟩,H⟩
 refine Zc 1 Z (z_E_ Z (call149 _) (SQ) H ?_);intro w H;refine Zc 3 Z (Es Z (λh2=>?_) (λh2=>?_))
 ·refine Zc 6 Z (Zr Z ?_);replace H:=(Sep.toDisk (D:= {D with f3:=Bi D.f3}) (pd:=pd) (bd:=bd) (m:=m) (f0:=f0) (bs:=bs) (es:=es) (clk:=clk) (hq:=hq) (Γ:=R) H (c.f c.f1 c.f2 (Fi c.f3) c.left) (o.f _ _ _ _ _)).l1
  exact ⟨_,.inl ⟨by simp_all,Z,Z⟩,H⟩
 refine Z2 9 [1,0,0] H Z (AP Z (HK 2 (e:=223) H Z Z J Z) ?_);rintro _ w ⟨rr,rfl,H⟩;replace H:=H.l6;refine Zc 3 Z ?_;refine AD (σ:=List IE×List UInt8) (λ⟨S,b⟩=>[(0,Y pd),(2,I 0),(15,Y rr)])
   (λ⟨S,b⟩ w=>Sep z (GM rr m clk (S.map λp:IE=>p.2.2)::blk pd [.slice (some ⟨bd,0,none⟩) (D.n*256) (D.n*256),.map (some m),I f0,I D.f1,I D.f2,I (if D.f3=0 then 0 else D.f3-1),.bool D.cut,I D.left] 98::blk bd (b.map u8) 5::AI m (es.map Ent.ie) clk::poolA hq::seps (es.map Ent.row)::R) w/\((∀p∈S,p∈es.map Ent.ie)/\(MK D S).In b es clk hq)) (λ⟨S,b⟩=>(Cm (es.map Ent.ie) (S.map λp:IE=>p.2.2)).length) ⟨[],bs⟩
   (λ_ hF=>(hF.all Z)) ⟨H,λp hp=>absurd hp O,by rw[YU];exact o⟩ ?_
 clear H;rintro ⟨S,b⟩ w ⟨H',hI⟩;dsimp only at hI H' ⊢;have H:=H'.l6;obtain ⟨hS,l⟩:=hI;refine Zc 2 Z (AP Z (IW 0 3 H Z Z Z Z a7) ?_);rintro _ w ⟨qx,rfl,t,H⟩;replace H:=H.l6;refine Ab Z (KL Z Z) (Zc 3 Z (Es Z (λh3=>?_) (λh3=>?_)))
 ·obtain ⟨p1,rfl⟩:=Afa.1 h3;refine Zc 5 Z ?_;obtain ⟨⟨g,ve,a,ps,bo⟩,d,rfl⟩:=Aem.1 (C7 t).1;obtain ⟨a8,x,u,a0,a1⟩:=l.ent _ d;obtain ⟨ao,cc,a5⟩:=H.sy 5 (λq=>(JC d q).slc);dsimp only at a5 a8 x u a0 a1
  subst a5;have a6:=H.rv 5 (λq=>JC d q);have b1:=H.sy 5 (λq=>(JC d q).small);dsimp only at b1;have b3:0<a.length:=by rw[u];exact Ahe.2 a0
  have a4:g<D.n:=a8;obtain ⟨pv,s⟩:∃pv,a[a.length-1]?=some pv:=⟨_,Aef U⟩;obtain ⟨p,hp⟩:∃p,ps[a.length-1]?=some p:=⟨_,Aef U⟩;have a9:D.cont g=p:=MA (n:=a.length) (by rw[u,x];rfl) (by rw[show D.ver g=ps from x.symm];exact hp);obtain ⟨y,a3⟩:=a1 _ _ _ s hp;have b2:=a6.at s;refine Ab Z (HL (p:=(Ent.ie ⟨g,.slice ao a.length cc,a,ps,bo⟩)) Z Z (Az ⟨H.bk 0 Z,H.bk 3 Z⟩) (AeB d) hn) (Zc 6 Z (Bp (Sep z (GM rr m clk (JV (S.map λp:IE=>p.2.2) (some (Ent.ie ⟨g,.slice ao a.length cc,a,ps,bo⟩)))::blk pd [.slice (some ⟨bd,0,none⟩) (D.n*256) (D.n*256),.map (some m),I f0,I D.f1,I D.f2,I (if D.f3=0 then 0 else D.f3-1),.bool D.cut,I D.left] 98::blk bd (b.map u8) 5::AI m (es.map Ent.ie) clk::poolA hq::seps (es.map Ent.row)::R)) 10 Z J (A4 H λw H'=>?_)));have H:=H'.l6;refine Bv [0,1,3,4] [] J (λ_ _=>AN) (by exact H.pick 6 [0,1,2,3,4,5] Z) Z J Z Z (BG 5 J Z Z J J J Z Z Z (Fu Z (z:=1) J Z) (H.pick 6 [0,1,2,3,4,5] Z) (BG 6 J Z Z J J J Z Z Z (Hy Z Z Z (r:=((a.length-1:Nat):Int)) U U) (H.pick 6 [0,1,2,3,4,5] Z) (BG 7 J Z Z J J J Z Z Z (Ak Z (z:=1) (j:=(a.length-1)) (r:=(a.length-1)) J Z Z Z U b2 U) (H.pick 6 [0,1,2,3,4,5] Z) (BG 8 J Z Z J J J Z Z Z (Ay Z Z J (λ_ hx=>(hx.rv 5 (λq=>JC d q)).at s)) (H.pick 6 [0,1,2,3,4,5] Z) (AF [2] J O (Am (Bt Z Z Z Z Z Z (λw=>call152 _ w) (Xo g U U) H.f1 Z ?_)))))));rintro _ w _ ⟨rfl,rfl⟩ H;replace H:=H.l6;refine Au (λ_=>(H.pick 6 [1,0,2,3,4,5] Z)) (AF [9] J O (Am (B6 Z Z Z Z (F9 2 H Z Z J Z Z (m:=256) (news:=(p.map u8)) (.inl (H.rv 4 (λq=>a3.le q))) (by simp[u8,Value.oneCell']) (by have:=l.len;simp;omega) (k:=256) U (out:=((b.take (g*256)++p++b.drop (g*256+256)).map u8)) (by simp[y,Ael])) ?_)));rintro _ w ⟨rfl,H⟩;replace H:=H.l6;refine Au (λh=>absurd Z h) (Bo J (gn (Zc 1 Z ?_)));replace H:=H.f5.f5.f5.f5.f4.f5;refine gf ?_;intro _ hF;refine ⟨⟨S++[(Ent.ie ⟨g,.slice ao a.length cc,a,ps,bo⟩)],(b.take (g*256)++p++b.drop (g*256+256))⟩,(hF.all Z),⟨(by dsimp only;rw[AeH];exact H),?_⟩,?_⟩
  ·refine ⟨λp hp=>?_,?_⟩
   ·rcases Aer.1 hp with hp|hp
    ·exact hS p hp
    simp at hp;subst hp;exact AeB d
   have:=VE c l (p:=(Ent.ie ⟨g,.slice ao a.length cc,a,ps,bo⟩)) (k:=g) Z a4;rwa[a9] at this
  (dsimp only;have:=ED t;rwa[show (S++[(Ent.ie ⟨g,.slice ao a.length cc,a,ps,bo⟩)]).map (λp:IE=>p.2.2)=(S.map λp:IE=>p.2.2)++[bo] from by simp[Ent.ie]])
 obtain rfl:qx=none:=by simpa using h3
 refine Zc 2 Z (gx (Zc 3 Z ?_));have a2:=YW l t hS;refine Z2 5 [1,1,0] H Z (KH Z Z (Jq 3 (e:=223) H Z Z J Z) ?_);rintro _ w ⟨rfl,H⟩;replace H:=H.l6;refine Z3 10 [7,1,0] [D.left-1] H Z U (Ab Z (Ni Z Z Z) (Z4 11 [7,1] H Z ?_));intro w H;refine Zr Z ?_;replace H:=(H.mono 5 (B:=seps (([]:List Ent).map Ent.row)) Z (λh q=>⟨λ_=>0,λi A hi=>by simp at hi⟩)).l6;replace H:=H.f5.f5.f5.f5.f5;replace H:=(Sep.toDisk (D:=D.fl) (pd:=pd) (bd:=bd) (m:=m) (f0:=f0) (bs:=b) (es:=([]:List Ent)) (clk:=clk) (hq:=hq) (Γ:=GM rr m clk (JV (S.map λp:IE=>p.2.2) none)::R) H (Adc c (λi hi=>Dsk.cont_len c hi) c.f1 c.f2 (Fi c.f3) U) (a2.f _ _ _ _ _)).l2;exact ⟨_,.inr ⟨by simp_all,Z,Z⟩,H.perm 2 [0] Z Z⟩
def wr1(D:Dsk)(fua:Bool)(i:Nat)(p:List UInt8):Dsk:= {Dsk.ws {D with f2:=Bi D.f2} fua i [p] with left:=max 0 (D.left-1)}
theorem Ki{a:Bool}(p:List UInt8)(hp:p.length=256)(d:∀h,A h->rdH 1 (.slice (some ⟨j,e,none⟩) 256 r) 256 (p.map u8) h)(b:∀i,(D.ver i).length<=1099511627776)(f:0<=t/\t+1<=(D.n:Int)):
  Aj 91 [Y m,I t,.slice (some ⟨j,e,none⟩) 256 r,.bool a] [diskA m D,A] (λv G=>(D.bad/\v=I 11/\G=[diskA m D.wf,A])\/(¬D.bad/\v=I 0/\G=[diskA m (wr1 D a t.toNat p),A])):=by
 have h:=Qm m j e r D t a [p] A (by simpa using hp) O b (λh q=>by simpa using d h q);refine Cn.mono h ?_;have c:0<=t/\t+(([p]:List (List UInt8)).length:Int)<=(D.n:Int):=by simpa using f
 rintro v Γ (⟨g,_⟩|⟨_,g,rfl,rfl⟩|⟨_,g,rfl,rfl⟩)
 ·exact absurd c g
 ·exact .inl ⟨g,Z,Z⟩
 exact .inr ⟨λh=>by rcases h with h|h;exact g.1 h;exact g.2 h,Z,Z⟩
theorem HS:Aj 90 [Y i] [diskA i D] (λv G=>v=I (D.n:Int)/\G=[diskA i D]):=by
 refine Cn.mono (Cn.onDisk (post:=λv Γ=>v=I (D.n:Int)/\Γ=[]) (pre:=[]) (λa bd m f0=>?_)) ?_
 ·have b:=a.n2
  refine Cn.mono (KJ i bd m (D.n*256) f0 D.f1 D.f2 D.f3 D.left D.cut U) ?_;rintro v Γ ⟨rfl,rfl⟩;exact ⟨[],⟨congrArg I U,Z⟩,Z⟩
 rintro v Γ ⟨Γ',⟨rfl,rfl⟩,rfl⟩;exact ⟨Z,Z⟩
theorem Ow(s:Sup)(b:s.Ok (D.n:Int))(d:∀i,(D.ver i).length<=1099511627776):Aj 94 [Y m,Y j,.agg #[I s.gen,I s.epoch,I s.pages,I s.start,I s.len,I s.head,I s.seq]] [diskA m D,tblA j] (λv G=>(D.bad/\v=I 11/\G=[diskA m D.wf,tblA j])\/(¬D.bad/\v=I 0/\G=[diskA m (Fk D s),tblA j])):=by
 intro z R w H;have o:=H.sy 0 (λq=>(diskA.ok q).n1);have k:=H.sy 0 (λq=>(diskA.ok q).n2);have p:=Sup.get b;have g:=b.2;refine Ae func94 Z ntmps94 Z (Za 2 [] H Z ?_);intro t w H;refine Zc 5 Z (By (Sep z _) J J H.drew (GL 9 [0,7] [] Z J (Dn Z Z Z Z Z (λw=>call90 _ w) (v:=I (D.n:Int)) (cq (HS) (by rintro _ _ ⟨rfl,rfl⟩;exact ⟨Z,Z⟩) 2 [1,0] [1,0] Z Z Z Z) (Dn Z Z Z Z Z (λw=>call89 _ w) (v:=I (if s.Ok (D.n:Int) then 0 else 1)) (cq (HP _ U) (by rintro _ _ ⟨rfl,rfl⟩;exact ⟨Z,Z⟩) 0 [] [] Z Z Z Z) (B4 2 [] Z J (BL (λw e=>?_)))))));have H:=e.l3;refine gn (Zc 1 Z (Af Z (λf=>?_) (λf=>?_)))
 ·exact absurd (if_pos b) f
 refine Z2 6 [0,7] H Z (Ar Z (call153 _) (RH (λx l=>b.1 x l)) H.f2 ?_);rintro _ w _ ⟨r,rfl,rfl⟩ H;refine Z3 24 [4,0,2,0] [s.gen%2] H Z U (Ar Z (call91 _) (Ki (DE s) (GS s) (λh q=>HN (lo:=0) (n:=256) (c:=256) (ys:=DE s) q (GS s) U U U (by rw[Aew];exact Ael (Agk (GS s)))) d U) H.f3 ?_);rintro _ w _ (⟨a,rfl,rfl⟩|⟨a,rfl,rfl⟩) e
 ·have H:=e.l4;refine Zc 4 Z (Zr Z ?_);exact ⟨_,.inl ⟨a,Z,Z⟩,H.perm 4 [0,2] Z Z⟩
 have H:=e.l4;refine Zc 4 Z (Zr Z ?_);exact ⟨_,.inr ⟨a,Z,Z⟩,H.perm 4 [0,2] Z Z⟩
set_option maxHeartbeats 1000000 in
theorem AbG (d:D.f1=0) (x c b:Sup) (k:c.Ok (D.n:Int)) (g:b.Ok (D.n:Int)) (g0:c.gen%2=0) (g1:b.gen%2=1) (c0:D.cont 0=DE c) (c1:D.cont 1=DE b) (a:x=if c.gen<b.gen then b else c):Aj 95 [Y i,Y e] [diskA i D,tblA e] (λv G=>v=.tuple #[.agg #[I x.gen,I x.epoch,I x.pages,I x.start,I x.len,I x.head,I x.seq],I 0]/\G=[diskA i D,tblA e]):=by
 intro z R w H;have a6:=H.sy 0 (λq=>(diskA.ok q).n1);have a3:=H.sy 0 (λq=>(diskA.ok q).n2);have a5:=Sup.get k;have a8:=Sup.get g;have a7:=k.2;have a4:=g.2;refine Ae func95 Z ntmps95 Z (Za 2 [] H Z ?_);intro b1 w H;refine Zc 14 Z (z_E_ Z (call90 _) (HS) H.f1 ?_);intro w H;refine Z0 4 [0] Z (Af Z (λh1=>U) (λh1=>?_));refine Za 4 [] H Z ?_;intro b2 w H;refine Zc 14 Z (GO 3 (DG (Z0 21 [3] Z (Ar Z (call143 _) (I3) H.f1 ?_))));rintro _ w _ (⟨a,_,_⟩|⟨_,a,_,_⟩|⟨_,_,g0,o,p,rfl,⟨a0,y,a1⟩,rfl⟩) f
 ·exact absurd ⟨by omega,by omega⟩ a
 ·(rw[d] at a;cases a)
 rw[diskA.f1 d] at f;have H:=f.l5;refine Z5 25 [4,2,1,0,0,2] [1] H Z U ?_;intro w H;refine gf (DG (Z0 21 [3] Z (Ar Z (call143 _) (I3) H.f1 ?_)));rintro _ w _ (⟨a,_,_⟩|⟨_,a,_,_⟩|⟨_,_,g1,l,s,rfl,⟨r,a2,t⟩,rfl⟩) f
 ·exact absurd ⟨by omega,by omega⟩ a
 ·(rw[d] at a;cases a)
 rw[diskA.f1 d] at f;have H:=f.l6;refine Z5 25 [4,2,1,1,1,3] [2] H Z U ?_;intro w H;refine gf (DG (Z0 9 [4] Z (gx (Zc 13 Z (Ab Z (Bg Z Z (out:=[I (-1),I 0,I 0,I 0,I 0,I 0,I 0]) J) (Za 0 [] H Z ?_))))));intro b3 w H;refine Z4 11 [0,4,2] H Z ?_;intro w H;refine GO 3 (DG (Z0 14 [3] Z (Ab Z (E8 (m:=2) Z J Z Z Z (j:=0) Z (u:=.slice (some ⟨g0,0,none⟩) 256 o) Z) (Zc 8 Z (z_E_ Z (call154 _) (K6 (D.cont (0:Int).toNat) (λh q=>EH q (by rw[show D.cont (0:Int).toNat=DE c from c0];exact GS _) ⟨a0,y,a1⟩) c k.1 c0) H.f3.f6 ?_)))));intro w H;refine Za 3 [] H Z ?_;intro b4 w H;refine Z4 5 [0] H Z ?_;intro w H;refine By (Sep z _) J J H.drew (GL 4 [0,7] [] Z J (Dn Z Z Z Z Z (λw=>call90 _ w) (v:=I (D.n:Int)) (cq (HS) (by rintro _ _ ⟨rfl,rfl⟩;exact ⟨Z,Z⟩) 6 [5,0,1,2,3,4] [1,2,3,4,5,0] Z Z Z Z) (Dn Z Z Z Z Z (λw=>call89 _ w) (v:=I (if c.Ok (D.n:Int) then 0 else 1)) (cq (HP _ U) (by rintro _ _ ⟨rfl,rfl⟩;exact ⟨Z,Z⟩) 0 [] [] Z Z Z Z) (B4 3 [] Z J (Ce 68 Z (λh2=>?_) (λh2=>?_))))))
 ·refine Hb 7 [0,0,0,0] [c.gen%2] Z J U (Ce 75 Z (λh3=>?_) (λh3=>?_))
  ·refine D5 6 [0,0,0,1] (λ_ a=>(AR (a.blk 0 Z) (AR (a.blk 3 Z) AN))) Z J Z (BL (λw f=>?_));have H:=f.l8;refine gn (Zc 1 Z (Af Z (λh4=>?_) (λh4=>?_)))
   ·refine Z5 10 [0,7,3] [1] H Z U ?_;intro w H;refine gf (DG (Z0 14 [3] Z (Ab Z (E8 (m:=2) Z J Z Z Z (j:=1) Z (u:=.slice (some ⟨g1,0,none⟩) 256 l) Z) (Zc 8 Z (z_E_ Z (call154 _) (K6 (D.cont (1:Int).toNat) (λh q=>EH q (by rw[show D.cont (1:Int).toNat=DE b from c1];exact GS _) ⟨r,a2,t⟩) b g.1 c1) H.f4.f2 ?_)))));intro w H;refine Za 3 [] H Z ?_;intro b5 w H;refine Z4 5 [0] H Z ?_;intro w H;refine By (Sep z _) J J H.drew (GL 4 [0,7] [] Z J (Dn Z Z Z Z Z (λw=>call90 _ w) (v:=I (D.n:Int)) (cq (HS) (by rintro _ _ ⟨rfl,rfl⟩;exact ⟨Z,Z⟩) 7 [6,0,1,2,3,4,5] [1,2,3,4,5,6,0] Z Z Z Z) (Dn Z Z Z Z Z (λw=>call89 _ w) (v:=I (if b.Ok (D.n:Int) then 0 else 1)) (cq (HP _ U) (by rintro _ _ ⟨rfl,rfl⟩;exact ⟨Z,Z⟩) 0 [] [] Z Z Z Z) (B4 3 [] Z J (Ce 68 Z (λh5=>?_) (λh5=>?_))))))
    ·refine Hb 7 [0,0,0,0] [b.gen%2] Z J U (Ce 75 Z (λh6=>?_) (λh6=>?_))
     ·refine D5 6 [0,0,0,1] (λ_ a=>(AR (a.blk 0 Z) (AR (a.blk 5 Z) AN))) Z J Z (BL (λw f=>?_));have H:=f.l9;refine gn (Zc 1 Z (Af Z (λh7=>?_) (λh7=>?_)))
      ·refine Z5 10 [0,7,5] [2] H Z U ?_;intro w H;refine gf (DG (Z0 9 [4] Z (gx (Z2 10 [0,5,0,0] H Z (Af Z (λh8=>U) (λh8=>?_))))))
       refine Z4 10 [5,7,8] H Z ?_;intro w H;refine Zl [8,7] H Z ?_;obtain rfl:x=b:=by rw[a];first|exact if_pos U|exact if_neg U
       exact ⟨_,⟨rfl,rfl⟩,H.perm 9 [6,1] rfl rfl⟩
      refine Z1 7 [] [2] Z U (gf (DG (Z0 9 [4] Z (gx (Z2 10 [0,5,0,0] H Z (Af Z (λh9=>U) (λh9=>?_)))))));refine Z4 10 [5,7,8] H Z ?_;intro w H;refine Zl [8,7] H Z ?_;obtain rfl:x=c:=by rw[a];first|exact if_pos U|exact if_neg U
      exact ⟨_,⟨rfl,rfl⟩,H.perm 9 [6,1] rfl rfl⟩
     (exfalso;omega)
    exact absurd (if_pos g) h5
   (exfalso;omega)
  (exfalso;omega)
 exact absurd (if_pos k) h2
theorem VF(g m clk:Nat)(l:List IE)(d:∀p∈l,p.2.2<clk)(n:(l.map λp:IE=>p.2.2).Nodup):Xp prog 197 [Y g] [blk g [.map (some m)] 134,AI m l clk] (Abu l) [] (RE l):=by
 intro z k J_ o w b;have H:=b.l2;refine J8 (args:=[.func (.yield k) #[] #[],Y g]) func197 Z Z 14 ntmps197 Z ?_;refine CT ?_;refine Cf ?_;refine s_do Z Z Z (Bn Z Z J (Az (H.cel 0 Z 0 Z))) ?_;refine E5 Z Z Z (HK 1 (e:=104) H Z Z J Z) ?_;rintro _ w ⟨j,rfl,b⟩;have H:=b.l3;refine AS ?_;refine Eb ?_;refine LN (σ:=List IE) (λs=>[(0,.func (.yield k) #[] #[]),(5,Y j)])
  (λs w=>Sep z (GM j m clk (s.map λp:IE=>p.2.2)::blk g [.map (some m)] 134::AI m l clk::J_ s) w/\(True)) (λs=>(Cm l (s.map λp:IE=>p.2.2)).length) ([])
  (λ_ f=>(f.all Z)) ⟨H,trivial⟩ ?_
 clear H;rintro s w ⟨b,q⟩;have H:=b.l3;refine CT ?_;refine Cf ?_;refine E5 Z Z Z (IW 0 2 H Z Z Z Z d) ?_;rintro _ w ⟨i,rfl,a,b⟩;have H:=b.l3;refine s_do Z Z Z (KL Z Z) ?_;refine AS ?_;refine CT ?_;refine Jp Z (λh=>?_) (λh=>?_)
 ·-- yes:i.isSome
  obtain ⟨c,rfl⟩:=Afa.1 h;refine Gx ?_;refine Eb ?_;refine CT ?_;refine Cf ?_;refine s_do Z Z Z (HL (p:=c) Z Z (Az ⟨H.bk 0 Z,H.bk 2 Z⟩) (C7 a).1 n) ?_;refine s_do Z Z Z (Fg Z Z Z) ?_;refine s_do Z Z Z (Bf Z Z) ?_;refine AS ?_;refine CT ?_;refine J7 ?_;refine Et Z Z Z (Ck Z Z) ?_;refine Et Z Z Z (Ck Z Z) ?_;replace H:=H.f2.f2;refine LP Z Z Z Z Z Z (o s _ (s++[c]) [GM j m clk ((s.map λp:IE=>p.2.2)++[c.2.2])] ⟨c,a,Z,Z⟩ _ H) ?_;rintro _ w ⟨rfl,b⟩;refine ⟨_,Z,?_⟩;have H:=b.l3;refine Et Z Z Z (Kx Z Z) ?_;refine Rt ?_;refine Iw Z ?_;refine Gx ?_;replace H:=H.f1.f1.f2;intro _ f;refine ⟨(s++[c]),(f.all Z),⟨(by rw[AeH];exact H),?_⟩,?_⟩
  ·trivial
  (have:=ED a;rwa[show (s++[c]).map (λp:IE=>p.2.2)=(s.map λp:IE=>p.2.2)++[c.2.2] from by simp])
 -- no:i.isSome
 obtain rfl:i=none:=by simpa using h
 refine LM ?_;refine IM ?_;exact λ_ f=>⟨f.defers,s,a,H.perm 3 [1,2] Z Z⟩
theorem Ox{l:List IE}(g:∀p∈l,p.2.2<i)(t:(l.map λp:IE=>p.2.2).Nodup)(a1:l.length<=1099511627776):Aj 227 [.slice none 0 0,.func (.func 197) #[] #[Y n]] [blk n [.map (some m)] 134,AI m l i] (λv G=>∃s:List IE,s.Perm l/\G=[blk n [.map (some m)] 134,AI m l i,grow 3 1 v s.length (kC s)]):=by
 intro z R w b;have H:=b.l2;refine NP func227 Z 13 ntmps227 Z (A0 (AJ (E5 Z Z Z (G9 H Z Z (cs:=[.slice none 0 0]) Z) ?_)));rintro _ w ⟨r,rfl,b⟩;have H:=b.l3;refine B3 1 Z Z (AS (A0 (A0 (AJ (B3 1 Z Z (AS (FM ?_)))))));have b:=H.nilg 3 1;have H:=b.l4;replace H:=H.f1;have b:=H.toVec (l:=l) (s:=[]) O O;have H:=b.l3;replace H:=H.f2.f2;have b:=Sep.swap (As:=[blk n [.map (some m)] 134,AI m l i]) (Bs:=(vecA r l []::R)) H;clear H;refine UO (λs=>(vecA r l s::R)) Z (λu w=>call197 u w) Z (VF n m i l g t) b ?_ ?_
 ·rintro ro s v s2 ⟨p,hp,rfl,rfl⟩ w;refine Cf (B3 1 Z Z (AS ?_));refine λa y=>⟨Z,λF w b=>?_⟩
  revert a y;have H:=b.l1;obtain ⟨c,f,b⟩:=H.vec;clear H;have H:=b.l2;have a0:=K5 c;refine Eb (Cf (Gn 2 [0] (AR (H.blk 0 Z) AN) Z J Z (E5 Z Z Z (AO H Z J (Elt.mk (P:=prog) (e:=3) (z:=I 0) (sz:=1) (by_:=8) J Z U U) Z (by decide) (by decide) (out:=[I p.1]) J) ?_)));rintro _ w ⟨b2,rfl,b⟩;have H:=b.l3;refine E5 Z Z Z (AW 2 H Z Z J (Elt.mk (P:=prog) (e:=3) (z:=I 0) (sz:=1) (by_:=8) J Z U U) Z Z (H.rv 0 (·.rd U U O Z)) (by simp[Value.oneCell']) U) ?_;rintro x w b;have b:Sep z (blk b2 [I p.1] 3::blk r [f] 81::grow 3 1 x (s.length+1) (kC s++[I p.1])::(R++F)) w:=b;have o:(kC s++[I p.1]:List Value)=kC (s++[p]):=Yz s p;rw[o] at b;rw[show (s.length+1:Nat)=(s++[p]).length from by simp] at b;have H:=b.l3;have k:=H.sy 2 (·.slc);refine F4 Z Z (Lt 1 H Z Z Z Z k.cells k.one J) ?_;rintro w b;have H:=b.l3;refine AS ?_;replace H:=H.d;have j:=F7 c hp;exact λ_ _=>H.toVec j.1 j.2
 rintro D0 w s h b;have H:=b.l2;replace H:=H.f1;obtain ⟨c,f,b⟩:=H.vec;clear H;have H:=b.l3;refine A0 (AJ (Gn 2 [0] (AR (H.blk 0 Z) AN) Z J Z (AS (D9 ?_))));replace H:=H.f2;refine NR H (rs:=[.tmp 4]) Z [f] (λ_=>⟨Z,trivial⟩) (v:=f) Z (λw b=>?_);clear H;have H:=b.l2;have b:=Sep.swap (As:=grow 3 1 f s.length (kC s)::R) (Bs:=[blk n [.map (some m)] 134,AI m l i]) (H.pick 2 [1] Z);exact ⟨[blk n [.map (some m)] 134,AI m l i,grow 3 1 f s.length (kC s)],⟨s,Hv t c h,Z⟩,b⟩
theorem Qt:Aj 161 [.map (some m)] [] (λv G=>∃a,v=.func (.func 197) #[] #[Y a]/\G=[blk a [.map (some m)] 134]):=by
 intro z R w H;refine Ae func161 Z ntmps161 Z (Za 2 [] H Z ?_);intro b w H;refine Zc 5 Z (Ab Z (C5 Z Z Z) (Zc 4 Z (Zr Z ?_)));exact ⟨_,⟨b,Z,Z⟩,H⟩
theorem RK{l:List IE}(a:∀p∈l,p.2.2<i)(c:(l.map λp:IE=>p.2.2).Nodup)(b:l.length<=1099511627776):Aj 195 [.func (.func 197) #[] #[Y n]] [blk n [.map (some m)] 134,AI m l i] (λv G=>∃s:List IE,s.Perm l/\G=[blk n [.map (some m)] 134,AI m l i,grow 3 1 v s.length (kC s)]):=by
 intro z R w H;refine Ae func195 Z ntmps195 Z (Zc 8 Z (Ar Z (call227 _) (Ox a c b) H ?_));rintro e w _ ⟨s,hs,rfl⟩ H;refine Zc 4 Z (Zr Z ?_);exact ⟨_,⟨s,hs,Z⟩,H⟩
theorem ML{l:List IE}(a:∀p∈l,p.2.2<i)(d:(l.map λp:IE=>p.2.2).Nodup)(c:l.length<=1099511627776):Aj 160 [.func (.func 197) #[] #[Y n]] [blk n [.map (some m)] 134,AI m l i] (λv G=>∃s:List IE,s.Perm l/\G=[grow 3 1 v ((s.map λp:IE=>p.1).mergeSort (λx y=>decide (x<=y))).length (((s.map λp:IE=>p.1).mergeSort (λx y=>decide (x<=y))).map I),blk n [.map (some m)] 134,AI m l i]):=by
 intro z R w H;refine Ae func160 Z ntmps160 Z (Zc 8 Z (Ar Z (call195 _) (RK a d c) H ?_));rintro f w _ ⟨s,hs,rfl⟩ H;refine Zc 6 Z ?_;have b:(s.map λp:IE=>p.1).length=s.length:=by simp
 have g:=hs.length_eq;replace H:=(H.mono 2 (B:=grow 3 1 f (s.map λp:IE=>p.1).length ((s.map λp:IE=>p.1).map I)) Z (λh q=>by rw[b,Afp];exact q)).l3;refine Ar Z (call196 _) (To U) H.f2 ?_;rintro _ w _ ⟨rfl,ys,rfl,rfl⟩ H;refine Zc 9 Z (Zr Z ?_);exact ⟨_,⟨s,hs,Z⟩,H⟩
def Fc(f:BF)(ks:List Int):Prop:=ks.Pairwise (· < ·)/\∀k:Int,k∈ks↔0<=k/\(f k.toNat).isSome=true
def pgLst(f:BF)(ks:List Int):List (Nat×Pg):=ks.map λk=>(k.toNat,(f k.toNat).getD noPg)
theorem Ey{f:BF}(h:Fc f l)(n:Nat)(p:Pg):(n,p)∈pgLst f l↔f n=some p:=by
 unfold pgLst;rw[Aem];constructor
 ·rintro ⟨k,a,e⟩
  obtain ⟨c,b⟩:=(h.2 k).1 a;obtain ⟨q,hq⟩:=Afa.1 b;rw[hq] at e;simp only[Option.getD_some,Afv] at e;obtain ⟨e1,e2⟩:=e;rw[<-e1,hq,e2]
 intro e;refine ⟨(n:Int),(h.2 _).2 ⟨by omega,by rw[Ae6,e];rfl⟩,?_⟩;rw[Ae6,e];rfl
theorem EW{f:BF}(h:Fc f l):((pgLst f l).map Prod.fst).Nodup:=by
 unfold pgLst;rw[Afp];refine AfL.2 (List.Pairwise.imp_of_mem ?_ h.1);intro a b d c e;have g:=((h.2 a).1 d).1;have i:=((h.2 b).1 c).1;simp only[AgM];omega
theorem VG{f:BF}{p:Pg}(a:l[j]?=some (n:Int))(b:f n=some p):(pgLst f l)[j]?=some (n,p):=by
 unfold pgLst;rw[Aeq,a];simp[b]
theorem YX{l:List (Nat×Pg)}{p:Pg}(h:l[j]?=some (n,p)):wr1 (hwD D (l.take j)) false ((2:Int)+(n:Int)).toNat (Ek n p)=hwD D (l.take (j+1)):=by
 rw[AeM,h];show _=hwD D (l.take j++[(n,p)]);rw[Vf,show ((2:Int)+(n:Int)).toNat=2+n from by omega];rfl
def Dsk.flb(D:Dsk):Prop:=D.f3=1\/(D.cut=true/\D.left=0)
def LX(D:Dsk)(l:List (Nat×Pg))(c:Int)(D2:Dsk):Prop:=
 (∃j,(hwD D (l.take j)).bad/\c=11/\D2=(hwD D (l.take j)).wf)\/((hwD D l).flb/\c=12/\D2= {hwD D l with f3:=Bi (hwD D l).f3})\/((hwD D l).fl.bad/\c=11/\D2=(hwD D l).fl.wf)
theorem PgsIn.small{f:BF}{es:List PgE}{clk:Nat}{hq:Hp}(h:PgsIn f es clk hq)(a:∀n,(f n).isSome=true->n<1024):es.length<=1024:=by
 have:=Jy (s:=es.map PgE.n) (l:=List.range 1024) h.nodup (λk c=>by
  obtain ⟨e,b,rfl⟩:=Aem.1 c;exact AfS.2 (a _ (by rw[(h.ent e b).1];rfl)))
 simpa using this
theorem VH{x:Sup}{q:Value}{f:BF}{hq:Hp}(l:∀n,(f n).isSome=true->n<1024):Aj 157 [Y m] [stB m i j x u g b q,pgsA g f hq] (λv G=>(∃k:List Int,Fc f k/\G=[grow 3 1 v k.length (k.map I),stB m i j x u g b q,pgsA g f hq])):=by
 intro z R w H;replace H:=H.l2;obtain ⟨es,clk,a,H⟩:=H.pgs 1 Z;replace H:=H.l2;have o:es.length<=1099511627776:=by have:=a.small l;omega
 refine Ae func157 Z ntmps157 Z (Z2 11 [10,0,0] H Z (Ar Z (call161 _) (Qt) H ?_));rintro _ w _ ⟨bb,rfl,rfl⟩ H;replace H:=H.l3;have c:∀h:IE->Nat,(es.map PgE.ie).map h=es.map λe=>h e.ie:=λh=>by simp
 refine Ar Z (call160 _) (ML (λp hp=>by obtain ⟨e,r,rfl⟩:=Aem.1 hp;exact a.clk e r) (by rw[c];exact a.born) (by simp;exact o)) H.f2.f1 ?_;rintro t w _ ⟨s,hs,rfl⟩ H;replace H:=H.l4;have d:Fc f ((s.map λp:IE=>p.1).mergeSort (λx y=>decide (x<=y))):=a.keys hs;refine Zc 4 Z (Zr Z ?_);replace H:=(H.toPgs 2 Z a).l4;exact ⟨_,⟨_,d,Z⟩,H.perm 4 [0,3,2] Z Z⟩
set_option maxHeartbeats 2000000 in
theorem VI (ps pd l md:Nat) (x:Sup) (lp mo:Value) (un:Bool) (f:BF) (hq:Hp) (y:Sup) (D:Dsk) (a7:∀n,(f n).isSome=true->n<1024) (b0:∀n,(f n).isSome=true->2+n<D.n) (a3:y.Ok (D.n:Int)) (a4:∀i,(D.ver i).length<=1000000000000):Aj 97 [Y ps,.agg #[I y.gen,I y.epoch,I y.pages,I y.start,I y.len,I y.head,I y.seq]] [stB ps pd l x lp md un mo,tblA l,diskA pd D,pgsA md f hq,poolA hq] (λv G=>∃a:List Int,Fc f a/\((v=I 0/\G=[stB ps pd l y lp md un mo,tblA l,diskA pd (Fk (hwD D (pgLst f a)).fl y),pgsA md Dq hq,poolA hq])\/(∃(c:Int) (D2:Dsk),c≠0/\LX D (pgLst f a) c D2/\v=I c/\G=[stB ps pd l x lp md un mo,tblA l,diskA pd D2,pgsA md f hq,poolA hq]))):=by
 intro z R w H;refine Ae func97 Z ntmps97 Z (Za 2 [] H Z ?_);intro b1 w H;refine Zc 7 Z (Ar Z (call157 _) (VH a7) H.f4.f2 ?_);rintro v3 w _ ⟨a,m,rfl⟩ H;have a9:=H.sy 0 (·.slc);have b6:=H.sy 0 (·.rd.small);obtain ⟨s,c3,rfl⟩:=a9;have H:Sep z (grow 3 1 (.slice s a.length c3) a.length (a.map I)::stB ps pd l x lp md un mo::pgsA md f hq::blk b1 [I y.gen,I y.epoch,I y.pages,I y.start,I y.len,I y.head,I y.seq] 132::tblA l::diskA pd D::poolA hq::R) w:=H;obtain ⟨es,clk,t,H⟩:=H.pgs 2 Z;refine Zc 5 Z ?_;refine AD (σ:=Nat) (λj=>[(15,I (j:Int)),(0,Y ps),(3,Y b1),(13,.slice s a.length c3),(14,I (a.length:Int))])
   (λj w=>Sep z (grow 3 1 (.slice s a.length c3) a.length (a.map I)::stB ps pd l x lp md un mo::AI md (es.map PgE.ie) clk::blk b1 [I y.gen,I y.epoch,I y.pages,I y.start,I y.len,I y.head,I y.seq] 132::tblA l::diskA pd (hwD D ((pgLst f a).take j))::poolA hq::R) w/\(j<=a.length)) (λj=>a.length-j) 0
   fr_z ⟨H,by omega⟩ ?_
 clear H;rintro j w ⟨g,hI⟩;have H:=g.l7;have b9:=hI;clear hI;refine Z0 6 [0] Z (Af Z (λh1=>?_) (λh1=>?_))
 ·have b5:j<a.length:=by omega
  refine Zc 6 Z ?_;obtain ⟨x,hx⟩:∃x,a[j]?=some x:=⟨_,Aef U⟩;obtain ⟨c1,o⟩:=(m.2 x).1 (Aee hx);obtain ⟨n,rfl⟩:∃n:Nat,x=(n:Int):=⟨x.toNat,by omega⟩;rw[Ae6] at o;obtain ⟨p,pv,a8,b,a6,b2⟩:∃(p:Pg) (v:Value),f n=some p/\p.Ok/\rdH 1 v 240 (p.body.map u8) hq/\CP (es.map PgE.ie) (n:Int)=some (.agg #[I p.kind,v]):=by
    rcases t.get n with ⟨q,_⟩|q
    · rw[q] at o;cases o
    · exact q
  have hn:=a7 n o;have b8:=b0 n o;have a0:=(H.rv 0 (·.rd)).at (j:=j) (u:=I (n:Int)) (by simp[hx]);have a2:∀i,((hwD D ((pgLst f a).take j)).ver i).length<=1099511627776:=λi=>by have h1:=Om ((pgLst f a).take j) D i ((EW m).sublist ((List.take_sublist _ _).map _));have h2:=a4 i;omega
  refine Ab Z (Ak Z (z:=1) (j:=j) (r:=j) J Z Z Z U a0 U) (Ab Z (Ay Z Z J (Az a0)) (Zc 4 Z ?_));replace H:=H.f2.f2;refine AQ (Sep z (stB ps pd l x lp md un mo::AI md (es.map PgE.ie) clk::R)) 18 Z J (A4 H λw g=>?_);have H:=g.l7;refine AT [0,1,2,3,4,5,6,7,8,9] [1,0,0,10,0,0] [] (by exact H.pick 7 [0,1] Z) Z J Z (BM 10 Z J J J Z Z Z (FP (e:=104) (zv:=.agg #[I 0,.slice none 0 0]) Z J J Z Z (λ_ hx=>hx.bk 1 Z)) (H.pick 7 [0,1] Z) (AB 30 (v:=.agg #[I p.kind,pv]) Z (by rw[b2];rfl) (BM 11 Z J J J Z Z Z (Bg Z Z (out:=[I (n:Int),I p.kind,pv]) J) (H.pick 7 [0,1] Z) (AE [12] J O (Am (Bt Z Z Z Z Z Z (λw=>call158 _ w) (MF p.body (λh q=>by rw[b.2];exact a6.le q)) H.f6.f5 Z ?_))))));rintro _ w _ (⟨k,rfl,rfl⟩|⟨_,pw,rfl,rfl⟩) g
  ·exact absurd ⟨⟨by omega,by omega⟩,b.1,b.2⟩ k
  have H:=g.l8;refine Ax (H.pick 8 [3,4] Z) (AT [13,14,15,16,17] [] [] (by exact H.pick 8 [3,4] Z) Z J Z (a_done J (gn (Z3 20 [4,0,3,0] [(2:Int)+(n:Int)] H Z U (Ar Z (call91 _) (Ki (Ek n p) (FT b) (λh q=>HN (lo:=0) (n:=256) (c:=256) (ys:=Ek n p) q (FT b) U U U (by rw[Aew];exact Ael (Agk (FT b)))) a2 (by rw[Fb];omega)) H.f7 ?_)))));rintro _ w _ (⟨k,rfl,rfl⟩|⟨k,rfl,rfl⟩) g
  ·have H:=g.l8;refine Z0 17 [3] Z (Zr Z ?_);replace H:=(H.toPgs 5 Z t).l8
   exact ⟨_,⟨a,m,.inr ⟨_,_,by decide,.inl ⟨j,k,Z,Z⟩,Z,Z⟩⟩,H.perm 8 [4,2,0,5,3] Z Z⟩
  have H:=g.l8;refine Z1 17 [4] [(j:Int)+1] Z U ?_;replace H:=H.f1.d.f2.f1.f2.f6.f5.f5.f6;refine gf ?_;intro _ hF;refine ⟨(j+1),hF.cz,⟨(by rw[<-YX (VG hx a8)];exact H),?_⟩,?_⟩
  ·omega
  omega
 obtain rfl:j=a.length:=by omega
 refine Zc 2 Z (gx (Zc 4 Z ?_));have b3:(pgLst f a).take a.length=pgLst f a:=Ael (by simp only[pgLst,Aeh];omega);rw[b3] at H;have H:Sep z (grow 3 1 (.slice s a.length c3) a.length (a.map I)::stB ps pd l x lp md un mo::AI md (es.map PgE.ie) clk::blk b1 [I y.gen,I y.epoch,I y.pages,I y.start,I y.len,I y.head,I y.seq] 132::tblA l::diskA pd (hwD D (pgLst f a))::poolA hq::R) w:=H;refine Z2 5 [0,1,0] H Z (Ar Z (call92 _) (HR) H.f5 ?_);rintro _ w _ (⟨a1,rfl,rfl⟩|⟨a1,rfl,rfl⟩) g
 ·have H:=g.l7;refine Z0 17 [3] Z (Zr Z ?_);replace H:=(H.toPgs 3 Z t).l7
  exact ⟨_,⟨a,m,.inr ⟨_,_,by decide,.inr (.inl ⟨a1,Z,Z⟩),Z,Z⟩⟩,H.perm 7 [2,5,0,3,6] Z Z⟩
 have H:=g.l7;refine Z0 14 [4] Z ?_;replace H:=H.f4.f3;refine AQ (Sep z (stB ps pd l x lp md un mo::blk b1 [I y.gen,I y.epoch,I y.pages,I y.start,I y.len,I y.head,I y.seq] 132::R)) 11 Z J (A4 H λw g=>?_);have H:=g.l7;refine AT [0,1,2,3,4,5,6,7,8] [0,0,0,1,0,0,1,7] [] (by exact H.pick 7 [0,1] Z) Z J Z (AE [9] J O (Am (Bt Z Z Z Z Z Z (λw=>call94 _ w) (Ow y (by show y.Ok ((hwD D (pgLst f a)).n:Int);rw[Fb];exact a3) (λi=>by show ([]:List (List UInt8)).length<=_;simp)) H.f5.f3 Z ?_)));rintro _ w _ (⟨a5,rfl,rfl⟩|⟨a5,rfl,rfl⟩) g
 ·have H:=g.l7;refine Ax (H.pick 7 [2,3] Z) (AT [10] [] [] (by exact H.pick 7 [2,3] Z) Z J Z (a_done J (gn (Z0 15 [3] Z (Zr Z ?_)))));replace H:=(H.toPgs 5 Z t).l7
  exact ⟨_,⟨a,m,.inr ⟨_,_,by decide,.inr (.inr ⟨a5,Z,Z⟩),Z,Z⟩⟩,H.perm 7 [2,1,0,5,6] Z Z⟩
 have H:=g.l7;refine Ax (H.pick 7 [2,3] Z) (AT [10] [] [] (by exact H.pick 7 [2,3] Z) Z J Z (a_done J (gn (Z4 25 [4,3,7,2,2,10,2,0] H Z ?_))));intro w H;refine KH Z Z (Jq 5 (e:=104) H Z Z J Z) ?_;rintro _ w ⟨rfl,H⟩;refine Zc 8 Z (Zr Z ?_);replace H:=(H.toPgs 5 Z (PgsIn.none hq clk)).l7;exact ⟨_,⟨a,m,.inl ⟨Z,Z⟩⟩,H.perm 7 [2,1,0,5,6] Z Z⟩
theorem YY(ps pd a md:Nat)(x:Sup):Aj 106 [Y ps] [stB ps pd a x u md b y] (λv G=>v=.tuple #[]/\G=[stB ps pd a x u md false (.map none)]):=by
 intro z R w H;refine Ae func106 Z ntmps106 Z (Z4 10 [11,0,12,0] H Z ?_);intro w H;refine Zf Z ?_;exact ⟨_,⟨Z,Z⟩,H⟩
theorem YZ(ps pd a md:Nat)(x:Sup):Aj 53 [Y ps] [stB ps pd a x u md false y] (λv G=>v=I 0/\∃m,G=[stB ps pd a x u md true (.map (some m)),AI m [] 0]):=by
 intro z R w H;refine Ae func53 Z ntmps53 Z (Z4 28 [11,0,0,11,0] H Z ?_);intro w H;refine AP Z (Ga H Z) ?_;rintro _ w ⟨b,rfl,H⟩;refine Z4 11 [12,1] H Z ?_;intro w H;refine Zr Z ?_;exact ⟨_,⟨Z,b,Z⟩,H.perm 2 [1,0] Z Z⟩
theorem Qu(ps pd a md:Nat)(x:Sup):Aj 109 [Y ps] [stB ps pd a x u md b y] (λv G=>v=.agg #[I x.gen,I x.epoch,I x.pages,I x.start,I x.len,I x.head,I x.seq]/\G=[stB ps pd a x u md b y]):=by
 intro z R w H;refine Ae func109 Z ntmps109 Z (Za 2 [] H Z ?_);intro c w H;refine Z4 12 [2,1,7,0] H Z ?_;intro w H;refine Zl [0,7] H Z ?_;exact ⟨_,⟨Z,Z⟩,H.perm 2 [1] Z Z⟩
theorem GW(p:Pg)(g:Value)(d:∀h,A h->rdH 1 g 240 (p.body.map u8) h)(hp:p.Ok):Aj 103 [.agg #[I p.kind,g]] [A] (λv G=>∃e,v=.agg #[I p.kind,e]/\G=[grow 5 1 e 240 (p.body.map u8),A]):=by
 intro z R w H;replace H:=H.l1;obtain ⟨b,o,c,rfl⟩:=H.sy 0 (λq=>(d _ q).sl (by simp[hp.2]));have i:=d;refine Ae func103 Z ntmps103 Z (Za 2 [] H Z ?_);intro f w H;refine Za 0 [] H Z ?_;intro k w H;refine Zc 3 Z ?_;replace H:=H.f1.f2;refine AQ (Sep z (A::blk f [I p.kind,.slice (some ⟨b,o,none⟩) 240 c] 104::R)) 7 Z J (A4 H λw j=>?_);have H:=j.l3;refine AT [0,1,2,3] [0,1,0,1,1,0] [] (by exact H.pick 3 [0,1] Z) Z J Z (AE [4] J O (Am (Bt Z Z Z Z Z Z (λw=>call159 _ w) (Vo 240 p.body i U) H Z ?_)));rintro e w _ ⟨_,rfl,rfl⟩ H;replace H:=H.l4;obtain ⟨a,c1,rfl⟩:=H.sy 0 (·.slc);have H:Sep z (grow 5 1 (.slice a 240 c1) 240 (p.body.map u8)::A::blk f [I p.kind,.slice (some ⟨b,o,none⟩) 240 c] 104::blk k [I 0,.slice none 0 0] 104::R) w:=H;refine Ax (H.pick 4 [1,2] Z) (AT [5] [] [] (by exact H.pick 4 [1,2] Z) Z J Z (AE [6] J O (Am (Bj Z Z Z (Al 3 H Z Z Z Z (vs:=[I p.kind,.slice a 240 c1]) Z (by simp[u8,u32,Value.oneCell']) J O (out:=[I p.kind,.slice a 240 c1]) Z) ?_))));rintro w H;replace H:=H.l4;refine Ax (H.pick 4 [1,2] Z) (a_done J (gn (Zc 2 Z (Zl [3,2] H Z ?_))));exact ⟨_,⟨_,Z,Z⟩,H.perm 4 [0,1] Z Z⟩
set_option maxHeartbeats 2000000 in
theorem VJ (ps pd l md:Nat) (x:Sup) (f:BF) (hq:Hp) (D:Dsk) (n:Nat) (hn:(n:Int)<x.pages) (m:D.f1=0) (a0:x.Ok (D.n:Int)) (q j:Pg) (k:q=(f n).getD j) (hB:f n=none->HomeP (D.cont (2+n)) n j):Aj 85 [Y ps,I (n:Int)] [stB ps pd l x u md b (.map none),tblA l,diskA pd D,pgsA md f hq,poolA hq] (λv G=>(q=noPg/\v=.tuple #[.agg #[I 0,.slice none 0 0],I 0]/\G=[stB ps pd l x u md b (.map none),tblA l,diskA pd D,pgsA md f hq,poolA hq])\/(q.Ok/\∃d,v=.tuple #[.agg #[I q.kind,d],I 0]/\G=[grow 5 1 d 240 (q.body.map u8),stB ps pd l x u md b (.map none),tblA l,diskA pd D,pgsA md f hq,poolA hq])):=by
 intro z R w H;replace H:=H.l5;have a3:=a0.2;obtain ⟨es,clk,i,H⟩:=H.pgs 3 Z;replace H:=H.l5;refine Ae func85 Z ntmps85 Z (Za 2 [] H Z ?_);intro b1 w H;refine Z0 9 [0] Z (An 16 Z (λh1=>U) (λh1=>?_));refine Z2 10 [2,4,1,0,0] H Z (Af Z (λh2=>U) (λh2=>?_));refine Z2 10 [12,1,0] H Z (Ab Z (Rv (e:=104) (zv:=.agg #[I 0,.slice none 0 0]) Z J J Z Z) (Za 3 [] H Z ?_));intro b2 w H;refine Z4 20 [0,10,2,0] H Z ?_;intro w H;rcases i.get n with ⟨hf,hg⟩|⟨p,s,hf,c,o,hg⟩
 ·refine Ab Z (DK (e:=104) (zv:=.agg #[I 0,.slice none 0 0]) Z J J Z Z (Az (H.bk 5 Z))) (AB 44 (v:=.tuple #[.agg #[I 0,.slice none 0 0],.bool false]) Z (by simp[CQ,hg]) (Za 3 [] H Z ?_));intro b3 w H;refine Z5 20 [0,0,3,0] [(2:Int)+(n:Int)] H Z U ?_;intro w H;refine Ar Z (call143 _) (I3) H.f5 ?_;rintro _ w _ (⟨t,_,_⟩|⟨_,t,_,_⟩|⟨_,_,gb,a4,rest,rfl,⟨cg,cc,cl⟩,rfl⟩) H'
  ·exact absurd ⟨by omega,by omega⟩ t
  ·(rw[m] at t;cases t)
  rw[diskA.f1 m,show ((2:Int)+(n:Int)).toNat=2+n from by omega] at H';have H:=H'.l9;refine Z2 25 [4,1,5,0] H Z ?_;rcases hB (by simp_all) with ⟨hz,rfl⟩|⟨a,r⟩
  ·refine z_E_ Z (call144 _) (Le (D.cont (2+n)) (λh q=>EH q (by rw[hz];first|rfl|exact FT a) ⟨cg,cc,cl⟩) n hz) H.f6 ?_;intro w H;refine Za 3 [] H Z ?_;intro b4 w H;refine Z4 22 [0,0,2,6] H Z ?_;intro w H;refine Zl [6,2] H Z ?_;replace H:=(H.toPgs 8 Z i).l10
   exact ⟨_,.inl ⟨by first|(rw[k];simp_all;done)|(simp_all;done),rfl,rfl⟩,H.perm 10 [7,1,3,8,9] rfl rfl⟩
  refine Ar Z (call144 _) (MJ (D.cont (2+n)) (λh q=>EH q (by rw[r];first|rfl|exact FT a) ⟨cg,cc,cl⟩) n j a U r) H.f6 ?_;rintro _ w _ ⟨d,rfl,rfl⟩ H;replace H:=H.l10;have g:=H.sy 0 (·.slc);refine Za 3 [] H Z ?_;intro b5 w H;refine AC Z Z (Al 0 H Z Z Z Z (vs:=[I j.kind,d]) Z (Ad Z (Ad g.one Aw)) J O (out:=[I j.kind,d]) Z) ?_;rintro w H;replace H:=H.l11;refine Z2 16 [0,2] H Z (AC Z Z (Al 7 H Z Z Z Z (vs:=[I j.kind,d]) Z (Ad Z (Ad g.one Aw)) J O (out:=[I j.kind,d]) Z) ?_);rintro w H;replace H:=H.l11;refine Zc 4 Z (Zl [7,2] H Z ?_);replace H:=(H.toPgs 9 Z i).l11;obtain rfl:q=j:=by rw[k];simp_all
  exact ⟨_,.inr ⟨by first|exact c|exact hpoko|exact a,_,rfl,rfl⟩,H.perm 11 [1,8,2,4,9,10] rfl rfl⟩
 have a2:=c.1;have y:Slc s 240:=o.slc;refine Ab Z (DK (e:=104) (zv:=.agg #[I 0,.slice none 0 0]) Z J J Z Z (Az (H.bk 5 Z))) (AB 44 (v:=.tuple #[.agg #[I p.kind,s],.bool true]) Z (by simp[CQ,hg]) (Za 3 [] H Z ?_));intro b6 w H;refine AC Z Z (Al 0 H Z Z Z Z (vs:=[I p.kind,s]) Z (Ad Z (Ad y.one Aw)) J O (out:=[I p.kind,s]) Z) ?_;rintro w H;replace H:=H.l8;refine Z2 12 [0,2] H Z (Ar Z (call103 _) (GW p s (λh q=>o.le q) c) H.f7 ?_);rintro _ w _ ⟨d,rfl,rfl⟩ H;replace H:=H.l9;have g:=H.sy 0 (·.slc);refine AC Z Z (Al 4 H Z Z Z Z (vs:=[I p.kind,d]) Z (Ad Z (Ad g.one Aw)) J O (out:=[I p.kind,d]) Z) ?_;rintro w H;replace H:=H.l9;refine Zc 4 Z (Zl [4,2] H Z ?_);replace H:=(H.toPgs 8 Z i).l9;obtain rfl:q=p:=by rw[k];simp_all
 exact ⟨_,.inr ⟨by first|exact c|exact hpoko|exact a,_,rfl,rfl⟩,H.perm 9 [0,5,6,7,8,1] rfl rfl⟩
set_option maxHeartbeats 2000000 in
theorem VK (ps pd pt md mo:Nat) (x:Sup) (f g:BF) (k:Nat) (hq:Hp) (D:Dsk) (n:Nat) (hn:(n:Int)<x.pages) (a1:D.f1=0) (a6:x.Ok (D.n:Int)) (q y:Pg) (s:q=((g n).or (f n)).getD y) (hB:(g n).or (f n)=none->HomeP (D.cont (2+n)) n y):Aj 85 [Y ps,I (n:Int)] [stB ps pd pt x u md b (.map (some mo)),tblA pt,diskA pd D,pgsA md f hq,Ew mo g k hq,poolA hq] (λv G=>(q=noPg/\v=.tuple #[.agg #[I 0,.slice none 0 0],I 0]/\G=[stB ps pd pt x u md b (.map (some mo)),tblA pt,diskA pd D,pgsA md f hq,Ew mo g k hq,poolA hq])\/(q.Ok/\∃l,v=.tuple #[.agg #[I q.kind,l],I 0]/\G=[grow 5 1 l 240 (q.body.map u8),stB ps pd pt x u md b (.map (some mo)),tblA pt,diskA pd D,pgsA md f hq,Ew mo g k hq,poolA hq])):=by
 intro z R w H;replace H:=H.l6;have c0:=a6.2;obtain ⟨es,clk,r,H⟩:=H.pgs 3 Z;replace H:=H.l6;obtain ⟨c2,a9,i,j,H⟩:=H.pgsc 4 Z;replace H:=H.l6;refine Ae func85 Z ntmps85 Z (Za 2 [] H Z ?_);intro b1 w H;refine Z0 9 [0] Z (An 16 Z (λh1=>U) (λh1=>?_));refine Z2 10 [2,4,1,0,0] H Z (Af Z (λh2=>U) (λh2=>?_));refine Z2 10 [12,1,0] H Z ?_;rcases i.get n with ⟨a7,a0⟩|⟨po,o,a7,a,t,a0⟩
 ·refine Ab Z (DK (e:=104) (zv:=.agg #[I 0,.slice none 0 0]) Z J J Z Z (Az (H.bk 5 Z))) (AB 32 (v:=.tuple #[.agg #[I 0,.slice none 0 0],.bool false]) Z (by simp[CQ,a0]) (Za 3 [] H Z ?_));intro b2 w H;refine Z4 20 [0,10,2,0] H Z ?_;intro w H;rcases r.get n with ⟨hf,hg⟩|⟨p,pv,hf,d,a3,hg⟩
  ·refine Ab Z (DK (e:=104) (zv:=.agg #[I 0,.slice none 0 0]) Z J J Z Z (Az (H.bk 5 Z))) (AB 44 (v:=.tuple #[.agg #[I 0,.slice none 0 0],.bool false]) Z (by simp[CQ,hg]) (Za 3 [] H Z ?_));intro b3 w H;refine Z5 20 [0,0,3,0] [(2:Int)+(n:Int)] H Z U ?_;intro w H;refine Ar Z (call143 _) (I3) H.f5 ?_;rintro _ w _ (⟨hx,_,_⟩|⟨_,hx,_,_⟩|⟨_,_,gb,c1,rest,rfl,⟨cg,cc,cl⟩,rfl⟩) H'
   ·exact absurd ⟨by omega,by omega⟩ hx
   ·(rw[a1] at hx;cases hx)
   rw[diskA.f1 a1,show ((2:Int)+(n:Int)).toNat=2+n from by omega] at H';have H:=H'.l10;refine Z2 25 [4,1,5,0] H Z ?_;rcases hB (by simp_all) with ⟨hz,rfl⟩|⟨c,a4⟩
   ·refine z_E_ Z (call144 _) (Le (D.cont (2+n)) (λh q=>EH q (by rw[hz];first|rfl|exact FT c) ⟨cg,cc,cl⟩) n hz) H.f6 ?_;intro w H;refine Za 3 [] H Z ?_;intro b4 w H;refine Z4 22 [0,0,2,6] H Z ?_;intro w H;refine Zl [6,2] H Z ?_;replace H:=(H.toPgs 8 Z r).l11
    replace H:=(H.toPgsc 9 Z i j).l11;exact ⟨_,.inl ⟨by first|(rw[s];simp_all;done)|(simp_all;done),rfl,rfl⟩,H.perm 11 [7,1,3,8,9,10] rfl rfl⟩
   refine Ar Z (call144 _) (MJ (D.cont (2+n)) (λh q=>EH q (by rw[a4];first|rfl|exact FT c) ⟨cg,cc,cl⟩) n y c U a4) H.f6 ?_;rintro _ w _ ⟨l,rfl,rfl⟩ H;replace H:=H.l11;have m:=H.sy 0 (·.slc);refine Za 3 [] H Z ?_;intro b5 w H;refine AC Z Z (Al 0 H Z Z Z Z (vs:=[I y.kind,l]) Z (Ad Z (Ad m.one Aw)) J O (out:=[I y.kind,l]) Z) ?_;rintro w H;replace H:=H.l12;refine Z2 16 [0,2] H Z (AC Z Z (Al 7 H Z Z Z Z (vs:=[I y.kind,l]) Z (Ad Z (Ad m.one Aw)) J O (out:=[I y.kind,l]) Z) ?_);rintro w H;replace H:=H.l12;refine Zc 4 Z (Zl [7,2] H Z ?_);replace H:=(H.toPgs 9 Z r).l12;replace H:=(H.toPgsc 10 Z i j).l12;obtain rfl:q=y:=by rw[s];simp_all
   exact ⟨_,.inr ⟨by first|exact d|exact a|exact c,_,rfl,rfl⟩,H.perm 12 [1,8,2,4,9,10,11] rfl rfl⟩
  have b9:=d.1;have a5:Slc pv 240:=a3.slc;refine Ab Z (DK (e:=104) (zv:=.agg #[I 0,.slice none 0 0]) Z J J Z Z (Az (H.bk 5 Z))) (AB 44 (v:=.tuple #[.agg #[I p.kind,pv],.bool true]) Z (by simp[CQ,hg]) (Za 3 [] H Z ?_));intro b6 w H;refine AC Z Z (Al 0 H Z Z Z Z (vs:=[I p.kind,pv]) Z (Ad Z (Ad a5.one Aw)) J O (out:=[I p.kind,pv]) Z) ?_;rintro w H;replace H:=H.l9;refine Z2 12 [0,2] H Z (Ar Z (call103 _) (GW p pv (λh q=>a3.le q) d) H.f8 ?_);rintro _ w _ ⟨l,rfl,rfl⟩ H;replace H:=H.l10;have m:=H.sy 0 (·.slc);refine AC Z Z (Al 4 H Z Z Z Z (vs:=[I p.kind,l]) Z (Ad Z (Ad m.one Aw)) J O (out:=[I p.kind,l]) Z) ?_;rintro w H;replace H:=H.l10;refine Zc 4 Z (Zl [4,2] H Z ?_);replace H:=(H.toPgs 8 Z r).l10;replace H:=(H.toPgsc 9 Z i j).l10;obtain rfl:q=p:=by rw[s];simp_all
  exact ⟨_,.inr ⟨by first|exact d|exact a|exact c,_,rfl,rfl⟩,H.perm 10 [0,5,6,7,8,9,1] rfl rfl⟩
 have b8:=a.1;have a2:Slc o 240:=t.slc;refine Ab Z (DK (e:=104) (zv:=.agg #[I 0,.slice none 0 0]) Z J J Z Z (Az (H.bk 5 Z))) (AB 32 (v:=.tuple #[.agg #[I po.kind,o],.bool true]) Z (by simp[CQ,a0]) (Za 3 [] H Z ?_));intro b7 w H;refine AC Z Z (Al 0 H Z Z Z Z (vs:=[I po.kind,o]) Z (Ad Z (Ad a2.one Aw)) J O (out:=[I po.kind,o]) Z) ?_;rintro w H;replace H:=H.l8;refine Z2 12 [0,2] H Z (Ar Z (call103 _) (GW po o (λh q=>t.le q) a) H.f7 ?_);rintro _ w _ ⟨l,rfl,rfl⟩ H;replace H:=H.l9;have m:=H.sy 0 (·.slc);refine AC Z Z (Al 3 H Z Z Z Z (vs:=[I po.kind,l]) Z (Ad Z (Ad m.one Aw)) J O (out:=[I po.kind,l]) Z) ?_;rintro w H;replace H:=H.l9;refine Zc 4 Z (Zl [3,2] H Z ?_);replace H:=(H.toPgs 7 Z r).l9;replace H:=(H.toPgsc 8 Z i j).l9;obtain rfl:q=po:=by rw[s];simp_all
 exact ⟨_,.inr ⟨by first|exact d|exact a|exact c,_,rfl,rfl⟩,H.perm 9 [0,4,5,6,7,8,1] rfl rfl⟩
set_option maxHeartbeats 2000000 in
theorem VL (ps pd pt md f:Nat) (x:Sup) (g:BF) (k:Nat) (hq:Hp) (n:Nat) (hn:(n:Int)<x.pages) (p:Pg) (hp:p.Ok) (bv:Value) (A:Ai) (hA:∀h,A h->rdH 1 bv 240 (p.body.map u8) h):Aj 55 [Y ps,I (n:Int),.agg #[I p.kind,bv]] [stB ps pd pt x u md true (.map (some f)),Ew f g k hq,poolA hq,A] (λv G=>((g n=none/\40<=k)/\v=I 16/\G=[stB ps pd pt x u md true (.map (some f)),Ew f g k hq,poolA hq,A])\/(¬(g n=none/\40<=k)/\∃a,CK hq a/\v=I 0/\G=[stB ps pd pt x u md true (.map (some f)),Ew f (pgSet g n p) (k+(if (g n).isSome then 0 else 1)) a,poolA a,A])):=by
 intro z R w H;replace H:=H.l4;obtain ⟨y,o,c,d,H⟩:=H.pgsc 1 Z;replace H:=H.l4;obtain ⟨bb,oo,cc,rfl⟩:=H.sy 3 (λq=>(hA _ q).sl (by simp[hp.2]));have a5:=hp.1;have a6:(y.map PgE.ie).length=k:=by simp[d]
 refine Ae func55 Z ntmps55 Z (Za 2 [] H Z ?_);intro b1 w H;refine Z2 10 [12,1,0] H Z ?_;rcases c.get n with ⟨m,r⟩|⟨po,i,m,s,a2,r⟩
 ·refine Ab Z (DK (e:=104) (zv:=.agg #[I 0,.slice none 0 0]) Z J J Z Z (Az (H.bk 2 Z))) (AB 15 (v:=.tuple #[.agg #[I 0,.slice none 0 0],.bool false]) Z (by simp[CQ,r]) (Za 3 [] H Z ?_));intro b2 w H;refine Z4 22 [0,11,2,0,0] H Z ?_;intro w H;refine An 27 Z (λh1=>U) (λh1=>?_)
  refine Z2 11 [2,4,2,0,0] H Z (Af Z (λh2=>U) (λh2=>?_));refine Z2 6 [0,1,0,0] H Z (An 40 Z (λh3=>U) (λh3=>?_));refine Z2 5 [0,1,0,0] H Z (An 45 Z (λh4=>U) (λh4=>?_));refine Z2 18 [1,1,0,4,12,2,0] H Z (Ab Z (NW (e:=104) Z J Z (Az (H.bk 3 Z))) (Z0 5 [0] Z (Af Z (λh5=>?_) (λh5=>?_))))
  ·refine Zc 6 Z (Zr Z ?_);replace H:=(H.toPgsc 3 Z c d).l6
   exact ⟨_,.inl ⟨⟨m,by omega⟩,Z,Z⟩,H.perm 6 [2,3,4,5] Z Z⟩
  refine Zc 4 Z ?_;replace H:=H.f1.f2;refine AQ (Sep z (stB ps pd pt x u md true (.map (some f))::blk b1 [I p.kind,.slice (some ⟨bb,oo,none⟩) 240 cc] 104::R)) 8 Z J (A4 H λw H'=>?_);have H:=H'.l6;refine AT [0,1,2,3,4,5] [12,0,0,1,2] [] (by exact H.pick 6 [0,1] Z) Z J Z (AE [6] J O (Am (Bt Z Z Z Z Z Z (λw=>call103 _ w) (GW p _ hA hp) H.f5 Z ?_)));rintro _ w _ ⟨v1,rfl,rfl⟩ H;replace H:=H.l7;refine Ax (H.pick 7 [2,3] Z) (AE [7] J O (Am (Bj Z Z Z (DP 5 (e:=104) H Z Z J Z Z Z) ?_)));rintro w H;replace H:=H.l7;refine Ax (H.pick 7 [2,3] Z) (a_done J (gn (Zc 7 Z (Zr Z ?_))));replace H:=H.f6;obtain ⟨a,⟨b,j⟩,H⟩:=DX H (λh q=>q.rd);replace H:=H.l6;obtain ⟨es2,t,l,a0⟩:=(c.le b).put (k:=n) (p:=p) hp j;rw[t] at H;have H:Sep z (poolA a::A::stB ps pd pt x u md true (.map (some f))::blk b1 [I p.kind,.slice (some ⟨bb,oo,none⟩) 240 cc] 104::blk b2 [I 0,.slice none 0 0] 104::AI f (es2.map PgE.ie) (putC (y.map PgE.ie) (n:Int) o)::R) w:=H;replace H:=(H.toPgsc 5 Z l (by rw[a0,d])).l6;exact ⟨_,.inr ⟨λq=>by first|(rw[m] at q;cases q.1;done)|omega,a,b,rfl,rfl⟩,H.perm 6 [2,5,0,1] rfl rfl⟩
 have a1:Slc i 240:=a2.slc;refine Ab Z (DK (e:=104) (zv:=.agg #[I 0,.slice none 0 0]) Z J J Z Z (Az (H.bk 2 Z))) (AB 15 (v:=.tuple #[.agg #[I po.kind,i],.bool true]) Z (by simp[CQ,r]) (Za 3 [] H Z ?_));intro b3 w H;refine AC Z Z (Al 0 H Z Z Z Z (vs:=[I po.kind,i]) Z (Ad Z (Ad a1.one Aw)) J O (out:=[I po.kind,i]) Z) ?_;rintro w H;replace H:=H.l6;refine Z2 21 [11,2,0,0] H Z (An 27 Z (λh6=>U) (λh6=>?_));refine Z2 11 [2,4,2,0,0] H Z (Af Z (λh7=>U) (λh7=>?_));refine Z2 6 [0,1,0,0] H Z (An 40 Z (λh8=>U) (λh8=>?_));refine Z2 5 [0,1,0,0] H Z (An 45 Z (λh9=>U) (λh9=>?_));refine Z2 29 [1,1,0,4] H Z ?_;replace H:=H.f1.f2;refine AQ (Sep z (stB ps pd pt x u md true (.map (some f))::blk b1 [I p.kind,.slice (some ⟨bb,oo,none⟩) 240 cc] 104::R)) 8 Z J (A4 H λw H'=>?_);have H:=H'.l6;refine AT [0,1,2,3,4,5] [12,0,0,1,2] [] (by exact H.pick 6 [0,1] Z) Z J Z (AE [6] J O (Am (Bt Z Z Z Z Z Z (λw=>call103 _ w) (GW p _ hA hp) H.f5 Z ?_)));rintro _ w _ ⟨v1,rfl,rfl⟩ H;replace H:=H.l7;refine Ax (H.pick 7 [2,3] Z) (AE [7] J O (Am (Bj Z Z Z (DP 5 (e:=104) H Z Z J Z Z Z) ?_)));rintro w H;replace H:=H.l7;refine Ax (H.pick 7 [2,3] Z) (a_done J (gn (Zc 7 Z (Zr Z ?_))));replace H:=H.f6;obtain ⟨a,⟨b,j⟩,H⟩:=DX H (λh q=>q.rd);replace H:=H.l6;obtain ⟨es2,t,l,a0⟩:=(c.le b).put (k:=n) (p:=p) hp j;rw[t] at H;have H:Sep z (poolA a::A::stB ps pd pt x u md true (.map (some f))::blk b1 [I p.kind,.slice (some ⟨bb,oo,none⟩) 240 cc] 104::blk b3 [I po.kind,i] 104::AI f (es2.map PgE.ie) (putC (y.map PgE.ie) (n:Int) o)::R) w:=H;replace H:=(H.toPgsc 5 Z l (by rw[a0,d])).l6;exact ⟨_,.inr ⟨λq=>by first|(rw[m] at q;cases q.1;done)|omega,a,b,rfl,rfl⟩,H.perm 6 [2,5,0,1] rfl rfl⟩
section
theorem JD{s:Sup}(hs:SOk s)(x:Int):s.start<=(ringAt s x:Int)/\(ringAt s x:Int)<s.start+s.len:=by
 have d:=hs.start;have a:=hs.head;have b:=Agn x (by omega:s.len≠0);have c:=Af5 x (by omega:0<s.len);unfold ringAt;omega
def Oy(s:Sup)(D D':Dsk):Prop:=∀i:Nat,s.start<=(i:Int)->(i:Int)<s.start+s.len->D'.dur i=D.dur i/\D'.ver i=D.ver i
def SameOut(s:Sup)(D D':Dsk):Prop:=∀i:Nat,¬(s.start<=(i:Int)/\(i:Int)<s.start+s.len)->D'.dur i=D.dur i/\D'.ver i=D.ver i
theorem PInv.out{D D':Dsk}{s:Sup}{rs:List Rc}{f:List (List UInt8)}{a q u:Int}{b:Bool}{sure:Nat}(h:PInv D s rs f a q u b sure)(hs:SOk s)(g:Oy s D D'):PInv D' s rs f a q u b sure:=by
 have e:∀x:Int,D'.dur (ringAt s x)=D.dur (ringAt s x)/\D'.ver (ringAt s x)=D.ver (ringAt s x):=λx=>g _ (JD hs x).1 (JD hs x).2;refine ⟨h.fa,h.fq,h.fu,h.ul,h.pb,h.part,h.recs,λi hi c d=>h.old i hi c ?_,λi c d=>?_,λi c d=>?_,h.sure⟩
 ·unfold Dp at d ⊢;rwa[(e _).1,(e _).2] at d
 ·have:=h.last i c d
  unfold Dsk.cont at this ⊢;rw[(e _).1,(e _).2];exact this
 rw[(e _).1,(e _).2];exact h.dura i c d
theorem RL{f:BF}{ims:List Img}(h:(f n).isSome=true):(EM f ims n).isSome=true:=by rw[Qj,h];rfl
theorem Gm(a:List Rc):∀(rs:List Rc) {n:Nat},(ov rs n).isSome=true->(ov (rs++a) n).isSome=true:=by
 induction a with
 | nil=>intro rs n h;rwa[AeY]
 | cons r a ih=>
  intro rs n h;rw[show rs++r::a=(rs++[r])++a from by simp];exact ih _ (by rw[Jw];exact RL h)
theorem HT{rs:List Rc}(h:(ov (rs.take m) n).isSome=true):(ov rs n).isSome=true:=by
 have:=Gm (rs.drop m) _ h;rwa[AeP] at this
structure Clean(D:Dsk):Prop where
 f1:D.f1=0
 f2:D.f2=0
 f3:D.f3=0
 cut:D.cut=false
theorem Clean.bad{D:Dsk}(h:Clean D):¬D.bad:=by
 rintro (g|⟨g,_⟩)
 ·rw[h.f2] at g;cases g
 rw[h.cut] at g;cases g
theorem Clean.flb{D:Dsk}(h:Clean D):¬D.flb:=by
 rintro (g|⟨g,_⟩)
 ·rw[h.f3] at g;cases g
 rw[h.cut] at g;cases g
theorem Clean.wr1{D:Dsk}(h:Clean D)(b:Bool)(x:Nat)(p:List UInt8):Clean (wr1 D b x p):=by
 have a:=Dsk.ws_f b [p] {D with f2:=Bi D.f2} x;refine ⟨a.1.trans h.f1,a.2.1.trans ?_,a.2.2.1.trans h.f3,a.2.2.2.1.trans h.cut⟩;show Bi D.f2=0;rw[h.f2];rfl
theorem Clean.wr{D:Dsk}(h:Clean D)(x:Nat)(ps:List (List UInt8)):Clean (D.wr x ps):=by
 have a:=Dsk.ws_f false ps {D with f2:=Bi D.f2} x;refine ⟨a.1.trans h.f1,a.2.1.trans ?_,a.2.2.1.trans h.f3,a.2.2.2.1.trans h.cut⟩;show Bi D.f2=0;rw[h.f2];rfl
theorem Clean.hw(l:List (Nat×Pg)):∀{D:Dsk},Clean D->Clean (hwD D l):=by
 induction l with
 | nil=>intro D h;exact h
 | cons x l ih=>intro D h;rw[hwD_cons];exact ih (h.wr _ _)
theorem Clean.fl{D:Dsk}(h:Clean D):Clean D.fl:=⟨h.f1,h.f2,by show Bi D.f3=0;rw[h.f3];rfl,h.cut⟩
theorem Clean.sv{D:Dsk}(h:Clean D)(x:Sup):Clean (Fk D x):=h.wr1 true _ _
theorem Clean.setF{D:Dsk}(h:Clean D){l:List (Nat×Pg)}{c:Int}{a:Dsk}:¬LX D l c a:=by
 rintro (⟨j,g,_⟩|⟨g,_⟩|⟨g,_⟩)
 ·exact (h.hw _).bad g
 ·exact (h.hw _).flb g
 exact (h.hw _).fl.bad g

structure SInv(D:Dsk)(x:Sup)(B:Nat->Pg)(rs:List Rc)(ptl:List (List UInt8))(a q u:Int)(b:Bool)(sure:Nat):Prop where
 ok:x.Ok (D.n:Int)
 p:PInv D x rs ptl a q u b sure
 s:SOk x
 gen:1<=x.gen
 num:∀r∈rs,∀m∈r.ims,m.num<x.pages
 home:∀i:Nat,(i:Int)<x.pages->∀c,Dp D (2+i) c->HomeP c i (B i)\/((ov (rs.take sure) i).isSome=true/\∃p,HomeP c i p)
 sup:D.dur (x.gen%2).toNat=DE x/\D.ver (x.gen%2).toNat=[]
 oth:∃y:Sup,y.Ok (D.n:Int)/\y.gen=x.gen-1/\D.dur ((x.gen+1)%2).toNat=DE y/\D.ver ((x.gen+1)%2).toNat=[]
 rest:∀i:Nat,2+x.pages<=(i:Int)->¬(x.start<=(i:Int)/\(i:Int)<x.start+x.len)->∀c,Dp D i c->∀e q,Tg c e q->e<=x.epoch
variable{D D':Dsk}{x:Sup}{B:Nat->Pg}{rs:List Rc}{ptl:List (List UInt8)}{a q u:Int}{b:Bool}{sure:Nat}
theorem SInv.cur(h:SInv D x B rs ptl a q u b sure)(hi:(i:Int)<x.pages)(c:ov rs i=none):HomeP (D.cont (2+i)) i (B i):=by
 rcases h.home i hi _ (cont_has D _) with g|⟨g,_⟩
 ·exact g
 have:=HT g;rw[c] at this;cases this
theorem SInv.ovb(h:SInv D x B rs ptl a q u b sure)(e:(ov rs n).isSome=true):(n:Int)<x.pages:=by
 obtain ⟨p,hp⟩:=Afa.1 e;obtain ⟨r,d,m,c,f,_⟩:=KU _ rs Z hp;have g:=h.num r d m c;have i:=h.ok.2;omega
theorem SInv.ovok(h:SInv D x B rs ptl a q u b sure){p:Pg}(f:ov rs n=some p):p.Ok:=by
 obtain ⟨r,e,m,d,_,rfl⟩:=KU _ rs Z f;obtain ⟨j,c⟩:=Ae4 e;exact Qi ((h.p.recs j r c).2.2 m d)
theorem SInv.f(h:SInv D x B rs ptl a q u b sure)(k:D'.n=D.n)(e:D'.dur=D.dur)(j:D'.ver=D.ver):SInv D' x B rs ptl a q u b sure:=
 ⟨by rw[k];exact h.ok,h.p.f e j,h.s,h.gen,h.num,λi hi c g=>h.home i hi c (by unfold Dp at g ⊢;rwa[e,j] at g),by rw[e,j];exact h.sup,by
  obtain ⟨y,a,b,c,d⟩:=h.oth;exact ⟨y,by rw[k];exact a,b,by rw[e];exact c,by rw[j];exact d⟩,λi hi l c g=>h.rest i hi l c (by unfold Dp at g ⊢;rwa[e,j] at g)⟩
theorem SInv.log(h:SInv D x B rs ptl a q u b sure)(o:D'.n=D.n)(w:SameOut x D D'){e:List Rc}{f:List (List UInt8)}{v:Int}{b':Bool}(hp:PInv D' x e f t p v b' sure)(l:e.take sure=rs.take sure)(k:∀r∈e,∀m∈r.ims,m.num<x.pages):SInv D' x B e f t p v b' sure:=by
 have hk:=h.ok.2;have z:=h.gen;have g:∀i:Nat,(i:Int)<x.start->D'.dur i=D.dur i/\D'.ver i=D.ver i:=λi hi=>w i U;refine ⟨by rw[o];exact h.ok,hp,h.s,z,k,λi hi c j=>?_,?_,?_,λi hi l c j=>h.rest i hi l c (by have:=w i l;unfold Dp at j ⊢;rwa[this.1,this.2] at j)⟩
 ·have:=g (2+i) U
  unfold Dp at j;rw[this.1,this.2] at j;rw[l];exact h.home i hi c j
 ·have:=g (x.gen%2).toNat U
  rw[this.1,this.2];exact h.sup
 obtain ⟨y,a,b,c,d⟩:=h.oth;have:=g ((x.gen+1)%2).toNat U;exact ⟨y,by rw[o];exact a,b,by rw[this.1];exact c,by rw[this.2];exact d⟩
theorem EJ{D:Dsk}(h:D.ver i=[]):D.cont i=D.dur i:=J6 h
theorem SInv.flush(h:SInv D x B rs ptl a q u b sure):SInv D.fl x B rs ptl a q u b rs.length:=by
 refine ⟨h.ok,h.p.flush,h.s,h.gen,h.num,λi hi c e=>?_,?_,?_,λi hi k c e=>h.rest i hi k c (fl_has e)⟩
 ·rw[Ae9]
  rcases h.home i hi c (fl_has e) with g|⟨j,f⟩
  ·exact .inl g
  exact .inr ⟨HT j,f⟩
 ·exact ⟨(EJ h.sup.2).trans h.sup.1,Z⟩
 obtain ⟨y,a,b,c,d⟩:=h.oth;exact ⟨y,a,b,(EJ d).trans c,Z⟩
theorem Y0(b:x.Ok (D.n:Int)){l:List (Nat×Pg)}(c:∀y∈l,(y.1:Int)<x.pages):Oy x D (hwD D l):=λi hi _=>by
 have d:=b.2;refine ⟨by rw[KW],KX l D i λy a e=>?_⟩;have:=c y a;omega
theorem SInv.hw(h:SInv D x B rs ptl a q u b rs.length){l:List (Nat×Pg)}(n:∀y∈l,ov rs y.1=some y.2):SInv (hwD D l) x B rs ptl a q u b rs.length:=by
 have r:=h.gen;have m:∀y∈l,(y.1:Int)<x.pages:=λy j=>h.ovb (by rw[n y j];rfl);have f:∀i:Nat,i<2->(hwD D l).ver i=D.ver i:=λi hi=>KX l D i λy _ e=>by omega
 refine ⟨by rw[Fb];exact h.ok,h.p.out h.s (Y0 h.ok m),h.s,r,h.num,λi hi c k=>?_,?_,?_,λi hi t c k=>?_⟩
 ·rcases hw_has l D _ c k with g|⟨y,j,o,k⟩
  ·exact h.home i hi c g
  refine .inr ⟨?_,y.2,.inr ⟨h.ovok (n y j),?_⟩⟩
  ·rw[Ae9,show i=y.1 from by omega,n y j];rfl
  rw[k,show i=y.1 from by omega]
 ·rw[KW,f _ U];exact h.sup
 ·obtain ⟨y,a,b,c,d⟩:=h.oth
  exact ⟨y,by rw[Fb];exact a,b,by rw[KW];exact c,by rw[f _ U];exact d⟩
 rcases hw_has l D _ c k with g|⟨y,j,o,_⟩
 ·exact h.rest i hi t c g
 have:=m y j;omega
theorem SInv.setF(h:SInv D x B rs ptl a q u b rs.length){i:List Int}(e:Fc (ov rs) i){c:Int}{k:Dsk}(m:LX D (pgLst (ov rs) i) c k):SInv k x B rs ptl a q u b rs.length:=by
 have g:∀l:List (Nat×Pg),(∀y∈l,y∈pgLst (ov rs) i)->SInv (hwD D l) x B rs ptl a q u b rs.length:=λl n=>h.hw λy d=>(Ey e y.1 y.2).1 (n y d);rcases m with ⟨j,_,_,rfl⟩|⟨_,_,rfl⟩|⟨_,_,rfl⟩
 ·exact (g _ λy d=>Afh d).f Z Z Z
 ·exact (g _ λy d=>d).f Z Z Z
 exact (g _ λy d=>d).flush.f Z Z Z
theorem SInv.settled(h:SInv D x B rs ptl a q u b rs.length)(f:Fc (ov rs) l)(hq:q<=1099511627776){y:Sup}(hy:y.Ok (D.n:Int))(h1:y.start=x.start)(o:y.len=x.len)(h3:y.epoch=x.epoch)(h4:y.head=a)(h5:y.seq=q)(h6:y.pages=x.pages)(h7:y.gen=x.gen+1):
  SInv (Fk (hwD D (pgLst (ov rs) l)).fl y) y (pgMap (ov rs) B) [] [] a q 0 false 0:=by
 have hk:=h.ok.2;have hg:=h.gen;have m:SInv (hwD D (pgLst (ov rs) l)) x B rs ptl a q u b rs.length:=h.hw λz w=>(Ey f z.1 z.2).1 w;have j:=m.flush;have k:=h.p.at_ok h.s;have a5:=Sup.get hy;have a1:=h.p.fq;have a0:0<=q:=by split at a1<;>omega
 have a3:SOk y:=⟨by rw[h1];exact h.s.start,by rw[h4,o];exact k,by rw[h3];exact h.s.epoch,by rw[h5];exact a0⟩;have t:Oy x (hwD D (pgLst (ov rs) l)).fl (Fk (hwD D (pgLst (ov rs) l)).fl y):=λi hi _=>by
  have:=ET (hwD D (pgLst (ov rs) l)).fl y i U;exact this
 have v:=j.p.out h.s t;have a2:=v.drop h.s hq h1 o h3 h4 h5 U (by rw[h4,o];exact k);refine ⟨by show y.Ok ((hwD D _).n:Int);rw[Fb];exact hy,a2,a3,by omega,λr hr=>(by cases hr),λi hi c g=>.inl ?_,HO _ y,?_,λi hi hr c g e q' ht=>?_⟩
 ·have d:=ET (hwD D (pgLst (ov rs) l)).fl y (2+i) U
  unfold Dp at g;rw[d.1,d.2] at g;rcases g with rfl|g
  ·show HomeP ((hwD D (pgLst (ov rs) l)).cont (2+i)) i _
   unfold pgMap
   cases ho:ov rs i with
   | some p=>
    have hm:(i,p)∈pgLst (ov rs) l:=(Ey f i p).2 ho;rw[Xs D (EW f) (i,p) hm];exact .inr ⟨h.ovok ho,Z⟩
   | none=>
    rw[hw_cont_out _ D _ (λz w e=>by
     have:=(Ey f z.1 z.2).1 w;rw[show z.1=i from by omega,ho] at this;cases this)]
    exact h.cur U ho
  cases g
 ·refine ⟨x,by show x.Ok ((hwD D _).n:Int);rw[Fb];exact h.ok,by omega,?_⟩
  have d:=ET (hwD D (pgLst (ov rs) l)).fl y ((y.gen+1)%2).toNat U;rw[d.1,d.2,show (y.gen+1)%2=x.gen%2 from by omega];exact j.sup
 have d:=ET (hwD D (pgLst (ov rs) l)).fl y i U;unfold Dp at g;rw[d.1,d.2] at g;rw[h3];exact j.rest i U (by rwa[h1,o] at hr) c g e q' ht
theorem SInv.tags(h:SInv D x B rs ptl a q u b sure)(hq:q<=1099511627776){i:Nat}(hi:2+x.pages<=(i:Int)){c:List UInt8}(d:Dp D i c){e f:Int}(g:Tg c e f):e<=x.epoch:=by
 by_cases hr:x.start<=(i:Int)/\(i:Int)<x.start+x.len
 ·have m:0<x.len:=by have:=h.s.head;omega
  obtain ⟨j,l,k⟩:=Oj m x.head ((i:Int)-x.start);have hi:ringAt x ((i:Int)-x.start)=i:=by
   unfold ringAt;rw[Agp U U];omega
  have:=h.p.tags h.s hq l (c:=c) (by rw[<-k,hi];exact d) g;omega
 exact h.rest i hi hr c d e f g
theorem PInv.fresh{D:Dsk}{s:Sup}(hs:SOk s)(h:∀i:Nat,s.start<=(i:Int)->(i:Int)<s.start+s.len->∀c,Dp D i c->∀e q,Tg c e q->e<s.epoch):PInv D s [] [] s.head s.seq 0 false 0:=by
 refine ⟨?_,by simp,by simp[secs],by have:=hs.head;omega,λ_=>rfl,.inl Z,λj r h=>by simp at h,λi hi c a=>.inl λe q b=>.inl ?_,λi c h=>by simp[secs] at h,λi c h=>by simp[secs] at h,Aek _⟩
 ·rw[Int.add_zero,Agp hs.head.1 hs.head.2]
 have:=JD hs (s.head+i);exact h _ this.1 this.2 c a e q b
end
def Xy(c:Int)(ims:List Img)(room:Prop):Prop:=(c=16/\ims.length > 40)\/(c=1/\ims.length<=40/\(ims=[]\/¬EI ims))\/(c=15/\(1<=ims.length/\ims.length<=40)/\EI ims/\¬room)
structure OpM where
 k0:Int
 kd:Int
 fl:Int
 k4:Int
 k5:Int
 ns:List Int
abbrev OpE:=OpM×Value×Value
def OpE.cells(e:OpE):List Value:=[.int .i64 e.1.k0,e.2.1,.int .i64 e.1.kd,.int .i64 e.1.fl,.int .i64 e.1.k4,.int .i64 e.1.k5,e.2.2]
def s5:Sup:=⟨1,1,16,18,64,0,5⟩
theorem SameOut.one{s:Sup}{x:Nat}{ps:List (List UInt8)}(a:s.start<=x)(b:(x:Int)+ps.length<=s.start+s.len):SameOut s D (D.wr x ps):=λi hi=>⟨by rw[Tf],Gy _ _ U⟩
theorem SameOut.trans{s:Sup}{D a d:Dsk}(b:SameOut s D a)(c:SameOut s a d):SameOut s D d:=λi hi=>⟨(c i hi).1.trans (b i hi).1,(c i hi).2.trans (b i hi).2⟩
theorem MM(a x:Sup){nu:Bool}(ims:List Img)(hA:∀h,A h->imgsH v ims h)(D:Dsk){B:Nat->Pg}{rs:List Rc}{ptl:List (List UInt8)}{u:Int}{sure:Nat}(o:SInv D x B rs ptl t q u b sure)(a4:∀m∈ims,m.num<x.pages)(h1:a.start=x.start)(h2:a.len=x.len)(h3:a.epoch=x.epoch)(a9:a.Ok (D.n:Int))(a8:nu=decide (a.epoch<4294967296))(hq:0<=q/\q<=1099511627776)(a1:∀i,(D.ver i).length<=1000000000000):
  Aj 162 [Y j,v] [blk j [Y e,Y g,I a.gen,I a.epoch,I a.pages,I a.start,I a.len,I a.head,I a.seq,I t,I q,I u,.bool b,.bool nu] 244,tblA g,diskA e D,A] (λv G=>
   (∃(Da:Dsk) (a2 q2 u2:Int),(1<=ims.length/\ims.length<=40)/\EI ims/\SInv Da x B (rs++[⟨q,ims⟩]) [] a2 q2 u2 b sure/\b=false/\(Clean D->Clean Da)/\(Da.n=D.n/\∀i,(Da.ver i).length<=(D.ver i).length+2)/\q2=q+1/\u2=u+(1+(ims.length:Int))/\v=I 0/\G=[blk j [Y e,Y g,I a.gen,I a.epoch,I a.pages,I a.start,I a.len,I a.head,I a.seq,I a2,I q2,I u2,.bool b,.bool nu] 244,tblA g,diskA e Da,A])\/
   (∃c:Int,Xy c ims (1+(ims.length:Int)<=(if b then 0 else x.len-u)/\nu=true/\q<1099511627776)/\v=I c/\G=[blk j [Y e,Y g,I a.gen,I a.epoch,I a.pages,I a.start,I a.len,I a.head,I a.seq,I t,I q,I u,.bool b,.bool nu] 244,tblA g,diskA e D,A])\/
   (∃(Df:Dsk) (a7:List (List UInt8)),¬Clean D/\SInv Df x B rs a7 t (q+1) u true sure/\(Df.n=D.n/\∀i,(Df.ver i).length<=(D.ver i).length+2)/\v=I 11/\G=[blk j [Y e,Y g,I a.gen,I a.epoch,I a.pages,I a.start,I a.len,I a.head,I a.seq,I t,I (q+1),I u,.bool true,.bool nu] 244,tblA g,diskA e Df,A])):=by
 have z:=o.p;have hs:=o.s;have b2:=z.at_ok hs;have b0:=hs.head;have b1:=hs.start;have b4:=z.fu;have b3:=z.ul;refine Cn.mono (Vm j e g a t q u b nu v ims A hA D a9 a8 U U U a1) ?_;rintro v Γ (⟨l,rfl,rfl⟩|⟨l,w,rfl,rfl⟩|⟨l,w,g3,rfl,rfl⟩|⟨l,w,g3,k,hk,g4⟩)
 ·exact .inr (.inl ⟨16,.inl ⟨Z,l⟩,Z,Z⟩)
 ·exact .inr (.inl ⟨1,.inr (.inl ⟨Z,l,w⟩),Z,Z⟩)
 ·exact .inr (.inl ⟨15,.inr (.inr ⟨Z,l,w,by rw[<-h2];exact g3⟩),Z,Z⟩)
 have a3:=g3.1
 cases b with
 | true=>rw[if_pos Z] at a3;omega
 | false=>
  rw[if_neg (by decide)] at a3;have y:1+(ims.length:Int)<=x.len-u:=by omega
  have a0:(k:Int)=min (1+(ims.length:Int)) (x.len-t):=by rw[<-h2];exact hk
  have a5:=FR x.epoch q ims;rw[h1,h3] at g4;have l1:=λi=>Dsk.wr_len D (x.start+t).toNat ((BE x.epoch q ims).take k) i;have l2:=λi=>Dsk.wr_len (D.wr (x.start+t).toNat ((BE x.epoch q ims).take k)) x.start.toNat ((BE x.epoch q ims).drop k) i;have o1:SameOut x D (D.wr (x.start+t).toNat ((BE x.epoch q ims).take k)):=SameOut.one U (by rw[Aez,a5];omega);have o2:SameOut x (D.wr (x.start+t).toNat ((BE x.epoch q ims).take k)) ((D.wr (x.start+t).toNat ((BE x.epoch q ims).take k)).wr x.start.toNat ((BE x.epoch q ims).drop k)):=SameOut.one U (by rw[AeQ,a5];omega);have d:=z.app hs l w.1 y a0;have a6:(rs++[(⟨q,ims⟩:Rc)]).take sure=rs.take sure:=Aev z.sure;have f:∀r∈rs++[(⟨q,ims⟩:Rc)],∀m∈r.ims,m.num<x.pages:=λr y m hm=>by
   rcases Aer.1 y with y|y
   ·exact o.num r y m hm
   rw[Afn.1 y] at hm;exact a4 m hm
  rcases g4 with ⟨_,g5,rfl,rfl⟩|⟨_,g5,_,rfl,rfl⟩|⟨g5,rfl,rfl⟩|⟨_,g6,g5,rfl,rfl⟩
  ·unfold E9 at d
   rw[if_neg U] at d;exact .inl ⟨_,(t+(1+(ims.length:Int)))%x.len,q+1,u+(1+(ims.length:Int)),l,w,o.log (Dsk.wr_n _ _ _) o1 d a6 f,Z,λhc=>hc.wr _ _,⟨Dsk.wr_n _ _ _,λi=>by have:=l1 i;omega⟩,Z,Z,Z,by simp only[lgB,h1,h2,h3]⟩
  ·unfold E9 at d
   rw[if_pos U] at d;exact .inl ⟨_,(t+(1+(ims.length:Int)))%x.len,q+1,u+(1+(ims.length:Int)),l,w,o.log (by rw[Dsk.wr_n,Dsk.wr_n]) (o1.trans o2) d a6 f,Z,λhc=>(hc.wr _ _).wr _ _,⟨by rw[Dsk.wr_n,Dsk.wr_n],λi=>by have:=l1 i;have:=l2 i;omega⟩,Z,Z,Z,by simp only[lgB,h1,h2,h3]⟩
  ·exact .inr (.inr ⟨D.wf,_,λhc=>hc.bad g5,SInv.log (D':=D.wf) o Z (λ_ _=>⟨Z,Z⟩) z.fail0 Z o.num,⟨Z,λi=>by show (D.ver i).length<=_;omega⟩,Z,by simp only[lgB,h1,h3]⟩)
  exact .inr (.inr ⟨Dsk.wf (D.wr (x.start+t).toNat ((BE x.epoch q ims).take k)),_,λhc=>(hc.wr _ _).bad g5,SInv.log (D':=Dsk.wf (D.wr (x.start+t).toNat ((BE x.epoch q ims).take k))) o (Dsk.wr_n _ _ _) o1 (z.fail1 hs l w.1 y a0 g6) Z o.num,⟨Dsk.wr_n _ _ _,λi=>by have:=l1 i;show ((D.wr (x.start+t).toNat ((BE x.epoch q ims).take k)).ver i).length<=_;omega⟩,Z,by simp only[lgB,h1,h3]⟩)
def Eg(x:Sup)(a q:Int):Sup:= {x with gen:=x.gen+1,head:=a,seq:=q}
theorem Nn(x:Sup)(a q:Int):(Eg x a q).gen=x.gen+1/\(Eg x a q).epoch=x.epoch/\(Eg x a q).pages=x.pages/\(Eg x a q).start=x.start/\(Eg x a q).len=x.len/\(Eg x a q).head=a/\(Eg x a q).seq=q:=⟨Z,Z,Z,Z,Z,Z,Z⟩
theorem Sup.ok_mk{s:Sup}{n:Int}(c:0<=s.gen/\s.gen<=1099511627776)(d:0<=s.epoch/\s.epoch<=1099511627776)(g:16<=s.pages/\s.pages<=1024)(h:2+s.pages<=s.start/\s.start<=1099511627776)(e:64<=s.len/\s.len<=1099511627776)(f:0<=s.head/\s.head<s.len)(i:0<=s.seq/\s.seq<=1099511627776)(b:s.start<=n-s.len/\s.len<=n):s.Ok n:=by
 refine ⟨λy a=>?_,by omega,by omega,by omega,by omega,by omega,by omega,by omega⟩;simp only[Sup.list,Aep,List.not_mem_nil,or_false] at a;omega
theorem I6{x:Sup}{p:Value}(f:BF)(y:Sup)(D:Dsk)(r:∀n,(f n).isSome=true->n<1024)(s:∀n,(f n).isSome=true->2+n<D.n)(l:y.Ok (D.n:Int))(k:∀i,(D.ver i).length<=1000000000000):
  Aj 97 [Y m,.agg #[I y.gen,I y.epoch,I y.pages,I y.start,I y.len,I y.head,I y.seq]] [stB m j e x u g b p,tblA e,diskA j D,pgsA g f h,poolA h] (λv G=>(∃a:List Int,Fc f a/\v=I 0/\G=[stB m j e y u g b p,tblA e,diskA j (Fk (hwD D (pgLst f a)).fl y),pgsA g Dq h,poolA h])\/(∃(a:List Int) (c:Int) (o:Dsk),Fc f a/\c≠0/\LX D (pgLst f a) c o/\v=I c/\G=[stB m j e x u g b p,tblA e,diskA j o,pgsA g f h,poolA h])):=by
 refine Cn.mono (VI m j e g x u p b f h y D r s l k) ?_;rintro v Γ ⟨a,d,⟨q,t⟩|⟨c,o,q,t,w,z⟩⟩
 ·exact .inl ⟨a,d,q,t⟩
 exact .inr ⟨a,c,o,d,q,t,w,z⟩
theorem Tz{a:Dsk}{l:List (Nat×Pg)}(h:LX D l t a):a.n=D.n:=by
 rcases h with ⟨j,_,_,rfl⟩|⟨_,_,rfl⟩|⟨_,_,rfl⟩
 ·exact Fb _ _
 ·exact Fb _ _
 exact Fb _ _
theorem OA{b:Dsk}{l:List (Nat×Pg)}(a:(l.map Prod.fst).Nodup)(h:LX D l t b)(i:Nat):(b.ver i).length<=(D.ver i).length+1:=by
 rcases h with ⟨j,_,_,rfl⟩|⟨_,_,rfl⟩|⟨_,_,rfl⟩
 ·exact Om _ D i (a.sublist ((List.take_sublist _ _).map _))
 ·exact Om _ D i a
 show ([]:List (List UInt8)).length<=_;simp
theorem HU(h:∀i,D.ver i=[])(x:Sup)(i:Nat):(Fk D x).ver i=[]:=by
 by_cases e:i=(x.gen%2).toNat
 ·rw[e];exact (HO D x).2
 rw[(ET D x i e).2];exact h i
theorem OB(h:(0:Int)<(if b then 0 else t-s)):b=false/\s<t:=by
 cases b with
 | true=>rw[if_pos Z] at h;omega
 | false=>rw[if_neg (by decide)] at h;exact ⟨Z,by omega⟩
theorem PgsIn.nil_iff{f:BF}{es:List PgE}{clk:Nat}{hq:Hp}(h:PgsIn f es clk hq):es.length=0↔∀n,f n=Option.none:=by
 constructor
 ·intro e n
  obtain rfl:=Agg.1 e
  cases a:f n with
  | none=>rfl
  | some p=>obtain ⟨e,b,_⟩:=h.all n p a;cases b
 intro a
 cases es with
 | nil=>rfl
 | cons e es=>
  have:=(h.ent e O).1;rw[a] at this;cases this
set_option maxHeartbeats 2000000 in
theorem I7 {md:Nat} {x sL:Sup} {un nu:Bool} {hq:Hp} {B:Nat->Pg} {rs:List Rc} {ptl:List (List UInt8)} {u:Int} {sure:Nat} (hS:SInv D x B rs ptl t q u b sure) (hL:sL.start=x.start/\sL.len=x.len/\sL.epoch=x.epoch) (c1:q<=1099511627776) (a9:∀i,(D.ver i).length<=1000000000000):Aj 76 [Y m] [stB m j g x (Y r) md un y,lgB r j g sL t q u b nu,tblA g,diskA j D,pgsA md (ov rs) hq,poolA hq] (λv G=>((∀n,ov rs n=none)/\b=false/\u<x.len/\v=I 0/\G=[stB m j g x (Y r) md un y,lgB r j g sL t q u b nu,tblA g,diskA j D,pgsA md (ov rs) hq,poolA hq])\/(∃D2:Dsk,¬((∀n,ov rs n=none)/\b=false/\u<x.len)/\SInv D2 (Eg x t q) (pgMap (ov rs) B) [] [] t q 0 false 0/\(Clean D->Clean D2)/\D2.n=D.n/\(∀i,D2.ver i=[])/\v=I 0/\G=[stB m j g (Eg x t q) (Y r) md un y,lgB r j g sL t q 0 false nu,tblA g,diskA j D2,pgsA md Dq hq,poolA hq])\/(∃(c:Int) (D2:Dsk) (a1:Nat),c≠0/\(¬Clean D\/1099511627776<x.gen+1)/\(SInv D2 x B rs ptl t q u b a1/\sure<=a1)/\D2.n=D.n/\(∀i,(D2.ver i).length<=(D.ver i).length+1)/\v=I c/\G=[stB m j g x (Y r) md un y,lgB r j g sL t q u b nu,tblA g,diskA j D2,pgsA md (ov rs) hq,poolA hq])):=by
 intro z R w H;replace H:=H.l6;have a4:=hS.ok;have b5:=Sup.get a4;have b4:=a4.2;have hP:=hS.p;have b3:=hP.at_ok hS.s;have c2:=hP.ul;have b8:=hP.fu;have b0:=hS.gen;have a6:=hP.fq;have b9:0<=q:=by split at a6<;>omega
 have a3:∀n,(ov rs n).isSome=true->n<1024:=λn h=>by have:=hS.ovb h;omega
 have a2:∀n,(ov rs n).isSome=true->2+n<D.n:=λn h=>by have:=hS.ovb h;omega
 have b6:=Nn x t q;obtain ⟨es,clk,a,H⟩:=H.pgs 4 Z;replace H:=H.l6;refine Ae func76 Z ntmps76 Z (Z2 12 [10,0,0] H Z (Ab Z (NW (e:=104) Z J Z (Az (H.bk 4 Z))) (Z0 2 [0] Z (An 12 Z (λh1=>?_) (λh1=>?_)))))
 ·refine Z2 4 [9,0,0] H Z (z_E_ Z (call127 _) (Tl U) H.f1 ?_);intro w H;refine Z0 4 [0] Z (Af Z (λh2=>?_) (λh2=>?_))
  ·refine Zc 6 Z (Zr Z ?_);replace H:=(H.toPgs 4 Z a).l6
   have a5:=a.nil_iff.1 (by simpa using h1);exact ⟨_,.inl ⟨a5,(OB h2).1,by have:=(OB h2).2;omega,Z,Z⟩,H.perm 6 [1,0,2,3,4,5] Z Z⟩
  refine Za 8 [2,1,7] H Z ?_;intro b1 w H;refine Z5 18 [0,0,0,0,0,0,9,2,0] [x.gen+1] H Z U ?_;intro w H;refine z_E_ Z (call128 _) (Tm) H.f1 ?_;intro w H;refine Z4 17 [5,1,6,1,0,1,0,0] H Z ?_;intro w H;refine Af Z (λh3=>?_) (λh3=>?_)
  ·refine Zc 6 Z (Zr Z ?_);replace H:=(H.toPgs 5 Z a).l7
   exact ⟨_,.inr (.inr ⟨_,D,sure,by decide,.inr U,⟨hS,Aek _⟩,Z,λi=>by omega,Z,Z⟩),H.perm 7 [2,0,3,4,5,6] Z Z⟩
  refine Zc 4 Z ?_;have l:(Eg x t q).Ok (D.n:Int):=Sup.ok_mk U U U U U U U U;refine Z2 5 [0,2,0] H Z (Ar Z (call92 _) (HR) H.f4 ?_);rintro _ w _ (⟨a0,rfl,rfl⟩|⟨a0,rfl,rfl⟩) H'
  ·have H:=H'.l7;refine Z0 17 [3] Z (Zr Z ?_);replace H:=(H.toPgs 5 Z a).l7
   exact ⟨_,.inr (.inr ⟨_,_,sure,by decide,.inl (λhc=>hc.flb a0),⟨SInv.f (D':= {D with f3:=Bi D.f3}) hS Z Z Z,Aek _⟩,Z,λi=>by show (D.ver i).length<=_;omega,Z,Z⟩),H.perm 7 [3,1,4,0,5,6] Z Z⟩
  have H:=H'.l7;refine Z0 14 [4] Z ?_;replace H:=(H.toPgs 5 Z a).l7;refine Z2 3 [2,7] H Z (Ar Z (call97 _) (I6 (ov rs) (Eg x t q) D.fl a3 a2 l (λi=>by show ([]:List (List UInt8)).length<=_;simp)) H.f6.f6.f2.f6.f6 ?_);rintro _ w _ (⟨ks,k,rfl,rfl⟩|⟨ks,c,D2,k,o,d,rfl,rfl⟩) H'
  ·have H:=H'.l7;refine Z2 18 [4,9,0,0] H Z (z_E_ Z (call129 _) (Tn) H.f5 ?_);intro w H;refine Zc 8 Z (Zr Z ?_);exact ⟨_,.inr (.inl ⟨_,(λe=>by first|exact h1 (by have:=a.nil_iff.2 e.1;simpa using this)|exact h2 (by rw[e.2.1];simp;omega)),hS.flush.settled k U l Z Z Z Z Z Z Z,λhc=>((hc.fl.hw _).fl).sv _,by show (hwD _ _).n=_;exact Fb _ _,HU (λ_=>rfl) _,Z,Z⟩),H.perm 7 [1,0,2,3,4,5] Z Z⟩
  have H:=H'.l7;refine Z0 9 [0] Z (Af Z (λh4=>?_) (λh4=>?_))
  ·refine Zc 7 Z (Zr Z ?_);exact ⟨_,.inr (.inr ⟨_,D2,rs.length,o,.inl (λhc=>hc.fl.setF d),⟨hS.flush.setF k d,hP.sure⟩,Tz (D:=D.fl) d,λi=>by have:=OA (EW k) d i;have h0:(D.fl.ver i).length=0:=rfl;omega,Z,Z⟩),H.perm 7 [0,5,1,2,3,4] Z Z⟩
  exact absurd o h4
 refine Za 18 [2,0,7] H Z ?_;intro b2 w H;refine Z5 18 [0,0,0,0,0,0,9,1,0] [x.gen+1] H Z U ?_;intro w H;refine z_E_ Z (call128 _) (Tm) H.f2 ?_;intro w H;refine Z4 17 [5,1,6,1,0,1,0,0] H Z ?_;intro w H;refine Af Z (λh5=>?_) (λh5=>?_)
 ·refine Zc 6 Z (Zr Z ?_);replace H:=(H.toPgs 5 Z a).l7
  exact ⟨_,.inr (.inr ⟨_,D,sure,by decide,.inr U,⟨hS,Aek _⟩,Z,λi=>by omega,Z,Z⟩),H.perm 7 [2,0,3,4,5,6] Z Z⟩
 refine Zc 4 Z ?_;have l:(Eg x t q).Ok (D.n:Int):=Sup.ok_mk U U U U U U U U;refine Z2 5 [0,2,0] H Z (Ar Z (call92 _) (HR) H.f4 ?_);rintro _ w _ (⟨a0,rfl,rfl⟩|⟨a0,rfl,rfl⟩) H'
 ·have H:=H'.l7;refine Z0 17 [3] Z (Zr Z ?_);replace H:=(H.toPgs 5 Z a).l7
  exact ⟨_,.inr (.inr ⟨_,_,sure,by decide,.inl (λhc=>hc.flb a0),⟨SInv.f (D':= {D with f3:=Bi D.f3}) hS Z Z Z,Aek _⟩,Z,λi=>by show (D.ver i).length<=_;omega,Z,Z⟩),H.perm 7 [3,1,4,0,5,6] Z Z⟩
 have H:=H'.l7;refine Z0 14 [4] Z ?_;replace H:=(H.toPgs 5 Z a).l7;refine Z2 3 [2,7] H Z (Ar Z (call97 _) (I6 (ov rs) (Eg x t q) D.fl a3 a2 l (λi=>by show ([]:List (List UInt8)).length<=_;simp)) H.f6.f6.f2.f6.f6 ?_);rintro _ w _ (⟨ks,k,rfl,rfl⟩|⟨ks,c,D2,k,o,d,rfl,rfl⟩) H'
 ·have H:=H'.l7;refine Z2 18 [4,9,0,0] H Z (z_E_ Z (call129 _) (Tn) H.f5 ?_);intro w H;refine Zc 8 Z (Zr Z ?_);exact ⟨_,.inr (.inl ⟨_,(λe=>by first|exact h1 (by have:=a.nil_iff.2 e.1;simpa using this)|exact h2 (by rw[e.2.1];simp;omega)),hS.flush.settled k U l Z Z Z Z Z Z Z,λhc=>((hc.fl.hw _).fl).sv _,by show (hwD _ _).n=_;exact Fb _ _,HU (λ_=>rfl) _,Z,Z⟩),H.perm 7 [1,0,2,3,4,5] Z Z⟩
 have H:=H'.l7;refine Z0 9 [0] Z (Af Z (λh6=>?_) (λh6=>?_))
 ·refine Zc 7 Z (Zr Z ?_);exact ⟨_,.inr (.inr ⟨_,D2,rs.length,o,.inl (λhc=>hc.fl.setF d),⟨hS.flush.setF k d,hP.sure⟩,Tz (D:=D.fl) d,λi=>by have:=OA (EW k) d i;have h0:(D.fl.ver i).length=0:=rfl;omega,Z,Z⟩),H.perm 7 [0,5,1,2,3,4] Z Z⟩
 exact absurd o h6
def Cs(g:BF)(ks:List Int):List Img:=ks.map λk=>⟨k,((g k.toNat).getD noPg).kind,((g k.toNat).getD noPg).body⟩
theorem RM(g:BF)(a:List Int):(Cs g a).length=a.length:=by simp[Cs]
theorem PE{g:BF}{p:Pg}(a:l[j]?=some (n:Int))(b:g n=some p):(Cs g l).take j++[(⟨(n:Int),p.kind,p.body⟩:Img)]=(Cs g l).take (j+1):=by
 rw[AeM];congr 1;unfold Cs;rw[Aeq,a];simp[b]
theorem PgsIn.okp{f:BF}{es:List PgE}{clk:Nat}{hq:Hp}(h:PgsIn f es clk hq){p:Pg}(hp:f n=some p):p.Ok:=by
 obtain ⟨e,b,c⟩:=h.all n p hp;obtain ⟨a,d,_⟩:=h.ent e b;rw[c,hp] at a;cases a;exact d
theorem MN{g:BF}(h:Fc g l)(j:∀n p,g n=some p->p.Ok)(e:∀n,(g n).isSome=true->n<1024):EI (Cs g l):=by
 have a:∀k∈l,∃p,g k.toNat=some p/\0<=k/\k<1024:=λk b=>by
  obtain ⟨c,d⟩:=(h.2 k).1 b;obtain ⟨p,hp⟩:=Afa.1 d;have:=e _ d;exact ⟨p,hp,c,by omega⟩
 refine ⟨λm f=>?_,?_⟩
 ·obtain ⟨k,b,rfl⟩:=Aem.1 f
  obtain ⟨p,hp,c,d⟩:=a k b;have:=j _ p hp;simp only[hp,Option.getD_some];exact ⟨⟨c,by dsimp only;omega⟩,this.1,this.2⟩
 unfold Cs;rw[Afp];refine AfL.2 (h.1.imp λi=>?_);simp only[AgM];omega
theorem RN{g:BF}(h:Fc g l)(b:∀n,(g n).isSome=true->(n:Int)<t):∀m∈Cs g l,m.num<t:=λm d=>by
 obtain ⟨k,a,rfl⟩:=Aem.1 d;obtain ⟨e,c⟩:=(h.2 k).1 a;have:=b _ c;dsimp only;omega
theorem TA{ims:List Img}{a:Prop}(h:Xy t ims a)(b:1<=ims.length/\ims.length<=40)(c:EI ims):t=15/\¬a:=by
 rcases h with ⟨_,h⟩|⟨_,_,rfl|h⟩|⟨rfl,_,_,h⟩
 ·omega
 ·simp at b
 ·exact absurd c h
 exact ⟨Z,h⟩
theorem Y1{ims:List Img}:∀(f:BF) (n:Nat),(ims.map Img.num).Nodup->(∀m∈ims,0<=m.num)->EM f ims n=((ims.find? λm=>decide (m.num=(n:Int))).map GT).or (f n):=by
 induction ims with
 | nil=>intro f n _ _;rfl
 | cons m ims ih=>
  intro f n b hp;simp only[AeL,Afj] at b;have:EM f (m::ims)=EM (pgSet f m.num.toNat (GT m)) ims:=rfl;rw[this,ih _ _ b.2 (λa g=>hp a (by simp[g])),List.find?_cons];have i:=hp m O;by_cases e:m.num=(n:Int)
  ·have c:(ims.find? λm=>decide (m.num=(n:Int)))=none:=by
    rw[Ahi];intro a d h;exact b.1 (Aem.2 ⟨a,d,by simp at h;omega⟩)
   rw[c];simp[e,pgSet]
  have:¬n=m.num.toNat:=by omega
  simp[e,pgSet,this]
theorem RO{f g:BF}(h:Fc g l)(d:EI (Cs g l)):EM f (Cs g l)=Hu f g:=by
 funext n;rw[Y1 _ _ d.2 (λm c=>(d.1 m c).1.1)];unfold Hu;congr 1
 cases hg:g n with
 | some p=>
  have j:(n:Int)∈l:=(h.2 _).2 ⟨by omega,by rw[Ae6,hg];rfl⟩
  cases a:(Cs g l).find? λm=>decide (m.num=(n:Int)) with
  | none=>
   rw[Ahi] at a;exact absurd O (a _ (Aem.2 ⟨(n:Int),j,Z⟩))
  | some m=>
   have i:=List.find?_some a;obtain ⟨k,b,rfl⟩:=Aem.1 (List.mem_of_find?_eq_some a);simp only[decide_eq_true_eq] at i;subst i;simp[hg,GT]
 | none=>
  have a:((Cs g l).find? λm=>decide (m.num=(n:Int)))=none:=by
   rw[Ahi];intro m c e;obtain ⟨k,b,rfl⟩:=Aem.1 c;simp only[decide_eq_true_eq] at e;subst e;have:=((h.2 _).1 b).2;rw[Ae6,hg] at this;cases this
  rw[a];rfl
theorem Qw{rs:List Rc}(h:∀n,ov rs n=none)(c:∀(j:Nat) (r:Rc),rs[j]?=some r->1<=r.ims.length):rs=[]:=by
 cases rs with
 | nil=>rfl
 | cons r rs=>
  exfalso;have d:=c 0 r Z;have b:(ov [r] ((r.ims[0]'U).num.toNat)).isSome=true:=by
   show (EM Dq r.ims _).isSome=true;rw[Qj];simp only[Dq,Option.isSome_none,Bool.false_or,Ahx];exact ⟨r.ims[0]'U,AfQ _,by simp⟩
  have a:=Gm rs [r] b;rw[show [r]++rs=r::rs from Z,h] at a;cases a
set_option maxHeartbeats 4000000 in
theorem TC {pd pt pl md mo:Nat} {x sL:Sup} {un nu:Bool} {hq:Hp} {g:BF} {k:Nat} {B:Nat->Pg} {rs:List Rc} {ptl:List (List UInt8)} {u:Int} {sure:Nat} (hS:SInv D x B rs ptl t q u b sure) (hL:sL.start=x.start/\sL.len=x.len/\sL.epoch=x.epoch) (c2:sL.Ok (D.n:Int)) (d6:nu=decide (sL.epoch<4294967296)) (j1:q<1099511627775) (c7:∀i,(D.ver i).length<=1000000000000) (e8:∀n,(g n).isSome=true->(n:Int)<x.pages) (hk:1<=k/\k<=40):Aj 107 [Y m] [stB m pd pt x (Y pl) md un (.map (some mo)),lgB pl pd pt sL t q u b nu,tblA pt,diskA pd D,pgsA md (ov rs) hq,Ew mo g k hq,poolA hq] (λv G=>(∃(o:List Int) (f:Hp) (D2:Dsk) (x2:Sup) (B2:Nat->Pg) (d4:List Rc) (a2 u2:Int) (a0:Nat),Fc g o/\CK hq f/\SInv D2 x2 B2 (d4++[⟨q,Cs g o⟩]) [] a2 (q+1) u2 false a0/\pgMap (ov d4) B2=pgMap (ov rs) B/\(x2=x\/x2=Eg x t q)/\(Clean D->Clean D2)/\(D2.n=D.n/\∀i,(D2.ver i).length<=(D.ver i).length+2)/\v=I 0/\G=[stB m pd pt x2 (Y pl) md un (.map (some mo)),lgB pl pd pt sL a2 (q+1) u2 false nu,tblA pt,diskA pd D2,pgsA md (ov d4) f,Ew mo g k f,poolA f])\/(∃(c:Int) (f:Hp) (D2:Dsk) (x2:Sup) (B2:Nat->Pg) (d5:List Rc) (a6:List (List UInt8)) (a2 q2 u2:Int) (b2:Bool) (a0:Nat),c≠0/\(¬Clean D\/1099511627776<x.gen+1)/\CK hq f/\SInv D2 x2 B2 d5 a6 a2 q2 u2 b2 a0/\pgMap (ov d5) B2=pgMap (ov rs) B/\(x2=x\/x2=Eg x t q)/\(D2.n=D.n/\∀i,(D2.ver i).length<=(D.ver i).length+2)/\(q<=q2/\q2<=q+1)/\v=I c/\G=[stB m pd pt x2 (Y pl) md un (.map (some mo)),lgB pl pd pt sL a2 q2 u2 b2 nu,tblA pt,diskA pd D2,pgsA md (ov d5) f,Ew mo g k f,poolA f])):=by
 intro z R w H;replace H:=H.l7;have f2:=hS.ok;have j6:=Sup.get f2;have j9:=f2.2;have hP:=hS.p;have k0:=hP.ul;have h7:=hP.fu;have g4:=hP.fq;have e2:0<=q:=by split at g4<;>omega
 have i6:∀n,(ov rs n).isSome=true->n<1024:=λn h=>by have:=hS.ovb h;omega
 have i7:∀n,(ov rs n).isSome=true->2+n<D.n:=λn h=>by have:=hS.ovb h;omega
 have i0:=H.sy 3 (λq=>(diskA.ok q).n2);have g9:=Nn x t q;obtain ⟨a5,a9,l,a1,H⟩:=H.pgsc 5 Z;replace H:=H.l7;have h5:a5.length<=1099511627776:=by omega
 refine Ae func107 Z ntmps107 Z (Z2 17 [12,0,0] H Z (Ar Z (call161 _) (Qt) H ?_));rintro _ w _ ⟨bb,rfl,rfl⟩ H;replace H:=H.l8;have h4:∀h:IE->Nat,(a5.map PgE.ie).map h=a5.map λe=>h e.ie:=λh=>by simp
 refine Ar Z (call160 _) (ML (λp hp=>by obtain ⟨e,he,rfl⟩:=Aem.1 hp;exact l.clk e he) (by rw[h4];exact l.born) (by simp;exact h5)) H.f6.f1 ?_;rintro v2 w _ ⟨s,hs,rfl⟩ H;replace H:=H.l9;have b0:Fc g ((s.map λp:IE=>p.1).mergeSort (λx y=>decide (x<=y))):=l.keys hs;have g6:((s.map λp:IE=>p.1).mergeSort (λx y=>decide (x<=y))).length=k:=by simp[hs.length_eq,a1]
 obtain ⟨o,e4⟩:∃o:List Int,((s.map λp:IE=>p.1).mergeSort (λx y=>decide (x<=y)))=o:=⟨_,Z⟩;rw[e4] at H b0 g6;clear e4 hs;have H:Sep z (grow 3 1 v2 o.length (o.map I)::blk bb [.map (some mo)] 134::AI mo (a5.map PgE.ie) a9::stB m pd pt x (Y pl) md un (.map (some mo))::lgB pl pd pt sL t q u b nu::tblA pt::diskA pd D::pgsA md (ov rs) hq::poolA hq::R) w:=H;have e7:=H.sy 0 (·.slc);obtain ⟨c0,c3,rfl⟩:=e7;have H:Sep z (grow 3 1 (.slice c0 o.length c3) o.length (o.map I)::blk bb [.map (some mo)] 134::AI mo (a5.map PgE.ie) a9::stB m pd pt x (Y pl) md un (.map (some mo))::lgB pl pd pt sL t q u b nu::tblA pt::diskA pd D::pgsA md (ov rs) hq::poolA hq::R) w:=H;replace H:=(H.nilg 161 3).l10;have h9:=RM g o;have e5:∀n p,g n=some p->p.Ok:=λn p h=>l.okp h;have f0:∀n,(g n).isSome=true->n<1024:=λn h=>by have:=e8 n h;omega
 have c9:EI (Cs g o):=MN b0 e5 f0;have b5:=RN b0 e8;have e9:1<=(Cs g o).length/\(Cs g o).length<=40:=by omega
 refine Zc 5 Z ?_;refine AD (σ:=Nat×Value×List ImE) (λ⟨j,v1,ie⟩=>[(15,I (j:Int)),(3,v1),(0,Y m),(2,I 0),(13,.slice c0 o.length c3),(14,I (o.length:Int))])
   (λ⟨j,v1,ie⟩ w=>Sep z (grow 161 3 v1 j (Gq ie)::grow 3 1 (.slice c0 o.length c3) o.length (o.map I)::blk bb [.map (some mo)] 134::AI mo (a5.map PgE.ie) a9::stB m pd pt x (Y pl) md un (.map (some mo))::lgB pl pd pt sL t q u b nu::tblA pt::diskA pd D::pgsA md (ov rs) hq::poolA hq::R) w/\(j<=o.length/\ie.map Prod.fst=(Cs g o).take j/\imesOk ie hq)) (λ⟨j,v1,ie⟩=>o.length-j) ⟨0,.slice none 0 0,[]⟩
   (λ_ hF=>(hF.co Z (by go_num) hF.cz)) ⟨H,by omega,Z,λe he=>absurd he O⟩ ?_
 clear H;rintro ⟨j,v1,ie⟩ w ⟨H',hI⟩;dsimp only at hI H' ⊢;have H:=H'.l10;have j8:=H.sy 0 (·.slc);obtain ⟨j2,d2,c8⟩:=hI;refine Z0 6 [0] Z (Af Z (λh1=>?_) (λh1=>?_))
 ·have i4:j<o.length:=by omega
  refine Zc 6 Z ?_;obtain ⟨x,hx⟩:∃x,o[j]?=some x:=⟨_,Aef U⟩;obtain ⟨j5,d3⟩:=(b0.2 x).1 (Aee hx);obtain ⟨n,rfl⟩:∃n:Nat,x=(n:Int):=⟨x.toNat,by omega⟩;rw[Ae6] at d3;obtain ⟨p,pv,g7,e6,e1,h0⟩:∃(p:Pg) (v:Value),g n=some p/\p.Ok/\rdH 1 v 240 (p.body.map u8) hq/\CP (a5.map PgE.ie) (n:Int)=some (.agg #[I p.kind,v]):=by
    rcases l.get n with ⟨q,_⟩|q
    · rw[q] at d3;cases d3
    · exact q
  have g8:Slc pv 240:=e1.slc;have d1:=(H.rv 1 (·.rd)).at (j:=j) (u:=I (n:Int)) (by simp[hx]);refine Ab Z (Ak Z (z:=1) (j:=j) (r:=j) J Z Z Z U d1 U) (Ab Z (Ay Z Z J (Az d1)) (Z2 11 [12,4,0] H Z (Ab Z (FP (e:=104) (zv:=.agg #[I 0,.slice none 0 0]) Z J J Z Z (Az (H.bk 3 Z))) (AB 26 (v:=.agg #[I p.kind,pv]) Z (by rw[h0];rfl) (Ab Z (Bg Z Z (out:=[I (n:Int),I p.kind,pv]) J) (AP Z (AO H Z J DB Z (by decide) (by decide) (out:=[I (n:Int),I p.kind,pv]) J) ?_))))));rintro _ w ⟨b1,rfl,H⟩;replace H:=H.l11;refine AP Z (AW 1 H Z Z J DB Z Z (H.rv 0 (·.rd U U O Z)) (Ad Z (Ad Z (Ad g8.one Aw))) U) ?_;rintro v2 w H';have H':Sep z (blk b1 [I (n:Int),I p.kind,pv] 161::grow 161 3 v2 (j+1) (Gq ie++[I (n:Int),I p.kind,pv])::grow 3 1 (.slice c0 o.length c3) o.length (o.map I)::blk bb [.map (some mo)] 134::AI mo (a5.map PgE.ie) a9::stB m pd pt x (Y pl) md un (.map (some mo))::lgB pl pd pt sL t q u b nu::tblA pt::diskA pd D::pgsA md (ov rs) hq::poolA hq::R) w:=H';have h6:(Gq ie++[I (n:Int),I p.kind,pv]:List Value)=Gq (ie++[(⟨(n:Int),p.kind,p.body⟩,pv)]):=Od ie (⟨(n:Int),p.kind,p.body⟩,pv);rw[h6] at H';have H:=H'.l11;refine Z1 8 [] [(j:Int)+1] Z U ?_;replace H:=H.d;refine gf ?_;intro _ hF;refine ⟨⟨j+1,v2,ie++[(⟨(n:Int),p.kind,p.body⟩,pv)]⟩,hF.cz,⟨H,?_⟩,?_⟩
  ·dsimp only
   refine ⟨by omega,by rw[AeH,d2,<-PE hx g7];rfl,λe he=>?_⟩;rcases Aer.1 he with q|q
   ·exact c8 e q
   rw[Afn.1 q];show rdH 1 pv p.body.length _ _;rw[e6.2];exact e1
  (dsimp only;omega)
 obtain rfl:j=o.length:=by omega
 refine Zc 2 Z (gx (Zc 3 Z ?_));replace H:=H.f9;obtain ⟨f,⟨a,e3⟩,H⟩:=DX H (λh q=>q.rd);replace H:=H.l9;have e0:ie.map Prod.fst=Cs g o:=by rw[d2];exact Ael U
 have g0:imgsH v1 (Cs g o) f:=⟨ie,e0,by rw[h9];exact e3,c8.le a⟩;replace H:=(H.mono 8 (B:=pgsA md (ov rs) f) Z (pgsA.le a)).l9;have d0:nu=true:=by rw[d6];have:=hS.s.epoch;simp;omega
 refine Z2 6 [9,4,0] H Z (Ar Z (call162 _) (MM sL x (Cs g o) (λh q=>g0.le q) D hS b5 hL.1 hL.2.1 hL.2.2 c2 d6 ⟨e2,by omega⟩ c7) H.f7.f7.f7 ?_);rintro _ w _ (⟨Da,a3,q3,u3,g3,g5,a8,b7,b3,c1,d7,d9,rfl,rfl⟩|⟨cq,a7,hv,rfl⟩|⟨Df,a6,b6,a8,b9,rfl,rfl⟩) H'
 ·have H:=H'.l9;subst d7;subst d9;refine Z0 18 [3] Z (Zr Z ?_);replace H:=(H.toPgsc 6 Z (l.le a) a1).l9
  subst b7;exact ⟨_,.inl ⟨o,f,Da,x,B,rs,a3,_,sure,b0,a,a8,Z,.inl Z,b3,c1,Z,Z⟩,H.perm 9 [7,0,1,2,8,6,3] Z Z⟩
 ·have H:=H'.l9;obtain ⟨g1,h8⟩:=TA a7 e9 c9;subst g1;subst hv;refine Z0 16 [4] Z (Ar Z (call76 _) (I7 hS hL U c7) H.f3.f8.f4.f4.f4.f8 ?_);rintro _ w _ (⟨g2,b7,i2,rfl,rfl⟩|⟨D2,i8,b8,c4,a4,d8,rfl,rfl⟩|⟨j7,D2,a0,b4,c5,⟨b8,i5⟩,a4,c6,rfl,rfl⟩) H'
  ·(obtain rfl:=Qw g2 (λj r h=>(hP.recs j r h).2.1.1);exact absurd ⟨by rw[b7,if_neg (by decide)];have k1:u=0:=h7;omega,d0,by omega⟩ h8)
  ·have H:=H'.l9;refine Z2 23 [3,9,0,0] H Z (Ar Z (call162 _) (MM sL (Eg x t q) (Cs g o) (λh q=>g0.le q) D2 b8 b5 hL.1 hL.2.1 hL.2.2 (by rw[a4];exact c2) d6 ⟨e2,by omega⟩ (λi=>by rw[d8];simp)) H.f5.f4.f4.f4 ?_);rintro _ w _ (⟨Da,a3,q3,u3,g3,g5,a8,b7,b3,c1,d7,d9,rfl,rfl⟩|⟨cq,a7,hv,rfl⟩|⟨Df,a6,b6,a8,b9,rfl,rfl⟩) H'
   ·have H:=H'.l9;subst d7;subst d9;refine Zc 4 Z (Zr Z ?_);replace H:=(H.toPgsc 8 Z (l.le a) a1).l9
    exact ⟨_,.inl ⟨o,f,Da,_,_,[],a3,_,0,b0,a,a8,Z,.inr Z,λhc=>b3 (c4 hc),⟨c1.1.trans a4,λi=>by have h1:=c1.2 i;rw[d8] at h1;simp at h1;omega⟩,Z,Z⟩,H.perm 9 [4,0,1,2,5,8,3] Z Z⟩
   ·exact absurd ⟨by rw[if_neg (by decide)];have:=g9.2.2.2.2.1;omega,d0,by omega⟩ (TA a7 e9 c9).2
   have H:=H'.l9;refine Zc 4 Z (Zr Z ?_);replace H:=(H.toPgsc 8 Z (l.le a) a1).l9;exact ⟨_,.inr ⟨_,f,Df,_,_,[],a6,t,q+1,0,true,0,by decide,.inl (λhc=>b6 (c4 hc)),a,a8,Z,.inr Z,⟨b9.1.trans a4,λi=>by have h1:=b9.2 i;rw[d8] at h1;simp at h1;omega⟩,by omega,Z,Z⟩,H.perm 9 [4,0,1,2,5,8,3] Z Z⟩
  have H:=H'.l9;refine Z0 15 [0] Z (Af Z (λh2=>?_) (λh2=>?_))
  ·exact absurd h2 b4
  refine Z0 6 [0] Z (Af Z (λh3=>?_) (λh3=>?_))
  ·refine Zc 6 Z (Zr Z ?_);replace H:=(H.toPgsc 8 Z (l.le a) a1).l9
   exact ⟨_,.inr ⟨_,f,D2,x,B,rs,ptl,t,q,u,b,a0,by first|decide|exact b4,c5,a,b8,rfl,.inl rfl,⟨a4,λi=>by have:=c6 i;omega⟩,by omega,Z,Z⟩,H.perm 9 [0,1,2,3,4,8,5] Z Z⟩
  refine Zc 7 Z (Zr Z ?_);replace H:=(H.toPgsc 8 Z (l.le a) a1).l9;exact ⟨_,.inr ⟨_,f,D2,x,B,rs,ptl,t,q,u,b,a0,by first|decide|exact b4,c5,a,b8,rfl,.inl rfl,⟨a4,λi=>by have:=c6 i;omega⟩,by omega,Z,Z⟩,H.perm 9 [0,1,2,3,4,8,5] Z Z⟩
 have H:=H'.l9;refine Z0 18 [3] Z (Zr Z ?_);replace H:=(H.toPgsc 6 Z (l.le a) a1).l9;exact ⟨_,.inr ⟨_,f,Df,x,B,rs,a6,t,q+1,u,true,sure,by decide,.inl b6,a,a8,Z,.inl Z,b9,by omega,Z,Z⟩,H.perm 9 [7,0,1,2,8,6,3] Z Z⟩
def I8(f g:BF)(S:List IE):BF:=λi=>if (i:Int)∈S.map (λp:IE=>p.1) then g i else f i
theorem VM(f g:BF):I8 f g []=f:=by funext i;simp[I8]
theorem TD{f g:BF}{S:List IE}{p:Pg}{q:IE}(hq:q.1=(n:Int))(a:g n=some p):I8 f g (S++[q])=pgSet (I8 f g S) n p:=by
 funext i;unfold I8 pgSet;simp only[AeH,AeL,AfB,Aer,Afn,hq];by_cases h:i=n
 ·subst h;simp[a]
 have:¬((i:Int)=(n:Int)):=by omega
 simp only[this,or_false,h,if_false]
theorem VN{f g:BF}{es:List PgE}{hq:Hp}{S:List IE}(h:PgsIn g es m hq)(s:Cm (es.map PgE.ie) (S.map λp:IE=>p.2.2)=[])(l:∀p∈S,p∈es.map PgE.ie):I8 f g S=Hu f g:=by
 funext i;unfold I8 Hu;by_cases hi:(i:Int)∈S.map (λp:IE=>p.1)
 ·rw[if_pos hi]
  obtain ⟨p,hp,e⟩:=Aem.1 hi;obtain ⟨b,a,rfl⟩:=Aem.1 (l p hp);have c:=(h.ent b a).1;have:b.n=i:=by have:(b.n:Int)=i:=e;omega
  rw[this] at c;rw[c];rfl
 rw[if_neg hi]
 cases hg:g i with
 | none=>rfl
 | some p=>
  exfalso;obtain ⟨b,a,t⟩:=h.all i p hg;have o:b.ie∈es.map PgE.ie:=AeB a;by_cases q:b.born∈S.map λp:IE=>p.2.2
  ·obtain ⟨p',d,r⟩:=Aem.1 q
   obtain ⟨e1,k,rfl⟩:=Aem.1 (l p' d);obtain ⟨v,c⟩:=Ae4 a;obtain ⟨u,j⟩:=Ae4 k;have:=Gb h.born c j r.symm;subst this;rw[c] at j;cases j;exact hi (Aem.2 ⟨_,d,by show (b.n:Int)=i;omega⟩)
  have:b.ie∈Cm (es.map PgE.ie) (S.map λp:IE=>p.2.2):=by
   simp only[Cm,Afd];exact ⟨o,by simpa [PgE.ie] using q⟩
  rw[s] at this;cases this
theorem Kj(f g:BF)(B:Nat->Pg):pgMap (Hu f g) B=λi=>(g i).getD (pgMap f B i):=by
 funext i;unfold pgMap Hu;cases g i<;>rfl
theorem Y2{f g:BF}{k:Nat}:Aj 108 [.map (some m),.map (some i)] [pgsA m f h,Ew i g k h] (λv G=>v=.tuple #[]/\G=[pgsA m (Hu f g) h,Ew i g k h]):=by
 intro z R w H;replace H:=H.l2;obtain ⟨es,clk,b0,H⟩:=H.pgs 0 Z;replace H:=H.l2;obtain ⟨c,a,b,a6,H⟩:=H.pgsc 1 Z;replace H:=H.l2;have a4:∀p∈c.map PgE.ie,p.2.2<a:=λp hp=>by obtain ⟨e,he,rfl⟩:=Aem.1 hp;exact b.clk e he
 have hn:((c.map PgE.ie).map λp:IE=>p.2.2).Nodup:=by rw[Afp];exact b.born
 refine Ae func108 Z ntmps108 Z (Zc 3 Z (AP Z (HK 1 (e:=104) H Z Z J Z) ?_));rintro _ w ⟨rr,rfl,H⟩;replace H:=H.l3;refine Zc 3 Z ?_;refine AD (σ:=List IE×List PgE×Nat) (λ⟨S,r,s⟩=>[(0,.map (some m)),(7,Y rr)])
   (λ⟨S,r,s⟩ w=>Sep z (GM rr i a (S.map λp:IE=>p.2.2)::AI m (r.map PgE.ie) s::AI i (c.map PgE.ie) a::R) w/\((∀p∈S,p∈c.map PgE.ie)/\PgsIn (I8 f g S) r s h)) (λ⟨S,r,s⟩=>(Cm (c.map PgE.ie) (S.map λp:IE=>p.2.2)).length) ⟨[],es,clk⟩
   (λ_ hF=>(hF.all Z)) ⟨H,λp hp=>absurd hp O,by rw[VM];exact b0⟩ ?_
 clear H;rintro ⟨S,r,s⟩ w ⟨H',hI⟩;dsimp only at hI H' ⊢;have H:=H'.l3;obtain ⟨hS,a2⟩:=hI;refine Zc 2 Z (AP Z (IW 0 2 H Z Z Z Z a4) ?_);rintro _ w ⟨qx,rfl,x,H⟩;replace H:=H.l3;refine Ab Z (KL Z Z) (Zc 3 Z (Es Z (λh1=>?_) (λh1=>?_)))
 ·obtain ⟨p1,rfl⟩:=Afa.1 h1;refine Zc 5 Z ?_;obtain ⟨⟨o,l,j,u⟩,y,rfl⟩:=Aem.1 (C7 x).1;obtain ⟨a7,a5,a0⟩:=b.ent _ y;dsimp only at a7 a5 a0
  have a8:Slc j 240:=a0.slc;obtain ⟨a3,a9,a1,_⟩:=a2.put (k:=o) (p:=l) (v:=j) a5 a0;refine Ab Z (HL (p:=(PgE.ie ⟨o,l,j,u⟩)) Z Z (Az ⟨H.bk 0 Z,H.bk 2 Z⟩) (AeB y) hn) (Za 2 [] H Z ?_);intro b1 w H;refine Zc 1 Z (AC Z Z (Al 0 H Z Z Z Z (vs:=[I l.kind,j]) Z (Ad Z (Ad a8.one Aw)) J O (out:=[I l.kind,j]) Z) ?_);rintro w H;replace H:=H.l4;refine Z2 6 [0,2] H Z (AC Z Z (DP 2 (e:=104) H Z Z J Z Z Z) ?_);rintro w H;replace H:=H.l4;refine Zc 1 Z ?_;have H':=H;have H:Sep z (blk b1 [I l.kind,j] 104::GM rr i a (JV (S.map λp:IE=>p.2.2) (some (PgE.ie ⟨o,l,j,u⟩)))::AI m (E6 (r.map PgE.ie) (o:Int) (.agg #[I l.kind,j]) s) (putC (r.map PgE.ie) (o:Int) s)::AI i (c.map PgE.ie) a::R) w:=H';clear H';rw[a9] at H;have H:Sep z (blk b1 [I l.kind,j] 104::GM rr i a (JV (S.map λp:IE=>p.2.2) (some (PgE.ie ⟨o,l,j,u⟩)))::AI m (a3.map PgE.ie) (putC (r.map PgE.ie) (o:Int) s)::AI i (c.map PgE.ie) a::R) w:=H;refine Zc 1 Z ?_;replace H:=H.d;refine gf ?_;intro _ hF;refine ⟨⟨S++[(PgE.ie ⟨o,l,j,u⟩)],a3,putC (r.map PgE.ie) (o:Int) s⟩,(hF.all Z),⟨(by dsimp only;rw[AeH];exact H),?_⟩,?_⟩
  ·refine ⟨λp hp=>?_,?_⟩
   ·rcases Aer.1 hp with hp|hp
    ·exact hS p hp
    simp at hp;subst hp;exact AeB y
   dsimp only;rw[TD (n:=o) (p:=l) (q:=(PgE.ie ⟨o,l,j,u⟩)) Z a7];exact a1
  (dsimp only;have:=ED x;rwa[show (S++[(PgE.ie ⟨o,l,j,u⟩)]).map (λp:IE=>p.2.2)=(S.map λp:IE=>p.2.2)++[u] from by simp[PgE.ie]])
 obtain rfl:qx=none:=by simpa using h1
 refine Zc 2 Z (gx (Zc 1 Z (Zf Z ?_)));have t:=a2;rw[VN b x hS] at t;replace H:=(H.toPgs 1 Z t).l3;replace H:=(H.toPgsc 2 Z b a6).l3;exact ⟨_,⟨Z,Z⟩,H.perm 3 [1,2] Z Z⟩
theorem LY{x:Sup}{c:Value}:Xq prog 106 [Y n] [stB n m i x y j b c] (λv G=>v=.tuple #[]/\G=[stB n m i x y j false (.map none)]):=by
 intro z R u w a;have H:=a.l1;refine NV func106 Z 8 ntmps106 Z (AJ (Mw 4 [11] Z J (F4 Z Z (AcY 0 H Z Z Z Z Z Z J) ?_)));rintro w a;have H:=a.l1;refine Mw 2 [12] Z J (F4 Z Z (AcZ 0 H Z Z Z Z Z Z J) ?_);rintro w a;have H:=a.l1;refine AS (dn0 Z ?_);exact ⟨[stB n m i x y j false (.map none)],⟨Z,Z⟩,H⟩
set_option maxHeartbeats 4000000 in
theorem VO (ps pd j o md mo:Nat) (x s:Sup) (nu:Bool) (hq:Hp) (g:BF) (k:Nat) (D:Dsk) (B:Nat->Pg) (rs:List Rc) (ptl:List (List UInt8)) (a q u:Int) (b:Bool) (sure:Nat) (hS:SInv D x B rs ptl a q u b sure) (hL:s.start=x.start/\s.len=x.len/\s.epoch=x.epoch) (b1:s.Ok (D.n:Int)) (c6:nu=decide (s.epoch<4294967296)) (c3:q<1099511627775) (b4:∀i,(D.ver i).length<=1000000000000) (b7:∀n,(g n).isSome=true->(n:Int)<x.pages) (hk:k<=40):Aj 60 [Y ps] [stB ps pd j x (Y o) md true (.map (some mo)),lgB o pd j s a q u b nu,tblA j,diskA pd D,pgsA md (ov rs) hq,Ew mo g k hq,poolA hq] (λv G=>(k=0/\v=I 0/\G=[stB ps pd j x (Y o) md false (.map none),lgB o pd j s a q u b nu,tblA j,diskA pd D,pgsA md (ov rs) hq,poolA hq])\/(1<=k/\∃(d:Hp) (r:Dsk) (x2:Sup) (B2:Nat->Pg) (l:List Rc) (a2 t:Int) (f:Nat),CK hq d/\SInv r x2 B2 l [] a2 (q+1) t false f/\(pgMap (ov l) B2=pgMap (Hu (ov rs) g) B/\∀n,(g n).isSome=true->(ov l n).isSome=true)/\(x2=x\/x2=Eg x a q)/\(Clean D->Clean r)/\(r.n=D.n/\∀i,(r.ver i).length<=(D.ver i).length+2)/\v=I 0/\G=[stB ps pd j x2 (Y o) md false (.map none),lgB o pd j s a2 (q+1) t false nu,tblA j,diskA pd r,pgsA md (ov l) d,poolA d])\/(1<=k/\∃(c:Int) (d:Hp) (r:Dsk) (x2:Sup) (B2:Nat->Pg) (l:List Rc) (a0:List (List UInt8)) (a2 q2 t:Int) (b2:Bool) (f:Nat),c≠0/\(¬Clean D\/1099511627776<x.gen+1)/\CK hq d/\SInv r x2 B2 l a0 a2 q2 t b2 f/\pgMap (ov l) B2=pgMap (ov rs) B/\(x2=x\/x2=Eg x a q)/\(r.n=D.n/\∀i,(r.ver i).length<=(D.ver i).length+2)/\(q<=q2/\q2<=q+1)/\v=I c/\G=[stB ps pd j x2 (Y o) md false (.map none),lgB o pd j s a2 q2 t b2 nu,tblA j,diskA pd r,pgsA md (ov l) d,poolA d])):=by
 intro z R w m;have H:=m.l7;have c9:=hS.ok.2;have c0:∀n,(g n).isSome=true->n<1024:=λn h=>by have:=b7 n h;omega
 obtain ⟨c7,c8,a3,a4,m⟩:=H.pgsc 5 Z;clear H;have H:=m.l7;have c2:∀n p,g n=some p->p.Ok:=λn p h=>a3.okp h;have d0:(c7.map PgE.ie).length=k:=by simp[a4]
 refine SV func60 Z 30 ntmps60 Z (A0 (AJ (B3 1 Z Z (AS (A0 (A0 (AJ (Gn 5 [11,0] (AR (H.blk 0 Z) AN) Z J Z (AS (EC Z (DH (A0 (AJ ?_)))))))))))));refine B3 1 Z Z (LQ Z Z Z Z (AS (A0 (A0 (AJ (Gn 4 [12,0] (AR (H.blk 0 Z) AN) Z J Z (s_do Z Z Z (NW (e:=104) Z J Z (Az (H.bk 5 Z))) (B3 1 Z Z (AS (Gv Z (λh1=>?_) (λh1=>?_)))))))))))
 ·refine A0 (AJ (B3 1 Z Z (AS (D9 ?_))));intro a_ hF;unfold Jr;rw[hF.defers];refine GN (λw=>call106 _ w) (LY) H 7 [0,1,2,3,4,5,6] Z Z ?_;rintro _ w _ ⟨rfl,rfl⟩ m;clear H;have H:=m.l7;refine Rw hF (rs:=[.tmp 2]) Z [I 0] ⟨Z,trivial⟩ (v:=I 0) Z ?_;exact ⟨[stB ps pd j x (Y o) md false (.map none),lgB o pd j s a q u b nu,tblA j,diskA pd D,pgsA md (ov rs) hq,poolA hq],.inl ⟨by omega,Z,Z⟩,H.perm 7 [0,1,2,3,4,6] Z Z⟩
 refine DH (A0 (A0 ?_));have c1:1<=k:=by omega
 have m:=H.toPgsc 5 Z a3 a4;have H:=m.l7;refine AJ (B3 1 Z Z (Fw Z Z Z Z Z (λw=>call107 _ w) (TC hS hL b1 c6 c3 b4 b7 U) H Z ?_));rintro _ w _ (⟨ks,d,r,x2,B2,a1,a2,t,f,b6,y,a6,a9,a8,b3,b0,rfl,rfl⟩|⟨c4,d,r,x2,B2,l,a0,a2,q2,t,b5,f,a5,b8,y,a6,a9,a8,b0,b9,rfl,rfl⟩) m
 ·have H:=m.l7;refine B3 1 Z Z (AS (A0 (AJ (B3 2 Z Z (AdE 19 Z Z (AS (EC Z (DH (A0 (AQ (Sep z (stB ps pd j x2 (Y o) md true (.map (some mo))::R)) 9 Z J (A4 H λw m=>?_)))))))))))
  have H:=m.l7;refine a_L [0,1,2,3,4,5,6,7] [10,0,12,0] (λ_ hx=>(AR (hx.blk 0 Z) AN)) (by exact H.pick 7 [0] Z) Z J Z Z (AE [8] J O (Am (Bt Z Z Z Z Z Z (λw=>call108 _ w) (Y2) H.f5.f5 Z ?_)));rintro _ w _ ⟨rfl,rfl⟩ m;have H:=m.l7;refine Ax (H.pick 7 [2] Z) (a_done J (A0 (AJ (B3 1 Z Z (AS (D9 ?_))))));intro a_ hF;unfold Jr;rw[hF.defers];refine GN (λw=>call106 _ w) (LY) H 7 [2,0,1,3,4,5,6] Z Z ?_;rintro _ w _ ⟨rfl,rfl⟩ m;clear H;have H:=m.l7;refine Rw hF (rs:=[.tmp 2]) Z [I 0] ⟨Z,trivial⟩ (v:=I 0) Z ?_;have a7:Hu (ov a1) g=ov (a1++[⟨q,Cs g ks⟩]):=by rw[Jw,RO b6 (MN b6 c2 c0)]
  rw[a7] at H;have H:Sep z (stB ps pd j x2 (Y o) md false (.map none)::pgsA md (ov (a1++[⟨q,Cs g ks⟩])) d::Ew mo g k d::lgB o pd j s a2 (q+1) t false nu::tblA j::diskA pd r::poolA d::R) w:=H;exact ⟨[stB ps pd j x2 (Y o) md false (.map none),lgB o pd j s a2 (q+1) t false nu,tblA j,diskA pd r,pgsA md (ov (a1++[⟨q,Cs g ks⟩])) d,poolA d],.inr (.inl ⟨c1,d,r,x2,B2,_,a2,t,f,y,a6,⟨by rw[<-a7,Kj,Kj,a9],λn hn=>by rw[<-a7];obtain ⟨p_,c5⟩:=Afa.1 hn;simp[Hu,c5]⟩,a8,b3,b0,Z,Z⟩),H.perm 7 [0,3,4,5,1,6] Z Z⟩
 have H:=m.l7;refine B3 1 Z Z (AS (A0 (AJ (B3 2 Z Z (AS (Gv Z (λh2=>?_) (λh2=>?_)))))))
 ·refine A0 (AJ (B3 2 Z Z (AS (D9 ?_))));intro a_ hF;unfold Jr;rw[hF.defers];refine GN (λw=>call106 _ w) (LY) H 7 [0,1,2,3,4,5,6] Z Z ?_;rintro _ w _ ⟨rfl,rfl⟩ m;clear H;have H:=m.l7;refine Rw hF (rs:=[.tmp 2]) Z [I c4] ⟨Z,trivial⟩ (v:=I c4) Z ?_;exact ⟨[stB ps pd j x2 (Y o) md false (.map none),lgB o pd j s a2 q2 t b5 nu,tblA j,diskA pd r,pgsA md (ov l) d,poolA d],.inr (.inr ⟨c1,_,d,r,x2,B2,l,a0,a2,q2,t,b5,f,a5,b8,y,a6,a9,a8,b0,b9,Z,Z⟩),H.perm 7 [0,1,2,3,4,6] Z Z⟩
 exact absurd a5 h2
section
def Ds(x:Sup):Sup:= {x with gen:=x.gen+1,epoch:=x.epoch+1,head:=0,seq:=1}
theorem Xz(x:Sup):(Ds x).gen=x.gen+1/\(Ds x).epoch=x.epoch+1/\(Ds x).pages=x.pages/\(Ds x).start=x.start/\(Ds x).len=x.len/\(Ds x).head=0/\(Ds x).seq=1:=⟨Z,Z,Z,Z,Z,Z,Z⟩
def Add(D:Dsk)(s:Sup)(a q u:Int):Prop:=s.len<=u\/∀ims,¬nextP (Dj D s a) s.epoch q (s.len-u) ims
structure OInv(D:Dsk)(x:Sup)(B:Nat->Pg)(Gd:List Rc->Prop):Prop where
 ok:x.Ok (D.n:Int)
 s:SOk x
 gen:1<=x.gen
 ver:∀i,D.ver i=[]
 sup:D.dur (x.gen%2).toNat=DE x
 oth:∃y:Sup,y.Ok (D.n:Int)/\y.gen=x.gen-1/\D.dur ((x.gen+1)%2).toNat=DE y
 tags:∀i:Nat,2+x.pages<=(i:Int)->∀e q,Tg (D.dur i) e q->e<=x.epoch
 read:∀(got:List Rc) (a q u:Int),Runs D x x.head x.seq 0 got a q u->Add D x a q u->Gd got
 recs:∀got,Gd got->∀r∈got,(1<=r.ims.length/\r.ims.length<=40)/\∀m∈r.ims,m.Ok/\m.num<x.pages
 gd:∀got,Gd got->∀i:Nat,(i:Int)<x.pages->ov got i=none->HomeP (D.dur (2+i)) i (B i)
theorem RP{rs:List Rc}(a:i<=m)(h:(ov (rs.take i) n).isSome=true):(ov (rs.take m) n).isSome=true:=by
 have:=Gm ((rs.take m).drop i) _ (show (ov ((rs.take m).take i) n).isSome=true by rw[AeF,AeG a];exact h);rwa[AeP] at this
theorem SInv.crashed{D D':Dsk}{x:Sup}{B:Nat->Pg}{rs:List Rc}{ptl:List (List UInt8)}{a u:Int}{sure:Nat}(h:SInv D x B rs ptl a q u b sure)(hq:q<=1099511627776)(l:Crashed D D'):OInv D' x B (λf=>sure<=f.length/\f.length<=rs.length/\f=rs.take f.length):=by
 have hg:=h.gen;refine ⟨by rw[l.n];exact h.ok,h.s,hg,l.ver,?_,?_,λi hi e q' ht=>h.tags hq hi (l.dur i) ht,λf a' q' u' t v=>h.p.read h.s l hq t v,λf k r t=>?_,λf k i hi ho=>?_⟩
 ·rcases l.dur (x.gen%2).toNat with g|g
  ·rw[g];exact h.sup.1
  rw[h.sup.2] at g;cases g
 ·obtain ⟨y,a,b,c,d⟩:=h.oth
  refine ⟨y,by rw[l.n];exact a,b,?_⟩;rcases l.dur ((x.gen+1)%2).toNat with g|g
  ·rw[g];exact c
  rw[d] at g;cases g
 ·rw[k.2.2] at t
  have o:=Afh t;obtain ⟨j,hj⟩:=Ae4 o;obtain ⟨_,h2,z⟩:=h.p.recs j r hj;exact ⟨h2,λm w=>⟨z m w,h.num r o m w⟩⟩
 rcases h.home i hi _ (l.dur _) with g|⟨g,_⟩
 ·exact g
 have:=RP k.1 g;rw[<-k.2.2,ho] at this;cases this
variable{D:Dsk}{x:Sup}{B:Nat->Pg}{Gd:List Rc->Prop}
theorem OInv.ovb(h:OInv D x B Gd){a:List Rc}(b:Gd a)(e:(ov a n).isSome=true):(n:Int)<x.pages:=by
 obtain ⟨p,hp⟩:=Afa.1 e;obtain ⟨r,d,m,c,f,_⟩:=KU _ a Z hp;have g:=((h.recs a b r d).2 m c).2;have i:=h.ok.2;omega
theorem OInv.ovok(h:OInv D x B Gd){a:List Rc}(b:Gd a){p:Pg}(e:ov a n=some p):p.Ok:=by
 obtain ⟨r,d,m,c,_,rfl⟩:=KU _ a Z e;exact Qi ((h.recs a b r d).2 m c).1
theorem OInv.opened(h:OInv D x B Gd){a:List Rc}(u:Gd a)(g:Fc (ov a) l)(k:(Ds x).Ok (D.n:Int))(he:x.epoch+1<4294967296):
  SInv (Fk (hwD D (pgLst (ov a) l)).fl (Ds x)) (Ds x) (pgMap (ov a) B) [] [] 0 1 0 false 0:=by
 have hk:=h.ok.2;have a0:=h.gen;have hf:=Xz x;have m:=h.s;have t:SOk (Ds x):=⟨by rw[hf.2.2.2.1];exact m.start,by have:=m.head;omega,by have:=m.epoch;omega,by omega⟩;have q:∀y∈pgLst (ov a) l,(y.1:Int)<x.pages:=λy k=>h.ovb u (by rw[(Ey g y.1 y.2).1 k];rfl);have d:∀i c,Dp (Fk (hwD D (pgLst (ov a) l)).fl (Ds x)) i c->i≠((Ds x).gen%2).toNat->c=(hwD D (pgLst (ov a) l)).cont i:=λi c b hi=>by
  have f:=ET (hwD D (pgLst (ov a) l)).fl (Ds x) i hi;unfold Dp at b;rw[f.1,f.2] at b;rcases b with b|b
  ·exact b
  cases b
 have o:∀i:Nat,i<2->(hwD D (pgLst (ov a) l)).cont i=D.dur i:=λi hi=>by
  rw[hw_cont_out _ D i (λy _ e=>by omega)];exact EJ (h.ver i)
 refine ⟨by show (Ds x).Ok ((hwD D _).n:Int);rw[Fb];exact k,?_,t,by omega,λr hr=>(by cases hr),λi hi c b=>.inl ?_,HO _ _,?_,λi hi hr c b e v w=>?_⟩
 ·have:=PInv.fresh (D:=Fk (hwD D (pgLst (ov a) l)).fl (Ds x)) t (λi h1 h2 c b e v w=>?_)
  ·rw[hf.2.2.2.2.2.1,hf.2.2.2.2.2.2] at this;exact this
  have hi:=d i c b U;rw[hw_cont_out _ D i (λy k e=>by have:=q y k;omega),EJ (h.ver i)] at hi;subst hi;have:=h.tags i U e v w;omega
 ·have j:=d (2+i) c b U
  subst j;unfold pgMap
  cases f:ov a i with
  | some p=>
   have hm:(i,p)∈pgLst (ov a) l:=(Ey g i p).2 f;rw[Xs D (EW g) (i,p) hm];exact .inr ⟨h.ovok u f,Z⟩
  | none=>
   rw[hw_cont_out _ D _ (λz hz e=>by
    have:=(Ey g z.1 z.2).1 hz;rw[show z.1=i from by omega,f] at this;cases this),EJ (h.ver _)]
   exact h.gd a u i U f
 ·refine ⟨x,by show x.Ok ((hwD D _).n:Int);rw[Fb];exact h.ok,by omega,?_⟩
  have f:=ET (hwD D (pgLst (ov a) l)).fl (Ds x) (((Ds x).gen+1)%2).toNat U;refine ⟨?_,by rw[f.2];rfl⟩;rw[f.1];show (hwD D (pgLst (ov a) l)).cont _=_;rw[o _ U,show ((Ds x).gen+1)%2=x.gen%2 from by omega];exact h.sup
 have j:=d i c b U;rw[hw_cont_out _ D i (λy k e=>by have:=q y k;omega),EJ (h.ver i)] at j;subst j;have:=h.tags i U e v w;omega

def EX(D:Dsk):Nat->Dsk
 | 0=>D
 | k+1=>(EX D k).wr (2+k) [List.replicate 256 0]
theorem OC(D:Dsk):∀k,(EX D k).n=D.n
 | 0=>rfl
 | k+1=>by show ((EX D k).wr _ _).n=_;rw[Dsk.wr_n];exact OC D k
theorem Y3(n i:Nat):(EX (Cv n) m).cont i=List.replicate 256 0:=by
 induction m with
 | zero=>rfl
 | succ m ih=>
  show ((EX (Cv n) m).wr _ _).cont i=_;rw[wr_cont,ih];by_cases h:2+m<=i
  ·rw[if_pos h]
   rcases AgU (i-(2+m)) with e|e
   ·rw[e];rfl
   rw[AeK (by simp;omega)];rfl
  rw[if_neg h];rfl
theorem FU{D:Dsk}(h:Clean D):∀k,Clean (EX D k)
 | 0=>h
 | k+1=>(FU h k).wr _ _
theorem TE(n:Nat)(i:Nat):∀k,((EX (Cv n) k).ver i).length<=k
 | 0=>by simp[EX,Cv]
 | k+1=>by
  have h1:=Dsk.wr_len (EX (Cv n) k) (2+k) [List.replicate 256 0] i;have a:=TE n i k;show (((EX (Cv n) k).wr _ _).ver i).length<=_;omega
def CC(p s l g:Int):Sup:=⟨g,1,p,s,l,0,1⟩
def MO(n:Nat)(p s l:Int):Dsk:=Fk (Fk (EX (Cv n) p.toNat).fl (CC p s l 1)) (CC p s l 2)
theorem FD(n:Nat):Clean (Cv n):=⟨Z,Z,Z,Z⟩
theorem VP:Clean (MO n p s t):=((FU (FD n) _).fl.sv _).sv _
theorem VQ(n:Nat)(p s l:Int):(MO n p s l).n=n:=OC _ _
theorem TF(i:Nat):(MO n p s t).ver i=[]:=HU (HU (λ_=>rfl) _) _ i
theorem OD(hi:2<=i):(MO n p s t).dur i=List.replicate 256 0:=by
 have a:=ET (Fk (EX (Cv n) p.toNat).fl (CC p s t 1)) (CC p s t 2) i (by show i≠((2:Int)%2).toNat;simp;omega);have b:=ET (EX (Cv n) p.toNat).fl (CC p s t 1) i (by show i≠((1:Int)%2).toNat;simp;omega);exact (a.1.trans b.1).trans (Y3 n i)
theorem Y4(c:(CC p s t 2).Ok (n:Int)):OInv (MO n p s t) (CC p s t 2) (λ_=>noPg) (λb=>b=[]):=by
 have o:(CC p s t 2).gen=2/\(CC p s t 2).epoch=1/\(CC p s t 2).pages=p/\(CC p s t 2).start=s/\(CC p s t 2).len=t/\(CC p s t 2).head=0/\(CC p s t 2).seq=1:=⟨Z,Z,Z,Z,Z,Z,Z⟩;have v:=Sup.get c;have w:=c.2;have f:SOk (CC p s t 2):=⟨by omega,by omega,by omega,by omega⟩;have d:∀z:Int,(MO n p s t).cont (ringAt (CC p s t 2) z)=List.replicate 256 0:=λz=>by
  have:=JD f z;rw[EJ (TF _)];exact OD U
 refine ⟨by rw[VQ];exact c,f,by omega,TF,(HO _ _).1,⟨CC p s t 1,?_,Z,?_⟩,λi j e q l=>?_,λb a q u h m=>?_,λb g r h=>?_,λb _ i hi _=>?_⟩
 ·rw[VQ]
  exact Sup.ok_mk (by show 0<=(1:Int)/\(1:Int)<=1099511627776;omega) (by show 0<=(1:Int)/\(1:Int)<=1099511627776;omega) (by show 16<=p/\p<=1024;omega) (by show 2+p<=s/\s<=1099511627776;omega) (by show 64<=t/\t<=1099511627776;omega) (by show 0<=(0:Int)/\(0:Int)<t;omega) (by show 0<=(1:Int)/\(1:Int)<=1099511627776;omega) (by show s<=n-t/\t<=n;omega)
 ·have j:=ET (Fk (EX (Cv n) p.toNat).fl (CC p s t 1)) (CC p s t 2) 1 (by show 1≠((2:Int)%2).toNat;decide)
  exact j.1.trans (HO (EX (Cv n) p.toNat).fl (CC p s t 1)).1
 ·rw[OD U] at l
  exact (Vc l).elim
 ·cases h with
  | nil=>rfl
  | snoc r hlt hn=>
   exfalso;have k:=hn.1;have e:∀z,Dj (MO n p s t) (CC p s t 2) z 0=List.replicate 256 0:=λz=>d (z+((0:Nat):Int));rw[e] at k;exact ME k
 ·subst g;cases h
 rw[OD U];exact .inl ⟨Z,Z⟩
end
theorem OInv.two{x:Sup}{B:Nat->Pg}{Gd:List Rc->Prop}(h:OInv D x B Gd):∃b a:Sup,b.Ok (D.n:Int)/\a.Ok (D.n:Int)/\b.gen%2=0/\a.gen%2=1/\D.cont 0=DE b/\D.cont 1=DE a/\x=if b.gen<a.gen then a else b:=by
 obtain ⟨y,d,g,c⟩:=h.oth;have hs:=h.sup;have i:=h.gen;have f:=EJ (h.ver 0);have c1:=EJ (h.ver 1);rcases (show x.gen%2=0\/x.gen%2=1 by omega) with e|e
 ·rw[show (x.gen%2).toNat=0 by omega] at hs
  rw[show ((x.gen+1)%2).toNat=1 by omega] at c;exact ⟨x,y,h.ok,d,e,by omega,f.trans hs,c1.trans c,by rw[if_neg U]⟩
 rw[show (x.gen%2).toNat=1 by omega] at hs;rw[show ((x.gen+1)%2).toNat=0 by omega] at c;exact ⟨y,x,d,h.ok,by omega,e,f.trans c,c1.trans hs,by rw[if_pos U]⟩
theorem AbH{x:Sup}(h:x.Ok t)(d:1<=x.gen)(b:x.gen+1<=1099511627776)(a:x.epoch+1<=1099511627776):(Ds x).Ok t:=by
 have hs:=Sup.get h;have c:=h.2;have e:=Xz x;exact Sup.ok_mk U U U U U U U U
theorem OE{rs:List Rc}{r:Rc}(h:rs[n]?=some r):EM (ov (rs.take n)) r.ims=ov (rs.take (n+1)):=by
 rw[AeM,h];exact (Jw _ _).symm
theorem M9{f:BF}{ims:List Img}{m:Img}(h:ims[n]?=some m):pgSet (EM f (ims.take n)) m.num.toNat (GT m)=EM f (ims.take (n+1)):=by
 rw[AeM,h];exact (Ve).symm
set_option maxHeartbeats 4000000 in
theorem sopen_c (pd:Nat) (D:Dsk) (x:Sup) (B:Nat->Pg) (Gd:List Rc->Prop) (hO:OInv D x B Gd) (b0:Clean D) (h0:x.gen+1<=1099511627776) (e7:x.epoch+1<4294967296):Aj 52 [Y pd] [diskA pd D] (λv G=>∃(ps pl b md:Nat) (hq:Hp) (D2:Dsk) (d3:List Rc),Gd d3/\SInv D2 (Ds x) (pgMap (ov d3) B) [] [] 0 1 0 false 0/\Clean D2/\D2.n=D.n/\(∀i,D2.ver i=[])/\v=.tuple #[Y ps,I 0]/\G=[stB ps pd b (Ds x) (Y pl) md false (.map none),lgB pl pd b (Ds x) 0 1 0 false (decide ((Ds x).epoch<4294967296)),tblA b,diskA pd D2,pgsA md Dq hq,poolA hq]):=by
 intro z R w H;obtain ⟨y0,y1,g0,e4,g1,e9,f8,e6,e8⟩:=hO.two;have b6:=hO.ok;have g8:=Sup.get b6;have h5:=b6.2;have e0:=hO.gen;have a2:(Ds x).Ok (D.n:Int):=AbH b6 e0 U U;refine Ae func52 Z ntmps52 Z (Zc 19 Z (Ar Z (call93 _) (Oo) H ?_));rintro _ w _ ⟨b,rfl,rfl⟩ H;refine AP Z (Ga H Z) ?_;rintro _ w ⟨m1,rfl,H⟩;refine Ab Z (Bg Z Z (out:=[Y pd,Y b,I 0,I 0,I 0,I 0,I 0,I 0,I 0,.pointer none,.map (some m1),.bool false,.map none]) J) (Za 0 [] H Z ?_);intro b2 w H;refine Z2 10 [1,0,0] H Z (z_E_ Z (call95 _) (AbG b0.f1 x y0 y1 g0 e4 g1 e9 f8 e6 e8) H.f2.f3 ?_);intro w H;refine Za 3 [] H Z ?_;intro b3 w H;refine Z4 24 [0,4,0,7,2,3] H Z ?_;intro w H;replace H:=H.f3;refine AQ (Sep z (stB b2 pd b x (.pointer none) m1 false (.map none)::blk b3 [I x.gen,I x.epoch,I x.pages,I x.start,I x.len,I x.head,I x.seq] 132::R)) 14 Z J (A4 H λw s=>?_);have H:=s.l5;refine AT [0,1,2,3,4,5] [1,0,0,1,7] [] (by exact H.pick 5 [0,1] Z) Z J Z (AE [6] J O (Am (Bt Z Z Z Z Z Z (λw=>call96 _ w) (Abt x b6 b0.f1) H.f2.f3 Z ?_)));rintro _ w _ ⟨a7,a,a5,q5,u5,v5,y,rfl,b7,a8,o,rfl⟩ H;obtain ⟨c4,c2,rfl⟩:=o.slc;obtain ⟨es2,c0,a0,d6⟩:=o;have g3:es2.length=a.length:=by rw[<-c0];simp
 have a6:=hO.read a a5 q5 u5 b7 a8;have f9:=hO.recs a a6;have g5:=a0.small;have d2:∀n,(ov a n).isSome=true->n<1024:=λn h=>by have:=hO.ovb a6 h;omega
 have d7:∀n,(ov a n).isSome=true->2+n<D.n:=λn h=>by have:=hO.ovb a6 h;omega
 have H:Sep z (poolA y::lgB a7 pd b x a5 q5 u5 false (decide (x.epoch<4294967296))::tblA b::diskA pd D::stB b2 pd b x (.pointer none) m1 false (.map none)::blk b3 [I x.gen,I x.epoch,I x.pages,I x.start,I x.len,I x.head,I x.seq] 132::AI m1 ([]) 0::R) w:=H;refine Ax (H.pick 7 [4,5] Z) (AT [7,8,9,10,11,12,13] [] [] (by exact H.pick 7 [4,5] Z) Z J Z (a_done J (gn (Z5 36 [4,0,5,0,0,5,1,5,0,1,5,0,5,0,0] [x.gen+1,x.epoch+1] H Z U ?_))));intro w H;refine An 62 Z (λh1=>U) (λh1=>?_);refine Z2 6 [1,5,0,0] H Z (Af Z (λh2=>U) (λh2=>?_));refine Zc 11 Z ?_;refine AD (σ:=Nat×List PgE×Nat) (λ⟨k,es,cl⟩=>[(69,I (k:Int)),(0,Y pd),(2,.pointer none),(3,I 0),(4,Y b2),(5,Y b3),(67,.slice c4 a.length c2),(68,I (a.length:Int))])
   (λ⟨k,es,cl⟩ w=>Sep z (poolA y::lgB a7 pd b x a5 q5 u5 false (decide (x.epoch<4294967296))::tblA b::diskA pd D::stB b2 pd b x (.pointer none) m1 false (.map none)::blk b3 [I (x.gen+1),I (x.epoch+1),I x.pages,I x.start,I x.len,I x.head,I x.seq] 132::AI m1 (es.map PgE.ie) cl::R) w/\(k<=a.length/\PgsIn (ov (a.take k)) es cl y)) (λ⟨k,es,cl⟩=>a.length-k) ⟨0,[],0⟩
   fr_z ⟨H,by omega,PgsIn.none _ _⟩ ?_
 clear H;rintro ⟨k,es,cl⟩ w ⟨s,hI⟩;dsimp only at hI s ⊢;have H:=s.l7;obtain ⟨g9,b8⟩:=hI;refine Z0 6 [0] Z (Af Z (λh3=>?_) (λh3=>?_))
 ·refine Zc 6 Z ?_;obtain ⟨⟨f,w1⟩,b1⟩:∃e:RcE,es2[k]?=some e:=⟨_,Aef U⟩;have e2:a[k]?=some f:=by rw[<-c0];simp[b1]
  obtain ⟨c5,c1,g,c7⟩:=d6 _ (Aee b1);dsimp only at c1 g;obtain ⟨a4,c3,rfl⟩:=g.slc;have g6:c5.length=f.ims.length:=by rw[<-c1];simp
  have g4:=g.small;have d1:=f9 _ (Aee e2);have c9:=(H.rv 0 (λq=>a0.le q)).at (LU b1 0 _ Z);refine Ab Z (Ak Z (z:=2) (j:=k) (r:=k*2) J Z Z Z U c9 U) (Ab Z (Bq Z Z (vs:=[I f.seq,.slice a4 f.ims.length c3]) J O (Az (λk u hk=>(H.rv 0 (λq=>a0.le q)).at (LU b1 k u hk)))) (Za 0 [] H Z ?_));intro b4 w H;refine Z4 12 [0,1,0,0] H Z ?_;intro w H;refine AD (σ:=Nat×List PgE×Nat) (λ⟨j,ei,ci⟩=>[(76,I (j:Int)),(0,Y pd),(2,.pointer none),(3,I 0),(4,Y b2),(5,Y b3),(10,Y b4),(67,.slice c4 a.length c2),(68,I (a.length:Int)),(69,I (k:Int)),(70,.bool (decide ((k:Int)<(a.length:Int)))),(71,GG c4 (k*2)),(72,.agg #[I f.seq,.slice a4 f.ims.length c3]),(73,.pointer (some ⟨b4,1,none⟩)),(74,.slice a4 f.ims.length c3),(75,I (f.ims.length:Int))])
    (λ⟨j,ei,ci⟩ w=>Sep z (blk b4 [I f.seq,.slice a4 f.ims.length c3] 159::poolA y::lgB a7 pd b x a5 q5 u5 false (decide (x.epoch<4294967296))::tblA b::diskA pd D::stB b2 pd b x (.pointer none) m1 false (.map none)::blk b3 [I (x.gen+1),I (x.epoch+1),I x.pages,I x.start,I x.len,I x.head,I x.seq] 132::AI m1 (ei.map PgE.ie) ci::R) w/\(j<=f.ims.length/\PgsIn (EM (ov (a.take k)) (f.ims.take j)) ei ci y)) (λ⟨j,ei,ci⟩=>f.ims.length-j) ⟨0,es,cl⟩
    fr_z ⟨H,by omega,b8⟩ ?_
  clear H;rintro ⟨j,ei,ci⟩ w ⟨s,hI⟩;dsimp only at hI s ⊢;have H:=s.l8;obtain ⟨h6,t⟩:=hI;refine Z0 6 [0] Z (Af Z (λh4=>?_) (λh4=>?_))
  ·refine Zc 6 Z ?_;obtain ⟨⟨⟨a3,l,d8⟩,u1⟩,m⟩:∃e:ImE,c5[j]?=some e:=⟨_,Aef U⟩;have d9:f.ims[j]?=some ⟨a3,l,d8⟩:=by rw[<-c1];simp[m]
   obtain ⟨⟨d5,c6⟩,b9,a1⟩:=(d1.2 _ (Aee d9)).1;dsimp only at d5 c6 b9 a1;obtain ⟨n,rfl⟩:∃n:Nat,a3=(n:Int):=⟨a3.toNat,by omega⟩;have a9:=c7 _ (Aee m);dsimp only at a9;rw[a1] at a9;have f0:=a9.slc;have c8:=(H.rv 1 (λq=>g.le q)).at (Jv m 0 _ Z);obtain ⟨d4,e5,e1,_⟩:=t.put (k:=n) (p:=⟨l,d8⟩) (v:=u1) ⟨b9,a1⟩ a9;refine Ab Z (Ak Z (z:=3) (j:=j) (r:=j*3) J Z Z Z U c8 U) (Ab Z (Bq Z Z (vs:=[I (n:Int),I l,u1]) J O (Az (λk u hk=>(H.rv 1 (λq=>g.le q)).at (Jv m k u hk)))) (Za 0 [] H Z ?_));intro b5 w H;refine AC Z Z (Al 0 H Z Z Z Z (vs:=[I (n:Int),I l,u1]) Z (Ad Z (Ad Z (Ad f0.one Aw))) J O (out:=[I (n:Int),I l,u1]) Z) ?_;rintro w H;refine Zc 2 Z ?_;replace H:=H.f6;refine AQ (Sep z (stB b2 pd b x (.pointer none) m1 false (.map none)::blk b5 [I (n:Int),I l,u1] 161::R)) 9 Z J (A4 H λw s=>?_);have H:=s.l9;refine AT [0,1,2,3,4,5,6,7] [10,0,0,0,1,0,1,1,2] [] (by exact H.pick 9 [0,1] Z) Z J Z (AE [8] J O (Am (Bj Z Z Z (DP 8 (e:=104) H Z Z J Z Z Z) ?_)));rintro w H;refine Ax (H.pick 9 [0,1] Z) (a_done J (gn ?_));rw[e5] at H;have H:Sep z (stB b2 pd b x (.pointer none) m1 false (.map none)::blk b5 [I (n:Int),I l,u1] 161::blk b4 [I f.seq,.slice a4 f.ims.length c3] 159::poolA y::lgB a7 pd b x a5 q5 u5 false (decide (x.epoch<4294967296))::tblA b::diskA pd D::blk b3 [I (x.gen+1),I (x.epoch+1),I x.pages,I x.start,I x.len,I x.head,I x.seq] 132::AI m1 (d4.map PgE.ie) (putC (ei.map PgE.ie) (n:Int) ci)::R) w:=H;refine Z1 6 [] [(j:Int)+1] Z U ?_;replace H:=H.f1.d.f7.f7.f2.f7.f7.f7.f7.f7;refine gf ?_;intro _ hF;refine ⟨⟨j+1,d4,putC (ei.map PgE.ie) (n:Int) ci⟩,hF.cz,⟨H,?_⟩,?_⟩
   ·dsimp only
    exact ⟨by omega,(M9 d9)▸e1⟩
   (dsimp only;omega)
  obtain rfl:j=f.ims.length:=by omega
  refine Zc 2 Z (gx (Z1 7 [] [(k:Int)+1] Z U ?_));replace H:=H.d;refine gf ?_;intro _ hF;refine ⟨⟨k+1,ei,ci⟩,hF.cz,⟨H,?_⟩,?_⟩
  ·dsimp only
   rw[Ael (Aek _),OE e2] at t;exact ⟨by omega,t⟩
  (dsimp only;omega)
 obtain rfl:k=a.length:=by omega
 have t:=b8;rw[Ael (Aek _)] at t;refine Zc 2 Z (gx (Z4 15 [5,5,6,5,5,7] H Z ?_));intro w H;replace H:=(H.toPgs 6 Z t).l7;refine Ar Z (call97 _) (I6 (ov a) (Ds x) D d2 d7 a2 (λi=>by rw[hO.ver];simp)) H.f6.f4.f4.f5 ?_;rintro _ w _ (⟨ks,d0,rfl,rfl⟩|⟨ks,c,D2,d0,g7,e3,rfl,rfl⟩) s
 ·have H:=s.l7;refine Z0 13 [4] Z ?_;replace H:=H.f6.f1;refine Bp (Sep z (stB b2 pd b (Ds x) (.pointer none) m1 false (.map none)::blk b3 [I (x.gen+1),I (x.epoch+1),I x.pages,I x.start,I x.len,I 0,I 1] 132::R)) 11 Z J (A4 H λw s=>?_)
  have H:=s.l7;refine Bv [0,1,2,3,4,5] [1,0] J (λ_ hx=>(AR (hx.blk 0 Z) AN)) (by exact H.pick 7 [0,1] Z) Z J Z Z (BG 6 J Z Z J J J Z Z Z (B0 Z Z (vs:=[I (x.gen+1),I (x.epoch+1),I x.pages,I x.start,I x.len,I 0,I 1]) J (λ_ hx=>(hx.blk 1 Z).part 0 7 _ Z)) (H.pick 7 [0,1] Z) (AF [7] J O (Am (Bt Z Z Z Z Z Z (λw=>call98 _ w) (Ql (Ds x) (by show (Ds x).Ok ((hwD D _).n:Int);rw[Fb];exact a2)) H.f3 Z ?_))));rintro _ w _ ⟨pl,rfl,rfl⟩ H;refine Au (λ_=>(H.pick 8 [2,3] Z)) (Bv [8,9] [9] J (λ_ _=>AN) (by exact H.pick 8 [2,3] Z) Z J Z Z (AF [10] J O (Am (Bj Z Z Z (AdI 2 H Z Z Z Z Z Z J) ?_))));rintro w H;refine Au (λh=>absurd Z h) (Bo J (gn (Zc 9 Z (Zr Z ?_))));exact ⟨_,⟨b2,pl,_,m1,_,_,a,a6,hO.opened a6 d0 a2 e7,(((b0.hw _).fl).sv _),by show (hwD _ _).n=_;exact Fb _ _,HU (λ_=>rfl) _,Z,Z⟩,H.perm 8 [2,0,4,1,5,6] Z Z⟩
 exact absurd e3 b0.setF
theorem Y5(n k:Nat):wr1 (EX (Cv n) k) false ((2:Int)+(k:Int)).toNat (List.replicate 256 0)=EX (Cv n) (k+1):=by
 rw[show ((2:Int)+(k:Int)).toNat=2+k from by omega];rfl
theorem AbI(h:(CC p s t 2).Ok (n:Int)):(CC p s t 1).Ok (n:Int):=by
 have a:=h.2;have hs:=Sup.get h;have b:(CC p s t 2).pages=p/\(CC p s t 2).start=s/\(CC p s t 2).len=t/\(CC p s t 2).head=0:=⟨Z,Z,Z,Z⟩;exact Sup.ok_mk (by show 0<=(1:Int)/\(1:Int)<=1099511627776;omega) (by show 0<=(1:Int)/\(1:Int)<=1099511627776;omega) (by show 16<=p/\p<=1024;omega) (by show 2+p<=s/\s<=1099511627776;omega) (by show 64<=t/\t<=1099511627776;omega) (by show 0<=(0:Int)/\(0:Int)<t;omega) (by show 0<=(1:Int)/\(1:Int)<=1099511627776;omega) (by show s<=n-t/\t<=n;omega)
theorem AdR(h:(CC p s t 2).Ok (n:Int)):(16<=p/\p<=1024)/\2+p<=s/\s+t<=n/\0<=t:=by
 have b:=h.2;have a:(CC p s t 2).pages=p/\(CC p s t 2).start=s/\(CC p s t 2).len=t/\(CC p s t 2).head=0:=⟨Z,Z,Z,Z⟩;omega
set_option maxHeartbeats 2000000 in
theorem VR (n:Nat) (c:(CC p s t 2).Ok (n:Int)):Aj 51 [Y m,I p,I s,I t] [diskA m (Cv n)] (λv G=>v=I 0/\G=[diskA m (MO n p s t)]):=by
 intro z R w a;have H:Sep z (diskA m (Cv n)::R) w:=a;clear a;have b:(CC p s t 1).Ok (n:Int):=AbI c;have a0:(16<=p/\p<=1024)/\2+p<=s/\s+t<=n/\0<=t:=AdR c;have g:=H.sy 0 (λq=>(diskA.ok q).n2);refine enter func51 Z 57 ntmps51 Z (A0 (AJ (B3 1 Z Z (AS (A0 (A0 (AJ (B3 1 Z Z (s_do Z Z Z (Ny Z J Z Z) (AS (EC Z (DH (A0 ?_)))))))))))));refine AJ (B3 3 Z Z (s_do Z Z Z (Bg Z Z (out:=[I 1,I 1,I p,I s,I t,I 0,I 1]) J) (E5 Z Z Z (BZ (P:=prog) H Z (zs:=[I 0,I 0,I 0,I 0,I 0,I 0,I 0]) J) ?_)));rintro _ w ⟨y,rfl,a⟩;have H:=a.l2;refine F4 Z Z (Al 0 H Z Z Z Z (vs:=[I 1,I 1,I p,I s,I t,I 0,I 1]) Z (by simp[u8,u32,Value.oneCell']) J O (out:=[I 1,I 1,I p,I s,I t,I 0,I 1]) Z) ?_;rintro w a;have H:=a.l2;refine AS (A0 (A0 (By (Sep z _) J J H.drew (AM Z Z Z (B0 Z Z (vs:=[I 1,I 1,I p,I s,I t,I 0,I 1]) J (λ_ hx=>(hx.blk 0 Z).part 0 7 _ Z)) (B4 1 [] Z J (Dn Z Z Z Z Z (λw=>call90 _ w) (v:=I ((Cv n).n:Int)) (cq (HS) (by rintro _ _ ⟨rfl,rfl⟩;exact ⟨Z,Z⟩) 2 [1,0] [1,0] Z Z Z Z) (Dn Z Z Z Z Z (λw=>call89 _ w) (v:=I (if (Sup.mk 1 1 p s t 0 1).Ok ((Cv n).n:Int) then 0 else 1)) (cq (HP (Sup.mk 1 1 p s t 0 1) U) (by rintro _ _ ⟨rfl,rfl⟩;exact ⟨Z,Z⟩) 0 [] [] Z Z Z Z) (B4 1 [] Z J (BL (λw a=>?_))))))))));have H:=a.l2;refine Gv Z (λo=>?_) (λo=>?_)
 ·exact (o (if_pos b)).elim
 refine DH (A0 (A0 (AJ (B3 2 Z Z (AS (FM ?_))))));refine Sj (σ:=Nat) (λk=>[(27,I (k:Int)),(0,Y m),(9,Y y),(26,I p)])
   (λk w=>Sep z (blk y [I 1,I 1,I p,I s,I t,I 0,I 1] 132::diskA m (EX (Cv n) k)::R) w/\(k<=p.toNat)) (λk=>p.toNat-k) 0
   fr_z ⟨H,by omega⟩ ?_
 clear H;rintro k w ⟨a,x⟩;have H:=a.l2;have a1:=x;clear x;refine A0 (AJ (B3 1 Z Z (AS (A0 (Gv Z (λh2=>?_) (λh2=>?_))))))
 ·refine DH (A0 (FM (A0 (AJ (B3 2 Z Z (AS (A0 (AJ (B3 2 Z Z (s_do Z Z Z (C3 Z Z Z (r:=(2:Int)+(k:Int)) U U) (E5 Z Z Z (Eo (k:=256) H Z J (Elt.mk (P:=prog) (e:=5) (z:=u8 0) (sz:=1) (by_:=1) J Z U U) Z Z Z U) ?_)))))))))));rintro _ w ⟨b2,rfl,a⟩;have H:=a.l3;refine Fw Z Z Z Z Z (λw=>call91 _ w) (Ki (List.replicate 256 0) O (λh q=>by rw[Ahh];exact q.rd U U O Z) (λi=>by have:=TE n i k;omega) (by rw[OC];show 0<=(2:Int)+(k:Int)/\(2:Int)+(k:Int)+1<=(n:Int);omega)) H.f2 Z ?_;rintro _ w _ (⟨j,rfl,rfl⟩|⟨_,rfl,rfl⟩) a
  ·exact absurd j (FU (FD n) k).bad
  have H:=a.l3;refine B3 1 Z Z (AS (A0 (AJ (B3 2 Z Z (AB 36 (u:=.bool (decide ((0:Int)≠0))) (v:=.bool false) Z (congrArg Value.bool (by decide)) (AS (EC Z (DH (AJ (s_do Z Z Z (C3 Z Z Z (r:=(k:Int)+1) U U) (B3 1 Z Z (AS ?_))))))))))));replace H:=H.f1.d.f1;intro _ hF;refine ⟨(k+1),hF.cz,⟨(by rw[<-Y5];exact H),?_⟩,?_⟩
  ·omega
  omega
 obtain rfl:k=p.toNat:=by omega
 refine Sg (IM (A0 (A0 (AJ (B3 1 Z Z (Fw Z Z Z Z Z (λw=>call92 _ w) (HR) H.f1 Z ?_))))));rintro _ w _ (⟨l,rfl,rfl⟩|⟨_,rfl,rfl⟩) a
 ·exact absurd l (FU (FD n) p.toNat).flb
 have H:=a.l2;refine B3 1 Z Z (AS (A0 (AJ (B3 2 Z Z (AB 42 (u:=.bool (decide ((0:Int)≠0))) (v:=.bool false) Z (congrArg Value.bool (by decide)) (AS (EC Z (DH (A0 (AJ (Fw Z Z Z Z Z (λw=>call93 _ w) (Oo) H Z ?_)))))))))));rintro _ w _ ⟨pt,rfl,rfl⟩ a;have H:=a.l3;refine B3 1 Z Z (AS (A0 (A0 (AJ (B3 2 Z Z (s_do Z Z Z (B0 Z Z (vs:=[I 1,I 1,I p,I s,I t,I 0,I 1]) J (Az ((H.blk 2 Z).part 0 7 _ Z))) (Fw Z Z Z Z Z (λw=>call94 _ w) (Ow (CC p s t 1) (by show (CC p s t 1).Ok ((EX (Cv n) p.toNat).n:Int);rw[OC];exact b) (λi=>by show ([]:List (List UInt8)).length<=_;simp)) H.f1 Z ?_)))))));rintro _ w _ (⟨f,rfl,rfl⟩|⟨_,rfl,rfl⟩) a
 ·exact absurd f ((FU (FD n) p.toNat).fl).bad
 have H:=a.l3;refine B3 1 Z Z (AS (A0 (AJ (B3 2 Z Z (AB 50 (u:=.bool (decide ((0:Int)≠0))) (v:=.bool false) Z (congrArg Value.bool (by decide)) (AS (EC Z (DH (A0 (AJ (Mw 1 [0] Z J (F4 Z Z (Al 2 H Z Z Z Z (vs:=[I 2]) Z (by simp[u8,u32,Value.oneCell']) J O (out:=[I 2,I 1,I p,I s,I t,I 0,I 1]) Z) ?_))))))))))));rintro w a;have H:=a.l3;refine AS (A0 (AJ (B3 2 Z Z (s_do Z Z Z (B0 Z Z (vs:=[I 2,I 1,I p,I s,I t,I 0,I 1]) J (Az ((H.blk 2 Z).part 0 7 _ Z))) (Fw Z Z Z Z Z (λw=>call94 _ w) (Ow (CC p s t 2) (by show (CC p s t 2).Ok ((EX (Cv n) p.toNat).n:Int);rw[OC];exact c) (λi=>by rw[HU (λ_=>rfl)];simp)) H Z ?_)))));rintro _ w _ (⟨f,rfl,rfl⟩|⟨_,rfl,rfl⟩) a
 ·exact absurd f (((FU (FD n) p.toNat).fl.sv _)).bad
 have H:=a.l3;refine B3 1 Z Z (AS (D9 (Ft Z [I 0] ⟨Z,trivial⟩ (v:=I 0) Z ?_)));exact ⟨[diskA m (Fk (Fk ((EX (Cv n) p.toNat).fl) (CC p s t 1)) (CC p s t 2))],⟨Z,Z⟩,H.perm 3 [0] Z Z⟩
theorem Y6(ps pd b md:Nat)(x:Sup)(D:Dsk):Aj 61 [Y ps] [stB ps pd b x u md false y,diskA pd D] (λv G=>(D.flb/\v=I 12/\G=[stB ps pd b x u md false y,diskA pd {D with f3:=Bi D.f3}])\/(¬D.flb/\v=I 0/\G=[stB ps pd b x u md false y,diskA pd D.fl])):=by
 intro z R w c;have H:Sep z (stB ps pd b x u md false y::diskA pd D::R) w:=c;clear c;refine enter func61 Z 12 ntmps61 Z (A0 (AJ (B3 1 Z Z (AS (A0 (A0 (AJ (Gn 4 [11,0] (AR (H.blk 0 Z) AN) Z J Z (AS (EC Z (DH (A0 (AJ ?_)))))))))))));refine Gn 4 [0,0] (AR (H.blk 0 Z) AN) Z J Z (Fw Z Z Z Z Z (λw=>call92 _ w) (HR) H.f1 Z ?_);rintro _ w _ (⟨a,rfl,rfl⟩|⟨a,rfl,rfl⟩) c
 ·have H:=c.l2;refine B3 1 Z Z (AS (D9 (Ft Z [I 12] ⟨Z,trivial⟩ (v:=I 12) Z ?_)));exact ⟨[stB ps pd b x u md false y,diskA pd ({D with f3:=Bi D.f3})],.inl ⟨a,Z,Z⟩,H.perm 2 [1,0] Z Z⟩
 have H:=c.l2;refine B3 1 Z Z (AS (D9 (Ft Z [I 0] ⟨Z,trivial⟩ (v:=I 0) Z ?_)));exact ⟨[stB ps pd b x u md false y,diskA pd D.fl],.inr ⟨a,Z,Z⟩,H.perm 2 [1,0] Z Z⟩
set_option maxHeartbeats 2000000 in
theorem RQ (ps pd d f md:Nat) (x j:Sup) (k:Bool) (hq:Hp) (D:Dsk) (B:Nat->Pg) (rs:List Rc) (ptl:List (List UInt8)) (a q u:Int) (b:Bool) (sure:Nat) (hS:SInv D x B rs ptl a q u b sure) (hL:j.start=x.start/\j.len=x.len/\j.epoch=x.epoch) (a7:q<=1099511627776) (r:∀i,(D.ver i).length<=1000000000000):Aj 37 [Y ps] [stB ps pd d x (Y f) md false y,lgB f pd d j a q u b k,tblA d,diskA pd D,pgsA md (ov rs) hq,poolA hq] (λv G=>((∀n,ov rs n=none)/\b=false/\u<x.len/\v=I 0/\G=[stB ps pd d x (Y f) md false y,lgB f pd d j a q u b k,tblA d,diskA pd D,pgsA md (ov rs) hq,poolA hq])\/(∃g:Dsk,¬((∀n,ov rs n=none)/\b=false/\u<x.len)/\SInv g (Eg x a q) (pgMap (ov rs) B) [] [] a q 0 false 0/\(Clean D->Clean g)/\g.n=D.n/\(∀i,g.ver i=[])/\v=I 0/\G=[stB ps pd d (Eg x a q) (Y f) md false y,lgB f pd d j a q 0 false k,tblA d,diskA pd g,pgsA md Dq hq,poolA hq])\/(∃(c:Int) (g:Dsk) (e:Nat),c≠0/\(¬Clean D\/1099511627776<x.gen+1)/\(SInv g x B rs ptl a q u b e/\sure<=e)/\g.n=D.n/\(∀i,(g.ver i).length<=(D.ver i).length+1)/\v=I c/\G=[stB ps pd d x (Y f) md false y,lgB f pd d j a q u b k,tblA d,diskA pd g,pgsA md (ov rs) hq,poolA hq])):=by
 intro z R w o;have H:Sep z (stB ps pd d x (Y f) md false y::lgB f pd d j a q u b k::tblA d::diskA pd D::pgsA md (ov rs) hq::poolA hq::R) w:=o;clear o;refine enter func37 Z 9 ntmps37 Z (A0 (AJ (B3 1 Z Z (AS (A0 (A0 (AJ (Gn 4 [11,0] (AR (H.blk 0 Z) AN) Z J Z (AS (EC Z (DH (A0 (AJ ?_)))))))))))));refine B3 1 Z Z (Fw Z Z Z Z Z (λw=>call76 _ w) (I7 hS hL U r) H Z ?_);rintro _ w _ (⟨a4,a5,s,rfl,rfl⟩|⟨g,t,m,p,h,a6,rfl,rfl⟩|⟨l,g,e,a2,a1,⟨m,a3⟩,h,a0,rfl,rfl⟩) o
 ·have H:=o.l6;refine B3 1 Z Z (AS (D9 (Ft Z [I 0] ⟨Z,trivial⟩ (v:=I 0) Z ?_)));exact ⟨[stB ps pd d x (Y f) md false y,lgB f pd d j a q u b k,tblA d,diskA pd D,pgsA md (ov rs) hq,poolA hq],.inl ⟨a4,a5,s,Z,Z⟩,H⟩
 ·have H:=o.l6;refine B3 1 Z Z (AS (D9 (Ft Z [I 0] ⟨Z,trivial⟩ (v:=I 0) Z ?_)));exact ⟨[stB ps pd d (Eg x a q) (Y f) md false y,lgB f pd d j a q 0 false k,tblA d,diskA pd g,pgsA md Dq hq,poolA hq],.inr (.inl ⟨g,t,m,p,h,a6,Z,Z⟩),H⟩
 have H:=o.l6;refine B3 1 Z Z (AS (D9 (Ft Z [I l] ⟨Z,trivial⟩ (v:=I l) Z ?_)));exact ⟨[stB ps pd d x (Y f) md false y,lgB f pd d j a q u b k,tblA d,diskA pd g,pgsA md (ov rs) hq,poolA hq],.inr (.inr ⟨l,g,e,a2,a1,⟨m,a3⟩,h,a0,Z,Z⟩),H⟩
section
structure StG where
 x:Sup
 B:Nat->Pg
 rs:List Rc
 ptl:List (List UInt8)
 a:Int
 q:Int
 u:Int
 b:Bool
 sure:Nat
def StG.M(G:StG):Nat->Pg:=pgMap (ov G.rs) G.B
def StG.home(G:StG):Prop:=∀n,ov G.rs n=none
structure StX where
 pl:Nat
 pt:Nat
 md:Nat
 mm:Nat
 sL:Sup
 nu:Bool
 hq:Hp
abbrev Hi:=Option (BF×Nat)
def AbJ(mm:Nat):Hi->Value
 | none=>.map none
 | some _=>.map (some mm)
def AdS(mm:Nat)(hq:Hp):Hi->List Ai
 | none=>[]
 | some o=>[Ew mm o.1 o.2 hq]
abbrev AbK(ps pd pt md:Nat)(x:Sup)(lp:Value)(un:Bool)(mo:Value):Ai:=blk ps [.pointer (some ⟨pd,0,none⟩),.pointer (some ⟨pt,0,none⟩),.int .i64 x.gen,.int .i64 x.epoch,.int .i64 x.pages,.int .i64 x.start,.int .i64 x.len,.int .i64 x.head,.int .i64 x.seq,lp,.map (some md),.bool un,mo] 136
abbrev AbL(pl pd pt:Nat)(sL:Sup)(a q u:Int)(b nu:Bool):Ai:=blk pl [.pointer (some ⟨pd,0,none⟩),.pointer (some ⟨pt,0,none⟩),.int .i64 sL.gen,.int .i64 sL.epoch,.int .i64 sL.pages,.int .i64 sL.start,.int .i64 sL.len,.int .i64 sL.head,.int .i64 sL.seq,.int .i64 a,.int .i64 q,.int .i64 u,.bool b,.bool nu] 244
def RR(ps pd:Nat)(D:Dsk)(G:StG)(own:Hi)(X:StX):List Ai:=
 [AbK ps pd X.pt X.md G.x (.pointer (some ⟨X.pl,0,none⟩)) own.isSome (AbJ X.mm own),AbL X.pl pd X.pt X.sL G.a G.q G.u G.b X.nu,tblA X.pt,diskA pd D,pgsA X.md (ov G.rs) X.hq,poolA X.hq]++AdS X.mm X.hq own
structure StP(D:Dsk)(G:StG)(own:Hi)(X:StX):Prop where
 inv:SInv D G.x G.B G.rs G.ptl G.a G.q G.u G.b G.sure
 l:X.sL.start=G.x.start/\X.sL.len=G.x.len/\X.sL.epoch=G.x.epoch
 ok:X.sL.Ok (D.n:Int)
 nu:X.nu=decide (X.sL.epoch<4294967296)
 own:∀o,own=some o->o.2<=40/\∀n,(o.1 n).isSome=true->(n:Int)<G.x.pages
def stoA(ps pd:Nat)(D:Dsk)(G:StG)(own:Hi):Ai:=λh=>∃X,StP D G own X/\seps (RR ps pd D G own X) h
structure Fine(D:Dsk)(G:StG)(m:Nat):Prop where
 clean:Clean D
 b:G.b=false
 ver:∀i,(D.ver i).length<=m
 gen:G.x.gen<=m
 epoch:G.x.epoch<=m
 q:G.q<=m
theorem Fine.le{D:Dsk}{G:StG}(h:Fine D G m)(e:m<=n):Fine D G n:=
 ⟨h.clean,h.b,λi=>Agu (h.ver i) e,by have:=h.gen;omega,by have:=h.epoch;omega,by have:=h.q;omega⟩
variable{z w:World}{Γ:List Ai}{ps pd:Nat}{D:Dsk}{G:StG}{own:Hi}
theorem Sep.sto(H:Sep z (stoA ps pd D G own::Γ) w):∃X,StP D G own X/\Sep z (RR ps pd D G own X++Γ) w:=
 H.into (p:=λX=>StP D G own X) (As:=λX=>RR ps pd D G own X) (λ_ q=>q)
theorem Sep.toSto{X:StX}(n:Nat)(H:Sep z Γ w)(b:StP D G own X)(a:Γ.take n=RR ps pd D G own X):Sep z (stoA ps pd D G own::Γ.drop n) w:=
 H.made n (λh q=>⟨X,b,by rwa[a] at q⟩)
def El(M:Nat->Pg):Hi->Nat->Pg
 | none,n=>M n
 | some o,n=>(o.1 n).getD (M n)
def Qx(x:Sup)(B:Nat->Pg):StG:=⟨Ds x,B,[],[],0,1,0,false,0⟩
theorem TG{pd:Nat}{D:Dsk}{x:Sup}{B:Nat->Pg}{Gd:List Rc->Prop}(h:OInv D x B Gd)(c:Clean D)(s:x.gen<=m/\x.epoch<=m)(r:m<=1000000000):
  Aj 52 [Y pd] [diskA pd D] (λv G=>∃(ps:Nat) (b:Dsk) (a:List Rc),Gd a/\Fine b (Qx x (pgMap (ov a) B)) (m+1)/\b.n=D.n/\v=.tuple #[Y ps,I 0]/\G=[stoA ps pd b (Qx x (pgMap (ov a) B)) none]):=by
 intro z R w H;refine Ret.mono (sopen_c pd D x B Gd h c U U z R w H) ?_;rintro v t ⟨Γ',⟨ps,k,p,md,hq,b,a,f,d,g,j,q,rfl,rfl⟩,l⟩;refine ⟨_,⟨ps,b,a,f,⟨g,Z,λi=>by rw[q];simp,?_,?_,?_⟩,j,Z,Z⟩,l.toSto (X:=⟨k,p,md,0,Ds x,decide ((Ds x).epoch<4294967296),hq⟩) 6 ⟨d,⟨Z,Z,Z⟩,d.ok,Z,λo e=>(by cases e)⟩ Z⟩
 ·show x.gen+1<=_;omega
 ·show x.epoch+1<=_;omega
 show (1:Int)<=_;omega
theorem Qy{ps pd:Nat}{D:Dsk}{G:StG}:Aj 53 [Y ps] [stoA ps pd D G none] (λv X=>v=I 0/\X=[stoA ps pd D G (some (Dq,0))]):=by
 intro z R w H;obtain ⟨X,a,H⟩:=H.sto;refine Ret.mono (Cn.at (YZ ps pd X.pt X.md G.x) H 6 [0,1,2,3,4,5] Z Z) ?_;rintro v c ⟨Γ',⟨rfl,m,rfl⟩,b⟩;have H2:=b.mono 1 (B:=Ew m Dq 0 X.hq) Z (λh q=>⟨[],0,PgsIn.none _ _,Z,q⟩);have H3:=H2.pick 7 [0,2,3,4,5,6,1] Z;exact ⟨_,⟨Z,Z⟩,H3.toSto (X:=⟨X.pl,X.pt,X.md,m,X.sL,X.nu,X.hq⟩) 7 ⟨a.inv,a.l,a.ok,a.nu,λo e=>by cases e;exact ⟨by omega,λn h=>(by cases h)⟩⟩ Z⟩
theorem Y7{ps pd:Nat}{D:Dsk}{G:StG}{own:Hi}:Aj 106 [Y ps] [stoA ps pd D G own] (λv X=>v=.tuple #[]/\X=[stoA ps pd D G none]):=by
 intro z R w H;obtain ⟨X,c,H⟩:=H.sto;have H2:Sep z (AbK ps pd X.pt X.md G.x (.pointer (some ⟨X.pl,0,none⟩)) own.isSome (AbJ X.mm own)::AbL X.pl pd X.pt X.sL G.a G.q G.u G.b X.nu::tblA X.pt::diskA pd D::pgsA X.md (ov G.rs) X.hq::poolA X.hq::R) w:=by
  cases own with
  | none=>exact H
  | some o=>exact H.pick 7 [0,1,2,3,4,5] Z
 refine Ret.mono (Cn.at (YY ps pd X.pt X.md G.x) H2 6 [0,1,2,3,4,5] Z Z) ?_;rintro v f ⟨Γ',⟨rfl,rfl⟩,d⟩;exact ⟨_,⟨Z,Z⟩,d.toSto (X:=X) 6 ⟨c.inv,c.l,c.ok,c.nu,λo e=>(by cases e)⟩ Z⟩
theorem Y8{ps pd:Nat}{D:Dsk}{G:StG}{own:Hi}:Aj 109 [Y ps] [stoA ps pd D G own] (λv X=>v=.agg #[I G.x.gen,I G.x.epoch,I G.x.pages,I G.x.start,I G.x.len,I G.x.head,I G.x.seq]/\X=[stoA ps pd D G own]):=by
 intro z R w H;obtain ⟨X,b,H⟩:=H.sto
 cases own with
 | none=>
  refine Ret.mono (Cn.at (Qu ps pd X.pt X.md G.x) H 6 [0,1,2,3,4,5] Z Z) ?_;rintro v c ⟨Γ',⟨rfl,rfl⟩,a⟩;exact ⟨_,⟨Z,Z⟩,a.toSto (X:=X) 6 b Z⟩
 | some o=>
  refine Ret.mono (Cn.at (Qu ps pd X.pt X.md G.x) H 7 [0,1,2,3,4,5,6] Z Z) ?_;rintro v c ⟨Γ',⟨rfl,rfl⟩,a⟩;exact ⟨_,⟨Z,Z⟩,a.toSto (X:=X) 7 b Z⟩
theorem GA{ps pd:Nat}{D:Dsk}{G:StG}{g:BF}(n:Nat)(s:(n:Int)<G.x.pages)(p:Pg)(hp:p.Ok)(y:∀h,A h->rdH 1 u 240 (p.body.map u8) h):
  Aj 55 [Y ps,I (n:Int),.agg #[I p.kind,u]] [stoA ps pd D G (some (g,m)),A] (λv X=>((g n=none/\40<=m)/\v=I 16/\X=[stoA ps pd D G (some (g,m)),A])\/(¬(g n=none/\40<=m)/\v=I 0/\X=[stoA ps pd D G (some (pgSet g n p,m+(if (g n).isSome then 0 else 1))),A])):=by
 intro z R w H;obtain ⟨X,b,H⟩:=H.sto;obtain ⟨r,k⟩:=b.own _ Z;refine Ret.mono (Cn.at (VL ps pd X.pt X.md X.mm G.x g m X.hq n s p hp u A y) H 8 [0,6,5,7,1,2,3,4] Z Z) ?_;rintro v w' ⟨Γ',(⟨d,rfl,rfl⟩|⟨d,c,hs,rfl,rfl⟩),t⟩
 ·have H3:=t.pick 8 [0,4,5,6,7,2,1,3] Z
  exact ⟨_,.inl ⟨d,Z,Z⟩,H3.toSto (X:=X) (ps:=ps) (pd:=pd) (D:=D) (G:=G) (own:=some (g,m)) 7 b Z⟩
 have H3:=(t.pick 8 [0,4,5,6,7,2,1,3] Z).mono 4 (B:=pgsA X.md (ov G.rs) c) Z (λh q=>pgsA.le hs h q);refine ⟨_,.inr ⟨d,Z,Z⟩,H3.toSto (X:=⟨X.pl,X.pt,X.md,X.mm,X.sL,X.nu,c⟩) (ps:=ps) (pd:=pd) (D:=D) (G:=G) (own:=some (pgSet g n p,m+(if (g n).isSome then 0 else 1))) 7 ⟨b.inv,b.l,b.ok,b.nu,λo e=>?_⟩ Z⟩;cases e;refine ⟨?_,λi hi=>?_⟩
 ·show m+(if (g n).isSome then 0 else 1)<=40
  split
  ·exact r
  rename_i f;have j:g n=none:=by simpa using f
  have:¬40<=m:=λe=>d ⟨j,e⟩;omega
 have a:(pgSet g n p i).isSome=true:=hi;unfold pgSet at a;split at a
 ·rename_i e;subst e;exact s
 exact k i a
theorem Lf(ps pd:Nat)(D:Dsk)(G:StG)(own:Hi)(n:Nat)(g:(n:Int)<G.x.pages)(d:D.f1=0)(q:Pg)(hq:q=El G.M own n):
  Aj 85 [Y ps,I (n:Int)] [stoA ps pd D G own] (λv X=>(q=noPg/\v=.tuple #[.agg #[I 0,.slice none 0 0],I 0]/\X=[stoA ps pd D G own])\/(q.Ok/\∃c,v=.tuple #[.agg #[I q.kind,c],I 0]/\X=[grow 5 1 c 240 (q.body.map u8),stoA ps pd D G own])):=by
 intro z R w H;obtain ⟨X,b,H⟩:=H.sto
 cases own with
 | none=>
  refine Ret.mono (Cn.at (VJ ps pd X.pt X.md G.x (ov G.rs) X.hq D n g d b.inv.ok q (G.B n) hq (λe=>b.inv.cur g e)) H 6 [0,2,3,4,5,1] Z Z) ?_;rintro v h ⟨Γ',(⟨a,rfl,rfl⟩|⟨a,c,rfl,rfl⟩),f⟩
  ·have H3:=f.pick 6 [0,5,1,2,3,4] Z
   exact ⟨_,.inl ⟨a,Z,Z⟩,H3.toSto (X:=X) (ps:=ps) (pd:=pd) (D:=D) (G:=G) (own:=none) 6 b Z⟩
  have H3:=f.pick 7 [1,6,2,3,4,5,0] Z;have H4:=H3.toSto (X:=X) (ps:=ps) (pd:=pd) (D:=D) (G:=G) (own:=none) 6 b Z;exact ⟨_,.inr ⟨a,c,Z,Z⟩,H4.pick 2 [1,0] Z⟩
 | some o=>
  refine Ret.mono (Cn.at (VK ps pd X.pt X.md X.mm G.x (ov G.rs) o.1 o.2 X.hq D n g d b.inv.ok q (G.B n) (by rw[hq];show (o.1 n).getD ((ov G.rs n).getD (G.B n))=_;cases o.1 n<;>rfl) (λe=>b.inv.cur g (by cases a:o.1 n with|none=>rw[a] at e;exact e|some y=>rw[a] at e;cases e))) H 7 [0,2,3,4,6,5,1] Z Z) ?_;rintro v h ⟨Γ',(⟨a,rfl,rfl⟩|⟨a,c,rfl,rfl⟩),f⟩
  ·have H3:=f.pick 7 [0,6,1,2,3,5,4] Z
   exact ⟨_,.inl ⟨a,Z,Z⟩,H3.toSto (X:=X) (ps:=ps) (pd:=pd) (D:=D) (G:=G) (own:=some o) 7 b Z⟩
  have H3:=f.pick 8 [1,7,2,3,4,6,5,0] Z;have H4:=H3.toSto (X:=X) (ps:=ps) (pd:=pd) (D:=D) (G:=G) (own:=some o) 7 b Z;exact ⟨_,.inr ⟨a,c,Z,Z⟩,H4.pick 2 [1,0] Z⟩
theorem OF{ps pd:Nat}{D:Dsk}{G:StG}{g:BF}(m:Nat)(h:Fine D G m)(hm:m<=1000000000):
  Aj 60 [Y ps] [stoA ps pd D G (some (g,j))] (λv X=>∃(s:Dsk) (r:StG),Fine s r (m+2)/\s.n=D.n/\(r.M=El G.M (some (g,j))/\∀n,(g n).isSome=true->(ov r.rs n).isSome=true)/\(r.x=G.x\/r.x=Eg G.x G.a G.q)/\v=I 0/\X=[stoA ps pd s r none]):=by
 intro z R w H;obtain ⟨X,d,H⟩:=H.sto;obtain ⟨a5,a3⟩:=d.own _ Z;have h1:=h.gen;have h2:=h.epoch;have h3:=h.q;have hL:=d.l;have hc:=Nn G.x G.a G.q;refine Ret.mono (Cn.at (VO ps pd X.pt X.pl X.md X.mm G.x X.sL X.nu X.hq g j D G.B G.rs G.ptl G.a G.q G.u G.b G.sure d.inv d.l d.ok d.nu U (λi=>by have:=h.ver i;omega) a3 a5) H 7 [0,1,2,3,4,6,5] Z Z) ?_;rintro v w' ⟨Γ',(⟨h4,rfl,rfl⟩|⟨h4,y,s,x2,B2,k,a2,u2,f,hs,a6,⟨a4,a1⟩,a0,t,p,rfl,rfl⟩|⟨_,c,y,s,x2,B2,k,a7,a2,q2,u2,b2,f,a8,hw,_⟩),H'⟩
 ·subst h4
  have hg:∀n,g n=none:=H.sy 6 (λq=>by obtain ⟨es,clk,h1,h2,_⟩:=q;exact h1.nil_iff.1 h2);exact ⟨_,⟨D,G,h.le U,Z,⟨by funext n;show _=(g n).getD _;rw[hg];rfl,λn hn=>by rw[hg] at hn;cases hn⟩,.inl Z,Z,Z⟩,H'.toSto (X:=X) 6 ⟨d.inv,d.l,d.ok,d.nu,λo e=>(by cases e)⟩ Z⟩
 ·have a9:x2.start=G.x.start/\x2.len=G.x.len/\x2.epoch=G.x.epoch/\x2.gen<=G.x.gen+1/\G.x.gen<=x2.gen:=by
   rcases a0 with rfl|rfl
   ·exact ⟨Z,Z,Z,by omega,by omega⟩
   exact ⟨Z,Z,Z,by omega,by omega⟩
  refine ⟨_,⟨s,⟨x2,B2,k,[],a2,G.q+1,u2,false,f⟩,⟨t h.clean,Z,λi=>by have:=p.2 i;have:=h.ver i;omega,by show x2.gen<=_;omega,by show x2.epoch<=_;omega,by show G.q+1<=_;omega⟩,p.1,⟨?_,a1⟩,a0,Z,Z⟩,H'.toSto (X:=⟨X.pl,X.pt,X.md,X.mm,X.sL,X.nu,y⟩) 6 ⟨a6,by show X.sL.start=x2.start/\X.sL.len=x2.len/\X.sL.epoch=x2.epoch;omega,by rw[p.1];exact d.ok,d.nu,λo e=>(by cases e)⟩ Z⟩;show pgMap (ov k) B2=_;rw[a4,Kj];rfl
 rcases hw with g|g
 ·exact absurd h.clean g
 omega
theorem sync_s{ps pd:Nat}{D:Dsk}{G:StG}(m:Nat)(a:Fine D G m):Aj 61 [Y ps] [stoA ps pd D G none] (λv X=>v=I 0/\Fine D.fl {G with sure:=G.rs.length} m/\X=[stoA ps pd D.fl {G with sure:=G.rs.length} none]):=by
 intro z R w H;obtain ⟨X,c,H⟩:=H.sto;refine Ret.mono (Cn.at (Y6 ps pd X.pt X.md G.x D) H 6 [0,3,1,2,4,5] Z Z) ?_;rintro v g ⟨Γ',(⟨d,_⟩|⟨_,rfl,rfl⟩),f⟩
 ·exact absurd d a.clean.flb
 have H3:=f.pick 6 [0,2,3,1,4,5] Z;exact ⟨_,⟨Z,⟨a.clean.fl,a.b,λi=>AeN _,a.gen,a.epoch,a.q⟩,Z⟩,H3.toSto (X:=X) 6 ⟨c.inv.flush,c.l,c.ok,c.nu,λo e=>(by cases e)⟩ Z⟩
theorem OG{ps pd:Nat}{D:Dsk}{G:StG}(m:Nat)(f:Fine D G m)(hm:m<=1000000000):
  Aj 37 [Y ps] [stoA ps pd D G none] (λv X=>∃(t:Dsk) (k:StG),Fine t k (m+1)/\t.n=D.n/\k.M=G.M/\k.home/\((G.home/\k.x=G.x)\/(¬G.home/\k.x=Eg G.x G.a G.q))/\v=I 0/\X=[stoA ps pd t k none]):=by
 intro z R w H;obtain ⟨X,d,H⟩:=H.sto;have h1:=f.gen;have h2:=f.epoch;have h3:=f.q;have hc:=Nn G.x G.a G.q;refine Ret.mono (Cn.at (RQ ps pd X.pt X.pl X.md G.x X.sL X.nu X.hq D G.B G.rs G.ptl G.a G.q G.u G.b G.sure d.inv d.l U (λi=>by have:=f.ver i;omega)) H 6 [0,1,2,3,4,5] Z Z) ?_;rintro v w' ⟨Γ',(⟨hn,hb,hu,rfl,rfl⟩|⟨t,y,a3,a0,a1,a4,rfl,rfl⟩|⟨c,t,a2,y,hw,_⟩),H'⟩
 ·exact ⟨_,⟨D,G,f.le U,Z,Z,hn,.inl ⟨hn,Z⟩,Z,Z⟩,H'.toSto (X:=X) 6 d Z⟩
 ·refine ⟨_,⟨t,⟨Eg G.x G.a G.q,pgMap (ov G.rs) G.B,[],[],G.a,G.q,0,false,0⟩,⟨a0 f.clean,Z,λi=>by rw[a4];simp,by show G.x.gen+1<=_;omega,by show G.x.epoch<=_;omega,by show G.q<=_;omega⟩,a1,Z,λ_=>rfl,.inr ⟨λhh=>y ⟨hh,f.b,?_⟩,Z⟩,Z,Z⟩,H'.toSto (X:=X) 6 ⟨a3,d.l,by rw[a1];exact d.ok,d.nu,λo e=>(by cases e)⟩ Z⟩
  have hr:=Qw hh (λj r h=>(d.inv.p.recs j r h).2.1.1);have hu:=d.inv.p.fu;have hl:=d.inv.s.head;rw[hr] at hu;have a5:G.u=0:=hu;omega
 rcases hw with g|g
 ·exact absurd f.clean g
 omega
end
abbrev plB(pp ps pc pa n:Nat)(un:Bool):Ai:=blk pp [.pointer (some ⟨ps,0,none⟩),.pointer (some ⟨pc,0,none⟩),.pointer (some ⟨pa,0,none⟩),.int .i64 (n:Int),.bool un] 117
theorem VS(pp ps pd b c m a n:Nat)(D:Dsk)(G:StG):Aj 120 [Y pp] [plB pp ps b a n false,stoA ps pd D G none] (λv X=>v=I 0/\X=[plB pp ps b a n true,stoA ps pd D G (some (Dq,0))]):=by
 intro z R w H;refine Ae func120 Z ntmps120 Z (Z2 12 [0,0,0,0] H Z (z_E_ Z (call53 _) (Qy) H.f1 ?_));intro w H;refine Z4 26 [4,1,0,3,4,1] H Z ?_;intro w H;refine Zr Z ?_;exact ⟨_,⟨Z,Z⟩,H.perm 2 [1,0] Z Z⟩
theorem Y9{C0:Nat->Nat}{l:List IE}{clk:Nat}{a S:Nat->Bool}(W:WasOk C C0 n l clk):Aj 168 [Y i] [plB i j e r n true,coB e g n m,Cg g C n,AI m l clk,alB r n F a S] (λv G=>v=.tuple #[]/\G=[plB i j e r n false,coB e g n m,Cg g C0 n,AI m ([]) clk,alB r n S BX S]):=by
 intro z R w H;refine Ae func168 Z ntmps168 Z (Z4 14 [4,0,1,0,0] H Z ?_);intro w H;refine z_E_ Z (call202 _) (YT W) H.f3.f3.f3 ?_;intro w H;refine Z2 7 [2,3,0] H Z (z_E_ Z (call203 _) (Yc) H.f4 ?_);intro w H;refine Zc 1 Z (Zf Z ?_);exact ⟨_,⟨Z,Z⟩,H.perm 5 [4,1,2,3,0] Z Z⟩
theorem VT(pp ps pd a b m c n:Nat)(D:Dsk)(G:StG)(g:BF)(k:Nat)(C C0:Nat->Nat)(l:List IE)(clk:Nat)(F d S:Nat->Bool)(W:WasOk C C0 n l clk):Aj 121 [Y pp] [stoA ps pd D G (some (g,k)),plB pp ps a c n true,coB a b n m,Cg b C n,AI m l clk,alB c n F d S] (λv X=>v=.tuple #[]/\X=[stoA ps pd D G none,plB pp ps a c n false,coB a b n m,Cg b C0 n,AI m ([]) clk,alB c n S BX S]):=by
 intro z R w H;refine Ae func121 Z ntmps121 Z (Z2 16 [4,1,0,0,0,1,0] H Z (z_E_ Z (call106 _) (Y7) H ?_));intro w H;refine Zc 4 Z (z_E_ Z (call168 _) (Y9 W) H.f5.f5.f5.f5.f5 ?_);intro w H;refine Zc 1 Z (Zf Z ?_);exact ⟨_,⟨Z,Z⟩,H.perm 6 [5,0,1,2,3,4] Z Z⟩
theorem VU(pp ps a b m d n:Nat)(c:Bool)(C:Nat->Nat)(p:Nat)(hp:p<n)(e:16<=n/\n<=1024):Aj 138 [Y pp,I (p:Int)] [plB pp ps a d n c,coB a b n m,Cg b C n] (λv G=>v=I (C p:Int)/\G=[plB pp ps a d n c,coB a b n m,Cg b C n]):=by
 intro z R w H;refine Ae func138 Z ntmps138 Z (Z2 12 [1,0,0] H Z (z_E_ Z (call112 _) (FC U U) H.f2.f2 ?_));intro w H;refine Zc 4 Z (Zr Z ?_);exact ⟨_,⟨Z,Z⟩,H.perm 3 [2,0,1] Z Z⟩
theorem Zb(pp ps c a n:Nat)(d:Bool)(F b S:Nat->Bool):Aj 23 [Y pp] [plB pp ps c a n d,alB a n F b S] (λv G=>v=I (cnt F 0 1024:Int)/\G=[plB pp ps c a n d,alB a n F b S]):=by
 intro z R w H;refine Ae func23 Z ntmps23 Z (Z2 11 [2,0,0] H Z (z_E_ Z (call64 _) (Yb) H.f1 ?_));intro w H;refine Zc 4 Z (Zr Z ?_);exact ⟨_,⟨Z,Z⟩,H.perm 2 [1,0] Z Z⟩
theorem VV(pp ps c b n:Nat)(a:Bool):Aj 80 [Y pp] [plB pp ps c b n a] (λv G=>v=.bool a/\G=[plB pp ps c b n a]):=by
 intro z R w H;refine Ae func80 Z ntmps80 Z (Z2 15 [4,0,0] H Z (Zr Z ?_));exact ⟨_,⟨Z,Z⟩,H⟩
theorem VW(pp ps pd c d m f n:Nat)(D:Dsk)(G:StG)(p:Nat)(x:Pg)(i:x.Ok)(l:Value)(B:Ai)(e:∀h,B h->rdH 1 l 240 (x.body.map u8) h)(g:BF)(k:Nat)(j:¬(g p=none/\40<=k))(y:G.x.pages=n)(C:Nat->Nat)(u:16<=n/\n<=1024)(hp:(p=0\/manyN n<p)/\p<n)(hC:C p≠0):Aj 169 [Y pp,I (p:Int),.agg #[I x.kind,l]] [stoA ps pd D G (some (g,k)),plB pp ps c f n true,coB c d n m,Cg d C n,B] (λv X=>v=I 0/\X=[stoA ps pd D G (some (pgSet g p x,k+(if (g p).isSome then 0 else 1))),plB pp ps c f n true,coB c d n m,Cg d C n,B]):=by
 intro z R w H;obtain ⟨t,bc,rfl⟩:=H.sy 4 (λq=>(e _ q).slc);refine Ae func169 Z ntmps169 Z (Za 2 [] H Z ?_);intro b1 w H;refine Z2 23 [4,2,0,1,2,0] H Z (z_E_ Z (call112 _) (FC U U) H.f4.f4 ?_);intro w H;refine Z0 2 [0] Z (An 21 Z (λs=>U) (λs=>?_));refine Z0 3 [0] Z (An 24 Z (λr=>?_) (λr=>?_))
 ·refine Z2 5 [3,4,0] H Z (z_E_ Z (call57 _) (Gg U) H ?_);intro w H;refine Z0 6 [0] Z (Af Z (λo=>U) (λo=>?_))
  refine Zc 4 Z (BK 7 J J (A4 H λw b=>?_));have H:=b.l6;refine Mz 7 [0,0,4,0,2,2] [] H Z J (CG (gw (Ar Z (call55 _) (GA p U _ i e) H.f5.f4 ?_)));rintro _ w _ (⟨a,rfl,rfl⟩|⟨_,rfl,rfl⟩) b
  ·exact absurd a j
  have H:=b.l6;refine Zc 4 Z (Zr Z ?_);exact ⟨_,⟨Z,Z⟩,H.perm 6 [0,5,2,3,1] Z Z⟩
 refine Zc 17 Z (BK 7 J J (A4 H λw b=>?_));have H:=b.l6;refine Mz 7 [0,0,4,0,2,2] [] H Z J (CG (gw (Ar Z (call55 _) (GA p U _ i e) H.f5.f4 ?_)));rintro _ w _ (⟨a,rfl,rfl⟩|⟨_,rfl,rfl⟩) b
 ·exact absurd a j
 have H:=b.l6;refine Zc 4 Z (Zr Z ?_);exact ⟨_,⟨Z,Z⟩,H.perm 6 [0,5,2,3,1] Z Z⟩
theorem VX(pp ps pd e f m c n:Nat)(D:Dsk)(G:StG)(g:BF)(k:Nat)(C C0:Nat->Nat)(l:List IE)(clk:Nat)(F s S:Nat->Bool)(W:WasOk C C0 n l clk)(hn:16<=n/\n<=1024)(hG:G.x.pages=n)(p:Nat)(x:Pg)(y:x.Ok)(t:Value)(B:Ai)(r:∀h,B h->rdH 1 t 240 (x.body.map u8) h)(hk:¬(g p=none/\40<=k))(hp:p<n)(o:F p=true)(i:∀q,q<p->F q=false)(hC:C p=0)(A:Ai)(u:Ht A):Aj 82 [Y pp,.agg #[I x.kind,t]] [stoA ps pd D G (some (g,k)),plB pp ps e c n true,coB e f n m,Cg f C n,AI m l clk,alB c n F s S,A,B] (λv X=>∃(d:List IE) (a:Nat),WasOk (updN C p 1) C0 n d a/\v=.tuple #[I (p:Int),I 0]/\X=[stoA ps pd D G (some (pgSet g p x,k+(if (g p).isSome then 0 else 1))),plB pp ps e c n true,coB e f n m,Cg f (updN C p 1) n,AI m d a,alB c n (Dx F p) s S,A,B]):=by
 intro z R w H;obtain ⟨bo,bc,rfl⟩:=H.sy 7 (λq=>(r _ q).slc);refine Ae func82 Z ntmps82 Z (Za 2 [] H Z ?_);intro b1 w H;refine Z2 23 [4,2,0,2,2,0] H Z (z_E_ Z (call135 _) (Abj p U U o i u) H.f7.f7 ?_);intro w H;refine Zc 19 Z (BK 7 J J (A4 H λw j=>?_));have H:=j.l9;refine Mz 7 [0,0,4,0,2,2] [] H Z J (CG (gw (Ar Z (call55 _) (GA p U _ y r) H.f8.f4 ?_)));rintro _ w _ (⟨b,rfl,rfl⟩|⟨_,rfl,rfl⟩) j
 ·exact absurd b hk
 have H:=j.l9;refine Z2 19 [4,1,5,0] H Z (Ar Z (call58 _) (I5 C0 p 1 U U U U U W) H.f8.f8.f8 ?_);rintro _ w _ ⟨d,a,W2,rfl,rfl⟩ H;refine Zc 10 Z (Zr Z ?_);exact ⟨_,⟨d,a,W2,Z,Z⟩,H.perm 9 [3,8,0,1,2,5,6,4] Z Z⟩
theorem TH(pp ps c a n:Nat)(x:Pg)(i:x.Ok)(e:Value)(B:Ai)(f:∀h,B h->rdH 1 e 240 (x.body.map u8) h)(F d S:Nat->Bool)(b:∀q,q<1024->F q=false):Aj 82 [Y pp,.agg #[I x.kind,e]] [plB pp ps c a n true,alB a n F d S,B] (λv G=>v=.tuple #[I 0,I 20]/\G=[plB pp ps c a n true,alB a n F d S,B]):=by
 intro z R w H;obtain ⟨g,j,rfl⟩:=H.sy 2 (λq=>(f _ q).slc);refine Ae func82 Z ntmps82 Z (Za 2 [] H Z ?_);intro k w H;refine Z2 23 [4,1,0,2,1,0] H Z (z_E_ Z (call135 _) (Yd b) H.f2 ?_);intro w H;refine Zc 22 Z (Zr Z ?_);exact ⟨_,⟨Z,Z⟩,H.perm 4 [2,0,3] Z Z⟩
theorem AbM(pp ps c d m e n:Nat)(C C0:Nat->Nat)(l:List IE)(clk:Nat)(W:WasOk C C0 n l clk)(h:16<=n/\n<=1024)(p:Nat)(hp:manyN n<p/\p<n)(i:1<=C p/\C p<1000):Aj 146 [Y pp,I (p:Int)] [plB pp ps c e n true,coB c d n m,Cg d C n,AI m l clk] (λv G=>∃(b:List IE) (a:Nat),WasOk (updN C p (C p+1)) C0 n b a/\v=I 0/\G=[plB pp ps c e n true,coB c d n m,Cg d (updN C p (C p+1)) n,AI m b a]):=by
 intro z R w H;replace H:=H.l4;refine Ae func146 Z ntmps146 Z (Z2 25 [4,0,0,1,0,0] H Z (z_E_ Z (call112 _) (FC U U) H.f2.f2 ?_));intro w H;replace H:=H.l4;refine Z0 2 [0] Z (An 19 Z (λf=>U) (λf=>?_));refine Z2 5 [3,2,0] H Z (z_E_ Z (call57 _) (Gg U) H ?_);intro w H;replace H:=H.l4;refine Z0 5 [0] Z (Af Z (λg=>U) (λg=>?_));refine Z2 10 [1,2,0] H Z (Ar Z (call58 _) (I5 C0 p (C p+1) U U U U U W) H.f3.f2.f2 ?_);rintro _ w _ ⟨b,a,W2,rfl,rfl⟩ H;replace H:=H.l4;refine Zc 4 Z (Zr Z ?_);exact ⟨_,⟨b,a,W2,Z,Z⟩,H.perm 4 [3,0,1,2] Z Z⟩
theorem VY(pp ps c d m e n:Nat)(C C0:Nat->Nat)(l:List IE)(clk:Nat)(W:WasOk C C0 n l clk)(i:16<=n/\n<=1024)(p:Nat)(hp:manyN n<p/\p<n)(j:2<=C p/\C p<=1000):Aj 142 [Y pp,I (p:Int)] [plB pp ps c e n true,coB c d n m,Cg d C n,AI m l clk] (λv G=>∃(b:List IE) (a:Nat),WasOk (updN C p (C p-1)) C0 n b a/\v=I 0/\G=[plB pp ps c e n true,coB c d n m,Cg d (updN C p (C p-1)) n,AI m b a]):=by
 intro z R w H;replace H:=H.l4;refine Ae func142 Z ntmps142 Z (Z2 25 [4,0,0,1,0,0] H Z (z_E_ Z (call112 _) (FC U U) H.f2.f2 ?_));intro w H;replace H:=H.l4;refine Z0 2 [0] Z (An 20 Z (λf=>U) (λf=>?_));refine Z2 5 [3,2,0] H Z (z_E_ Z (call57 _) (Gg U) H ?_);intro w H;replace H:=H.l4;refine Z0 5 [0] Z (Af Z (λh=>U) (λh=>?_));refine Z2 11 [1,2,0] H Z (Ar Z (call58 _) (I5 C0 p (C p-1) U U U U U W) H.f3.f2.f2 ?_);rintro _ w _ ⟨b,a,W2,rfl,rfl⟩ H;replace H:=H.l4;refine Z2 20 [4,1,3,0] H Z (z_E_ Z (call112 _) (FC U U) H ?_);intro w H;replace H:=H.l4;refine AB 43 (v:=I ((C p-1:Nat):Int)) Z (congrArg I (by simp[updN])) (Z0 3 [0] Z (Af Z (λg=>U) (λg=>?_)));refine Zc 8 Z (Zr Z ?_);exact ⟨_,⟨b,a,W2,Z,Z⟩,H.perm 4 [3,0,1,2] Z Z⟩
theorem Zd(pp ps d e m b n:Nat)(C C0:Nat->Nat)(l:List IE)(clk:Nat)(W:WasOk C C0 n l clk)(k:16<=n/\n<=1024)(p:Nat)(hp:manyN n<p/\p<n)(F f S:Nat->Bool)(o:C p=1)(i:F p=false)(j:f p=false):Aj 142 [Y pp,I (p:Int)] [plB pp ps d b n true,coB d e n m,Cg e C n,AI m l clk,alB b n F f S] (λv G=>∃(c:List IE) (a:Nat),WasOk (updN C p (0)) C0 n c a/\v=I 0/\G=[plB pp ps d b n true,coB d e n m,Cg e (updN C p (0)) n,AI m c a,alB b n F (Gl f p) S]):=by
 intro z R w H;replace H:=H.l5;refine Ae func142 Z ntmps142 Z (Z2 25 [4,0,0,1,0,0] H Z (z_E_ Z (call112 _) (FC U U) H.f2.f2 ?_));intro w H;replace H:=H.l5;refine Z0 2 [0] Z (An 20 Z (λh=>U) (λh=>?_));refine Z2 5 [3,2,0] H Z (z_E_ Z (call57 _) (Gg U) H ?_);intro w H;replace H:=H.l5;refine Z0 5 [0] Z (Af Z (λg=>U) (λg=>?_));refine Z2 11 [1,2,0] H Z (Ar Z (call58 _) (I5 C0 p 0 U U U U U W) H.f3.f2.f2 ?_);rintro _ w _ ⟨c,a,W2,rfl,rfl⟩ H;replace H:=H.l5;refine Z2 20 [4,1,3,0] H Z (z_E_ Z (call112 _) (FC U U) H ?_);intro w H;replace H:=H.l5;refine AB 43 (v:=I 0) Z (congrArg I (by simp[updN])) (Z2 10 [3,2,3,0] H Z (z_E_ Z (call179 _) (X9 U U i j) H.f4 ?_));intro w H;replace H:=H.l5;refine Zc 8 Z (Zr Z ?_);exact ⟨_,⟨c,a,W2,Z,Z⟩,H.perm 5 [4,1,2,3,0] Z Z⟩
def DC(C:Nat->Nat)(n i:Nat):Pg:=⟨2,Ld (Ex C n i)⟩
theorem Fd:(DC C n i).Ok:=⟨⟨by show (1:Int)<=2;omega,by show (2:Int)<=5;omega⟩,YF (JB _ _ _)⟩
theorem Ze(F:Nat->Bool)(a:Nat)(hi:i<n)(h:F (a+i)=true):1<=cnt F a n:=by
 have e:=HG F a i (n-i);rw[show i+(n-i)=n by omega] at e;obtain ⟨m,b⟩:∃m,n-i=1+m:=⟨n-i-1,by omega⟩;rw[b,HG] at e;have:cnt F (a+i) 1=1:=by simp[cnt,h]
 omega
theorem GX{F G:Nat->Bool}{a:Nat}:∀{n:Nat},(∀i,i<n->F (a+i)=G (a+i))->cnt F a n=cnt G a n
 | 0,_=>rfl
 | n+1,h=>by simp only[cnt];rw[GX (λi hi=>h i U),h n U]
theorem OH{G:Nat->Bool}(hi:i<n)(h:F i=true)(d:G i=false)(hs:∀j,j≠i->F j=G j):cnt G 0 n+1=cnt F 0 n:=by
 have e:=λF=>HG F 0 i (1+(n-i-1));have e2:=λF=>HG F (0+i) 1 (n-i-1);have c:=λF=>(e F).trans (by rw[e2 F]);rw[show i+(1+(n-i-1))=n by omega] at c;have g:cnt F 0 i=cnt G 0 i:=GX (λj f=>hs _ U);have k:cnt F (0+i+1) (n-i-1)=cnt G (0+i+1) (n-i-1):=GX (λj f=>hs _ U);have l:cnt F (0+i) 1=1:=by simp[cnt,h]
 have m:cnt G (0+i) 1=0:=by simp[cnt,d]
 have a:=c F;have b:=c G;omega
structure CmI(n:Nat)(C:Nat->Nat)(zs:List Int)(g0:BF)(k0 j:Nat)(g:BF)(k:Nat):Prop where
 jl:j<=zs.length
 old:∀p,(p=0\/manyN n<p)->g p=g0 p
 rm:k+cnt (λi=>(g (1+i)).isNone) 0 (manyN n)<=k0+manyN n
 set:∀i,i<manyN n->g (1+i)=none\/g (1+i)=some (DC C n i)
 dn:∀j',j'<j->∀i:Nat,zs[j']?=some (i:Int)->g (1+i)=some (DC C n i)
theorem Qz(F:Nat->Bool)(a:Nat):∀n,cnt F a n<=n
 | 0=>Aek _
 | n+1=>by
  have:=Qz F a n;have:(F (a+n)).toNat<=1:=by cases F (a+n)<;>simp
  simp only[cnt];omega
theorem CmI.start{zs:List Int}{a:BF}(h:∀i,i<manyN n->a (1+i)=none):CmI n C zs a m 0 a m:=
 ⟨AeN _,λ_ _=>rfl,by have:=Qz (λi=>(a (1+i)).isNone) 0 (manyN n);omega,λi hi=>.inl (h i hi),λc b=>by omega⟩
theorem CmI.room{zs:List Int}{a g:BF}{k:Nat}(I_:CmI n C zs a m j g k)(hi:i<manyN n)(c:m+manyN n<=40):¬(g (1+i)=none/\40<=k):=λ⟨b,d⟩=>by
 have:=Ze (λi=>(g (1+i)).isNone) 0 hi (by simp[b]);have:=I_.rm;omega
theorem CmI.put{zs:List Int}{f g:BF}{k:Nat}(I_:CmI n C zs f m j g k)(hi:i<manyN n)(d:zs[j]?=some (i:Int)):CmI n C zs f m (j+1) (pgSet g (1+i) (DC C n i)) (k+(if (g (1+i)).isSome then 0 else 1)):=by
 have a:=(Aed.1 d).1;refine ⟨a,λp hp=>?_,?_,λq hq=>?_,λb r q hq=>?_⟩
 ·unfold pgSet;rw[if_neg U];exact I_.old p hp
 ·have o:=I_.rm
  split
  ·rename_i c
   rw[<-GX (F:=λi=>(g (1+i)).isNone)]
   ·exact o
   intro q _;unfold pgSet;split
   ·rename_i e;rw[show 0+q=i by omega];cases e2:g (1+i)<;>simp_all
   rfl
  rename_i c;have l:g (1+i)=none:=by simpa using c
  have:=OH (F:=λi=>(g (1+i)).isNone) (G:=λq=>(pgSet g (1+i) (DC C n i) (1+q)).isNone) hi (by simp[l]) (by simp[pgSet]) (λq hq=>by unfold pgSet;rw[if_neg U]);omega
 ·unfold pgSet;split
  ·rename_i e;obtain rfl:q=i:=by omega
   exact .inr Z
  exact I_.set q hq
 unfold pgSet;split
 ·rename_i e;obtain rfl:q=i:=by omega
  rfl
 rcases Aes b j with h|h
 ·exact I_.dn b h q hq
 obtain rfl:b=j:=by omega
 rw[d] at hq;simp at hq;omega
theorem CmI.done{C0:Nat->Nat}{zs:List Int}{o g:BF}{k:Nat}(I_:CmI n C zs o m zs.length g k)(l:∀x:Int,x∈zs↔∃k:Nat,k<n/\C k≠C0 k/\x=((k/120:Nat):Int))(hi:i<manyN n):g (1+i)=some (DC C n i)\/g (1+i)=none/\DC C0 n i=DC C n i:=by
 rcases I_.set i hi with h|h
 ·refine .inr ⟨h,?_⟩
  have b:(i:Int)∉zs:=λf=>by
   obtain ⟨j,d⟩:=Ae4 f;have:=I_.dn j (Aed.1 d).1 i d;rw[h] at this;cases this
  have:Ex C0 n i=Ex C n i:=by
   unfold Ex;refine AfE λq hq=>?_;split
   ·rename_i c
    have:=AfS.1 hq;refine congrArg Int.ofNat (Aff λa=>b ((l _).2 ⟨120*i+q,c,λe=>a e.symm,by rw[show (120*i+q)/120=i by omega]⟩))
   rfl
  unfold DC;rw[this]
 exact .inl h
theorem Zg(h:m<n):m/120<manyN n:=by unfold manyN;omega
theorem OI(h:B.length=240):0+240*1<=(A7 (AK B) t).length:=by
 have hp:=AU (l:=B) U;unfold A7;rw[Aeg,Aeh];omega
theorem QA(h:B.length=240):((A7 (AK B) t).drop 0).take (240*1)=B.map u8:=by
 unfold A7;rw[Aew,AeR];have hp:=AU (l:=B) U;rw[Aev (by rw[Aeh];omega),<-Afr];have:=Vt h;rw[Aew] at this;rw[this]
theorem TI(pp ps pd e p m f n:Nat)(D:Dsk)(G:StG)(mb:Nat)(s:BF)(k0:Nat)(C C0:Nat->Nat)(l:List IE)(clk:Nat)(F Dd S:Nat->Bool)(W:WasOk C C0 n l clk)(hn:16<=n/\n<=1024)(hG:G.x.pages=n)(hg:∀i,i<manyN n->s (1+i)=none)(hk:k0+manyN n<=40)(a9:∀k,C k<=1000)(hF:Fine D G mb)(hm:mb<=1000000000):Aj 170 [Y pp] [stoA ps pd D G (some (s,k0)),plB pp ps e f n true,coB e p n m,Cg p C n,AI m l clk,alB f n F Dd S] (λv X=>∃(t:Dsk) (b:StG) (g:BF) (k:Nat) (zs:List Int),CmI n C zs s k0 zs.length g k/\(∀x:Int,x∈zs↔∃k:Nat,k<n/\C k≠C0 k/\x=((k/120:Nat):Int))/\Fine t b (mb+2)/\t.n=D.n/\b.M=El G.M (some (g,k))/\(b.x=G.x\/b.x=Eg G.x G.a G.q)/\v=I 0/\X=[stoA ps pd t b none,plB pp ps e f n false,coB e p n m,Cg p C n,AI m ([]) clk,alB f n (Dh F Dd) BX (Dh F Dd)]):=by
 intro z R w H;refine Ae func170 Z ntmps170 Z (Z2 25 [4,1,0,1,1,0] H Z (Ar Z (call204 _) (Ty C0 U W) H.f4.f4.f4 ?_));rintro v1 w _ ⟨v2,zs,Z_,⟨b2,a0,a3⟩,rfl,rfl⟩ H;obtain ⟨za,zc,rfl⟩:=H.sy 0 (λq=>(a3 _ q).slc);refine Zc 5 Z ?_;refine AD (σ:=Nat×BF×Nat) (λ⟨j,g,k⟩=>[(18,I (j:Int)),(0,Y pp),(16,.slice za zs.length zc),(17,I (zs.length:Int))])
   (λ⟨j,g,k⟩ w=>Sep z (Z_::coB e p n m::Cg p C n::AI m l clk::stoA ps pd D G (some (g,k))::plB pp ps e f n true::alB f n F Dd S::R) w/\(CmI n C zs s k0 j g k)) (λ⟨j,g,k⟩=>zs.length-j) ⟨0,s,k0⟩
   fr_z ⟨H,CmI.start hg⟩ ?_
 clear H;rintro ⟨j,g,k⟩ w ⟨o,hI⟩;dsimp only at hI o ⊢;have H:=o.l7;have hC:=hI;clear hI;have b3:=hC.jl;refine Z0 6 [0] Z (Af Z (λh1=>?_) (λh1=>?_))
 ·obtain ⟨z_,c⟩:∃z_,zs[j]?=some z_:=⟨_,Aef U⟩;obtain ⟨q_,a7,b4,y⟩:=(a0 z_).1 (Aee c);obtain ⟨i,a1⟩:∃i,i=q_/120:=⟨_,Z⟩;rw[<-a1] at y;subst y;have hi:i<manyN n:=a1▸Zg a7
  have b5:manyN n<n:=by unfold manyN;omega
  refine Zc 6 Z ?_;have a2:=(H.rd 0 Z a3).at (j:=j) (u:=I (i:Int)) (by simp[c]);refine Ab Z (Ak Z (z:=1) (j:=j) (r:=j) J Z Z Z U a2 U) (Ab Z (Ay Z Z J (Az a2)) (Zc 4 Z ?_));replace H:=H.f5;refine AQ (Sep z (plB pp ps e f n true::R)) 16 Z J (A4 H λw o=>?_);have H:=o.l7;refine HJ [0,1,2,3,4,5,6,7,8,9,10,11] [0,0,0,0,1,0,0] [((1+i:Nat):Int)] (by exact H.pick 7 [0] Z) Z J U Z (AE [12] J O (Am (Bt Z Z Z Z Z Z (λw=>call59 _ w) (Qr i hi U a9) H.f3.f3 Z ?_)));rintro _ w _ ⟨pw,rfl,rfl⟩ H;refine Ax (H.pick 8 [3] Z) (AT [13] [] [] (by exact H.pick 8 [3] Z) Z J Z (AE [14] J O (Am (Bt Z Z Z Z Z Z (λw=>call55 _ w) (GA (1+i) U (DC C n i) (Fd) (λh q=>q.rd U U (OI (Fd).2) (QA (Fd).2))) H.f6 Z ?_))));rintro _ w _ (⟨a4,rfl,rfl⟩|⟨_,rfl,rfl⟩) o
  ·exact absurd a4 (hC.room hi hk)
  have H:=o.l8;refine Ax (H.pick 8 [4] Z) (AT [15] [] [] (by exact H.pick 8 [4] Z) Z J Z (a_done J (gn (Z1 15 [4] [(j:Int)+1] Z U ?_))));replace H:=H.f1.d.f6.f4.f2.f6.f5.f5.f6;refine gf ?_;intro _ hF;refine ⟨⟨j+1,pgSet g (1+i) (DC C n i),k+(if (g (1+i)).isSome then 0 else 1)⟩,hF.cz,⟨H,?_⟩,?_⟩
  ·exact hC.put hi c
  (dsimp only;omega)
 obtain rfl:j=zs.length:=by omega
 refine Zc 2 Z (gx (Z2 10 [0,0,5,0] H Z (Ar Z (call60 _) (OF mb hF hm) H.f4 ?_)));rintro _ w _ ⟨t,b,a8,b0,⟨a6,b1⟩,a5,rfl,rfl⟩ H;refine Z4 26 [4,4,5,1,5,0] H Z ?_;intro w H;refine z_E_ Z (call205 _) (Tx) H.f4.f3 ?_;intro w H;refine Z2 8 [2,5,0] H Z (z_E_ Z (call114 _) (MB) H.f6 ?_);intro w H;refine Zc 8 Z (Zr Z ?_);exact ⟨_,⟨t,b,g,k,zs,hC,a0,a8,b0,a6,a5,Z,Z⟩,H.perm 7 [3,6,1,5,2,0] Z Z⟩
section
section
variable{P:Program}{o:Oper}{w z:World}{Γ:List Ai}{n:Nat}{ds:List Deferred}{L:List (Nat×Value)}{x y:Operand}
theorem Zh{e:TypeId}{k:Nat}(H:Sep z Γ w)(ho:o.op=.makeSlice T x y)(ht:P.underlying T=some (.slice e))(hE:Elt P e u m j)(l:ev L x=some (I k))(p:ev L y=some (I k))(hk:j*k<=140737488355328){out:List Value}(c:madeCells u.cells (k*m)=out.toArray):
  CA P n ds L o w (λv w'=>∃b,v=.slice (some ⟨b,0,none⟩) k k/\Sep z (blk b out e::Γ) w'):=λa g=>by
 obtain ⟨i,hi,q,hs,t,r,s,d⟩:=hE;have f:(i.bytes:Int)*(k:Int)<=281474976710656:=by
  rw[t,<-Int.natCast_mul];omega
 have h:=run_make (P:=P) (w:=w) T e i u ht hi q .i64 .i64 (k:Int) (k:Int) U (Afo _) f (by
  have:1*k<=j*k:=AfI _ d;omega)
 have e1:madeCells u.cells (((k:Int)).toNat*i.size)=out.toArray:=by
  rw[Ae6,hs];exact c
 rw[e1] at h;refine ⟨_,_,?_,w.heap.size,Z,H.new (Dv w (.cells out.toArray e)) (Aek _) (by show (w.heap.push _)[w.heap.size]?=_;simp)⟩;simp only[execOp,ho,g.ev l,g.ev p,Aex,h,Aet,AeC,Ae6];rfl
end
theorem VZ(h:B.length=256):0+240*1<=(A7 B t).length:=by unfold A7;rw[Aeg,Aeh];omega
theorem Zi(h:B.length=256):((A7 B t).drop 0).take (240*1)=(B.take 240).map u8:=by
 unfold A7;rw[Aew,AeR,Aev (by rw[Aeh];omega),Afr]
def C1(i:Nat):Nat->Nat:=λp=>if p<i then 1 else 0
theorem QB(i:Nat):updN (C1 i) i 1=C1 (i+1):=by
 funext p;unfold updN C1;split
 ·rw[if_pos U]
 by_cases h:p<i
 ·rw[if_pos h,if_pos U]
 rw[if_neg h,if_neg U]
theorem QC:C1 0=λ_=>0:=by funext p;simp[C1]
theorem RS(k:Nat):C1 i k<=1000:=by unfold C1;split<;>omega
def gF(n:Nat)(cb:List UInt8)(i:Nat):BF:=λp=>if p=0 then some ⟨1,cb⟩ else if p<=i then some (DC (C1 (manyN n+1)) n (p-1)) else none
theorem Zj(n:Nat)(a:List UInt8)(i:Nat):(some (pgSet (gF n a i) (1+i) (DC (C1 (manyN n+1)) n i),1+i+(if (gF n a i (1+i)).isSome then 0 else 1)):Hi)=some (gF n a (i+1),1+(i+1)):=by
 have e:gF n a i (1+i)=none:=by unfold gF;rw[if_neg U,if_neg U]
 rw[e];have:pgSet (gF n a i) (1+i) (DC (C1 (manyN n+1)) n i)=gF n a (i+1):=by
  funext p;unfold pgSet gF;split
  ·rename_i h;subst h;rw[if_neg U,if_pos U,show 1+i-1=i by omega]
  by_cases h0:p=0
  ·rw[if_pos h0,if_pos h0]
  rw[if_neg h0,if_neg h0];by_cases h1:p<=i
  ·rw[if_pos h1,if_pos U]
  rw[if_neg h1,if_neg U]
 rw[this];simp;omega
theorem Zk(n:Nat)(a:List UInt8):(some (pgSet Dq 0 ⟨1,a⟩,0+(if (Dq 0).isSome then 0 else 1)):Hi)=some (gF n a 0,1+0):=by
 have:pgSet Dq 0 ⟨1,a⟩=gF n a 0:=by
  funext p;unfold pgSet gF Dq;split
  ·rfl
  rw[if_neg U]
 rw[this];rfl
theorem IG{n:Nat}(h:n<=1024):manyN n<=9:=by unfold manyN;omega
theorem OJ{n:Nat}(h:16<=n):1<=manyN n/\manyN n+1<n:=by unfold manyN;omega
theorem Sep.flDisk{z w:World}{Γ:List Ai}{ps pd:Nat}{D:Dsk}{G:StG}(H:Sep z (stoA ps pd D.fl {G with sure:=G.rs.length} none::Γ) w)(hq:G.q<=1099511627776):OInv D.fl G.x G.B (λd=>d=G.rs)/\Sep z (diskA pd D.fl::Γ) w:=by
 obtain ⟨X,g,H⟩:=H.sto;have h:=g.inv.crashed (D':=D.fl) hq ⟨Z,λ_=>rfl,λ_=>.inl Z⟩;have e:(λd:List Rc=>G.rs.length<=d.length/\d.length<=G.rs.length/\d=G.rs.take d.length)=λd=>d=G.rs:=funext λd=>propext ⟨λ⟨a,b,c⟩=>by rw[c];exact Ael U,λe=>by subst e;simp⟩;refine ⟨?_,H.pick 6 [3] Z⟩;have f:OInv D.fl G.x G.B (λd:List Rc=>G.rs.length<=d.length/\d.length<=G.rs.length/\d=G.rs.take d.length):=h;rw[e] at f;exact f
end
section
section
variable{P:Program}{C:World->Prop}{o:Oper}{n:Nat}{ds:List Deferred}{L:List (Nat×Value)}{x y:Operand}{xt yt:TypeId}
def MP(P:Program)(t:TypeId)(f:Nat)(cs:Array Value):Option Value:=match P.underlying t with
 | some (.struct fs)=>match fs[f]? with
  | some fd=>bif Gi P fd.type then cs[fd.offset]? else none
  | none=>none
 | _=>none
theorem OK{cs:Array Value}(h:o.op=.field T x m)(f:ev L x=some (.agg cs))(b:MP P T m cs=some v):Av P C n ds L o v:=λa g w _=>by
 unfold MP at b;split at b
 ·rename_i i d
  split at b
  ·rename_i c e
   cases hb:Gi P c.type with
   | false=>rw[hb] at b;cases b
   | true=>
    rw[hb] at b;simp only[cond_true] at b;simp only[execOp,h,g.ev f,Instr.field,Aex,run_underlying d,Aet,e];simp[asAgg,part,FO hb,b,go_sem]
  cases b
 cases b
end
end
def AX(n:Nat)(C:Nat->Nat):Nat->Bool:=λp=>decide (p<n/\C p=0)
def LC(C:Nat->Nat)(i:Nat):Nat->Nat:=λp=>if p/120+1<i then C p else 0
theorem Zm(C:Nat->Nat):LC C 0=λ_=>0:=by funext p;simp[LC]
theorem AbN(C:Nat->Nat):LC C 1=LC C 0:=by funext p;simp[LC]
theorem TJ(C:Nat->Nat)(n i:Nat)(h:m<120):(Ex C n i).getD m 0=if 120*i+m<n then (C (120*i+m):Int) else 0:=by
 simp[Ex,List.getD,h]
theorem Zn(C:Nat->Nat)(n j:Nat):C4 (HQ (LC C (1+j)) j (Ex C n j) 120) n=C4 (LC C (1+j+1)) n:=by
 unfold C4;refine AfE λp hp=>?_;have hp:=AfS.1 hp;unfold HQ LC;by_cases h:p/120=j
 ·rw[if_pos ⟨h,by omega⟩,if_pos U,TJ _ _ _ U,if_pos U,show 120*j+p%120=p by omega];rfl
 rw[if_neg (λq=>h q.1)];by_cases h2:p/120+1<1+j
 ·rw[if_pos h2,if_pos U]
 rw[if_neg h2,if_neg U]
theorem AbO(C:Nat->Nat)(n:Nat):C4 (LC C (manyN n+1)) n=C4 C n:=by
 unfold C4;refine AfE λp hp=>?_;have hp:=AfS.1 hp;unfold LC;rw[if_pos (by unfold manyN;omega)]
theorem AbP :∀(k:Nat) (x:Int),(Ex C n i)[k]?=some x->n<=120*i+k->x=0:=λk x h b=>by
 have a:=(Aed.1 h).1;rw[JB] at a;have:=TJ C n i a;rw[List.getD,h,if_neg U] at this;simpa using this
def HV(C:Nat->Nat)(n i:Nat):Nat->Bool:=λp=>decide (p<n) && !(decide (p<i)&&decide (0<C p))
theorem V1(C:Nat->Nat)(n:Nat):HV C n 0=DT n:=by funext p;simp[HV,DT]
theorem Zo(C:Nat->Nat)(n:Nat):HV C n n=AX n C:=by
 funext p;unfold HV AX;rw[Aey];simp;omega
theorem V4(h:0<C i):Dx (HV C n i) i=HV C n (i+1):=by
 funext p;unfold Dx HV;rw[Aey];simp;by_cases e:p=i
 ·subst e;simp;omega
 simp[e];omega
theorem V5(h:¬0<C i):HV C n i=HV C n (i+1):=by
 funext p;unfold HV;by_cases e:p=i
 ·subst e;have:decide (0<C p)=false:=decide_eq_false h
  rw[this];simp
 have a:decide (p<i)=decide (p<i+1):=decide_eq_decide.2 U;rw[a]
theorem QD(F:Nat->Bool):Dh F BX=F:=by funext p;simp[Dh,BX]
theorem AbQ(h:i<n):HV C n i i=true:=by unfold HV;simp[h]
theorem Zp{G:StG}(mb n:Nat)(C:Nat->Nat)(l:Fine D G mb)(hn:16<=n/\n<=1024)(hG:G.x.pages=n)(cb:List UInt8)(o:G.M 0=⟨1,cb⟩)(r:∀i,i<manyN n->G.M (1+i)=DC C n i)(hC:∀k,C k<=1000)(a2:∀p,p<=manyN n->C p=1):Aj 62 [Y e] [stoA e g D G none] (λv X=>∃pp b c m a:Nat,v=.tuple #[Y pp,I 0]/\X=[stoA e g D G none,plB pp e b a n false,coB b c n m,Cg c C n,AI m ([]) 0,alB a n (AX n C) BX (AX n C)]):=by
 intro z R w H;have b3:=OJ hn.1;refine Ae func62 Z ntmps62 Z (Zc 21 Z (z_E_ Z (call109 _) (Y8) H ?_));intro w H;refine Ab Z (OK (v:=I G.x.pages) Z Z J) (AB 18 (v:=I (n:Int)) Z (congrArg I hG) (Ab Z (Bg Z Z (out:=[Y e,.pointer none,.pointer none,I (n:Int),.bool false]) J) (Za 0 [] H Z ?_)));intro s w H;refine Z2 10 [3,0,0] H Z (Ar Z (call56 _) (Tw U) H ?_);rintro _ w _ ⟨b,c,m,rfl,rfl⟩ H;refine Z4 15 [1,3,3,3,0] H Z ?_;intro w H;refine Ar Z (call110 _) (Abi U) H ?_;rintro _ w _ ⟨a,rfl,rfl⟩ H;refine Z4 11 [2,4,3,4,0] H Z ?_;intro w H;refine z_E_ Z (call57 _) (Gg U) H ?_;intro w H;refine Z1 17 [] [(manyN n:Int)+1] Z U ?_;refine AD (σ:=Nat) (λi=>[(47,I (i:Int)),(6,.bool false),(0,Y e),(4,Y s),(5,I (manyN n:Int)),(46,I ((manyN n:Int)+1))])
   (λi w=>Sep z (alB a n (DT n) BX (DT n)::coB b c n m::Cg c (LC C i) n::AI m ([]) 0::plB s e b a n false::stoA e g D G none::R) w/\(i<=manyN n+1)) (λi=>manyN n+1-i) 0
   fr_z ⟨(by rw[Zm];exact H),by omega⟩ ?_
 clear H;rintro i w ⟨f,t⟩;have H:=f.l6;have a7:=t;clear t;refine Z0 6 [0] Z (Af Z (λu=>?_) (λu=>?_))
 ·have a0:G.M i≠noPg:=λq=>by
    rcases AgU i with h0|h0
    · subst h0;rw[o] at q;cases q
    · have u:=r (i-1) U;rw[show 1+(i-1)=i by omega,q] at u;cases u
  refine Zc 14 Z (Ar Z (call85 _) (Lf e g D G none i U l.clean.f1 (G.M i) Z) H.f5 ?_);rintro _ w _ (⟨a8,rfl,rfl⟩|⟨a9,rv,rfl,rfl⟩) f
  ·exact absurd a8 a0
  have H:=f.l7;obtain ⟨gb,a6,rest,rfl,c1,c2,c3,H⟩:=H.ungrow 0 Z U;refine Za 3 [] H Z ?_;intro b2 w H;refine Z4 20 [0,4,0] H Z ?_;intro w H;refine Af Z (λh2=>?_) (λh2=>?_)
  ·obtain rfl:i=0:=by omega
   refine Z2 5 [0,0,0] H Z (AB 84 (v:=I 1) Z (congrArg I (by rw[o])) (Z1 11 [4] [(0:Int)+1] Z U ?_));replace H:=H.f1.d.d.f5.f5.f5.f5.f5;refine gf ?_;intro _ l;refine ⟨(0+1),l.cz,⟨(by rw[AbN];exact H),?_⟩,?_⟩
   ·omega
   omega
  obtain ⟨j,rfl⟩:∃j,i=1+j:=⟨i-1,by omega⟩;have a1:=r j U;have a4:(G.M (1+j)).body.length=240:=by rw[a1];exact (Fd).2
  have a5:(G.M (1+j)).body=Ld (Ex C n j):=by rw[a1];rfl
  refine BK 15 J J (A4 H λw f=>?_);have H:=f.l8;refine PU 4 [0,0] (AR (H.blk 0 Z) AN) Z J Z (AB 59 (v:=I 2) Z (congrArg I (by rw[r j U];rfl)) (ES 11 [4,1,7,0,1,0,0] [(j:Int)] H Z J U (CG (gw (z_E_ Z (call111 _) (YR j U U (λh q=>q.rd U U (by rw[Aeg,Aeh,a4];omega) (by rw[Aew,AeR,AeI (by rw[Aeh,a4])])) (Ex C n j) (JB _ _ _) (Tv hC) a5 AbP) H.f1.f6.f6.f6 ?_)))));intro w H;dsimp only[Cg] at H;rw[Zn] at H;have f:Sep z (coB b c n m::Cg c (LC C (1+j+1)) n::AI m ([]) 0::blk gb ((G.M (1+j)).body.map u8++rest) 5::blk b2 [I ((G.M (1+j)).kind),.slice (some ⟨gb,0,none⟩) 240 a6] 104::stoA e g D G none::alB a n (DT n) BX (DT n)::plB s e b a n false::R) w:=H;clear H;have H:=f.l8;refine Z1 11 [4] [((1+j):Int)+1] Z U ?_;replace H:=H.f4.d.f3.d.f3.f5.f4.f4.f4.f5;refine gf ?_;intro _ l;refine ⟨(1+j+1),l.cz,⟨H,?_⟩,?_⟩
  ·omega
  omega
 obtain rfl:i=manyN n+1:=by omega
 refine Zc 2 Z (gx (Zc 4 Z ?_));dsimp only[Cg] at H;rw[AbO] at H;have f:Sep z (alB a n (DT n) BX (DT n)::coB b c n m::Cg c C n::AI m ([]) 0::plB s e b a n false::stoA e g D G none::R) w:=H;clear H;have H:=f.l6;refine Z1 7 [] [(manyN n:Int)+1] Z U ?_;refine AD (σ:=Nat) (λi=>[(90,I (i:Int)),(6,.bool false),(4,Y s),(89,I ((manyN n:Int)+1))])
   (λi w=>Sep z (alB a n (DT n) BX (DT n)::coB b c n m::Cg c C n::AI m ([]) 0::plB s e b a n false::stoA e g D G none::R) w/\(i<=manyN n+1)) (λi=>manyN n+1-i) 0
   fr_z ⟨H,by omega⟩ ?_
 clear H;rintro i w ⟨f,t⟩;have H:=f.l6;have a7:=t;clear t;refine Z0 6 [0] Z (Af Z (λh3=>?_) (λh3=>?_))
 ·have a0:G.M i≠noPg:=λq=>by
    rcases AgU i with h0|h0
    · subst h0;rw[o] at q;cases q
    · have u:=r (i-1) U;rw[show 1+(i-1)=i by omega,q] at u;cases u
  refine Z2 18 [1,4,0] H Z (z_E_ Z (call112 _) (FC U U) H.f2.f2 ?_);intro w H;refine AB 100 (v:=I 1) Z (congrArg I (by rw[a2 i U];rfl)) (Z1 10 [4] [(i:Int)+1] Z U ?_);replace H:=H.f5.f5.f5.f4.f4.f5;refine gf ?_;intro _ l;refine ⟨(i+1),l.cz,⟨H,?_⟩,?_⟩
  ·omega
  omega
 obtain rfl:i=manyN n+1:=by omega
 refine Zc 2 Z (gx (Z2 22 [3,4,0] H Z ?_));refine AD (σ:=Nat) (λi=>[(109,I (i:Int)),(4,Y s),(108,I (n:Int))])
   (λi w=>Sep z (alB a n (HV C n i) BX (DT n)::coB b c n m::Cg c C n::AI m ([]) 0::plB s e b a n false::stoA e g D G none::R) w/\(i<=n)) (λi=>n-i) 0
   fr_z ⟨(by rw[V1];exact H),by omega⟩ ?_
 clear H;rintro i w ⟨f,t⟩;have H:=f.l6;have b0:=t;clear t;refine Z0 6 [0] Z (Af Z (λh4=>?_) (λh4=>?_))
 ·refine Z2 17 [1,4,0] H Z (z_E_ Z (call112 _) (FC U U) H.f2.f2 ?_);intro w H;refine Z0 3 [0] Z (Af Z (λh5=>?_) (λh5=>?_))
  ·have a3:0<C i:=by omega
   refine Z2 6 [2,4,0] H Z (z_E_ Z (call113 _) (SZ i U U (AbQ U)) H.f2 ?_);intro w H;rw[V4 a3] at H;refine Z1 7 [] [(i:Int)+1] Z U (gf ?_);intro _ l;refine ⟨(i+1),l.cz,⟨H,?_⟩,?_⟩
   ·omega
   omega
  have y:¬0<C i:=by omega
  refine Z1 7 [] [(i:Int)+1] Z U ?_;replace H:=H.f5.f5.f5.f4.f4.f5;refine gf ?_;intro _ l;refine ⟨(i+1),l.cz,⟨(by rw[<-V5 y];exact H),?_⟩,?_⟩
  ·omega
  omega
 obtain rfl:n=i:=by omega
 refine Zc 2 Z (gx (Zc 3 Z ?_));rw[Zo] at H;refine Z2 5 [2,4,0] H Z (z_E_ Z (call114 _) (MB) H ?_);intro w H;rw[QD] at H;refine Zc 10 Z (Zr Z ?_);exact ⟨_,⟨s,b,c,m,a,Z,Z⟩,H.perm 6 [5,4,1,2,3,0] Z Z⟩
section
variable{Tb:Ai}
def fup{α:Type}(f:Nat->α)(a:Nat)(x:α):Nat->α:=λi=>if i=a then x else f i
theorem BN{α:Type}(f:Nat->α)(a:Nat)(x:α):fup f a x a=x:=by simp[fup]
theorem fup_ne{α:Type}(f:Nat->α)(x:α)(h:i≠m):fup f m x i=f i:=by simp[fup,h]
structure PoX where
 ps:Nat
 pd:Nat
 pc:Nat
 bn:Nat
 mm:Nat
 pa:Nat
 D:Dsk
 G:StG
 g:BF
 l:List IE
 clk:Nat
 Dd:Nat->Bool
 A:Ai
structure PoT where
 M:Nat->Pg
 C:Nat->Nat
 F:Nat->Bool
 k:Nat
def poC(C0:Nat->Nat):Option PoT->Nat->Nat
 | none=>C0
 | some T=>T.C
def XA(n:Nat)(C0:Nat->Nat):Option PoT->Nat->Bool
 | none=>AX n C0
 | some T=>T.F
def poM(M0:Nat->Pg):Option PoT->Nat->Pg
 | none=>M0
 | some T=>T.M
def TK(g:BF):Option PoT->Hi
 | none=>none
 | some T=>some (g,T.k)
def XB(pp n:Nat)(C0:Nat->Nat)(t:Option PoT)(X:PoX):List Ai:=
 [plB pp X.ps X.pc X.pa n t.isSome,stoA X.ps X.pd X.D X.G (TK X.g t),coB X.pc X.bn n X.mm,Cg X.bn (poC C0 t) n,AI X.mm X.l X.clk,alB X.pa n (XA n C0 t) X.Dd (AX n C0),X.A]
structure PoQ(n:Nat)(C0:Nat->Nat)(T:PoT)(X:PoX):Prop where
 m:∀p,(p=0\/manyN n<p)->T.M p=El X.G.M (some (X.g,T.k)) p
 gn:∀i,i<manyN n->X.g (1+i)=none
 W:WasOk T.C C0 n X.l X.clk
 c:∀k,T.C k<=1000
 df:Dh T.F X.Dd=AX n T.C
 dj:∀p,X.Dd p=true->T.F p=false
 one:∀p,p<=manyN n->T.C p=1
structure PoP(Tb:Ai)(mb n:Nat)(M0:Nat->Pg)(C0:Nat->Nat)(t:Option PoT)(X:PoX):Prop where
 hn:16<=n/\n<=1024
 fine:Fine X.D X.G mb
 pg:X.G.x.pages=n
 tab:Ht X.A/\X.A=Tb
 m0:∀p,(p=0\/manyN n<p)->M0 p=X.G.M p
 cp:∀i,i<manyN n->X.G.M (1+i)=DC C0 n i
 c0:∀k,C0 k<=1000
 one:∀p,p<=manyN n->C0 p=1
 idle:t=none->X.l=[]/\X.Dd=BX
 tx:∀T,t=some T->PoQ n C0 T X
def poA(Tb:Ai)(pp mb n:Nat)(M0:Nat->Pg)(C0:Nat->Nat)(t:Option PoT):Ai:=λh=>∃X,PoP Tb mb n M0 C0 t X/\seps (XB pp n C0 t X) h
variable{z w:World}{Γ:List Ai}{pp mb n:Nat}{M0:Nat->Pg}{C0:Nat->Nat}{t:Option PoT}{T:PoT}
theorem Sep.po(H:Sep z (poA Tb pp mb n M0 C0 t::Γ) w):∃X,PoP Tb mb n M0 C0 t X/\Sep z (XB pp n C0 t X++Γ) w:=
 H.into (p:=λX=>PoP Tb mb n M0 C0 t X) (As:=λX=>XB pp n C0 t X) (λ_ q=>q)
theorem Sep.toPo{X:PoX}(H:Sep z Γ w)(b:PoP Tb mb n M0 C0 t X)(a:Γ.take 7=XB pp n C0 t X):Sep z (poA Tb pp mb n M0 C0 t::Γ.drop 7) w:=
 H.made 7 (λh q=>⟨X,b,by rwa[a] at q⟩)
theorem poA.hn{h:Hp}(a:poA Tb pp mb n M0 C0 t h):16<=n/\n<=1024:=by
 obtain ⟨X,b,_⟩:=a;exact b.hn
structure PoK(n:Nat)(T:PoT):Prop where
 c:∀k,T.C k<=1000
 free:∀p,T.F p=true->p<n/\T.C p=0/\manyN n<p
 one:∀p,p<=manyN n->T.C p=1
theorem PoQ.k{X:PoX}(Q:PoQ n C0 T X)(b:16<=n):PoK n T:=by
 refine ⟨Q.c,λp hp=>?_,Q.one⟩;have a:AX n T.C p=true:=by rw[<-Q.df];simp[Dh,hp]
 simp[AX] at a;refine ⟨a.1,a.2,?_⟩;rcases Aes (manyN n) p with h|h
 ·exact h
 have:=Q.one p h;omega
theorem poA.k{h:Hp}(a:poA Tb pp mb n M0 C0 (some T) h):PoK n T:=by
 obtain ⟨X,b,_⟩:=a;exact (b.tx T Z).k b.hn.1
theorem poA.c0{h:Hp}(a:poA Tb pp mb n M0 C0 t h):(∀k,C0 k<=1000)/\∀p,p<=manyN n->C0 p=1:=by
 obtain ⟨X,b,_⟩:=a;exact ⟨b.c0,b.one⟩
def po0(n:Nat)(M0:Nat->Pg)(C0:Nat->Nat):PoT:=⟨M0,C0,AX n C0,0⟩
theorem Zq(pp mb n:Nat)(M0:Nat->Pg)(C0:Nat->Nat):Aj 120 [Y pp] [poA Tb pp mb n M0 C0 none] (λv G=>v=I 0/\G=[poA Tb pp mb n M0 C0 (some (po0 n M0 C0))]):=by
 intro z R w H;obtain ⟨X,a,H⟩:=H.po;obtain ⟨b,c⟩:=a.idle Z;refine Ret.mono (Cn.at (VS pp X.ps X.pd X.pc X.bn X.mm X.pa n X.D X.G) H 7 [0,1,2,3,4,5,6] Z Z) ?_;rintro v h ⟨Γ',⟨rfl,rfl⟩,d⟩;refine ⟨_,⟨Z,Z⟩,d.toPo (X:= {X with g:=Dq}) ⟨a.hn,a.fine,a.pg,a.tab,a.m0,a.cp,a.c0,a.one,λe=>(by cases e),λT e=>?_⟩ Z⟩;cases e;refine ⟨λp hp=>a.m0 p hp,λ_ _=>rfl,?_,a.c0,?_,λp hp=>?_,a.one⟩
 ·show WasOk C0 C0 n X.l X.clk
  rw[b];exact WasOk.nil _ _ _
 ·show Dh (AX n C0) X.Dd=AX n C0
  rw[c];exact QD _
 have:X.Dd p=true:=hp;rw[c] at this;cases this
theorem Zs(pp mb n:Nat)(M0:Nat->Pg)(C0:Nat->Nat)(T:PoT):Aj 121 [Y pp] [poA Tb pp mb n M0 C0 (some T)] (λv G=>v=.tuple #[]/\G=[poA Tb pp mb n M0 C0 none]):=by
 intro z R w H;obtain ⟨X,a,H⟩:=H.po;have Q:=a.tx T Z;refine Ret.mono (Cn.at (VT pp X.ps X.pd X.pc X.bn X.mm X.pa n X.D X.G X.g T.k T.C C0 X.l X.clk T.F X.Dd (AX n C0) Q.W) H 7 [1,0,2,3,4,5,6] Z Z) ?_;rintro v c ⟨Γ',⟨rfl,rfl⟩,b⟩;have H3:=b.pick 7 [1,0,2,3,4,5,6] Z;exact ⟨_,⟨Z,Z⟩,H3.toPo (X:= {X with l:=[],Dd:=BX}) ⟨a.hn,a.fine,a.pg,a.tab,a.m0,a.cp,a.c0,a.one,λ_=>⟨Z,Z⟩,λT e=>(by cases e)⟩ Z⟩
theorem V6(pp mb n:Nat)(M0:Nat->Pg)(C0:Nat->Nat)(T:PoT)(s:T.k+manyN n<=40)(f:mb<=1000000000):Aj 170 [Y pp] [poA Tb pp mb n M0 C0 (some T)] (λv G=>v=I 0/\G=[poA Tb pp (mb+2) n T.M T.C none]):=by
 intro z R w H;obtain ⟨X,a,H⟩:=H.po;have Q:=a.tx T Z;refine Ret.mono (Cn.at (TI pp X.ps X.pd X.pc X.bn X.mm X.pa n X.D X.G mb X.g T.k T.C C0 X.l X.clk T.F X.Dd (AX n C0) Q.W a.hn a.pg Q.gn s Q.c a.fine f) H 7 [1,0,2,3,4,5,6] Z Z) ?_;rintro v t ⟨Γ',⟨D2,G2,g,k,zs,d,j,q,_,b,r,rfl,rfl⟩,o⟩;have H3:=o.pick 7 [1,0,2,3,4,5,6] Z;rw[Q.df] at H3;refine ⟨_,⟨Z,Z⟩,H3.toPo (X:= {X with l:=[],Dd:=BX,D:=D2,G:=G2}) ⟨a.hn,q,?_,a.tab,λp hp=>?_,λi hi=>?_,Q.c,Q.one,λ_=>⟨Z,Z⟩,λT e=>(by cases e)⟩ Z⟩
 ·have:=a.pg
  rcases r with e|e
  ·show G2.x.pages=_;rw[e];exact this
  show G2.x.pages=_;rw[e];exact this
 ·rw[Q.m p hp]
  show _=G2.M p;rw[b];simp only[El];rw[d.old p hp]
 show G2.M (1+i)=_;rw[b];simp only[El];rcases d.done j hi with h|⟨h,e⟩
 ·rw[h];rfl
 rw[h,<-e];exact a.cp i hi
theorem Zt(pp mb n:Nat)(M0:Nat->Pg)(C0:Nat->Nat)(t:Option PoT)(p:Nat)(hp:p<n):Aj 138 [Y pp,I (p:Int)] [poA Tb pp mb n M0 C0 t] (λv G=>v=I (poC C0 t p:Int)/\G=[poA Tb pp mb n M0 C0 t]):=by
 intro z R w H;obtain ⟨X,a,H⟩:=H.po;refine Ret.mono (Cn.at (VU pp X.ps X.pc X.bn X.mm X.pa n t.isSome (poC C0 t) p hp a.hn) H 7 [0,2,3,1,4,5,6] Z Z) ?_;rintro v c ⟨Γ',⟨rfl,rfl⟩,b⟩;exact ⟨_,⟨Z,Z⟩,(b.pick 7 [0,3,1,2,4,5,6] Z).toPo a Z⟩
theorem AbR(pp mb n:Nat)(M0:Nat->Pg)(C0:Nat->Nat)(t:Option PoT):Aj 23 [Y pp] [poA Tb pp mb n M0 C0 t] (λv G=>v=I (cnt (XA n C0 t) 0 1024:Int)/\G=[poA Tb pp mb n M0 C0 t]):=by
 intro z R w H;obtain ⟨X,b,H⟩:=H.po;refine Ret.mono (Cn.at (Zb pp X.ps X.pc X.pa n t.isSome (XA n C0 t) X.Dd (AX n C0)) H 7 [0,5,1,2,3,4,6] Z Z) ?_;rintro v c ⟨Γ',⟨rfl,rfl⟩,a⟩;exact ⟨_,⟨Z,Z⟩,(a.pick 7 [0,2,3,4,5,1,6] Z).toPo b Z⟩
theorem Zu(pp mb n:Nat)(M0:Nat->Pg)(C0:Nat->Nat)(t:Option PoT):Aj 80 [Y pp] [poA Tb pp mb n M0 C0 t] (λv G=>v=.bool t.isSome/\G=[poA Tb pp mb n M0 C0 t]):=by
 intro z R w H;obtain ⟨X,b,H⟩:=H.po;refine Ret.mono (Cn.at (VV pp X.ps X.pc X.pa n t.isSome) H 7 [0,1,2,3,4,5,6] Z Z) ?_;rintro v c ⟨Γ',⟨rfl,rfl⟩,a⟩;exact ⟨_,⟨Z,Z⟩,a.toPo b Z⟩
theorem PoQ.put{X:PoX}{p:Nat}{x:Pg}(Q:PoQ n C0 T X)(hp:p=0\/manyN n<p)(a:Nat):PoQ n C0 {T with M:=fup T.M p x,k:=a} {X with g:=pgSet X.g p x} :=by
 refine ⟨λq hq=>?_,λi hi=>?_,Q.W,Q.c,Q.df,Q.dj,Q.one⟩
 ·simp only[fup,El,pgSet]
  split
  ·rfl
  exact Q.m q hq
 show pgSet X.g p x (1+i)=none;unfold pgSet;rw[if_neg U];exact Q.gn i hi
theorem write_p(pp mb n:Nat)(M0:Nat->Pg)(C0:Nat->Nat)(T:PoT)(p:Nat)(x:Pg)(d:x.Ok)(b:Value)(B:Ai)(f:∀h,B h->rdH 1 b 240 (x.body.map u8) h)(m:T.k<40)(hp:(p=0\/manyN n<p)/\p<n)(j:T.C p≠0):
  Aj 169 [Y pp,I (p:Int),.agg #[I x.kind,b]] [poA Tb pp mb n M0 C0 (some T),B] (λv G=>∃c,c<=T.k+1/\v=I 0/\G=[poA Tb pp mb n M0 C0 (some {T with M:=fup T.M p x,k:=c}),B]):=by
 intro z R w H;obtain ⟨X,a,H⟩:=H.po;have Q:=a.tx T Z;refine Ret.mono (Cn.at (VW pp X.ps X.pd X.pc X.bn X.mm X.pa n X.D X.G p x d b B f X.g T.k (λq=>by omega) a.pg T.C a.hn hp j) H 8 [1,0,2,3,7,4,5,6] Z Z) ?_;rintro v l ⟨Γ',⟨rfl,rfl⟩,i⟩;refine ⟨_,⟨_,?_,Z,Z⟩,((i.pick 8 [1,0,2,3,5,6,7,4] Z).toPo (X:= {X with g:=pgSet X.g p x}) (t:=some {T with M:=fup T.M p x,k:=T.k+(if (X.g p).isSome then 0 else 1)}) ⟨a.hn,a.fine,a.pg,a.tab,a.m0,a.cp,a.c0,a.one,λe=>(by cases e),λT' e=>?_⟩ Z)⟩
 ·split<;>omega
 cases e;exact Q.put hp.1 _
theorem Ade(pp mb n:Nat)(M0:Nat->Pg)(C0:Nat->Nat)(T:PoT)(p:Nat)(hp:manyN n<p/\p<n)(g:1<=T.C p/\T.C p<1000):
  Aj 146 [Y pp,I (p:Int)] [poA Tb pp mb n M0 C0 (some T)] (λv G=>v=I 0/\G=[poA Tb pp mb n M0 C0 (some {T with C:=fup T.C p (T.C p+1)})]):=by
 intro z R w H;obtain ⟨X,a,H⟩:=H.po;have Q:=a.tx T Z;refine Ret.mono (Cn.at (AbM pp X.ps X.pc X.bn X.mm X.pa n T.C C0 X.l X.clk Q.W a.hn p hp g) H 7 [0,2,3,4,1,5,6] Z Z) ?_;rintro v h ⟨Γ',⟨d,b,W2,rfl,rfl⟩,f⟩;refine ⟨_,⟨Z,Z⟩,((f.pick 7 [0,4,1,2,3,5,6] Z).toPo (X:= {X with l:=d,clk:=b}) (t:=some {T with C:=fup T.C p (T.C p+1)}) ⟨a.hn,a.fine,a.pg,a.tab,a.m0,a.cp,a.c0,a.one,λe=>(by cases e),λT' e=>?_⟩ Z)⟩;cases e;refine ⟨Q.m,Q.gn,W2,λk=>?_,?_,Q.dj,λq hq=>?_⟩
 ·show fup T.C p (T.C p+1) k<=1000
  unfold fup;split
  ·omega
  exact Q.c k
 ·show Dh T.F X.Dd=AX n (fup T.C p (T.C p+1))
  rw[Q.df];funext q;unfold AX fup;split
  ·rename_i e;subst e;simp;omega
  rfl
 show fup T.C p (T.C p+1) q=1;rw[fup_ne _ _ U];exact Q.one q hq
theorem Zv(pp mb n:Nat)(M0:Nat->Pg)(C0:Nat->Nat)(T:PoT)(p:Nat)(hp:manyN n<p/\p<n)(g:2<=T.C p):
  Aj 142 [Y pp,I (p:Int)] [poA Tb pp mb n M0 C0 (some T)] (λv G=>v=I 0/\G=[poA Tb pp mb n M0 C0 (some {T with C:=fup T.C p (T.C p-1)})]):=by
 intro z R w H;obtain ⟨X,a,H⟩:=H.po;have Q:=a.tx T Z;refine Ret.mono (Cn.at (VY pp X.ps X.pc X.bn X.mm X.pa n T.C C0 X.l X.clk Q.W a.hn p hp ⟨g,Q.c p⟩) H 7 [0,2,3,4,1,5,6] Z Z) ?_;rintro v h ⟨Γ',⟨d,b,W2,rfl,rfl⟩,f⟩;refine ⟨_,⟨Z,Z⟩,((f.pick 7 [0,4,1,2,3,5,6] Z).toPo (X:= {X with l:=d,clk:=b}) (t:=some {T with C:=fup T.C p (T.C p-1)}) ⟨a.hn,a.fine,a.pg,a.tab,a.m0,a.cp,a.c0,a.one,λe=>(by cases e),λT' e=>?_⟩ Z)⟩;cases e;refine ⟨Q.m,Q.gn,W2,λk=>?_,?_,Q.dj,λq hq=>?_⟩
 ·show fup T.C p (T.C p-1) k<=1000
  have:=Q.c p;unfold fup;split
  ·omega
  exact Q.c k
 ·show Dh T.F X.Dd=AX n (fup T.C p (T.C p-1))
  rw[Q.df];funext q;unfold AX fup;split
  ·rename_i e;subst e;exact decide_eq_decide.2 U
  rfl
 show fup T.C p (T.C p-1) q=1;rw[fup_ne _ _ U];exact Q.one q hq
theorem AbS(pp mb n:Nat)(M0:Nat->Pg)(C0:Nat->Nat)(T:PoT)(p:Nat)(hp:manyN n<p/\p<n)(i:T.C p=1):
  Aj 142 [Y pp,I (p:Int)] [poA Tb pp mb n M0 C0 (some T)] (λv G=>v=I 0/\G=[poA Tb pp mb n M0 C0 (some {T with C:=fup T.C p 0})]):=by
 intro z R w H;obtain ⟨X,a,H⟩:=H.po;have Q:=a.tx T Z;have f:(T.F p||X.Dd p)=false:=by
  have:Dh T.F X.Dd p=AX n T.C p:=by rw[Q.df]
  unfold Dh AX at this;rw[this];simp;omega
 simp at f;refine Ret.mono (Cn.at (Zd pp X.ps X.pc X.bn X.mm X.pa n T.C C0 X.l X.clk Q.W a.hn p hp T.F X.Dd (AX n C0) i f.1 f.2) H 7 [0,2,3,4,5,1,6] Z Z) ?_;rintro v j ⟨Γ',⟨g,d,W2,rfl,rfl⟩,h⟩;refine ⟨_,⟨Z,Z⟩,((h.pick 7 [0,5,1,2,3,4,6] Z).toPo (X:= {X with l:=g,clk:=d,Dd:=Gl X.Dd p}) (t:=some {T with C:=fup T.C p 0}) ⟨a.hn,a.fine,a.pg,a.tab,a.m0,a.cp,a.c0,a.one,λe=>(by cases e),λT' e=>?_⟩ Z)⟩;cases e;refine ⟨Q.m,Q.gn,W2,λk=>?_,?_,λq hq=>?_,λq hq=>?_⟩
 ·show fup T.C p 0 k<=1000
  unfold fup;split
  ·omega
  exact Q.c k
 ·show Dh T.F (Gl X.Dd p)=AX n (fup T.C p 0)
  funext q;have:Dh T.F X.Dd q=AX n T.C q:=by rw[Q.df]
  unfold Dh AX at this;unfold Dh Gl AX fup;rw[<-Bool.or_assoc,this];by_cases e:q=p
  ·subst e;simp[hp.2]
  simp[e]
 ·have b:Gl X.Dd p q=true:=hq
  unfold Gl at b;by_cases e:q=p
  ·subst e;exact f.1
  simp[e] at b;exact Q.dj q b
 show fup T.C p 0 q=1;rw[fup_ne _ _ U];exact Q.one q hq
theorem Zw(pp mb n:Nat)(M0:Nat->Pg)(C0:Nat->Nat)(T:PoT)(x:Pg)(hx:x.Ok)(f:Value)(B:Ai)(hB:∀h,B h->rdH 1 f 240 (x.body.map u8) h)(hk:T.k<40):
  Aj 82 [Y pp,.agg #[I x.kind,f]] [poA Tb pp mb n M0 C0 (some T),B] (λv G=>(cnt T.F 0 1024=0/\v=.tuple #[I 0,I 20]/\G=[poA Tb pp mb n M0 C0 (some T),B])\/
   ∃p o:Nat,(T.F p=true/\o<=T.k+1/\cnt (Dx T.F p) 0 1024+1=cnt T.F 0 1024)/\v=.tuple #[I (p:Int),I 0]/\G=[poA Tb pp mb n M0 C0 (some ⟨fup T.M p x,fup T.C p 1,Dx T.F p,o⟩),B]):=by
 intro z R w H;obtain ⟨X,a,H⟩:=H.po;have Q:=a.tx T Z;have K:=Q.k a.hn.1;have hn:=a.hn;by_cases hno:∀q,q<1024->T.F q=false
 ·refine Ret.mono (Cn.at (TH pp X.ps X.pc X.pa n x hx f B hB T.F X.Dd (AX n C0) hno) H 8 [0,5,7,1,2,3,4,6] Z Z) ?_
  rintro v w' ⟨Γ',⟨rfl,rfl⟩,s⟩;refine ⟨_,.inl ⟨?_,Z,Z⟩,(s.pick 8 [0,3,4,5,6,1,7,2] Z).toPo a Z⟩;rw[GX (F:=T.F) (G:=BX) (λi hi=>by rw[hno _ U];rfl)];have:∀m,cnt BX 0 m=0:=λm=>by
   induction m with
   | zero=>rfl
   | succ m ih=>simp only[cnt,ih,BX];rfl
  exact this _
 have y:∃p,T.F p=true/\∀q,q<p->T.F q=false:=by
  have b:∃q,T.F q=true:=Aff λh=>hno (λq _=>by
   cases e:T.F q with
   | false=>rfl
   | true=>exact absurd ⟨q,e⟩ h)
  obtain ⟨q,hq⟩:=b;have:∀m q,q<=m->T.F q=true->∃p,T.F p=true/\∀q,q<p->T.F q=false:=λm=>by
   induction m with
   | zero=>intro q b u;exact ⟨q,u,λr hr=>by omega⟩
   | succ m ih=>
    intro q b u;by_cases h3:∃r,r<q/\T.F r=true
    ·obtain ⟨r,h4,h5⟩:=h3
     exact ih r U h5
    refine ⟨q,u,λr hr=>?_⟩
    cases e:T.F r with
    | false=>rfl
    | true=>exact absurd ⟨r,hr,e⟩ h3
  exact this q q (Aek _) hq
 obtain ⟨p,b,h0⟩:=y;obtain ⟨k1,o,k3⟩:=K.free p b;have hd:X.Dd p=false:=by
  cases e:X.Dd p with
  | false=>rfl
  | true=>have:=Q.dj p e;rw[b] at this;cases this
 refine Ret.mono (Cn.at (VX pp X.ps X.pd X.pc X.bn X.mm X.pa n X.D X.G X.g T.k T.C C0 X.l X.clk T.F X.Dd (AX n C0) Q.W a.hn a.pg p x hx f B hB (λq=>by omega) k1 b h0 o X.A a.tab.1) H 8 [1,0,2,3,4,5,6,7] Z Z) ?_;rintro v w' ⟨Γ',⟨l2,d,W2,rfl,rfl⟩,s⟩;refine ⟨_,.inr ⟨p,_,⟨b,?_,?_⟩,Z,Z⟩,((s.pick 8 [1,0,2,3,4,5,6,7] Z).toPo (X:= {X with g:=pgSet X.g p x,l:=l2,clk:=d}) (t:=some ⟨fup T.M p x,fup T.C p 1,Dx T.F p,T.k+(if (X.g p).isSome then 0 else 1)⟩) ⟨a.hn,a.fine,a.pg,a.tab,a.m0,a.cp,a.c0,a.one,λe=>(by cases e),λT' e=>?_⟩ Z)⟩
 ·split<;>omega
 ·exact OH (F:=T.F) (G:=Dx T.F p) (i:=p) U b (by simp[Dx]) (λj hj=>by simp[Dx,hj])
 cases e
 have Q2:=Q.put (x:=x) (.inr k3) 0;refine ⟨Q2.m,Q2.gn,W2,λk=>?_,?_,λq hq=>?_,λq hq=>?_⟩
 ·show fup T.C p 1 k<=1000
  unfold fup;split
  ·omega
  exact Q.c k
 ·show Dh (Dx T.F p) X.Dd=AX n (fup T.C p 1)
  funext q;have:Dh T.F X.Dd q=AX n T.C q:=by rw[Q.df]
  unfold Dh AX at this;unfold Dh Dx AX fup;by_cases e:q=p
  ·subst e;simp[hd]
  simp only[e,decide_false,Bool.not_false,Bool.and_true,if_false];exact this
 ·have:=Q.dj q hq
  show Dx T.F p q=false;unfold Dx;rw[this];rfl
 show fup T.C p 1 q=1;rw[fup_ne _ _ U];exact Q.one q hq
end
section
def cutA(ao:Option Addr)(c p:Nat):Option Addr:=if c=p then ao else ao.map (·.add (p*1))
theorem rdH.cutA{f:Option Addr}{n c p m:Nat}{xs:List Int}{h:Hp}(r:rdH 1 (.slice f n c) n (xs.map I) h)(s:p+m<=n)(w:n<=c):rdH 1 (.slice (cutA f c p) m (c-p)) m (((xs.drop p).take m).map I) h:=by
 obtain ⟨l,c',e,t,v,i,q⟩:=r;cases e;refine ⟨_,_,Z,by omega,by omega,by simp at i ⊢;omega,λj u a=>?_⟩;have d:j<m:=by
  have:=(Aed.1 a).1;simp at this;omega
 obtain ⟨b,o,rfl,g⟩:=q (p+j) u (by
  rw[Aeq] at a ⊢;rw[Ae0,if_pos d,Afm] at a;exact a)
 refine ⟨b,o+p,?_,by rw[Age];exact g⟩;unfold YtemljpjnhjnncaaGreatDoor.cutA;rw[if_neg U];simp only[AeU,AeR];unfold Addr.add;split
 ·rename_i k;simp[k]
 rfl
theorem rdH.slcap{d:Option Addr}{n c:Nat}{xs:List Value}(r:rdH 1 (.slice d n c) n xs h):n<=c/\c<=9223372036854775807/\xs.length=n:=by
 obtain ⟨b,c',e,f,a,i,g⟩:=r;cases e;exact ⟨f,a,by omega⟩
theorem GY:∀c∈l.map I,c.oneCell'=true:=λc a=>by
 obtain ⟨x,_,rfl⟩:=Aem.1 a;rfl
section
variable{P:Program}{C:World->Prop}{o:Oper}{n:Nat}{ds:List Deferred}{L:List (Nat×Value)}{x y:Operand}
theorem OL{lo hi:Option Operand}{e:Option Addr}{p q l' c':Nat}(r:o.op=.slice T x lo hi none)(l:Do P T=some 1)
  (f:ev L x=some (.slice e m j))(c:(lo=none/\p=0)\/∃y k i,lo=some y/\ev L y=some (.int k i)/\i=(p:Int))(d:(hi=none/\q=m)\/∃y k i,hi=some y/\ev L y=some (.int k i)/\i=(q:Int))(a:p<=q)(b:q<=j)
  (h:q-p=l')(g:j-p=c'):Av P C n ds L o (.slice (cutA e j p) l' c'):=by
 subst h g;exact Jk r l f c d a b
end
structure CkN(lf:Bool)(ks vs:List Int):Prop where
 len:ks.length=vs.length
 l8:ks.length<=8
 ne:lf=true\/0<ks.length
 k:∀x∈ks,0<=x/\x<1048576
 v:∀y∈vs,1<=y/\y<1024
 s:∀(i:Nat) (x y:Int),ks[i]?=some x->ks[i+1]?=some y->x<y
structure FdI(ks:List Int)(key:Int)(at_:Nat):Prop where
 le:at_<=ks.length
 lt:∀(j:Nat) (x:Int),j<at_->ks[j]?=some x->x<key
 ge:∀x,ks[at_]?=some x->key<=x
structure FcI(ks:List Int)(key:Int)(at_:Nat):Prop where
 le:at_<=ks.length
 lt:∀(j:Nat) (x:Int),j<at_->ks[j]?=some x->x<=key
 ge:∀x,ks[at_]?=some x->key<x
theorem Ed{x:Int}(h:m<l.length):(l.map I++V).take m++[I x]++(l.map I++V).drop (m+1)=(l.set m x).map I++V:=by
 have e:=Afc (l:=l) (i:=m) (a:=x);rw[if_pos h] at e;rw[e,Aev (by simp;omega),AeV (by simp;omega)];simp[Afr,AfW]
theorem HW{y:Int}:Aj 216 [I t,I y] [] (λv G=>v=.bool (decide ((0<=t/\t<1048576)/\1<=y/\y<1024))/\G=[]):=by
 intro z R w H;refine Ae func216 Z ntmps216 Z (Z0 10 [0] Z (An 7 Z (λc=>?_) (λc=>?_)))
 ·refine Z0 4 [0] Z (An 11 Z (λb=>?_) (λb=>?_))
  ·refine Z0 4 [0] Z (An 15 Z (λa=>?_) (λa=>?_))
   ·refine Z0 7 [0] Z (Zr Z ?_);exact ⟨_,⟨congrArg Value.bool (by first|(rw[Aey];simp<;>omega)|(simp<;>omega)),Z⟩,H⟩
   refine Zc 7 Z (Zr Z ?_);exact ⟨_,⟨congrArg Value.bool (by first|(rw[Aey];simp<;>omega)|(simp<;>omega)),Z⟩,H⟩
  refine Zc 11 Z (Zr Z ?_);exact ⟨_,⟨congrArg Value.bool (by first|(rw[Aey];simp<;>omega)|(simp<;>omega)),Z⟩,H⟩
 refine Zc 15 Z (Zr Z ?_);exact ⟨_,⟨congrArg Value.bool (by first|(rw[Aey];simp<;>omega)|(simp<;>omega)),Z⟩,H⟩
theorem CU{kv vv:Value}(f vs:List Int){B:Ai}(m:∀h,A h->rdH 1 kv f.length (f.map I) h)(hB:∀h,B h->rdH 1 vv vs.length (vs.map I) h)(d:CkN b f vs):Aj 177 [.agg #[.bool b,kv,vv]] [A,B] (λv G=>v=I 0/\G=[A,B]):=by
 intro z R w H;obtain ⟨ka,kc,rfl⟩:=H.sy 0 (λq=>(m _ q).slc);obtain ⟨va,vc,rfl⟩:=H.sy 1 (λq=>(hB _ q).slc);have a8:=H.sy 0 (λq=>(m _ q).slcap);have a9:=H.sy 1 (λq=>(hB _ q).slcap);have b0:=d.len;have b2:=d.l8;have a1:=d.ne;refine Ae func177 Z ntmps177 Z (Za 2 [] H Z ?_);intro b1 w H;refine Z2 14 [1,0,0,2,0,0,0] H Z (An 11 Z (λh1=>U) (λh1=>?_));refine Z2 6 [1,0,0,0] H Z (An 17 Z (λh2=>U) (λh2=>?_));refine Z2 4 [0,0,0] H Z (DR 21 Z (λh3=>?_) (λh3=>?_))
 ·refine Z2 8 [1,0,0,0] H Z (Af Z (λh4=>?_) (λh4=>?_))
  ·(exfalso;rcases a1 with q|q<;>simp_all)
  refine Z2 12 [1,0,0] H Z ?_;refine AD (σ:=Nat) (λi=>[(31,I (i:Int)),(1,Y b1),(30,I (f.length:Int))])
    (λi w=>Sep z (blk b1 [.bool b,.slice ka f.length kc,.slice va vs.length vc] 201::A::B::R) w/\(i<=f.length)) (λi=>f.length-i) 0
    fr_z ⟨H,AeN _⟩ ?_
  clear H;rintro i w ⟨g,hI⟩;have H:=g.l3;clear hI;refine Z0 6 [0] Z (Af Z (λh5=>?_) (λh5=>?_))
  ·obtain ⟨x,c⟩:∃x,f[i]?=some x:=⟨_,Aef U⟩;obtain ⟨y,p⟩:∃y,vs[i]?=some y:=⟨_,Aef U⟩;have a6:=d.k x (Aee c)
   have a7:=d.v y (Aee p);refine Zc 11 Z ?_;have e:=(H.rd 1 Z m).at (j:=i) (u:=I x) (by simp[c]);have o:=(H.rd 2 Z hB).at (j:=i) (u:=I y) (by simp[p]);refine By (Sep z _) J J H.drew (D5 3 [1,0] (λ_ c=>(AR (c.blk 0 Z) AN)) Z J Z (AM Z Z Z (Ak Z (z:=1) (j:=i) (r:=i) J Z Z Z U e U) (AM Z Z Z (Ay Z Z J (λ_ a=>(a.rd 1 Z m).at (j:=i) (u:=I x) (by simp[c]))) (D5 3 [2,0] (λ_ c=>(AR (c.blk 0 Z) AN)) Z J Z (AM Z Z Z (Ak Z (z:=1) (j:=i) (r:=i) J Z Z Z U o U) (AM Z Z Z (Ay Z Z J (λ_ a=>(a.rd 2 Z hB).at (j:=i) (u:=I y) (by simp[p]))) (Dn Z Z Z Z Z (λw=>call216 _ w) (v:=.bool (decide ((0<=x/\x<1048576)/\1<=y/\y<1024))) (cq (HW) (by rintro _ _ ⟨rfl,rfl⟩;exact ⟨Z,Z⟩) 0 [] [] Z Z Z Z) (AM Z Z Z (AH Z Z) (B4 1 [] Z J (Ce 46 Z (λh6=>U) (λh6=>?_)))))))))));refine B4 3 [] Z J (Ce 49 Z (λh7=>?_) (λh7=>?_))
   ·obtain ⟨n,l⟩:∃n,f[i-1]?=some n:=⟨_,Aef U⟩;have a0:=d.s (i-1) n x l (by rw[show i-1+1=i by omega];exact c)
    refine Hb 4 [1,0,0] [(i:Int)-1] Z J U (AM Z Z Z (Ak Z (z:=1) (j:=(i-1)) (r:=(i-1)) J Z Z U U e U) (AM Z Z Z (Ay Z Z J (λ_ a=>(a.rd 1 Z m).at (j:=i-1) (u:=I n) (by simp[l]))) (D5 3 [1,0] (λ_ c=>(AR (c.blk 0 Z) AN)) Z J Z (AM Z Z Z (Ak Z (z:=1) (j:=i) (r:=i) J Z Z Z U e U) (AM Z Z Z (Ay Z Z J (λ_ a=>(a.rd 1 Z m).at (j:=i) (u:=I x) (by simp[c]))) (B4 3 [] Z J (BL (λw g=>?_))))))));have H:=g.l3;refine gn (Zc 1 Z (Af Z (λh8=>U) (λh8=>?_)));refine Z1 7 [] [(i:Int)+1] Z U (gf ?_);intro _ t;refine ⟨(i+1),t.cz,⟨H,?_⟩,?_⟩
    ·omega
    omega
   refine B4 14 [] Z J (BL (λw g=>?_));have H:=g.l3;refine gn (Z1 9 [] [(i:Int)+1] Z U (gf ?_));intro _ t;refine ⟨(i+1),t.cz,⟨H,?_⟩,?_⟩
   ·omega
   omega
  refine Zc 2 Z (gx (Zc 8 Z (Zr Z ?_)));exact ⟨_,⟨Z,Z⟩,H.perm 3 [1,2] Z Z⟩
 refine Z2 21 [1,0,0] H Z ?_;refine AD (σ:=Nat) (λi=>[(31,I (i:Int)),(1,Y b1),(30,I (f.length:Int))])
   (λi w=>Sep z (blk b1 [.bool b,.slice ka f.length kc,.slice va vs.length vc] 201::A::B::R) w/\(i<=f.length)) (λi=>f.length-i) 0
   fr_z ⟨H,AeN _⟩ ?_
 clear H;rintro i w ⟨g,hI⟩;have H:=g.l3;clear hI;refine Z0 6 [0] Z (Af Z (λh9=>?_) (λh9=>?_))
 ·obtain ⟨x,c⟩:∃x,f[i]?=some x:=⟨_,Aef U⟩;obtain ⟨y,p⟩:∃y,vs[i]?=some y:=⟨_,Aef U⟩;have a6:=d.k x (Aee c)
  have a7:=d.v y (Aee p);refine Zc 11 Z ?_;have e:=(H.rd 1 Z m).at (j:=i) (u:=I x) (by simp[c]);have o:=(H.rd 2 Z hB).at (j:=i) (u:=I y) (by simp[p]);refine By (Sep z _) J J H.drew (D5 3 [1,0] (λ_ c=>(AR (c.blk 0 Z) AN)) Z J Z (AM Z Z Z (Ak Z (z:=1) (j:=i) (r:=i) J Z Z Z U e U) (AM Z Z Z (Ay Z Z J (λ_ a=>(a.rd 1 Z m).at (j:=i) (u:=I x) (by simp[c]))) (D5 3 [2,0] (λ_ c=>(AR (c.blk 0 Z) AN)) Z J Z (AM Z Z Z (Ak Z (z:=1) (j:=i) (r:=i) J Z Z Z U o U) (AM Z Z Z (Ay Z Z J (λ_ a=>(a.rd 2 Z hB).at (j:=i) (u:=I y) (by simp[p]))) (Dn Z Z Z Z Z (λw=>call216 _ w) (v:=.bool (decide ((0<=x/\x<1048576)/\1<=y/\y<1024))) (cq (HW) (by rintro _ _ ⟨rfl,rfl⟩;exact ⟨Z,Z⟩) 0 [] [] Z Z Z Z) (AM Z Z Z (AH Z Z) (B4 1 [] Z J (Ce 46 Z (λa5=>U) (λa5=>?_)))))))))));refine B4 3 [] Z J (Ce 49 Z (λa3=>?_) (λa3=>?_))
  ·obtain ⟨n,l⟩:∃n,f[i-1]?=some n:=⟨_,Aef U⟩;have a0:=d.s (i-1) n x l (by rw[show i-1+1=i by omega];exact c)
   refine Hb 4 [1,0,0] [(i:Int)-1] Z J U (AM Z Z Z (Ak Z (z:=1) (j:=(i-1)) (r:=(i-1)) J Z Z U U e U) (AM Z Z Z (Ay Z Z J (λ_ a=>(a.rd 1 Z m).at (j:=i-1) (u:=I n) (by simp[l]))) (D5 3 [1,0] (λ_ c=>(AR (c.blk 0 Z) AN)) Z J Z (AM Z Z Z (Ak Z (z:=1) (j:=i) (r:=i) J Z Z Z U e U) (AM Z Z Z (Ay Z Z J (λ_ a=>(a.rd 1 Z m).at (j:=i) (u:=I x) (by simp[c]))) (B4 3 [] Z J (BL (λw g=>?_))))))));have H:=g.l3;refine gn (Zc 1 Z (Af Z (λa2=>U) (λa2=>?_)));refine Z1 7 [] [(i:Int)+1] Z U (gf ?_);intro _ t;refine ⟨(i+1),t.cz,⟨H,?_⟩,?_⟩
   ·omega
   omega
  refine B4 14 [] Z J (BL (λw g=>?_));have H:=g.l3;refine gn (Z1 9 [] [(i:Int)+1] Z U (gf ?_));intro _ t;refine ⟨(i+1),t.cz,⟨H,?_⟩,?_⟩
  ·omega
  omega
 refine Zc 2 Z (gx (Zc 8 Z (Zr Z ?_)));exact ⟨_,⟨Z,Z⟩,H.perm 3 [1,2] Z Z⟩
theorem JE(lf:Bool)(kv t:Value)(a vs:List Int)(A B:Ai)(f:∀h,A h->rdH 1 kv a.length (a.map I) h)(hB:∀h,B h->rdH 1 t vs.length (vs.map I) h)(key:Int)(a0:a.length<=8):Aj 133 [.agg #[.bool lf,kv,t],I key] [A,B] (λv G=>∃i:Nat,FdI a key i/\v=.tuple #[I (i:Int),.bool (decide (a[i]?=some key))]/\G=[A,B]):=by
 intro z R w H;obtain ⟨ka,kc,rfl⟩:=H.sy 0 (λq=>(f _ q).slc);obtain ⟨va,vc,rfl⟩:=H.sy 1 (λq=>(hB _ q).slc);have p:=H.sy 0 (λq=>(f _ q).slcap);refine Ae func133 Z ntmps133 Z (Za 2 [] H Z ?_);intro b1 w H;refine Zc 11 Z ?_;refine AD (σ:=Nat) (λi=>[(6,I (i:Int)),(1,I key),(2,Y b1),(4,I 0),(5,.bool false)])
   (λi w=>Sep z (blk b1 [.bool lf,.slice ka a.length kc,.slice va vs.length vc] 201::A::B::R) w/\(i<=a.length/\∀(j:Nat) (x:Int),j<i->a[j]?=some x->x<key)) (λi=>a.length-i) 0
   fr_z ⟨H,⟨AeN _,λj x h=>by omega⟩⟩ ?_
 clear H;rintro i w ⟨g,hI⟩;have H:=g.l3;obtain ⟨m,c⟩:=hI;refine Z2 9 [1,0,0,0] H Z (An 12 Z (λn=>?_) (λn=>?_))
 ·obtain ⟨x,e⟩:∃x,a[i]?=some x:=⟨_,Aef U⟩;refine Z2 3 [1,0,0] H Z ?_;have k:=(H.rd 1 Z f).at (j:=i) (u:=I x) (by simp[e])
  refine Ab Z (Ak Z (z:=1) (j:=i) (r:=i) J Z Z Z U k U) (Ab Z (Ay Z Z J (Az ((H.rd 1 Z f).at (j:=i) (u:=I x) (by simp[e])))) (Z0 5 [0] Z (Af Z (λh2=>?_) (λh2=>?_))))
  ·refine Z1 9 [] [(i:Int)+1] Z U (gf ?_);intro _ l;refine ⟨(i+1),l.cz,⟨H,?_⟩,?_⟩
   ·refine ⟨by omega,λj y hj d=>?_⟩;rcases Aes j i with h|h
    ·exact c j y h d
    obtain rfl:j=i:=by omega
    rw[e] at d;cases d;omega
   omega
  refine Zc 2 Z (gx (Zc 3 Z (By (Sep z _) J J H.drew (GL 7 [1,0,0,0] [] Z J (Ce 29 Z (λh3=>?_) (λh3=>?_))))))
  ·refine D5 3 [1,0] (λ_ e=>(AR (e.blk 0 Z) AN)) Z J Z (AM Z Z Z (Ak Z (z:=1) (j:=i) (r:=i) J Z Z Z U k U) (AM Z Z Z (Ay Z Z J (λ_ o=>(o.rd 1 Z f).at (j:=i) (u:=I x) (by simp[e]))) (B4 5 [] Z J (BL (λw g=>?_)))));have H:=g.l3;refine gn (Zc 2 Z (Zr Z ?_));have l:FdI a key i:=⟨m,c,λy d=>by rw[e] at d;cases d;omega⟩
   exact ⟨_,⟨i,l,(congrArg (λb=>Value.tuple #[I (i:Int),.bool b]) (decide_eq_decide.2 (by rw[e];simp))),Z⟩,H.perm 3 [1,2] Z Z⟩
  exact absurd n h3
 refine Zc 13 Z (gx (Zc 3 Z (By (Sep z _) J J H.drew (GL 7 [1,0,0,0] [] Z J (Ce 29 Z (λh4=>?_) (λh4=>?_))))))
 ·exact absurd h4 n
 refine B4 10 [] Z J (BL (λw g=>?_));have H:=g.l3;refine gn (Zc 2 Z (Zr Z ?_));have l:FdI a key i:=⟨m,c,λy d=>by rw[AeK U] at d;cases d⟩;exact ⟨_,⟨i,l,(congrArg (λb=>Value.tuple #[I (i:Int),.bool b]) (decide_eq_false (by rw[AeK U];simp)).symm),Z⟩,H.perm 3 [1,2] Z Z⟩
theorem V7(lf:Bool)(o m:Value){vs:List Int}(A B:Ai)(d:∀h,A h->rdH 1 o l.length (l.map I) h)(n:∀h,B h->rdH 1 m vs.length (vs.map I) h)(key:Int)(a0:l.length<=8):Aj 134 [.agg #[.bool lf,o,m],I key] [A,B] (λv G=>∃i:Nat,FcI l key i/\v=I ((i-1:Nat):Int)/\G=[A,B]):=by
 intro z R w H;obtain ⟨ka,kc,rfl⟩:=H.sy 0 (λq=>(d _ q).slc);obtain ⟨va,vc,rfl⟩:=H.sy 1 (λq=>(n _ q).slc);have g:=H.sy 0 (λq=>(d _ q).slcap);refine Ae func134 Z ntmps134 Z (Za 2 [] H Z ?_);intro p w H;refine Zc 10 Z ?_;refine AD (σ:=Nat) (λi=>[(5,I (i:Int)),(1,I key),(2,Y p),(4,I 0)])
   (λi w=>Sep z (blk p [.bool lf,.slice ka l.length kc,.slice va vs.length vc] 201::A::B::R) w/\(i<=l.length/\∀(j:Nat) (x:Int),j<i->l[j]?=some x->x<=key)) (λi=>l.length-i) 0
   fr_z ⟨H,⟨AeN _,λj x h=>by omega⟩⟩ ?_
 clear H;rintro i w ⟨s,hI⟩;have H:=s.l3;obtain ⟨c,a⟩:=hI;refine Z2 9 [1,0,0,0] H Z (An 11 Z (λh1=>?_) (λh1=>?_))
 ·obtain ⟨x,e⟩:∃x,l[i]?=some x:=⟨_,Aef U⟩;refine Z2 3 [1,0,0] H Z ?_;have f:=(H.rd 1 Z d).at (j:=i) (u:=I x) (by simp[e])
  refine Ab Z (Ak Z (z:=1) (j:=i) (r:=i) J Z Z Z U f U) (Ab Z (Ay Z Z J (Az ((H.rd 1 Z d).at (j:=i) (u:=I x) (by simp[e])))) (Z0 5 [0] Z (Af Z (λt=>?_) (λt=>?_))))
  ·refine Z1 9 [] [(i:Int)+1] Z U (gf ?_);intro _ hF;refine ⟨(i+1),hF.cz,⟨H,?_⟩,?_⟩
   ·refine ⟨by omega,λj y hj b=>?_⟩;rcases Aes j i with h|h
    ·exact a j y h b
    obtain rfl:j=i:=by omega
    rw[e] at b;cases b;omega
   omega
  refine Zc 2 Z (gx (Z1 6 [] [(i:Int)-1] Z U (Ab Z (Ni Z Z Z) (Zc 4 Z (Zr Z ?_)))));exact ⟨_,⟨i,⟨c,a,λy b=>by rw[e] at b;cases b;omega⟩,congrArg I U,Z⟩,H.perm 3 [1,2] Z Z⟩
 refine Zc 13 Z (gx (Z1 6 [] [(i:Int)-1] Z U (Ab Z (Ni Z Z Z) (Zc 4 Z (Zr Z ?_)))));exact ⟨_,⟨i,⟨c,a,λy b=>by rw[AeK U] at b;cases b⟩,congrArg I U,Z⟩,H.perm 3 [1,2] Z Z⟩
end
theorem DZ(e vs:List Int){B:Ai}(m:∀h,A h->rdH 1 u e.length (e.map I) h)(n:∀h,B h->rdH 1 y vs.length (vs.map I) h)(p q:Nat)(a2:p<=q)(hq:q<=e.length)(a1:e.length=vs.length)(c a:List Int)(k:(e.drop p).take (q-p)=c)(l:(vs.drop p).take (q-p)=a)(a3:e.length<=16):Aj 221 [.agg #[.bool b,u,y],I (p:Int),I (q:Int)] [A,B] (λv G=>∃v1 v2:Value,v=.agg #[.bool b,v1,v2]/\G=[grow 3 1 v1 c.length (c.map I),grow 3 1 v2 a.length (a.map I),A,B]):=by
 intro z R w H;replace H:=H.l2;obtain ⟨ka,kc,rfl⟩:=H.sy 0 (λq=>(m _ q).slc);obtain ⟨va,vc,rfl⟩:=H.sy 1 (λq=>(n _ q).slc);have x:=H.sy 0 (λq=>(m _ q).slcap);have a0:=H.sy 1 (λq=>(n _ q).slcap);refine Ae func221 Z ntmps221 Z (Za 2 [] H Z ?_);intro b1 w H;refine Za 0 [] H Z ?_;intro b2 w H;refine Zc 3 Z ?_;replace H:=H.f3.f3.f3;refine AQ (Sep z (blk b1 [.bool b,.slice ka e.length kc,.slice va vs.length vc] 201::A::B::R)) 16 Z J (A4 H λw d=>?_);have H:=d.l4;refine AT [0,1,2,3,4,5] [0,0,0,1,0,0] [] (by exact H.pick 4 [0,1,2] Z) Z J Z (BM 6 Z J J J Z Z Z (OL (p:=p) (q:=q) (l':=q-p) (c':=kc-p) Z J Z (.inr ⟨_,_,_,Z,Z,Z⟩) (.inr ⟨_,_,_,Z,Z,Z⟩) U U Z Z) (H.pick 4 [0,1,2] Z) (AT [8,9,10,11] [2,0,0] [] (by exact H.pick 4 [0,1,2] Z) Z J Z (BM 12 Z J J J Z Z Z (OL (p:=p) (q:=q) (l':=q-p) (c':=vc-p) Z J Z (.inr ⟨_,_,_,Z,Z,Z⟩) (.inr ⟨_,_,_,Z,Z,Z⟩) U U Z Z) (H.pick 4 [0,1,2] Z) (AE [7] J O (Am ?_)))));replace H:=(H.nilg 3 1).l5;refine B6 Z Z Z Z (AW 0 H Z Z J BC Z Z (H.rv 2 (λq=>(m _ q).cutA U U)) (GY) U) ?_;rintro v3 w d;have t:([]++((e.drop p).take (q-p)).map I:List Value)=c.map I:=(by rw[AeS,k]);rw[t] at d;rw[show (0+(q-p):Nat)=c.length from (by rw[AfO,<-k];simp;omega)] at d;have H:=d.l5;have o:=H.sy 0 (·.slc);refine Ax (H.pick 5 [1,2,3] Z) (AE [13] J O (Am ?_));replace H:=(H.nilg 3 1).l6;refine B6 Z Z Z Z (AW 0 H Z Z J BC Z Z (H.rv 4 (λq=>(n _ q).cutA U U)) (GY) U) ?_;rintro v4 w d;have s:([]++((vs.drop p).take (q-p)).map I:List Value)=a.map I:=(by rw[AeS,l]);rw[s] at d;rw[show (0+(q-p):Nat)=a.length from (by rw[AfO,<-l];simp;omega)] at d;have H:=d.l6;have r:=H.sy 0 (·.slc);refine Ax (H.pick 6 [2,3,4] Z) ?_;obtain ⟨f,j,rfl⟩:=o;obtain ⟨i,g,rfl⟩:=r;refine AT [14] [] [] (by exact H.pick 6 [2,3,4] Z) Z J Z (AE [15] J O (Am (Bj Z Z Z (Al 5 H Z Z Z Z (vs:=[.bool b,.slice f c.length j,.slice i a.length g]) Z (by simp[u8,u32,Value.oneCell']) J O (out:=[.bool b,.slice f c.length j,.slice i a.length g]) Z) ?_)));rintro w H;replace H:=H.l6;refine Ax (H.pick 6 [2,3,4] Z) (a_done J (gn (Zc 2 Z (Zl [5,3] H Z ?_))));exact ⟨_,⟨.slice f c.length j,.slice i a.length g,Z,Z⟩,H.perm 6 [1,0,3,4] Z Z⟩
theorem Fm(d a:List Int){B1:Ai}(t:∀h,A h->rdH 1 u d.length (d.map I) h)(p:∀h,B1 h->rdH 1 y a.length (a.map I) h){kv2 vv2:Value}(e f:List Int){A2 B2:Ai}(o:∀h,A2 h->rdH 1 kv2 e.length (e.map I) h)(m:∀h,B2 h->rdH 1 vv2 f.length (f.map I) h)(b5:d.length=a.length)(c3:e.length=f.length)(c2:d.length<=16)(c4:e.length<=16)(r vs:List Int)(hk:d++e=r)(hv:a++f=vs):Aj 220 [.agg #[.bool b,u,y],.agg #[.bool c,kv2,vv2]] [A,B1,A2,B2] (λv G=>∃v1 v2:Value,v=.agg #[.bool b,v1,v2]/\G=[grow 3 1 v1 r.length (r.map I),grow 3 1 v2 vs.length (vs.map I),A,B1,A2,B2]):=by
 intro z R w H;replace H:=H.l4;obtain ⟨a3,a9,rfl⟩:=H.sy 0 (λq=>(t _ q).slc);obtain ⟨a0,a7,rfl⟩:=H.sy 1 (λq=>(p _ q).slc);have c1:=H.sy 0 (λq=>(t _ q).slcap);have b8:=H.sy 1 (λq=>(p _ q).slcap);obtain ⟨a8,a6,rfl⟩:=H.sy 2 (λq=>(o _ q).slc);obtain ⟨a2,a1,rfl⟩:=H.sy 3 (λq=>(m _ q).slc);have c0:=H.sy 2 (λq=>(o _ q).slcap);have b9:=H.sy 3 (λq=>(m _ q).slcap);refine Ae func220 Z ntmps220 Z (Za 2 [] H Z ?_);intro b1 w H;refine Za 0 [] H Z ?_;intro b2 w H;refine Za 0 [] H Z ?_;intro b3 w H;refine Z2 8 [2,3,1,2,0] H Z (Ar Z (call221 _) (DZ d a t p 0 d.length U U U d a O (by rw[Ag5,Aew,b5];simp) U) H.f4.f4 ?_);rintro _ w _ ⟨v4,v5,rfl,rfl⟩ H;replace H:=H.l9;have b4:=H.sy 0 (·.slc);obtain ⟨b0,b6,rfl⟩:=b4;have b7:=H.sy 1 (·.slc);obtain ⟨s,n,rfl⟩:=b7;refine Za 0 [] H Z ?_;intro x w H;refine Z4 9 [0,1,0,0,1,6,0] H Z ?_;intro w H;refine AP Z (AW 1 H Z Z J BC Z Z (H.rd 8 Z o) (GY) U) ?_;rintro g w i;have i:Sep z (blk x [.bool b,.slice b0 d.length b6,.slice s a.length n] 201::grow 3 1 g (d.length+e.length) (d.map I++e.map I)::grow 3 1 (.slice s a.length n) a.length (a.map I)::A::B1::blk b3 [.bool false,.slice none 0 0,.slice none 0 0] 201::blk b2 [.bool c,.slice a8 e.length a6,.slice a2 f.length a1] 201::blk b1 [.bool b,.slice a3 d.length a9,.slice a0 a.length a7] 201::A2::B2::R) w:=i;have a5:(d.map I++e.map I:List Value)=r.map I:=(by rw[<-AeH,hk]);rw[a5] at i;rw[show (d.length+e.length:Nat)=r.length from (by rw[<-hk,Aeg])] at i;have H:=i.l10;have k:=H.sy 1 (·.slc);refine Z0 1 [1] Z (AC Z Z (Lu 0 H Z Z Z Z k.cells k.one J) ?_);rintro w H;replace H:=H.l10;refine Z2 8 [2,0,0,2,6,0] H Z (AP Z (AW 2 H Z Z J BC Z Z (H.rd 9 Z m) (GY) U) ?_);rintro l w i;have i:Sep z (blk x [.bool b,g,.slice s a.length n] 201::grow 3 1 g r.length (r.map I)::grow 3 1 l (a.length+f.length) (a.map I++f.map I)::A::B1::blk b3 [.bool false,.slice none 0 0,.slice none 0 0] 201::blk b2 [.bool c,.slice a8 e.length a6,.slice a2 f.length a1] 201::blk b1 [.bool b,.slice a3 d.length a9,.slice a0 a.length a7] 201::A2::B2::R) w:=i;have a4:(a.map I++f.map I:List Value)=vs.map I:=(by rw[<-AeH,hv]);rw[a4] at i;rw[show (a.length+f.length:Nat)=vs.length from (by rw[<-hv,Aeg])] at i;have H:=i.l10;have j:=H.sy 2 (·.slc);refine Z0 1 [2] Z (AC Z Z (J1 0 H Z Z Z Z j.cells j.one J) ?_);rintro w H;replace H:=H.l10;refine Z2 5 [0,3] H Z (AC Z Z (Al 5 H Z Z Z Z (vs:=[.bool b,g,l]) Z (Ad Z (Ad k.one (Ad j.one Aw))) J O (out:=[.bool b,g,l]) Z) ?_);rintro w H;replace H:=H.l10;refine Zc 3 Z (Zl [5,3] H Z ?_);exact ⟨_,⟨g,l,Z,Z⟩,H.perm 10 [1,2,3,4,8,9] Z Z⟩
theorem MQ(a vs:List Int){B:Ai}(s:∀h,A h->rdH 1 u a.length (a.map I) h)(t:∀h,B h->rdH 1 y vs.length (vs.map I) h)(a8:a.length=vs.length)(b4:a.length<=16)(f e d c:List Int)(a2:a.take ((a.length+1)/2)=f)(a3:vs.take ((a.length+1)/2)=e)(a1:a.drop ((a.length+1)/2)=d)(a5:vs.drop ((a.length+1)/2)=c):Aj 246 [.agg #[.bool b,u,y]] [A,B] (λv G=>∃v1 v2 v3 x:Value,v=.tuple #[.agg #[.bool b,v1,v2],.agg #[.bool b,v3,x]]/\G=[grow 3 1 v1 f.length (f.map I),grow 3 1 v2 e.length (e.map I),grow 3 1 v3 d.length (d.map I),grow 3 1 x c.length (c.map I),A,B]):=by
 intro z R w H;replace H:=H.l2;obtain ⟨ka,kc,rfl⟩:=H.sy 0 (λq=>(s _ q).slc);obtain ⟨va,vc,rfl⟩:=H.sy 1 (λq=>(t _ q).slc);have a6:=H.sy 0 (λq=>(s _ q).slcap);have a7:=H.sy 1 (λq=>(t _ q).slcap);refine Ae func246 Z ntmps246 Z (Za 2 [] H Z ?_);intro b1 w H;refine Za 0 [] H Z ?_;intro b2 w H;refine Za 0 [] H Z ?_;intro b3 w H;refine Z3 13 [1,2,0] [(a.length:Int)+1,(((a.length+1)/2:Nat):Int)] H Z U ?_;replace H:=H.f4.f4.f4;refine AQ (Sep z (blk b1 [.bool b,.slice ka a.length kc,.slice va vs.length vc] 201::A::B::R)) 11 Z J (A4 H λw H'=>?_);have H:=H'.l5;refine AT [0,1,3,4,5,6,7] [0,3,0,3,1,0,0] [] (by exact H.pick 5 [0,1,2] Z) Z J Z (AE [2] J O (Am (Bt Z Z Z Z Z Z (λw=>call221 _ w) (DZ a vs s t 0 ((a.length+1)/2) U U U f e (by simpa using a2) (by simpa using a3) U) H.f2.f2 Z ?_)));rintro _ w _ ⟨x,v5,rfl,rfl⟩ H;replace H:=H.l7;have a0:=H.sy 0 (·.slc);obtain ⟨m,n,rfl⟩:=a0;have a4:=H.sy 1 (·.slc);obtain ⟨o,l,rfl⟩:=a4;refine Ax (H.pick 7 [4,2,3] Z) (AE [8] J O (Am (Bt Z Z Z Z Z Z (λw=>call221 _ w) (DZ a vs s t ((a.length+1)/2) a.length U U U d c (by rw[Ael O];exact a1) (by rw[Ael (by simp;omega)];exact a5) U) H.f3.f3 Z ?_)));rintro _ w _ ⟨a9,b0,rfl,rfl⟩ H;replace H:=H.l9;have p:=H.sy 0 (·.slc);obtain ⟨j,i,rfl⟩:=p;have r:=H.sy 1 (·.slc);obtain ⟨g,k,rfl⟩:=r;refine Ax (H.pick 9 [6,2,3] Z) (AE [9] J O (Am (Bj Z Z Z (Al 8 H Z Z Z Z (vs:=[.bool b,.slice m f.length n,.slice o e.length l]) Z (by simp[u8,u32,Value.oneCell']) J O (out:=[.bool b,.slice m f.length n,.slice o e.length l]) Z) ?_)));rintro w H;replace H:=H.l9;refine Ax (H.pick 9 [6,2,3] Z) (AE [10] J O (Am (Bj Z Z Z (Al 7 H Z Z Z Z (vs:=[.bool b,.slice j d.length i,.slice g c.length k]) Z (by simp[u8,u32,Value.oneCell']) J O (out:=[.bool b,.slice j d.length i,.slice g c.length k]) Z) ?_)));rintro w H;replace H:=H.l9;refine Ax (H.pick 9 [6,2,3] Z) (a_done J (gn (Zc 2 Z (Zl [8,3,7,3] H Z ?_))));exact ⟨_,⟨.slice m f.length n,.slice o e.length l,.slice j d.length i,.slice g c.length k,Z,Z⟩,H.perm 9 [4,5,0,1,2,3] Z Z⟩
theorem V8(lf:Bool)(kv vv:Value){vs:List Int}(A B:Ai)(p:∀h,A h->rdH 1 kv l.length (l.map I) h)(r:∀h,B h->rdH 1 vv vs.length (vs.map I) h)(o:CkN lf l vs)(a9:2<=l.length)(d c b a:List Int)(a0:l.take ((l.length+1)/2)=d)(a1:vs.take ((l.length+1)/2)=c)(y:l.drop ((l.length+1)/2)=b)(a5:vs.drop ((l.length+1)/2)=a):Aj 219 [.agg #[.bool lf,kv,vv]] [A,B] (λv G=>∃v1 v2 v3 t:Value,v=.tuple #[.agg #[.bool lf,v1,v2],.agg #[.bool lf,v3,t],I 0]/\G=[grow 3 1 v1 d.length (d.map I),grow 3 1 v2 c.length (c.map I),grow 3 1 v3 b.length (b.map I),grow 3 1 t a.length (a.map I),A,B]):=by
 intro z R w H;replace H:=H.l2;obtain ⟨ka,kc,rfl⟩:=H.sy 0 (λq=>(p _ q).slc);obtain ⟨va,vc,rfl⟩:=H.sy 1 (λq=>(r _ q).slc);have a6:=H.sy 0 (λq=>(p _ q).slcap);have a7:=H.sy 1 (λq=>(r _ q).slcap);have a8:=o.len;have b0:=o.l8;refine Ae func219 Z ntmps219 Z (Za 2 [] H Z ?_);intro b1 w H;refine Za 0 [] H Z ?_;intro b2 w H;refine Za 0 [] H Z ?_;intro b3 w H;refine Z2 7 [2,3] H Z (z_E_ Z (call177 _) (CU l vs p r o) H.f4.f4 ?_);intro w H;refine Z2 9 [4,1,4,0,0] H Z (Af Z (λh1=>U) (λh1=>?_));refine Z2 5 [4,3] H Z (Ar Z (call246 _) (MQ l vs p r U U d c b a a0 a1 y a5) H ?_);rintro _ w _ ⟨t,v5,v6,v7,rfl,rfl⟩ H;replace H:=H.l9;have x:=H.sy 0 (·.slc);obtain ⟨n,m,rfl⟩:=x;have a2:=H.sy 1 (·.slc);obtain ⟨i,g,rfl⟩:=a2;have a3:=H.sy 2 (·.slc);obtain ⟨j,f,rfl⟩:=a3;have s:=H.sy 3 (·.slc);obtain ⟨e,k,rfl⟩:=s;refine Za 3 [] H Z ?_;intro u w H;refine Za 0 [] H Z ?_;intro a4 w H;refine Z4 5 [1,0] H Z ?_;intro w H;replace H:=H.f1;refine AQ (Sep z (blk u [.bool lf,.slice n d.length m,.slice i c.length g] 201::blk a4 [.bool lf,.slice j b.length f,.slice e a.length k] 201::R)) 5 Z J (A4 H λw H'=>?_);have H:=H'.l11;refine AT [0,1] [0,3,1,3] [] (by exact H.pick 11 [0,1] Z) Z J Z (AE [2] J O (Am (Bj Z Z Z (Al 9 H Z Z Z Z (vs:=[.bool lf,.slice n d.length m,.slice i c.length g]) Z (by simp[u8,u32,Value.oneCell']) J O (out:=[.bool lf,.slice n d.length m,.slice i c.length g]) Z) ?_)));rintro w H;replace H:=H.l11;refine Ax (H.pick 11 [0,1] Z) (AE [3] J O (Am (Bj Z Z Z (Al 8 H Z Z Z Z (vs:=[.bool lf,.slice j b.length f,.slice e a.length k]) Z (by simp[u8,u32,Value.oneCell']) J O (out:=[.bool lf,.slice j b.length f,.slice e a.length k]) Z) ?_)));rintro w H;replace H:=H.l11;refine Ax (H.pick 11 [0,1] Z) (AT [4] [] [] (by exact H.pick 11 [0,1] Z) Z J Z (a_done J (gn (Zc 2 Z (Zl [9,3,8,3] H Z ?_)))));exact ⟨_,⟨.slice n d.length m,.slice i c.length g,.slice j b.length f,.slice e a.length k,Z,Z⟩,H.perm 11 [2,3,4,5,6,7] Z Z⟩
theorem QE(lf:Bool)(kv vv:Value){vs:List Int}(A B:Ai)(hA:∀h,A h->rdH 1 kv l.length (l.map I) h)(hB:∀h,B h->rdH 1 vv vs.length (vs.map I) h)(a2:CkN lf l vs)(i:Nat)(hi:i<l.length)(a b:List Int)(a0:l.take i++l.drop (i+1)=a)(a1:vs.take i++vs.drop (i+1)=b)(c:CkN lf a b):Aj 184 [.agg #[.bool lf,kv,vv],I (i:Int)] [A,B] (λv G=>∃v1 v2:Value,v=.tuple #[.agg #[.bool lf,v1,v2],I 0]/\G=[grow 3 1 v1 a.length (a.map I),grow 3 1 v2 b.length (b.map I),A,B]):=by
 intro z R w H;replace H:=H.l2;obtain ⟨ka,kc,rfl⟩:=H.sy 0 (λq=>(hA _ q).slc);obtain ⟨va,vc,rfl⟩:=H.sy 1 (λq=>(hB _ q).slc);have c3:=H.sy 0 (λq=>(hA _ q).slcap);have d0:=H.sy 1 (λq=>(hB _ q).slcap);have e0:=a2.len;have h3:=a2.l8;refine Ae func184 Z ntmps184 Z (Za 2 [] H Z ?_);intro b1 w H;refine Za 0 [] H Z ?_;intro b2 w H;refine Z2 8 [1,3] H Z (z_E_ Z (call177 _) (CU l vs hA hB a2) H.f3.f3 ?_);intro w H;refine Z0 10 [4,0] Z (An 15 Z (λh1=>U) (λh1=>?_));refine Z2 9 [1,3,0,0] H Z (Af Z (λh2=>U) (λh2=>?_));refine Zc 4 Z ?_;replace H:=H.f1.f1.f3;refine AQ (Sep z (blk b1 [.bool lf,.slice ka l.length kc,.slice va vs.length vc] 201::A::B::R)) 13 Z J (A4 H λw H'=>?_);have H:=H'.l4;refine HJ [0,1,3,4,5,6,7,8] [0,3,0,3,1,0,0] [(i:Int)+1] (by exact H.pick 4 [0,1,2] Z) Z J U Z (AE [2,11] J O (IP ?_ ?_))
 ·refine Bt Z Z Z Z Z Z (λw=>call221 _ w) (DZ l vs hA hB 0 i U U U (l.take i) (vs.take i) O O U) H.f2.f2 Z ?_;rintro _ w _ ⟨v3,v4,rfl,rfl⟩ H;replace H:=H.l6;have c1:=H.sy 0 (·.slc)
  obtain ⟨g0,f7,rfl⟩:=c1;have c2:=H.sy 1 (·.slc);obtain ⟨g6,g1,rfl⟩:=c2;refine Ax (H.pick 6 [4,2,3] Z) (AE [9,11] J O (IP ?_ ?_))
  ·refine Bt Z Z Z Z Z Z (λw=>call221 _ w) (DZ l vs hA hB (i+1) l.length U U U (l.drop (i+1)) (vs.drop (i+1)) (by rw[Ael O]) (by rw[Ael (by simp;omega)]) U) H.f3.f3 Z ?_;rintro _ w _ ⟨v9,e5,rfl,rfl⟩ H;replace H:=H.l8;have c0:=H.sy 0 (·.slc)
   obtain ⟨d3,d2,rfl⟩:=c0;have a7:=H.sy 1 (·.slc);obtain ⟨d5,e1,rfl⟩:=a7;refine Ax (H.pick 8 [6,2,3] Z) (AE [10,11] J O (IP ?_ ?_))
   ·refine Bt Z Z Z Z Z Z (λw=>call220 _ w) (Fm (l.take i) (vs.take i) (λh q=>q.rd) (λh q=>q.rd) (l.drop (i+1)) (vs.drop (i+1)) (λh q=>q.rd) (λh q=>q.rd) (by simp;omega) (by simp;omega) (by simp;omega) (by simp;omega) a b a0 a1) H.f1.f1.f5.f5 Z ?_;rintro _ w _ ⟨g8,h0,rfl,rfl⟩ H;replace H:=H.l10;have b5:=H.sy 0 (·.slc)
    obtain ⟨n,m,rfl⟩:=b5;have a3:=H.sy 1 (·.slc);obtain ⟨t,j,rfl⟩:=a3;refine Ax (H.pick 10 [8,6,7] Z) (AE [11] J O (Am (B6 Z Z Z Z (BZ (P:=prog) H Z (zs:=[.bool false,.slice none 0 0,.slice none 0 0]) J) ?_)));rintro _ w ⟨e6,rfl,H⟩;replace H:=H.l11;refine Ax (H.pick 11 [9,7,8] Z) (AE [12] J O (Am (Bj Z Z Z (Al 0 H Z Z Z Z (vs:=[.bool lf,.slice n a.length m,.slice t b.length j]) Z (by simp[u8,u32,Value.oneCell']) J O (out:=[.bool lf,.slice n a.length m,.slice t b.length j]) Z) ?_)));rintro w H;replace H:=H.l11;refine Ax (H.pick 11 [9,7,8] Z) (a_done J (gn (Z2 5 [0,3] H Z (z_E_ Z (call177 _) (CU a b (λh q=>q.rd) (λh q=>q.rd) c) H.f2.f2 ?_))));intro w H;refine Z4 14 [4,2,3,10] H Z ?_;intro w H;refine Zl [10,3] H Z ?_;exact ⟨_,⟨.slice n a.length m,.slice t b.length j,Z,Z⟩,H.perm 11 [0,1,7,8] Z Z⟩
   refine B6 Z Z Z Z (BZ (P:=prog) H Z (zs:=[.bool false,.slice none 0 0,.slice none 0 0]) J) ?_;rintro _ w ⟨f8,rfl,H⟩;replace H:=H.l9;refine Ax (H.pick 9 [7,3,4] Z) (AE [10] J O (Am (Bt Z Z Z Z Z Z (λw=>call220 _ w) (Fm (l.take i) (vs.take i) (λh q=>q.rd) (λh q=>q.rd) (l.drop (i+1)) (vs.drop (i+1)) (λh q=>q.rd) (λh q=>q.rd) (by simp;omega) (by simp;omega) (by simp;omega) (by simp;omega) a b a0 a1) H.f2.f2.f6.f6 Z ?_)));rintro _ w _ ⟨g2,e4,rfl,rfl⟩ H;replace H:=H.l11;have b7:=H.sy 0 (·.slc);obtain ⟨r,p,rfl⟩:=b7;have a6:=H.sy 1 (·.slc);obtain ⟨x,k,rfl⟩:=a6;refine Ax (H.pick 11 [9,7,8] Z) (AE [12] J O (Am (Bj Z Z Z (Al 6 H Z Z Z Z (vs:=[.bool lf,.slice r a.length p,.slice x b.length k]) Z (by simp[u8,u32,Value.oneCell']) J O (out:=[.bool lf,.slice r a.length p,.slice x b.length k]) Z) ?_)));rintro w H;replace H:=H.l11;refine Ax (H.pick 11 [9,7,8] Z) (a_done J (gn (Z2 5 [6,3] H Z (z_E_ Z (call177 _) (CU a b (λh q=>q.rd) (λh q=>q.rd) c) H ?_))));intro w H;refine Z4 14 [4,6,3,10] H Z ?_;intro w H;refine Zl [10,3] H Z ?_;exact ⟨_,⟨.slice r a.length p,.slice x b.length k,Z,Z⟩,H.perm 11 [0,1,7,8] Z Z⟩
  refine B6 Z Z Z Z (BZ (P:=prog) H Z (zs:=[.bool false,.slice none 0 0,.slice none 0 0]) J) ?_;rintro _ w ⟨g3,rfl,H⟩;replace H:=H.l7;refine Ax (H.pick 7 [5,3,4] Z) (AE [9] J O (Am (Bt Z Z Z Z Z Z (λw=>call221 _ w) (DZ l vs hA hB (i+1) l.length U U U (l.drop (i+1)) (vs.drop (i+1)) (by rw[Ael O]) (by rw[Ael (by simp;omega)]) U) H.f4.f4 Z ?_)));rintro _ w _ ⟨f0,e9,rfl,rfl⟩ H;replace H:=H.l9;have b3:=H.sy 0 (·.slc);obtain ⟨d6,d7,rfl⟩:=b3;have a4:=H.sy 1 (·.slc);obtain ⟨c9,c8,rfl⟩:=a4;refine Ax (H.pick 9 [7,2,3] Z) (AE [10] J O (Am (Bt Z Z Z Z Z Z (λw=>call220 _ w) (Fm (l.take i) (vs.take i) (λh q=>q.rd) (λh q=>q.rd) (l.drop (i+1)) (vs.drop (i+1)) (λh q=>q.rd) (λh q=>q.rd) (by simp;omega) (by simp;omega) (by simp;omega) (by simp;omega) a b a0 a1) H.f1.f1.f6.f6 Z ?_)));rintro _ w _ ⟨e8,e7,rfl,rfl⟩ H;replace H:=H.l11;have a5:=H.sy 0 (·.slc);obtain ⟨f,o,rfl⟩:=a5;have a9:=H.sy 1 (·.slc);obtain ⟨g,d,rfl⟩:=a9;refine Ax (H.pick 11 [9,6,7] Z) (AE [12] J O (Am (Bj Z Z Z (Al 8 H Z Z Z Z (vs:=[.bool lf,.slice f a.length o,.slice g b.length d]) Z (by simp[u8,u32,Value.oneCell']) J O (out:=[.bool lf,.slice f a.length o,.slice g b.length d]) Z) ?_)));rintro w H;replace H:=H.l11;refine Ax (H.pick 11 [9,6,7] Z) (a_done J (gn (Z2 5 [8,3] H Z (z_E_ Z (call177 _) (CU a b (λh q=>q.rd) (λh q=>q.rd) c) H ?_))));intro w H;refine Z4 14 [4,8,3,10] H Z ?_;intro w H;refine Zl [10,3] H Z ?_;exact ⟨_,⟨.slice f a.length o,.slice g b.length d,Z,Z⟩,H.perm 11 [0,1,6,7] Z Z⟩
 refine B6 Z Z Z Z (BZ (P:=prog) H Z (zs:=[.bool false,.slice none 0 0,.slice none 0 0]) J) ?_;rintro _ w ⟨g9,rfl,H⟩;replace H:=H.l5;refine Ax (H.pick 5 [1,2,3] Z) (AE [2] J O (Am (Bt Z Z Z Z Z Z (λw=>call221 _ w) (DZ l vs hA hB 0 i U U U (l.take i) (vs.take i) O O U) H.f3.f3 Z ?_)));rintro _ w _ ⟨f9,e3,rfl,rfl⟩ H;replace H:=H.l7;have a8:=H.sy 0 (·.slc);obtain ⟨d8,d1,rfl⟩:=a8;have b4:=H.sy 1 (·.slc);obtain ⟨c4,d4,rfl⟩:=b4;refine Ax (H.pick 7 [5,2,3] Z) (AE [9] J O (Am (Bt Z Z Z Z Z Z (λw=>call221 _ w) (DZ l vs hA hB (i+1) l.length U U U (l.drop (i+1)) (vs.drop (i+1)) (by rw[Ael O]) (by rw[Ael (by simp;omega)]) U) H.f3.f3 Z ?_)));rintro _ w _ ⟨g4,e2,rfl,rfl⟩ H;replace H:=H.l9;have b6:=H.sy 0 (·.slc);obtain ⟨c6,c7,rfl⟩:=b6;have b8:=H.sy 1 (·.slc);obtain ⟨d9,c5,rfl⟩:=b8;refine Ax (H.pick 9 [7,2,3] Z) (AE [10] J O (Am (Bt Z Z Z Z Z Z (λw=>call220 _ w) (Fm (l.take i) (vs.take i) (λh q=>q.rd) (λh q=>q.rd) (l.drop (i+1)) (vs.drop (i+1)) (λh q=>q.rd) (λh q=>q.rd) (by simp;omega) (by simp;omega) (by simp;omega) (by simp;omega) a b a0 a1) H.f1.f1.f5.f5 Z ?_)));rintro _ w _ ⟨g5,g7,rfl,rfl⟩ H;replace H:=H.l11;have b0:=H.sy 0 (·.slc);obtain ⟨s,u,rfl⟩:=b0;have b9:=H.sy 1 (·.slc);obtain ⟨y,e,rfl⟩:=b9;refine Ax (H.pick 11 [9,6,7] Z) (AE [12] J O (Am (Bj Z Z Z (Al 8 H Z Z Z Z (vs:=[.bool lf,.slice s a.length u,.slice y b.length e]) Z (by simp[u8,u32,Value.oneCell']) J O (out:=[.bool lf,.slice s a.length u,.slice y b.length e]) Z) ?_)));rintro w H;replace H:=H.l11;refine Ax (H.pick 11 [9,6,7] Z) (a_done J (gn (Z2 5 [8,3] H Z (z_E_ Z (call177 _) (CU a b (λh q=>q.rd) (λh q=>q.rd) c) H ?_))));intro w H;refine Z4 14 [4,8,3,10] H Z ?_;intro w H;refine Zl [10,3] H Z ?_;exact ⟨_,⟨.slice s a.length u,.slice y b.length e,Z,Z⟩,H.perm 11 [0,1,6,7] Z Z⟩
theorem FdI.uniq{key:Int}(h:FdI l key i)(g:FdI l key j):i=j:=by
 rcases AfK i j with q|q|q
 ·have a:i<l.length:=by have:=g.le;omega
  have b:=h.ge l[i] (Aef a);have c:=g.lt i l[i] q (Aef a);omega
 ·exact q
 have a:j<l.length:=by have:=h.le;omega
 have b:=g.ge l[j] (Aef a);have c:=h.lt j l[j] q (Aef a);omega
theorem FcI.uniq{key:Int}(h:FcI l key i)(g:FcI l key j):i=j:=by
 rcases AfK i j with q|q|q
 ·have a:i<l.length:=by have:=g.le;omega
  have b:=h.ge l[i] (Aef a);have c:=g.lt i l[i] q (Aef a);omega
 ·exact q
 have a:j<l.length:=by have:=h.le;omega
 have b:=g.ge l[j] (Aef a);have c:=h.lt j l[j] q (Aef a);omega
theorem Zx(lf:Bool)(kv y:Value){vs:List Int}(A B:Ai)(e:∀h,A h->rdH 1 kv l.length (l.map I) h)(j:∀h,B h->rdH 1 y vs.length (vs.map I) h)(c:CkN lf l vs)(key:Int)(val:Int)(a7:(0<=key/\key<1048576)/\1<=val/\val<1024)(i:Nat)(p:FdI l key i)(k:l[i]?=some key):Aj 218 [.agg #[.bool lf,kv,y],I key,I val] [A,B] (λv G=>∃v1 v2:Value,v=.tuple #[.agg #[.bool lf,v1,v2],I 0]/\G=[grow 3 1 v1 l.length (l.map I),grow 3 1 v2 vs.length ((vs.set i val).map I),A,B]):=by
 intro z R w H;replace H:=H.l2;obtain ⟨ka,kc,rfl⟩:=H.sy 0 (λq=>(e _ q).slc);obtain ⟨va,vc,rfl⟩:=H.sy 1 (λq=>(j _ q).slc);have u:=H.sy 0 (λq=>(e _ q).slcap);have x:=H.sy 1 (λq=>(j _ q).slcap);have m:=c.len;have a8:=c.l8;have a3:=(Aed.1 k).1;refine Ae func218 Z ntmps218 Z (Za 2 [] H Z ?_);intro b1 w H;refine Za 0 [] H Z ?_;intro b2 w H;refine Z2 8 [1,3] H Z (z_E_ Z (call177 _) (CU l vs e j c) H.f3.f3 ?_);intro w H;refine Z0 9 [4] Z (z_E_ Z (call216 _) (HW) H ?_);intro w H;replace H:=H.l4;refine Ab Z (AH Z Z) (Zc 3 Z (Af Z (λh1=>U) (λh1=>?_)));refine Z2 7 [3,3] H Z (Ar Z (call133 _) (JE _ _ _ l vs _ _ e j _ U) H ?_);rintro _ w _ ⟨d,f,rfl,rfl⟩ H;replace H:=H.l4;obtain rfl:=f.uniq p;refine AB 26 (v:=.tuple #[I (d:Int),.bool true]) Z (congrArg (λb=>Value.tuple #[I (d:Int),.bool b]) (decide_eq_true k)) (Z2 20 [3,3,1,3,0] H Z (Ar Z (call221 _) (DZ l vs e j 0 l.length U U U l vs O (by rw[Ag5,Aew,m];simp) U) H ?_));rintro _ w _ ⟨v4,v5,rfl,rfl⟩ H;replace H:=H.l6;have o:=H.sy 0 (·.slc);obtain ⟨n,s,rfl⟩:=o;have t:=H.sy 1 (·.slc);obtain ⟨a4,g,rfl⟩:=t;refine Za 0 [] H Z ?_;intro a1 w H;refine Z4 4 [0] H Z ?_;intro w H;obtain ⟨gq,a0,a,r,a5,a2,a6,H'⟩:=H.ungrow 2 Z U;cases r;clear H;have H:=H'.l7;refine Z3 6 [2,0,0,1,d,d] [] H Z U (AC Z Z (Al 2 H Z Z Z Z (vs:=[I val]) Z (by simp[u8,u32,Value.oneCell']) J (by simp;omega) (out:=((vs.set d val).map I++a)) (Ed U)) ?_);rintro w H;replace H:=H.l7;refine Z4 10 [0,3,5] H Z ?_;intro w H;refine Zl [5,3] H Z ?_;have H2:=H.mono 2 (B:=grow 3 1 (.slice (some ⟨gq,0,none⟩) vs.length g) vs.length ((vs.set d val).map I)) Z (λh q=>q.grow U U (by simp;omega) (by rw[AeR,AeI O]));exact ⟨_,⟨.slice n l.length s,.slice (some ⟨gq,0,none⟩) vs.length g,Z,Z⟩,H2.perm 7 [1,2,3,4] Z Z⟩
theorem Zy(lf:Bool)(o n:Value){vs:List Int}(A B:Ai)(d:∀h,A h->rdH 1 o l.length (l.map I) h)(e:∀h,B h->rdH 1 n vs.length (vs.map I) h)(a:CkN lf l vs)(key:Int)(val:Int)(u:(0<=key/\key<1048576)/\1<=val/\val<1024)(i:Nat)(g:FdI l key i)(j:¬l[i]?=some key)(f:l.length=8):Aj 218 [.agg #[.bool lf,o,n],I key,I val] [A,B] (λv G=>v=.tuple #[.agg #[.bool false,.slice none 0 0,.slice none 0 0],I 15]/\G=[A,B]):=by
 intro z R w H;replace H:=H.l2;obtain ⟨ka,y,rfl⟩:=H.sy 0 (λq=>(d _ q).slc);obtain ⟨va,vc,rfl⟩:=H.sy 1 (λq=>(e _ q).slc);have x:=a.l8;refine Ae func218 Z ntmps218 Z (Za 2 [] H Z ?_);intro b1 w H;refine Za 0 [] H Z ?_;intro b2 w H;refine Z2 8 [1,3] H Z (z_E_ Z (call177 _) (CU l vs d e a) H.f3.f3 ?_);intro w H;refine Z0 9 [4] Z (z_E_ Z (call216 _) (HW) H ?_);intro w H;replace H:=H.l4;refine Ab Z (AH Z Z) (Zc 3 Z (Af Z (λt=>U) (λt=>?_)));refine Z2 7 [3,3] H Z (Ar Z (call133 _) (JE _ _ _ l vs _ _ d e _ U) H ?_);rintro _ w _ ⟨r,c,rfl,rfl⟩ H;replace H:=H.l4;obtain rfl:=c.uniq g;refine AB 26 (v:=.tuple #[I (r:Int),.bool false]) Z (congrArg (λb=>Value.tuple #[I (r:Int),.bool b]) (decide_eq_false j)) (Z2 25 [1,3,0,0] H Z (Af Z (λs=>?_) (λs=>?_)))
 ·refine Z4 8 [2] H Z ?_;intro w H;refine Zl [2,3] H Z ?_;exact ⟨_,⟨Z,Z⟩,H.perm 4 [0,1] Z Z⟩
 (exfalso;omega)
theorem Zz(lf:Bool)(kv vv:Value){vs:List Int}(A B:Ai)(o:∀h,A h->rdH 1 kv l.length (l.map I) h)(n:∀h,B h->rdH 1 vv vs.length (vs.map I) h)(m:CkN lf l vs)(key:Int)(val:Int)(d3:(0<=key/\key<1048576)/\1<=val/\val<1024)(i:Nat)(k:FdI l key i)(a4:¬l[i]?=some key)(a0:l.length<8)(c d:List Int)(a3:l.take i++key::l.drop i=c)(a5:vs.take i++val::vs.drop i=d):Aj 218 [.agg #[.bool lf,kv,vv],I key,I val] [A,B] (λv G=>∃v1 v2:Value,v=.tuple #[.agg #[.bool lf,v1,v2],I 0]/\G=[grow 3 1 v1 c.length (c.map I),grow 3 1 v2 d.length (d.map I),A,B]):=by
 intro z R w H;replace H:=H.l2;obtain ⟨ka,kc,rfl⟩:=H.sy 0 (λq=>(o _ q).slc);obtain ⟨va,vc,rfl⟩:=H.sy 1 (λq=>(n _ q).slc);have a6:=H.sy 0 (λq=>(o _ q).slcap);have b7:=H.sy 1 (λq=>(n _ q).slcap);have c3:=m.len;have d4:=m.l8;have c6:=k.le;refine Ae func218 Z ntmps218 Z (Za 2 [] H Z ?_);intro b1 w H;refine Za 0 [] H Z ?_;intro b2 w H;refine Z2 8 [1,3] H Z (z_E_ Z (call177 _) (CU l vs o n m) H.f3.f3 ?_);intro w H;refine Z0 9 [4] Z (z_E_ Z (call216 _) (HW) H ?_);intro w H;replace H:=H.l4;refine Ab Z (AH Z Z) (Zc 3 Z (Af Z (λh1=>U) (λh1=>?_)));refine Z2 7 [3,3] H Z (Ar Z (call133 _) (JE _ _ _ l vs _ _ o n _ U) H ?_);rintro _ w _ ⟨a,p,rfl,rfl⟩ H;replace H:=H.l4;obtain rfl:=p.uniq k;refine AB 26 (v:=.tuple #[I (a:Int),.bool false]) Z (congrArg (λb=>Value.tuple #[I (a:Int),.bool b]) (decide_eq_false a4)) (Z2 25 [1,3,0,0] H Z (Af Z (λh2=>U) (λh2=>?_)));refine Zc 5 Z (AP Z (AO H Z J BC Z (by decide) (by decide) (out:=[I key]) J) ?_);rintro _ w ⟨b4,rfl,H⟩;replace H:=H.l5;refine Zc 1 Z (AP Z (AO H Z J BC Z (by decide) (by decide) (out:=[I val]) J) ?_);rintro _ w ⟨b5,rfl,H⟩;replace H:=H.l6;refine Za 1 [] H Z ?_;intro b6 w H;refine Z4 4 [0] H Z ?_;intro w H;replace H:=H.f4.f4.f2.f6;refine AQ (Sep z (blk b1 [.bool lf,.slice ka l.length kc,.slice va vs.length vc] 201::blk b6 [.bool false,.slice (some ⟨b4,0,none⟩) 1 1,.slice (some ⟨b5,0,none⟩) 1 1] 201::A::B::R)) 14 Z J (A4 H λw H'=>?_);have H:=H'.l7;refine AT [0,1,3,5,6,7,8,9] [0,3,1,3,0,3,1,0,0] [] (by exact H.pick 7 [0,1,2,3] Z) Z J Z (AE [2] J O (Am (Bt Z Z Z Z Z Z (λw=>call221 _ w) (DZ l vs o n 0 a U (k.le) U (l.take a) (vs.take a) O O U) H.f3.f3 Z ?_)));rintro _ w _ ⟨v7,v8,rfl,rfl⟩ H;replace H:=H.l9;have a1:=H.sy 0 (·.slc);obtain ⟨c9,a7,rfl⟩:=a1;have a2:=H.sy 1 (·.slc);obtain ⟨b9,b8,rfl⟩:=a2;refine Ax (H.pick 9 [4,5,2,3] Z) (AE [4] J O (Am (Bt Z Z Z Z Z Z (λw=>call220 _ w) (Fm (l.take a) (vs.take a) (λh q=>q.rd) (λh q=>q.rd) ([key]) ([val]) (λh q=>q.rd U U O Z) (λh q=>q.rd U U O Z) (by simp<;>omega) (by simp<;>omega) (by simp<;>omega) (by simp<;>omega) (l.take a++[key]) (vs.take a++[val]) Z Z) H.f6.f7.f3.f3 Z ?_)));rintro _ w _ ⟨d1,d0,rfl,rfl⟩ H;replace H:=H.l11;have s:=H.sy 0 (·.slc);obtain ⟨b3,c1,rfl⟩:=s;have y:=H.sy 1 (·.slc);obtain ⟨b0,a8,rfl⟩:=y;refine Ax (H.pick 11 [8,9,6,7] Z) (AE [10] J O (Am (Bt Z Z Z Z Z Z (λw=>call221 _ w) (DZ l vs o n a l.length (k.le) U U (l.drop a) (vs.drop a) (by rw[Ael O]) (by rw[Ael (by simp;omega)]) U) H.f7.f7 Z ?_)));rintro _ w _ ⟨c5,c8,rfl,rfl⟩ H;replace H:=H.l13;have r:=H.sy 0 (·.slc);obtain ⟨c2,a9,rfl⟩:=r;have t:=H.sy 1 (·.slc);obtain ⟨c4,c0,rfl⟩:=t;refine Ax (H.pick 13 [10,11,2,3] Z) (AE [11] J O (Am (Bt Z Z Z Z Z Z (λw=>call220 _ w) (Fm (l.take a++[key]) (vs.take a++[val]) (λh q=>q.rd) (λh q=>q.rd) (l.drop a) (vs.drop a) (λh q=>q.rd) (λh q=>q.rd) (by simp<;>omega) (by simp<;>omega) (by simp<;>omega) (by simp<;>omega) c d (by rw[Aej];exact a3) (by rw[Aej];exact a5)) H.f1.f1.f5.f5 Z ?_)));rintro _ w _ ⟨d2,c7,rfl,rfl⟩ H;replace H:=H.l15;have u:=H.sy 0 (·.slc);obtain ⟨j,f,rfl⟩:=u;have x:=H.sy 1 (·.slc);obtain ⟨g,e,rfl⟩:=x;refine Ax (H.pick 15 [12,13,6,7] Z) (AE [12] J O (Am (Bj Z Z Z (Al 14 H Z Z Z Z (vs:=[.bool lf,.slice j c.length f,.slice g d.length e]) Z (by simp[u8,u32,Value.oneCell']) J O (out:=[.bool lf,.slice j c.length f,.slice g d.length e]) Z) ?_)));rintro w H;replace H:=H.l15;refine Ax (H.pick 15 [12,13,6,7] Z) (AT [13] [] [] (by exact H.pick 15 [12,13,6,7] Z) Z J Z (a_done J (gn (Zc 2 Z (Zl [14,3] H Z ?_)))));exact ⟨_,⟨.slice j c.length f,.slice g d.length e,Z,Z⟩,H.perm 15 [0,1,6,7] Z Z⟩
end Go.Proofs.YtemljpjnhjnncaaGreatDoor
