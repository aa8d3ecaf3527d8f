/-
  Steps to: VolumesRefused No condition.
-/
import Derived.Test.YtkblhjdljaoghaaGreatDoorSome2
set_option maxRecDepth 100000
set_option linter.unusedSimpArgs false
set_option linter.unusedVariables false
open Go.Proofs.Tryz
namespace Go.Proofs.YtkblhjdljaoghaaGreatDoor
open Go.RowKit
variable{n m i j e g r:Nat}{t s p q:Int}{V:List Value}{B S:List UInt8}{T:TypeId}{L:List (Nat×Value)}{v u y:Value}{z:World}{l:List Int}{R:List Nat}{N:Act->World->Prop}{b c:Bool}{x:Operand}{o:List Oper}{K:Value->World->Prop}{C:Nat->Nat}{P:Program}{F:Nat->Bool}{a:Act}
variable{Γ:List Ai}{h:Hp}{A:Ai}
variable{D:Dsk}
theorem Gc(k:Nat)(ns:List Int):(ns.flatMap (Ag k)).length=k*ns.length:=by
 induction ns with
 | nil=>rfl
 | cons x ns ih=>simp only[AeJ,Aeh,Ah,ih,Aej];rw[Agr];omega
theorem RI(h:l[i]?=some t):(l.take i).flatMap (Ag n)++Ag n t=(l.take (i+1)).flatMap (Ag n):=by
 rw[AeQ,h];simp
theorem Tp(k:Nat)(ns:List Int):∀{j:Nat} {x:Int},ns[j]?=some x->((ns.flatMap (Ag k)).drop (k*j)).take k=Ag k x:=by
 induction ns with
 | nil=>intro j x h;simp at h
 | cons y ys ih=>
  intro j x h
  cases j with
  | zero=>simp at h;subst h;rw[AeJ,Nat.mul_zero,Aey,AeI (Ah k y)]
  | succ j=>
   rw[AeJ,show k*(j+1)=(Ag k y).length+k*j by rw[Ah,Agr];omega,Ae9,AeN U,AeT,show (Ag k y).length+k*j-(Ag k y).length=k*j by omega];exact ih (by simpa using h)
abbrev Lg(ns:List Int):List UInt8:=ns.flatMap (Ag 2)
theorem YE(h:l.length=120):(Lg l).length=240:=by rw[Gc,h]
theorem Vv(h:B.length=240):((AL B).drop 0).take 240=B:=by
 unfold AL;rw[Aey,AeI h]
theorem Aby(hs:∀t∈l,0<=t/\t<=1000)(h:l[j]?=some t):A5 (((Lg l).drop (2*j)).take 2)=t:=by
 rw[Tp 2 l h];have:=hs t (Aeg h);exact BX this.1 U U
theorem D6(h:l[i]?=some t):(l.take i).map I++[I t]=(l.take (i+1)).map I:=by
 rw[AeQ,h];simp
def DY(lf:Bool):Int:=if lf=true then 1 else 0
theorem Tq(lf:Bool):0<=DY lf/\DY lf<=1:=by cases lf<;>simp[DY]
theorem Abz(lf:Bool):(decide (DY lf=1))=lf:=by cases lf<;>simp[DY]
def Qn(e:Int×Int):List UInt8:=Ag 4 e.1++Ag 2 e.2
abbrev Gr(ks vs:List Int)(i:Nat):List UInt8:=((ks.zip vs).take i).flatMap Qn
theorem Du(l:List (Int×Int)):(l.flatMap Qn).length=6*l.length:=by
 induction l with
 | nil=>rfl
 | cons x l ih=>simp only[AeJ,Aeh,Qn,Ah,Aej] at ih ⊢;omega
theorem Ts{vs:List Int}(a:l[i]?=some t)(b:vs[i]?=some s):(l.zip vs)[i]?=some (t,s):=by
 simp[List.getElem?_zip_eq_some,a,b]
theorem YF{vs:List Int}(a:i<=l.length)(b:i<=vs.length):(Gr l vs i).length=6*i:=by
 rw[Du,AeA,AfK];omega
theorem YG{vs:List Int}(a:l[i]?=some t)(b:vs[i]?=some s):Gr l vs (i+1)=Gr l vs i++Ag 4 t++Ag 2 s:=by
 unfold Gr;rw[AeQ,Ts a b];simp[Qn]
theorem Vw(a vs:List Int):Gr a vs 0=[]:=by simp[Gr]
def Ge(lf:Bool)(ks vs:List Int):List UInt8:=Ag 1 (DY lf)++Ag 1 (ks.length:Int)++Gr ks vs ks.length
def Hf(lf:Bool)(ks vs:List Int):List UInt8:=((AL (Ge lf ks vs)).drop 0).take 240
theorem Gy{lf:Bool}{vs:List Int}(h:l.length=vs.length):(Ge lf l vs).length=2+6*l.length:=by
 unfold Ge;rw[Aeh,Aeh,Ah,Ah,YF (Ael _) U]
theorem YH{lf:Bool}{vs:List Int}(h:l.length=vs.length)(a:l.length<=8):(Hf lf l vs).length=240:=by
 have:=Gy (lf:=lf) h;unfold Hf;rw[Aey,AeA,AW U];omega
theorem Jx{lf:Bool}{vs:List Int}(h:l.length=vs.length)(a:l.length<=8)(hp:n+m<=2+6*l.length):((Hf lf l vs).drop n).take m=((Ge lf l vs).drop n).take m:=by
 have b:=Gy (lf:=lf) h;unfold Hf AL;rw[Aey,AfY,AeG,AeH U,AeW U,Aew (by rw[AeP];omega)]
theorem YI{vs:List Int}(h:l.length=vs.length)(a:l.length<=8):A5 (((Hf b l vs).drop 0).take 1)=DY b:=by
 rw[Jx h a U];have:=Tq b;unfold Ge;rw[Aey,Aek,AeI (Ah 1 _)];exact BX this.1 U U
theorem YJ{vs:List Int}(h:l.length=vs.length)(a:l.length<=8):A5 (((Hf b l vs).drop 1).take 1)=(l.length:Int):=by
 rw[Jx h a U];unfold Ge;rw[Hd _ _ (by rw[Ah]) (by rw[Ah])];exact BX U U U
theorem AbA(a vs:List Int):∀{i:Nat} {x y:Int},a[i]?=some x->vs[i]?=some y->∀n,i<n->∃t,(Gr a vs n).drop (6*i)=Ag 4 x++Ag 2 y++t:=by
 intro i x y h k n f;have e:(a.zip vs).take n=(a.zip vs).take i++((a.zip vs).take n).drop i:=by
  have g:((a.zip vs).take n).take i=(a.zip vs).take i:=by rw[AeG,AeH U]
  rw[<-g,AeO]
 have c:((a.zip vs).take n)[i]?=some (x,y):=by rw[Ae0,if_pos f,Ts h k]
 have b:=(Aee.1 c).1;have e2:((a.zip vs).take n).drop i=(x,y)::((a.zip vs).take n).drop (i+1):=by
  rw[Ae2 b];congr 1;exact (Aee.1 c).2
 have j:(((a.zip vs).take i).flatMap Qn).length=6*i:=by
  rw[Du,AeA];simp at b;simp;omega
 have d:(a.zip vs).take n=(a.zip vs).take i++(x,y)::((a.zip vs).take n).drop (i+1):=by rw[<-e2];exact e
 generalize ((a.zip vs).take n).drop (i+1)=T at d;exact ⟨T.flatMap Qn,by unfold Gr;rw[d,Af3,AfU j,AeJ];rfl⟩
theorem Xw(lf:Bool){vs:List Int}(b:l[i]?=some s)(c:vs[i]?=some p):∃t,(Ge lf l vs).drop (2+6*i)=Ag 4 s++(Ag 2 p++t):=by
 have hi:=(Aee.1 b).1;obtain ⟨t,e⟩:=AbA l vs b c l.length hi;refine ⟨t,?_⟩;have a:(Ag 1 (DY lf)++Ag 1 (l.length:Int)).length=2:=by simp[Ah]
 unfold Ge;rw[Ae9,AeN (by rw[a];omega),AeT,a,show 2+6*i-2=6*i by omega,e,Aek]
theorem AbB{vs:List Int}(h:l.length=vs.length)(c:l.length<=8)(a:l[i]?=some s)(f:vs[i]?=some p)(d:0<=s/\s<=1048575):A5 (((Hf b l vs).drop (2+6*i)).take 4)=s:=by
 have hi:=(Aee.1 a).1;rw[Jx h c U];obtain ⟨t,e⟩:=Xw b a f;rw[e,AeI (Ah 4 _)];exact BX d.1 U U
theorem AbC{vs:List Int}(h:l.length=vs.length)(c:l.length<=8)(a:l[i]?=some s)(g:vs[i]?=some p)(d:0<=p/\p<=1023):A5 (((Hf b l vs).drop (2+6*i+4)).take 2)=p:=by
 have hi:=(Aee.1 a).1;rw[Jx h c U];obtain ⟨t,e⟩:=Xw b a g;have f:(Ge b l vs).drop (2+6*i+4)=((Ge b l vs).drop (2+6*i)).drop 4:=by rw[AhJ]
 rw[f,e,AfU (Ah 4 _),AeI (Ah 2 _)];exact BX d.1 U U
theorem Qo{lf:Bool}{vs:List Int}(h:l.length=vs.length)(c:l.length<=8):rz (((Hf lf l vs).drop (2+6*l.length)).take (240-(2+6*l.length)))=0:=by
 have b:=Gy (lf:=lf) h;unfold Hf AL;rw[Aey,AfY,AeG,Nat.min_self,<-b,AfU Z];refine LU.2 (λx a=>?_);have:=Afi a;exact (Af5.1 this).2
def Xx:List Value:=List.replicate 48 (.int .i64 0)
theorem LX(a:B.length=256):Ak 101 [Y n] [blk n (Bb B t) 173] (λv G=>v=.slice (some ⟨n,0,none⟩) 240 240/\G=[blk n (Bb B t) 173]):=by
 intro z R w H;refine Ae func101 Z ntmps101 Z (Z0 10 [0] Z (Ad Z (SG (n':=256) (z:=1) Z J Z Z Z (q:=240) Z Z (by decide) (by decide)) (Zc 4 Z (Zr Z ?_))));exact ⟨_,⟨Z,Z⟩,H⟩
theorem PC(ns:List Int)(l:ns.length=120)(a:∀x∈ns,0<=x/\x<=1000)(e:∀h,A h->rdH 1 y 120 (ns.map I) h):Ak 104 [y] [A] (λv G=>∃f,v=.tuple #[.slice (some ⟨f,0,none⟩) 240 240,I 0]/\G=[blk f (Bb (AL (Lg ns)) ((2*120:Nat):Int)) 173,A]):=by
 intro z R w H;obtain ⟨t,n,rfl⟩:=H.sy 0 (λq=>(e _ q).slc);refine Ae func104 Z ntmps104 Z (Z0 19 [4] Z (AU Z (Ce (P:=prog) H Z (zs:=(Bb (AL []) 0)) J) ?_));rintro _ w ⟨b,rfl,H⟩;refine Zc 11 Z ?_;refine AF (σ:=Nat) (λi=>[(12,I (i:Int)),(4,Y b),(10,.slice t 120 n),(11,I 120)])
   (λi w=>Sep z (blk b (Bb (AL ((ns.take i).flatMap (Ag 2))) ((2*i:Nat):Int)) 173::A::R) w/\(i<=120)) (λi=>120-i) 0
   fr_z ⟨(by simpa using H),by omega⟩ ?_
 clear H;rintro i w ⟨o,g⟩;have H:=o.l2;have a0:=g;clear g;refine Z0 6 [0] Z (Af Z (λk=>?_) (λk=>?_))
 ·obtain ⟨x,d⟩:∃x,ns[i]?=some x:=⟨_,Aef U⟩;have p:=a x (Aeg d)
  refine Zc 6 Z ?_;have c:=(H.rd 1 Z e).at (j:=i) (u:=I x) (by simp[d]);refine Ad Z (Aj Z (z:=1) (j:=i) (r:=i) J Z Z Z U c U) (Ad Z (Ax Z Z J (AB c)) (Zc 7 Z (z_E_ Z (call98 _) (CY) H ?_)));intro w H;refine Ad Z (AG Z Z) (Zc 2 Z (Af Z (λm=>U) (λm=>?_)));refine Zc 4 Z (z_E_ Z (call99 _) (CH (2*i) 2 x (AW (by first|omega|(simp[Ah,Gc,-List.length_flatMap]<;>omega))) U) H ?_);intro w H;rw[show ((2*i+2:Nat):Int)=(((2*(i+1):Nat):Int):Int) from by omega] at H;rw[show Bw (AL ((ns.take i).flatMap (Ag 2))) (Ag 2 x) (2*i)=AL ((ns.take i).flatMap (Ag 2)++Ag 2 x) from BG (by first|omega|(simp[Ah,Gc,-List.length_flatMap]<;>omega)) (by first|omega|(simp[Ah,Gc,-List.length_flatMap]<;>omega))] at H;have H:Sep z (blk b (Bb (AL ((ns.take i).flatMap (Ag 2)++Ag 2 x)) ((2*(i+1):Nat):Int)) 173::A::R) w:=H;refine Z1 7 [] [(i:Int)+1] Z U (gf ?_);intro _ s;refine ⟨(i+1),s.cz,⟨(by rw[<-RI d];exact H),?_⟩,?_⟩
  ·omega
  omega
 obtain rfl:i=120:=by omega
 refine Zc 2 Z (gx (Zc 3 Z ?_));rw[Aem U] at H;have H:Sep z (blk b (Bb (AL (Lg ns)) ((2*120:Nat):Int)) 173::A::R) w:=H;refine Zc 1 Z (z_E_ Z (call101 _) (LX (AW (by first|omega|(simp[Ah,Gc,-List.length_flatMap]<;>omega)))) H ?_);intro w H;refine Zc 5 Z (Zr Z ?_);exact ⟨_,⟨b,Z,Z⟩,H.perm 2 [0,1] Z Z⟩
theorem AbD(k:Nat)(b o n c:Nat)(xs:List UInt8)(e:∀h,A h->rdH 1 (.slice (some ⟨b,o,none⟩) n c) n (xs.map u8) h)(hn:n<=c)(hk:k<=n)(u:0<k)(ys:List UInt8)(hy:xs.take k=ys)(o2 l c2:Nat)(d:(if c=k then o else o+k)=o2)(f:n-k=l)(g:c-k=c2):Ak 164 [Y i,I (k:Int)] [blk i [.slice (some ⟨b,o,none⟩) n c] 259,A] (λv G=>v=I (A5 ys)/\G=[blk i [.slice (some ⟨b,o2,none⟩) l c2] 259,A]):=by
 intro z R w H;subst hy d f g;have a1:=H.sy 1 (λq=>(e _ q).len);have a0:=H.sy 1 (λq=>(e _ q).cap);refine Ae func164 Z ntmps164 Z (Z2 18 [0,0,0] H Z (Ad Z (BM Z (z:=1) (p:=0) (q:=k) (o':=o) (l':=k) (c':=c) J Z (.inl ⟨Z,Z⟩) (.inr ⟨_,_,_,Z,Z,Z⟩) U U U U U U) (Zc 5 Z ?_)));refine AF (σ:=Nat) (λj=>[(15,I (j:Int)),(5,I (A5 (xs.take j))),(0,Y i),(1,I (k:Int)),(4,I 0),(13,.slice (some ⟨b,o,none⟩) k c),(14,I (k:Int))])
   (λj w=>Sep z (blk i [.slice (some ⟨b,o,none⟩) n c] 259::A::R) w/\(j<=k)) (λj=>k-j) 0
   (λ_ a=>(a.co Z (by go_num) a.cz)) ⟨H,by omega⟩ ?_
 clear H;rintro j w ⟨H',s⟩;have H:=H'.l2;have y:=s;clear s;refine Z0 6 [0] Z (Af Z (λt=>?_) (λt=>?_))
 ·obtain ⟨x,r⟩:∃x,xs[j]?=some x:=⟨_,Aef U⟩;refine Z1 7 [1,j,o+j] [] Z U (Ad Z (Bn Z Z J (AB (H.cell 1 Z (λh q=>(e h q).at r)))) (Zc 5 Z (Ad Z (SA Z Z Z (m:=8) Z (by decide)) (Zc 1 Z (Ad Z (Ri Z J Z) (Ad Z (Xj Z Z Z (Ob) ⟨by omega,by have:=x.toNat_lt;omega⟩) (Z1 8 [] [(j:Int)+1] Z U (gf ?_))))))));intro _ a;refine ⟨(j+1),(a.co Z (by go_num) (a.co Z (congrArg I (MF r)) (a.all Z))),⟨H,?_⟩,?_⟩
  ·omega
  omega
 obtain rfl:j=k:=by omega
 refine Zc 2 Z (gx (Z2 10 [0,0,0] H Z (Ad Z (UD Z (z:=1) J Z Z (p:=j) Z U U (o':=if c=j then o else o+j) (l':=n-j) (c':=c-j) (by rw[AeS]) Z Z) (Z4 12 [0,0] H Z ?_))));intro w H;refine Zr Z ?_;exact ⟨_,⟨Z,Z⟩,H⟩
theorem PD(bd:List UInt8)(t:∀h,A h->rdH 1 (.slice (some ⟨n,j,none⟩) 240 e) 240 (bd.map u8) h)(ns:List Int)(a2:ns.length=120)(a:∀x∈ns,0<=x/\x<=1000)(k:bd=Lg ns):Ak 162 [.slice (some ⟨n,j,none⟩) 240 e] [A] (λv G=>∃v1,v=.tuple #[v1,.bool true]/\G=[grow 3 1 v1 120 (ns.map I),A]):=by
 intro z R w H;have a3:=H.sy 0 (λq=>(t _ q).cap);refine Ae func162 Z ntmps162 Z (Za 21 [4] H Z ?_);intro l w H;refine Z4 10 [0] H Z ?_;intro w H;replace H:=(H.nilg 3 1).l3;refine Zc 5 Z ?_;refine AF (σ:=Nat×Value×Nat) (λ⟨i,v,x⟩=>[(12,I (i:Int)),(5,v),(4,Y l)])
   (λ⟨i,v,x⟩ w=>Sep z (grow 3 1 v i ((ns.take i).map I)::blk l [.slice (some ⟨n,x,none⟩) (240-2*i) (e-2*i)] 259::A::R) w/\(i<=120/\(i<120->x=j+2*i))) (λ⟨i,v,x⟩=>120-i) ⟨0,.slice none 0 0,j⟩
   (λ_ c=>(c.co Z (by go_num) c.cz)) ⟨H,⟨by omega,λ_=>rfl⟩⟩ ?_
 clear H;rintro ⟨i,v,x⟩ w ⟨b,u⟩;dsimp only at u b ⊢;have H:=b.l3;have sv:=H.sy 0 (·.slc);obtain ⟨a4,g⟩:=u;refine Z0 6 [0] Z (Af Z (λh1=>?_) (λh1=>?_))
 ·have p:i<120:=by omega
  have s:=g p;obtain ⟨y,o⟩:∃y,ns[i]?=some y:=⟨_,Aef U⟩;have a5:=a y (Aeg o);have r:A5 ((bd.drop (2*i)).take 2)=y:=by rw[k];exact Aby a o
  refine Zc 6 Z (z_E_ Z (call164 _) (AbD 2 n x (240-2*i) (e-2*i) ((bd.drop (2*i)).take (240-2*i)) (λh q=>by have:=(t h q).cut (lo:=2*i) (m:=240-2*i) (c':=e-2*i) U U U;rw[s];exact this) U U U ((bd.drop (2*i)).take 2) (by rw[AeG,AeH U]) (if e-2*i=2 then x else x+2) (240-2*(i+1)) (e-2*(i+1)) Z U U) H.f2.f2 ?_);intro w H;refine AD 14 (v:=I y) Z (congrArg I r) (Zc 7 Z (z_E_ Z (call98 _) (CY) H ?_));intro w H;refine Ad Z (AG Z Z) (Zc 2 Z (Af Z (λh2=>U) (λh2=>?_)));refine Zc 5 Z (AU Z (AP H Z J BC Z (by decide) (by decide) (out:=[I y]) J) ?_);rintro _ w ⟨b2,rfl,H⟩;refine AU Z (AX 3 H Z Z J BC Z Z (H.rv 0 (·.rd U U O Z)) (by simp[Value.oneCell']) U) ?_;rintro v3 w b;have b:Sep z (blk b2 [I y] 3::blk l [.slice (some ⟨n,(if e-2*i=2 then x else x+2),none⟩) (240-2*(i+1)) (e-2*(i+1))] 259::A::grow 3 1 v3 (i+1) ((ns.take i).map I++[I y])::R) w:=b;have f:((ns.take i).map I++[I y]:List Value)=(ns.take (i+1)).map I:=(D6 o);rw[f] at b;have H:=b.l4;refine Z1 8 [] [(i:Int)+1] Z U ?_;replace H:=H.d.f1.f1.f2;refine gf ?_;intro _ c;refine ⟨⟨i+1,v3,if e-2*i=2 then x else x+2⟩,c.cz,⟨H,?_⟩,?_⟩
  ·refine ⟨by dsimp only;omega,λq=>?_⟩;dsimp only at q ⊢;rw[if_neg U];omega
  omega
 obtain rfl:i=120:=by omega
 refine Zc 2 Z (gx (Zc 10 Z (Zr Z ?_)));rw[Aem U] at H;exact ⟨_,⟨v,Z,Z⟩,H.perm 3 [0,2] Z Z⟩
theorem Tt(lf:Bool){kv vv:Value}(b vs:List Int){B:Ai}(hA:∀h,A h->rdH 1 kv b.length (b.map I) h)(t:∀h,B h->rdH 1 vv vs.length (vs.map I) h)(p:b.length=vs.length)(h8:b.length<=8)(hk:∀x∈b,0<=x/\x<=1048575)(hv:∀y∈vs,0<=y/\y<=1023):Ak 206 [.agg #[.bool lf,kv,vv]] [A,B] (λv G=>∃pw,v=.tuple #[.slice (some ⟨pw,0,none⟩) 240 240,I 0]/\G=[blk pw (Bb (AL (Ge lf b vs)) ((2+6*b.length:Nat):Int)) 173,A,B]):=by
 intro z R w H;obtain ⟨f,g,rfl⟩:=H.sy 0 (λq=>(hA _ q).slc);obtain ⟨l,m,rfl⟩:=H.sy 1 (λq=>(t _ q).slc);have c:=p;refine Ae func206 Z ntmps206 Z (Za 2 [] H Z ?_);intro e w H;refine Z2 15 [1,0,0,2,0,0,0] H Z (An 15 Z (λh1=>U) (λh1=>?_));refine Z2 7 [1,0,0,0] H Z (Af Z (λh2=>U) (λh2=>?_));refine Zc 4 Z (AU Z (Ce (P:=prog) H Z (zs:=(Bb (AL []) 0)) J) ?_);rintro _ w ⟨k,rfl,H⟩;refine Zc 7 Z (Ro (λa w=>Fr 59 [] [(5,I (DY lf)),(0,.agg #[.bool lf,.slice f b.length g,.slice l vs.length m]),(1,Y e),(2,.slice none 0 0),(3,I 0),(4,Y k),(8,.pointer (some ⟨e,1,none⟩)),(9,.slice f b.length g),(10,I (b.length:Int)),(11,.pointer (some ⟨e,2,none⟩)),(12,.slice l vs.length m),(13,I (vs.length:Int)),(14,.bool (decide ((b.length:Int)≠(vs.length:Int)))),(15,.bool false),(16,.pointer (some ⟨e,1,none⟩)),(17,.slice f b.length g),(18,I (b.length:Int)),(19,.bool (decide ((8:Int)<(b.length:Int)))),(20,.bool (decide ((8:Int)<(b.length:Int))))] a/\Sep z (blk k (Bb (AL ([])) 0) 173::blk e [.bool lf,.slice f b.length g,.slice l vs.length m] 195::A::B::R) w) ?_ ?_)
 ·refine Z2 6 [0,1,0] H Z (Eq Z (λh3=>?_) (λh3=>?_))
  ·refine Zc 3 Z ?_;exact gf λ_ n=>⟨(n.co Z (congrArg I (by simp[DY, *])) (n.all Z)),H⟩
  refine Zc 1 Z ?_;exact gf λ_ n=>⟨(n.co Z (congrArg I (by simp[DY, *])) (n.all Z)),H⟩
 rintro a w ⟨n,H⟩;revert a;refine Zc 3 Z (z_E_ Z (call99 _) (CH 0 1 (DY lf) (AW (by first|omega|(simp[Ah,c,Du,AfK,-List.length_flatMap]<;>omega))) U) H ?_);intro w H;rw[show Bw (AL []) (Ag 1 (DY lf)) 0=AL (Ag 1 (DY lf)) from BG Z (by first|omega|(simp[Ah,c,Du,AfK,-List.length_flatMap]<;>omega))] at H;have H:Sep z (blk k (Bb (AL (Ag 1 (DY lf))) 1) 173::blk e [.bool lf,.slice f b.length g,.slice l vs.length m] 195::A::B::R) w:=H;refine Z2 7 [1,1,0] H Z (z_E_ Z (call99 _) (CH 1 1 (b.length:Int) (AW (by first|omega|(simp[Ah,c,Du,AfK,-List.length_flatMap]<;>omega))) U) H ?_);intro w H;rw[show Bw (AL (Ag 1 (DY lf))) (Ag 1 (b.length:Int)) 1=AL (Ag 1 (DY lf)++Ag 1 (b.length:Int)) from BG (by first|omega|(simp[Ah,c,Du,AfK,-List.length_flatMap]<;>omega)) (by first|omega|(simp[Ah,c,Du,AfK,-List.length_flatMap]<;>omega))] at H;have H:Sep z (blk k (Bb (AL (Ag 1 (DY lf)++Ag 1 (b.length:Int))) 2) 173::blk e [.bool lf,.slice f b.length g,.slice l vs.length m] 195::A::B::R) w:=H;refine Z2 12 [1,1,0] H Z ?_;refine AF (σ:=Nat) (λi=>[(32,I (i:Int)),(1,Y e),(4,Y k),(30,.slice f b.length g),(31,I (b.length:Int))])
   (λi w=>Sep z (blk k (Bb (AL (Ag 1 (DY lf)++Ag 1 (b.length:Int)++Gr b vs i)) ((2+6*i:Nat):Int)) 173::blk e [.bool lf,.slice f b.length g,.slice l vs.length m] 195::A::B::R) w/\(i<=b.length)) (λi=>b.length-i) 0
   fr_z ⟨(by rw[Vw,AeY];exact H),by omega⟩ ?_
 clear H;rintro i w ⟨H',hI⟩;have H:=H'.l4;have a3:=hI;clear hI;refine Z0 6 [0] Z (Af Z (λh4=>?_) (λh4=>?_))
 ·have a0:i<b.length:=by omega
  obtain ⟨x,hx⟩:∃x,b[i]?=some x:=⟨_,Aef a0⟩;obtain ⟨y,o⟩:∃y,vs[i]?=some y:=⟨_,Aef U⟩;have a1:=hk x (Aeg hx);have a2:=hv y (Aeg o);refine Zc 6 Z ?_;have s:=(H.rd 2 Z hA).at (j:=i) (u:=I x) (by simp[hx]);refine Zc 1 Z (Ad Z (Aj Z (z:=1) (j:=i) (r:=i) J Z Z Z U s U) (Ad Z (Ax Z Z J (AB s)) (Zc 8 Z (z_E_ Z (call98 _) (CY) H ?_))));intro w H;refine Ad Z (AG Z Z) (Zc 1 Z (An 40 Z (λh5=>U) (λh5=>?_)));have d:=(H.rd 3 Z t).at (j:=i) (u:=I y) (by simp[o]);refine Z2 3 [2,1,0] H Z (Ad Z (Aj Z (z:=1) (j:=i) (r:=i) J Z Z Z U d U) (Ad Z (Ax Z Z J (AB d)) (z_E_ Z (call98 _) (CY) H ?_)));intro w H;refine Ad Z (AG Z Z) (Zc 3 Z (Af Z (λh6=>U) (λh6=>?_)));refine Zc 5 Z (z_E_ Z (call99 _) (CH (2+6*i) 4 x (AW (by first|omega|(simp[Ah,c,Du,AfK,-List.length_flatMap]<;>omega))) U) H ?_);intro w H;rw[show Bw (AL (Ag 1 (DY lf)++Ag 1 (b.length:Int)++Gr b vs i)) (Ag 4 x) (2+6*i)=AL (Ag 1 (DY lf)++Ag 1 (b.length:Int)++Gr b vs i++Ag 4 x) from BG (by first|omega|(simp[Ah,c,Du,AfK,-List.length_flatMap]<;>omega)) (by first|omega|(simp[Ah,c,Du,AfK,-List.length_flatMap]<;>omega))] at H;have H:Sep z (blk k (Bb (AL (Ag 1 (DY lf)++Ag 1 (b.length:Int)++Gr b vs i++Ag 4 x)) ((2+6*i+4:Nat):Int)) 173::blk e [.bool lf,.slice f b.length g,.slice l vs.length m] 195::A::B::R) w:=H;refine Zc 3 Z ?_;have d:=(H.rd 3 Z t).at (j:=i) (u:=I y) (by simp[o]);refine Z2 3 [2,1,0] H Z (Ad Z (Aj Z (z:=1) (j:=i) (r:=i) J Z Z Z U d U) (Ad Z (Ax Z Z J (AB d)) (z_E_ Z (call99 _) (CH (2+6*i+4) 2 y (AW (by first|omega|(simp[Ah,c,Du,AfK,-List.length_flatMap]<;>omega))) U) H ?_)));intro w H;rw[show ((2+6*i+6:Nat):Int)=(((2+6*(i+1):Nat):Int):Int) from by omega] at H;rw[show Bw (AL (Ag 1 (DY lf)++Ag 1 (b.length:Int)++Gr b vs i++Ag 4 x)) (Ag 2 y) (2+6*i+4)=AL (Ag 1 (DY lf)++Ag 1 (b.length:Int)++Gr b vs i++Ag 4 x++Ag 2 y) from BG (by first|omega|(simp[Ah,c,Du,AfK,-List.length_flatMap]<;>omega)) (by first|omega|(simp[Ah,c,Du,AfK,-List.length_flatMap]<;>omega))] at H;have H:Sep z (blk k (Bb (AL (Ag 1 (DY lf)++Ag 1 (b.length:Int)++Gr b vs i++Ag 4 x++Ag 2 y)) ((2+6*(i+1):Nat):Int)) 173::blk e [.bool lf,.slice f b.length g,.slice l vs.length m] 195::A::B::R) w:=H;refine Z1 7 [] [(i:Int)+1] Z U (gf ?_);intro _ n;refine ⟨(i+1),n.cz,⟨(by rw[YG hx o,<-Aek,<-Aek];exact H),?_⟩,?_⟩
  ·omega
  omega
 obtain rfl:i=b.length:=by omega
 refine Zc 2 Z (gx (Zc 3 Z ?_));have H:Sep z (blk k (Bb (AL (Ge lf b vs)) ((2+6*b.length:Nat):Int)) 173::blk e [.bool lf,.slice f b.length g,.slice l vs.length m] 195::A::B::R) w:=H;refine Zc 1 Z (z_E_ Z (call101 _) (LX (AW (by first|omega|(simp[Ah,Gy p]<;>omega)))) H ?_);intro w H;refine Zc 5 Z (Zr Z ?_);exact ⟨_,⟨k,Z,Z⟩,H.perm 4 [0,2,3] Z Z⟩
theorem MJ(bd:List UInt8)(hA:∀h,A h->rdH 1 (.slice (some ⟨n,j,none⟩) 240 e) 240 (bd.map u8) h)(lf:Bool)(a vs:List Int)(c:a.length=vs.length)(h8:a.length<=8)(hk:∀x∈a,0<=x/\x<=1048575)(hv:∀y∈vs,0<=y/\y<=1023)(f:bd=Hf lf a vs):Ak 167 [.slice (some ⟨n,j,none⟩) 240 e] [A] (λv G=>∃v1 v2,v=.tuple #[.agg #[.bool lf,v1,v2],.bool true]/\G=[grow 3 1 v1 a.length (a.map I),grow 3 1 v2 a.length (vs.map I),A]):=by
 intro z R w H;replace H:=H.l1;have c4:=H.sy 0 (λq=>(hA _ q).cap);have c5:=Tq lf;have g0:A5 ((bd.drop 0).take 1)=DY lf:=by rw[f];exact YI c h8
 have g1:A5 ((bd.drop 1).take 1)=(a.length:Int):=by rw[f];exact YJ c h8
 refine Ae func167 Z ntmps167 Z (Za 2 [] H Z ?_);intro p w H;refine Za 18 [4] H Z ?_;intro b2 w H;refine Z4 5 [0] H Z ?_;intro w H;refine z_E_ Z (call164 _) (CB 1 n j 240 (e) ((bd.drop 0).take 240) (λh q=>by have:=(hA h q).cut (lo:=0) (m:=240) (c':=e) U U U;exact this) U U ((bd.drop 0).take 1) (by rw[AeG,AeH U]) (j+1) 239 (e-1) U U U) H.f2.f1 ?_;intro w H;replace H:=H.l3;refine AD 16 (v:=I (DY lf)) Z (congrArg I g0) (z_E_ Z (call164 _) (CB 1 n (j+1) 239 ((e-1)) ((bd.drop 1).take 239) (λh q=>by have:=(hA h q).cut (lo:=1) (m:=239) (c':=(e-1)) U U U;exact this) U U ((bd.drop 1).take 1) (by rw[AeG,AeH U]) (j+2) 238 (e-2) U U U) H ?_);intro w H;replace H:=H.l3;refine AD 17 (v:=I (a.length:Int)) Z (congrArg I g1) (Z0 10 [0] Z (An 20 Z (λh1=>U) (λh1=>?_)));refine Z0 5 [0] Z (Af Z (λh2=>U) (λh2=>?_));refine Z0 6 [0] Z (AD 26 (v:=.bool lf) Z (congrArg Value.bool (Abz lf)) (Za 1 [] H Z ?_));intro l w H;refine Z4 5 [0] H Z ?_;intro w H;replace H:=(H.nilg 3 1).l5;replace H:=(H.nilg 3 1).l6;refine Zc 6 Z ?_;refine AF (σ:=Nat×Value×Value) (λ⟨i,v,u⟩=>[(29,I (i:Int)),(2,Y p),(4,Y b2),(7,Y l),(28,I (a.length:Int))])
   (λ⟨i,v,u⟩ w=>Sep z (grow 3 1 u i ((vs.take i).map I)::grow 3 1 v i ((a.take i).map I)::blk l [.bool lf,v,u] 195::blk b2 [.slice (some ⟨n,(j+(2+6*i)),none⟩) (240-(2+6*i)) (e-(2+6*i))] 259::A::blk p [.bool false,.slice none 0 0,.slice none 0 0] 195::R) w/\(i<=a.length)) (λ⟨i,v,u⟩=>a.length-i) ⟨0,.slice none 0 0,.slice none 0 0⟩
   fr_z ⟨H,AeR _⟩ ?_
 clear H;rintro ⟨i,v,u⟩ w ⟨b,hI⟩;dsimp only at hI b ⊢;have H:=b.l6;have su:=H.sy 0 (·.slc);have sv:=H.sy 1 (·.slc);have c6:=hI;refine Z0 6 [0] Z (Af Z (λh3=>?_) (λh3=>?_))
 ·have c0:i<a.length:=by omega
  obtain ⟨x,g⟩:∃x,a[i]?=some x:=⟨_,Aef c0⟩;obtain ⟨y,hy⟩:∃y,vs[i]?=some y:=⟨_,Aef U⟩;have c2:=hk x (Aeg g);have c1:=hv y (Aeg hy);have gx:A5 ((bd.drop (2+6*i)).take 4)=x:=by rw[f];exact AbB c h8 g hy c2
  have gy:A5 ((bd.drop (2+6*i+4)).take 2)=y:=by rw[f];exact AbC c h8 g hy c1
  refine Zc 6 Z (z_E_ Z (call164 _) (CB 4 n (j+(2+6*i)) (240-(2+6*i)) ((e-(2+6*i))) ((bd.drop (2+6*i)).take (240-(2+6*i))) (λh q=>by have:=(hA h q).cut (lo:=(2+6*i)) (m:=(240-(2+6*i))) (c':=(e-(2+6*i))) U U U;exact this) U U ((bd.drop (2+6*i)).take 4) (by rw[AeG,AeH U]) (j+(2+6*i+4)) (240-(2+6*i+4)) (e-(2+6*i+4)) U U U) H.f4.f4 ?_);intro w H;replace H:=H.l6;refine AD 31 (v:=I x) Z (congrArg I gx) (z_E_ Z (call164 _) (CB 2 n (j+(2+6*i+4)) (240-(2+6*i+4)) ((e-(2+6*i+4))) ((bd.drop (2+6*i+4)).take (240-(2+6*i+4))) (λh q=>by have:=(hA h q).cut (lo:=(2+6*i+4)) (m:=(240-(2+6*i+4))) (c':=(e-(2+6*i+4))) U U U;exact this) U U ((bd.drop (2+6*i+4)).take 2) (by rw[AeG,AeH U]) (j+(2+6*(i+1))) (240-(2+6*(i+1))) (e-(2+6*(i+1))) U U U) H ?_);intro w H;replace H:=H.l6;refine AD 32 (v:=I y) Z (congrArg I gy) (Zc 8 Z (z_E_ Z (call98 _) (CY) H ?_));intro w H;replace H:=H.l6;refine Ad Z (AG Z Z) (Zc 1 Z (An 36 Z (λh4=>U) (λh4=>?_)));refine Zc 1 Z (z_E_ Z (call98 _) (CY) H ?_);intro w H;replace H:=H.l6;refine Ad Z (AG Z Z) (Zc 3 Z (Af Z (λh5=>U) (λh5=>?_)));refine Zc 2 Z ?_;replace H:=H.f4;refine Ov (Sep z (blk l [.bool lf,v,u] 195::R)) [11,12,13] 14 Z J (A4 H λw b=>?_);have H:=b.l6;refine IF 0 Z J J J J Z Z Z (DU Z (k:=1) (r:=1) J Z Z) (H.pick 6 [0] Z) (IF 1 Z J J J J Z Z Z (Bn Z Z J (λ_ g=>g.cel 0 Z 1 Z)) (H.pick 6 [0] Z) (IF 2 Z J J J J Z Z Z (Ck Z Z) (H.pick 6 [0] Z) (IF 5 Z J J J J Z Z Z (DU Z (k:=2) (r:=2) J Z Z) (H.pick 6 [0] Z) (IF 6 Z J J J J Z Z Z (Bn Z Z J (λ_ g=>g.cel 0 Z 2 Z)) (H.pick 6 [0] Z) (IF 7 Z J J J J Z Z Z (Ck Z Z) (H.pick 6 [0] Z) (C7 [3,8] J O (JY ?_ ?_)))))))
  ·refine BU Z Z Z Z (AP H Z J BC Z (by decide) (by decide) (out:=[I x]) J) ?_;rintro _ w ⟨b4,rfl,H⟩;replace H:=H.l7;refine Ar (λ_=>(H.pick 7 [1] Z)) (C7 [4,8] J O (JY ?_ ?_))
   ·refine BU Z Z Z Z (AX 5 H Z Z J BC Z Z (H.rv 0 (·.rd U U O Z)) (by simp[Value.oneCell']) U) ?_;rintro v5 w b;have b:Sep z (blk b4 [I x] 3::blk l [.bool lf,v,u] 195::blk b2 [.slice (some ⟨n,(j+(2+6*(i+1))),none⟩) (240-(2+6*(i+1))) (e-(2+6*(i+1)))] 259::A::grow 3 1 u i ((vs.take i).map I)::grow 3 1 v5 (i+1) ((a.take i).map I++[I x])::blk p [.bool false,.slice none 0 0,.slice none 0 0] 195::R) w:=b
    have b9:((a.take i).map I++[I x]:List Value)=(a.take (i+1)).map I:=(D6 g);rw[b9] at b;have H:=b.l7;have a4:=H.sy 5 (·.slc);refine Ar (λ_=>(H.pick 7 [1] Z)) (IF 10 Z J J J J Z Z Z (DU Z (k:=1) (r:=1) J Z Z) (H.pick 7 [1] Z) (C7 [8] J O (Al (BU Z Z Z Z (AP H Z J BC Z (by decide) (by decide) (out:=[I y]) J) ?_))));rintro _ w ⟨b6,rfl,H⟩;replace H:=H.l8;refine Ar (λ_=>(H.pick 8 [2] Z)) (C7 [9] J O (Al (BU Z Z Z Z (AX 5 H Z Z J BC Z Z (H.rv 0 (·.rd U U O Z)) (by simp[Value.oneCell']) U) ?_)));rintro v7 w b;have b:Sep z (blk b6 [I y] 3::blk b4 [I x] 3::blk l [.bool lf,v,u] 195::blk b2 [.slice (some ⟨n,(j+(2+6*(i+1))),none⟩) (240-(2+6*(i+1))) (e-(2+6*(i+1)))] 259::A::grow 3 1 v7 (i+1) ((vs.take i).map I++[I y])::grow 3 1 v5 (i+1) ((a.take (i+1)).map I)::blk p [.bool false,.slice none 0 0,.slice none 0 0] 195::R) w:=b;have b5:((vs.take i).map I++[I y]:List Value)=(vs.take (i+1)).map I:=(D6 hy);rw[b5] at b;have H:=b.l8;have b0:=H.sy 5 (·.slc);refine Ar (λ_=>(H.pick 8 [2] Z)) (C7 [11] J O (Al (Bl Z Z Z (Lw 2 H Z Z Z Z a4.cells a4.one J) ?_)));rintro w H;replace H:=H.l8;refine Ar (λh=>absurd h (by decide)) (C7 [12] J O (Al (BV Z Z Z Z (DU Z (k:=2) (r:=2) J Z Z) (Ar (λh=>absurd h (by decide)) (C7 [13] J O (Al (Bl Z Z Z (JZ 2 H Z Z Z Z b0.cells b0.one J) ?_)))))));rintro w H;replace H:=H.l8;refine Ar (λh=>absurd h (by decide)) (Lf J (gn (Z1 6 [] [(i:Int)+1] Z U ?_)));replace H:=H.f1.d.d.f5.f3.f3.f3.f5.f5;refine gf ?_;intro _ hF;refine ⟨⟨i+1,v5,v7⟩,hF.cz,⟨H,?_⟩,?_⟩
    ·dsimp only;omega
    omega
   refine BU Z Z Z Z (AP H Z J BC Z (by decide) (by decide) (out:=[I y]) J) ?_;rintro _ w ⟨b8,rfl,H⟩;replace H:=H.l8;refine Ar (λ_=>(H.pick 8 [2] Z)) (C7 [4] J O (Al (BU Z Z Z Z (AX 6 H Z Z J BC Z Z (H.rv 1 (·.rd U U O Z)) (by simp[Value.oneCell']) U) ?_)));rintro v9 w b;have b:Sep z (blk b8 [I y] 3::blk b4 [I x] 3::blk l [.bool lf,v,u] 195::blk b2 [.slice (some ⟨n,(j+(2+6*(i+1))),none⟩) (240-(2+6*(i+1))) (e-(2+6*(i+1)))] 259::A::grow 3 1 u i ((vs.take i).map I)::grow 3 1 v9 (i+1) ((a.take i).map I++[I x])::blk p [.bool false,.slice none 0 0,.slice none 0 0] 195::R) w:=b;have b7:((a.take i).map I++[I x]:List Value)=(a.take (i+1)).map I:=(D6 g);rw[b7] at b;have H:=b.l8;have a6:=H.sy 6 (·.slc);refine Ar (λ_=>(H.pick 8 [2] Z)) (IF 10 Z J J J J Z Z Z (DU Z (k:=1) (r:=1) J Z Z) (H.pick 8 [2] Z) (C7 [9] J O (Al (BU Z Z Z Z (AX 5 H Z Z J BC Z Z (H.rv 0 (·.rd U U O Z)) (by simp[Value.oneCell']) U) ?_))));rintro a5 w b;have b:Sep z (blk b8 [I y] 3::blk b4 [I x] 3::blk l [.bool lf,v,u] 195::blk b2 [.slice (some ⟨n,(j+(2+6*(i+1))),none⟩) (240-(2+6*(i+1))) (e-(2+6*(i+1)))] 259::A::grow 3 1 a5 (i+1) ((vs.take i).map I++[I y])::grow 3 1 v9 (i+1) ((a.take (i+1)).map I)::blk p [.bool false,.slice none 0 0,.slice none 0 0] 195::R) w:=b;have a9:((vs.take i).map I++[I y]:List Value)=(vs.take (i+1)).map I:=(D6 hy);rw[a9] at b;have H:=b.l8;have o:=H.sy 5 (·.slc);refine Ar (λ_=>(H.pick 8 [2] Z)) (C7 [11] J O (Al (Bl Z Z Z (Lw 2 H Z Z Z Z a6.cells a6.one J) ?_)));rintro w H;replace H:=H.l8;refine Ar (λh=>absurd h (by decide)) (C7 [12] J O (Al (BV Z Z Z Z (DU Z (k:=2) (r:=2) J Z Z) (Ar (λh=>absurd h (by decide)) (C7 [13] J O (Al (Bl Z Z Z (JZ 2 H Z Z Z Z o.cells o.one J) ?_)))))));rintro w H;replace H:=H.l8;refine Ar (λh=>absurd h (by decide)) (Lf J (gn (Z1 6 [] [(i:Int)+1] Z U ?_)));replace H:=H.f1.d.d.f5.f3.f3.f3.f5.f5;refine gf ?_;intro _ hF;refine ⟨⟨i+1,v9,a5⟩,hF.cz,⟨H,?_⟩,?_⟩
   ·dsimp only;omega
   omega
  refine BU Z Z Z Z (AP H Z J BC Z (by decide) (by decide) (out:=[I y]) J) ?_;rintro _ w ⟨a1,rfl,H⟩;replace H:=H.l7;refine Ar (λ_=>(H.pick 7 [1] Z)) (C7 [3] J O (Al (BU Z Z Z Z (AP H Z J BC Z (by decide) (by decide) (out:=[I x]) J) ?_)));rintro _ w ⟨a8,rfl,H⟩;replace H:=H.l8;refine Ar (λ_=>(H.pick 8 [2] Z)) (C7 [4] J O (Al (BU Z Z Z Z (AX 6 H Z Z J BC Z Z (H.rv 0 (·.rd U U O Z)) (by simp[Value.oneCell']) U) ?_)));rintro a0 w b;have b:Sep z (blk a8 [I x] 3::blk a1 [I y] 3::blk l [.bool lf,v,u] 195::blk b2 [.slice (some ⟨n,(j+(2+6*(i+1))),none⟩) (240-(2+6*(i+1))) (e-(2+6*(i+1)))] 259::A::grow 3 1 u i ((vs.take i).map I)::grow 3 1 a0 (i+1) ((a.take i).map I++[I x])::blk p [.bool false,.slice none 0 0,.slice none 0 0] 195::R) w:=b;have a2:((a.take i).map I++[I x]:List Value)=(a.take (i+1)).map I:=(D6 g);rw[a2] at b;have H:=b.l8;have t:=H.sy 6 (·.slc);refine Ar (λ_=>(H.pick 8 [2] Z)) (IF 10 Z J J J J Z Z Z (DU Z (k:=1) (r:=1) J Z Z) (H.pick 8 [2] Z) (C7 [9] J O (Al (BU Z Z Z Z (AX 5 H Z Z J BC Z Z (H.rv 1 (·.rd U U O Z)) (by simp[Value.oneCell']) U) ?_))));rintro a3 w b;have b:Sep z (blk a8 [I x] 3::blk a1 [I y] 3::blk l [.bool lf,v,u] 195::blk b2 [.slice (some ⟨n,(j+(2+6*(i+1))),none⟩) (240-(2+6*(i+1))) (e-(2+6*(i+1)))] 259::A::grow 3 1 a3 (i+1) ((vs.take i).map I++[I y])::grow 3 1 a0 (i+1) ((a.take (i+1)).map I)::blk p [.bool false,.slice none 0 0,.slice none 0 0] 195::R) w:=b;have a7:((vs.take i).map I++[I y]:List Value)=(vs.take (i+1)).map I:=(D6 hy);rw[a7] at b;have H:=b.l8;have s:=H.sy 5 (·.slc);refine Ar (λ_=>(H.pick 8 [2] Z)) (C7 [11] J O (Al (Bl Z Z Z (Lw 2 H Z Z Z Z t.cells t.one J) ?_)));rintro w H;replace H:=H.l8;refine Ar (λh=>absurd h (by decide)) (C7 [12] J O (Al (BV Z Z Z Z (DU Z (k:=2) (r:=2) J Z Z) (Ar (λh=>absurd h (by decide)) (C7 [13] J O (Al (Bl Z Z Z (JZ 2 H Z Z Z Z s.cells s.one J) ?_)))))));rintro w H;replace H:=H.l8;refine Ar (λh=>absurd h (by decide)) (Lf J (gn (Z1 6 [] [(i:Int)+1] Z U ?_)));replace H:=H.f1.d.d.f5.f3.f3.f3.f5.f5;refine gf ?_;intro _ hF;refine ⟨⟨i+1,a0,a3⟩,hF.cz,⟨H,?_⟩,?_⟩
  ·dsimp only;omega
  omega
 obtain rfl:i=a.length:=by omega
 refine Zc 2 Z (gx (Zc 5 Z (z_E_ Z (call165 _) (K6 n (j+(2+6*a.length)) (240-(2+6*a.length)) ((e-(2+6*a.length))) ((bd.drop (2+6*a.length)).take (240-(2+6*a.length))) (λh q=>by have:=(hA h q).cut (lo:=(2+6*a.length)) (m:=(240-(2+6*a.length))) (c':=(e-(2+6*a.length))) U U U;exact this) (.inr ⟨by omega,by rw[f];exact Qo c h8,by omega⟩)) H.f4.f4 ?_)));intro w H;replace H:=H.l6;refine Ad Z (AG Z Z) (Zc 2 Z (Af Z (λh6=>?_) (λh6=>?_)))
 ·exact absurd (by rw[f];exact Qo c h8) h6
 refine Z2 5 [4,3] H Z (AC Z Z (Am 5 H Z Z Z Z (vs:=[.bool lf,v,u]) Z (Ab Z (Ab sv.one (Ab su.one Aw))) J O (out:=[.bool lf,v,u]) Z) ?_);rintro w H;replace H:=H.l6;refine Zc 4 Z (Zl [5,3] H Z ?_);have e1:a.take a.length=a:=Afa;have e2:vs.take a.length=vs:=by rw[c];exact Afa
 rw[e1,e2] at H;exact ⟨_,⟨v,u,Z,Z⟩,H.perm 6 [3,2,1] Z Z⟩
def C5(C:Nat->Nat)(n:Nat):List Value:=(List.range n).map λk=>.int .i64 (C k:Int)
abbrev Ch(bn:Nat)(C:Nat->Nat)(n:Nat):Ai:=blk bn (C5 C n) 3
abbrev coB(pc bn n m:Nat):Ai:=blk pc [.slice (some ⟨bn,0,none⟩) n n,.map (some m)] 182
def updN(C:Nat->Nat)(p x:Nat):Nat->Nat:=λq=>if q=p then x else C q
theorem CX(C:Nat->Nat)(n:Nat):(C5 C n).length=n:=by simp[C5]
theorem cnL_at(C:Nat->Nat)(h:m<n):(C5 C n)[m]?=some (I (C m:Int)):=by simp[C5,h]
theorem Jy{x:Nat}(h:m<n)(c:t=(x:Int)):(C5 C n).take m++[I t]++(C5 C n).drop (m+1)=C5 (updN C m x) n:=by
 subst c;have e:=Afd (l:=C5 C n) (i:=m) (a:=I (x:Int));rw[if_pos (by rw[CX];exact h)] at e;rw[Aek,List.singleton_append,<-e];refine Afs λj=>?_;rw[Afq];rcases Aeu j n with b|b
 ·rw[cnL_at (updN C m x) b]
  split
  ·rename_i e1;subst e1;rw[if_pos (by rw[CX];exact h)];simp[updN]
  rename_i e1;rw[cnL_at C b];simp[updN,AfV e1]
 rw[AeL (by rw[CX];exact b),AeL (by rw[CX];exact b)];split
 ·rename_i e1;subst e1;rw[if_neg (by rw[CX];omega)]
 rfl
structure WasOk(C C0:Nat->Nat)(n:Nat)(l:List IE)(clk:Nat):Prop where
 clk:∀p∈l,p.2.2<clk
 born:(l.map λp:IE=>p.2.2).Nodup
 keys:(l.map λp:IE=>p.1).Nodup
 ent:∀p∈l,∃k:Nat,p.1=(k:Int)/\k<n/\p.2.1=.int .i64 (C0 k:Int)
 rest:∀k,k<n->(∀p∈l,p.1≠(k:Int))->C k=C0 k
theorem WasOk.nil(C:Nat->Nat)(n clk:Nat):WasOk C C n [] clk:=⟨by simp,by simp,by simp,by simp,λ_ _ _=>rfl⟩
theorem MK:∀{l:List IE} {k:Int},CQ l k=none->∀p∈l,p.1≠k
 | [],_,_,p,h=>by simp at h
 | q::l,k,h,p,hp=>by
  simp only[CQ] at h;split at h
  ·cases h
  rename_i hne;rcases Aeq.1 hp with rfl|hp
  ·exact λe=>hne e.symm
  exact MK h p hp
theorem ML:∀{l:List IE} {k:Int} {v:Value},CQ l k=some v->∃p∈l,p.1=k/\p.2.1=v
 | [],_,_,h=>by simp[CQ] at h
 | q::l,k,v,h=>by
  simp only[CQ] at h;split at h
  ·rename_i e;simp at h;exact ⟨q,by simp,e.symm,h⟩
  obtain ⟨p,hp,h1,h2⟩:=ML h;exact ⟨p,by simp[hp],h1,h2⟩
theorem Ow:∀{l:List IE} {p:IE},(l.map λp:IE=>p.1).Nodup->p∈l->CQ l p.1=some p.2.1
 | [],p,_,h=>by simp at h
 | q::l,p,hn,h=>by
  simp only[AeM,Afk] at hn;simp only[CQ];rcases Aeq.1 h with rfl|h
  ·simp
  rw[if_neg (λe=>hn.1 (by rw[<-e];exact Aen.2 ⟨p,h,Z⟩))];exact Ow hn.2 h
theorem WasOk.has{C0:Nat->Nat}{clk p:Nat}{l:List IE}(W:WasOk C C0 n l clk)(h:CR l (p:Int)=true)(x:Nat):WasOk (updN C p x) C0 n l clk:=by
 refine ⟨W.clk,W.born,W.keys,W.ent,λk c a=>?_⟩;unfold updN;split
 ·rename_i e;subst e
  obtain ⟨v,d⟩:=Afb.1 h;obtain ⟨q,hq,b,_⟩:=ML d;exact absurd b (a q hq)
 exact W.rest k c a
theorem WasOk.put{C0:Nat->Nat}{clk p:Nat}{l:List IE}(W:WasOk C C0 n l clk)(hp:p<n)(h:CR l (p:Int)=false)(x:Nat):
  WasOk (updN C p x) C0 n (E5 l (p:Int) (I (C p:Int)) clk) (putC l (p:Int) clk):=by
 have f:∀q∈l,q.1≠(p:Int):=MK (by unfold CR at h;simpa using h);have e1:E5 l (p:Int) (I (C p:Int)) clk=l++[((p:Int),I (C p:Int),clk)]:=by unfold E5;rw[h];rfl
 have e2:putC l (p:Int) clk=clk+1:=by unfold putC;rw[h];rfl
 have j:C p=C0 p:=W.rest p hp f;rw[e1,e2];refine ⟨λq hq=>?_,?_,?_,λq hq=>?_,λk i d=>?_⟩
 ·rcases Aes.1 hq with hq|hq
  ·have:=W.clk q hq;omega
  simp at hq;subst hq;simp
 ·rw[AeK,Afc]
  refine ⟨W.born,by simp,λa g b c=>?_⟩;simp at c;subst c;obtain ⟨q,hq,rfl⟩:=Aen.1 g;have:=W.clk q hq;omega
 ·rw[AeK,Afc]
  refine ⟨W.keys,by simp,λa g b c=>?_⟩;simp at c;subst c;obtain ⟨q,hq,rfl⟩:=Aen.1 g;exact f q hq
 ·rcases Aes.1 hq with hq|hq
  ·exact W.ent q hq
  simp at hq;subst hq;exact ⟨p,Z,hp,by rw[j]⟩
 unfold updN;split
 ·rename_i e;subst e
  exact absurd Z (d ((k:Int),I (C k:Int),clk) O)
 exact W.rest k i (λq hq=>d q (by simp[hq]))
theorem WasOk.len{C0:Nat->Nat}{clk:Nat}{l:List IE}(W:WasOk C C0 n l clk):l.length<=n:=by
 have h:=Jw (s:=l.map λp:IE=>p.1) (l:=(List.range n).map λk:Nat=>(k:Int)) W.keys (λx c=>by
  obtain ⟨p,hp,rfl⟩:=Aen.1 c;obtain ⟨k,a,b,_⟩:=W.ent p hp;rw[a];exact Aen.2 ⟨k,AfT.2 b,Z⟩)
 simpa using h
def manyN(n:Nat):Nat:=(n+119)/120
def Ew(C:Nat->Nat)(n i:Nat):List Int:=(List.range 120).map λk=>if 120*i+k<n then (C (120*i+k):Int) else 0
theorem Jz(C:Nat->Nat)(n i:Nat):(Ew C n i).length=120:=by simp[Ew]
theorem Tu(h:∀k,C k<=1000):∀x∈Ew C n i,0<=x/\x<=1000:=λx a=>by
 simp only[Ew,Aen] at a;obtain ⟨k,_,rfl⟩:=a;split
 ·have:=h (120*i+k);omega
 omega
theorem Vx(C:Nat->Nat)(n i:Nat)(hi:120*i<n):(List.replicate 120 (I 0)).take 0++((C5 C n).drop (120*i)).take (min (n-120*i) 120)++(List.replicate 120 (I 0)).drop (0+min (n-120*i) 120)=(Ew C n i).map I:=by
 rw[AfH,AeT,AfP];refine Afs λj=>?_;have a:(((C5 C n).drop (120*i)).take (min (n-120*i) 120)).length=min (n-120*i) 120:=by rw[AeA,AeP,CX];omega
 rcases Aeu j 120 with b|b
 ·have c:((Ew C n i).map I)[j]?=some (I (if 120*i+j<n then (C (120*i+j):Int) else 0)):=by simp[Ew,b]
  rw[c];rcases Aeu j (min (n-120*i) 120) with h|h
  ·rw[Aep U,Ae0,if_pos h,Afn,cnL_at C U,if_pos U]
  rw[Aev U,a,Afn,List.getElem?_replicate,if_pos U,if_neg U]
 rw[AeL (by rw[Aeh,a,AeP,Afl];omega),AeL (by simp[Ew];omega)]
theorem YK(C:Nat->Nat)(n:Nat):∀c∈C5 C n,c.oneCell'=true:=λc a=>by
 simp only[C5,Aen] at a;obtain ⟨k,_,rfl⟩:=a;rfl
def HQ(C:Nat->Nat)(i:Nat)(ns:List Int)(j:Nat):Nat->Nat:=λp=>if p/120=i/\p%120<j then (ns.getD (p%120) 0).toNat else C p
theorem Vy(C:Nat->Nat)(i:Nat)(ns:List Int):HQ C i ns 0=C:=by funext p;simp[HQ]
theorem Vz(C:Nat->Nat)(c:j<120)(a:l[j]?=some t)(b:0<=t):updN (HQ C i l j) (120*i+j) t.toNat=HQ C i l (j+1):=by
 funext p;unfold updN HQ;split
 ·rename_i e;subst e
  rw[if_pos ⟨by omega,by omega⟩,show (120*i+j)%120=j by omega];simp[List.getD,a]
 rename_i e;by_cases h:p/120=i/\p%120<j
 ·rw[if_pos h,if_pos ⟨h.1,by omega⟩]
 rw[if_neg h,if_neg (λq=>h ⟨q.1,by omega⟩)]
theorem VA(C:Nat->Nat)(h:n<=120*i+j)(a:j<120):C5 (HQ C i l j) n=C5 (HQ C i l (j+1)) n:=by
 refine Afs λp=>?_;rcases Aeu p n with hp|hp
 ·rw[cnL_at _ hp,cnL_at _ hp]
  unfold HQ;by_cases q:p/120=i/\p%120<j
  ·rw[if_pos q,if_pos ⟨q.1,by omega⟩]
  rw[if_neg q,if_neg (λr=>q ⟨r.1,by omega⟩)]
 rw[AeL (by rw[CX];exact hp),AeL (by rw[CX];exact hp)]
def Hg(C C0:Nat->Nat)(s:List IE):Nat->Nat:=λk=>if s.any (λp=>decide (p.1=(k:Int))) then C0 k else C k
theorem YL(C C0:Nat->Nat):Hg C C0 []=C:=by funext k;simp[Hg]
theorem VB(C C0:Nat->Nat){s:List IE}{p:IE}(b:p.1=(n:Int)):updN (Hg C C0 s) n (C0 n)=Hg C C0 (s++[p]):=by
 funext q;unfold updN Hg;rw[List.any_append];have a:([p]:List IE).any (λp=>decide (p.1=(q:Int)))=decide (n=q):=by
  simp[b];omega
 rw[a];split
 ·rename_i e;subst e;simp
 rename_i e;have:decide (n=q)=false:=decide_eq_false (λh=>e h.symm);rw[this,Bool.or_false]
theorem YM{C0:Nat->Nat}{l s:List IE}(W:WasOk C C0 n l m)(hs:s.Perm l):C5 (Hg C C0 s) n=C5 C0 n:=by
 refine Afs λk=>?_;rcases Aeu k n with a|a
 ·rw[cnL_at _ a,cnL_at _ a]
  unfold Hg;split
  ·rfl
  rename_i h;rw[W.rest k a (λp hp e=>h (by
   rw[Ahy];exact ⟨p,hs.mem_iff.2 hp,by simpa using e⟩))]
 rw[AeL (by rw[CX];exact a),AeL (by rw[CX];exact a)]
def unA(b1 pc bn m n:Nat)(C C0:Nat->Nat)(l s:List IE):Ai:=λh=>((∀p∈s,p∈l)/\(s.map λp:IE=>p.2.2).Nodup)/\seps [blk b1 [.pointer (some ⟨pc,0,none⟩)] 75,blk pc [.slice (some ⟨bn,0,none⟩) n n,.map (some m)] 182,blk bn (C5 (Hg C C0 s) n) 3] h
theorem Sep.un{w:World}{C0:Nat->Nat}{l s:List IE}(H:Sep z (unA i j e m n C C0 l s::Γ) w):((∀p∈s,p∈l)/\(s.map λp:IE=>p.2.2).Nodup)/\Sep z (YtkblhjdljaoghaaGreatDoor.blk i [Y j] 75::YtkblhjdljaoghaaGreatDoor.blk j [.slice (some ⟨e,0,none⟩) n n,.map (some m)] 182::YtkblhjdljaoghaaGreatDoor.blk e (C5 (Hg C C0 s) n) 3::Γ) w:=by
 obtain ⟨_,hp,a⟩:=H.into (σ:=Unit) (p:=λ_=>(∀p∈s,p∈l)/\(s.map λp:IE=>p.2.2).Nodup) (As:=λ_=>[YtkblhjdljaoghaaGreatDoor.blk i [Y j] 75,YtkblhjdljaoghaaGreatDoor.blk j [.slice (some ⟨e,0,none⟩) n n,.map (some m)] 182,YtkblhjdljaoghaaGreatDoor.blk e (C5 (Hg C C0 s) n) 3]) (λh q=>⟨(),q.1,q.2⟩);exact ⟨hp,a⟩
theorem Sep.toUn{w:World}{C0:Nat->Nat}{l s:List IE}(H:Sep z (YtkblhjdljaoghaaGreatDoor.blk i [Y j] 75::YtkblhjdljaoghaaGreatDoor.blk j [.slice (some ⟨e,0,none⟩) n n,.map (some m)] 182::YtkblhjdljaoghaaGreatDoor.blk e (C5 (Hg C C0 s) n) 3::Γ) w)(a:(∀p∈s,p∈l)/\(s.map λp:IE=>p.2.2).Nodup):Sep z (unA i j e m n C C0 l s::Γ) w:=
 H.made 3 (A:=unA i j e m n C C0 l s) (λh q=>⟨a,q⟩)
theorem Sep.permut{w:World}{Γ':List Ai}(p:Γ.Perm Γ'):∀Δ:List Ai,Sep z (Δ++Γ) w->Sep z (Δ++Γ') w:=by
 induction p with
 | nil=>exact λ_ H=>H
 | cons a _ ih=>
  intro Δ H;have:=ih (Δ++[a]) (by rw[Aek];exact H);rw[Aek] at this;exact this
 | swap a b l=>
  intro Δ H;have c:Sep z (b::a::(l++Δ)) w:=H.swap;have d:Sep z ((a::b::l)++Δ) w:=c.pick 2 [1,0] Z;exact d.swap
 | trans _ _ ih1 ih2=>exact λΔ H=>ih2 Δ (ih1 Δ H)
theorem VC{w:World}{B C:Ai}(H:Sep z (A::B::C::Γ) w):Sep z ((A::Γ)++[B,C]) w:=
 Sep.permut (Afm A (Af7 (l₁:=[B,C]) (l₂:=Γ))) [] H
theorem YN{w:World}{A2 a B C:Ai}{F:List Ai}(H:Sep z (A::A2::a::(Γ++([B,C]++F))) w):Sep z (A::A2::a::B::C::(Γ++F)) w:=
 Sep.permut (Ahh Γ [B,C] F) [A,A2,a] H
theorem YO{w:World}{B C:Ai}{F:List Ai}(H:Sep z (A::B::C::(Γ++F)) w):Sep z ((A::Γ)++([B,C]++F)) w:=
 Sep.permut (Ahh [B,C] Γ F) [A] H
theorem AbE{w:World}{D B C:Ai}(H:Sep z (D::((A::Γ)++[B,C])) w):Sep z (A::D::B::C::Γ) w:=
 Sep.permut ((AfZ A D _).trans (Afm A (Afm D (Af7 (l₁:=Γ) (l₂:=[B,C]))))) [] H
theorem VD{L:List Int}(b:n<L.length):(L.map I++V).take n++[I t]++(L.map I++V).drop (n+1)=(L.set n t).map I++V:=by
 rw[Aew (by simp;omega),AeW (by simp;omega)];have e:=Afd (l:=L) (i:=n) (a:=t);rw[if_pos b] at e;rw[e];simp[Afr,AfX]
theorem GV(a:l[n]?=some t):(l.map I++V)[n]?=some (I t):=by
 rw[Aep (by simpa using (Aee.1 a).1),Aer,a];rfl
structure CpI(ys:List Int)(n k0 k j:Nat)(L:List Int):Prop where
 k0k:k0<=k
 kj:k+1<=k0+j
 j1:1<=j
 jn:k0+j<=n
 len:L.length=n
 same:∀i,k0+j<=i+1->L[i]?=ys[i]?
 mem:∀x,x∈L.take k↔x∈ys.take (k0+j)
theorem E1(h:l[n]?=some t)(z:Int):z∈l.take (n+1)↔z∈l.take n\/z=t:=by
 rw[AeQ,h];simp
theorem CpI.start{ys:List Int}{k:Nat}{x:Int}(d:ys.length=n)(f:1<=k)(c:k<n)(b:ys[k]?=some x)(a:ys[k-1]?=some x):CpI ys n k k 1 ys:=by
 refine ⟨Ael _,Ael _,Ael _,by omega,d,λ_ _=>rfl,λz=>?_⟩;rw[E1 b];refine ⟨.inl,λh=>h.elim id λe=>?_⟩;subst e;exact Ahv.2 ⟨k-1,by have:=(Aee.1 a).1;omega,(Aee.1 a).2⟩
theorem CpI.skip{ys L:List Int}{k:Nat}{x:Int}(I_:CpI ys n m k j L)(a:ys[m+j]?=some x)(b:ys[m+(j-1)]?=some x):CpI ys n m k (j+1) L:=by
 have f:=I_.j1;have c:=(Aee.1 a).1;refine ⟨I_.k0k,by have:=I_.kj;omega,by omega,?_,I_.len,λi hi=>I_.same i U,λz=>?_⟩
 ·have hs:=I_.same (m+j) U
  rw[a] at hs;have:=(Aee.1 hs).1;have:=I_.len;omega
 rw[<-Agf,E1 a,I_.mem z];refine ⟨.inl,λh=>h.elim id λe=>?_⟩;subst e;exact Ahv.2 ⟨m+(j-1),by have:=(Aee.1 b).1;omega,(Aee.1 b).2⟩
theorem CpI.put{ys L:List Int}{k:Nat}{x:Int}(I_:CpI ys n m k j L)(a:ys[m+j]?=some x):CpI ys n m (k+1) (j+1) (L.set k x):=by
 have f:=I_.j1;have d:=I_.kj;have b:=I_.len;have hs:=I_.same (m+j) U;rw[a] at hs;have c:=(Aee.1 hs).1;have e:(L.set k x)[k]?=some x:=by rw[Afq];simp;omega
 refine ⟨by have:=I_.k0k;omega,by omega,by omega,by omega,by simpa using I_.len,λi hi=>?_,λz=>?_⟩
 ·rw[Afq,if_neg U];exact I_.same i U
 rw[E1 e,<-Agf,E1 a,<-I_.mem z,List.take_set_of_le (Ael _)]
def Fk(C C0:Nat->Nat)(s:List IE):List Int:=(s.filter λp=>decide (C0 p.1.toNat≠C p.1.toNat)).map λp=>p.1/120
theorem Qq{C0:Nat->Nat}{s:List IE}{p:IE}(a:p.1=(n:Int))(h:(C0 n:Int)≠(C n:Int)):Fk C C0 (s++[p])=Fk C C0 s++[(n:Int)/120]:=by
 unfold Fk;have:decide (C0 n≠C n)=true:=decide_eq_true (λe=>h (by rw[e]));rw[AfQ,AeK];congr 1;simp only[List.filter,a,Ae7,this];simp[a]
theorem VE{C0:Nat->Nat}{s:List IE}{p:IE}(a:p.1=(n:Int))(h:(C0 n:Int)=(C n:Int)):Fk C C0 (s++[p])=Fk C C0 s:=by
 unfold Fk;have:decide (C0 n≠C n)=false:=decide_eq_false (λe=>e U);rw[AfQ,AeK];simp only[List.filter,a,Ae7,this];simp
theorem AbF(C C0:Nat->Nat)(s:List IE):(Fk C C0 s).length<=s.length:=by unfold Fk;rw[Aei];exact AfW _ _
theorem YP{C0:Nat->Nat}{l s:List IE}(W:WasOk C C0 n l m)(hs:s.Perm l)(x:Int):x∈Fk C C0 s↔∃k:Nat,k<n/\C k≠C0 k/\x=((k/120:Nat):Int):=by
 unfold Fk;simp only[Aen,Afe,decide_eq_true_eq];constructor
 ·rintro ⟨p,⟨hp,a⟩,rfl⟩
  obtain ⟨k,b,f,_⟩:=W.ent p (hs.mem_iff.1 hp);rw[b,Ae7] at a;exact ⟨k,f,λe=>a e.symm,by rw[b];omega⟩
 rintro ⟨k,d,a,rfl⟩;have:∃p∈l,p.1=(k:Int):=by
  refine Afg λc=>a (W.rest k d λp hp e=>c ⟨p,hp,e⟩)
 obtain ⟨p,hp,b⟩:=this;exact ⟨p,⟨hs.mem_iff.2 hp,by rw[b,Ae7];exact λe=>a e.symm⟩,by rw[b];omega⟩
theorem Xy:Ak 103 [I t] [] (λv G=>v=.bool (decide (16<=t/\t<=1024))/\G=[]):=by
 intro z R w H;refine Ae func103 Z ntmps103 Z (Z0 10 [0] Z (An 5 Z (λa=>?_) (λa=>?_)))
 ·refine Z0 7 [0] Z (Zr Z ?_);exact ⟨_,⟨congrArg Value.bool (by first|(rw[Aez];simp<;>omega)|(simp<;>omega)),Z⟩,H⟩
 refine Zc 7 Z (Zr Z ?_);exact ⟨_,⟨congrArg Value.bool (by first|(rw[Aez];simp<;>omega)|(simp<;>omega)),Z⟩,H⟩
theorem Gf(b:16<=n/\n<=1024):Ak 50 [I (n:Int)] [] (λv G=>v=I (manyN n:Int)/\G=[]):=by
 intro z R w H;refine Ae func50 Z ntmps50 Z (Zc 9 Z (z_E_ Z (call103 _) (Xy) H ?_));intro w H;refine Ad Z (AG Z Z) (Zc 2 Z (Af Z (λa=>U) (λa=>?_)));refine Z1 12 [] [(n:Int)+120,((n:Int)+120)-1,(((n:Int)+120)-1)/120] Z U (Zr Z ?_);exact ⟨_,⟨congrArg I (by unfold manyN;omega),Z⟩,H⟩
theorem Tv(h:16<=n/\n<=1024):Ak 49 [I (n:Int)] [] (λv G=>∃b a m:Nat,v=.tuple #[Y b,I 0]/\G=[coB b a n m,Ch a (λ_=>0) n,AJ m [] 0]):=by
 intro z R w H;refine Ae func49 Z ntmps49 Z (Zc 10 Z (z_E_ Z (call103 _) (Xy) H ?_));intro w H;refine Ad Z (AG Z Z) (Zc 2 Z (Af Z (λc=>U) (λc=>?_)));refine Zc 5 Z (AU Z (En (k:=n) H Z J BC Z Z Z U) ?_);rintro _ w ⟨g,rfl,H⟩;refine AU Z (F9 H Z) ?_;rintro _ w ⟨e,rfl,H⟩;refine Za 1 [] H Z ?_;intro d w H;refine Zc 5 Z (Zr Z ?_);have f:List.replicate n (I 0)=C5 (λ_=>0) n:=by
   unfold C5;rw[List.map_const',List.length_range];rfl
 rw[f] at H;exact ⟨_,⟨d,g,e,Z,Z⟩,H.perm 3 [0,2,1] Z Z⟩
theorem FB(hp:e<n)(c:16<=n/\n<=1024):Ak 111 [Y i,I (e:Int)] [coB i j n m,Ch j C n] (λv G=>v=I (C e:Int)/\G=[coB i j n m,Ch j C n]):=by
 intro z R w H;refine Ae func111 Z ntmps111 Z (Z0 11 [0] Z (An 7 Z (λa=>U) (λa=>?_)));refine Z2 10 [0,0,0,0] H Z (Af Z (λb=>U) (λb=>?_));refine Z3 10 [0,0,0,1,e,e] [] H Z U (Ad Z (Bn Z Z J (AB (H.cel 1 Z e (cnL_at _ U)))) (Zc 4 Z (Zr Z ?_)));exact ⟨_,⟨Z,Z⟩,H⟩
theorem I2(C0:Nat->Nat){l:List IE}(p x:Nat)(hp:p<n)(hn:16<=n/\n<=1024)(hx:(C p:Int)+t=x)(f:x<=1000)(y:C p<=1000)(W:WasOk C C0 n l g):Ak 51 [Y i,I (p:Int),I t] [coB i j n m,Ch j C n,AJ m l g] (λv G=>∃(c:List IE) (a:Nat),WasOk (updN C p x) C0 n c a/\v=I 0/\G=[coB i j n m,Ch j (updN C p x) n,AJ m c a]):=by
 intro z R w H;replace H:=H.l3;refine Ae func51 Z ntmps51 Z (Z0 11 [0] Z (An 11 Z (λd=>U) (λd=>?_)));refine Z2 10 [0,0,0,0] H Z (Af Z (λh=>U) (λh=>?_));refine Z3 12 [0,0,0,1,p,p] [] H Z U (Ad Z (Bn Z Z J (AB (H.cel 1 Z p (cnL_at _ U)))) (Z1 3 [0] [1000-(C p:Int)] Z U (An 30 Z (λq=>U) (λq=>?_))));refine Z3 7 [0,0,0,1,p,p] [] H Z U (Ad Z (Bn Z Z J (AB (H.cel 1 Z p (cnL_at _ U)))) (Ad Z (PN Z Z (r:= -(C p:Int)) U U) (Z0 4 [0] Z (Af Z (λk=>U) (λk=>?_)))));refine Z2 10 [1,0,0] H Z (Ad Z (DK (e:=3) (zv:=I 0) Z J J Z Z (AB (H.bk 2 Z))) (Zc 13 Z (Eq Z (λb=>?_) (λb=>?_))))
 ·have u:CR l (p:Int)=false:=by simpa using b
  refine BJ 12 J J (A4 H λw o=>?_);have H:=o.l3;refine ER 11 [1,0,0,0,0,0,1,p,p] [] H Z J U (Cd Z Z Z (Bn Z Z J (AB (H.cel 1 Z p (cnL_at _ U)))) (CG (gw (AC Z Z (DP 2 (e:=3) H Z Z J Z Z Z) ?_))));rintro w H;replace H:=H.l3;refine Z3 10 [0,0,0,1,p,p] [] H Z U (Ad Z (Bn Z Z J (AB (H.cel 1 Z p (cnL_at _ U)))) (Z1 3 [1,p,p] [(x:Int)] Z U (AC Z Z (Am 1 H Z Z Z Z (vs:=[I (x:Int)]) Z (Ab Z Aw) J (by simp only[CX,Aej,AeE];omega) (out:=C5 (updN C p x) n) (Jy U Z)) ?_)));rintro w H;replace H:=H.l3;refine Zc 8 Z (Zr Z ?_);exact ⟨_,⟨_,_,W.put hp u x,Z,Z⟩,H⟩
 have s:CR l (p:Int)=true:=by simpa using b
 refine Z3 10 [0,0,0,1,p,p] [] H Z U (Ad Z (Bn Z Z J (AB (H.cel 1 Z p (cnL_at _ U)))) (Z1 3 [1,p,p] [(x:Int)] Z U (AC Z Z (Am 1 H Z Z Z Z (vs:=[I (x:Int)]) Z (Ab Z Aw) J (by simp only[CX,Aej,AeE];omega) (out:=C5 (updN C p x) n) (Jy U Z)) ?_)));rintro w H;replace H:=H.l3;refine Zc 8 Z (Zr Z ?_);exact ⟨_,⟨_,_,W.has s x,Z,Z⟩,H⟩
theorem Tw{l:List IE}:Ak 182 [Y i] [coB i j n m,AJ m l g] (λv G=>v=.tuple #[]/\G=[coB i j n m,AJ m [] g]):=by
 intro z R w H;refine Ae func182 Z ntmps182 Z (Z2 5 [1,0,0] H Z (KK Z Z (Jo 1 (e:=3) H Z Z J Z) ?_));rintro _ w ⟨rfl,H⟩;refine Zc 1 Z (Zf Z ?_);exact ⟨_,⟨Z,Z⟩,H⟩
theorem Qr(i:Nat)(hi:i<manyN n)(o:16<=n/\n<=1024)(f:∀k,C k<=1000):Ak 52 [Y j,I (i:Int)] [coB j e n m,Ch e C n] (λv G=>∃a:Nat,v=.slice (some ⟨a,0,none⟩) 240 240/\G=[blk a (Bb (AL (Lg (Ew C n i))) ((2*120:Nat):Int)) 173,coB j e n m,Ch e C n]):=by
 intro z R w H;have b:120*i<n:=by unfold manyN at hi;omega
 refine Ae func52 Z ntmps52 Z (Z0 11 [0] Z (An 10 Z (λd=>U) (λd=>?_)));refine Z2 6 [0,0,0] H Z (z_E_ Z (call50 _) (Gf U) H ?_);intro w H;refine Z0 4 [0] Z (Af Z (λg=>U) (λg=>?_));refine Zc 4 Z (AU Z (En (k:=120) H Z J BC Z Z Z U) ?_);rintro _ w ⟨r,rfl,H⟩;refine Z3 12 [0,1,0] [(i:Int)*120] H Z U (Ad Z (BM Z (z:=1) (p:=(120*i)) (q:=n) (o':=120*i) (l':=(n-120*i)) (c':=(n-120*i)) J Z (.inr ⟨_,_,_,Z,Z,U⟩) (.inl ⟨Z,Z⟩) U U U U U U) (AU Z (XR 0 H Z Z J Z Z (m:=(n-120*i)) (news:=((C5 C n).drop (120*i))) (.inl (H.rv 2 (·.rd U U (by rw[CX];omega) (by rw[AeS];exact Aem (by rw[AeP,CX];omega))))) (λc l=>YK C n c (Afw l)) (by rw[Afl];omega) (k:=(min (n-120*i) 120)) Z (out:=((Ew C n i).map I)) (Vx C n i b)) ?_));rintro _ w ⟨rfl,H⟩;refine Zc 5 Z (Au Z (call104 _) (PC (Ew C n i) (Jz _ _ _) (Tu f) (λh q=>q.rd U U (by simp[Ew]) (by rw[Aey];exact Aem (by simp[Ew])))) H ?_);rintro _ w _ ⟨a,rfl,rfl⟩ H;refine Zc 14 Z (Zr Z ?_);exact ⟨_,⟨a,Z,Z⟩,H.perm 4 [0,2,3] Z Z⟩
theorem YQ{p:Nat}{clk:Nat}(i:Nat)(hi:i<manyN n)(hn:16<=n/\n<=1024){b o c:Nat}(hA:∀h,A h->rdH 1 (.slice (some ⟨b,o,none⟩) 240 c) 240 (B.map u8) h)(ns:List Int)(a1:ns.length=120)(d:∀x∈ns,0<=x/\x<=1000)(a0:B=Lg ns)(hz:∀(k:Nat) (x:Int),ns[k]?=some x->n<=120*i+k->x=0):Ak 110 [Y g,I (i:Int),.slice (some ⟨b,o,none⟩) 240 c] [coB g p n m,Ch p C n,AJ m ([]) clk,A] (λv G=>v=I 0/\G=[coB g p n m,Ch p (HQ C i ns 120) n,AJ m [] clk,A]):=by
 intro z R w H;replace H:=H.l4;have a4:120*i<n:=by unfold manyN at hi;omega
 refine Ae func110 Z ntmps110 Z (Z0 11 [0] Z (An 16 Z (λh1=>U) (λh1=>?_)));refine Z2 6 [0,0,0] H Z (z_E_ Z (call50 _) (Gf U) H ?_);intro w H;refine Z0 4 [0] Z (Af Z (λh2=>U) (λh2=>?_));refine Zc 5 Z (Au Z (call162 _) (PD B hA ns a1 d a0) H.f3 ?_);rintro _ w _ ⟨v1,rfl,rfl⟩ H;refine Zc 19 Z ?_;have a2:=H.sy 0 (·.slc);obtain ⟨f,a,rfl⟩:=a2;refine Zc 7 Z ?_;refine AF (σ:=Nat) (λj=>[(35,I (j:Int)),(0,Y g),(1,I (i:Int)),(7,.slice f 120 a),(33,.slice f 120 a),(34,I 120)])
   (λj w=>Sep z (grow 3 1 (.slice f 120 a) 120 (ns.map I)::A::coB g p n m::Ch p C n::AJ m ([]) clk::R) w/\(j<=120)) (λj=>120-j) 0
   fr_z ⟨H,by omega⟩ ?_
 clear H;rintro j w ⟨H',t⟩;have H:=H'.l5;have hj:=t;clear t;refine Z0 6 [0] Z (Af Z (λh3=>?_) (λh3=>?_))
 ·obtain ⟨x,s⟩:∃x,ns[j]?=some x:=⟨_,Aef U⟩;have y:=d x (Aeg s)
  refine Zc 7 Z ?_;have l:=(H.rv 0 (·.rd)).at (j:=j) (u:=I x) (by simp[s]);refine Ad Z (Aj Z (z:=1) (j:=j) (r:=j) J Z Z Z U l U) (Ad Z (Ax Z Z J (AB l)) (Z0 9 [0] Z (An 42 Z (λh4=>U) (λh4=>?_))));refine Z0 3 [0] Z (An 45 Z (λh5=>?_) (λh5=>?_))
  ·refine Z3 14 [0,2,0,0] [(i:Int)*120,((i:Int)*120)+(j:Int)] H Z U (Af Z (λh6=>?_) (λh6=>?_))
   ·(exfalso;have:=hz j x s;omega)
   refine Z1 7 [] [(j:Int)+1] Z U (gf ?_);intro _ q;refine ⟨(j+1),q.cz,⟨H,?_⟩,?_⟩
   ·omega
   omega
  refine Z1 22 [] [(j:Int)+1] Z U (gf ?_);intro _ q;refine ⟨(j+1),q.cz,⟨H,?_⟩,?_⟩
  ·omega
  omega
 obtain rfl:j=120:=by omega
 refine Zc 2 Z (gx (Zc 11 Z ?_));refine AF (σ:=Nat) (λj=>[(61,I (j:Int)),(0,Y g),(1,I (i:Int)),(59,.slice f 120 a),(60,I 120)])
   (λj w=>Sep z (grow 3 1 (.slice f 120 a) 120 (ns.map I)::A::coB g p n m::Ch p (HQ C i ns j) n::AJ m ([]) clk::R) w/\(j<=120)) (λj=>120-j) 0
   fr_z ⟨(by rw[Vy];exact H),by omega⟩ ?_
 clear H;rintro j w ⟨H',t⟩;have H:=H'.l5;have hj:=t;clear t;refine Z0 6 [0] Z (Af Z (λh7=>?_) (λh7=>?_))
 ·obtain ⟨x,s⟩:∃x,ns[j]?=some x:=⟨_,Aef U⟩;have y:=d x (Aeg s)
  refine Zc 7 Z ?_;have l:=(H.rv 0 (·.rd)).at (j:=j) (u:=I x) (by simp[s]);refine Ad Z (Aj Z (z:=1) (j:=j) (r:=j) J Z Z Z U l U) (Ad Z (Ax Z Z J (AB l)) (Z3 24 [0,2,0,0] [(i:Int)*120,((i:Int)*120)+(j:Int)] H Z U (Af Z (λh8=>?_) (λh8=>?_))))
  ·refine Z3 9 [0,2,0,1,(120*i+j),120*i+j] [] H Z U (AC Z Z (Am 3 H Z Z Z Z (vs:=[I x]) Z (Ab Z Aw) J (by simp only[CX,Aej,AeE];omega) (out:=C5 (HQ C i ns (j+1)) n) ((Jy (x:=x.toNat) U U).trans (by rw[Vz C U s y.1]))) ?_);rintro w H;replace H:=H.l5;refine Z2 8 [1,2,0] H Z (KK Z Z (ND 4 (e:=3) H Z Z J Z Z) ?_);rintro _ w ⟨rfl,H⟩;replace H:=H.l5;refine Z1 7 [] [(j:Int)+1] Z U (gf ?_);intro _ q;refine ⟨(j+1),q.cz,⟨H,?_⟩,?_⟩
   ·omega
   omega
  refine Z1 7 [] [(j:Int)+1] Z U (gf ?_);intro _ q;refine ⟨(j+1),q.cz,⟨(by dsimp only[Ch];rw[<-VA C U U];exact H),?_⟩,?_⟩
  ·omega
  omega
 obtain rfl:j=120:=by omega
 refine Zc 2 Z (gx (Zc 8 Z (Zr Z ?_)));exact ⟨_,⟨Z,Z⟩,H.perm 5 [2,3,4,1] Z Z⟩
theorem VF(g m clk:Nat)(l:List IE)(d:∀p∈l,p.2.2<clk)(n:(l.map λp:IE=>p.2.2).Nodup):Xq prog 242 [Y g] [blk g [.map (some m)] 180,AJ m l clk] (Abv l) [] (RD l):=by
 intro z k J_ o w b;have H:=b.l2;refine J6 (args:=[.func (.yield k) #[] #[],Y g]) func242 Z Z 14 ntmps242 Z ?_;refine CT ?_;refine Cg ?_;refine s_do Z Z Z (Bn Z Z J (AB (H.cel 0 Z 0 Z))) ?_;refine E4 Z Z Z (HK 1 (e:=3) H Z Z J Z) ?_;rintro _ w ⟨i,rfl,b⟩;have H:=b.l3;refine AT ?_;refine Ea ?_;refine LO (σ:=List IE) (λs=>[(0,.func (.yield k) #[] #[]),(5,Y i)])
  (λs w=>Sep z (GM i m clk (s.map λp:IE=>p.2.2)::blk g [.map (some m)] 180::AJ m l clk::J_ s) w/\(True)) (λs=>(Cm l (s.map λp:IE=>p.2.2)).length) ([])
  (λ_ f=>(f.all Z)) ⟨H,trivial⟩ ?_
 clear H;rintro s w ⟨b,q⟩;have H:=b.l3;refine CT ?_;refine Cg ?_;refine E4 Z Z Z (IT 0 2 H Z Z Z Z d) ?_;rintro _ w ⟨j,rfl,a,b⟩;have H:=b.l3;refine s_do Z Z Z (KO Z Z) ?_;refine AT ?_;refine CT ?_;refine Jn Z (λh=>?_) (λh=>?_)
 ·-- yes:j.isSome
  obtain ⟨c,rfl⟩:=Afb.1 h;refine Gw ?_;refine Ea ?_;refine CT ?_;refine Cg ?_;refine s_do Z Z Z (HL (p:=c) Z Z (AB ⟨H.bk 0 Z,H.bk 2 Z⟩) (C8 a).1 n) ?_;refine s_do Z Z Z (Ff Z Z Z) ?_;refine s_do Z Z Z (AQ Z Z) ?_;refine AT ?_;refine CT ?_;refine J5 ?_;refine Es Z Z Z (Ck Z Z) ?_;refine Es Z Z Z (Ck Z Z) ?_;replace H:=H.f2.f2;refine LQ Z Z Z Z Z Z (o s _ (s++[c]) [GM i m clk ((s.map λp:IE=>p.2.2)++[c.2.2])] ⟨c,a,Z,Z⟩ _ H) ?_;rintro _ w ⟨rfl,b⟩;refine ⟨_,Z,?_⟩;have H:=b.l3;refine Es Z Z Z (Kz Z Z) ?_;refine Rs ?_;refine Iw Z ?_;refine Gw ?_;replace H:=H.f1.f1.f2;intro _ f;refine ⟨(s++[c]),(f.all Z),⟨(by rw[AeK];exact H),?_⟩,?_⟩
  ·trivial
  (have:=EC a;rwa[show (s++[c]).map (λp:IE=>p.2.2)=(s.map λp:IE=>p.2.2)++[c.2.2] from by simp])
 -- no:j.isSome
 obtain rfl:j=none:=by simpa using h
 refine LN ?_;refine IL ?_;exact λ_ f=>⟨f.defers,s,a,H.perm 3 [1,2] Z Z⟩
theorem YR:Ak 214 [.map (some m)] [] (λv G=>∃a:Nat,v=.func (.func 242) #[] #[Y a]/\G=[blk a [.map (some m)] 180]):=by
 intro z R w H;refine Ae func214 Z ntmps214 Z (Za 2 [] H Z ?_);intro b w H;refine Zc 5 Z (Ad Z (C6 Z Z Z) (Zc 4 Z (Zr Z ?_)));exact ⟨_,⟨b,Z,Z⟩,H⟩
theorem YS{C0:Nat->Nat}{l:List IE}{clk:Nat}(W:WasOk C C0 n l clk):Ak 179 [Y i] [coB i g n m,Ch g C n,AJ m l clk] (λv G=>v=.tuple #[]/\G=[coB i g n m,Ch g C0 n,AJ m [] clk]):=by
 intro z R w b;have H:=b.l3;refine NQ func179 Z 25 ntmps179 Z (A6 (AK (E4 Z Z Z (G8 H Z Z (cs:=[Y i]) Z) ?_)));rintro _ w ⟨o,rfl,b⟩;have H:=b.l4;refine AT (A6 (A6 (AK (Gn 4 [0,1,1] (AN (H.blk 0 Z) (AN (H.blk 1 Z) AH)) Z J Z (Fv Z Z Z Z Z (λw=>call214 _ w) (YR) H Z ?_)))));rintro _ w _ ⟨y,rfl,rfl⟩ b;have H:=b.l5;refine AT (FL ?_);replace H:=H.f4.f1.f4.f4.f4;dsimp only[Ch] at H;rw[show C5 C n=C5 (Hg C C0 []) n by rw[YL]] at H;have b:=H.toUn (l:=l) (s:=[]) O;clear H;have H:=VC b;clear b;refine NT (λs=>(unA o i g m n C C0 l s::R)) Z (λu w=>call242 u w) Z (VF y m clk l W.clk W.born) H ?_ ?_
 ·rintro ro s v s2 ⟨p,hp,rfl,rfl⟩ w;obtain ⟨k,f,d,a0⟩:=W.ent p (C8 hp).1;refine Cg (B3 1 Z Z (AT ?_));refine λa hF=>⟨Z,λF w b=>?_⟩
  revert a hF;have H:Sep z (unA o i g m n C C0 l s::(R++([blk y [.map (some m)] 180,AJ m l clk]++F))) w:=b;clear b;obtain ⟨c,b⟩:=H.un;clear H;have H:=YN b;clear b;have H:Sep z (blk o [Y i] 75::coB i g n m::Ch g (Hg C C0 s) n::blk y [.map (some m)] 180::AJ m l clk::(R++F)) w:=H;refine Ea ?_;replace H:=H.f4.f2.f2;refine IS (Sep z (blk o [Y i] 75::coB i g n m::AJ m l clk::(R++F))) 13 Z J (A4 H λw b=>?_);have H:=b.l5;refine Bo [0,1,2,3,4,5,6,7,8,9] [0,0,1,0,1,1] J (λ_ t=>(AN (t.blk 0 Z) (AN (t.blk 1 Z) AH))) (by exact H.pick 5 [0,1,2] Z) Z J Z Z (By 10 J Z Z J J J Z Z Z (FO (e:=3) (zv:=I 0) Z J J Z Z (λ_ t=>t.bk 2 Z)) (H.pick 5 [0,1,2] Z) (AD 19 (v:=I (C0 k:Int)) Z (by rw[Ow W.keys (C8 hp).1,a0];rfl) (By 11 J Z Z J J J Z Z Z (CJ Z (z:=1) (j:=k) (r:=k) J Z Z f d U) (H.pick 5 [0,1,2] Z) (Ay [12] J O (Al (Bl Z Z Z (Am 3 H Z Z Z Z (vs:=[I (C0 k:Int)]) Z (Ab Z Aw) J (by simp only[CX,Aej,AeE];omega) (out:=C5 (Hg C C0 (s++[p])) n) ((Jy (x:=C0 k) d Z).trans (by rw[VB C C0 f]))) ?_))))));rintro w b;have H:=b.l5;refine Ar (λh=>absurd Z h) (AV J ?_);replace H:=H.f2.f4.f4.f4.f4;exact λ_ _=>YO (H.toUn (F6 c hp))
 rintro D0 w s q b;have H:=AbE b;clear b;obtain ⟨c,b⟩:=H.un;clear H;rw[YM W (Hv W.born c q)] at b;have H:Sep z (blk o [Y i] 75::coB i g n m::Ch g C0 n::bk D0 (.deferred (some []))::blk y [.map (some m)] 180::AJ m l clk::R) w:=b;clear b;refine AK (Gn 4 [0,1,1] (AN (H.blk 0 Z) (AN (H.blk 1 Z) AH)) Z J Z (Xg Z Z (Jo 5 (e:=3) H Z Z J Z) ?_));rintro _ w ⟨rfl,b⟩;have H:=b.l6;refine AT ?_;replace H:=H.f3;refine NS H (rs:=[]) Z [] (λ_=>trivial) (v:=.tuple #[]) Z (λw b=>?_);clear H;have H:=b.l5;exact ⟨[coB i g n m,Ch g C0 n,AJ m ([]) clk],⟨Z,Z⟩,H.perm 5 [1,2,4] Z Z⟩
theorem compS_c(v0:Value)(ys:List Int)(d:ys.length<2):Ak 215 [v0] [grow 3 1 v0 ys.length (ys.map I)] (λv G=>∃(b:Value) (zs:List Int) (B:Ai),(zs.length<=ys.length/\(∀x,x∈zs↔x∈ys)/\∀h,B h->rdH 1 b zs.length (zs.map I) h)/\v=b/\G=[B]):=by
 intro z R w H;have a:=H.sy 0 (·.slc);refine Ae func215 Z ntmps215 Z (Zc 9 Z (Ad Z (Ee Z (sz:=1) J Z a) (Z0 3 [0] Z (Af Z (λc=>?_) (λc=>?_)))))
 ·refine Zc 7 Z (Zr Z ?_);exact ⟨_,⟨v0,ys,_,⟨Ael _,λ_=>Ahx,λh q=>q.rd⟩,Z,Z⟩,H⟩
 (exfalso;omega)
theorem compact_c(v0:Value)(ys:List Int)(hl:ys.length=n)(hn:2<=n/\n<=1073741824):Ak 215 [v0] [grow 3 1 v0 n (ys.map I)] (λv G=>∃(v1:Value) (zs:List Int) (B:Ai),(zs.length<=ys.length/\(∀x,x∈zs↔x∈ys)/\∀h,B h->rdH 1 v1 zs.length (zs.map I) h)/\v=v1/\G=[B]):=by
 intro z R w H;obtain ⟨g,c,rest,rfl,c1,c2,c3,H⟩:=H.ungrow 0 Z U;refine Ae func215 Z ntmps215 Z (Z0 13 [0] Z (Af Z (λh1=>U) (λh1=>?_)));refine Zc 9 Z ?_;refine AF (σ:=Nat) (λa=>[(3,I (a:Int)),(0,.slice (some ⟨g,0,none⟩) n c)])
   (λa w=>Sep z (blk g (ys.map I++rest) 3::R) w/\(1<=a/\a<=n)) (λa=>n-a) 1
   fr_z ⟨H,by omega⟩ ?_
 clear H;rintro a w ⟨l,r⟩;have H:=l.l1;have hk:=r;clear r;refine Z0 9 [0] Z (Af Z (λh2=>?_) (λh2=>?_))
 ·obtain ⟨x,d⟩:∃x,ys[a]?=some x:=⟨_,Aef U⟩;obtain ⟨y,e⟩:∃y,ys[a-1]?=some y:=⟨_,Aef U⟩;refine Zc 5 Z (Bu (Sep z _) J J H.drew (Ha 3 [1,a,a] [] Z J U (AM Z Z Z (Bn Z Z J (λ_ m=>m.cel 0 Z a (GV d))) (Ha 4 [1,(a-1),(a-1)] [(a:Int)-1] Z J U (AM Z Z Z (Bn Z Z J (λ_ m=>m.cel 0 Z (a-1) (GV e))) (BS 1 [] Z J (BB (λw l=>?_))))))));have H:=l.l1;refine gn (Zc 1 Z (Af Z (λh3=>?_) (λh3=>?_)))
  ·have o:x=y:=h3
   refine Zc 4 Z (Ad Z (BM Z (z:=1) (p:=a) (q:=n) (o':=a) (l':=n-a) (c':=c-a) J Z (.inr ⟨_,_,_,Z,Z,Z⟩) (.inl ⟨Z,Z⟩) U U U U U U) (Zc 10 Z ?_));refine AF (σ:=Nat×Nat×List Int) (λ⟨k,j,L⟩=>[(3,I (k:Int)),(5,I (j:Int)),(0,.slice (some ⟨g,0,none⟩) n c),(4,.slice (some ⟨g,a,none⟩) (n-a) (c-a)),(10,I (a:Int)),(11,.slice (some ⟨g,0,none⟩) n c),(12,I (n:Int)),(13,.bool (decide ((a:Int)<(n:Int)))),(16,.slice (some ⟨g,0,none⟩) n c),(17,I (a:Int)),(18,.pointer (some ⟨g,a,none⟩)),(19,I x),(20,.slice (some ⟨g,0,none⟩) n c),(21,I (a:Int)),(22,I ((a:Int)-1)),(23,.pointer (some ⟨g,(a-1),none⟩)),(24,I y),(25,.bool (decide ((x:Int)=y))),(26,.slice (some ⟨g,0,none⟩) n c),(27,I (a:Int)),(28,.slice (some ⟨g,a,none⟩) (n-a) (c-a))])
     (λ⟨k,j,L⟩ w=>Sep z (blk g (L.map I++rest) 3::R) w/\(CpI ys n a k j L)) (λ⟨k,j,L⟩=>n-j) ⟨a,1,ys⟩
     (λ_ f=>(f.co Z Z f.cz)) ⟨H,CpI.start hl U U d (by rw[o];exact e)⟩ ?_
   clear H;rintro ⟨k,j,L⟩ w ⟨l,r⟩;dsimp only at r l ⊢;have H:=l.l1;have b:=r;clear r;have a5:=b.kj;have a2:=b.j1;have a1:=b.jn;have a4:=b.len;refine Z0 9 [0] Z (Af Z (λh4=>?_) (λh4=>?_))
   ·obtain ⟨x,d⟩:∃x,ys[a+j]?=some x:=⟨_,Aef U⟩;obtain ⟨y,e⟩:∃y,ys[a+(j-1)]?=some y:=⟨_,Aef (by have:=b.j1;omega)⟩;have i:L[a+j]?=some x:=(b.same _ U).trans d
    have s:L[a+(j-1)]?=some y:=(b.same _ (by have:=b.j1;omega)).trans e;refine Zc 5 Z (Bu (Sep z _) J J H.drew (Ha 3 [1,j,a+j] [] Z J U (AM Z Z Z (Bn Z Z J (λ_ m=>m.cel 0 Z (a+j) (GV i))) (Ha 4 [1,(j-1),a+(j-1)] [(j:Int)-1] Z J U (AM Z Z Z (Bn Z Z J (λ_ m=>m.cel 0 Z (a+(j-1)) (GV s))) (BS 1 [] Z J (BB (λw l=>?_))))))));have H:=l.l1;refine gn (Zc 1 Z (Af Z (λh5=>?_) (λh5=>?_)))
    ·refine Z1 7 [1,j,a+j] [] Z U (Ad Z (Bn Z Z J (AB (H.cel 0 Z (a+j) (GV i)))) (Z1 1 [1,k,k] [] Z U (AC Z Z (Am 0 H Z Z Z Z (vs:=[I x]) Z (by simp[u8,u32,Value.oneCell']) J (by simp only[Aeh,Aei,Aej,AeE];have:=b.len;omega) (out:=((L.set k x).map I++rest)) (VD (by have:=b.len;have:=b.kj;have:=b.jn;omega))) ?_)));rintro w H;refine Z1 14 [] [(k:Int)+1,(j:Int)+1] Z U (gf ?_);intro _ f;refine ⟨⟨k+1,j+1,L.set k x⟩,(f.co Z (by go_num) f.cz),⟨H,?_⟩,?_⟩
     ·exact b.put d
     (dsimp only;omega)
    have o:x=y:=Ahr.1 h5;refine Z1 8 [] [(j:Int)+1] Z U (gf ?_);intro _ f;refine ⟨⟨k,j+1,L⟩,(f.co Z Z f.cz),⟨H,?_⟩,?_⟩
    ·exact b.skip d (by rw[o];exact e)
    (dsimp only;omega)
   have u:a+j=n:=by omega
   refine Zc 2 Z (gx (Zc 6 Z (Ad Z (BM Z (z:=1) (p:=k) (q:=n) (o':=k) (l':=n-k) (c':=c-k) J Z (.inr ⟨_,_,_,Z,Z,Z⟩) (.inl ⟨Z,Z⟩) U U U U U U) (KK Z Z (Vu 0 H Z Z J Z (by have:=b.kj;have:=b.jn;omega) (by simp;have:=b.len;have:=b.kj;have:=b.jn;omega)) ?_))));rintro _ w ⟨rfl,H⟩;refine Zc 6 Z (Ad Z (BM Z (z:=1) (p:=0) (q:=k) (o':=0) (l':=k) (c':=c) J Z (.inl ⟨Z,Z⟩) (.inr ⟨_,_,_,Z,Z,Z⟩) U U U U U U) (Zc 4 Z (Zr Z ?_)));have t:(L.take k).length=k:=by rw[AeA];have:=b.len;have:=b.kj;have:=b.jn;omega
   exact ⟨_,⟨_,L.take k,_,⟨by have:=b.kj;have:=b.jn;omega,λz=>(b.mem z).trans (by rw[Aem U]),λh q=>by rw[t];exact q.rd (by have:=b.kj;have:=b.jn;omega) U (by simp;have:=b.len;have:=b.kj;have:=b.jn;omega) (by rw[Aey,AeS,Aek,AeI (by rw[AeA];simp;have:=b.len;have:=b.kj;have:=b.jn;omega),Aew (by simp;have:=b.len;have:=b.kj;have:=b.jn;omega),Afr])⟩,Z,Z⟩,H.perm 1 [0] Z Z⟩
  refine Z1 8 [] [(a:Int)+1] Z U (gf ?_);intro _ f;refine ⟨(a+1),f.cz,⟨H,?_⟩,?_⟩
  ·omega
  omega
 refine Zc 2 Z (gx (Zc 9 Z (Zr Z ?_)));exact ⟨_,⟨_,ys,_,⟨by omega,λ_=>Ahx,λh q=>by rw[hl];exact q.rd U U (by simp;omega) (by rw[Aey,AeI (by simp;omega)])⟩,Z,Z⟩,H.perm 1 [0] Z Z⟩
theorem AbG(b:l.length<=1073741824):Ak 215 [u] [grow 3 1 u l.length (l.map I)] (λv G=>∃(a:Value) (zs:List Int) (B:Ai),(zs.length<=l.length/\(∀x,x∈zs↔x∈l)/\∀h,B h->rdH 1 a zs.length (zs.map I) h)/\v=a/\G=[B]):=by
 rcases Aeu l.length 2 with h|h
 ·exact compS_c u l h
 exact compact_c u l Z ⟨h,b⟩
theorem Tx(C0:Nat->Nat){l:List IE}(hn:16<=n/\n<=1024)(W:WasOk C C0 n l g):Ak 181 [Y i] [coB i j n m,Ch j C n,AJ m l g] (λv G=>∃(f:Value) (zs:List Int) (B:Ai),(zs.length<=n/\(∀x:Int,x∈zs↔∃k:Nat,k<n/\C k≠C0 k/\x=((k/120:Nat):Int))/\∀h,B h->rdH 1 f zs.length (zs.map I) h)/\v=f/\G=[B,coB i j n m,Ch j C n,AJ m l g]):=by
 intro z R w H;replace H:=H.l3;have b2:=W.len;refine Ae func181 Z ntmps181 Z (Z2 17 [1,0,0] H Z (AU Z (HK 2 (e:=3) H Z Z J Z) ?_));rintro _ w ⟨rr,rfl,H⟩;replace H:=H.l4;refine Zc 1 Z ?_;replace H:=(H.nilg 3 1).l5;refine Zc 2 Z ?_;refine AF (σ:=List IE×Value) (λ⟨s,f⟩=>[(3,f),(0,Y i),(2,.slice none 0 0),(10,Y rr)])
   (λ⟨s,f⟩ w=>Sep z (grow 3 1 f ((Fk C C0 s).length) ((Fk C C0 s).map I)::GM rr m g (s.map λp:IE=>p.2.2)::coB i j n m::Ch j C n::AJ m l g::R) w/\((∀p∈s,p∈l)/\(s.map λp:IE=>p.2.2).Nodup)) (λ⟨s,f⟩=>(Cm l (s.map λp:IE=>p.2.2)).length) ⟨[],.slice none 0 0⟩
   fr_z ⟨H,⟨by simp,by simp⟩⟩ ?_
 clear H;rintro ⟨s,f⟩ w ⟨q,hI⟩;dsimp only at hI q ⊢;have H:=q.l5;have c:=hI;clear hI;have a5:=K8 c;have a9:=AbF C C0 s;refine Zc 2 Z (AU Z (IT 1 4 H Z Z Z Z W.clk) ?_);rintro _ w ⟨qx,rfl,a,H⟩;replace H:=H.l5;refine Ad Z (KO Z Z) (Zc 3 Z (Eq Z (λh1=>?_) (λh1=>?_)))
 ·obtain ⟨b,rfl⟩:=Afb.1 h1;obtain ⟨k,o,b0,a4⟩:=W.ent b (C8 a).1;refine Zc 5 Z (Ad Z (HL (p:=b) Z Z (AB ⟨H.bk 1 Z,H.bk 4 Z⟩) (C8 a).1 W.born) (Zc 2 Z (AD 14 (v:=I (k:Int)) Z (congrArg I o) (AD 15 (v:=I (C0 k:Int)) Z a4 (Z3 13 [0,2,0,1,k,k] [] H Z U (Ad Z (Bn Z Z J (AB (H.cel 3 Z k (cnL_at _ U)))) (Z0 3 [0] Z (Af Z (λh2=>?_) (λh2=>?_)))))))))
  ·have t:(C0 k:Int)≠(C k:Int):=h2
   refine Z1 4 [] [(k:Int)/120] Z U (AU Z (AP H Z J BC Z (by decide) (by decide) (out:=[I ((k:Int)/120)]) J) ?_);rintro _ w ⟨b1,rfl,H⟩;replace H:=H.l6;refine AU Z (AX 1 H Z Z J BC Z Z (H.rv 0 (·.rd U U O Z)) (by simp[Value.oneCell']) U) ?_;rintro v2 w q;have q:Sep z (blk b1 [I ((k:Int)/120)] 3::grow 3 1 v2 ((Fk C C0 s).length+1) ((Fk C C0 s).map I++[I ((k:Int)/120)])::GM rr m g (JR (s.map λp:IE=>p.2.2) (some b))::coB i j n m::Ch j C n::AJ m l g::R) w:=q;have a2:((Fk C C0 s).map I++[I ((k:Int)/120)]:List Value)=(Fk C C0 (s++[b])).map I:=(by rw[Qq o t];simp);rw[a2] at q;rw[show ((Fk C C0 s).length+1:Nat)=(Fk C C0 (s++[b])).length from (by rw[Qq o t];simp)] at q;have H:=q.l6;refine Zc 3 Z ?_;replace H:=H.d;refine gf ?_;intro _ hF;refine ⟨⟨s++[b],v2⟩,(hF.all Z),⟨(by dsimp only;rw[AeK];exact H),?_⟩,?_⟩
   ·exact F6 c a
   (have:=EC a;rwa[show (s++[b]).map (λp:IE=>p.2.2)=(s.map λp:IE=>p.2.2)++[b.2.2] from by simp])
  have a1:(C0 k:Int)=(C k:Int):=Ahr.1 h2;refine Zc 2 Z (gf ?_);intro _ hF;refine ⟨⟨s++[b],f⟩,(hF.all Z),⟨(by dsimp only;rw[AeK,VE o a1];exact H),?_⟩,?_⟩
  ·exact F6 c a
  (have:=EC a;rwa[show (s++[b]).map (λp:IE=>p.2.2)=(s.map λp:IE=>p.2.2)++[b.2.2] from by simp])
 obtain rfl:qx=none:=by simpa using h1
 have u:RD l s:=a;refine Zc 2 Z (gx (Zc 5 Z (Au Z (call199 _) (Tn U) H ?_)));rintro _ w _ ⟨rfl,ys,rfl,rfl⟩ H;refine Zc 5 Z ?_;have a7:((Fk C C0 s).mergeSort (λx y=>decide (x<=y))).length=(Fk C C0 s).length:=List.length_mergeSort _;refine Au Z (call215 _) (AbG U) H ?_;rintro v2 w _ ⟨v3,zs,B,⟨a6,a0,a3⟩,rfl,rfl⟩ H;replace H:=H.l5;refine Zc 4 Z (Zr Z ?_);have r:=λx=>(a0 x).trans (List.mem_mergeSort.trans (YP W (Hv W.born c u) x));exact ⟨_,⟨_,zs,B,⟨by omega,r,a3⟩,Z,Z⟩,H.perm 5 [0,2,3,4] Z Z⟩
theorem Lh(sec:List UInt8)(d:∀h,A h->rdH 1 (.slice (some ⟨i,j,none⟩) 256 e) 256 (sec.map u8) h)(n:Nat)(a:sec=List.replicate 256 0):Ak 129 [Y m,.slice (some ⟨i,j,none⟩) 256 e,I (n:Int)] [tblA m,A] (λv G=>v=.tuple #[.agg #[I 0,.slice none 0 0],.bool true]/\G=[tblA m,A]):=by
 intro z R w H;have b:=H.sy 1 (λq=>(d _ q).len);refine Ae func129 Z ntmps129 Z (Za 2 [] H Z ?_);intro f w H;refine Zc 10 Z (AU Z (En (k:=256) H Z J CM Z Z Z U) ?_);rintro _ w ⟨g,rfl,H⟩;refine z_E_ Z (call175 _) (Xv sec (List.replicate 256 0) (λh q=>by rw[b];exact d h q) (λh q=>by rw[Afl,Ahi];exact q.rd U U O Z)) H.f3 ?_;intro w H;refine Zc 3 Z (Af Z (λc=>?_) (λc=>?_))
 ·refine Z4 8 [2] H Z ?_;intro w H;refine Zl [2,2] H Z ?_;exact ⟨_,⟨Z,Z⟩,H.perm 4 [3,0] Z Z⟩
 exact absurd a c
theorem MM(sec:List UInt8)(b:∀h,A h->rdH 1 (.slice (some ⟨j,e,none⟩) 256 r) 256 (sec.map u8) h)(n:Nat)(p:Pg)(hp:p.Ok)(t:n<=1023)(a:sec=Ej n p):Ak 129 [Y i,.slice (some ⟨j,e,none⟩) 256 r,I (n:Int)] [tblA i,A] (λv G=>∃o,v=.tuple #[.agg #[I p.kind,o],.bool true]/\G=[grow 5 1 o 240 (p.body.map u8),tblA i,A]):=by
 intro z R w H;replace H:=H.l2;have c:=H.sy 1 (λq=>(b _ q).len);have a0:=H.sy 1 (λq=>(b _ q).cap);obtain ⟨c0,c1,c2,c3,hd⟩:=Oc c;have y:=hp.1;refine Ae func129 Z ntmps129 Z (Za 2 [] H Z ?_);intro b1 w H;refine Zc 10 Z (AU Z (En (k:=256) H Z J CM Z Z Z U) ?_);rintro _ w ⟨b2,rfl,H⟩;replace H:=H.l4;refine z_E_ Z (call175 _) (Xv sec (List.replicate 256 0) (λh q=>by rw[c];exact b h q) (λh q=>by rw[Afl,Ahi];exact q.rd U U O Z)) H.f3 ?_;intro w H;refine Zc 3 Z (Af Z (λl=>?_) (λl=>?_))
 ·exact absurd (a.symm.trans l) (PA hp)
 refine Zc 6 Z (Au Z (call176 _) (LW sec b) H.f3 ?_);rintro _ w _ (⟨d,rfl,rfl⟩|⟨d,rfl,rfl⟩) x
 ·have H:=x.l4;refine Za 3 [] H Z ?_;intro b3 w H;refine Z4 16 [0] H Z ?_;intro w H;refine z_E_ Z (call164 _) (CB 1 j (e+4) 248 (r-4) ((sec.drop 4).take 248) (λh q=>(b h q).cut (lo:=4) (m:=248) (c':=(r-4)) U U U) U U ((sec.drop 4).take 1) (by rw[AeG,AeH U]) (e+5) 247 (r-5) U U U) H.f2.f1 ?_;intro w H;replace H:=H.l5;refine AD 28 (v:=I p.kind) Z (congrArg I (by rw[a];exact YB hp)) (Za 1 [] H Z ?_);intro b4 w H;refine Z4 10 [0,0,0,0,0] H Z ?_;intro w H;refine An 33 Z (λh2=>U) (λh2=>?_)
  refine Z2 5 [0,0,0,0] H Z (An 38 Z (λh3=>U) (λh3=>?_));refine Zc 1 Z (z_E_ Z (call98 _) (CY) H ?_);intro w H;replace H:=H.l6;refine Ad Z (AG Z Z) (Zc 2 Z (An 43 Z (λu=>U) (λu=>?_)));refine z_E_ Z (call164 _) (CB 4 j (e+5) 247 (r-5) ((sec.drop 5).take 247) (λh q=>(b h q).cut (lo:=5) (m:=247) (c':=(r-5)) U U U) U U ((sec.drop 5).take 4) (by rw[AeG,AeH U]) (e+9) 243 (r-9) U U U) H.f2.f2 ?_;intro w H;replace H:=H.l6;refine AD 44 (v:=I (n:Int)) Z (congrArg I (by rw[a];exact Abx hp t)) (Z0 4 [0] Z (An 48 Z (λs=>?_) (λs=>?_)))
  ·exact absurd Z s
  refine z_E_ Z (call164 _) (CB 3 j (e+9) 243 (r-9) ((sec.drop 9).take 243) (λh q=>(b h q).cut (lo:=9) (m:=243) (c':=(r-9)) U U U) U U ((sec.drop 9).take 3) (by rw[AeG,AeH U]) (e+12) 240 (r-12) U U U) H ?_;intro w H;replace H:=H.l6;refine AD 49 (v:=I 0) Z (congrArg I (by rw[a];exact RF hp)) (Z2 11 [4,0,0,0] H Z (Au Z (call150 _) (Jv 240 p.body ((λh q=>by have:=(b h q).cut (lo:=12) (m:=240) (c':=r-12) U U U;rw[a,YC hp] at this;exact this)) U) H.f1 ?_));rintro _ w _ ⟨g,f,rest,rfl,⟨cg,cc,cl⟩,rfl⟩ H;refine Z4 12 [1,3,3,2,6] H Z ?_;intro w H;refine Zl [6,2] H Z ?_;replace H:=(H.mono 0 (B:=grow 5 1 (.slice (some ⟨g,0,none⟩) 240 f) 240 (p.body.map u8)) Z (λh q=>q.grow U U (by simp[hp.2];omega) (by rw[AeS,Aew (by simp[hp.2])];exact Aem (by simp[hp.2])))).l7;exact ⟨_,⟨_,Z,Z⟩,H.perm 7 [0,4,1] Z Z⟩
 exact absurd (a▸Abw hp) d
def MN(D:Dsk)(S:List IE):Dsk:= {D with dur:=λi=>if (i:Int)∈S.map (λp:IE=>p.1) then D.cont i else D.dur i}
theorem JA{es:List Ent}{e:Ent}(b:e∈es)(hs:seps (es.map Ent.row) h):rdH 1 e.v e.pvs.length e.pvs h:=by
 obtain ⟨i,hi⟩:=Ae5 b;obtain ⟨h',c,a⟩:=FQ hs (i:=i) (A:=e.row) (by rw[Aer,hi];rfl);exact (grow.rd c).le a
theorem YT :MN D []=D:=by simp[MN]
theorem YU{q:List UInt8}{b:Nat->List UInt8}(e:B.length=n*256)(hq:q.length=256)(d:m<n)(c:∀i,i<n->(B.drop (i*256)).take 256=b i):
  (B.take (m*256)++q++B.drop (m*256+256)).length=n*256/\∀i,i<n->((B.take (m*256)++q++B.drop (m*256+256)).drop (i*256)).take 256=if i=m then q else b i:=by
 have a:(B.take (m*256)).length=m*256:=by rw[AeA];omega
 refine ⟨by simp only[Aeh,AeP,a];omega,λi hi=>?_⟩;rcases AfL i m with h|h|h
 ·rw[if_neg U,<-c i hi,Aek,AeW (by rw[a];omega),Aew (by rw[AeP,a];omega),AfY,AeG,AeH U]
 ·subst h
  rw[if_pos Z,Aek,Ae9,AeN U,AeT,a,AgG,Aey,Ag1,Aem U,hq];simp
 rw[if_neg U,<-c i hi,Ae9,AeN (by rw[Aeh,a];omega),AeT,Aeh,a,hq,AhJ];congr 2;omega
theorem VG{S:List IE}{es:List Ent}{hq:Hp}(d:D.Ok)(a:(MN D S).In B es m hq){p:IE}{k:Nat}(hp:p.1=(k:Int))(b:k<D.n):(MN D (S++[p])).In (B.take (k*256)++D.cont k++B.drop (k*256+256)) es m hq:=by
 have c:=YU (q:=D.cont k) a.len (Dsk.cont_len d b) b a.own;refine ⟨c.1,λi hi=>?_,a.ent,a.all,a.nodup,a.born,a.clk⟩;rw[c.2 i hi];show _=(if (i:Int)∈(S++[p]).map (λp:IE=>p.1) then D.cont i else D.dur i);show (if i=k then D.cont k else (if (i:Int)∈S.map (λp:IE=>p.1) then D.cont i else D.dur i))=_;simp only[AeK,AeM,AfB,Aes,Afv,hp];by_cases h:i=k
 ·subst h;rw[if_pos Z,if_pos (.inr Z)]
 rw[if_neg h];have:¬((i:Int)=(k:Int)):=by omega
 simp only[this,or_false]
theorem YV{S:List IE}{es:List Ent}{hq:Hp}(b:(MN D S).In B es m hq)(o:Cm (es.map Ent.ie) (S.map λp:IE=>p.2.2)=[])(l:∀p∈S,p∈es.map Ent.ie):Dsk.In {D with dur:=D.cont,ver:=λ_=>[]} B [] m hq:=by
 have key:∀i,i<D.n->(MN D S).dur i=D.cont i:=λi hi=>by
  simp only[MN];split
  ·rfl
  rename_i j;by_cases hv:D.ver i=[]
  ·exact (J4 hv).symm
  obtain ⟨e,a,s⟩:=b.all i hi hv;exfalso;have k:e.ie∈es.map Ent.ie:=AeD a;by_cases q:e.born∈S.map λp:IE=>p.2.2
  ·obtain ⟨p,hp,g⟩:=Aen.1 q
   obtain ⟨r,d,rfl⟩:=Aen.1 (l p hp);obtain ⟨t,f⟩:=Ae5 a;obtain ⟨u,c⟩:=Ae5 d;have:=Ga b.born f c g.symm;subst this;rw[f] at c;cases c;exact j (Aen.2 ⟨_,hp,by show (e.key:Int)=i;omega⟩)
  have:e.ie∈Cm (es.map Ent.ie) (S.map λp:IE=>p.2.2):=by
   simp only[Cm,Afe];exact ⟨k,by simpa [Ent.ie] using q⟩
  rw[o] at this;cases this
 exact ⟨b.len,λi hi=>(b.own i hi).trans (key i hi),λe a=>(by cases a),λi hi h=>absurd Z h,by simp,by simp,λe a=>(by cases a)⟩
theorem Add(a:D.Ok){f:Nat->List UInt8}(j:∀i,i<D.n->(f i).length=256){e:Int}{d:Bool}(g:0<=t/\t<=1099511627776)(c:0<=s/\s<=1099511627776)(b:0<=q/\q<=1099511627776)(h:0<=e/\e<=1099511627776):Dsk.Ok ⟨D.n,f,λ_=>[],t,s,q,d,e⟩:=
 ⟨a.n1,a.n2,j,λi hi p hp=>(by cases hp),g,c,b,h⟩
set_option maxHeartbeats 1000000 in
theorem HR {pd:Nat}:Ak 91 [Y pd] [diskA pd D] (λv G=>((D.f3=1\/(D.cut=true/\D.left=0))/\v=I 12/\G=[diskA pd {D with f3:=Bm D.f3}])\/(¬(D.f3=1\/(D.cut=true/\D.left=0))/\v=I 0/\G=[diskA pd D.fl])):=by
 intro z R w H;replace H:=H.l1;obtain ⟨bd,m,f0,bs,es,clk,hq,c,o,H'⟩:=H.disk;clear H;have c0:=c.n1;have b5:=c.n2;have b8:=c.f3;have b7:=c.left;have H:=H'.l5;have a0:∀p∈es.map Ent.ie,p.2.2<clk:=λp hp=>by obtain ⟨e,he,rfl⟩:=Aen.1 hp;exact o.clk e he
 have b0:(es.map Ent.ie).map (λp:IE=>p.2.2)=es.map Ent.born:=by rw[Afp];rfl
 have hn:((es.map Ent.ie).map λp:IE=>p.2.2).Nodup:=by rw[b0];exact o.born
 refine Ae func91 Z ntmps91 Z (Zc 9 Z (z_E_ Z (call147 _) (UO U) H ?_));intro w H;refine Zc 1 Z (An 7 Z (λh1=>?_) (λh1=>?_))
 ·refine Zc 12 Z (Zr Z ?_);replace H:=(Sep.toDisk (D:= {D with f3:=Bm D.f3}) (pd:=pd) (bd:=bd) (m:=m) (f0:=f0) (bs:=bs) (es:=es) (clk:=clk) (hq:=hq) (Γ:=R) H (c.f c.f1 c.f2 (Fh c.f3) c.left) (o.f _ _ _ _ _)).l1
  exact ⟨_,.inl ⟨by simp_all,Z,Z⟩,H⟩
 refine Zc 1 Z (z_E_ Z (call148 _) (SP) H ?_);intro w H;refine Zc 3 Z (Eq Z (λh2=>?_) (λh2=>?_))
 ·refine Zc 6 Z (Zr Z ?_);replace H:=(Sep.toDisk (D:= {D with f3:=Bm D.f3}) (pd:=pd) (bd:=bd) (m:=m) (f0:=f0) (bs:=bs) (es:=es) (clk:=clk) (hq:=hq) (Γ:=R) H (c.f c.f1 c.f2 (Fh c.f3) c.left) (o.f _ _ _ _ _)).l1
  exact ⟨_,.inl ⟨by simp_all,Z,Z⟩,H⟩
 refine Z2 9 [1,0,0] H Z (AU Z (HK 2 (e:=224) H Z Z J Z) ?_);rintro _ w ⟨rr,rfl,H⟩;replace H:=H.l6;refine Zc 3 Z ?_;refine AF (σ:=List IE×List UInt8) (λ⟨S,b⟩=>[(0,Y pd),(2,I 0),(15,Y rr)])
   (λ⟨S,b⟩ w=>Sep z (GM rr m clk (S.map λp:IE=>p.2.2)::blk pd [.slice (some ⟨bd,0,none⟩) (D.n*256) (D.n*256),.map (some m),I f0,I D.f1,I D.f2,I (if D.f3=0 then 0 else D.f3-1),.bool D.cut,I D.left] 103::blk bd (b.map u8) 5::AJ m (es.map Ent.ie) clk::poolA hq::seps (es.map Ent.row)::R) w/\((∀p∈S,p∈es.map Ent.ie)/\(MN D S).In b es clk hq)) (λ⟨S,b⟩=>(Cm (es.map Ent.ie) (S.map λp:IE=>p.2.2)).length) ⟨[],bs⟩
   (λ_ hF=>(hF.all Z)) ⟨H,λp hp=>absurd hp O,by rw[YT];exact o⟩ ?_
 clear H;rintro ⟨S,b⟩ w ⟨H',hI⟩;dsimp only at hI H' ⊢;have H:=H'.l6;obtain ⟨hS,g⟩:=hI;refine Zc 2 Z (AU Z (IT 0 3 H Z Z Z Z a0) ?_);rintro _ w ⟨qx,rfl,x,H⟩;replace H:=H.l6;refine Ad Z (KO Z Z) (Zc 3 Z (Eq Z (λh3=>?_) (λh3=>?_)))
 ·obtain ⟨p1,rfl⟩:=Afb.1 h3;refine Zc 5 Z ?_;obtain ⟨⟨l,ve,a,ps,bo⟩,d,rfl⟩:=Aen.1 (C8 x).1;obtain ⟨a7,y,u,a3,a5⟩:=g.ent _ d;obtain ⟨ao,cc,a1⟩:=H.sy 5 (λq=>(JA d q).slc);dsimp only at a1 a7 y u a3 a5
  subst a1;have a4:=H.rv 5 (λq=>JA d q);have a9:=H.sy 5 (λq=>(JA d q).small);dsimp only at a9;have b3:0<a.length:=by rw[u];exact Ahf.2 a3
  have a2:l<D.n:=a7;obtain ⟨pv,s⟩:∃pv,a[a.length-1]?=some pv:=⟨_,Aef U⟩;obtain ⟨p,hp⟩:∃p,ps[a.length-1]?=some p:=⟨_,Aef U⟩;have b2:D.cont l=p:=MD (n:=a.length) (by rw[u,y];rfl) (by rw[show D.ver l=ps from y.symm];exact hp);obtain ⟨t,a6⟩:=a5 _ _ _ s hp;have b1:=a4.at s;refine Ad Z (HL (p:=(Ent.ie ⟨l,.slice ao a.length cc,a,ps,bo⟩)) Z Z (AB ⟨H.bk 0 Z,H.bk 3 Z⟩) (AeD d) hn) (Zc 6 Z (Bf (Sep z (GM rr m clk (JR (S.map λp:IE=>p.2.2) (some (Ent.ie ⟨l,.slice ao a.length cc,a,ps,bo⟩)))::blk pd [.slice (some ⟨bd,0,none⟩) (D.n*256) (D.n*256),.map (some m),I f0,I D.f1,I D.f2,I (if D.f3=0 then 0 else D.f3-1),.bool D.cut,I D.left] 103::blk bd (b.map u8) 5::AJ m (es.map Ent.ie) clk::poolA hq::seps (es.map Ent.row)::R)) 10 Z J (A4 H λw H'=>?_)));have H:=H'.l6;refine Bo [0,1,3,4] [] J (λ_ _=>AH) (by exact H.pick 6 [0,1,2,3,4,5] Z) Z J Z Z (By 5 J Z Z J J J Z Z Z (F3 Z (z:=1) J Z) (H.pick 6 [0,1,2,3,4,5] Z) (By 6 J Z Z J J J Z Z Z (Hy Z Z Z (r:=((a.length-1:Nat):Int)) U U) (H.pick 6 [0,1,2,3,4,5] Z) (By 7 J Z Z J J J Z Z Z (Aj Z (z:=1) (j:=(a.length-1)) (r:=(a.length-1)) J Z Z Z U b1 U) (H.pick 6 [0,1,2,3,4,5] Z) (By 8 J Z Z J J J Z Z Z (Ax Z Z J (λ_ hx=>(hx.rv 5 (λq=>JA d q)).at s)) (H.pick 6 [0,1,2,3,4,5] Z) (Ay [2] J O (Al (Br Z Z Z Z Z Z (λw=>call151 _ w) (Xp l U U) H.f1 Z ?_)))))));rintro _ w _ ⟨rfl,rfl⟩ H;replace H:=H.l6;refine Ar (λ_=>(H.pick 6 [1,0,2,3,4,5] Z)) (Ay [9] J O (Al (BU Z Z Z Z (F8 2 H Z Z J Z Z (m:=256) (news:=(p.map u8)) (.inl (H.rv 4 (λq=>a6.le q))) (by simp[u8,Value.oneCell']) (by have:=g.len;simp;omega) (k:=256) U (out:=((b.take (l*256)++p++b.drop (l*256+256)).map u8)) (by simp[t,Aem])) ?_)));rintro _ w ⟨rfl,H⟩;replace H:=H.l6;refine Ar (λh=>absurd Z h) (AV J (gn (Zc 1 Z ?_)));replace H:=H.f5.f5.f5.f5.f4.f5;refine gf ?_;intro _ hF;refine ⟨⟨S++[(Ent.ie ⟨l,.slice ao a.length cc,a,ps,bo⟩)],(b.take (l*256)++p++b.drop (l*256+256))⟩,(hF.all Z),⟨(by dsimp only;rw[AeK];exact H),?_⟩,?_⟩
  ·refine ⟨λp hp=>?_,?_⟩
   ·rcases Aes.1 hp with hp|hp
    ·exact hS p hp
    simp at hp;subst hp;exact AeD d
   have:=VG c g (p:=(Ent.ie ⟨l,.slice ao a.length cc,a,ps,bo⟩)) (k:=l) Z a2;rwa[b2] at this
  (dsimp only;have:=EC x;rwa[show (S++[(Ent.ie ⟨l,.slice ao a.length cc,a,ps,bo⟩)]).map (λp:IE=>p.2.2)=(S.map λp:IE=>p.2.2)++[bo] from by simp[Ent.ie]])
 obtain rfl:qx=none:=by simpa using h3
 refine Zc 2 Z (gx (Zc 3 Z ?_));have a8:=YV g x hS;refine Z2 5 [1,1,0] H Z (KK Z Z (Jo 3 (e:=224) H Z Z J Z) ?_);rintro _ w ⟨rfl,H⟩;replace H:=H.l6;refine Z3 10 [7,1,0] [D.left-1] H Z U (Ad Z (Nj Z Z Z) (Z4 11 [7,1] H Z ?_));intro w H;refine Zr Z ?_;replace H:=(H.mono 5 (B:=seps (([]:List Ent).map Ent.row)) Z (λh q=>⟨λ_=>0,λi A hi=>by simp at hi⟩)).l6;replace H:=H.f5.f5.f5.f5.f5;replace H:=(Sep.toDisk (D:=D.fl) (pd:=pd) (bd:=bd) (m:=m) (f0:=f0) (bs:=b) (es:=([]:List Ent)) (clk:=clk) (hq:=hq) (Γ:=GM rr m clk (JR (S.map λp:IE=>p.2.2) none)::R) H (Add c (λi hi=>Dsk.cont_len c hi) c.f1 c.f2 (Fh c.f3) U) (a8.f _ _ _ _ _)).l2;exact ⟨_,.inr ⟨by simp_all,Z,Z⟩,H.perm 2 [0] Z Z⟩
def wr1(D:Dsk)(fua:Bool)(i:Nat)(p:List UInt8):Dsk:= {Dsk.ws {D with f2:=Bm D.f2} fua i [p] with left:=max 0 (D.left-1)}
theorem Kg{a:Bool}(p:List UInt8)(hp:p.length=256)(f:∀h,A h->rdH 1 (.slice (some ⟨j,e,none⟩) 256 r) 256 (p.map u8) h)(b:∀i,(D.ver i).length<=1099511627776)(d:0<=t/\t+1<=(D.n:Int)):
  Ak 90 [Y m,I t,.slice (some ⟨j,e,none⟩) 256 r,.bool a] [diskA m D,A] (λv G=>(D.bad/\v=I 11/\G=[diskA m D.wf,A])\/(¬D.bad/\v=I 0/\G=[diskA m (wr1 D a t.toNat p),A])):=by
 have h:=Qm m j e r D t a [p] A (by simpa using hp) O b (λh q=>by simpa using f h q);refine Cn.mono h ?_;have c:0<=t/\t+(([p]:List (List UInt8)).length:Int)<=(D.n:Int):=by simpa using d
 rintro v Γ (⟨g,_⟩|⟨_,g,rfl,rfl⟩|⟨_,g,rfl,rfl⟩)
 ·exact absurd c g
 ·exact .inl ⟨g,Z,Z⟩
 exact .inr ⟨λh=>by rcases h with h|h;exact g.1 h;exact g.2 h,Z,Z⟩
theorem HS:Ak 89 [Y i] [diskA i D] (λv G=>v=I (D.n:Int)/\G=[diskA i D]):=by
 refine Cn.mono (Cn.onDisk (post:=λv Γ=>v=I (D.n:Int)/\Γ=[]) (pre:=[]) (λa bd m f0=>?_)) ?_
 ·have b:=a.n2
  refine Cn.mono (KM i bd m (D.n*256) f0 D.f1 D.f2 D.f3 D.left D.cut U) ?_;rintro v Γ ⟨rfl,rfl⟩;exact ⟨[],⟨congrArg I U,Z⟩,Z⟩
 rintro v Γ ⟨Γ',⟨rfl,rfl⟩,rfl⟩;exact ⟨Z,Z⟩
theorem Ox(s:Sup)(b:s.Ok (D.n:Int))(d:∀i,(D.ver i).length<=1099511627776):Ak 93 [Y m,Y j,.agg #[I s.gen,I s.epoch,I s.pages,I s.start,I s.len,I s.head,I s.seq]] [diskA m D,tblA j] (λv G=>(D.bad/\v=I 11/\G=[diskA m D.wf,tblA j])\/(¬D.bad/\v=I 0/\G=[diskA m (Fj D s),tblA j])):=by
 intro z R w H;have k:=H.sy 0 (λq=>(diskA.ok q).n1);have p:=H.sy 0 (λq=>(diskA.ok q).n2);have o:=Sup.get b;have g:=b.2;refine Ae func93 Z ntmps93 Z (Za 2 [] H Z ?_);intro t w H;refine Zc 5 Z (Bu (Sep z _) J J H.drew (GL 9 [0,7] [] Z J (Dn Z Z Z Z Z (λw=>call89 _ w) (v:=I (D.n:Int)) (cq (HS) (by rintro _ _ ⟨rfl,rfl⟩;exact ⟨Z,Z⟩) 2 [1,0] [1,0] Z Z Z Z) (Dn Z Z Z Z Z (λw=>call88 _ w) (v:=I (if s.Ok (D.n:Int) then 0 else 1)) (cq (HP _ U) (by rintro _ _ ⟨rfl,rfl⟩;exact ⟨Z,Z⟩) 0 [] [] Z Z Z Z) (BS 2 [] Z J (BB (λw e=>?_)))))));have H:=e.l3;refine gn (Zc 1 Z (Af Z (λf=>?_) (λf=>?_)))
 ·exact absurd (if_pos b) f
 refine Z2 6 [0,7] H Z (Au Z (call152 _) (RG (λx l=>b.1 x l)) H.f2 ?_);rintro _ w _ ⟨r,rfl,rfl⟩ H;refine Z3 24 [4,0,2,0] [s.gen%2] H Z U (Au Z (call90 _) (Kg (DE s) (GS s) (λh q=>HN (lo:=0) (n:=256) (c:=256) (ys:=DE s) q (GS s) U U U (by rw[Aey];exact Aem (Agl (GS s)))) d U) H.f3 ?_);rintro _ w _ (⟨a,rfl,rfl⟩|⟨a,rfl,rfl⟩) e
 ·have H:=e.l4;refine Zc 4 Z (Zr Z ?_);exact ⟨_,.inl ⟨a,Z,Z⟩,H.perm 4 [0,2] Z Z⟩
 have H:=e.l4;refine Zc 4 Z (Zr Z ?_);exact ⟨_,.inr ⟨a,Z,Z⟩,H.perm 4 [0,2] Z Z⟩
set_option maxHeartbeats 1000000 in
theorem AbH (k:D.f1=0) (x c b:Sup) (g:c.Ok (D.n:Int)) (d:b.Ok (D.n:Int)) (g0:c.gen%2=0) (g1:b.gen%2=1) (c0:D.cont 0=DE c) (c1:D.cont 1=DE b) (a:x=if c.gen<b.gen then b else c):Ak 94 [Y i,Y e] [diskA i D,tblA e] (λv G=>v=.tuple #[.agg #[I x.gen,I x.epoch,I x.pages,I x.start,I x.len,I x.head,I x.seq],I 0]/\G=[diskA i D,tblA e]):=by
 intro z R w H;have a8:=H.sy 0 (λq=>(diskA.ok q).n1);have a5:=H.sy 0 (λq=>(diskA.ok q).n2);have a6:=Sup.get g;have a4:=Sup.get d;have a3:=g.2;have a7:=d.2;refine Ae func94 Z ntmps94 Z (Za 2 [] H Z ?_);intro b1 w H;refine Zc 14 Z (z_E_ Z (call89 _) (HS) H.f1 ?_);intro w H;refine Z0 4 [0] Z (Af Z (λh1=>U) (λh1=>?_));refine Za 4 [] H Z ?_;intro b2 w H;refine Zc 14 Z (GO 3 (DG (Z0 21 [3] Z (Au Z (call128 _) (I0) H.f1 ?_))));rintro _ w _ (⟨a,_,_⟩|⟨_,a,_,_⟩|⟨_,_,g0,o,a0,rfl,⟨r,s,t⟩,rfl⟩) f
 ·exact absurd ⟨by omega,by omega⟩ a
 ·(rw[k] at a;cases a)
 rw[diskA.f1 k] at f;have H:=f.l5;refine Z5 25 [4,2,1,0,0,2] [1] H Z U ?_;intro w H;refine gf (DG (Z0 21 [3] Z (Au Z (call128 _) (I0) H.f1 ?_)));rintro _ w _ (⟨a,_,_⟩|⟨_,a,_,_⟩|⟨_,_,g1,l,p,rfl,⟨a2,a1,y⟩,rfl⟩) f
 ·exact absurd ⟨by omega,by omega⟩ a
 ·(rw[k] at a;cases a)
 rw[diskA.f1 k] at f;have H:=f.l6;refine Z5 25 [4,2,1,1,1,3] [2] H Z U ?_;intro w H;refine gf (DG (Z0 9 [4] Z (gx (Zc 13 Z (Ad Z (Be Z Z (out:=[I (-1),I 0,I 0,I 0,I 0,I 0,I 0]) J) (Za 0 [] H Z ?_))))));intro b3 w H;refine Z4 11 [0,4,2] H Z ?_;intro w H;refine GO 3 (DG (Z0 14 [3] Z (Ad Z (E7 (m:=2) Z J Z Z Z (j:=0) Z (u:=.slice (some ⟨g0,0,none⟩) 256 o) Z) (Zc 8 Z (z_E_ Z (call153 _) (Ld (D.cont (0:Int).toNat) (λh q=>EG q (by rw[show D.cont (0:Int).toNat=DE c from c0];exact GS _) ⟨r,s,t⟩) c g.1 c0) H.f3.f6 ?_)))));intro w H;refine Za 3 [] H Z ?_;intro b4 w H;refine Z4 5 [0] H Z ?_;intro w H;refine Bu (Sep z _) J J H.drew (GL 4 [0,7] [] Z J (Dn Z Z Z Z Z (λw=>call89 _ w) (v:=I (D.n:Int)) (cq (HS) (by rintro _ _ ⟨rfl,rfl⟩;exact ⟨Z,Z⟩) 6 [5,0,1,2,3,4] [1,2,3,4,5,0] Z Z Z Z) (Dn Z Z Z Z Z (λw=>call88 _ w) (v:=I (if c.Ok (D.n:Int) then 0 else 1)) (cq (HP _ U) (by rintro _ _ ⟨rfl,rfl⟩;exact ⟨Z,Z⟩) 0 [] [] Z Z Z Z) (BS 3 [] Z J (B8 68 Z (λh2=>?_) (λh2=>?_))))))
 ·refine Ha 7 [0,0,0,0] [c.gen%2] Z J U (B8 75 Z (λh3=>?_) (λh3=>?_))
  ·refine DS 6 [0,0,0,1] (λ_ a=>(AN (a.blk 0 Z) (AN (a.blk 3 Z) AH))) Z J Z (BB (λw f=>?_));have H:=f.l8;refine gn (Zc 1 Z (Af Z (λh4=>?_) (λh4=>?_)))
   ·refine Z5 10 [0,7,3] [1] H Z U ?_;intro w H;refine gf (DG (Z0 14 [3] Z (Ad Z (E7 (m:=2) Z J Z Z Z (j:=1) Z (u:=.slice (some ⟨g1,0,none⟩) 256 l) Z) (Zc 8 Z (z_E_ Z (call153 _) (Ld (D.cont (1:Int).toNat) (λh q=>EG q (by rw[show D.cont (1:Int).toNat=DE b from c1];exact GS _) ⟨a2,a1,y⟩) b d.1 c1) H.f4.f2 ?_)))));intro w H;refine Za 3 [] H Z ?_;intro b5 w H;refine Z4 5 [0] H Z ?_;intro w H;refine Bu (Sep z _) J J H.drew (GL 4 [0,7] [] Z J (Dn Z Z Z Z Z (λw=>call89 _ w) (v:=I (D.n:Int)) (cq (HS) (by rintro _ _ ⟨rfl,rfl⟩;exact ⟨Z,Z⟩) 7 [6,0,1,2,3,4,5] [1,2,3,4,5,6,0] Z Z Z Z) (Dn Z Z Z Z Z (λw=>call88 _ w) (v:=I (if b.Ok (D.n:Int) then 0 else 1)) (cq (HP _ U) (by rintro _ _ ⟨rfl,rfl⟩;exact ⟨Z,Z⟩) 0 [] [] Z Z Z Z) (BS 3 [] Z J (B8 68 Z (λh5=>?_) (λh5=>?_))))))
    ·refine Ha 7 [0,0,0,0] [b.gen%2] Z J U (B8 75 Z (λh6=>?_) (λh6=>?_))
     ·refine DS 6 [0,0,0,1] (λ_ a=>(AN (a.blk 0 Z) (AN (a.blk 5 Z) AH))) Z J Z (BB (λw f=>?_));have H:=f.l9;refine gn (Zc 1 Z (Af Z (λh7=>?_) (λh7=>?_)))
      ·refine Z5 10 [0,7,5] [2] H Z U ?_;intro w H;refine gf (DG (Z0 9 [4] Z (gx (Z2 10 [0,5,0,0] H Z (Af Z (λh8=>U) (λh8=>?_))))))
       refine Z4 10 [5,7,8] H Z ?_;intro w H;refine Zl [8,7] H Z ?_;obtain rfl:x=b:=by rw[a];first|exact if_pos U|exact if_neg U
       exact ⟨_,⟨rfl,rfl⟩,H.perm 9 [6,1] rfl rfl⟩
      refine Z1 7 [] [2] Z U (gf (DG (Z0 9 [4] Z (gx (Z2 10 [0,5,0,0] H Z (Af Z (λh9=>U) (λh9=>?_)))))));refine Z4 10 [5,7,8] H Z ?_;intro w H;refine Zl [8,7] H Z ?_;obtain rfl:x=c:=by rw[a];first|exact if_pos U|exact if_neg U
      exact ⟨_,⟨rfl,rfl⟩,H.perm 9 [6,1] rfl rfl⟩
     (exfalso;omega)
    exact absurd (if_pos d) h5
   (exfalso;omega)
  (exfalso;omega)
 exact absurd (if_pos g) h2
theorem VH(g m clk:Nat)(l:List IE)(d:∀p∈l,p.2.2<clk)(n:(l.map λp:IE=>p.2.2).Nodup):Xq prog 200 [Y g] [blk g [.map (some m)] 154,AJ m l clk] (Abv l) [] (RD l):=by
 intro z k J_ o w b;have H:=b.l2;refine J6 (args:=[.func (.yield k) #[] #[],Y g]) func200 Z Z 14 ntmps200 Z ?_;refine CT ?_;refine Cg ?_;refine s_do Z Z Z (Bn Z Z J (AB (H.cel 0 Z 0 Z))) ?_;refine E4 Z Z Z (HK 1 (e:=109) H Z Z J Z) ?_;rintro _ w ⟨i,rfl,b⟩;have H:=b.l3;refine AT ?_;refine Ea ?_;refine LO (σ:=List IE) (λs=>[(0,.func (.yield k) #[] #[]),(5,Y i)])
  (λs w=>Sep z (GM i m clk (s.map λp:IE=>p.2.2)::blk g [.map (some m)] 154::AJ m l clk::J_ s) w/\(True)) (λs=>(Cm l (s.map λp:IE=>p.2.2)).length) ([])
  (λ_ f=>(f.all Z)) ⟨H,trivial⟩ ?_
 clear H;rintro s w ⟨b,q⟩;have H:=b.l3;refine CT ?_;refine Cg ?_;refine E4 Z Z Z (IT 0 2 H Z Z Z Z d) ?_;rintro _ w ⟨j,rfl,a,b⟩;have H:=b.l3;refine s_do Z Z Z (KO Z Z) ?_;refine AT ?_;refine CT ?_;refine Jn Z (λh=>?_) (λh=>?_)
 ·-- yes:j.isSome
  obtain ⟨c,rfl⟩:=Afb.1 h;refine Gw ?_;refine Ea ?_;refine CT ?_;refine Cg ?_;refine s_do Z Z Z (HL (p:=c) Z Z (AB ⟨H.bk 0 Z,H.bk 2 Z⟩) (C8 a).1 n) ?_;refine s_do Z Z Z (Ff Z Z Z) ?_;refine s_do Z Z Z (AQ Z Z) ?_;refine AT ?_;refine CT ?_;refine J5 ?_;refine Es Z Z Z (Ck Z Z) ?_;refine Es Z Z Z (Ck Z Z) ?_;replace H:=H.f2.f2;refine LQ Z Z Z Z Z Z (o s _ (s++[c]) [GM i m clk ((s.map λp:IE=>p.2.2)++[c.2.2])] ⟨c,a,Z,Z⟩ _ H) ?_;rintro _ w ⟨rfl,b⟩;refine ⟨_,Z,?_⟩;have H:=b.l3;refine Es Z Z Z (Kz Z Z) ?_;refine Rs ?_;refine Iw Z ?_;refine Gw ?_;replace H:=H.f1.f1.f2;intro _ f;refine ⟨(s++[c]),(f.all Z),⟨(by rw[AeK];exact H),?_⟩,?_⟩
  ·trivial
  (have:=EC a;rwa[show (s++[c]).map (λp:IE=>p.2.2)=(s.map λp:IE=>p.2.2)++[c.2.2] from by simp])
 -- no:j.isSome
 obtain rfl:j=none:=by simpa using h
 refine LN ?_;refine IL ?_;exact λ_ f=>⟨f.defers,s,a,H.perm 3 [1,2] Z Z⟩
theorem Oy{l:List IE}(j:∀p∈l,p.2.2<i)(t:(l.map λp:IE=>p.2.2).Nodup)(a0:l.length<=1099511627776):Ak 228 [.slice none 0 0,.func (.func 200) #[] #[Y n]] [blk n [.map (some m)] 154,AJ m l i] (λv G=>∃s:List IE,s.Perm l/\G=[blk n [.map (some m)] 154,AJ m l i,grow 3 1 v s.length (kC s)]):=by
 intro z R w b;have H:=b.l2;refine NQ func228 Z 13 ntmps228 Z (A6 (AK (E4 Z Z Z (G8 H Z Z (cs:=[.slice none 0 0]) Z) ?_)));rintro _ w ⟨r,rfl,b⟩;have H:=b.l3;refine B3 1 Z Z (AT (A6 (A6 (AK (B3 1 Z Z (AT (FL ?_)))))));have b:=H.nilg 3 1;have H:=b.l4;replace H:=H.f1;have b:=H.toVec (l:=l) (s:=[]) O O;have H:=b.l3;replace H:=H.f2.f2;have b:=Sep.swap (As:=[blk n [.map (some m)] 154,AJ m l i]) (Bs:=(vecA r l []::R)) H;clear H;refine UQ (λs=>(vecA r l s::R)) Z (λu w=>call200 u w) Z (VH n m i l j t) b ?_ ?_
 ·rintro ro s v s2 ⟨p,hp,rfl,rfl⟩ w;refine Cg (B3 1 Z Z (AT ?_));refine λa hF=>⟨Z,λF w b=>?_⟩
  revert a hF;have H:=b.l1;obtain ⟨c,f,b⟩:=H.vec;clear H;have H:=b.l2;have y:=K8 c;refine Ea (Cg (Gn 2 [0] (AN (H.blk 0 Z) AH) Z J Z (E4 Z Z Z (AP H Z J (Elt.mk (P:=prog) (e:=3) (z:=I 0) (sz:=1) (by_:=8) J Z U U) Z (by decide) (by decide) (out:=[I p.1]) J) ?_)));rintro _ w ⟨b2,rfl,b⟩;have H:=b.l3;refine E4 Z Z Z (AX 2 H Z Z J (Elt.mk (P:=prog) (e:=3) (z:=I 0) (sz:=1) (by_:=8) J Z U U) Z Z (H.rv 0 (·.rd U U O Z)) (by simp[Value.oneCell']) U) ?_;rintro x w b;have b:Sep z (blk b2 [I p.1] 3::blk r [f] 39::grow 3 1 x (s.length+1) (kC s++[I p.1])::(R++F)) w:=b;have o:(kC s++[I p.1]:List Value)=kC (s++[p]):=Yy s p;rw[o] at b;rw[show (s.length+1:Nat)=(s++[p]).length from by simp] at b;have H:=b.l3;have g:=H.sy 2 (·.slc);refine F2 Z Z (Ip 1 H Z Z Z Z g.cells g.one J) ?_;rintro w b;have H:=b.l3;refine AT ?_;replace H:=H.d;have h:=F6 c hp;exact λ_ _=>H.toVec h.1 h.2
 rintro D0 w s k b;have H:=b.l2;replace H:=H.f1;obtain ⟨c,f,b⟩:=H.vec;clear H;have H:=b.l3;refine A6 (AK (Gn 2 [0] (AN (H.blk 0 Z) AH) Z J Z (AT (D8 ?_))));replace H:=H.f2;refine NS H (rs:=[.tmp 4]) Z [f] (λ_=>⟨Z,trivial⟩) (v:=f) Z (λw b=>?_);clear H;have H:=b.l2;have b:=Sep.swap (As:=grow 3 1 f s.length (kC s)::R) (Bs:=[blk n [.map (some m)] 154,AJ m l i]) (H.pick 2 [1] Z);exact ⟨[blk n [.map (some m)] 154,AJ m l i,grow 3 1 f s.length (kC s)],⟨s,Hv t c k,Z⟩,b⟩
theorem Qt:Ak 160 [.map (some m)] [] (λv G=>∃a,v=.func (.func 200) #[] #[Y a]/\G=[blk a [.map (some m)] 154]):=by
 intro z R w H;refine Ae func160 Z ntmps160 Z (Za 2 [] H Z ?_);intro b w H;refine Zc 5 Z (Ad Z (C6 Z Z Z) (Zc 4 Z (Zr Z ?_)));exact ⟨_,⟨b,Z,Z⟩,H⟩
theorem RJ{l:List IE}(a:∀p∈l,p.2.2<i)(d:(l.map λp:IE=>p.2.2).Nodup)(b:l.length<=1099511627776):Ak 198 [.func (.func 200) #[] #[Y n]] [blk n [.map (some m)] 154,AJ m l i] (λv G=>∃s:List IE,s.Perm l/\G=[blk n [.map (some m)] 154,AJ m l i,grow 3 1 v s.length (kC s)]):=by
 intro z R w H;refine Ae func198 Z ntmps198 Z (Zc 8 Z (Au Z (call228 _) (Oy a d b) H ?_));rintro e w _ ⟨s,hs,rfl⟩ H;refine Zc 4 Z (Zr Z ?_);exact ⟨_,⟨s,hs,Z⟩,H⟩
theorem MO{l:List IE}(a:∀p∈l,p.2.2<i)(e:(l.map λp:IE=>p.2.2).Nodup)(c:l.length<=1099511627776):Ak 159 [.func (.func 200) #[] #[Y n]] [blk n [.map (some m)] 154,AJ m l i] (λv G=>∃s:List IE,s.Perm l/\G=[grow 3 1 v ((s.map λp:IE=>p.1).mergeSort (λx y=>decide (x<=y))).length (((s.map λp:IE=>p.1).mergeSort (λx y=>decide (x<=y))).map I),blk n [.map (some m)] 154,AJ m l i]):=by
 intro z R w H;refine Ae func159 Z ntmps159 Z (Zc 8 Z (Au Z (call198 _) (RJ a e c) H ?_));rintro g w _ ⟨s,hs,rfl⟩ H;refine Zc 6 Z ?_;have b:(s.map λp:IE=>p.1).length=s.length:=by simp
 have f:=hs.length_eq;replace H:=(H.mono 2 (B:=grow 3 1 g (s.map λp:IE=>p.1).length ((s.map λp:IE=>p.1).map I)) Z (λh q=>by rw[b,Afp];exact q)).l3;refine Au Z (call199 _) (Tn U) H.f2 ?_;rintro _ w _ ⟨rfl,ys,rfl,rfl⟩ H;refine Zc 9 Z (Zr Z ?_);exact ⟨_,⟨s,hs,Z⟩,H⟩
def Fb(f:BF)(ks:List Int):Prop:=ks.Pairwise (· < ·)/\∀k:Int,k∈ks↔0<=k/\(f k.toNat).isSome=true
def pgLst(f:BF)(ks:List Int):List (Nat×Pg):=ks.map λk=>(k.toNat,(f k.toNat).getD noPg)
theorem Ex{f:BF}(h:Fb f l)(n:Nat)(p:Pg):(n,p)∈pgLst f l↔f n=some p:=by
 unfold pgLst;rw[Aen];constructor
 ·rintro ⟨k,a,e⟩
  obtain ⟨c,b⟩:=(h.2 k).1 a;obtain ⟨q,hq⟩:=Afb.1 b;rw[hq] at e;simp only[Option.getD_some,AfG] at e;obtain ⟨e1,e2⟩:=e;rw[<-e1,hq,e2]
 intro e;refine ⟨(n:Int),(h.2 _).2 ⟨by omega,by rw[Ae7,e];rfl⟩,?_⟩;rw[Ae7,e];rfl
theorem EV{f:BF}(h:Fb f l):((pgLst f l).map Prod.fst).Nodup:=by
 unfold pgLst;rw[Afp];refine AfM.2 (List.Pairwise.imp_of_mem ?_ h.1);intro a b d c e;have g:=((h.2 a).1 d).1;have i:=((h.2 b).1 c).1;simp only[AgN];omega
theorem VI{f:BF}{p:Pg}(b:l[j]?=some (n:Int))(a:f n=some p):(pgLst f l)[j]?=some (n,p):=by
 unfold pgLst;rw[Aer,b];simp[a]
theorem YW{l:List (Nat×Pg)}{p:Pg}(h:l[j]?=some (n,p)):wr1 (hwD D (l.take j)) false ((2:Int)+(n:Int)).toNat (Ej n p)=hwD D (l.take (j+1)):=by
 rw[AeQ,h];show _=hwD D (l.take j++[(n,p)]);rw[Vh,show ((2:Int)+(n:Int)).toNat=2+n from by omega];rfl
def Dsk.flb(D:Dsk):Prop:=D.f3=1\/(D.cut=true/\D.left=0)
def LY(D:Dsk)(l:List (Nat×Pg))(c:Int)(D2:Dsk):Prop:=
 (∃j,(hwD D (l.take j)).bad/\c=11/\D2=(hwD D (l.take j)).wf)\/((hwD D l).flb/\c=12/\D2= {hwD D l with f3:=Bm (hwD D l).f3})\/((hwD D l).fl.bad/\c=11/\D2=(hwD D l).fl.wf)
theorem PgsIn.small{f:BF}{es:List PgE}{clk:Nat}{hq:Hp}(h:PgsIn f es clk hq)(a:∀n,(f n).isSome=true->n<1024):es.length<=1024:=by
 have:=Jw (s:=es.map PgE.n) (l:=List.range 1024) h.nodup (λk b=>by
  obtain ⟨e,c,rfl⟩:=Aen.1 b;exact AfT.2 (a _ (by rw[(h.ent e c).1];rfl)))
 simpa using this
theorem VJ{x:Sup}{q:Value}{f:BF}{hq:Hp}(k:∀n,(f n).isSome=true->n<1024):Ak 156 [Y m] [stB m i j x u g b q,pgsA g f hq] (λv G=>(∃l:List Int,Fb f l/\G=[grow 3 1 v l.length (l.map I),stB m i j x u g b q,pgsA g f hq])):=by
 intro z R w H;replace H:=H.l2;obtain ⟨es,clk,a,H⟩:=H.pgs 1 Z;replace H:=H.l2;have d:es.length<=1099511627776:=by have:=a.small k;omega
 refine Ae func156 Z ntmps156 Z (Z2 11 [10,0,0] H Z (Au Z (call160 _) (Qt) H ?_));rintro _ w _ ⟨bb,rfl,rfl⟩ H;replace H:=H.l3;have o:∀h:IE->Nat,(es.map PgE.ie).map h=es.map λe=>h e.ie:=λh=>by simp
 refine Au Z (call159 _) (MO (λp hp=>by obtain ⟨e,r,rfl⟩:=Aen.1 hp;exact a.clk e r) (by rw[o];exact a.born) (by simp;exact d)) H.f2.f1 ?_;rintro t w _ ⟨s,hs,rfl⟩ H;replace H:=H.l4;have c:Fb f ((s.map λp:IE=>p.1).mergeSort (λx y=>decide (x<=y))):=a.keys hs;refine Zc 4 Z (Zr Z ?_);replace H:=(H.toPgs 2 Z a).l4;exact ⟨_,⟨_,c,Z⟩,H.perm 4 [0,3,2] Z Z⟩
set_option maxHeartbeats 2000000 in
theorem VK (ps pd k md:Nat) (x:Sup) (lp mo:Value) (un:Bool) (f:BF) (hq:Hp) (y:Sup) (D:Dsk) (a6:∀n,(f n).isSome=true->n<1024) (b2:∀n,(f n).isSome=true->2+n<D.n) (a7:y.Ok (D.n:Int)) (a4:∀i,(D.ver i).length<=1000000000000):Ak 96 [Y ps,.agg #[I y.gen,I y.epoch,I y.pages,I y.start,I y.len,I y.head,I y.seq]] [stB ps pd k x lp md un mo,tblA k,diskA pd D,pgsA md f hq,poolA hq] (λv G=>∃a:List Int,Fb f a/\((v=I 0/\G=[stB ps pd k y lp md un mo,tblA k,diskA pd (Fj (hwD D (pgLst f a)).fl y),pgsA md Dq hq,poolA hq])\/(∃(c:Int) (D2:Dsk),c≠0/\LY D (pgLst f a) c D2/\v=I c/\G=[stB ps pd k x lp md un mo,tblA k,diskA pd D2,pgsA md f hq,poolA hq]))):=by
 intro z R w H;refine Ae func96 Z ntmps96 Z (Za 2 [] H Z ?_);intro b1 w H;refine Zc 7 Z (Au Z (call156 _) (VJ a6) H.f4.f2 ?_);rintro v3 w _ ⟨a,m,rfl⟩ H;have a8:=H.sy 0 (·.slc);have b4:=H.sy 0 (·.rd.small);obtain ⟨s,c3,rfl⟩:=a8;have H:Sep z (grow 3 1 (.slice s a.length c3) a.length (a.map I)::stB ps pd k x lp md un mo::pgsA md f hq::blk b1 [I y.gen,I y.epoch,I y.pages,I y.start,I y.len,I y.head,I y.seq] 148::tblA k::diskA pd D::poolA hq::R) w:=H;obtain ⟨es,clk,t,H⟩:=H.pgs 2 Z;refine Zc 5 Z ?_;refine AF (σ:=Nat) (λj=>[(15,I (j:Int)),(0,Y ps),(3,Y b1),(13,.slice s a.length c3),(14,I (a.length:Int))])
   (λj w=>Sep z (grow 3 1 (.slice s a.length c3) a.length (a.map I)::stB ps pd k x lp md un mo::AJ md (es.map PgE.ie) clk::blk b1 [I y.gen,I y.epoch,I y.pages,I y.start,I y.len,I y.head,I y.seq] 148::tblA k::diskA pd (hwD D ((pgLst f a).take j))::poolA hq::R) w/\(j<=a.length)) (λj=>a.length-j) 0
   fr_z ⟨H,by omega⟩ ?_
 clear H;rintro j w ⟨g,hI⟩;have H:=g.l7;have b7:=hI;clear hI;refine Z0 6 [0] Z (Af Z (λh1=>?_) (λh1=>?_))
 ·have b5:j<a.length:=by omega
  refine Zc 6 Z ?_;obtain ⟨x,hx⟩:∃x,a[j]?=some x:=⟨_,Aef U⟩;obtain ⟨c1,o⟩:=(m.2 x).1 (Aeg hx);obtain ⟨n,rfl⟩:∃n:Nat,x=(n:Int):=⟨x.toNat,by omega⟩;rw[Ae7] at o;obtain ⟨p,pv,a9,b,a3,b0⟩:∃(p:Pg) (v:Value),f n=some p/\p.Ok/\rdH 1 v 240 (p.body.map u8) hq/\CQ (es.map PgE.ie) (n:Int)=some (.agg #[I p.kind,v]):=by
    rcases t.get n with ⟨q,_⟩|q
    · rw[q] at o;cases o
    · exact q
  have hn:=a6 n o;have b9:=b2 n o;have a0:=(H.rv 0 (·.rd)).at (j:=j) (u:=I (n:Int)) (by simp[hx]);have a2:∀i,((hwD D ((pgLst f a).take j)).ver i).length<=1099511627776:=λi=>by have h1:=On ((pgLst f a).take j) D i ((EV m).sublist ((List.take_sublist _ _).map _));have h2:=a4 i;omega
  refine Ad Z (Aj Z (z:=1) (j:=j) (r:=j) J Z Z Z U a0 U) (Ad Z (Ax Z Z J (AB a0)) (Zc 4 Z ?_));replace H:=H.f2.f2;refine AS (Sep z (stB ps pd k x lp md un mo::AJ md (es.map PgE.ie) clk::R)) 18 Z J (A4 H λw g=>?_);have H:=g.l7;refine AZ [0,1,2,3,4,5,6,7,8,9] [1,0,0,10,0,0] [] (by exact H.pick 7 [0,1] Z) Z J Z (BQ 10 Z J J J Z Z Z (FO (e:=109) (zv:=.agg #[I 0,.slice none 0 0]) Z J J Z Z (λ_ hx=>hx.bk 1 Z)) (H.pick 7 [0,1] Z) (AD 30 (v:=.agg #[I p.kind,pv]) Z (by rw[b0];rfl) (BQ 11 Z J J J Z Z Z (Be Z Z (out:=[I (n:Int),I p.kind,pv]) J) (H.pick 7 [0,1] Z) (AE [12] J O (Al (Br Z Z Z Z Z Z (λw=>call157 _ w) (MI p.body (λh q=>by rw[b.2];exact a3.le q)) H.f6.f5 Z ?_))))));rintro _ w _ (⟨l,rfl,rfl⟩|⟨_,pw,rfl,rfl⟩) g
  ·exact absurd ⟨⟨by omega,by omega⟩,b.1,b.2⟩ l
  have H:=g.l8;refine Az (H.pick 8 [3,4] Z) (AZ [13,14,15,16,17] [] [] (by exact H.pick 8 [3,4] Z) Z J Z (a_done J (gn (Z3 20 [4,0,3,0] [(2:Int)+(n:Int)] H Z U (Au Z (call90 _) (Kg (Ej n p) (FT b) (λh q=>HN (lo:=0) (n:=256) (c:=256) (ys:=Ej n p) q (FT b) U U U (by rw[Aey];exact Aem (Agl (FT b)))) a2 (by rw[Fa];omega)) H.f7 ?_)))));rintro _ w _ (⟨l,rfl,rfl⟩|⟨l,rfl,rfl⟩) g
  ·have H:=g.l8;refine Z0 17 [3] Z (Zr Z ?_);replace H:=(H.toPgs 5 Z t).l8
   exact ⟨_,⟨a,m,.inr ⟨_,_,by decide,.inl ⟨j,l,Z,Z⟩,Z,Z⟩⟩,H.perm 8 [4,2,0,5,3] Z Z⟩
  have H:=g.l8;refine Z1 17 [4] [(j:Int)+1] Z U ?_;replace H:=H.f1.d.f2.f1.f2.f6.f5.f5.f6;refine gf ?_;intro _ hF;refine ⟨(j+1),hF.cz,⟨(by rw[<-YW (VI hx a9)];exact H),?_⟩,?_⟩
  ·omega
  omega
 obtain rfl:j=a.length:=by omega
 refine Zc 2 Z (gx (Zc 4 Z ?_));have b3:(pgLst f a).take a.length=pgLst f a:=Aem (by simp only[pgLst,Aei];omega);rw[b3] at H;have H:Sep z (grow 3 1 (.slice s a.length c3) a.length (a.map I)::stB ps pd k x lp md un mo::AJ md (es.map PgE.ie) clk::blk b1 [I y.gen,I y.epoch,I y.pages,I y.start,I y.len,I y.head,I y.seq] 148::tblA k::diskA pd (hwD D (pgLst f a))::poolA hq::R) w:=H;refine Z2 5 [0,1,0] H Z (Au Z (call91 _) (HR) H.f5 ?_);rintro _ w _ (⟨a1,rfl,rfl⟩|⟨a1,rfl,rfl⟩) g
 ·have H:=g.l7;refine Z0 17 [3] Z (Zr Z ?_);replace H:=(H.toPgs 3 Z t).l7
  exact ⟨_,⟨a,m,.inr ⟨_,_,by decide,.inr (.inl ⟨a1,Z,Z⟩),Z,Z⟩⟩,H.perm 7 [2,5,0,3,6] Z Z⟩
 have H:=g.l7;refine Z0 14 [4] Z ?_;replace H:=H.f4.f3;refine AS (Sep z (stB ps pd k x lp md un mo::blk b1 [I y.gen,I y.epoch,I y.pages,I y.start,I y.len,I y.head,I y.seq] 148::R)) 11 Z J (A4 H λw g=>?_);have H:=g.l7;refine AZ [0,1,2,3,4,5,6,7,8] [0,0,0,1,0,0,1,7] [] (by exact H.pick 7 [0,1] Z) Z J Z (AE [9] J O (Al (Br Z Z Z Z Z Z (λw=>call93 _ w) (Ox y (by show y.Ok ((hwD D (pgLst f a)).n:Int);rw[Fa];exact a7) (λi=>by show ([]:List (List UInt8)).length<=_;simp)) H.f5.f3 Z ?_)));rintro _ w _ (⟨a5,rfl,rfl⟩|⟨a5,rfl,rfl⟩) g
 ·have H:=g.l7;refine Az (H.pick 7 [2,3] Z) (AZ [10] [] [] (by exact H.pick 7 [2,3] Z) Z J Z (a_done J (gn (Z0 15 [3] Z (Zr Z ?_)))));replace H:=(H.toPgs 5 Z t).l7
  exact ⟨_,⟨a,m,.inr ⟨_,_,by decide,.inr (.inr ⟨a5,Z,Z⟩),Z,Z⟩⟩,H.perm 7 [2,1,0,5,6] Z Z⟩
 have H:=g.l7;refine Az (H.pick 7 [2,3] Z) (AZ [10] [] [] (by exact H.pick 7 [2,3] Z) Z J Z (a_done J (gn (Z4 25 [4,3,7,2,2,10,2,0] H Z ?_))));intro w H;refine KK Z Z (Jo 5 (e:=109) H Z Z J Z) ?_;rintro _ w ⟨rfl,H⟩;refine Zc 8 Z (Zr Z ?_);replace H:=(H.toPgs 5 Z (PgsIn.none hq clk)).l7;exact ⟨_,⟨a,m,.inl ⟨Z,Z⟩⟩,H.perm 7 [2,1,0,5,6] Z Z⟩
theorem YX(ps pd a md:Nat)(x:Sup):Ak 105 [Y ps] [stB ps pd a x u md b y] (λv G=>v=.tuple #[]/\G=[stB ps pd a x u md false (.map none)]):=by
 intro z R w H;refine Ae func105 Z ntmps105 Z (Z4 10 [11,0,12,0] H Z ?_);intro w H;refine Zf Z ?_;exact ⟨_,⟨Z,Z⟩,H⟩
theorem YY(ps pd a md:Nat)(x:Sup):Ak 46 [Y ps] [stB ps pd a x u md false y] (λv G=>v=I 0/\∃m,G=[stB ps pd a x u md true (.map (some m)),AJ m [] 0]):=by
 intro z R w H;refine Ae func46 Z ntmps46 Z (Z4 28 [11,0,0,11,0] H Z ?_);intro w H;refine AU Z (F9 H Z) ?_;rintro _ w ⟨b,rfl,H⟩;refine Z4 11 [12,1] H Z ?_;intro w H;refine Zr Z ?_;exact ⟨_,⟨Z,b,Z⟩,H.perm 2 [1,0] Z Z⟩
theorem Qu(ps pd a md:Nat)(x:Sup):Ak 108 [Y ps] [stB ps pd a x u md b y] (λv G=>v=.agg #[I x.gen,I x.epoch,I x.pages,I x.start,I x.len,I x.head,I x.seq]/\G=[stB ps pd a x u md b y]):=by
 intro z R w H;refine Ae func108 Z ntmps108 Z (Za 2 [] H Z ?_);intro c w H;refine Z4 12 [2,1,7,0] H Z ?_;intro w H;refine Zl [0,7] H Z ?_;exact ⟨_,⟨Z,Z⟩,H.perm 2 [1] Z Z⟩
theorem GW(p:Pg)(f:Value)(d:∀h,A h->rdH 1 f 240 (p.body.map u8) h)(hp:p.Ok):Ak 102 [.agg #[I p.kind,f]] [A] (λv G=>∃e,v=.agg #[I p.kind,e]/\G=[grow 5 1 e 240 (p.body.map u8),A]):=by
 intro z R w H;replace H:=H.l1;obtain ⟨b,o,c,rfl⟩:=H.sy 0 (λq=>(d _ q).sl (by simp[hp.2]));have j:=d;refine Ae func102 Z ntmps102 Z (Za 2 [] H Z ?_);intro g w H;refine Za 0 [] H Z ?_;intro i w H;refine Zc 3 Z ?_;replace H:=H.f1.f2;refine AS (Sep z (A::blk g [I p.kind,.slice (some ⟨b,o,none⟩) 240 c] 109::R)) 7 Z J (A4 H λw k=>?_);have H:=k.l3;refine AZ [0,1,2,3] [0,1,0,1,1,0] [] (by exact H.pick 3 [0,1] Z) Z J Z (AE [4] J O (Al (Br Z Z Z Z Z Z (λw=>call158 _ w) (Vq 240 p.body j U) H Z ?_)));rintro e w _ ⟨_,rfl,rfl⟩ H;replace H:=H.l4;obtain ⟨a,c1,rfl⟩:=H.sy 0 (·.slc);have H:Sep z (grow 5 1 (.slice a 240 c1) 240 (p.body.map u8)::A::blk g [I p.kind,.slice (some ⟨b,o,none⟩) 240 c] 109::blk i [I 0,.slice none 0 0] 109::R) w:=H;refine Az (H.pick 4 [1,2] Z) (AZ [5] [] [] (by exact H.pick 4 [1,2] Z) Z J Z (AE [6] J O (Al (Bl Z Z Z (Am 3 H Z Z Z Z (vs:=[I p.kind,.slice a 240 c1]) Z (by simp[u8,u32,Value.oneCell']) J O (out:=[I p.kind,.slice a 240 c1]) Z) ?_))));rintro w H;replace H:=H.l4;refine Az (H.pick 4 [1,2] Z) (a_done J (gn (Zc 2 Z (Zl [3,2] H Z ?_))));exact ⟨_,⟨_,Z,Z⟩,H.perm 4 [0,1] Z Z⟩
set_option maxHeartbeats 2000000 in
theorem VL (ps pd l md:Nat) (x:Sup) (f:BF) (hq:Hp) (D:Dsk) (n:Nat) (hn:(n:Int)<x.pages) (s:D.f1=0) (a0:x.Ok (D.n:Int)) (q j:Pg) (k:q=(f n).getD j) (hB:f n=none->HomeP (D.cont (2+n)) n j):Ak 68 [Y ps,I (n:Int)] [stB ps pd l x u md b (.map none),tblA l,diskA pd D,pgsA md f hq,poolA hq] (λv G=>(q=noPg/\v=.tuple #[.agg #[I 0,.slice none 0 0],I 0]/\G=[stB ps pd l x u md b (.map none),tblA l,diskA pd D,pgsA md f hq,poolA hq])\/(q.Ok/\∃d,v=.tuple #[.agg #[I q.kind,d],I 0]/\G=[grow 5 1 d 240 (q.body.map u8),stB ps pd l x u md b (.map none),tblA l,diskA pd D,pgsA md f hq,poolA hq])):=by
 intro z R w H;replace H:=H.l5;have a4:=a0.2;obtain ⟨es,clk,g,H⟩:=H.pgs 3 Z;replace H:=H.l5;refine Ae func68 Z ntmps68 Z (Za 2 [] H Z ?_);intro b1 w H;refine Z0 9 [0] Z (An 16 Z (λh1=>U) (λh1=>?_));refine Z2 10 [2,4,1,0,0] H Z (Af Z (λh2=>U) (λh2=>?_));refine Z2 10 [12,1,0] H Z (Ad Z (Ru (e:=109) (zv:=.agg #[I 0,.slice none 0 0]) Z J J Z Z) (Za 3 [] H Z ?_));intro b2 w H;refine Z4 20 [0,10,2,0] H Z ?_;intro w H;rcases g.get n with ⟨hf,hg⟩|⟨p,o,hf,c,m,hg⟩
 ·refine Ad Z (DK (e:=109) (zv:=.agg #[I 0,.slice none 0 0]) Z J J Z Z (AB (H.bk 5 Z))) (AD 44 (v:=.tuple #[.agg #[I 0,.slice none 0 0],.bool false]) Z (by simp[CR,hg]) (Za 3 [] H Z ?_));intro b3 w H;refine Z5 20 [0,0,3,0] [(2:Int)+(n:Int)] H Z U ?_;intro w H;refine Au Z (call128 _) (I0) H.f5 ?_;rintro _ w _ (⟨t,_,_⟩|⟨_,t,_,_⟩|⟨_,_,gb,a3,rest,rfl,⟨cg,cc,cl⟩,rfl⟩) H'
  ·exact absurd ⟨by omega,by omega⟩ t
  ·(rw[s] at t;cases t)
  rw[diskA.f1 s,show ((2:Int)+(n:Int)).toNat=2+n from by omega] at H';have H:=H'.l9;refine Z2 25 [4,1,5,0] H Z ?_;rcases hB (by simp_all) with ⟨hz,rfl⟩|⟨a,r⟩
  ·refine z_E_ Z (call129 _) (Lh (D.cont (2+n)) (λh q=>EG q (by rw[hz];first|rfl|exact FT a) ⟨cg,cc,cl⟩) n hz) H.f6 ?_;intro w H;refine Za 3 [] H Z ?_;intro b4 w H;refine Z4 22 [0,0,2,6] H Z ?_;intro w H;refine Zl [6,2] H Z ?_;replace H:=(H.toPgs 8 Z g).l10
   exact ⟨_,.inl ⟨by first|(rw[k];simp_all;done)|(simp_all;done),rfl,rfl⟩,H.perm 10 [7,1,3,8,9] rfl rfl⟩
  refine Au Z (call129 _) (MM (D.cont (2+n)) (λh q=>EG q (by rw[r];first|rfl|exact FT a) ⟨cg,cc,cl⟩) n j a U r) H.f6 ?_;rintro _ w _ ⟨d,rfl,rfl⟩ H;replace H:=H.l10;have i:=H.sy 0 (·.slc);refine Za 3 [] H Z ?_;intro b5 w H;refine AC Z Z (Am 0 H Z Z Z Z (vs:=[I j.kind,d]) Z (Ab Z (Ab i.one Aw)) J O (out:=[I j.kind,d]) Z) ?_;rintro w H;replace H:=H.l11;refine Z2 16 [0,2] H Z (AC Z Z (Am 7 H Z Z Z Z (vs:=[I j.kind,d]) Z (Ab Z (Ab i.one Aw)) J O (out:=[I j.kind,d]) Z) ?_);rintro w H;replace H:=H.l11;refine Zc 4 Z (Zl [7,2] H Z ?_);replace H:=(H.toPgs 9 Z g).l11;obtain rfl:q=j:=by rw[k];simp_all
  exact ⟨_,.inr ⟨by first|exact c|exact hpoko|exact a,_,rfl,rfl⟩,H.perm 11 [1,8,2,4,9,10] rfl rfl⟩
 have a2:=c.1;have y:Slc o 240:=m.slc;refine Ad Z (DK (e:=109) (zv:=.agg #[I 0,.slice none 0 0]) Z J J Z Z (AB (H.bk 5 Z))) (AD 44 (v:=.tuple #[.agg #[I p.kind,o],.bool true]) Z (by simp[CR,hg]) (Za 3 [] H Z ?_));intro b6 w H;refine AC Z Z (Am 0 H Z Z Z Z (vs:=[I p.kind,o]) Z (Ab Z (Ab y.one Aw)) J O (out:=[I p.kind,o]) Z) ?_;rintro w H;replace H:=H.l8;refine Z2 12 [0,2] H Z (Au Z (call102 _) (GW p o (λh q=>m.le q) c) H.f7 ?_);rintro _ w _ ⟨d,rfl,rfl⟩ H;replace H:=H.l9;have i:=H.sy 0 (·.slc);refine AC Z Z (Am 4 H Z Z Z Z (vs:=[I p.kind,d]) Z (Ab Z (Ab i.one Aw)) J O (out:=[I p.kind,d]) Z) ?_;rintro w H;replace H:=H.l9;refine Zc 4 Z (Zl [4,2] H Z ?_);replace H:=(H.toPgs 8 Z g).l9;obtain rfl:q=p:=by rw[k];simp_all
 exact ⟨_,.inr ⟨by first|exact c|exact hpoko|exact a,_,rfl,rfl⟩,H.perm 9 [0,5,6,7,8,1] rfl rfl⟩
set_option maxHeartbeats 2000000 in
theorem VM (ps pd pt md mo:Nat) (x:Sup) (f g:BF) (k:Nat) (hq:Hp) (D:Dsk) (n:Nat) (hn:(n:Int)<x.pages) (a3:D.f1=0) (a7:x.Ok (D.n:Int)) (q y:Pg) (s:q=((g n).or (f n)).getD y) (hB:(g n).or (f n)=none->HomeP (D.cont (2+n)) n y):Ak 68 [Y ps,I (n:Int)] [stB ps pd pt x u md b (.map (some mo)),tblA pt,diskA pd D,pgsA md f hq,Ev mo g k hq,poolA hq] (λv G=>(q=noPg/\v=.tuple #[.agg #[I 0,.slice none 0 0],I 0]/\G=[stB ps pd pt x u md b (.map (some mo)),tblA pt,diskA pd D,pgsA md f hq,Ev mo g k hq,poolA hq])\/(q.Ok/\∃l,v=.tuple #[.agg #[I q.kind,l],I 0]/\G=[grow 5 1 l 240 (q.body.map u8),stB ps pd pt x u md b (.map (some mo)),tblA pt,diskA pd D,pgsA md f hq,Ev mo g k hq,poolA hq])):=by
 intro z R w H;replace H:=H.l6;have c2:=a7.2;obtain ⟨es,clk,o,H⟩:=H.pgs 3 Z;replace H:=H.l6;obtain ⟨b9,b8,i,j,H⟩:=H.pgsc 4 Z;replace H:=H.l6;refine Ae func68 Z ntmps68 Z (Za 2 [] H Z ?_);intro b1 w H;refine Z0 9 [0] Z (An 16 Z (λh1=>U) (λh1=>?_));refine Z2 10 [2,4,1,0,0] H Z (Af Z (λh2=>U) (λh2=>?_));refine Z2 10 [12,1,0] H Z ?_;rcases i.get n with ⟨a6,a0⟩|⟨po,r,a6,a,t,a0⟩
 ·refine Ad Z (DK (e:=109) (zv:=.agg #[I 0,.slice none 0 0]) Z J J Z Z (AB (H.bk 5 Z))) (AD 32 (v:=.tuple #[.agg #[I 0,.slice none 0 0],.bool false]) Z (by simp[CR,a0]) (Za 3 [] H Z ?_));intro b2 w H;refine Z4 20 [0,10,2,0] H Z ?_;intro w H;rcases o.get n with ⟨hf,hg⟩|⟨p,pv,hf,d,a1,hg⟩
  ·refine Ad Z (DK (e:=109) (zv:=.agg #[I 0,.slice none 0 0]) Z J J Z Z (AB (H.bk 5 Z))) (AD 44 (v:=.tuple #[.agg #[I 0,.slice none 0 0],.bool false]) Z (by simp[CR,hg]) (Za 3 [] H Z ?_));intro b3 w H;refine Z5 20 [0,0,3,0] [(2:Int)+(n:Int)] H Z U ?_;intro w H;refine Au Z (call128 _) (I0) H.f5 ?_;rintro _ w _ (⟨hx,_,_⟩|⟨_,hx,_,_⟩|⟨_,_,gb,c1,rest,rfl,⟨cg,cc,cl⟩,rfl⟩) H'
   ·exact absurd ⟨by omega,by omega⟩ hx
   ·(rw[a3] at hx;cases hx)
   rw[diskA.f1 a3,show ((2:Int)+(n:Int)).toNat=2+n from by omega] at H';have H:=H'.l10;refine Z2 25 [4,1,5,0] H Z ?_;rcases hB (by simp_all) with ⟨hz,rfl⟩|⟨c,a2⟩
   ·refine z_E_ Z (call129 _) (Lh (D.cont (2+n)) (λh q=>EG q (by rw[hz];first|rfl|exact FT c) ⟨cg,cc,cl⟩) n hz) H.f6 ?_;intro w H;refine Za 3 [] H Z ?_;intro b4 w H;refine Z4 22 [0,0,2,6] H Z ?_;intro w H;refine Zl [6,2] H Z ?_;replace H:=(H.toPgs 8 Z o).l11
    replace H:=(H.toPgsc 9 Z i j).l11;exact ⟨_,.inl ⟨by first|(rw[s];simp_all;done)|(simp_all;done),rfl,rfl⟩,H.perm 11 [7,1,3,8,9,10] rfl rfl⟩
   refine Au Z (call129 _) (MM (D.cont (2+n)) (λh q=>EG q (by rw[a2];first|rfl|exact FT c) ⟨cg,cc,cl⟩) n y c U a2) H.f6 ?_;rintro _ w _ ⟨l,rfl,rfl⟩ H;replace H:=H.l11;have m:=H.sy 0 (·.slc);refine Za 3 [] H Z ?_;intro b5 w H;refine AC Z Z (Am 0 H Z Z Z Z (vs:=[I y.kind,l]) Z (Ab Z (Ab m.one Aw)) J O (out:=[I y.kind,l]) Z) ?_;rintro w H;replace H:=H.l12;refine Z2 16 [0,2] H Z (AC Z Z (Am 7 H Z Z Z Z (vs:=[I y.kind,l]) Z (Ab Z (Ab m.one Aw)) J O (out:=[I y.kind,l]) Z) ?_);rintro w H;replace H:=H.l12;refine Zc 4 Z (Zl [7,2] H Z ?_);replace H:=(H.toPgs 9 Z o).l12;replace H:=(H.toPgsc 10 Z i j).l12;obtain rfl:q=y:=by rw[s];simp_all
   exact ⟨_,.inr ⟨by first|exact d|exact a|exact c,_,rfl,rfl⟩,H.perm 12 [1,8,2,4,9,10,11] rfl rfl⟩
  have c0:=d.1;have a5:Slc pv 240:=a1.slc;refine Ad Z (DK (e:=109) (zv:=.agg #[I 0,.slice none 0 0]) Z J J Z Z (AB (H.bk 5 Z))) (AD 44 (v:=.tuple #[.agg #[I p.kind,pv],.bool true]) Z (by simp[CR,hg]) (Za 3 [] H Z ?_));intro b6 w H;refine AC Z Z (Am 0 H Z Z Z Z (vs:=[I p.kind,pv]) Z (Ab Z (Ab a5.one Aw)) J O (out:=[I p.kind,pv]) Z) ?_;rintro w H;replace H:=H.l9;refine Z2 12 [0,2] H Z (Au Z (call102 _) (GW p pv (λh q=>a1.le q) d) H.f8 ?_);rintro _ w _ ⟨l,rfl,rfl⟩ H;replace H:=H.l10;have m:=H.sy 0 (·.slc);refine AC Z Z (Am 4 H Z Z Z Z (vs:=[I p.kind,l]) Z (Ab Z (Ab m.one Aw)) J O (out:=[I p.kind,l]) Z) ?_;rintro w H;replace H:=H.l10;refine Zc 4 Z (Zl [4,2] H Z ?_);replace H:=(H.toPgs 8 Z o).l10;replace H:=(H.toPgsc 9 Z i j).l10;obtain rfl:q=p:=by rw[s];simp_all
  exact ⟨_,.inr ⟨by first|exact d|exact a|exact c,_,rfl,rfl⟩,H.perm 10 [0,5,6,7,8,9,1] rfl rfl⟩
 have a9:=a.1;have a4:Slc r 240:=t.slc;refine Ad Z (DK (e:=109) (zv:=.agg #[I 0,.slice none 0 0]) Z J J Z Z (AB (H.bk 5 Z))) (AD 32 (v:=.tuple #[.agg #[I po.kind,r],.bool true]) Z (by simp[CR,a0]) (Za 3 [] H Z ?_));intro b7 w H;refine AC Z Z (Am 0 H Z Z Z Z (vs:=[I po.kind,r]) Z (Ab Z (Ab a4.one Aw)) J O (out:=[I po.kind,r]) Z) ?_;rintro w H;replace H:=H.l8;refine Z2 12 [0,2] H Z (Au Z (call102 _) (GW po r (λh q=>t.le q) a) H.f7 ?_);rintro _ w _ ⟨l,rfl,rfl⟩ H;replace H:=H.l9;have m:=H.sy 0 (·.slc);refine AC Z Z (Am 3 H Z Z Z Z (vs:=[I po.kind,l]) Z (Ab Z (Ab m.one Aw)) J O (out:=[I po.kind,l]) Z) ?_;rintro w H;replace H:=H.l9;refine Zc 4 Z (Zl [3,2] H Z ?_);replace H:=(H.toPgs 7 Z o).l9;replace H:=(H.toPgsc 8 Z i j).l9;obtain rfl:q=po:=by rw[s];simp_all
 exact ⟨_,.inr ⟨by first|exact d|exact a|exact c,_,rfl,rfl⟩,H.perm 9 [0,4,5,6,7,8,1] rfl rfl⟩
set_option maxHeartbeats 2000000 in
theorem VN (ps pd y md f:Nat) (x:Sup) (g:BF) (k:Nat) (hq:Hp) (n:Nat) (hn:(n:Int)<x.pages) (p:Pg) (hp:p.Ok) (bv:Value) (A:Ai) (hA:∀h,A h->rdH 1 bv 240 (p.body.map u8) h):Ak 48 [Y ps,I (n:Int),.agg #[I p.kind,bv]] [stB ps pd y x u md true (.map (some f)),Ev f g k hq,poolA hq,A] (λv G=>((g n=none/\40<=k)/\v=I 16/\G=[stB ps pd y x u md true (.map (some f)),Ev f g k hq,poolA hq,A])\/(¬(g n=none/\40<=k)/\∃a,CL hq a/\v=I 0/\G=[stB ps pd y x u md true (.map (some f)),Ev f (pgSet g n p) (k+(if (g n).isSome then 0 else 1)) a,poolA a,A])):=by
 intro z R w H;replace H:=H.l4;obtain ⟨s,o,d,c,H⟩:=H.pgsc 1 Z;replace H:=H.l4;obtain ⟨bb,oo,cc,rfl⟩:=H.sy 3 (λq=>(hA _ q).sl (by simp[hp.2]));have a7:=hp.1;have a6:(s.map PgE.ie).length=k:=by simp[c]
 refine Ae func48 Z ntmps48 Z (Za 2 [] H Z ?_);intro b1 w H;refine Z2 10 [12,1,0] H Z ?_;rcases d.get n with ⟨m,a0⟩|⟨po,l,m,a1,a2,a0⟩
 ·refine Ad Z (DK (e:=109) (zv:=.agg #[I 0,.slice none 0 0]) Z J J Z Z (AB (H.bk 2 Z))) (AD 15 (v:=.tuple #[.agg #[I 0,.slice none 0 0],.bool false]) Z (by simp[CR,a0]) (Za 3 [] H Z ?_));intro b2 w H;refine Z4 22 [0,11,2,0,0] H Z ?_;intro w H;refine An 27 Z (λh1=>U) (λh1=>?_)
  refine Z2 11 [2,4,2,0,0] H Z (Af Z (λh2=>U) (λh2=>?_));refine Z2 6 [0,1,0,0] H Z (An 40 Z (λh3=>U) (λh3=>?_));refine Z2 5 [0,1,0,0] H Z (An 45 Z (λh4=>U) (λh4=>?_));refine Z2 18 [1,1,0,4,12,2,0] H Z (Ad Z (NX (e:=109) Z J Z (AB (H.bk 3 Z))) (Z0 5 [0] Z (Af Z (λh5=>?_) (λh5=>?_))))
  ·refine Zc 6 Z (Zr Z ?_);replace H:=(H.toPgsc 3 Z d c).l6
   exact ⟨_,.inl ⟨⟨m,by omega⟩,Z,Z⟩,H.perm 6 [2,3,4,5] Z Z⟩
  refine Zc 4 Z ?_;replace H:=H.f1.f2;refine AS (Sep z (stB ps pd y x u md true (.map (some f))::blk b1 [I p.kind,.slice (some ⟨bb,oo,none⟩) 240 cc] 109::R)) 8 Z J (A4 H λw H'=>?_);have H:=H'.l6;refine AZ [0,1,2,3,4,5] [12,0,0,1,2] [] (by exact H.pick 6 [0,1] Z) Z J Z (AE [6] J O (Al (Br Z Z Z Z Z Z (λw=>call102 _ w) (GW p _ hA hp) H.f5 Z ?_)));rintro _ w _ ⟨v1,rfl,rfl⟩ H;replace H:=H.l7;refine Az (H.pick 7 [2,3] Z) (AE [7] J O (Al (Bl Z Z Z (DP 5 (e:=109) H Z Z J Z Z Z) ?_)));rintro w H;replace H:=H.l7;refine Az (H.pick 7 [2,3] Z) (a_done J (gn (Zc 7 Z (Zr Z ?_))));replace H:=H.f6;obtain ⟨a,⟨b,i⟩,H⟩:=DX H (λh q=>q.rd);replace H:=H.l6;obtain ⟨es2,t,j,r⟩:=(d.le b).put (k:=n) (p:=p) hp i;rw[t] at H;have H:Sep z (poolA a::A::stB ps pd y x u md true (.map (some f))::blk b1 [I p.kind,.slice (some ⟨bb,oo,none⟩) 240 cc] 109::blk b2 [I 0,.slice none 0 0] 109::AJ f (es2.map PgE.ie) (putC (s.map PgE.ie) (n:Int) o)::R) w:=H;replace H:=(H.toPgsc 5 Z j (by rw[r,c])).l6;exact ⟨_,.inr ⟨λq=>by first|(rw[m] at q;cases q.1;done)|omega,a,b,rfl,rfl⟩,H.perm 6 [2,5,0,1] rfl rfl⟩
 have a3:Slc l 240:=a2.slc;refine Ad Z (DK (e:=109) (zv:=.agg #[I 0,.slice none 0 0]) Z J J Z Z (AB (H.bk 2 Z))) (AD 15 (v:=.tuple #[.agg #[I po.kind,l],.bool true]) Z (by simp[CR,a0]) (Za 3 [] H Z ?_));intro b3 w H;refine AC Z Z (Am 0 H Z Z Z Z (vs:=[I po.kind,l]) Z (Ab Z (Ab a3.one Aw)) J O (out:=[I po.kind,l]) Z) ?_;rintro w H;replace H:=H.l6;refine Z2 21 [11,2,0,0] H Z (An 27 Z (λh6=>U) (λh6=>?_));refine Z2 11 [2,4,2,0,0] H Z (Af Z (λh7=>U) (λh7=>?_));refine Z2 6 [0,1,0,0] H Z (An 40 Z (λh8=>U) (λh8=>?_));refine Z2 5 [0,1,0,0] H Z (An 45 Z (λh9=>U) (λh9=>?_));refine Z2 29 [1,1,0,4] H Z ?_;replace H:=H.f1.f2;refine AS (Sep z (stB ps pd y x u md true (.map (some f))::blk b1 [I p.kind,.slice (some ⟨bb,oo,none⟩) 240 cc] 109::R)) 8 Z J (A4 H λw H'=>?_);have H:=H'.l6;refine AZ [0,1,2,3,4,5] [12,0,0,1,2] [] (by exact H.pick 6 [0,1] Z) Z J Z (AE [6] J O (Al (Br Z Z Z Z Z Z (λw=>call102 _ w) (GW p _ hA hp) H.f5 Z ?_)));rintro _ w _ ⟨v1,rfl,rfl⟩ H;replace H:=H.l7;refine Az (H.pick 7 [2,3] Z) (AE [7] J O (Al (Bl Z Z Z (DP 5 (e:=109) H Z Z J Z Z Z) ?_)));rintro w H;replace H:=H.l7;refine Az (H.pick 7 [2,3] Z) (a_done J (gn (Zc 7 Z (Zr Z ?_))));replace H:=H.f6;obtain ⟨a,⟨b,i⟩,H⟩:=DX H (λh q=>q.rd);replace H:=H.l6;obtain ⟨es2,t,j,r⟩:=(d.le b).put (k:=n) (p:=p) hp i;rw[t] at H;have H:Sep z (poolA a::A::stB ps pd y x u md true (.map (some f))::blk b1 [I p.kind,.slice (some ⟨bb,oo,none⟩) 240 cc] 109::blk b3 [I po.kind,l] 109::AJ f (es2.map PgE.ie) (putC (s.map PgE.ie) (n:Int) o)::R) w:=H;replace H:=(H.toPgsc 5 Z j (by rw[r,c])).l6;exact ⟨_,.inr ⟨λq=>by first|(rw[m] at q;cases q.1;done)|omega,a,b,rfl,rfl⟩,H.perm 6 [2,5,0,1] rfl rfl⟩
section
theorem JB{s:Sup}(hs:SOk s)(x:Int):s.start<=(ringAt s x:Int)/\(ringAt s x:Int)<s.start+s.len:=by
 have c:=hs.start;have d:=hs.head;have a:=Agn x (by omega:s.len≠0);have b:=Af6 x (by omega:0<s.len);unfold ringAt;omega
def Oz(s:Sup)(D D':Dsk):Prop:=∀i:Nat,s.start<=(i:Int)->(i:Int)<s.start+s.len->D'.dur i=D.dur i/\D'.ver i=D.ver i
def SameOut(s:Sup)(D D':Dsk):Prop:=∀i:Nat,¬(s.start<=(i:Int)/\(i:Int)<s.start+s.len)->D'.dur i=D.dur i/\D'.ver i=D.ver i
theorem PInv.out{D D':Dsk}{s:Sup}{rs:List Rc}{f:List (List UInt8)}{a q u:Int}{b:Bool}{sure:Nat}(h:PInv D s rs f a q u b sure)(hs:SOk s)(g:Oz s D D'):PInv D' s rs f a q u b sure:=by
 have d:∀x:Int,D'.dur (ringAt s x)=D.dur (ringAt s x)/\D'.ver (ringAt s x)=D.ver (ringAt s x):=λx=>g _ (JB hs x).1 (JB hs x).2;refine ⟨h.fa,h.fq,h.fu,h.ul,h.pb,h.part,h.recs,λi hi c e=>h.old i hi c ?_,λi c e=>?_,λi c e=>?_,h.sure⟩
 ·unfold Dp at e ⊢;rwa[(d _).1,(d _).2] at e
 ·have:=h.last i c e
  unfold Dsk.cont at this ⊢;rw[(d _).1,(d _).2];exact this
 rw[(d _).1,(d _).2];exact h.dura i c e
theorem RK{f:BF}{ims:List Img}(h:(f n).isSome=true):(EL f ims n).isSome=true:=by rw[Qj,h];rfl
theorem Gm(a:List Rc):∀(rs:List Rc) {n:Nat},(ov rs n).isSome=true->(ov (rs++a) n).isSome=true:=by
 induction a with
 | nil=>intro rs n h;rwa[AeY]
 | cons r a ih=>
  intro rs n h;rw[show rs++r::a=(rs++[r])++a from by simp];exact ih _ (by rw[Ju];exact RK h)
theorem HT{rs:List Rc}(h:(ov (rs.take m) n).isSome=true):(ov rs n).isSome=true:=by
 have:=Gm (rs.drop m) _ h;rwa[AeO] at this
structure Clean(D:Dsk):Prop where
 f1:D.f1=0
 f2:D.f2=0
 f3:D.f3=0
 cut:D.cut=false
theorem Clean.bad{D:Dsk}(h:Clean D):¬D.bad:=by
 rintro (g|⟨g,_⟩)
 ·rw[h.f2] at g;cases g
 rw[h.cut] at g;cases g
theorem Clean.flb{D:Dsk}(h:Clean D):¬D.flb:=by
 rintro (g|⟨g,_⟩)
 ·rw[h.f3] at g;cases g
 rw[h.cut] at g;cases g
theorem Clean.wr1{D:Dsk}(h:Clean D)(b:Bool)(x:Nat)(p:List UInt8):Clean (wr1 D b x p):=by
 have a:=Dsk.ws_f b [p] {D with f2:=Bm D.f2} x;refine ⟨a.1.trans h.f1,a.2.1.trans ?_,a.2.2.1.trans h.f3,a.2.2.2.1.trans h.cut⟩;show Bm D.f2=0;rw[h.f2];rfl
theorem Clean.wr{D:Dsk}(h:Clean D)(x:Nat)(ps:List (List UInt8)):Clean (D.wr x ps):=by
 have a:=Dsk.ws_f false ps {D with f2:=Bm D.f2} x;refine ⟨a.1.trans h.f1,a.2.1.trans ?_,a.2.2.1.trans h.f3,a.2.2.2.1.trans h.cut⟩;show Bm D.f2=0;rw[h.f2];rfl
theorem Clean.hw(l:List (Nat×Pg)):∀{D:Dsk},Clean D->Clean (hwD D l):=by
 induction l with
 | nil=>intro D h;exact h
 | cons x l ih=>intro D h;rw[hwD_cons];exact ih (h.wr _ _)
theorem Clean.fl{D:Dsk}(h:Clean D):Clean D.fl:=⟨h.f1,h.f2,by show Bm D.f3=0;rw[h.f3];rfl,h.cut⟩
theorem Clean.sv{D:Dsk}(h:Clean D)(x:Sup):Clean (Fj D x):=h.wr1 true _ _
theorem Clean.setF{D:Dsk}(h:Clean D){l:List (Nat×Pg)}{c:Int}{a:Dsk}:¬LY D l c a:=by
 rintro (⟨j,g,_⟩|⟨g,_⟩|⟨g,_⟩)
 ·exact (h.hw _).bad g
 ·exact (h.hw _).flb g
 exact (h.hw _).fl.bad g

structure SInv(D:Dsk)(x:Sup)(B:Nat->Pg)(rs:List Rc)(ptl:List (List UInt8))(a q u:Int)(b:Bool)(sure:Nat):Prop where
 ok:x.Ok (D.n:Int)
 p:PInv D x rs ptl a q u b sure
 s:SOk x
 gen:1<=x.gen
 num:∀r∈rs,∀m∈r.ims,m.num<x.pages
 home:∀i:Nat,(i:Int)<x.pages->∀c,Dp D (2+i) c->HomeP c i (B i)\/((ov (rs.take sure) i).isSome=true/\∃p,HomeP c i p)
 sup:D.dur (x.gen%2).toNat=DE x/\D.ver (x.gen%2).toNat=[]
 oth:∃y:Sup,y.Ok (D.n:Int)/\y.gen=x.gen-1/\D.dur ((x.gen+1)%2).toNat=DE y/\D.ver ((x.gen+1)%2).toNat=[]
 rest:∀i:Nat,2+x.pages<=(i:Int)->¬(x.start<=(i:Int)/\(i:Int)<x.start+x.len)->∀c,Dp D i c->∀e q,Tg c e q->e<=x.epoch
variable{D D':Dsk}{x:Sup}{B:Nat->Pg}{rs:List Rc}{ptl:List (List UInt8)}{a q u:Int}{b:Bool}{sure:Nat}
theorem SInv.cur(h:SInv D x B rs ptl a q u b sure)(hi:(i:Int)<x.pages)(c:ov rs i=none):HomeP (D.cont (2+i)) i (B i):=by
 rcases h.home i hi _ (cont_has D _) with g|⟨g,_⟩
 ·exact g
 have:=HT g;rw[c] at this;cases this
theorem SInv.ovb(h:SInv D x B rs ptl a q u b sure)(c:(ov rs n).isSome=true):(n:Int)<x.pages:=by
 obtain ⟨p,hp⟩:=Afb.1 c;obtain ⟨r,d,m,e,i,_⟩:=KY _ rs Z hp;have f:=h.num r d m e;have g:=h.ok.2;omega
theorem SInv.ovok(h:SInv D x B rs ptl a q u b sure){p:Pg}(c:ov rs n=some p):p.Ok:=by
 obtain ⟨r,d,m,e,_,rfl⟩:=KY _ rs Z c;obtain ⟨j,f⟩:=Ae5 d;exact Qi ((h.p.recs j r f).2.2 m e)
theorem SInv.f(h:SInv D x B rs ptl a q u b sure)(k:D'.n=D.n)(e:D'.dur=D.dur)(j:D'.ver=D.ver):SInv D' x B rs ptl a q u b sure:=
 ⟨by rw[k];exact h.ok,h.p.f e j,h.s,h.gen,h.num,λi hi c g=>h.home i hi c (by unfold Dp at g ⊢;rwa[e,j] at g),by rw[e,j];exact h.sup,by
  obtain ⟨y,a,b,c,d⟩:=h.oth;exact ⟨y,by rw[k];exact a,b,by rw[e];exact c,by rw[j];exact d⟩,λi hi l c g=>h.rest i hi l c (by unfold Dp at g ⊢;rwa[e,j] at g)⟩
theorem SInv.log(h:SInv D x B rs ptl a q u b sure)(o:D'.n=D.n)(w:SameOut x D D'){e:List Rc}{f:List (List UInt8)}{v:Int}{b':Bool}(hp:PInv D' x e f t p v b' sure)(l:e.take sure=rs.take sure)(k:∀r∈e,∀m∈r.ims,m.num<x.pages):SInv D' x B e f t p v b' sure:=by
 have hk:=h.ok.2;have z:=h.gen;have g:∀i:Nat,(i:Int)<x.start->D'.dur i=D.dur i/\D'.ver i=D.ver i:=λi hi=>w i U;refine ⟨by rw[o];exact h.ok,hp,h.s,z,k,λi hi c j=>?_,?_,?_,λi hi l c j=>h.rest i hi l c (by have:=w i l;unfold Dp at j ⊢;rwa[this.1,this.2] at j)⟩
 ·have:=g (2+i) U
  unfold Dp at j;rw[this.1,this.2] at j;rw[l];exact h.home i hi c j
 ·have:=g (x.gen%2).toNat U
  rw[this.1,this.2];exact h.sup
 obtain ⟨y,a,b,c,d⟩:=h.oth;have:=g ((x.gen+1)%2).toNat U;exact ⟨y,by rw[o];exact a,b,by rw[this.1];exact c,by rw[this.2];exact d⟩
theorem EI{D:Dsk}(h:D.ver i=[]):D.cont i=D.dur i:=J4 h
theorem SInv.flush(h:SInv D x B rs ptl a q u b sure):SInv D.fl x B rs ptl a q u b rs.length:=by
 refine ⟨h.ok,h.p.flush,h.s,h.gen,h.num,λi hi c e=>?_,?_,?_,λi hi f c e=>h.rest i hi f c (fl_has e)⟩
 ·rw[Afa]
  rcases h.home i hi c (fl_has e) with g|⟨j,k⟩
  ·exact .inl g
  exact .inr ⟨HT j,k⟩
 ·exact ⟨(EI h.sup.2).trans h.sup.1,Z⟩
 obtain ⟨y,a,b,c,d⟩:=h.oth;exact ⟨y,a,b,(EI d).trans c,Z⟩
theorem YZ(c:x.Ok (D.n:Int)){l:List (Nat×Pg)}(b:∀y∈l,(y.1:Int)<x.pages):Oz x D (hwD D l):=λi hi _=>by
 have d:=c.2;refine ⟨by rw[KZ],K5 l D i λy a e=>?_⟩;have:=b y a;omega
theorem SInv.hw(h:SInv D x B rs ptl a q u b rs.length){l:List (Nat×Pg)}(n:∀y∈l,ov rs y.1=some y.2):SInv (hwD D l) x B rs ptl a q u b rs.length:=by
 have r:=h.gen;have k:∀y∈l,(y.1:Int)<x.pages:=λy j=>h.ovb (by rw[n y j];rfl);have f:∀i:Nat,i<2->(hwD D l).ver i=D.ver i:=λi hi=>K5 l D i λy _ e=>by omega
 refine ⟨by rw[Fa];exact h.ok,h.p.out h.s (YZ h.ok k),h.s,r,h.num,λi hi c m=>?_,?_,?_,λi hi o c m=>?_⟩
 ·rcases hw_has l D _ c m with g|⟨y,j,t,m⟩
  ·exact h.home i hi c g
  refine .inr ⟨?_,y.2,.inr ⟨h.ovok (n y j),?_⟩⟩
  ·rw[Afa,show i=y.1 from by omega,n y j];rfl
  rw[m,show i=y.1 from by omega]
 ·rw[KZ,f _ U];exact h.sup
 ·obtain ⟨y,a,b,c,d⟩:=h.oth
  exact ⟨y,by rw[Fa];exact a,b,by rw[KZ];exact c,by rw[f _ U];exact d⟩
 rcases hw_has l D _ c m with g|⟨y,j,t,_⟩
 ·exact h.rest i hi o c g
 have:=k y j;omega
theorem SInv.setF(h:SInv D x B rs ptl a q u b rs.length){g:List Int}(e:Fb (ov rs) g){c:Int}{k:Dsk}(n:LY D (pgLst (ov rs) g) c k):SInv k x B rs ptl a q u b rs.length:=by
 have i:∀l:List (Nat×Pg),(∀y∈l,y∈pgLst (ov rs) g)->SInv (hwD D l) x B rs ptl a q u b rs.length:=λl m=>h.hw λy d=>(Ex e y.1 y.2).1 (m y d);rcases n with ⟨j,_,_,rfl⟩|⟨_,_,rfl⟩|⟨_,_,rfl⟩
 ·exact (i _ λy d=>Afi d).f Z Z Z
 ·exact (i _ λy d=>d).f Z Z Z
 exact (i _ λy d=>d).flush.f Z Z Z
theorem SInv.settled(h:SInv D x B rs ptl a q u b rs.length)(f:Fb (ov rs) l)(hq:q<=1099511627776){y:Sup}(hy:y.Ok (D.n:Int))(h1:y.start=x.start)(o:y.len=x.len)(h3:y.epoch=x.epoch)(v:y.head=a)(h5:y.seq=q)(h6:y.pages=x.pages)(h7:y.gen=x.gen+1):
  SInv (Fj (hwD D (pgLst (ov rs) l)).fl y) y (pgMap (ov rs) B) [] [] a q 0 false 0:=by
 have hk:=h.ok.2;have hg:=h.gen;have k:SInv (hwD D (pgLst (ov rs) l)) x B rs ptl a q u b rs.length:=h.hw λz hz=>(Ex f z.1 z.2).1 hz;have j:=k.flush;have m:=h.p.at_ok h.s;have a5:=Sup.get hy;have a1:=h.p.fq;have a2:0<=q:=by split at a1<;>omega
 have a0:SOk y:=⟨by rw[h1];exact h.s.start,by rw[v,o];exact m,by rw[h3];exact h.s.epoch,by rw[h5];exact a2⟩;have w:Oz x (hwD D (pgLst (ov rs) l)).fl (Fj (hwD D (pgLst (ov rs) l)).fl y):=λi hi _=>by
  have:=ES (hwD D (pgLst (ov rs) l)).fl y i U;exact this
 have a3:=j.p.out h.s w;have t:=a3.drop h.s hq h1 o h3 v h5 U (by rw[v,o];exact m);refine ⟨by show y.Ok ((hwD D _).n:Int);rw[Fa];exact hy,t,a0,by omega,λr hr=>(by cases hr),λi hi c g=>.inl ?_,HO _ y,?_,λi hi hr c g e q' ht=>?_⟩
 ·have d:=ES (hwD D (pgLst (ov rs) l)).fl y (2+i) U
  unfold Dp at g;rw[d.1,d.2] at g;rcases g with rfl|g
  ·show HomeP ((hwD D (pgLst (ov rs) l)).cont (2+i)) i _
   unfold pgMap
   cases ho:ov rs i with
   | some p=>
    have hm:(i,p)∈pgLst (ov rs) l:=(Ex f i p).2 ho;rw[Xt D (EV f) (i,p) hm];exact .inr ⟨h.ovok ho,Z⟩
   | none=>
    rw[hw_cont_out _ D _ (λz hz e=>by
     have:=(Ex f z.1 z.2).1 hz;rw[show z.1=i from by omega,ho] at this;cases this)]
    exact h.cur U ho
  cases g
 ·refine ⟨x,by show x.Ok ((hwD D _).n:Int);rw[Fa];exact h.ok,by omega,?_⟩
  have d:=ES (hwD D (pgLst (ov rs) l)).fl y ((y.gen+1)%2).toNat U;rw[d.1,d.2,show (y.gen+1)%2=x.gen%2 from by omega];exact j.sup
 have d:=ES (hwD D (pgLst (ov rs) l)).fl y i U;unfold Dp at g;rw[d.1,d.2] at g;rw[h3];exact j.rest i U (by rwa[h1,o] at hr) c g e q' ht
theorem SInv.tags(h:SInv D x B rs ptl a q u b sure)(hq:q<=1099511627776){i:Nat}(hi:2+x.pages<=(i:Int)){c:List UInt8}(d:Dp D i c){e f:Int}(g:Tg c e f):e<=x.epoch:=by
 by_cases hr:x.start<=(i:Int)/\(i:Int)<x.start+x.len
 ·have k:0<x.len:=by have:=h.s.head;omega
  obtain ⟨j,m,l⟩:=Ol k x.head ((i:Int)-x.start);have hi:ringAt x ((i:Int)-x.start)=i:=by
   unfold ringAt;rw[Ago U U];omega
  have:=h.p.tags h.s hq m (c:=c) (by rw[<-l,hi];exact d) g;omega
 exact h.rest i hi hr c d e f g
theorem PInv.fresh{D:Dsk}{s:Sup}(hs:SOk s)(h:∀i:Nat,s.start<=(i:Int)->(i:Int)<s.start+s.len->∀c,Dp D i c->∀e q,Tg c e q->e<s.epoch):PInv D s [] [] s.head s.seq 0 false 0:=by
 refine ⟨?_,by simp,by simp[secs],by have:=hs.head;omega,λ_=>rfl,.inl Z,λj r h=>by simp at h,λi hi c a=>.inl λe q b=>.inl ?_,λi c h=>by simp[secs] at h,λi c h=>by simp[secs] at h,Ael _⟩
 ·rw[Int.add_zero,Ago hs.head.1 hs.head.2]
 have:=JB hs (s.head+i);exact h _ this.1 this.2 c a e q b
end
def Xz(c:Int)(ims:List Img)(room:Prop):Prop:=(c=16/\ims.length > 40)\/(c=1/\ims.length<=40/\(ims=[]\/¬EH ims))\/(c=15/\(1<=ims.length/\ims.length<=40)/\EH ims/\¬room)
structure OpM where
 k0:Int
 kd:Int
 fl:Int
 k4:Int
 k5:Int
 ns:List Int
abbrev OpE:=OpM×Value×Value
def OpE.cells(e:OpE):List Value:=[.int .i64 e.1.k0,e.2.1,.int .i64 e.1.kd,.int .i64 e.1.fl,.int .i64 e.1.k4,.int .i64 e.1.k5,e.2.2]
def s5:Sup:=⟨1,1,16,18,64,0,5⟩
theorem SameOut.one{s:Sup}{x:Nat}{ps:List (List UInt8)}(a:s.start<=x)(b:(x:Int)+ps.length<=s.start+s.len):SameOut s D (D.wr x ps):=λi hi=>⟨by rw[Te],Gx _ _ U⟩
theorem SameOut.trans{s:Sup}{D d b:Dsk}(a:SameOut s D d)(c:SameOut s d b):SameOut s D b:=λi hi=>⟨(c i hi).1.trans (a i hi).1,(c i hi).2.trans (a i hi).2⟩
theorem MP(a x:Sup){z:Bool}(ims:List Img)(hA:∀h,A h->imgsH v ims h)(D:Dsk){B:Nat->Pg}{rs:List Rc}{ptl:List (List UInt8)}{u:Int}{sure:Nat}(o:SInv D x B rs ptl t q u b sure)(a0:∀m∈ims,m.num<x.pages)(h1:a.start=x.start)(h2:a.len=x.len)(h3:a.epoch=x.epoch)(a9:a.Ok (D.n:Int))(a8:z=decide (a.epoch<4294967296))(hq:0<=q/\q<=1099511627776)(a4:∀i,(D.ver i).length<=1000000000000):
  Ak 161 [Y j,v] [blk j [Y e,Y g,I a.gen,I a.epoch,I a.pages,I a.start,I a.len,I a.head,I a.seq,I t,I q,I u,.bool b,.bool z] 245,tblA g,diskA e D,A] (λv G=>
   (∃(Da:Dsk) (a2 q2 u2:Int),(1<=ims.length/\ims.length<=40)/\EH ims/\SInv Da x B (rs++[⟨q,ims⟩]) [] a2 q2 u2 b sure/\b=false/\(Clean D->Clean Da)/\(Da.n=D.n/\∀i,(Da.ver i).length<=(D.ver i).length+2)/\q2=q+1/\u2=u+(1+(ims.length:Int))/\v=I 0/\G=[blk j [Y e,Y g,I a.gen,I a.epoch,I a.pages,I a.start,I a.len,I a.head,I a.seq,I a2,I q2,I u2,.bool b,.bool z] 245,tblA g,diskA e Da,A])\/
   (∃c:Int,Xz c ims (1+(ims.length:Int)<=(if b then 0 else x.len-u)/\z=true/\q<1099511627776)/\v=I c/\G=[blk j [Y e,Y g,I a.gen,I a.epoch,I a.pages,I a.start,I a.len,I a.head,I a.seq,I t,I q,I u,.bool b,.bool z] 245,tblA g,diskA e D,A])\/
   (∃(Df:Dsk) (a7:List (List UInt8)),¬Clean D/\SInv Df x B rs a7 t (q+1) u true sure/\(Df.n=D.n/\∀i,(Df.ver i).length<=(D.ver i).length+2)/\v=I 11/\G=[blk j [Y e,Y g,I a.gen,I a.epoch,I a.pages,I a.start,I a.len,I a.head,I a.seq,I t,I (q+1),I u,.bool true,.bool z] 245,tblA g,diskA e Df,A])):=by
 have hP:=o.p;have hs:=o.s;have b4:=hP.at_ok hs;have b1:=hs.head;have b3:=hs.start;have b2:=hP.fu;have b0:=hP.ul;refine Cn.mono (Vo j e g a t q u b z v ims A hA D a9 a8 U U U a4) ?_;rintro v Γ (⟨l,rfl,rfl⟩|⟨l,w,rfl,rfl⟩|⟨l,w,g3,rfl,rfl⟩|⟨l,w,g3,k,hk,g4⟩)
 ·exact .inr (.inl ⟨16,.inl ⟨Z,l⟩,Z,Z⟩)
 ·exact .inr (.inl ⟨1,.inr (.inl ⟨Z,l,w⟩),Z,Z⟩)
 ·exact .inr (.inl ⟨15,.inr (.inr ⟨Z,l,w,by rw[<-h2];exact g3⟩),Z,Z⟩)
 have a1:=g3.1
 cases b with
 | true=>rw[if_pos Z] at a1;omega
 | false=>
  rw[if_neg (by decide)] at a1;have y:1+(ims.length:Int)<=x.len-u:=by omega
  have a3:(k:Int)=min (1+(ims.length:Int)) (x.len-t):=by rw[<-h2];exact hk
  have a5:=FR x.epoch q ims;rw[h1,h3] at g4;have l1:=λi=>Dsk.wr_len D (x.start+t).toNat ((BE x.epoch q ims).take k) i;have l2:=λi=>Dsk.wr_len (D.wr (x.start+t).toNat ((BE x.epoch q ims).take k)) x.start.toNat ((BE x.epoch q ims).drop k) i;have o1:SameOut x D (D.wr (x.start+t).toNat ((BE x.epoch q ims).take k)):=SameOut.one U (by rw[AeA,a5];omega);have o2:SameOut x (D.wr (x.start+t).toNat ((BE x.epoch q ims).take k)) ((D.wr (x.start+t).toNat ((BE x.epoch q ims).take k)).wr x.start.toNat ((BE x.epoch q ims).drop k)):=SameOut.one U (by rw[AeP,a5];omega);have d:=hP.app hs l w.1 y a3;have a6:(rs++[(⟨q,ims⟩:Rc)]).take sure=rs.take sure:=Aew hP.sure;have f:∀r∈rs++[(⟨q,ims⟩:Rc)],∀m∈r.ims,m.num<x.pages:=λr y m hm=>by
   rcases Aes.1 y with y|y
   ·exact o.num r y m hm
   rw[Afv.1 y] at hm;exact a0 m hm
  rcases g4 with ⟨_,g5,rfl,rfl⟩|⟨_,g5,_,rfl,rfl⟩|⟨g5,rfl,rfl⟩|⟨_,g6,g5,rfl,rfl⟩
  ·unfold E8 at d
   rw[if_neg U] at d;exact .inl ⟨_,(t+(1+(ims.length:Int)))%x.len,q+1,u+(1+(ims.length:Int)),l,w,o.log (Dsk.wr_n _ _ _) o1 d a6 f,Z,λhc=>hc.wr _ _,⟨Dsk.wr_n _ _ _,λi=>by have:=l1 i;omega⟩,Z,Z,Z,by simp only[lgB,h1,h2,h3]⟩
  ·unfold E8 at d
   rw[if_pos U] at d;exact .inl ⟨_,(t+(1+(ims.length:Int)))%x.len,q+1,u+(1+(ims.length:Int)),l,w,o.log (by rw[Dsk.wr_n,Dsk.wr_n]) (o1.trans o2) d a6 f,Z,λhc=>(hc.wr _ _).wr _ _,⟨by rw[Dsk.wr_n,Dsk.wr_n],λi=>by have:=l1 i;have:=l2 i;omega⟩,Z,Z,Z,by simp only[lgB,h1,h2,h3]⟩
  ·exact .inr (.inr ⟨D.wf,_,λhc=>hc.bad g5,SInv.log (D':=D.wf) o Z (λ_ _=>⟨Z,Z⟩) hP.fail0 Z o.num,⟨Z,λi=>by show (D.ver i).length<=_;omega⟩,Z,by simp only[lgB,h1,h3]⟩)
  exact .inr (.inr ⟨Dsk.wf (D.wr (x.start+t).toNat ((BE x.epoch q ims).take k)),_,λhc=>(hc.wr _ _).bad g5,SInv.log (D':=Dsk.wf (D.wr (x.start+t).toNat ((BE x.epoch q ims).take k))) o (Dsk.wr_n _ _ _) o1 (hP.fail1 hs l w.1 y a3 g6) Z o.num,⟨Dsk.wr_n _ _ _,λi=>by have:=l1 i;show ((D.wr (x.start+t).toNat ((BE x.epoch q ims).take k)).ver i).length<=_;omega⟩,Z,by simp only[lgB,h1,h3]⟩)
def Ef(x:Sup)(a q:Int):Sup:= {x with gen:=x.gen+1,head:=a,seq:=q}
theorem Np(x:Sup)(a q:Int):(Ef x a q).gen=x.gen+1/\(Ef x a q).epoch=x.epoch/\(Ef x a q).pages=x.pages/\(Ef x a q).start=x.start/\(Ef x a q).len=x.len/\(Ef x a q).head=a/\(Ef x a q).seq=q:=⟨Z,Z,Z,Z,Z,Z,Z⟩
theorem Sup.ok_mk{s:Sup}{n:Int}(b:0<=s.gen/\s.gen<=1099511627776)(g:0<=s.epoch/\s.epoch<=1099511627776)(i:16<=s.pages/\s.pages<=1024)(h:2+s.pages<=s.start/\s.start<=1099511627776)(f:64<=s.len/\s.len<=1099511627776)(e:0<=s.head/\s.head<s.len)(c:0<=s.seq/\s.seq<=1099511627776)(d:s.start<=n-s.len/\s.len<=n):s.Ok n:=by
 refine ⟨λy a=>?_,by omega,by omega,by omega,by omega,by omega,by omega,by omega⟩;simp only[Sup.list,Aeq,List.not_mem_nil,or_false] at a;omega
theorem I3{x:Sup}{o:Value}(f:BF)(y:Sup)(D:Dsk)(t:∀n,(f n).isSome=true->n<1024)(r:∀n,(f n).isSome=true->2+n<D.n)(l:y.Ok (D.n:Int))(k:∀i,(D.ver i).length<=1000000000000):
  Ak 96 [Y m,.agg #[I y.gen,I y.epoch,I y.pages,I y.start,I y.len,I y.head,I y.seq]] [stB m j e x u g b o,tblA e,diskA j D,pgsA g f h,poolA h] (λv G=>(∃a:List Int,Fb f a/\v=I 0/\G=[stB m j e y u g b o,tblA e,diskA j (Fj (hwD D (pgLst f a)).fl y),pgsA g Dq h,poolA h])\/(∃(a:List Int) (c:Int) (p:Dsk),Fb f a/\c≠0/\LY D (pgLst f a) c p/\v=I c/\G=[stB m j e x u g b o,tblA e,diskA j p,pgsA g f h,poolA h])):=by
 refine Cn.mono (VK m j e g x u o b f h y D t r l k) ?_;rintro v Γ ⟨a,d,⟨q,s⟩|⟨c,p,q,s,z,w⟩⟩
 ·exact .inl ⟨a,d,q,s⟩
 exact .inr ⟨a,c,p,d,q,s,z,w⟩
theorem Ty{a:Dsk}{l:List (Nat×Pg)}(h:LY D l t a):a.n=D.n:=by
 rcases h with ⟨j,_,_,rfl⟩|⟨_,_,rfl⟩|⟨_,_,rfl⟩
 ·exact Fa _ _
 ·exact Fa _ _
 exact Fa _ _
theorem OB{a:Dsk}{l:List (Nat×Pg)}(b:(l.map Prod.fst).Nodup)(h:LY D l t a)(i:Nat):(a.ver i).length<=(D.ver i).length+1:=by
 rcases h with ⟨j,_,_,rfl⟩|⟨_,_,rfl⟩|⟨_,_,rfl⟩
 ·exact On _ D i (b.sublist ((List.take_sublist _ _).map _))
 ·exact On _ D i b
 show ([]:List (List UInt8)).length<=_;simp
theorem HU(h:∀i,D.ver i=[])(x:Sup)(i:Nat):(Fj D x).ver i=[]:=by
 by_cases e:i=(x.gen%2).toNat
 ·rw[e];exact (HO D x).2
 rw[(ES D x i e).2];exact h i
theorem OC(h:(0:Int)<(if b then 0 else t-s)):b=false/\s<t:=by
 cases b with
 | true=>rw[if_pos Z] at h;omega
 | false=>rw[if_neg (by decide)] at h;exact ⟨Z,by omega⟩
theorem PgsIn.nil_iff{f:BF}{es:List PgE}{clk:Nat}{hq:Hp}(h:PgsIn f es clk hq):es.length=0↔∀n,f n=Option.none:=by
 constructor
 ·intro e n
  obtain rfl:=Agh.1 e
  cases a:f n with
  | none=>rfl
  | some p=>obtain ⟨e,b,_⟩:=h.all n p a;cases b
 intro a
 cases es with
 | nil=>rfl
 | cons e es=>
  have:=(h.ent e O).1;rw[a] at this;cases this
set_option maxHeartbeats 2000000 in
theorem I4 {md:Nat} {x sL:Sup} {un nu:Bool} {hq:Hp} {B:Nat->Pg} {rs:List Rc} {ptl:List (List UInt8)} {u:Int} {sure:Nat} (hS:SInv D x B rs ptl t q u b sure) (hL:sL.start=x.start/\sL.len=x.len/\sL.epoch=x.epoch) (c0:q<=1099511627776) (a9:∀i,(D.ver i).length<=1000000000000):Ak 142 [Y m] [stB m j g x (Y r) md un y,lgB r j g sL t q u b nu,tblA g,diskA j D,pgsA md (ov rs) hq,poolA hq] (λv G=>((∀n,ov rs n=none)/\b=false/\u<x.len/\v=I 0/\G=[stB m j g x (Y r) md un y,lgB r j g sL t q u b nu,tblA g,diskA j D,pgsA md (ov rs) hq,poolA hq])\/(∃D2:Dsk,¬((∀n,ov rs n=none)/\b=false/\u<x.len)/\SInv D2 (Ef x t q) (pgMap (ov rs) B) [] [] t q 0 false 0/\(Clean D->Clean D2)/\D2.n=D.n/\(∀i,D2.ver i=[])/\v=I 0/\G=[stB m j g (Ef x t q) (Y r) md un y,lgB r j g sL t q 0 false nu,tblA g,diskA j D2,pgsA md Dq hq,poolA hq])\/(∃(c:Int) (D2:Dsk) (a1:Nat),c≠0/\(¬Clean D\/1099511627776<x.gen+1)/\(SInv D2 x B rs ptl t q u b a1/\sure<=a1)/\D2.n=D.n/\(∀i,(D2.ver i).length<=(D.ver i).length+1)/\v=I c/\G=[stB m j g x (Y r) md un y,lgB r j g sL t q u b nu,tblA g,diskA j D2,pgsA md (ov rs) hq,poolA hq])):=by
 intro z R w H;replace H:=H.l6;have a4:=hS.ok;have b5:=Sup.get a4;have c1:=a4.2;have hP:=hS.p;have b3:=hP.at_ok hS.s;have b4:=hP.ul;have b7:=hP.fu;have a8:=hS.gen;have a5:=hP.fq;have b9:0<=q:=by split at a5<;>omega
 have a2:∀n,(ov rs n).isSome=true->n<1024:=λn h=>by have:=hS.ovb h;omega
 have a3:∀n,(ov rs n).isSome=true->2+n<D.n:=λn h=>by have:=hS.ovb h;omega
 have c2:=Np x t q;obtain ⟨es,clk,a,H⟩:=H.pgs 4 Z;replace H:=H.l6;refine Ae func142 Z ntmps142 Z (Z2 12 [10,0,0] H Z (Ad Z (NX (e:=109) Z J Z (AB (H.bk 4 Z))) (Z0 2 [0] Z (An 12 Z (λh1=>?_) (λh1=>?_)))))
 ·refine Z2 4 [9,0,0] H Z (z_E_ Z (call185 _) (Tk U) H.f1 ?_);intro w H;refine Z0 4 [0] Z (Af Z (λh2=>?_) (λh2=>?_))
  ·refine Zc 6 Z (Zr Z ?_);replace H:=(H.toPgs 4 Z a).l6
   have a6:=a.nil_iff.1 (by simpa using h1);exact ⟨_,.inl ⟨a6,(OC h2).1,by have:=(OC h2).2;omega,Z,Z⟩,H.perm 6 [1,0,2,3,4,5] Z Z⟩
  refine Za 8 [2,1,7] H Z ?_;intro b1 w H;refine Z5 18 [0,0,0,0,0,0,9,2,0] [x.gen+1] H Z U ?_;intro w H;refine z_E_ Z (call186 _) (Tl) H.f1 ?_;intro w H;refine Z4 17 [5,1,6,1,0,1,0,0] H Z ?_;intro w H;refine Af Z (λh3=>?_) (λh3=>?_)
  ·refine Zc 6 Z (Zr Z ?_);replace H:=(H.toPgs 5 Z a).l7
   exact ⟨_,.inr (.inr ⟨_,D,sure,by decide,.inr U,⟨hS,Ael _⟩,Z,λi=>by omega,Z,Z⟩),H.perm 7 [2,0,3,4,5,6] Z Z⟩
  refine Zc 4 Z ?_;have a0:(Ef x t q).Ok (D.n:Int):=Sup.ok_mk U U U U U U U U;refine Z2 5 [0,2,0] H Z (Au Z (call91 _) (HR) H.f4 ?_);rintro _ w _ (⟨o,rfl,rfl⟩|⟨o,rfl,rfl⟩) H'
  ·have H:=H'.l7;refine Z0 17 [3] Z (Zr Z ?_);replace H:=(H.toPgs 5 Z a).l7
   exact ⟨_,.inr (.inr ⟨_,_,sure,by decide,.inl (λhc=>hc.flb o),⟨SInv.f (D':= {D with f3:=Bm D.f3}) hS Z Z Z,Ael _⟩,Z,λi=>by show (D.ver i).length<=_;omega,Z,Z⟩),H.perm 7 [3,1,4,0,5,6] Z Z⟩
  have H:=H'.l7;refine Z0 14 [4] Z ?_;replace H:=(H.toPgs 5 Z a).l7;refine Z2 3 [2,7] H Z (Au Z (call96 _) (I3 (ov rs) (Ef x t q) D.fl a2 a3 a0 (λi=>by show ([]:List (List UInt8)).length<=_;simp)) H.f6.f6.f2.f6.f6 ?_);rintro _ w _ (⟨ks,k,rfl,rfl⟩|⟨ks,c,D2,k,l,d,rfl,rfl⟩) H'
  ·have H:=H'.l7;refine Z2 18 [4,9,0,0] H Z (z_E_ Z (call187 _) (Tm) H.f5 ?_);intro w H;refine Zc 8 Z (Zr Z ?_);exact ⟨_,.inr (.inl ⟨_,(λe=>by first|exact h1 (by have:=a.nil_iff.2 e.1;simpa using this)|exact h2 (by rw[e.2.1];simp;omega)),hS.flush.settled k U a0 Z Z Z Z Z Z Z,λhc=>((hc.fl.hw _).fl).sv _,by show (hwD _ _).n=_;exact Fa _ _,HU (λ_=>rfl) _,Z,Z⟩),H.perm 7 [1,0,2,3,4,5] Z Z⟩
  have H:=H'.l7;refine Z0 9 [0] Z (Af Z (λh4=>?_) (λh4=>?_))
  ·refine Zc 7 Z (Zr Z ?_);exact ⟨_,.inr (.inr ⟨_,D2,rs.length,l,.inl (λhc=>hc.fl.setF d),⟨hS.flush.setF k d,hP.sure⟩,Ty (D:=D.fl) d,λi=>by have:=OB (EV k) d i;have h0:(D.fl.ver i).length=0:=rfl;omega,Z,Z⟩),H.perm 7 [0,5,1,2,3,4] Z Z⟩
  exact absurd l h4
 refine Za 18 [2,0,7] H Z ?_;intro b2 w H;refine Z5 18 [0,0,0,0,0,0,9,1,0] [x.gen+1] H Z U ?_;intro w H;refine z_E_ Z (call186 _) (Tl) H.f2 ?_;intro w H;refine Z4 17 [5,1,6,1,0,1,0,0] H Z ?_;intro w H;refine Af Z (λh5=>?_) (λh5=>?_)
 ·refine Zc 6 Z (Zr Z ?_);replace H:=(H.toPgs 5 Z a).l7
  exact ⟨_,.inr (.inr ⟨_,D,sure,by decide,.inr U,⟨hS,Ael _⟩,Z,λi=>by omega,Z,Z⟩),H.perm 7 [2,0,3,4,5,6] Z Z⟩
 refine Zc 4 Z ?_;have a0:(Ef x t q).Ok (D.n:Int):=Sup.ok_mk U U U U U U U U;refine Z2 5 [0,2,0] H Z (Au Z (call91 _) (HR) H.f4 ?_);rintro _ w _ (⟨o,rfl,rfl⟩|⟨o,rfl,rfl⟩) H'
 ·have H:=H'.l7;refine Z0 17 [3] Z (Zr Z ?_);replace H:=(H.toPgs 5 Z a).l7
  exact ⟨_,.inr (.inr ⟨_,_,sure,by decide,.inl (λhc=>hc.flb o),⟨SInv.f (D':= {D with f3:=Bm D.f3}) hS Z Z Z,Ael _⟩,Z,λi=>by show (D.ver i).length<=_;omega,Z,Z⟩),H.perm 7 [3,1,4,0,5,6] Z Z⟩
 have H:=H'.l7;refine Z0 14 [4] Z ?_;replace H:=(H.toPgs 5 Z a).l7;refine Z2 3 [2,7] H Z (Au Z (call96 _) (I3 (ov rs) (Ef x t q) D.fl a2 a3 a0 (λi=>by show ([]:List (List UInt8)).length<=_;simp)) H.f6.f6.f2.f6.f6 ?_);rintro _ w _ (⟨ks,k,rfl,rfl⟩|⟨ks,c,D2,k,l,d,rfl,rfl⟩) H'
 ·have H:=H'.l7;refine Z2 18 [4,9,0,0] H Z (z_E_ Z (call187 _) (Tm) H.f5 ?_);intro w H;refine Zc 8 Z (Zr Z ?_);exact ⟨_,.inr (.inl ⟨_,(λe=>by first|exact h1 (by have:=a.nil_iff.2 e.1;simpa using this)|exact h2 (by rw[e.2.1];simp;omega)),hS.flush.settled k U a0 Z Z Z Z Z Z Z,λhc=>((hc.fl.hw _).fl).sv _,by show (hwD _ _).n=_;exact Fa _ _,HU (λ_=>rfl) _,Z,Z⟩),H.perm 7 [1,0,2,3,4,5] Z Z⟩
 have H:=H'.l7;refine Z0 9 [0] Z (Af Z (λh6=>?_) (λh6=>?_))
 ·refine Zc 7 Z (Zr Z ?_);exact ⟨_,.inr (.inr ⟨_,D2,rs.length,l,.inl (λhc=>hc.fl.setF d),⟨hS.flush.setF k d,hP.sure⟩,Ty (D:=D.fl) d,λi=>by have:=OB (EV k) d i;have h0:(D.fl.ver i).length=0:=rfl;omega,Z,Z⟩),H.perm 7 [0,5,1,2,3,4] Z Z⟩
 exact absurd l h6
def Ct(g:BF)(ks:List Int):List Img:=ks.map λk=>⟨k,((g k.toNat).getD noPg).kind,((g k.toNat).getD noPg).body⟩
theorem RL(g:BF)(a:List Int):(Ct g a).length=a.length:=by simp[Ct]
theorem PE{g:BF}{p:Pg}(b:l[j]?=some (n:Int))(a:g n=some p):(Ct g l).take j++[(⟨(n:Int),p.kind,p.body⟩:Img)]=(Ct g l).take (j+1):=by
 rw[AeQ];congr 1;unfold Ct;rw[Aer,b];simp[a]
theorem PgsIn.okp{f:BF}{es:List PgE}{clk:Nat}{hq:Hp}(h:PgsIn f es clk hq){p:Pg}(hp:f n=some p):p.Ok:=by
 obtain ⟨e,d,c⟩:=h.all n p hp;obtain ⟨a,b,_⟩:=h.ent e d;rw[c,hp] at a;cases a;exact b
theorem MQ{g:BF}(h:Fb g l)(i:∀n p,g n=some p->p.Ok)(f:∀n,(g n).isSome=true->n<1024):EH (Ct g l):=by
 have a:∀k∈l,∃p,g k.toNat=some p/\0<=k/\k<1024:=λk c=>by
  obtain ⟨b,d⟩:=(h.2 k).1 c;obtain ⟨p,hp⟩:=Afb.1 d;have:=f _ d;exact ⟨p,hp,b,by omega⟩
 refine ⟨λm j=>?_,?_⟩
 ·obtain ⟨k,c,rfl⟩:=Aen.1 j
  obtain ⟨p,hp,b,d⟩:=a k c;have:=i _ p hp;simp only[hp,Option.getD_some];exact ⟨⟨b,by dsimp only;omega⟩,this.1,this.2⟩
 unfold Ct;rw[Afp];refine AfM.2 (h.1.imp λe=>?_);simp only[AgN];omega
theorem RM{g:BF}(h:Fb g l)(b:∀n,(g n).isSome=true->(n:Int)<t):∀m∈Ct g l,m.num<t:=λm d=>by
 obtain ⟨k,a,rfl⟩:=Aen.1 d;obtain ⟨e,c⟩:=(h.2 k).1 a;have:=b _ c;dsimp only;omega
theorem Tz{ims:List Img}{a:Prop}(h:Xz t ims a)(b:1<=ims.length/\ims.length<=40)(c:EH ims):t=15/\¬a:=by
 rcases h with ⟨_,h⟩|⟨_,_,rfl|h⟩|⟨rfl,_,_,h⟩
 ·omega
 ·simp at b
 ·exact absurd c h
 exact ⟨Z,h⟩
theorem Y0{ims:List Img}:∀(f:BF) (n:Nat),(ims.map Img.num).Nodup->(∀m∈ims,0<=m.num)->EL f ims n=((ims.find? λm=>decide (m.num=(n:Int))).map GT).or (f n):=by
 induction ims with
 | nil=>intro f n _ _;rfl
 | cons m ims ih=>
  intro f n b hp;simp only[AeM,Afk] at b;have:EL f (m::ims)=EL (pgSet f m.num.toNat (GT m)) ims:=rfl;rw[this,ih _ _ b.2 (λc h=>hp c (by simp[h])),List.find?_cons];have i:=hp m O;by_cases e:m.num=(n:Int)
  ·have d:(ims.find? λm=>decide (m.num=(n:Int)))=none:=by
    rw[Ahj];intro c a g;exact b.1 (Aen.2 ⟨c,a,by simp at g;omega⟩)
   rw[d];simp[e,pgSet]
  have:¬n=m.num.toNat:=by omega
  simp[e,pgSet,this]
theorem RN{f g:BF}(h:Fb g l)(i:EH (Ct g l)):EL f (Ct g l)=Hu f g:=by
 funext n;rw[Y0 _ _ i.2 (λm c=>(i.1 m c).1.1)];unfold Hu;congr 1
 cases hg:g n with
 | some p=>
  have j:(n:Int)∈l:=(h.2 _).2 ⟨by omega,by rw[Ae7,hg];rfl⟩
  cases a:(Ct g l).find? λm=>decide (m.num=(n:Int)) with
  | none=>
   rw[Ahj] at a;exact absurd O (a _ (Aen.2 ⟨(n:Int),j,Z⟩))
  | some m=>
   have d:=List.find?_some a;obtain ⟨k,b,rfl⟩:=Aen.1 (List.mem_of_find?_eq_some a);simp only[decide_eq_true_eq] at d;subst d;simp[hg,GT]
 | none=>
  have a:((Ct g l).find? λm=>decide (m.num=(n:Int)))=none:=by
   rw[Ahj];intro m c e;obtain ⟨k,b,rfl⟩:=Aen.1 c;simp only[decide_eq_true_eq] at e;subst e;have:=((h.2 _).1 b).2;rw[Ae7,hg] at this;cases this
  rw[a];rfl
theorem Qw{rs:List Rc}(h:∀n,ov rs n=none)(c:∀(j:Nat) (r:Rc),rs[j]?=some r->1<=r.ims.length):rs=[]:=by
 cases rs with
 | nil=>rfl
 | cons r rs=>
  exfalso;have d:=c 0 r Z;have b:(ov [r] ((r.ims[0]'U).num.toNat)).isSome=true:=by
   show (EL Dq r.ims _).isSome=true;rw[Qj];simp only[Dq,Option.isSome_none,Bool.false_or,Ahy];exact ⟨r.ims[0]'U,AfR _,by simp⟩
  have a:=Gm rs [r] b;rw[show [r]++rs=r::rs from Z,h] at a;cases a
set_option maxHeartbeats 4000000 in
theorem TA {pd pt pl md mo:Nat} {x sL:Sup} {un nu:Bool} {hq:Hp} {g:BF} {k:Nat} {B:Nat->Pg} {rs:List Rc} {ptl:List (List UInt8)} {u:Int} {sure:Nat} (hS:SInv D x B rs ptl t q u b sure) (hL:sL.start=x.start/\sL.len=x.len/\sL.epoch=x.epoch) (c4:sL.Ok (D.n:Int)) (d7:nu=decide (sL.epoch<4294967296)) (j8:q<1099511627775) (c7:∀i,(D.ver i).length<=1000000000000) (e7:∀n,(g n).isSome=true->(n:Int)<x.pages) (hk:1<=k/\k<=40):Ak 106 [Y m] [stB m pd pt x (Y pl) md un (.map (some mo)),lgB pl pd pt sL t q u b nu,tblA pt,diskA pd D,pgsA md (ov rs) hq,Ev mo g k hq,poolA hq] (λv G=>(∃(o:List Int) (f:Hp) (D2:Dsk) (x2:Sup) (B2:Nat->Pg) (d5:List Rc) (a2 u2:Int) (a0:Nat),Fb g o/\CL hq f/\SInv D2 x2 B2 (d5++[⟨q,Ct g o⟩]) [] a2 (q+1) u2 false a0/\pgMap (ov d5) B2=pgMap (ov rs) B/\(x2=x\/x2=Ef x t q)/\(Clean D->Clean D2)/\(D2.n=D.n/\∀i,(D2.ver i).length<=(D.ver i).length+2)/\v=I 0/\G=[stB m pd pt x2 (Y pl) md un (.map (some mo)),lgB pl pd pt sL a2 (q+1) u2 false nu,tblA pt,diskA pd D2,pgsA md (ov d5) f,Ev mo g k f,poolA f])\/(∃(c:Int) (f:Hp) (D2:Dsk) (x2:Sup) (B2:Nat->Pg) (e0:List Rc) (a5:List (List UInt8)) (a2 q2 u2:Int) (b2:Bool) (a0:Nat),c≠0/\(¬Clean D\/1099511627776<x.gen+1)/\CL hq f/\SInv D2 x2 B2 e0 a5 a2 q2 u2 b2 a0/\pgMap (ov e0) B2=pgMap (ov rs) B/\(x2=x\/x2=Ef x t q)/\(D2.n=D.n/\∀i,(D2.ver i).length<=(D.ver i).length+2)/\(q<=q2/\q2<=q+1)/\v=I c/\G=[stB m pd pt x2 (Y pl) md un (.map (some mo)),lgB pl pd pt sL a2 q2 u2 b2 nu,tblA pt,diskA pd D2,pgsA md (ov e0) f,Ev mo g k f,poolA f])):=by
 intro z R w H;replace H:=H.l7;have g1:=hS.ok;have k0:=Sup.get g1;have j9:=g1.2;have hP:=hS.p;have j1:=hP.ul;have h9:=hP.fu;have h0:=hP.fq;have e4:0<=q:=by split at h0<;>omega
 have i0:∀n,(ov rs n).isSome=true->n<1024:=λn h=>by have:=hS.ovb h;omega
 have i3:∀n,(ov rs n).isSome=true->2+n<D.n:=λn h=>by have:=hS.ovb h;omega
 have i7:=H.sy 3 (λq=>(diskA.ok q).n2);have g5:=Np x t q;obtain ⟨a6,a9,l,a1,H⟩:=H.pgsc 5 Z;replace H:=H.l7;have g9:a6.length<=1099511627776:=by omega
 refine Ae func106 Z ntmps106 Z (Z2 17 [12,0,0] H Z (Au Z (call160 _) (Qt) H ?_));rintro _ w _ ⟨bb,rfl,rfl⟩ H;replace H:=H.l8;have h6:∀h:IE->Nat,(a6.map PgE.ie).map h=a6.map λe=>h e.ie:=λh=>by simp
 refine Au Z (call159 _) (MO (λp hp=>by obtain ⟨e,he,rfl⟩:=Aen.1 hp;exact l.clk e he) (by rw[h6];exact l.born) (by simp;exact g9)) H.f6.f1 ?_;rintro v2 w _ ⟨s,hs,rfl⟩ H;replace H:=H.l9;have b0:Fb g ((s.map λp:IE=>p.1).mergeSort (λx y=>decide (x<=y))):=l.keys hs;have h5:((s.map λp:IE=>p.1).mergeSort (λx y=>decide (x<=y))).length=k:=by simp[hs.length_eq,a1]
 obtain ⟨o,e5⟩:∃o:List Int,((s.map λp:IE=>p.1).mergeSort (λx y=>decide (x<=y)))=o:=⟨_,Z⟩;rw[e5] at H b0 h5;clear e5 hs;have H:Sep z (grow 3 1 v2 o.length (o.map I)::blk bb [.map (some mo)] 154::AJ mo (a6.map PgE.ie) a9::stB m pd pt x (Y pl) md un (.map (some mo))::lgB pl pd pt sL t q u b nu::tblA pt::diskA pd D::pgsA md (ov rs) hq::poolA hq::R) w:=H;have f0:=H.sy 0 (·.slc);obtain ⟨b7,c3,rfl⟩:=f0;have H:Sep z (grow 3 1 (.slice b7 o.length c3) o.length (o.map I)::blk bb [.map (some mo)] 154::AJ mo (a6.map PgE.ie) a9::stB m pd pt x (Y pl) md un (.map (some mo))::lgB pl pd pt sL t q u b nu::tblA pt::diskA pd D::pgsA md (ov rs) hq::poolA hq::R) w:=H;replace H:=(H.nilg 167 3).l10;have h8:=RL g o;have e2:∀n p,g n=some p->p.Ok:=λn p h=>l.okp h;have e8:∀n,(g n).isSome=true->n<1024:=λn h=>by have:=e7 n h;omega
 have d2:EH (Ct g o):=MQ b0 e2 e8;have b6:=RM b0 e7;have f2:1<=(Ct g o).length/\(Ct g o).length<=40:=by omega
 refine Zc 5 Z ?_;refine AF (σ:=Nat×Value×List ImE) (λ⟨j,v1,ie⟩=>[(15,I (j:Int)),(3,v1),(0,Y m),(2,I 0),(13,.slice b7 o.length c3),(14,I (o.length:Int))])
   (λ⟨j,v1,ie⟩ w=>Sep z (grow 167 3 v1 j (Gq ie)::grow 3 1 (.slice b7 o.length c3) o.length (o.map I)::blk bb [.map (some mo)] 154::AJ mo (a6.map PgE.ie) a9::stB m pd pt x (Y pl) md un (.map (some mo))::lgB pl pd pt sL t q u b nu::tblA pt::diskA pd D::pgsA md (ov rs) hq::poolA hq::R) w/\(j<=o.length/\ie.map Prod.fst=(Ct g o).take j/\imesOk ie hq)) (λ⟨j,v1,ie⟩=>o.length-j) ⟨0,.slice none 0 0,[]⟩
   (λ_ hF=>(hF.co Z (by go_num) hF.cz)) ⟨H,by omega,Z,λe he=>absurd he O⟩ ?_
 clear H;rintro ⟨j,v1,ie⟩ w ⟨H',hI⟩;dsimp only at hI H' ⊢;have H:=H'.l10;have j4:=H.sy 0 (·.slc);obtain ⟨j2,c9,c5⟩:=hI;refine Z0 6 [0] Z (Af Z (λh1=>?_) (λh1=>?_))
 ·have i5:j<o.length:=by omega
  refine Zc 6 Z ?_;obtain ⟨x,hx⟩:∃x,o[j]?=some x:=⟨_,Aef U⟩;obtain ⟨k1,d9⟩:=(b0.2 x).1 (Aeg hx);obtain ⟨n,rfl⟩:∃n:Nat,x=(n:Int):=⟨x.toNat,by omega⟩;rw[Ae7] at d9;obtain ⟨p,pv,h4,g0,e3,g7⟩:∃(p:Pg) (v:Value),g n=some p/\p.Ok/\rdH 1 v 240 (p.body.map u8) hq/\CQ (a6.map PgE.ie) (n:Int)=some (.agg #[I p.kind,v]):=by
    rcases l.get n with ⟨q,_⟩|q
    · rw[q] at d9;cases d9
    · exact q
  have g3:Slc pv 240:=e3.slc;have d0:=(H.rv 1 (·.rd)).at (j:=j) (u:=I (n:Int)) (by simp[hx]);refine Ad Z (Aj Z (z:=1) (j:=j) (r:=j) J Z Z Z U d0 U) (Ad Z (Ax Z Z J (AB d0)) (Z2 11 [12,4,0] H Z (Ad Z (FO (e:=109) (zv:=.agg #[I 0,.slice none 0 0]) Z J J Z Z (AB (H.bk 3 Z))) (AD 26 (v:=.agg #[I p.kind,pv]) Z (by rw[g7];rfl) (Ad Z (Be Z Z (out:=[I (n:Int),I p.kind,pv]) J) (AU Z (AP H Z J DB Z (by decide) (by decide) (out:=[I (n:Int),I p.kind,pv]) J) ?_))))));rintro _ w ⟨b1,rfl,H⟩;replace H:=H.l11;refine AU Z (AX 1 H Z Z J DB Z Z (H.rv 0 (·.rd U U O Z)) (Ab Z (Ab Z (Ab g3.one Aw))) U) ?_;rintro v2 w H';have H':Sep z (blk b1 [I (n:Int),I p.kind,pv] 167::grow 167 3 v2 (j+1) (Gq ie++[I (n:Int),I p.kind,pv])::grow 3 1 (.slice b7 o.length c3) o.length (o.map I)::blk bb [.map (some mo)] 154::AJ mo (a6.map PgE.ie) a9::stB m pd pt x (Y pl) md un (.map (some mo))::lgB pl pd pt sL t q u b nu::tblA pt::diskA pd D::pgsA md (ov rs) hq::poolA hq::R) w:=H';have g4:(Gq ie++[I (n:Int),I p.kind,pv]:List Value)=Gq (ie++[(⟨(n:Int),p.kind,p.body⟩,pv)]):=Oe ie (⟨(n:Int),p.kind,p.body⟩,pv);rw[g4] at H';have H:=H'.l11;refine Z1 8 [] [(j:Int)+1] Z U ?_;replace H:=H.d;refine gf ?_;intro _ hF;refine ⟨⟨j+1,v2,ie++[(⟨(n:Int),p.kind,p.body⟩,pv)]⟩,hF.cz,⟨H,?_⟩,?_⟩
  ·dsimp only
   refine ⟨by omega,by rw[AeK,c9,<-PE hx h4];rfl,λe he=>?_⟩;rcases Aes.1 he with q|q
   ·exact c5 e q
   rw[Afv.1 q];show rdH 1 pv p.body.length _ _;rw[g0.2];exact e3
  (dsimp only;omega)
 obtain rfl:j=o.length:=by omega
 refine Zc 2 Z (gx (Zc 3 Z ?_));replace H:=H.f9;obtain ⟨f,⟨a,e9⟩,H⟩:=DX H (λh q=>q.rd);replace H:=H.l9;have d6:ie.map Prod.fst=Ct g o:=by rw[c9];exact Aem U
 have e6:imgsH v1 (Ct g o) f:=⟨ie,d6,by rw[h8];exact e9,c5.le a⟩;replace H:=(H.mono 8 (B:=pgsA md (ov rs) f) Z (pgsA.le a)).l9;have c2:nu=true:=by rw[d7];have:=hS.s.epoch;simp;omega
 refine Z2 6 [9,4,0] H Z (Au Z (call161 _) (MP sL x (Ct g o) (λh q=>e6.le q) D hS b6 hL.1 hL.2.1 hL.2.2 c4 d7 ⟨e4,by omega⟩ c7) H.f7.f7.f7 ?_);rintro _ w _ (⟨Da,a3,q3,u3,h7,g8,a8,b8,b3,c1,d4,d8,rfl,rfl⟩|⟨cq,a7,hv,rfl⟩|⟨Df,a5,b5,a8,c0,rfl,rfl⟩) H'
 ·have H:=H'.l9;subst d4;subst d8;refine Z0 18 [3] Z (Zr Z ?_);replace H:=(H.toPgsc 6 Z (l.le a) a1).l9
  subst b8;exact ⟨_,.inl ⟨o,f,Da,x,B,rs,a3,_,sure,b0,a,a8,Z,.inl Z,b3,c1,Z,Z⟩,H.perm 9 [7,0,1,2,8,6,3] Z Z⟩
 ·have H:=H'.l9;obtain ⟨e1,g2⟩:=Tz a7 f2 d2;subst e1;subst hv;refine Z0 16 [4] Z (Au Z (call142 _) (I4 hS hL U c7) H.f3.f8.f4.f4.f4.f8 ?_);rintro _ w _ (⟨g6,b8,i1,rfl,rfl⟩|⟨D2,i2,b9,c6,a4,d3,rfl,rfl⟩|⟨j5,D2,a0,b4,c8,⟨b9,i6⟩,a4,d1,rfl,rfl⟩) H'
  ·(obtain rfl:=Qw g6 (λj r h=>(hP.recs j r h).2.1.1);exact absurd ⟨by rw[b8,if_neg (by decide)];have j7:u=0:=h9;omega,c2,by omega⟩ g2)
  ·have H:=H'.l9;refine Z2 23 [3,9,0,0] H Z (Au Z (call161 _) (MP sL (Ef x t q) (Ct g o) (λh q=>e6.le q) D2 b9 b6 hL.1 hL.2.1 hL.2.2 (by rw[a4];exact c4) d7 ⟨e4,by omega⟩ (λi=>by rw[d3];simp)) H.f5.f4.f4.f4 ?_);rintro _ w _ (⟨Da,a3,q3,u3,h7,g8,a8,b8,b3,c1,d4,d8,rfl,rfl⟩|⟨cq,a7,hv,rfl⟩|⟨Df,a5,b5,a8,c0,rfl,rfl⟩) H'
   ·have H:=H'.l9;subst d4;subst d8;refine Zc 4 Z (Zr Z ?_);replace H:=(H.toPgsc 8 Z (l.le a) a1).l9
    exact ⟨_,.inl ⟨o,f,Da,_,_,[],a3,_,0,b0,a,a8,Z,.inr Z,λhc=>b3 (c6 hc),⟨c1.1.trans a4,λi=>by have h1:=c1.2 i;rw[d3] at h1;simp at h1;omega⟩,Z,Z⟩,H.perm 9 [4,0,1,2,5,8,3] Z Z⟩
   ·exact absurd ⟨by rw[if_neg (by decide)];have:=g5.2.2.2.2.1;omega,c2,by omega⟩ (Tz a7 f2 d2).2
   have H:=H'.l9;refine Zc 4 Z (Zr Z ?_);replace H:=(H.toPgsc 8 Z (l.le a) a1).l9;exact ⟨_,.inr ⟨_,f,Df,_,_,[],a5,t,q+1,0,true,0,by decide,.inl (λhc=>b5 (c6 hc)),a,a8,Z,.inr Z,⟨c0.1.trans a4,λi=>by have h1:=c0.2 i;rw[d3] at h1;simp at h1;omega⟩,by omega,Z,Z⟩,H.perm 9 [4,0,1,2,5,8,3] Z Z⟩
  have H:=H'.l9;refine Z0 15 [0] Z (Af Z (λh2=>?_) (λh2=>?_))
  ·exact absurd h2 b4
  refine Z0 6 [0] Z (Af Z (λh3=>?_) (λh3=>?_))
  ·refine Zc 6 Z (Zr Z ?_);replace H:=(H.toPgsc 8 Z (l.le a) a1).l9
   exact ⟨_,.inr ⟨_,f,D2,x,B,rs,ptl,t,q,u,b,a0,by first|decide|exact b4,c8,a,b9,rfl,.inl rfl,⟨a4,λi=>by have:=d1 i;omega⟩,by omega,Z,Z⟩,H.perm 9 [0,1,2,3,4,8,5] Z Z⟩
  refine Zc 7 Z (Zr Z ?_);replace H:=(H.toPgsc 8 Z (l.le a) a1).l9;exact ⟨_,.inr ⟨_,f,D2,x,B,rs,ptl,t,q,u,b,a0,by first|decide|exact b4,c8,a,b9,rfl,.inl rfl,⟨a4,λi=>by have:=d1 i;omega⟩,by omega,Z,Z⟩,H.perm 9 [0,1,2,3,4,8,5] Z Z⟩
 have H:=H'.l9;refine Z0 18 [3] Z (Zr Z ?_);replace H:=(H.toPgsc 6 Z (l.le a) a1).l9;exact ⟨_,.inr ⟨_,f,Df,x,B,rs,a5,t,q+1,u,true,sure,by decide,.inl b5,a,a8,Z,.inl Z,c0,by omega,Z,Z⟩,H.perm 9 [7,0,1,2,8,6,3] Z Z⟩
def I5(f g:BF)(S:List IE):BF:=λi=>if (i:Int)∈S.map (λp:IE=>p.1) then g i else f i
theorem VO(f g:BF):I5 f g []=f:=by funext i;simp[I5]
theorem TC{f g:BF}{S:List IE}{p:Pg}{q:IE}(hq:q.1=(n:Int))(a:g n=some p):I5 f g (S++[q])=pgSet (I5 f g S) n p:=by
 funext i;unfold I5 pgSet;simp only[AeK,AeM,AfB,Aes,Afv,hq];by_cases h:i=n
 ·subst h;simp[a]
 have:¬((i:Int)=(n:Int)):=by omega
 simp only[this,or_false,h,if_false]
theorem VP{f g:BF}{es:List PgE}{hq:Hp}{S:List IE}(h:PgsIn g es m hq)(s:Cm (es.map PgE.ie) (S.map λp:IE=>p.2.2)=[])(l:∀p∈S,p∈es.map PgE.ie):I5 f g S=Hu f g:=by
 funext i;unfold I5 Hu;by_cases hi:(i:Int)∈S.map (λp:IE=>p.1)
 ·rw[if_pos hi]
  obtain ⟨p,hp,e⟩:=Aen.1 hi;obtain ⟨b,a,rfl⟩:=Aen.1 (l p hp);have c:=(h.ent b a).1;have:b.n=i:=by have:(b.n:Int)=i:=e;omega
  rw[this] at c;rw[c];rfl
 rw[if_neg hi]
 cases hg:g i with
 | none=>rfl
 | some p=>
  exfalso;obtain ⟨b,a,t⟩:=h.all i p hg;have r:b.ie∈es.map PgE.ie:=AeD a;by_cases q:b.born∈S.map λp:IE=>p.2.2
  ·obtain ⟨p',d,o⟩:=Aen.1 q
   obtain ⟨e1,j,rfl⟩:=Aen.1 (l p' d);obtain ⟨u,c⟩:=Ae5 a;obtain ⟨v,k⟩:=Ae5 j;have:=Ga h.born c k o.symm;subst this;rw[c] at k;cases k;exact hi (Aen.2 ⟨_,d,by show (b.n:Int)=i;omega⟩)
  have:b.ie∈Cm (es.map PgE.ie) (S.map λp:IE=>p.2.2):=by
   simp only[Cm,Afe];exact ⟨r,by simpa [PgE.ie] using q⟩
  rw[s] at this;cases this
theorem Kh(f g:BF)(B:Nat->Pg):pgMap (Hu f g) B=λi=>(g i).getD (pgMap f B i):=by
 funext i;unfold pgMap Hu;cases g i<;>rfl
theorem Y1{f g:BF}{k:Nat}:Ak 107 [.map (some m),.map (some i)] [pgsA m f h,Ev i g k h] (λv G=>v=.tuple #[]/\G=[pgsA m (Hu f g) h,Ev i g k h]):=by
 intro z R w H;replace H:=H.l2;obtain ⟨es,clk,a8,H⟩:=H.pgs 0 Z;replace H:=H.l2;obtain ⟨c,a,b,a1,H⟩:=H.pgsc 1 Z;replace H:=H.l2;have a2:∀p∈c.map PgE.ie,p.2.2<a:=λp hp=>by obtain ⟨e,he,rfl⟩:=Aen.1 hp;exact b.clk e he
 have hn:((c.map PgE.ie).map λp:IE=>p.2.2).Nodup:=by rw[Afp];exact b.born
 refine Ae func107 Z ntmps107 Z (Zc 3 Z (AU Z (HK 1 (e:=109) H Z Z J Z) ?_));rintro _ w ⟨rr,rfl,H⟩;replace H:=H.l3;refine Zc 3 Z ?_;refine AF (σ:=List IE×List PgE×Nat) (λ⟨S,r,s⟩=>[(0,.map (some m)),(7,Y rr)])
   (λ⟨S,r,s⟩ w=>Sep z (GM rr i a (S.map λp:IE=>p.2.2)::AJ m (r.map PgE.ie) s::AJ i (c.map PgE.ie) a::R) w/\((∀p∈S,p∈c.map PgE.ie)/\PgsIn (I5 f g S) r s h)) (λ⟨S,r,s⟩=>(Cm (c.map PgE.ie) (S.map λp:IE=>p.2.2)).length) ⟨[],es,clk⟩
   (λ_ hF=>(hF.all Z)) ⟨H,λp hp=>absurd hp O,by rw[VO];exact a8⟩ ?_
 clear H;rintro ⟨S,r,s⟩ w ⟨H',hI⟩;dsimp only at hI H' ⊢;have H:=H'.l3;obtain ⟨hS,a6⟩:=hI;refine Zc 2 Z (AU Z (IT 0 2 H Z Z Z Z a2) ?_);rintro _ w ⟨qx,rfl,u,H⟩;replace H:=H.l3;refine Ad Z (KO Z Z) (Zc 3 Z (Eq Z (λh1=>?_) (λh1=>?_)))
 ·obtain ⟨p1,rfl⟩:=Afb.1 h1;refine Zc 5 Z ?_;obtain ⟨⟨o,l,j,x⟩,y,rfl⟩:=Aen.1 (C8 u).1;obtain ⟨a5,a7,a0⟩:=b.ent _ y;dsimp only at a5 a7 a0
  have b0:Slc j 240:=a0.slc;obtain ⟨a3,a9,a4,_⟩:=a6.put (k:=o) (p:=l) (v:=j) a7 a0;refine Ad Z (HL (p:=(PgE.ie ⟨o,l,j,x⟩)) Z Z (AB ⟨H.bk 0 Z,H.bk 2 Z⟩) (AeD y) hn) (Za 2 [] H Z ?_);intro b1 w H;refine Zc 1 Z (AC Z Z (Am 0 H Z Z Z Z (vs:=[I l.kind,j]) Z (Ab Z (Ab b0.one Aw)) J O (out:=[I l.kind,j]) Z) ?_);rintro w H;replace H:=H.l4;refine Z2 6 [0,2] H Z (AC Z Z (DP 2 (e:=109) H Z Z J Z Z Z) ?_);rintro w H;replace H:=H.l4;refine Zc 1 Z ?_;have H':=H;have H:Sep z (blk b1 [I l.kind,j] 109::GM rr i a (JR (S.map λp:IE=>p.2.2) (some (PgE.ie ⟨o,l,j,x⟩)))::AJ m (E5 (r.map PgE.ie) (o:Int) (.agg #[I l.kind,j]) s) (putC (r.map PgE.ie) (o:Int) s)::AJ i (c.map PgE.ie) a::R) w:=H';clear H';rw[a9] at H;have H:Sep z (blk b1 [I l.kind,j] 109::GM rr i a (JR (S.map λp:IE=>p.2.2) (some (PgE.ie ⟨o,l,j,x⟩)))::AJ m (a3.map PgE.ie) (putC (r.map PgE.ie) (o:Int) s)::AJ i (c.map PgE.ie) a::R) w:=H;refine Zc 1 Z ?_;replace H:=H.d;refine gf ?_;intro _ hF;refine ⟨⟨S++[(PgE.ie ⟨o,l,j,x⟩)],a3,putC (r.map PgE.ie) (o:Int) s⟩,(hF.all Z),⟨(by dsimp only;rw[AeK];exact H),?_⟩,?_⟩
  ·refine ⟨λp hp=>?_,?_⟩
   ·rcases Aes.1 hp with hp|hp
    ·exact hS p hp
    simp at hp;subst hp;exact AeD y
   dsimp only;rw[TC (n:=o) (p:=l) (q:=(PgE.ie ⟨o,l,j,x⟩)) Z a5];exact a4
  (dsimp only;have:=EC u;rwa[show (S++[(PgE.ie ⟨o,l,j,x⟩)]).map (λp:IE=>p.2.2)=(S.map λp:IE=>p.2.2)++[x] from by simp[PgE.ie]])
 obtain rfl:qx=none:=by simpa using h1
 refine Zc 2 Z (gx (Zc 1 Z (Zf Z ?_)));have t:=a6;rw[VP b u hS] at t;replace H:=(H.toPgs 1 Z t).l3;replace H:=(H.toPgsc 2 Z b a1).l3;exact ⟨_,⟨Z,Z⟩,H.perm 3 [1,2] Z Z⟩
theorem LZ{x:Sup}{c:Value}:Xr prog 105 [Y n] [stB n m i x y j b c] (λv G=>v=.tuple #[]/\G=[stB n m i x y j false (.map none)]):=by
 intro z R u w a;have H:=a.l1;refine NW func105 Z 8 ntmps105 Z (AK (Mz 4 [11] Z J (F2 Z Z (AcZ 0 H Z Z Z Z Z Z J) ?_)));rintro w a;have H:=a.l1;refine Mz 2 [12] Z J (F2 Z Z (Ac0 0 H Z Z Z Z Z Z J) ?_);rintro w a;have H:=a.l1;refine AT (dn0 Z ?_);exact ⟨[stB n m i x y j false (.map none)],⟨Z,Z⟩,H⟩
set_option maxHeartbeats 4000000 in
theorem VQ (ps pd j o md mo:Nat) (x s:Sup) (nu:Bool) (hq:Hp) (g:BF) (k:Nat) (D:Dsk) (B:Nat->Pg) (rs:List Rc) (ptl:List (List UInt8)) (a q u:Int) (b:Bool) (sure:Nat) (hS:SInv D x B rs ptl a q u b sure) (hL:s.start=x.start/\s.len=x.len/\s.epoch=x.epoch) (c0:s.Ok (D.n:Int)) (c5:nu=decide (s.epoch<4294967296)) (c2:q<1099511627775) (b6:∀i,(D.ver i).length<=1000000000000) (b4:∀n,(g n).isSome=true->(n:Int)<x.pages) (hk:k<=40):Ak 53 [Y ps] [stB ps pd j x (Y o) md true (.map (some mo)),lgB o pd j s a q u b nu,tblA j,diskA pd D,pgsA md (ov rs) hq,Ev mo g k hq,poolA hq] (λv G=>(k=0/\v=I 0/\G=[stB ps pd j x (Y o) md false (.map none),lgB o pd j s a q u b nu,tblA j,diskA pd D,pgsA md (ov rs) hq,poolA hq])\/(1<=k/\∃(d:Hp) (r:Dsk) (x2:Sup) (B2:Nat->Pg) (l:List Rc) (a2 u2:Int) (f:Nat),CL hq d/\SInv r x2 B2 l [] a2 (q+1) u2 false f/\(pgMap (ov l) B2=pgMap (Hu (ov rs) g) B/\∀n,(g n).isSome=true->(ov l n).isSome=true)/\(x2=x\/x2=Ef x a q)/\(Clean D->Clean r)/\(r.n=D.n/\∀i,(r.ver i).length<=(D.ver i).length+2)/\v=I 0/\G=[stB ps pd j x2 (Y o) md false (.map none),lgB o pd j s a2 (q+1) u2 false nu,tblA j,diskA pd r,pgsA md (ov l) d,poolA d])\/(1<=k/\∃(c:Int) (d:Hp) (r:Dsk) (x2:Sup) (B2:Nat->Pg) (l:List Rc) (t:List (List UInt8)) (a2 q2 u2:Int) (b2:Bool) (f:Nat),c≠0/\(¬Clean D\/1099511627776<x.gen+1)/\CL hq d/\SInv r x2 B2 l t a2 q2 u2 b2 f/\pgMap (ov l) B2=pgMap (ov rs) B/\(x2=x\/x2=Ef x a q)/\(r.n=D.n/\∀i,(r.ver i).length<=(D.ver i).length+2)/\(q<=q2/\q2<=q+1)/\v=I c/\G=[stB ps pd j x2 (Y o) md false (.map none),lgB o pd j s a2 q2 u2 b2 nu,tblA j,diskA pd r,pgsA md (ov l) d,poolA d])):=by
 intro z R w m;have H:=m.l7;have c9:=hS.ok.2;have c1:∀n,(g n).isSome=true->n<1024:=λn h=>by have:=b4 n h;omega
 obtain ⟨c6,c7,a1,a3,m⟩:=H.pgsc 5 Z;clear H;have H:=m.l7;have b3:∀n p,g n=some p->p.Ok:=λn p h=>a1.okp h;have c8:(c6.map PgE.ie).length=k:=by simp[a3]
 refine SU func53 Z 30 ntmps53 Z (A6 (AK (B3 1 Z Z (AT (A6 (A6 (AK (Gn 5 [11,0] (AN (H.blk 0 Z) AH) Z J Z (AT (EB Z (DH (A6 (AK ?_)))))))))))));refine B3 1 Z Z (LR Z Z Z Z (AT (A6 (A6 (AK (Gn 4 [12,0] (AN (H.blk 0 Z) AH) Z J Z (s_do Z Z Z (NX (e:=109) Z J Z (AB (H.bk 5 Z))) (B3 1 Z Z (AT (Gu Z (λh1=>?_) (λh1=>?_)))))))))))
 ·refine A6 (AK (B3 1 Z Z (AT (D8 ?_))));intro a_ hF;unfold Jp;rw[hF.defers];refine GN (λw=>call105 _ w) (LZ) H 7 [0,1,2,3,4,5,6] Z Z ?_;rintro _ w _ ⟨rfl,rfl⟩ m;clear H;have H:=m.l7;refine Rv hF (rs:=[.tmp 2]) Z [I 0] ⟨Z,trivial⟩ (v:=I 0) Z ?_;exact ⟨[stB ps pd j x (Y o) md false (.map none),lgB o pd j s a q u b nu,tblA j,diskA pd D,pgsA md (ov rs) hq,poolA hq],.inl ⟨by omega,Z,Z⟩,H.perm 7 [0,1,2,3,4,6] Z Z⟩
 refine DH (A6 (A6 ?_));have b9:1<=k:=by omega
 have m:=H.toPgsc 5 Z a1 a3;have H:=m.l7;refine AK (B3 1 Z Z (Fv Z Z Z Z Z (λw=>call106 _ w) (TA hS hL c0 c5 c2 b6 b4 U) H Z ?_));rintro _ w _ (⟨ks,d,r,x2,B2,a0,a2,u2,f,b5,y,a9,a7,a6,b1,a8,rfl,rfl⟩|⟨c4,d,r,x2,B2,l,t,a2,q2,u2,b8,f,a4,b7,y,a9,a7,a6,a8,b0,rfl,rfl⟩) m
 ·have H:=m.l7;refine B3 1 Z Z (AT (A6 (AK (B3 2 Z Z (AdF 19 Z Z (AT (EB Z (DH (A6 (AS (Sep z (stB ps pd j x2 (Y o) md true (.map (some mo))::R)) 9 Z J (A4 H λw m=>?_)))))))))))
  have H:=m.l7;refine a_L [0,1,2,3,4,5,6,7] [10,0,12,0] (λ_ hx=>(AN (hx.blk 0 Z) AH)) (by exact H.pick 7 [0] Z) Z J Z Z (AE [8] J O (Al (Br Z Z Z Z Z Z (λw=>call107 _ w) (Y1) H.f5.f5 Z ?_)));rintro _ w _ ⟨rfl,rfl⟩ m;have H:=m.l7;refine Az (H.pick 7 [2] Z) (a_done J (A6 (AK (B3 1 Z Z (AT (D8 ?_))))));intro a_ hF;unfold Jp;rw[hF.defers];refine GN (λw=>call105 _ w) (LZ) H 7 [2,0,1,3,4,5,6] Z Z ?_;rintro _ w _ ⟨rfl,rfl⟩ m;clear H;have H:=m.l7;refine Rv hF (rs:=[.tmp 2]) Z [I 0] ⟨Z,trivial⟩ (v:=I 0) Z ?_;have a5:Hu (ov a0) g=ov (a0++[⟨q,Ct g ks⟩]):=by rw[Ju,RN b5 (MQ b5 b3 c1)]
  rw[a5] at H;have H:Sep z (stB ps pd j x2 (Y o) md false (.map none)::pgsA md (ov (a0++[⟨q,Ct g ks⟩])) d::Ev mo g k d::lgB o pd j s a2 (q+1) u2 false nu::tblA j::diskA pd r::poolA d::R) w:=H;exact ⟨[stB ps pd j x2 (Y o) md false (.map none),lgB o pd j s a2 (q+1) u2 false nu,tblA j,diskA pd r,pgsA md (ov (a0++[⟨q,Ct g ks⟩])) d,poolA d],.inr (.inl ⟨b9,d,r,x2,B2,_,a2,u2,f,y,a9,⟨by rw[<-a5,Kh,Kh,a7],λn hn=>by rw[<-a5];obtain ⟨p_,c3⟩:=Afb.1 hn;simp[Hu,c3]⟩,a6,b1,a8,Z,Z⟩),H.perm 7 [0,3,4,5,1,6] Z Z⟩
 have H:=m.l7;refine B3 1 Z Z (AT (A6 (AK (B3 2 Z Z (AT (Gu Z (λh2=>?_) (λh2=>?_)))))))
 ·refine A6 (AK (B3 2 Z Z (AT (D8 ?_))));intro a_ hF;unfold Jp;rw[hF.defers];refine GN (λw=>call105 _ w) (LZ) H 7 [0,1,2,3,4,5,6] Z Z ?_;rintro _ w _ ⟨rfl,rfl⟩ m;clear H;have H:=m.l7;refine Rv hF (rs:=[.tmp 2]) Z [I c4] ⟨Z,trivial⟩ (v:=I c4) Z ?_;exact ⟨[stB ps pd j x2 (Y o) md false (.map none),lgB o pd j s a2 q2 u2 b8 nu,tblA j,diskA pd r,pgsA md (ov l) d,poolA d],.inr (.inr ⟨b9,_,d,r,x2,B2,l,t,a2,q2,u2,b8,f,a4,b7,y,a9,a7,a6,a8,b0,Z,Z⟩),H.perm 7 [0,1,2,3,4,6] Z Z⟩
 exact absurd a4 h2
section
def Ds(x:Sup):Sup:= {x with gen:=x.gen+1,epoch:=x.epoch+1,head:=0,seq:=1}
theorem XA(x:Sup):(Ds x).gen=x.gen+1/\(Ds x).epoch=x.epoch+1/\(Ds x).pages=x.pages/\(Ds x).start=x.start/\(Ds x).len=x.len/\(Ds x).head=0/\(Ds x).seq=1:=⟨Z,Z,Z,Z,Z,Z,Z⟩
def Ade(D:Dsk)(s:Sup)(a q u:Int):Prop:=s.len<=u\/∀ims,¬nextP (Dk D s a) s.epoch q (s.len-u) ims
structure OInv(D:Dsk)(x:Sup)(B:Nat->Pg)(Gd:List Rc->Prop):Prop where
 ok:x.Ok (D.n:Int)
 s:SOk x
 gen:1<=x.gen
 ver:∀i,D.ver i=[]
 sup:D.dur (x.gen%2).toNat=DE x
 oth:∃y:Sup,y.Ok (D.n:Int)/\y.gen=x.gen-1/\D.dur ((x.gen+1)%2).toNat=DE y
 tags:∀i:Nat,2+x.pages<=(i:Int)->∀e q,Tg (D.dur i) e q->e<=x.epoch
 read:∀(got:List Rc) (a q u:Int),Runs D x x.head x.seq 0 got a q u->Ade D x a q u->Gd got
 recs:∀got,Gd got->∀r∈got,(1<=r.ims.length/\r.ims.length<=40)/\∀m∈r.ims,m.Ok/\m.num<x.pages
 gd:∀got,Gd got->∀i:Nat,(i:Int)<x.pages->ov got i=none->HomeP (D.dur (2+i)) i (B i)
theorem RO{rs:List Rc}(a:i<=m)(h:(ov (rs.take i) n).isSome=true):(ov (rs.take m) n).isSome=true:=by
 have:=Gm ((rs.take m).drop i) _ (show (ov ((rs.take m).take i) n).isSome=true by rw[AeG,AeH a];exact h);rwa[AeO] at this
theorem SInv.crashed{D D':Dsk}{x:Sup}{B:Nat->Pg}{rs:List Rc}{ptl:List (List UInt8)}{a u:Int}{sure:Nat}(h:SInv D x B rs ptl a q u b sure)(hq:q<=1099511627776)(l:Crashed D D'):OInv D' x B (λf=>sure<=f.length/\f.length<=rs.length/\f=rs.take f.length):=by
 have hg:=h.gen;refine ⟨by rw[l.n];exact h.ok,h.s,hg,l.ver,?_,?_,λi hi e z ht=>h.tags hq hi (l.dur i) ht,λf a' z u' t v=>h.p.read h.s l hq t v,λf k r t=>?_,λf k i hi ho=>?_⟩
 ·rcases l.dur (x.gen%2).toNat with g|g
  ·rw[g];exact h.sup.1
  rw[h.sup.2] at g;cases g
 ·obtain ⟨y,a,b,c,d⟩:=h.oth
  refine ⟨y,by rw[l.n];exact a,b,?_⟩;rcases l.dur ((x.gen+1)%2).toNat with g|g
  ·rw[g];exact c
  rw[d] at g;cases g
 ·rw[k.2.2] at t
  have o:=Afi t;obtain ⟨j,hj⟩:=Ae5 o;obtain ⟨_,h2,h3⟩:=h.p.recs j r hj;exact ⟨h2,λm w=>⟨h3 m w,h.num r o m w⟩⟩
 rcases h.home i hi _ (l.dur _) with g|⟨g,_⟩
 ·exact g
 have:=RO k.1 g;rw[<-k.2.2,ho] at this;cases this
variable{D:Dsk}{x:Sup}{B:Nat->Pg}{Gd:List Rc->Prop}
theorem OInv.ovb(h:OInv D x B Gd){a:List Rc}(d:Gd a)(b:(ov a n).isSome=true):(n:Int)<x.pages:=by
 obtain ⟨p,hp⟩:=Afb.1 b;obtain ⟨r,c,m,e,i,_⟩:=KY _ a Z hp;have f:=((h.recs a d r c).2 m e).2;have g:=h.ok.2;omega
theorem OInv.ovok(h:OInv D x B Gd){a:List Rc}(d:Gd a){p:Pg}(b:ov a n=some p):p.Ok:=by
 obtain ⟨r,c,m,e,_,rfl⟩:=KY _ a Z b;exact Qi ((h.recs a d r c).2 m e).1
theorem OInv.opened(h:OInv D x B Gd){a:List Rc}(w:Gd a)(g:Fb (ov a) l)(m:(Ds x).Ok (D.n:Int))(he:x.epoch+1<4294967296):
  SInv (Fj (hwD D (pgLst (ov a) l)).fl (Ds x)) (Ds x) (pgMap (ov a) B) [] [] 0 1 0 false 0:=by
 have hk:=h.ok.2;have a0:=h.gen;have u:=XA x;have k:=h.s;have q:SOk (Ds x):=⟨by rw[u.2.2.2.1];exact k.start,by have:=k.head;omega,by have:=k.epoch;omega,by omega⟩;have o:∀y∈pgLst (ov a) l,(y.1:Int)<x.pages:=λy m=>h.ovb w (by rw[(Ex g y.1 y.2).1 m];rfl);have d:∀i c,Dp (Fj (hwD D (pgLst (ov a) l)).fl (Ds x)) i c->i≠((Ds x).gen%2).toNat->c=(hwD D (pgLst (ov a) l)).cont i:=λi c b hi=>by
  have f:=ES (hwD D (pgLst (ov a) l)).fl (Ds x) i hi;unfold Dp at b;rw[f.1,f.2] at b;rcases b with b|b
  ·exact b
  cases b
 have t:∀i:Nat,i<2->(hwD D (pgLst (ov a) l)).cont i=D.dur i:=λi hi=>by
  rw[hw_cont_out _ D i (λy _ e=>by omega)];exact EI (h.ver i)
 refine ⟨by show (Ds x).Ok ((hwD D _).n:Int);rw[Fa];exact m,?_,q,by omega,λr hr=>(by cases hr),λi hi c b=>.inl ?_,HO _ _,?_,λi hi hr c b e v ht=>?_⟩
 ·have:=PInv.fresh (D:=Fj (hwD D (pgLst (ov a) l)).fl (Ds x)) q (λi h1 h2 c b e v ht=>?_)
  ·rw[u.2.2.2.2.2.1,u.2.2.2.2.2.2] at this;exact this
  have hi:=d i c b U;rw[hw_cont_out _ D i (λy m e=>by have:=o y m;omega),EI (h.ver i)] at hi;subst hi;have:=h.tags i U e v ht;omega
 ·have j:=d (2+i) c b U
  subst j;unfold pgMap
  cases f:ov a i with
  | some p=>
   have hm:(i,p)∈pgLst (ov a) l:=(Ex g i p).2 f;rw[Xt D (EV g) (i,p) hm];exact .inr ⟨h.ovok w f,Z⟩
  | none=>
   rw[hw_cont_out _ D _ (λz hz e=>by
    have:=(Ex g z.1 z.2).1 hz;rw[show z.1=i from by omega,f] at this;cases this),EI (h.ver _)]
   exact h.gd a w i U f
 ·refine ⟨x,by show x.Ok ((hwD D _).n:Int);rw[Fa];exact h.ok,by omega,?_⟩
  have f:=ES (hwD D (pgLst (ov a) l)).fl (Ds x) (((Ds x).gen+1)%2).toNat U;refine ⟨?_,by rw[f.2];rfl⟩;rw[f.1];show (hwD D (pgLst (ov a) l)).cont _=_;rw[t _ U,show ((Ds x).gen+1)%2=x.gen%2 from by omega];exact h.sup
 have j:=d i c b U;rw[hw_cont_out _ D i (λy m e=>by have:=o y m;omega),EI (h.ver i)] at j;subst j;have:=h.tags i U e v ht;omega

def EW(D:Dsk):Nat->Dsk
 | 0=>D
 | k+1=>(EW D k).wr (2+k) [List.replicate 256 0]
theorem OD(D:Dsk):∀k,(EW D k).n=D.n
 | 0=>rfl
 | k+1=>by show ((EW D k).wr _ _).n=_;rw[Dsk.wr_n];exact OD D k
theorem Y2(n i:Nat):(EW (Cv n) m).cont i=List.replicate 256 0:=by
 induction m with
 | zero=>rfl
 | succ m ih=>
  show ((EW (Cv n) m).wr _ _).cont i=_;rw[wr_cont,ih];by_cases h:2+m<=i
  ·rw[if_pos h]
   rcases AgV (i-(2+m)) with e|e
   ·rw[e];rfl
   rw[AeL (by simp;omega)];rfl
  rw[if_neg h];rfl
theorem FU{D:Dsk}(h:Clean D):∀k,Clean (EW D k)
 | 0=>h
 | k+1=>(FU h k).wr _ _
theorem TD(n:Nat)(i:Nat):∀k,((EW (Cv n) k).ver i).length<=k
 | 0=>by simp[EW,Cv]
 | k+1=>by
  have h1:=Dsk.wr_len (EW (Cv n) k) (2+k) [List.replicate 256 0] i;have a:=TD n i k;show (((EW (Cv n) k).wr _ _).ver i).length<=_;omega
def CC(p s l g:Int):Sup:=⟨g,1,p,s,l,0,1⟩
def MR(n:Nat)(p s l:Int):Dsk:=Fj (Fj (EW (Cv n) p.toNat).fl (CC p s l 1)) (CC p s l 2)
theorem FC(n:Nat):Clean (Cv n):=⟨Z,Z,Z,Z⟩
theorem VR:Clean (MR n p s t):=((FU (FC n) _).fl.sv _).sv _
theorem VS(n:Nat)(p s l:Int):(MR n p s l).n=n:=OD _ _
theorem TE(i:Nat):(MR n p s t).ver i=[]:=HU (HU (λ_=>rfl) _) _ i
theorem OE(hi:2<=i):(MR n p s t).dur i=List.replicate 256 0:=by
 have a:=ES (Fj (EW (Cv n) p.toNat).fl (CC p s t 1)) (CC p s t 2) i (by show i≠((2:Int)%2).toNat;simp;omega);have b:=ES (EW (Cv n) p.toNat).fl (CC p s t 1) i (by show i≠((1:Int)%2).toNat;simp;omega);exact (a.1.trans b.1).trans (Y2 n i)
theorem Y3(d:(CC p s t 2).Ok (n:Int)):OInv (MR n p s t) (CC p s t 2) (λ_=>noPg) (λb=>b=[]):=by
 have w:(CC p s t 2).gen=2/\(CC p s t 2).epoch=1/\(CC p s t 2).pages=p/\(CC p s t 2).start=s/\(CC p s t 2).len=t/\(CC p s t 2).head=0/\(CC p s t 2).seq=1:=⟨Z,Z,Z,Z,Z,Z,Z⟩;have v:=Sup.get d;have o:=d.2;have f:SOk (CC p s t 2):=⟨by omega,by omega,by omega,by omega⟩;have c:∀z:Int,(MR n p s t).cont (ringAt (CC p s t 2) z)=List.replicate 256 0:=λz=>by
  have:=JB f z;rw[EI (TE _)];exact OE U
 refine ⟨by rw[VS];exact d,f,by omega,TE,(HO _ _).1,⟨CC p s t 1,?_,Z,?_⟩,λi j e q l=>?_,λb a q u g m=>?_,λb h r g=>?_,λb _ i hi _=>?_⟩
 ·rw[VS]
  exact Sup.ok_mk (by show 0<=(1:Int)/\(1:Int)<=1099511627776;omega) (by show 0<=(1:Int)/\(1:Int)<=1099511627776;omega) (by show 16<=p/\p<=1024;omega) (by show 2+p<=s/\s<=1099511627776;omega) (by show 64<=t/\t<=1099511627776;omega) (by show 0<=(0:Int)/\(0:Int)<t;omega) (by show 0<=(1:Int)/\(1:Int)<=1099511627776;omega) (by show s<=n-t/\t<=n;omega)
 ·have j:=ES (Fj (EW (Cv n) p.toNat).fl (CC p s t 1)) (CC p s t 2) 1 (by show 1≠((2:Int)%2).toNat;decide)
  exact j.1.trans (HO (EW (Cv n) p.toNat).fl (CC p s t 1)).1
 ·rw[OE U] at l
  exact (Ve l).elim
 ·cases g with
  | nil=>rfl
  | snoc r hlt hn=>
   exfalso;have k:=hn.1;have e:∀z,Dk (MR n p s t) (CC p s t 2) z 0=List.replicate 256 0:=λz=>c (z+((0:Nat):Int));rw[e] at k;exact MH k
 ·subst h;cases g
 rw[OE U];exact .inl ⟨Z,Z⟩
end
theorem OInv.two{x:Sup}{B:Nat->Pg}{Gd:List Rc->Prop}(h:OInv D x B Gd):∃b a:Sup,b.Ok (D.n:Int)/\a.Ok (D.n:Int)/\b.gen%2=0/\a.gen%2=1/\D.cont 0=DE b/\D.cont 1=DE a/\x=if b.gen<a.gen then a else b:=by
 obtain ⟨y,d,i,c⟩:=h.oth;have hs:=h.sup;have g:=h.gen;have f:=EI (h.ver 0);have c1:=EI (h.ver 1);rcases (show x.gen%2=0\/x.gen%2=1 by omega) with e|e
 ·rw[show (x.gen%2).toNat=0 by omega] at hs
  rw[show ((x.gen+1)%2).toNat=1 by omega] at c;exact ⟨x,y,h.ok,d,e,by omega,f.trans hs,c1.trans c,by rw[if_neg U]⟩
 rw[show (x.gen%2).toNat=1 by omega] at hs;rw[show ((x.gen+1)%2).toNat=0 by omega] at c;exact ⟨y,x,d,h.ok,by omega,e,f.trans c,c1.trans hs,by rw[if_pos U]⟩
theorem AbI{x:Sup}(h:x.Ok t)(a:1<=x.gen)(c:x.gen+1<=1099511627776)(d:x.epoch+1<=1099511627776):(Ds x).Ok t:=by
 have hs:=Sup.get h;have b:=h.2;have e:=XA x;exact Sup.ok_mk U U U U U U U U
theorem OF{rs:List Rc}{r:Rc}(h:rs[n]?=some r):EL (ov (rs.take n)) r.ims=ov (rs.take (n+1)):=by
 rw[AeQ,h];exact (Ju _ _).symm
theorem Nb{f:BF}{ims:List Img}{m:Img}(h:ims[n]?=some m):pgSet (EL f (ims.take n)) m.num.toNat (GT m)=EL f (ims.take (n+1)):=by
 rw[AeQ,h];exact (Vg).symm
set_option maxHeartbeats 4000000 in
theorem sopen_c (pd:Nat) (D:Dsk) (x:Sup) (B:Nat->Pg) (Gd:List Rc->Prop) (hO:OInv D x B Gd) (b1:Clean D) (g9:x.gen+1<=1099511627776) (f8:x.epoch+1<4294967296):Ak 45 [Y pd] [diskA pd D] (λv G=>∃(ps pl b md:Nat) (hq:Hp) (D2:Dsk) (d2:List Rc),Gd d2/\SInv D2 (Ds x) (pgMap (ov d2) B) [] [] 0 1 0 false 0/\Clean D2/\D2.n=D.n/\(∀i,D2.ver i=[])/\v=.tuple #[Y ps,I 0]/\G=[stB ps pd b (Ds x) (Y pl) md false (.map none),lgB pl pd b (Ds x) 0 1 0 false (decide ((Ds x).epoch<4294967296)),tblA b,diskA pd D2,pgsA md Dq hq,poolA hq]):=by
 intro z R w H;obtain ⟨y0,y1,f0,e4,e3,e8,e9,g1,f9⟩:=hO.two;have b7:=hO.ok;have h6:=Sup.get b7;have h0:=b7.2;have d4:=hO.gen;have a3:(Ds x).Ok (D.n:Int):=AbI b7 d4 U U;refine Ae func45 Z ntmps45 Z (Zc 19 Z (Au Z (call92 _) (Oq) H ?_));rintro _ w _ ⟨b,rfl,rfl⟩ H;refine AU Z (F9 H Z) ?_;rintro _ w ⟨t,rfl,H⟩;refine Ad Z (Be Z Z (out:=[Y pd,Y b,I 0,I 0,I 0,I 0,I 0,I 0,I 0,.pointer none,.map (some t),.bool false,.map none]) J) (Za 0 [] H Z ?_);intro b2 w H;refine Z2 10 [1,0,0] H Z (z_E_ Z (call94 _) (AbH b1.f1 x y0 y1 f0 e4 e3 e8 e9 g1 f9) H.f2.f3 ?_);intro w H;refine Za 3 [] H Z ?_;intro b3 w H;refine Z4 24 [0,4,0,7,2,3] H Z ?_;intro w H;replace H:=H.f3;refine AS (Sep z (stB b2 pd b x (.pointer none) t false (.map none)::blk b3 [I x.gen,I x.epoch,I x.pages,I x.start,I x.len,I x.head,I x.seq] 148::R)) 14 Z J (A4 H λw H'=>?_);have H:=H'.l5;refine AZ [0,1,2,3,4,5] [1,0,0,1,7] [] (by exact H.pick 5 [0,1] Z) Z J Z (AE [6] J O (Al (Br Z Z Z Z Z Z (λw=>call95 _ w) (Abu x b7 b1.f1) H.f2.f3 Z ?_)));rintro _ w _ ⟨a8,a,a5,q5,u5,v5,y,rfl,b0,a9,o,rfl⟩ H;obtain ⟨c1,c2,rfl⟩:=o.slc;obtain ⟨es2,b8,a1,d8⟩:=o;have g2:es2.length=a.length:=by rw[<-b8];simp
 have a4:=hO.read a a5 q5 u5 b0 a9;have e7:=hO.recs a a4;have g5:=a1.small;have c7:∀n,(ov a n).isSome=true->n<1024:=λn h=>by have:=hO.ovb a4 h;omega
 have e1:∀n,(ov a n).isSome=true->2+n<D.n:=λn h=>by have:=hO.ovb a4 h;omega
 have H:Sep z (poolA y::lgB a8 pd b x a5 q5 u5 false (decide (x.epoch<4294967296))::tblA b::diskA pd D::stB b2 pd b x (.pointer none) t false (.map none)::blk b3 [I x.gen,I x.epoch,I x.pages,I x.start,I x.len,I x.head,I x.seq] 148::AJ t ([]) 0::R) w:=H;refine Az (H.pick 7 [4,5] Z) (AZ [7,8,9,10,11,12,13] [] [] (by exact H.pick 7 [4,5] Z) Z J Z (a_done J (gn (Z5 36 [4,0,5,0,0,5,1,5,0,1,5,0,5,0,0] [x.gen+1,x.epoch+1] H Z U ?_))));intro w H;refine An 62 Z (λh1=>U) (λh1=>?_);refine Z2 6 [1,5,0,0] H Z (Af Z (λh2=>U) (λh2=>?_));refine Zc 11 Z ?_;refine AF (σ:=Nat×List PgE×Nat) (λ⟨k,es,cl⟩=>[(69,I (k:Int)),(0,Y pd),(2,.pointer none),(3,I 0),(4,Y b2),(5,Y b3),(67,.slice c1 a.length c2),(68,I (a.length:Int))])
   (λ⟨k,es,cl⟩ w=>Sep z (poolA y::lgB a8 pd b x a5 q5 u5 false (decide (x.epoch<4294967296))::tblA b::diskA pd D::stB b2 pd b x (.pointer none) t false (.map none)::blk b3 [I (x.gen+1),I (x.epoch+1),I x.pages,I x.start,I x.len,I x.head,I x.seq] 148::AJ t (es.map PgE.ie) cl::R) w/\(k<=a.length/\PgsIn (ov (a.take k)) es cl y)) (λ⟨k,es,cl⟩=>a.length-k) ⟨0,[],0⟩
   fr_z ⟨H,by omega,PgsIn.none _ _⟩ ?_
 clear H;rintro ⟨k,es,cl⟩ w ⟨H',hI⟩;dsimp only at hI H' ⊢;have H:=H'.l7;obtain ⟨g8,b9⟩:=hI;refine Z0 6 [0] Z (Af Z (λh3=>?_) (λh3=>?_))
 ·refine Zc 6 Z ?_;obtain ⟨⟨f,w1⟩,a7⟩:∃e:RcE,es2[k]?=some e:=⟨_,Aef U⟩;have e0:a[k]?=some f:=by rw[<-b8];simp[a7]
  obtain ⟨d3,c4,g,e2⟩:=d8 _ (Aeg a7);dsimp only at c4 g;obtain ⟨a0,c3,rfl⟩:=g.slc;have g7:d3.length=f.ims.length:=by rw[<-c4];simp
  have g4:=g.small;have d7:=e7 _ (Aeg e0);have d9:=(H.rv 0 (λq=>a1.le q)).at (LV a7 0 _ Z);refine Ad Z (Aj Z (z:=2) (j:=k) (r:=k*2) J Z Z Z U d9 U) (Ad Z (Bt Z Z (vs:=[I f.seq,.slice a0 f.ims.length c3]) J O (AB (λk u hk=>(H.rv 0 (λq=>a1.le q)).at (LV a7 k u hk)))) (Za 0 [] H Z ?_));intro b4 w H;refine Z4 12 [0,1,0,0] H Z ?_;intro w H;refine AF (σ:=Nat×List PgE×Nat) (λ⟨j,ei,ci⟩=>[(76,I (j:Int)),(0,Y pd),(2,.pointer none),(3,I 0),(4,Y b2),(5,Y b3),(10,Y b4),(67,.slice c1 a.length c2),(68,I (a.length:Int)),(69,I (k:Int)),(70,.bool (decide ((k:Int)<(a.length:Int)))),(71,GG c1 (k*2)),(72,.agg #[I f.seq,.slice a0 f.ims.length c3]),(73,.pointer (some ⟨b4,1,none⟩)),(74,.slice a0 f.ims.length c3),(75,I (f.ims.length:Int))])
    (λ⟨j,ei,ci⟩ w=>Sep z (blk b4 [I f.seq,.slice a0 f.ims.length c3] 165::poolA y::lgB a8 pd b x a5 q5 u5 false (decide (x.epoch<4294967296))::tblA b::diskA pd D::stB b2 pd b x (.pointer none) t false (.map none)::blk b3 [I (x.gen+1),I (x.epoch+1),I x.pages,I x.start,I x.len,I x.head,I x.seq] 148::AJ t (ei.map PgE.ie) ci::R) w/\(j<=f.ims.length/\PgsIn (EL (ov (a.take k)) (f.ims.take j)) ei ci y)) (λ⟨j,ei,ci⟩=>f.ims.length-j) ⟨0,es,cl⟩
    fr_z ⟨H,by omega,b9⟩ ?_
  clear H;rintro ⟨j,ei,ci⟩ w ⟨H',hI⟩;dsimp only at hI H' ⊢;have H:=H'.l8;obtain ⟨h5,s⟩:=hI;refine Z0 6 [0] Z (Af Z (λh4=>?_) (λh4=>?_))
  ·refine Zc 6 Z ?_;obtain ⟨⟨⟨a6,l,d1⟩,u1⟩,m⟩:∃e:ImE,d3[j]?=some e:=⟨_,Aef U⟩;have c8:f.ims[j]?=some ⟨a6,l,d1⟩:=by rw[<-c4];simp[m]
   obtain ⟨⟨c6,d0⟩,c0,a2⟩:=(d7.2 _ (Aeg c8)).1;dsimp only at c6 d0 c0 a2;obtain ⟨n,rfl⟩:∃n:Nat,a6=(n:Int):=⟨a6.toNat,by omega⟩;have b6:=e2 _ (Aeg m);dsimp only at b6;rw[a2] at b6;have g0:=b6.slc;have d5:=(H.rv 1 (λq=>g.le q)).at (Jt m 0 _ Z);obtain ⟨c5,e5,d6,_⟩:=s.put (k:=n) (p:=⟨l,d1⟩) (v:=u1) ⟨c0,a2⟩ b6;refine Ad Z (Aj Z (z:=3) (j:=j) (r:=j*3) J Z Z Z U d5 U) (Ad Z (Bt Z Z (vs:=[I (n:Int),I l,u1]) J O (AB (λk u hk=>(H.rv 1 (λq=>g.le q)).at (Jt m k u hk)))) (Za 0 [] H Z ?_));intro b5 w H;refine AC Z Z (Am 0 H Z Z Z Z (vs:=[I (n:Int),I l,u1]) Z (Ab Z (Ab Z (Ab g0.one Aw))) J O (out:=[I (n:Int),I l,u1]) Z) ?_;rintro w H;refine Zc 2 Z ?_;replace H:=H.f6;refine AS (Sep z (stB b2 pd b x (.pointer none) t false (.map none)::blk b5 [I (n:Int),I l,u1] 167::R)) 9 Z J (A4 H λw H'=>?_);have H:=H'.l9;refine AZ [0,1,2,3,4,5,6,7] [10,0,0,0,1,0,1,1,2] [] (by exact H.pick 9 [0,1] Z) Z J Z (AE [8] J O (Al (Bl Z Z Z (DP 8 (e:=109) H Z Z J Z Z Z) ?_)));rintro w H;refine Az (H.pick 9 [0,1] Z) (a_done J (gn ?_));rw[e5] at H;have H:Sep z (stB b2 pd b x (.pointer none) t false (.map none)::blk b5 [I (n:Int),I l,u1] 167::blk b4 [I f.seq,.slice a0 f.ims.length c3] 165::poolA y::lgB a8 pd b x a5 q5 u5 false (decide (x.epoch<4294967296))::tblA b::diskA pd D::blk b3 [I (x.gen+1),I (x.epoch+1),I x.pages,I x.start,I x.len,I x.head,I x.seq] 148::AJ t (c5.map PgE.ie) (putC (ei.map PgE.ie) (n:Int) ci)::R) w:=H;refine Z1 6 [] [(j:Int)+1] Z U ?_;replace H:=H.f1.d.f7.f7.f2.f7.f7.f7.f7.f7;refine gf ?_;intro _ hF;refine ⟨⟨j+1,c5,putC (ei.map PgE.ie) (n:Int) ci⟩,hF.cz,⟨H,?_⟩,?_⟩
   ·dsimp only
    exact ⟨by omega,(Nb c8)▸d6⟩
   (dsimp only;omega)
  obtain rfl:j=f.ims.length:=by omega
  refine Zc 2 Z (gx (Z1 7 [] [(k:Int)+1] Z U ?_));replace H:=H.d;refine gf ?_;intro _ hF;refine ⟨⟨k+1,ei,ci⟩,hF.cz,⟨H,?_⟩,?_⟩
  ·dsimp only
   rw[Aem (Ael _),OF e0] at s;exact ⟨by omega,s⟩
  (dsimp only;omega)
 obtain rfl:k=a.length:=by omega
 have s:=b9;rw[Aem (Ael _)] at s;refine Zc 2 Z (gx (Z4 15 [5,5,6,5,5,7] H Z ?_));intro w H;replace H:=(H.toPgs 6 Z s).l7;refine Au Z (call96 _) (I3 (ov a) (Ds x) D c7 e1 a3 (λi=>by rw[hO.ver];simp)) H.f6.f4.f4.f5 ?_;rintro _ w _ (⟨ks,c9,rfl,rfl⟩|⟨ks,c,D2,c9,g6,e6,rfl,rfl⟩) H'
 ·have H:=H'.l7;refine Z0 13 [4] Z ?_;replace H:=H.f6.f1;refine Bf (Sep z (stB b2 pd b (Ds x) (.pointer none) t false (.map none)::blk b3 [I (x.gen+1),I (x.epoch+1),I x.pages,I x.start,I x.len,I 0,I 1] 148::R)) 11 Z J (A4 H λw H'=>?_)
  have H:=H'.l7;refine Bo [0,1,2,3,4,5] [1,0] J (λ_ hx=>(AN (hx.blk 0 Z) AH)) (by exact H.pick 7 [0,1] Z) Z J Z Z (By 6 J Z Z J J J Z Z Z (BW Z Z (vs:=[I (x.gen+1),I (x.epoch+1),I x.pages,I x.start,I x.len,I 0,I 1]) J (λ_ hx=>(hx.blk 1 Z).part 0 7 _ Z)) (H.pick 7 [0,1] Z) (Ay [7] J O (Al (Br Z Z Z Z Z Z (λw=>call97 _ w) (Ql (Ds x) (by show (Ds x).Ok ((hwD D _).n:Int);rw[Fa];exact a3)) H.f3 Z ?_))));rintro _ w _ ⟨pl,rfl,rfl⟩ H;refine Ar (λ_=>(H.pick 8 [2,3] Z)) (Bo [8,9] [9] J (λ_ _=>AH) (by exact H.pick 8 [2,3] Z) Z J Z Z (Ay [10] J O (Al (Bl Z Z Z (AdJ 2 H Z Z Z Z Z Z J) ?_))));rintro w H;refine Ar (λh=>absurd Z h) (AV J (gn (Zc 9 Z (Zr Z ?_))));exact ⟨_,⟨b2,pl,_,t,_,_,a,a4,hO.opened a4 c9 a3 f8,(((b1.hw _).fl).sv _),by show (hwD _ _).n=_;exact Fa _ _,HU (λ_=>rfl) _,Z,Z⟩,H.perm 8 [2,0,4,1,5,6] Z Z⟩
 exact absurd e6 b1.setF
theorem Y4(n k:Nat):wr1 (EW (Cv n) k) false ((2:Int)+(k:Int)).toNat (List.replicate 256 0)=EW (Cv n) (k+1):=by
 rw[show ((2:Int)+(k:Int)).toNat=2+k from by omega];rfl
theorem AbJ(h:(CC p s t 2).Ok (n:Int)):(CC p s t 1).Ok (n:Int):=by
 have b:=h.2;have hs:=Sup.get h;have a:(CC p s t 2).pages=p/\(CC p s t 2).start=s/\(CC p s t 2).len=t/\(CC p s t 2).head=0:=⟨Z,Z,Z,Z⟩;exact Sup.ok_mk (by show 0<=(1:Int)/\(1:Int)<=1099511627776;omega) (by show 0<=(1:Int)/\(1:Int)<=1099511627776;omega) (by show 16<=p/\p<=1024;omega) (by show 2+p<=s/\s<=1099511627776;omega) (by show 64<=t/\t<=1099511627776;omega) (by show 0<=(0:Int)/\(0:Int)<t;omega) (by show 0<=(1:Int)/\(1:Int)<=1099511627776;omega) (by show s<=n-t/\t<=n;omega)
theorem AdS(h:(CC p s t 2).Ok (n:Int)):(16<=p/\p<=1024)/\2+p<=s/\s+t<=n/\0<=t:=by
 have b:=h.2;have a:(CC p s t 2).pages=p/\(CC p s t 2).start=s/\(CC p s t 2).len=t/\(CC p s t 2).head=0:=⟨Z,Z,Z,Z⟩;omega
set_option maxHeartbeats 2000000 in
theorem VT (n:Nat) (f:(CC p s t 2).Ok (n:Int)):Ak 44 [Y m,I p,I s,I t] [diskA m (Cv n)] (λv G=>v=I 0/\G=[diskA m (MR n p s t)]):=by
 intro z R w a;have H:Sep z (diskA m (Cv n)::R) w:=a;clear a;have b:(CC p s t 1).Ok (n:Int):=AbJ f;have a1:(16<=p/\p<=1024)/\2+p<=s/\s+t<=n/\0<=t:=AdS f;have j:=H.sy 0 (λq=>(diskA.ok q).n2);refine enter func44 Z 57 ntmps44 Z (A6 (AK (B3 1 Z Z (AT (A6 (A6 (AK (B3 1 Z Z (s_do Z Z Z (Nz Z J Z Z) (AT (EB Z (DH (A6 ?_)))))))))))));refine AK (B3 3 Z Z (s_do Z Z Z (Be Z Z (out:=[I 1,I 1,I p,I s,I t,I 0,I 1]) J) (E4 Z Z Z (Ce (P:=prog) H Z (zs:=[I 0,I 0,I 0,I 0,I 0,I 0,I 0]) J) ?_)));rintro _ w ⟨y,rfl,a⟩;have H:=a.l2;refine F2 Z Z (Am 0 H Z Z Z Z (vs:=[I 1,I 1,I p,I s,I t,I 0,I 1]) Z (by simp[u8,u32,Value.oneCell']) J O (out:=[I 1,I 1,I p,I s,I t,I 0,I 1]) Z) ?_;rintro w a;have H:=a.l2;refine AT (A6 (A6 (Bu (Sep z _) J J H.drew (AM Z Z Z (BW Z Z (vs:=[I 1,I 1,I p,I s,I t,I 0,I 1]) J (λ_ hx=>(hx.blk 0 Z).part 0 7 _ Z)) (BS 1 [] Z J (Dn Z Z Z Z Z (λw=>call89 _ w) (v:=I ((Cv n).n:Int)) (cq (HS) (by rintro _ _ ⟨rfl,rfl⟩;exact ⟨Z,Z⟩) 2 [1,0] [1,0] Z Z Z Z) (Dn Z Z Z Z Z (λw=>call88 _ w) (v:=I (if (Sup.mk 1 1 p s t 0 1).Ok ((Cv n).n:Int) then 0 else 1)) (cq (HP (Sup.mk 1 1 p s t 0 1) U) (by rintro _ _ ⟨rfl,rfl⟩;exact ⟨Z,Z⟩) 0 [] [] Z Z Z Z) (BS 1 [] Z J (BB (λw a=>?_))))))))));have H:=a.l2;refine Gu Z (λo=>?_) (λo=>?_)
 ·exact (o (if_pos b)).elim
 refine DH (A6 (A6 (AK (B3 2 Z Z (AT (FL ?_))))));refine Si (σ:=Nat) (λk=>[(27,I (k:Int)),(0,Y m),(9,Y y),(26,I p)])
   (λk w=>Sep z (blk y [I 1,I 1,I p,I s,I t,I 0,I 1] 148::diskA m (EW (Cv n) k)::R) w/\(k<=p.toNat)) (λk=>p.toNat-k) 0
   fr_z ⟨H,by omega⟩ ?_
 clear H;rintro k w ⟨a,x⟩;have H:=a.l2;have a0:=x;clear x;refine A6 (AK (B3 1 Z Z (AT (A6 (Gu Z (λh2=>?_) (λh2=>?_))))))
 ·refine DH (A6 (FL (A6 (AK (B3 2 Z Z (AT (A6 (AK (B3 2 Z Z (s_do Z Z Z (C4 Z Z Z (r:=(2:Int)+(k:Int)) U U) (E4 Z Z Z (En (k:=256) H Z J (Elt.mk (P:=prog) (e:=5) (z:=u8 0) (sz:=1) (by_:=1) J Z U U) Z Z Z U) ?_)))))))))));rintro _ w ⟨b2,rfl,a⟩;have H:=a.l3;refine Fv Z Z Z Z Z (λw=>call90 _ w) (Kg (List.replicate 256 0) O (λh q=>by rw[Ahi];exact q.rd U U O Z) (λi=>by have:=TD n i k;omega) (by rw[OD];show 0<=(2:Int)+(k:Int)/\(2:Int)+(k:Int)+1<=(n:Int);omega)) H.f2 Z ?_;rintro _ w _ (⟨l,rfl,rfl⟩|⟨_,rfl,rfl⟩) a
  ·exact absurd l (FU (FC n) k).bad
  have H:=a.l3;refine B3 1 Z Z (AT (A6 (AK (B3 2 Z Z (AD 36 (u:=.bool (decide ((0:Int)≠0))) (v:=.bool false) Z (congrArg Value.bool (by decide)) (AT (EB Z (DH (AK (s_do Z Z Z (C4 Z Z Z (r:=(k:Int)+1) U U) (B3 1 Z Z (AT ?_))))))))))));replace H:=H.f1.d.f1;intro _ hF;refine ⟨(k+1),hF.cz,⟨(by rw[<-Y4];exact H),?_⟩,?_⟩
  ·omega
  omega
 obtain rfl:k=p.toNat:=by omega
 refine Sf (IL (A6 (A6 (AK (B3 1 Z Z (Fv Z Z Z Z Z (λw=>call91 _ w) (HR) H.f1 Z ?_))))));rintro _ w _ (⟨g,rfl,rfl⟩|⟨_,rfl,rfl⟩) a
 ·exact absurd g (FU (FC n) p.toNat).flb
 have H:=a.l2;refine B3 1 Z Z (AT (A6 (AK (B3 2 Z Z (AD 42 (u:=.bool (decide ((0:Int)≠0))) (v:=.bool false) Z (congrArg Value.bool (by decide)) (AT (EB Z (DH (A6 (AK (Fv Z Z Z Z Z (λw=>call92 _ w) (Oq) H Z ?_)))))))))));rintro _ w _ ⟨pt,rfl,rfl⟩ a;have H:=a.l3;refine B3 1 Z Z (AT (A6 (A6 (AK (B3 2 Z Z (s_do Z Z Z (BW Z Z (vs:=[I 1,I 1,I p,I s,I t,I 0,I 1]) J (AB ((H.blk 2 Z).part 0 7 _ Z))) (Fv Z Z Z Z Z (λw=>call93 _ w) (Ox (CC p s t 1) (by show (CC p s t 1).Ok ((EW (Cv n) p.toNat).n:Int);rw[OD];exact b) (λi=>by show ([]:List (List UInt8)).length<=_;simp)) H.f1 Z ?_)))))));rintro _ w _ (⟨c,rfl,rfl⟩|⟨_,rfl,rfl⟩) a
 ·exact absurd c ((FU (FC n) p.toNat).fl).bad
 have H:=a.l3;refine B3 1 Z Z (AT (A6 (AK (B3 2 Z Z (AD 50 (u:=.bool (decide ((0:Int)≠0))) (v:=.bool false) Z (congrArg Value.bool (by decide)) (AT (EB Z (DH (A6 (AK (Mz 1 [0] Z J (F2 Z Z (Am 2 H Z Z Z Z (vs:=[I 2]) Z (by simp[u8,u32,Value.oneCell']) J O (out:=[I 2,I 1,I p,I s,I t,I 0,I 1]) Z) ?_))))))))))));rintro w a;have H:=a.l3;refine AT (A6 (AK (B3 2 Z Z (s_do Z Z Z (BW Z Z (vs:=[I 2,I 1,I p,I s,I t,I 0,I 1]) J (AB ((H.blk 2 Z).part 0 7 _ Z))) (Fv Z Z Z Z Z (λw=>call93 _ w) (Ox (CC p s t 2) (by show (CC p s t 2).Ok ((EW (Cv n) p.toNat).n:Int);rw[OD];exact f) (λi=>by rw[HU (λ_=>rfl)];simp)) H Z ?_)))));rintro _ w _ (⟨c,rfl,rfl⟩|⟨_,rfl,rfl⟩) a
 ·exact absurd c (((FU (FC n) p.toNat).fl.sv _)).bad
 have H:=a.l3;refine B3 1 Z Z (AT (D8 (Ft Z [I 0] ⟨Z,trivial⟩ (v:=I 0) Z ?_)));exact ⟨[diskA m (Fj (Fj ((EW (Cv n) p.toNat).fl) (CC p s t 1)) (CC p s t 2))],⟨Z,Z⟩,H.perm 3 [0] Z Z⟩
theorem Y5(ps pd b md:Nat)(x:Sup)(D:Dsk):Ak 54 [Y ps] [stB ps pd b x u md false y,diskA pd D] (λv G=>(D.flb/\v=I 12/\G=[stB ps pd b x u md false y,diskA pd {D with f3:=Bm D.f3}])\/(¬D.flb/\v=I 0/\G=[stB ps pd b x u md false y,diskA pd D.fl])):=by
 intro z R w c;have H:Sep z (stB ps pd b x u md false y::diskA pd D::R) w:=c;clear c;refine enter func54 Z 12 ntmps54 Z (A6 (AK (B3 1 Z Z (AT (A6 (A6 (AK (Gn 4 [11,0] (AN (H.blk 0 Z) AH) Z J Z (AT (EB Z (DH (A6 (AK ?_)))))))))))));refine Gn 4 [0,0] (AN (H.blk 0 Z) AH) Z J Z (Fv Z Z Z Z Z (λw=>call91 _ w) (HR) H.f1 Z ?_);rintro _ w _ (⟨a,rfl,rfl⟩|⟨a,rfl,rfl⟩) c
 ·have H:=c.l2;refine B3 1 Z Z (AT (D8 (Ft Z [I 12] ⟨Z,trivial⟩ (v:=I 12) Z ?_)));exact ⟨[stB ps pd b x u md false y,diskA pd ({D with f3:=Bm D.f3})],.inl ⟨a,Z,Z⟩,H.perm 2 [1,0] Z Z⟩
 have H:=c.l2;refine B3 1 Z Z (AT (D8 (Ft Z [I 0] ⟨Z,trivial⟩ (v:=I 0) Z ?_)));exact ⟨[stB ps pd b x u md false y,diskA pd D.fl],.inr ⟨a,Z,Z⟩,H.perm 2 [1,0] Z Z⟩
set_option maxHeartbeats 2000000 in
theorem RP (ps pd d f md:Nat) (x h:Sup) (k:Bool) (hq:Hp) (D:Dsk) (B:Nat->Pg) (rs:List Rc) (ptl:List (List UInt8)) (a q u:Int) (b:Bool) (sure:Nat) (hS:SInv D x B rs ptl a q u b sure) (hL:h.start=x.start/\h.len=x.len/\h.epoch=x.epoch) (a7:q<=1099511627776) (a0:∀i,(D.ver i).length<=1000000000000):Ak 85 [Y ps] [stB ps pd d x (Y f) md false y,lgB f pd d h a q u b k,tblA d,diskA pd D,pgsA md (ov rs) hq,poolA hq] (λv G=>((∀n,ov rs n=none)/\b=false/\u<x.len/\v=I 0/\G=[stB ps pd d x (Y f) md false y,lgB f pd d h a q u b k,tblA d,diskA pd D,pgsA md (ov rs) hq,poolA hq])\/(∃g:Dsk,¬((∀n,ov rs n=none)/\b=false/\u<x.len)/\SInv g (Ef x a q) (pgMap (ov rs) B) [] [] a q 0 false 0/\(Clean D->Clean g)/\g.n=D.n/\(∀i,g.ver i=[])/\v=I 0/\G=[stB ps pd d (Ef x a q) (Y f) md false y,lgB f pd d h a q 0 false k,tblA d,diskA pd g,pgsA md Dq hq,poolA hq])\/(∃(c:Int) (g:Dsk) (e:Nat),c≠0/\(¬Clean D\/1099511627776<x.gen+1)/\(SInv g x B rs ptl a q u b e/\sure<=e)/\g.n=D.n/\(∀i,(g.ver i).length<=(D.ver i).length+1)/\v=I c/\G=[stB ps pd d x (Y f) md false y,lgB f pd d h a q u b k,tblA d,diskA pd g,pgsA md (ov rs) hq,poolA hq])):=by
 intro z R w o;have H:Sep z (stB ps pd d x (Y f) md false y::lgB f pd d h a q u b k::tblA d::diskA pd D::pgsA md (ov rs) hq::poolA hq::R) w:=o;clear o;refine enter func85 Z 9 ntmps85 Z (A6 (AK (B3 1 Z Z (AT (A6 (A6 (AK (Gn 4 [11,0] (AN (H.blk 0 Z) AH) Z J Z (AT (EB Z (DH (A6 (AK ?_)))))))))))));refine B3 1 Z Z (Fv Z Z Z Z Z (λw=>call142 _ w) (I4 hS hL U a0) H Z ?_);rintro _ w _ (⟨a4,a6,s,rfl,rfl⟩|⟨g,t,l,p,j,a5,rfl,rfl⟩|⟨m,g,e,a1,a2,⟨l,r⟩,j,a3,rfl,rfl⟩) o
 ·have H:=o.l6;refine B3 1 Z Z (AT (D8 (Ft Z [I 0] ⟨Z,trivial⟩ (v:=I 0) Z ?_)));exact ⟨[stB ps pd d x (Y f) md false y,lgB f pd d h a q u b k,tblA d,diskA pd D,pgsA md (ov rs) hq,poolA hq],.inl ⟨a4,a6,s,Z,Z⟩,H⟩
 ·have H:=o.l6;refine B3 1 Z Z (AT (D8 (Ft Z [I 0] ⟨Z,trivial⟩ (v:=I 0) Z ?_)));exact ⟨[stB ps pd d (Ef x a q) (Y f) md false y,lgB f pd d h a q 0 false k,tblA d,diskA pd g,pgsA md Dq hq,poolA hq],.inr (.inl ⟨g,t,l,p,j,a5,Z,Z⟩),H⟩
 have H:=o.l6;refine B3 1 Z Z (AT (D8 (Ft Z [I m] ⟨Z,trivial⟩ (v:=I m) Z ?_)));exact ⟨[stB ps pd d x (Y f) md false y,lgB f pd d h a q u b k,tblA d,diskA pd g,pgsA md (ov rs) hq,poolA hq],.inr (.inr ⟨m,g,e,a1,a2,⟨l,r⟩,j,a3,Z,Z⟩),H⟩
section
structure StG where
 x:Sup
 B:Nat->Pg
 rs:List Rc
 ptl:List (List UInt8)
 a:Int
 q:Int
 u:Int
 b:Bool
 sure:Nat
def StG.M(G:StG):Nat->Pg:=pgMap (ov G.rs) G.B
def StG.home(G:StG):Prop:=∀n,ov G.rs n=none
structure StX where
 pl:Nat
 pt:Nat
 md:Nat
 mm:Nat
 sL:Sup
 nu:Bool
 hq:Hp
abbrev Hh:=Option (BF×Nat)
def AbK(mm:Nat):Hh->Value
 | none=>.map none
 | some _=>.map (some mm)
def AdT(mm:Nat)(hq:Hp):Hh->List Ai
 | none=>[]
 | some o=>[Ev mm o.1 o.2 hq]
abbrev AbL(ps pd pt md:Nat)(x:Sup)(lp:Value)(un:Bool)(mo:Value):Ai:=blk ps [.pointer (some ⟨pd,0,none⟩),.pointer (some ⟨pt,0,none⟩),.int .i64 x.gen,.int .i64 x.epoch,.int .i64 x.pages,.int .i64 x.start,.int .i64 x.len,.int .i64 x.head,.int .i64 x.seq,lp,.map (some md),.bool un,mo] 157
abbrev AbM(pl pd pt:Nat)(sL:Sup)(a q u:Int)(b nu:Bool):Ai:=blk pl [.pointer (some ⟨pd,0,none⟩),.pointer (some ⟨pt,0,none⟩),.int .i64 sL.gen,.int .i64 sL.epoch,.int .i64 sL.pages,.int .i64 sL.start,.int .i64 sL.len,.int .i64 sL.head,.int .i64 sL.seq,.int .i64 a,.int .i64 q,.int .i64 u,.bool b,.bool nu] 245
def RQ(ps pd:Nat)(D:Dsk)(G:StG)(own:Hh)(X:StX):List Ai:=
 [AbL ps pd X.pt X.md G.x (.pointer (some ⟨X.pl,0,none⟩)) own.isSome (AbK X.mm own),AbM X.pl pd X.pt X.sL G.a G.q G.u G.b X.nu,tblA X.pt,diskA pd D,pgsA X.md (ov G.rs) X.hq,poolA X.hq]++AdT X.mm X.hq own
structure StP(D:Dsk)(G:StG)(own:Hh)(X:StX):Prop where
 inv:SInv D G.x G.B G.rs G.ptl G.a G.q G.u G.b G.sure
 l:X.sL.start=G.x.start/\X.sL.len=G.x.len/\X.sL.epoch=G.x.epoch
 ok:X.sL.Ok (D.n:Int)
 nu:X.nu=decide (X.sL.epoch<4294967296)
 own:∀o,own=some o->o.2<=40/\∀n,(o.1 n).isSome=true->(n:Int)<G.x.pages
def stoA(ps pd:Nat)(D:Dsk)(G:StG)(own:Hh):Ai:=λh=>∃X,StP D G own X/\seps (RQ ps pd D G own X) h
structure Fine(D:Dsk)(G:StG)(m:Nat):Prop where
 clean:Clean D
 b:G.b=false
 ver:∀i,(D.ver i).length<=m
 gen:G.x.gen<=m
 epoch:G.x.epoch<=m
 q:G.q<=m
theorem Fine.le{D:Dsk}{G:StG}(h:Fine D G m)(e:m<=n):Fine D G n:=
 ⟨h.clean,h.b,λi=>Agu (h.ver i) e,by have:=h.gen;omega,by have:=h.epoch;omega,by have:=h.q;omega⟩
variable{z w:World}{Γ:List Ai}{ps pd:Nat}{D:Dsk}{G:StG}{own:Hh}
theorem Sep.sto(H:Sep z (stoA ps pd D G own::Γ) w):∃X,StP D G own X/\Sep z (RQ ps pd D G own X++Γ) w:=
 H.into (p:=λX=>StP D G own X) (As:=λX=>RQ ps pd D G own X) (λ_ q=>q)
theorem Sep.toSto{X:StX}(n:Nat)(H:Sep z Γ w)(b:StP D G own X)(a:Γ.take n=RQ ps pd D G own X):Sep z (stoA ps pd D G own::Γ.drop n) w:=
 H.made n (λh q=>⟨X,b,by rwa[a] at q⟩)
def Ek(M:Nat->Pg):Hh->Nat->Pg
 | none,n=>M n
 | some o,n=>(o.1 n).getD (M n)
def Qx(x:Sup)(B:Nat->Pg):StG:=⟨Ds x,B,[],[],0,1,0,false,0⟩
theorem TF{pd:Nat}{D:Dsk}{x:Sup}{B:Nat->Pg}{Gd:List Rc->Prop}(g:OInv D x B Gd)(c:Clean D)(t:x.gen<=m/\x.epoch<=m)(r:m<=1000000000):
  Ak 45 [Y pd] [diskA pd D] (λv G=>∃(ps:Nat) (b:Dsk) (a:List Rc),Gd a/\Fine b (Qx x (pgMap (ov a) B)) (m+1)/\b.n=D.n/\v=.tuple #[Y ps,I 0]/\G=[stoA ps pd b (Qx x (pgMap (ov a) B)) none]):=by
 intro z R w H;refine Ret.mono (sopen_c pd D x B Gd g c U U z R w H) ?_;rintro v s ⟨Γ',⟨ps,h,p,md,hq,b,a,f,d,q,j,l,rfl,rfl⟩,k⟩;refine ⟨_,⟨ps,b,a,f,⟨q,Z,λi=>by rw[l];simp,?_,?_,?_⟩,j,Z,Z⟩,k.toSto (X:=⟨h,p,md,0,Ds x,decide ((Ds x).epoch<4294967296),hq⟩) 6 ⟨d,⟨Z,Z,Z⟩,d.ok,Z,λo e=>(by cases e)⟩ Z⟩
 ·show x.gen+1<=_;omega
 ·show x.epoch+1<=_;omega
 show (1:Int)<=_;omega
theorem Qy{ps pd:Nat}{D:Dsk}{G:StG}:Ak 46 [Y ps] [stoA ps pd D G none] (λv X=>v=I 0/\X=[stoA ps pd D G (some (Dq,0))]):=by
 intro z R w H;obtain ⟨X,a,H⟩:=H.sto;refine Ret.mono (Cn.at (YY ps pd X.pt X.md G.x) H 6 [0,1,2,3,4,5] Z Z) ?_;rintro v c ⟨Γ',⟨rfl,m,rfl⟩,b⟩;have H2:=b.mono 1 (B:=Ev m Dq 0 X.hq) Z (λh q=>⟨[],0,PgsIn.none _ _,Z,q⟩);have H3:=H2.pick 7 [0,2,3,4,5,6,1] Z;exact ⟨_,⟨Z,Z⟩,H3.toSto (X:=⟨X.pl,X.pt,X.md,m,X.sL,X.nu,X.hq⟩) 7 ⟨a.inv,a.l,a.ok,a.nu,λo e=>by cases e;exact ⟨by omega,λn h=>(by cases h)⟩⟩ Z⟩
theorem Y6{ps pd:Nat}{D:Dsk}{G:StG}{own:Hh}:Ak 105 [Y ps] [stoA ps pd D G own] (λv X=>v=.tuple #[]/\X=[stoA ps pd D G none]):=by
 intro z R w H;obtain ⟨X,c,H⟩:=H.sto;have H2:Sep z (AbL ps pd X.pt X.md G.x (.pointer (some ⟨X.pl,0,none⟩)) own.isSome (AbK X.mm own)::AbM X.pl pd X.pt X.sL G.a G.q G.u G.b X.nu::tblA X.pt::diskA pd D::pgsA X.md (ov G.rs) X.hq::poolA X.hq::R) w:=by
  cases own with
  | none=>exact H
  | some o=>exact H.pick 7 [0,1,2,3,4,5] Z
 refine Ret.mono (Cn.at (YX ps pd X.pt X.md G.x) H2 6 [0,1,2,3,4,5] Z Z) ?_;rintro v f ⟨Γ',⟨rfl,rfl⟩,d⟩;exact ⟨_,⟨Z,Z⟩,d.toSto (X:=X) 6 ⟨c.inv,c.l,c.ok,c.nu,λo e=>(by cases e)⟩ Z⟩
theorem Y7{ps pd:Nat}{D:Dsk}{G:StG}{own:Hh}:Ak 108 [Y ps] [stoA ps pd D G own] (λv X=>v=.agg #[I G.x.gen,I G.x.epoch,I G.x.pages,I G.x.start,I G.x.len,I G.x.head,I G.x.seq]/\X=[stoA ps pd D G own]):=by
 intro z R w H;obtain ⟨X,b,H⟩:=H.sto
 cases own with
 | none=>
  refine Ret.mono (Cn.at (Qu ps pd X.pt X.md G.x) H 6 [0,1,2,3,4,5] Z Z) ?_;rintro v c ⟨Γ',⟨rfl,rfl⟩,a⟩;exact ⟨_,⟨Z,Z⟩,a.toSto (X:=X) 6 b Z⟩
 | some o=>
  refine Ret.mono (Cn.at (Qu ps pd X.pt X.md G.x) H 7 [0,1,2,3,4,5,6] Z Z) ?_;rintro v c ⟨Γ',⟨rfl,rfl⟩,a⟩;exact ⟨_,⟨Z,Z⟩,a.toSto (X:=X) 7 b Z⟩
theorem Gz{ps pd:Nat}{D:Dsk}{G:StG}{g:BF}(n:Nat)(s:(n:Int)<G.x.pages)(p:Pg)(hp:p.Ok)(y:∀h,A h->rdH 1 u 240 (p.body.map u8) h):
  Ak 48 [Y ps,I (n:Int),.agg #[I p.kind,u]] [stoA ps pd D G (some (g,m)),A] (λv X=>((g n=none/\40<=m)/\v=I 16/\X=[stoA ps pd D G (some (g,m)),A])\/(¬(g n=none/\40<=m)/\v=I 0/\X=[stoA ps pd D G (some (pgSet g n p,m+(if (g n).isSome then 0 else 1))),A])):=by
 intro z R w H;obtain ⟨X,b,H⟩:=H.sto;obtain ⟨r,j⟩:=b.own _ Z;refine Ret.mono (Cn.at (VN ps pd X.pt X.md X.mm G.x g m X.hq n s p hp u A y) H 8 [0,6,5,7,1,2,3,4] Z Z) ?_;rintro v w' ⟨Γ',(⟨d,rfl,rfl⟩|⟨d,c,hs,rfl,rfl⟩),t⟩
 ·have H3:=t.pick 8 [0,4,5,6,7,2,1,3] Z
  exact ⟨_,.inl ⟨d,Z,Z⟩,H3.toSto (X:=X) (ps:=ps) (pd:=pd) (D:=D) (G:=G) (own:=some (g,m)) 7 b Z⟩
 have H3:=(t.pick 8 [0,4,5,6,7,2,1,3] Z).mono 4 (B:=pgsA X.md (ov G.rs) c) Z (λh q=>pgsA.le hs h q);refine ⟨_,.inr ⟨d,Z,Z⟩,H3.toSto (X:=⟨X.pl,X.pt,X.md,X.mm,X.sL,X.nu,c⟩) (ps:=ps) (pd:=pd) (D:=D) (G:=G) (own:=some (pgSet g n p,m+(if (g n).isSome then 0 else 1))) 7 ⟨b.inv,b.l,b.ok,b.nu,λo e=>?_⟩ Z⟩;cases e;refine ⟨?_,λi hi=>?_⟩
 ·show m+(if (g n).isSome then 0 else 1)<=40
  split
  ·exact r
  rename_i f;have k:g n=none:=by simpa using f
  have:¬40<=m:=λe=>d ⟨k,e⟩;omega
 have a:(pgSet g n p i).isSome=true:=hi;unfold pgSet at a;split at a
 ·rename_i e;subst e;exact s
 exact j i a
theorem Li(ps pd:Nat)(D:Dsk)(G:StG)(own:Hh)(n:Nat)(g:(n:Int)<G.x.pages)(d:D.f1=0)(q:Pg)(hq:q=Ek G.M own n):
  Ak 68 [Y ps,I (n:Int)] [stoA ps pd D G own] (λv X=>(q=noPg/\v=.tuple #[.agg #[I 0,.slice none 0 0],I 0]/\X=[stoA ps pd D G own])\/(q.Ok/\∃c,v=.tuple #[.agg #[I q.kind,c],I 0]/\X=[grow 5 1 c 240 (q.body.map u8),stoA ps pd D G own])):=by
 intro z R w H;obtain ⟨X,b,H⟩:=H.sto
 cases own with
 | none=>
  refine Ret.mono (Cn.at (VL ps pd X.pt X.md G.x (ov G.rs) X.hq D n g d b.inv.ok q (G.B n) hq (λe=>b.inv.cur g e)) H 6 [0,2,3,4,5,1] Z Z) ?_;rintro v h ⟨Γ',(⟨a,rfl,rfl⟩|⟨a,c,rfl,rfl⟩),f⟩
  ·have H3:=f.pick 6 [0,5,1,2,3,4] Z
   exact ⟨_,.inl ⟨a,Z,Z⟩,H3.toSto (X:=X) (ps:=ps) (pd:=pd) (D:=D) (G:=G) (own:=none) 6 b Z⟩
  have H3:=f.pick 7 [1,6,2,3,4,5,0] Z;have H4:=H3.toSto (X:=X) (ps:=ps) (pd:=pd) (D:=D) (G:=G) (own:=none) 6 b Z;exact ⟨_,.inr ⟨a,c,Z,Z⟩,H4.pick 2 [1,0] Z⟩
 | some o=>
  refine Ret.mono (Cn.at (VM ps pd X.pt X.md X.mm G.x (ov G.rs) o.1 o.2 X.hq D n g d b.inv.ok q (G.B n) (by rw[hq];show (o.1 n).getD ((ov G.rs n).getD (G.B n))=_;cases o.1 n<;>rfl) (λe=>b.inv.cur g (by cases a:o.1 n with|none=>rw[a] at e;exact e|some y=>rw[a] at e;cases e))) H 7 [0,2,3,4,6,5,1] Z Z) ?_;rintro v h ⟨Γ',(⟨a,rfl,rfl⟩|⟨a,c,rfl,rfl⟩),f⟩
  ·have H3:=f.pick 7 [0,6,1,2,3,5,4] Z
   exact ⟨_,.inl ⟨a,Z,Z⟩,H3.toSto (X:=X) (ps:=ps) (pd:=pd) (D:=D) (G:=G) (own:=some o) 7 b Z⟩
  have H3:=f.pick 8 [1,7,2,3,4,6,5,0] Z;have H4:=H3.toSto (X:=X) (ps:=ps) (pd:=pd) (D:=D) (G:=G) (own:=some o) 7 b Z;exact ⟨_,.inr ⟨a,c,Z,Z⟩,H4.pick 2 [1,0] Z⟩
theorem OG{ps pd:Nat}{D:Dsk}{G:StG}{g:BF}(m:Nat)(h:Fine D G m)(hm:m<=1000000000):
  Ak 53 [Y ps] [stoA ps pd D G (some (g,j))] (λv X=>∃(s:Dsk) (r:StG),Fine s r (m+2)/\s.n=D.n/\(r.M=Ek G.M (some (g,j))/\∀n,(g n).isSome=true->(ov r.rs n).isSome=true)/\(r.x=G.x\/r.x=Ef G.x G.a G.q)/\v=I 0/\X=[stoA ps pd s r none]):=by
 intro z R w H;obtain ⟨X,d,H⟩:=H.sto;obtain ⟨a3,a5⟩:=d.own _ Z;have h1:=h.gen;have h2:=h.epoch;have h3:=h.q;have hL:=d.l;have hc:=Np G.x G.a G.q;refine Ret.mono (Cn.at (VQ ps pd X.pt X.pl X.md X.mm G.x X.sL X.nu X.hq g j D G.B G.rs G.ptl G.a G.q G.u G.b G.sure d.inv d.l d.ok d.nu U (λi=>by have:=h.ver i;omega) a5 a3) H 7 [0,1,2,3,4,6,5] Z Z) ?_;rintro v w' ⟨Γ',(⟨h4,rfl,rfl⟩|⟨h4,a0,s,x2,B2,p,a2,u2,f,hs,a6,⟨a4,a1⟩,y,t,k,rfl,rfl⟩|⟨_,c,a0,s,x2,B2,p,a7,a2,q2,u2,b2,f,a9,hw,_⟩),H'⟩
 ·subst h4
  have hg:∀n,g n=none:=H.sy 6 (λq=>by obtain ⟨es,clk,h1,h2,_⟩:=q;exact h1.nil_iff.1 h2);exact ⟨_,⟨D,G,h.le U,Z,⟨by funext n;show _=(g n).getD _;rw[hg];rfl,λn hn=>by rw[hg] at hn;cases hn⟩,.inl Z,Z,Z⟩,H'.toSto (X:=X) 6 ⟨d.inv,d.l,d.ok,d.nu,λo e=>(by cases e)⟩ Z⟩
 ·have a8:x2.start=G.x.start/\x2.len=G.x.len/\x2.epoch=G.x.epoch/\x2.gen<=G.x.gen+1/\G.x.gen<=x2.gen:=by
   rcases y with rfl|rfl
   ·exact ⟨Z,Z,Z,by omega,by omega⟩
   exact ⟨Z,Z,Z,by omega,by omega⟩
  refine ⟨_,⟨s,⟨x2,B2,p,[],a2,G.q+1,u2,false,f⟩,⟨t h.clean,Z,λi=>by have:=k.2 i;have:=h.ver i;omega,by show x2.gen<=_;omega,by show x2.epoch<=_;omega,by show G.q+1<=_;omega⟩,k.1,⟨?_,a1⟩,y,Z,Z⟩,H'.toSto (X:=⟨X.pl,X.pt,X.md,X.mm,X.sL,X.nu,a0⟩) 6 ⟨a6,by show X.sL.start=x2.start/\X.sL.len=x2.len/\X.sL.epoch=x2.epoch;omega,by rw[k.1];exact d.ok,d.nu,λo e=>(by cases e)⟩ Z⟩;show pgMap (ov p) B2=_;rw[a4,Kh];rfl
 rcases hw with g|g
 ·exact absurd h.clean g
 omega
theorem sync_s{ps pd:Nat}{D:Dsk}{G:StG}(m:Nat)(a:Fine D G m):Ak 54 [Y ps] [stoA ps pd D G none] (λv X=>v=I 0/\Fine D.fl {G with sure:=G.rs.length} m/\X=[stoA ps pd D.fl {G with sure:=G.rs.length} none]):=by
 intro z R w H;obtain ⟨X,c,H⟩:=H.sto;refine Ret.mono (Cn.at (Y5 ps pd X.pt X.md G.x D) H 6 [0,3,1,2,4,5] Z Z) ?_;rintro v g ⟨Γ',(⟨d,_⟩|⟨_,rfl,rfl⟩),f⟩
 ·exact absurd d a.clean.flb
 have H3:=f.pick 6 [0,2,3,1,4,5] Z;exact ⟨_,⟨Z,⟨a.clean.fl,a.b,λi=>AeR _,a.gen,a.epoch,a.q⟩,Z⟩,H3.toSto (X:=X) 6 ⟨c.inv.flush,c.l,c.ok,c.nu,λo e=>(by cases e)⟩ Z⟩
theorem OH{ps pd:Nat}{D:Dsk}{G:StG}(m:Nat)(f:Fine D G m)(hm:m<=1000000000):
  Ak 85 [Y ps] [stoA ps pd D G none] (λv X=>∃(t:Dsk) (k:StG),Fine t k (m+1)/\t.n=D.n/\k.M=G.M/\k.home/\((G.home/\k.x=G.x)\/(¬G.home/\k.x=Ef G.x G.a G.q))/\v=I 0/\X=[stoA ps pd t k none]):=by
 intro z R w H;obtain ⟨X,d,H⟩:=H.sto;have h1:=f.gen;have h2:=f.epoch;have h3:=f.q;have hc:=Np G.x G.a G.q;refine Ret.mono (Cn.at (RP ps pd X.pt X.pl X.md G.x X.sL X.nu X.hq D G.B G.rs G.ptl G.a G.q G.u G.b G.sure d.inv d.l U (λi=>by have:=f.ver i;omega)) H 6 [0,1,2,3,4,5] Z Z) ?_;rintro v w' ⟨Γ',(⟨hn,hb,hu,rfl,rfl⟩|⟨t,a1,a4,y,a0,a2,rfl,rfl⟩|⟨c,t,a3,a1,hw,_⟩),H'⟩
 ·exact ⟨_,⟨D,G,f.le U,Z,Z,hn,.inl ⟨hn,Z⟩,Z,Z⟩,H'.toSto (X:=X) 6 d Z⟩
 ·refine ⟨_,⟨t,⟨Ef G.x G.a G.q,pgMap (ov G.rs) G.B,[],[],G.a,G.q,0,false,0⟩,⟨y f.clean,Z,λi=>by rw[a2];simp,by show G.x.gen+1<=_;omega,by show G.x.epoch<=_;omega,by show G.q<=_;omega⟩,a0,Z,λ_=>rfl,.inr ⟨λhh=>a1 ⟨hh,f.b,?_⟩,Z⟩,Z,Z⟩,H'.toSto (X:=X) 6 ⟨a4,d.l,by rw[a0];exact d.ok,d.nu,λo e=>(by cases e)⟩ Z⟩
  have hr:=Qw hh (λj r h=>(d.inv.p.recs j r h).2.1.1);have hu:=d.inv.p.fu;have hl:=d.inv.s.head;rw[hr] at hu;have a5:G.u=0:=hu;omega
 rcases hw with g|g
 ·exact absurd f.clean g
 omega
end
abbrev plB(pp ps pc pa n:Nat)(un:Bool):Ai:=blk pp [.pointer (some ⟨ps,0,none⟩),.pointer (some ⟨pc,0,none⟩),.pointer (some ⟨pa,0,none⟩),.int .i64 (n:Int),.bool un] 78
theorem VU(pp ps pd a c m b n:Nat)(D:Dsk)(G:StG):Ak 70 [Y pp] [plB pp ps a b n false,stoA ps pd D G none] (λv X=>v=I 0/\X=[plB pp ps a b n true,stoA ps pd D G (some (Dq,0))]):=by
 intro z R w H;refine Ae func70 Z ntmps70 Z (Z2 12 [0,0,0,0] H Z (z_E_ Z (call46 _) (Qy) H.f1 ?_));intro w H;refine Z4 26 [4,1,0,3,4,1] H Z ?_;intro w H;refine Zr Z ?_;exact ⟨_,⟨Z,Z⟩,H.perm 2 [1,0] Z Z⟩
theorem Y8{C0:Nat->Nat}{l:List IE}{clk:Nat}{a S:Nat->Bool}(W:WasOk C C0 n l clk):Ak 132 [Y i] [plB i j e r n true,coB e g n m,Ch g C n,AJ m l clk,alB r n F a S] (λv G=>v=.tuple #[]/\G=[plB i j e r n false,coB e g n m,Ch g C0 n,AJ m ([]) clk,alB r n S BZ S]):=by
 intro z R w H;refine Ae func132 Z ntmps132 Z (Z4 14 [4,0,1,0,0] H Z ?_);intro w H;refine z_E_ Z (call179 _) (YS W) H.f3.f3.f3 ?_;intro w H;refine Z2 7 [2,3,0] H Z (z_E_ Z (call180 _) (Yb) H.f4 ?_);intro w H;refine Zc 1 Z (Zf Z ?_);exact ⟨_,⟨Z,Z⟩,H.perm 5 [4,1,2,3,0] Z Z⟩
theorem VV(pp ps pd c a m b n:Nat)(D:Dsk)(G:StG)(g:BF)(k:Nat)(C C0:Nat->Nat)(l:List IE)(clk:Nat)(F d S:Nat->Bool)(W:WasOk C C0 n l clk):Ak 71 [Y pp] [stoA ps pd D G (some (g,k)),plB pp ps c b n true,coB c a n m,Ch a C n,AJ m l clk,alB b n F d S] (λv X=>v=.tuple #[]/\X=[stoA ps pd D G none,plB pp ps c b n false,coB c a n m,Ch a C0 n,AJ m ([]) clk,alB b n S BZ S]):=by
 intro z R w H;refine Ae func71 Z ntmps71 Z (Z2 16 [4,1,0,0,0,1,0] H Z (z_E_ Z (call105 _) (Y6) H ?_));intro w H;refine Zc 4 Z (z_E_ Z (call132 _) (Y8 W) H.f5.f5.f5.f5.f5 ?_);intro w H;refine Zc 1 Z (Zf Z ?_);exact ⟨_,⟨Z,Z⟩,H.perm 6 [5,0,1,2,3,4] Z Z⟩
theorem VW(pp ps b a m d n:Nat)(c:Bool)(C:Nat->Nat)(p:Nat)(hp:p<n)(e:16<=n/\n<=1024):Ak 125 [Y pp,I (p:Int)] [plB pp ps b d n c,coB b a n m,Ch a C n] (λv G=>v=I (C p:Int)/\G=[plB pp ps b d n c,coB b a n m,Ch a C n]):=by
 intro z R w H;refine Ae func125 Z ntmps125 Z (Z2 12 [1,0,0] H Z (z_E_ Z (call111 _) (FB U U) H.f2.f2 ?_));intro w H;refine Zc 4 Z (Zr Z ?_);exact ⟨_,⟨Z,Z⟩,H.perm 3 [2,0,1] Z Z⟩
theorem Y9(pp ps d a n:Nat)(c:Bool)(F b S:Nat->Bool):Ak 8 [Y pp] [plB pp ps d a n c,alB a n F b S] (λv G=>v=I (cnt F 0 1024:Int)/\G=[plB pp ps d a n c,alB a n F b S]):=by
 intro z R w H;refine Ae func8 Z ntmps8 Z (Z2 11 [2,0,0] H Z (z_E_ Z (call24 _) (Ya) H.f1 ?_));intro w H;refine Zc 4 Z (Zr Z ?_);exact ⟨_,⟨Z,Z⟩,H.perm 2 [1,0] Z Z⟩
theorem VX(pp ps b c n:Nat)(a:Bool):Ak 18 [Y pp] [plB pp ps b c n a] (λv G=>v=.bool a/\G=[plB pp ps b c n a]):=by
 intro z R w H;refine Ae func18 Z ntmps18 Z (Z2 15 [4,0,0] H Z (Zr Z ?_));exact ⟨_,⟨Z,Z⟩,H⟩
theorem VY(pp ps pd d c m f n:Nat)(D:Dsk)(G:StG)(p:Nat)(x:Pg)(l:x.Ok)(j:Value)(B:Ai)(e:∀h,B h->rdH 1 j 240 (x.body.map u8) h)(g:BF)(k:Nat)(i:¬(g p=none/\40<=k))(y:G.x.pages=n)(C:Nat->Nat)(u:16<=n/\n<=1024)(hp:(p=0\/manyN n<p)/\p<n)(t:C p≠0):Ak 133 [Y pp,I (p:Int),.agg #[I x.kind,j]] [stoA ps pd D G (some (g,k)),plB pp ps d f n true,coB d c n m,Ch c C n,B] (λv X=>v=I 0/\X=[stoA ps pd D G (some (pgSet g p x,k+(if (g p).isSome then 0 else 1))),plB pp ps d f n true,coB d c n m,Ch c C n,B]):=by
 intro z R w H;obtain ⟨bo,bc,rfl⟩:=H.sy 4 (λq=>(e _ q).slc);refine Ae func133 Z ntmps133 Z (Za 2 [] H Z ?_);intro b1 w H;refine Z2 23 [4,2,0,1,2,0] H Z (z_E_ Z (call111 _) (FB U U) H.f4.f4 ?_);intro w H;refine Z0 2 [0] Z (An 21 Z (λo=>U) (λo=>?_));refine Z0 3 [0] Z (An 24 Z (λr=>?_) (λr=>?_))
 ·refine Z2 5 [3,4,0] H Z (z_E_ Z (call50 _) (Gf U) H ?_);intro w H;refine Z0 6 [0] Z (Af Z (λs=>U) (λs=>?_))
  refine Zc 4 Z (BJ 7 J J (A4 H λw b=>?_));have H:=b.l6;refine MC 7 [0,0,4,0,2,2] [] H Z J (CG (gw (Au Z (call48 _) (Gz p U _ l e) H.f5.f4 ?_)));rintro _ w _ (⟨a,rfl,rfl⟩|⟨_,rfl,rfl⟩) b
  ·exact absurd a i
  have H:=b.l6;refine Zc 4 Z (Zr Z ?_);exact ⟨_,⟨Z,Z⟩,H.perm 6 [0,5,2,3,1] Z Z⟩
 refine Zc 17 Z (BJ 7 J J (A4 H λw b=>?_));have H:=b.l6;refine MC 7 [0,0,4,0,2,2] [] H Z J (CG (gw (Au Z (call48 _) (Gz p U _ l e) H.f5.f4 ?_)));rintro _ w _ (⟨a,rfl,rfl⟩|⟨_,rfl,rfl⟩) b
 ·exact absurd a i
 have H:=b.l6;refine Zc 4 Z (Zr Z ?_);exact ⟨_,⟨Z,Z⟩,H.perm 6 [0,5,2,3,1] Z Z⟩
theorem VZ(pp ps pd f c m d n:Nat)(D:Dsk)(G:StG)(g:BF)(k:Nat)(C C0:Nat->Nat)(l:List IE)(clk:Nat)(F s S:Nat->Bool)(W:WasOk C C0 n l clk)(hn:16<=n/\n<=1024)(hG:G.x.pages=n)(p:Nat)(x:Pg)(hx:x.Ok)(r:Value)(B:Ai)(t:∀h,B h->rdH 1 r 240 (x.body.map u8) h)(y:¬(g p=none/\40<=k))(hp:p<n)(o:F p=true)(j:∀q,q<p->F q=false)(hC:C p=0)(A:Ai)(u:Ht A):Ak 66 [Y pp,.agg #[I x.kind,r]] [stoA ps pd D G (some (g,k)),plB pp ps f d n true,coB f c n m,Ch c C n,AJ m l clk,alB d n F s S,A,B] (λv X=>∃(e:List IE) (a:Nat),WasOk (updN C p 1) C0 n e a/\v=.tuple #[I (p:Int),I 0]/\X=[stoA ps pd D G (some (pgSet g p x,k+(if (g p).isSome then 0 else 1))),plB pp ps f d n true,coB f c n m,Ch c (updN C p 1) n,AJ m e a,alB d n (Dx F p) s S,A,B]):=by
 intro z R w H;obtain ⟨bo,bc,rfl⟩:=H.sy 7 (λq=>(t _ q).slc);refine Ae func66 Z ntmps66 Z (Za 2 [] H Z ?_);intro b1 w H;refine Z2 23 [4,2,0,2,2,0] H Z (z_E_ Z (call122 _) (Abk p U U o j u) H.f7.f7 ?_);intro w H;refine Zc 19 Z (BJ 7 J J (A4 H λw i=>?_));have H:=i.l9;refine MC 7 [0,0,4,0,2,2] [] H Z J (CG (gw (Au Z (call48 _) (Gz p U _ hx t) H.f8.f4 ?_)));rintro _ w _ (⟨b,rfl,rfl⟩|⟨_,rfl,rfl⟩) i
 ·exact absurd b y
 have H:=i.l9;refine Z2 19 [4,1,5,0] H Z (Au Z (call51 _) (I2 C0 p 1 U U U U U W) H.f8.f8.f8 ?_);rintro _ w _ ⟨e,a,W2,rfl,rfl⟩ H;refine Zc 10 Z (Zr Z ?_);exact ⟨_,⟨e,a,W2,Z,Z⟩,H.perm 9 [3,8,0,1,2,5,6,4] Z Z⟩
theorem TG(pp ps d a n:Nat)(x:Pg)(i:x.Ok)(e:Value)(B:Ai)(f:∀h,B h->rdH 1 e 240 (x.body.map u8) h)(F c S:Nat->Bool)(b:∀q,q<1024->F q=false):Ak 66 [Y pp,.agg #[I x.kind,e]] [plB pp ps d a n true,alB a n F c S,B] (λv G=>v=.tuple #[I 0,I 20]/\G=[plB pp ps d a n true,alB a n F c S,B]):=by
 intro z R w H;obtain ⟨k,g,rfl⟩:=H.sy 2 (λq=>(f _ q).slc);refine Ae func66 Z ntmps66 Z (Za 2 [] H Z ?_);intro j w H;refine Z2 23 [4,1,0,2,1,0] H Z (z_E_ Z (call122 _) (Yc b) H.f2 ?_);intro w H;refine Zc 22 Z (Zr Z ?_);exact ⟨_,⟨Z,Z⟩,H.perm 4 [2,0,3] Z Z⟩
theorem AbN(pp ps d b m e n:Nat)(C C0:Nat->Nat)(l:List IE)(clk:Nat)(W:WasOk C C0 n l clk)(i:16<=n/\n<=1024)(p:Nat)(hp:manyN n<p/\p<n)(h:1<=C p/\C p<1000):Ak 117 [Y pp,I (p:Int)] [plB pp ps d e n true,coB d b n m,Ch b C n,AJ m l clk] (λv G=>∃(c:List IE) (a:Nat),WasOk (updN C p (C p+1)) C0 n c a/\v=I 0/\G=[plB pp ps d e n true,coB d b n m,Ch b (updN C p (C p+1)) n,AJ m c a]):=by
 intro z R w H;replace H:=H.l4;refine Ae func117 Z ntmps117 Z (Z2 25 [4,0,0,1,0,0] H Z (z_E_ Z (call111 _) (FB U U) H.f2.f2 ?_));intro w H;replace H:=H.l4;refine Z0 2 [0] Z (An 19 Z (λf=>U) (λf=>?_));refine Z2 5 [3,2,0] H Z (z_E_ Z (call50 _) (Gf U) H ?_);intro w H;replace H:=H.l4;refine Z0 5 [0] Z (Af Z (λg=>U) (λg=>?_));refine Z2 10 [1,2,0] H Z (Au Z (call51 _) (I2 C0 p (C p+1) U U U U U W) H.f3.f2.f2 ?_);rintro _ w _ ⟨c,a,W2,rfl,rfl⟩ H;replace H:=H.l4;refine Zc 4 Z (Zr Z ?_);exact ⟨_,⟨c,a,W2,Z,Z⟩,H.perm 4 [3,0,1,2] Z Z⟩
theorem V1(pp ps d b m e n:Nat)(C C0:Nat->Nat)(l:List IE)(clk:Nat)(W:WasOk C C0 n l clk)(j:16<=n/\n<=1024)(p:Nat)(hp:manyN n<p/\p<n)(i:2<=C p/\C p<=1000):Ak 131 [Y pp,I (p:Int)] [plB pp ps d e n true,coB d b n m,Ch b C n,AJ m l clk] (λv G=>∃(c:List IE) (a:Nat),WasOk (updN C p (C p-1)) C0 n c a/\v=I 0/\G=[plB pp ps d e n true,coB d b n m,Ch b (updN C p (C p-1)) n,AJ m c a]):=by
 intro z R w H;replace H:=H.l4;refine Ae func131 Z ntmps131 Z (Z2 25 [4,0,0,1,0,0] H Z (z_E_ Z (call111 _) (FB U U) H.f2.f2 ?_));intro w H;replace H:=H.l4;refine Z0 2 [0] Z (An 20 Z (λf=>U) (λf=>?_));refine Z2 5 [3,2,0] H Z (z_E_ Z (call50 _) (Gf U) H ?_);intro w H;replace H:=H.l4;refine Z0 5 [0] Z (Af Z (λg=>U) (λg=>?_));refine Z2 11 [1,2,0] H Z (Au Z (call51 _) (I2 C0 p (C p-1) U U U U U W) H.f3.f2.f2 ?_);rintro _ w _ ⟨c,a,W2,rfl,rfl⟩ H;replace H:=H.l4;refine Z2 20 [4,1,3,0] H Z (z_E_ Z (call111 _) (FB U U) H ?_);intro w H;replace H:=H.l4;refine AD 43 (v:=I ((C p-1:Nat):Int)) Z (congrArg I (by simp[updN])) (Z0 3 [0] Z (Af Z (λh=>U) (λh=>?_)));refine Zc 8 Z (Zr Z ?_);exact ⟨_,⟨c,a,W2,Z,Z⟩,H.perm 4 [3,0,1,2] Z Z⟩
theorem Zb(pp ps e b m c n:Nat)(C C0:Nat->Nat)(l:List IE)(clk:Nat)(W:WasOk C C0 n l clk)(o:16<=n/\n<=1024)(p:Nat)(hp:manyN n<p/\p<n)(F f S:Nat->Bool)(k:C p=1)(g:F p=false)(i:f p=false):Ak 131 [Y pp,I (p:Int)] [plB pp ps e c n true,coB e b n m,Ch b C n,AJ m l clk,alB c n F f S] (λv G=>∃(d:List IE) (a:Nat),WasOk (updN C p (0)) C0 n d a/\v=I 0/\G=[plB pp ps e c n true,coB e b n m,Ch b (updN C p (0)) n,AJ m d a,alB c n F (Gl f p) S]):=by
 intro z R w H;replace H:=H.l5;refine Ae func131 Z ntmps131 Z (Z2 25 [4,0,0,1,0,0] H Z (z_E_ Z (call111 _) (FB U U) H.f2.f2 ?_));intro w H;replace H:=H.l5;refine Z0 2 [0] Z (An 20 Z (λh=>U) (λh=>?_));refine Z2 5 [3,2,0] H Z (z_E_ Z (call50 _) (Gf U) H ?_);intro w H;replace H:=H.l5;refine Z0 5 [0] Z (Af Z (λj=>U) (λj=>?_));refine Z2 11 [1,2,0] H Z (Au Z (call51 _) (I2 C0 p 0 U U U U U W) H.f3.f2.f2 ?_);rintro _ w _ ⟨d,a,W2,rfl,rfl⟩ H;replace H:=H.l5;refine Z2 20 [4,1,3,0] H Z (z_E_ Z (call111 _) (FB U U) H ?_);intro w H;replace H:=H.l5;refine AD 43 (v:=I 0) Z (congrArg I (by simp[updN])) (Z2 10 [3,2,3,0] H Z (z_E_ Z (call170 _) (X8 U U g i) H.f4 ?_));intro w H;replace H:=H.l5;refine Zc 8 Z (Zr Z ?_);exact ⟨_,⟨d,a,W2,Z,Z⟩,H.perm 5 [4,1,2,3,0] Z Z⟩
def DC(C:Nat->Nat)(n i:Nat):Pg:=⟨2,Lg (Ew C n i)⟩
theorem Fc:(DC C n i).Ok:=⟨⟨by show (1:Int)<=2;omega,by show (2:Int)<=5;omega⟩,YE (Jz _ _ _)⟩
theorem Zd(F:Nat->Bool)(a:Nat)(hi:i<n)(h:F (a+i)=true):1<=cnt F a n:=by
 have e:=HG F a i (n-i);rw[show i+(n-i)=n by omega] at e;obtain ⟨m,b⟩:∃m,n-i=1+m:=⟨n-i-1,by omega⟩;rw[b,HG] at e;have:cnt F (a+i) 1=1:=by simp[cnt,h]
 omega
theorem GX{F G:Nat->Bool}{a:Nat}:∀{n:Nat},(∀i,i<n->F (a+i)=G (a+i))->cnt F a n=cnt G a n
 | 0,_=>rfl
 | n+1,h=>by simp only[cnt];rw[GX (λi hi=>h i U),h n U]
theorem OI{G:Nat->Bool}(hi:i<n)(h:F i=true)(d:G i=false)(hs:∀j,j≠i->F j=G j):cnt G 0 n+1=cnt F 0 n:=by
 have e:=λF=>HG F 0 i (1+(n-i-1));have e2:=λF=>HG F (0+i) 1 (n-i-1);have c:=λF=>(e F).trans (by rw[e2 F]);rw[show i+(1+(n-i-1))=n by omega] at c;have g:cnt F 0 i=cnt G 0 i:=GX (λj f=>hs _ U);have k:cnt F (0+i+1) (n-i-1)=cnt G (0+i+1) (n-i-1):=GX (λj f=>hs _ U);have m:cnt F (0+i) 1=1:=by simp[cnt,h]
 have l:cnt G (0+i) 1=0:=by simp[cnt,d]
 have a:=c F;have b:=c G;omega
structure CmI(n:Nat)(C:Nat->Nat)(zs:List Int)(g0:BF)(k0 j:Nat)(g:BF)(k:Nat):Prop where
 jl:j<=zs.length
 old:∀p,(p=0\/manyN n<p)->g p=g0 p
 rm:k+cnt (λi=>(g (1+i)).isNone) 0 (manyN n)<=k0+manyN n
 set:∀i,i<manyN n->g (1+i)=none\/g (1+i)=some (DC C n i)
 dn:∀j',j'<j->∀i:Nat,zs[j']?=some (i:Int)->g (1+i)=some (DC C n i)
theorem Qz(F:Nat->Bool)(a:Nat):∀n,cnt F a n<=n
 | 0=>Ael _
 | n+1=>by
  have:=Qz F a n;have:(F (a+n)).toNat<=1:=by cases F (a+n)<;>simp
  simp only[cnt];omega
theorem CmI.start{zs:List Int}{a:BF}(h:∀i,i<manyN n->a (1+i)=none):CmI n C zs a m 0 a m:=
 ⟨AeR _,λ_ _=>rfl,by have:=Qz (λi=>(a (1+i)).isNone) 0 (manyN n);omega,λi hi=>.inl (h i hi),λb c=>by omega⟩
theorem CmI.room{zs:List Int}{b g:BF}{k:Nat}(I_:CmI n C zs b m j g k)(hi:i<manyN n)(c:m+manyN n<=40):¬(g (1+i)=none/\40<=k):=λ⟨a,d⟩=>by
 have:=Zd (λi=>(g (1+i)).isNone) 0 hi (by simp[a]);have:=I_.rm;omega
theorem CmI.put{zs:List Int}{f g:BF}{k:Nat}(I_:CmI n C zs f m j g k)(hi:i<manyN n)(d:zs[j]?=some (i:Int)):CmI n C zs f m (j+1) (pgSet g (1+i) (DC C n i)) (k+(if (g (1+i)).isSome then 0 else 1)):=by
 have b:=(Aee.1 d).1;refine ⟨b,λp hp=>?_,?_,λq hq=>?_,λa r q hq=>?_⟩
 ·unfold pgSet;rw[if_neg U];exact I_.old p hp
 ·have o:=I_.rm
  split
  ·rename_i c
   rw[<-GX (F:=λi=>(g (1+i)).isNone)]
   ·exact o
   intro q _;unfold pgSet;split
   ·rename_i e;rw[show 0+q=i by omega];cases e2:g (1+i)<;>simp_all
   rfl
  rename_i c;have l:g (1+i)=none:=by simpa using c
  have:=OI (F:=λi=>(g (1+i)).isNone) (G:=λq=>(pgSet g (1+i) (DC C n i) (1+q)).isNone) hi (by simp[l]) (by simp[pgSet]) (λq hq=>by unfold pgSet;rw[if_neg U]);omega
 ·unfold pgSet;split
  ·rename_i e;obtain rfl:q=i:=by omega
   exact .inr Z
  exact I_.set q hq
 unfold pgSet;split
 ·rename_i e;obtain rfl:q=i:=by omega
  rfl
 rcases Aeu a j with h|h
 ·exact I_.dn a h q hq
 obtain rfl:a=j:=by omega
 rw[d] at hq;simp at hq;omega
theorem CmI.done{C0:Nat->Nat}{zs:List Int}{o g:BF}{k:Nat}(I_:CmI n C zs o m zs.length g k)(l:∀x:Int,x∈zs↔∃k:Nat,k<n/\C k≠C0 k/\x=((k/120:Nat):Int))(hi:i<manyN n):g (1+i)=some (DC C n i)\/g (1+i)=none/\DC C0 n i=DC C n i:=by
 rcases I_.set i hi with h|h
 ·refine .inr ⟨h,?_⟩
  have c:(i:Int)∉zs:=λf=>by
   obtain ⟨j,d⟩:=Ae5 f;have:=I_.dn j (Aee.1 d).1 i d;rw[h] at this;cases this
  have:Ew C0 n i=Ew C n i:=by
   unfold Ew;refine AfE λq hq=>?_;split
   ·rename_i b
    have:=AfT.1 hq;refine congrArg Int.ofNat (Afg λa=>c ((l _).2 ⟨120*i+q,b,λe=>a e.symm,by rw[show (120*i+q)/120=i by omega]⟩))
   rfl
  unfold DC;rw[this]
 exact .inl h
theorem Ze(h:m<n):m/120<manyN n:=by unfold manyN;omega
theorem OJ(h:B.length=240):0+240*1<=(Bb (AL B) t).length:=by
 have hp:=AW (l:=B) U;unfold Bb;rw[Aeh,Aei];omega
theorem QA(h:B.length=240):((Bb (AL B) t).drop 0).take (240*1)=B.map u8:=by
 unfold Bb;rw[Aey,AeS];have hp:=AW (l:=B) U;rw[Aew (by rw[Aei];omega),<-Afr];have:=Vv h;rw[Aey] at this;rw[this]
theorem TH(pp ps pd f o m b n:Nat)(D:Dsk)(G:StG)(mb:Nat)(s:BF)(y:Nat)(C C0:Nat->Nat)(l:List IE)(clk:Nat)(F Dd S:Nat->Bool)(W:WasOk C C0 n l clk)(hn:16<=n/\n<=1024)(hG:G.x.pages=n)(hg:∀i,i<manyN n->s (1+i)=none)(hk:y+manyN n<=40)(a6:∀k,C k<=1000)(hF:Fine D G mb)(hm:mb<=1000000000):Ak 134 [Y pp] [stoA ps pd D G (some (s,y)),plB pp ps f b n true,coB f o n m,Ch o C n,AJ m l clk,alB b n F Dd S] (λv X=>∃(D2:Dsk) (c:StG) (g:BF) (k:Nat) (zs:List Int),CmI n C zs s y zs.length g k/\(∀x:Int,x∈zs↔∃k:Nat,k<n/\C k≠C0 k/\x=((k/120:Nat):Int))/\Fine D2 c (mb+2)/\D2.n=D.n/\c.M=Ek G.M (some (g,k))/\(c.x=G.x\/c.x=Ef G.x G.a G.q)/\v=I 0/\X=[stoA ps pd D2 c none,plB pp ps f b n false,coB f o n m,Ch o C n,AJ m ([]) clk,alB b n (Di F Dd) BZ (Di F Dd)]):=by
 intro z R w H;refine Ae func134 Z ntmps134 Z (Z2 25 [4,1,0,1,1,0] H Z (Au Z (call181 _) (Tx C0 U W) H.f4.f4.f4 ?_));rintro v1 w _ ⟨v2,zs,Z_,⟨b4,a3,t⟩,rfl,rfl⟩ H;obtain ⟨za,zc,rfl⟩:=H.sy 0 (λq=>(t _ q).slc);refine Zc 5 Z ?_;refine AF (σ:=Nat×BF×Nat) (λ⟨j,g,k⟩=>[(18,I (j:Int)),(0,Y pp),(16,.slice za zs.length zc),(17,I (zs.length:Int))])
   (λ⟨j,g,k⟩ w=>Sep z (Z_::coB f o n m::Ch o C n::AJ m l clk::stoA ps pd D G (some (g,k))::plB pp ps f b n true::alB b n F Dd S::R) w/\(CmI n C zs s y j g k)) (λ⟨j,g,k⟩=>zs.length-j) ⟨0,s,y⟩
   fr_z ⟨H,CmI.start hg⟩ ?_
 clear H;rintro ⟨j,g,k⟩ w ⟨p,hI⟩;dsimp only at hI p ⊢;have H:=p.l7;have hC:=hI;clear hI;have b2:=hC.jl;refine Z0 6 [0] Z (Af Z (λh1=>?_) (λh1=>?_))
 ·obtain ⟨z_,e⟩:∃z_,zs[j]?=some z_:=⟨_,Aef U⟩;obtain ⟨q_,a5,b5,a2⟩:=(a3 z_).1 (Aeg e);obtain ⟨i,a0⟩:∃i,i=q_/120:=⟨_,Z⟩;rw[<-a0] at a2;subst a2;have hi:i<manyN n:=a0▸Ze a5
  have b3:manyN n<n:=by unfold manyN;omega
  refine Zc 6 Z ?_;have a1:=(H.rd 0 Z t).at (j:=j) (u:=I (i:Int)) (by simp[e]);refine Ad Z (Aj Z (z:=1) (j:=j) (r:=j) J Z Z Z U a1 U) (Ad Z (Ax Z Z J (AB a1)) (Zc 4 Z ?_));replace H:=H.f5;refine AS (Sep z (plB pp ps f b n true::R)) 16 Z J (A4 H λw p=>?_);have H:=p.l7;refine HJ [0,1,2,3,4,5,6,7,8,9,10,11] [0,0,0,0,1,0,0] [((1+i:Nat):Int)] (by exact H.pick 7 [0] Z) Z J U Z (AE [12] J O (Al (Br Z Z Z Z Z Z (λw=>call52 _ w) (Qr i hi U a6) H.f3.f3 Z ?_)));rintro _ w _ ⟨pw,rfl,rfl⟩ H;refine Az (H.pick 8 [3] Z) (AZ [13] [] [] (by exact H.pick 8 [3] Z) Z J Z (AE [14] J O (Al (Br Z Z Z Z Z Z (λw=>call48 _ w) (Gz (1+i) U (DC C n i) (Fc) (λh q=>q.rd U U (OJ (Fc).2) (QA (Fc).2))) H.f6 Z ?_))));rintro _ w _ (⟨a4,rfl,rfl⟩|⟨_,rfl,rfl⟩) p
  ·exact absurd a4 (hC.room hi hk)
  have H:=p.l8;refine Az (H.pick 8 [4] Z) (AZ [15] [] [] (by exact H.pick 8 [4] Z) Z J Z (a_done J (gn (Z1 15 [4] [(j:Int)+1] Z U ?_))));replace H:=H.f1.d.f6.f4.f2.f6.f5.f5.f6;refine gf ?_;intro _ hF;refine ⟨⟨j+1,pgSet g (1+i) (DC C n i),k+(if (g (1+i)).isSome then 0 else 1)⟩,hF.cz,⟨H,?_⟩,?_⟩
  ·exact hC.put hi e
  (dsimp only;omega)
 obtain rfl:j=zs.length:=by omega
 refine Zc 2 Z (gx (Z2 10 [0,0,5,0] H Z (Au Z (call53 _) (OG mb hF hm) H.f4 ?_)));rintro _ w _ ⟨D2,c,a7,b0,⟨a8,b1⟩,a9,rfl,rfl⟩ H;refine Z4 26 [4,4,5,1,5,0] H Z ?_;intro w H;refine z_E_ Z (call182 _) (Tw) H.f4.f3 ?_;intro w H;refine Z2 8 [2,5,0] H Z (z_E_ Z (call113 _) (ME) H.f6 ?_);intro w H;refine Zc 8 Z (Zr Z ?_);exact ⟨_,⟨D2,c,g,k,zs,hC,a3,a7,b0,a8,a9,Z,Z⟩,H.perm 7 [3,6,1,5,2,0] Z Z⟩
section
section
variable{P:Program}{o:Oper}{w z:World}{Γ:List Ai}{n:Nat}{ds:List Deferred}{L:List (Nat×Value)}{x y:Operand}
theorem Zg{e:TypeId}{k:Nat}(H:Sep z Γ w)(ho:o.op=.makeSlice T x y)(ht:P.underlying T=some (.slice e))(l:Elt P e u m j)(r:ev L x=some (I k))(hy:ev L y=some (I k))(hk:j*k<=140737488355328){out:List Value}(c:madeCells u.cells (k*m)=out.toArray):
  CA P n ds L o w (λv w'=>∃b,v=.slice (some ⟨b,0,none⟩) k k/\Sep z (blk b out e::Γ) w'):=λa h=>by
 obtain ⟨i,hi,t,hs,p,q,s,f⟩:=l;have d:(i.bytes:Int)*(k:Int)<=281474976710656:=by
  rw[p,<-Int.natCast_mul];omega
 have g:=run_make (P:=P) (w:=w) T e i u ht hi t .i64 .i64 (k:Int) (k:Int) U (Afo _) d (by
  have:1*k<=j*k:=AfJ _ f;omega)
 have e1:madeCells u.cells (((k:Int)).toNat*i.size)=out.toArray:=by
  rw[Ae7,hs];exact c
 rw[e1] at g;refine ⟨_,_,?_,w.heap.size,Z,H.new (Dv w (.cells out.toArray e)) (Ael _) (by show (w.heap.push _)[w.heap.size]?=_;simp)⟩;simp only[execOp,ho,h.ev r,h.ev hy,Aex,g,Aet,AeC,Ae7];rfl
end
theorem V4(h:B.length=256):0+240*1<=(Bb B t).length:=by unfold Bb;rw[Aeh,Aei];omega
theorem Zh(h:B.length=256):((Bb B t).drop 0).take (240*1)=(B.take 240).map u8:=by
 unfold Bb;rw[Aey,AeS,Aew (by rw[Aei];omega),Afr]
def C1(i:Nat):Nat->Nat:=λp=>if p<i then 1 else 0
theorem QB(i:Nat):updN (C1 i) i 1=C1 (i+1):=by
 funext p;unfold updN C1;split
 ·rw[if_pos U]
 by_cases h:p<i
 ·rw[if_pos h,if_pos U]
 rw[if_neg h,if_neg U]
theorem QC:C1 0=λ_=>0:=by funext p;simp[C1]
theorem RR(k:Nat):C1 i k<=1000:=by unfold C1;split<;>omega
def gF(n:Nat)(cb:List UInt8)(i:Nat):BF:=λp=>if p=0 then some ⟨1,cb⟩ else if p<=i then some (DC (C1 (manyN n+1)) n (p-1)) else none
theorem Zi(n:Nat)(a:List UInt8)(i:Nat):(some (pgSet (gF n a i) (1+i) (DC (C1 (manyN n+1)) n i),1+i+(if (gF n a i (1+i)).isSome then 0 else 1)):Hh)=some (gF n a (i+1),1+(i+1)):=by
 have e:gF n a i (1+i)=none:=by unfold gF;rw[if_neg U,if_neg U]
 rw[e];have:pgSet (gF n a i) (1+i) (DC (C1 (manyN n+1)) n i)=gF n a (i+1):=by
  funext p;unfold pgSet gF;split
  ·rename_i h;subst h;rw[if_neg U,if_pos U,show 1+i-1=i by omega]
  by_cases h0:p=0
  ·rw[if_pos h0,if_pos h0]
  rw[if_neg h0,if_neg h0];by_cases h1:p<=i
  ·rw[if_pos h1,if_pos U]
  rw[if_neg h1,if_neg U]
 rw[this];simp;omega
theorem Zj(n:Nat)(a:List UInt8):(some (pgSet Dq 0 ⟨1,a⟩,0+(if (Dq 0).isSome then 0 else 1)):Hh)=some (gF n a 0,1+0):=by
 have:pgSet Dq 0 ⟨1,a⟩=gF n a 0:=by
  funext p;unfold pgSet gF Dq;split
  ·rfl
  rw[if_neg U]
 rw[this];rfl
theorem Ki{n:Nat}(h:n<=1024):manyN n<=9:=by unfold manyN;omega
theorem OK{n:Nat}(h:16<=n):1<=manyN n/\manyN n+1<n:=by unfold manyN;omega
theorem Sep.flDisk{z w:World}{Γ:List Ai}{ps pd:Nat}{D:Dsk}{G:StG}(H:Sep z (stoA ps pd D.fl {G with sure:=G.rs.length} none::Γ) w)(hq:G.q<=1099511627776):OInv D.fl G.x G.B (λd=>d=G.rs)/\Sep z (diskA pd D.fl::Γ) w:=by
 obtain ⟨X,g,H⟩:=H.sto;have h:=g.inv.crashed (D':=D.fl) hq ⟨Z,λ_=>rfl,λ_=>.inl Z⟩;have e:(λd:List Rc=>G.rs.length<=d.length/\d.length<=G.rs.length/\d=G.rs.take d.length)=λd=>d=G.rs:=funext λd=>propext ⟨λ⟨a,b,c⟩=>by rw[c];exact Aem U,λe=>by subst e;simp⟩;refine ⟨?_,H.pick 6 [3] Z⟩;have f:OInv D.fl G.x G.B (λd:List Rc=>G.rs.length<=d.length/\d.length<=G.rs.length/\d=G.rs.take d.length):=h;rw[e] at f;exact f
end
section
section
variable{P:Program}{C:World->Prop}{o:Oper}{n:Nat}{ds:List Deferred}{L:List (Nat×Value)}{x y:Operand}{xt yt:TypeId}
def MS(P:Program)(t:TypeId)(f:Nat)(cs:Array Value):Option Value:=match P.underlying t with
 | some (.struct fs)=>match fs[f]? with
  | some fd=>bif Gi P fd.type then cs[fd.offset]? else none
  | none=>none
 | _=>none
theorem OL{cs:Array Value}(f:o.op=.field T x m)(g:ev L x=some (.agg cs))(b:MS P T m cs=some v):Av P C n ds L o v:=λa d w _=>by
 unfold MS at b;split at b
 ·rename_i i c
  split at b
  ·rename_i h e
   cases hb:Gi P h.type with
   | false=>rw[hb] at b;cases b
   | true=>
    rw[hb] at b;simp only[cond_true] at b;simp only[execOp,f,d.ev g,Instr.field,Aex,run_underlying c,Aet,e];simp[asAgg,part,FN hb,b,go_sem]
  cases b
 cases b
end
end
def AR(n:Nat)(C:Nat->Nat):Nat->Bool:=λp=>decide (p<n/\C p=0)
def LC(C:Nat->Nat)(i:Nat):Nat->Nat:=λp=>if p/120+1<i then C p else 0
theorem Zk(C:Nat->Nat):LC C 0=λ_=>0:=by funext p;simp[LC]
theorem AbO(C:Nat->Nat):LC C 1=LC C 0:=by funext p;simp[LC]
theorem TI(C:Nat->Nat)(n i:Nat)(h:m<120):(Ew C n i).getD m 0=if 120*i+m<n then (C (120*i+m):Int) else 0:=by
 simp[Ew,List.getD,h]
theorem Zm(C:Nat->Nat)(n j:Nat):C5 (HQ (LC C (1+j)) j (Ew C n j) 120) n=C5 (LC C (1+j+1)) n:=by
 unfold C5;refine AfE λp hp=>?_;have hp:=AfT.1 hp;unfold HQ LC;by_cases h:p/120=j
 ·rw[if_pos ⟨h,by omega⟩,if_pos U,TI _ _ _ U,if_pos U,show 120*j+p%120=p by omega];rfl
 rw[if_neg (λq=>h q.1)];by_cases h2:p/120+1<1+j
 ·rw[if_pos h2,if_pos U]
 rw[if_neg h2,if_neg U]
theorem AbP(C:Nat->Nat)(n:Nat):C5 (LC C (manyN n+1)) n=C5 C n:=by
 unfold C5;refine AfE λp hp=>?_;have hp:=AfT.1 hp;unfold LC;rw[if_pos (by unfold manyN;omega)]
theorem AbQ :∀(k:Nat) (x:Int),(Ew C n i)[k]?=some x->n<=120*i+k->x=0:=λk x h b=>by
 have a:=(Aee.1 h).1;rw[Jz] at a;have:=TI C n i a;rw[List.getD,h,if_neg U] at this;simpa using this
def HV(C:Nat->Nat)(n i:Nat):Nat->Bool:=λp=>decide (p<n) && !(decide (p<i)&&decide (0<C p))
theorem V5(C:Nat->Nat)(n:Nat):HV C n 0=DT n:=by funext p;simp[HV,DT]
theorem Zn(C:Nat->Nat)(n:Nat):HV C n n=AR n C:=by
 funext p;unfold HV AR;rw[Aez];simp;omega
theorem V6(h:0<C i):Dx (HV C n i) i=HV C n (i+1):=by
 funext p;unfold Dx HV;rw[Aez];simp;by_cases e:p=i
 ·subst e;simp;omega
 simp[e];omega
theorem V7(h:¬0<C i):HV C n i=HV C n (i+1):=by
 funext p;unfold HV;by_cases e:p=i
 ·subst e;have:decide (0<C p)=false:=decide_eq_false h
  rw[this];simp
 have a:decide (p<i)=decide (p<i+1):=decide_eq_decide.2 U;rw[a]
theorem QD(F:Nat->Bool):Di F BZ=F:=by funext p;simp[Di,BZ]
theorem AbR(h:i<n):HV C n i i=true:=by unfold HV;simp[h]
theorem Zo{G:StG}(mb n:Nat)(C:Nat->Nat)(o:Fine D G mb)(hn:16<=n/\n<=1024)(hG:G.x.pages=n)(cb:List UInt8)(l:G.M 0=⟨1,cb⟩)(s:∀i,i<manyN n->G.M (1+i)=DC C n i)(hC:∀k,C k<=1000)(a0:∀p,p<=manyN n->C p=1):Ak 55 [Y e] [stoA e g D G none] (λv X=>∃pp c a m b:Nat,v=.tuple #[Y pp,I 0]/\X=[stoA e g D G none,plB pp e c b n false,coB c a n m,Ch a C n,AJ m ([]) 0,alB b n (AR n C) BZ (AR n C)]):=by
 intro z R w H;have b0:=OK hn.1;refine Ae func55 Z ntmps55 Z (Zc 21 Z (z_E_ Z (call108 _) (Y7) H ?_));intro w H;refine Ad Z (OL (v:=I G.x.pages) Z Z J) (AD 18 (v:=I (n:Int)) Z (congrArg I hG) (Ad Z (Be Z Z (out:=[Y e,.pointer none,.pointer none,I (n:Int),.bool false]) J) (Za 0 [] H Z ?_)));intro r w H;refine Z2 10 [3,0,0] H Z (Au Z (call49 _) (Tv U) H ?_);rintro _ w _ ⟨c,a,m,rfl,rfl⟩ H;refine Z4 15 [1,3,3,3,0] H Z ?_;intro w H;refine Au Z (call109 _) (Abj U) H ?_;rintro _ w _ ⟨b,rfl,rfl⟩ H;refine Z4 11 [2,4,3,4,0] H Z ?_;intro w H;refine z_E_ Z (call50 _) (Gf U) H ?_;intro w H;refine Z1 17 [] [(manyN n:Int)+1] Z U ?_;refine AF (σ:=Nat) (λi=>[(47,I (i:Int)),(6,.bool false),(0,Y e),(4,Y r),(5,I (manyN n:Int)),(46,I ((manyN n:Int)+1))])
   (λi w=>Sep z (alB b n (DT n) BZ (DT n)::coB c a n m::Ch a (LC C i) n::AJ m ([]) 0::plB r e c b n false::stoA e g D G none::R) w/\(i<=manyN n+1)) (λi=>manyN n+1-i) 0
   fr_z ⟨(by rw[Zk];exact H),by omega⟩ ?_
 clear H;rintro i w ⟨f,t⟩;have H:=f.l6;have a6:=t;clear t;refine Z0 6 [0] Z (Af Z (λy=>?_) (λy=>?_))
 ·have a4:G.M i≠noPg:=λq=>by
    rcases AgV i with h0|h0
    · subst h0;rw[l] at q;cases q
    · have y:=s (i-1) U;rw[show 1+(i-1)=i by omega,q] at y;cases y
  refine Zc 14 Z (Au Z (call68 _) (Li e g D G none i U o.clean.f1 (G.M i) Z) H.f5 ?_);rintro _ w _ (⟨a8,rfl,rfl⟩|⟨a9,rv,rfl,rfl⟩) f
  ·exact absurd a8 a4
  have H:=f.l7;obtain ⟨gb,a7,rest,rfl,c1,c2,c3,H⟩:=H.ungrow 0 Z U;refine Za 3 [] H Z ?_;intro b2 w H;refine Z4 20 [0,4,0] H Z ?_;intro w H;refine Af Z (λh2=>?_) (λh2=>?_)
  ·obtain rfl:i=0:=by omega
   refine Z2 5 [0,0,0] H Z (AD 84 (v:=I 1) Z (congrArg I (by rw[l])) (Z1 11 [4] [(0:Int)+1] Z U ?_));replace H:=H.f1.d.d.f5.f5.f5.f5.f5;refine gf ?_;intro _ o;refine ⟨(0+1),o.cz,⟨(by rw[AbO];exact H),?_⟩,?_⟩
   ·omega
   omega
  obtain ⟨j,rfl⟩:∃j,i=1+j:=⟨i-1,by omega⟩;have a3:=s j U;have a1:(G.M (1+j)).body.length=240:=by rw[a3];exact (Fc).2
  have a5:(G.M (1+j)).body=Lg (Ew C n j):=by rw[a3];rfl
  refine BJ 15 J J (A4 H λw f=>?_);have H:=f.l8;refine PU 4 [0,0] (AN (H.blk 0 Z) AH) Z J Z (AD 59 (v:=I 2) Z (congrArg I (by rw[s j U];rfl)) (ER 11 [4,1,7,0,1,0,0] [(j:Int)] H Z J U (CG (gw (z_E_ Z (call110 _) (YQ j U U (λh q=>q.rd U U (by rw[Aeh,Aei,a1];omega) (by rw[Aey,AeS,AeI (by rw[Aei,a1])])) (Ew C n j) (Jz _ _ _) (Tu hC) a5 AbQ) H.f1.f6.f6.f6 ?_)))));intro w H;dsimp only[Ch] at H;rw[Zm] at H;have f:Sep z (coB c a n m::Ch a (LC C (1+j+1)) n::AJ m ([]) 0::blk gb ((G.M (1+j)).body.map u8++rest) 5::blk b2 [I ((G.M (1+j)).kind),.slice (some ⟨gb,0,none⟩) 240 a7] 109::stoA e g D G none::alB b n (DT n) BZ (DT n)::plB r e c b n false::R) w:=H;clear H;have H:=f.l8;refine Z1 11 [4] [((1+j):Int)+1] Z U ?_;replace H:=H.f4.d.f3.d.f3.f5.f4.f4.f4.f5;refine gf ?_;intro _ o;refine ⟨(1+j+1),o.cz,⟨H,?_⟩,?_⟩
  ·omega
  omega
 obtain rfl:i=manyN n+1:=by omega
 refine Zc 2 Z (gx (Zc 4 Z ?_));dsimp only[Ch] at H;rw[AbP] at H;have f:Sep z (alB b n (DT n) BZ (DT n)::coB c a n m::Ch a C n::AJ m ([]) 0::plB r e c b n false::stoA e g D G none::R) w:=H;clear H;have H:=f.l6;refine Z1 7 [] [(manyN n:Int)+1] Z U ?_;refine AF (σ:=Nat) (λi=>[(90,I (i:Int)),(6,.bool false),(4,Y r),(89,I ((manyN n:Int)+1))])
   (λi w=>Sep z (alB b n (DT n) BZ (DT n)::coB c a n m::Ch a C n::AJ m ([]) 0::plB r e c b n false::stoA e g D G none::R) w/\(i<=manyN n+1)) (λi=>manyN n+1-i) 0
   fr_z ⟨H,by omega⟩ ?_
 clear H;rintro i w ⟨f,t⟩;have H:=f.l6;have a6:=t;clear t;refine Z0 6 [0] Z (Af Z (λh3=>?_) (λh3=>?_))
 ·have a4:G.M i≠noPg:=λq=>by
    rcases AgV i with h0|h0
    · subst h0;rw[l] at q;cases q
    · have y:=s (i-1) U;rw[show 1+(i-1)=i by omega,q] at y;cases y
  refine Z2 18 [1,4,0] H Z (z_E_ Z (call111 _) (FB U U) H.f2.f2 ?_);intro w H;refine AD 100 (v:=I 1) Z (congrArg I (by rw[a0 i U];rfl)) (Z1 10 [4] [(i:Int)+1] Z U ?_);replace H:=H.f5.f5.f5.f4.f4.f5;refine gf ?_;intro _ o;refine ⟨(i+1),o.cz,⟨H,?_⟩,?_⟩
  ·omega
  omega
 obtain rfl:i=manyN n+1:=by omega
 refine Zc 2 Z (gx (Z2 22 [3,4,0] H Z ?_));refine AF (σ:=Nat) (λi=>[(109,I (i:Int)),(4,Y r),(108,I (n:Int))])
   (λi w=>Sep z (alB b n (HV C n i) BZ (DT n)::coB c a n m::Ch a C n::AJ m ([]) 0::plB r e c b n false::stoA e g D G none::R) w/\(i<=n)) (λi=>n-i) 0
   fr_z ⟨(by rw[V5];exact H),by omega⟩ ?_
 clear H;rintro i w ⟨f,t⟩;have H:=f.l6;have b3:=t;clear t;refine Z0 6 [0] Z (Af Z (λh4=>?_) (λh4=>?_))
 ·refine Z2 17 [1,4,0] H Z (z_E_ Z (call111 _) (FB U U) H.f2.f2 ?_);intro w H;refine Z0 3 [0] Z (Af Z (λh5=>?_) (λh5=>?_))
  ·have a2:0<C i:=by omega
   refine Z2 6 [2,4,0] H Z (z_E_ Z (call112 _) (SY i U U (AbR U)) H.f2 ?_);intro w H;rw[V6 a2] at H;refine Z1 7 [] [(i:Int)+1] Z U (gf ?_);intro _ o;refine ⟨(i+1),o.cz,⟨H,?_⟩,?_⟩
   ·omega
   omega
  have u:¬0<C i:=by omega
  refine Z1 7 [] [(i:Int)+1] Z U ?_;replace H:=H.f5.f5.f5.f4.f4.f5;refine gf ?_;intro _ o;refine ⟨(i+1),o.cz,⟨(by rw[<-V7 u];exact H),?_⟩,?_⟩
  ·omega
  omega
 obtain rfl:n=i:=by omega
 refine Zc 2 Z (gx (Zc 3 Z ?_));rw[Zn] at H;refine Z2 5 [2,4,0] H Z (z_E_ Z (call113 _) (ME) H ?_);intro w H;rw[QD] at H;refine Zc 10 Z (Zr Z ?_);exact ⟨_,⟨r,c,a,m,b,Z,Z⟩,H.perm 6 [5,4,1,2,3,0] Z Z⟩
section
variable{Tb:Ai}
def fup{α:Type}(f:Nat->α)(a:Nat)(x:α):Nat->α:=λi=>if i=a then x else f i
theorem BK{α:Type}(f:Nat->α)(a:Nat)(x:α):fup f a x a=x:=by simp[fup]
theorem fup_ne{α:Type}(f:Nat->α)(x:α)(h:i≠m):fup f m x i=f i:=by simp[fup,h]
structure PoX where
 ps:Nat
 pd:Nat
 pc:Nat
 bn:Nat
 mm:Nat
 pa:Nat
 D:Dsk
 G:StG
 g:BF
 l:List IE
 clk:Nat
 Dd:Nat->Bool
 A:Ai
structure PoT where
 M:Nat->Pg
 C:Nat->Nat
 F:Nat->Bool
 k:Nat
def poC(C0:Nat->Nat):Option PoT->Nat->Nat
 | none=>C0
 | some T=>T.C
def XB(n:Nat)(C0:Nat->Nat):Option PoT->Nat->Bool
 | none=>AR n C0
 | some T=>T.F
def poM(M0:Nat->Pg):Option PoT->Nat->Pg
 | none=>M0
 | some T=>T.M
def TJ(g:BF):Option PoT->Hh
 | none=>none
 | some T=>some (g,T.k)
def XC(pp n:Nat)(C0:Nat->Nat)(t:Option PoT)(X:PoX):List Ai:=
 [plB pp X.ps X.pc X.pa n t.isSome,stoA X.ps X.pd X.D X.G (TJ X.g t),coB X.pc X.bn n X.mm,Ch X.bn (poC C0 t) n,AJ X.mm X.l X.clk,alB X.pa n (XB n C0 t) X.Dd (AR n C0),X.A]
structure PoQ(n:Nat)(C0:Nat->Nat)(T:PoT)(X:PoX):Prop where
 m:∀p,(p=0\/manyN n<p)->T.M p=Ek X.G.M (some (X.g,T.k)) p
 gn:∀i,i<manyN n->X.g (1+i)=none
 W:WasOk T.C C0 n X.l X.clk
 c:∀k,T.C k<=1000
 df:Di T.F X.Dd=AR n T.C
 dj:∀p,X.Dd p=true->T.F p=false
 one:∀p,p<=manyN n->T.C p=1
structure PoP(Tb:Ai)(mb n:Nat)(M0:Nat->Pg)(C0:Nat->Nat)(t:Option PoT)(X:PoX):Prop where
 hn:16<=n/\n<=1024
 fine:Fine X.D X.G mb
 pg:X.G.x.pages=n
 tab:Ht X.A/\X.A=Tb
 m0:∀p,(p=0\/manyN n<p)->M0 p=X.G.M p
 cp:∀i,i<manyN n->X.G.M (1+i)=DC C0 n i
 c0:∀k,C0 k<=1000
 one:∀p,p<=manyN n->C0 p=1
 idle:t=none->X.l=[]/\X.Dd=BZ
 tx:∀T,t=some T->PoQ n C0 T X
def poA(Tb:Ai)(pp mb n:Nat)(M0:Nat->Pg)(C0:Nat->Nat)(t:Option PoT):Ai:=λh=>∃X,PoP Tb mb n M0 C0 t X/\seps (XC pp n C0 t X) h
variable{z w:World}{Γ:List Ai}{pp mb n:Nat}{M0:Nat->Pg}{C0:Nat->Nat}{t:Option PoT}{T:PoT}
theorem Sep.po(H:Sep z (poA Tb pp mb n M0 C0 t::Γ) w):∃X,PoP Tb mb n M0 C0 t X/\Sep z (XC pp n C0 t X++Γ) w:=
 H.into (p:=λX=>PoP Tb mb n M0 C0 t X) (As:=λX=>XC pp n C0 t X) (λ_ q=>q)
theorem Sep.toPo{X:PoX}(H:Sep z Γ w)(b:PoP Tb mb n M0 C0 t X)(a:Γ.take 7=XC pp n C0 t X):Sep z (poA Tb pp mb n M0 C0 t::Γ.drop 7) w:=
 H.made 7 (λh q=>⟨X,b,by rwa[a] at q⟩)
theorem poA.hn{h:Hp}(a:poA Tb pp mb n M0 C0 t h):16<=n/\n<=1024:=by
 obtain ⟨X,b,_⟩:=a;exact b.hn
structure PoK(n:Nat)(T:PoT):Prop where
 c:∀k,T.C k<=1000
 free:∀p,T.F p=true->p<n/\T.C p=0/\manyN n<p
 one:∀p,p<=manyN n->T.C p=1
theorem PoQ.k{X:PoX}(Q:PoQ n C0 T X)(b:16<=n):PoK n T:=by
 refine ⟨Q.c,λp hp=>?_,Q.one⟩;have a:AR n T.C p=true:=by rw[<-Q.df];simp[Di,hp]
 simp[AR] at a;refine ⟨a.1,a.2,?_⟩;rcases Aeu (manyN n) p with h|h
 ·exact h
 have:=Q.one p h;omega
theorem poA.k{h:Hp}(a:poA Tb pp mb n M0 C0 (some T) h):PoK n T:=by
 obtain ⟨X,b,_⟩:=a;exact (b.tx T Z).k b.hn.1
theorem poA.c0{h:Hp}(a:poA Tb pp mb n M0 C0 t h):(∀k,C0 k<=1000)/\∀p,p<=manyN n->C0 p=1:=by
 obtain ⟨X,b,_⟩:=a;exact ⟨b.c0,b.one⟩
def po0(n:Nat)(M0:Nat->Pg)(C0:Nat->Nat):PoT:=⟨M0,C0,AR n C0,0⟩
theorem Zp(pp mb n:Nat)(M0:Nat->Pg)(C0:Nat->Nat):Ak 70 [Y pp] [poA Tb pp mb n M0 C0 none] (λv G=>v=I 0/\G=[poA Tb pp mb n M0 C0 (some (po0 n M0 C0))]):=by
 intro z R w H;obtain ⟨X,a,H⟩:=H.po;obtain ⟨b,c⟩:=a.idle Z;refine Ret.mono (Cn.at (VU pp X.ps X.pd X.pc X.bn X.mm X.pa n X.D X.G) H 7 [0,1,2,3,4,5,6] Z Z) ?_;rintro v f ⟨Γ',⟨rfl,rfl⟩,d⟩;refine ⟨_,⟨Z,Z⟩,d.toPo (X:= {X with g:=Dq}) ⟨a.hn,a.fine,a.pg,a.tab,a.m0,a.cp,a.c0,a.one,λe=>(by cases e),λT e=>?_⟩ Z⟩;cases e;refine ⟨λp hp=>a.m0 p hp,λ_ _=>rfl,?_,a.c0,?_,λp hp=>?_,a.one⟩
 ·show WasOk C0 C0 n X.l X.clk
  rw[b];exact WasOk.nil _ _ _
 ·show Di (AR n C0) X.Dd=AR n C0
  rw[c];exact QD _
 have:X.Dd p=true:=hp;rw[c] at this;cases this
theorem Zq(pp mb n:Nat)(M0:Nat->Pg)(C0:Nat->Nat)(T:PoT):Ak 71 [Y pp] [poA Tb pp mb n M0 C0 (some T)] (λv G=>v=.tuple #[]/\G=[poA Tb pp mb n M0 C0 none]):=by
 intro z R w H;obtain ⟨X,a,H⟩:=H.po;have Q:=a.tx T Z;refine Ret.mono (Cn.at (VV pp X.ps X.pd X.pc X.bn X.mm X.pa n X.D X.G X.g T.k T.C C0 X.l X.clk T.F X.Dd (AR n C0) Q.W) H 7 [1,0,2,3,4,5,6] Z Z) ?_;rintro v c ⟨Γ',⟨rfl,rfl⟩,b⟩;have H3:=b.pick 7 [1,0,2,3,4,5,6] Z;exact ⟨_,⟨Z,Z⟩,H3.toPo (X:= {X with l:=[],Dd:=BZ}) ⟨a.hn,a.fine,a.pg,a.tab,a.m0,a.cp,a.c0,a.one,λ_=>⟨Z,Z⟩,λT e=>(by cases e)⟩ Z⟩
theorem V8(pp mb n:Nat)(M0:Nat->Pg)(C0:Nat->Nat)(T:PoT)(j:T.k+manyN n<=40)(f:mb<=1000000000):Ak 134 [Y pp] [poA Tb pp mb n M0 C0 (some T)] (λv G=>v=I 0/\G=[poA Tb pp (mb+2) n T.M T.C none]):=by
 intro z R w H;obtain ⟨X,a,H⟩:=H.po;have Q:=a.tx T Z;refine Ret.mono (Cn.at (TH pp X.ps X.pd X.pc X.bn X.mm X.pa n X.D X.G mb X.g T.k T.C C0 X.l X.clk T.F X.Dd (AR n C0) Q.W a.hn a.pg Q.gn j Q.c a.fine f) H 7 [1,0,2,3,4,5,6] Z Z) ?_;rintro v t ⟨Γ',⟨D2,G2,g,k,zs,b,q,r,_,d,s,rfl,rfl⟩,o⟩;have H3:=o.pick 7 [1,0,2,3,4,5,6] Z;rw[Q.df] at H3;refine ⟨_,⟨Z,Z⟩,H3.toPo (X:= {X with l:=[],Dd:=BZ,D:=D2,G:=G2}) ⟨a.hn,r,?_,a.tab,λp hp=>?_,λi hi=>?_,Q.c,Q.one,λ_=>⟨Z,Z⟩,λT e=>(by cases e)⟩ Z⟩
 ·have:=a.pg
  rcases s with e|e
  ·show G2.x.pages=_;rw[e];exact this
  show G2.x.pages=_;rw[e];exact this
 ·rw[Q.m p hp]
  show _=G2.M p;rw[d];simp only[Ek];rw[b.old p hp]
 show G2.M (1+i)=_;rw[d];simp only[Ek];rcases b.done q hi with h|⟨h,e⟩
 ·rw[h];rfl
 rw[h,<-e];exact a.cp i hi
theorem Zs(pp mb n:Nat)(M0:Nat->Pg)(C0:Nat->Nat)(t:Option PoT)(p:Nat)(hp:p<n):Ak 125 [Y pp,I (p:Int)] [poA Tb pp mb n M0 C0 t] (λv G=>v=I (poC C0 t p:Int)/\G=[poA Tb pp mb n M0 C0 t]):=by
 intro z R w H;obtain ⟨X,a,H⟩:=H.po;refine Ret.mono (Cn.at (VW pp X.ps X.pc X.bn X.mm X.pa n t.isSome (poC C0 t) p hp a.hn) H 7 [0,2,3,1,4,5,6] Z Z) ?_;rintro v c ⟨Γ',⟨rfl,rfl⟩,b⟩;exact ⟨_,⟨Z,Z⟩,(b.pick 7 [0,3,1,2,4,5,6] Z).toPo a Z⟩
theorem AbS(pp mb n:Nat)(M0:Nat->Pg)(C0:Nat->Nat)(t:Option PoT):Ak 8 [Y pp] [poA Tb pp mb n M0 C0 t] (λv G=>v=I (cnt (XB n C0 t) 0 1024:Int)/\G=[poA Tb pp mb n M0 C0 t]):=by
 intro z R w H;obtain ⟨X,b,H⟩:=H.po;refine Ret.mono (Cn.at (Y9 pp X.ps X.pc X.pa n t.isSome (XB n C0 t) X.Dd (AR n C0)) H 7 [0,5,1,2,3,4,6] Z Z) ?_;rintro v c ⟨Γ',⟨rfl,rfl⟩,a⟩;exact ⟨_,⟨Z,Z⟩,(a.pick 7 [0,2,3,4,5,1,6] Z).toPo b Z⟩
theorem Zt(pp mb n:Nat)(M0:Nat->Pg)(C0:Nat->Nat)(t:Option PoT):Ak 18 [Y pp] [poA Tb pp mb n M0 C0 t] (λv G=>v=.bool t.isSome/\G=[poA Tb pp mb n M0 C0 t]):=by
 intro z R w H;obtain ⟨X,b,H⟩:=H.po;refine Ret.mono (Cn.at (VX pp X.ps X.pc X.pa n t.isSome) H 7 [0,1,2,3,4,5,6] Z Z) ?_;rintro v c ⟨Γ',⟨rfl,rfl⟩,a⟩;exact ⟨_,⟨Z,Z⟩,a.toPo b Z⟩
theorem PoQ.put{X:PoX}{p:Nat}{x:Pg}(Q:PoQ n C0 T X)(hp:p=0\/manyN n<p)(a:Nat):PoQ n C0 {T with M:=fup T.M p x,k:=a} {X with g:=pgSet X.g p x} :=by
 refine ⟨λq hq=>?_,λi hi=>?_,Q.W,Q.c,Q.df,Q.dj,Q.one⟩
 ·simp only[fup,Ek,pgSet]
  split
  ·rfl
  exact Q.m q hq
 show pgSet X.g p x (1+i)=none;unfold pgSet;rw[if_neg U];exact Q.gn i hi
theorem write_p(pp mb n:Nat)(M0:Nat->Pg)(C0:Nat->Nat)(T:PoT)(p:Nat)(x:Pg)(f:x.Ok)(b:Value)(B:Ai)(j:∀h,B h->rdH 1 b 240 (x.body.map u8) h)(l:T.k<40)(hp:(p=0\/manyN n<p)/\p<n)(d:T.C p≠0):
  Ak 133 [Y pp,I (p:Int),.agg #[I x.kind,b]] [poA Tb pp mb n M0 C0 (some T),B] (λv G=>∃c,c<=T.k+1/\v=I 0/\G=[poA Tb pp mb n M0 C0 (some {T with M:=fup T.M p x,k:=c}),B]):=by
 intro z R w H;obtain ⟨X,a,H⟩:=H.po;have Q:=a.tx T Z;refine Ret.mono (Cn.at (VY pp X.ps X.pd X.pc X.bn X.mm X.pa n X.D X.G p x f b B j X.g T.k (λq=>by omega) a.pg T.C a.hn hp d) H 8 [1,0,2,3,7,4,5,6] Z Z) ?_;rintro v m ⟨Γ',⟨rfl,rfl⟩,i⟩;refine ⟨_,⟨_,?_,Z,Z⟩,((i.pick 8 [1,0,2,3,5,6,7,4] Z).toPo (X:= {X with g:=pgSet X.g p x}) (t:=some {T with M:=fup T.M p x,k:=T.k+(if (X.g p).isSome then 0 else 1)}) ⟨a.hn,a.fine,a.pg,a.tab,a.m0,a.cp,a.c0,a.one,λe=>(by cases e),λT' e=>?_⟩ Z)⟩
 ·split<;>omega
 cases e;exact Q.put hp.1 _
theorem Adf(pp mb n:Nat)(M0:Nat->Pg)(C0:Nat->Nat)(T:PoT)(p:Nat)(hp:manyN n<p/\p<n)(d:1<=T.C p/\T.C p<1000):
  Ak 117 [Y pp,I (p:Int)] [poA Tb pp mb n M0 C0 (some T)] (λv G=>v=I 0/\G=[poA Tb pp mb n M0 C0 (some {T with C:=fup T.C p (T.C p+1)})]):=by
 intro z R w H;obtain ⟨X,a,H⟩:=H.po;have Q:=a.tx T Z;refine Ret.mono (Cn.at (AbN pp X.ps X.pc X.bn X.mm X.pa n T.C C0 X.l X.clk Q.W a.hn p hp d) H 7 [0,2,3,4,1,5,6] Z Z) ?_;rintro v h ⟨Γ',⟨f,b,W2,rfl,rfl⟩,g⟩;refine ⟨_,⟨Z,Z⟩,((g.pick 7 [0,4,1,2,3,5,6] Z).toPo (X:= {X with l:=f,clk:=b}) (t:=some {T with C:=fup T.C p (T.C p+1)}) ⟨a.hn,a.fine,a.pg,a.tab,a.m0,a.cp,a.c0,a.one,λe=>(by cases e),λT' e=>?_⟩ Z)⟩;cases e;refine ⟨Q.m,Q.gn,W2,λk=>?_,?_,Q.dj,λq hq=>?_⟩
 ·show fup T.C p (T.C p+1) k<=1000
  unfold fup;split
  ·omega
  exact Q.c k
 ·show Di T.F X.Dd=AR n (fup T.C p (T.C p+1))
  rw[Q.df];funext q;unfold AR fup;split
  ·rename_i e;subst e;simp;omega
  rfl
 show fup T.C p (T.C p+1) q=1;rw[fup_ne _ _ U];exact Q.one q hq
theorem Zu(pp mb n:Nat)(M0:Nat->Pg)(C0:Nat->Nat)(T:PoT)(p:Nat)(hp:manyN n<p/\p<n)(d:2<=T.C p):
  Ak 131 [Y pp,I (p:Int)] [poA Tb pp mb n M0 C0 (some T)] (λv G=>v=I 0/\G=[poA Tb pp mb n M0 C0 (some {T with C:=fup T.C p (T.C p-1)})]):=by
 intro z R w H;obtain ⟨X,a,H⟩:=H.po;have Q:=a.tx T Z;refine Ret.mono (Cn.at (V1 pp X.ps X.pc X.bn X.mm X.pa n T.C C0 X.l X.clk Q.W a.hn p hp ⟨d,Q.c p⟩) H 7 [0,2,3,4,1,5,6] Z Z) ?_;rintro v h ⟨Γ',⟨f,b,W2,rfl,rfl⟩,g⟩;refine ⟨_,⟨Z,Z⟩,((g.pick 7 [0,4,1,2,3,5,6] Z).toPo (X:= {X with l:=f,clk:=b}) (t:=some {T with C:=fup T.C p (T.C p-1)}) ⟨a.hn,a.fine,a.pg,a.tab,a.m0,a.cp,a.c0,a.one,λe=>(by cases e),λT' e=>?_⟩ Z)⟩;cases e;refine ⟨Q.m,Q.gn,W2,λk=>?_,?_,Q.dj,λq hq=>?_⟩
 ·show fup T.C p (T.C p-1) k<=1000
  have:=Q.c p;unfold fup;split
  ·omega
  exact Q.c k
 ·show Di T.F X.Dd=AR n (fup T.C p (T.C p-1))
  rw[Q.df];funext q;unfold AR fup;split
  ·rename_i e;subst e;exact decide_eq_decide.2 U
  rfl
 show fup T.C p (T.C p-1) q=1;rw[fup_ne _ _ U];exact Q.one q hq
theorem AbT(pp mb n:Nat)(M0:Nat->Pg)(C0:Nat->Nat)(T:PoT)(p:Nat)(hp:manyN n<p/\p<n)(g:T.C p=1):
  Ak 131 [Y pp,I (p:Int)] [poA Tb pp mb n M0 C0 (some T)] (λv G=>v=I 0/\G=[poA Tb pp mb n M0 C0 (some {T with C:=fup T.C p 0})]):=by
 intro z R w H;obtain ⟨X,a,H⟩:=H.po;have Q:=a.tx T Z;have f:(T.F p||X.Dd p)=false:=by
  have:Di T.F X.Dd p=AR n T.C p:=by rw[Q.df]
  unfold Di AR at this;rw[this];simp;omega
 simp at f;refine Ret.mono (Cn.at (Zb pp X.ps X.pc X.bn X.mm X.pa n T.C C0 X.l X.clk Q.W a.hn p hp T.F X.Dd (AR n C0) g f.1 f.2) H 7 [0,2,3,4,5,1,6] Z Z) ?_;rintro v j ⟨Γ',⟨h,d,W2,rfl,rfl⟩,i⟩;refine ⟨_,⟨Z,Z⟩,((i.pick 7 [0,5,1,2,3,4,6] Z).toPo (X:= {X with l:=h,clk:=d,Dd:=Gl X.Dd p}) (t:=some {T with C:=fup T.C p 0}) ⟨a.hn,a.fine,a.pg,a.tab,a.m0,a.cp,a.c0,a.one,λe=>(by cases e),λT' e=>?_⟩ Z)⟩;cases e;refine ⟨Q.m,Q.gn,W2,λk=>?_,?_,λq hq=>?_,λq hq=>?_⟩
 ·show fup T.C p 0 k<=1000
  unfold fup;split
  ·omega
  exact Q.c k
 ·show Di T.F (Gl X.Dd p)=AR n (fup T.C p 0)
  funext q;have:Di T.F X.Dd q=AR n T.C q:=by rw[Q.df]
  unfold Di AR at this;unfold Di Gl AR fup;rw[<-Bool.or_assoc,this];by_cases e:q=p
  ·subst e;simp[hp.2]
  simp[e]
 ·have b:Gl X.Dd p q=true:=hq
  unfold Gl at b;by_cases e:q=p
  ·subst e;exact f.1
  simp[e] at b;exact Q.dj q b
 show fup T.C p 0 q=1;rw[fup_ne _ _ U];exact Q.one q hq
theorem Zv(pp mb n:Nat)(M0:Nat->Pg)(C0:Nat->Nat)(T:PoT)(x:Pg)(hx:x.Ok)(o:Value)(B:Ai)(hB:∀h,B h->rdH 1 o 240 (x.body.map u8) h)(hk:T.k<40):
  Ak 66 [Y pp,.agg #[I x.kind,o]] [poA Tb pp mb n M0 C0 (some T),B] (λv G=>(cnt T.F 0 1024=0/\v=.tuple #[I 0,I 20]/\G=[poA Tb pp mb n M0 C0 (some T),B])\/
   ∃p f:Nat,(T.F p=true/\f<=T.k+1/\cnt (Dx T.F p) 0 1024+1=cnt T.F 0 1024)/\v=.tuple #[I (p:Int),I 0]/\G=[poA Tb pp mb n M0 C0 (some ⟨fup T.M p x,fup T.C p 1,Dx T.F p,f⟩),B]):=by
 intro z R w H;obtain ⟨X,a,H⟩:=H.po;have Q:=a.tx T Z;have K:=Q.k a.hn.1;have hn:=a.hn;by_cases hno:∀q,q<1024->T.F q=false
 ·refine Ret.mono (Cn.at (TG pp X.ps X.pc X.pa n x hx o B hB T.F X.Dd (AR n C0) hno) H 8 [0,5,7,1,2,3,4,6] Z Z) ?_
  rintro v w' ⟨Γ',⟨rfl,rfl⟩,s⟩;refine ⟨_,.inl ⟨?_,Z,Z⟩,(s.pick 8 [0,3,4,5,6,1,7,2] Z).toPo a Z⟩;rw[GX (F:=T.F) (G:=BZ) (λi hi=>by rw[hno _ U];rfl)];have:∀m,cnt BZ 0 m=0:=λm=>by
   induction m with
   | zero=>rfl
   | succ m ih=>simp only[cnt,ih,BZ];rfl
  exact this _
 have u:∃p,T.F p=true/\∀q,q<p->T.F q=false:=by
  have b:∃q,T.F q=true:=Afg λh=>hno (λq _=>by
   cases e:T.F q with
   | false=>rfl
   | true=>exact absurd ⟨q,e⟩ h)
  obtain ⟨q,hq⟩:=b;have:∀m q,q<=m->T.F q=true->∃p,T.F p=true/\∀q,q<p->T.F q=false:=λm=>by
   induction m with
   | zero=>intro q b y;exact ⟨q,y,λr hr=>by omega⟩
   | succ m ih=>
    intro q b y;by_cases h3:∃r,r<q/\T.F r=true
    ·obtain ⟨r,h4,h5⟩:=h3
     exact ih r U h5
    refine ⟨q,y,λr hr=>?_⟩
    cases e:T.F r with
    | false=>rfl
    | true=>exact absurd ⟨r,hr,e⟩ h3
  exact this q q (Ael _) hq
 obtain ⟨p,b,h0⟩:=u;obtain ⟨k1,f,k3⟩:=K.free p b;have hd:X.Dd p=false:=by
  cases e:X.Dd p with
  | false=>rfl
  | true=>have:=Q.dj p e;rw[b] at this;cases this
 refine Ret.mono (Cn.at (VZ pp X.ps X.pd X.pc X.bn X.mm X.pa n X.D X.G X.g T.k T.C C0 X.l X.clk T.F X.Dd (AR n C0) Q.W a.hn a.pg p x hx o B hB (λq=>by omega) k1 b h0 f X.A a.tab.1) H 8 [1,0,2,3,4,5,6,7] Z Z) ?_;rintro v w' ⟨Γ',⟨l2,d,W2,rfl,rfl⟩,s⟩;refine ⟨_,.inr ⟨p,_,⟨b,?_,?_⟩,Z,Z⟩,((s.pick 8 [1,0,2,3,4,5,6,7] Z).toPo (X:= {X with g:=pgSet X.g p x,l:=l2,clk:=d}) (t:=some ⟨fup T.M p x,fup T.C p 1,Dx T.F p,T.k+(if (X.g p).isSome then 0 else 1)⟩) ⟨a.hn,a.fine,a.pg,a.tab,a.m0,a.cp,a.c0,a.one,λe=>(by cases e),λT' e=>?_⟩ Z)⟩
 ·split<;>omega
 ·exact OI (F:=T.F) (G:=Dx T.F p) (i:=p) U b (by simp[Dx]) (λj hj=>by simp[Dx,hj])
 cases e
 have Q2:=Q.put (x:=x) (.inr k3) 0;refine ⟨Q2.m,Q2.gn,W2,λk=>?_,?_,λq hq=>?_,λq hq=>?_⟩
 ·show fup T.C p 1 k<=1000
  unfold fup;split
  ·omega
  exact Q.c k
 ·show Di (Dx T.F p) X.Dd=AR n (fup T.C p 1)
  funext q;have:Di T.F X.Dd q=AR n T.C q:=by rw[Q.df]
  unfold Di AR at this;unfold Di Dx AR fup;by_cases e:q=p
  ·subst e;simp[hd]
  simp only[e,decide_false,Bool.not_false,Bool.and_true,if_false];exact this
 ·have:=Q.dj q hq
  show Dx T.F p q=false;unfold Dx;rw[this];rfl
 show fup T.C p 1 q=1;rw[fup_ne _ _ U];exact Q.one q hq
end
section
def cutA(ao:Option Addr)(c p:Nat):Option Addr:=if c=p then ao else ao.map (·.add (p*1))
theorem rdH.cutA{f:Option Addr}{n c p m:Nat}{xs:List Int}{h:Hp}(r:rdH 1 (.slice f n c) n (xs.map I) h)(s:p+m<=n)(t:n<=c):rdH 1 (.slice (cutA f c p) m (c-p)) m (((xs.drop p).take m).map I) h:=by
 obtain ⟨g,c',e,v,w,k,q⟩:=r;cases e;refine ⟨_,_,Z,by omega,by omega,by simp at k ⊢;omega,λj u a=>?_⟩;have d:j<m:=by
  have:=(Aee.1 a).1;simp at this;omega
 obtain ⟨b,o,rfl,l⟩:=q (p+j) u (by
  rw[Aer] at a ⊢;rw[Ae0,if_pos d,Afn] at a;exact a)
 refine ⟨b,o+p,?_,by rw[Agf];exact l⟩;unfold YtkblhjdljaoghaaGreatDoor.cutA;rw[if_neg U];simp only[AeV,AeS];unfold Addr.add;split
 ·rename_i i;simp[i]
 rfl
theorem rdH.slcap{d:Option Addr}{n c:Nat}{xs:List Value}(r:rdH 1 (.slice d n c) n xs h):n<=c/\c<=9223372036854775807/\xs.length=n:=by
 obtain ⟨b,c',e,f,a,i,g⟩:=r;cases e;exact ⟨f,a,by omega⟩
theorem GY:∀c∈l.map I,c.oneCell'=true:=λc a=>by
 obtain ⟨x,_,rfl⟩:=Aen.1 a;rfl
section
variable{P:Program}{C:World->Prop}{o:Oper}{n:Nat}{ds:List Deferred}{L:List (Nat×Value)}{x y:Operand}
theorem OM{lo hi:Option Operand}{e:Option Addr}{p q l' c':Nat}(h:o.op=.slice T x lo hi none)(r:Do P T=some 1)
  (g:ev L x=some (.slice e m j))(a:(lo=none/\p=0)\/∃y k i,lo=some y/\ev L y=some (.int k i)/\i=(p:Int))(c:(hi=none/\q=m)\/∃y k i,hi=some y/\ev L y=some (.int k i)/\i=(q:Int))(b:p<=q)(d:q<=j)
  (f:q-p=l')(l:j-p=c'):Av P C n ds L o (.slice (cutA e j p) l' c'):=by
 subst f l;exact Ji h r g a c b d
end
structure CkN(lf:Bool)(ks vs:List Int):Prop where
 len:ks.length=vs.length
 l8:ks.length<=8
 ne:lf=true\/0<ks.length
 k:∀x∈ks,0<=x/\x<1048576
 v:∀y∈vs,1<=y/\y<1024
 s:∀(i:Nat) (x y:Int),ks[i]?=some x->ks[i+1]?=some y->x<y
structure FdI(ks:List Int)(key:Int)(at_:Nat):Prop where
 le:at_<=ks.length
 lt:∀(j:Nat) (x:Int),j<at_->ks[j]?=some x->x<key
 ge:∀x,ks[at_]?=some x->key<=x
structure FcI(ks:List Int)(key:Int)(at_:Nat):Prop where
 le:at_<=ks.length
 lt:∀(j:Nat) (x:Int),j<at_->ks[j]?=some x->x<=key
 ge:∀x,ks[at_]?=some x->key<x
theorem Ec{x:Int}(h:m<l.length):(l.map I++V).take m++[I x]++(l.map I++V).drop (m+1)=(l.set m x).map I++V:=by
 have e:=Afd (l:=l) (i:=m) (a:=x);rw[if_pos h] at e;rw[e,Aew (by simp;omega),AeW (by simp;omega)];simp[Afr,AfX]
theorem HW{y:Int}:Ak 205 [I t,I y] [] (λv G=>v=.bool (decide ((0<=t/\t<1048576)/\1<=y/\y<1024))/\G=[]):=by
 intro z R w H;refine Ae func205 Z ntmps205 Z (Z0 10 [0] Z (An 7 Z (λa=>?_) (λa=>?_)))
 ·refine Z0 4 [0] Z (An 11 Z (λb=>?_) (λb=>?_))
  ·refine Z0 4 [0] Z (An 15 Z (λc=>?_) (λc=>?_))
   ·refine Z0 7 [0] Z (Zr Z ?_);exact ⟨_,⟨congrArg Value.bool (by first|(rw[Aez];simp<;>omega)|(simp<;>omega)),Z⟩,H⟩
   refine Zc 7 Z (Zr Z ?_);exact ⟨_,⟨congrArg Value.bool (by first|(rw[Aez];simp<;>omega)|(simp<;>omega)),Z⟩,H⟩
  refine Zc 11 Z (Zr Z ?_);exact ⟨_,⟨congrArg Value.bool (by first|(rw[Aez];simp<;>omega)|(simp<;>omega)),Z⟩,H⟩
 refine Zc 15 Z (Zr Z ?_);exact ⟨_,⟨congrArg Value.bool (by first|(rw[Aez];simp<;>omega)|(simp<;>omega)),Z⟩,H⟩
theorem CU{kv vv:Value}(e vs:List Int){B:Ai}(m:∀h,A h->rdH 1 kv e.length (e.map I) h)(hB:∀h,B h->rdH 1 vv vs.length (vs.map I) h)(d:CkN b e vs):Ak 168 [.agg #[.bool b,kv,vv]] [A,B] (λv G=>v=I 0/\G=[A,B]):=by
 intro z R w H;obtain ⟨ka,kc,rfl⟩:=H.sy 0 (λq=>(m _ q).slc);obtain ⟨va,vc,rfl⟩:=H.sy 1 (λq=>(hB _ q).slc);have b0:=H.sy 0 (λq=>(m _ q).slcap);have a9:=H.sy 1 (λq=>(hB _ q).slcap);have a8:=d.len;have b2:=d.l8;have a6:=d.ne;refine Ae func168 Z ntmps168 Z (Za 2 [] H Z ?_);intro b1 w H;refine Z2 14 [1,0,0,2,0,0,0] H Z (An 11 Z (λh1=>U) (λh1=>?_));refine Z2 6 [1,0,0,0] H Z (An 17 Z (λh2=>U) (λh2=>?_));refine Z2 4 [0,0,0] H Z (FP 21 Z (λh3=>?_) (λh3=>?_))
 ·refine Z2 8 [1,0,0,0] H Z (Af Z (λh4=>?_) (λh4=>?_))
  ·(exfalso;rcases a6 with q|q<;>simp_all)
  refine Z2 12 [1,0,0] H Z ?_;refine AF (σ:=Nat) (λi=>[(31,I (i:Int)),(1,Y b1),(30,I (e.length:Int))])
    (λi w=>Sep z (blk b1 [.bool b,.slice ka e.length kc,.slice va vs.length vc] 195::A::B::R) w/\(i<=e.length)) (λi=>e.length-i) 0
    fr_z ⟨H,AeR _⟩ ?_
  clear H;rintro i w ⟨g,hI⟩;have H:=g.l3;clear hI;refine Z0 6 [0] Z (Af Z (λh5=>?_) (λh5=>?_))
  ·obtain ⟨x,c⟩:∃x,e[i]?=some x:=⟨_,Aef U⟩;obtain ⟨y,p⟩:∃y,vs[i]?=some y:=⟨_,Aef U⟩;have a2:=d.k x (Aeg c)
   have a1:=d.v y (Aeg p);refine Zc 11 Z ?_;have f:=(H.rd 1 Z m).at (j:=i) (u:=I x) (by simp[c]);have t:=(H.rd 2 Z hB).at (j:=i) (u:=I y) (by simp[p]);refine Bu (Sep z _) J J H.drew (DS 3 [1,0] (λ_ c=>(AN (c.blk 0 Z) AH)) Z J Z (AM Z Z Z (Aj Z (z:=1) (j:=i) (r:=i) J Z Z Z U f U) (AM Z Z Z (Ax Z Z J (λ_ a=>(a.rd 1 Z m).at (j:=i) (u:=I x) (by simp[c]))) (DS 3 [2,0] (λ_ c=>(AN (c.blk 0 Z) AH)) Z J Z (AM Z Z Z (Aj Z (z:=1) (j:=i) (r:=i) J Z Z Z U t U) (AM Z Z Z (Ax Z Z J (λ_ a=>(a.rd 2 Z hB).at (j:=i) (u:=I y) (by simp[p]))) (Dn Z Z Z Z Z (λw=>call205 _ w) (v:=.bool (decide ((0<=x/\x<1048576)/\1<=y/\y<1024))) (cq (HW) (by rintro _ _ ⟨rfl,rfl⟩;exact ⟨Z,Z⟩) 0 [] [] Z Z Z Z) (AM Z Z Z (AG Z Z) (BS 1 [] Z J (B8 46 Z (λh6=>U) (λh6=>?_)))))))))));refine BS 3 [] Z J (B8 49 Z (λh7=>?_) (λh7=>?_))
   ·obtain ⟨n,l⟩:∃n,e[i-1]?=some n:=⟨_,Aef U⟩;have a0:=d.s (i-1) n x l (by rw[show i-1+1=i by omega];exact c)
    refine Ha 4 [1,0,0] [(i:Int)-1] Z J U (AM Z Z Z (Aj Z (z:=1) (j:=(i-1)) (r:=(i-1)) J Z Z U U f U) (AM Z Z Z (Ax Z Z J (λ_ a=>(a.rd 1 Z m).at (j:=i-1) (u:=I n) (by simp[l]))) (DS 3 [1,0] (λ_ c=>(AN (c.blk 0 Z) AH)) Z J Z (AM Z Z Z (Aj Z (z:=1) (j:=i) (r:=i) J Z Z Z U f U) (AM Z Z Z (Ax Z Z J (λ_ a=>(a.rd 1 Z m).at (j:=i) (u:=I x) (by simp[c]))) (BS 3 [] Z J (BB (λw g=>?_))))))));have H:=g.l3;refine gn (Zc 1 Z (Af Z (λh8=>U) (λh8=>?_)));refine Z1 7 [] [(i:Int)+1] Z U (gf ?_);intro _ o;refine ⟨(i+1),o.cz,⟨H,?_⟩,?_⟩
    ·omega
    omega
   refine BS 14 [] Z J (BB (λw g=>?_));have H:=g.l3;refine gn (Z1 9 [] [(i:Int)+1] Z U (gf ?_));intro _ o;refine ⟨(i+1),o.cz,⟨H,?_⟩,?_⟩
   ·omega
   omega
  refine Zc 2 Z (gx (Zc 8 Z (Zr Z ?_)));exact ⟨_,⟨Z,Z⟩,H.perm 3 [1,2] Z Z⟩
 refine Z2 21 [1,0,0] H Z ?_;refine AF (σ:=Nat) (λi=>[(31,I (i:Int)),(1,Y b1),(30,I (e.length:Int))])
   (λi w=>Sep z (blk b1 [.bool b,.slice ka e.length kc,.slice va vs.length vc] 195::A::B::R) w/\(i<=e.length)) (λi=>e.length-i) 0
   fr_z ⟨H,AeR _⟩ ?_
 clear H;rintro i w ⟨g,hI⟩;have H:=g.l3;clear hI;refine Z0 6 [0] Z (Af Z (λh9=>?_) (λh9=>?_))
 ·obtain ⟨x,c⟩:∃x,e[i]?=some x:=⟨_,Aef U⟩;obtain ⟨y,p⟩:∃y,vs[i]?=some y:=⟨_,Aef U⟩;have a2:=d.k x (Aeg c)
  have a1:=d.v y (Aeg p);refine Zc 11 Z ?_;have f:=(H.rd 1 Z m).at (j:=i) (u:=I x) (by simp[c]);have t:=(H.rd 2 Z hB).at (j:=i) (u:=I y) (by simp[p]);refine Bu (Sep z _) J J H.drew (DS 3 [1,0] (λ_ c=>(AN (c.blk 0 Z) AH)) Z J Z (AM Z Z Z (Aj Z (z:=1) (j:=i) (r:=i) J Z Z Z U f U) (AM Z Z Z (Ax Z Z J (λ_ a=>(a.rd 1 Z m).at (j:=i) (u:=I x) (by simp[c]))) (DS 3 [2,0] (λ_ c=>(AN (c.blk 0 Z) AH)) Z J Z (AM Z Z Z (Aj Z (z:=1) (j:=i) (r:=i) J Z Z Z U t U) (AM Z Z Z (Ax Z Z J (λ_ a=>(a.rd 2 Z hB).at (j:=i) (u:=I y) (by simp[p]))) (Dn Z Z Z Z Z (λw=>call205 _ w) (v:=.bool (decide ((0<=x/\x<1048576)/\1<=y/\y<1024))) (cq (HW) (by rintro _ _ ⟨rfl,rfl⟩;exact ⟨Z,Z⟩) 0 [] [] Z Z Z Z) (AM Z Z Z (AG Z Z) (BS 1 [] Z J (B8 46 Z (λa4=>U) (λa4=>?_)))))))))));refine BS 3 [] Z J (B8 49 Z (λa3=>?_) (λa3=>?_))
  ·obtain ⟨n,l⟩:∃n,e[i-1]?=some n:=⟨_,Aef U⟩;have a0:=d.s (i-1) n x l (by rw[show i-1+1=i by omega];exact c)
   refine Ha 4 [1,0,0] [(i:Int)-1] Z J U (AM Z Z Z (Aj Z (z:=1) (j:=(i-1)) (r:=(i-1)) J Z Z U U f U) (AM Z Z Z (Ax Z Z J (λ_ a=>(a.rd 1 Z m).at (j:=i-1) (u:=I n) (by simp[l]))) (DS 3 [1,0] (λ_ c=>(AN (c.blk 0 Z) AH)) Z J Z (AM Z Z Z (Aj Z (z:=1) (j:=i) (r:=i) J Z Z Z U f U) (AM Z Z Z (Ax Z Z J (λ_ a=>(a.rd 1 Z m).at (j:=i) (u:=I x) (by simp[c]))) (BS 3 [] Z J (BB (λw g=>?_))))))));have H:=g.l3;refine gn (Zc 1 Z (Af Z (λa5=>U) (λa5=>?_)));refine Z1 7 [] [(i:Int)+1] Z U (gf ?_);intro _ o;refine ⟨(i+1),o.cz,⟨H,?_⟩,?_⟩
   ·omega
   omega
  refine BS 14 [] Z J (BB (λw g=>?_));have H:=g.l3;refine gn (Z1 9 [] [(i:Int)+1] Z U (gf ?_));intro _ o;refine ⟨(i+1),o.cz,⟨H,?_⟩,?_⟩
  ·omega
  omega
 refine Zc 2 Z (gx (Zc 8 Z (Zr Z ?_)));exact ⟨_,⟨Z,Z⟩,H.perm 3 [1,2] Z Z⟩
theorem JC(lf:Bool)(kv s:Value)(a vs:List Int)(A B:Ai)(k:∀h,A h->rdH 1 kv a.length (a.map I) h)(hB:∀h,B h->rdH 1 s vs.length (vs.map I) h)(key:Int)(a2:a.length<=8):Ak 120 [.agg #[.bool lf,kv,s],I key] [A,B] (λv G=>∃i:Nat,FdI a key i/\v=.tuple #[I (i:Int),.bool (decide (a[i]?=some key))]/\G=[A,B]):=by
 intro z R w H;obtain ⟨ka,kc,rfl⟩:=H.sy 0 (λq=>(k _ q).slc);obtain ⟨va,vc,rfl⟩:=H.sy 1 (λq=>(hB _ q).slc);have a1:=H.sy 0 (λq=>(k _ q).slcap);refine Ae func120 Z ntmps120 Z (Za 2 [] H Z ?_);intro t w H;refine Zc 11 Z ?_;refine AF (σ:=Nat) (λi=>[(6,I (i:Int)),(1,I key),(2,Y t),(4,I 0),(5,.bool false)])
   (λi w=>Sep z (blk t [.bool lf,.slice ka a.length kc,.slice va vs.length vc] 195::A::B::R) w/\(i<=a.length/\∀(j:Nat) (x:Int),j<i->a[j]?=some x->x<key)) (λi=>a.length-i) 0
   fr_z ⟨H,⟨AeR _,λj x h=>by omega⟩⟩ ?_
 clear H;rintro i w ⟨f,hI⟩;have H:=f.l3;obtain ⟨l,c⟩:=hI;refine Z2 9 [1,0,0,0] H Z (An 12 Z (λo=>?_) (λo=>?_))
 ·obtain ⟨x,e⟩:∃x,a[i]?=some x:=⟨_,Aef U⟩;refine Z2 3 [1,0,0] H Z ?_;have m:=(H.rd 1 Z k).at (j:=i) (u:=I x) (by simp[e])
  refine Ad Z (Aj Z (z:=1) (j:=i) (r:=i) J Z Z Z U m U) (Ad Z (Ax Z Z J (AB ((H.rd 1 Z k).at (j:=i) (u:=I x) (by simp[e])))) (Z0 5 [0] Z (Af Z (λh2=>?_) (λh2=>?_))))
  ·refine Z1 9 [] [(i:Int)+1] Z U (gf ?_);intro _ g;refine ⟨(i+1),g.cz,⟨H,?_⟩,?_⟩
   ·refine ⟨by omega,λj y hj d=>?_⟩;rcases Aeu j i with h|h
    ·exact c j y h d
    obtain rfl:j=i:=by omega
    rw[e] at d;cases d;omega
   omega
  refine Zc 2 Z (gx (Zc 3 Z (Bu (Sep z _) J J H.drew (GL 7 [1,0,0,0] [] Z J (B8 29 Z (λh3=>?_) (λh3=>?_))))))
  ·refine DS 3 [1,0] (λ_ e=>(AN (e.blk 0 Z) AH)) Z J Z (AM Z Z Z (Aj Z (z:=1) (j:=i) (r:=i) J Z Z Z U m U) (AM Z Z Z (Ax Z Z J (λ_ n=>(n.rd 1 Z k).at (j:=i) (u:=I x) (by simp[e]))) (BS 5 [] Z J (BB (λw f=>?_)))));have H:=f.l3;refine gn (Zc 2 Z (Zr Z ?_));have g:FdI a key i:=⟨l,c,λy d=>by rw[e] at d;cases d;omega⟩
   exact ⟨_,⟨i,g,(congrArg (λb=>Value.tuple #[I (i:Int),.bool b]) (decide_eq_decide.2 (by rw[e];simp))),Z⟩,H.perm 3 [1,2] Z Z⟩
  exact absurd o h3
 refine Zc 13 Z (gx (Zc 3 Z (Bu (Sep z _) J J H.drew (GL 7 [1,0,0,0] [] Z J (B8 29 Z (λp=>?_) (λp=>?_))))))
 ·exact absurd p o
 refine BS 10 [] Z J (BB (λw f=>?_));have H:=f.l3;refine gn (Zc 2 Z (Zr Z ?_));have g:FdI a key i:=⟨l,c,λy d=>by rw[AeL U] at d;cases d⟩;exact ⟨_,⟨i,g,(congrArg (λb=>Value.tuple #[I (i:Int),.bool b]) (decide_eq_false (by rw[AeL U];simp)).symm),Z⟩,H.perm 3 [1,2] Z Z⟩
theorem Wa(lf:Bool)(p g:Value){vs:List Int}(A B:Ai)(e:∀h,A h->rdH 1 p l.length (l.map I) h)(o:∀h,B h->rdH 1 g vs.length (vs.map I) h)(key:Int)(a0:l.length<=8):Ak 121 [.agg #[.bool lf,p,g],I key] [A,B] (λv G=>∃i:Nat,FcI l key i/\v=I ((i-1:Nat):Int)/\G=[A,B]):=by
 intro z R w H;obtain ⟨ka,kc,rfl⟩:=H.sy 0 (λq=>(e _ q).slc);obtain ⟨s,vc,rfl⟩:=H.sy 1 (λq=>(o _ q).slc);have n:=H.sy 0 (λq=>(e _ q).slcap);refine Ae func121 Z ntmps121 Z (Za 2 [] H Z ?_);intro k w H;refine Zc 10 Z ?_;refine AF (σ:=Nat) (λi=>[(5,I (i:Int)),(1,I key),(2,Y k),(4,I 0)])
   (λi w=>Sep z (blk k [.bool lf,.slice ka l.length kc,.slice s vs.length vc] 195::A::B::R) w/\(i<=l.length/\∀(j:Nat) (x:Int),j<i->l[j]?=some x->x<=key)) (λi=>l.length-i) 0
   fr_z ⟨H,⟨AeR _,λj x h=>by omega⟩⟩ ?_
 clear H;rintro i w ⟨t,hI⟩;have H:=t.l3;obtain ⟨c,a⟩:=hI;refine Z2 9 [1,0,0,0] H Z (An 11 Z (λh1=>?_) (λh1=>?_))
 ·obtain ⟨x,d⟩:∃x,l[i]?=some x:=⟨_,Aef U⟩;refine Z2 3 [1,0,0] H Z ?_;have f:=(H.rd 1 Z e).at (j:=i) (u:=I x) (by simp[d])
  refine Ad Z (Aj Z (z:=1) (j:=i) (r:=i) J Z Z Z U f U) (Ad Z (Ax Z Z J (AB ((H.rd 1 Z e).at (j:=i) (u:=I x) (by simp[d])))) (Z0 5 [0] Z (Af Z (λh2=>?_) (λh2=>?_))))
  ·refine Z1 9 [] [(i:Int)+1] Z U (gf ?_);intro _ hF;refine ⟨(i+1),hF.cz,⟨H,?_⟩,?_⟩
   ·refine ⟨by omega,λj y hj b=>?_⟩;rcases Aeu j i with h|h
    ·exact a j y h b
    obtain rfl:j=i:=by omega
    rw[d] at b;cases b;omega
   omega
  refine Zc 2 Z (gx (Z1 6 [] [(i:Int)-1] Z U (Ad Z (Nj Z Z Z) (Zc 4 Z (Zr Z ?_)))));exact ⟨_,⟨i,⟨c,a,λy b=>by rw[d] at b;cases b;omega⟩,congrArg I U,Z⟩,H.perm 3 [1,2] Z Z⟩
 refine Zc 13 Z (gx (Z1 6 [] [(i:Int)-1] Z U (Ad Z (Nj Z Z Z) (Zc 4 Z (Zr Z ?_)))));exact ⟨_,⟨i,⟨c,a,λy b=>by rw[AeL U] at b;cases b⟩,congrArg I U,Z⟩,H.perm 3 [1,2] Z Z⟩
end
theorem DZ(e vs:List Int){B:Ai}(s:∀h,A h->rdH 1 u e.length (e.map I) h)(t:∀h,B h->rdH 1 y vs.length (vs.map I) h)(p q:Nat)(a2:p<=q)(hq:q<=e.length)(x:e.length=vs.length)(a c:List Int)(l:(e.drop p).take (q-p)=a)(k:(vs.drop p).take (q-p)=c)(a3:e.length<=16):Ak 211 [.agg #[.bool b,u,y],I (p:Int),I (q:Int)] [A,B] (λv G=>∃v1 v2:Value,v=.agg #[.bool b,v1,v2]/\G=[grow 3 1 v1 a.length (a.map I),grow 3 1 v2 c.length (c.map I),A,B]):=by
 intro z R w H;replace H:=H.l2;obtain ⟨ka,kc,rfl⟩:=H.sy 0 (λq=>(s _ q).slc);obtain ⟨va,vc,rfl⟩:=H.sy 1 (λq=>(t _ q).slc);have a1:=H.sy 0 (λq=>(s _ q).slcap);have a0:=H.sy 1 (λq=>(t _ q).slcap);refine Ae func211 Z ntmps211 Z (Za 2 [] H Z ?_);intro b1 w H;refine Za 0 [] H Z ?_;intro b2 w H;refine Zc 3 Z ?_;replace H:=H.f3.f3.f3;refine AS (Sep z (blk b1 [.bool b,.slice ka e.length kc,.slice va vs.length vc] 195::A::B::R)) 16 Z J (A4 H λw d=>?_);have H:=d.l4;refine AZ [0,1,2,3,4,5] [0,0,0,1,0,0] [] (by exact H.pick 4 [0,1,2] Z) Z J Z (BQ 6 Z J J J Z Z Z (OM (p:=p) (q:=q) (l':=q-p) (c':=kc-p) Z J Z (.inr ⟨_,_,_,Z,Z,Z⟩) (.inr ⟨_,_,_,Z,Z,Z⟩) U U Z Z) (H.pick 4 [0,1,2] Z) (AZ [8,9,10,11] [2,0,0] [] (by exact H.pick 4 [0,1,2] Z) Z J Z (BQ 12 Z J J J Z Z Z (OM (p:=p) (q:=q) (l':=q-p) (c':=vc-p) Z J Z (.inr ⟨_,_,_,Z,Z,Z⟩) (.inr ⟨_,_,_,Z,Z,Z⟩) U U Z Z) (H.pick 4 [0,1,2] Z) (AE [7] J O (Al ?_)))));replace H:=(H.nilg 3 1).l5;refine BU Z Z Z Z (AX 0 H Z Z J BC Z Z (H.rv 2 (λq=>(s _ q).cutA U U)) (GY) U) ?_;rintro v3 w d;have n:([]++((e.drop p).take (q-p)).map I:List Value)=a.map I:=(by rw[AeT,l]);rw[n] at d;rw[show (0+(q-p):Nat)=a.length from (by rw[AfP,<-l];simp;omega)] at d;have H:=d.l5;have m:=H.sy 0 (·.slc);refine Az (H.pick 5 [1,2,3] Z) (AE [13] J O (Al ?_));replace H:=(H.nilg 3 1).l6;refine BU Z Z Z Z (AX 0 H Z Z J BC Z Z (H.rv 4 (λq=>(t _ q).cutA U U)) (GY) U) ?_;rintro v4 w d;have o:([]++((vs.drop p).take (q-p)).map I:List Value)=c.map I:=(by rw[AeT,k]);rw[o] at d;rw[show (0+(q-p):Nat)=c.length from (by rw[AfP,<-k];simp;omega)] at d;have H:=d.l6;have r:=H.sy 0 (·.slc);refine Az (H.pick 6 [2,3,4] Z) ?_;obtain ⟨f,g,rfl⟩:=m;obtain ⟨j,i,rfl⟩:=r;refine AZ [14] [] [] (by exact H.pick 6 [2,3,4] Z) Z J Z (AE [15] J O (Al (Bl Z Z Z (Am 5 H Z Z Z Z (vs:=[.bool b,.slice f a.length g,.slice j c.length i]) Z (by simp[u8,u32,Value.oneCell']) J O (out:=[.bool b,.slice f a.length g,.slice j c.length i]) Z) ?_)));rintro w H;replace H:=H.l6;refine Az (H.pick 6 [2,3,4] Z) (a_done J (gn (Zc 2 Z (Zl [5,3] H Z ?_))));exact ⟨_,⟨.slice f a.length g,.slice j c.length i,Z,Z⟩,H.perm 6 [1,0,3,4] Z Z⟩
theorem Fl(d a:List Int){B1:Ai}(n:∀h,A h->rdH 1 u d.length (d.map I) h)(m:∀h,B1 h->rdH 1 y a.length (a.map I) h){kv2 vv2:Value}(e f:List Int){A2 B2:Ai}(o:∀h,A2 h->rdH 1 kv2 e.length (e.map I) h)(p:∀h,B2 h->rdH 1 vv2 f.length (f.map I) h)(c1:d.length=a.length)(c3:e.length=f.length)(c4:d.length<=16)(c2:e.length<=16)(s vs:List Int)(hk:d++e=s)(hv:a++f=vs):Ak 210 [.agg #[.bool b,u,y],.agg #[.bool c,kv2,vv2]] [A,B1,A2,B2] (λv G=>∃v1 v2:Value,v=.agg #[.bool b,v1,v2]/\G=[grow 3 1 v1 s.length (s.map I),grow 3 1 v2 vs.length (vs.map I),A,B1,A2,B2]):=by
 intro z R w H;replace H:=H.l4;obtain ⟨a6,a5,rfl⟩:=H.sy 0 (λq=>(n _ q).slc);obtain ⟨a9,a2,rfl⟩:=H.sy 1 (λq=>(m _ q).slc);have c0:=H.sy 0 (λq=>(n _ q).slcap);have b0:=H.sy 1 (λq=>(m _ q).slcap);obtain ⟨a4,a0,rfl⟩:=H.sy 2 (λq=>(o _ q).slc);obtain ⟨a1,a7,rfl⟩:=H.sy 3 (λq=>(p _ q).slc);have b9:=H.sy 2 (λq=>(o _ q).slcap);have b4:=H.sy 3 (λq=>(p _ q).slcap);refine Ae func210 Z ntmps210 Z (Za 2 [] H Z ?_);intro b1 w H;refine Za 0 [] H Z ?_;intro b2 w H;refine Za 0 [] H Z ?_;intro b3 w H;refine Z2 8 [2,3,1,2,0] H Z (Au Z (call211 _) (DZ d a n m 0 d.length U U U d a O (by rw[Ag6,Aey,c1];simp) U) H.f4.f4 ?_);rintro _ w _ ⟨v4,v5,rfl,rfl⟩ H;replace H:=H.l9;have b5:=H.sy 0 (·.slc);obtain ⟨b8,b7,rfl⟩:=b5;have b6:=H.sy 1 (·.slc);obtain ⟨r,t,rfl⟩:=b6;refine Za 0 [] H Z ?_;intro a8 w H;refine Z4 9 [0,1,0,0,1,6,0] H Z ?_;intro w H;refine AU Z (AX 1 H Z Z J BC Z Z (H.rd 8 Z o) (GY) U) ?_;rintro g w i;have i:Sep z (blk a8 [.bool b,.slice b8 d.length b7,.slice r a.length t] 195::grow 3 1 g (d.length+e.length) (d.map I++e.map I)::grow 3 1 (.slice r a.length t) a.length (a.map I)::A::B1::blk b3 [.bool false,.slice none 0 0,.slice none 0 0] 195::blk b2 [.bool c,.slice a4 e.length a0,.slice a1 f.length a7] 195::blk b1 [.bool b,.slice a6 d.length a5,.slice a9 a.length a2] 195::A2::B2::R) w:=i;have a3:(d.map I++e.map I:List Value)=s.map I:=(by rw[<-AeK,hk]);rw[a3] at i;rw[show (d.length+e.length:Nat)=s.length from (by rw[<-hk,Aeh])] at i;have H:=i.l10;have j:=H.sy 1 (·.slc);refine Z0 1 [1] Z (AC Z Z (Lw 0 H Z Z Z Z j.cells j.one J) ?_);rintro w H;replace H:=H.l10;refine Z2 8 [2,0,0,2,6,0] H Z (AU Z (AX 2 H Z Z J BC Z Z (H.rd 9 Z p) (GY) U) ?_);rintro l w i;have i:Sep z (blk a8 [.bool b,g,.slice r a.length t] 195::grow 3 1 g s.length (s.map I)::grow 3 1 l (a.length+f.length) (a.map I++f.map I)::A::B1::blk b3 [.bool false,.slice none 0 0,.slice none 0 0] 195::blk b2 [.bool c,.slice a4 e.length a0,.slice a1 f.length a7] 195::blk b1 [.bool b,.slice a6 d.length a5,.slice a9 a.length a2] 195::A2::B2::R) w:=i;have x:(a.map I++f.map I:List Value)=vs.map I:=(by rw[<-AeK,hv]);rw[x] at i;rw[show (a.length+f.length:Nat)=vs.length from (by rw[<-hv,Aeh])] at i;have H:=i.l10;have k:=H.sy 2 (·.slc);refine Z0 1 [2] Z (AC Z Z (JZ 0 H Z Z Z Z k.cells k.one J) ?_);rintro w H;replace H:=H.l10;refine Z2 5 [0,3] H Z (AC Z Z (Am 5 H Z Z Z Z (vs:=[.bool b,g,l]) Z (Ab Z (Ab j.one (Ab k.one Aw))) J O (out:=[.bool b,g,l]) Z) ?_);rintro w H;replace H:=H.l10;refine Zc 3 Z (Zl [5,3] H Z ?_);exact ⟨_,⟨g,l,Z,Z⟩,H.perm 10 [1,2,3,4,8,9] Z Z⟩
theorem MT(a vs:List Int){B:Ai}(s:∀h,A h->rdH 1 u a.length (a.map I) h)(t:∀h,B h->rdH 1 y vs.length (vs.map I) h)(a5:a.length=vs.length)(a9:a.length<=16)(e d f c:List Int)(a4:a.take ((a.length+1)/2)=e)(x:vs.take ((a.length+1)/2)=d)(a3:a.drop ((a.length+1)/2)=f)(a2:vs.drop ((a.length+1)/2)=c):Ak 240 [.agg #[.bool b,u,y]] [A,B] (λv G=>∃v1 v2 v3 v4:Value,v=.tuple #[.agg #[.bool b,v1,v2],.agg #[.bool b,v3,v4]]/\G=[grow 3 1 v1 e.length (e.map I),grow 3 1 v2 d.length (d.map I),grow 3 1 v3 f.length (f.map I),grow 3 1 v4 c.length (c.map I),A,B]):=by
 intro z R w H;replace H:=H.l2;obtain ⟨ka,kc,rfl⟩:=H.sy 0 (λq=>(s _ q).slc);obtain ⟨va,vc,rfl⟩:=H.sy 1 (λq=>(t _ q).slc);have a7:=H.sy 0 (λq=>(s _ q).slcap);have a6:=H.sy 1 (λq=>(t _ q).slcap);refine Ae func240 Z ntmps240 Z (Za 2 [] H Z ?_);intro b1 w H;refine Za 0 [] H Z ?_;intro b2 w H;refine Za 0 [] H Z ?_;intro b3 w H;refine Z3 13 [1,2,0] [(a.length:Int)+1,(((a.length+1)/2:Nat):Int)] H Z U ?_;replace H:=H.f4.f4.f4;refine AS (Sep z (blk b1 [.bool b,.slice ka a.length kc,.slice va vs.length vc] 195::A::B::R)) 11 Z J (A4 H λw H'=>?_);have H:=H'.l5;refine AZ [0,1,3,4,5,6,7] [0,3,0,3,1,0,0] [] (by exact H.pick 5 [0,1,2] Z) Z J Z (AE [2] J O (Al (Br Z Z Z Z Z Z (λw=>call211 _ w) (DZ a vs s t 0 ((a.length+1)/2) U U U e d (by simpa using a4) (by simpa using x) U) H.f2.f2 Z ?_)));rintro _ w _ ⟨v4,v5,rfl,rfl⟩ H;replace H:=H.l7;have a0:=H.sy 0 (·.slc);obtain ⟨m,l,rfl⟩:=a0;have a1:=H.sy 1 (·.slc);obtain ⟨n,o,rfl⟩:=a1;refine Az (H.pick 7 [4,2,3] Z) (AE [8] J O (Al (Br Z Z Z Z Z Z (λw=>call211 _ w) (DZ a vs s t ((a.length+1)/2) a.length U U U f c (by rw[Aem O];exact a3) (by rw[Aem (by simp;omega)];exact a2) U) H.f3.f3 Z ?_)));rintro _ w _ ⟨b0,a8,rfl,rfl⟩ H;replace H:=H.l9;have p:=H.sy 0 (·.slc);obtain ⟨j,g,rfl⟩:=p;have r:=H.sy 1 (·.slc);obtain ⟨i,k,rfl⟩:=r;refine Az (H.pick 9 [6,2,3] Z) (AE [9] J O (Al (Bl Z Z Z (Am 8 H Z Z Z Z (vs:=[.bool b,.slice m e.length l,.slice n d.length o]) Z (by simp[u8,u32,Value.oneCell']) J O (out:=[.bool b,.slice m e.length l,.slice n d.length o]) Z) ?_)));rintro w H;replace H:=H.l9;refine Az (H.pick 9 [6,2,3] Z) (AE [10] J O (Al (Bl Z Z Z (Am 7 H Z Z Z Z (vs:=[.bool b,.slice j f.length g,.slice i c.length k]) Z (by simp[u8,u32,Value.oneCell']) J O (out:=[.bool b,.slice j f.length g,.slice i c.length k]) Z) ?_)));rintro w H;replace H:=H.l9;refine Az (H.pick 9 [6,2,3] Z) (a_done J (gn (Zc 2 Z (Zl [8,3,7,3] H Z ?_))));exact ⟨_,⟨.slice m e.length l,.slice n d.length o,.slice j f.length g,.slice i c.length k,Z,Z⟩,H.perm 9 [4,5,0,1,2,3] Z Z⟩
theorem Wb(lf:Bool)(kv vv:Value){vs:List Int}(A B:Ai)(p:∀h,A h->rdH 1 kv l.length (l.map I) h)(r:∀h,B h->rdH 1 vv vs.length (vs.map I) h)(o:CkN lf l vs)(a8:2<=l.length)(c b d a:List Int)(a3:l.take ((l.length+1)/2)=c)(s:vs.take ((l.length+1)/2)=b)(a1:l.drop ((l.length+1)/2)=d)(a0:vs.drop ((l.length+1)/2)=a):Ak 208 [.agg #[.bool lf,kv,vv]] [A,B] (λv G=>∃v1 v2 v3 v4:Value,v=.tuple #[.agg #[.bool lf,v1,v2],.agg #[.bool lf,v3,v4],I 0]/\G=[grow 3 1 v1 c.length (c.map I),grow 3 1 v2 b.length (b.map I),grow 3 1 v3 d.length (d.map I),grow 3 1 v4 a.length (a.map I),A,B]):=by
 intro z R w H;replace H:=H.l2;obtain ⟨ka,kc,rfl⟩:=H.sy 0 (λq=>(p _ q).slc);obtain ⟨va,vc,rfl⟩:=H.sy 1 (λq=>(r _ q).slc);have a7:=H.sy 0 (λq=>(p _ q).slcap);have a6:=H.sy 1 (λq=>(r _ q).slcap);have a5:=o.len;have a9:=o.l8;refine Ae func208 Z ntmps208 Z (Za 2 [] H Z ?_);intro b1 w H;refine Za 0 [] H Z ?_;intro b2 w H;refine Za 0 [] H Z ?_;intro b3 w H;refine Z2 7 [2,3] H Z (z_E_ Z (call168 _) (CU l vs p r o) H.f4.f4 ?_);intro w H;refine Z2 9 [4,1,4,0,0] H Z (Af Z (λh1=>U) (λh1=>?_));refine Z2 5 [4,3] H Z (Au Z (call240 _) (MT l vs p r U U c b d a a3 s a1 a0) H ?_);rintro _ w _ ⟨v4,v5,v6,v7,rfl,rfl⟩ H;replace H:=H.l9;have u:=H.sy 0 (·.slc);obtain ⟨m,n,rfl⟩:=u;have x:=H.sy 1 (·.slc);obtain ⟨i,f,rfl⟩:=x;have y:=H.sy 2 (·.slc);obtain ⟨j,e,rfl⟩:=y;have a4:=H.sy 3 (·.slc);obtain ⟨g,k,rfl⟩:=a4;refine Za 3 [] H Z ?_;intro a2 w H;refine Za 0 [] H Z ?_;intro t w H;refine Z4 5 [1,0] H Z ?_;intro w H;replace H:=H.f1;refine AS (Sep z (blk a2 [.bool lf,.slice m c.length n,.slice i b.length f] 195::blk t [.bool lf,.slice j d.length e,.slice g a.length k] 195::R)) 5 Z J (A4 H λw H'=>?_);have H:=H'.l11;refine AZ [0,1] [0,3,1,3] [] (by exact H.pick 11 [0,1] Z) Z J Z (AE [2] J O (Al (Bl Z Z Z (Am 9 H Z Z Z Z (vs:=[.bool lf,.slice m c.length n,.slice i b.length f]) Z (by simp[u8,u32,Value.oneCell']) J O (out:=[.bool lf,.slice m c.length n,.slice i b.length f]) Z) ?_)));rintro w H;replace H:=H.l11;refine Az (H.pick 11 [0,1] Z) (AE [3] J O (Al (Bl Z Z Z (Am 8 H Z Z Z Z (vs:=[.bool lf,.slice j d.length e,.slice g a.length k]) Z (by simp[u8,u32,Value.oneCell']) J O (out:=[.bool lf,.slice j d.length e,.slice g a.length k]) Z) ?_)));rintro w H;replace H:=H.l11;refine Az (H.pick 11 [0,1] Z) (AZ [4] [] [] (by exact H.pick 11 [0,1] Z) Z J Z (a_done J (gn (Zc 2 Z (Zl [9,3,8,3] H Z ?_)))));exact ⟨_,⟨.slice m c.length n,.slice i b.length f,.slice j d.length e,.slice g a.length k,Z,Z⟩,H.perm 11 [2,3,4,5,6,7] Z Z⟩
theorem QE(lf:Bool)(kv vv:Value){vs:List Int}(A B:Ai)(hA:∀h,A h->rdH 1 kv l.length (l.map I) h)(hB:∀h,B h->rdH 1 vv vs.length (vs.map I) h)(a2:CkN lf l vs)(i:Nat)(hi:i<l.length)(a b:List Int)(a1:l.take i++l.drop (i+1)=a)(a0:vs.take i++vs.drop (i+1)=b)(c:CkN lf a b):Ak 177 [.agg #[.bool lf,kv,vv],I (i:Int)] [A,B] (λv G=>∃v1 v2:Value,v=.tuple #[.agg #[.bool lf,v1,v2],I 0]/\G=[grow 3 1 v1 a.length (a.map I),grow 3 1 v2 b.length (b.map I),A,B]):=by
 intro z R w H;replace H:=H.l2;obtain ⟨ka,kc,rfl⟩:=H.sy 0 (λq=>(hA _ q).slc);obtain ⟨va,vc,rfl⟩:=H.sy 1 (λq=>(hB _ q).slc);have d8:=H.sy 0 (λq=>(hA _ q).slcap);have c6:=H.sy 1 (λq=>(hB _ q).slcap);have d6:=a2.len;have e9:=a2.l8;refine Ae func177 Z ntmps177 Z (Za 2 [] H Z ?_);intro b1 w H;refine Za 0 [] H Z ?_;intro b2 w H;refine Z2 8 [1,3] H Z (z_E_ Z (call168 _) (CU l vs hA hB a2) H.f3.f3 ?_);intro w H;refine Z0 10 [4,0] Z (An 15 Z (λh1=>U) (λh1=>?_));refine Z2 9 [1,3,0,0] H Z (Af Z (λh2=>U) (λh2=>?_));refine Zc 4 Z ?_;replace H:=H.f1.f1.f3;refine AS (Sep z (blk b1 [.bool lf,.slice ka l.length kc,.slice va vs.length vc] 195::A::B::R)) 13 Z J (A4 H λw H'=>?_);have H:=H'.l4;refine HJ [0,1,3,4,5,6,7,8] [0,3,0,3,1,0,0] [(i:Int)+1] (by exact H.pick 4 [0,1,2] Z) Z J U Z (AE [2,11] J O (JY ?_ ?_))
 ·refine Br Z Z Z Z Z Z (λw=>call211 _ w) (DZ l vs hA hB 0 i U U U (l.take i) (vs.take i) O O U) H.f2.f2 Z ?_;rintro _ w _ ⟨v3,v4,rfl,rfl⟩ H;replace H:=H.l6;have c2:=H.sy 0 (·.slc)
  obtain ⟨e5,g4,rfl⟩:=c2;have c0:=H.sy 1 (·.slc);obtain ⟨h0,f7,rfl⟩:=c0;refine Az (H.pick 6 [4,2,3] Z) (AE [9,11] J O (JY ?_ ?_))
  ·refine Br Z Z Z Z Z Z (λw=>call211 _ w) (DZ l vs hA hB (i+1) l.length U U U (l.drop (i+1)) (vs.drop (i+1)) (by rw[Aem O]) (by rw[Aem (by simp;omega)]) U) H.f3.f3 Z ?_;rintro _ w _ ⟨v9,g0,rfl,rfl⟩ H;replace H:=H.l8;have c1:=H.sy 0 (·.slc)
   obtain ⟨d3,d5,rfl⟩:=c1;have a3:=H.sy 1 (·.slc);obtain ⟨d2,c8,rfl⟩:=a3;refine Az (H.pick 8 [6,2,3] Z) (AE [10,11] J O (JY ?_ ?_))
   ·refine Br Z Z Z Z Z Z (λw=>call210 _ w) (Fl (l.take i) (vs.take i) (λh q=>q.rd) (λh q=>q.rd) (l.drop (i+1)) (vs.drop (i+1)) (λh q=>q.rd) (λh q=>q.rd) (by simp;omega) (by simp;omega) (by simp;omega) (by simp;omega) a b a1 a0) H.f1.f1.f5.f5 Z ?_;rintro _ w _ ⟨f9,g6,rfl,rfl⟩ H;replace H:=H.l10;have b0:=H.sy 0 (·.slc)
    obtain ⟨m,r,rfl⟩:=b0;have b4:=H.sy 1 (·.slc);obtain ⟨k,e,rfl⟩:=b4;refine Az (H.pick 10 [8,6,7] Z) (AE [11] J O (Al (BU Z Z Z Z (Ce (P:=prog) H Z (zs:=[.bool false,.slice none 0 0,.slice none 0 0]) J) ?_)));rintro _ w ⟨g3,rfl,H⟩;replace H:=H.l11;refine Az (H.pick 11 [9,7,8] Z) (AE [12] J O (Al (Bl Z Z Z (Am 0 H Z Z Z Z (vs:=[.bool lf,.slice m a.length r,.slice k b.length e]) Z (by simp[u8,u32,Value.oneCell']) J O (out:=[.bool lf,.slice m a.length r,.slice k b.length e]) Z) ?_)));rintro w H;replace H:=H.l11;refine Az (H.pick 11 [9,7,8] Z) (a_done J (gn (Z2 5 [0,3] H Z (z_E_ Z (call168 _) (CU a b (λh q=>q.rd) (λh q=>q.rd) c) H.f2.f2 ?_))));intro w H;refine Z4 14 [4,2,3,10] H Z ?_;intro w H;refine Zl [10,3] H Z ?_;exact ⟨_,⟨.slice m a.length r,.slice k b.length e,Z,Z⟩,H.perm 11 [0,1,7,8] Z Z⟩
   refine BU Z Z Z Z (Ce (P:=prog) H Z (zs:=[.bool false,.slice none 0 0,.slice none 0 0]) J) ?_;rintro _ w ⟨e2,rfl,H⟩;replace H:=H.l9;refine Az (H.pick 9 [7,3,4] Z) (AE [10] J O (Al (Br Z Z Z Z Z Z (λw=>call210 _ w) (Fl (l.take i) (vs.take i) (λh q=>q.rd) (λh q=>q.rd) (l.drop (i+1)) (vs.drop (i+1)) (λh q=>q.rd) (λh q=>q.rd) (by simp;omega) (by simp;omega) (by simp;omega) (by simp;omega) a b a1 a0) H.f2.f2.f6.f6 Z ?_)));rintro _ w _ ⟨e6,f0,rfl,rfl⟩ H;replace H:=H.l11;have a4:=H.sy 0 (·.slc);obtain ⟨o,d,rfl⟩:=a4;have a6:=H.sy 1 (·.slc);obtain ⟨x,g,rfl⟩:=a6;refine Az (H.pick 11 [9,7,8] Z) (AE [12] J O (Al (Bl Z Z Z (Am 6 H Z Z Z Z (vs:=[.bool lf,.slice o a.length d,.slice x b.length g]) Z (by simp[u8,u32,Value.oneCell']) J O (out:=[.bool lf,.slice o a.length d,.slice x b.length g]) Z) ?_)));rintro w H;replace H:=H.l11;refine Az (H.pick 11 [9,7,8] Z) (a_done J (gn (Z2 5 [6,3] H Z (z_E_ Z (call168 _) (CU a b (λh q=>q.rd) (λh q=>q.rd) c) H ?_))));intro w H;refine Z4 14 [4,6,3,10] H Z ?_;intro w H;refine Zl [10,3] H Z ?_;exact ⟨_,⟨.slice o a.length d,.slice x b.length g,Z,Z⟩,H.perm 11 [0,1,7,8] Z Z⟩
  refine BU Z Z Z Z (Ce (P:=prog) H Z (zs:=[.bool false,.slice none 0 0,.slice none 0 0]) J) ?_;rintro _ w ⟨g7,rfl,H⟩;replace H:=H.l7;refine Az (H.pick 7 [5,3,4] Z) (AE [9] J O (Al (Br Z Z Z Z Z Z (λw=>call211 _ w) (DZ l vs hA hB (i+1) l.length U U U (l.drop (i+1)) (vs.drop (i+1)) (by rw[Aem O]) (by rw[Aem (by simp;omega)]) U) H.f4.f4 Z ?_)));rintro _ w _ ⟨f8,g1,rfl,rfl⟩ H;replace H:=H.l9;have a9:=H.sy 0 (·.slc);obtain ⟨c7,d1,rfl⟩:=a9;have b9:=H.sy 1 (·.slc);obtain ⟨d4,c9,rfl⟩:=b9;refine Az (H.pick 9 [7,2,3] Z) (AE [10] J O (Al (Br Z Z Z Z Z Z (λw=>call210 _ w) (Fl (l.take i) (vs.take i) (λh q=>q.rd) (λh q=>q.rd) (l.drop (i+1)) (vs.drop (i+1)) (λh q=>q.rd) (λh q=>q.rd) (by simp;omega) (by simp;omega) (by simp;omega) (by simp;omega) a b a1 a0) H.f1.f1.f6.f6 Z ?_)));rintro _ w _ ⟨e3,h3,rfl,rfl⟩ H;replace H:=H.l11;have a5:=H.sy 0 (·.slc);obtain ⟨y,s,rfl⟩:=a5;have b5:=H.sy 1 (·.slc);obtain ⟨t,u,rfl⟩:=b5;refine Az (H.pick 11 [9,6,7] Z) (AE [12] J O (Al (Bl Z Z Z (Am 8 H Z Z Z Z (vs:=[.bool lf,.slice y a.length s,.slice t b.length u]) Z (by simp[u8,u32,Value.oneCell']) J O (out:=[.bool lf,.slice y a.length s,.slice t b.length u]) Z) ?_)));rintro w H;replace H:=H.l11;refine Az (H.pick 11 [9,6,7] Z) (a_done J (gn (Z2 5 [8,3] H Z (z_E_ Z (call168 _) (CU a b (λh q=>q.rd) (λh q=>q.rd) c) H ?_))));intro w H;refine Z4 14 [4,8,3,10] H Z ?_;intro w H;refine Zl [10,3] H Z ?_;exact ⟨_,⟨.slice y a.length s,.slice t b.length u,Z,Z⟩,H.perm 11 [0,1,6,7] Z Z⟩
 refine BU Z Z Z Z (Ce (P:=prog) H Z (zs:=[.bool false,.slice none 0 0,.slice none 0 0]) J) ?_;rintro _ w ⟨g9,rfl,H⟩;replace H:=H.l5;refine Az (H.pick 5 [1,2,3] Z) (AE [2] J O (Al (Br Z Z Z Z Z Z (λw=>call211 _ w) (DZ l vs hA hB 0 i U U U (l.take i) (vs.take i) O O U) H.f3.f3 Z ?_)));rintro _ w _ ⟨g5,g8,rfl,rfl⟩ H;replace H:=H.l7;have b3:=H.sy 0 (·.slc);obtain ⟨c5,d9,rfl⟩:=b3;have b8:=H.sy 1 (·.slc);obtain ⟨e1,c4,rfl⟩:=b8;refine Az (H.pick 7 [5,2,3] Z) (AE [9] J O (Al (Br Z Z Z Z Z Z (λw=>call211 _ w) (DZ l vs hA hB (i+1) l.length U U U (l.drop (i+1)) (vs.drop (i+1)) (by rw[Aem O]) (by rw[Aem (by simp;omega)]) U) H.f3.f3 Z ?_)));rintro _ w _ ⟨e8,e4,rfl,rfl⟩ H;replace H:=H.l9;have b6:=H.sy 0 (·.slc);obtain ⟨c3,d0,rfl⟩:=b6;have a8:=H.sy 1 (·.slc);obtain ⟨e0,d7,rfl⟩:=a8;refine Az (H.pick 9 [7,2,3] Z) (AE [10] J O (Al (Br Z Z Z Z Z Z (λw=>call210 _ w) (Fl (l.take i) (vs.take i) (λh q=>q.rd) (λh q=>q.rd) (l.drop (i+1)) (vs.drop (i+1)) (λh q=>q.rd) (λh q=>q.rd) (by simp;omega) (by simp;omega) (by simp;omega) (by simp;omega) a b a1 a0) H.f1.f1.f5.f5 Z ?_)));rintro _ w _ ⟨g2,e7,rfl,rfl⟩ H;replace H:=H.l11;have a7:=H.sy 0 (·.slc);obtain ⟨p,j,rfl⟩:=a7;have b7:=H.sy 1 (·.slc);obtain ⟨n,f,rfl⟩:=b7;refine Az (H.pick 11 [9,6,7] Z) (AE [12] J O (Al (Bl Z Z Z (Am 8 H Z Z Z Z (vs:=[.bool lf,.slice p a.length j,.slice n b.length f]) Z (by simp[u8,u32,Value.oneCell']) J O (out:=[.bool lf,.slice p a.length j,.slice n b.length f]) Z) ?_)));rintro w H;replace H:=H.l11;refine Az (H.pick 11 [9,6,7] Z) (a_done J (gn (Z2 5 [8,3] H Z (z_E_ Z (call168 _) (CU a b (λh q=>q.rd) (λh q=>q.rd) c) H ?_))));intro w H;refine Z4 14 [4,8,3,10] H Z ?_;intro w H;refine Zl [10,3] H Z ?_;exact ⟨_,⟨.slice p a.length j,.slice n b.length f,Z,Z⟩,H.perm 11 [0,1,6,7] Z Z⟩
theorem FdI.uniq{key:Int}(h:FdI l key i)(g:FdI l key j):i=j:=by
 rcases AfL i j with q|q|q
 ·have a:i<l.length:=by have:=g.le;omega
  have b:=h.ge l[i] (Aef a);have c:=g.lt i l[i] q (Aef a);omega
 ·exact q
 have a:j<l.length:=by have:=h.le;omega
 have b:=g.ge l[j] (Aef a);have c:=h.lt j l[j] q (Aef a);omega
theorem FcI.uniq{key:Int}(h:FcI l key i)(g:FcI l key j):i=j:=by
 rcases AfL i j with q|q|q
 ·have a:i<l.length:=by have:=g.le;omega
  have b:=h.ge l[i] (Aef a);have c:=g.lt i l[i] q (Aef a);omega
 ·exact q
 have a:j<l.length:=by have:=h.le;omega
 have b:=g.ge l[j] (Aef a);have c:=h.lt j l[j] q (Aef a);omega
theorem Zw(lf:Bool)(kv x:Value){vs:List Int}(A B:Ai)(f:∀h,A h->rdH 1 kv l.length (l.map I) h)(j:∀h,B h->rdH 1 x vs.length (vs.map I) h)(c:CkN lf l vs)(key:Int)(val:Int)(a8:(0<=key/\key<1048576)/\1<=val/\val<1024)(i:Nat)(p:FdI l key i)(k:l[i]?=some key):Ak 207 [.agg #[.bool lf,kv,x],I key,I val] [A,B] (λv G=>∃v1 y:Value,v=.tuple #[.agg #[.bool lf,v1,y],I 0]/\G=[grow 3 1 v1 l.length (l.map I),grow 3 1 y vs.length ((vs.set i val).map I),A,B]):=by
 intro z R w H;replace H:=H.l2;obtain ⟨ka,kc,rfl⟩:=H.sy 0 (λq=>(f _ q).slc);obtain ⟨va,vc,rfl⟩:=H.sy 1 (λq=>(j _ q).slc);have a2:=H.sy 0 (λq=>(f _ q).slcap);have a1:=H.sy 1 (λq=>(j _ q).slcap);have e:=c.len;have a7:=c.l8;have a5:=(Aee.1 k).1;refine Ae func207 Z ntmps207 Z (Za 2 [] H Z ?_);intro b1 w H;refine Za 0 [] H Z ?_;intro b2 w H;refine Z2 8 [1,3] H Z (z_E_ Z (call168 _) (CU l vs f j c) H.f3.f3 ?_);intro w H;refine Z0 9 [4] Z (z_E_ Z (call205 _) (HW) H ?_);intro w H;replace H:=H.l4;refine Ad Z (AG Z Z) (Zc 3 Z (Af Z (λh1=>U) (λh1=>?_)));refine Z2 7 [3,3] H Z (Au Z (call120 _) (JC _ _ _ l vs _ _ f j _ U) H ?_);rintro _ w _ ⟨d,g,rfl,rfl⟩ H;replace H:=H.l4;obtain rfl:=g.uniq p;refine AD 26 (v:=.tuple #[I (d:Int),.bool true]) Z (congrArg (λb=>Value.tuple #[I (d:Int),.bool b]) (decide_eq_true k)) (Z2 20 [3,3,1,3,0] H Z (Au Z (call211 _) (DZ l vs f j 0 l.length U U U l vs O (by rw[Ag6,Aey,e];simp) U) H ?_));rintro _ w _ ⟨v4,v5,rfl,rfl⟩ H;replace H:=H.l6;have n:=H.sy 0 (·.slc);obtain ⟨s,r,rfl⟩:=n;have o:=H.sy 1 (·.slc);obtain ⟨a9,m,rfl⟩:=o;refine Za 0 [] H Z ?_;intro b0 w H;refine Z4 4 [0] H Z ?_;intro w H;obtain ⟨u,a0,a,t,a6,a3,a4,H'⟩:=H.ungrow 2 Z U;cases t;clear H;have H:=H'.l7;refine Z3 6 [2,0,0,1,d,d] [] H Z U (AC Z Z (Am 2 H Z Z Z Z (vs:=[I val]) Z (by simp[u8,u32,Value.oneCell']) J (by simp;omega) (out:=((vs.set d val).map I++a)) (Ec U)) ?_);rintro w H;replace H:=H.l7;refine Z4 10 [0,3,5] H Z ?_;intro w H;refine Zl [5,3] H Z ?_;have H2:=H.mono 2 (B:=grow 3 1 (.slice (some ⟨u,0,none⟩) vs.length m) vs.length ((vs.set d val).map I)) Z (λh q=>q.grow U U (by simp;omega) (by rw[AeS,AeI O]));exact ⟨_,⟨.slice s l.length r,.slice (some ⟨u,0,none⟩) vs.length m,Z,Z⟩,H2.perm 7 [1,2,3,4] Z Z⟩
theorem Zx(lf:Bool)(r k:Value){vs:List Int}(A B:Ai)(d:∀h,A h->rdH 1 r l.length (l.map I) h)(e:∀h,B h->rdH 1 k vs.length (vs.map I) h)(a:CkN lf l vs)(key:Int)(val:Int)(u:(0<=key/\key<1048576)/\1<=val/\val<1024)(i:Nat)(g:FdI l key i)(j:¬l[i]?=some key)(f:l.length=8):Ak 207 [.agg #[.bool lf,r,k],I key,I val] [A,B] (λv G=>v=.tuple #[.agg #[.bool false,.slice none 0 0,.slice none 0 0],I 15]/\G=[A,B]):=by
 intro z R w H;replace H:=H.l2;obtain ⟨ka,kc,rfl⟩:=H.sy 0 (λq=>(d _ q).slc);obtain ⟨y,vc,rfl⟩:=H.sy 1 (λq=>(e _ q).slc);have t:=a.l8;refine Ae func207 Z ntmps207 Z (Za 2 [] H Z ?_);intro b1 w H;refine Za 0 [] H Z ?_;intro b2 w H;refine Z2 8 [1,3] H Z (z_E_ Z (call168 _) (CU l vs d e a) H.f3.f3 ?_);intro w H;refine Z0 9 [4] Z (z_E_ Z (call205 _) (HW) H ?_);intro w H;replace H:=H.l4;refine Ad Z (AG Z Z) (Zc 3 Z (Af Z (λs=>U) (λs=>?_)));refine Z2 7 [3,3] H Z (Au Z (call120 _) (JC _ _ _ l vs _ _ d e _ U) H ?_);rintro _ w _ ⟨p,c,rfl,rfl⟩ H;replace H:=H.l4;obtain rfl:=c.uniq g;refine AD 26 (v:=.tuple #[I (p:Int),.bool false]) Z (congrArg (λb=>Value.tuple #[I (p:Int),.bool b]) (decide_eq_false j)) (Z2 25 [1,3,0,0] H Z (Af Z (λx=>?_) (λx=>?_)))
 ·refine Z4 8 [2] H Z ?_;intro w H;refine Zl [2,3] H Z ?_;exact ⟨_,⟨Z,Z⟩,H.perm 4 [0,1] Z Z⟩
 (exfalso;omega)
theorem Zy(lf:Bool)(kv vv:Value){vs:List Int}(A B:Ai)(n:∀h,A h->rdH 1 kv l.length (l.map I) h)(o:∀h,B h->rdH 1 vv vs.length (vs.map I) h)(m:CkN lf l vs)(key:Int)(val:Int)(c8:(0<=key/\key<1048576)/\1<=val/\val<1024)(i:Nat)(k:FdI l key i)(a5:¬l[i]?=some key)(a3:l.length<8)(c d:List Int)(a2:l.take i++key::l.drop i=c)(a0:vs.take i++val::vs.drop i=d):Ak 207 [.agg #[.bool lf,kv,vv],I key,I val] [A,B] (λv G=>∃v1 v2:Value,v=.tuple #[.agg #[.bool lf,v1,v2],I 0]/\G=[grow 3 1 v1 c.length (c.map I),grow 3 1 v2 d.length (d.map I),A,B]):=by
 intro z R w H;replace H:=H.l2;obtain ⟨ka,kc,rfl⟩:=H.sy 0 (λq=>(n _ q).slc);obtain ⟨va,vc,rfl⟩:=H.sy 1 (λq=>(o _ q).slc);have c2:=H.sy 0 (λq=>(n _ q).slcap);have a7:=H.sy 1 (λq=>(o _ q).slcap);have c0:=m.len;have c7:=m.l8;have d1:=k.le;refine Ae func207 Z ntmps207 Z (Za 2 [] H Z ?_);intro b1 w H;refine Za 0 [] H Z ?_;intro b2 w H;refine Z2 8 [1,3] H Z (z_E_ Z (call168 _) (CU l vs n o m) H.f3.f3 ?_);intro w H;refine Z0 9 [4] Z (z_E_ Z (call205 _) (HW) H ?_);intro w H;replace H:=H.l4;refine Ad Z (AG Z Z) (Zc 3 Z (Af Z (λh1=>U) (λh1=>?_)));refine Z2 7 [3,3] H Z (Au Z (call120 _) (JC _ _ _ l vs _ _ n o _ U) H ?_);rintro _ w _ ⟨a,u,rfl,rfl⟩ H;replace H:=H.l4;obtain rfl:=u.uniq k;refine AD 26 (v:=.tuple #[I (a:Int),.bool false]) Z (congrArg (λb=>Value.tuple #[I (a:Int),.bool b]) (decide_eq_false a5)) (Z2 25 [1,3,0,0] H Z (Af Z (λh2=>U) (λh2=>?_)));refine Zc 5 Z (AU Z (AP H Z J BC Z (by decide) (by decide) (out:=[I key]) J) ?_);rintro _ w ⟨b4,rfl,H⟩;replace H:=H.l5;refine Zc 1 Z (AU Z (AP H Z J BC Z (by decide) (by decide) (out:=[I val]) J) ?_);rintro _ w ⟨b5,rfl,H⟩;replace H:=H.l6;refine Za 1 [] H Z ?_;intro b6 w H;refine Z4 4 [0] H Z ?_;intro w H;replace H:=H.f4.f4.f2.f6;refine AS (Sep z (blk b1 [.bool lf,.slice ka l.length kc,.slice va vs.length vc] 195::blk b6 [.bool false,.slice (some ⟨b4,0,none⟩) 1 1,.slice (some ⟨b5,0,none⟩) 1 1] 195::A::B::R)) 14 Z J (A4 H λw H'=>?_);have H:=H'.l7;refine AZ [0,1,3,5,6,7,8,9] [0,3,1,3,0,3,1,0,0] [] (by exact H.pick 7 [0,1,2,3] Z) Z J Z (AE [2] J O (Al (Br Z Z Z Z Z Z (λw=>call211 _ w) (DZ l vs n o 0 a U (k.le) U (l.take a) (vs.take a) O O U) H.f3.f3 Z ?_)));rintro _ w _ ⟨v7,v8,rfl,rfl⟩ H;replace H:=H.l9;have a4:=H.sy 0 (·.slc);obtain ⟨d4,b3,rfl⟩:=a4;have a1:=H.sy 1 (·.slc);obtain ⟨b7,b9,rfl⟩:=a1;refine Az (H.pick 9 [4,5,2,3] Z) (AE [4] J O (Al (Br Z Z Z Z Z Z (λw=>call210 _ w) (Fl (l.take a) (vs.take a) (λh q=>q.rd) (λh q=>q.rd) ([key]) ([val]) (λh q=>q.rd U U O Z) (λh q=>q.rd U U O Z) (by simp<;>omega) (by simp<;>omega) (by simp<;>omega) (by simp<;>omega) (l.take a++[key]) (vs.take a++[val]) Z Z) H.f6.f7.f3.f3 Z ?_)));rintro _ w _ ⟨d3,c6,rfl,rfl⟩ H;replace H:=H.l11;have t:=H.sy 0 (·.slc);obtain ⟨a8,c3,rfl⟩:=t;have s:=H.sy 1 (·.slc);obtain ⟨a9,c1,rfl⟩:=s;refine Az (H.pick 11 [8,9,6,7] Z) (AE [10] J O (Al (Br Z Z Z Z Z Z (λw=>call211 _ w) (DZ l vs n o a l.length (k.le) U U (l.drop a) (vs.drop a) (by rw[Aem O]) (by rw[Aem (by simp;omega)]) U) H.f7.f7 Z ?_)));rintro _ w _ ⟨d0,c9,rfl,rfl⟩ H;replace H:=H.l13;have y:=H.sy 0 (·.slc);obtain ⟨a6,b0,rfl⟩:=y;have x:=H.sy 1 (·.slc);obtain ⟨b8,c4,rfl⟩:=x;refine Az (H.pick 13 [10,11,2,3] Z) (AE [11] J O (Al (Br Z Z Z Z Z Z (λw=>call210 _ w) (Fl (l.take a++[key]) (vs.take a++[val]) (λh q=>q.rd) (λh q=>q.rd) (l.drop a) (vs.drop a) (λh q=>q.rd) (λh q=>q.rd) (by simp<;>omega) (by simp<;>omega) (by simp<;>omega) (by simp<;>omega) c d (by rw[Aek];exact a2) (by rw[Aek];exact a0)) H.f1.f1.f5.f5 Z ?_)));rintro _ w _ ⟨d2,c5,rfl,rfl⟩ H;replace H:=H.l15;have r:=H.sy 0 (·.slc);obtain ⟨g,e,rfl⟩:=r;have p:=H.sy 1 (·.slc);obtain ⟨j,f,rfl⟩:=p;refine Az (H.pick 15 [12,13,6,7] Z) (AE [12] J O (Al (Bl Z Z Z (Am 14 H Z Z Z Z (vs:=[.bool lf,.slice g c.length e,.slice j d.length f]) Z (by simp[u8,u32,Value.oneCell']) J O (out:=[.bool lf,.slice g c.length e,.slice j d.length f]) Z) ?_)));rintro w H;replace H:=H.l15;refine Az (H.pick 15 [12,13,6,7] Z) (AZ [13] [] [] (by exact H.pick 15 [12,13,6,7] Z) Z J Z (a_done J (gn (Zc 2 Z (Zl [14,3] H Z ?_)))));exact ⟨_,⟨.slice g c.length e,.slice j d.length f,Z,Z⟩,H.perm 15 [0,1,6,7] Z Z⟩
end Go.Proofs.YtkblhjdljaoghaaGreatDoor
