/-
  Steps to: Law VolumesPast: snapshots keep the past. No condition.
-/
import Derived.Test.YtemljpjnhjnncaaGreatDoorPast3
set_option maxRecDepth 100000
set_option linter.unusedSimpArgs false
set_option linter.unusedVariables false
open Go.Proofs.Tryz
namespace Go.Proofs.YtemljpjnhjnncaaGreatDoor
open Go.RowKit
variable{n m i j e g r:Nat}{t s p q:Int}{V:List Value}{B S:List UInt8}{T:TypeId}{L:List (Nat×Value)}{v u y:Value}{z:World}{l:List Int}{R:List Nat}{N:Act->World->Prop}{b c:Bool}{x:Operand}{o:List Oper}{K:Value->World->Prop}{C:Nat->Nat}{P:Program}{F:Nat->Bool}{a:Act}
variable{Γ:List Ai}{h:Hp}{A:Ai}
variable{D:Dsk}
theorem Ja{kv1 vv1:Value}(a k:List Int){B1:Ai}(f:∀h,A h->rdH 1 kv1 a.length (a.map I) h)(m:∀h,B1 h->rdH 1 vv1 k.length (k.map I) h){kv2 vv2:Value}(c i:List Int){A2 B2:Ai}(d:∀h,A2 h->rdH 1 kv2 c.length (c.map I) h)(l:∀h,B2 h->rdH 1 vv2 i.length (i.map I) h)(e:CkN b a k)(g:CkN b c i)(a2:∀x y:Int,a[a.length-1]?=some x->c[0]?=some y->x<y):Aj 247 [.agg #[.bool b,kv1,vv1],.agg #[.bool b,kv2,vv2]] [A,B1,A2,B2] (λv G=>v=.bool true/\G=[A,B1,A2,B2]):=by
 intro z R w H;obtain ⟨b5,b9,rfl⟩:=H.sy 0 (λq=>(f _ q).slc);obtain ⟨b0,b7,rfl⟩:=H.sy 1 (λq=>(m _ q).slc);have a7:=H.sy 0 (λq=>(f _ q).slcap);have a4:=H.sy 1 (λq=>(m _ q).slcap);obtain ⟨b8,b6,rfl⟩:=H.sy 2 (λq=>(d _ q).slc);obtain ⟨b4,b3,rfl⟩:=H.sy 3 (λq=>(l _ q).slc);have a6:=H.sy 2 (λq=>(d _ q).slcap);have a5:=H.sy 3 (λq=>(l _ q).slcap);have t:=e.len;have a9:=e.l8;have a1:=g.len;have a8:=g.l8;refine Ae func247 Z ntmps247 Z (Za 2 [] H Z ?_);intro b1 w H;refine Za 0 [] H Z ?_;intro b2 w H;refine Z2 7 [1,3] H Z (z_E_ Z (call177 _) (CU a k f m e) H.f3.f3 ?_);intro w H;refine Z2 3 [4,2,3] H Z (z_E_ Z (call177 _) (CU c i d l g) H.f5.f5 ?_);intro w H;refine Z2 7 [4,0,5,0,0,4,0] H Z (Ab Z (Nu Z J Z Z) (Zc 3 Z (Af Z (λh1=>?_) (λh1=>?_))))
 ·exact absurd Z h1
 refine Zc 3 Z (By (Sep z _) J J H.drew (GL 5 [1,5,0,0] [] Z J (Ce 24 Z (λh2=>?_) (λh2=>?_))))
 ·refine B4 21 [] Z J (BL (λw o=>?_));have H:=o.l6;refine gn (Zc 2 Z (Zr Z ?_));exact ⟨_,⟨Z,Z⟩,H.perm 6 [2,3,0,1] Z Z⟩
 refine GL 6 [1,4,0,0] [] Z J (Ce 30 Z (λh3=>?_) (λh3=>?_))
 ·refine B4 15 [] Z J (BL (λw o=>?_));have H:=o.l6;refine gn (Zc 2 Z (Zr Z ?_));exact ⟨_,⟨Z,Z⟩,H.perm 6 [2,3,0,1] Z Z⟩
 obtain ⟨x,p⟩:∃x,a[a.length-1]?=some x:=⟨_,Aef U⟩;obtain ⟨y,hy⟩:∃y,c[0]?=some y:=⟨_,Aef U⟩;have s:=a2 x y p hy;have a3:=(H.rd 2 Z f).at (j:=a.length-1) (u:=I x) (by simp[p]);have a0:=(H.rd 0 Z d).at (j:=0) (u:=I y) (by simp[hy]);refine Hb 6 [1,5,0,1,5,0] [(a.length:Int)-1] Z J U (AM Z Z Z (Ak Z (z:=1) (j:=(a.length-1)) (r:=(a.length-1)) J Z Z U U a3 U) (AM Z Z Z (Ay Z Z J (λ_ n=>(n.rd 2 Z f).at (j:=a.length-1) (u:=I x) (by simp[p]))) (D5 2 [1,0] (λ_ p=>(AR (p.blk 4 Z) AN)) Z J Z (AM Z Z Z (Ak Z (z:=1) (j:=0) (r:=0) J Z Z Z U a0 U) (AM Z Z Z (Ay Z Z J (λ_ n=>(n.rd 0 Z d).at (j:=0) (u:=I y) (by simp[hy]))) (B4 3 [] Z J (BL (λw o=>?_))))))));have H:=o.l6;refine gn (Zc 2 Z (Zr Z ?_));exact ⟨_,⟨congrArg Value.bool (decide_eq_true s),Z⟩,H.perm 6 [2,3,0,1] Z Z⟩
theorem Wa(e:Bool)(kv1 vv1:Value){c:List Int}(A1 B1:Ai)(k:∀h,A1 h->rdH 1 kv1 l.length (l.map I) h)(j:∀h,B1 h->rdH 1 vv1 c.length (c.map I) h)(kv2 vv2:Value){a b:List Int}(A2 B2:Ai)(i:∀h,A2 h->rdH 1 kv2 a.length (a.map I) h)(g:∀h,B2 h->rdH 1 vv2 b.length (b.map I) h)(d:CkN e l c)(f:CkN e a b)(u:∀x y:Int,l[l.length-1]?=some x->a[0]?=some y->x<y)(h8:l.length+a.length<=8)(m vs:List Int)(hk:l++a=m)(hv:c++b=vs):Aj 222 [.agg #[.bool e,kv1,vv1],.agg #[.bool e,kv2,vv2]] [A1,B1,A2,B2] (λv G=>∃v1 v2:Value,v=.tuple #[.agg #[.bool e,v1,v2],I 0]/\G=[grow 3 1 v1 m.length (m.map I),grow 3 1 v2 vs.length (vs.map I),A1,B1,A2,B2]):=by
 intro z R w H;obtain ⟨b4,b8,rfl⟩:=H.sy 0 (λq=>(k _ q).slc);obtain ⟨a8,b6,rfl⟩:=H.sy 1 (λq=>(j _ q).slc);have a5:=H.sy 0 (λq=>(k _ q).slcap);have a2:=H.sy 1 (λq=>(j _ q).slcap);obtain ⟨b7,b5,rfl⟩:=H.sy 2 (λq=>(i _ q).slc);obtain ⟨b0,a9,rfl⟩:=H.sy 3 (λq=>(g _ q).slc);have a4:=H.sy 2 (λq=>(i _ q).slcap);have a3:=H.sy 3 (λq=>(g _ q).slcap);have o:=d.len;have a7:=d.l8;have t:=f.len;have a6:=f.l8;refine Ae func222 Z ntmps222 Z (Za 2 [] H Z ?_);intro b1 w H;refine Za 0 [] H Z ?_;intro b2 w H;refine Za 0 [] H Z ?_;intro b3 w H;refine Z2 9 [2,3,1,3] H Z (z_E_ Z (call247 _) (Ja l c k j a b i g d f u) H.f6.f6.f6.f6 ?_);intro w H;refine Z3 18 [1,6,0,1,5,0,0] [(l.length:Int)+(a.length:Int)] H Z U (Af Z (λh1=>U) (λh1=>?_));refine Z2 7 [6,3,5,3] H Z (Ar Z (call220 _) (Fm l c k j a b i g U U U U m vs hk hv) H ?_);rintro _ w _ ⟨v4,v5,rfl,rfl⟩ H;have r:=H.sy 0 (·.slc);obtain ⟨p,s,rfl⟩:=r;have a1:=H.sy 1 (·.slc);obtain ⟨a0,n,rfl⟩:=a1;refine Z4 5 [6] H Z ?_;intro w H;refine Zl [6,3] H Z ?_;exact ⟨_,⟨.slice p m.length s,.slice a0 vs.length n,Z,Z⟩,H.perm 9 [0,1,2,3,4,5] Z Z⟩
theorem Wb(f:Bool)(kv1 vv1:Value){e:List Int}(A1 B1:Ai)(k:∀h,A1 h->rdH 1 kv1 l.length (l.map I) h)(j:∀h,B1 h->rdH 1 vv1 e.length (e.map I) h)(kv2 vv2:Value){a d:List Int}(A2 B2:Ai)(i:∀h,A2 h->rdH 1 kv2 a.length (a.map I) h)(g:∀h,B2 h->rdH 1 vv2 d.length (d.map I) h)(b:CkN f l e)(c:CkN f a d)(o:∀x y:Int,l[l.length-1]?=some x->a[0]?=some y->x<y)(h8:8<l.length+a.length):Aj 222 [.agg #[.bool f,kv1,vv1],.agg #[.bool f,kv2,vv2]] [A1,B1,A2,B2] (λv G=>v=.tuple #[.agg #[.bool false,.slice none 0 0,.slice none 0 0],I 15]/\G=[A1,B1,A2,B2]):=by
 intro z R w H;obtain ⟨a4,a8,rfl⟩:=H.sy 0 (λq=>(k _ q).slc);obtain ⟨a1,a6,rfl⟩:=H.sy 1 (λq=>(j _ q).slc);have t:=H.sy 0 (λq=>(k _ q).slcap);have p:=H.sy 1 (λq=>(j _ q).slcap);obtain ⟨a7,a5,rfl⟩:=H.sy 2 (λq=>(i _ q).slc);obtain ⟨a3,a2,rfl⟩:=H.sy 3 (λq=>(g _ q).slc);have s:=H.sy 2 (λq=>(i _ q).slcap);have r:=H.sy 3 (λq=>(g _ q).slcap);have m:=b.len;have a0:=b.l8;have n:=c.len;have u:=c.l8;refine Ae func222 Z ntmps222 Z (Za 2 [] H Z ?_);intro b1 w H;refine Za 0 [] H Z ?_;intro b2 w H;refine Za 0 [] H Z ?_;intro b3 w H;refine Z2 9 [2,3,1,3] H Z (z_E_ Z (call247 _) (Ja l e k j a d i g b c o) H.f6.f6.f6.f6 ?_);intro w H;refine Z3 18 [1,6,0,1,5,0,0] [(l.length:Int)+(a.length:Int)] H Z U (Af Z (λh1=>?_) (λh1=>?_))
 ·refine Z4 8 [4] H Z ?_;intro w H;refine Zl [4,3] H Z ?_;exact ⟨_,⟨Z,Z⟩,H.perm 7 [0,1,2,3] Z Z⟩
 (exfalso;omega)
theorem Wd(a:Bool)(kv1 vv1:Value){i:List Int}(A1 B1:Ai)(a1:∀h,A1 h->rdH 1 kv1 l.length (l.map I) h)(a0:∀h,B1 h->rdH 1 vv1 i.length (i.map I) h)(kv2 vv2:Value){b g:List Int}(A2 B2:Ai)(a3:∀h,A2 h->rdH 1 kv2 b.length (b.map I) h)(a2:∀h,B2 h->rdH 1 vv2 g.length (g.map I) h)(t:CkN a l i)(u:CkN a b g)(b0:∀x y:Int,l[l.length-1]?=some x->b[0]?=some y->x<y)(d9:2<=l.length+b.length)(ks vs:List Int)(hk:l++b=ks)(hv:i++g=vs)(f e d c:List Int)(b5:ks.take ((ks.length+1)/2)=f)(c1:vs.take ((ks.length+1)/2)=e)(b9:ks.drop ((ks.length+1)/2)=d)(b8:vs.drop ((ks.length+1)/2)=c):Aj 223 [.agg #[.bool a,kv1,vv1],.agg #[.bool a,kv2,vv2]] [A1,B1,A2,B2] (λv G=>∃v1 v2 v3 v4:Value,v=.tuple #[.agg #[.bool a,v1,v2],.agg #[.bool a,v3,v4],I 0]/\G=[grow 3 1 v1 f.length (f.map I),grow 3 1 v2 e.length (e.map I),grow 3 1 v3 d.length (d.map I),grow 3 1 v4 c.length (c.map I),A1,B1,A2,B2]):=by
 intro z R w H;replace H:=H.l4;obtain ⟨d3,d8,rfl⟩:=H.sy 0 (λq=>(a1 _ q).slc);obtain ⟨d0,e6,rfl⟩:=H.sy 1 (λq=>(a0 _ q).slc);have b7:=H.sy 0 (λq=>(a1 _ q).slcap);have c3:=H.sy 1 (λq=>(a0 _ q).slcap);obtain ⟨e7,d4,rfl⟩:=H.sy 2 (λq=>(a3 _ q).slc);obtain ⟨d2,d1,rfl⟩:=H.sy 3 (λq=>(a2 _ q).slc);have c5:=H.sy 2 (λq=>(a3 _ q).slcap);have b6:=H.sy 3 (λq=>(a2 _ q).slcap);have a8:=t.len;have c9:=t.l8;have c0:=u.len;have c7:=u.l8;have d7:ks.length=l.length+b.length:=by rw[<-hk,Aeg]
 have e2:vs.length=i.length+g.length:=by rw[<-hv,Aeg]
 refine Ae func223 Z ntmps223 Z (Za 2 [] H Z ?_);intro b1 w H;refine Za 0 [] H Z ?_;intro b2 w H;refine Za 0 [] H Z ?_;intro b3 w H;refine Za 0 [] H Z ?_;intro b4 w H;refine Z2 8 [3,3,2,3] H Z (z_E_ Z (call247 _) (Ja l i a1 a0 b g a3 a2 t u b0) H.f7.f7.f7.f7 ?_);intro w H;refine Z3 13 [1,7,0,1,6,0,0] [(l.length:Int)+(b.length:Int)] H Z U (Af Z (λh1=>U) (λh1=>?_));refine Z2 6 [7,3,6,3] H Z (Ar Z (call220 _) (Fm l i a1 a0 b g a3 a2 U U U U ks vs hk hv) H ?_);rintro _ w _ ⟨v5,v6,rfl,rfl⟩ H;replace H:=H.l10;have c2:=H.sy 0 (·.slc);obtain ⟨e1,e0,rfl⟩:=c2;have c6:=H.sy 1 (·.slc);obtain ⟨d5,c8,rfl⟩:=c6;refine Ar Z (call246 _) (MQ ks vs (λh q=>q.rd) (λh q=>q.rd) U U f e d c b5 c1 b9 b8) H ?_;rintro _ w _ ⟨d6,e3,e5,e4,rfl,rfl⟩ H;replace H:=H.l14;have a5:=H.sy 0 (·.slc);obtain ⟨o,r,rfl⟩:=a5;have a6:=H.sy 1 (·.slc);obtain ⟨n,k,rfl⟩:=a6;have a4:=H.sy 2 (·.slc);obtain ⟨p,j,rfl⟩:=a4;have a7:=H.sy 3 (·.slc);obtain ⟨s,m,rfl⟩:=a7;refine Za 3 [] H Z ?_;intro c4 w H;refine Za 0 [] H Z ?_;intro a9 w H;refine Z4 5 [1,0] H Z ?_;intro w H;replace H:=(H.pick 16 [1,0,2,3,4,5,6,7,8,9,10,11,12,13,14,15] Z).l16;refine AQ (Sep z (blk c4 [.bool a,.slice o f.length r,.slice n e.length k] 201::blk a9 [.bool a,.slice p d.length j,.slice s c.length m] 201::R)) 5 Z J (A4 H λw H'=>?_);have H:=H'.l16;refine AT [0,1] [0,3,1,3] [] (by exact H.pick 16 [0,1] Z) Z J Z (AE [2] J O (Am (Bj Z Z Z (Al 13 H Z Z Z Z (vs:=[.bool a,.slice o f.length r,.slice n e.length k]) Z (by simp[u8,u32,Value.oneCell']) J O (out:=[.bool a,.slice o f.length r,.slice n e.length k]) Z) ?_)));rintro w H;replace H:=H.l16;refine Ax (H.pick 16 [0,1] Z) (AE [3] J O (Am (Bj Z Z Z (Al 12 H Z Z Z Z (vs:=[.bool a,.slice p d.length j,.slice s c.length m]) Z (by simp[u8,u32,Value.oneCell']) J O (out:=[.bool a,.slice p d.length j,.slice s c.length m]) Z) ?_)));rintro w H;replace H:=H.l16;refine Ax (H.pick 16 [0,1] Z) (AT [4] [] [] (by exact H.pick 16 [0,1] Z) Z J Z (a_done J (gn (Zc 2 Z (Zl [13,3,12,3] H Z ?_)))));exact ⟨_,⟨.slice o f.length r,.slice n e.length k,.slice p d.length j,.slice s c.length m,Z,Z⟩,H.perm 16 [2,3,4,5,8,9,10,11] Z Z⟩
section
abbrev E:=Int×Nat
structure Nd where
 lf:Bool
 es:List E
inductive Pc where
 | nd (d:Nd)
 | dt (b:List UInt8)
abbrev Hm:=Nat->Option Pc
def Srt(es:List E):Prop:=es.Pairwise (λa b=>a.1<b.1)
structure Nd.Ok(d:Nd):Prop where
 srt:Srt d.es
 len:d.es.length<=8
 key:∀e∈d.es,0<=e.1/\e.1<1048576
 ne:d.lf=false->d.es≠[]
def vals(es:List E):List Nat:=es.map Prod.snd
def EO(o:Option Pc)(p:Nat):Nat:=
 match o with
 | some (.nd d)=>(vals d.es).count p
 | _=>0
def FE(N:Hm)(p:Nat):Nat->Nat
 | 0=>0
 | n+1=>FE N p n+EO (N n) p
theorem QF(N:Hm)(p a:Nat)(o:Option Pc):∀n,n<=a->FE (fup N a o) p n=FE N p n
 | 0,_=>rfl
 | n+1,h=>by simp only[FE];rw[QF N p a o n U,fup_ne _ _ U]
theorem FV(N:Hm)(p a:Nat)(o:Option Pc):∀n,a<n->FE (fup N a o) p n+EO (N a) p=FE N p n+EO o p
 | n+1,h=>by
  simp only[FE];rcases Aes a n with q|q
  ·have:=FV N p a o n q
   rw[fup_ne _ _ U];omega
  obtain rfl:a=n:=by omega
  rw[QF N p a o a (Aek _),BN];omega
theorem LZ(N:Hm)(p q:Nat):∀n,q<n->EO (N q) p<=FE N p n
 | n+1,h=>by
  simp only[FE];rcases Aes q n with r|r
  ·have:=LZ N p q n r;omega
  obtain rfl:q=n:=by omega
  omega
theorem QG(N:Hm)(p:Nat)(h:∀q,EO (N q) p<=1):∀n,FE N p n<=n
 | 0=>Aek _
 | n+1=>by have:=QG N p h n;have:=h n;simp only[FE];omega
theorem OM{d:Nd}:0<EO (some (.nd d)) m↔m∈vals d.es:=Agy

def nx:List E->Int->Int
 | [],hi=>hi
 | e::_,_=>e.1
def Sq(P:Nat->Int->Int->List E->Prop):List E->Int->List E->Prop
 | [],_,L=>L=[]
 | e::t,hi,L=>∃L1 L2,L=L1++L2/\P e.2 e.1 (nx t hi) L1/\Sq P t hi L2
def Tr(N:Hm):Nat->Nat->Int->Int->Nat->List E->Prop
 | 0,r,lo,hi,m,L=>∃es,N r=some (.nd ⟨true,es⟩)/\m<=es.length/\(∀e∈es,lo<=e.1/\e.1<hi)/\(Nd.mk true es).Ok/\L=es/\∀e∈es,∃b,N e.2=some (.dt b)
 | h+1,r,lo,hi,m,L=>∃es,N r=some (.nd ⟨false,es⟩)/\m<=es.length/\(∀e∈es,lo<=e.1/\e.1<hi)/\(Nd.mk false es).Ok/\Sq (λc a b L=>Tr N h c a b 4 L) es hi L
def Bd(N:Hm):Nat->List E->Int->List E->Prop
 | 0,es,_,L=>L=es/\∀e∈es,∃b,N e.2=some (.dt b)
 | h+1,es,hi,L=>Sq (λc a b L=>Tr N h c a b 4 L) es hi L
def B5(lo hi:Int)(es:List E):Prop:=∀e∈es,lo<=e.1/\e.1<hi
theorem Tr.iff{N:Hm}{h:Nat}{lo hi:Int}{L:List E}:Tr N h r lo hi m L↔∃es,N r=some (.nd ⟨decide (h=0),es⟩)/\m<=es.length/\B5 lo hi es/\(Nd.mk (decide (h=0)) es).Ok/\Bd N h es hi L:=by
 cases h<;>exact Ahw
structure TInv(n f:Nat)(N:Hm)(C:Nat->Nat)(R:List Nat):Prop where
 cnt:∀p,f<=p->p<n->C p=R.count p+FE N p n
 rin:∀p∈R,f<=p/\p<n
 nin:∀q c,N q=some c->f<=q/\q<n/\1<=C q
 nds:∀q d,N q=some (.nd d)->d.Ok/\(vals d.es).Nodup/\∀v∈vals d.es,f<=v/\v<n
 hg:∀q d,N q=some (.nd d)->∃h lo hi m L,Tr N h q lo hi m L
theorem Sq.imp{P Q:Nat->Int->Int->List E->Prop}{es:List E}{hi:Int}{L:List E}(h:Sq P es hi L)(a:∀e∈es,∀b L,P e.2 e.1 b L->Q e.2 e.1 b L):Sq Q es hi L:=by
 induction es generalizing L with
 | nil=>exact h
 | cons e t ih=>
  obtain ⟨L1,L2,d,f,g⟩:=h;exact ⟨L1,L2,d,a e O _ _ f,ih g (λi c=>a i (by simp[c]))⟩
theorem Tr.mono{N:Hm}{h:Nat}{lo hi:Int}{L:List E}(t:Tr N h r lo hi m L)(o:s<=lo)(g:hi<=p)(n:i<=m):Tr N h r s p i L:=by
 induction h generalizing r lo hi s p m i L with
 | zero=>
  obtain ⟨es,a,b,c,d,e⟩:=t;exact ⟨es,a,by omega,λx f=>by have:=c x f;omega,d,e⟩
 | succ h ih=>
  obtain ⟨es,a,b,c,d,e⟩:=t;refine ⟨es,a,by omega,λx f=>by have:=c x f;omega,d,?_⟩;clear a b c d
  induction es generalizing L with
  | nil=>exact e
  | cons x t ih2=>
   obtain ⟨L1,L2,j,l,k⟩:=e;refine ⟨L1,L2,j,?_,ih2 k⟩;refine ih l (Afo _) ?_ (Aek _);cases t<;>simp[nx,g]
theorem Tr.fup{N:Hm}{a:Nat}{o:Option Pc}(f:∀q d,N q=some (.nd d)->a∉vals d.es){h c:Nat}{lo hi:Int}{m:Nat}{L:List E}(j:c≠a)(t:Tr N h c lo hi m L):Tr (fup N a o) h c lo hi m L:=by
 induction h generalizing c lo hi m L with
 | zero=>
  obtain ⟨es,g,b,c',d,e1,e⟩:=t;refine ⟨es,by rw[fup_ne _ _ j];exact g,b,c',d,e1,λx i=>?_⟩;rw[fup_ne _ _ (λq=>f _ _ g (by rw[<-q];exact AeB i))];exact e x i
 | succ h ih=>
  obtain ⟨es,g,b,c',d,e⟩:=t;refine ⟨es,by rw[fup_ne _ _ j];exact g,b,c',d,e.imp λx i b L q=>ih (λk=>f _ _ g (by rw[<-k];exact AeB i)) q⟩
theorem Tr.node{N:Hm}{h:Nat}{lo hi:Int}{L:List E}(t:Tr N h r lo hi m L):∃d,N r=some (.nd d):=by
 obtain ⟨es,a,_⟩:=Tr.iff.1 t;exact ⟨_,a⟩

section
variable{n f:Nat}{N:Hm}{C:Nat->Nat}{R:List Nat}
theorem TInv.perm{R':List Nat}(I_:TInv n f N C R)(h:R.Perm R'):TInv n f N C R':=
 ⟨λp a b=>by rw[<-h.count_eq];exact I_.cnt p a b,λp hp=>I_.rin p (h.mem_iff.2 hp),I_.nin,I_.nds,I_.hg⟩
theorem TInv.pos(I_:TInv n f N C R){p:Nat}(h:p∈R):1<=C p:=by
 have:=I_.cnt p (I_.rin p h).1 (I_.rin p h).2;have:=Agy.2 h;omega
theorem TInv.posE(I_:TInv n f N C R){q p:Nat}{d:Nd}(h:N q=some (.nd d))(hp:p∈vals d.es):1<=C p:=by
 have hi:=(I_.nds q d h).2.2 p hp;have:=I_.cnt p hi.1 hi.2;have a:0<EO (N q) p:=by rw[h];exact OM.2 hp
 have:=LZ N p q n (I_.nin q _ h).2.1;omega
theorem TInv.noref(I_:TInv n f N C R){a:Nat}(h:C a<=R.count a){q:Nat}{d:Nd}(hq:N q=some (.nd d)):a∉vals d.es:=λb=>by
 have hi:=(I_.nds q d hq).2.2 a b;have:=I_.cnt a hi.1 hi.2;have c:0<EO (N q) a:=by rw[hq];exact OM.2 b
 have:=LZ N a q n (I_.nin q _ hq).2.1;omega
theorem TInv.bound(I_:TInv n f N C R){p:Nat}(b:f<=p)(c:p<n):C p<=R.length+n:=by
 rw[I_.cnt p b c];have g:=List.count_le_length (a:=p) (l:=R);have h:=QG N p (λq=>by
  unfold EO;split
  ·rename_i d e
   exact List.nodup_iff_count.1 (I_.nds q d e).2.1 p
  omega) n
 omega
theorem TInv.opens{a:Nat}{d:Nd}(I_:TInv n f N C (a::R))(k:C a=1)(hN:N a=some (.nd d)):TInv n f (fup N a none) C (a::(vals d.es++R))/\∀q d,N q=some (.nd d)->a∉vals d.es:=by
  have b:∀q d,N q=some (.nd d)->a∉vals d.es:=λq d hq=>I_.noref (by simp[k]) hq;refine ⟨⟨λp g i=>?_,λp hp=>?_,λq c hq=>?_,λq c hq=>?_,λq c hq=>?_⟩,b⟩
  · have:=I_.cnt p g i
    have j:=FV N p a none n (I_.nin a _ hN).2.1;rw[hN] at j;simp only[Afe,Aft] at this ⊢;simp only[EO] at j;omega
  · rcases Aep.1 hp with rfl|hp
    · exact I_.rin _ O
    · rcases Aer.1 hp with hp|hp
      · exact (I_.nds a d hN).2.2 p hp
      · exact I_.rin _ (by simp[hp])
  all_goals
    by_cases e:q=a
    · subst e;rw[BN] at hq;cases hq
    · rw[fup_ne _ _ e] at hq
      first
        | exact I_.nin q c hq
        | exact I_.nds q c hq
        | (obtain ⟨h,lo,hi,m,L,t⟩:=I_.hg q c hq
           exact ⟨h,lo,hi,m,L,t.fup b e⟩)
theorem TInv.close{a:Nat}{d:Nd}(I_:TInv n f N C (a::(vals d.es++R)))(u:C a=1)(hN:N a=none)(o:d.Ok)(g:(vals d.es).Nodup)
    (r:∃h lo hi m L,Tr (fup N a (some (.nd d))) h a lo hi m L):TInv n f (fup N a (some (.nd d))) C (a::R)/\∀q d,N q=some (.nd d)->a∉vals d.es:=by
  have b:∀q d,N q=some (.nd d)->a∉vals d.es:=λq d hq=>I_.noref (by simp;omega) hq;have i:=I_.rin a O;refine ⟨⟨λp j k=>?_,λp hp=>?_,λq c hq=>?_,λq c hq=>?_,λq c hq=>?_⟩,b⟩
  · have:=I_.cnt p j k
    have l:=FV N p a (some (.nd d)) n i.2;rw[hN] at l;simp only[Afe,Aft] at this ⊢;simp only[EO] at l;omega
  · rcases Aep.1 hp with rfl|hp
    · exact i
    · exact I_.rin _ (by simp[hp])
  all_goals
    by_cases e:q=a
    · subst e;rw[BN] at hq;cases hq
      first
        | exact ⟨i.1,i.2,by omega⟩
        | exact ⟨o,g,λv s=>I_.rin v (by simp[s])⟩
        | exact r
    · rw[fup_ne _ _ e] at hq
      first
        | exact I_.nin q c hq
        | exact I_.nds q c hq
        | (obtain ⟨h,lo,hi,m,L,t⟩:=I_.hg q c hq
           exact ⟨h,lo,hi,m,L,t.fup b e⟩)
theorem TInv.fresh{a:Nat}{d:Nd}(I_:TInv n f N C (vals d.es++R))(w:C a=0)(b:f<=a/\a<n)(r:d.Ok)(i:(vals d.es).Nodup)
    (s:∃h lo hi m L,Tr (fup N a (some (.nd d))) h a lo hi m L):N a=none/\TInv n f (fup N a (some (.nd d))) (fup C a 1) (a::R)/\∀q d,N q=some (.nd d)->a∉vals d.es:=by
  have hN:N a=none:=by
    cases e:N a with
    | none=>rfl
    | some c=>have:=(I_.nin a c e).2.2;omega
  have g:∀q d,N q=some (.nd d)->a∉vals d.es:=λq d hq=>I_.noref U hq;have o:=I_.cnt a b.1 b.2;refine ⟨hN,⟨λp j k=>?_,λp hp=>?_,λq c hq=>?_,λq c hq=>?_,λq c hq=>?_⟩,g⟩
  · have:=I_.cnt p j k
    have l:=FV N p a (some (.nd d)) n b.2;rw[hN] at l;simp only[Afe,Aft] at this o ⊢;simp only[EO] at l;by_cases e:p=a
    · subst e;rw[BN];simp;omega
    · rw[fup_ne _ _ e];have:(a==p)=false:=by simp[AfU e]
      rw[this];simp;omega
  · rcases Aep.1 hp with rfl|hp
    · exact b
    · exact I_.rin _ (by simp[hp])
  all_goals
    by_cases e:q=a
    · subst e;rw[BN] at hq;cases hq
      first
        | exact ⟨b.1,b.2,by simp[fup]⟩
        | exact ⟨r,i,λv u=>I_.rin v (by simp[u])⟩
        | exact s
    · rw[fup_ne _ _ e] at hq
      first
        | (rw[fup_ne _ _ e];exact I_.nin q c hq)
        | exact I_.nds q c hq
        | (obtain ⟨h,lo,hi,m,L,t⟩:=I_.hg q c hq
           exact ⟨h,lo,hi,m,L,t.fup g e⟩)
theorem TInv.freshD{a:Nat}{b:List UInt8}(I_:TInv n f N C R)(r:C a=0)(g:f<=a/\a<n):N a=none/\TInv n f (fup N a (some (.dt b))) (fup C a 1) (a::R)/\∀q d,N q=some (.nd d)->a∉vals d.es:=by
  have hN:N a=none:=by
    cases e:N a with
    | none=>rfl
    | some c=>have:=(I_.nin a c e).2.2;omega
  have i:∀q d,N q=some (.nd d)->a∉vals d.es:=λq d hq=>I_.noref U hq;have o:=I_.cnt a g.1 g.2;refine ⟨hN,⟨λp j k=>?_,λp hp=>?_,λq c hq=>?_,λq c hq=>?_,λq c hq=>?_⟩,i⟩
  · have:=I_.cnt p j k
    have l:=FV N p a (some (.dt b)) n g.2;rw[hN] at l;simp only[Afe] at this o ⊢;simp only[EO] at l;by_cases e:p=a
    · subst e;rw[BN];simp;omega
    · rw[fup_ne _ _ e];have:(a==p)=false:=by simp[AfU e]
      rw[this];simp;omega
  · rcases Aep.1 hp with rfl|hp
    · exact g
    · exact I_.rin _ hp
  all_goals
    by_cases e:q=a
    · subst e;rw[BN] at hq;cases hq<;>exact ⟨g.1,g.2,by simp[fup]⟩
    · rw[fup_ne _ _ e] at hq
      first
        | (rw[fup_ne _ _ e];exact I_.nin q c hq)
        | exact I_.nds q c hq
        | (obtain ⟨h,lo,hi,m,L,t⟩:=I_.hg q c hq
           exact ⟨h,lo,hi,m,L,t.fup i e⟩)
theorem TInv.ref{a:Nat}(I_:TInv n f N C R)(g:f<=a/\a<n):TInv n f N (fup C a (C a+1)) (a::R):=by
 refine ⟨λp b d=>?_,λp hp=>?_,λq c hq=>?_,I_.nds,I_.hg⟩
 ·have:=I_.cnt p b d
  simp only[Afe];by_cases e:p=a
  ·subst e;rw[BN];simp;omega
  rw[fup_ne _ _ e];have:(a==p)=false:=by simp[AfU e]
  rw[this];simp;omega
 ·rcases Aep.1 hp with rfl|hp
  ·exact g
  exact I_.rin _ hp
 have:=I_.nin q c hq;refine ⟨this.1,this.2.1,?_⟩;unfold fup;split<;>omega
theorem TInv.unref{a:Nat}(I_:TInv n f N C (a::R))(h:2<=C a):TInv n f N (fup C a (C a-1)) R:=by
 refine ⟨λp b d=>?_,λp hp=>I_.rin p (by simp[hp]),λq c hq=>?_,I_.nds,I_.hg⟩
 ·have:=I_.cnt p b d
  simp only[Afe] at this;by_cases e:p=a
  ·subst e;rw[BN];simp at this;omega
  rw[fup_ne _ _ e];have g:(a==p)=false:=by simp[AfU e]
  rw[g] at this;simpa using this
 have:=I_.nin q c hq;refine ⟨this.1,this.2.1,?_⟩;unfold fup;split<;>omega
theorem TInv.drop{a:Nat}(I_:TInv n f N C (a::R))(h:C a=1)(hN:∀d,N a≠some (.nd d)):TInv n f (fup N a none) (fup C a 0) R/\∀q d,N q=some (.nd d)->a∉vals d.es:=by
  have b:∀q d,N q=some (.nd d)->a∉vals d.es:=λq d hq=>I_.noref (by simp[h]) hq;have r:=I_.rin a O;have k:∀p,EO (N a) p=0:=λp=>by
    unfold EO;split
    · rename_i d l;exact absurd l (hN d)
    · rfl
  refine ⟨⟨λp g i=>?_,λp hp=>I_.rin p (by simp[hp]),λq c hq=>?_,λq c hq=>?_,λq c hq=>?_⟩,b⟩
  · have:=I_.cnt p g i
    have j:=FV N p a none n r.2;rw[k p] at j;simp only[EO] at j;simp only[Afe] at this;by_cases e:p=a
    · subst e;rw[BN];simp at this;omega
    · rw[fup_ne _ _ e];have o:(a==p)=false:=by simp[AfU e]
      rw[o] at this;simp at this;omega
  all_goals
    by_cases e:q=a
    · subst e;rw[BN] at hq;cases hq
    · rw[fup_ne _ _ e] at hq
      first
        | (rw[fup_ne _ _ e];exact I_.nin q c hq)
        | exact I_.nds q c hq
        | (obtain ⟨h,lo,hi,m,L,t⟩:=I_.hg q c hq
           exact ⟨h,lo,hi,m,L,t.fup b e⟩)
end

def putE(k:Int)(v:Nat):List E->List E
 | []=>[(k,v)]
 | e::t=>if e.1<k then e::putE k v t else if e.1=k then (k,v)::t else (k,v)::e::t
def BW(k:Int)(es:List E):List E:=es.filter (λe=>decide (e.1≠k))
def CE(k:Int)(es:List E):Prop:=∃v,(k,v)∈es
theorem Srt.cons{e:E}{t:List E}:Srt (e::t)↔(∀x∈t,e.1<x.1)/\Srt t:=List.pairwise_cons
theorem Srt.app{A B:List E}:Srt (A++B)↔Srt A/\Srt B/\∀a∈A,∀b∈B,a.1<b.1:=List.pairwise_append
theorem putE_mem{es:List E}(h:Srt es)(x:E):x∈putE s m es↔x=(s,m)\/(x∈es/\x.1≠s):=by
 induction es with
 | nil=>simp[putE]
 | cons e t ih=>
  obtain ⟨d,f⟩:=Srt.cons.1 h;simp only[putE];split
  ·rename_i g
   rw[Aep,ih f,Aep];constructor
   ·rintro (rfl|rfl|⟨a,b⟩)
    ·exact .inr ⟨.inl Z,by omega⟩
    ·exact .inl Z
    exact .inr ⟨.inr a,b⟩
   rintro (rfl|⟨rfl|a,b⟩)
   ·exact .inr (.inl Z)
   ·exact .inl Z
   exact .inr (.inr ⟨a,b⟩)
  split
  ·rename_i i c
   rw[Aep,Aep];constructor
   ·rintro (rfl|a)
    ·exact .inl Z
    exact .inr ⟨.inr a,by have:=d x a;omega⟩
   rintro (rfl|⟨rfl|a,b⟩)
   ·exact .inl Z
   ·exact absurd c b
   exact .inr a
  rename_i i c;rw[Aep,Aep];constructor
  ·rintro (rfl|rfl|a)
   ·exact .inl Z
   ·exact .inr ⟨.inl Z,c⟩
   exact .inr ⟨.inr a,by have:=d x a;omega⟩
  rintro (rfl|⟨rfl|a,b⟩)
  ·exact .inl Z
  ·exact .inr (.inl Z)
  exact .inr (.inr a)
theorem Kk{k:Int}{v:Nat}{es:List E}(h:Srt es):Srt (putE k v es):=by
 induction es with
 | nil=>simp[putE,Srt]
 | cons e t ih=>
  obtain ⟨c,d⟩:=Srt.cons.1 h;simp only[putE];split
  ·refine Srt.cons.2 ⟨λx b=>?_,ih d⟩
   rcases (putE_mem d x).1 b with rfl|⟨a,_⟩
   ·assumption
   exact c x a
  split
  ·exact Srt.cons.2 ⟨λx b=>by have:=c x b;dsimp only;omega,d⟩
  refine Srt.cons.2 ⟨λx b=>?_,h⟩;rcases Aep.1 b with rfl|b
  ·dsimp only;omega
  have:=c x b;dsimp only;omega
theorem putE_lt{A:List E}(B:List E)(h:∀e∈A,e.1<s):putE s m (A++B)=A++putE s m B:=by
 induction A with
 | nil=>rfl
 | cons e t ih=>simp only[AfD,putE];rw[if_pos (h e O),ih (λx a=>h x (by simp[a]))]
theorem MR{B:List E}(h:∀e∈B,s<e.1):putE s m B=(s,m)::B:=by
 cases B with
 | nil=>rfl
 | cons e t=>have:=h e O;simp only[putE];rw[if_neg U,if_neg U]
theorem QH{A:List E}{B:List E}(h:∀e∈B,s<e.1):putE s m (A++B)=putE s m A++B:=by
 induction A with
 | nil=>simp only[AeS];rw[MR h];rfl
 | cons e t ih=>
  simp only[AfD,putE];split
  ·rw[ih];rfl
  split<;>rfl
theorem putE_new{A B:List E}(a:∀e∈A,e.1<t)(b:∀e∈B,t<e.1):putE t m (A++B)=A++(t,m)::B:=by
 rw[putE_lt B a,MR b]
theorem Ee{A:List E}{B:List E}(a:∀e∈A,e.1<t):putE t m (A++(t,i)::B)=A++(t,m)::B:=by
 rw[putE_lt _ a];simp[putE]
theorem Kl(k:Int)(A B:List E):BW k (A++B)=BW k A++BW k B:=AfP ..
theorem GB{A:List E}(h:∀e∈A,e.1≠t):BW t A=A:=by
 refine Agw.2 (λe a=>decide_eq_true (h e a))
theorem L6{A B:List E}(h:Srt (A++(t,m)::B)):BW t (A++(t,m)::B)=A++B:=by
 obtain ⟨f,b,c⟩:=Srt.app.1 h;obtain ⟨d,g⟩:=Srt.cons.1 b;rw[Kl,GB (λe a=>by have:=c e a (t,m) O;dsimp only at this;omega)];congr 1;have:BW t ((t,m)::B)=BW t B:=by simp[BW]
 rw[this,GB (λe a=>by have:=d e a;dsimp only at this;omega)]
theorem key_split{es:List E}(h:Srt es)(k:Int):(∃A v B,es=A++(k,v)::B/\∀e∈A,e.1<k)\/(¬CE k es/\∃A B,es=A++B/\(∀e∈A,e.1<k)/\∀e∈B,k<e.1):=by
 induction es with
 | nil=>exact .inr ⟨by simp[CE],[],[],Z,by simp,by simp⟩
 | cons e t ih=>
  obtain ⟨f,i⟩:=Srt.cons.1 h;rcases Int.lt_trichotomy e.1 k with q|q|q
  ·rcases ih i with ⟨A,v,B,rfl,d⟩|⟨d,A,B,rfl,g,j⟩
   ·exact .inl ⟨e::A,v,B,Z,λx b=>by rcases Aep.1 b with rfl|b;exact q;exact d x b⟩
   refine .inr ⟨?_,e::A,B,Z,λx b=>by rcases Aep.1 b with rfl|b;exact q;exact g x b,j⟩;rintro ⟨v,c⟩;rcases Aep.1 c with rfl|c
   ·dsimp only at q;omega
   exact d ⟨v,c⟩
  ·obtain ⟨a,v⟩:=e
   dsimp only at q;subst q;exact .inl ⟨[],v,t,Z,by simp⟩
  refine .inr ⟨?_,[],e::t,Z,by simp,λx b=>?_⟩
  ·rintro ⟨v,c⟩
   rcases Aep.1 c with rfl|c
   ·dsimp only at q;omega
   have:=f _ c;dsimp only at this;omega
  rcases Aep.1 b with rfl|b
  ·exact q
  have:=f x b;omega
theorem TL(A B:List E)(hi:Int):nx (A++B) hi=nx A (nx B hi):=by cases A<;>rfl
theorem Adf{es:List E}(h:t<=s):nx es t<=nx es s:=by cases es<;>simp[nx,h]
theorem Sq.app{P:Nat->Int->Int->List E->Prop}{A B:List E}{hi:Int}{L:List E}:Sq P (A++B) hi L↔∃L1 L2,L=L1++L2/\Sq P A (nx B hi) L1/\Sq P B hi L2:=by
 induction A generalizing L with
 | nil=>
  simp only[AeS,Sq];exact ⟨λh=>⟨[],L,Z,Z,h⟩,λ⟨L1,L2,f,a,b⟩=>by subst f a;exact b⟩
 | cons e t ih=>
  simp only[AfD,Sq];constructor
  ·rintro ⟨L1,L2,rfl,a,b⟩
   obtain ⟨M1,M2,rfl,c,d⟩:=ih.1 b;exact ⟨L1++M1,M2,by simp,⟨L1,M1,Z,by rw[<-TL];exact a,c⟩,d⟩
  rintro ⟨_,M2,rfl,⟨L1,M1,rfl,a,c⟩,d⟩;exact ⟨L1,M1++M2,by simp,by rw[TL];exact a,ih.2 ⟨M1,M2,Z,c,d⟩⟩
theorem Bd.app{N:Hm}{h:Nat}{A B:List E}{hi:Int}{L:List E}:Bd N h (A++B) hi L↔∃L1 L2,L=L1++L2/\Bd N h A (nx B hi) L1/\Bd N h B hi L2:=by
 cases h with
 | zero=>
  constructor
  ·rintro ⟨rfl,h⟩
   exact ⟨A,B,Z,⟨Z,λe a=>h e (by simp[a])⟩,⟨Z,λe a=>h e (by simp[a])⟩⟩
  rintro ⟨_,_,rfl,⟨rfl,b⟩,⟨rfl,c⟩⟩;refine ⟨Z,λe a=>?_⟩;rcases Aer.1 a with a|a
  ·exact b e a
  exact c e a
 | succ h=>exact Sq.app
theorem Bd.hi{N:Hm}{h:Nat}{es:List E}{hi a:Int}{L:List E}(b:Bd N h es hi L)(c:hi<=a):Bd N h es a L:=by
 cases h with
 | zero=>exact b
 | succ h=>
  induction es generalizing L with
  | nil=>exact b
  | cons e t ih=>
   obtain ⟨L1,L2,d,f,g⟩:=b;exact ⟨L1,L2,d,f.mono (Afo _) (Adf c) (Aek _),ih g⟩
theorem Bd.fup{N:Hm}{a:Nat}{o:Option Pc}(f:∀q d,N q=some (.nd d)->a∉vals d.es){h:Nat}{es:List E}{hi:Int}{L:List E}(g:a∉vals es)(b:Bd N h es hi L):Bd (fup N a o) h es hi L:=by
 cases h with
 | zero=>exact ⟨b.1,λe c=>by rw[fup_ne _ _ (λq=>g (by rw[<-q];exact AeB c))];exact b.2 e c⟩
 | succ h=>exact Sq.imp b λe c _ _ q=>q.fup f (λq=>g (by rw[<-q];exact AeB c))
theorem Sq.srt{P:Nat->Int->Int->List E->Prop}{es:List E}{hi:Int}{L:List E}(h:Sq P es hi L)(hs:Srt es)(c:∀e∈es,e.1<hi)(d:∀e∈es,∀b L,P e.2 e.1 b L->Srt L/\B5 e.1 b L):Srt L/\B5 (nx es hi) hi L/\nx es hi<=hi:=by
 induction es generalizing L with
 | nil=>subst h;exact ⟨by simp[Srt],by simp[B5],Afo _⟩
 | cons e t ih=>
  obtain ⟨L1,L2,rfl,l,j⟩:=h;obtain ⟨k,g⟩:=Srt.cons.1 hs;obtain ⟨a1,a2,a3⟩:=ih j g (λx a=>c x (by simp[a])) (λx a=>d x (by simp[a]));obtain ⟨m,f⟩:=d e O _ _ l;have n:e.1<=nx t hi:=by
   cases t with
   | nil=>have:=c e O;simp only[nx];omega
   | cons x t=>have:=k x O;simp only[nx];omega
  refine ⟨Srt.app.2 ⟨m,a1,λx a y i=>by have:=f x a;have:=a2 y i;omega⟩,λx a=>?_,by have:=c e O;simp only[nx];omega⟩;simp only[nx];rcases Aer.1 a with a|a
  ·have:=f x a;omega
  have:=a2 x a;omega
theorem Tr.srt{N:Hm}{h r:Nat}{lo hi:Int}{m:Nat}{L:List E}(t:Tr N h r lo hi m L):Srt L/\B5 lo hi L:=by
 induction h generalizing r lo hi m L with
 | zero=>
  obtain ⟨es,_,_,a,c,rfl,_⟩:=t;exact ⟨c.srt,a⟩
 | succ h ih=>
  obtain ⟨es,_,_,a,c,i⟩:=t;have:=Sq.srt i c.srt (λe f=>(a e f).2) (λe f b L q=>ih q);refine ⟨this.1,λx g=>?_⟩;have d:=this.2.1 x g
  cases es with
  | nil=>exact absurd Z (c.ne Z)
  | cons e t=>have:=a e O;simp only[nx] at d;omega
theorem Tr.uniq{N:Hm}{h h':Nat}{lo hi:Int}{L L':List E}(t:Tr N h r lo hi m L)(t':Tr N h' r s p i L'):h=h'/\L=L':=by
 induction h generalizing h' r lo hi s p m i L L' with
 | zero=>
  obtain ⟨es,g,_,_,_,rfl,_⟩:=t
  cases h' with
  | zero=>
   obtain ⟨f,d,_,_,_,rfl,_⟩:=t';rw[g] at d;cases d;exact ⟨Z,Z⟩
  | succ h'=>
   obtain ⟨f,d,_⟩:=t';rw[g] at d;cases d
 | succ h ih=>
  obtain ⟨es,g,_,_,k,o⟩:=t
  cases h' with
  | zero=>
   obtain ⟨f,d,_⟩:=t';rw[g] at d;cases d
  | succ h'=>
   obtain ⟨f,d,_,_,_,j⟩:=t';rw[g] at d;cases d;have key:∀es (L L':List E),Sq (λc a b L=>Tr N h c a b 4 L) es hi L->Sq (λc a b L=>Tr N h' c a b 4 L) es p L'->(es≠[]->h=h')/\L=L':=by
    intro es
    induction es with
    | nil=>intro L L' a b;exact ⟨λq=>absurd Z q,a.trans b.symm⟩
    | cons e t ih2=>
     rintro _ _ ⟨L1,L2,rfl,a2,a3⟩ ⟨M1,M2,rfl,u,n⟩;obtain ⟨l,rfl⟩:=ih a2 u;obtain ⟨_,rfl⟩:=ih2 _ _ a3 n;exact ⟨λ_=>l,Z⟩
   obtain ⟨a,b⟩:=key es L L' o j;exact ⟨by rw[a (k.ne Z)],b⟩

def chI(es:List E)(k:Int):Nat:=(es.takeWhile λe=>decide (e.1<=k)).length-1
theorem GZ{es:List E}(h:Srt es)(k:Int):∃A B,es=A++B/\(es.takeWhile λe=>decide (e.1<=k))=A/\(∀e∈A,e.1<=k)/\∀e∈B,k<e.1:=by
 induction es with
 | nil=>exact ⟨[],[],Z,Z,by simp,by simp⟩
 | cons e t ih=>
  obtain ⟨f,g⟩:=Srt.cons.1 h;by_cases q:e.1<=k
  ·obtain ⟨A,B,rfl,a,b,c⟩:=ih g
   refine ⟨e::A,B,Z,?_,λx d=>?_,c⟩
   ·rw[List.takeWhile_cons,if_pos (decide_eq_true q),a]
   rcases Aep.1 d with rfl|d
   ·exact q
   exact b x d
  refine ⟨[],e::t,Z,?_,by simp,λx d=>?_⟩
  ·rw[List.takeWhile_cons,if_neg (by simpa using q)]
  rcases Aep.1 d with rfl|d
  ·omega
  have:=f x d;omega
theorem PF{es:List E}(h:Srt es)(b:es≠[])(k:Int):∃A e B,es=A++e::B/\A.length=chI es k/\(A=[]\/e.1<=k)/\(∀x∈A,x.1<e.1)/\∀x∈B,k<x.1/\e.1<x.1:=by
 obtain ⟨A,B,e1,e2,c,d⟩:=GZ h k;unfold chI;rw[e2];rcases List.eq_nil_or_concat A with rfl|⟨A',e,rfl⟩
 ·obtain ⟨e,t,rfl⟩:=AfH b
  simp only[AeS] at e1;subst e1;exact ⟨[],e,t,Z,Z,.inl Z,by simp,λx a=>⟨d x (by simp[a]),(Srt.cons.1 h).1 x a⟩⟩
 subst e1;rw[List.concat_eq_append] at h c ⊢;rw[Aej] at h;obtain ⟨_,f,g⟩:=Srt.app.1 h;refine ⟨A',e,B,by simp,by simp,.inr (c e O),λx a=>g x a e O,λx a=>⟨d x a,(Srt.cons.1 f).1 x a⟩⟩
theorem XC{B:List E}(h:∀x∈B,p<x.1)(a:p<s):p<nx B s:=by
 cases B with
 | nil=>exact a
 | cons e t=>exact h e O
theorem RT{B:List E}(h:∀x∈B,x.1<s):nx B s<=s:=by
 cases B with
 | nil=>exact Afo _
 | cons e t=>exact AgV (h e O)
theorem Sq.at{P:Nat->Int->Int->List E->Prop}{A B:List E}{e:E}{hi:Int}{L:List E}(h:Sq P (A++e::B) hi L):∃L0 Lc L2,L=L0++(Lc++L2)/\Sq P A e.1 L0/\P e.2 e.1 (nx B hi) Lc/\Sq P B hi L2:=by
 obtain ⟨L0,L3,rfl,a,L1,L2,rfl,b,c⟩:=Sq.app.1 h;exact ⟨L0,L1,L2,Z,a,b,c⟩
theorem Sq.mk{P:Nat->Int->Int->List E->Prop}{A B:List E}{e:E}{hi:Int}{L0 Lc L2:List E}(a:Sq P A e.1 L0)(b:P e.2 e.1 (nx B hi) Lc)(c:Sq P B hi L2):Sq P (A++e::B) hi (L0++(Lc++L2)):=
 Sq.app.2 ⟨L0,_,Z,a,Lc,L2,Z,b,c⟩
theorem Sq.nilK{P:Nat->Int->Int->List E->Prop}{A:List E}{a b:Int}{L:List E}(h:Sq P A a L)(q:A=[]\/a=b):Sq P A b L:=by
 rcases q with rfl|rfl
 ·exact h
 exact h
theorem Sq.sides{N:Hm}{h:Nat}{A B:List E}{e:E}{hi:Int}{L0 L2:List E}{k:Int}(hs:Srt (A++e::B))(p:∀x∈A++e::B,x.1<hi)(f:Sq (λc a b L=>Tr N h c a b 4 L) A e.1 L0)(l:Sq (λc a b L=>Tr N h c a b 4 L) B hi L2)
  (g:A=[]\/e.1<=k)(j:∀x∈B,k<x.1)(n:k<hi):(∀x∈L0,x.1<k)/\∀x∈L2,k<x.1:=by
 obtain ⟨m,i,o⟩:=Srt.app.1 hs;have a1:=Sq.srt f m (λx d=>o x d e O) (λ_ _ _ _ q=>Tr.srt q);have a3:=Sq.srt l (Srt.cons.1 i).2 (λx d=>p x (by simp[d])) (λ_ _ _ _ q=>Tr.srt q);refine ⟨λx d=>?_,λx d=>?_⟩
 ·rcases g with rfl|g
  ·simp only[Sq] at f;subst f;simp at d
  have:=a1.2.1 x d;omega
 have:=a3.2.1 x d;have:=XC j n;omega

theorem ON{es:List E}(hs:Srt es)(h8:es.length=8){v:Nat}(j:¬CE p es):
  ∃a b,putE p v es=a++b/\4<=a.length/\a.length<=5/\4<=b.length/\b.length<=5/\(nx (es.drop 4) 0<=p->a=es.take 4/\b=putE p v (es.drop 4))/\(p<nx (es.drop 4) 0->a=putE p v (es.take 4)/\b=es.drop 4):=by
 have d:=AeP 4 es;have g:=hs;rw[<-d] at g;obtain ⟨m,h,z⟩:=Srt.app.1 g;have c:∀xs:List E,Srt xs->¬CE p xs->(putE p v xs).length=xs.length+1:=λxs s q=>by
  rcases key_split s p with ⟨A,w,B,rfl,_⟩|⟨_,A,B,rfl,l,u⟩
  ·exact absurd ⟨w,by simp⟩ q
  rw[putE_new l u];simp;omega
 have o:¬CE p (es.take 4):=λ⟨w,i⟩=>j ⟨w,Afh i⟩;have n:¬CE p (es.drop 4):=λ⟨w,i⟩=>j ⟨w,Afw i⟩;have l1:=c _ m o;have l2:=c _ h n;have l3:(es.take 4).length=4:=by rw[Aez];omega
 have k:(es.drop 4).length=4:=by rw[AeQ];omega
 obtain ⟨y,t,e⟩:∃y t,es.drop 4=y::t:=AfH (by intro q;rw[q] at k;simp at k);by_cases q:nx (es.drop 4) 0<=p
 ·refine ⟨es.take 4,putE p v (es.drop 4),?_,by omega,by omega,by omega,by omega,λ_=>⟨Z,Z⟩,λr=>absurd q U⟩
  rw[<-putE_lt _ (λx f=>?_),d];rw[e] at q;simp only[nx] at q;have:=z x f y (by rw[e];simp);omega
 refine ⟨putE p v (es.take 4),es.drop 4,?_,by omega,by omega,by omega,by omega,λr=>absurd r q,λ_=>⟨Z,Z⟩⟩;rw[<-QH (λx f=>?_),d];rw[e] at q f h;simp only[nx] at q;rcases Aep.1 f with rfl|f
 ·omega
 have:=(Srt.cons.1 h).1 x f;omega
theorem OO{a b:List E}(hs:Srt (a++b))(d:B5 s p (a++b))(h:a≠[])(g:b≠[]):B5 s (nx b p) a/\B5 (nx b p) p b/\s<nx b p/\nx b p<p:=by
 obtain ⟨i,f,e⟩:=Srt.app.1 hs;obtain ⟨y,t,rfl⟩:=AfH g;obtain ⟨x,u,rfl⟩:=AfH h;simp only[nx];refine ⟨λz c=>⟨(d z (Agb _ c)).1,e z c y O⟩,λz c=>⟨?_,(d z (Agm _ c)).2⟩,?_,(d y O).2⟩
 ·rcases Aep.1 c with rfl|c
  ·exact Afo _
  exact AgV ((Srt.cons.1 f).1 z c)
 have:=e x O y O;have:=(d x O).1;omega
end
variable{X:List E}
section
variable{Tb:Ai}
abbrev kL(es:List E):List Int:=es.map Prod.fst
abbrev vL(es:List E):List Int:=es.map λe=>(e.2:Int)
def Fe(d:Nd):Pg:=⟨if d.lf then 4 else 3,Hg d.lf (kL d.es) (vL d.es)⟩
def L7:Pc->Pg
 | .nd d=>Fe d
 | .dt b=>⟨5,b⟩
theorem JF{d:Nd}(h:d.es.length<=8):(Fe d).Ok:=by
 refine ⟨?_,YI O (by simpa using h)⟩;unfold Fe;dsimp only;split<;>omega
structure TS where
 N:Hm
 C:Nat->Nat
 F:Nat->Bool
 k:Nat
structure TB where
 N:Hm
 C:Nat->Nat
 R:List Nat
abbrev TT:=Option (TS×List Nat)
structure Rel(n:Nat)(M:Nat->Pg)(N:Hm)(C:Nat->Nat)(R:List Nat):Prop where
 m:∀p c,N p=some c->M p=L7 c/\(L7 c).Ok
 i:TInv n (manyN n+1) N C R
def trA(Tb:Ai)(pp mb n:Nat)(o:TB):TT->Ai
 | none=>λh=>∃M0,Rel n M0 o.N o.C o.R/\poA Tb pp mb n M0 o.C none h
 | some s=>λh=>∃M0 M,(Rel n M0 o.N o.C o.R/\Rel n M s.1.N s.1.C s.2)/\poA Tb pp mb n M0 o.C (some ⟨M,s.1.C,s.1.F,s.1.k⟩) h
def Dl(o:TB):TT->Hm
 | none=>o.N
 | some s=>s.1.N
def curC(o:TB):TT->Nat->Nat
 | none=>o.C
 | some s=>s.1.C
def We(n:Nat)(o:TB):TT->Nat->Bool
 | none=>AX n o.C
 | some s=>s.1.F
def CV(o:TB):TT->List Nat
 | none=>o.R
 | some s=>s.2
variable{z w:World}{Γ:List Ai}{pp mb n:Nat}{o:TB}{t t':TS}{R:List Nat}{T:TT}
structure TrK(n:Nat)(o:TB)(T:TT):Prop where
 hn:16<=n/\n<=1024
 i:TInv n (manyN n+1) (Dl o T) (curC o T) (CV o T)
 one:∀p,p<=manyN n->curC o T p=1
 fr:∀p,We n o T p=true->p<n/\curC o T p=0/\manyN n<p
theorem trA.k{h:Hp}(a:trA Tb pp mb n o T h):TrK n o T:=by
 cases T with
 | none=>
  obtain ⟨M0,c,a⟩:=a;have d:=a.hn;refine ⟨d,c.i,a.c0.2,λp hp=>?_⟩;have b:AX n o.C p=true:=hp;simp[AX] at b;refine ⟨b.1,b.2,?_⟩;rcases Aes (manyN n) p with q|q
  ·exact q
  have:=a.c0.2 p q;omega
 | some s=>
  obtain ⟨M0,M,c,a⟩:=a;exact ⟨a.hn,c.2.i,a.k.one,a.k.free⟩
theorem trA.perm{R':List Nat}{h:Hp}(hp:R.Perm R')(a:trA Tb pp mb n o (some (t,R)) h):trA Tb pp mb n o (some (t,R')) h:=by
 obtain ⟨M0,M,b,a⟩:=a;exact ⟨M0,M,⟨b.1,⟨b.2.m,b.2.i.perm hp⟩⟩,a⟩
theorem trA.opens{a:Nat}{d:Nd}{h:Hp}(x:trA Tb pp mb n o (some (t,a::R)) h)(f:t.C a=1)(hN:t.N a=some (.nd d)):trA Tb pp mb n o (some ({t with N:=fup t.N a none},a::(vals d.es++R))) h:=by
 obtain ⟨M0,M,b,x⟩:=x;refine ⟨M0,M,⟨b.1,⟨λp c hp=>?_,(b.2.i.opens f hN).1⟩⟩,x⟩;have hp:fup t.N a none p=some c:=hp;by_cases e:p=a
 ·subst e;rw[BN] at hp;cases hp
 rw[fup_ne _ _ e] at hp;exact b.2.m p c hp
theorem Sep.tr1(H:Sep z (trA Tb pp mb n o (some (t,R))::Γ) w):∃x:(Nat->Pg)×(Nat->Pg),(Rel n x.1 o.N o.C o.R/\Rel n x.2 t.N t.C R)/\Sep z (poA Tb pp mb n x.1 o.C (some ⟨x.2,t.C,t.F,t.k⟩)::Γ) w:=by
 obtain ⟨⟨x,hp⟩,b⟩:=H.ex 0 (σ:= {x:(Nat->Pg)×(Nat->Pg) // Rel n x.1 o.N o.C o.R/\Rel n x.2 t.N t.C R}) (B:=λx=>poA Tb pp mb n x.1.1 o.C (some ⟨x.1.2,t.C,t.F,t.k⟩)) Z (λh q=>by
  obtain ⟨M0,M,c,a⟩:=q;exact ⟨⟨(M0,M),c⟩,a⟩)
 exact ⟨x,hp,b⟩
theorem Sep.toTr1{M0 M:Nat->Pg}{k:Nat}(H:Sep z (poA Tb pp mb n M0 o.C (some ⟨M,C,F,k⟩)::Γ) w)(c:Rel n M0 o.N o.C o.R){N:Hm}(b:Rel n M N C R):Sep z (trA Tb pp mb n o (some (⟨N,C,F,k⟩,R))::Γ) w:=
 H.mono 0 (B:=trA Tb pp mb n o (some (⟨N,C,F,k⟩,R))) Z (λh a=>⟨M0,M,⟨c,b⟩,a⟩)
theorem Sep.tr0(H:Sep z (trA Tb pp mb n o none::Γ) w):∃M0,Rel n M0 o.N o.C o.R/\Sep z (poA Tb pp mb n M0 o.C none::Γ) w:=by
 obtain ⟨⟨x,hp⟩,b⟩:=H.ex 0 (σ:= {x:Nat->Pg // Rel n x o.N o.C o.R}) (B:=λx=>poA Tb pp mb n x.1 o.C none) Z (λh q=>by
  obtain ⟨M0,c,a⟩:=q;exact ⟨⟨M0,c⟩,a⟩)
 exact ⟨x,hp,b⟩
theorem Sep.toTr0{M0:Nat->Pg}(H:Sep z (poA Tb pp mb n M0 o.C none::Γ) w)(b:Rel n M0 o.N o.C o.R):Sep z (trA Tb pp mb n o none::Γ) w:=
 H.mono 0 (B:=trA Tb pp mb n o none) Z (λh a=>⟨M0,b,a⟩)
theorem ZA{pp mb n:Nat}{o:TB}:Aj 120 [Y pp] [trA Tb pp mb n o none] (λv G=>v=I 0/\G=[trA Tb pp mb n o (some (⟨o.N,o.C,AX n o.C,0⟩,o.R))]):=by
 intro z R w H;obtain ⟨M0,a,H⟩:=H.tr0;refine Ret.mono (Cn.at (Zq pp mb n M0 o.C) H 1 [0] Z Z) ?_;rintro v c ⟨Γ',⟨rfl,rfl⟩,b⟩;exact ⟨_,⟨Z,Z⟩,Sep.toTr1 (C:=o.C) (F:=AX n o.C) (k:=0) (M:=M0) b a a⟩
theorem ZB{pp mb n:Nat}{o:TB}{s:TS×List Nat}:Aj 121 [Y pp] [trA Tb pp mb n o (some s)] (λv G=>v=.tuple #[]/\G=[trA Tb pp mb n o none]):=by
 obtain ⟨t,R⟩:=s;intro z R w H;obtain ⟨⟨M0,M⟩,b,H⟩:=H.tr1;refine Ret.mono (Cn.at (Zs pp mb n M0 o.C ⟨M,t.C,t.F,t.k⟩) H 1 [0] Z Z) ?_;rintro v c ⟨Γ',⟨rfl,rfl⟩,a⟩;exact ⟨_,⟨Z,Z⟩,Sep.toTr0 a b.1⟩
theorem Wf{pp mb n:Nat}{o:TB}(t:TS)(R:List Nat)(b:t.k+manyN n<=40)(a:mb<=1000000000):Aj 170 [Y pp] [trA Tb pp mb n o (some (t,R))] (λv G=>v=I 0/\G=[trA Tb pp (mb+2) n ⟨t.N,t.C,R⟩ none]):=by
 intro z R w H;obtain ⟨⟨M0,M⟩,d,H⟩:=H.tr1;refine Ret.mono (Cn.at (V6 pp mb n M0 o.C ⟨M,t.C,t.F,t.k⟩ b a) H 1 [0] Z Z) ?_;rintro v e ⟨Γ',⟨rfl,rfl⟩,c⟩;exact ⟨_,⟨Z,Z⟩,Sep.toTr0 (o:=⟨t.N,t.C,_⟩) c d.2⟩
theorem Sep.trP(H:Sep z (trA Tb pp mb n o T::Γ) w):∃(M0:Nat->Pg) (u:Option PoT),(poC o.C u=curC o T/\XA n o.C u=We n o T/\u.isSome=T.isSome/\(∀p c,Dl o T p=some c->poM M0 u p=L7 c/\(L7 c).Ok))/\Sep z (poA Tb pp mb n M0 o.C u::Γ) w/\∀Γ' b,Sep z (poA Tb pp mb n M0 o.C u::Γ') b->Sep z (trA Tb pp mb n o T::Γ') b:=by
 cases T with
 | none=>
  obtain ⟨M0,a,H⟩:=H.tr0;exact ⟨M0,none,⟨Z,Z,Z,a.m⟩,H,λ_ b d=>d.toTr0 a⟩
 | some s=>
  obtain ⟨t,R⟩:=s;obtain ⟨⟨M0,M⟩,a,H⟩:=H.tr1;exact ⟨M0,some ⟨M,t.C,t.F,t.k⟩,⟨Z,Z,Z,a.2.m⟩,H,λ_ b d=>Sep.toTr1 (C:=t.C) (F:=t.F) (k:=t.k) d a.1 a.2⟩
theorem L8(pp mb n:Nat)(o:TB){T:TT}(p:Nat)(hp:p<n):Aj 138 [Y pp,I (p:Int)] [trA Tb pp mb n o T] (λv G=>v=I (curC o T p:Int)/\G=[trA Tb pp mb n o T]):=by
 intro z R w H;obtain ⟨M0,u,⟨b,_⟩,H,a⟩:=H.trP;refine Ret.mono (Cn.at (Zt pp mb n M0 o.C u p hp) H 1 [0] Z Z) ?_;rintro v d ⟨Γ',⟨rfl,rfl⟩,c⟩;exact ⟨_,⟨by rw[b],Z⟩,a _ _ c⟩
theorem AbU{pp mb n:Nat}{o:TB}(T:TT):Aj 23 [Y pp] [trA Tb pp mb n o T] (λv G=>v=I (cnt (We n o T) 0 1024:Int)/\G=[trA Tb pp mb n o T]):=by
 intro z R w H;obtain ⟨M0,u,⟨_,b,_⟩,H,a⟩:=H.trP;refine Ret.mono (Cn.at (AbR pp mb n M0 o.C u) H 1 [0] Z Z) ?_;rintro v d ⟨Γ',⟨rfl,rfl⟩,c⟩;exact ⟨_,⟨by rw[b],Z⟩,a _ _ c⟩
theorem HY(pp mb n:Nat)(o:TB){T:TT}:Aj 80 [Y pp] [trA Tb pp mb n o T] (λv G=>v=.bool T.isSome/\G=[trA Tb pp mb n o T]):=by
 intro z R w H;obtain ⟨M0,u,⟨_,_,b,_⟩,H,a⟩:=H.trP;refine Ret.mono (Cn.at (Zu pp mb n M0 o.C u) H 1 [0] Z Z) ?_;rintro v d ⟨Γ',⟨rfl,rfl⟩,c⟩;exact ⟨_,⟨by rw[b],Z⟩,a _ _ c⟩

structure St(t t':TS)(R:List Nat)(df dk:Nat):Prop where
 fr:∀c∈R,∀h lo hi m L,Tr t.N h c lo hi m L->Tr t'.N h c lo hi m L
 dt:∀c∈R,∀b,t.N c=some (.dt b)->t'.N c=some (.dt b)
 f1:∀p,t'.F p=true->t.F p=true
 ev:∀v b,t.F v=false->t'.N v=some (.dt b)->t.N v=some (.dt b)
 f:cnt t.F 0 1024<=cnt t'.F 0 1024+df
 k:t'.k<=t.k+dk
 op:∀c∈R,t.N c=none->t.C c=1->t'.N c=none/\t'.C c=1
theorem St.trans{t1 t2 t3:TS}{R R1 R2:List Nat}{a b c d f:Nat}(x:St t1 t2 R1 a b)(y:St t2 t3 R2 c d)(j:∀p∈R,p∈R1)(i:∀p∈R,p∈R2)(n:a+c<=e)(o:b+d<=f):St t1 t3 R e f:=by
 refine ⟨λc g h lo hi m L q=>y.fr c (i c g) _ _ _ _ _ (x.fr c (j c g) _ _ _ _ _ q),λc g b q=>y.dt c (i c g) b (x.dt c (j c g) b q),λp q=>x.f1 p (y.f1 p q),λv b l q=>x.ev v b l (y.ev v b ?_ q),?_,?_,λc g a b=>by obtain ⟨a',b'⟩:=x.op c (j c g) a b;exact y.op c (i c g) a' b'⟩
 ·cases e:t2.F v with
  | false=>rfl
  | true=>have:=x.f1 v e;rw[l] at this;cases this
 ·have:=x.f;have:=y.f;omega
 have:=x.k;have:=y.k;omega
theorem St.sub{R R':List Nat}{a b c d:Nat}(x:St t t' R a b)(h:∀p∈R',p∈R)(g:a<=c)(i:b<=d):St t t' R' c d:=
 ⟨λc e=>x.fr c (h c e),λc e=>x.dt c (h c e),x.f1,x.ev,Agu x.f U,Agu x.k U,λc e=>x.op c (h c e)⟩
theorem St.bd{R:List Nat}{a b:Nat}(x:St t t' R a b){h:Nat}{es:List E}{hi:Int}{L:List E}(d:∀v∈vals es,v∈R)(q:Bd t.N h es hi L):Bd t'.N h es hi L:=by
 cases h with
 | zero=>exact ⟨q.1,λe c=>by obtain ⟨b,f⟩:=q.2 e c;exact ⟨b,x.dt _ (d _ (AeB c)) b f⟩⟩
 | succ h=>exact Sq.imp q λe c _ _ r=>x.fr _ (d _ (AeB c)) _ _ _ _ _ r
theorem St.one{a:Nat}{c:Option Pc}{k:Nat}(f:∀q d,t.N q=some (.nd d)->a∉vals d.es)(l:a∉R)(o:∀b,c≠some (.dt b))(g:∀p,F p=true->t.F p=true)(r:cnt t.F 0 1024<=cnt F 0 1024+i)(s:k<=t.k+j)(n:∀q∈R,t.N q=none->t.C q=1->C q=1):St t ⟨fup t.N a c,C,F,k⟩ R i j:=by
 refine ⟨λq hq h lo hi m L x=>x.fup f (λe=>l (by rw[<-e];exact hq)),λq hq b x=>?_,g,λv b u x=>?_,r,s,λq hq x y=>⟨?_,n q hq x y⟩⟩
 ·show fup t.N a c q=_
  rw[fup_ne _ _ (λe=>l (by rw[<-e];exact hq))];exact x
 ·have x:fup t.N a c v=some (.dt b):=x
  by_cases e:v=a
  ·subst e;rw[BN] at x;exact absurd x (o b)
  rwa[fup_ne _ _ e] at x
 show fup t.N a c q=none;rw[fup_ne _ _ (λe=>l (by rw[<-e];exact hq))];exact x
theorem IH{n:Nat}{N:Hm}{R:List Nat}(I_:TInv n m N C (i::R))(h:C i=1):i∉R:=λq=>by
 have a:=I_.rin i O;have:=I_.cnt i a.1 a.2;rw[List.count_cons_self] at this;have:=Agy.2 q;omega
theorem TM{n:Nat}{N:Hm}{R:List Nat}(I_:TInv n m N C R)(h:C i=0):i∉R:=λq=>by
 have:=I_.pos q;omega
theorem XD(pp mb n:Nat)(o:TB)(t:TS)(R:List Nat)(p:Nat)(hp:manyN n<p/\p<n)(c:1<=t.C p)(e:R.length+n<1000):
  Aj 146 [Y pp,I (p:Int)] [trA Tb pp mb n o (some (t,R))] (λv G=>v=I 0/\G=[trA Tb pp mb n o (some ({t with C:=fup t.C p (t.C p+1)},p::R))]):=by
 intro z R' w H;obtain ⟨⟨M0,M⟩,a,H⟩:=H.tr1;have:=a.2.i.bound (p:=p) U hp.2;refine Ret.mono (Cn.at (Ade pp mb n M0 o.C ⟨M,t.C,t.F,t.k⟩ p hp ⟨c,by show t.C p<1000;omega⟩) H 1 [0] Z Z) ?_;rintro v d ⟨Γ',⟨rfl,rfl⟩,b⟩;exact ⟨_,⟨Z,Z⟩,Sep.toTr1 (C:=fup t.C p (t.C p+1)) (F:=t.F) (k:=t.k) b a.1 ⟨a.2.m,a.2.i.ref ⟨by omega,hp.2⟩⟩⟩
theorem QI(pp mb n:Nat)(o:TB)(t:TS)(R:List Nat)(p:Nat)(b:2<=t.C p):
  Aj 142 [Y pp,I (p:Int)] [trA Tb pp mb n o (some (t,p::R))] (λv G=>v=I 0/\G=[trA Tb pp mb n o (some ({t with C:=fup t.C p (t.C p-1)},R))]):=by
 intro z R' w H;obtain ⟨⟨M0,M⟩,a,H⟩:=H.tr1;have hp:=a.2.i.rin p O;refine Ret.mono (Cn.at (Zv pp mb n M0 o.C ⟨M,t.C,t.F,t.k⟩ p ⟨by omega,hp.2⟩ b) H 1 [0] Z Z) ?_;rintro v d ⟨Γ',⟨rfl,rfl⟩,c⟩;exact ⟨_,⟨Z,Z⟩,Sep.toTr1 (C:=fup t.C p (t.C p-1)) (F:=t.F) (k:=t.k) c a.1 ⟨a.2.m,a.2.i.unref b⟩⟩
theorem AbV(pp mb n:Nat)(o:TB)(t:TS)(R:List Nat)(p:Nat)(b:t.C p=1)(hN:∀d,t.N p≠some (.nd d)):
  Aj 142 [Y pp,I (p:Int)] [trA Tb pp mb n o (some (t,p::R))] (λv G=>v=I 0/\G=[trA Tb pp mb n o (some ({t with N:=fup t.N p none,C:=fup t.C p 0},R))]):=by
 intro z R' w H;obtain ⟨⟨M0,M⟩,a,H⟩:=H.tr1;have hp:=a.2.i.rin p O;refine Ret.mono (Cn.at (AbS pp mb n M0 o.C ⟨M,t.C,t.F,t.k⟩ p ⟨by omega,hp.2⟩ b) H 1 [0] Z Z) ?_;rintro v g ⟨Γ',⟨rfl,rfl⟩,f⟩;refine ⟨_,⟨Z,Z⟩,Sep.toTr1 (C:=fup t.C p 0) (F:=t.F) (k:=t.k) f a.1 ⟨λq c hq=>?_,(a.2.i.drop b hN).1⟩⟩;by_cases e:q=p
 ·subst e;rw[BN] at hq;cases hq
 rw[fup_ne _ _ e] at hq;exact a.2.m q c hq
theorem G0(pp mb n:Nat)(o:TB)(t:TS){R:List Nat}(p:Nat)(hN:∀d,t.N p≠some (.nd d)):
  Aj 142 [Y pp,I (p:Int)] [trA Tb pp mb n o (some (t,p::R))] (λv G=>∃t',(St t t' R 0 0/\(∀q,q≠p->t'.N q=t.N q/\t'.C q=t.C q)/\t'.C p=t.C p-1/\(t'.N p=t.N p\/t'.N p=none)/\t'.F=t.F)/\v=I 0/\G=[trA Tb pp mb n o (some (t',R))]):=by
 intro z R' w H;have K:=H.says 0 Z (λh a=>trA.k a);have b:=K.i.pos (p:=p) (by simp[CV]);have b:1<=t.C p:=b;rcases Aes (t.C p) 2 with h|h
 ·have f:t.C p=1:=by omega
  refine Ret.mono (Cn.at (AbV pp mb n o t R p f hN) H 1 [0] Z Z) ?_;rintro v l ⟨Γ',⟨rfl,rfl⟩,g⟩;have j:=(TInv.drop (show TInv n (manyN n+1) t.N t.C (p::R) from K.i) f hN).2;refine ⟨_,⟨_,⟨St.one j (IH (show TInv n (manyN n+1) t.N t.C (p::R) from K.i) f) O (λ_ q=>q) U U (λq hq _ y=>by
   show fup t.C p 0 q=1;rw[fup_ne _ _ (λe=>IH (show TInv n (manyN n+1) t.N t.C (p::R) from K.i) f (by rw[<-e];exact hq))];exact y),λq hq=>⟨fup_ne _ _ hq,fup_ne _ _ hq⟩,?_,.inr (BN _ _ _),Z⟩,Z,Z⟩,g⟩
  show fup t.C p 0 p=t.C p-1;rw[BN];omega
 refine Ret.mono (Cn.at (QI pp mb n o t R p h) H 1 [0] Z Z) ?_;rintro v l ⟨Γ',⟨rfl,rfl⟩,g⟩;refine ⟨_,⟨{t with C:=fup t.C p (t.C p-1)},⟨⟨λ_ _ _ _ _ _ _ q=>q,λ_ _ _ q=>q,λ_ q=>q,λ_ _ _ q=>q,Aek _,Aek _,λc m x y=>⟨x,?_⟩⟩,λq hq=>⟨Z,fup_ne _ _ hq⟩,BN _ _ _,.inl Z,Z⟩,Z,Z⟩,g⟩;show fup t.C p (t.C p-1) c=1;rw[fup_ne _ _ (λe=>by rw[e] at y;omega)];exact y
theorem OP(pp mb n:Nat)(o:TB)(t:TS)(R R2:List Nat)(x:Pg)(i:x.Ok)(hB:∀h,A h->rdH 1 u 240 (x.body.map u8) h)(hk:t.k<40)(c:Option Pc)(hc:∀q,c=some q->x=L7 q)
  (hI:∀a,manyN n<a->a<n->t.C a=0->TInv n (manyN n+1) (fup t.N a c) (fup t.C a 1) (a::R2)):
  Aj 82 [Y pp,.agg #[I x.kind,u]] [trA Tb pp mb n o (some (t,R)),A] (λv G=>(cnt t.F 0 1024=0/\v=.tuple #[I 0,I 20]/\G=[trA Tb pp mb n o (some (t,R)),A])\/
   ∃(a:Nat) (F:Nat->Bool) (k:Nat),((manyN n<a/\a<n)/\t.C a=0/\t.F a=true/\(∀q,F q=true->t.F q=true)/\F a=false/\k<=t.k+1/\cnt t.F 0 1024=cnt F 0 1024+1)/\v=.tuple #[I (a:Int),I 0]/\G=[trA Tb pp mb n o (some (⟨fup t.N a c,fup t.C a 1,F,k⟩,a::R2)),A]):=by
 intro z R' w H;have K:=H.says 0 Z (λh a=>trA.k a);obtain ⟨⟨M0,M⟩,g,H⟩:=H.tr1;refine Ret.mono (Cn.at (Zw pp mb n M0 o.C ⟨M,t.C,t.F,t.k⟩ x i u A hB hk) H 2 [0,1] Z Z) ?_;rintro v w' ⟨Γ',(⟨h0,rfl,rfl⟩|⟨p,y,⟨r,h2,h3⟩,rfl,rfl⟩),j⟩
 ·exact ⟨_,.inl ⟨h0,Z,Z⟩,Sep.toTr1 (C:=t.C) (F:=t.F) (k:=t.k) j g.1 g.2⟩
 have f:=K.fr p r;have s:t.C p=0:=f.2.1;have d:cnt (Dx t.F p) 0 1024+1=cnt t.F 0 1024:=h3;refine ⟨_,.inr ⟨p,Dx t.F p,y,⟨⟨f.2.2,f.1⟩,s,r,λq hq=>?_,?_,h2,by rw[<-d]⟩,Z,Z⟩,Sep.toTr1 (C:=fup t.C p 1) (F:=Dx t.F p) (k:=y) (N:=fup t.N p c) j g.1 ⟨λl c' b=>?_,hI p f.2.2 f.1 s⟩⟩
 ·unfold Dx at hq;simp at hq;exact hq.1
 ·unfold Dx;simp
 by_cases e:l=p
 ·subst e;rw[BN] at b ⊢
  rw[hc c' b] at i ⊢;exact ⟨Z,i⟩
 rw[fup_ne _ _ e] at b ⊢;exact g.2.m l c' b
theorem ZC(pp mb n:Nat)(o:TB)(t:TS){R:List Nat}(R2:List Nat)(a:Nat)(x:Pg)(d:x.Ok)(p:∀h,A h->rdH 1 u 240 (x.body.map u8) h)(q:t.k<40)(c:Pc)(l:x=L7 c)(hp:manyN n<a/\a<n)(s:t.C a≠0)
  (y:TInv n (manyN n+1) (fup t.N a (some c)) t.C R2):
  Aj 169 [Y pp,I (a:Int),.agg #[I x.kind,u]] [trA Tb pp mb n o (some (t,R)),A] (λv G=>∃k,k<=t.k+1/\v=I 0/\G=[trA Tb pp mb n o (some (⟨fup t.N a (some c),t.C,t.F,k⟩,R2)),A]):=by
 intro z R' w H;obtain ⟨⟨M0,M⟩,i,H⟩:=H.tr1;refine Ret.mono (Cn.at (write_p pp mb n M0 o.C ⟨M,t.C,t.F,t.k⟩ a x d u A p q ⟨.inr hp.1,hp.2⟩ s) H 2 [0,1] Z Z) ?_;rintro v w' ⟨Γ',⟨g,j,rfl,rfl⟩,r⟩;refine ⟨_,⟨g,j,Z,Z⟩,Sep.toTr1 (C:=t.C) (F:=t.F) (k:=g) (N:=fup t.N a (some c)) r i.1 ⟨λf c' b=>?_,y⟩⟩;by_cases e:f=a
 ·subst e;rw[BN] at b ⊢
  cases b;rw[l] at d ⊢
  exact ⟨Z,d⟩
 rw[fup_ne _ _ e] at b ⊢;exact i.2.m f c' b
theorem CkN.of{lf:Bool}{es:List E}(h:(Nd.mk lf es).Ok)(g:∀v∈vals es,1<=v/\v<1024):CkN lf (kL es) (vL es):=by
 refine ⟨by simp,by simpa using h.len,?_,λx c=>?_,λy d=>?_,λi x y c d=>?_⟩
 ·cases lf with
  | true=>exact .inl Z
  | false=>
   have:=h.ne Z
   cases es with
   | nil=>exact absurd Z this
   | cons e t=>simp
 ·obtain ⟨e,f,rfl⟩:=Aem.1 c
  have:=h.key e f;exact ⟨this.1,by have:=this.2;omega⟩
 ·obtain ⟨e,f,rfl⟩:=Aem.1 d
  have:=g e.2 (AeB f);omega
 simp only[Aeq] at c d
 cases h1:es[i]? with
 | none=>rw[h1] at c;cases c
 | some a=>
  cases h2:es[i+1]? with
  | none=>rw[h2] at d;cases d
  | some b=>
   rw[h1] at c;rw[h2] at d;simp at c d;subst c d;have hs:=h.srt;exact (Afx.1 hs) i (i+1) (Aed.1 h1).1 (Aed.1 h2).1 U |> λq=>by rw[(Aed.1 h1).2,(Aed.1 h2).2] at q;exact q
theorem OQ(lf:Bool)(es:List E):((Fe ⟨lf,es⟩).kind=4/\lf=true)\/((Fe ⟨lf,es⟩).kind=3/\lf=false):=by
 cases lf
 ·exact .inr ⟨Z,Z⟩
 exact .inl ⟨Z,Z⟩
theorem TN(lf:Bool)(es:List E):decide (((Fe ⟨lf,es⟩).kind:Int)=4)=lf:=by cases lf<;>rfl
theorem TInv.take{n f a:Nat}{N:Hm}{R:List Nat}(I_:TInv n f N C R)(d:C a=0)(b:f<=a/\a<n):TInv n f (fup N a none) (fup C a 1) (a::R):=by
 have hN:N a=none:=by
  cases e:N a with
  | none=>rfl
  | some c=>have:=(I_.nin a c e).2.2;omega
 have e:fup N a none=N:=by
  funext q;unfold fup;split
  ·rename_i h;rw[h,hN]
  rfl
 have:=I_.ref b;rw[d] at this;rw[e];exact this
end
section
variable{Tb:Ai}
theorem ZD(pp ps pc pa pd n:Nat)(un:Bool)(D:Dsk)(G:StG)(own:Hi)(p:Nat)(lf:Bool)(es:List E)(a1:(p:Int)<G.x.pages)(o:D.f1=0)(hq:Fe ⟨lf,es⟩=El G.M own p)(c:(Nd.mk lf es).Ok)(a:CkN lf (kL es) (vL es)):Aj 132 [Y pp,I (p:Int)] [plB pp ps pc pa n un,stoA ps pd D G own] (λv X=>∃l f:Value,v=.tuple #[.agg #[.bool lf,l,f],I 0]/\X=[grow 3 1 l (kL es).length ((kL es).map I),grow 3 1 f (vL es).length ((vL es).map I),plB pp ps pc pa n un,stoA ps pd D G own]):=by
 intro z R w H;have b:(Fe ⟨lf,es⟩).body.length=240:=(JF c.len).2;have a3:=OQ lf es;refine Ae func132 Z ntmps132 Z (Za 2 [] H Z ?_);intro b1 w H;refine Z2 21 [0,0,1,0] H Z (Ar Z (call85 _) (Lf ps pd D G own p a1 o (Fe ⟨lf,es⟩) hq) H.f2 ?_);rintro _ w _ (⟨u,rfl,rfl⟩|⟨a2,rv,rfl,rfl⟩) H'
 ·(exfalso;have:=OQ lf es;rw[u] at this;have h0:noPg.kind=0:=rfl;omega)
 have H:=H'.l4;obtain ⟨gb,a4,rest,rfl,c1,c2,c3,H⟩:=H.ungrow 0 Z U;refine Za 3 [] H Z ?_;intro b2 w H;refine Z4 21 [0,4,0,0,0,0] H Z ?_;intro w H;refine An 30 Z (λh1=>?_) (λh1=>?_)
 ·refine Z2 6 [0,0,0,0] H Z (Af Z (λh2=>U) (λh2=>?_))
  refine Z2 6 [1,0,0] H Z (Ar Z (call176 _) (MG (Fe ⟨lf,es⟩).body (λh q=>q.rd U U (by rw[Aeg,Aeh,b];omega) (by rw[Aew,AeR,AeI (by rw[Aeh,b])])) lf (kL es) (vL es) O (by simpa using c.len) (λx hx=>by have:=a.k x hx;omega) (λy hy=>by have:=a.v y hy;omega) Z) H.f1 ?_);rintro _ w _ ⟨l,f,rfl,rfl⟩ H;replace H:=(H.mono 1 (B:=grow 3 1 f ((vL es).length) ((vL es).map I)) Z (λh q=>by rw[show (vL es).length=(kL es).length by simp];exact q)).l7;have e:=H.sy 0 (·.slc);have d:=H.sy 1 (·.slc);refine Za 3 [] H Z ?_;intro b3 w H;obtain ⟨r,m,rfl⟩:=e;obtain ⟨s,t,rfl⟩:=d;refine Z4 11 [0,0,3] H Z ?_;intro w H;refine z_E_ Z (call177 _) (CU (kL es) (vL es) (λh q=>q.rd) (λh q=>q.rd) a) H.f2.f2 ?_;intro w H;refine Z2 8 [4,0,2,0,0,4,0,0] H Z (Ab Z (Nu Z J Z Z) (Zc 3 Z (Af Z (λh3=>?_) (λh3=>?_))))
  ·exact absurd (TN lf es).symm h3
  refine Z4 10 [2,3,6] H Z ?_;intro w H;refine Zl [6,3] H Z ?_;exact ⟨_,⟨.slice r ((kL es).length) m,.slice s ((vL es).length) t,Z,Z⟩,H.perm 8 [0,1,7,5] Z Z⟩
 refine Z2 13 [1,0,0] H Z (Ar Z (call176 _) (MG (Fe ⟨lf,es⟩).body (λh q=>q.rd U U (by rw[Aeg,Aeh,b];omega) (by rw[Aew,AeR,AeI (by rw[Aeh,b])])) lf (kL es) (vL es) O (by simpa using c.len) (λx hx=>by have:=a.k x hx;omega) (λy hy=>by have:=a.v y hy;omega) Z) H.f1 ?_);rintro _ w _ ⟨l,f,rfl,rfl⟩ H;replace H:=(H.mono 1 (B:=grow 3 1 f ((vL es).length) ((vL es).map I)) Z (λh q=>by rw[show (vL es).length=(kL es).length by simp];exact q)).l7;have e:=H.sy 0 (·.slc);have d:=H.sy 1 (·.slc);refine Za 3 [] H Z ?_;intro b8 w H;obtain ⟨a0,j,rfl⟩:=e;obtain ⟨i,g,rfl⟩:=d;refine Z4 11 [0,0,3] H Z ?_;intro w H;refine z_E_ Z (call177 _) (CU (kL es) (vL es) (λh q=>q.rd) (λh q=>q.rd) a) H.f2.f2 ?_;intro w H;refine Z2 8 [4,0,2,0,0,4,0,0] H Z (Ab Z (Nu Z J Z Z) (Zc 3 Z (Af Z (λh4=>?_) (λh4=>?_))))
 ·exact absurd (TN lf es).symm h4
 refine Z4 10 [2,3,6] H Z ?_;intro w H;refine Zl [6,3] H Z ?_;exact ⟨_,⟨.slice a0 ((kL es).length) j,.slice i ((vL es).length) g,Z,Z⟩,H.perm 8 [0,1,7,5] Z Z⟩
theorem TInv.vok{f:Nat}{N:Hm}(I_:TInv n f N C R)(c:1<=f)(b:n<=1024){p:Nat}{lf:Bool}{es:List E}(h:N p=some (.nd ⟨lf,es⟩)):CkN lf (kL es) (vL es):=
 CkN.of (I_.nds p _ h).1 (λv a=>by have:=(I_.nds p _ h).2.2 v a;omega)
theorem HZ(pp mb n:Nat)(o:TB)(T:TT)(p:Nat)(lf:Bool)(es:List E)(hN:Dl o T p=some (.nd ⟨lf,es⟩)):
  Aj 132 [Y pp,I (p:Int)] [trA Tb pp mb n o T] (λv G=>∃d e:Value,v=.tuple #[.agg #[.bool lf,d,e],I 0]/\G=[grow 3 1 d (kL es).length ((kL es).map I),grow 3 1 e (vL es).length ((vL es).map I),trA Tb pp mb n o T]):=by
 intro z R w H;have K:=H.says 0 Z (λh a=>trA.k a);obtain ⟨M0,u,⟨_,_,_,j⟩,H,c⟩:=H.trP;obtain ⟨X,b,H⟩:=H.po;have r:=K.i.nin p _ hN;have hq:Fe ⟨lf,es⟩=El X.G.M (TK X.g u) p:=by
  have f:=(j p _ hN).1
  cases u with
  | none=>exact f.symm.trans (b.m0 p (.inr U))
  | some T'=>exact f.symm.trans ((b.tx T' Z).m p (.inr U))
 refine Ret.mono (Cn.at (ZD pp X.ps X.pc X.pa X.pd n u.isSome X.D X.G (TK X.g u) p lf es (by rw[b.pg];omega) b.fine.clean.f1 hq (K.i.nds p _ hN).1 (K.i.vok U b.hn.2 hN)) H 7 [0,1,2,3,4,5,6] Z Z) ?_;rintro v q ⟨Γ',⟨d,e,rfl,rfl⟩,l⟩;have H3:=l.pick 9 [2,3,4,5,6,7,8,0,1] Z;have H4:=c _ _ (H3.toPo (X:=X) b Z);exact ⟨_,⟨d,e,Z,Z⟩,H4.pick 3 [1,2,0] Z⟩
theorem Km{a vs:List Int}(h:a.length=vs.length)(c:a.length<=8):0+240*1<=(A7 (AK (Gf b a vs)) t).length:=by
 have hp:=AU (l:=Gf b a vs) (by rw[Gz h];omega);unfold A7;rw[Aeg,Aeh];omega
theorem Mc{a vs:List Int}(h:a.length=vs.length)(c:a.length<=8):((A7 (AK (Gf b a vs)) t).drop 0).take (240*1)=(Hg b a vs).map u8:=by
 have hp:=AU (l:=Gf b a vs) (by rw[Gz h];omega);unfold A7 Hg;rw[Aew,AeR,Aev (by rw[Aeh];omega),<-Afr,Aew]
theorem Md(lf:Bool){m:Value}(b vs:List Int){B:Ai}(e:∀h,A h->rdH 1 u b.length (b.map I) h)(f:∀h,B h->rdH 1 m vs.length (vs.map I) h)(a:CkN lf b vs):Aj 180 [.agg #[.bool lf,u,m]] [A,B] (λv G=>∃c:Nat,v=.tuple #[.agg #[I (if lf=true then 4 else 3),.slice (some ⟨c,0,none⟩) 240 240],I 0]/\G=[blk c (A7 (AK (Gf lf b vs)) ((2+6*b.length:Nat):Int)) 167,A,B]):=by
 intro z R w H;obtain ⟨s,p,rfl⟩:=H.sy 0 (λq=>(e _ q).slc);obtain ⟨t,r,rfl⟩:=H.sy 1 (λq=>(f _ q).slc);have d:=a.len;have i:=a.l8;refine Ae func180 Z ntmps180 Z (Za 2 [] H Z ?_);intro b1 w H;refine Za 0 [] H Z ?_;intro b2 w H;refine Z2 7 [1,3] H Z (z_E_ Z (call177 _) (CU b vs e f a) H.f3.f3 ?_);intro w H;refine Z2 9 [4,3,3] H Z (Ar Z (call217 _) (Tu lf b vs e f d i (λx n=>by have:=a.k x n;omega) (λy o=>by have:=a.v y o;omega)) H ?_);rintro _ w _ ⟨c,rfl,rfl⟩ H;refine Z2 24 [4,0,4,0] H Z (Es Z (λg=>?_) (λg=>?_))
 ·refine Z4 9 [3] H Z ?_;intro w H;refine Zl [3,2] H Z ?_;exact ⟨_,⟨c,(by rw[if_pos g]),Z⟩,H.perm 5 [0,1,2] Z Z⟩
 refine Z4 11 [3] H Z ?_;intro w H;refine Zl [3,2] H Z ?_;exact ⟨_,⟨c,(by rw[if_neg (by rw[g];decide)]),Z⟩,H.perm 5 [0,1,2] Z Z⟩
end
section
variable{Tb:Ai}
variable{n:Nat}{t:TS}{R:List Nat}{a:Nat}{lf:Bool}{es:List E}
theorem Wg(I_:TInv n i t.N t.C (a::(vals es++R)))(h:t.C a=1)(hN:t.N a=none)(e:(Nd.mk lf es).Ok)(f:(vals es).Nodup)(o:Bd t.N j es p X)(b:lf=decide (j=0))(r:B5 s p es)(l:m<=es.length):
  TInv n i (fup t.N a (some (.nd ⟨lf,es⟩))) t.C (a::R)/\Tr (fup t.N a (some (.nd ⟨lf,es⟩))) j a s p m X/\(∀q d,t.N q=some (.nd d)->a∉vals d.es)/\a∉R:=by
 have c:∀q d,t.N q=some (.nd d)->a∉vals d.es:=λq d hq=>I_.noref (by simp;omega) hq;have g:=IH I_ h;simp only[Aer,not_or] at g;have k:Tr (fup t.N a (some (.nd ⟨lf,es⟩))) j a s p m X:=Tr.iff.2 ⟨es,by rw[BN,b],l,r,by rw[<-b];exact e,o.fup c g.1⟩;exact ⟨(I_.close (d:=⟨lf,es⟩) h hN e f ⟨_,_,_,_,_,k⟩).1,k,c,g.2⟩
theorem Lg(I_:TInv n i t.N t.C (vals es++R))(h:t.C a=0)(r:i<=a/\a<n)(e:(Nd.mk lf es).Ok)(f:(vals es).Nodup)(o:Bd t.N j es p X)(b:lf=decide (j=0))(u:B5 s p es)(l:m<=es.length):
  TInv n i (fup t.N a (some (.nd ⟨lf,es⟩))) (fup t.C a 1) (a::R)/\Tr (fup t.N a (some (.nd ⟨lf,es⟩))) j a s p m X/\(∀q d,t.N q=some (.nd d)->a∉vals d.es)/\a∉R:=by
 have c:∀q d,t.N q=some (.nd d)->a∉vals d.es:=λq d hq=>I_.noref U hq;have g:=TM I_ h;simp only[Aer,not_or] at g;have k:Tr (fup t.N a (some (.nd ⟨lf,es⟩))) j a s p m X:=Tr.iff.2 ⟨es,by rw[BN,b],l,u,by rw[<-b];exact e,o.fup c g.1⟩;exact ⟨(I_.fresh (d:=⟨lf,es⟩) h r e f ⟨_,_,_,_,_,k⟩).2.1,k,c,g.2⟩
structure OwnP(t t':TS)(es:List E)(R:List Nat)(a:Nat):Prop where
 N0:t'.N a=none
 C1:t'.C a=1
 st:St t t' R 1 1
 fv:∀c∈vals es,∀h lo hi m L,Tr t.N h c lo hi m L->Tr t'.N h c lo hi m L
 dv:∀c∈vals es,∀b,t.N c=some (.dt b)->t'.N c=some (.dt b)
 sub:∀q d,t'.N q=some (.nd d)->t.N q=some (.nd d)
theorem OwnP.bd{t':TS}(O_:OwnP t t' es R a){h:Nat}{hi:Int}{L:List E}(q:Bd t.N h es hi L):Bd t'.N h es hi L:=by
 cases h with
 | zero=>exact ⟨q.1,λe c=>by obtain ⟨b,d⟩:=q.2 e c;exact ⟨b,O_.dv _ (AeB c) b d⟩⟩
 | succ h=>exact Sq.imp q λe c _ _ r=>O_.fv _ (AeB c) _ _ _ _ _ r
theorem QJ{N:Hm}{a:Nat}:∀q d,fup N a none q=some (.nd d)->N q=some (.nd d):=λq d h=>by
 by_cases e:q=a
 ·subst e;rw[BN] at h;cases h
 rwa[fup_ne _ _ e] at h
theorem TO{N:Hm}{a:Nat}(h:m≠a)(q:N m=some (.dt B)):fup N a none m=some (.dt B):=by rw[fup_ne _ _ h];exact q
theorem Me(I_:TInv n i t.N t.C (a::R))(g:t.C a=1)(hN:t.N a=some (.nd ⟨lf,es⟩)):OwnP t {t with N:=fup t.N a none} es R a:=by
 have f:=I_.opens g hN;have j:=IH f.1 g;have k:∀c∈vals es,c≠a:=λc d e=>j (Agb _ (by rw[<-e];exact d));have l:a∉R:=λq=>j (Agm _ q);exact ⟨BN _ _ _,g,(St.one f.2 l O (λ_ q=>q) U U (λ_ _ _ y=>y)),λc d h lo hi m L q=>q.fup f.2 (k c d),λc d b q=>TO (k c d) q,QJ⟩
structure OwI(t:TS)(es:List E)(i:Nat)(C:Nat->Nat):Prop where
 i:i<=es.length
 ge:∀q,t.C q<=C q
 same:∀q,q∉vals es->C q=t.C q
theorem OwI.next{e:E}(I_:OwI t es i C)(a:es[i]?=some e):OwI t es (i+1) (fup C e.2 (C e.2+1)):=by
 refine ⟨(Aed.1 a).1,λq=>?_,λq hq=>?_⟩
 ·have:=I_.ge q
  unfold fup;split
  ·rename_i h;subst h;omega
  exact this
 rw[fup_ne _ _ (λh=>hq (by rw[h];exact AeB (Aee a)))];exact I_.same q hq
theorem Wh{e:E}(a:es[i]?=some e):((vals es).take (i+1)).reverse=e.2::((vals es).take i).reverse:=by
 rw[AeM];simp[vals,a]
theorem ZE(I_:TInv n i t.N t.C (a::R))(hN:t.N a=some (.nd ⟨lf,es⟩))(z:t.C j=0)(y:OwI ⟨fup t.N j none,fup t.C j 1,F,g⟩ es es.length C)(hF:∀p,F p=true->t.F p=true)(hf:cnt t.F 0 1024=cnt F 0 1024+1)(hk:g<=t.k+1):
  OwnP t ⟨fup t.N j none,fup C a (C a-1),F,g⟩ es R j:=by
 have l:j≠a:=λe=>by have:=I_.pos (p:=a) O;rw[e] at z;omega
 have c:∀q d,t.N q=some (.nd d)->j∉vals d.es:=λq d hq=>I_.noref U hq;have s:j∉R:=λh=>by have:=I_.pos (p:=j) (by simp[h]);omega
 have w:∀q∈vals es,q≠j:=λq hq e=>c _ _ hN (by rw[<-e];exact hq);refine ⟨BN _ _ _,?_,St.one c s O hF U hk (λq hq f v=>?_),λq hq h lo hi m L x=>x.fup c (w q hq),λq hq b x=>TO (w q hq) x,QJ⟩
 ·show fup C a (C a-1) j=1
  rw[fup_ne _ _ l,y.same j (c _ _ hN)];exact BN _ _ _
 have o:q≠a:=λe=>by rw[e,hN] at f;cases f
 have r:q∉vals es:=I_.noref (a:=q) (by
  have:=Agy.2 hq;rw[Afe];omega) hN
 have u:q≠j:=λe=>by rw[e] at v;omega
 show fup C a (C a-1) q=1;rw[fup_ne _ _ o,y.same q r];show fup t.C j 1 q=1;rw[fup_ne _ _ u];exact v
theorem F8(pp mb n:Nat)(o:TB)(t:TS)(Q:List Nat)(a:Nat)(lf:Bool){vv:Value}(es:List E){B:Ai}(hA:∀h,A h->rdH 1 u (kL es).length ((kL es).map I) h)(hB:∀h,B h->rdH 1 vv (vL es).length ((vL es).map I) h)(h:Nat)(lo hi:Int)(m:Nat)(L:List E)(r:Bd t.N h es hi L)(j:lf=decide (h=0))(e:B5 lo hi es)(hm:m<=es.length)(b:(Nd.mk lf es).Ok)(c:(vals es).Nodup)(hC:t.C a=1)(hN:t.N a=none)(hk:t.k<40):Aj 183 [Y pp,I (a:Int),.agg #[.bool lf,u,vv]] [trA Tb pp mb n o (some (t,a::(vals es++Q))),A,B] (λv G=>∃t2:TS,(St t t2 Q 0 1/\Tr t2.N h a lo hi m L/\t2.C=t.C/\t2.N=fup t.N a (some (.nd ⟨lf,es⟩)))/\v=I 0/\G=[trA Tb pp mb n o (some (t2,a::Q)),A,B]):=by
 intro z R w H;have K:=H.says 0 Z (λh a=>trA.k a);have hn:=K.hn;obtain ⟨ka,kc,rfl⟩:=H.sy 1 (λq=>(hA _ q).slc);obtain ⟨va,vc,rfl⟩:=H.sy 2 (λq=>(hB _ q).slc);obtain ⟨d,l,p,s⟩:=Wg K.i hC hN b c r j e hm;have g:=K.i.rin a (by simp[CV]);have x:CkN lf (kL es) (vL es):=CkN.of b (λv hv=>by have:=K.i.rin v (by simp[CV,hv]);omega);refine Ae func183 Z ntmps183 Z (Za 2 [] H Z ?_);intro b1 w H;refine Z2 6 [0,3] H Z (Ar Z (call180 _) (Md lf (kL es) (vL es) hA hB x) H.f3.f3 ?_);rintro _ w _ ⟨pw,rfl,rfl⟩ H;refine Za 3 [] H Z ?_;intro b2 w H;refine Z4 19 [0,4,0,2] H Z ?_;intro w H;refine Ar Z (call169 _) (ZC pp mb n o t (a::Q) a (Fe ⟨lf,es⟩) (JF b.len) (λh q=>q.rd U U (Km O (by simpa using b.len)) (Mc O (by simpa using b.len))) hk (.nd ⟨lf,es⟩) Z ⟨by omega,g.2⟩ U d) H.f1.f5 ?_;rintro _ w _ ⟨k2,f,rfl,rfl⟩ H;refine Zc 4 Z (Zr Z ?_);exact ⟨_,⟨_,⟨St.one p s O (λ_ q=>q) U f (λ_ _ _ y=>y),l,Z,Z⟩,Z,Z⟩,H.perm 6 [0,3,4] Z Z⟩
theorem Ia(pp mb n:Nat)(o:TB)(t:TS)(Q:List Nat)(lf:Bool){vv:Value}(es:List E){B:Ai}(hA:∀h,A h->rdH 1 u (kL es).length ((kL es).map I) h)(hB:∀h,B h->rdH 1 vv (vL es).length ((vL es).map I) h)(h:Nat)(lo hi:Int)(m:Nat)(L:List E)(p:Bd t.N h es hi L)(l:lf=decide (h=0))(g:B5 lo hi es)(hm:m<=es.length)(b:(Nd.mk lf es).Ok)(d:(vals es).Nodup)(hk:t.k<40):Aj 139 [Y pp,.agg #[.bool lf,u,vv]] [trA Tb pp mb n o (some (t,vals es++Q)),A,B] (λv G=>(cnt t.F 0 1024=0/\v=.tuple #[I 0,I 20]/\G=[trA Tb pp mb n o (some (t,vals es++Q)),A,B])\/∃(t2:TS) (a:Nat),(St t t2 Q 1 1/\Tr t2.N h a lo hi m L/\∀q∈Q,t2.N q=t.N q/\t2.C q=t.C q)/\v=.tuple #[I (a:Int),I 0]/\G=[trA Tb pp mb n o (some (t2,a::Q)),A,B]):=by
 intro z R w H;have K:=H.says 0 Z (λh a=>trA.k a);have hn:=K.hn;obtain ⟨ka,kc,rfl⟩:=H.sy 1 (λq=>(hA _ q).slc);obtain ⟨va,vc,rfl⟩:=H.sy 2 (λq=>(hB _ q).slc);have a2:CkN lf (kL es) (vL es):=CkN.of b (λv hv=>by have:=K.i.rin v (by simp[CV,hv]);omega);refine Ae func139 Z ntmps139 Z (Za 2 [] H Z ?_);intro b1 w H;refine Z2 7 [0,3] H Z (Ar Z (call180 _) (Md lf (kL es) (vL es) hA hB a2) H.f3.f3 ?_);rintro _ w _ ⟨pw,rfl,rfl⟩ H;refine Za 3 [] H Z ?_;intro b2 w H;refine Z4 18 [0,4,0,2] H Z ?_;intro w H;refine Ar Z (call82 _) (OP pp mb n o t _ Q (Fe ⟨lf,es⟩) (JF b.len) (λh q=>q.rd U U (Km O (by simpa using b.len)) (Mc O (by simpa using b.len))) hk (some (.nd ⟨lf,es⟩)) (λq hq=>by cases hq;rfl) (λa h1 h2 h3=>(Lg K.i h3 ⟨h1,h2⟩ b d p l g hm).1)) H.f1.f5 ?_;rintro _ w _ (⟨f,rfl,rfl⟩|⟨a,F,k2,⟨j,r,a5,a0,a6,s,a3⟩,rfl,rfl⟩) H'
 ·have H:=H'.l6;refine Zc 7 Z (Zr Z ?_);exact ⟨_,.inl ⟨f,Z,Z⟩,H.perm 6 [0,3,4] Z Z⟩
 have H:=H'.l6;obtain ⟨a4,x,a1,c⟩:=Lg K.i r ⟨j.1,j.2⟩ b d p l g hm;refine Zc 7 Z (Zr Z ?_);exact ⟨_,.inr ⟨_,a,⟨St.one a1 c O a0 U s (λq hq _ y=>(fup_ne _ _ (λe=>c (by rw[<-e];exact hq))).trans y),x,λq hq=>⟨fup_ne _ _ (λe=>c (by rw[<-e];exact hq)),fup_ne _ _ (λe=>c (by rw[<-e];exact hq))⟩⟩,Z,Z⟩,H.perm 6 [0,3,4] Z Z⟩
theorem Wi(pp mb n:Nat)(o:TB)(t:TS)(Q:List Nat)(lf:Bool)(es:List E){B:Ai}(m:∀h,A h->rdH 1 u (kL es).length ((kL es).map I) h)(p:∀h,B h->rdH 1 y (vL es).length ((vL es).map I) h)(b:(Nd.mk lf es).Ok)(l:CkN lf (kL es) (vL es))(hk:t.k<40):Aj 139 [Y pp,.agg #[.bool lf,u,y]] [trA Tb pp mb n o (some (t,Q)),A,B] (λv G=>(cnt t.F 0 1024=0/\v=.tuple #[I 0,I 20]/\G=[trA Tb pp mb n o (some (t,Q)),A,B])\/∃(a:Nat) (F:Nat->Bool) (e:Nat),(t.C a=0/\(∀q,F q=true->t.F q=true)/\e<=t.k+1/\cnt t.F 0 1024=cnt F 0 1024+1)/\v=.tuple #[I (a:Int),I 0]/\G=[trA Tb pp mb n o (some (⟨fup t.N a none,fup t.C a 1,F,e⟩,a::Q)),A,B]):=by
 intro z R w H;have K:=H.says 0 Z (λh a=>trA.k a);obtain ⟨ka,kc,rfl⟩:=H.sy 1 (λq=>(m _ q).slc);obtain ⟨va,vc,rfl⟩:=H.sy 2 (λq=>(p _ q).slc);refine Ae func139 Z ntmps139 Z (Za 2 [] H Z ?_);intro b1 w H;refine Z2 7 [0,3] H Z (Ar Z (call180 _) (Md lf (kL es) (vL es) m p l) H.f3.f3 ?_);rintro _ w _ ⟨pw,rfl,rfl⟩ H;refine Za 3 [] H Z ?_;intro b2 w H;refine Z4 18 [0,4,0,2] H Z ?_;intro w H;refine Ar Z (call82 _) (OP pp mb n o t _ Q (Fe ⟨lf,es⟩) (JF b.len) (λh q=>q.rd U U (Km O (by simpa using b.len)) (Mc O (by simpa using b.len))) hk none (λq hq=>by cases hq) (λa h1 h2 x=>TInv.take K.i x ⟨h1,h2⟩)) H.f1.f5 ?_;rintro _ w _ (⟨c,rfl,rfl⟩|⟨a,F,e,⟨a1,f,s,j,a0,g,d⟩,rfl,rfl⟩) r
 ·have H:=r.l6;refine Zc 7 Z (Zr Z ?_);exact ⟨_,.inl ⟨c,Z,Z⟩,H.perm 6 [0,3,4] Z Z⟩
 have H:=r.l6;refine Zc 7 Z (Zr Z ?_);exact ⟨_,.inr ⟨a,F,e,⟨f,j,g,d⟩,Z,Z⟩,H.perm 6 [0,3,4] Z Z⟩
end
section
variable{Tb:Ai}
theorem ZF(es:List E)(c a:Nat)(Q:List Nat):(((vals es).take es.length).reverse++(c::a::Q)).Perm (a::c::(vals es++Q)):=by
 rw[Ael (by simp[vals])];have d:((vals es).reverse++(c::a::Q)).Perm (vals es++(c::a::Q)):=Afz _ (List.reverse_perm _);refine d.trans ?_;have e:(vals es++(c::a::Q)).Perm ((c::a::Q)++vals es):=Af6;refine e.trans ?_;have b:((c::a::Q)++vals es).Perm (a::c::(Q++vals es)):=by
  simp only[AfD];exact AfY _ _ _
 exact b.trans (Afl _ (Afl _ Af6))
set_option maxHeartbeats 1000000 in
theorem JG (pp mb n:Nat) (o:TB) (t:TS) (Q:List Nat) (a:Nat) (lf:Bool) (es:List E) (hN:t.N a=some (.nd ⟨lf,es⟩)) (hk:t.k<40) (hb:Q.length+n<=980):Aj 181 [Y pp,I (a:Int)] [trA Tb pp mb n o (some (t,a::Q))] (λv G=>(cnt t.F 0 1024=0/\∃(b d:Value) (s:TS×List Nat),v=.tuple #[I 0,.agg #[.bool lf,b,d],I 20]/\G=[grow 3 1 b (kL es).length ((kL es).map I),grow 3 1 d (vL es).length ((vL es).map I),trA Tb pp mb n o (some s)])\/∃(t2:TS) (c:Nat) (b d:Value),OwnP t t2 es Q c/\v=.tuple #[I (c:Int),.agg #[.bool lf,b,d],I 0]/\G=[grow 3 1 b (kL es).length ((kL es).map I),grow 3 1 d (vL es).length ((vL es).map I),trA Tb pp mb n o (some (t2,c::(vals es++Q)))]):=by
 intro z R w H;replace H:=H.l1;have K:=H.says 0 Z (λh a=>trA.k a);have hn:=K.hn;have c0:=K.i.nin a _ hN;have b3:CkN lf (kL es) (vL es):=K.i.vok U hn.2 hN;have a5:=(K.i.nds a _ hN).1;have b7:=(K.i.nds a _ hN).2.2;have a3:=K.i.pos (p:=a) (by simp[CV]);have a3:1<=t.C a:=a3;refine Ae func181 Z ntmps181 Z (Za 3 [] H Z ?_);intro b1 w H;refine Zc 7 Z (Ar Z (call132 _) (HZ pp mb n o (some (t,a::Q)) a lf es hN) H.f1 ?_);rintro _ w _ ⟨b,d,rfl,rfl⟩ H;replace H:=H.l4;have a0:=H.sy 0 (·.slc);have y:=H.sy 1 (·.slc);refine Za 3 [] H Z ?_;intro b2 w H;refine AC Z Z (Al 0 H Z Z Z Z (vs:=[.bool lf,b,d]) Z (Ad Z (Ad a0.one (Ad y.one Aw))) J O (out:=[.bool lf,b,d]) Z) ?_;rintro w H;replace H:=H.l5;refine Z0 11 [4] Z (z_E_ Z (call138 _) (L8 pp mb n o a U) H.f3 ?_);intro w H;replace H:=H.l5;refine AB 24 (v:=I (t.C a:Int)) Z Z (Z0 4 [0] Z (Af Z (λh1=>?_) (λh1=>?_)))
 ·refine Zc 1 Z ?_;replace H:=H.f1;refine AQ (Sep z (blk b2 [.bool lf,b,d] 201::R)) 6 Z J (A4 H λw x=>?_)
  have H:=x.l5;refine AT [0,1,2,3] [0,3] [] (by exact H.pick 5 [0] Z) Z J Z (AE [4] J O (Am (Bj Z Z Z (Al 4 H Z Z Z Z (vs:=[.bool lf,b,d]) Z (Ad Z (Ad a0.one (Ad y.one Aw))) J O (out:=[.bool lf,b,d]) Z) ?_)));rintro w H;replace H:=H.l5;refine Ax (H.pick 5 [0] Z) (AT [5] [] [] (by exact H.pick 5 [0] Z) Z J Z (a_done J (gn (Zc 2 Z (Zl [4,3] H Z ?_)))));replace H:=(H.mono 1 (B:=trA Tb pp mb n o (some ({t with N:=fup t.N a none},a::(vals es++Q)))) Z (λh q=>q.opens U hN)).l5;exact ⟨[grow 3 1 b ((kL es).length) ((kL es).map I),grow 3 1 d ((vL es).length) ((vL es).map I),trA Tb pp mb n o (some ({t with N:=fup t.N a none},a::(vals es++Q)))],.inr ⟨_,a,b,d,Me K.i U hN,Z,Z⟩,H.perm 5 [2,3,1] Z Z⟩
 refine Z2 6 [1,3] H Z (Ar Z (call139 _) (Wi pp mb n o t (a::Q) lf es (λh q=>q.rd) (λh q=>q.rd) a5 b3 hk) H.f3.f3.f2 ?_);rintro _ w _ (⟨a1,rfl,rfl⟩|⟨c,F,k2,⟨b0,b8,b4,a6⟩,rfl,rfl⟩) x
 ·have H:=x.l5;refine Z0 16 [3] Z ?_;replace H:=H.f3;refine AQ (Sep z (blk b2 [.bool lf,b,d] 201::R)) 5 Z J (A4 H λw x=>?_)
  have H:=x.l5;refine AT [0,1,2] [0,3] [] (by exact H.pick 5 [0] Z) Z J Z (AE [3] J O (Am (Bj Z Z Z (Al 4 H Z Z Z Z (vs:=[.bool lf,b,d]) Z (Ad Z (Ad a0.one (Ad y.one Aw))) J O (out:=[.bool lf,b,d]) Z) ?_)));rintro w H;replace H:=H.l5;refine Ax (H.pick 5 [0] Z) (AT [4] [] [] (by exact H.pick 5 [0] Z) Z J Z (a_done J (gn (Zc 2 Z (Zl [4,3] H Z ?_)))));exact ⟨[grow 3 1 b ((kL es).length) ((kL es).map I),grow 3 1 d ((vL es).length) ((vL es).map I),trA Tb pp mb n o (some (t,a::Q))],.inl ⟨a1,b,d,_,Z,Z⟩,H.perm 5 [2,3,1] Z Z⟩
 have H:=x.l5;refine Z0 19 [4] Z ?_;obtain ⟨l,m,rfl⟩:=a0;obtain ⟨g,f,rfl⟩:=y;refine Z2 8 [2,3,0] H Z ?_;refine AD (σ:=Nat×(Nat->Nat)) (λ⟨i,C⟩=>[(43,I (i:Int)),(0,Y pp),(1,I (a:Int)),(5,Y b1),(7,Y b2),(9,I (c:Int)),(41,.slice g ((vL es).length) f),(42,I (((vL es).length:Nat):Int))])
   (λ⟨i,C⟩ w=>Sep z (trA Tb pp mb n o (some (⟨fup t.N c none,C,F,k2⟩,((vals es).take i).reverse++(c::a::Q)))::grow 3 1 (.slice l ((kL es).length) m) ((kL es).length) ((kL es).map I)::grow 3 1 (.slice g ((vL es).length) f) ((vL es).length) ((vL es).map I)::blk b2 [.bool lf,.slice l ((kL es).length) m,.slice g ((vL es).length) f] 201::blk b1 [.bool false,.slice none 0 0,.slice none 0 0] 201::R) w/\(OwI ⟨fup t.N c none,fup t.C c 1,F,k2⟩ es i C)) (λ⟨i,C⟩=>es.length-i) ⟨0,fup t.C c 1⟩
   fr_z ⟨(by simpa using H),⟨AeN _,λ_=>Aek _,λ_ _=>rfl⟩⟩ ?_
 clear H;rintro ⟨i,C⟩ w ⟨x,hI⟩;dsimp only at hI x ⊢;have H:=x.l5;have hI:=hI;have c1:=hI.i;refine Z0 6 [0] Z (Af Z (λh2=>?_) (λh2=>?_))
 ·have a7:i<es.length:=by simp only[Aeh] at h2;omega
  obtain ⟨e,he⟩:∃e,es[i]?=some e:=⟨_,Aef a7⟩;have a2:e.2∈vals es:=AeB (Aee he);have b5:=b7 e.2 a2;have b6:1<=C e.2:=by
    have h1:=hI.ge e.2;have h2:=K.i.posE hN a2;have h3:fup t.C c 1 e.2<=C e.2:=h1;have h4:1<=t.C e.2:=h2;unfold fup at h3;split at h3<;>omega
  have a4:=a5.len;dsimp only at a4;refine Zc 6 Z ?_;have a9:=(H.rv 2 (·.rd)).at (j:=i) (u:=I (e.2:Int)) (by simp[he]);refine Ab Z (Ak Z (z:=1) (j:=i) (r:=i) J Z Z Z U a9 U) (Ab Z (Ay Z Z J (Az a9)) (Zc 7 Z (z_E_ Z (call146 _) (XD pp mb n o _ _ e.2 ⟨by omega,b5.2⟩ b6 (by simp only[Aeg,List.length_reverse,Aez,Aei];omega)) H ?_)));intro w H;refine Z1 17 [4] [(i:Int)+1] Z U (gf ?_);intro _ hF;refine ⟨⟨i+1,fup C e.2 (C e.2+1)⟩,hF.cz,⟨(by rw[Wh he];exact H),?_⟩,?_⟩
  ·exact hI.next he
  (dsimp only;omega)
 obtain rfl:i=es.length:=by simp only[Aeh] at h2;omega
 have a8:2<=C a:=by
   have h1:fup t.C c 1 a<=C a:=hI.ge a;have h2:c≠a:=λe=>by rw[e] at b0;omega
   rw[fup_ne _ _ (AfU h2)] at h1;omega
 refine Zc 2 Z (gx (Zc 3 Z ?_));replace H:=(H.mono 0 (B:=trA Tb pp mb n o (some (⟨fup t.N c none,C,F,k2⟩,a::c::(vals es++Q)))) Z (λh q=>q.perm (ZF es c a Q))).l5;replace H:=H.f3;refine AQ (Sep z (blk b2 [.bool lf,.slice l ((kL es).length) m,.slice g ((vL es).length) f] 201::R)) 8 Z J (A4 H λw x=>?_);have H:=x.l5;refine AT [0,1,2,3] [0,3] [] (by exact H.pick 5 [0] Z) Z J Z (AE [4] J O (Am (Bt Z Z Z Z Z Z (λw=>call142 _ w) (QI pp mb n o _ _ a a8) H.f1 Z ?_)));rintro _ w _ ⟨rfl,rfl⟩ H;replace H:=H.l5;refine Ax (H.pick 5 [1] Z) (AT [5] [] [] (by exact H.pick 5 [1] Z) Z J Z (AE [6] J O (Am (Bj Z Z Z (Al 4 H Z Z Z Z (vs:=[.bool lf,.slice l ((kL es).length) m,.slice g ((vL es).length) f]) Z (by simp[u8,u32,Value.oneCell']) J O (out:=[.bool lf,.slice l ((kL es).length) m,.slice g ((vL es).length) f]) Z) ?_))));rintro w H;replace H:=H.l5;refine Ax (H.pick 5 [1] Z) (AT [7] [] [] (by exact H.pick 5 [1] Z) Z J Z (a_done J (gn (Zc 2 Z (Zl [4,3] H Z ?_)))));exact ⟨[grow 3 1 (.slice l ((kL es).length) m) ((kL es).length) ((kL es).map I),grow 3 1 (.slice g ((vL es).length) f) ((vL es).length) ((vL es).map I),trA Tb pp mb n o (some (⟨fup t.N c none,fup C a (C a-1),F,k2⟩,c::(vals es++Q)))],.inr ⟨_,c,.slice l ((kL es).length) m,.slice g ((vL es).length) f,ZE K.i hN b0 hI b8 a6 b4,Z,Z⟩,H.perm 5 [2,3,0] Z Z⟩
end
section
abbrev gK(v:Value)(es:List E):Ai:=grow 3 1 v (kL es).length ((kL es).map (Value.int .i64))
abbrev gV(v:Value)(es:List E):Ai:=grow 3 1 v (vL es).length ((vL es).map (Value.int .i64))
abbrev Gs(A:Ai)(kv:Value)(es:List E):Prop:=∀h,A h->rdH 1 kv (kL es).length ((kL es).map (Value.int .i64)) h
abbrev Gt(B:Ai)(vv:Value)(es:List E):Prop:=∀h,B h->rdH 1 vv (vL es).length ((vL es).map (Value.int .i64)) h
abbrev DD(lf:Bool)(k v:Value):Value:=.agg #[.bool lf,k,v]
theorem TP{B:List E}(b:∀e∈X,e.1<s)(d:∀e,B.head?=some e->s<=e.1):FdI (kL (X++B)) s X.length:=by
 refine ⟨by simp,λj x c a=>?_,λx a=>?_⟩
 ·simp only[kL,Aeq,Aeo c] at a
  cases h:X[j]? with
  | none=>rw[h] at a;cases a
  | some e=>rw[h] at a;simp at a;subst a;exact b e (Aee h)
 simp only[kL,Aeq,Aeu (Aek _),AgF] at a
 cases B with
 | nil=>simp at a
 | cons e t=>simp at a;subst a;exact d e Z
theorem fd_cases{es:List E}(h:Srt es)(key:Int):(∃X v Y_,es=X++(key,v)::Y_/\(∀e∈X,e.1<key)/\FdI (kL es) key X.length/\(kL es)[X.length]?=some key)\/(¬CE key es/\∃X Y_,es=X++Y_/\(∀e∈X,e.1<key)/\(∀e∈Y_,key<e.1)/\FdI (kL es) key X.length/\¬(kL es)[X.length]?=some key):=by
 rcases key_split h key with ⟨X,v,Y_,rfl,b⟩|⟨d,X,Y_,rfl,b,c⟩
 ·exact .inl ⟨X,v,Y_,Z,b,TP b (λe a=>by simp at a;subst a;exact Afo _),by simp[kL]⟩
 refine .inr ⟨d,X,Y_,Z,b,c,TP b (λe a=>?_),λq=>?_⟩
 ·cases Y_ with
  | nil=>cases a
  | cons y t=>simp at a;subst a;exact AgV (c y O)
 simp only[kL,Aeq,Aeu (Aek _),AgF] at q
 cases Y_ with
 | nil=>simp at q
 | cons y t=>simp at q;have:=c y O;omega
theorem RU{lf:Bool}{es:List E}{B:Ai}(j:Gs A u es)(k:Gt B y es)(e:CkN lf (kL es) (vL es))(hs:Srt es)(key:Int)(val:Nat)(n:(0<=key/\key<1048576)/\1<=val/\val<1024)(c:CE key es\/es.length<8):
  Aj 218 [DD lf u y,I key,I (val:Int)] [A,B] (λv G=>∃f g:Value,v=.tuple #[DD lf f g,I 0]/\G=[gK f (putE key val es),gV g (putE key val es),A,B]):=by
 have a:(0<=key/\key<1048576)/\1<=(val:Int)/\(val:Int)<1024:=by omega
 rcases fd_cases hs key with ⟨X,v0,Y_,rfl,d,i,b⟩|⟨m,X,Y_,rfl,d,l,i,b⟩
 ·have h:=Zx lf u y A B j k e key (val:Int) a X.length i b
  have e1:kL (putE key val (X++(key,v0)::Y_))=kL (X++(key,v0)::Y_):=by rw[Ee d];simp[kL]
  have e2:vL (putE key val (X++(key,v0)::Y_))=(vL (X++(key,v0)::Y_)).set X.length (val:Int):=by
   rw[Ee d];simp[vL,Af0]
  refine Cn.mono h ?_;rintro v Γ ⟨f,g,rfl,rfl⟩;refine ⟨f,g,Z,?_⟩;unfold gK gV;rw[e1,e2,AeW]
 have h:=Zz lf u y A B j k e key (val:Int) a X.length i b (by
  rcases c with q|q
  ·exact absurd q m
  simpa [kL] using q) (kL (putE key val (X++Y_))) (vL (putE key val (X++Y_))) (by rw[putE_new d l];simp[kL]) (by rw[putE_new d l];simp[vL])
 exact h
theorem AbW{lf:Bool}{es:List E}{B:Ai}(f:Gs A u es)(h:Gt B y es)(d:CkN lf (kL es) (vL es))(hs:Srt es)(key:Int)(val:Nat)(i:(0<=key/\key<1048576)/\1<=val/\val<1024)(c:¬CE key es)(j:es.length=8):
  Aj 218 [DD lf u y,I key,I (val:Int)] [A,B] (λv G=>v=.tuple #[DD false (.slice none 0 0) (.slice none 0 0),I 15]/\G=[A,B]):=by
 have b:(0<=key/\key<1048576)/\1<=(val:Int)/\(val:Int)<1024:=by omega
 rcases fd_cases hs key with ⟨X,v0,Y_,rfl,g,e,a⟩|⟨k,X,Y_,rfl,g,l,e,a⟩
 ·exact absurd ⟨v0,by simp⟩ c
 exact Zy lf u y A B f h d key (val:Int) b X.length e a (by simpa [kL] using j)
theorem OR{lf:Bool}{es:List E}{B:Ai}(d:Gs A u es)(f:Gt B y es)(h:es.length<=8)(hs:Srt es)(key:Int):
  Aj 133 [DD lf u y,I key] [A,B] (λv G=>(∃X v0 Y_,(es=X++(key,v0)::Y_/\∀e∈X,e.1<key)/\v=.tuple #[I (X.length:Int),.bool true]/\G=[A,B])\/(¬CE key es/\∃i:Nat,v=.tuple #[I (i:Int),.bool false]/\G=[A,B])):=by
 refine Cn.mono (JE lf u y _ _ A B d f key (by simpa [kL] using h)) ?_;rintro v Γ ⟨i,hi,rfl,rfl⟩;rcases fd_cases hs key with ⟨X,v0,Y_,e,c,b,a⟩|⟨g,X,Y_,_,c,j,b,a⟩
 ·obtain rfl:=hi.uniq b
  exact .inl ⟨X,v0,Y_,⟨e,c⟩,by rw[decide_eq_true a],Z⟩
 obtain rfl:=hi.uniq b;exact .inr ⟨g,_,by rw[decide_eq_false a],Z⟩
theorem Mh{lf:Bool}{es:List E}{B:Ai}(c:Gs A u es)(k:Gt B y es)(q:es.length<=8)(hs:Srt es)(b:es≠[])(key:Int):
  Aj 134 [DD lf u y,I key] [A,B] (λv G=>∃X e Y_,(es=X++e::Y_/\(X=[]\/e.1<=key)/\(∀x∈X,x.1<e.1)/\∀x∈Y_,key<x.1/\e.1<x.1)/\v=I (X.length:Int)/\G=[A,B]):=by
 refine Cn.mono (V7 lf u y A B c k key (by simpa [kL] using q)) ?_;rintro v Γ ⟨i,hi,rfl,rfl⟩;obtain ⟨X,e,Y_,f,r,l,n,s⟩:=PF hs b key;obtain ⟨U_,V,w,o,d,p⟩:=GZ hs key;have m:FcI (kL es) key U_.length:=by
  rw[w];refine ⟨by simp,λj x g a=>?_,λx a=>?_⟩
  ·simp only[kL,Aeq,Aeo g] at a
   cases h:U_[j]? with
   | none=>rw[h] at a;cases a
   | some e=>rw[h] at a;simp at a;subst a;exact d e (Aee h)
  simp only[kL,Aeq,Aeu (Aek _),AgF] at a
  cases V with
  | nil=>simp at a
  | cons e t=>simp at a;subst a;exact p e O
 obtain rfl:=hi.uniq m;refine ⟨X,e,Y_,⟨f,l,n,s⟩,?_,Z⟩;rw[r];unfold chI;rw[o]
theorem AbX{lf:Bool}{Y_:List E}{e:E}{B:Ai}(f:Gs A u (X++e::Y_))(g:Gt B y (X++e::Y_))(b:CkN lf (kL (X++e::Y_)) (vL (X++e::Y_)))(a:CkN lf (kL (X++Y_)) (vL (X++Y_))):
  Aj 184 [DD lf u y,I (X.length:Int)] [A,B] (λv G=>∃c d:Value,v=.tuple #[DD lf c d,I 0]/\G=[gK c (X++Y_),gV d (X++Y_),A,B]):=
 QE lf u y A B f g b X.length (by simp[kL]) (kL (X++Y_)) (vL (X++Y_)) (by simp[kL,Ae8]) (by simp[vL,Ae8]) a
theorem ZG{lf:Bool}{B:Ai}(g:Gs A u X)(h:Gt B y X)(b:CkN lf (kL X) (vL X))(a:X.length=8):
  Aj 219 [DD lf u y] [A,B] (λv G=>∃e f c d:Value,v=.tuple #[DD lf e f,DD lf c d,I 0]/\G=[gK e (X.take 4),gV f (X.take 4),gK c (X.drop 4),gV d (X.drop 4),A,B]):=
 V8 lf u y A B g h b (by simp[kL,a]) (kL (X.take 4)) (vL (X.take 4)) (kL (X.drop 4)) (vL (X.drop 4)) (by simp[kL,a,Afr]) (by simp[kL,vL,a,Afr]) (by simp[kL,a,AfW]) (by simp[kL,vL,a,AfW])
theorem Wj{es1 es2:List E}(hs:Srt (es1++es2)):∀x y:Int,(kL es1)[(kL es1).length-1]?=some x->(kL es2)[0]?=some y->x<y:=λx y e d=>by
 obtain ⟨a,f,rfl⟩:=Aem.1 (Aee e);obtain ⟨b,c,rfl⟩:=Aem.1 (Aee d);exact (Srt.app.1 hs).2.2 a f b c
variable{lf:Bool}{kv1 vv1 kv2 vv2:Value}{es1 es2:List E}{A1 B1 A2 B2:Ai}
theorem AbY(d:Gs A1 kv1 es1)(f:Gt B1 vv1 es1)(e:Gs A2 kv2 es2)(c:Gt B2 vv2 es2)(a:CkN lf (kL es1) (vL es1))(b:CkN lf (kL es2) (vL es2))(hs:Srt (es1++es2))(i:es1.length+es2.length<=8):
  Aj 222 [DD lf kv1 vv1,DD lf kv2 vv2] [A1,B1,A2,B2] (λv G=>∃h g:Value,v=.tuple #[DD lf h g,I 0]/\G=[gK h (es1++es2),gV g (es1++es2),A1,B1,A2,B2]):=
 Wa lf kv1 vv1 A1 B1 d f kv2 vv2 A2 B2 e c a b (Wj hs) (by simpa [kL] using i) (kL (es1++es2)) (vL (es1++es2)) (by simp[kL]) (by simp[vL])
theorem joinF_e(d:Gs A1 kv1 es1)(f:Gt B1 vv1 es1)(e:Gs A2 kv2 es2)(c:Gt B2 vv2 es2)(a:CkN lf (kL es1) (vL es1))(b:CkN lf (kL es2) (vL es2))(hs:Srt (es1++es2))(g:8<es1.length+es2.length):
  Aj 222 [DD lf kv1 vv1,DD lf kv2 vv2] [A1,B1,A2,B2] (λv G=>v=.tuple #[DD false (.slice none 0 0) (.slice none 0 0),I 15]/\G=[A1,B1,A2,B2]):=
 Wb lf kv1 vv1 A1 B1 d f kv2 vv2 A2 B2 e c a b (Wj hs) (by simpa [kL] using g)
abbrev FK(es1 es2:List E):Nat:=((es1++es2).length+1)/2
theorem ZH(e:Gs A1 kv1 es1)(g:Gt B1 vv1 es1)(f:Gs A2 kv2 es2)(d:Gt B2 vv2 es2)(a:CkN lf (kL es1) (vL es1))(b:CkN lf (kL es2) (vL es2))(hs:Srt (es1++es2))(n:8<es1.length+es2.length):
  Aj 223 [DD lf kv1 vv1,DD lf kv2 vv2] [A1,B1,A2,B2] (λv G=>∃k h i j:Value,v=.tuple #[DD lf k h,DD lf i j,I 0]/\G=[gK k ((es1++es2).take (FK es1 es2)),gV h ((es1++es2).take (FK es1 es2)),gK i ((es1++es2).drop (FK es1 es2)),gV j ((es1++es2).drop (FK es1 es2)),A1,B1,A2,B2]):=by
 have l:kL es1++kL es2=kL (es1++es2):=by simp[kL]
 have m:vL es1++vL es2=vL (es1++es2):=by simp[vL]
 have c:(kL (es1++es2)).length=(es1++es2).length:=by simp[kL]
 exact Wd lf kv1 vv1 A1 B1 e g kv2 vv2 A2 B2 f d a b (Wj hs) (by simp[kL];omega) (kL (es1++es2)) (vL (es1++es2)) l m (kL ((es1++es2).take (FK es1 es2))) (vL ((es1++es2).take (FK es1 es2))) (kL ((es1++es2).drop (FK es1 es2))) (vL ((es1++es2).drop (FK es1 es2)))
  (by rw[c];exact Afr.symm) (by rw[c];exact Afr.symm) (by rw[c];exact AfW.symm) (by rw[c];exact AfW.symm)
end
section
variable{Tb:Ai}
theorem Lh{N:Hm}{es a b:List E}{lf:Bool}(hs:Srt es)(f:Bd N n (putE p m es) s X)(o:B5 t s (putE p m es))(h:∀e∈putE p m es,0<=e.1/\e.1<1048576)(c:(vals (putE p m es)).Nodup)
  (e:putE p m es=a++b)(a4:4<=a.length)(a5:a.length<=5)(j:4<=b.length)(b5:b.length<=5):
  ∃L1 L2,X=L1++L2/\(Bd N n a (nx b s) L1/\Bd N n b s L2)/\(B5 t (nx b s) a/\B5 (nx b s) s b/\t<nx b s/\nx b s<s)/\((Nd.mk lf a).Ok/\(Nd.mk lf b).Ok)/\(vals a).Nodup/\(vals b).Nodup:=by
 have d:=Kk (k:=p) (v:=m) hs;rw[e] at f o h c d;obtain ⟨L1,L2,u,z,w⟩:=Bd.app.1 f;have i:a≠[]:=λq=>by rw[q] at a4;simp at a4
 have l:b≠[]:=λq=>by rw[q] at j;simp at j
 obtain ⟨y,r,_⟩:=Srt.app.1 d;have hv:vals (a++b)=vals a++vals b:=by simp[vals]
 rw[hv,Afb] at c;exact ⟨L1,L2,u,⟨z,w⟩,OO d o i l,⟨⟨y,by dsimp only;omega,λx g=>h x (by simp[g]),λ_=>i⟩,⟨r,by dsimp only;omega,λx g=>h x (by simp[g]),λ_=>l⟩⟩,c.1,c.2.1⟩
theorem MS(a:Nat){y:List E}(Q:List Nat):(a::(vals (X++y)++Q)).Perm (vals y++(a::(vals X++Q))):=by
 have b:vals (X++y)=vals X++vals y:=by simp[vals]
 rw[b,Aej];have c:(a::(vals X++(vals y++Q))).Perm (a::(vals y++(vals X++Q))):=Afl _ (by
  rw[<-Aej,<-Aej];exact Afz _ Af6)
 exact c.trans Afi.symm
theorem MT(r a:Nat)(Q:List Nat):(r::(a::(R++Q))).Perm (a::(R++(r::Q))):=
 (AfY _ _ _).trans (Afl _ Afi.symm)
theorem FF{hi:Int}(h:4<=X.length):(kL X)[0]?=some (nx X hi):=by
 cases X with
 | nil=>simp at h
 | cons e t=>rfl
theorem JH{t t1 t2:TS}{L2:List E}(c:St t t1 (n::(vals X++R)) 1 1)(b:Tr t1.N m r s q 4 L2)(a:St t1 t2 (r::R) 0 1):St t t2 R 1 2/\Tr t2.N m r s q 4 L2:=
 ⟨c.trans a (λp hp=>by simp[hp]) (λp hp=>by simp[hp]) U U,a.fr r O _ _ _ _ _ b⟩
theorem QK(h:CkN b (kL X) (vL X))(hs:Srt X)(d:0<(X.take 4).length):CkN b (kL (X.take 4)) (vL (X.take 4))/\Srt (X.take 4):=by
 have e:=AeP 4 X;have a:=hs;rw[<-e] at a;have g:X.length<=8:=by have:=h.l8;simpa [kL] using this
 refine ⟨CkN.of ⟨(Srt.app.1 a).1,by simp;omega,λx c=>?_,λ_ q=>by have q:X.take 4=[]:=q;rw[q] at d;simp at d⟩ (λv f=>?_),(Srt.app.1 a).1⟩
 ·exact h.k x.1 (AeB (Afh c))
 obtain ⟨x,c,rfl⟩:=Aem.1 f;have:=h.v (x.2:Int) (Aem.2 ⟨x,Afh c,Z⟩);omega
theorem QL(h:CkN b (kL X) (vL X))(hs:Srt X)(d:0<(X.drop 4).length):CkN b (kL (X.drop 4)) (vL (X.drop 4))/\Srt (X.drop 4):=by
 have e:=AeP 4 X;have a:=hs;rw[<-e] at a;have g:X.length<=8:=by have:=h.l8;simpa [kL] using this
 refine ⟨CkN.of ⟨(Srt.app.1 a).2.1,by simp;omega,λx c=>?_,λ_ q=>by have q:X.drop 4=[]:=q;rw[q] at d;simp at d⟩ (λv f=>?_),(Srt.app.1 a).2.1⟩
 ·exact h.k x.1 (AeB (Afw c))
 obtain ⟨x,c,rfl⟩:=Aem.1 f;have:=h.v (x.2:Int) (Aem.2 ⟨x,Afw c,Z⟩);omega
theorem ZI(hs:Srt X)(d:X.length=8){val:Nat}(c:¬CE t X)(h:nx (X.drop 4) 0<=t):putE t val X=X.take 4++putE t val (X.drop 4)/\4<=(putE t val (X.drop 4)).length/\(putE t val (X.drop 4)).length<=5:=by
 obtain ⟨a,b,e,_,_,g,f,i,_⟩:=ON (v:=val) hs d c;obtain ⟨rfl,rfl⟩:=i h;exact ⟨e,g,f⟩
theorem ZJ(hs:Srt X)(d:X.length=8){val:Nat}(c:¬CE t X)(h:t<nx (X.drop 4) 0):putE t val X=putE t val (X.take 4)++X.drop 4/\4<=(putE t val (X.take 4)).length/\(putE t val (X.take 4)).length<=5:=by
 obtain ⟨a,b,e,a4,a5,_,_,_,f⟩:=ON (v:=val) hs d c;obtain ⟨rfl,rfl⟩:=f h;exact ⟨e,a4,a5⟩
theorem AbZ(pp mb n:Nat)(o:TB)(t:TS)(Q:List Nat)(a:Nat)(lf:Bool)(kv y:Value)(es:List E)(A B:Ai)(u:∀h,A h->rdH 1 kv (kL es).length ((kL es).map I) h)(hB:∀h,B h->rdH 1 y (vL es).length ((vL es).map I) h)(key:Int)(val:Nat)(l:(0<=key/\key<1048576)/\1<=val/\val<1024)(s:CkN lf (kL es) (vL es))(hs:Srt es)(h:Nat)(lo hi:Int)(m:Nat)(L:List E)(r:Bd t.N h (putE key val es) hi L)(j:lf=decide (h=0))(f:B5 lo hi (putE key val es))(d:(vals (putE key val es)).Nodup)(hC:t.C a=1)(hN:t.N a=none)(hk:t.k<39)(hm:m<=(putE key val es).length)(c:(Nd.mk lf (putE key val es)).Ok)(b:CE key es\/es.length<8):Aj 182 [Y pp,I (a:Int),.agg #[.bool lf,kv,y],I key,I (val:Int)] [trA Tb pp mb n o (some (t,a::(vals (putE key val es)++Q))),A,B] (λv G=>∃t2:TS,(St t t2 Q 0 1/\Tr t2.N h a lo hi m L)/\v=.tuple #[.agg #[I (a:Int),I 0,I 0],I 0]/\G=[trA Tb pp mb n o (some (t2,a::Q)),A,B]):=by
 intro z R w H;replace H:=H.l3;obtain ⟨ka,kc,rfl⟩:=H.sy 1 (λq=>(u _ q).slc);obtain ⟨va,vc,rfl⟩:=H.sy 2 (λq=>(hB _ q).slc);refine Ae func182 Z ntmps182 Z (Za 2 [] H Z ?_);intro b1 w H;refine Za 0 [] H Z ?_;intro b2 w H;refine Z2 8 [1,3] H Z (Ar Z (call218 _) (RU u hB s hs key val l b) H.f4.f4 ?_);rintro _ w _ ⟨v3,x,rfl,rfl⟩ H;replace H:=H.l7;have g:=H.sy 0 (·.slc);have i:=H.sy 1 (·.slc);refine Za 3 [] H Z ?_;intro b5 w H;refine AC Z Z (Al 0 H Z Z Z Z (vs:=[.bool lf,v3,x]) Z (Ad Z (Ad g.one (Ad i.one Aw))) J O (out:=[.bool lf,v3,x]) Z) ?_;rintro w H;replace H:=H.l8;refine Z2 18 [3,0,3] H Z (Ar Z (call183 _) (F8 pp mb n o t Q a lf (putE key val es) (λh q=>q.rd) (λh q=>q.rd) h lo hi m L r j f hm c d hC hN U) H.f2.f2.f7 ?_);rintro _ w _ ⟨t2,⟨e,p,a1,a0⟩,rfl,rfl⟩ H;refine Z4 5 [6] H Z ?_;intro w H;refine Zl [6,3] H Z ?_;exact ⟨_,⟨t2,⟨e,p⟩,Z,Z⟩,H.perm 8 [0,4,5] Z Z⟩
set_option maxHeartbeats 2000000 in
theorem Ab0 (pp mb n:Nat) (o:TB) (t:TS) (Q:List Nat) (a:Nat) (lf:Bool) (kv vv:Value) (es:List E) (A B:Ai) (hA:∀h,A h->rdH 1 kv (kL es).length ((kL es).map I) h) (hB:∀h,B h->rdH 1 vv (vL es).length ((vL es).map I) h) (key:Int) (val:Nat) (c7:(0<=key/\key<1048576)/\1<=val/\val<1024) (i:CkN lf (kL es) (vL es)) (hs:Srt es) (h:Nat) (lo hi:Int) (m:Nat) (L:List E) (d2:Bd t.N h (putE key val es) hi L) (a0:lf=decide (h=0)) (c9:B5 lo hi (putE key val es)) (a3:(vals (putE key val es)).Nodup) (hC:t.C a=1) (hN:t.N a=none) (hk:t.k<39) (d1:∀e∈putE key val es,0<=e.1/\e.1<1048576) (a9:¬CE key es) (h8:es.length=8):Aj 182 [Y pp,I (a:Int),.agg #[.bool lf,kv,vv],I key,I (val:Int)] [trA Tb pp mb n o (some (t,a::(vals (putE key val es)++Q))),A,B] (λv G=>(cnt t.F 0 1024=0/\∃s:TS×List Nat,v=.tuple #[.agg #[I 0,I 0,I 0],I 20]/\G=[trA Tb pp mb n o (some s),A,B])\/∃(t2:TS) (kr:Int) (r:Nat) (L1 L2:List E),(St t t2 Q 1 2/\L=L1++L2/\lo<kr/\kr<hi/\Tr t2.N h a lo kr 4 L1/\Tr t2.N h r kr hi 4 L2)/\v=.tuple #[.agg #[I (a:Int),I kr,I (r:Int)],I 0]/\G=[trA Tb pp mb n o (some (t2,a::r::Q)),A,B]):=by
 intro z R w H;replace H:=H.l3;obtain ⟨ka,kc,rfl⟩:=H.sy 1 (λq=>(hA _ q).slc);obtain ⟨va,vc,rfl⟩:=H.sy 2 (λq=>(hB _ q).slc);refine Ae func182 Z ntmps182 Z (Za 2 [] H Z ?_);intro b1 w H;refine Za 0 [] H Z ?_;intro b2 w H;refine Z2 8 [1,3] H Z (z_E_ Z (call218 _) (AbW hA hB i hs key val c7 a9 h8) H.f4.f4 ?_);intro w H;refine Za 3 [] H Z ?_;intro b3 w H;refine Z4 27 [0,4,4,4,3] H Z ?_;intro w H;refine Ar Z (call219 _) (ZG hA hB i h8) H.f2.f2 ?_;rintro _ w _ ⟨v4,v5,v6,v7,rfl,rfl⟩ H;replace H:=H.l10;have e0:=H.sy 0 (·.slc);have e3:=H.sy 1 (·.slc);have d8:=H.sy 2 (·.slc);have d9:=H.sy 3 (·.slc);refine Za 4 [] H Z ?_;intro b8 w H;refine Za 0 [] H Z ?_;intro b9 w H;refine AC Z Z (Al 1 H Z Z Z Z (vs:=[.bool lf,v4,v5]) Z (Ad Z (Ad e0.one (Ad e3.one Aw))) J O (out:=[.bool lf,v4,v5]) Z) ?_;rintro w H;replace H:=H.l12;refine AC Z Z (Al 0 H Z Z Z Z (vs:=[.bool lf,v6,v7]) Z (Ad Z (Ad d8.one (Ad d9.one Aw))) J O (out:=[.bool lf,v6,v7]) Z) ?_;rintro w H;replace H:=H.l12;refine Z0 15 [4] Z ?_;obtain ⟨ak,a1,rfl⟩:=d8;have g:=(H.rv 4 (·.rd)).at (j:=0) (u:=I (nx (es.drop 4) 0)) (by rw[Aeq,FF (by rw[AeQ];omega)];rfl);refine Z2 4 [1,0,0] H Z (Ab Z (Ak Z (z:=1) (j:=0) (r:=0) J Z Z Z (by simp only[Aeh,AeQ];omega) g U) (Ab Z (Ay Z Z J (Az g)) (Z0 3 [0] Z (Af Z (λh1=>?_) (λh1=>?_)))))
 ·obtain ⟨d0,d,b5⟩:=ZI (val:=val) hs h8 a9 h1;refine Z2 4 [0,3] H Z (Ar Z (call218 _) (RU (λh q=>q.rd) (λh q=>q.rd) (QL i hs (by simp;omega)).1 (QL i hs (by simp;omega)).2 key val c7 (.inr (by simp;omega))) H.f5.f5 ?_);rintro _ w _ ⟨d3,c5,rfl,rfl⟩ H;replace H:=H.l14;have a2:=H.sy 0 (·.slc)
  have d6:=H.sy 1 (·.slc);refine Zc 3 Z (AC Z Z (Al 4 H Z Z Z Z (vs:=[.bool lf,d3,c5]) Z (Ad Z (Ad a2.one (Ad d6.one Aw))) J O (out:=[.bool lf,d3,c5]) Z) ?_);rintro w H;replace H:=H.l14;refine Z0 14 [4] Z ?_;obtain ⟨L1,L2,hL,⟨a5,c0⟩,⟨c1,c3,b6,b7⟩,⟨a7,c2⟩,a6,c4⟩:=Lh (lf:=lf) hs d2 c9 d1 a3 d0 (by simp;omega) (by simp;omega) d b5;replace H:=(H.mono 13 (B:=trA Tb pp mb n o (some (t,vals (putE key val (es.drop 4))++(a::(vals (es.take 4)++Q))))) Z (λh q=>q.perm (by rw[d0];exact MS a Q))).l14;refine Z2 3 [4,3] H Z (Ar Z (call139 _) (Ia pp mb n o t (a::(vals (es.take 4)++Q)) lf (putE key val (es.drop 4)) (λh q=>q.rd) (λh q=>q.rd) h (nx (putE key val (es.drop 4)) hi) hi 4 L2 c0 a0 c3 d c2 c4 U) H.f1.f1.f13 ?_);rintro _ w _ (⟨f,rfl,rfl⟩|⟨t1,r,⟨b,x,a8⟩,rfl,rfl⟩) y
  ·have H:=y.l14;refine Z4 24 [3,12] H Z ?_;intro w H;refine Zl [12,3] H Z ?_;exact ⟨_,.inl ⟨f,_,Z,Z⟩,H.perm 14 [0,9,10] Z Z⟩
  have H:=y.l14;have p:=a8 a O;refine Z0 18 [4] Z ?_;obtain ⟨bk,a4,rfl⟩:=a2;have l:=(H.rv 1 (·.rd)).at (j:=0) (u:=I (nx (putE key val (es.drop 4)) hi)) (by rw[Aeq,FF d];rfl);replace H:=(H.mono 0 (B:=trA Tb pp mb n o (some (t1,a::(vals (es.take 4)++(r::Q))))) Z (λh q=>q.perm (MT r a Q))).l14;replace H:=H.f1.f5.f6;refine AQ (Sep z (blk b8 [.bool lf,v4,v5] 201::blk b9 [.bool lf,.slice bk ((kL (putE key val (es.drop 4))).length) a4,c5] 201::grow 3 1 (.slice bk ((kL (putE key val (es.drop 4))).length) a4) ((kL (putE key val (es.drop 4))).length) ((kL (putE key val (es.drop 4))).map I)::R)) 13 Z J (A4 H λw y=>?_);have H:=y.l14;refine AT [0,1,2] [1,1,0] [] (by exact H.pick 14 [0,1,2] Z) Z J Z (BM 3 Z J J J Z Z Z (Ak Z (z:=1) (j:=0) (r:=0) J Z Z Z (by simp only[Aeh];first|omega|(rw[AeQ];omega)) l U) (H.pick 14 [0,1,2] Z) (BM 4 Z J J J Z Z Z (Ay Z Z J (λ_ b0=>(b0.rv 2 (·.rd)).at (j:=0) (u:=I (nx (putE key val (es.drop 4)) hi)) (by rw[Aeq,FF d];rfl))) (H.pick 14 [0,1,2] Z) ?_));refine AT [5,6,7,8,9] [0,3] [] (by exact H.pick 14 [0,1,2] Z) Z J Z (AE [10] J O (Am (Bt Z Z Z Z Z Z (λw=>call183 _ w) (F8 pp mb n o t1 (r::Q) a lf (es.take 4) (λh q=>q.rd) (λh q=>q.rd) h lo (nx (putE key val (es.drop 4)) hi) 4 L1 (b.bd (λv hv=>by simp[hv]) a5) a0 c1 (by simp;omega) a7 a6 (p.2.trans hC) (p.1.trans hN) (by have:=b.k;omega)) H.f8.f8.f5 Z ?_)));rintro _ w _ ⟨t2,⟨c,b4,e2,e1⟩,rfl,rfl⟩ H;replace H:=H.l14;refine Ax (H.pick 14 [3,4,5] Z) (AE [11] J O (Am (Bj Z Z Z (Al 12 H Z Z Z Z (vs:=[I (a:Int),I (nx (putE key val (es.drop 4)) hi),I (r:Int)]) Z (by simp[u8,u32,Value.oneCell']) J O (out:=[I (a:Int),I (nx (putE key val (es.drop 4)) hi),I (r:Int)]) Z) ?_)));rintro w H;replace H:=H.l14;refine Ax (H.pick 14 [3,4,5] Z) (AT [12] [] [] (by exact H.pick 14 [3,4,5] Z) Z J Z (a_done J (gn (Zc 2 Z (Zl [12,3] H Z ?_)))));exact ⟨_,.inr ⟨t2,nx (putE key val (es.drop 4)) hi,r,L1,L2,⟨(JH b x c).1,hL,b6,b7,b4,(JH b x c).2⟩,Z,Z⟩,H.perm 14 [0,9,10] Z Z⟩
 obtain ⟨d5,d,b5⟩:=ZJ (val:=val) hs h8 a9 U;refine Z2 4 [1,3] H Z (Ar Z (call218 _) (RU (λh q=>q.rd) (λh q=>q.rd) (QK i hs (by simp;omega)).1 (QK i hs (by simp;omega)).2 key val c7 (.inr (by simp;omega))) H.f3.f3 ?_);rintro _ w _ ⟨c6,c8,rfl,rfl⟩ H;replace H:=H.l14;have d7:=H.sy 0 (·.slc);have d4:=H.sy 1 (·.slc);refine Zc 3 Z (AC Z Z (Al 5 H Z Z Z Z (vs:=[.bool lf,c6,c8]) Z (Ad Z (Ad d7.one (Ad d4.one Aw))) J O (out:=[.bool lf,c6,c8]) Z) ?_);rintro w H;replace H:=H.l14;refine Z0 14 [4] Z ?_;obtain ⟨L1,L2,hL,⟨a5,c0⟩,⟨c1,c3,b6,b7⟩,⟨a7,c2⟩,a6,c4⟩:=Lh (lf:=lf) hs d2 c9 d1 a3 d5 d b5 (by simp;omega) (by simp;omega);replace H:=(H.mono 13 (B:=trA Tb pp mb n o (some (t,vals (es.drop 4)++(a::(vals (putE key val (es.take 4))++Q))))) Z (λh q=>q.perm (by rw[d5];exact MS a Q))).l14;refine Z2 3 [4,3] H Z (Ar Z (call139 _) (Ia pp mb n o t (a::(vals (putE key val (es.take 4))++Q)) lf (es.drop 4) (λh q=>q.rd) (λh q=>q.rd) h (nx (es.drop 4) hi) hi 4 L2 c0 a0 c3 (by simp;omega) c2 c4 U) H.f7.f7.f13 ?_);rintro _ w _ (⟨f,rfl,rfl⟩|⟨t1,r,⟨b,x,a8⟩,rfl,rfl⟩) y
 ·have H:=y.l14;refine Z4 24 [3,12] H Z ?_;intro w H;refine Zl [12,3] H Z ?_;exact ⟨_,.inl ⟨f,_,Z,Z⟩,H.perm 14 [0,9,10] Z Z⟩
 have H:=y.l14;have p:=a8 a O;refine Z0 18 [4] Z ?_;replace H:=(H.mono 0 (B:=trA Tb pp mb n o (some (t1,a::(vals (putE key val (es.take 4))++(r::Q))))) Z (λh q=>q.perm (MT r a Q))).l14;replace H:=H.f1.f7.f8;refine AQ (Sep z (blk b8 [.bool lf,c6,c8] 201::blk b9 [.bool lf,.slice ak ((kL (es.drop 4)).length) a1,v7] 201::grow 3 1 (.slice ak ((kL (es.drop 4)).length) a1) ((kL (es.drop 4)).length) ((kL (es.drop 4)).map I)::R)) 13 Z J (A4 H λw y=>?_);have H:=y.l14;refine AT [0,1,2] [1,1,0] [] (by exact H.pick 14 [0,1,2] Z) Z J Z (BM 3 Z J J J Z Z Z (Ak Z (z:=1) (j:=0) (r:=0) J Z Z Z (by simp only[Aeh];first|omega|(rw[AeQ];omega)) g U) (H.pick 14 [0,1,2] Z) (BM 4 Z J J J Z Z Z (Ay Z Z J (λ_ b0=>(b0.rv 2 (·.rd)).at (j:=0) (u:=I (nx (es.drop 4) hi)) (by rw[Aeq,FF (by simp;omega)];rfl))) (H.pick 14 [0,1,2] Z) ?_));refine AT [5,6,7,8,9] [0,3] [] (by exact H.pick 14 [0,1,2] Z) Z J Z (AE [10] J O (Am (Bt Z Z Z Z Z Z (λw=>call183 _ w) (F8 pp mb n o t1 (r::Q) a lf (putE key val (es.take 4)) (λh q=>q.rd) (λh q=>q.rd) h lo (nx (es.drop 4) hi) 4 L1 (b.bd (λv hv=>by simp[hv]) a5) a0 c1 d a7 a6 (p.2.trans hC) (p.1.trans hN) (by have:=b.k;omega)) H.f6.f6.f5 Z ?_)));rintro _ w _ ⟨t2,⟨c,b4,e2,e1⟩,rfl,rfl⟩ H;replace H:=H.l14;refine Ax (H.pick 14 [3,4,5] Z) (AE [11] J O (Am (Bj Z Z Z (Al 12 H Z Z Z Z (vs:=[I (a:Int),I (nx (es.drop 4) hi),I (r:Int)]) Z (by simp[u8,u32,Value.oneCell']) J O (out:=[I (a:Int),I (nx (es.drop 4) hi),I (r:Int)]) Z) ?_)));rintro w H;replace H:=H.l14;refine Ax (H.pick 14 [3,4,5] Z) (AT [12] [] [] (by exact H.pick 14 [3,4,5] Z) Z J Z (a_done J (gn (Zc 2 Z (Zl [12,3] H Z ?_)))));exact ⟨_,.inr ⟨t2,nx (es.drop 4) hi,r,L1,L2,⟨(JH b x c).1,hL,b6,b7,b4,(JH b x c).2⟩,Z,Z⟩,H.perm 14 [0,9,10] Z Z⟩
end
section
variable{Tb:Ai}
theorem BQ(X Y_:List E):vals (X++Y_)=vals X++vals Y_:=by simp[vals]
theorem Ca(e:E)(Y_:List E):vals (e::Y_)=e.2::vals Y_:=rfl
theorem ZK{key:Int}{es:List E}:putE key n es≠[]:=by
 cases es with
 | nil=>simp[putE]
 | cons e t=>simp only[putE];split;simp;split<;>simp
theorem Hj{es:List E}(hs:Srt es){key:Int}(val:Nat)(a:¬CE key es):(vals (putE key val es)).Perm (val::vals es)/\(putE key val es).length=es.length+1:=by
 rcases key_split hs key with ⟨X,v,Y_,rfl,_⟩|⟨_,X,Y_,rfl,b,c⟩
 ·exact absurd ⟨v,by simp⟩ a
 rw[putE_new b c,BQ,BQ,Ca];exact ⟨Afi,by simp;omega⟩
theorem Kn{es:List E}(hs:Srt es)(key:Int)(val:Nat):es.length<=(putE key val es).length/\(putE key val es).length<=es.length+1:=by
 rcases key_split hs key with ⟨X,v,Y_,rfl,a⟩|⟨b,X,Y_,e,a,c⟩
 ·rw[Ee a];simp
 have:=(Hj hs val b).2;omega
theorem OS{es:List E}(hs:Srt es){lo hi key:Int}(val:Nat)(c:B5 lo hi es)(a:lo<=key/\key<hi):B5 lo hi (putE key val es):=λx b=>by
 rcases (putE_mem hs x).1 b with rfl|⟨h,_⟩
 ·exact a
 exact c x h
theorem Tr.ne{N:Hm}{h r:Nat}{lo hi:Int}{L:List E}(t:Tr N h r lo hi m L)(d:1<=m):L≠[]:=by
 induction h generalizing r lo hi m L with
 | zero=>
  obtain ⟨es,_,a,_,_,rfl,_⟩:=t;intro q;rw[q] at a;simp at a;omega
 | succ h ih=>
  obtain ⟨es,_,a,_,_,b⟩:=t
  cases es with
  | nil=>simp at a;omega
  | cons e t=>
   obtain ⟨L1,L2,rfl,c,_⟩:=b;intro q;exact ih c U (List.append_eq_nil_iff.1 q).1
theorem Sq.nodup{N:Hm}{h:Nat}{es:List E}{hi:Int}{L:List E}(q:Sq (λc a b L=>Tr N h c a b 4 L) es hi L)(hs:Srt es)(o:∀e∈es,e.1<hi):(vals es).Nodup:=by
 induction es generalizing L with
 | nil=>simp[vals]
 | cons e t ih=>
  obtain ⟨L1,L2,rfl,g,m⟩:=q;obtain ⟨p,l⟩:=Srt.cons.1 hs;have k:∀x∈t,x.1<hi:=λx i=>o x (by simp[i]);rw[Ca,Afj];refine ⟨λn=>?_,ih m l k⟩;obtain ⟨x,i,d⟩:=Aem.1 n;obtain ⟨A,B,rfl⟩:=List.append_of_mem i;obtain ⟨_,Lc,_,_,_,j,_⟩:=Sq.at m;rw[d] at j;obtain ⟨_,rfl⟩:=g.uniq j;have f:=g.ne U;obtain ⟨y,u,rfl⟩:=AfH f;have a1:=g.srt.2 y O;have a2:=j.srt.2 y O;have a3:nx (A++x::B) hi<=x.1:=by
   cases A with
   | nil=>exact Afo _
   | cons z A=>exact AgV ((Srt.cons.1 l).1 x O)
  omega
theorem Bd.nodup{N:Hm}{h:Nat}{es:List E}{hi:Int}{L:List E}(q:Bd N (h+1) es hi L)(hs:Srt es)(a:∀e∈es,e.1<hi):(vals es).Nodup:=Sq.nodup q hs a
theorem Ab1{N:Hm}{h:Nat}{lo hi:Int}{L X Y_:List E}{e:E}{key:Int}(val:Nat)(hs:Srt (X++e::Y_))(g:B5 lo hi (X++e::Y_))(p:Bd N (h+1) (X++e::Y_) hi L)(m:X=[]\/e.1<=key)(k:∀x∈Y_,key<x.1/\e.1<x.1)(l:lo<=key/\key<hi):
  ∃L0 Lc L2,(Sq (λc a b L=>Tr N h c a b 4 L) X (min e.1 key) L0/\Tr N h e.2 (min e.1 key) (nx Y_ hi) 4 Lc/\Sq (λc a b L=>Tr N h c a b 4 L) Y_ hi L2)/\L=L0++(Lc++L2)/\putE key val L=L0++(putE key val Lc++L2)/\(lo<=min e.1 key/\min e.1 key<=key/\key<nx Y_ hi/\nx Y_ hi<=hi):=by
 obtain ⟨L0,Lc,L2,rfl,i,s,j⟩:=Sq.at p;have t:=g e O;have n:=XC (λx d=>(k x d).1) l.2;have f:nx Y_ hi<=hi:=RT (λx d=>(g x (by simp[d])).2);obtain ⟨r,o⟩:=Sq.sides hs (λx d=>(g x d).2) i j m (λx d=>(k x d).1) l.2;refine ⟨L0,Lc,L2,⟨i.nilK ?_,s.mono U (Afo _) (Aek _),j⟩,Z,?_,by omega,by omega,n,f⟩
 ·rcases m with q|q
  ·exact .inl q
  exact .inr U
 rw[putE_lt _ r,QH o]
theorem Ko{lo hi:Int}{X Y_:List E}{e:E}{k1:Int}(c:Nat)(hs:Srt (X++e::Y_))(h:B5 lo hi (X++e::Y_))(n:X=[]\/k1=e.1)(o:k1<=e.1)(m:lo<=k1):Srt (X++(k1,c)::Y_)/\B5 lo hi (X++(k1,c)::Y_):=by
 obtain ⟨l,j,i⟩:=Srt.app.1 hs;obtain ⟨k,s5⟩:=Srt.cons.1 j;refine ⟨Srt.app.2 ⟨l,Srt.cons.2 ⟨λx d=>by have:=k x d;dsimp only;omega,s5⟩,λa f b g=>?_⟩,λx d=>?_⟩
 ·rcases Aep.1 g with rfl|g
  ·rcases n with rfl|rfl
   ·simp at f
   exact i a f e O
  exact i a f b (by simp[g])
 rcases Aer.1 d with d|d
 ·exact h x (by simp[d])
 rcases Aep.1 d with rfl|d
 ·have:=h e O;dsimp only;omega
 exact h x (by simp[d])
theorem Wk{lo hi:Int}{X Y_:List E}{kr:Int}{c r:Nat}(hs:Srt (X++(s,c)::Y_))(i:s<kr)(d:kr<nx Y_ hi)(l:B5 lo hi (X++(s,c)::Y_))(k:nx Y_ hi<=hi):putE kr r (X++(s,c)::Y_)=X++(s,c)::(kr,r)::Y_/\¬CE kr (X++(s,c)::Y_)/\lo<=kr/\kr<hi:=by
 obtain ⟨n,h,j⟩:=Srt.app.1 hs;obtain ⟨m,s5⟩:=Srt.cons.1 h;have f:∀x∈X++[(s,c)],x.1<kr:=λx a=>by
  rcases Aer.1 a with a|a
  ·have:=j x a (s,c) O;dsimp only at this;omega
  simp at a;subst a;exact i
 have g:∀x∈Y_,kr<x.1:=λx a=>by
  cases Y_ with
  | nil=>simp at a
  | cons y t=>
   simp only[nx] at d;rcases Aep.1 a with rfl|a
   ·exact d
   have:=(Srt.cons.1 s5).1 x a;omega
 have e:X++(s,c)::Y_=(X++[(s,c)])++Y_:=by simp
 refine ⟨by rw[e,putE_new f g];simp,?_,by have:=(l (s,c) O).1;dsimp only at this;omega,by omega⟩;rintro ⟨v,b⟩;rw[e] at b;rcases Aer.1 b with b|b
 ·have:=f _ b;dsimp only at this;omega
 have:=g _ b;dsimp only at this;omega
theorem Nb{es:List E}(hs:Srt es){key:Int}{c:Nat}{Q:List Nat}(a:¬CE key es):(c::(vals es++(n::Q))).Perm (c::(vals (putE key n es)++Q)):=
 Afl _ (Afi.trans (Afz Q (Hj hs n a).1.symm))
theorem Nc{X Y_:List E}{key:Int}{c:Nat}{Q:List Nat}(h:∀e∈X,e.1<key):(c::(vals (X++(key,m)::Y_)++(n::Q))).Perm (m::(c::(vals (putE key n (X++(key,m)::Y_))++Q))):=by
 rw[Ee h,BQ,BQ,Ca,Ca];have d:(vals X++m::vals Y_++n::Q).Perm (m::(vals X++vals Y_++n::Q)):=by
  have:(vals X++m::vals Y_).Perm (m::(vals X++vals Y_)):=Afi;exact Afz _ this
 have f:(vals X++vals Y_++n::Q).Perm (vals X++n::vals Y_++Q):=by
  have a:(vals X++vals Y_++n::Q).Perm (n::(vals X++vals Y_++Q)):=Afi;have b:(vals X++n::vals Y_++Q).Perm (n::(vals X++vals Y_++Q)):=Afz Q Afi;exact a.trans b.symm
 exact ((Afl c d).trans (AfY _ _ _)).trans (Afl _ (Afl _ f))
theorem ZL{X Y_:List E}{e:E}{c:Nat}{Q:List Nat}:(c::(vals (X++e::Y_)++(n::Q))).Perm (e.2::n::(c::(vals X++(vals Y_++Q)))):=by
 rw[BQ,Ca];have d:(vals X++e.2::vals Y_++n::Q).Perm (e.2::n::(vals X++(vals Y_++Q))):=by
  have a:(vals X++e.2::vals Y_++n::Q).Perm (e.2::(vals X++vals Y_++n::Q)):=Afz (n::Q) Afi;have b:(vals X++vals Y_++n::Q).Perm (n::(vals X++vals Y_++Q)):=Afi;rw[<-Aej];exact a.trans (Afl _ b)
 exact (Afl c d).trans ((AfY _ _ _).trans (Afl _ (AfY _ _ _)))
theorem OT{X Y_:List E}{c c2:Nat}{Q:List Nat}:(c2::(c::(vals X++(vals Y_++Q)))).Perm (c::(vals (X++(t,c2)::Y_)++Q)):=by
 rw[BQ,Ca];refine (AfY _ _ _).trans (Afl _ ?_);have:(vals X++c2::vals Y_++Q).Perm (c2::(vals X++vals Y_++Q)):=Afz Q Afi;rw[<-Aej];exact this.symm
theorem TQ{X Y_:List E}{kr:Int}{c c2 r:Nat}{Q:List Nat}:(c2::r::(c::(vals X++(vals Y_++Q)))).Perm (c::(vals (X++(t,c2)::(kr,r)::Y_)++Q)):=by
 have a:(r::(c::(vals X++(vals Y_++Q)))).Perm (c::(vals (X++(kr,r)::Y_)++Q)):=OT;refine (Afl c2 a).trans ((AfY _ _ _).trans (Afl _ ?_));rw[BQ,BQ,Ca,Ca,Ca];have:(vals X++c2::(r::vals Y_)++Q).Perm (c2::(vals X++(r::vals Y_)++Q)):=Afz Q Afi;exact this.symm
theorem Wl{N:Hm}{es:List E}{lo hi:Int}{key:Int}(hs:Srt es)(k:B5 lo hi es)(i:lo<=key/\key<hi)(h:∀e∈es,∃B,N e.2=some (.dt B))(j:N n=some (.dt B))(b:(vals es).Nodup)(a:n∉vals es):
  Bd N 0 (putE key n es) hi (putE key n es)/\B5 lo hi (putE key n es)/\(vals (putE key n es)).Nodup:=by
 refine ⟨⟨Z,λe d=>?_⟩,OS hs n k i,?_⟩
 ·rcases (putE_mem hs e).1 d with rfl|⟨c,_⟩
  ·exact ⟨B,j⟩
  exact h e c
 rcases key_split hs key with ⟨X,v,Y_,rfl,c⟩|⟨g,X,Y_,rfl,c,l⟩
 ·rw[Ee c,BQ,Ca]
  rw[BQ,Ca] at b a;simp only[Aer,Aep,not_or] at a;have f:(n::(vals X++vals Y_)).Nodup:=Afj.2 ⟨by simp[a.1,a.2.2],(Afj.1 (Afi.nodup_iff.1 b)).2⟩;exact Afi.nodup_iff.2 f
 exact (Hj hs n g).1.nodup_iff.2 (Afj.2 ⟨a,b⟩)
theorem JI{lo hi:Int}{es:List E}(b:B5 lo hi es)(d:0<=lo)(c:hi<=1048576):∀e∈es,0<=e.1/\e.1<1048576:=λe a=>by have:=b e a;omega
theorem RV(pp mb n:Nat)(o:TB)(t:TS)(Q:List Nat)(a:Nat)(lf:Bool)(es:List E){B:Ai}(p:Gs A u es)(w:Gt B y es)(key:Int)(val:Nat)(g:(0<=key/\key<1048576)/\1<=val/\val<1024)(d:CkN lf (kL es) (vL es))(hs:Srt es)(h:Nat)(lo hi:Int)(m:Nat)(L:List E)(i:Bd t.N h (putE key val es) hi L)(f:lf=decide (h=0))(c:B5 lo hi (putE key val es))(b:(vals (putE key val es)).Nodup)(hC:t.C a=1)(hN:t.N a=none)(x:t.k<39)
  (hm:m<=(putE key val es).length)(l:0<=lo)(j:hi<=1048576):
  Aj 182 [Y pp,I (a:Int),DD lf u y,I key,I (val:Int)] [trA Tb pp mb n o (some (t,a::(vals (putE key val es)++Q))),A,B] (λv G=>(cnt t.F 0 1024=0/\∃s:TS×List Nat,v=.tuple #[.agg #[I 0,I 0,I 0],I 20]/\G=[trA Tb pp mb n o (some s),A,B])\/(∃t2:TS,(St t t2 Q 1 2/\Tr t2.N h a lo hi m L)/\v=.tuple #[.agg #[I (a:Int),I 0,I 0],I 0]/\G=[trA Tb pp mb n o (some (t2,a::Q)),A,B])\/
   ∃(t2:TS) (kr:Int) (r:Nat) (z L2:List E),(St t t2 Q 1 2/\L=z++L2/\lo<kr/\kr<hi/\Tr t2.N h a lo kr 4 z/\Tr t2.N h r kr hi 4 L2)/\v=.tuple #[.agg #[I (a:Int),I kr,I (r:Int)],I 0]/\G=[trA Tb pp mb n o (some (t2,a::r::Q)),A,B]):=by
 have e:=JI c l j;have h8:es.length<=8:=by have:=d.l8;simpa [kL] using this
 by_cases hf:CE key es\/es.length<8
 ·have hl:(putE key val es).length<=8:=by
   rcases hf with q|q
   ·rcases key_split hs key with ⟨X,v,Y_,rfl,j⟩|⟨l,_⟩
    ·rw[Ee j];simpa using h8
    exact absurd q l
   have:=(Kn hs key val).2;omega
  refine Cn.mono (AbZ pp mb n o t Q a lf u y es A B p w key val g d hs h lo hi m L i f c b hC hN x hm ⟨Kk hs,hl,e,λ_=>ZK⟩ hf) ?_;rintro v Γ ⟨t2,⟨a1,a2⟩,rfl,rfl⟩;exact .inr (.inl ⟨t2,⟨a1.sub (λ_ q=>q) U U,a2⟩,Z,Z⟩)
 simp only[not_or] at hf;refine Cn.mono (Ab0 pp mb n o t Q a lf u y es A B p w key val g d hs h lo hi m L i f c b hC hN x e hf.1 U) ?_;rintro v Γ (q|q)
 ·exact .inl q
 exact .inr (.inr q)
structure InsPre(n:Nat)(t:TS)(Q:List Nat)(a h:Nat)(lo hi:Int)(m:Nat)(key:Int)(val:Nat)(L:List E):Prop where
 T:Tr t.N h a lo hi m L
 kk:lo<=key/\key<hi
 l0:0<=lo
 h1:hi<=1048576
 dt:∃b,t.N val=some (.dt b)
 nv:∀q d,t.N q=some (.nd d)->val∉vals d.es
 hk:t.k+3*h+3<40
 hb:Q.length+10*h+12+n<=980
abbrev JJ(Tb:Ai)(pp mb n:Nat)(o:TB)(t:TS)(Q:List Nat)(h:Nat)(lo hi:Int)(m:Nat)(key:Int)(val:Nat)(L:List E)(v:Value)(Γ:List Ai):Prop:=
 (cnt t.F 0 1024<=2*h+1/\∃s:TS×List Nat,v=.tuple #[.agg #[.int .i64 0,.int .i64 0,.int .i64 0],.int .i64 20]/\Γ=[trA Tb pp mb n o (some s)])\/
 (∃(t2:TS) (c:Nat),(St t t2 Q (2*h+2) (3*h+3)/\Tr t2.N h c lo hi m (putE key val L))/\v=.tuple #[.agg #[.int .i64 (c:Int),.int .i64 0,.int .i64 0],.int .i64 0]/\Γ=[trA Tb pp mb n o (some (t2,c::Q))])\/
 ∃(t2:TS) (c:Nat) (kr:Int) (r:Nat) (L1 L2:List E),(St t t2 Q (2*h+2) (3*h+3)/\putE key val L=L1++L2/\lo<kr/\kr<hi/\Tr t2.N h c lo kr 4 L1/\Tr t2.N h r kr hi 4 L2)/\v=.tuple #[.agg #[.int .i64 (c:Int),.int .i64 kr,.int .i64 (r:Int)],.int .i64 0]/\Γ=[trA Tb pp mb n o (some (t2,c::r::Q))]
variable{t1 t2:TS}{X Y_ Q':List E}{e:E}{Q:List Nat}{c c2 r h d1 d2:Nat}{lo hi key kr:Int}{L0 Lc L2 M1 M2:List E}
theorem MU(S:St t1 t2 (c::(vals X++(vals Y_++Q))) d1 d2)(f:Sq (λc a b L=>Tr t1.N h c a b 4 L) X (min e.1 key) L0)(g:Sq (λc a b L=>Tr t1.N h c a b 4 L) Y_ hi L2):Sq (λc a b L=>Tr t2.N h c a b 4 L) X (min e.1 key) L0/\Sq (λc a b L=>Tr t2.N h c a b 4 L) Y_ hi L2:=
 ⟨Sq.imp f λx d _ _ q=>S.fr _ (by simp[AeB d,vals]) _ _ _ _ _ q,Sq.imp g λx d _ _ q=>S.fr _ (by simp[AeB d,vals]) _ _ _ _ _ q⟩
theorem ZM(S:St t1 t2 (c::(vals X++(vals Y_++Q))) d1 d2)(d:Sq (λc a b L=>Tr t1.N h c a b 4 L) X (min e.1 key) L0)(g:Sq (λc a b L=>Tr t1.N h c a b 4 L) Y_ hi L2)(k:Tr t2.N h c2 (min e.1 key) (nx Y_ hi) 4 Lc)(hs:Srt (X++e::Y_))(n:B5 lo hi (X++e::Y_))(m:X=[]\/e.1<=key)(i:lo<=min e.1 key):
  Bd t2.N (h+1) (X++(min e.1 key,c2)::Y_) hi (L0++(Lc++L2))/\(Srt (X++(min e.1 key,c2)::Y_)/\B5 lo hi (X++(min e.1 key,c2)::Y_))/\(vals (X++(min e.1 key,c2)::Y_)).Nodup:=by
 obtain ⟨a,b⟩:=MU S d g;have f:=Ko c2 hs n (k1:=min e.1 key) (m.imp id (λq=>by omega)) U i;have j:Bd t2.N (h+1) (X++(min e.1 key,c2)::Y_) hi (L0++(Lc++L2)):=Sq.mk a k b;exact ⟨j,f,j.nodup f.1 (λx l=>(f.2 x l).2)⟩
theorem ZN(S:St t1 t2 (c::(vals X++(vals Y_++Q))) d1 d2)(j:Sq (λc a b L=>Tr t1.N h c a b 4 L) X (min e.1 key) L0)(m:Sq (λc a b L=>Tr t1.N h c a b 4 L) Y_ hi L2)(y:Tr t2.N h c2 (min e.1 key) kr 4 M1)(o:Tr t2.N h r kr (nx Y_ hi) 4 M2)(hs:Srt (X++e::Y_))(z:B5 lo hi (X++e::Y_))(hX:X=[]\/e.1<=key)(s:lo<=min e.1 key)(p:min e.1 key<kr)(n:kr<nx Y_ hi)(t:nx Y_ hi<=hi):
  (Srt (X++(min e.1 key,c2)::Y_))/\putE kr r (X++(min e.1 key,c2)::Y_)=X++(min e.1 key,c2)::(kr,r)::Y_/\Bd t2.N (h+1) (putE kr r (X++(min e.1 key,c2)::Y_)) hi (L0++((M1++M2)++L2))/\B5 lo hi (putE kr r (X++(min e.1 key,c2)::Y_))/\(vals (putE kr r (X++(min e.1 key,c2)::Y_))).Nodup/\lo<=kr/\kr<hi:=by
 obtain ⟨a,b⟩:=MU S j m;have d:=Ko c2 hs z (k1:=min e.1 key) (hX.imp id (λq=>by omega)) U s;obtain ⟨hp,_,g,f⟩:=Wk (r:=r) d.1 p n d.2 t;have i:=OS d.1 r d.2 ⟨g,f⟩;have l:=Kk (k:=kr) (v:=r) d.1;have u:Bd t2.N (h+1) (putE kr r (X++(min e.1 key,c2)::Y_)) hi (L0++((M1++M2)++L2)):=by
  rw[hp];have:L0++((M1++M2)++L2)=L0++(M1++(M2++L2)):=by simp
  rw[this];exact Sq.mk (e:=(min e.1 key,c2)) (B:=(kr,r)::Y_) a y ⟨M2,L2,Z,o,b⟩
 exact ⟨d.1,hp,u,i,u.nodup l (λx w=>(i x w).2),g,f⟩
theorem Wm(b:B5 lo hi (X++e::Y_))(d:lo<=min e.1 key):∀x∈X++(min e.1 key,c)::Y_,lo<=x.1/\x.1<hi:=λx a=>by
 rcases Aer.1 a with a|a
 ·exact b x (by simp[a])
 rcases Aep.1 a with rfl|a
 ·have:=b e O;dsimp only;omega
 exact b x (by simp[a])
end
section
variable{Tb:Ai}
set_option maxHeartbeats 2000000 in
theorem Ab2 (pp mb n:Nat) (o:TB) (t:TS) (Q:List Nat) (a:Nat) (lo hi:Int) (m:Nat) (key:Int) (val:Nat) (L:List E) (hP:InsPre n t Q a 0 lo hi m key val L):Aj 140 [Y pp,I (a:Int),I key,I (val:Int)] [trA Tb pp mb n o (some (t,a::val::Q))] (λv G=>JJ Tb pp mb n o t Q 0 lo hi m key val L v G):=by
 intro z R w H;replace H:=H.l1;have K:=H.says 0 Z (λh a=>trA.k a);have hn:=K.hn;have c5:=hP.kk;have h0:=hP.l0;have a0:=hP.h1;have c4:=hP.nv;have d0:=hP.hk;have d5:=hP.hb;obtain ⟨b,b9⟩:=hP.dt;have d6:=K.i.rin val (by simp[CV]);obtain ⟨es,hN,hm,c0,l,a8,b0⟩:=hP.T;have b2:CkN true (kL es) (vL es):=K.i.vok U hn.2 hN;have c6:=(K.i.nds a _ hN).2.1;have b7:(0<=key/\key<1048576)/\1<=val/\val<1024:=by omega
 obtain rfl:es=L:=a8.symm;refine Ae func140 Z ntmps140 Z (Za 2 [] H Z ?_);intro b1 w H;refine Zc 7 Z (Ar Z (call181 _) (JG pp mb n o t (val::Q) a true es hN U (by simp only[Aei];omega)) H.f1 ?_);rintro _ w _ (⟨c7,v2,v3,s,rfl,rfl⟩|⟨t1,c,v2,v3,O_,rfl,rfl⟩) H'
 ·have H:=H'.l4;have a4:=H.sy 0 (·.slc)
  have a2:=H.sy 1 (·.slc);refine Za 4 [] H Z ?_;intro b4 w H;refine Zc 1 Z (AC Z Z (Al 0 H Z Z Z Z (vs:=[.bool true,v2,v3]) Z (Ad Z (Ad a4.one (Ad a2.one Aw))) J O (out:=[.bool true,v2,v3]) Z) ?_);rintro w H;replace H:=H.l5;refine Z4 20 [3,4] H Z ?_;intro w H;refine Zl [4,3] H Z ?_;exact ⟨_,.inl ⟨U,_,Z,Z⟩,H.perm 5 [3] Z Z⟩
 have H:=H'.l4;have a4:=H.sy 0 (·.slc);have a2:=H.sy 1 (·.slc);refine Za 4 [] H Z ?_;intro b5 w H;refine Zc 1 Z (AC Z Z (Al 0 H Z Z Z Z (vs:=[.bool true,v2,v3]) Z (Ad Z (Ad a4.one (Ad a2.one Aw))) J O (out:=[.bool true,v2,v3]) Z) ?_);rintro w H;replace H:=H.l5;refine Z0 15 [4] Z ?_;obtain ⟨b3,b8,a9⟩:=Wl (N:=t1.N) l.srt c0 c5 (λe he=>by obtain ⟨b,hb⟩:=b0 e he;exact ⟨b,O_.dv _ (AeB he) b hb⟩) (O_.st.dt val O b b9) c6 (c4 a _ hN);refine Z2 11 [0,0,0,0,3] H Z (Ar Z (call133 _) (OR (es:=es) (λh q=>q.rd) (λh q=>q.rd) l.len l.srt key) H.f2.f2 ?_);rintro _ w _ (⟨X,v0,Y_,⟨a1,hX⟩,rfl,rfl⟩|⟨c3,i0,rfl,rfl⟩) H'
 ·have H:=H'.l5;refine Zc 14 Z ?_;have c1:∀d,t1.N v0≠some (.nd d):=λd q=>by obtain ⟨b,hb⟩:=b0 (key,v0) (by rw[a1];simp);rw[O_.dv v0 (by rw[a1];simp[vals]) b hb] at q;cases q
  obtain ⟨d7,c9,rfl⟩:=a2;have b6:=(H.rv 1 (·.rd)).at (j:=X.length) (u:=I (v0:Int)) (by rw[a1];simp[vL]);replace H:=(H.mono 3 (B:=trA Tb pp mb n o (some (t1,v0::(c::(vals (putE key val es)++Q))))) Z (λh q=>q.perm (by rw[a1];exact Nc hX))).l5;refine Z2 5 [2,2,0] H Z (Ab Z (Ak Z (z:=1) (j:=X.length) (r:=X.length) J Z Z Z (by rw[a1];simp) b6 U) (Ab Z (Ay Z Z J (Az b6)) (Ar Z (call142 _) (G0 pp mb n o t1 v0 c1) H.f3 ?_)));rintro _ w _ ⟨t2,⟨y,d1,d4,d3,d2⟩,rfl,rfl⟩ H;refine Z2 19 [4,3,3] H Z (Ar Z (call182 _) (RV pp mb n o t2 Q c true es (λh q=>q.rd) (λh q=>q.rd) key val b7 b2 l.srt 0 lo hi m (putE key val es) (y.bd (λv hv=>by simp[hv]) b3) Z b8 a9 (y.op c O O_.N0 O_.C1).2 (y.op c O O_.N0 O_.C1).1 (by have:=O_.st.k;have:=y.k;omega) (by have:=(Kn (es:=es) l.srt key val).1;omega) h0 a0) H ?_);rintro _ w _ (⟨c2,s3,rfl,rfl⟩|⟨t3,⟨g,x⟩,rfl,rfl⟩|⟨t3,c8,r3,L3,L4,⟨g,a7,a6,a5,x,a3⟩,rfl,rfl⟩) H'
  ·have H:=H'.l5;refine Z4 7 [4] H Z ?_;intro w H;refine Zl [4,3] H Z ?_;exact ⟨_,.inl ⟨(by have:=O_.st.f;have:=y.f;omega),_,Z,Z⟩,H.perm 5 [0] Z Z⟩
  ·have H:=H'.l5;refine Z4 7 [4] H Z ?_;intro w H;refine Zl [4,3] H Z ?_;exact ⟨_,.inr (.inl ⟨_,c,⟨((O_.st.sub (λp hp=>by simp[hp]) (Aek _) (Aek _)).trans y (R:=Q) (R1:=Q) (λp hp=>hp) (λp hp=>by simp[hp]) (e:=1) (f:=1) U U).trans g (λp hp=>hp) (λp hp=>hp) U U,x⟩,Z,Z⟩),H.perm 5 [0] Z Z⟩
  have H:=H'.l5;refine Z4 7 [4] H Z ?_;intro w H;refine Zl [4,3] H Z ?_;exact ⟨_,.inr (.inr ⟨_,c,_,_,_,_,⟨((O_.st.sub (λp hp=>by simp[hp]) (Aek _) (Aek _)).trans y (R:=Q) (R1:=Q) (λp hp=>hp) (λp hp=>by simp[hp]) (e:=1) (f:=1) U U).trans g (λp hp=>hp) (λp hp=>hp) U U,a7,a6,a5,x,a3⟩,Z,Z⟩),H.perm 5 [0] Z Z⟩
 have H:=H'.l5;refine Zc 16 Z ?_;replace H:=(H.mono 3 (B:=trA Tb pp mb n o (some (t1,c::(vals (putE key val es)++Q)))) Z (λh q=>q.perm (Nb l.srt c3))).l5;refine Z2 6 [2,3] H Z (Ar Z (call182 _) (RV pp mb n o t1 Q c true es (λh q=>q.rd) (λh q=>q.rd) key val b7 b2 l.srt 0 lo hi m (putE key val es) b3 Z b8 a9 O_.C1 O_.N0 (by have:=O_.st.k;omega) (by have:=(Kn (es:=es) l.srt key val).1;omega) h0 a0) H.f1.f1.f3 ?_);rintro _ w _ (⟨c2,s3,rfl,rfl⟩|⟨t3,⟨g,x⟩,rfl,rfl⟩|⟨t3,c8,r3,L3,L4,⟨g,a7,a6,a5,x,a3⟩,rfl,rfl⟩) H'
 ·have H:=H'.l5;refine Z4 7 [4] H Z ?_;intro w H;refine Zl [4,3] H Z ?_;exact ⟨_,.inl ⟨(by have:=O_.st.f;omega),_,Z,Z⟩,H.perm 5 [0] Z Z⟩
 ·have H:=H'.l5;refine Z4 7 [4] H Z ?_;intro w H;refine Zl [4,3] H Z ?_;exact ⟨_,.inr (.inl ⟨_,c,⟨(O_.st.sub (λp hp=>by simp[hp]) (Aek _) (Aek _)).trans g (R:=Q) (R1:=Q) (λp hp=>hp) (λp hp=>hp) U U,x⟩,Z,Z⟩),H.perm 5 [0] Z Z⟩
 have H:=H'.l5;refine Z4 7 [4] H Z ?_;intro w H;refine Zl [4,3] H Z ?_;exact ⟨_,.inr (.inr ⟨_,c,_,_,_,_,⟨(O_.st.sub (λp hp=>by simp[hp]) (Aek _) (Aek _)).trans g (R:=Q) (R1:=Q) (λp hp=>hp) (λp hp=>hp) U U,a7,a6,a5,x,a3⟩,Z,Z⟩),H.perm 5 [0] Z Z⟩
set_option maxHeartbeats 4000000 in
theorem Ab3 (pp mb n:Nat) (o:TB) (t:TS) (Q:List Nat) (h:Nat) (ih:∀(t:TS) (Q:List Nat) (a:Nat) (lo hi:Int) (m:Nat) (key:Int) (val:Nat) (L:List E),InsPre n t Q a h lo hi m key val L->Aj 140 [Y pp,I (a:Int),I key,I (val:Int)] [trA Tb pp mb n o (some (t,a::val::Q))] (λv G=>JJ Tb pp mb n o t Q h lo hi m key val L v G)) (a:Nat) (lo hi:Int) (m:Nat) (key:Int) (val:Nat) (L:List E) (hP:InsPre n t Q a (h+1) lo hi m key val L):Aj 140 [Y pp,I (a:Int),I key,I (val:Int)] [trA Tb pp mb n o (some (t,a::val::Q))] (λv G=>JJ Tb pp mb n o t Q (h+1) lo hi m key val L v G):=by
 intro z R w H;replace H:=H.l1;have K:=H.says 0 Z (λh a=>trA.k a);have f4:=hP.kk;have h0:=hP.l0;have a4:=hP.h1;have g0:=hP.nv;have i5:=hP.hk;have i0:=hP.hb;obtain ⟨b,f6⟩:=hP.dt;obtain ⟨es,hN,hm,f7,a7,g2⟩:=hP.T;refine Ae func140 Z ntmps140 Z (Za 2 [] H Z ?_);intro b1 w H;refine Zc 7 Z (Ar Z (call181 _) (JG pp mb n o t (val::Q) a false es hN U (by simp only[Aei];omega)) H.f1 ?_);rintro _ w _ (⟨g6,v2,v3,s,rfl,rfl⟩|⟨t1,c,v2,v3,O_,rfl,rfl⟩) H'
 ·have H:=H'.l4;have c6:=H.sy 0 (·.slc)
  have b2:=H.sy 1 (·.slc);refine Za 4 [] H Z ?_;intro b4 w H;refine Zc 1 Z (AC Z Z (Al 0 H Z Z Z Z (vs:=[.bool false,v2,v3]) Z (Ad Z (Ad c6.one (Ad b2.one Aw))) J O (out:=[.bool false,v2,v3]) Z) ?_);rintro w H;replace H:=H.l5;refine Z4 20 [3,4] H Z ?_;intro w H;refine Zl [4,3] H Z ?_;exact ⟨_,.inl ⟨U,_,Z,Z⟩,H.perm 5 [3] Z Z⟩
 have H:=H'.l4;have c6:=H.sy 0 (·.slc);have b2:=H.sy 1 (·.slc);refine Za 4 [] H Z ?_;intro b5 w H;refine Zc 1 Z (AC Z Z (Al 0 H Z Z Z Z (vs:=[.bool false,v2,v3]) Z (Ad Z (Ad c6.one (Ad b2.one Aw))) J O (out:=[.bool false,v2,v3]) Z) ?_);rintro w H;replace H:=H.l5;refine Z2 27 [4,0,0,0,0,3] H Z (Ar Z (call134 _) (Mh (es:=es) (λh q=>q.rd) (λh q=>q.rd) a7.len a7.srt (a7.ne Z) key) H.f2.f2 ?_);rintro _ w _ ⟨X,e,Y_,⟨g,hX,h3,hY⟩,rfl,rfl⟩ H;refine Zc 4 Z ?_;obtain ⟨i8,e3,rfl⟩:=b2;have d9:=(H.rv 1 (·.rd)).at (j:=X.length) (u:=I (e.2:Int)) (by rw[g];simp[vL]);replace H:=(H.mono 3 (B:=trA Tb pp mb n o (some (t1,e.2::val::(c::(vals X++(vals Y_++Q)))))) Z (λh q=>q.perm (by rw[g];exact ZL))).l5;have c3:Srt (X++e::Y_):=by rw[<-g];exact a7.srt
 have b0:B5 lo hi (X++e::Y_):=by rw[<-g];exact f7
 obtain ⟨L0,Lc,L2,⟨d5,g5,d7⟩,h7,e0,c0,g1,f0,e8⟩:=Ab1 val c3 b0 (by rw[<-g];exact O_.bd g2) hX hY f4;have i4:(vals X).length+(vals Y_).length+1=es.length:=by rw[g];simp[vals];omega
 have g9:es.length<=8:=a7.len;refine Z2 5 [2,2,0] H Z (Ab Z (Ak Z (z:=1) (j:=X.length) (r:=X.length) J Z Z Z (by rw[g];simp) d9 U) (Ab Z (Ay Z Z J (Az d9)) (Zc 2 Z (Ar Z (call140 _) (ih t1 (c::(vals X++(vals Y_++Q))) e.2 (min e.1 key) (nx Y_ hi) 4 key val Lc ⟨g5,⟨g1,f0⟩,by omega,by omega,⟨b,O_.st.dt val O b f6⟩,λq d hq=>g0 q d (O_.sub q d hq),by have:=O_.st.k;omega,by simp only[Aei,Aeg];omega⟩) H.f3 ?_))));rintro _ w _ (⟨h6,s2,rfl,rfl⟩|⟨t2,c2,⟨l,c1⟩,rfl,rfl⟩|⟨t2,c2,kr,r,M1,M2,⟨l,f9,e9,g3,c1,a3⟩,rfl,rfl⟩) H'
 ·have H:=H'.l5;refine Za 3 [] H Z ?_;intro b6 w H;refine Z4 21 [0,3,5] H Z ?_;intro w H;refine Zl [5,3] H Z ?_;exact ⟨_,.inl ⟨(by have:=O_.st.f;omega),_,Z,Z⟩,H.perm 6 [1] Z Z⟩
 ·have H:=H'.l5;refine Za 3 [] H Z ?_;intro b7 w H;refine Z4 15 [0,4] H Z ?_;intro w H;have f8:X.length<es.length:=by rw[g];simp
  have a6:0<(kL es).length:=by simp only[Aeh];omega
  have a9:0<(vL es).length:=by simp only[Aeh];omega
  obtain ⟨gk,a1,y,rfl,e5,e2,d8,H⟩:=H.ungrow 2 Z a6;replace H:=H.l6;obtain ⟨c9,a8,a0,d2,c4,d1,d4,H'⟩:=H.ungrow 3 Z a9;cases d2;clear H;have H:=H'.l6;refine Z2 6 [2,4,0,0,0,0] H Z (Ab Z (CJ Z (z:=1) (j:=X.length) (r:=X.length) J Z Z Z (by simp only[Aeh];omega) U) (AC Z Z (Al 3 H Z Z Z Z (vs:=[I (c2:Int)]) Z (by simp[u8,u32,Value.oneCell']) J (by simp only[Aeg,Aeh,Aei,AeD];omega) (out:=(((vL es).set X.length (c2:Int)).map I++a0)) (Ed (by simp only[Aeh];omega))) ?_));rintro w H;replace H:=H.l6;refine Zc 3 Z (BK 11 J J (A4 H λw H'=>?_));have H:=H'.l6;refine PU 6 [1,0,1,0] (AR (H.blk 4 Z) AN) Z J Z (Cc Z Z Z (CJ Z (z:=1) (j:=X.length) (r:=X.length) J Z Z Z (by simp only[Aeh];omega) U) (Cc Z Z Z (Bn Z Z J (Az (H.cel 2 Z X.length (show ((kL es).map I++y)[X.length]?=some (I e.1) from (by rw[Aeo (by simp only[Aeh];omega),Aeq,Aeq,g];simp))))) ?_));refine PV 1 [] Z J (Cc Z Z Z (Ky Z Z Z) (Cc Z Z Z (CJ Z (z:=1) (j:=X.length) (r:=X.length) J Z Z Z (by simp only[Aeh];omega) U) (CG (gw (AC Z Z (Al 2 H Z Z Z Z (vs:=[I (min (e.1:Int) key)]) Z (by simp[u8,u32,Value.oneCell']) J (by simp only[Aeg,Aeh,Aei,AeD];omega) (out:=(((kL es).set X.length (min e.1 key)).map I++y)) (Ed (by simp only[Aeh];omega))) ?_)))));rintro w H;replace H:=H.l6;refine Zc 4 Z ?_;have c7:(kL es).length=(kL (X++(min e.1 key,c2)::Y_)).length:=by rw[g];simp
  have c8:(vL es).length=(vL (X++(min e.1 key,c2)::Y_)).length:=by rw[g];simp
  have c5:(kL es).set X.length (min e.1 key)=kL (X++(min e.1 key,c2)::Y_):=by rw[g];simp[kL,Af0]
  have b9:(vL es).set X.length (c2:Int)=vL (X++(min e.1 key,c2)::Y_):=by rw[g];simp[vL,Af0]
  replace H:=(H.mono 2 (B:=grow 3 1 (.slice (some ⟨gk,0,none⟩) ((kL es).length) a1) ((kL es).length) ((kL (X++(min e.1 key,c2)::Y_)).map I)) Z (λh q=>q.grow U U (by simp only[Aeg,Aeh,AeW];simp only[Aeh] at *;omega) (by rw[AeR,AeI O,c5]))).l6;replace H:=(H.mono 3 (B:=grow 3 1 (.slice (some ⟨c9,0,none⟩) ((vL es).length) e3) ((vL es).length) ((vL (X++(min e.1 key,c2)::Y_)).map I)) Z (λh q=>q.grow U U (by simp only[Aeg,Aeh,AeW];simp only[Aeh] at *;omega) (by rw[AeR,AeI O,b9]))).l6;refine Z2 10 [2,0,0,4] H Z ?_;obtain ⟨d0,⟨b3,e4⟩,d3⟩:=ZM l d5 d7 c1 c3 b0 hX c0;have h9:((X++(min e.1 key,c2)::Y_):List E).length=es.length:=by rw[g];simp
  replace H:=(H.mono 1 (B:=trA Tb pp mb n o (some (t2,c::(vals (X++(min e.1 key,c2)::Y_)++Q)))) Z (λh q=>q.perm OT)).l6;refine Z2 6 [4,3] H Z (Ar Z (call183 _) (F8 pp mb n o t2 Q c false (X++(min e.1 key,c2)::Y_) (λh q=>by rw[<-c7];exact q.rd) (λh q=>by rw[<-c8];exact q.rd) (h+1) lo hi m (putE key val L) (by rw[e0];exact d0) O e4 U ⟨b3,by dsimp only;omega,JI e4 h0 a4,λ_=>by simp⟩ d3 (l.op c O O_.N0 O_.C1).2 (l.op c O O_.N0 O_.C1).1 (by have:=O_.st.k;have:=l.k;omega)) H.f3.f3.f3 ?_);rintro _ w _ ⟨t3,⟨a2,a3,i6,h5⟩,rfl,rfl⟩ H;refine Z4 5 [5] H Z ?_;intro w H;refine Zl [5,3] H Z ?_;exact ⟨_,.inr (.inl ⟨_,c,⟨((O_.st.sub (R':=Q) (λp hp=>by simp[hp]) (Aek _) (Aek _)).trans l (R:=Q) (R1:=Q) (λp hp=>hp) (λp hp=>by simp[hp]) (Aek _) (Aek _)).trans a2 (λp hp=>hp) (λp hp=>hp) U U,a3⟩,Z,Z⟩),H.perm 6 [0] Z Z⟩
 have H:=H'.l5;refine Za 3 [] H Z ?_;intro b8 w H;refine Z4 15 [0,4] H Z ?_;intro w H;have f8:X.length<es.length:=by rw[g];simp
 have a6:0<(kL es).length:=by simp only[Aeh];omega
 have a9:0<(vL es).length:=by simp only[Aeh];omega
 obtain ⟨gk,a1,y,rfl,e5,e2,d8,H⟩:=H.ungrow 2 Z a6;replace H:=H.l6;obtain ⟨c9,a8,a0,d2,c4,d1,d4,H'⟩:=H.ungrow 3 Z a9;cases d2;clear H;have H:=H'.l6;refine Z2 6 [2,4,0,0,0,0] H Z (Ab Z (CJ Z (z:=1) (j:=X.length) (r:=X.length) J Z Z Z (by simp only[Aeh];omega) U) (AC Z Z (Al 3 H Z Z Z Z (vs:=[I (c2:Int)]) Z (by simp[u8,u32,Value.oneCell']) J (by simp only[Aeg,Aeh,Aei,AeD];omega) (out:=(((vL es).set X.length (c2:Int)).map I++a0)) (Ed (by simp only[Aeh];omega))) ?_));rintro w H;replace H:=H.l6;refine Zc 3 Z (BK 11 J J (A4 H λw H'=>?_));have H:=H'.l6;refine PU 6 [1,0,1,0] (AR (H.blk 4 Z) AN) Z J Z (Cc Z Z Z (CJ Z (z:=1) (j:=X.length) (r:=X.length) J Z Z Z (by simp only[Aeh];omega) U) (Cc Z Z Z (Bn Z Z J (Az (H.cel 2 Z X.length (show ((kL es).map I++y)[X.length]?=some (I e.1) from (by rw[Aeo (by simp only[Aeh];omega),Aeq,Aeq,g];simp))))) ?_));refine PV 1 [] Z J (Cc Z Z Z (Ky Z Z Z) (Cc Z Z Z (CJ Z (z:=1) (j:=X.length) (r:=X.length) J Z Z Z (by simp only[Aeh];omega) U) (CG (gw (AC Z Z (Al 2 H Z Z Z Z (vs:=[I (min (e.1:Int) key)]) Z (by simp[u8,u32,Value.oneCell']) J (by simp only[Aeg,Aeh,Aei,AeD];omega) (out:=(((kL es).set X.length (min e.1 key)).map I++y)) (Ed (by simp only[Aeh];omega))) ?_)))));rintro w H;replace H:=H.l6;refine Zc 4 Z ?_;have c7:(kL es).length=(kL (X++(min e.1 key,c2)::Y_)).length:=by rw[g];simp
 have c8:(vL es).length=(vL (X++(min e.1 key,c2)::Y_)).length:=by rw[g];simp
 have c5:(kL es).set X.length (min e.1 key)=kL (X++(min e.1 key,c2)::Y_):=by rw[g];simp[kL,Af0]
 have b9:(vL es).set X.length (c2:Int)=vL (X++(min e.1 key,c2)::Y_):=by rw[g];simp[vL,Af0]
 have h8:manyN n+1<=r:=by have K3:=H.says 1 Z (λh a=>trA.k a);exact (K3.i.rin r (by simp[CV])).1
 replace H:=(H.mono 2 (B:=grow 3 1 (.slice (some ⟨gk,0,none⟩) ((kL es).length) a1) ((kL es).length) ((kL (X++(min e.1 key,c2)::Y_)).map I)) Z (λh q=>q.grow U U (by simp only[Aeg,Aeh,AeW];simp only[Aeh] at *;omega) (by rw[AeR,AeI O,c5]))).l6;replace H:=(H.mono 3 (B:=grow 3 1 (.slice (some ⟨c9,0,none⟩) ((vL es).length) e3) ((vL es).length) ((vL (X++(min e.1 key,c2)::Y_)).map I)) Z (λh q=>q.grow U U (by simp only[Aeg,Aeh,AeW];simp only[Aeh] at *;omega) (by rw[AeR,AeI O,b9]))).l6;refine Z2 6 [2,0,0,0] H Z (Af Z (λh1=>?_) (λh1=>?_))
 ·refine Zc 1 Z ?_;obtain ⟨b3,a5,d0,e6,d3,h2,g8⟩:=ZN (r:=r) l d5 d7 c1 a3 c3 b0 hX c0 e9 g3 e8;have h4:(putE kr r (X++(min e.1 key,c2)::Y_)).length=es.length+1:=by rw[a5,g];simp only[Aeg,Aei];omega
  replace H:=(H.mono 1 (B:=trA Tb pp mb n o (some (t2,c::(vals (putE kr r (X++(min e.1 key,c2)::Y_))++Q)))) Z (λh q=>q.perm (by rw[a5];exact TQ))).l6;have K2:=H.says 1 Z (λh a=>trA.k a);have e1:(0<=kr/\kr<1048576)/\1<=r/\r<1024:=by have:=K2.i.rin r (by simp[CV,a5,vals]);omega
  have d6:CkN false (kL (X++(min e.1 key,c2)::Y_)) (vL (X++(min e.1 key,c2)::Y_)):=CkN.of ⟨b3,by have:((X++(min e.1 key,c2)::Y_):List E).length=es.length:=(by rw[g];simp);dsimp only;omega,λx hx=>by have:=Wm b0 c0 (c:=c2) x hx;omega,λ_=>by simp⟩ (λv hv=>by have:=K2.i.rin v (by simp only[CV,a5,BQ,Ca] at hv ⊢;simp only[Aep,Aer] at hv ⊢;rcases hv with h|h|h<;>simp[h]);omega);refine Z2 8 [4,3,1,0,0,2,0,0] H Z (Ar Z (call182 _) (RV pp mb n o t2 Q c false (X++(min e.1 key,c2)::Y_) (λh q=>by rw[<-c7];exact q.rd) (λh q=>by rw[<-c8];exact q.rd) kr r e1 d6 b3 (h+1) lo hi m (putE key val L) (by rw[e0,f9];exact d0) O e6 d3 (l.op c O O_.N0 O_.C1).2 (l.op c O O_.N0 O_.C1).1 (by have:=O_.st.k;have:=l.k;omega) U h0 a4) H.f3.f3.f3 ?_);rintro _ w _ (⟨i3,s3,rfl,rfl⟩|⟨t3,⟨a2,a3⟩,rfl,rfl⟩|⟨t3,i1,r3,L3,L4,⟨a2,f5,g7,g4,a3,e7⟩,rfl,rfl⟩) H'
  ·have H:=H'.l6;refine Z4 7 [5] H Z ?_;intro w H;refine Zl [5,3] H Z ?_;exact ⟨_,.inl ⟨(by have:=O_.st.f;have:=l.f;omega),_,Z,Z⟩,H.perm 6 [0] Z Z⟩
  ·have H:=H'.l6;refine Z4 7 [5] H Z ?_;intro w H;refine Zl [5,3] H Z ?_;exact ⟨_,.inr (.inl ⟨_,c,⟨((O_.st.sub (R':=Q) (λp hp=>by simp[hp]) (Aek _) (Aek _)).trans l (R:=Q) (R1:=Q) (λp hp=>hp) (λp hp=>by simp[hp]) (Aek _) (Aek _)).trans a2 (λp hp=>hp) (λp hp=>hp) U U,a3⟩,Z,Z⟩),H.perm 6 [0] Z Z⟩
  have H:=H'.l6;refine Z4 7 [5] H Z ?_;intro w H;refine Zl [5,3] H Z ?_;exact ⟨_,.inr (.inr ⟨_,c,_,_,_,_,⟨((O_.st.sub (R':=Q) (λp hp=>by simp[hp]) (Aek _) (Aek _)).trans l (R:=Q) (R1:=Q) (λp hp=>hp) (λp hp=>by simp[hp]) (Aek _) (Aek _)).trans a2 (λp hp=>hp) (λp hp=>hp) U U,f5,g7,g4,a3,e7⟩,Z,Z⟩),H.perm 6 [0] Z Z⟩
 (exfalso;omega)
end
section
variable{Tb:Ai}
theorem OU(pp mb n:Nat)(o:TB):∀(h:Nat) (t:TS) (Q:List Nat) (a:Nat) (lo hi:Int) (m:Nat) (key:Int) (val:Nat) (L:List E),InsPre n t Q a h lo hi m key val L->Aj 140 [Y pp,I (a:Int),I key,I (val:Int)] [trA Tb pp mb n o (some (t,a::val::Q))] (λv G=>JJ Tb pp mb n o t Q h lo hi m key val L v G)
 | 0=>λt Q a lo hi m key val L hP=>Ab2 pp mb n o t Q a lo hi m key val L hP
 | h+1=>λt Q a lo hi m key val L hP=>Ab3 pp mb n o t Q h (OU pp mb n o h) a lo hi m key val L hP
theorem Tr.lo{N:Hm}{h r:Nat}{lo hi:Int}{m:Nat}{L es:List E}{lf:Bool}(t:Tr N h r lo hi m L)(hN:N r=some (.nd ⟨lf,es⟩))(k:1<=m):Tr N h r (nx es hi) hi m L/\lo<=nx es hi/\nx es hi<hi:=by
 obtain ⟨i,b,f,c,d,j⟩:=Tr.iff.1 t;rw[b] at hN;cases hN
 cases es with
 | nil=>simp at f;omega
 | cons e u=>
  have g:=c e O;refine ⟨Tr.iff.2 ⟨_,b,f,λx a=>⟨?_,(c x a).2⟩,d,j⟩,g⟩;rcases Aep.1 a with rfl|a
  ·exact Afo _
  exact AgV ((Srt.cons.1 d.srt).1 x a)
theorem root_two{N:Hm}{L2:List E}{es:List E}(j:Tr N n m 0 t 4 X)(hN:N m=some (.nd ⟨b,es⟩))(c:Tr N n r t 1048576 4 L2)(k:t<1048576):
  Bd N (n+1) [(nx es t,m),(t,r)] 1048576 (X++L2)/\B5 0 1048576 [(nx es t,m),(t,r)]/\(Nd.mk false [(nx es t,m),(t,r)]).Ok/\(vals [(nx es t,m),(t,r)]).Nodup:=by
 obtain ⟨h,l,i⟩:=j.lo hN U;have hs:Srt [(nx es t,m),(t,r)]:=Srt.cons.2 ⟨λx a=>by simp at a;subst a;exact i,Srt.cons.2 ⟨by simp,by simp[Srt]⟩⟩;have d:B5 0 1048576 [(nx es t,m),(t,r)]:=λx a=>by
  simp at a;rcases a with rfl|rfl
  ·dsimp only;omega
  dsimp only;omega
 have f:Bd N (n+1) [(nx es t,m),(t,r)] 1048576 (X++L2):=⟨X,L2,Z,h,L2,[],by simp,c,Z⟩;exact ⟨f,d,⟨hs,by simp,λe g=>d e g,λ_=>by simp⟩,f.nodup hs (λx a=>(d x a).2)⟩
theorem Wn{N:Hm}(f:N n=some (.dt B))(d:0<=t/\t<1048576):Bd N 0 [(t,n)] 1048576 (putE t n [])/\B5 0 1048576 [(t,n)]/\(Nd.mk true [(t,n)]).Ok/\(vals [(t,n)]).Nodup:=by
 have c:B5 0 1048576 [(t,n)]:=λx b=>by simp at b;subst b;exact d
 exact ⟨⟨Z,λe a=>by simp at a;subst a;exact ⟨B,f⟩⟩,c,⟨by simp[Srt],by simp,λe a=>c e a,λq=>by cases q⟩,by simp[vals]⟩
def Root(N:Hm)(r:Nat)(L:List E):Prop:=(r=0/\L=[])\/(r≠0/\∃h,Tr N h r 0 1048576 (if h=0 then 1 else 2) L)
def AZ(r:Nat):List Nat:=if r=0 then [] else [r]
def CZ(N:Hm):Nat->Nat->List Nat
 | 0,r=>[r]
 | h+1,r=>match N r with
  | some (.nd d)=>d.es.flatMap λe=>CZ N h e.2
  | _=>[]
def QM(N:Hm)(r:Nat):List E:=match N r with
 | some (.nd d)=>d.es
 | _=>[]
theorem RX{N:Hm}(t:Tr N n r s p m X)(v:1<=m):(CZ N n r).flatMap (QM N)=X/\(∀q∈CZ N n r,QM N q≠[]/\∃d,N q=some (.nd d))/\m*4^(n-1)<=(CZ N n r).length*(if n=0 then m else 1):=by
 induction n generalizing r s p m X with
 | zero=>
  obtain ⟨es,f,g,_,_,rfl,_⟩:=t;refine ⟨by simp[CZ,QM,f],λq hq=>?_,by simp[CZ]⟩;simp[CZ] at hq;subst hq;refine ⟨?_,_,f⟩;simp only[QM,f];intro q;rw[q] at g;simp at g;omega
 | succ n ih=>
  obtain ⟨es,f,g,_,_,k⟩:=t;have h:CZ N (n+1) r=es.flatMap λe=>CZ N n e.2:=by simp[CZ,f]
  rw[h];have key:∀(es:List E) (X:List E),Sq (λc a b X=>Tr N n c a b 4 X) es p X->(es.flatMap λe=>CZ N n e.2).flatMap (QM N)=X/\(∀q∈es.flatMap λe=>CZ N n e.2,QM N q≠[]/\∃d,N q=some (.nd d))/\es.length*4^n<=(es.flatMap λe=>CZ N n e.2).length:=by
   intro es
   induction es with
   | nil=>intro X q;have q:X=[]:=q;subst q;simp
   | cons e u ih2=>
    rintro _ ⟨L1,L2,rfl,i,j⟩;obtain ⟨a1,a2,a3⟩:=ih i U;obtain ⟨o,l,w⟩:=ih2 L2 j;have a4:4^n<=(CZ N n e.2).length:=by
     cases n with
     | zero=>simp[CZ]
     | succ n=>simp at a3;rw[AhB,AhC];exact a3
    refine ⟨by simp only[AeJ,Af2,a1,o],λq hq=>?_,?_⟩
    ·rcases Aer.1 (by simpa using hq:q∈CZ N n e.2++u.flatMap λe=>CZ N n e.2) with hq|hq
     ·exact a2 q hq
     exact l q hq
    simp only[AeJ,Aeg,Aei];rw[AhH];omega
  obtain ⟨a1,a2,a3⟩:=key es X k;refine ⟨a1,a2,?_⟩;have:m*4^n<=es.length*4^n:=AfI _ g;rw[if_neg U,AeR,Nat.add_sub_cancel];omega
theorem Li{f:Nat->List E}:∀{ps:List Nat},Srt (ps.flatMap f)->(∀p∈ps,f p≠[])->ps.Nodup
 | [],_,_=>by simp
 | p::ps,hs,hne=>by
  rw[AeJ] at hs;obtain ⟨s1,s2,s3⟩:=Srt.app.1 hs;rw[Afj];refine ⟨λhp=>?_,Li s2 (λq hq=>hne q (by simp[hq]))⟩;obtain ⟨x,u,e⟩:=AfH (hne p O);have:=s3 x (by rw[e];simp) x (Agi.2 ⟨p,hp,by rw[e];simp⟩);omega
theorem OV :∀{l:List Nat},l.Nodup->(∀x∈l,x<n)->l.length<=n:=λ{l} b c=>by
 have:=List.Nodup.length_le_of_subset (l₁:=l) (l₂:=List.range n) b (λx a=>AfS.2 (c x a));simpa using this
theorem RY{N:Hm}{L Y_:List E}{e:E}{key:Int}(hs:Srt (X++e::Y_))(l:B5 s p (X++e::Y_))(g:Bd N (n+1) (X++e::Y_) p L)(d:X=[]\/e.1<=key)(h:∀x∈Y_,key<x.1/\e.1<x.1):∃Lc,Tr N n e.2 e.1 (nx Y_ p) 4 Lc/\∀v,(key,v)∈Lc↔(key,v)∈L:=by
 obtain ⟨L0,Lc,L2,rfl,a,j,c⟩:=Sq.at g;obtain ⟨i,f,k⟩:=Srt.app.1 hs;have a1:=Sq.srt a i (λx b=>k x b e O) (λ_ _ _ _ q=>Tr.srt q);have a3:=Sq.srt c (Srt.cons.1 f).2 (λx b=>(l x (by simp[b])).2) (λ_ _ _ _ q=>Tr.srt q);refine ⟨Lc,j,λv=>⟨λq=>by simp[q],λq=>?_⟩⟩;rcases Aer.1 q with q|q
 ·exfalso
  rcases d with rfl|d
  ·simp only[Sq] at a;subst a;simp at q
  have:=a1.2.1 _ q;dsimp only at this;omega
 rcases Aer.1 q with q|q
 ·exact q
 exfalso
 cases Y_ with
 | nil=>simp only[Sq] at c;subst c;simp at q
 | cons y t=>
  have:=a3.2.1 _ q;have:=h y O;simp only[nx] at *;omega
end
section
variable{Tb:Ai}
theorem Lj(pp mb n:Nat)(o:TB){s:TS×List Nat}:Aj 137 [Y pp] [trA Tb pp mb n o (some s)] (λv G=>v=I 0/\G=[trA Tb pp mb n o (some s)]):=by
 intro z R w H;refine Ae func137 Z ntmps137 Z (Zc 19 Z (z_E_ Z (call80 _) (HY pp mb n o) H ?_));intro w H;refine AB 6 (v:=.bool true) Z Z (Zc 12 Z (Zr Z ?_));exact ⟨_,⟨Z,Z⟩,H⟩
theorem Ab4(pp mb n:Nat)(o:TB)(t:TS)(Q:List Nat)(key:Int)(val:Nat)(b:List UInt8)(l:0<=key/\key<1048576)(f:t.N val=some (.dt b))(hk:t.k<40):Aj 83 [Y pp,I 0,I key,I (val:Int)] [trA Tb pp mb n o (some (t,val::Q))] (λv G=>(cnt t.F 0 1024<=0/\∃s:TS×List Nat,v=.tuple #[I 0,I 20]/\G=[trA Tb pp mb n o (some s)])\/∃(t2:TS) (r:Nat),(St t t2 Q 1 1/\Tr t2.N 0 r 0 1048576 1 (putE key val []))/\v=.tuple #[I (r:Int),I 0]/\G=[trA Tb pp mb n o (some (t2,r::Q))]):=by
 intro z R w H;have K:=H.says 0 Z (λh a=>trA.k a);have a1:=K.i.rin val (by simp[CV]);have e:=K.i.pos (p:=val) (by simp[CV]);have e:1<=t.C val:=e;obtain ⟨m,x,j,g⟩:=Wn f l;refine Ae func83 Z ntmps83 Z (Zc 10 Z (z_E_ Z (call137 _) (Lj pp mb n o) H ?_));intro w H;refine Z0 18 [4,0] Z (An 21 Z (λh1=>U) (λh1=>?_));refine Z0 4 [0] Z (An 25 Z (λh2=>U) (λh2=>?_));refine Zc 2 Z (z_E_ Z (call138 _) (L8 pp mb n o val U) H ?_);intro w H;refine AB 28 (v:=I (t.C val:Int)) Z Z (Z0 4 [0] Z (Af Z (λh3=>U) (λh3=>?_)));refine Z0 14 [3] Z (AP Z (AO H Z J BC Z (by decide) (by decide) (out:=[I key]) J) ?_);rintro _ w ⟨b1,rfl,H⟩;refine Zc 1 Z (AP Z (AO H Z J BC Z (by decide) (by decide) (out:=[I (val:Int)]) J) ?_);rintro _ w ⟨b2,rfl,H⟩;refine Zc 1 Z (Ar Z (call139 _) (Ia pp mb n o t Q true [(key,val)] (λh q=>q.rd U U O Z) (λh q=>q.rd U U O Z) 0 0 1048576 1 (putE key val []) m Z x O j g hk) H.f1.f2 ?_);rintro _ w _ (⟨y,rfl,rfl⟩|⟨t2,u,⟨d,c,a0⟩,rfl,rfl⟩) H'
 ·have H:=H'.l3;refine Zc 7 Z (Zr Z ?_);exact ⟨_,.inl ⟨by omega,_,Z,Z⟩,H.perm 3 [0] Z Z⟩
 have H:=H'.l3;refine Zc 7 Z (Zr Z ?_);exact ⟨_,.inr ⟨t2,u,⟨d,c⟩,Z,Z⟩,H.perm 3 [0] Z Z⟩
set_option maxHeartbeats 1000000 in
theorem Ab5 (pp mb n:Nat) (o:TB) (t:TS) (Q:List Nat) (h a:Nat) (m:Nat) (key:Int) (val:Nat) (L:List E) (hP:InsPre n t Q a h 0 1048576 m key val L):Aj 83 [Y pp,I (a:Int),I key,I (val:Int)] [trA Tb pp mb n o (some (t,a::val::Q))] (λv G=>(cnt t.F 0 1024<=2*h+2/\∃s:TS×List Nat,v=.tuple #[I 0,I 20]/\G=[trA Tb pp mb n o (some s)])\/∃(t2:TS) (r:Nat),(St t t2 Q (2*h+3) (3*h+4)/\(Tr t2.N h r 0 1048576 m (putE key val L)\/Tr t2.N (h+1) r 0 1048576 2 (putE key val L)))/\v=.tuple #[I (r:Int),I 0]/\G=[trA Tb pp mb n o (some (t2,r::Q))]):=by
 intro z R w H;have K:=H.says 0 Z (λh a=>trA.k a);have d1:=hP.kk;have d3:=K.i.rin val (by simp[CV]);have a4:=K.i.pos (p:=val) (by simp[CV]);have a4:1<=t.C val:=a4;have c6:=K.i.rin a (by simp[CV]);refine Ae func83 Z ntmps83 Z (Zc 10 Z (z_E_ Z (call137 _) (Lj pp mb n o) H ?_));intro w H;refine Z0 18 [4,0] Z (An 21 Z (λh1=>U) (λh1=>?_));refine Z0 4 [0] Z (An 25 Z (λh2=>U) (λh2=>?_));refine Zc 2 Z (z_E_ Z (call138 _) (L8 pp mb n o val U) H ?_);intro w H;refine AB 28 (v:=I (t.C val:Int)) Z Z (Z0 4 [0] Z (Af Z (λh3=>U) (λh3=>?_)));refine Z0 9 [0] Z (Af Z (λh4=>U) (λh4=>?_));refine Zc 8 Z (Ar Z (call140 _) (OU pp mb n o h t Q a 0 1048576 m key val L hP) H ?_);rintro _ w _ (⟨c8,s2,rfl,rfl⟩|⟨t2,c2,⟨b,g⟩,rfl,rfl⟩|⟨t2,c2,kr,r,M1,M2,⟨b,a2,c5,c0,g,b4⟩,rfl,rfl⟩) c
 ·have H:=c.l1;refine Za 3 [] H Z ?_;intro b1 w H;refine Z4 27 [0,3,0,0,0] H Z ?_;intro w H;refine Zr Z ?_;exact ⟨_,.inl ⟨by omega,_,Z,Z⟩,H.perm 2 [1] Z Z⟩
 ·have H:=c.l1;refine Za 3 [] H Z ?_;intro b2 w H;refine Z4 27 [0,4,2,0,0,3,0,0,0] H Z ?_;intro w H;refine Zr Z ?_;exact ⟨_,.inr ⟨t2,c2,⟨b.sub (λp hp=>hp) U U,.inl g⟩,Z,Z⟩,H.perm 2 [1] Z Z⟩
 have H:=c.l1;refine Za 3 [] H Z ?_;intro b3 w H;refine Z4 6 [0] H Z ?_;intro w H;have c9:manyN n+1<=r:=by have K3:=H.says 1 Z (λh a=>trA.k a);exact (K3.i.rin r (by simp[CV])).1
 refine Z2 10 [4,2,0,0,0] H Z (Af Z (λh5=>U) (λh5=>?_));refine Zc 3 Z ?_;obtain ⟨es,y,a9,d2,c4,c7⟩:=Tr.iff.1 g;obtain ⟨a1,a3,a7,a0⟩:=root_two g y b4 c0;refine Z2 4 [0,0,0] H Z (Ar Z (call132 _) (HZ pp mb n o (some (t2,c2::r::Q)) c2 (decide (h=0)) es y) H.f1 ?_);rintro _ w _ ⟨v4,v5,rfl,rfl⟩ H;have a8:=H.sy 0 (·.slc);have c1:=H.sy 1 (·.slc);refine Za 3 [] H Z ?_;intro b6 w H;refine AC Z Z (Al 0 H Z Z Z Z (vs:=[.bool (decide (h=0)),v4,v5]) Z (Ad Z (Ad a8.one (Ad c1.one Aw))) J O (out:=[.bool (decide (h=0)),v4,v5]) Z) ?_;rintro w H;refine Z0 14 [4] Z ?_;obtain ⟨a6,b0,rfl⟩:=a8;have c3:=(H.rv 1 (·.rd)).at (j:=0) (u:=I (nx es kr)) (by rw[Aeq,FF a9];rfl);replace H:=H.f1.f1.f4;refine AQ (Sep z (blk b3 [I (c2:Int),I kr,I (r:Int)] 211::blk b6 [.bool (decide (h=0)),.slice a6 ((kL es).length) b0,v5] 201::grow 3 1 (.slice a6 ((kL es).length) b0) ((kL es).length) ((kL es).map I)::R)) 19 Z J (A4 H λw c=>?_);have H:=c.l5;refine AT [0,1,2] [1,1,0] [] (by exact H.pick 5 [0,1,2] Z) Z J Z (BM 3 Z J J J Z Z Z (Ak Z (z:=1) (j:=0) (r:=0) J Z Z Z (by simp only[Aeh];omega) c3 U) (H.pick 5 [0,1,2] Z) (BM 4 Z J J J Z Z Z (Ay Z Z J (λ_ b5=>(b5.rv 2 (·.rd)).at (j:=0) (u:=I (nx es kr)) (by rw[Aeq,FF a9];rfl))) (H.pick 5 [0,1,2] Z) ?_));refine AT [5,6,8,9,10,11] [1,0,0,0,0,0,2,0,0] [] (by exact H.pick 5 [0,1,2] Z) Z J Z (AE [7,12] J O (IP ?_ ?_))
 ·refine B6 Z Z Z Z (AO H Z J BC Z (by decide) (by decide) (out:=[I (nx es kr),I kr]) J) ?_;rintro _ w ⟨b7,rfl,H⟩;refine Ax (H.pick 6 [1,2,3] Z) (AE [12] J O (Am (B6 Z Z Z Z (AO H Z J BC Z (by decide) (by decide) (out:=[I (c2:Int),I (r:Int)]) J) ?_)));rintro _ w ⟨b8,rfl,H⟩;refine Ax (H.pick 7 [2,3,4] Z) (AT [13] [] [] (by exact H.pick 7 [2,3,4] Z) Z J Z (AE [14] J O (Am (Bt Z Z Z Z Z Z (λw=>call139 _ w) (Ia pp mb n o t2 Q false [(nx es kr,c2),(kr,r)] (λh q=>q.rd U U O Z) (λh q=>q.rd U U O Z) (h+1) 0 1048576 2 (putE key val L) (by rw[a2];exact a1) O a3 O a7 a0 (by have:=b.k;have:=hP.hk;omega)) H.f1.f6 Z ?_))));rintro _ w _ (⟨a5,rfl,rfl⟩|⟨t3,l,⟨d,e,x⟩,rfl,rfl⟩) c
  ·have H:=c.l7;refine Ax (H.pick 7 [3,4,5] Z) (AT [15,16,17,18] [] [] (by exact H.pick 7 [3,4,5] Z) Z J Z (a_done J (gn (Zc 2 Z (Zr Z ?_)))));exact ⟨_,.inl ⟨by have:=b.f;omega,_,Z,Z⟩,H.perm 7 [0] Z Z⟩
  have H:=c.l7;refine Ax (H.pick 7 [3,4,5] Z) (AT [15,16,17,18] [] [] (by exact H.pick 7 [3,4,5] Z) Z J Z (a_done J (gn (Zc 2 Z (Zr Z ?_)))));exact ⟨_,.inr ⟨t3,l,⟨b.trans d (λp hp=>hp) (λp hp=>hp) U U,.inr e⟩,Z,Z⟩,H.perm 7 [0] Z Z⟩
 refine B6 Z Z Z Z (AO H Z J BC Z (by decide) (by decide) (out:=[I (c2:Int),I (r:Int)]) J) ?_;rintro _ w ⟨b9,rfl,H⟩;refine Ax (H.pick 6 [1,2,3] Z) (AE [7] J O (Am (B6 Z Z Z Z (AO H Z J BC Z (by decide) (by decide) (out:=[I (nx es kr),I kr]) J) ?_)));rintro _ w ⟨d0,rfl,H⟩;refine Ax (H.pick 7 [2,3,4] Z) (AT [13] [] [] (by exact H.pick 7 [2,3,4] Z) Z J Z (AE [14] J O (Am (Bt Z Z Z Z Z Z (λw=>call139 _ w) (Ia pp mb n o t2 Q false [(nx es kr,c2),(kr,r)] (λh q=>q.rd U U O Z) (λh q=>q.rd U U O Z) (h+1) 0 1048576 2 (putE key val L) (by rw[a2];exact a1) O a3 O a7 a0 (by have:=b.k;have:=hP.hk;omega)) H.f1.f1.f6 Z ?_))));rintro _ w _ (⟨a5,rfl,rfl⟩|⟨t3,l,⟨d,e,x⟩,rfl,rfl⟩) c
 ·have H:=c.l7;refine Ax (H.pick 7 [3,4,5] Z) (AT [15,16,17,18] [] [] (by exact H.pick 7 [3,4,5] Z) Z J Z (a_done J (gn (Zc 2 Z (Zr Z ?_)))));exact ⟨_,.inl ⟨by have:=b.f;omega,_,Z,Z⟩,H.perm 7 [0] Z Z⟩
 have H:=c.l7;refine Ax (H.pick 7 [3,4,5] Z) (AT [15,16,17,18] [] [] (by exact H.pick 7 [3,4,5] Z) Z J Z (a_done J (gn (Zc 2 Z (Zr Z ?_)))));exact ⟨_,.inr ⟨t3,l,⟨b.trans d (λp hp=>hp) (λp hp=>hp) U U,.inr e⟩,Z,Z⟩,H.perm 7 [0] Z Z⟩
end
section
variable{Tb:Ai}
theorem QN(pp mb n:Nat)(o:TB)(T:TT)(key:Int)(L:List E)(h0 r0:Nat)(a9:Tr (Dl o T) h0 r0 t s g L):Aj 81 [Y pp,I (r0:Int),I key] [trA Tb pp mb n o T] (λv G=>((∃v0:Nat,(key,v0)∈L/\v=.tuple #[I (v0:Int),I 0])\/(¬CE key L/\v=.tuple #[I 0,I 0]))/\G=[trA Tb pp mb n o T]):=by
 intro z R w H;replace H:=H.l1;have K:=H.says 0 Z (λh a=>trA.k a);refine Ae func81 Z ntmps81 Z (Zc 18 Z ?_);refine AD (σ:=Nat×Nat×List E) (λ⟨h,r,L1⟩=>[(1,I (r:Int)),(0,Y pp),(2,I key)])
   (λ⟨h,r,L1⟩ w=>Sep z (trA Tb pp mb n o T::R) w/\((∃lo hi m,Tr (Dl o T) h r lo hi m L1)/\∀v,(key,v)∈L1↔(key,v)∈L)) (λ⟨h,r,L1⟩=>h) ⟨h0,r0,L⟩
   (λ_ hF=>(hF.all Z)) ⟨H,⟨⟨_,_,_,a9⟩,λ_=>Ahw⟩⟩ ?_
 clear H;rintro ⟨h,r,L1⟩ w ⟨p,hI⟩;dsimp only at hI p ⊢;have H:=p.l1;obtain ⟨⟨lo,hi,m,hT⟩,f⟩:=hI;obtain ⟨es,hN,hm,a4,c,a2⟩:=Tr.iff.1 hT;have b3:=K.i.nin r _ hN;refine Z0 7 [0] Z (Af Z (λh1=>?_) (λh1=>?_))
 ·refine Zc 7 Z (Ar Z (call132 _) (HZ pp mb n o T r (decide (h=0)) es hN) H ?_);rintro _ w _ ⟨v1,v2,rfl,rfl⟩ H;replace H:=H.l3;have b0:=H.sy 0 (·.slc)
  have y:=H.sy 1 (·.slc);refine Za 3 [] H Z ?_;intro b1 w H;refine AC Z Z (Al 0 H Z Z Z Z (vs:=[.bool (decide (h=0)),v1,v2]) Z (Ad Z (Ad b0.one (Ad y.one Aw))) J O (out:=[.bool (decide (h=0)),v1,v2]) Z) ?_;rintro w H;replace H:=H.l4;refine Z2 20 [4,0,0,0] H Z (Es Z (λh2=>?_) (λh2=>?_))
  ·have a6:h=0:=of_decide_eq_true h2
   have a1:L1=es:=by subst a6;exact a2.1
   refine Z2 5 [0,3] H Z (Ar Z (call133 _) (OR (es:=es) (λh q=>q.rd) (λh q=>q.rd) c.len c.srt key) H.f2.f2 ?_);rintro _ w _ (⟨X,v0,Y_,⟨b,hX⟩,rfl,rfl⟩|⟨a7,i0,rfl,rfl⟩) p
   ·have H:=p.l4;refine Zc 14 Z ?_;obtain ⟨a0,x,rfl⟩:=y;have l:=(H.rv 1 (·.rd)).at (j:=X.length) (u:=I (v0:Int)) (by rw[b];simp[vL])
    refine Z2 4 [2,2,0] H Z (Ab Z (Ak Z (z:=1) (j:=X.length) (r:=X.length) J Z Z Z (by rw[b];simp) l U) (Ab Z (Ay Z Z J (Az l)) (Zc 5 Z (Zr Z ?_))));exact ⟨_,⟨.inl ⟨v0,(f v0).1 (by rw[a1,b];simp),Z⟩,Z⟩,H.perm 4 [3] Z Z⟩
   have H:=p.l4;refine Zc 22 Z (Zr Z ?_);exact ⟨_,⟨.inr ⟨λ⟨v,hv⟩=>a7 ⟨v,by rw[<-a1];exact (f v).2 hv⟩,Z⟩,Z⟩,H.perm 4 [3] Z Z⟩
  obtain ⟨h',rfl⟩:∃h',h=h'+1:=⟨h-1,by have:=of_decide_eq_false h2;omega⟩;refine Zc 2 Z ?_;obtain ⟨a0,x,rfl⟩:=y;replace H:=H.f2.f1;refine AQ (Sep z (blk b1 [.bool (decide ((h'+1)=0)),v1,.slice a0 ((vL es).length) x] 201::grow 3 1 (.slice a0 ((vL es).length) x) ((vL es).length) ((vL es).map I)::R)) 8 Z J (A4 H λw p=>?_);have H:=p.l4;refine AT [0,1,2,3] [2,0,0,0,3] [] (by exact H.pick 4 [0,1] Z) Z J Z (AE [4] J O (Am (Bt Z Z Z Z Z Z (λw=>call134 _ w) (Mh (es:=es) (λh q=>q.rd) (λh q=>q.rd) c.len c.srt (c.ne O) key) H.f1.f2 Z ?_)));rintro _ w _ ⟨X,e,Y_,⟨b,hX,b2,hY⟩,rfl,rfl⟩ H;replace H:=H.l4;obtain ⟨Lc,a3,a5⟩:=RY (by rw[<-b];exact c.srt) (by rw[<-b];exact a4) (by rw[<-b];exact a2) hX hY;have l:=(H.rv 1 (·.rd)).at (j:=X.length) (u:=I (e.2:Int)) (by rw[b];simp[vL]);refine Ax (H.pick 4 [2,1] Z) (BM 5 Z J J J Z Z Z (Ak Z (z:=1) (j:=X.length) (r:=X.length) J Z Z Z (by rw[b];simp) l U) (H.pick 4 [2,1] Z) (BM 6 Z J J J Z Z Z (Ay Z Z J (λ_ a8=>(a8.rv 1 (·.rd)).at (j:=X.length) (u:=I (e.2:Int)) (by rw[b];simp[vL]))) (H.pick 4 [2,1] Z) (AT [7] [] [] (by exact H.pick 4 [2,1] Z) Z J Z (a_done J (gn (Zc 1 Z ?_))))));replace H:=H.f2.d.f1.d.d;refine gf ?_;intro _ hF;refine ⟨⟨h',e.2,Lc⟩,(hF.all Z),⟨H,?_⟩,?_⟩
  ·exact ⟨⟨_,_,_,a3⟩,λv=>(a5 v).trans (f v)⟩
  (dsimp only;omega)
 (exfalso;omega)
theorem QO(pp:Nat)(key:Int):Aj 81 [Y pp,I 0,I key] [] (λv G=>v=.tuple #[I 0,I 0]/\G=[]):=by
 intro z R w H;refine Ae func81 Z ntmps81 Z (Zc 18 Z (GO 1 (DG (Z0 10 [4] Z (gx (Zc 9 Z (Zr Z ?_)))))));exact ⟨_,⟨Z,Z⟩,H⟩
end
section
variable{Tb:Ai}
theorem Bd.nd{N:Hm}{h:Nat}{es:List E}{hi:Int}{L:List E}(q:Bd N h es hi L)(hs:Srt es)(b:∀e∈es,e.1<hi)(a:(vals L).Nodup):(vals es).Nodup:=by
 cases h with
 | zero=>obtain ⟨rfl,_⟩:=q;exact a
 | succ h=>exact Bd.nodup q hs b
theorem DM(a:Nat)(X Y_:List E):(vals (X++Y_)).count a=(vals X).count a+(vals Y_).count a:=by simp[vals]
theorem Ei(a:Nat)(e:E)(Y_:List E):(vals (e::Y_)).count a=(vals Y_).count a+if e.2==a then 1 else 0:=by rw[Ca,Afe]
theorem mp1(X Y_:List E)(e1 e2:E)(Q:List Nat):(vals (X++e1::e2::Y_)++Q).Perm (e1.2::(vals X++(e2.2::(vals Y_++Q)))):=
 AfF.2 λa=>by
  simp only[Aft,Afe,DM,Ei];omega
theorem mp2(c1 c2:Nat)(A B D:List Nat):(c1::(A++(B++(c2::D)))).Perm (c2::(c1::(A++(B++D)))):=
 AfF.2 λa=>by simp only[Aft,Afe];omega
theorem mp3(c1 c2:Nat)(es1 es2 x y:List E)(h:es1++es2=x++y):(c2::(vals es2++(c1::(vals es1++R)))).Perm (c1::(vals x++(c2::(vals y++R)))):=
 AfF.2 λa=>by
  have e:=congrArg (λl=>(vals l).count a) h;simp only[DM] at e;simp only[Aft,Afe];omega
theorem AdT(c1 c2:Nat)(es1 es2:List E):(c2::(vals es2++(c1::(vals es1++R)))).Perm (c1::(vals (es1++es2)++(c2::R))):=
 AfF.2 λa=>by simp only[Aft,Afe,DM];omega
theorem mp4(c1 c2:Nat){W:List Nat}:(c1::(c2::(R++W))).Perm (c2::(R++(c1::W))):=
 AfF.2 λa=>by simp only[Aft,Afe];omega
theorem mp5(c1:Nat)(k:Int)(X Y_:List E)(Q:List Nat):(c1::(vals X++(vals Y_++Q))).Perm (vals (X++(k,c1)::Y_)++Q):=
 AfF.2 λa=>by simp only[Aft,Afe,DM,Ei];omega
theorem mp6(c1 c2:Nat)(k b:Int)(X Y_:List E)(Q:List Nat):(c2::(c1::(vals X++(vals Y_++Q)))).Perm (vals (X++(k,c1)::(b,c2)::Y_)++Q):=
 AfF.2 λa=>by simp only[Aft,Afe,DM,Ei];omega
structure MnPre(n:Nat)(t:TS)(Q:List Nat)(h:Nat)(lo hi:Int)(X Y_:List E)(e1 e2:E)(m1 m2:Nat)(L0 La Lb L2:List E):Prop where
 ok:(Nd.mk false (X++e1::e2::Y_)).Ok
 r:B5 lo hi (X++e1::e2::Y_)
 q0:Sq (λc a b L=>Tr t.N h c a b 4 L) X e1.1 L0
 ta:Tr t.N h e1.2 e1.1 e2.1 m1 La
 tb:Tr t.N h e2.2 e2.1 (nx Y_ hi) m2 Lb
 q2:Sq (λc a b L=>Tr t.N h c a b 4 L) Y_ hi L2
 m3:3<=m1/\3<=m2/\7<=m1+m2
 l0:0<=lo
 h1:hi<=1048576
 d:(vals (La++Lb)).Nodup
 hk:t.k+5<40
 hb:Q.length+30+n<=980
variable{t t1 t2 t3:TS}{Q:List Nat}{h:Nat}{lo hi:Int}{X Y_:List E}{e1 e2:E}{L0 La Lb L2 es1 es2:List E}
theorem TR(d:Srt (X++e1::e2::Y_))(r:B5 lo hi (X++e1::e2::Y_)):e1.1<e2.1/\e2.1<nx Y_ hi/\nx Y_ hi<=hi/\lo<=e1.1:=by
 obtain ⟨_,a,_⟩:=Srt.app.1 d;obtain ⟨f,e⟩:=Srt.cons.1 a;have b:=r e2 O;refine ⟨f e2 O,?_,RT (λx c=>(r x (by simp[c])).2),(r e1 O).1⟩
 cases Y_ with
 | nil=>exact b.2
 | cons y u=>exact (Srt.cons.1 e).1 y O
theorem ZO{N:Hm}(n:Bd N h es1 e2.1 La)(m:Bd N h es2 (nx Y_ hi) Lb)(j:Srt es1)(g:Srt es2)(f:B5 e1.1 e2.1 es1)(e:B5 e2.1 (nx Y_ hi) es2)(d:es2≠[])(l:e1.1<e2.1)(o:e2.1<nx Y_ hi):
  Bd N h (es1++es2) (nx Y_ hi) (La++Lb)/\Srt (es1++es2)/\B5 e1.1 (nx Y_ hi) (es1++es2):=by
 refine ⟨Bd.app.2 ⟨La,Lb,Z,n.hi ?_,m⟩,Srt.app.2 ⟨j,g,λa i b k=>?_⟩,λx c=>?_⟩
 ·obtain ⟨y,u,rfl⟩:=AfH d
  exact (e y O).1
 ·have:=f a i;have:=e b k;omega
 rcases Aer.1 c with c|c
 ·have:=f x c;omega
 have:=e x c;omega
theorem QP{N:Hm}{c1:Nat}(i:(Nd.mk false (X++e1::e2::Y_)).Ok)(r:B5 lo hi (X++e1::e2::Y_))(n:Sq (λc a b L=>Tr N h c a b 4 L) X e1.1 L0)(t:Sq (λc a b L=>Tr N h c a b 4 L) Y_ hi L2)(T:Tr N h c1 e1.1 (nx Y_ hi) 4 (La++Lb)):
  Bd N (h+1) (X++(e1.1,c1)::Y_) hi (L0++(La++(Lb++L2)))/\B5 lo hi (X++(e1.1,c1)::Y_)/\(Nd.mk false (X++(e1.1,c1)::Y_)).Ok/\(vals (X++(e1.1,c1)::Y_)).Nodup:=by
 have hs:Srt (X++e1::e2::Y_):=i.srt;obtain ⟨s,o,m⟩:=Srt.app.1 hs;obtain ⟨q,s5⟩:=Srt.cons.1 o;have f:Srt (X++(e1.1,c1)::Y_):=Srt.app.2 ⟨s,Srt.cons.2 ⟨λx d=>q x (by simp[d]),(Srt.cons.1 s5).2⟩,λa l b j=>by
  rcases Aep.1 j with rfl|j
  ·exact m a l e1 O
  exact m a l b (by simp[j])⟩
 have g:B5 lo hi (X++(e1.1,c1)::Y_):=λx d=>by
  rcases Aer.1 d with d|d
  ·exact r x (by simp[d])
  rcases Aep.1 d with rfl|d
  ·exact r e1 O
  exact r x (by simp[d])
 have k:Bd N (h+1) (X++(e1.1,c1)::Y_) hi (L0++(La++(Lb++L2))):=by
  have e:L0++(La++(Lb++L2))=L0++((La++Lb)++L2):=by simp
  rw[e];exact Sq.mk (e:=(e1.1,c1)) n T t
 have p:(X++e1::e2::Y_).length<=8:=i.len;refine ⟨k,g,⟨f,by simp at p ⊢;omega,λx d=>?_,λ_=>by simp⟩,k.nodup f (λx d=>(g x d).2)⟩;rcases Aer.1 d with d|d
 ·exact i.key x (by simp[d])
 rcases Aep.1 d with rfl|d
 ·exact i.key e1 O
 exact i.key x (by simp[d])
theorem mn_share{N:Hm}{c1 c2:Nat}{M1 M2:List E}(l:(Nd.mk false (X++e1::e2::Y_)).Ok)(r:B5 lo hi (X++e1::e2::Y_))(q0:Sq (λc a b L=>Tr N h c a b 4 L) X e1.1 L0)(q2:Sq (λc a b L=>Tr N h c a b 4 L) Y_ hi L2)(T1:Tr N h c1 e1.1 s 4 M1)(v:Tr N h c2 s (nx Y_ hi) 4 M2)(hM:M1++M2=La++Lb)(m:e1.1<s)(j:s<nx Y_ hi)(h1:hi<=1048576):
  Bd N (h+1) (X++(e1.1,c1)::(s,c2)::Y_) hi (L0++(La++(Lb++L2)))/\B5 lo hi (X++(e1.1,c1)::(s,c2)::Y_)/\(Nd.mk false (X++(e1.1,c1)::(s,c2)::Y_)).Ok/\(vals (X++(e1.1,c1)::(s,c2)::Y_)).Nodup:=by
 have hs:Srt (X++e1::e2::Y_):=l.srt;obtain ⟨s1,w,t⟩:=Srt.app.1 hs;obtain ⟨s4,s5⟩:=Srt.cons.1 w;obtain ⟨_,_,a1,a0⟩:=TR hs r;have g:=(Srt.cons.1 s5).2;have n:∀x∈Y_,s<x.1:=λx d=>by
  cases Y_ with
  | nil=>simp at d
  | cons y u=>
   simp only[nx] at j;rcases Aep.1 d with rfl|d
   ·exact j
   have:=(Srt.cons.1 g).1 x d;omega
 have i:Srt (X++(e1.1,c1)::(s,c2)::Y_):=Srt.app.2 ⟨s1,Srt.cons.2 ⟨λx d=>by
   rcases Aep.1 d with rfl|d
   ·exact m
   exact s4 x (by simp[d]),Srt.cons.2 ⟨n,g⟩⟩,λa q b k=>by
  have o:=t a q e1 O;rcases Aep.1 k with rfl|k
  ·exact o
  rcases Aep.1 k with rfl|k
  ·dsimp only;omega
  exact t a q b (by simp[k])⟩
 have f:∀x∈X++(e1.1,c1)::(s,c2)::Y_,lo<=x.1/\x.1<hi:=λx d=>by
  rcases Aer.1 d with d|d
  ·exact r x (by simp[d])
  rcases Aep.1 d with rfl|d
  ·exact r e1 O
  rcases Aep.1 d with rfl|d
  ·dsimp only;omega
  exact r x (by simp[d])
 have p:Bd N (h+1) (X++(e1.1,c1)::(s,c2)::Y_) hi (L0++(La++(Lb++L2))):=by
  have e:L0++(La++(Lb++L2))=L0++(M1++(M2++L2)):=by
   rw[<-Aej La,<-hM];simp
  rw[e];exact Sq.mk (e:=(e1.1,c1)) (B:=(s,c2)::Y_) q0 T1 ⟨M2,L2,Z,v,q2⟩
 have z:(X++e1::e2::Y_).length<=8:=l.len;have k1:=l.key e1 O;refine ⟨p,f,⟨i,by simp at z ⊢;omega,λx d=>?_,λ_=>by simp⟩,p.nodup i (λx d=>(f x d).2)⟩;rcases Aer.1 d with d|d
 ·exact l.key x (by simp[d])
 rcases Aep.1 d with rfl|d
 ·exact k1
 rcases Aep.1 d with rfl|d
 ·dsimp only
  omega
 exact l.key x (by simp[d])
section
variable{lf:Bool}{kv1 vv1 kv2 vv2:Value}{es1 es2:List E}{A1 B1 A2 B2:Ai}
theorem ZP(d:Gs A1 kv1 es1)(f:Gt B1 vv1 es1)(e:Gs A2 kv2 es2)(c:Gt B2 vv2 es2)(a:CkN lf (kL es1) (vL es1))(b:CkN lf (kL es2) (vL es2))(hs:Srt (es1++es2))(k:8<es1.length+es2.length)(x y:List E)(l:x=(es1++es2).take (FK es1 es2))(m:y=(es1++es2).drop (FK es1 es2)):
  Aj 223 [DD lf kv1 vv1,DD lf kv2 vv2] [A1,B1,A2,B2] (λv G=>∃j g h i:Value,v=.tuple #[DD lf j g,DD lf h i,I 0]/\G=[gK j x,gV g x,gK h y,gV i y,A1,B1,A2,B2]):=by
 subst l m;exact ZH d f e c a b hs k
end
theorem Kq(X:List E):(vals X).length=X.length:=by simp[vals]
theorem QQ{α:Type}(x:List α)(a b:α)(y:List α):(x++a::b::y).take (x.length+1)++(x++a::b::y).drop (x.length+1+1)=x++a::y:=by
 have e1:x++a::b::y=(x++[a])++(b::y):=by simp
 have e2:x++a::b::y=(x++[a,b])++y:=by simp
 have c:(x++a::b::y).take (x.length+1)=x++[a]:=by rw[e1];exact AeI O
 have d:(x++a::b::y).drop (x.length+1+1)=y:=by rw[e2];exact AfT O
 rw[c,d];simp
theorem ZQ{lf:Bool}{X Y_:List E}{a b:E}{B:Ai}(h:Gs A u (X++a::b::Y_))(i:Gt B y (X++a::b::Y_))(d:CkN lf (kL (X++a::b::Y_)) (vL (X++a::b::Y_)))(c:CkN lf (kL (X++a::Y_)) (vL (X++a::Y_))):
  Aj 184 [DD lf u y,I ((X.length+1:Nat):Int)] [A,B] (λv G=>∃g f:Value,v=.tuple #[DD lf g f,I 0]/\G=[gK g (X++a::Y_),gV f (X++a::Y_),A,B]):=
 QE lf u y A B h i d (X.length+1) (by simp[kL]) (kL (X++a::Y_)) (vL (X++a::Y_)) (by simp only[kL,AeH,AeL];have:=QQ (X.map Prod.fst) a.1 b.1 (Y_.map Prod.fst);rw[Aeh] at this;exact this) (by simp only[vL,AeH,AeL];have:=QQ (X.map λe=>(e.2:Int)) (a.2:Int) (b.2:Int) (Y_.map λe=>(e.2:Int));rw[Aeh] at this;exact this) c
theorem Sq.st{t t':TS}{a b:Nat}(S:St t t' R a b){h:Nat}{X:List E}{hi:Int}{L:List E}(e:∀v∈vals X,v∈R)(q:Sq (λc a b L=>Tr t.N h c a b 4 L) X hi L):Sq (λc a b L=>Tr t'.N h c a b 4 L) X hi L:=
 Sq.imp q λx d _ _ q=>S.fr _ (e _ (AeB d)) _ _ _ _ _ q
theorem St.t4{f t1 t2 t3 h:TS}{R1 R2 e i Q:List Nat}{g:Nat}(a:St f t1 R1 1 1)(b:St t1 t2 R2 1 1)(c:St t2 t3 e 0 1)(d:St t3 h i 0 g)(n:g<=1)(j:∀p∈Q,p∈R1)(m:∀p∈Q,p∈R2)(k:∀p∈Q,p∈e)(l:∀p∈Q,p∈i):St f h Q 2 4:=
 ((a.trans b j m (Aek _) (Aek _)).trans (c.trans d k l (Aek _) (Aek _)) (R:=Q) (R1:=Q) (R2:=Q) (λ_ q=>q) (λ_ q=>q) U U)
abbrev Ab6(Tb:Ai)(pp mb n:Nat)(o:TB)(t:TS)(Q:List Nat)(h:Nat)(lo hi:Int)(N8:Nat)(L:List E)(v:Value)(Γ:List Ai):Prop:=
 (cnt t.F 0 1024<=1/\∃(v1 v2:Value) (es':List E) (s:TS×List Nat),v=.tuple #[DD false v1 v2,.int .i64 20]/\Γ=[gK v1 es',gV v2 es',trA Tb pp mb n o (some s)])\/
 ∃(t2:TS) (es':List E) (v1 v2:Value),(St t t2 Q 2 4/\Bd t2.N (h+1) es' hi L/\B5 lo hi es'/\(Nd.mk false es').Ok/\(vals es').Nodup/\N8<=es'.length+1)/\v=.tuple #[DD false v1 v2,.int .i64 0]/\Γ=[gK v1 es',gV v2 es',trA Tb pp mb n o (some (t2,vals es'++Q))]
theorem Ab7(d:(Nd.mk false (X++e1::e2::Y_)).Ok):(Nd.mk false (X++(e1.1,n)::(e2.1,m)::Y_)).Ok:=by
 have hs:Srt (X++e1::e2::Y_):=d.srt;obtain ⟨k,i,g⟩:=Srt.app.1 hs;obtain ⟨h,s5⟩:=Srt.cons.1 i;have j:(X++e1::e2::Y_).length<=8:=d.len;refine ⟨Srt.app.2 ⟨k,Srt.cons.2 ⟨λx c=>?_,Srt.cons.2 ⟨(Srt.cons.1 s5).1,(Srt.cons.1 s5).2⟩⟩,λa f b e=>?_⟩,by simp at j ⊢;omega,λx c=>?_,λ_=>by simp⟩
 ·rcases Aep.1 c with rfl|c
  ·exact h e2 O
  exact h x (by simp[c])
 ·rcases Aep.1 e with rfl|e
  ·exact g a f e1 O
  rcases Aep.1 e with rfl|e
  ·exact g a f e2 O
  exact g a f b (by simp[e])
 have c:x∈X++(e1.1,n)::(e2.1,m)::Y_:=c;rcases Aer.1 c with c|c
 ·exact d.key x (by simp[c])
 rcases Aep.1 c with rfl|c
 ·exact d.key e1 O
 rcases Aep.1 c with rfl|c
 ·exact d.key e2 O
 exact d.key x (by simp[c])
end
section
variable{Tb:Ai}
set_option maxHeartbeats 4000000 in
theorem Ab8 (pp mb n:Nat) (o:TB) (t:TS) (Q:List Nat) {vv:Value} (h:Nat) (lo hi:Int) (X Y_:List E) (e1 e2:E) (m1 m2:Nat) (L0 La Lb L2:List E) (hP:MnPre n t Q h lo hi X Y_ e1 e2 m1 m2 L0 La Lb L2):Aj 185 [Y pp,.agg #[.bool false,y,vv],I (X.length:Int)] [trA Tb pp mb n o (some (t,vals (X++e1::e2::Y_)++Q)),grow 3 1 y ((kL (X++e1::e2::Y_)).length) ((kL (X++e1::e2::Y_)).map I),grow 3 1 vv ((vL (X++e1::e2::Y_)).length) ((vL (X++e1::e2::Y_)).map I)] (λv G=>Ab6 Tb pp mb n o t Q h lo hi (X++e1::e2::Y_).length (L0++(La++(Lb++L2))) v G):=by
 intro z R w H;replace H:=H.l3;obtain ⟨gk,a0,b5,rfl,f2,n4,e5,H⟩:=H.ungrow 1 Z (by simp only[Aeh,Aeg,Aei];omega);replace H:=H.l3;obtain ⟨gv,s,g,rfl,e8,n0,g2,H⟩:=H.ungrow 2 Z (by simp only[Aeh,Aeg,Aei];omega);replace H:=H.l3;have K:=H.says 0 Z (λh a=>trA.k a);have hn:=K.hn;obtain ⟨m0,m4,n3,m7⟩:=TR hP.ok.srt hP.r;obtain ⟨m6,n1,n9⟩:=hP.m3;have n5:=hP.hk;have n7:=hP.hb;have k5:(X++e1::e2::Y_).length<=8:=hP.ok.len;have m9:X.length+Y_.length+2<=8:=by simp only[Aeg,Aei] at k5;omega
 obtain ⟨es1,k8,n8,k0,e7,k6⟩:=Tr.iff.1 hP.ta;have k2:es1.length<=8:=e7.len;replace H:=(H.mono 0 (B:=trA Tb pp mb n o (some (t,e1.2::(vals X++(e2.2::(vals Y_++Q)))))) Z (λh q=>q.perm (mp1 X Y_ e1 e2 Q))).l3;refine Ae func185 Z ntmps185 Z (Za 2 [] H Z ?_);intro b1 w H;refine Za 0 [] H Z ?_;intro b2 w H;refine Za 5 [] H Z ?_;intro b3 w H;refine Zc 9 Z (GO 3 (DG (Z3 25 [3,2,2,0] [(X.length:Int)] H Z U (Ab Z (CJ Z (z:=1) (j:=X.length) (r:=X.length) J Z Z Z (by simp only[Aeh,Aeg,Aei];omega) U) (Ab Z (Bn Z Z J (Az (H.cel 5 Z X.length (show ((vL (X++e1::e2::Y_)).map I++g)[X.length]?=some (I (e1.2:Int)) from (by rw[Aeo O,Aeq];simp[vL]))))) ?_)))));refine Ar Z (call181 _) (JG pp mb n o t (vals X++(e2.2::(vals Y_++Q))) e1.2 (decide (h=0)) es1 k8 U (by simp only[Aei,Aeg,Kq];omega)) H.f3 ?_;rintro _ w _ (⟨i6,v4,v5,s1,rfl,rfl⟩|⟨t1,c1,v4,v5,O1,rfl,rfl⟩) H'
 ·have H:=H'.l8;have c3:=H.sy 0 (·.slc)
  have c5:=H.sy 1 (·.slc);refine Za 4 [] H Z ?_;intro b6 w H;refine Zc 1 Z (AC Z Z (Al 0 H Z Z Z Z (vs:=[.bool (decide (h=0)),v4,v5]) Z (Ad Z (Ad c3.one (Ad c5.one Aw))) J O (out:=[.bool (decide (h=0)),v4,v5]) Z) ?_);rintro w H;replace H:=H.l9;refine Z4 20 [3,6,3,5] H Z ?_;intro w H;refine Zl [5,3] H Z ?_;replace H:=(H.mono 7 (B:=grow 3 1 (.slice (some ⟨gk,0,none⟩) ((kL (X++e1::e2::Y_)).length) a0) ((kL (X++e1::e2::Y_)).length) ((kL (X++e1::e2::Y_)).map I)) Z (λh q=>by exact q.grow U U (by have a:=e5;have b:=f2;simp only[Aeg,Aeh,Aei] at a b ⊢;omega) (by rw[AeR,AeI O]))).l9;replace H:=(H.mono 8 (B:=grow 3 1 (.slice (some ⟨gv,0,none⟩) ((vL (X++e1::e2::Y_)).length) s) ((vL (X++e1::e2::Y_)).length) ((vL (X++e1::e2::Y_)).map I)) Z (λh q=>by exact q.grow U U (by have a:=g2;have b:=e8;simp only[Aeg,Aeh,Aei] at a b ⊢;omega) (by rw[AeR,AeI O]))).l9;exact ⟨_,.inl ⟨U,_,_,_,_,Z,Z⟩,H.perm 9 [7,8,3] Z Z⟩
 have H:=H'.l8;have c3:=H.sy 0 (·.slc);have c5:=H.sy 1 (·.slc);refine Za 4 [] H Z ?_;intro b7 w H;refine Zc 1 Z (AC Z Z (Al 0 H Z Z Z Z (vs:=[.bool (decide (h=0)),v4,v5]) Z (Ad Z (Ad c3.one (Ad c5.one Aw))) J O (out:=[.bool (decide (h=0)),v4,v5]) Z) ?_);rintro w H;replace H:=H.l9;refine Z0 13 [4] Z ?_;obtain ⟨es2,l6,g6,l7,f0,l2⟩:=Tr.iff.1 (O1.st.fr e2.2 O _ _ _ _ _ hP.tb);have j0:es2.length<=8:=f0.len;replace H:=(H.mono 3 (B:=trA Tb pp mb n o (some (t1,e2.2::(c1::(vals es1++(vals X++(vals Y_++Q))))))) Z (λh q=>q.perm (mp2 c1 e2.2 (vals es1) (vals X) (vals Y_++Q)))).l9;replace H:=H.f6;refine AQ (Sep z (blk b1 [.bool false,.slice (some ⟨gk,0,none⟩) ((kL (X++e1::e2::Y_)).length) a0,.slice (some ⟨gv,0,none⟩) ((vL (X++e1::e2::Y_)).length) s] 201::blk b7 [.bool (decide (h=0)),v4,v5] 201::R)) 12 Z J (A4 H λw H'=>?_);have H:=H'.l9;refine HJ [0,1,2,3,4,5,6,7] [2,0,0,1,3] [(X.length:Int)] (by exact H.pick 9 [0,1] Z) Z J U Z (BM 8 Z J J J Z Z Z (CJ Z (z:=1) (j:=X.length) (r:=X.length) J Z Z Z (by simp only[Aeh,Aeg,Aei];omega) U) (H.pick 9 [0,1] Z) (AE [9] J O (Am (Bj Z Z Z (Al 8 H Z Z Z Z (vs:=[I (c1:Int)]) Z (Ad Z Aw) J (by simp only[Aeg,Aeh,Aei,AeD];omega) (out:=((vL (X++(e1.1,c1)::e2::Y_)).map I++g)) ((Ed O).trans (by rw[show (vL (X++e1::e2::Y_)).set (X.length) (c1:Int)=(vL (X++(e1.1,c1)::e2::Y_)) from by simp[vL,Af0]]))) ?_))));rintro w H;replace H:=H.l9;refine Ax (H.pick 9 [0,1] Z) (HJ [10] [2,3,0,0] [] (by exact H.pick 9 [0,1] Z) Z J U Z (AE [11] J O (Am (Bj Z Z Z (Al 5 H Z Z Z Z (vs:=[.bool (decide (h=0)),v4,v5]) Z (Ad Z (Ad c3.one (Ad c5.one Aw))) J O (out:=[.bool (decide (h=0)),v4,v5,.bool false,.slice none 0 0,.slice none 0 0]) Z) ?_))));rintro w H;replace H:=H.l9;refine Ax (H.pick 9 [0,1] Z) (a_done J (gn (Z1 6 [] [1] Z U (gf (DG (Z3 25 [3,2,0,0] [(X.length:Int)+1] H Z U (Ab Z (CJ Z (z:=1) (j:=(X.length+1)) (r:=(X.length+1)) J Z Z U (by simp only[Aeh,Aeg,Aei];omega) U) (Ab Z (Bn Z Z J (Az (H.cel 8 Z (X.length+1) (show ((vL (X++(e1.1,c1)::e2::Y_)).map I++g)[X.length+1]?=some (I (e2.2:Int)) from (by rw[Aeo O,Aeq];simp[vL]))))) ?_))))))));refine Ar Z (call181 _) (JG pp mb n o t1 (c1::(vals es1++(vals X++(vals Y_++Q)))) e2.2 (decide (h=0)) es2 l6 (by have:=O1.st.k;omega) (by simp only[Aei,Aeg,Kq];omega)) H.f4 ?_;rintro _ w _ (⟨i7,v8,v9,s2,rfl,rfl⟩|⟨t2,c2,v8,v9,O2,rfl,rfl⟩) H'
 ·have H:=H'.l11;have c7:=H.sy 0 (·.slc)
  have b8:=H.sy 1 (·.slc);refine Za 4 [] H Z ?_;intro n2 w H;refine Zc 1 Z (AC Z Z (Al 0 H Z Z Z Z (vs:=[.bool (decide (h=0)),v8,v9]) Z (Ad Z (Ad c7.one (Ad b8.one Aw))) J O (out:=[.bool (decide (h=0)),v8,v9]) Z) ?_);rintro w H;replace H:=H.l12;refine Z4 20 [3,4,3,9] H Z ?_;intro w H;refine Zl [9,3] H Z ?_;replace H:=(H.mono 10 (B:=grow 3 1 (.slice (some ⟨gk,0,none⟩) ((kL (X++e1::e2::Y_)).length) a0) ((kL (X++(e1.1,c1)::e2::Y_)).length) ((kL (X++(e1.1,c1)::e2::Y_)).map I)) Z (λh q=>by rw[show (kL (X++(e1.1,c1)::e2::Y_)).length=(kL (X++e1::e2::Y_)).length from by simp,show kL (X++(e1.1,c1)::e2::Y_)=kL (X++e1::e2::Y_) from by simp[kL]];exact q.grow U U (by have a:=e5;have b:=f2;simp only[Aeg,Aeh,Aei] at a b ⊢;omega) (by rw[AeR,AeI O]))).l12;replace H:=(H.mono 11 (B:=grow 3 1 (.slice (some ⟨gv,0,none⟩) ((vL (X++e1::e2::Y_)).length) s) ((vL (X++(e1.1,c1)::e2::Y_)).length) ((vL (X++(e1.1,c1)::e2::Y_)).map I)) Z (λh q=>by rw[show (vL (X++(e1.1,c1)::e2::Y_)).length=(vL (X++e1::e2::Y_)).length from by simp];exact q.grow U U (by have a:=g2;have b:=e8;simp only[Aeg,Aeh,Aei] at a b ⊢;omega) (by rw[AeR,AeI O]))).l12;exact ⟨_,.inl ⟨(by have:=O1.st.f;omega),_,_,_,_,Z,Z⟩,H.perm 12 [10,11,3] Z Z⟩
 have H:=H'.l11;have c7:=H.sy 0 (·.slc);have b8:=H.sy 1 (·.slc);refine Za 4 [] H Z ?_;intro j4 w H;refine Zc 1 Z (AC Z Z (Al 0 H Z Z Z Z (vs:=[.bool (decide (h=0)),v8,v9]) Z (Ad Z (Ad c7.one (Ad b8.one Aw))) J O (out:=[.bool (decide (h=0)),v8,v9]) Z) ?_);rintro w H;replace H:=H.l12;refine Z0 13 [4] Z ?_;replace H:=H.f4;refine AQ (Sep z (blk b1 [.bool false,.slice (some ⟨gk,0,none⟩) ((kL (X++e1::e2::Y_)).length) a0,.slice (some ⟨gv,0,none⟩) ((vL (X++e1::e2::Y_)).length) s] 201::blk j4 [.bool (decide (h=0)),v8,v9] 201::R)) 12 Z J (A4 H λw H'=>?_);have H:=H'.l12;refine HJ [0,1,2,3,4,5,6,7] [2,0,0,1,3] [(X.length:Int)+1] (by exact H.pick 12 [0,1] Z) Z J U Z (BM 8 Z J J J Z Z Z (CJ Z (z:=1) (j:=(X.length+1)) (r:=(X.length+1)) J Z Z U (by simp only[Aeh,Aeg,Aei];omega) U) (H.pick 12 [0,1] Z) (AE [9] J O (Am (Bj Z Z Z (Al 11 H Z Z Z Z (vs:=[I (c2:Int)]) Z (Ad Z Aw) J (by simp only[Aeg,Aeh,Aei,AeD];omega) (out:=((vL (X++(e1.1,c1)::(e2.1,c2)::Y_)).map I++g)) ((Ed O).trans (by rw[show (vL (X++(e1.1,c1)::e2::Y_)).set (X.length+1) (c2:Int)=(vL (X++(e1.1,c1)::(e2.1,c2)::Y_)) from by simp[vL,Af0]]))) ?_))));rintro w H;replace H:=H.l12;refine Ax (H.pick 12 [0,1] Z) (HJ [10] [2,3,1,3] [] (by exact H.pick 12 [0,1] Z) Z J U Z (AE [11] J O (Am (Bj Z Z Z (Al 8 H Z Z Z Z (vs:=[.bool (decide (h=0)),v8,v9]) Z (Ad Z (Ad c7.one (Ad b8.one Aw))) J O (out:=[.bool (decide (h=0)),v4,v5,.bool (decide (h=0)),v8,v9]) Z) ?_))));rintro w H;replace H:=H.l12;refine Ax (H.pick 12 [0,1] Z) (a_done J (gn (Z1 6 [] [2] Z U (gf (DG (Z0 9 [4] Z (gx (Zc 3 Z ?_))))))));have K2:=H.says 4 Z (λh a=>trA.k a);have g7:Bd t2.N h es1 e2.1 La:=O2.st.bd (λv m=>by simp[m]) (O1.bd k6);have h2:Bd t2.N h es2 (nx Y_ hi) Lb:=O2.bd l2;have d5:es2≠[]:=λq=>by rw[q] at g6;simp at g6;omega
 obtain ⟨c4,a2,b4⟩:=ZO g7 h2 e7.srt f0.srt k0 l7 d5 m0 m4;have a7:(vals (es1++es2)).Nodup:=c4.nd a2 (λx hx=>(b4 x hx).2) hP.d;have a5:=O2.st.op c1 O O1.N0 O1.C1;have d8:Sq (λc a b L=>Tr t2.N h c a b 4 L) X e1.1 L0:=Sq.imp hP.q0 λx hx _ _ q=>O2.st.fr _ (by simp[AeB hx,vals]) _ _ _ _ _ (O1.st.fr _ (by simp[AeB hx,vals]) _ _ _ _ _ q);have d9:Sq (λc a b L=>Tr t2.N h c a b 4 L) Y_ hi L2:=Sq.imp hP.q2 λx hx _ _ q=>O2.st.fr _ (by simp[AeB hx,vals]) _ _ _ _ _ (O1.st.fr _ (by simp[AeB hx,vals]) _ _ _ _ _ q);have j7:∀v∈vals es1,1<=v/\v<1024:=λv m=>by have:=K2.i.rin v (by simp[CV,m]);omega
 have k3:∀v∈vals es2,1<=v/\v<1024:=λv m=>by have:=K2.i.rin v (by simp[CV,m]);omega
 have a8:=CkN.of e7 j7;have a9:=CkN.of f0 k3;have c6:=JI b4 (by have:=hP.l0;omega) (by have:=hP.h1;omega);refine Z3 5 [2,3,0,0,8,3,2,3,1,3,8,3] [] H Z U ?_;rcases Aes 8 (es1.length+es2.length) with hj|hj
 ·refine z_E_ Z (call222 _) (joinF_e (λh q=>q.rd) (λh q=>q.rd) (λh q=>q.rd) (λh q=>q.rd) a8 a9 a2 hj) H.f3.f3.f7.f7 ?_;intro w H;refine Za 3 [] H Z ?_;intro m5 w H;refine Z5 20 [0,4,2,3,0,0,9,3,2,3,1,3,9,3] [] H Z U ?_;intro w H;have g4:5<=FK es1 es2/\FK es1 es2<=8/\4<=(es1++es2).length-FK es1 es2/\(es1++es2).length-FK es1 es2<=8:=by unfold FK;simp only[Aeg];omega
  have e9:=AeP (FK es1 es2) (es1++es2);obtain ⟨x_,d7⟩:∃x_,x_=(es1++es2).take (FK es1 es2):=⟨_,Z⟩;obtain ⟨y_,g1⟩:∃y_,y_=(es1++es2).drop (FK es1 es2):=⟨_,Z⟩;refine Ar Z (call223 _) (ZP (λh q=>q.rd) (λh q=>q.rd) (λh q=>q.rd) (λh q=>q.rd) a8 a9 a2 hj x_ y_ d7 g1) H.f4.f4.f4.f4 ?_;rintro _ w _ ⟨g0,e6,g3,c0,rfl,rfl⟩ H;replace H:=H.l17;have i2:=H.sy 0 (·.slc);have h5:=H.sy 1 (·.slc);have d2:=H.sy 2 (·.slc);have g9:=H.sy 3 (·.slc);have c9:4<=x_.length/\x_.length<=8:=by rw[d7,Aez];simp only[Aeg] at g4 ⊢;omega
  have a6:4<=y_.length/\y_.length<=8:=by rw[g1,AeQ];exact g4.2.2
  rw[<-d7,<-g1] at e9;rw[<-e9] at c4 a2 b4 a7 c6;have d1:x_≠[]:=λq=>by rw[q] at c9;simp at c9
  have d6:y_≠[]:=λq=>by rw[q] at a6;simp at a6
  obtain ⟨M1,M2,hM,i0,l5⟩:=Bd.app.1 c4;obtain ⟨h9,h0,d0,d3⟩:=OO a2 b4 d1 d6;obtain ⟨j6,j2,_⟩:=Srt.app.1 a2;rw[BQ,Afb] at a7;obtain ⟨ky,e0⟩:∃ky,ky=nx y_ (nx Y_ hi):=⟨_,Z⟩;rw[<-e0] at i0 h9 h0 d0 d3;have j3:(Nd.mk (decide (h=0)) x_).Ok:=⟨j6,c9.2,λe he=>c6 e (by simp[he]),λ_=>d1⟩;have k7:(Nd.mk (decide (h=0)) y_).Ok:=⟨j2,a6.2,λe he=>c6 e (by simp[he]),λ_=>d6⟩;have k9:(c2::(vals es2++(c1::(vals es1++(vals X++(vals Y_++Q)))))).Perm (c1::(vals x_++(c2::(vals y_++(vals X++(vals Y_++Q)))))):=mp3 c1 c2 es1 es2 x_ y_ e9.symm;refine Za 4 [] H Z ?_;intro j1 w H;refine Za 0 [] H Z ?_;intro h4 w H;refine AC Z Z (Al 1 H Z Z Z Z (vs:=[.bool (decide (h=0)),g0,e6]) Z (Ad Z (Ad i2.one (Ad h5.one Aw))) J O (out:=[.bool (decide (h=0)),g0,e6]) Z) ?_;rintro w H;replace H:=H.l19;refine AC Z Z (Al 0 H Z Z Z Z (vs:=[.bool (decide (h=0)),g3,c0]) Z (Ad Z (Ad d2.one (Ad g9.one Aw))) J O (out:=[.bool (decide (h=0)),g3,c0]) Z) ?_;rintro w H;replace H:=H.l19;refine Z0 15 [4] Z ?_;replace H:=(H.mono 13 (B:=trA Tb pp mb n o (some (t2,c1::(vals x_++(c2::(vals y_++(vals X++(vals Y_++Q)))))))) Z (λh q=>q.perm k9)).l19;replace H:=(H.pick 19 [11,1,18,0,2,3,4,5,6,7,8,9,10,12,13,14,15,16,17] Z).l19;refine AQ (Sep z (blk b1 [.bool false,.slice (some ⟨gk,0,none⟩) ((kL (X++e1::e2::Y_)).length) a0,.slice (some ⟨gv,0,none⟩) ((vL (X++e1::e2::Y_)).length) s] 201::blk j1 [.bool (decide (h=0)),g0,e6] 201::blk gv ((vL (X++(e1.1,c1)::(e2.1,c2)::Y_)).map I++g) 3::R)) 9 Z J (A4 H λw H'=>?_);have H:=H'.l19;refine AT [0,1,2,3] [2,0,0] [] (by exact H.pick 19 [0,1,2] Z) Z J Z (BM 4 Z J J J Z Z Z (CJ Z (z:=1) (j:=X.length) (r:=X.length) J Z Z Z (by simp only[Aeh,Aeg,Aei];omega) U) (H.pick 19 [0,1,2] Z) (BM 5 Z J J J Z Z Z (Bn Z Z J (λ_ hx=>hx.cel 2 Z X.length (show ((vL (X++(e1.1,c1)::(e2.1,c2)::Y_)).map I++g)[X.length]?=some (I (c1:Int)) from (by rw[Aeo O,Aeq];simp[vL])))) (H.pick 19 [0,1,2] Z) ?_));refine AT [6] [1,3] [] (by exact H.pick 19 [0,1,2] Z) Z J Z (AE [7] J O (Am (PT Z Z Z Z Z Z (λw=>call183 _ w) (F8 pp mb n o t2 (c2::(vals y_++(vals X++(vals Y_++Q)))) c1 (decide (h=0)) x_ (λh q=>q.rd) (λh q=>q.rd) h e1.1 ky 4 M1 i0 Z h9 c9.1 j3 a7.1 a5.2 a5.1 (by have:=O1.st.k;have:=O2.st.k;omega)) H 15 [14,4,5,0,1,2,3,6,7,8,9,10,11,12,13] Z Z ?_)));rintro _ w _ ⟨t3,⟨l,b9,l4,j9⟩,rfl,rfl⟩ H;replace H:=H.l19;refine Ax (H.pick 19 [3,4,5] Z) (AT [8] [] [] (by exact H.pick 19 [3,4,5] Z) Z J Z (a_done J (gn (Z0 11 [4] Z ?_))));obtain ⟨f9,b0,rfl⟩:=d2;have h7:=(H.rv 7 (·.rd)).at (j:=0) (u:=I ky) (by rw[Aeq,FF (hi:=nx Y_ hi) a6.1,e0];rfl);replace H:=(H.pick 19 [3,6,7,0,1,2,4,5,8,9,10,11,12,13,14,15,16,17,18] Z).l19;refine AQ (Sep z (blk b1 [.bool false,.slice (some ⟨gk,0,none⟩) ((kL (X++e1::e2::Y_)).length) a0,.slice (some ⟨gv,0,none⟩) ((vL (X++e1::e2::Y_)).length) s] 201::blk h4 [.bool (decide (h=0)),.slice f9 ((kL y_).length) b0,c0] 201::grow 3 1 (.slice f9 ((kL y_).length) b0) ((kL y_).length) ((kL y_).map I)::R)) 10 Z J (A4 H λw H'=>?_);have H:=H'.l19;refine HJ [0,1,2,3,4,5] [1,0,0,1,1,0] [(X.length:Int)+1] (by exact H.pick 19 [0,1,2] Z) Z J U Z (BM 6 Z J J J Z Z Z (Ak Z (z:=1) (j:=0) (r:=0) J Z Z Z (by simp only[Aeh];omega) h7 U) (H.pick 19 [0,1,2] Z) (BM 7 Z J J J Z Z Z (Ay Z Z J (λ_ j8=>(j8.rv 2 (·.rd)).at (j:=0) (u:=I ky) (by rw[Aeq,FF (hi:=nx Y_ hi) a6.1,e0];rfl))) (H.pick 19 [0,1,2] Z) ?_));refine BM 8 Z J J J Z Z Z (CJ Z (z:=1) (j:=(X.length+1)) (r:=(X.length+1)) J Z Z U (by simp only[Aeh,Aeg,Aei];omega) U) (H.pick 19 [0,1,2] Z) (AE [9] J O (Am (Bj Z Z Z (Al 18 H Z Z Z Z (vs:=[I ky]) Z (Ad Z Aw) J (by simp only[Aeg,Aeh,Aei,AeD];omega) (out:=((kL (X++(e1.1,c1)::(ky,c2)::Y_)).map I++b5)) ((Ed O).trans (by rw[show (kL (X++e1::e2::Y_)).set (X.length+1) ky=(kL (X++(e1.1,c1)::(ky,c2)::Y_)) from by simp[kL,Af0]]))) ?_)));rintro w H;replace H:=H.l19;refine Ax (H.pick 19 [0,1,2] Z) (a_done J (gn (Zc 2 Z ?_)));replace H:=(H.mono 3 (B:=trA Tb pp mb n o (some (t3,c2::(vals y_++(c1::(vals X++(vals Y_++Q))))))) Z (λh q=>q.perm (mp4 c1 c2))).l19;replace H:=(H.pick 19 [0,1,7,2,3,4,5,6,8,9,10,11,12,13,14,15,16,17,18] Z).l19;refine AQ (Sep z (blk b1 [.bool false,.slice (some ⟨gk,0,none⟩) ((kL (X++e1::e2::Y_)).length) a0,.slice (some ⟨gv,0,none⟩) ((vL (X++e1::e2::Y_)).length) s] 201::blk h4 [.bool (decide (h=0)),.slice f9 ((kL y_).length) b0,c0] 201::blk gv ((vL (X++(e1.1,c1)::(e2.1,c2)::Y_)).map I++g) 3::R)) 12 Z J (A4 H λw H'=>?_);have H:=H'.l19;refine HJ [0,1,2,3,4,5] [0,3,2,0,0] [(X.length:Int)+1] (by exact H.pick 19 [0,1,2] Z) Z J U Z (BM 6 Z J J J Z Z Z (CJ Z (z:=1) (j:=(X.length+1)) (r:=(X.length+1)) J Z Z U (by simp only[Aeh,Aeg,Aei];omega) U) (H.pick 19 [0,1,2] Z) (BM 7 Z J J J Z Z Z (Bn Z Z J (λ_ hx=>hx.cel 2 Z (X.length+1) (show ((vL (X++(e1.1,c1)::(e2.1,c2)::Y_)).map I++g)[X.length+1]?=some (I (c2:Int)) from (by rw[Aeo O,Aeq];simp[vL])))) (H.pick 19 [0,1,2] Z) ?_));refine AT [8] [1,3] [] (by exact H.pick 19 [0,1,2] Z) Z J Z (AE [9] J O (Am (PT Z Z Z Z Z Z (λw=>call183 _ w) (F8 pp mb n o t3 (c1::(vals X++(vals Y_++Q))) c2 (decide (h=0)) y_ (λh q=>q.rd) (λh q=>q.rd) h ky (nx Y_ hi) 4 M2 (l.bd (λv m=>by simp[m]) l5) Z h0 a6.1 k7 a7.2.1 (l.op c2 O O2.N0 O2.C1).2 (l.op c2 O O2.N0 O2.C1).1 (by have:=O1.st.k;have:=O2.st.k;have:=l.k;omega)) H 9 [4,3,8,0,1,2,5,6,7] Z Z ?_)));rintro _ w _ ⟨t4,⟨a4,i9,i8,k1⟩,rfl,rfl⟩ H;replace H:=H.l19;refine Ax (H.pick 19 [3,4,5] Z) (AE [10] J O (Am (Bj Z Z Z (Al 17 H Z Z Z Z (vs:=[.bool false,.slice (some ⟨gk,0,none⟩) ((kL (X++e1::e2::Y_)).length) a0,.slice (some ⟨gv,0,none⟩) ((vL (X++e1::e2::Y_)).length) s]) Z (by simp[u8,u32,Value.oneCell']) J O (out:=[.bool false,.slice (some ⟨gk,0,none⟩) ((kL (X++e1::e2::Y_)).length) a0,.slice (some ⟨gv,0,none⟩) ((vL (X++e1::e2::Y_)).length) s]) Z) ?_)));rintro w H;replace H:=H.l19;refine Ax (H.pick 19 [3,4,5] Z) (AT [11] [] [] (by exact H.pick 19 [3,4,5] Z) Z J Z (a_done J (gn (Zc 2 Z (Zl [17,3] H Z ?_)))));replace H:=(H.mono 18 (B:=grow 3 1 (.slice (some ⟨gk,0,none⟩) ((kL (X++e1::e2::Y_)).length) a0) ((kL (X++(e1.1,c1)::(ky,c2)::Y_)).length) ((kL (X++(e1.1,c1)::(ky,c2)::Y_)).map I)) Z (λh q=>by rw[show (kL (X++(e1.1,c1)::(ky,c2)::Y_)).length=(kL (X++e1::e2::Y_)).length from by simp];exact q.grow U U (by have a:=e5;have b:=f2;simp only[Aeg,Aeh,Aei] at a b ⊢;omega) (by rw[AeR,AeI O]))).l19;replace H:=(H.mono 5 (B:=grow 3 1 (.slice (some ⟨gv,0,none⟩) ((vL (X++e1::e2::Y_)).length) s) ((vL (X++(e1.1,c1)::(ky,c2)::Y_)).length) ((vL (X++(e1.1,c1)::(ky,c2)::Y_)).map I)) Z (λh q=>by rw[show (vL (X++(e1.1,c1)::(ky,c2)::Y_)).length=(vL (X++e1::e2::Y_)).length from by simp,show vL (X++(e1.1,c1)::(ky,c2)::Y_)=vL (X++(e1.1,c1)::(e2.1,c2)::Y_) from by simp[vL]];exact q.grow U U (by have a:=g2;have b:=e8;simp only[Aeg,Aeh,Aei] at a b ⊢;omega) (by rw[AeR,AeI O]))).l19;replace H:=(H.mono 0 (B:=trA Tb pp mb n o (some (t4,vals (X++(e1.1,c1)::(ky,c2)::Y_)++Q))) Z (λh q=>q.perm (mp6 c1 c2 e1.1 ky X Y_ Q))).l19;have a1:=mn_share (c1:=c1) (c2:=c2) hP.ok hP.r (Sq.st a4 (λv m=>by simp[m]) (Sq.st l (λv m=>by simp[m]) d8)) (Sq.st a4 (λv m=>by simp[m]) (Sq.st l (λv m=>by simp[m]) d9)) (a4.fr c1 O _ _ _ _ _ b9) i9 hM.symm d0 d3 hP.h1;exact ⟨_,.inr ⟨t4,_,_,_,⟨St.t4 O1.st O2.st l a4 U (λp hp=>by simp[hp]) (λp hp=>by simp[hp]) (λp hp=>by simp[hp]) (λp hp=>by simp[hp]),a1.1,a1.2.1,a1.2.2.1,a1.2.2.2,by simp⟩,Z,Z⟩,H.perm 19 [18,5,0] Z Z⟩
 refine Ar Z (call222 _) (AbY (λh q=>q.rd) (λh q=>q.rd) (λh q=>q.rd) (λh q=>q.rd) a8 a9 a2 hj) H.f3.f3.f7.f7 ?_;rintro _ w _ ⟨e3,e4,rfl,rfl⟩ H;replace H:=H.l14;have i5:=H.sy 0 (·.slc);have i1:=H.sy 1 (·.slc);refine Za 3 [] H Z ?_;intro l1 w H;refine AC Z Z (Al 0 H Z Z Z Z (vs:=[.bool (decide (h=0)),e3,e4]) Z (Ad Z (Ad i5.one (Ad i1.one Aw))) J O (out:=[.bool (decide (h=0)),e3,e4]) Z) ?_;rintro w H;replace H:=H.l15;refine Z0 13 [3] Z ?_;have j5:(Nd.mk (decide (h=0)) (es1++es2)).Ok:=⟨a2,by simp;omega,c6,λ_=>by simp[d5]⟩;replace H:=(H.mono 9 (B:=trA Tb pp mb n o (some (t2,c1::(vals (es1++es2)++(c2::(vals X++(vals Y_++Q))))))) Z (λh q=>q.perm (AdT c1 c2 es1 es2))).l15;replace H:=H.f14.f1.f8;refine AQ (Sep z (blk b1 [.bool false,.slice (some ⟨gk,0,none⟩) ((kL (X++e1::e2::Y_)).length) a0,.slice (some ⟨gv,0,none⟩) ((vL (X++e1::e2::Y_)).length) s] 201::blk l1 [.bool (decide (h=0)),e3,e4] 201::blk gv ((vL (X++(e1.1,c1)::(e2.1,c2)::Y_)).map I++g) 3::R)) 9 Z J (A4 H λw H'=>?_);have H:=H'.l15;refine AT [0,1,2,3] [2,0,0] [] (by exact H.pick 15 [0,1,2] Z) Z J Z (BM 4 Z J J J Z Z Z (CJ Z (z:=1) (j:=X.length) (r:=X.length) J Z Z Z (by simp only[Aeh,Aeg,Aei];omega) U) (H.pick 15 [0,1,2] Z) (BM 5 Z J J J Z Z Z (Bn Z Z J (λ_ hx=>hx.cel 2 Z X.length (show ((vL (X++(e1.1,c1)::(e2.1,c2)::Y_)).map I++g)[X.length]?=some (I (c1:Int)) from (by rw[Aeo O,Aeq];simp[vL])))) (H.pick 15 [0,1,2] Z) ?_));refine AT [6] [1,3] [] (by exact H.pick 15 [0,1,2] Z) Z J Z (AE [7] J O (Am (Bt Z Z Z Z Z Z (λw=>call183 _ w) (F8 pp mb n o t2 (c2::(vals X++(vals Y_++Q))) c1 (decide (h=0)) (es1++es2) (λh q=>q.rd) (λh q=>q.rd) h e1.1 (nx Y_ hi) 4 (La++Lb) c4 Z b4 (by simp;omega) j5 a7 a5.2 a5.1 (by have:=O1.st.k;have:=O2.st.k;omega)) H.f4.f4.f10 Z ?_)));rintro _ w _ ⟨t3,⟨l,b9,l4,j9⟩,rfl,rfl⟩ H;replace H:=H.l15;refine Ax (H.pick 15 [3,4,5] Z) (AT [8] [] [] (by exact H.pick 15 [3,4,5] Z) Z J Z (a_done J (gn (Z0 12 [4] Z ?_))));replace H:=(H.mono 0 (B:=trA Tb pp mb n o (some (t3,c2::(c1::(vals X++(vals Y_++Q)))))) Z (λh q=>q.perm (AfY _ _ _))).l15;refine Z3 6 [2,3,0] [(X.length:Int)+1] H Z U (Ab Z (CJ Z (z:=1) (j:=(X.length+1)) (r:=(X.length+1)) J Z Z U (by simp only[Aeh,Aeg,Aei];omega) U) (Ab Z (Bn Z Z J (Az (H.cel 5 Z (X.length+1) (show ((vL (X++(e1.1,c1)::(e2.1,c2)::Y_)).map I++g)[X.length+1]?=some (I (c2:Int)) from (by rw[Aeo O,Aeq];simp[vL]))))) ?_));refine Ar Z (call142 _) (G0 pp mb n o t3 c2 (λd q=>by rw[(l.op c2 O O2.N0 O2.C1).1] at q;cases q)) H ?_;rintro _ w _ ⟨t4,⟨a3,n6,i8,k1,m8⟩,rfl,rfl⟩ H;refine Z0 13 [4] Z ?_;have K4:=H.says 0 Z (λh a=>trA.k a);have c8:∀v∈vals X++vals Y_,1<=v/\v<1024:=λv m=>by have:=K4.i.rin v (by simp only[CV,Aep,Aer] at m ⊢;rcases m with h|h<;>simp[h]);omega
 have d4:1<=c1/\c1<1024:=by have:=K4.i.rin c1 (by simp[CV]);omega
 have h3:1<=c2/\c2<1024:=by have:=K2.i.rin c2 (by simp[CV]);omega
 have k4:=QP (N:=t4.N) (c1:=c1) hP.ok hP.r (Sq.st a3 (λv m=>by simp[m]) (Sq.st l (λv m=>by simp[m]) d8)) (Sq.st a3 (λv m=>by simp[m]) (Sq.st l (λv m=>by simp[m]) d9)) (a3.fr c1 O _ _ _ _ _ b9);have g8:CkN false (kL (X++(e1.1,c1)::Y_)) (vL (X++(e1.1,c1)::Y_)):=CkN.of k4.2.2.1 (λv m=>by rw[BQ,Ca] at m;simp only[Aer,Aep] at m;rcases m with q|q|q;exact c8 v (by simp[q]);rw[q];exact d4;exact c8 v (by simp[q]));have h6:CkN false (kL (X++(e1.1,c1)::(e2.1,c2)::Y_)) (vL (X++(e1.1,c1)::(e2.1,c2)::Y_)):=CkN.of (Ab7 hP.ok) (λv m=>by rw[BQ,Ca,Ca] at m;simp only[Aer,Aep] at m;rcases m with q|q|q|q;exact c8 v (by simp[q]);rw[q];exact d4;rw[q];exact h3;exact c8 v (by simp[q]));refine Z3 4 [3,3] [((X.length+1:Nat):Int)] H Z U (Ar Z (call184 _) (ZQ (λh q=>by rw[show kL (X++(e1.1,c1)::(e2.1,c2)::Y_)=kL (X++e1::e2::Y_) from by simp[kL]];exact q.rd U U (by simp only[Aeg,Aeh,Aei];omega) (by rw[Aew,AeR,AeI O])) (λh q=>by rw[show (vL (X++(e1.1,c1)::(e2.1,c2)::Y_)).length=(vL (X++e1::e2::Y_)).length from by simp];exact q.rd U U (by simp only[Aeg,Aeh,Aei];omega) (by rw[Aew,AeR,AeI O])) h6 g8) H.f5.f14 ?_);rintro _ w _ ⟨i4,g5,rfl,rfl⟩ H;replace H:=H.l17;have i3:=H.sy 0 (·.slc);have h8:=H.sy 1 (·.slc);refine Zc 2 Z (AC Z Z (Al 16 H Z Z Z Z (vs:=[.bool false,i4,g5]) Z (Ad Z (Ad i3.one (Ad h8.one Aw))) J O (out:=[.bool false,i4,g5]) Z) ?_);rintro w H;replace H:=H.l17;refine Zc 4 Z (Zl [16,3] H Z ?_);replace H:=(H.mono 4 (B:=trA Tb pp mb n o (some (t4,vals (X++(e1.1,c1)::Y_)++Q))) Z (λh q=>q.perm (mp5 c1 e1.1 X Y_ Q))).l17;have a1:=QP (c1:=c1) hP.ok hP.r (Sq.st a3 (λv m=>by simp[m]) (Sq.st l (λv m=>by simp[m]) d8)) (Sq.st a3 (λv m=>by simp[m]) (Sq.st l (λv m=>by simp[m]) d9)) (a3.fr c1 O _ _ _ _ _ b9);exact ⟨_,.inr ⟨t4,_,_,_,⟨St.t4 O1.st O2.st l a3 U (λp hp=>by simp[hp]) (λp hp=>by simp[hp]) (λp hp=>by simp[hp]) (λp hp=>by simp[hp]),a1.1,a1.2.1,a1.2.2.1,a1.2.2.2,by simp;omega⟩,Z,Z⟩,H.perm 17 [0,1,4] Z Z⟩
end
section
variable{Tb:Ai}
structure RmPre(n:Nat)(t:TS)(Q:List Nat)(a h:Nat)(lo hi:Int)(m:Nat)(key:Int)(v0:Nat)(L:List E):Prop where
 T:Tr t.N h a lo hi m L
 kin:(key,v0)∈L
 l0:0<=lo
 h1:hi<=1048576
 d:(vals L).Nodup
 mm:1<=m/\(h≠0->2<=m)
 hk:t.k+6*h+4<40
 hb:Q.length+10*h+42+n<=980
abbrev Lk(Tb:Ai)(pp mb n:Nat)(o:TB)(t:TS)(Q:List Nat)(h:Nat)(lo hi:Int)(m:Nat)(key:Int)(L:List E)(v:Value)(Γ:List Ai):Prop:=
 (cnt t.F 0 1024<=3*h/\∃s:TS×List Nat,v=.tuple #[.int .i64 0,.int .i64 0,.int .i64 20]/\Γ=[trA Tb pp mb n o (some s)])\/
 ∃(t2:TS) (c:Nat) (es':List E),(St t t2 Q (3*h+1) (6*h+2)/\Tr t2.N h c lo hi es'.length (BW key L)/\t2.N c=some (.nd ⟨decide (h=0),es'⟩)/\t2.C c=1/\m<=es'.length+1)/\v=.tuple #[.int .i64 (c:Int),.int .i64 (es'.length:Int),.int .i64 0]/\Γ=[trA Tb pp mb n o (some (t2,c::Q))]
theorem Ll(h:(vals X).Nodup):(vals (BW t X)).Nodup:=by
 unfold vals BW;exact List.Nodup.sublist (List.Sublist.map _ List.filter_sublist) h
theorem ZR{Y_:List E}:(m::(vals (X++(t,n)::Y_)++R)).Perm (n::(m::(vals (X++Y_)++R))):=
 AfF.2 λa=>by simp only[Aft,Afe,DM,Ei];omega
theorem Wo{Y_:List E}{e:E}:(n::(vals (X++e::Y_)++R)).Perm (e.2::(n::(vals X++(vals Y_++R)))):=
 AfF.2 λa=>by simp only[Aft,Afe,DM,Ei];omega
theorem TU{Y_:List E}:(m::(n::(vals X++(vals Y_++R)))).Perm (vals (X++(t,m)::Y_)++(n::R)):=
 AfF.2 λa=>by simp only[Aft,Afe,DM,Ei];omega
theorem MV :(vals X++(n::R)).Perm (n::(vals X++R)):=Afi
theorem Wp{N:Hm}{Y_:List E}(i:(Nd.mk true (X++(p,n)::Y_)).Ok)(u:B5 t s (X++(p,n)::Y_))(h:∀e∈X++(p,n)::Y_,∃b,N e.2=some (.dt b))(c:(vals (X++(p,n)::Y_)).Nodup):
  BW p (X++(p,n)::Y_)=X++Y_/\Bd N 0 (X++Y_) s (X++Y_)/\B5 t s (X++Y_)/\(Nd.mk true (X++Y_)).Ok/\(vals (X++Y_)).Nodup:=by
 have hs:Srt (X++(p,n)::Y_):=i.srt;obtain ⟨m,j,r⟩:=Srt.app.1 hs;have f:∀x∈X++Y_,x∈X++(p,n)::Y_:=λx g=>by
  rcases Aer.1 g with q|q<;>simp[q]
 have k:(X++(p,n)::Y_).length<=8:=i.len;refine ⟨L6 hs,⟨Z,λe d=>h e (f e d)⟩,λx g=>u x (f x g),⟨Srt.app.2 ⟨m,(Srt.cons.1 j).2,λa l b o=>r a l b (by simp[o])⟩,by simp at k ⊢;omega,λe d=>i.key e (f e d),λq=>by cases q⟩,?_⟩;rw[BQ,Ca] at c;rw[BQ];exact (Afj.1 (Afi.nodup_iff.1 c)).2
theorem Adg{N:Hm}{L Y_:List E}{e:E}{key:Int}(hs:Srt (X++e::Y_))(h:B5 s p (X++e::Y_))(o:Bd N (n+1) (X++e::Y_) p L)(k:X=[]\/e.1<=key)(r:∀x∈Y_,key<x.1/\e.1<x.1)(v:(key,m)∈L):
  ∃L0 Lc L2,(Sq (λc a b L=>Tr N n c a b 4 L) X e.1 L0/\Tr N n e.2 e.1 (nx Y_ p) 4 Lc/\Sq (λc a b L=>Tr N n c a b 4 L) Y_ p L2)/\L=L0++(Lc++L2)/\BW key L=L0++(BW key Lc++L2)/\(key,m)∈Lc/\s<=e.1/\nx Y_ p<=p:=by
 obtain ⟨L0,Lc,L2,rfl,f,w,g⟩:=Sq.at o;obtain ⟨u,l,z⟩:=Srt.app.1 hs;have a1:=Sq.srt f u (λx d=>z x d e O) (λ_ _ _ _ q=>Tr.srt q);have a3:=Sq.srt g (Srt.cons.1 l).2 (λx d=>(h x (by simp[d])).2) (λ_ _ _ _ q=>Tr.srt q);have i:∀x∈L0,x.1≠key:=λx d=>by
  rcases k with rfl|k
  ·simp only[Sq] at f;subst f;simp at d
  have:=a1.2.1 x d;omega
 have j:∀x∈L2,x.1≠key:=λx d=>by
  cases Y_ with
  | nil=>simp only[Sq] at g;subst g;simp at d
  | cons y t=>
   have:=a3.2.1 x d;have:=r y O;simp only[nx] at *;omega
 refine ⟨L0,Lc,L2,⟨f,w,g⟩,Z,?_,?_,(h e O).1,RT (λx d=>(h x (by simp[d])).2)⟩
 ·rw[Kl,Kl,GB i,GB j]
 rcases Aer.1 v with q|q
 ·exact absurd Z (i _ q)
 rcases Aer.1 q with q|q
 ·exact q
 exact absurd Z (j _ q)
theorem rm_node{Y_:List E}{e:E}(c2:Nat)(b:(Nd.mk false (X++e::Y_)).Ok)(d:B5 t s (X++e::Y_)):(Nd.mk false (X++(e.1,c2)::Y_)).Ok/\B5 t s (X++(e.1,c2)::Y_):=by
 have hs:Srt (X++e::Y_):=b.srt;have c:=Ko (k1:=e.1) c2 hs d (.inr Z) (Afo _) (d e O).1;have f:(X++e::Y_).length<=8:=b.len;refine ⟨⟨c.1,by simp at f ⊢;omega,λx a=>?_,λ_=>by simp⟩,c.2⟩;have a:x∈X++(e.1,c2)::Y_:=a;rcases Aer.1 a with a|a
 ·exact b.key x (by simp[a])
 rcases Aep.1 a with rfl|a
 ·exact b.key e O
 exact b.key x (by simp[a])
theorem rm_pick{t:TS}{Q:List Nat}{Y_:List E}{L0 Lc L2:List E}(e:(Nd.mk false (X++(q,i)::Y_)).Ok)(r:B5 s p (X++(q,i)::Y_))(o:Sq (λc a b L=>Tr t.N m c a b 4 L) X q L0)(f:Tr t.N m i q (nx Y_ p) j Lc)(v:Sq (λc a b L=>Tr t.N m c a b 4 L) Y_ p L2)
  (h3:3<=j)(h2:2<=(X++(q,i)::Y_).length)(l:0<=s)(u:p<=1048576)(d:(vals (L0++(Lc++L2))).Nodup)(w:t.k+5<40)(h:Q.length+30+n<=980):
  ∃U_ V f1 g m2 m3 M0 Ma Mb M2,X++(q,i)::Y_=U_++f1::g::V/\min (X.length:Int) (((X++(q,i)::Y_).length:Int)-2)=(U_.length:Int)/\L0++(Lc++L2)=M0++(Ma++(Mb++M2))/\MnPre n t Q m s p U_ V f1 g m2 m3 M0 Ma Mb M2:=by
 cases Y_ with
 | cons y Y_=>
  obtain ⟨Ly,L3,rfl,hy,q3⟩:=v;refine ⟨X,Y_,(q,i),y,j,4,L0,Lc,Ly,L3,Z,?_,Z,e,r,o,f,hy,q3,by omega,l,u,?_,w,h⟩
  ·simp only[Aeg,Aei];omega
  rw[BQ,BQ,BQ,Afb] at d;have z:=d.2.1;rw[<-Aej,Afb] at z;rw[BQ];exact z.1
 | nil=>
  have e2:L2=[]:=v;subst e2;rcases List.eq_nil_or_concat X with rfl|⟨X',x,rfl⟩
  ·simp at h2
  rw[List.concat_eq_append] at *;obtain ⟨La,Lb,rfl,qa,Lx,L5,rfl,hx,q5⟩:=Sq.app.1 o;have e5:L5=[]:=q5;subst e5;refine ⟨X',[],x,(q,i),4,j,La,Lx,Lc,[],by simp,?_,by simp,?_,?_,qa,hx,f,Z,by omega,l,u,?_,w,h⟩
  ·simp only[Aeg,Aei,AeD];omega
  ·rw[Aej] at e;exact e
  ·rw[Aej] at r;exact r
  simp only[BQ,AeY,Aej,Afb] at d ⊢;simp only[vals,AfB,AeS] at d ⊢;exact ⟨d.2.1.1,d.2.1.2.1,d.2.1.2.2⟩
end
section
variable{Tb:Ai}
set_option maxHeartbeats 2000000 in
theorem Ab9 (pp mb n:Nat) (o:TB) (t:TS) (Q:List Nat) (a:Nat) (lo hi:Int) (m:Nat) (key:Int) (v0:Nat) (L:List E) (y:RmPre n t Q a 0 lo hi m key v0 L):Aj 141 [Y pp,I (a:Int),I key] [trA Tb pp mb n o (some (t,a::Q))] (λv G=>Lk Tb pp mb n o t Q 0 lo hi m key L v G):=by
 intro z R w H;replace H:=H.l1;have K:=H.says 0 Z (λh a=>trA.k a);have hn:=K.hn;have b0:=y.kin;have hdL:=y.d;have d0:=y.hk;have d5:=y.hb;obtain ⟨c8,c7⟩:=y.mm;obtain ⟨es,hN,hm,b1,a1,a3,a6⟩:=y.T;have b8:CkN true (kL es) (vL es):=K.i.vok U hn.2 hN;have c1:=(K.i.nds a _ hN).2.1;obtain rfl:es=L:=a3.symm;refine Ae func141 Z ntmps141 Z (Zc 11 Z (Ar Z (call181 _) (JG pp mb n o t Q a true es hN U U) H ?_));rintro _ w _ (⟨c4,v1,v2,s,rfl,rfl⟩|⟨t1,c,v1,v2,O_,rfl,rfl⟩) H'
 ·have H:=H'.l3;have a0:=H.sy 0 (·.slc)
  have x:=H.sy 1 (·.slc);refine Za 4 [] H Z ?_;intro b3 w H;refine Zc 1 Z (AC Z Z (Al 0 H Z Z Z Z (vs:=[.bool true,v1,v2]) Z (Ad Z (Ad a0.one (Ad x.one Aw))) J O (out:=[.bool true,v1,v2]) Z) ?_);rintro w H;replace H:=H.l4;refine Z0 20 [3] Z (Zr Z ?_);exact ⟨_,.inl ⟨by omega,_,Z,Z⟩,H.perm 4 [3] Z Z⟩
 have H:=H'.l3;have a0:=H.sy 0 (·.slc);have x:=H.sy 1 (·.slc);refine Za 4 [] H Z ?_;intro b4 w H;refine Zc 1 Z (AC Z Z (Al 0 H Z Z Z Z (vs:=[.bool true,v1,v2]) Z (Ad Z (Ad a0.one (Ad x.one Aw))) J O (out:=[.bool true,v1,v2]) Z) ?_);rintro w H;replace H:=H.l4;refine Z2 25 [4,0,0,0,0,3] H Z (Ar Z (call133 _) (OR (es:=es) (λh q=>q.rd) (λh q=>q.rd) a1.len a1.srt key) H.f2.f2 ?_);rintro _ w _ (⟨X,vd,Y_,⟨g,hX⟩,rfl,rfl⟩|⟨b5,i0,rfl,rfl⟩) H'
 ·have H:=H'.l4;refine Zc 9 Z ?_;have b6:∀d,t1.N vd≠some (.nd d):=λd q=>by obtain ⟨b,hb⟩:=a6 (key,vd) (by rw[g];simp);rw[O_.dv vd (by rw[g];simp[vals]) b hb] at q;cases q
  obtain ⟨a5,a2,c0,a7,c3⟩:=Wp (N:=t1.N) (by rw[<-g];exact a1) (by rw[<-g];exact b1) (λe he=>by obtain ⟨b,hb⟩:=a6 e (by rw[g];exact he);exact ⟨b,O_.dv _ (by rw[g];exact AeB he) b hb⟩) (by rw[<-g];exact c1);obtain ⟨d6,c9,rfl⟩:=x;have a9:=(H.rv 1 (·.rd)).at (j:=X.length) (u:=I (vd:Int)) (by rw[g];simp[vL]);replace H:=(H.mono 3 (B:=trA Tb pp mb n o (some (t1,vd::(c::(vals (X++Y_)++Q))))) Z (λh q=>q.perm (by rw[g];exact ZR))).l4;refine Z2 5 [2,2,0] H Z (Ab Z (Ak Z (z:=1) (j:=X.length) (r:=X.length) J Z Z Z (by rw[g];simp) a9 U) (Ab Z (Ay Z Z J (Az a9)) (Ar Z (call142 _) (G0 pp mb n o t1 vd b6) H.f3 ?_)));rintro _ w _ ⟨t2,⟨l,d1,d4,d3,d2⟩,rfl,rfl⟩ H;refine Z2 16 [4,3,3] H Z ?_;have c5:∀v∈vals (X++Y_),1<=v/\v<1024:=λv hv=>by have K2:=H.says 0 Z (λh a=>trA.k a);have:=K2.i.rin v (by simp[CV,hv]);omega
  refine Ar Z (call184 _) (AbX (lf:=true) (X:=X) (e:=(key,vd)) (Y_:=Y_) (by rw[<-g];exact (λh q=>q.rd)) (by rw[<-g];exact (λh q=>q.rd)) (by rw[<-g];exact b8) (CkN.of a7 c5)) H.f2.f2 ?_;rintro _ w _ ⟨v5,v6,rfl,rfl⟩ H;replace H:=H.l6;have a8:=H.sy 0 (·.slc);have c6:=H.sy 1 (·.slc);refine Zc 3 Z (AC Z Z (Al 5 H Z Z Z Z (vs:=[.bool true,v5,v6]) Z (Ad Z (Ad a8.one (Ad c6.one Aw))) J O (out:=[.bool true,v5,v6]) Z) ?_);rintro w H;replace H:=H.l6;refine Z0 14 [4] Z ?_;replace H:=H.f5;refine AQ (Sep z (blk b4 [.bool true,v5,v6] 201::R)) 11 Z J (A4 H λw H'=>?_);have H:=H'.l6;refine AT [0,1,2] [1,0,0] [] (by exact H.pick 6 [0] Z) Z J Z (BM 3 Z J J J Z Z Z (Ef Z (sz:=1) J Z a8) (H.pick 6 [0] Z) (AT [4,5,6] [0,3] [] (by exact H.pick 6 [0] Z) Z J Z (AE [7] J O (Am (Bt Z Z Z Z Z Z (λw=>call183 _ w) (F8 pp mb n o t2 Q c true (X++Y_) (λh q=>q.rd) (λh q=>q.rd) 0 lo hi (X++Y_).length (X++Y_) (l.bd (λv hv=>by simp[hv]) a2) Z c0 (Aek _) a7 c3 (l.op c O O_.N0 O_.C1).2 (l.op c O O_.N0 O_.C1).1 (by have:=O_.st.k;have:=l.k;omega)) H.f2.f2.f5 Z ?_)))));rintro _ w _ ⟨t3,⟨a4,b2,b9,b7⟩,rfl,rfl⟩ H;replace H:=H.l6;refine Ax (H.pick 6 [3] Z) (AT [8,9,10] [] [] (by exact H.pick 6 [3] Z) Z J Z (a_done J (gn (Zc 2 Z (Zr Z ?_)))));exact ⟨_,.inr ⟨t3,c,X++Y_,⟨((O_.st.sub (R':=Q) (λp hp=>hp) (Aek _) (Aek _)).trans l (R:=Q) (R1:=Q) (λp hp=>hp) (λp hp=>by simp[hp]) (e:=1) (f:=1) U U).trans a4 (λp hp=>hp) (λp hp=>hp) U U,by rw[g,a5];exact b2,by rw[b7];exact BN _ _ _,by rw[b9];exact (l.op c O O_.N0 O_.C1).2,by have:es.length=X.length+Y_.length+1:=(by rw[g];simp;omega);simp only[Aeg];omega⟩,congrArg (λq:Int=>Value.tuple #[I (c:Int),I q,I 0]) O,Z⟩,H.perm 6 [0] Z Z⟩
 exact absurd ⟨v0,b0⟩ b5
set_option maxHeartbeats 4000000 in
theorem Aca (pp mb n:Nat) (o:TB) (t:TS) (Q:List Nat) (h:Nat) (ih:∀(t:TS) (Q:List Nat) (a:Nat) (lo hi:Int) (m:Nat) (key:Int) (v0:Nat) (L:List E),RmPre n t Q a h lo hi m key v0 L->Aj 141 [Y pp,I (a:Int),I key] [trA Tb pp mb n o (some (t,a::Q))] (λv G=>Lk Tb pp mb n o t Q h lo hi m key L v G)) (a:Nat) (lo hi:Int) (m:Nat) (key:Int) (v0:Nat) (L:List E) (hP:RmPre n t Q a (h+1) lo hi m key v0 L):Aj 141 [Y pp,I (a:Int),I key] [trA Tb pp mb n o (some (t,a::Q))] (λv G=>Lk Tb pp mb n o t Q (h+1) lo hi m key L v G):=by
 intro z R w H;replace H:=H.l1;have K:=H.says 0 Z (λh a=>trA.k a);have d6:=hP.kin;have h0:=hP.l0;have c3:=hP.h1;have hdL:=hP.d;have i1:=hP.hk;have h7:=hP.hb;obtain ⟨g6,d2⟩:=hP.mm;obtain ⟨es,hN,hm,e9,a0,f7⟩:=hP.T;refine Ae func141 Z ntmps141 Z (Zc 11 Z (Ar Z (call181 _) (JG pp mb n o t Q a false es hN U U) H ?_));rintro _ w _ (⟨g3,v1,v2,s,rfl,rfl⟩|⟨t1,c,v1,v2,O_,rfl,rfl⟩) l
 ·have H:=l.l3;have y:=H.sy 0 (·.slc)
  have b0:=H.sy 1 (·.slc);refine Za 4 [] H Z ?_;intro b3 w H;refine Zc 1 Z (AC Z Z (Al 0 H Z Z Z Z (vs:=[.bool false,v1,v2]) Z (Ad Z (Ad y.one (Ad b0.one Aw))) J O (out:=[.bool false,v1,v2]) Z) ?_);rintro w H;replace H:=H.l4;refine Z0 20 [3] Z (Zr Z ?_);exact ⟨_,.inl ⟨by omega,_,Z,Z⟩,H.perm 4 [3] Z Z⟩
 have H:=l.l3;have y:=H.sy 0 (·.slc);have b0:=H.sy 1 (·.slc);refine Za 4 [] H Z ?_;intro b4 w H;refine Zc 1 Z (AC Z Z (Al 0 H Z Z Z Z (vs:=[.bool false,v1,v2]) Z (Ad Z (Ad y.one (Ad b0.one Aw))) J O (out:=[.bool false,v1,v2]) Z) ?_);rintro w H;replace H:=H.l4;refine Z2 27 [4,0,0,0,0,3] H Z (Ar Z (call134 _) (Mh (es:=es) (λh q=>q.rd) (λh q=>q.rd) a0.len a0.srt (a0.ne Z) key) H.f2.f2 ?_);rintro _ w _ ⟨X,e,Y_,⟨i,hX,g8,hY⟩,rfl,rfl⟩ H;refine Zc 4 Z ?_;obtain ⟨i3,b7,rfl⟩:=b0;have c9:=(H.rv 1 (·.rd)).at (j:=X.length) (u:=I (e.2:Int)) (by rw[i];simp[vL]);replace H:=(H.mono 3 (B:=trA Tb pp mb n o (some (t1,e.2::(c::(vals X++(vals Y_++Q)))))) Z (λh q=>q.perm (by rw[i];exact Wo))).l4;have e2:Srt (X++e::Y_):=by rw[<-i];exact a0.srt
 have c7:B5 lo hi (X++e::Y_):=by rw[<-i];exact e9
 have f4:(Nd.mk false (X++e::Y_)).Ok:=by rw[<-i];exact a0
 obtain ⟨L0,Lc,L2,⟨e0,g0,e5⟩,e4,c0,e6,g9,g7⟩:=Adg e2 c7 (by rw[<-i];exact O_.bd f7) hX hY d6;have h9:X.length+Y_.length+1=es.length:=by rw[i];simp;omega
 have g5:es.length<=8:=a0.len;have d9:(vals Lc).Nodup:=by rw[e4,BQ,BQ,Afb] at hdL;have h5:=hdL.2.1;rw[Afb] at h5;exact h5.1
 refine Z2 5 [2,2,0] H Z (Ab Z (Ak Z (z:=1) (j:=X.length) (r:=X.length) J Z Z Z (by rw[i];simp) c9 U) (Ab Z (Ay Z Z J (Az c9)) (Zc 1 Z (Ar Z (call141 _) (ih t1 (c::(vals X++(vals Y_++Q))) e.2 e.1 (nx Y_ hi) 4 key v0 Lc ⟨g0,e6,by omega,by omega,d9,⟨by omega,λ_=>by omega⟩,by have:=O_.st.k;omega,by simp only[Aei,Aeg,Kq];omega⟩) H.f3 ?_))));rintro _ w _ (⟨h4,s2,rfl,rfl⟩|⟨t2,c2,f6,⟨g,c6,i2,h6,h3⟩,rfl,rfl⟩) l
 ·have H:=l.l4;refine Z0 26 [3] Z (Zr Z ?_);exact ⟨_,.inl ⟨by have:=O_.st.f;omega,_,Z,Z⟩,H.perm 4 [0] Z Z⟩
 have H:=l.l4;refine Z0 20 [4] Z ?_;have i0:X.length<es.length:=by rw[i];simp
 have d7:0<(vL es).length:=by simp only[Aeh];omega
 obtain ⟨b8,d5,a1,g1,f0,f8,g4,l⟩:=H.ungrow 2 Z d7;cases g1;clear H;have H:=l.l4;refine Z2 5 [2,3,0] H Z (Ab Z (CJ Z (z:=1) (j:=X.length) (r:=X.length) J Z Z Z (by simp only[Aeh];omega) U) (AC Z Z (Al 2 H Z Z Z Z (vs:=[I (c2:Int)]) Z (by simp[u8,u32,Value.oneCell']) J (by simp only[Aeg,Aeh,Aei,AeD];omega) (out:=(((vL es).set X.length (c2:Int)).map I++a1)) (Ed (by simp only[Aeh];omega))) ?_));rintro w H;replace H:=H.l4;refine Zc 4 Z ?_;have d1:(vL es).length=(vL (X++(e.1,c2)::Y_)).length:=by rw[i];simp
 have d8:(vL es).set X.length (c2:Int)=vL (X++(e.1,c2)::Y_):=by rw[i];simp[vL,Af0]
 have a9:kL es=kL (X++(e.1,c2)::Y_):=by rw[i];simp[kL]
 have e3:(kL es).length=es.length:=by simp
 obtain ⟨b9,c1⟩:=rm_node c2 f4 c7;have d3:Sq (λc a b L=>Tr t2.N h c a b 4 L) X e.1 L0:=Sq.st g (λv hv=>by simp[hv]) e0;have c8:Sq (λc a b L=>Tr t2.N h c a b 4 L) Y_ hi L2:=Sq.st g (λv hv=>by simp[hv]) e5;have c4:(X++(e.1,c2)::Y_).length=es.length:=by simp only[Aeg,Aei];omega
 have a2:=g.op c O O_.N0 O_.C1;have d4:(vals (L0++(BW key Lc++L2))).Nodup:=by rw[<-c0];exact Ll hdL
 replace H:=(H.mono 2 (B:=grow 3 1 (.slice (some ⟨b8,0,none⟩) ((vL es).length) b7) ((vL es).length) ((vL (X++(e.1,c2)::Y_)).map I)) Z (λh q=>q.grow U U (by simp only[Aeg,Aeh,AeW];simp only[Aeh] at *;omega) (by rw[AeR,AeI O,d8]))).l4;replace H:=(H.mono 0 (B:=trA Tb pp mb n o (some (t2,vals (X++(e.1,c2)::Y_)++(c::Q)))) Z (λh q=>q.perm TU)).l4;refine Z0 4 [0] Z (An 87 Z (λh1=>?_) (λh1=>?_))
 ·refine Z2 2 [1,3,0] H Z (Ab Z (Ef Z (sz:=1) J Z y) (Z0 4 [0] Z (Af Z (λh2=>?_) (λh2=>?_))))
  ·refine Zc 1 Z ?_;have d0:3<=f6.length:=by omega
   obtain ⟨U_,V,f1,f2,m2,m3,M0,Ma,Mb,M2,hU,c5,g2,f5⟩:=rm_pick (n:=n) (t:=t2) (Q:=c::Q) b9 c1 d3 c6 c8 d0 U h0 c3 d4 (by have:=O_.st.k;have:=g.k;omega) (by simp only[Aei];omega);replace H:=(H.mono 1 (B:=grow 3 1 v1 ((kL (U_++f1::f2::V)).length) ((kL (U_++f1::f2::V)).map I)) Z (λh q=>by rw[<-hU,<-a9];exact q)).l4;replace H:=(H.mono 2 (B:=grow 3 1 (.slice (some ⟨b8,0,none⟩) ((vL es).length) b7) ((vL (U_++f1::f2::V)).length) ((vL (U_++f1::f2::V)).map I)) Z (λh q=>by rw[<-hU,<-d1];exact q)).l4;replace H:=(H.mono 0 (B:=trA Tb pp mb n o (some (t2,vals (U_++f1::f2::V)++(c::Q)))) Z (λh q=>by rw[<-hU];exact q)).l4;refine Z2 6 [3,3,1,3,0] H Z (Ab Z (Ef Z (sz:=1) J Z y) (Z1 1 [] [(((kL es).length:Nat):Int)-2] Z U (Ab Z (Ky Z Z Z) (AB 101 (v:=I (U_.length:Int)) Z (congrArg I (by rw[<-c5,c4,e3])) (Ar Z (call185 _) (Ab8 pp mb n o t2 (c::Q) h lo hi U_ V f1 f2 m2 m3 M0 Ma Mb M2 f5) H ?_)))));rintro _ w _ (⟨h8,v5,v6,a6,s3,rfl,rfl⟩|⟨t3,a6,v5,v6,⟨a3,a8,e8,f9,e7,e1⟩,rfl,rfl⟩) l
   ·have H:=l.l4;have a7:=H.sy 0 (·.slc)
    have b6:=H.sy 1 (·.slc);refine Zc 3 Z (AC Z Z (Al 3 H Z Z Z Z (vs:=[.bool false,v5,v6]) Z (Ad Z (Ad a7.one (Ad b6.one Aw))) J O (out:=[.bool false,v5,v6]) Z) ?_);rintro w H;replace H:=H.l4;refine Z0 19 [3] Z (Zr Z ?_);exact ⟨_,.inl ⟨by have:=O_.st.f;have:=g.f;omega,_,Z,Z⟩,H.perm 4 [2] Z Z⟩
   have H:=l.l4;have a7:=H.sy 0 (·.slc);have b6:=H.sy 1 (·.slc);refine Zc 3 Z (AC Z Z (Al 3 H Z Z Z Z (vs:=[.bool false,v5,v6]) Z (Ad Z (Ad a7.one (Ad b6.one Aw))) J O (out:=[.bool false,v5,v6]) Z) ?_);rintro w H;replace H:=H.l4;refine Z0 13 [4] Z ?_;have a4:=a3.op c O a2.1 a2.2;replace H:=(H.mono 2 (B:=trA Tb pp mb n o (some (t3,c::(vals a6++Q)))) Z (λh q=>q.perm MV)).l4;replace H:=H.f3;refine AQ (Sep z (blk b4 [.bool false,v5,v6] 201::R)) 11 Z J (A4 H λw l=>?_);have H:=l.l4;refine AT [0,1,2] [1,0,0] [] (by exact H.pick 4 [0] Z) Z J Z (BM 3 Z J J J Z Z Z (Ef Z (sz:=1) J Z a7) (H.pick 4 [0] Z) (AT [4,5,6] [0,3] [] (by exact H.pick 4 [0] Z) Z J Z (AE [7] J O (Am (Bt Z Z Z Z Z Z (λw=>call183 _ w) (F8 pp mb n o t3 Q c false a6 (λh q=>q.rd) (λh q=>q.rd) (h+1) lo hi a6.length (BW key L) (by rw[c0,g2];exact a8) O e8 (Aek _) f9 e7 a4.2 a4.1 (by have:=O_.st.k;have:=g.k;have:=a3.k;omega)) H.f2.f2.f3 Z ?_)))));rintro _ w _ ⟨t4,⟨a5,b2,b1,b5⟩,rfl,rfl⟩ H;replace H:=H.l4;refine Ax (H.pick 4 [3] Z) (AT [8,9,10] [] [] (by exact H.pick 4 [3] Z) Z J Z (a_done J (gn (Zc 2 Z (Zr Z ?_)))));exact ⟨_,.inr ⟨t4,c,a6,⟨(((O_.st.sub (R':=Q) (λp hp=>hp) (Aek _) (Aek _)).trans g (R:=Q) (R1:=Q) (λp hp=>hp) (λp hp=>by simp[hp]) (Aek _) (Aek _)).trans a3 (R:=Q) (R1:=Q) (λp hp=>hp) (λp hp=>by simp[hp]) (Aek _) (Aek _)).trans a5 (λp hp=>hp) (λp hp=>hp) U U,b2,by rw[b5];simp[BN],by rw[b1];exact a4.2,by rw[<-hU,c4] at e1;omega⟩,congrArg (λq:Int=>Value.tuple #[I (c:Int),I q,I 0]) O,Z⟩,H.perm 4 [0] Z Z⟩
  (exfalso;have:=d2 U;simp only[Aeh] at *;omega)
 refine Zc 11 Z ?_;have a8:Bd t2.N (h+1) (X++(e.1,c2)::Y_) hi (L0++(BW key Lc++L2)):=Sq.mk (e:=(e.1,c2)) d3 (c6.mono (Afo _) (Afo _) U) c8;replace H:=(H.mono 0 (B:=trA Tb pp mb n o (some (t2,c::(vals (X++(e.1,c2)::Y_)++Q)))) Z (λh q=>q.perm MV)).l4;replace H:=(H.mono 1 (B:=grow 3 1 v1 ((kL es).length) ((kL (X++(e.1,c2)::Y_)).map I)) Z (λh q=>by rw[<-a9];exact q)).l4;replace H:=H.f3;refine AQ (Sep z (blk b4 [.bool false,v1,.slice (some ⟨b8,0,none⟩) ((vL es).length) b7] 201::R)) 11 Z J (A4 H λw l=>?_);have H:=l.l4;refine AT [0,1,2] [1,0,0] [] (by exact H.pick 4 [0] Z) Z J Z (BM 3 Z J J J Z Z Z (Ef Z (sz:=1) J Z y) (H.pick 4 [0] Z) (AT [4,5,6] [0,3] [] (by exact H.pick 4 [0] Z) Z J Z (AE [7] J O (Am (Bt Z Z Z Z Z Z (λw=>call183 _ w) (F8 pp mb n o t2 Q c false (X++(e.1,c2)::Y_) (λh q=>by rw[<-a9];rw[<-a9] at q;exact q.rd) (λh q=>by rw[<-d1];exact q.rd) (h+1) lo hi (X++(e.1,c2)::Y_).length (BW key L) (by rw[c0];exact a8) O c1 (Aek _) b9 (a8.nodup b9.srt (λx hx=>(c1 x hx).2)) a2.2 a2.1 (by have:=O_.st.k;have:=g.k;omega)) H.f3.f3.f3 Z ?_)))));rintro _ w _ ⟨t4,⟨a5,b2,b1,b5⟩,rfl,rfl⟩ H;replace H:=H.l4;refine Ax (H.pick 4 [3] Z) (AT [8,9,10] [] [] (by exact H.pick 4 [3] Z) Z J Z (a_done J (gn (Zc 2 Z (Zr Z ?_)))));exact ⟨_,.inr ⟨t4,c,(X++(e.1,c2)::Y_),⟨((O_.st.sub (R':=Q) (λp hp=>hp) (Aek _) (Aek _)).trans g (R:=Q) (R1:=Q) (λp hp=>hp) (λp hp=>by simp[hp]) (Aek _) (Aek _)).trans a5 (λp hp=>hp) (λp hp=>hp) U U,b2,by rw[b5];simp[BN],by rw[b1];exact a2.2,by rw[c4];omega⟩,congrArg (λq:Int=>Value.tuple #[I (c:Int),I q,I 0]) (by simp only[Aeh];omega),Z⟩,H.perm 4 [0] Z Z⟩
end
section
variable{Tb:Ai}
theorem OW(pp mb n:Nat)(o:TB):∀(h:Nat) (t:TS) (Q:List Nat) (a:Nat) (lo hi:Int) (m:Nat) (key:Int) (v0:Nat) (L:List E),RmPre n t Q a h lo hi m key v0 L->Aj 141 [Y pp,I (a:Int),I key] [trA Tb pp mb n o (some (t,a::Q))] (λv G=>Lk Tb pp mb n o t Q h lo hi m key L v G)
 | 0=>λt Q a lo hi m key v0 L hP=>Ab9 pp mb n o t Q a lo hi m key v0 L hP
 | h+1=>λt Q a lo hi m key v0 L hP=>Aca pp mb n o t Q h (OW pp mb n o h) a lo hi m key v0 L hP
abbrev rootM(h:Nat):Nat:=if h=0 then 1 else 2
theorem Tr.data{N:Hm}{h:Nat}{lo hi:Int}{L:List E}(t:Tr N h r lo hi m L):∀e∈L,∃b,N e.2=some (.dt b):=by
 induction h generalizing r lo hi m L with
 | zero=>obtain ⟨es,_,_,_,_,rfl,h⟩:=t;exact h
 | succ h ih=>
  obtain ⟨es,_,_,_,_,i⟩:=t;have key:∀(es:List E) (L:List E),Sq (λc a b L=>Tr N h c a b 4 L) es hi L->∀e∈L,∃b,N e.2=some (.dt b):=by
   intro es
   induction es with
   | nil=>intro L q;have q:L=[]:=q;subst q;simp
   | cons e u ih2=>
    rintro _ ⟨L1,L2,rfl,f,g⟩ x d;rcases Aer.1 d with d|d
    ·exact ih f x d
    exact ih2 L2 g x d
  exact key es L i
theorem delR_none{N:Hm}{es:List E}(t:Tr N n i s p m X)(hN:N i=some (.nd ⟨b,es⟩))(f:es.length=0):X=[]:=by
 have a:es=[]:=Agg.1 f;subst a;obtain ⟨d,c,_,_,g,e⟩:=Tr.iff.1 t;rw[c] at hN;cases hN
 cases n with
 | zero=>exact e.1
 | succ n=>exact absurd Z (g.ne O)
theorem Wq{N:Hm}{es:List E}(t:Tr N n i 0 1048576 m X)(hN:N i=some (.nd ⟨b,es⟩))(c:es.length=1)(k:n≠0):∃e h',es=[e]/\n=h'+1/\Tr N h' e.2 0 1048576 4 X:=by
 obtain ⟨e,rfl⟩:=List.length_eq_one_iff.1 c;obtain ⟨h',rfl⟩:∃h',n=h'+1:=⟨n-1,by omega⟩;obtain ⟨d,h,_,g,l,j⟩:=t;rw[h] at hN;cases hN;obtain ⟨L1,L2,rfl,f,a⟩:=j;have a:L2=[]:=a;subst a;have:=g e O;refine ⟨e,h',Z,Z,?_⟩;rw[AeY];exact f.mono this.1 (Afo _) (Aek _)
theorem root_of{N:Hm}(t:Tr N n r 0 1048576 m X)(b:rootM n<=m)(a:r≠0):Root N r X:=.inr ⟨a,n,t.mono (Afo _) (Afo _) b⟩
theorem DS(h:r≠0):AZ r=[r]:=by simp[AZ,h]
end
section
variable{Tb:Ai}
theorem Wr{o:TB}{T:TT}(K:TrK n o T)(t:Tr (Dl o T) j r s p m X)(a:(q,e)∈X):1<=e:=by
 have:∃b,Dl o T e=some (.dt b):=Tr.data t (q,e) a;obtain ⟨b,c⟩:=this;have:=(K.i.nin e _ c).1;omega
set_option maxHeartbeats 2000000 in
theorem Acb (pp mb n:Nat) (o:TB) (t:TS) (Q:List Nat) (h a:Nat) (key:Int) (L:List E) (hT:Tr t.N h a 0 1048576 (rootM h) L) (hd:(vals L).Nodup) (hk:t.k+6*h+4<40) (hb:Q.length+10*h+42+n<=980):Aj 84 [Y pp,I (a:Int),I key] [trA Tb pp mb n o (some (t,a::Q))] (λv G=>(¬CE key L/\v=.tuple #[I (a:Int),.bool false,I 0]/\G=[trA Tb pp mb n o (some (t,a::Q))])\/(cnt t.F 0 1024<=3*h/\∃s:TS×List Nat,v=.tuple #[I 0,.bool false,I 20]/\G=[trA Tb pp mb n o (some s)])\/∃(t2:TS) (r:Nat),(CE key L/\St t t2 Q (3*h+2) (6*h+3)/\Root t2.N r (BW key L))/\v=.tuple #[I (r:Int),.bool true,I 0]/\G=[trA Tb pp mb n o (some (t2,AZ r++Q))]):=by
 intro z R w H;replace H:=H.l1;have K:=H.says 0 Z (λh a=>trA.k a);refine Ae func84 Z ntmps84 Z (Zc 11 Z (z_E_ Z (call137 _) (Lj pp mb n o) H ?_));intro w H;refine Z0 17 [4] Z (Ar Z (call81 _) (QN pp mb n o (some (t,a::Q)) key L h a hT) H ?_);rintro _ w _ ⟨(⟨v0,b,rfl⟩|⟨b1,rfl⟩),rfl⟩ H'
 ·have H:=H'.l1;refine Zc 9 Z ?_;have b8:1<=v0:=Wr K hT b
  refine Z0 9 [4,0] Z (Af Z (λh1=>U) (λh1=>?_));refine Zc 7 Z (Ar Z (call141 _) (OW pp mb n o h t Q a 0 1048576 (rootM h) key v0 L ⟨hT,b,by omega,by omega,hd,⟨by unfold rootM;split<;>omega,λq=>by unfold rootM;rw[if_neg q];omega⟩,hk,hb⟩) H ?_);rintro _ w _ (⟨b7,s2,rfl,rfl⟩|⟨t2,c,f,⟨m,a0,g,x,c1⟩,rfl,rfl⟩) H'
  ·have H:=H'.l1;refine Z0 26 [3] Z (Zr Z ?_);exact ⟨_,.inr (.inl ⟨b7,_,Z,Z⟩),H.perm 1 [0] Z Z⟩
  have H:=H'.l1;refine Z0 23 [4] Z (Ar Z (call132 _) (HZ pp mb n o (some (t2,c::Q)) c (decide (h=0)) f g) H ?_);rintro _ w _ ⟨v1,v2,rfl,rfl⟩ H;replace H:=H.l3;have b5:=H.sy 0 (·.slc);have a4:=H.sy 1 (·.slc);refine Za 3 [] H Z ?_;intro b3 w H;refine AC Z Z (Al 0 H Z Z Z Z (vs:=[.bool (decide (h=0)),v1,v2]) Z (Ad Z (Ad b5.one (Ad a4.one Aw))) J O (out:=[.bool (decide (h=0)),v1,v2]) Z) ?_;rintro w H;replace H:=H.l4;refine Z0 20 [4,0] Z (Af Z (λh2=>?_) (λh2=>?_))
  ·refine Zc 1 Z ?_;have a2:f=[]:=Agg.1 U
   have O2:=Me (show TInv n (manyN n+1) t2.N t2.C (c::Q) from (H.says 3 Z (λh a=>trA.k a)).i) x g;replace H:=(H.mono 3 (B:=trA Tb pp mb n o (some ({t2 with N:=fup t2.N c none},c::(vals f++Q)))) Z (λh q=>q.opens x g)).l4;refine Zc 3 Z (Ar Z (call142 _) (G0 pp mb n o _ c (λd q=>by simp[fup] at q)) H.f3 ?_);rintro _ w _ ⟨t3,⟨y,a9,a6,b6,a7⟩,rfl,rfl⟩ H;refine Zc 6 Z (Zr Z ?_);exact ⟨_,.inr (.inr ⟨t3,0,⟨⟨v0,b⟩,(m.trans O2.st (R:=Q) (R1:=Q) (λp hp=>hp) (λp hp=>hp) (Aek _) (Aek _)).trans y (λp hp=>hp) (λp hp=>by simp[hp]) U U,.inl ⟨Z,delR_none a0 g U⟩⟩,Z,by rw[a2];rfl⟩),H.perm 4 [0] Z Z⟩
  refine Z2 6 [0,0,0] H Z (DR 66 Z (λh3=>?_) (λh3=>?_))
  ·have a8:h≠0:=by simpa using h3
   refine Z0 6 [0] Z (Af Z (λh4=>?_) (λh4=>?_))
   ·refine Zc 1 Z ?_;obtain ⟨e,h',l,c0,b0⟩:=Wq a0 g U a8;have O2:=Me (show TInv n (manyN n+1) t2.N t2.C (c::Q) from (H.says 3 Z (λh a=>trA.k a)).i) x g
    replace H:=(H.mono 3 (B:=trA Tb pp mb n o (some ({t2 with N:=fup t2.N c none},c::(vals f++Q)))) Z (λh q=>q.opens x g)).l4;obtain ⟨a5,a3,rfl⟩:=a4;have b4:=(H.rv 2 (·.rd)).at (j:=0) (u:=I (e.2:Int)) (by rw[l];simp[vL]);replace H:=(H.mono 3 (B:=trA Tb pp mb n o (some ({t2 with N:=fup t2.N c none},c::(e.2::Q)))) Z (λh q=>by rw[l] at q;exact q)).l4;replace H:=H.f2.f1;refine AQ (Sep z (blk b3 [.bool (decide (h=0)),v1,.slice a5 ((vL f).length) a3] 201::grow 3 1 (.slice a5 ((vL f).length) a3) ((vL f).length) ((vL f).map I)::R)) 10 Z J (A4 H λw H'=>?_);have H:=H'.l4;refine AT [0,1] [2,0,0] [] (by exact H.pick 4 [0,1] Z) Z J Z (BM 2 Z J J J Z Z Z (Ak Z (z:=1) (j:=0) (r:=0) J Z Z Z (by simp only[Aeh];omega) b4 U) (H.pick 4 [0,1] Z) (BM 3 Z J J J Z Z Z (Ay Z Z J (λ_ b2=>(b2.rv 1 (·.rd)).at (j:=0) (u:=I (e.2:Int)) (by rw[l];simp[vL]))) (H.pick 4 [0,1] Z) (AT [4,5] [] [] (by exact H.pick 4 [0,1] Z) Z J Z (AE [6] J O (Am (Bt Z Z Z Z Z Z (λw=>call142 _ w) (G0 pp mb n o _ c (λd q=>by simp[fup] at q)) H.f3 Z ?_))))));rintro _ w _ ⟨t3,⟨y,a9,a6,b6,a7⟩,rfl,rfl⟩ H;replace H:=H.l4;refine Ax (H.pick 4 [1,2] Z) (AT [7,8,9] [] [] (by exact H.pick 4 [1,2] Z) Z J Z (a_done J (gn (Zc 2 Z (Zr Z ?_)))));have a1:manyN n+1<=e.2:=by have K3:=H.says 0 Z (λh a=>trA.k a);exact (K3.i.rin e.2 (by simp[CV])).1
    exact ⟨_,.inr (.inr ⟨t3,e.2,⟨⟨v0,b⟩,(m.trans O2.st (R:=Q) (R1:=Q) (λp hp=>hp) (λp hp=>hp) (Aek _) (Aek _)).trans y (λp hp=>hp) (λp hp=>by simp[hp]) U U,root_of (y.fr e.2 O _ _ _ _ _ (O2.fv e.2 (by rw[l];simp[vals]) _ _ _ _ _ b0)) (by unfold rootM;split<;>omega) U⟩,Z,by rw[DS (show e.2≠0 by omega)];rfl⟩),H.perm 4 [0] Z Z⟩
   refine Zc 12 Z (Zr Z ?_);have a1:manyN n+1<=c:=by have K3:=H.says 3 Z (λh a=>trA.k a);exact (K3.i.rin c (by simp[CV])).1
   exact ⟨_,.inr (.inr ⟨t2,c,⟨⟨v0,b⟩,m.sub (λp hp=>hp) U U,root_of a0 (by unfold rootM;split<;>omega) U⟩,Z,by rw[DS (show c≠0 by omega)];rfl⟩),H.perm 4 [3] Z Z⟩
  have b9:h=0:=by simpa using h3
  refine Zc 19 Z (Zr Z ?_);have a1:manyN n+1<=c:=by have K3:=H.says 3 Z (λh a=>trA.k a);exact (K3.i.rin c (by simp[CV])).1
  exact ⟨_,.inr (.inr ⟨t2,c,⟨⟨v0,b⟩,m.sub (λp hp=>hp) U U,root_of a0 (by unfold rootM;split<;>omega) U⟩,Z,by rw[DS (show c≠0 by omega)];rfl⟩),H.perm 4 [3] Z Z⟩
 have H:=H'.l1;refine Z0 29 [4,3] Z (Zr Z ?_);exact ⟨_,.inl ⟨b1,Z,Z⟩,H.perm 1 [0] Z Z⟩
theorem Acc(pp mb n:Nat)(o:TB){s:TS×List Nat}(key:Int):Aj 84 [Y pp,I 0,I key] [trA Tb pp mb n o (some s)] (λv G=>v=.tuple #[I 0,.bool false,I 0]/\G=[trA Tb pp mb n o (some s)]):=by
 intro z R w H;refine Ae func84 Z ntmps84 Z (Zc 11 Z (z_E_ Z (call137 _) (Lj pp mb n o) H ?_));intro w H;refine Z0 17 [4] Z (z_E_ Z (call81 _) (QO _ _) H ?_);intro w H;refine Z0 29 [4,3] Z (Zr Z ?_);exact ⟨_,⟨Z,Z⟩,H⟩
end
section
variable{Tb:Ai}
def pkI(c:Int)(N:Nat):Nat:=((if c<0 then -(c+1) else c).tmod N).toNat
theorem OX(c:Int)(h:0<n):pkI c n<n:=by
 unfold pkI;have a:(0:Int)<=if c<0 then -(c+1) else c:=by split<;>omega
 have d:=Ahj (if c<0 then -(c+1) else c) (by omega:(0:Int)<(n:Int));have b:=AhG (n:Int) a;omega
theorem Acd(h:16<=n/\n<=1024):(CC (n:Int) 1030 128 2).Ok ((1200:Nat):Int):=
 Sup.ok_mk (by show 0<=(2:Int)/\(2:Int)<=1099511627776;omega) (by show 0<=(1:Int)/\(1:Int)<=1099511627776;omega) (by show 16<=(n:Int)/\(n:Int)<=1024;omega) (by show 2+(n:Int)<=1030/\(1030:Int)<=1099511627776;omega) (by show 64<=(128:Int)/\(128:Int)<=1099511627776;omega) (by show 0<=(0:Int)/\(0:Int)<128;omega) (by show 0<=(1:Int)/\(1:Int)<=1099511627776;omega) (by show (1030:Int)<=((1200:Nat):Int)-128/\(128:Int)<=((1200:Nat):Int);omega)
theorem TV(b:B.length=256){M:Nat->Pg}(a:M=El (λ_=>noPg) (some (gF n (B.take 240) (manyN n),1+manyN n))):M 0=⟨1,B.take 240⟩/\∀i,i<manyN n->M (1+i)=DC (C1 (manyN n+1)) n i:=by
 subst a;refine ⟨Z,λi hi=>?_⟩;simp only[El,gF];rw[if_neg U,if_pos U,show 1+i-1=i by omega];rfl
def FG(n:Nat):TB:=⟨λ_=>none,C1 (manyN n+1),[]⟩
theorem Jb(p:Nat):∀n,FE (λ_=>none) p n=0
 | 0=>rfl
 | n+1=>by simp only[FE,Jb p n];rfl
theorem ZS(n:Nat){M:Nat->Pg}:Rel n M (FG n).N (FG n).C (FG n).R:=
 ⟨λp c h=>(by cases h),⟨λp a b=>(by show C1 (manyN n+1) p=_;unfold C1;rw[if_neg U];simp[FG,Jb]),λp h=>(by cases h),λq c h=>(by cases h),λq d h=>(by cases h),λq d h=>(by cases h)⟩⟩
end
section
def cutZ(z:Nat)(ao:Option Addr)(c p:Nat):Option Addr:=if c=p then ao else ao.map (·.add (p*z))
theorem rdH.cutZ{z:Nat}{f:Option Addr}{n c p m:Nat}{xs:List Value}{h:Hp}(r:rdH z (.slice f n c) n xs h)(w:0<z)(i:p+m<=n)(h2:n<=c):rdH z (.slice (YtemljpjnhjnncaaGreatDoor.cutZ z f c p) m (c-p)) m ((xs.drop (p*z)).take (m*z)) h:=by
 obtain ⟨q,c',e,x,y,v,t⟩:=r;cases e;have g:p*z+m*z<=n*z:=by rw[<-AhH];exact AfI _ i
 refine ⟨_,_,Z,by omega,by omega,by simp;omega,λj u a=>?_⟩;have d:j<m*z:=by
  have:=(Aed.1 a).1;simp at this;omega
 obtain ⟨b,o,rfl,k⟩:=t (p*z+j) u (by
  rw[Ae0,if_pos d,Afm] at a;exact a)
 have s:0<m:=Nat.pos_of_ne_zero λe=>by subst e;omega
 refine ⟨b,o+p*z,?_,by rw[Age];exact k⟩;unfold YtemljpjnhjnncaaGreatDoor.cutZ;rw[if_neg U];simp only[AeU];unfold Addr.add;split
 ·rename_i l;simp[l]
 rfl
theorem rdH.slcapZ{z:Nat}{d:Option Addr}{n c:Nat}{xs:List Value}(r:rdH z (.slice d n c) n xs h):n<=c/\c<=9223372036854775807/\xs.length=n*z:=by
 obtain ⟨b,c',e,g,a,f,i⟩:=r;cases e;exact ⟨g,a,f⟩
section
variable{P:Program}{C:World->Prop}{o:Oper}{n:Nat}{ds:List Deferred}{L:List (Nat×Value)}{x y:Operand}
theorem FW{z:Nat}{lo hi:Option Operand}{e:Option Addr}{p q l' c':Nat}(r:o.op=.slice T x lo hi none)(l:Do P T=some z)
  (f:ev L x=some (.slice e m j))(c:(lo=none/\p=0)\/∃y k i,lo=some y/\ev L y=some (.int k i)/\i=(p:Int))(d:(hi=none/\q=m)\/∃y k i,hi=some y/\ev L y=some (.int k i)/\i=(q:Int))(a:p<=q)(b:q<=j)
  (h:q-p=l')(g:j-p=c'):Av P C n ds L o (.slice (cutZ z e j p) l' c'):=by
 subst h g;exact Jk r l f c d a b
end
def EN(L:List E):List Value:=L.flatMap λe=>[.int .i64 e.1,.int .i64 (e.2:Int)]
theorem ZT(A B:List E):EN (A++B)=EN A++EN B:=by simp[EN]
def getE(k:Int):List E->Nat
 | []=>0
 | e::t=>if e.1=k then e.2 else getE k t
theorem Ws{L:List E}(hs:Srt L)(key:Int)(val:Nat):putE key val (BW key L)=putE key val L:=by
 rcases key_split hs key with ⟨X,v,Y_,rfl,a⟩|⟨f,X,Y_,rfl,a,c⟩
 ·rw[L6 hs,Ee a]
  have d:∀e∈Y_,key<e.1:=λe b=>(Srt.cons.1 (Srt.app.1 hs).2.1).1 e b;exact putE_new a d
 rw[GB (λe b=>by
  rcases Aer.1 b with q|q
  ·have:=a e q;omega
  have:=c e q;omega)]
theorem Ace{L:List E}(hs:Srt L)(key:Int)(val:Nat)(g:∀(j:Nat) (e:E),j<i->(BW key L)[j]?=some e->e.1<key)(h:∀e,(BW key L)[i]?=some e->key<=e.1):
  putE key val L=(BW key L).take i++(key,val)::(BW key L).drop i:=by
 have c:Srt (BW key L):=List.Pairwise.sublist List.filter_sublist hs;have f:∀e∈BW key L,e.1≠key:=λe a=>by simpa [BW] using (Afd.1 a).2
 rw[<-Ws hs];refine (congrArg (putE key val) (AeP i _).symm).trans (putE_new (λe a=>?_) (λe a=>?_))
 ·obtain ⟨j,b⟩:=Ae4 a
  rw[Ae0] at b;split at b
  ·exact g j e (by assumption) b
  cases b
 have l:=f e (Afw a);have d:Srt ((BW key L).drop i):=List.Pairwise.sublist (List.drop_sublist _ _) c
 cases hd:(BW key L).drop i with
 | nil=>rw[hd] at a;cases a
 | cons x t=>
  rw[hd] at a d;have k:key<=x.1:=h x (by
   have:((BW key L).drop i)[0]?=some x:=by rw[hd];rfl
   rwa[Afm,Ag6] at this)
  rcases Aep.1 a with rfl|q
  ·omega
  have:=(Srt.cons.1 d).1 e q;omega
end
section
variable{Tb:Ai}
variable{z w:World}{Γ:List Ai}{pp mb n:Nat}{o:TB}{t t':TS}{R:List Nat}{T:TT}
structure LwI(n:Nat)(o:TB)(a:Nat)(L:List E)(Q:List Nat):Prop where
 n:n<=639
 q:Q.length<=100
 root:Root o.N a L
 nd:(vals L).Nodup
 r:o.R=AZ a++Q
theorem Tr.many{N:Hm}{h:Nat}{lo hi:Int}{L:List E}(t:Tr N h r lo hi m L):m*4^h<=L.length:=by
 induction h generalizing r lo hi m L with
 | zero=>obtain ⟨es,g,d,_,_,rfl,_⟩:=t;simpa using d
 | succ h ih=>
  obtain ⟨es,g,d,_,_,k⟩:=t;have f:4^(h+1)=4*4^h:=by rw[AhB,AhC]
  have key:∀(es:List E) (L:List E),Sq (λc a b L=>Tr N h c a b 4 L) es hi L->es.length*4^(h+1)<=L.length:=by
   intro es
   induction es with
   | nil=>intro L q;simp
   | cons e u ih2=>
    rintro _ ⟨L1,L2,rfl,i,j⟩;have a:=ih i;have b:=ih2 L2 j;rw[Aei,Aeg,AhH,Nat.one_mul,f];rw[f] at b;omega
  exact Agu (AfI _ d) (key es L k)
theorem Tr.low3{f:Nat}{N:Hm}(I_:TInv n f N C R){h:Nat}{lo hi:Int}{L:List E}(t:Tr N h r lo hi m L)(i:(if h=0 then 1 else 2)<=m)(a:(vals L).Nodup)(w:n<=639):h<=3:=by
 rcases Aes h 4 with q|q
 ·omega
 exfalso;rw[if_neg U] at i;obtain ⟨a1,a2,a3⟩:=RX t U;have hs:=t.srt.1;rw[<-a1] at hs;have o:=Li hs (λp hp=>(a2 p hp).1);have c:=t.data;have k:(CZ N h r++vals L).Nodup:=by
  rw[Afb];refine ⟨o,a,λx u y v e=>?_⟩;obtain ⟨d,a⟩:=(a2 x u).2;obtain ⟨l,g,rfl⟩:=Aem.1 v;obtain ⟨b,j⟩:=c l g;rw[e,j] at a;cases a
 have s:=OV k (λp hp=>by
  rcases Aer.1 hp with hp|hp
  ·obtain ⟨d,a⟩:=(a2 p hp).2;exact (I_.nin p _ a).2.1
  obtain ⟨l,g,rfl⟩:=Aem.1 hp;obtain ⟨b,j⟩:=c l g;exact (I_.nin _ _ j).2.1)
 have a4:=t.many;have p1:4^4<=4^h:=Ahc U q;have p2:4^3<=4^(h-1):=Ahc U U;have h2:2*4^h<=m*4^h:=AfI _ i;have z:2*4^(h-1)<=m*4^(h-1):=AfI _ i;rw[if_neg U,AeR] at a3;simp only[Aeg,vals,Aeh] at s;omega
theorem Root.low3{N:Hm}{C:Nat->Nat}{f a:Nat}{L:List E}(I_:TInv n f N C R)(h:Root N a L)(d:a≠0)(g:(vals L).Nodup)(c:n<=639):∃h,Tr N h a 0 1048576 (rootM h) L/\h<=3:=by
 rcases h with ⟨e,_⟩|⟨_,h,b⟩
 ·exact absurd e d
 exact ⟨h,b,b.low3 I_ (Aek _) g c⟩
theorem Root.srt{N:Hm}{a:Nat}{L:List E}(h:Root N a L):Srt L/\B5 0 1048576 L:=by
 rcases h with ⟨_,rfl⟩|⟨_,h,b⟩
 ·exact ⟨by simp[Srt],by simp[B5]⟩
 exact b.srt
theorem Root.data{N:Hm}{a:Nat}{L:List E}(h:Root N a L):∀e∈L,∃b,N e.2=some (.dt b):=by
 rcases h with ⟨_,rfl⟩|⟨_,h,c⟩
 ·simp
 exact c.data
def Kp(N N':Hm)(Q:List Nat):Prop:=∀c∈Q,∀L,Root N c L->Root N' c L
theorem Kp.of{N a:Hm}{Q:List Nat}(h:∀c∈Q,∀h lo hi m L,Tr N h c lo hi m L->Tr a h c lo hi m L):Kp N a Q:=λc d L q=>by
 rcases q with q|⟨e,b,f⟩
 ·exact .inl q
 exact .inr ⟨e,b,h c d _ _ _ _ _ f⟩
theorem OY{F G:Nat->Bool}(h:∀q,F q=true->G q=true)(a:Nat):∀n,cnt F a n<=cnt G a n
 | 0=>Aek _
 | n+1=>by
  have:=OY h a n;have b:(F (a+n)).toNat<=(G (a+n)).toNat:=by
   cases e:F (a+n) with
   | false=>simp
   | true=>rw[h _ e];simp
  simp only[cnt];omega
theorem TrK.free{n:Nat}{o:TB}{t:TS}{R:List Nat}(K:TrK n o (some (t,R))):cnt t.F 0 1024<=cnt (AX n t.C) 0 1024:=
 OY (λq hq=>by
  obtain ⟨a,b,_⟩:=K.fr q hq;simp only[AX];exact decide_eq_true ⟨a,b⟩) 0 1024
theorem XE(pp mb n:Nat)(o:TB)(t:TS)(Q:List Nat)(a:Nat)(key:Int)(val:Nat)(L:List E)(x:Root t.N a L)(y:n<=639)(hd:(vals L).Nodup)(j:0<=key/\key<1048576)(g:t.N val=some (.dt S))(u:∀q d,t.N q=some (.nd d)->val∉vals d.es)(hk:t.k<=20)(hb:Q.length<=100):
  Aj 83 [Y pp,I (a:Int),I key,I (val:Int)] [trA Tb pp mb n o (some (t,val::(AZ a++Q)))] (λv G=>(cnt t.F 0 1024<=10/\∃s:TS×List Nat,v=.tuple #[I 0,I 20]/\G=[trA Tb pp mb n o (some s)])\/
   ∃(t2:TS) (r:Nat),(St t t2 Q 11 16/\Root t2.N r (putE key val L)/\cnt t2.F 0 1024<=cnt (AX n t2.C) 0 1024)/\v=.tuple #[I (r:Int),I 0]/\G=[trA Tb pp mb n o (some (t2,AZ r++Q))]):=by
 intro z R' w H;have K:=H.says 0 Z (λh a=>trA.k a);by_cases ha:a=0
 ·subst ha
  have hL:L=[]:=by rcases x with ⟨_,e⟩|⟨e,_⟩;exact e;exact absurd Z e
  subst hL;refine Ret.mono (Cn.at (Ab4 pp mb n o t Q key val S j g U) H 1 [0] Z Z) ?_;rintro v w' ⟨Γ',(⟨h0,s,rfl,rfl⟩|⟨t2,r,⟨l,b⟩,rfl,rfl⟩),c⟩
  ·exact ⟨_,.inl ⟨by omega,s,Z,Z⟩,c⟩
  have K2:=c.says 0 Z (λh a=>trA.k a);have f:r≠0:=by have:=(K2.i.rin r (by simp[CV])).1;omega
  exact ⟨_,.inr ⟨t2,r,⟨l.sub (λp hp=>hp) U U,.inr ⟨f,0,b⟩,K2.free⟩,Z,by rw[DS f];rfl⟩,c⟩
 obtain ⟨h,hT,hh⟩:=x.low3 K.i ha hd y;have H2:=H.mono 0 (B:=trA Tb pp mb n o (some (t,a::val::Q))) Z (λh q=>q.perm (by rw[DS ha];exact AfY _ _ _));have m:t.k+3*h+3<40:=by omega
 refine Ret.mono (Cn.at (Ab5 pp mb n o t Q h a (rootM h) key val L ⟨hT,j,by omega,by omega,⟨S,g⟩,u,m,by omega⟩) H2 1 [0] Z Z) ?_;rintro v w' ⟨Γ',(⟨h0,s,rfl,rfl⟩|⟨t2,r,⟨l,b⟩,rfl,rfl⟩),c⟩
 ·exact ⟨_,.inl ⟨by omega,s,Z,Z⟩,c⟩
 have K2:=c.says 0 Z (λh a=>trA.k a);have f:r≠0:=by have:=(K2.i.rin r (by simp[CV])).1;omega
 refine ⟨_,.inr ⟨t2,r,⟨l.sub (λp hp=>hp) U U,?_,K2.free⟩,Z,by rw[DS f];rfl⟩,c⟩;rcases b with b|b
 ·exact root_of b (Aek _) f
 exact root_of b (by unfold rootM;rw[if_neg U];omega) f
theorem Adh(pp mb n:Nat)(o:TB)(t:TS)(Q:List Nat)(a:Nat)(key:Int)(L:List E)(f:Root t.N a L)(d:(vals L).Nodup)(g:n<=639)(hk:t.k<=10)(hb:Q.length<=100):
  Aj 84 [Y pp,I (a:Int),I key] [trA Tb pp mb n o (some (t,AZ a++Q))] (λv G=>(¬CE key L/\v=.tuple #[I (a:Int),.bool false,I 0]/\G=[trA Tb pp mb n o (some (t,AZ a++Q))])\/(cnt t.F 0 1024<=12/\∃s:TS×List Nat,v=.tuple #[I 0,.bool false,I 20]/\G=[trA Tb pp mb n o (some s)])\/
   ∃(t2:TS) (r:Nat),(CE key L/\St t t2 Q 12 27/\Root t2.N r (BW key L)/\cnt t2.F 0 1024<=cnt (AX n t2.C) 0 1024)/\v=.tuple #[I (r:Int),.bool true,I 0]/\G=[trA Tb pp mb n o (some (t2,AZ r++Q))]):=by
 intro z R' w H;have K:=H.says 0 Z (λh a=>trA.k a);by_cases ha:a=0
 ·subst ha
  have m:L=[]:=by rcases f with ⟨_,e⟩|⟨e,_⟩;exact e;exact absurd Z e
  subst m;refine Ret.mono (Cn.at (Acc pp mb n o key) H 1 [0] Z Z) ?_;rintro v u ⟨Γ',⟨rfl,rfl⟩,b⟩;exact ⟨_,.inl ⟨λ⟨v,x⟩=>(by cases x),Z,Z⟩,b⟩
 obtain ⟨h,j,y⟩:=f.low3 K.i ha d g;have e:AZ a++Q=a::Q:=by rw[DS ha];rfl
 rw[e] at H;rw[e];refine Ret.mono (Cn.at (Acb pp mb n o t Q h a key L j d U U) H 1 [0] Z Z) ?_;rintro v u ⟨Γ',(⟨c,rfl,rfl⟩|⟨c,s,rfl,rfl⟩|⟨t2,r,⟨c,q,l⟩,rfl,rfl⟩),b⟩
 ·exact ⟨_,.inl ⟨c,Z,Z⟩,b⟩
 ·exact ⟨_,.inr (.inl ⟨by omega,s,Z,Z⟩),b⟩
 exact ⟨_,.inr (.inr ⟨t2,r,⟨c,q.sub (λp hp=>hp) U U,l,(b.says 0 Z (λh a=>trA.k a)).free⟩,Z,Z⟩),b⟩
theorem FY{key:Int}(h:∀e∈X,1<=e.2):(getE key X≠0↔CE key X)/\(∀v,(key,v)∈X->Srt X->getE key X=v):=by
 induction X with
 | nil=>exact ⟨⟨λq=>absurd Z q,λ⟨v,q⟩=>by cases q⟩,λv q=>by cases q⟩
 | cons e t ih=>
  have ih:=ih (λx c=>h x (by simp[c]));have d:=h e O;simp only[getE];split
  ·rename_i a
   refine ⟨⟨λ_=>⟨e.2,?_⟩,λ_=>by omega⟩,λv b hs=>?_⟩
   ·rw[<-a];simp
   rcases Aep.1 b with q|q
   ·rw[<-q]
   have:=(Srt.cons.1 hs).1 _ q;dsimp only at this;omega
  rename_i a;refine ⟨ih.1.trans ⟨λ⟨v,q⟩=>⟨v,by simp[q]⟩,λ⟨v,q⟩=>?_⟩,λv b hs=>?_⟩
  ·rcases Aep.1 q with q|q
   ·subst q;exact absurd Z a
   exact ⟨v,q⟩
  rcases Aep.1 b with q|q
  ·subst q;exact absurd Z a
  exact ih.2 v q (Srt.cons.1 hs).2
theorem Lm{L:List E}(hs:Srt L)(g:(vals L).Nodup)(f:m∉vals L):(vals (putE s m L)).Nodup:=by
 rcases key_split hs s with ⟨X,v,Y_,rfl,j⟩|⟨k,_⟩
 ·rw[Ee j]
  rw[BQ,Ca] at g f ⊢;simp only[Aer,Aep,not_or] at f;rw[Afb,Afj] at g ⊢;obtain ⟨a,⟨b,c⟩,d⟩:=g;refine ⟨a,⟨f.2.2,c⟩,λx i y h=>?_⟩;rcases Aep.1 h with rfl|h
  ·exact λe=>f.1 (by rw[<-e];exact i)
  exact d x i y (by simp[h])
 rw[(Hj hs m k).1.nodup_iff,Afj];exact ⟨f,g⟩
theorem G3{n:Nat}{N:Hm}(I_:TInv n m N C R)(f:1<=m)(d:∀e∈X,∃b,N e.2=some (.dt b)):∀e∈X,1<=e.2/\e.2<n:=λe a=>by
 obtain ⟨b,c⟩:=d e a;have:=I_.nin _ _ c;omega
theorem JK{n:Nat}{N:Hm}(I_:TInv n m N C R)(f:1<=m)(d:∀e∈X,∃b,N e.2=some (.dt b))(c:(vals X).Nodup):X.length<=n:=by
 have:=OV c (λp hp=>by
  obtain ⟨e,a,rfl⟩:=Aem.1 hp;exact (G3 I_ f d e a).2)
 simpa [vals] using this
theorem LwI.done{a:Nat}{L L2:List E}{Q:List Nat}{o2:TB}(h:LwI n o a L Q)(d:Root o2.N r L2)(c:(vals L2).Nodup)(b:o2.R=AZ r++Q):LwI n o2 r L2 Q:=⟨h.n,h.q,d,c,b⟩
end
section
variable{Tb:Ai}
end
section
variable{Tb:Ai}
theorem Adi{P:Nat->Int->Int->List E->Prop}{e:E}{L2:List E}(b:X[i]?=some e)(h:Sq P (X.drop i) t L2):∃Lc L3,L2=Lc++L3/\P e.2 e.1 (nx (X.drop (i+1)) t) Lc/\Sq P (X.drop (i+1)) t L3:=by
 obtain ⟨a,rfl⟩:=Aed.1 b;rw[Ae1 a] at h;exact h
theorem Adj(hi:Int)(h:i+1<X.length):((kL X).map I)[i+1]?=some (I (nx (X.drop (i+1)) hi)):=by
 rw[Ae1 h];simp[kL,nx,Aef h]
end
section
variable{Tb:Ai}
end
section
variable{Tb:Ai}
variable{z w:World}{Γ:List Ai}{pp mb n f:Nat}{o:TB}{T:TT}{N:Hm}{C:Nat->Nat}{R:List Nat}
theorem TW(pp mb n:Nat)(o:TB)(T:TT)(a:Nat)(key:Int)(L:List E)(d:Root (Dl o T) a L):Aj 81 [Y pp,I (a:Int),I key] [trA Tb pp mb n o T] (λv G=>v=.tuple #[I (getE key L:Int),I 0]/\G=[trA Tb pp mb n o T]):=by
 intro z R' w H;have K:=H.says 0 Z (λh a=>trA.k a);have hp:∀e∈L,1<=e.2:=λe j=>(G3 K.i U d.data e j).1;have g:=FY (key:=key) hp;have c:¬CE key L->getE key L=0:=λq=>Aff λr=>q (g.1.1 r);by_cases ha:a=0
 ·subst ha
  have l:L=[]:=by rcases d with ⟨_,e⟩|⟨e,_⟩;exact e;exact absurd Z e
  subst l;refine Ret.mono (Cn.at (QO pp key) H 0 [] Z Z) ?_;rintro v m ⟨Γ',⟨rfl,rfl⟩,b⟩;exact ⟨_,⟨Z,Z⟩,b⟩
 rcases d with ⟨e,_⟩|⟨_,h,t⟩
 ·exact absurd e ha
 refine Ret.mono (Cn.at (QN pp mb n o T key L h a t) H 1 [0] Z Z) ?_;rintro v m ⟨Γ',⟨(⟨v0,f,rfl⟩|⟨f,rfl⟩),rfl⟩,b⟩
 ·exact ⟨_,⟨by rw[g.2 v0 f t.srt.1],Z⟩,b⟩
 exact ⟨_,⟨by rw[c f];rfl,Z⟩,b⟩
theorem Sep.trTab(H:Sep z (trA Tb pp mb n o none::Γ) w):Ht Tb/\Sep z (Tb::Γ) w:=by
 obtain ⟨M0,_,H⟩:=H.tr0;obtain ⟨X,a,H⟩:=H.po;refine ⟨a.tab.2▸a.tab.1,?_⟩;have h:=H.pick 7 [6] Z;rw[<-a.tab.2];exact h
end
section
variable{Tb:Ai}
end
section
variable{Tb:Ai}
abbrev Bk:=Int×List UInt8
def TX:Option Pc->List UInt8
 | some (.dt b)=>b
 | _=>[]
def A5(N:Hm)(L:List E):List Bk:=L.map λe=>(e.1,(TX (N e.2)).take 64)
def Ln:List UInt8:=List.replicate 64 0
def BU(k:Int):List Bk->List UInt8
 | []=>Ln
 | b::t=>if b.1=k then b.2 else BU k t
def G4(k:Int)(V:List Bk):Prop:=∃b∈V,b.1=k
instance(k:Int)(V:List Bk):Decidable (G4 k V):=inferInstanceAs (Decidable (∃b∈V,b.1=k))
def BA(k:Int)(V:List Bk):List Bk:=V.filter λb=>decide (b.1≠k)
def BY(V:List Bk):List Value:=V.flatMap λb=>[.int .i64 b.1,Cl b.2]
theorem Mi(A B:List Bk):BY (A++B)=BY A++BY B:=by simp[BY]
theorem CO:∀{V:List Bk} {j:Nat} {e:Bk},V[j]?=some e->(BY V)[j*2]?=some (I e.1)/\(BY V)[j*2+1]?=some (Cl e.2)
 | x::L,0,e,h=>by simp at h;subst h;exact ⟨Z,Z⟩
 | x::L,j+1,e,h=>by
  have:=CO (V:=L) (j:=j) (by simpa using h);have e1:BY (x::L)=I x.1::Cl x.2::BY L:=rfl;rw[e1,show (j+1)*2=j*2+1+1 by omega];simp only[AeA];exact this
theorem OZ:∀(L:List Bk) (p:Nat),(BY L).drop (p*2)=BY (L.drop p)
 | L,0=>by simp
 | [],p+1=>by simp[BY]
 | x::L,p+1=>by
  have e1:BY (x::L)=I x.1::Cl x.2::BY L:=rfl;rw[e1,show (p+1)*2=p*2+1+1 by omega,Ae5,Ae5,Ae5];exact OZ L p
theorem O0:∀(L:List Bk) (p:Nat),(BY L).take (p*2)=BY (L.take p)
 | L,0=>by simp[BY]
 | [],p+1=>by simp[BY]
 | x::L,p+1=>by
  have e1:BY (x::L)=I x.1::Cl x.2::BY L:=rfl;rw[e1,show (p+1)*2=p*2+1+1 by omega,Ae7,Ae7,Ae7,O0 L p];rfl
theorem GC{L:List Bk}:∀c∈BY L,c.oneCell'=true:=λc b=>by
 simp only[BY,Agi] at b;obtain ⟨e,_,a⟩:=b;simp at a;rcases a with rfl|rfl<;>rfl
theorem rdH.cutB{a:Option Addr}{c p:Nat}{L:List Bk}(r:rdH 2 (.slice a n c) n (BY L) h)(d:p+m<=n)(b:n<=c):rdH 2 (.slice (YtemljpjnhjnncaaGreatDoor.cutZ 2 a c p) m (c-p)) m (BY ((L.drop p).take m)) h:=by
 have:=r.cutZ U d b;rw[OZ,O0] at this;exact this
theorem MW{L:List Bk}{e:Bk}{k:Int}(h:L[i]?=some e):BU k (L.drop i)=if e.1=k then e.2 else BU k (L.drop (i+1)):=by
 obtain ⟨hi,rfl⟩:=Aed.1 h;rw[Ae1 hi];rfl
theorem MX{L:List Bk}{e:Bk}{k:Int}(h:L[i]?=some e):G4 k (L.drop i)↔e.1=k\/G4 k (L.drop (i+1)):=by
 obtain ⟨hi,rfl⟩:=Aed.1 h;rw[Ae1 hi];simp only[G4,Aep,exists_eq_or_imp]
theorem MY{L:List Bk}{e:Bk}(k:Int)(h:L[i]?=some e):BA k (L.take (i+1))=if e.1=k then BA k (L.take i) else BA k (L.take i)++[e]:=by
 have b:L.take (i+1)=L.take i++[e]:=by rw[AeM,h];rfl
 rw[b];unfold BA;rw[AfP];split
 ·rename_i a;simp[a]
 rename_i a;simp[a]
theorem JL(k:Int)(V:List Bk):(BA k V).length<=V.length:=AfV _ _
def PutAt(k:Int)(d:List UInt8)(V V2:List Bk):Prop:=∃i,(∀(j:Nat) (e:Bk),j<i->(BA k V)[j]?=some e->e.1<k)/\(∀e,(BA k V)[i]?=some e->k<=e.1)/\V2=(BA k V).take i++(k,d)::(BA k V).drop i

variable{N N2:Hm}{L:List E}{k:Int}
@[simp] theorem Kr:(A5 N L).length=L.length:=by simp[A5]
theorem volB_del:BA k (A5 N L)=A5 N (BW k L):=by
 simp only[BA,A5,BW,Agl];rfl
theorem Jc(h:∀e∈L,N2 e.2=N e.2):A5 N2 L=A5 N L:=AfE λe a=>by rw[h e a]
theorem Wt(hp:∀e∈L,1<=e.2):G4 k (A5 N L)↔getE k L≠0:=by
 rw[(FY hp).1];constructor
 ·rintro ⟨b,c,rfl⟩
  obtain ⟨e,a,rfl⟩:=Aem.1 c;exact ⟨e.2,a⟩
 rintro ⟨v,d⟩;exact ⟨_,Aem.2 ⟨_,d,Z⟩,Z⟩
theorem Ks:∀{L:List E},(∀e∈L,1<=e.2)->BU k (A5 N L)=if getE k L=0 then Ln else (TX (N (getE k L))).take 64
 | [],_=>rfl
 | e::t,hp=>by
  have ih:=Ks (L:=t) (λx a=>hp x (by simp[a]));have b:=hp e O;simp only[A5,AeL,BU,getE] at ih ⊢;split
  ·rw[if_neg U]
  exact ih
def Dt(N N2:Hm):Prop:=∀v b b2,N v=some (.dt b)->N2 v=some (.dt b2)->N2 v=N v
theorem Dt.vol(h:Dt N N2){a a2:Nat}(f:Root N a L)(i:Root N2 a2 L):A5 N2 L=A5 N L:=Jc λe d=>by
 obtain ⟨b,g⟩:=f.data e d;obtain ⟨j,c⟩:=i.data e d;exact h _ _ _ g c
theorem MZ{o:TB}(K:TrK n o none){c:Pc}(h:o.N m=some c):AX n o.C m=false:=by
 have a:1<=o.C m:=(K.i.nin m c h).2.2;simp only[AX];exact decide_eq_false U
theorem St.dtd{o:TB}(K:TrK n o none){t2:TS}(x:St ⟨o.N,o.C,AX n o.C,0⟩ t2 R m i):Dt o.N t2.N:=λv b c h a=>by
 have d:o.N v=some (.dt c):=x.ev v c (MZ K h) a;rw[a,d]
theorem TY{o:TB}(K:TrK n o none){t2 t3:TS}(g:o.N m=none)(d:t2.N=fup o.N m (some (.dt B)))(f:∀q,t2.F q=true->AX n o.C q=true)(y:St t2 t3 R i j):Dt o.N t3.N:=λv b k h c=>by
 have l:t2.F v=false:=by
  cases e:t2.F v with
  | false=>rfl
  | true=>have:=f v e;rw[MZ K h] at this;cases this
 have a:=y.ev v k l c;rw[d,fup_ne _ _ (λe=>by rw[e,g] at h;cases h)] at a;rw[c,a]
theorem QR(k:Int)(v:Nat):∀L:List E,(k,v)∈putE k v L
 | []=>by simp[putE]
 | e::t=>by
  simp only[putE];split
  ·exact Agq _ (QR k v t)
  split<;>simp
theorem delE_put(v:Nat){e:E}:∀{L:List E},e∈BW k L->e∈putE k v L
 | x::t,h=>by
  obtain ⟨h1,a⟩:=Afd.1 h;have a:e.1≠k:=by simpa using a
  simp only[putE];rcases Aep.1 h1 with rfl|h1
  ·split
   ·simp
   simp
  split
  ·exact Agq _ (delE_put v (Afd.2 ⟨h1,by simpa using a⟩))
  split
  ·exact Agq _ h1
  exact Agq _ (Agq _ h1)
theorem ZU{o:TB}(K:TrK n o none){t2 t3:TS}{dk:Nat}{w:List Bk}{ra:Nat}(ha:o.N m=none)(z:t2.N=fup o.N m (some (.dt B)))(p:t2.F m=false)(hF:∀q,t2.F q=true->AX n o.C q=true)(y:St t2 t3 R g dk)(x:Root o.N ra L)(h:Root t3.N r (putE k m L))(hp:PutAt k (B.take 64) (A5 o.N L) w):w=A5 t3.N (putE k m L):=by
 have hs:=x.srt.1;have s:(k,m)∈putE k m L:=QR k m L;obtain ⟨b,l⟩:=h.data _ s;have l:t3.N m=some (.dt b):=l;have f:=y.ev m b p l;rw[z,BN] at f;cases f;have c:∀e∈BW k L,t3.N e.2=o.N e.2:=λe a=>by
  have hm:e∈putE k m L:=delE_put m a;obtain ⟨b1,u⟩:=x.data e ((Afd.1 a).1);obtain ⟨b3,t⟩:=h.data e hm;exact TY K ha z hF y _ _ _ u t
 obtain ⟨i,v,d,rfl⟩:=hp;rw[volB_del] at v d;have e1:∀(j:Nat) (e:E),j<i->(BW k L)[j]?=some e->e.1<k:=λj e hj a=>v j (e.1,(TX (o.N e.2)).take 64) hj (by simp[A5,a]);have e2:∀e:E,(BW k L)[i]?=some e->k<=e.1:=λe a=>d (e.1,(TX (o.N e.2)).take 64) (by simp[A5,a]);rw[Ace hs k m e1 e2,volB_del,<-Jc (N2:=t3.N) (N:=o.N) (L:=BW k L) c];simp[A5,l,TX,Afr,AfW]

def InB(A:Ai)(u:Value)(V:List Bk):Prop:=∀h,A h->rdH 2 u V.length (BY V) h
def both(G A:Ai):Ai:=λh=>seps [G,A] h
theorem O3(h:Hp)(own:Nat->Nat)(i:Nat):CK (h.part own i) h:=λk o e=>(En e).2
theorem InB.grow{A:Ai}{u:Value}{V:List Bk}:InB (both (grow 90 2 u V.length (BY V)) A) u V:=λh ⟨own,q⟩=>(q 0 _ Z).rd.le (O3 h own 0)
theorem InB.old{G:Ai}{V:List Bk}(x:InB A u V):InB (both G A) u V:=λh ⟨own,q⟩=>(x _ (q 1 _ Z)).le (O3 h own 1)
def Ink(A A2:Ai):Prop:=∀u V,InB A u V->InB A2 u V
theorem Ink.refl(A:Ai):Ink A A:=λ_ _ q=>q
theorem Ink.both(G A:Ai):Ink A (both G A):=λ_ _ q=>q.old
theorem Ink.trans{B D:Ai}(x:Ink A B)(y:Ink B D):Ink A D:=λu V q=>y u V (x u V q)
theorem O4(pp mb n:Nat)(o:TB)(t:TS)(R:List Nat)(x:List UInt8)(j:x.length=240)(b:Nat)(hk:t.k<40):
  Aj 82 [Y pp,.agg #[I 5,.slice (some ⟨b,0,none⟩) 240 240]] [trA Tb pp mb n o (some (t,R)),blk b (x.map u8) 5] (λv G=>(cnt t.F 0 1024=0/\v=.tuple #[I 0,I 20]/\G=[trA Tb pp mb n o (some (t,R)),blk b (x.map u8) 5])\/
   ∃(a:Nat) (t2:TS),((t.N a=none/\t2.N=fup t.N a (some (.dt x))/\t2.F a=false/\∀q,t2.F q=true->t.F q=true)/\(∀q d,t2.N q=some (.nd d)->a∉vals d.es)/\(∀h c lo hi m L,Tr t.N h c lo hi m L->Tr t2.N h c lo hi m L)/\t2.k<=t.k+1/\cnt t.F 0 1024=cnt t2.F 0 1024+1)/\v=.tuple #[I (a:Int),I 0]/\G=[trA Tb pp mb n o (some (t2,a::R)),blk b (x.map u8) 5]):=by
 intro z R' w H;have K:=H.says 0 Z (λh a=>trA.k a);have I_:TInv n (manyN n+1) t.N t.C R:=K.i;refine Ret.mono (Cn.at (OP pp mb n o t R R ⟨5,x⟩ ⟨⟨by show (1:Int)<=5;omega,by show (5:Int)<=5;omega⟩,j⟩ (λh q=>q.rd U U (by simp[j]) (by simp only[AeR,Aew];exact Ael (by rw[Aeh,j];omega))) hk (some (.dt x)) (λq hq=>by cases hq;rfl) (λa f g l=>(I_.freshD l ⟨f,g⟩).2.1)) H 2 [0,1] Z Z) ?_;rintro v w' ⟨Γ',(⟨h0,rfl,rfl⟩|⟨a,F,k,⟨f,g,l,h4,h5,h6,y⟩,rfl,rfl⟩),s⟩
 ·exact ⟨_,.inl ⟨h0,Z,Z⟩,s⟩
 obtain ⟨u,f2,r⟩:=I_.freshD (b:=x) g ⟨f.1,f.2⟩;refine ⟨_,.inr ⟨a,⟨_,_,F,k⟩,⟨⟨u,Z,h5,h4⟩,λq d hq=>?_,λh c lo hi m L q=>q.fup r (λe=>?_),h6,y⟩,Z,Z⟩,s⟩
 ·have hq:fup t.N a (some (.dt x)) q=some (.nd d):=hq
  by_cases e:q=a
  ·subst e;rw[BN] at hq;cases hq
  rw[fup_ne _ _ e] at hq;exact r q d hq
 subst e;obtain ⟨d,p⟩:=q.node;rw[u] at p;cases p
end
section
variable{Tb:Ai}
theorem Acf{x:UInt8}(h:i<B.length):(B.map u8).take i++[u8 x]++(B.map u8).drop (i+[u8 x].length)=(B.set i x).map u8:=by
 rw[Afc,if_pos h];simp
theorem O5{k:Int}{V:List Bk}(c:InB A u V):Aj 14 [.agg #[I t,I s,I q,u],I k] [A] (λv G=>v=Cl (BU k V)/\G=[A]):=by
 intro z R w H;obtain ⟨n,o,rfl⟩:=H.sy 0 (λq=>(c _ q).slc);have a0:=H.sy 0 (λq=>(c _ q).slcapZ);refine Ae func14 Z ntmps14 Z (Za 2 [] H Z ?_);intro h w H;refine Zc 10 Z ?_;refine AD (σ:=Nat) (λi=>[(5,I (i:Int)),(1,I k),(2,Y h)])
   (λi w=>Sep z (blk h [I t,I s,I q,.slice n V.length o] 40::A::R) w/\(i<=V.length/\BU k V=BU k (V.drop i))) (λi=>V.length-i) 0
   fr_z ⟨H,⟨AeN _,Z⟩⟩ ?_
 clear H;rintro i w ⟨x,hI⟩;have H:=x.l2;obtain ⟨hi,f⟩:=hI;refine Z2 10 [3,0,0,0] H Z (Af Z (λm=>?_) (λm=>?_))
 ·refine Zc 5 Z ?_;obtain ⟨e,d⟩:∃e,V[i]?=some e:=⟨_,Aef U⟩;have a:=(H.rv 1 (c _)).at (CO d).1
  have b:=(H.rv 1 (c _)).at (CO d).2;refine Z2 4 [3,0,0] H Z (Ab Z (Ak Z (z:=2) (j:=i) (r:=i*2) J Z Z Z U a U) (Ab Z (Bh Z (k:=0) (r:=i*2) J Z a Z) (Ab Z (Ay Z Z J (Az a)) (Z0 4 [0] Z (Af Z (λy=>?_) (λy=>?_))))))
  ·refine Z2 5 [3,0,0] H Z (Ab Z (Ak Z (z:=2) (j:=i) (r:=i*2) J Z Z Z U a U) (Ab Z (Bh Z (k:=1) (r:=i*2+1) J Z a Z) (Ab Z (Ay Z Z J (Az b)) (Zc 4 Z (Zr Z ?_)))));have g:BU k V=e.2:=by rw[f,MW d,if_pos U]
   exact ⟨_,⟨by rw[g],Z⟩,H.pick 2 [1] Z⟩
  refine Z1 8 [] [(i:Int)+1] Z U (gf ?_);intro _ p;refine ⟨(i+1),p.cz,⟨H,?_⟩,?_⟩
  ·exact ⟨by omega,by rw[f,MW d,if_neg U]⟩
  omega
 refine Zc 2 Z (gx (Zc 4 Z (AP Z (Eo (k:=64) H Z J CL Z Z Z U) ?_)));rintro _ w ⟨b2,rfl,H⟩;refine Ab Z (Ch (l:=Ln) Z J J Z (Az (H.rv 0 (·.rd U U O (by rfl))))) (Zc 4 Z (Zr Z ?_));have g:BU k V=Ln:=by rw[f,AeO U];rfl
 exact ⟨_,⟨by rw[g],Z⟩,H.pick 3 [2] Z⟩
theorem Acg{k:Int}{V:List Bk}(A:Ai)(b:InB A u V):Aj 68 [.agg #[I t,I s,I q,u],I k] [A] (λv G=>v=.bool (decide (G4 k V))/\G=[A]):=by
 intro z R w H;obtain ⟨n,o,rfl⟩:=H.sy 0 (λq=>(b _ q).slc);have a0:=H.sy 0 (λq=>(b _ q).slcapZ);refine Ae func68 Z ntmps68 Z (Za 2 [] H Z ?_);intro l w H;refine Zc 10 Z ?_;refine AD (σ:=Nat) (λi=>[(5,I (i:Int)),(1,I k),(2,Y l)])
   (λi w=>Sep z (blk l [I t,I s,I q,.slice n V.length o] 40::A::R) w/\(i<=V.length/\(G4 k V↔G4 k (V.drop i)))) (λi=>V.length-i) 0
   fr_z ⟨H,⟨AeN _,Ahw⟩⟩ ?_
 clear H;rintro i w ⟨x,hI⟩;have H:=x.l2;obtain ⟨hi,d⟩:=hI;refine Z2 10 [3,0,0,0] H Z (Af Z (λm=>?_) (λm=>?_))
 ·refine Zc 5 Z ?_;obtain ⟨e,c⟩:∃e,V[i]?=some e:=⟨_,Aef U⟩;have a:=(H.rv 1 (b _)).at (CO c).1
  refine Z2 4 [3,0,0] H Z (Ab Z (Ak Z (z:=2) (j:=i) (r:=i*2) J Z Z Z U a U) (Ab Z (Bh Z (k:=0) (r:=i*2) J Z a Z) (Ab Z (Ay Z Z J (Az a)) (Z0 4 [0] Z (Af Z (λy=>?_) (λy=>?_))))))
  ·refine Zc 6 Z (Zr Z ?_);have f:decide (G4 k V)=true:=decide_eq_true (d.2 (by rw[MX c];exact .inl U))
   exact ⟨_,⟨by rw[f],Z⟩,H.pick 2 [1] Z⟩
  refine Z1 8 [] [(i:Int)+1] Z U (gf ?_);intro _ p;refine ⟨(i+1),p.cz,⟨H,?_⟩,?_⟩
  ·exact ⟨by omega,d.trans ((MX c).trans ⟨λq=>q.resolve_left U,.inr⟩)⟩
  omega
 refine Zc 2 Z (gx (Zc 8 Z (Zr Z ?_)));have f:decide (G4 k V)=false:=decide_eq_false (λq=>by have:=d.1 q;rw[AeO U] at this;obtain ⟨_,h,_⟩:=this;cases h);exact ⟨_,⟨by rw[f],Z⟩,H.pick 2 [1] Z⟩
theorem QS(k:Int){V:List Bk}(A:Ai)(h:InB A u V)(hV:V.length<=1048576):Aj 119 [.agg #[I t,I s,I q,u],I k] [A] (λv G=>∃b:Value,v=.agg #[I t,I s,I q,b]/\G=[grow 90 2 b (BA k V).length (BY (BA k V)),A]):=by
 intro z R w H;replace H:=H.l1;obtain ⟨y,oc,rfl⟩:=H.sy 0 (λq=>(h _ q).slc);have a2:=H.sy 0 (λq=>(h _ q).slcapZ);refine Ae func119 Z ntmps119 Z (Za 2 [] H Z ?_);intro p w H;refine Za 0 [] H Z ?_;intro n w H;refine Zc 9 Z ?_;replace H:=(H.nilg 90 2).l4;refine Zc 5 Z ?_;refine AD (σ:=Nat×Value) (λ⟨i,b⟩=>[(6,I (i:Int)),(5,b),(1,I k),(2,Y p),(4,Y n)])
   (λ⟨i,b⟩ w=>Sep z (grow 90 2 b ((BA k (V.take i)).length) (BY (BA k (V.take i)))::blk n [I 0,I 0,I 0,.slice none 0 0] 40::blk p [I t,I s,I q,.slice y V.length oc] 40::A::R) w/\(i<=V.length)) (λ⟨i,b⟩=>V.length-i) ⟨0,.slice none 0 0⟩
   (λ_ g=>(g.co Z (by go_num) g.cz)) ⟨H,AeN _⟩ ?_
 clear H;rintro ⟨i,b⟩ w ⟨f,o⟩;dsimp only at o f ⊢;have H:=f.l4;have c:=H.sy 0 (·.slc);have hi:=o;clear o;refine Z2 10 [3,2,0,0] H Z (Af Z (λh1=>?_) (λh1=>?_))
 ·refine Zc 5 Z ?_;obtain ⟨e,l⟩:∃e,V[i]?=some e:=⟨_,Aef U⟩;have a:=(H.rv 3 (h _)).at (CO l).1
  have a0:=(H.rv 3 (h _)).at (CO l).2;have a3:(BA k (V.take i)).length<=i:=Agu (JL _ _) (by rw[Aez];omega);refine Z2 4 [3,2,0] H Z (Ab Z (Ak Z (z:=2) (j:=i) (r:=i*2) J Z Z Z U a U) (Ab Z (Bh Z (k:=0) (r:=i*2) J Z a Z) (Ab Z (Ay Z Z J (Az a)) (Z0 4 [0] Z (Af Z (λh2=>?_) (λh2=>?_))))))
  ·refine Z2 5 [3,2,0] H Z (Ab Z (Ak Z (z:=2) (j:=i) (r:=i*2) J Z Z Z U a U) (Ab Z (Bq Z Z (vs:=[I e.1,Cl e.2]) J O (Az (λk u hk=>by rcases k with _|_|k<;>simp at hk<;>subst hk<;>assumption))) (AP Z (AO H Z J A6 Z (by decide) (by decide) (out:=[I e.1,Cl e.2]) J) ?_)));rintro _ w ⟨b3,rfl,H⟩;replace H:=H.l5;refine AP Z (AW 1 H Z Z J A6 Z Z (H.rv 0 (·.rd U U O Z)) (by simp[Cl,Value.oneCell']) U) ?_;rintro x w f;have f:Sep z (blk b3 [I e.1,Cl e.2] 90::grow 90 2 x ((BA k (V.take i)).length+1) (BY (BA k (V.take i))++[I e.1,Cl e.2])::blk n [I 0,I 0,I 0,.slice none 0 0] 40::blk p [I t,I s,I q,.slice y V.length oc] 40::A::R) w:=f
   have m:(BY (BA k (V.take i))++[I e.1,Cl e.2]:List Value)=BY (BA k (V.take i)++[e]):=by rw[Mi];rfl
   rw[m] at f;have H:=f.l5;refine Z1 9 [] [(i:Int)+1] Z U ?_;replace H:=H.d;refine gf ?_;intro _ g;refine ⟨⟨i+1,x⟩,g.cz,⟨(by rw[MY k l,if_neg U,Aeg];exact H),?_⟩,?_⟩
   ·show i+1<=V.length;omega
   (dsimp only;omega)
  refine Z1 8 [] [(i:Int)+1] Z U (gf ?_);intro _ g;refine ⟨⟨i+1,b⟩,g.cz,⟨(by rw[MY k l,if_pos U];exact H),?_⟩,?_⟩
  ·show i+1<=V.length;omega
  (dsimp only;omega)
 refine Zc 2 Z (gx (Z0 6 [3] Z (AC Z Z (NA 2 H Z Z Z Z c.cells c.one J) ?_)));rintro w H;replace H:=H.l4;refine Z2 5 [2,4] H Z (AC Z Z (Al 1 H Z Z Z Z (vs:=[I t,I s,I q,b]) Z (Ad Z (Ad Z (Ad Z (Ad c.one Aw)))) J O (out:=[I t,I s,I q,b]) Z) ?_);rintro w H;replace H:=H.l4;refine Zc 3 Z (Zl [1,4] H Z ?_);rw[show i=V.length by omega,Ae9] at H;exact ⟨_,⟨b,Z,Z⟩,H.pick 4 [0,3] Z⟩
theorem TZ(k:Int)(V:List Bk)(A:Ai)(hA:InB A u V)(d:List UInt8)(hV:V.length<=1048576):Aj 69 [.agg #[I t,I s,I q,u],I k,Cl d] [A] (λv G=>∃(u2:Value) (V2:List Bk),PutAt k d V V2/\v=.agg #[I t,I s,I q,u2]/\G=[grow 90 2 u2 V2.length (BY V2),A]):=by
 intro z R w H;replace H:=H.l1;obtain ⟨ao,oc,rfl⟩:=H.sy 0 (λq=>(hA _ q).slc);have a5:=H.sy 0 (λq=>(hA _ q).slcapZ);have a6:=JL k V;refine Ae func69 Z ntmps69 Z (Za 2 [] H Z ?_);intro b1 w H;refine Za 0 [] H Z ?_;intro b2 w H;refine Z2 6 [1,4] H Z (Ar Z (call119 _) (QS _ _ hA hV) H.f2 ?_);rintro _ w _ ⟨u2,rfl,rfl⟩ H;replace H:=H.l4;have a0:=H.sy 0 (·.rd.slc);obtain ⟨am,o,rfl⟩:=a0;have a1:=H.sy 0 (·.rd.slcapZ);refine Z4 10 [3] H Z ?_;intro w H;refine AD (σ:=Nat) (λi=>[(7,I (i:Int)),(1,I k),(2,Cl d),(3,Y b1),(6,Y b2)])
   (λi w=>Sep z (grow 90 2 (.slice am ((BA k V).length) o) ((BA k V).length) (BY (BA k V))::A::blk b2 [I 0,I 0,I 0,.slice none 0 0] 40::blk b1 [I t,I s,I q,.slice am ((BA k V).length) o] 40::R) w/\(i<=(BA k V).length/\∀(j:Nat) (e:Bk),j<i->(BA k V)[j]?=some e->e.1<k)) (λi=>(BA k V).length-i) 0
   fr_z ⟨H,⟨AeN _,λj e h=>by omega⟩⟩ ?_
 clear H;rintro i w ⟨H',hI⟩;have H:=H'.l4;obtain ⟨hi,f⟩:=hI;refine Z2 9 [3,3,0,0] H Z (An 17 Z (λh1=>?_) (λh1=>?_))
 ·refine Z2 3 [3,3,0] H Z ?_;obtain ⟨e,y⟩:∃e,(BA k V)[i]?=some e:=⟨_,Aef U⟩;have g:=(H.rv 0 (·.rd)).at (CO y).1
  refine Ab Z (Ak Z (z:=2) (j:=i) (r:=i*2) J Z Z Z U g U) (Ab Z (Bh Z (k:=0) (r:=i*2) J Z g Z) (Ab Z (Ay Z Z J (Az g)) (Z0 5 [0] Z (Af Z (λh2=>?_) (λh2=>?_)))))
  ·refine Z1 9 [] [(i:Int)+1] Z U (gf ?_);intro _ hF;refine ⟨(i+1),hF.cz,⟨H,?_⟩,?_⟩
   ·refine ⟨by omega,λj m hj a=>?_⟩;rcases Aes j i with q|q
    ·exact f j m q a
    obtain rfl:j=i:=by omega
    rw[y] at a;cases a;omega
   omega
  refine Zc 2 Z (gx (Z2 13 [3,3,0] H Z (Ab Z (FW (z:=2) (p:=0) (q:=i) (l':=i) (c':=o) Z J Z (.inl ⟨Z,Z⟩) (.inr ⟨_,_,_,Z,Z,Z⟩) U U Z Z) ?_)));replace H:=(H.nilg 90 2).l5;refine AP Z (AW 0 H Z Z J A6 Z Z (H.rv 1 (·.rd.cutB U U)) (GC) U) ?_;rintro v3 w H;replace H:=H.l5;refine Zc 8 Z (Ab Z (Bg Z Z (out:=[I k,Cl d]) J) (AP Z (AO H Z J A6 Z (by decide) (by decide) (out:=[I k,Cl d]) J) ?_));rintro _ w ⟨b4,rfl,H⟩;replace H:=H.l6;refine AP Z (AW 1 H Z Z J A6 Z Z (H.rv 0 (·.rd U U O Z)) (by simp[Cl,Value.oneCell']) U) ?_;rintro v5 w H;replace H:=H.l6;refine Z2 9 [3,5,0] H Z (Ab Z (FW (z:=2) (p:=i) (q:=(BA k V).length) (l':=((BA k V).length)-i) (c':=o-i) Z J Z (.inr ⟨_,_,_,Z,Z,Z⟩) (.inl ⟨Z,Z⟩) U U Z Z) (AP Z (AW 1 H Z Z J A6 Z Z (H.rv 2 (·.rd.cutB U U)) (GC) U) ?_));rintro v6 w H;replace H:=H.l6;have n:=H.sy 1 (·.slc);refine Z0 7 [3] Z (AC Z Z (NA 5 H Z Z Z Z n.cells n.one J) ?_);rintro w H;replace H:=H.l6;refine Z2 5 [5,4] H Z (AC Z Z (Al 4 H Z Z Z Z (vs:=[I t,I s,I q,v6]) Z (Ad Z (Ad Z (Ad Z (Ad n.one Aw)))) J O (out:=[I t,I s,I q,v6]) Z) ?_);rintro w H;replace H:=H.l6;refine Zc 3 Z (Zl [4,4] H Z ?_);have b:∀m,(BA k V)[i]?=some m->k<=m.1:=λm a=>by first|(have:=(Aed.1 a).1;omega)|(rw[y] at a;cases a;omega)
  rw[show (0+i+1+((BA k V).length-i):Nat)=((BA k V).take i++(k,d)::(BA k V).drop i).length from by simp only[Aeg,Aez,Aei,AeQ];omega,show ([]++BY (((BA k V).drop 0).take i)++List.take (1*2) (List.drop 0 [I k,Cl d])++BY (((BA k V).drop i).take ((BA k V).length-i)):List Value)=BY ((BA k V).take i++(k,d)::(BA k V).drop i) from by rw[Mi,Aew,Ael (l:=(BA k V).drop i) (by rw[AeQ];omega)];simp[BY]] at H;exact ⟨_,⟨_,_,⟨i,f,b,rfl⟩,rfl,rfl⟩,H.pick 6 [1,3] rfl⟩
 refine Zc 14 Z (gx (Z2 13 [3,3,0] H Z (Ab Z (FW (z:=2) (p:=0) (q:=i) (l':=i) (c':=o) Z J Z (.inl ⟨Z,Z⟩) (.inr ⟨_,_,_,Z,Z,Z⟩) U U Z Z) ?_)));replace H:=(H.nilg 90 2).l5;refine AP Z (AW 0 H Z Z J A6 Z Z (H.rv 1 (·.rd.cutB U U)) (GC) U) ?_;rintro v7 w H;replace H:=H.l5;refine Zc 8 Z (Ab Z (Bg Z Z (out:=[I k,Cl d]) J) (AP Z (AO H Z J A6 Z (by decide) (by decide) (out:=[I k,Cl d]) J) ?_));rintro _ w ⟨b8,rfl,H⟩;replace H:=H.l6;refine AP Z (AW 1 H Z Z J A6 Z Z (H.rv 0 (·.rd U U O Z)) (by simp[Cl,Value.oneCell']) U) ?_;rintro v9 w H;replace H:=H.l6;refine Z2 9 [3,5,0] H Z (Ab Z (FW (z:=2) (p:=i) (q:=(BA k V).length) (l':=((BA k V).length)-i) (c':=o-i) Z J Z (.inr ⟨_,_,_,Z,Z,Z⟩) (.inl ⟨Z,Z⟩) U U Z Z) (AP Z (AW 1 H Z Z J A6 Z Z (H.rv 2 (·.rd.cutB U U)) (GC) U) ?_));rintro x w H;replace H:=H.l6;have c:=H.sy 1 (·.slc);refine Z0 7 [3] Z (AC Z Z (NA 5 H Z Z Z Z c.cells c.one J) ?_);rintro w H;replace H:=H.l6;refine Z2 5 [5,4] H Z (AC Z Z (Al 4 H Z Z Z Z (vs:=[I t,I s,I q,x]) Z (Ad Z (Ad Z (Ad Z (Ad c.one Aw)))) J O (out:=[I t,I s,I q,x]) Z) ?_);rintro w H;replace H:=H.l6;refine Zc 3 Z (Zl [4,4] H Z ?_);have b:∀m,(BA k V)[i]?=some m->k<=m.1:=λm a=>by first|(have:=(Aed.1 a).1;omega)|(rw[y] at a;cases a;omega)
 rw[show (0+i+1+((BA k V).length-i):Nat)=((BA k V).take i++(k,d)::(BA k V).drop i).length from by simp only[Aeg,Aez,Aei,AeQ];omega,show ([]++BY (((BA k V).drop 0).take i)++List.take (1*2) (List.drop 0 [I k,Cl d])++BY (((BA k V).drop i).take ((BA k V).length-i)):List Value)=BY ((BA k V).take i++(k,d)::(BA k V).drop i) from by rw[Mi,Aew,Ael (l:=(BA k V).drop i) (by rw[AeQ];omega)];simp[BY]] at H;exact ⟨_,⟨_,_,⟨i,f,b,rfl⟩,rfl,rfl⟩,H.pick 6 [1,3] rfl⟩
end
def D8(id st sz q r mp:Int):Prop:=(1<=id/\id<=1073741824)/\(st=1\/st=2)/\(1<=sz/\sz<=1048576)/\(0<=q/\q<=1048576)/\(0<=r/\r<=1023)/\0<=mp/\mp<=1024
instance(id st sz q r mp:Int):Decidable (D8 id st sz q r mp):=by unfold D8;exact inferInstance
def CR(id st sz q r mp blk:Int):Int:=if D8 id st sz q r mp then (if 0<=blk/\blk<=sz-1 then 0 else 34) else 1
theorem Dy:Aj 131 [I t,I s,I p] [] (λv G=>v=.bool (decide (s<=t/\t<=p))/\G=[]):=by
 intro z R w H;refine Ae func131 Z ntmps131 Z (Z0 11 [0] Z (An 10 Z (λa=>?_) (λa=>?_)))
 ·refine Z0 8 [0] Z (Zr Z ?_);exact ⟨_,⟨congrArg Value.bool (by first|(rw[Aey];simp<;>omega)|(simp<;>omega)),Z⟩,H⟩
 refine Zc 8 Z (Zr Z ?_);exact ⟨_,⟨congrArg Value.bool (by first|(rw[Aey];simp<;>omega)|(simp<;>omega)),Z⟩,H⟩
theorem tmay_c(pp:Nat)(id c sz q r b d:Int):Aj 79 [Y pp,.agg #[I id,I c,I sz,I q,I r,I b],I d] [] (λv G=>v=I (CR id c sz q r b d)/\G=[]):=by
 intro z R w H;refine Ae func79 Z ntmps79 Z (Za 2 [] H Z ?_);intro t w H;refine Z2 12 [0,0,0] H Z (z_E_ Z (call131 _) (Dy) H ?_);intro w H;refine Ab Z (AH Z Z) (Zc 2 Z (An 16 Z (λi=>?_) (λi=>?_)))
 ·refine Zc 19 Z (Zr Z ?_);have a:CR id c sz q r b d=1:=by unfold CR;rw[if_neg (by unfold D8;omega)]
  exact ⟨_,⟨by rw[a],Z⟩,H.perm 1 [] Z Z⟩
 refine Z2 4 [1,0,0,0] H Z (An 20 Z (λo=>?_) (λo=>?_))
 ·refine Z2 8 [1,0,0,0] H Z (Af Z (λk=>?_) (λk=>?_))
  ·refine Zc 6 Z (Zr Z ?_);have a:CR id c sz q r b d=1:=by unfold CR;rw[if_neg (by unfold D8;omega)]
   exact ⟨_,⟨by rw[a],Z⟩,H.perm 1 [] Z Z⟩
  refine Z2 4 [2,0,0] H Z (z_E_ Z (call131 _) (Dy) H ?_);intro w H;refine Ab Z (AH Z Z) (Zc 1 Z (An 31 Z (λl=>?_) (λl=>?_)))
  ·refine Zc 15 Z (Zr Z ?_);have a:CR id c sz q r b d=1:=by unfold CR;rw[if_neg (by unfold D8;omega)]
   exact ⟨_,⟨by rw[a],Z⟩,H.perm 1 [] Z Z⟩
  refine Z2 2 [3,0,0] H Z (z_E_ Z (call131 _) (Dy) H ?_);intro w H;refine Ab Z (AH Z Z) (Zc 4 Z (Af Z (λp=>?_) (λp=>?_)))
  ·refine Zc 6 Z (Zr Z ?_);have a:CR id c sz q r b d=1:=by unfold CR;rw[if_neg (by unfold D8;omega)]
   exact ⟨_,⟨by rw[a],Z⟩,H.perm 1 [] Z Z⟩
  refine Z2 4 [4,0,0] H Z (z_E_ Z (call131 _) (Dy) H ?_);intro w H;refine Ab Z (AH Z Z) (Zc 1 Z (An 42 Z (λj=>?_) (λj=>?_)))
  ·refine Zc 15 Z (Zr Z ?_);have a:CR id c sz q r b d=1:=by unfold CR;rw[if_neg (by unfold D8;omega)]
   exact ⟨_,⟨by rw[a],Z⟩,H.perm 1 [] Z Z⟩
  refine Z2 2 [5,0,0] H Z (z_E_ Z (call131 _) (Dy) H ?_);intro w H;refine Ab Z (AH Z Z) (Zc 4 Z (Af Z (λs=>?_) (λs=>?_)))
  ·refine Zc 6 Z (Zr Z ?_);have a:CR id c sz q r b d=1:=by unfold CR;rw[if_neg (by unfold D8;omega)]
   exact ⟨_,⟨by rw[a],Z⟩,H.perm 1 [] Z Z⟩
  refine Z3 6 [2,0,0] [sz-1] H Z U (z_E_ Z (call131 _) (Dy) H ?_);intro w H;refine Ab Z (AH Z Z) (Zc 3 Z (Af Z (λm=>?_) (λm=>?_)))
  ·refine Zc 6 Z (Zr Z ?_);have a:CR id c sz q r b d=34:=by unfold CR;rw[if_pos (by unfold D8;omega),if_neg U]
   exact ⟨_,⟨by rw[a],Z⟩,H.perm 1 [] Z Z⟩
  refine Zc 9 Z (Zr Z ?_);have a:CR id c sz q r b d=0:=by unfold CR;rw[if_pos (by unfold D8;omega),if_pos U]
  exact ⟨_,⟨by rw[a],Z⟩,H.perm 1 [] Z Z⟩
 refine Z2 13 [2,0,0] H Z (z_E_ Z (call131 _) (Dy) H ?_);intro w H;refine Ab Z (AH Z Z) (Zc 1 Z (An 31 Z (λn=>?_) (λn=>?_)))
 ·refine Zc 15 Z (Zr Z ?_);have a:CR id c sz q r b d=1:=by unfold CR;rw[if_neg (by unfold D8;omega)]
  exact ⟨_,⟨by rw[a],Z⟩,H.perm 1 [] Z Z⟩
 refine Z2 2 [3,0,0] H Z (z_E_ Z (call131 _) (Dy) H ?_);intro w H;refine Ab Z (AH Z Z) (Zc 4 Z (Af Z (λe=>?_) (λe=>?_)))
 ·refine Zc 6 Z (Zr Z ?_);have a:CR id c sz q r b d=1:=by unfold CR;rw[if_neg (by unfold D8;omega)]
  exact ⟨_,⟨by rw[a],Z⟩,H.perm 1 [] Z Z⟩
 refine Z2 4 [4,0,0] H Z (z_E_ Z (call131 _) (Dy) H ?_);intro w H;refine Ab Z (AH Z Z) (Zc 1 Z (An 42 Z (λh=>?_) (λh=>?_)))
 ·refine Zc 15 Z (Zr Z ?_);have a:CR id c sz q r b d=1:=by unfold CR;rw[if_neg (by unfold D8;omega)]
  exact ⟨_,⟨by rw[a],Z⟩,H.perm 1 [] Z Z⟩
 refine Z2 2 [5,0,0] H Z (z_E_ Z (call131 _) (Dy) H ?_);intro w H;refine Ab Z (AH Z Z) (Zc 4 Z (Af Z (λg=>?_) (λg=>?_)))
 ·refine Zc 6 Z (Zr Z ?_);have a:CR id c sz q r b d=1:=by unfold CR;rw[if_neg (by unfold D8;omega)]
  exact ⟨_,⟨by rw[a],Z⟩,H.perm 1 [] Z Z⟩
 refine Z3 6 [2,0,0] [sz-1] H Z U (z_E_ Z (call131 _) (Dy) H ?_);intro w H;refine Ab Z (AH Z Z) (Zc 3 Z (Af Z (λf=>?_) (λf=>?_)))
 ·refine Zc 6 Z (Zr Z ?_);have a:CR id c sz q r b d=34:=by unfold CR;rw[if_pos (by unfold D8;omega),if_neg U]
  exact ⟨_,⟨by rw[a],Z⟩,H.perm 1 [] Z Z⟩
 refine Zc 9 Z (Zr Z ?_);have a:CR id c sz q r b d=0:=by unfold CR;rw[if_pos (by unfold D8;omega),if_pos U]
 exact ⟨_,⟨by rw[a],Z⟩,H.perm 1 [] Z Z⟩
section
variable{Tb:Ai}
theorem O6{r a blk:Int}(c:D8 t s p q r a):Aj 79 [Y n,.agg #[I t,I s,I p,I q,I r,I a],I blk] [] (λv G=>((0<=blk/\blk<p)/\v=I 0/\G=[])\/(¬(0<=blk/\blk<p)/\v=I 34/\G=[])):=by
 intro z R w H;refine Ret.mono (tmay_c n t s p q r a blk z R w H) ?_;rintro v d ⟨Γ',⟨rfl,rfl⟩,b⟩;unfold CR;rw[if_pos c];by_cases hb:0<=blk/\blk<p
 ·exact ⟨_,.inl ⟨hb,by rw[if_pos U],Z⟩,b⟩
 exact ⟨_,.inr ⟨hb,by rw[if_neg U],Z⟩,b⟩
set_option maxHeartbeats 2000000 in
theorem ZV (pp mb n:Nat) (o:TB) (T:TT) (id st sz q mp c:Int) (y:Nat) (L:List E) (hR:Root (Dl o T) y L) (hv:D8 id st sz q (y:Int) mp):Aj 45 [Y pp,.agg #[I id,I st,I sz,I q,I (y:Int),I mp],I c] [trA Tb pp mb n o T] (λv G=>((0<=c/\c<sz)/\∃b:Nat,(BU c (A5 (Dl o T) L)).length=64/\v=.tuple #[.slice (some ⟨b,0,none⟩) 64 64,I 0]/\G=[blk b ((BU c (A5 (Dl o T) L)).map u8) 5,trA Tb pp mb n o T])\/(¬(0<=c/\c<sz)/\v=.tuple #[.slice none 0 0,I 34]/\G=[trA Tb pp mb n o T])):=by
 intro z R w H;have K:=H.says 0 Z (λh a=>trA.k a);have l:∀e∈L,1<=e.2:=λe s=>(G3 K.i U (show ∀e∈L,∃b,Dl o T e.2=some (.dt b) from hR.data) e s).1;refine Ae func45 Z ntmps45 Z (Za 2 [] H Z ?_);intro b1 w H;refine Z2 10 [0,6] H Z (Ar Z (call79 _) (O6 hv) H ?_);rintro _ w _ (⟨hb,rfl,rfl⟩|⟨hb,rfl,rfl⟩) p
 ·have H:=p.l2;refine Z2 18 [4,4,0,0] H Z (z_E_ Z (call81 _) (TW pp mb n o T y c L hR) H.f1 ?_);intro w H;refine Z0 19 [4] Z (AP Z (Eo (k:=64) H Z J CL Z Z Z U) ?_);rintro _ w ⟨b2,rfl,H⟩;refine Z0 10 [0] Z (Af Z (λh1=>?_) (λh1=>?_))
  ·refine Zc 8 Z (Zr Z ?_);have f:BU c (A5 (Dl o T) L)=Ln:=by rw[Ks (λe s=>l e s),if_pos U]
   exact ⟨_,.inl ⟨hb,b2,by rw[f];rfl,Z,Z⟩,H.pick 3 [0,1] Z |>.mono 0 rfl (λh q=>by rw[f];exact q)⟩
  refine Zc 3 Z ?_;obtain ⟨vv,t⟩:=(FY l).1.1 (show getE c L≠0 by omega);have a2:=(FY l).2 vv t hR.srt.1;obtain ⟨r,d⟩:=hR.data _ t;have d:Dl o T (getE c L)=some (.dt r):=by rw[a2];exact d
  have a4:=K.i.nin _ _ d;obtain ⟨M0,uu,⟨_,_,_,hm⟩,p,u⟩:=(H.pick 3 [1,0,2] Z).trP;obtain ⟨X,x,p⟩:=p.po;have a1:(⟨5,r⟩:Pg)=El X.G.M (TK X.g uu) (getE c L):=by have h1:=(hm _ _ d).1;rcases uu with _|T';exact h1.symm.trans (x.m0 _ (.inr U));exact h1.symm.trans ((x.tx T' Z).m _ (.inr U))
  have j:r.length=240:=(hm _ _ d).2.2;have f:BU c (A5 (Dl o T) L)=r.take 64:=by rw[Ks (λe s=>l e s),if_neg U,d];rfl
  clear H;have H:=p.l9;refine Z2 7 [0,0,0,0] H Z (Ar Z (call85 _) (Lf X.ps X.pd X.D X.G (TK X.g uu) (getE c L) (by rw[x.pg];omega) x.fine.clean.f1 ⟨5,r⟩ a1) H.f1 ?_);rintro _ w _ (⟨a0,rfl,rfl⟩|⟨a3,rv,rfl,rfl⟩) p
  ·(exfalso;have h0:noPg.kind=(⟨5,r⟩:Pg).kind:=(by rw[a0]);cases h0)
  have H:=p.l10;obtain ⟨gb,a5,rest,rfl,c1,c2,c3,H⟩:=H.ungrow 0 Z U;refine Za 3 [] H Z ?_;intro b3 w H;refine Z4 30 [0,4,0,0,0,4,1,0,0] H Z ?_;intro w H;refine AP Z (F9 9 H Z Z J Z Z (m:=240) (news:=(r.map u8)) (.inl (H.rv 1 (·.rd U U (by rw[Aeg,Aeh,j];omega) (by rw[Aew,AeR,AeI (by rw[Aeh,j])])))) (by simp[u8,Value.oneCell']) O (k:=64) (by decide) (out:=((BU c (A5 (Dl o T) L)).map u8)) (by rw[f];simp[j,Afr,Ael])) ?_;rintro _ w ⟨rfl,H⟩;refine Zc 10 Z (Zr Z ?_);have H8:=u _ _ ((H.pick 11 [3,2,4,5,6,7,8,9] Z).toPo (X:=X) x Z);exact ⟨_,.inl ⟨hb,b2,by rw[f];simp[j],Z,Z⟩,H8.pick 2 [1,0] Z⟩
 have H:=p.l2;refine Z0 18 [3] Z (Zr Z ?_);exact ⟨_,.inr ⟨hb,Z,Z⟩,H.pick 2 [1] Z⟩
end
section
variable{Tb:Ai}
theorem trA.k0{mb:Nat}{o:TB}{T:TT}(a:trA Tb m mb n o T h):TrK n o none:=by
 have key:∀(M0:Nat->Pg) (u:Option PoT),Rel n M0 o.N o.C o.R->poA Tb m mb n M0 o.C u h->TrK n o none:=λM0 u c a=>by
  have d:=a.hn;refine ⟨d,c.i,a.c0.2,λp hp=>?_⟩;have b:AX n o.C p=true:=hp;simp[AX] at b;refine ⟨b.1,b.2,?_⟩;rcases Aes (manyN n) p with h|h
  ·exact h
  have:=a.c0.2 p h;omega
 cases T with
 | none=>obtain ⟨M0,c,a⟩:=a;exact key M0 _ c a
 | some s=>obtain ⟨M0,M,⟨c,_⟩,a⟩:=a;exact key M0 _ c a
structure WrF(n:Nat)(o:TB)(t3:TS)(ra r:Nat)(Q:List Nat)(kk:Int)(val:Nat)(bs:List UInt8)(L:List E):Prop where
 root:Root t3.N r (putE kk val L)
 nd:(vals (putE kk val L)).Nodup
 kp:Kp o.N t3.N Q
 dt:Dt o.N t3.N
 vol:∀V2,PutAt kk bs (A5 o.N L) V2->V2=A5 t3.N (putE kk val L)
 k:t3.k<=17
 f:cnt (AX n o.C) 0 1024<=cnt t3.F 0 1024+12
 g:cnt t3.F 0 1024<=cnt (AX n t3.C) 0 1024
theorem WrF.of{n:Nat}{o:TB}{t2 t3:TS}{l r:Nat}{Q:List Nat}{g:Int}{val:Nat}{bs:List UInt8}{L:List E}(K:TrK n o none)(t:bs.length=64)(s:o.N val=none)(p:t2.N=fup o.N val (some (.dt (bs++List.replicate 176 0))))(d:t2.F val=false)(a:∀q,t2.F q=true->AX n o.C q=true)(j:∀h c lo hi m L,Tr o.N h c lo hi m L->Tr t2.N h c lo hi m L)(y:St t2 t3 Q 11 16)(v:Root o.N l L)(b:Root t3.N r (putE g val L))(i:(vals (putE g val L)).Nodup)(u:t2.k<=0+1)(z:cnt (AX n o.C) 0 1024=cnt t2.F 0 1024+1)(e:cnt t3.F 0 1024<=cnt (AX n t3.C) 0 1024):WrF n o t3 l r Q g val bs L:=by
 have hk:=y.k;have hf:=y.f;refine ⟨b,i,Kp.of λc w h lo hi m L x=>y.fr c w h lo hi m L (j h c lo hi m L x),TY K s p a y,λV2 hp=>?_,by omega,by omega,e⟩;exact ZU K s p d a y v b (by rw[AeI t];exact hp)
set_option maxHeartbeats 4000000 in
theorem Wu (pp mb n:Nat) (o:TB) (id st sz q mp g:Int) (j:Nat) (L:List E) (Q:List Nat) (D:Ai) (dv:Value) (bs:List UInt8) (p:LwI n o j L Q) (hv:D8 id st sz q (j:Int) mp) (hD:∀h,D h->rdH 1 dv bs.length (bs.map u8) h):Aj 42 [Y pp,.agg #[I id,I st,I sz,I q,I (j:Int),I mp],I g,dv] [trA Tb pp mb n o (some ((⟨o.N,o.C,AX n o.C,0⟩:TS),AZ j++Q)),D] (λv G=>(¬(0<=g/\g<sz)/\v=.tuple #[.agg #[I 0,I 0,I 0,I 0,I 0,I 0],I 34]/\G=[trA Tb pp mb n o (some (⟨o.N,o.C,AX n o.C,0⟩,AZ j++Q)),D])\/((0<=g/\g<sz)/\bs.length≠64/\v=.tuple #[.agg #[I 0,I 0,I 0,I 0,I 0,I 0],I 1]/\G=[trA Tb pp mb n o (some (⟨o.N,o.C,AX n o.C,0⟩,AZ j++Q)),D])\/(((0<=g/\g<sz)/\bs.length=64)/\(getE g L=0/\q<=mp)/\v=.tuple #[.agg #[I 0,I 0,I 0,I 0,I 0,I 0],I 30]/\G=[trA Tb pp mb n o (some (⟨o.N,o.C,AX n o.C,0⟩,AZ j++Q)),D])\/(((0<=g/\g<sz)/\bs.length=64/\¬(getE g L=0/\q<=mp))/\cnt (AX n o.C) 0 1024<=11/\∃s3,v=.tuple #[.agg #[I 0,I 0,I 0,I 0,I 0,I 0],I 20]/\G=[trA Tb pp mb n o (some s3),D])\/(((0<=g/\g<sz)/\bs.length=64/\¬(getE g L=0/\q<=mp))/\∃(t3:TS) (r val:Nat),WrF n o t3 j r Q g val bs L/\v=.tuple #[.agg #[I id,I st,I sz,I q,I (r:Int),I (if getE g L=0 then mp+1 else mp)],I 0]/\G=[trA Tb pp mb n o (some (t3,AZ r++Q)),D])):=by
 intro z R w H;obtain ⟨c7,dc,rfl⟩:=H.sy 1 (λq=>(hD _ q).slc);have c5:=H.sy 1 (λq=>(hD _ q).slcap);have K0:=H.says 0 Z (λh a=>trA.k0 a);have K:=H.says 0 Z (λh a=>trA.k a);refine Ae func42 Z ntmps42 Z (Za 2 [] H Z ?_);intro b1 w H;refine Za 0 [] H Z ?_;intro b2 w H;refine Z2 9 [1,6] H Z (Ar Z (call79 _) (O6 hv) H ?_);rintro _ w _ (⟨t,rfl,rfl⟩|⟨t,rfl,rfl⟩) u
 ·have H:=u.l4;refine Z0 17 [4] Z (z_E_ Z (call80 _) (HY pp mb n o) H.f2 ?_);intro w H;refine AB 25 (v:=.bool true) Z Z (Z0 13 [0] Z (Af Z (λh1=>?_) (λh1=>?_)))
  ·refine Zc 2 Z (Ab Z (Bg Z Z (out:=[I 0,I 0,I 0,I 0,I 0,I 0]) J) (Z4 5 [1] H Z ?_));intro w H;refine Zl [1,6] H Z ?_;exact ⟨_,.inr (.inl ⟨t,by omega,Z,Z⟩),H.pick 4 [0,3] Z⟩
  refine Z2 9 [4,2,0] H Z (z_E_ Z (call81 _) (TW pp mb n o (some ((⟨o.N,o.C,AX n o.C,0⟩:TS),AZ j++Q)) j g L p.root) H ?_);intro w H;refine Z0 23 [4,0] Z (An 47 Z (λh2=>?_) (λh2=>?_))
  ·refine Z2 8 [5,2,0,3,2,0,0] H Z (Af Z (λh3=>?_) (λh3=>?_))
   ·refine Zc 2 Z (Ab Z (Bg Z Z (out:=[I 0,I 0,I 0,I 0,I 0,I 0]) J) (Z4 5 [1] H Z ?_));intro w H;refine Zl [1,6] H Z ?_;exact ⟨_,.inr (.inr (.inl ⟨⟨t,by omega⟩,⟨by omega,by omega⟩,Z,Z⟩)),H.pick 4 [0,3] Z⟩
   refine Zc 3 Z ?_;have s:bs.length=64:=by omega
   refine Zc 1 Z (AP Z (Eo (k:=240) H Z J CL Z Z Z U) ?_);rintro _ w ⟨b3,rfl,H⟩;refine Zc 7 Z (AP Z (F9 0 H Z Z J Z Z (m:=bs.length) (news:=(bs.map u8)) (.inl (H.rv 4 (hD _))) (by simp[u8,Value.oneCell']) (by rw[Afk];omega) (k:=64) U (out:=((bs++List.replicate 176 0).map u8)) (by rw[Ael (l:=bs.map u8) (by rw[Aeh];omega)];simp[u8])) ?_);rintro _ w ⟨rfl,H⟩;refine Zc 7 Z (Ar Z (call82 _) (O4 pp mb n o (⟨o.N,o.C,AX n o.C,0⟩:TS) (AZ j++Q) (bs++List.replicate 176 0) (by simp[s]) b3 (by show 0<40;omega)) H.f1 ?_);rintro _ w _ (⟨a9,rfl,rfl⟩|⟨val,t2,⟨⟨y,x,a6,b5⟩,a8,a0,a2,a1⟩,rfl,rfl⟩) u
   ·have H:=u.l5;have b9:cnt (AX n o.C) 0 1024=0:=a9
    have a5:cnt (AX n o.C) 0 1024<=11:=by omega
    refine Z0 17 [3] Z (Ab Z (Bg Z Z (out:=[I 0,I 0,I 0,I 0,I 0,I 0]) J) (Z4 6 [2] H Z ?_));intro w H;refine Zl [2,6] H Z ?_;exact ⟨_,.inr (.inr (.inr (.inl ⟨⟨t,by omega,by omega⟩,by omega,_,Z,Z⟩))),H.pick 5 [0,4] Z⟩
   have H:=u.l5;have a5:cnt (AX n o.C) 0 1024=cnt t2.F 0 1024+1:=a1;have c2:t2.k<=0+1:=a2;refine Z2 25 [4,4,3,0] H Z ?_;have a7:Root t2.N j L:=Kp.of (Q:=[j]) (λc _ h=>a0 h c) j O L p.root;have c0:sz<=1048576:=by have:=hv;unfold D8 at this;omega
   have a4:t2.N val=some (.dt (bs++List.replicate 176 0)):=by rw[x,BN]
   refine Ar Z (call83 _) (XE pp mb n o t2 Q j g val L a7 p.n p.nd U a4 a8 U p.q) H ?_;rintro _ w _ (⟨c3,s3,rfl,rfl⟩|⟨t3,r,⟨d,b6,b0⟩,rfl,rfl⟩) u
   ·have H:=u.l5;have b7:cnt (AX n o.C) 0 1024<=11:=by omega
    refine Z4 17 [4,3,3] H Z ?_;intro w H;refine Ab Z (Bg Z Z (out:=[I 0,I 0,I 0,I 0,I 0,I 0]) J) (Z4 6 [2] H Z ?_);intro w H;refine Zl [2,6] H Z ?_;exact ⟨_,.inr (.inr (.inr (.inl ⟨⟨t,by omega,by omega⟩,by omega,_,Z,Z⟩))),H.pick 5 [0,4] Z⟩
   have H:=u.l5;have a3:(vals (putE g val L)).Nodup:=Lm p.root.srt.1 p.nd (λq=>by obtain ⟨e,he,rfl⟩:=Aem.1 q;obtain ⟨b,t⟩:=p.root.data e he;rw[show o.N e.2=none from y] at t;cases t);refine Z4 24 [4,3,4,0] H Z ?_;intro w H;refine Af Z (λh4=>?_) (λh4=>?_)
   ·have c1:=hv
    unfold D8 at c1;refine Z5 16 [5,3,0,5,3,3,6,2] [mp+1] H Z U ?_;intro w H;refine Zl [2,6] H Z ?_;exact ⟨_,.inr (.inr (.inr (.inr ⟨⟨t,by omega,by omega⟩,t3,r,val,WrF.of K0 s y x a6 b5 a0 d p.root b6 a3 a2 a1 b0,by rw[if_pos U],Z⟩))),H.pick 5 [0,4] Z⟩
   exact absurd h2 h4
  refine Zc 12 Z ?_;have s:bs.length=64:=by omega
  refine Zc 1 Z (AP Z (Eo (k:=240) H Z J CL Z Z Z U) ?_);rintro _ w ⟨b4,rfl,H⟩;refine Zc 7 Z (AP Z (F9 0 H Z Z J Z Z (m:=bs.length) (news:=(bs.map u8)) (.inl (H.rv 4 (hD _))) (by simp[u8,Value.oneCell']) (by rw[Afk];omega) (k:=64) U (out:=((bs++List.replicate 176 0).map u8)) (by rw[Ael (l:=bs.map u8) (by rw[Aeh];omega)];simp[u8])) ?_);rintro _ w ⟨rfl,H⟩;refine Zc 7 Z (Ar Z (call82 _) (O4 pp mb n o (⟨o.N,o.C,AX n o.C,0⟩:TS) (AZ j++Q) (bs++List.replicate 176 0) (by simp[s]) b4 (by show 0<40;omega)) H.f1 ?_);rintro _ w _ (⟨a9,rfl,rfl⟩|⟨val,t2,⟨⟨y,x,a6,b5⟩,a8,a0,a2,a1⟩,rfl,rfl⟩) u
  ·have H:=u.l5;have b9:cnt (AX n o.C) 0 1024=0:=a9
   have a5:cnt (AX n o.C) 0 1024<=11:=by omega
   refine Z0 17 [3] Z (Ab Z (Bg Z Z (out:=[I 0,I 0,I 0,I 0,I 0,I 0]) J) (Z4 6 [2] H Z ?_));intro w H;refine Zl [2,6] H Z ?_;exact ⟨_,.inr (.inr (.inr (.inl ⟨⟨t,by omega,by omega⟩,by omega,_,Z,Z⟩))),H.pick 5 [0,4] Z⟩
  have H:=u.l5;have a5:cnt (AX n o.C) 0 1024=cnt t2.F 0 1024+1:=a1;have c2:t2.k<=0+1:=a2;refine Z2 25 [4,4,3,0] H Z ?_;have a7:Root t2.N j L:=Kp.of (Q:=[j]) (λc _ h=>a0 h c) j O L p.root;have c0:sz<=1048576:=by have:=hv;unfold D8 at this;omega
  have a4:t2.N val=some (.dt (bs++List.replicate 176 0)):=by rw[x,BN]
  refine Ar Z (call83 _) (XE pp mb n o t2 Q j g val L a7 p.n p.nd U a4 a8 U p.q) H ?_;rintro _ w _ (⟨c3,s3,rfl,rfl⟩|⟨t3,r,⟨d,b6,b0⟩,rfl,rfl⟩) u
  ·have H:=u.l5;have b7:cnt (AX n o.C) 0 1024<=11:=by omega
   refine Z4 17 [4,3,3] H Z ?_;intro w H;refine Ab Z (Bg Z Z (out:=[I 0,I 0,I 0,I 0,I 0,I 0]) J) (Z4 6 [2] H Z ?_);intro w H;refine Zl [2,6] H Z ?_;exact ⟨_,.inr (.inr (.inr (.inl ⟨⟨t,by omega,by omega⟩,by omega,_,Z,Z⟩))),H.pick 5 [0,4] Z⟩
  have H:=u.l5;have a3:(vals (putE g val L)).Nodup:=Lm p.root.srt.1 p.nd (λq=>by obtain ⟨e,he,rfl⟩:=Aem.1 q;obtain ⟨b,t⟩:=p.root.data e he;rw[show o.N e.2=none from y] at t;cases t);refine Z4 24 [4,3,4,0] H Z ?_;intro w H;refine Af Z (λh5=>?_) (λh5=>?_)
  ·exact absurd h5 h2
  refine Z4 10 [3,6,2] H Z ?_;intro w H;refine Zl [2,6] H Z ?_;exact ⟨_,.inr (.inr (.inr (.inr ⟨⟨t,by omega,by omega⟩,t3,r,val,WrF.of K0 s y x a6 b5 a0 d p.root b6 a3 a2 a1 b0,by rw[if_neg U],Z⟩))),H.pick 5 [0,4] Z⟩
 have H:=u.l4;refine Z0 12 [3] Z (Ab Z (Bg Z Z (out:=[I 0,I 0,I 0,I 0,I 0,I 0]) J) (Z4 6 [0] H Z ?_));intro w H;refine Zl [0,6] H Z ?_;exact ⟨_,.inl ⟨t,Z,Z⟩,H.pick 4 [2,3] Z⟩
end
section
variable{Tb:Ai}
structure UnF(n:Nat)(o:TB)(t3:TS)(r:Nat)(Q:List Nat)(kk:Int)(L:List E):Prop where
 root:Root t3.N r (BW kk L)
 nd:(vals (BW kk L)).Nodup
 kp:Kp o.N t3.N Q
 dt:Dt o.N t3.N
 k:t3.k<=0+27
 f:cnt (AX n o.C) 0 1024<=cnt t3.F 0 1024+12
 g:cnt t3.F 0 1024<=cnt (AX n t3.C) 0 1024
set_option maxHeartbeats 4000000 in
theorem Ww (pp mb n:Nat) (o:TB) (id p sz q j b:Int) (e:Nat) (L:List E) (Q:List Nat) (l:LwI n o e L Q) (hv:D8 id p sz q (e:Int) j):Aj 44 [Y pp,.agg #[I id,I p,I sz,I q,I (e:Int),I j],I b] [trA Tb pp mb n o (some ((⟨o.N,o.C,AX n o.C,0⟩:TS),AZ e++Q))] (λv G=>(¬(0<=b/\b<sz)/\v=.tuple #[.agg #[I 0,I 0,I 0,I 0,I 0,I 0],I 34]/\G=[trA Tb pp mb n o (some (⟨o.N,o.C,AX n o.C,0⟩,AZ e++Q))])\/(((0<=b/\b<sz)/\¬CE b L)/\v=.tuple #[.agg #[I id,I p,I sz,I q,I (e:Int),I j],I 0]/\G=[trA Tb pp mb n o (some (⟨o.N,o.C,AX n o.C,0⟩,AZ e++Q))])\/(((0<=b/\b<sz)/\cnt (AX n o.C) 0 1024<=12)/\∃s3,v=.tuple #[.agg #[I 0,I 0,I 0,I 0,I 0,I 0],I 20]/\G=[trA Tb pp mb n o (some s3)])\/(((0<=b/\b<sz)/\CE b L)/\∃(t3:TS) (r:Nat),UnF n o t3 r Q b L/\v=.tuple #[.agg #[I id,I p,I sz,I q,I (r:Int),I (j-1)],I 0]/\G=[trA Tb pp mb n o (some (t3,AZ r++Q))])):=by
 intro z R w H;have K0:=H.says 0 Z (λh a=>trA.k0 a);refine Ae func44 Z ntmps44 Z (Za 2 [] H Z ?_);intro b1 w H;refine Za 0 [] H Z ?_;intro b2 w H;refine Z2 9 [1,6] H Z (Ar Z (call79 _) (O6 hv) H ?_);rintro _ w _ (⟨i,rfl,rfl⟩|⟨i,rfl,rfl⟩) g
 ·have H:=g.l3;refine Z0 16 [4] Z (z_E_ Z (call80 _) (HY pp mb n o) H.f2 ?_);intro w H;refine AB 21 (v:=.bool true) Z Z (Z2 12 [4,2,0] H Z (Ar Z (call84 _) (Adh pp mb n o (⟨o.N,o.C,AX n o.C,0⟩:TS) Q e b L l.root l.nd l.n (by show 0<=10;omega) l.q) H ?_));rintro _ w _ (⟨y,rfl,rfl⟩|⟨a1,s3,rfl,rfl⟩|⟨t3,r,⟨u,d,a2,t⟩,rfl,rfl⟩) g
  ·have H:=g.l3;refine Z4 43 [4,4,2,2,6,1] H Z ?_;intro w H;refine Zl [1,6] H Z ?_;exact ⟨_,.inr (.inl ⟨⟨i,y⟩,Z,Z⟩),H.pick 3 [0] Z⟩
  ·have H:=g.l3;have s:cnt (AX n o.C) 0 1024<=12:=a1
   refine Z0 19 [3] Z (Ab Z (Bg Z Z (out:=[I 0,I 0,I 0,I 0,I 0,I 0]) J) (Z4 6 [1] H Z ?_));intro w H;refine Zl [1,6] H Z ?_;exact ⟨_,.inr (.inr (.inl ⟨⟨i,s⟩,_,Z,Z⟩)),H.pick 3 [0] Z⟩
  have H:=g.l3;refine Z4 33 [4,4,2] H Z ?_;intro w H;have a0:=hv;unfold D8 at a0;refine Z5 16 [5,2,0,5,2,2,6,1] [j-1] H Z U ?_;intro w H;refine Zl [1,6] H Z ?_;exact ⟨_,.inr (.inr (.inr ⟨⟨i,u⟩,t3,r,⟨a2,Ll l.nd,Kp.of λc hc h lo hi m L x=>d.fr c hc h lo hi m L x,d.dtd K0,d.k,d.f,t⟩,Z,Z⟩)),H.pick 3 [0] Z⟩
 have H:=g.l3;refine Z0 12 [3] Z (Ab Z (Bg Z Z (out:=[I 0,I 0,I 0,I 0,I 0,I 0]) J) (Z4 6 [0] H Z ?_));intro w H;refine Zl [0,6] H Z ?_;exact ⟨_,.inl ⟨i,Z,Z⟩,H.pick 3 [2] Z⟩
end
section
variable{Tb:Ai}
section
variable{P:Program}{C:World->Prop}{o:Oper}{n:Nat}{ds:List Deferred}{L:List (Nat×Value)}{x y:Operand}{xt yt:TypeId}
end
theorem PH{L:List E}(hs:Srt L)(hp:∀e∈L,1<=e.2)(k:Int)(v:Nat):((putE k v L).length:Int)=if getE k L=0 then (L.length:Int)+1 else L.length:=by
 rcases key_split hs k with ⟨X,v0,Y_,rfl,a⟩|⟨c,X,Y_,rfl,a,b⟩
 ·rw[if_neg ((FY hp).1.2 ⟨v0,by simp⟩),Ee a];simp
 rw[if_pos (Aff λq=>c ((FY hp).1.1 q)),putE_new a b];simp<;>omega
theorem PI{L:List E}(hs:Srt L)(h:CE t L):(L.length:Int)-1=((BW t L).length:Int):=by
 rcases key_split hs t with ⟨X,v0,Y_,rfl,b⟩|⟨a,_⟩
 ·rw[L6 hs];simp<;>omega
 exact absurd h a
theorem UnF.vol{n:Nat}{o:TB}{t3:TS}{Q:List Nat}{L:List E}(h:UnF n o t3 r Q t L)(d:Root o.N m L):A5 t3.N (BW t L)=BA t (A5 o.N L):=by
 rw[volB_del];refine Jc λe c=>?_;obtain ⟨b,f⟩:=d.data e (Afd.1 c).1;obtain ⟨g,a⟩:=h.root.data e c;exact h.dt _ _ _ f a
end
section
structure Vl where
 id:Int
 st:Int
 sz:Int
 q:Int
 r:Int
 mp:Int
deriving DecidableEq
def Vl.cells(v:Vl):List Value:=[.int .i64 v.id,.int .i64 v.st,.int .i64 v.sz,.int .i64 v.q,.int .i64 v.r,.int .i64 v.mp]
def Be(vs:List Vl):List Value:=vs.flatMap Vl.cells
theorem ZW(vs:List Vl):(Be vs).length=vs.length*6:=by
 induction vs with
 | nil=>rfl
 | cons e es ih=>simp only[Be,AeJ,Aeg] at ih ⊢;rw[ih];simp[Vl.cells];omega
theorem JM(A B:List Vl):Be (A++B)=Be A++Be B:=by simp[Be]
theorem QT(vs:List Vl):∀c∈Be vs,c.oneCell'=true:=λc b=>by
 simp only[Be,Agi] at b;obtain ⟨e,_,a⟩:=b;simp[Vl.cells] at a;rcases a with rfl|rfl|rfl|rfl|rfl|rfl<;>rfl
theorem AV:∀{vs:List Vl} {j:Nat} {e:Vl},vs[j]?=some e->∀k u,(Vl.cells e)[k]?=some u->(Be vs)[j*6+k]?=some u
 | x::es,0,e,h,k,u,hk=>by
  simp at h;subst h;have hl:=(Aed.1 hk).1;simp only[Be,AeJ];rw[Aeo U];simpa using hk
 | x::es,j+1,e,h,k,u,hk=>by
  have:=AV (vs:=es) (j:=j) (by simpa using h) k u hk;simp only[Be,AeJ] at this ⊢;rw[Aeu (by simp[Vl.cells];omega)];rw[show (j+1)*6+k-(Vl.cells x).length=j*6+k from by simp[Vl.cells];omega];exact this
structure Vl.Fit(v:Vl):Prop where
 id:0<=v.id/\v.id<=1073741824
 st:0<=v.st/\v.st<=2
 sz:0<=v.sz/\v.sz<=1048576
 q:0<=v.q/\v.q<=1048576
 r:0<=v.r/\v.r<=1023
 mp:0<=v.mp/\v.mp<=1048576
def v0:Vl:=⟨0,0,0,0,0,0⟩
theorem v0_fit:v0.Fit:=by constructor<;>decide
def FL(v:Vl):List UInt8:=Ag 4 v.id++Ag 1 v.st++Ag 4 v.sz++Ag 4 v.q++Ag 2 v.r++Ag 4 v.mp
theorem ZX(v:Vl):(FL v).length=19:=by simp[FL,Ah]
theorem ZY(vs:List Vl):(vs.flatMap FL).length=19*vs.length:=by
 induction vs with
 | nil=>rfl
 | cons e es ih=>rw[AeJ,Aeg,ih,ZX,Aei];omega
theorem QU(sk:List Int):(sk.flatMap (Ag 2)).length=2*sk.length:=by
 induction sk with
 | nil=>rfl
 | cons e es ih=>rw[AeJ,Aeg,ih,Ah,Aei];omega
def Ez(nx:Int)(sk:List Int)(i:Nat):List UInt8:=Ag 4 nx++Ag 1 (sk.length:Int)++(sk.take i).flatMap (Ag 2)
theorem II(nx:Int)(sk:List Int)(h:i<=sk.length):(Ez nx sk i).length=5+2*i:=by
 simp only[Ez,Aeg,Ah,QU,Aez];omega
theorem T0(nx:Int){sk:List Int}(h:sk[i]?=some t):Ez nx sk (i+1)=Ez nx sk i++Ag 2 t:=by
 simp only[Ez,AeM,h,Af2,Option.toList,AeJ,AhD,AeY,Aej]
def Cd(nx:Int)(sk:List Int)(vs:List Vl)(i:Nat):List UInt8:=Ez nx sk sk.length++List.replicate (16-2*sk.length) 0++(vs.take i).flatMap FL
theorem EA(nx:Int){sk:List Int}(hs:sk.length<=8){vs:List Vl}(h:i<=vs.length):(Cd nx sk vs i).length=21+19*i:=by
 simp only[Cd,Aeg,II nx sk (Aek _),Afk,ZY,Aez];omega
theorem T3(nx:Int)(sk:List Int){vs:List Vl}{v:Vl}(h:vs[i]?=some v):Cd nx sk vs (i+1)=Cd nx sk vs i++Ag 4 v.id++Ag 1 v.st++Ag 4 v.sz++Ag 4 v.q++Ag 2 v.r++Ag 4 v.mp:=by
 simp only[Cd,AeM,h,Af2,Option.toList,AeJ,AhD,AeY,Aej,FL]
theorem T4(nx:Int){sk:List Int}(hs:sk.length<=8)(vs:List Vl):AK (Ez nx sk sk.length)=AK (Cd nx sk vs 0):=by
 have h:=II nx sk (Aek _);simp only[Cd,AfG,AhD,AeY,AK,Aej,Aeg,Afk,h];rw[Af8];congr 2;omega
def Dr(nx:Int)(sk:List Int)(vs:List Vl):List UInt8:=((AK (Cd nx sk vs vs.length)).drop 0).take 240
variable{nx:Int}{sk:List Int}{vs:List Vl}
theorem Kt(hs:sk.length<=8)(a:vs.length=8):(Dr nx sk vs).length=240:=by
 have:=AU (l:=Cd nx sk vs vs.length) (by rw[EA nx hs (Aek _),a];omega);unfold Dr;rw[Aez,Aew,this];rfl
theorem G5(hs:sk.length<=8)(h:vs.length=8)(a b c:List UInt8){p:Nat}(e:Cd nx sk vs vs.length=a++b++c)(hp:p=a.length)(g:n=b.length):((Dr nx sk vs).drop p).take n=b:=by
 have d:=EA (i:=vs.length) nx hs (Aek _);have f:a.length+b.length+c.length=173:=by rw[e] at d;simp only[Aeg] at d;omega
 unfold Dr AK;rw[Aew,AfX,AeF,AeG U,e,Aej (a++b)];exact He a b hp g
theorem Lo{α:Type}(f:α->List UInt8){l:List α}{x:α}(h:l[i]?=some x):l.flatMap f=(l.take i).flatMap f++f x++(l.drop (i+1)).flatMap f:=by
 obtain ⟨hi,rfl⟩:=Aed.1 h;have e:l=l.take i++l[i]::l.drop (i+1):=by rw[<-Ae1 hi,AeP]
 have e2:l.flatMap f=(l.take i++l[i]::l.drop (i+1)).flatMap f:=congrArg (λm=>List.flatMap f m) e;rw[e2,Af2,AeJ,Aej]
theorem Wx(hs:sk.length<=8)(a:vs.length=8)(h:0<=nx/\nx<=1073741824):AY (((Dr nx sk vs).drop 0).take 4)=nx:=by
 rw[G5 (p:=0) hs a [] (Ag 4 nx) (Ag 1 (sk.length:Int)++(sk.take sk.length).flatMap (Ag 2)++List.replicate (16-2*sk.length) 0++(vs.take vs.length).flatMap FL) (by simp[Cd,Ez]) Z (Ah 4 _).symm];exact BV h.1 U U
theorem Wy(hs:sk.length<=8)(a:vs.length=8):AY (((Dr nx sk vs).drop 4).take 1)=(sk.length:Int):=by
 rw[G5 hs a (Ag 4 nx) (Ag 1 (sk.length:Int)) ((sk.take sk.length).flatMap (Ag 2)++List.replicate (16-2*sk.length) 0++(vs.take vs.length).flatMap FL) (by simp[Cd,Ez]) (Ah 4 _).symm (Ah 1 _).symm];exact BV U U U
theorem Ach(hs:sk.length<=8)(b:vs.length=8)(h:sk[i]?=some t)(a:0<=t/\t<=1023):AY (((Dr nx sk vs).drop (5+2*i)).take 2)=t:=by
 have hi:=(Aed.1 h).1;rw[G5 hs b (Ag 4 nx++Ag 1 (sk.length:Int)++(sk.take i).flatMap (Ag 2)) (Ag 2 t) ((sk.drop (i+1)).flatMap (Ag 2)++List.replicate (16-2*sk.length) 0++(vs.take vs.length).flatMap FL) (by simp only[Cd,Ez,Ae9];rw[Lo (Ag 2) h];simp only[Aej]) (by simp only[Aeg,Ah,QU,Aez];omega) (Ah 2 _).symm];exact BV a.1 U U
theorem ZZ(hs:sk.length<=8)(a:vs.length=8)(h:i<8-sk.length):AY (((Dr nx sk vs).drop (5+2*sk.length+2*i)).take 2)=0:=by
 have e:List.replicate (16-2*sk.length) (0:UInt8)=List.replicate (2*i) 0++Ag 2 0++List.replicate (16-2*sk.length-2*i-2) 0:=by
  rw[show Ag 2 0=List.replicate 2 (0:UInt8) by decide,Af8,Af8];congr 1;omega
 rw[G5 hs a (Ez nx sk sk.length++List.replicate (2*i) 0) (Ag 2 0) (List.replicate (16-2*sk.length-2*i-2) 0++(vs.take vs.length).flatMap FL) (by simp only[Cd];rw[e];simp only[Aej]) (by simp only[Aeg,II nx sk (Aek _),Afk]) (Ah 2 _).symm];decide
theorem Ib(hs:sk.length<=8)(f:vs.length=8){v:Vl}(h:vs[i]?=some v)(a b c:List UInt8)(e:FL v=a++b++c)(hp:n=21+19*i+a.length)(d:m=b.length):((Dr nx sk vs).drop n).take m=b:=by
 have hi:=(Aed.1 h).1;refine G5 hs f (Cd nx sk vs i++a) b (c++(vs.drop (i+1)).flatMap FL) ?_ (by rw[Aeg,EA nx hs (Nat.le_of_lt hi),hp]) d;simp only[Cd,Ae9];rw[Lo FL h,e];simp only[Aej]
theorem Aci(hs:sk.length<=8)(a:vs.length=8){v:Vl}(h:vs[i]?=some v)(f:v.Fit):AY (((Dr nx sk vs).drop (21+19*i)).take 4)=v.id:=by
 rw[Ib hs a h [] (Ag 4 v.id) (Ag 1 v.st++Ag 4 v.sz++Ag 4 v.q++Ag 2 v.r++Ag 4 v.mp) (by simp[FL]) O (Ah 4 _).symm];have:=f.id;exact BV this.1 U U
theorem Acj(hs:sk.length<=8)(a:vs.length=8){v:Vl}(h:vs[i]?=some v)(f:v.Fit):AY (((Dr nx sk vs).drop (21+19*i+4)).take 1)=v.st:=by
 rw[Ib hs a h (Ag 4 v.id) (Ag 1 v.st) (Ag 4 v.sz++Ag 4 v.q++Ag 2 v.r++Ag 4 v.mp) (by simp[FL]) (by simp[Ah]) (Ah 1 _).symm];have:=f.st;exact BV this.1 U U
theorem Ack(hs:sk.length<=8)(a:vs.length=8){v:Vl}(h:vs[i]?=some v)(f:v.Fit):AY (((Dr nx sk vs).drop (21+19*i+5)).take 4)=v.sz:=by
 rw[Ib hs a h (Ag 4 v.id++Ag 1 v.st) (Ag 4 v.sz) (Ag 4 v.q++Ag 2 v.r++Ag 4 v.mp) (by simp[FL]) (by simp[Ah]) (Ah 4 _).symm];have:=f.sz;exact BV this.1 U U
theorem Adk(hs:sk.length<=8)(a:vs.length=8){v:Vl}(h:vs[i]?=some v)(f:v.Fit):AY (((Dr nx sk vs).drop (21+19*i+9)).take 4)=v.q:=by
 rw[Ib hs a h (Ag 4 v.id++Ag 1 v.st++Ag 4 v.sz) (Ag 4 v.q) (Ag 2 v.r++Ag 4 v.mp) (by simp[FL]) (by simp[Ah]) (Ah 4 _).symm];have:=f.q;exact BV this.1 U U
theorem Adl(hs:sk.length<=8)(a:vs.length=8){v:Vl}(h:vs[i]?=some v)(f:v.Fit):AY (((Dr nx sk vs).drop (21+19*i+13)).take 2)=v.r:=by
 rw[Ib hs a h (Ag 4 v.id++Ag 1 v.st++Ag 4 v.sz++Ag 4 v.q) (Ag 2 v.r) (Ag 4 v.mp) (by simp[FL]) (by simp[Ah]) (Ah 2 _).symm];have:=f.r;exact BV this.1 U U
theorem Acl(hs:sk.length<=8)(a:vs.length=8){v:Vl}(h:vs[i]?=some v)(f:v.Fit):AY (((Dr nx sk vs).drop (21+19*i+15)).take 4)=v.mp:=by
 rw[Ib hs a h (Ag 4 v.id++Ag 1 v.st++Ag 4 v.sz++Ag 4 v.q++Ag 2 v.r) (Ag 4 v.mp) [] (by simp[FL]) (by simp[Ah]) (Ah 4 _).symm];have:=f.mp;exact BV this.1 U U
theorem O7(hs:sk.length<=8)(b:vs.length=8):rz (((Dr nx sk vs).drop 173).take 67)=0:=by
 have a:=EA (i:=vs.length) nx hs (vs:=vs) (Aek _);rw[b] at a;unfold Dr AK;rw[Aew,AfX,AeF,b,show (173:Nat)=(Cd nx sk vs 8).length by rw[a],AfT Z];refine LT.2 (λx c=>?_);have:=Afh c;exact (Af4.1 this).2
end
end Go.Proofs.YtemljpjnhjnncaaGreatDoor
