/-
  Steps to: Law VolumesIsolated: what is written to one volume is read in no other one. No condition.
-/
import Derived.Test.YtemljpjnhjnncaaGreatDoorPart3
set_option maxRecDepth 100000
set_option linter.unusedSimpArgs false
set_option linter.unusedVariables false
open Go.Proofs.Tryz
namespace Go.Proofs.YtemljpjnhjnncaaGreatDoor
open Go.RowKit
variable{n m i j e g r:Nat}{t s p q:Int}{V:List Value}{B S:List UInt8}{T:TypeId}{L:List (Nat×Value)}{v u y:Value}{z:World}{l:List Int}{R:List Nat}{N:Act->World->Prop}{b c:Bool}{x:Operand}{o:List Oper}{K:Value->World->Prop}{C:Nat->Nat}{P:Program}{F:Nat->Bool}{a:Act}
variable{Γ:List Ai}{h:Hp}{A:Ai}
variable{D:Dsk}
theorem I3{kv1 vv1:Value}(a k:List Int){B1:Ai}(f:∀h,A h->rdH 1 kv1 a.length (a.map I) h)(n:∀h,B1 h->rdH 1 vv1 k.length (k.map I) h){kv2 vv2:Value}(c i:List Int){A2 B2:Ai}(d:∀h,A2 h->rdH 1 kv2 c.length (c.map I) h)(l:∀h,B2 h->rdH 1 vv2 i.length (i.map I) h)(e:CkN b a k)(g:CkN b c i)(s:∀x y:Int,a[a.length-1]?=some x->c[0]?=some y->x<y):Cn prog 247 [.agg #[.bool b,kv1,vv1],.agg #[.bool b,kv2,vv2]] [A,B1,A2,B2] (λv Γ=>v=.bool true/\Γ=[A,B1,A2,B2]):=by
 intro z R w H;obtain ⟨b7,b4,rfl⟩:=H.sy 0 (λq=>(f _ q).slc);obtain ⟨b5,b0,rfl⟩:=H.sy 1 (λq=>(n _ q).slc);have a6:=H.sy 0 (λq=>(f _ q).slcap);have t:=H.sy 1 (λq=>(n _ q).slcap);obtain ⟨b8,b3,rfl⟩:=H.sy 2 (λq=>(d _ q).slc);obtain ⟨b9,b6,rfl⟩:=H.sy 3 (λq=>(l _ q).slc);have a4:=H.sy 2 (λq=>(d _ q).slcap);have a1:=H.sy 3 (λq=>(l _ q).slcap);have a0:=e.len;have a8:=e.l8;have a3:=g.len;have a9:=g.l8;refine Ae func247 Z ntmps247 Z (Za 2 [] H Z ?_);intro b1 w H;refine Za 0 [] H Z ?_;intro b2 w H;refine Z2 7 [1,3] H Z (z_E_ Z (call177 _) (CT a k f n e) H.f3.f3 ?_);intro w H;refine Z2 3 [4,2,3] H Z (z_E_ Z (call177 _) (CT c i d l g) H.f5.f5 ?_);intro w H;refine Z2 7 [4,0,5,0,0,4,0] H Z (Ab Z (Nq Z J Z Z) (Zc 3 Z (Af Z (λh1=>?_) (λh1=>?_))))
 ·exact absurd Z h1
 refine Zc 3 Z (Bv (Sep z _) J J H.drew (GF 5 [1,5,0,0] [] Z J (Cd 24 Z (λh2=>?_) (λh2=>?_))))
 ·refine B0 21 [] Z J (BI (λw p=>?_));have H:=p.l6;refine gn (Zc 2 Z (Zr Z ?_));exact ⟨_,⟨Z,Z⟩,H.perm 6 [2,3,0,1] Z Z⟩
 refine GF 6 [1,4,0,0] [] Z J (Cd 30 Z (λh3=>?_) (λh3=>?_))
 ·refine B0 15 [] Z J (BI (λw p=>?_));have H:=p.l6;refine gn (Zc 2 Z (Zr Z ?_));exact ⟨_,⟨Z,Z⟩,H.perm 6 [2,3,0,1] Z Z⟩
 obtain ⟨x,o⟩:∃x,a[a.length-1]?=some x:=⟨_,Aed U⟩;obtain ⟨y,hy⟩:∃y,c[0]?=some y:=⟨_,Aed U⟩;have a5:=s x y o hy;have a7:=(H.rd 2 Z f).at (j:=a.length-1) (u:=I x) (by simp[o]);have a2:=(H.rd 0 Z d).at (j:=0) (u:=I y) (by simp[hy]);refine G4 6 [1,5,0,1,5,0] [(a.length:Int)-1] Z J U (AL Z Z Z (Aj Z (z:=1) (j:=(a.length-1)) (r:=(a.length-1)) J Z Z U U a7 U) (AL Z Z Z (Ax Z Z J (λ_ m=>(m.rd 2 Z f).at (j:=a.length-1) (u:=I x) (by simp[o]))) (DZ 2 [1,0] (λ_ o=>(AO (o.blk 4 Z) AM)) Z J Z (AL Z Z Z (Aj Z (z:=1) (j:=0) (r:=0) J Z Z Z U a2 U) (AL Z Z Z (Ax Z Z J (λ_ m=>(m.rd 0 Z d).at (j:=0) (u:=I y) (by simp[hy]))) (B0 3 [] Z J (BI (λw p=>?_))))))));have H:=p.l6;refine gn (Zc 2 Z (Zr Z ?_));exact ⟨_,⟨congrArg Value.bool (decide_eq_true a5),Z⟩,H.perm 6 [2,3,0,1] Z Z⟩
theorem We(d:Bool)(kv1 vv1:Value){c:List Int}(A1 B1:Ai)(j:∀h,A1 h->rdH 1 kv1 l.length (l.map I) h)(k:∀h,B1 h->rdH 1 vv1 c.length (c.map I) h)(kv2 vv2:Value){a b:List Int}(A2 B2:Ai)(g:∀h,A2 h->rdH 1 kv2 a.length (a.map I) h)(i:∀h,B2 h->rdH 1 vv2 b.length (b.map I) h)(e:CkN d l c)(f:CkN d a b)(n:∀x y:Int,l[l.length-1]?=some x->a[0]?=some y->x<y)(h8:l.length+a.length<=8)(m vs:List Int)(hk:l++a=m)(hv:c++b=vs):Cn prog 222 [.agg #[.bool d,kv1,vv1],.agg #[.bool d,kv2,vv2]] [A1,B1,A2,B2] (λv Γ=>∃v1 v2:Value,v=.tuple #[.agg #[.bool d,v1,v2],I 0]/\Γ=[grow 3 1 v1 m.length (m.map I),grow 3 1 v2 vs.length (vs.map I),A1,B1,A2,B2]):=by
 intro z R w H;obtain ⟨b8,b0,rfl⟩:=H.sy 0 (λq=>(j _ q).slc);obtain ⟨b4,a8,rfl⟩:=H.sy 1 (λq=>(k _ q).slc);have a2:=H.sy 0 (λq=>(j _ q).slcap);have o:=H.sy 1 (λq=>(k _ q).slcap);obtain ⟨b6,a9,rfl⟩:=H.sy 2 (λq=>(g _ q).slc);obtain ⟨b7,b5,rfl⟩:=H.sy 3 (λq=>(i _ q).slc);have a0:=H.sy 2 (λq=>(g _ q).slcap);have r:=H.sy 3 (λq=>(i _ q).slcap);have p:=e.len;have a6:=e.l8;have t:=f.len;have a7:=f.l8;refine Ae func222 Z ntmps222 Z (Za 2 [] H Z ?_);intro b1 w H;refine Za 0 [] H Z ?_;intro b2 w H;refine Za 0 [] H Z ?_;intro b3 w H;refine Z2 9 [2,3,1,3] H Z (z_E_ Z (call247 _) (I3 l c j k a b g i e f n) H.f6.f6.f6.f6 ?_);intro w H;refine Z3 18 [1,6,0,1,5,0,0] [(l.length:Int)+(a.length:Int)] H Z U (Af Z (λh1=>U) (λh1=>?_));refine Z2 7 [6,3,5,3] H Z (Aq Z (call220 _) (Fk l c j k a b g i U U U U m vs hk hv) H ?_);rintro _ w _ ⟨v4,v5,rfl,rfl⟩ H;have s:=H.sy 0 (·.slc);obtain ⟨a4,a3,rfl⟩:=s;have a1:=H.sy 1 (·.slc);obtain ⟨u,a5,rfl⟩:=a1;refine Z4 5 [6] H Z ?_;intro w H;refine Zl [6,3] H Z ?_;exact ⟨_,⟨.slice a4 m.length a3,.slice u vs.length a5,Z,Z⟩,H.perm 9 [0,1,2,3,4,5] Z Z⟩
theorem Wf(f:Bool)(kv1 vv1:Value){e:List Int}(A1 B1:Ai)(j:∀h,A1 h->rdH 1 kv1 l.length (l.map I) h)(k:∀h,B1 h->rdH 1 vv1 e.length (e.map I) h)(kv2 vv2:Value){a d:List Int}(A2 B2:Ai)(g:∀h,A2 h->rdH 1 kv2 a.length (a.map I) h)(i:∀h,B2 h->rdH 1 vv2 d.length (d.map I) h)(b:CkN f l e)(c:CkN f a d)(m:∀x y:Int,l[l.length-1]?=some x->a[0]?=some y->x<y)(h8:8<l.length+a.length):Cn prog 222 [.agg #[.bool f,kv1,vv1],.agg #[.bool f,kv2,vv2]] [A1,B1,A2,B2] (λv Γ=>v=.tuple #[.agg #[.bool false,.slice none 0 0,.slice none 0 0],I 15]/\Γ=[A1,B1,A2,B2]):=by
 intro z R w H;obtain ⟨a8,a3,rfl⟩:=H.sy 0 (λq=>(j _ q).slc);obtain ⟨a4,a1,rfl⟩:=H.sy 1 (λq=>(k _ q).slc);have t:=H.sy 0 (λq=>(j _ q).slcap);have n:=H.sy 1 (λq=>(k _ q).slcap);obtain ⟨a6,a2,rfl⟩:=H.sy 2 (λq=>(g _ q).slc);obtain ⟨a7,a5,rfl⟩:=H.sy 3 (λq=>(i _ q).slc);have s:=H.sy 2 (λq=>(g _ q).slcap);have p:=H.sy 3 (λq=>(i _ q).slcap);have o:=b.len;have u:=b.l8;have r:=c.len;have a0:=c.l8;refine Ae func222 Z ntmps222 Z (Za 2 [] H Z ?_);intro b1 w H;refine Za 0 [] H Z ?_;intro b2 w H;refine Za 0 [] H Z ?_;intro b3 w H;refine Z2 9 [2,3,1,3] H Z (z_E_ Z (call247 _) (I3 l e j k a d g i b c m) H.f6.f6.f6.f6 ?_);intro w H;refine Z3 18 [1,6,0,1,5,0,0] [(l.length:Int)+(a.length:Int)] H Z U (Af Z (λh1=>?_) (λh1=>?_))
 ·refine Z4 8 [4] H Z ?_;intro w H;refine Zl [4,3] H Z ?_;exact ⟨_,⟨Z,Z⟩,H.perm 7 [0,1,2,3] Z Z⟩
 (exfalso;omega)
theorem Wg(a:Bool)(kv1 vv1:Value){g:List Int}(A1 B1:Ai)(a1:∀h,A1 h->rdH 1 kv1 l.length (l.map I) h)(a3:∀h,B1 h->rdH 1 vv1 g.length (g.map I) h)(kv2 vv2:Value){b i:List Int}(A2 B2:Ai)(a0:∀h,A2 h->rdH 1 kv2 b.length (b.map I) h)(a2:∀h,B2 h->rdH 1 vv2 i.length (i.map I) h)(u:CkN a l g)(t:CkN a b i)(a8:∀x y:Int,l[l.length-1]?=some x->b[0]?=some y->x<y)(d6:2<=l.length+b.length)(ks vs:List Int)(hk:l++b=ks)(hv:g++i=vs)(d e f c:List Int)(b0:ks.take ((ks.length+1)/2)=d)(c6:vs.take ((ks.length+1)/2)=e)(b9:ks.drop ((ks.length+1)/2)=f)(b6:vs.drop ((ks.length+1)/2)=c):Cn prog 223 [.agg #[.bool a,kv1,vv1],.agg #[.bool a,kv2,vv2]] [A1,B1,A2,B2] (λv Γ=>∃v1 v2 v3 v4:Value,v=.tuple #[.agg #[.bool a,v1,v2],.agg #[.bool a,v3,v4],I 0]/\Γ=[grow 3 1 v1 d.length (d.map I),grow 3 1 v2 e.length (e.map I),grow 3 1 v3 f.length (f.map I),grow 3 1 v4 c.length (c.map I),A1,B1,A2,B2]):=by
 intro z R w H;replace H:=H.l4;obtain ⟨e7,d3,rfl⟩:=H.sy 0 (λq=>(a1 _ q).slc);obtain ⟨d4,d0,rfl⟩:=H.sy 1 (λq=>(a3 _ q).slc);have b5:=H.sy 0 (λq=>(a1 _ q).slcap);have c1:=H.sy 1 (λq=>(a3 _ q).slcap);obtain ⟨e5,d2,rfl⟩:=H.sy 2 (λq=>(a0 _ q).slc);obtain ⟨e1,e0,rfl⟩:=H.sy 3 (λq=>(a2 _ q).slc);have c4:=H.sy 2 (λq=>(a0 _ q).slcap);have a9:=H.sy 3 (λq=>(a2 _ q).slcap);have c2:=u.len;have c8:=u.l8;have c3:=t.len;have c9:=t.l8;have d1:ks.length=l.length+b.length:=by rw[<-hk,Aee]
 have e3:vs.length=g.length+i.length:=by rw[<-hv,Aee]
 refine Ae func223 Z ntmps223 Z (Za 2 [] H Z ?_);intro b1 w H;refine Za 0 [] H Z ?_;intro b2 w H;refine Za 0 [] H Z ?_;intro b3 w H;refine Za 0 [] H Z ?_;intro b4 w H;refine Z2 8 [3,3,2,3] H Z (z_E_ Z (call247 _) (I3 l g a1 a3 b i a0 a2 u t a8) H.f7.f7.f7.f7 ?_);intro w H;refine Z3 13 [1,7,0,1,6,0,0] [(l.length:Int)+(b.length:Int)] H Z U (Af Z (λh1=>U) (λh1=>?_));refine Z2 6 [7,3,6,3] H Z (Aq Z (call220 _) (Fk l g a1 a3 b i a0 a2 U U U U ks vs hk hv) H ?_);rintro _ w _ ⟨v5,v6,rfl,rfl⟩ H;replace H:=H.l10;have c5:=H.sy 0 (·.slc);obtain ⟨e2,d8,rfl⟩:=c5;have c0:=H.sy 1 (·.slc);obtain ⟨e6,c7,rfl⟩:=c0;refine Aq Z (call246 _) (ML ks vs (λh q=>q.rd) (λh q=>q.rd) U U d e f c b0 c6 b9 b6) H ?_;rintro _ w _ ⟨d9,d7,e4,d5,rfl,rfl⟩ H;replace H:=H.l14;have a6:=H.sy 0 (·.slc);obtain ⟨j,o,rfl⟩:=a6;have a7:=H.sy 1 (·.slc);obtain ⟨r,p,rfl⟩:=a7;have a5:=H.sy 2 (·.slc);obtain ⟨k,m,rfl⟩:=a5;have a4:=H.sy 3 (·.slc);obtain ⟨n,s,rfl⟩:=a4;refine Za 3 [] H Z ?_;intro b8 w H;refine Za 0 [] H Z ?_;intro b7 w H;refine Z4 5 [1,0] H Z ?_;intro w H;replace H:=(H.pick 16 [1,0,2,3,4,5,6,7,8,9,10,11,12,13,14,15] Z).l16;refine AN (Sep z (blk b8 [.bool a,.slice j d.length o,.slice r e.length p] 201::blk b7 [.bool a,.slice k f.length m,.slice n c.length s] 201::R)) 5 Z J (AZ H λw H'=>?_);have H:=H'.l16;refine AT [0,1] [0,3,1,3] [] (by exact H.pick 16 [0,1] Z) Z J Z (AC [2] J O (Am (Bi Z Z Z (Ak 13 H Z Z Z Z (vs:=[.bool a,.slice j d.length o,.slice r e.length p]) Z (by simp[u8,u32,Value.oneCell']) J O (out:=[.bool a,.slice j d.length o,.slice r e.length p]) Z) ?_)));rintro w H;replace H:=H.l16;refine Av (H.pick 16 [0,1] Z) (AC [3] J O (Am (Bi Z Z Z (Ak 12 H Z Z Z Z (vs:=[.bool a,.slice k f.length m,.slice n c.length s]) Z (by simp[u8,u32,Value.oneCell']) J O (out:=[.bool a,.slice k f.length m,.slice n c.length s]) Z) ?_)));rintro w H;replace H:=H.l16;refine Av (H.pick 16 [0,1] Z) (AT [4] [] [] (by exact H.pick 16 [0,1] Z) Z J Z (a_done J (gn (Zc 2 Z (Zl [13,3,12,3] H Z ?_)))));exact ⟨_,⟨.slice j d.length o,.slice r e.length p,.slice k f.length m,.slice n c.length s,Z,Z⟩,H.perm 16 [2,3,4,5,8,9,10,11] Z Z⟩
section
abbrev E:=Int×Nat
structure Nd where
 lf:Bool
 es:List E
inductive Pc where
 | nd (d:Nd)
 | dt (b:List UInt8)
abbrev Hm:=Nat->Option Pc
def Srt(es:List E):Prop:=es.Pairwise (λa b=>a.1<b.1)
structure Nd.Ok(d:Nd):Prop where
 srt:Srt d.es
 len:d.es.length<=8
 key:∀e∈d.es,0<=e.1/\e.1<1048576
 ne:d.lf=false->d.es≠[]
def vals(es:List E):List Nat:=es.map Prod.snd
def EM(o:Option Pc)(p:Nat):Nat:=
 match o with
 | some (.nd d)=>(vals d.es).count p
 | _=>0
def FC(N:Hm)(p:Nat):Nat->Nat
 | 0=>0
 | n+1=>FC N p n+EM (N n) p
theorem QG(N:Hm)(p a:Nat)(o:Option Pc):∀n,n<=a->FC (fup N a o) p n=FC N p n
 | 0,_=>rfl
 | n+1,h=>by simp only[FC];rw[QG N p a o n U,fup_ne _ _ U]
theorem FU(N:Hm)(p a:Nat)(o:Option Pc):∀n,a<n->FC (fup N a o) p n+EM (N a) p=FC N p n+EM o p
 | n+1,h=>by
  simp only[FC];rcases Aeq a n with q|q
  ·have:=FU N p a o n q
   rw[fup_ne _ _ U];omega
  obtain rfl:a=n:=by omega
  rw[QG N p a o a (Aei _),BK];omega
theorem LV(N:Hm)(p q:Nat):∀n,q<n->EM (N q) p<=FC N p n
 | n+1,h=>by
  simp only[FC];rcases Aeq q n with r|r
  ·have:=LV N p q n r;omega
  obtain rfl:q=n:=by omega
  omega
theorem QH(N:Hm)(p:Nat)(h:∀q,EM (N q) p<=1):∀n,FC N p n<=n
 | 0=>Aei _
 | n+1=>by have:=QH N p h n;have:=h n;simp only[FC];omega
theorem OJ{d:Nd}:0<EM (some (.nd d)) m↔m∈vals d.es:=Agv

def nx:List E->Int->Int
 | [],hi=>hi
 | e::_,_=>e.1
def Sq(P:Nat->Int->Int->List E->Prop):List E->Int->List E->Prop
 | [],_,L=>L=[]
 | e::t,hi,L=>∃L1 L2,L=L1++L2/\P e.2 e.1 (nx t hi) L1/\Sq P t hi L2
def Tr(N:Hm):Nat->Nat->Int->Int->Nat->List E->Prop
 | 0,r,lo,hi,m,L=>∃es,N r=some (.nd ⟨true,es⟩)/\m<=es.length/\(∀e∈es,lo<=e.1/\e.1<hi)/\(Nd.mk true es).Ok/\L=es/\∀e∈es,∃b,N e.2=some (.dt b)
 | h+1,r,lo,hi,m,L=>∃es,N r=some (.nd ⟨false,es⟩)/\m<=es.length/\(∀e∈es,lo<=e.1/\e.1<hi)/\(Nd.mk false es).Ok/\Sq (λc a b L=>Tr N h c a b 4 L) es hi L
def Bd(N:Hm):Nat->List E->Int->List E->Prop
 | 0,es,_,L=>L=es/\∀e∈es,∃b,N e.2=some (.dt b)
 | h+1,es,hi,L=>Sq (λc a b L=>Tr N h c a b 4 L) es hi L
def B3(lo hi:Int)(es:List E):Prop:=∀e∈es,lo<=e.1/\e.1<hi
theorem Tr.iff{N:Hm}{h:Nat}{lo hi:Int}{L:List E}:Tr N h r lo hi m L↔∃es,N r=some (.nd ⟨decide (h=0),es⟩)/\m<=es.length/\B3 lo hi es/\(Nd.mk (decide (h=0)) es).Ok/\Bd N h es hi L:=by
 cases h<;>exact Ahu
structure TInv(n f:Nat)(N:Hm)(C:Nat->Nat)(R:List Nat):Prop where
 cnt:∀p,f<=p->p<n->C p=R.count p+FC N p n
 rin:∀p∈R,f<=p/\p<n
 nin:∀q c,N q=some c->f<=q/\q<n/\1<=C q
 nds:∀q d,N q=some (.nd d)->d.Ok/\(vals d.es).Nodup/\∀v∈vals d.es,f<=v/\v<n
 hg:∀q d,N q=some (.nd d)->∃h lo hi m L,Tr N h q lo hi m L
theorem Sq.imp{P Q:Nat->Int->Int->List E->Prop}{es:List E}{hi:Int}{L:List E}(h:Sq P es hi L)(a:∀e∈es,∀b L,P e.2 e.1 b L->Q e.2 e.1 b L):Sq Q es hi L:=by
 induction es generalizing L with
 | nil=>exact h
 | cons e t ih=>
  obtain ⟨L1,L2,d,g,i⟩:=h;exact ⟨L1,L2,d,a e O _ _ g,ih i (λf c=>a f (by simp[c]))⟩
theorem Tr.mono{N:Hm}{h:Nat}{lo hi:Int}{L:List E}(t:Tr N h r lo hi m L)(o:s<=lo)(l:hi<=p)(n:i<=m):Tr N h r s p i L:=by
 induction h generalizing r lo hi s p m i L with
 | zero=>
  obtain ⟨es,a,b,c,d,e⟩:=t;exact ⟨es,a,by omega,λx f=>by have:=c x f;omega,d,e⟩
 | succ h ih=>
  obtain ⟨es,a,b,c,d,e⟩:=t;refine ⟨es,a,by omega,λx f=>by have:=c x f;omega,d,?_⟩;clear a b c d
  induction es generalizing L with
  | nil=>exact e
  | cons x t ih2=>
   obtain ⟨L1,L2,g,j,k⟩:=e;refine ⟨L1,L2,g,?_,ih2 k⟩;refine ih j (Afm _) ?_ (Aei _);cases t<;>simp[nx,l]
theorem Tr.fup{N:Hm}{a:Nat}{o:Option Pc}(g:∀q d,N q=some (.nd d)->a∉vals d.es){h c:Nat}{lo hi:Int}{m:Nat}{L:List E}(j:c≠a)(t:Tr N h c lo hi m L):Tr (fup N a o) h c lo hi m L:=by
 induction h generalizing c lo hi m L with
 | zero=>
  obtain ⟨es,f,b,c',d,e1,e⟩:=t;refine ⟨es,by rw[fup_ne _ _ j];exact f,b,c',d,e1,λx i=>?_⟩;rw[fup_ne _ _ (λq=>g _ _ f (by rw[<-q];exact Aez i))];exact e x i
 | succ h ih=>
  obtain ⟨es,f,b,c',d,e⟩:=t;refine ⟨es,by rw[fup_ne _ _ j];exact f,b,c',d,e.imp λx i b L q=>ih (λk=>g _ _ f (by rw[<-k];exact Aez i)) q⟩
theorem Tr.node{N:Hm}{h:Nat}{lo hi:Int}{L:List E}(t:Tr N h r lo hi m L):∃d,N r=some (.nd d):=by
 obtain ⟨es,a,_⟩:=Tr.iff.1 t;exact ⟨_,a⟩

section
variable{n f:Nat}{N:Hm}{C:Nat->Nat}{R:List Nat}
theorem TInv.perm{R':List Nat}(I_:TInv n f N C R)(h:R.Perm R'):TInv n f N C R':=
 ⟨λp a b=>by rw[<-h.count_eq];exact I_.cnt p a b,λp hp=>I_.rin p (h.mem_iff.2 hp),I_.nin,I_.nds,I_.hg⟩
theorem TInv.pos(I_:TInv n f N C R){p:Nat}(h:p∈R):1<=C p:=by
 have:=I_.cnt p (I_.rin p h).1 (I_.rin p h).2;have:=Agv.2 h;omega
theorem TInv.posE(I_:TInv n f N C R){q p:Nat}{d:Nd}(h:N q=some (.nd d))(hp:p∈vals d.es):1<=C p:=by
 have hi:=(I_.nds q d h).2.2 p hp;have:=I_.cnt p hi.1 hi.2;have a:0<EM (N q) p:=by rw[h];exact OJ.2 hp
 have:=LV N p q n (I_.nin q _ h).2.1;omega
theorem TInv.noref(I_:TInv n f N C R){a:Nat}(h:C a<=R.count a){q:Nat}{d:Nd}(hq:N q=some (.nd d)):a∉vals d.es:=λb=>by
 have hi:=(I_.nds q d hq).2.2 a b;have:=I_.cnt a hi.1 hi.2;have c:0<EM (N q) a:=by rw[hq];exact OJ.2 b
 have:=LV N a q n (I_.nin q _ hq).2.1;omega
theorem TInv.bound(I_:TInv n f N C R){p:Nat}(b:f<=p)(c:p<n):C p<=R.length+n:=by
 rw[I_.cnt p b c];have g:=List.count_le_length (a:=p) (l:=R);have h:=QH N p (λq=>by
  unfold EM;split
  ·rename_i d e
   exact List.nodup_iff_count.1 (I_.nds q d e).2.1 p
  omega) n
 omega
theorem TInv.opens{a:Nat}{d:Nd}(I_:TInv n f N C (a::R))(k:C a=1)(hN:N a=some (.nd d)):TInv n f (fup N a none) C (a::(vals d.es++R))/\∀q d,N q=some (.nd d)->a∉vals d.es:=by
  have b:∀q d,N q=some (.nd d)->a∉vals d.es:=λq d hq=>I_.noref (by simp[k]) hq;refine ⟨⟨λp i g=>?_,λp hp=>?_,λq c hq=>?_,λq c hq=>?_,λq c hq=>?_⟩,b⟩
  · have:=I_.cnt p i g
    have j:=FU N p a none n (I_.nin a _ hN).2.1;rw[hN] at j;simp only[Afc,Afr] at this ⊢;simp only[EM] at j;omega
  · rcases Aen.1 hp with rfl|hp
    · exact I_.rin _ O
    · rcases Aep.1 hp with hp|hp
      · exact (I_.nds a d hN).2.2 p hp
      · exact I_.rin _ (by simp[hp])
  all_goals
    by_cases e:q=a
    · subst e;rw[BK] at hq;cases hq
    · rw[fup_ne _ _ e] at hq
      first
        | exact I_.nin q c hq
        | exact I_.nds q c hq
        | (obtain ⟨h,lo,hi,m,L,t⟩:=I_.hg q c hq
           exact ⟨h,lo,hi,m,L,t.fup b e⟩)
theorem TInv.close{a:Nat}{d:Nd}(I_:TInv n f N C (a::(vals d.es++R)))(u:C a=1)(hN:N a=none)(r:d.Ok)(b:(vals d.es).Nodup)
    (o:∃h lo hi m L,Tr (fup N a (some (.nd d))) h a lo hi m L):TInv n f (fup N a (some (.nd d))) C (a::R)/\∀q d,N q=some (.nd d)->a∉vals d.es:=by
  have g:∀q d,N q=some (.nd d)->a∉vals d.es:=λq d hq=>I_.noref (by simp;omega) hq;have i:=I_.rin a O;refine ⟨⟨λp k j=>?_,λp hp=>?_,λq c hq=>?_,λq c hq=>?_,λq c hq=>?_⟩,g⟩
  · have:=I_.cnt p k j
    have l:=FU N p a (some (.nd d)) n i.2;rw[hN] at l;simp only[Afc,Afr] at this ⊢;simp only[EM] at l;omega
  · rcases Aen.1 hp with rfl|hp
    · exact i
    · exact I_.rin _ (by simp[hp])
  all_goals
    by_cases e:q=a
    · subst e;rw[BK] at hq;cases hq
      first
        | exact ⟨i.1,i.2,by omega⟩
        | exact ⟨r,b,λv s=>I_.rin v (by simp[s])⟩
        | exact o
    · rw[fup_ne _ _ e] at hq
      first
        | exact I_.nin q c hq
        | exact I_.nds q c hq
        | (obtain ⟨h,lo,hi,m,L,t⟩:=I_.hg q c hq
           exact ⟨h,lo,hi,m,L,t.fup g e⟩)
theorem TInv.fresh{a:Nat}{d:Nd}(I_:TInv n f N C (vals d.es++R))(w:C a=0)(b:f<=a/\a<n)(r:d.Ok)(g:(vals d.es).Nodup)
    (o:∃h lo hi m L,Tr (fup N a (some (.nd d))) h a lo hi m L):N a=none/\TInv n f (fup N a (some (.nd d))) (fup C a 1) (a::R)/\∀q d,N q=some (.nd d)->a∉vals d.es:=by
  have hN:N a=none:=by
    cases e:N a with
    | none=>rfl
    | some c=>have:=(I_.nin a c e).2.2;omega
  have i:∀q d,N q=some (.nd d)->a∉vals d.es:=λq d hq=>I_.noref U hq;have s:=I_.cnt a b.1 b.2;refine ⟨hN,⟨λp k j=>?_,λp hp=>?_,λq c hq=>?_,λq c hq=>?_,λq c hq=>?_⟩,i⟩
  · have:=I_.cnt p k j
    have l:=FU N p a (some (.nd d)) n b.2;rw[hN] at l;simp only[Afc,Afr] at this s ⊢;simp only[EM] at l;by_cases e:p=a
    · subst e;rw[BK];simp;omega
    · rw[fup_ne _ _ e];have:(a==p)=false:=by simp[AfS e]
      rw[this];simp;omega
  · rcases Aen.1 hp with rfl|hp
    · exact b
    · exact I_.rin _ (by simp[hp])
  all_goals
    by_cases e:q=a
    · subst e;rw[BK] at hq;cases hq
      first
        | exact ⟨b.1,b.2,by simp[fup]⟩
        | exact ⟨r,g,λv u=>I_.rin v (by simp[u])⟩
        | exact o
    · rw[fup_ne _ _ e] at hq
      first
        | (rw[fup_ne _ _ e];exact I_.nin q c hq)
        | exact I_.nds q c hq
        | (obtain ⟨h,lo,hi,m,L,t⟩:=I_.hg q c hq
           exact ⟨h,lo,hi,m,L,t.fup i e⟩)
theorem TInv.freshD{a:Nat}{b:List UInt8}(I_:TInv n f N C R)(r:C a=0)(g:f<=a/\a<n):N a=none/\TInv n f (fup N a (some (.dt b))) (fup C a 1) (a::R)/\∀q d,N q=some (.nd d)->a∉vals d.es:=by
  have hN:N a=none:=by
    cases e:N a with
    | none=>rfl
    | some c=>have:=(I_.nin a c e).2.2;omega
  have i:∀q d,N q=some (.nd d)->a∉vals d.es:=λq d hq=>I_.noref U hq;have o:=I_.cnt a g.1 g.2;refine ⟨hN,⟨λp k j=>?_,λp hp=>?_,λq c hq=>?_,λq c hq=>?_,λq c hq=>?_⟩,i⟩
  · have:=I_.cnt p k j
    have l:=FU N p a (some (.dt b)) n g.2;rw[hN] at l;simp only[Afc] at this o ⊢;simp only[EM] at l;by_cases e:p=a
    · subst e;rw[BK];simp;omega
    · rw[fup_ne _ _ e];have:(a==p)=false:=by simp[AfS e]
      rw[this];simp;omega
  · rcases Aen.1 hp with rfl|hp
    · exact g
    · exact I_.rin _ hp
  all_goals
    by_cases e:q=a
    · subst e;rw[BK] at hq;cases hq<;>exact ⟨g.1,g.2,by simp[fup]⟩
    · rw[fup_ne _ _ e] at hq
      first
        | (rw[fup_ne _ _ e];exact I_.nin q c hq)
        | exact I_.nds q c hq
        | (obtain ⟨h,lo,hi,m,L,t⟩:=I_.hg q c hq
           exact ⟨h,lo,hi,m,L,t.fup i e⟩)
theorem TInv.ref{a:Nat}(I_:TInv n f N C R)(g:f<=a/\a<n):TInv n f N (fup C a (C a+1)) (a::R):=by
 refine ⟨λp d b=>?_,λp hp=>?_,λq c hq=>?_,I_.nds,I_.hg⟩
 ·have:=I_.cnt p d b
  simp only[Afc];by_cases e:p=a
  ·subst e;rw[BK];simp;omega
  rw[fup_ne _ _ e];have:(a==p)=false:=by simp[AfS e]
  rw[this];simp;omega
 ·rcases Aen.1 hp with rfl|hp
  ·exact g
  exact I_.rin _ hp
 have:=I_.nin q c hq;refine ⟨this.1,this.2.1,?_⟩;unfold fup;split<;>omega
theorem TInv.unref{a:Nat}(I_:TInv n f N C (a::R))(h:2<=C a):TInv n f N (fup C a (C a-1)) R:=by
 refine ⟨λp d b=>?_,λp hp=>I_.rin p (by simp[hp]),λq c hq=>?_,I_.nds,I_.hg⟩
 ·have:=I_.cnt p d b
  simp only[Afc] at this;by_cases e:p=a
  ·subst e;rw[BK];simp at this;omega
  rw[fup_ne _ _ e];have g:(a==p)=false:=by simp[AfS e]
  rw[g] at this;simpa using this
 have:=I_.nin q c hq;refine ⟨this.1,this.2.1,?_⟩;unfold fup;split<;>omega
theorem TInv.drop{a:Nat}(I_:TInv n f N C (a::R))(h:C a=1)(hN:∀d,N a≠some (.nd d)):TInv n f (fup N a none) (fup C a 0) R/\∀q d,N q=some (.nd d)->a∉vals d.es:=by
  have b:∀q d,N q=some (.nd d)->a∉vals d.es:=λq d hq=>I_.noref (by simp[h]) hq;have k:=I_.rin a O;have o:∀p,EM (N a) p=0:=λp=>by
    unfold EM;split
    · rename_i d l;exact absurd l (hN d)
    · rfl
  refine ⟨⟨λp i g=>?_,λp hp=>I_.rin p (by simp[hp]),λq c hq=>?_,λq c hq=>?_,λq c hq=>?_⟩,b⟩
  · have:=I_.cnt p i g
    have j:=FU N p a none n k.2;rw[o p] at j;simp only[EM] at j;simp only[Afc] at this;by_cases e:p=a
    · subst e;rw[BK];simp at this;omega
    · rw[fup_ne _ _ e];have r:(a==p)=false:=by simp[AfS e]
      rw[r] at this;simp at this;omega
  all_goals
    by_cases e:q=a
    · subst e;rw[BK] at hq;cases hq
    · rw[fup_ne _ _ e] at hq
      first
        | (rw[fup_ne _ _ e];exact I_.nin q c hq)
        | exact I_.nds q c hq
        | (obtain ⟨h,lo,hi,m,L,t⟩:=I_.hg q c hq
           exact ⟨h,lo,hi,m,L,t.fup b e⟩)
end

def putE(k:Int)(v:Nat):List E->List E
 | []=>[(k,v)]
 | e::t=>if e.1<k then e::putE k v t else if e.1=k then (k,v)::t else (k,v)::e::t
def BW(k:Int)(es:List E):List E:=es.filter (λe=>decide (e.1≠k))
def CE(k:Int)(es:List E):Prop:=∃v,(k,v)∈es
theorem Srt.cons{e:E}{t:List E}:Srt (e::t)↔(∀x∈t,e.1<x.1)/\Srt t:=List.pairwise_cons
theorem Srt.app{A B:List E}:Srt (A++B)↔Srt A/\Srt B/\∀a∈A,∀b∈B,a.1<b.1:=List.pairwise_append
theorem putE_mem{es:List E}(h:Srt es)(x:E):x∈putE s m es↔x=(s,m)\/(x∈es/\x.1≠s):=by
 induction es with
 | nil=>simp[putE]
 | cons e t ih=>
  obtain ⟨d,g⟩:=Srt.cons.1 h;simp only[putE];split
  ·rename_i f
   rw[Aen,ih g,Aen];constructor
   ·rintro (rfl|rfl|⟨a,b⟩)
    ·exact .inr ⟨.inl Z,by omega⟩
    ·exact .inl Z
    exact .inr ⟨.inr a,b⟩
   rintro (rfl|⟨rfl|a,b⟩)
   ·exact .inr (.inl Z)
   ·exact .inl Z
   exact .inr (.inr ⟨a,b⟩)
  split
  ·rename_i i c
   rw[Aen,Aen];constructor
   ·rintro (rfl|a)
    ·exact .inl Z
    exact .inr ⟨.inr a,by have:=d x a;omega⟩
   rintro (rfl|⟨rfl|a,b⟩)
   ·exact .inl Z
   ·exact absurd c b
   exact .inr a
  rename_i i c;rw[Aen,Aen];constructor
  ·rintro (rfl|rfl|a)
   ·exact .inl Z
   ·exact .inr ⟨.inl Z,c⟩
   exact .inr ⟨.inr a,by have:=d x a;omega⟩
  rintro (rfl|⟨rfl|a,b⟩)
  ·exact .inl Z
  ·exact .inr (.inl Z)
  exact .inr (.inr a)
theorem Ke{k:Int}{v:Nat}{es:List E}(h:Srt es):Srt (putE k v es):=by
 induction es with
 | nil=>simp[putE,Srt]
 | cons e t ih=>
  obtain ⟨c,d⟩:=Srt.cons.1 h;simp only[putE];split
  ·refine Srt.cons.2 ⟨λx b=>?_,ih d⟩
   rcases (putE_mem d x).1 b with rfl|⟨a,_⟩
   ·assumption
   exact c x a
  split
  ·exact Srt.cons.2 ⟨λx b=>by have:=c x b;dsimp only;omega,d⟩
  refine Srt.cons.2 ⟨λx b=>?_,h⟩;rcases Aen.1 b with rfl|b
  ·dsimp only;omega
  have:=c x b;dsimp only;omega
theorem putE_lt{A:List E}(B:List E)(h:∀e∈A,e.1<s):putE s m (A++B)=A++putE s m B:=by
 induction A with
 | nil=>rfl
 | cons e t ih=>simp only[AfB,putE];rw[if_pos (h e O),ih (λx a=>h x (by simp[a]))]
theorem MM{B:List E}(h:∀e∈B,s<e.1):putE s m B=(s,m)::B:=by
 cases B with
 | nil=>rfl
 | cons e t=>have:=h e O;simp only[putE];rw[if_neg U,if_neg U]
theorem QI{A:List E}{B:List E}(h:∀e∈B,s<e.1):putE s m (A++B)=putE s m A++B:=by
 induction A with
 | nil=>simp only[AeQ];rw[MM h];rfl
 | cons e t ih=>
  simp only[AfB,putE];split
  ·rw[ih];rfl
  split<;>rfl
theorem putE_new{A B:List E}(b:∀e∈A,e.1<t)(a:∀e∈B,t<e.1):putE t m (A++B)=A++(t,m)::B:=by
 rw[putE_lt B b,MM a]
theorem Ec{A:List E}{B:List E}(a:∀e∈A,e.1<t):putE t m (A++(t,i)::B)=A++(t,m)::B:=by
 rw[putE_lt _ a];simp[putE]
theorem Kf(k:Int)(A B:List E):BW k (A++B)=BW k A++BW k B:=AfN ..
theorem Gw{A:List E}(h:∀e∈A,e.1≠t):BW t A=A:=by
 refine Agt.2 (λe a=>decide_eq_true (h e a))
theorem LW{A B:List E}(h:Srt (A++(t,m)::B)):BW t (A++(t,m)::B)=A++B:=by
 obtain ⟨f,b,c⟩:=Srt.app.1 h;obtain ⟨d,g⟩:=Srt.cons.1 b;rw[Kf,Gw (λe a=>by have:=c e a (t,m) O;dsimp only at this;omega)];congr 1;have:BW t ((t,m)::B)=BW t B:=by simp[BW]
 rw[this,Gw (λe a=>by have:=d e a;dsimp only at this;omega)]
theorem key_split{es:List E}(h:Srt es)(k:Int):(∃A v B,es=A++(k,v)::B/\∀e∈A,e.1<k)\/(¬CE k es/\∃A B,es=A++B/\(∀e∈A,e.1<k)/\∀e∈B,k<e.1):=by
 induction es with
 | nil=>exact .inr ⟨by simp[CE],[],[],Z,by simp,by simp⟩
 | cons e t ih=>
  obtain ⟨f,g⟩:=Srt.cons.1 h;rcases Int.lt_trichotomy e.1 k with q|q|q
  ·rcases ih g with ⟨A,v,B,rfl,d⟩|⟨d,A,B,rfl,j,i⟩
   ·exact .inl ⟨e::A,v,B,Z,λx b=>by rcases Aen.1 b with rfl|b;exact q;exact d x b⟩
   refine .inr ⟨?_,e::A,B,Z,λx b=>by rcases Aen.1 b with rfl|b;exact q;exact j x b,i⟩;rintro ⟨v,c⟩;rcases Aen.1 c with rfl|c
   ·dsimp only at q;omega
   exact d ⟨v,c⟩
  ·obtain ⟨a,v⟩:=e
   dsimp only at q;subst q;exact .inl ⟨[],v,t,Z,by simp⟩
  refine .inr ⟨?_,[],e::t,Z,by simp,λx b=>?_⟩
  ·rintro ⟨v,c⟩
   rcases Aen.1 c with rfl|c
   ·dsimp only at q;omega
   have:=f _ c;dsimp only at this;omega
  rcases Aen.1 b with rfl|b
  ·exact q
  have:=f x b;omega
theorem TN(A B:List E)(hi:Int):nx (A++B) hi=nx A (nx B hi):=by cases A<;>rfl
theorem Add{es:List E}(h:t<=s):nx es t<=nx es s:=by cases es<;>simp[nx,h]
theorem Sq.app{P:Nat->Int->Int->List E->Prop}{A B:List E}{hi:Int}{L:List E}:Sq P (A++B) hi L↔∃L1 L2,L=L1++L2/\Sq P A (nx B hi) L1/\Sq P B hi L2:=by
 induction A generalizing L with
 | nil=>
  simp only[AeQ,Sq];exact ⟨λh=>⟨[],L,Z,Z,h⟩,λ⟨L1,L2,f,a,d⟩=>by subst f a;exact d⟩
 | cons e t ih=>
  simp only[AfB,Sq];constructor
  ·rintro ⟨L1,L2,rfl,a,d⟩
   obtain ⟨M1,M2,rfl,c,b⟩:=ih.1 d;exact ⟨L1++M1,M2,by simp,⟨L1,M1,Z,by rw[<-TN];exact a,c⟩,b⟩
  rintro ⟨_,M2,rfl,⟨L1,M1,rfl,a,c⟩,b⟩;exact ⟨L1,M1++M2,by simp,by rw[TN];exact a,ih.2 ⟨M1,M2,Z,c,b⟩⟩
theorem Bd.app{N:Hm}{h:Nat}{A B:List E}{hi:Int}{L:List E}:Bd N h (A++B) hi L↔∃L1 L2,L=L1++L2/\Bd N h A (nx B hi) L1/\Bd N h B hi L2:=by
 cases h with
 | zero=>
  constructor
  ·rintro ⟨rfl,h⟩
   exact ⟨A,B,Z,⟨Z,λe a=>h e (by simp[a])⟩,⟨Z,λe a=>h e (by simp[a])⟩⟩
  rintro ⟨_,_,rfl,⟨rfl,b⟩,⟨rfl,c⟩⟩;refine ⟨Z,λe a=>?_⟩;rcases Aep.1 a with a|a
  ·exact b e a
  exact c e a
 | succ h=>exact Sq.app
theorem Bd.hi{N:Hm}{h:Nat}{es:List E}{hi a:Int}{L:List E}(b:Bd N h es hi L)(d:hi<=a):Bd N h es a L:=by
 cases h with
 | zero=>exact b
 | succ h=>
  induction es generalizing L with
  | nil=>exact b
  | cons e t ih=>
   obtain ⟨L1,L2,c,f,g⟩:=b;exact ⟨L1,L2,c,f.mono (Afm _) (Add d) (Aei _),ih g⟩
theorem Bd.fup{N:Hm}{a:Nat}{o:Option Pc}(f:∀q d,N q=some (.nd d)->a∉vals d.es){h:Nat}{es:List E}{hi:Int}{L:List E}(g:a∉vals es)(b:Bd N h es hi L):Bd (fup N a o) h es hi L:=by
 cases h with
 | zero=>exact ⟨b.1,λe c=>by rw[fup_ne _ _ (λq=>g (by rw[<-q];exact Aez c))];exact b.2 e c⟩
 | succ h=>exact Sq.imp b λe c _ _ q=>q.fup f (λq=>g (by rw[<-q];exact Aez c))
theorem Sq.srt{P:Nat->Int->Int->List E->Prop}{es:List E}{hi:Int}{L:List E}(h:Sq P es hi L)(hs:Srt es)(c:∀e∈es,e.1<hi)(f:∀e∈es,∀b L,P e.2 e.1 b L->Srt L/\B3 e.1 b L):Srt L/\B3 (nx es hi) hi L/\nx es hi<=hi:=by
 induction es generalizing L with
 | nil=>subst h;exact ⟨by simp[Srt],by simp[B3],Afm _⟩
 | cons e t ih=>
  obtain ⟨L1,L2,rfl,i,l⟩:=h;obtain ⟨m,g⟩:=Srt.cons.1 hs;obtain ⟨a1,a2,a3⟩:=ih l g (λx a=>c x (by simp[a])) (λx a=>f x (by simp[a]));obtain ⟨k,d⟩:=f e O _ _ i;have n:e.1<=nx t hi:=by
   cases t with
   | nil=>have:=c e O;simp only[nx];omega
   | cons x t=>have:=m x O;simp only[nx];omega
  refine ⟨Srt.app.2 ⟨k,a1,λx a y j=>by have:=d x a;have:=a2 y j;omega⟩,λx a=>?_,by have:=c e O;simp only[nx];omega⟩;simp only[nx];rcases Aep.1 a with a|a
  ·have:=d x a;omega
  have:=a2 x a;omega
theorem Tr.srt{N:Hm}{h r:Nat}{lo hi:Int}{m:Nat}{L:List E}(t:Tr N h r lo hi m L):Srt L/\B3 lo hi L:=by
 induction h generalizing r lo hi m L with
 | zero=>
  obtain ⟨es,_,_,c,a,rfl,_⟩:=t;exact ⟨a.srt,c⟩
 | succ h ih=>
  obtain ⟨es,_,_,c,a,g⟩:=t;have:=Sq.srt g a.srt (λe f=>(c e f).2) (λe f b L q=>ih q);refine ⟨this.1,λx i=>?_⟩;have d:=this.2.1 x i
  cases es with
  | nil=>exact absurd Z (a.ne Z)
  | cons e t=>have:=c e O;simp only[nx] at d;omega
theorem Tr.uniq{N:Hm}{h h':Nat}{lo hi:Int}{L L':List E}(t:Tr N h r lo hi m L)(t':Tr N h' r s p i L'):h=h'/\L=L':=by
 induction h generalizing h' r lo hi s p m i L L' with
 | zero=>
  obtain ⟨es,g,_,_,_,rfl,_⟩:=t
  cases h' with
  | zero=>
   obtain ⟨f,d,_,_,_,rfl,_⟩:=t';rw[g] at d;cases d;exact ⟨Z,Z⟩
  | succ h'=>
   obtain ⟨f,d,_⟩:=t';rw[g] at d;cases d
 | succ h ih=>
  obtain ⟨es,g,_,_,o,l⟩:=t
  cases h' with
  | zero=>
   obtain ⟨f,d,_⟩:=t';rw[g] at d;cases d
  | succ h'=>
   obtain ⟨f,d,_,_,_,j⟩:=t';rw[g] at d;cases d;have key:∀es (L L':List E),Sq (λc a b L=>Tr N h c a b 4 L) es hi L->Sq (λc a b L=>Tr N h' c a b 4 L) es p L'->(es≠[]->h=h')/\L=L':=by
    intro es
    induction es with
    | nil=>intro L L' a b;exact ⟨λq=>absurd Z q,a.trans b.symm⟩
    | cons e t ih2=>
     rintro _ _ ⟨L1,L2,rfl,a2,a3⟩ ⟨M1,M2,rfl,k,n⟩;obtain ⟨u,rfl⟩:=ih a2 k;obtain ⟨_,rfl⟩:=ih2 _ _ a3 n;exact ⟨λ_=>u,Z⟩
   obtain ⟨a,b⟩:=key es L L' l j;exact ⟨by rw[a (o.ne Z)],b⟩

def chI(es:List E)(k:Int):Nat:=(es.takeWhile λe=>decide (e.1<=k)).length-1
theorem GT{es:List E}(h:Srt es)(k:Int):∃A B,es=A++B/\(es.takeWhile λe=>decide (e.1<=k))=A/\(∀e∈A,e.1<=k)/\∀e∈B,k<e.1:=by
 induction es with
 | nil=>exact ⟨[],[],Z,Z,by simp,by simp⟩
 | cons e t ih=>
  obtain ⟨f,g⟩:=Srt.cons.1 h;by_cases q:e.1<=k
  ·obtain ⟨A,B,rfl,a,b,c⟩:=ih g
   refine ⟨e::A,B,Z,?_,λx d=>?_,c⟩
   ·rw[List.takeWhile_cons,if_pos (decide_eq_true q),a]
   rcases Aen.1 d with rfl|d
   ·exact q
   exact b x d
  refine ⟨[],e::t,Z,?_,by simp,λx d=>?_⟩
  ·rw[List.takeWhile_cons,if_neg (by simpa using q)]
  rcases Aen.1 d with rfl|d
  ·omega
  have:=f x d;omega
theorem PF{es:List E}(h:Srt es)(b:es≠[])(k:Int):∃A e B,es=A++e::B/\A.length=chI es k/\(A=[]\/e.1<=k)/\(∀x∈A,x.1<e.1)/\∀x∈B,k<x.1/\e.1<x.1:=by
 obtain ⟨A,B,e1,e2,c,d⟩:=GT h k;unfold chI;rw[e2];rcases List.eq_nil_or_concat A with rfl|⟨A',e,rfl⟩
 ·obtain ⟨e,t,rfl⟩:=AfF b
  simp only[AeQ] at e1;subst e1;exact ⟨[],e,t,Z,Z,.inl Z,by simp,λx a=>⟨d x (by simp[a]),(Srt.cons.1 h).1 x a⟩⟩
 subst e1;rw[List.concat_eq_append] at h c ⊢;rw[Aeh] at h;obtain ⟨_,g,f⟩:=Srt.app.1 h;refine ⟨A',e,B,by simp,by simp,.inr (c e O),λx a=>f x a e O,λx a=>⟨d x a,(Srt.cons.1 g).1 x a⟩⟩
theorem XB{B:List E}(h:∀x∈B,p<x.1)(a:p<s):p<nx B s:=by
 cases B with
 | nil=>exact a
 | cons e t=>exact h e O
theorem RX{B:List E}(h:∀x∈B,x.1<s):nx B s<=s:=by
 cases B with
 | nil=>exact Afm _
 | cons e t=>exact AgU (h e O)
theorem Sq.at{P:Nat->Int->Int->List E->Prop}{A B:List E}{e:E}{hi:Int}{L:List E}(h:Sq P (A++e::B) hi L):∃L0 Lc L2,L=L0++(Lc++L2)/\Sq P A e.1 L0/\P e.2 e.1 (nx B hi) Lc/\Sq P B hi L2:=by
 obtain ⟨L0,L3,rfl,a,L1,L2,rfl,b,c⟩:=Sq.app.1 h;exact ⟨L0,L1,L2,Z,a,b,c⟩
theorem Sq.mk{P:Nat->Int->Int->List E->Prop}{A B:List E}{e:E}{hi:Int}{L0 Lc L2:List E}(a:Sq P A e.1 L0)(b:P e.2 e.1 (nx B hi) Lc)(c:Sq P B hi L2):Sq P (A++e::B) hi (L0++(Lc++L2)):=
 Sq.app.2 ⟨L0,_,Z,a,Lc,L2,Z,b,c⟩
theorem Sq.nilK{P:Nat->Int->Int->List E->Prop}{A:List E}{a b:Int}{L:List E}(h:Sq P A a L)(q:A=[]\/a=b):Sq P A b L:=by
 rcases q with rfl|rfl
 ·exact h
 exact h
theorem Sq.sides{N:Hm}{h:Nat}{A B:List E}{e:E}{hi:Int}{L0 L2:List E}{k:Int}(hs:Srt (A++e::B))(m:∀x∈A++e::B,x.1<hi)(f:Sq (λc a b L=>Tr N h c a b 4 L) A e.1 L0)(o:Sq (λc a b L=>Tr N h c a b 4 L) B hi L2)
  (g:A=[]\/e.1<=k)(i:∀x∈B,k<x.1)(n:k<hi):(∀x∈L0,x.1<k)/\∀x∈L2,k<x.1:=by
 obtain ⟨p,j,l⟩:=Srt.app.1 hs;have a1:=Sq.srt f p (λx d=>l x d e O) (λ_ _ _ _ q=>Tr.srt q);have a3:=Sq.srt o (Srt.cons.1 j).2 (λx d=>m x (by simp[d])) (λ_ _ _ _ q=>Tr.srt q);refine ⟨λx d=>?_,λx d=>?_⟩
 ·rcases g with rfl|g
  ·simp only[Sq] at f;subst f;simp at d
  have:=a1.2.1 x d;omega
 have:=a3.2.1 x d;have:=XB i n;omega

theorem OK{es:List E}(hs:Srt es)(h8:es.length=8){v:Nat}(j:¬CE p es):
  ∃a b,putE p v es=a++b/\4<=a.length/\a.length<=5/\4<=b.length/\b.length<=5/\(nx (es.drop 4) 0<=p->a=es.take 4/\b=putE p v (es.drop 4))/\(p<nx (es.drop 4) 0->a=putE p v (es.take 4)/\b=es.drop 4):=by
 have d:=AeL 4 es;have g:=hs;rw[<-d] at g;obtain ⟨n,h,l⟩:=Srt.app.1 g;have c:∀xs:List E,Srt xs->¬CE p xs->(putE p v xs).length=xs.length+1:=λxs s q=>by
  rcases key_split s p with ⟨A,w,B,rfl,_⟩|⟨_,A,B,rfl,m,o⟩
  ·exact absurd ⟨w,by simp⟩ q
  rw[putE_new m o];simp;omega
 have u:¬CE p (es.take 4):=λ⟨w,i⟩=>j ⟨w,Afg i⟩;have z:¬CE p (es.drop 4):=λ⟨w,i⟩=>j ⟨w,Afu i⟩;have l1:=c _ n u;have l2:=c _ h z;have l3:(es.take 4).length=4:=by rw[Aex];omega
 have k:(es.drop 4).length=4:=by rw[AeM];omega
 obtain ⟨y,t,e⟩:∃y t,es.drop 4=y::t:=AfF (by intro q;rw[q] at k;simp at k);by_cases q:nx (es.drop 4) 0<=p
 ·refine ⟨es.take 4,putE p v (es.drop 4),?_,by omega,by omega,by omega,by omega,λ_=>⟨Z,Z⟩,λr=>absurd q U⟩
  rw[<-putE_lt _ (λx f=>?_),d];rw[e] at q;simp only[nx] at q;have:=l x f y (by rw[e];simp);omega
 refine ⟨putE p v (es.take 4),es.drop 4,?_,by omega,by omega,by omega,by omega,λr=>absurd r q,λ_=>⟨Z,Z⟩⟩;rw[<-QI (λx f=>?_),d];rw[e] at q f h;simp only[nx] at q;rcases Aen.1 f with rfl|f
 ·omega
 have:=(Srt.cons.1 h).1 x f;omega
theorem OL{a b:List E}(hs:Srt (a++b))(d:B3 s p (a++b))(g:a≠[])(h:b≠[]):B3 s (nx b p) a/\B3 (nx b p) p b/\s<nx b p/\nx b p<p:=by
 obtain ⟨i,f,e⟩:=Srt.app.1 hs;obtain ⟨y,t,rfl⟩:=AfF h;obtain ⟨x,u,rfl⟩:=AfF g;simp only[nx];refine ⟨λz c=>⟨(d z (Agm _ c)).1,e z c y O⟩,λz c=>⟨?_,(d z (AgC _ c)).2⟩,?_,(d y O).2⟩
 ·rcases Aen.1 c with rfl|c
  ·exact Afm _
  exact AgU ((Srt.cons.1 f).1 z c)
 have:=e x O y O;have:=(d x O).1;omega
end
variable{X:List E}
section
variable{Tb:Ai}
abbrev kL(es:List E):List Int:=es.map Prod.fst
abbrev vL(es:List E):List Int:=es.map λe=>(e.2:Int)
def Fc(d:Nd):Pg:=⟨if d.lf then 4 else 3,G9 d.lf (kL d.es) (vL d.es)⟩
def LX:Pc->Pg
 | .nd d=>Fc d
 | .dt b=>⟨5,b⟩
theorem Jy{d:Nd}(h:d.es.length<=8):(Fc d).Ok:=by
 refine ⟨?_,YF O (by simpa using h)⟩;unfold Fc;dsimp only;split<;>omega
structure TS where
 N:Hm
 C:Nat->Nat
 F:Nat->Bool
 k:Nat
structure TB where
 N:Hm
 C:Nat->Nat
 R:List Nat
abbrev TT:=Option (TS×List Nat)
structure Rel(n:Nat)(M:Nat->Pg)(N:Hm)(C:Nat->Nat)(R:List Nat):Prop where
 m:∀p c,N p=some c->M p=LX c/\(LX c).Ok
 i:TInv n (manyN n+1) N C R
def trA(Tb:Ai)(pp mb n:Nat)(o:TB):TT->Ai
 | none=>λh=>∃M0,Rel n M0 o.N o.C o.R/\poA Tb pp mb n M0 o.C none h
 | some s=>λh=>∃M0 M,(Rel n M0 o.N o.C o.R/\Rel n M s.1.N s.1.C s.2)/\poA Tb pp mb n M0 o.C (some ⟨M,s.1.C,s.1.F,s.1.k⟩) h
def Dk(o:TB):TT->Hm
 | none=>o.N
 | some s=>s.1.N
def curC(o:TB):TT->Nat->Nat
 | none=>o.C
 | some s=>s.1.C
def Wh(n:Nat)(o:TB):TT->Nat->Bool
 | none=>AV n o.C
 | some s=>s.1.F
def CU(o:TB):TT->List Nat
 | none=>o.R
 | some s=>s.2
variable{z w:World}{Γ:List Ai}{pp mb n:Nat}{o:TB}{t t':TS}{R:List Nat}{T:TT}
structure TrK(n:Nat)(o:TB)(T:TT):Prop where
 hn:16<=n/\n<=1024
 i:TInv n (manyN n+1) (Dk o T) (curC o T) (CU o T)
 one:∀p,p<=manyN n->curC o T p=1
 fr:∀p,Wh n o T p=true->p<n/\curC o T p=0/\manyN n<p
theorem trA.k{h:Hp}(a:trA Tb pp mb n o T h):TrK n o T:=by
 cases T with
 | none=>
  obtain ⟨M0,c,a⟩:=a;have d:=a.hn;refine ⟨d,c.i,a.c0.2,λp hp=>?_⟩;have b:AV n o.C p=true:=hp;simp[AV] at b;refine ⟨b.1,b.2,?_⟩;rcases Aeq (manyN n) p with q|q
  ·exact q
  have:=a.c0.2 p q;omega
 | some s=>
  obtain ⟨M0,M,c,a⟩:=a;exact ⟨a.hn,c.2.i,a.k.one,a.k.free⟩
theorem trA.perm{R':List Nat}{h:Hp}(hp:R.Perm R')(a:trA Tb pp mb n o (some (t,R)) h):trA Tb pp mb n o (some (t,R')) h:=by
 obtain ⟨M0,M,b,a⟩:=a;exact ⟨M0,M,⟨b.1,⟨b.2.m,b.2.i.perm hp⟩⟩,a⟩
theorem trA.opens{a:Nat}{d:Nd}{h:Hp}(x:trA Tb pp mb n o (some (t,a::R)) h)(f:t.C a=1)(hN:t.N a=some (.nd d)):trA Tb pp mb n o (some ({t with N:=fup t.N a none},a::(vals d.es++R))) h:=by
 obtain ⟨M0,M,b,x⟩:=x;refine ⟨M0,M,⟨b.1,⟨λp c hp=>?_,(b.2.i.opens f hN).1⟩⟩,x⟩;have hp:fup t.N a none p=some c:=hp;by_cases e:p=a
 ·subst e;rw[BK] at hp;cases hp
 rw[fup_ne _ _ e] at hp;exact b.2.m p c hp
theorem Sep.tr1(H:Sep z (trA Tb pp mb n o (some (t,R))::Γ) w):∃x:(Nat->Pg)×(Nat->Pg),(Rel n x.1 o.N o.C o.R/\Rel n x.2 t.N t.C R)/\Sep z (poA Tb pp mb n x.1 o.C (some ⟨x.2,t.C,t.F,t.k⟩)::Γ) w:=by
 obtain ⟨⟨x,hp⟩,c⟩:=H.ex 0 (σ:= {x:(Nat->Pg)×(Nat->Pg) // Rel n x.1 o.N o.C o.R/\Rel n x.2 t.N t.C R}) (B:=λx=>poA Tb pp mb n x.1.1 o.C (some ⟨x.1.2,t.C,t.F,t.k⟩)) Z (λh q=>by
  obtain ⟨M0,M,b,a⟩:=q;exact ⟨⟨(M0,M),b⟩,a⟩)
 exact ⟨x,hp,c⟩
theorem Sep.toTr1{M0 M:Nat->Pg}{k:Nat}(H:Sep z (poA Tb pp mb n M0 o.C (some ⟨M,C,F,k⟩)::Γ) w)(c:Rel n M0 o.N o.C o.R){N:Hm}(b:Rel n M N C R):Sep z (trA Tb pp mb n o (some (⟨N,C,F,k⟩,R))::Γ) w:=
 H.mono 0 (B:=trA Tb pp mb n o (some (⟨N,C,F,k⟩,R))) Z (λh a=>⟨M0,M,⟨c,b⟩,a⟩)
theorem Sep.tr0(H:Sep z (trA Tb pp mb n o none::Γ) w):∃M0,Rel n M0 o.N o.C o.R/\Sep z (poA Tb pp mb n M0 o.C none::Γ) w:=by
 obtain ⟨⟨x,hp⟩,c⟩:=H.ex 0 (σ:= {x:Nat->Pg // Rel n x o.N o.C o.R}) (B:=λx=>poA Tb pp mb n x.1 o.C none) Z (λh q=>by
  obtain ⟨M0,b,a⟩:=q;exact ⟨⟨M0,b⟩,a⟩)
 exact ⟨x,hp,c⟩
theorem Sep.toTr0{M0:Nat->Pg}(H:Sep z (poA Tb pp mb n M0 o.C none::Γ) w)(b:Rel n M0 o.N o.C o.R):Sep z (trA Tb pp mb n o none::Γ) w:=
 H.mono 0 (B:=trA Tb pp mb n o none) Z (λh a=>⟨M0,b,a⟩)
theorem Zx{pp mb n:Nat}{o:TB}:Cn prog 120 [Y pp] [trA Tb pp mb n o none] (λv Γ=>v=I 0/\Γ=[trA Tb pp mb n o (some (⟨o.N,o.C,AV n o.C,0⟩,o.R))]):=by
 intro z R w H;obtain ⟨M0,a,H⟩:=H.tr0;refine Ret.mono (Cn.at (Zn pp mb n M0 o.C) H 1 [0] Z Z) ?_;rintro v c ⟨Γ',⟨rfl,rfl⟩,b⟩;exact ⟨_,⟨Z,Z⟩,Sep.toTr1 (C:=o.C) (F:=AV n o.C) (k:=0) (M:=M0) b a a⟩
theorem Zy{pp mb n:Nat}{o:TB}{s:TS×List Nat}:Cn prog 121 [Y pp] [trA Tb pp mb n o (some s)] (λv Γ=>v=.tuple #[]/\Γ=[trA Tb pp mb n o none]):=by
 obtain ⟨t,R⟩:=s;intro z R w H;obtain ⟨⟨M0,M⟩,a,H⟩:=H.tr1;refine Ret.mono (Cn.at (Zo pp mb n M0 o.C ⟨M,t.C,t.F,t.k⟩) H 1 [0] Z Z) ?_;rintro v c ⟨Γ',⟨rfl,rfl⟩,b⟩;exact ⟨_,⟨Z,Z⟩,Sep.toTr0 b a.1⟩
theorem Wi{pp mb n:Nat}{o:TB}(t:TS)(R:List Nat)(d:t.k+manyN n<=40)(b:mb<=1000000000):Cn prog 170 [Y pp] [trA Tb pp mb n o (some (t,R))] (λv Γ=>v=I 0/\Γ=[trA Tb pp (mb+2) n ⟨t.N,t.C,R⟩ none]):=by
 intro z R w H;obtain ⟨⟨M0,M⟩,a,H⟩:=H.tr1;refine Ret.mono (Cn.at (Wa pp mb n M0 o.C ⟨M,t.C,t.F,t.k⟩ d b) H 1 [0] Z Z) ?_;rintro v e ⟨Γ',⟨rfl,rfl⟩,c⟩;exact ⟨_,⟨Z,Z⟩,Sep.toTr0 (o:=⟨t.N,t.C,_⟩) c a.2⟩
theorem Sep.trP(H:Sep z (trA Tb pp mb n o T::Γ) w):∃(M0:Nat->Pg) (u:Option PoT),(poC o.C u=curC o T/\Xz n o.C u=Wh n o T/\u.isSome=T.isSome/\(∀p c,Dk o T p=some c->poM M0 u p=LX c/\(LX c).Ok))/\Sep z (poA Tb pp mb n M0 o.C u::Γ) w/\∀Γ' b,Sep z (poA Tb pp mb n M0 o.C u::Γ') b->Sep z (trA Tb pp mb n o T::Γ') b:=by
 cases T with
 | none=>
  obtain ⟨M0,a,H⟩:=H.tr0;exact ⟨M0,none,⟨Z,Z,Z,a.m⟩,H,λ_ b d=>d.toTr0 a⟩
 | some s=>
  obtain ⟨t,R⟩:=s;obtain ⟨⟨M0,M⟩,a,H⟩:=H.tr1;exact ⟨M0,some ⟨M,t.C,t.F,t.k⟩,⟨Z,Z,Z,a.2.m⟩,H,λ_ b d=>Sep.toTr1 (C:=t.C) (F:=t.F) (k:=t.k) d a.1 a.2⟩
theorem LY(pp mb n:Nat)(o:TB){T:TT}(p:Nat)(hp:p<n):Cn prog 138 [Y pp,I (p:Int)] [trA Tb pp mb n o T] (λv Γ=>v=I (curC o T p:Int)/\Γ=[trA Tb pp mb n o T]):=by
 intro z R w H;obtain ⟨M0,u,⟨c,_⟩,H,a⟩:=H.trP;refine Ret.mono (Cn.at (Zp pp mb n M0 o.C u p hp) H 1 [0] Z Z) ?_;rintro v d ⟨Γ',⟨rfl,rfl⟩,b⟩;exact ⟨_,⟨by rw[c],Z⟩,a _ _ b⟩
theorem AbR{pp mb n:Nat}{o:TB}(T:TT):Cn prog 23 [Y pp] [trA Tb pp mb n o T] (λv Γ=>v=I (cnt (Wh n o T) 0 1024:Int)/\Γ=[trA Tb pp mb n o T]):=by
 intro z R w H;obtain ⟨M0,u,⟨_,c,_⟩,H,a⟩:=H.trP;refine Ret.mono (Cn.at (AbO pp mb n M0 o.C u) H 1 [0] Z Z) ?_;rintro v d ⟨Γ',⟨rfl,rfl⟩,b⟩;exact ⟨_,⟨by rw[c],Z⟩,a _ _ b⟩
theorem HS(pp mb n:Nat)(o:TB){T:TT}:Cn prog 80 [Y pp] [trA Tb pp mb n o T] (λv Γ=>v=.bool T.isSome/\Γ=[trA Tb pp mb n o T]):=by
 intro z R w H;obtain ⟨M0,u,⟨_,_,c,_⟩,H,a⟩:=H.trP;refine Ret.mono (Cn.at (Zq pp mb n M0 o.C u) H 1 [0] Z Z) ?_;rintro v d ⟨Γ',⟨rfl,rfl⟩,b⟩;exact ⟨_,⟨by rw[c],Z⟩,a _ _ b⟩

structure St(t t':TS)(R:List Nat)(df dk:Nat):Prop where
 fr:∀c∈R,∀h lo hi m L,Tr t.N h c lo hi m L->Tr t'.N h c lo hi m L
 dt:∀c∈R,∀b,t.N c=some (.dt b)->t'.N c=some (.dt b)
 f1:∀p,t'.F p=true->t.F p=true
 ev:∀v b,t.F v=false->t'.N v=some (.dt b)->t.N v=some (.dt b)
 f:cnt t.F 0 1024<=cnt t'.F 0 1024+df
 k:t'.k<=t.k+dk
 op:∀c∈R,t.N c=none->t.C c=1->t'.N c=none/\t'.C c=1
theorem St.trans{t1 t2 t3:TS}{R R1 R2:List Nat}{a b c d f:Nat}(x:St t1 t2 R1 a b)(y:St t2 t3 R2 c d)(i:∀p∈R,p∈R1)(j:∀p∈R,p∈R2)(o:a+c<=e)(n:b+d<=f):St t1 t3 R e f:=by
 refine ⟨λc g h lo hi m L q=>y.fr c (j c g) _ _ _ _ _ (x.fr c (i c g) _ _ _ _ _ q),λc g b q=>y.dt c (j c g) b (x.dt c (i c g) b q),λp q=>x.f1 p (y.f1 p q),λv b l q=>x.ev v b l (y.ev v b ?_ q),?_,?_,λc g a b=>by obtain ⟨a',b'⟩:=x.op c (i c g) a b;exact y.op c (j c g) a' b'⟩
 ·cases e:t2.F v with
  | false=>rfl
  | true=>have:=x.f1 v e;rw[l] at this;cases this
 ·have:=x.f;have:=y.f;omega
 have:=x.k;have:=y.k;omega
theorem St.sub{R R':List Nat}{a b c d:Nat}(x:St t t' R a b)(h:∀p∈R',p∈R)(g:a<=c)(i:b<=d):St t t' R' c d:=
 ⟨λc e=>x.fr c (h c e),λc e=>x.dt c (h c e),x.f1,x.ev,Agr x.f U,Agr x.k U,λc e=>x.op c (h c e)⟩
theorem St.bd{R:List Nat}{a b:Nat}(x:St t t' R a b){h:Nat}{es:List E}{hi:Int}{L:List E}(d:∀v∈vals es,v∈R)(q:Bd t.N h es hi L):Bd t'.N h es hi L:=by
 cases h with
 | zero=>exact ⟨q.1,λe c=>by obtain ⟨b,f⟩:=q.2 e c;exact ⟨b,x.dt _ (d _ (Aez c)) b f⟩⟩
 | succ h=>exact Sq.imp q λe c _ _ r=>x.fr _ (d _ (Aez c)) _ _ _ _ _ r
theorem St.one{a:Nat}{c:Option Pc}{k:Nat}(n:∀q d,t.N q=some (.nd d)->a∉vals d.es)(g:a∉R)(r:∀b,c≠some (.dt b))(l:∀p,F p=true->t.F p=true)(o:cnt t.F 0 1024<=cnt F 0 1024+i)(s:k<=t.k+j)(f:∀q∈R,t.N q=none->t.C q=1->C q=1):St t ⟨fup t.N a c,C,F,k⟩ R i j:=by
 refine ⟨λq hq h lo hi m L x=>x.fup n (λe=>g (by rw[<-e];exact hq)),λq hq b x=>?_,l,λv b u x=>?_,o,s,λq hq x y=>⟨?_,f q hq x y⟩⟩
 ·show fup t.N a c q=_
  rw[fup_ne _ _ (λe=>g (by rw[<-e];exact hq))];exact x
 ·have x:fup t.N a c v=some (.dt b):=x
  by_cases e:v=a
  ·subst e;rw[BK] at x;exact absurd x (r b)
  rwa[fup_ne _ _ e] at x
 show fup t.N a c q=none;rw[fup_ne _ _ (λe=>g (by rw[<-e];exact hq))];exact x
theorem IA{n:Nat}{N:Hm}{R:List Nat}(I_:TInv n m N C (i::R))(h:C i=1):i∉R:=λq=>by
 have a:=I_.rin i O;have:=I_.cnt i a.1 a.2;rw[List.count_cons_self] at this;have:=Agv.2 q;omega
theorem TO{n:Nat}{N:Hm}{R:List Nat}(I_:TInv n m N C R)(h:C i=0):i∉R:=λq=>by
 have:=I_.pos q;omega
theorem XC(pp mb n:Nat)(o:TB)(t:TS)(R:List Nat)(p:Nat)(hp:manyN n<p/\p<n)(b:1<=t.C p)(e:R.length+n<1000):
  Cn prog 146 [Y pp,I (p:Int)] [trA Tb pp mb n o (some (t,R))] (λv Γ=>v=I 0/\Γ=[trA Tb pp mb n o (some ({t with C:=fup t.C p (t.C p+1)},p::R))]):=by
 intro z R' w H;obtain ⟨⟨M0,M⟩,a,H⟩:=H.tr1;have:=a.2.i.bound (p:=p) U hp.2;refine Ret.mono (Cn.at (Adc pp mb n M0 o.C ⟨M,t.C,t.F,t.k⟩ p hp ⟨b,by show t.C p<1000;omega⟩) H 1 [0] Z Z) ?_;rintro v d ⟨Γ',⟨rfl,rfl⟩,c⟩;exact ⟨_,⟨Z,Z⟩,Sep.toTr1 (C:=fup t.C p (t.C p+1)) (F:=t.F) (k:=t.k) c a.1 ⟨a.2.m,a.2.i.ref ⟨by omega,hp.2⟩⟩⟩
theorem QJ(pp mb n:Nat)(o:TB)(t:TS)(R:List Nat)(p:Nat)(b:2<=t.C p):
  Cn prog 142 [Y pp,I (p:Int)] [trA Tb pp mb n o (some (t,p::R))] (λv Γ=>v=I 0/\Γ=[trA Tb pp mb n o (some ({t with C:=fup t.C p (t.C p-1)},R))]):=by
 intro z R' w H;obtain ⟨⟨M0,M⟩,a,H⟩:=H.tr1;have hp:=a.2.i.rin p O;refine Ret.mono (Cn.at (Zs pp mb n M0 o.C ⟨M,t.C,t.F,t.k⟩ p ⟨by omega,hp.2⟩ b) H 1 [0] Z Z) ?_;rintro v d ⟨Γ',⟨rfl,rfl⟩,c⟩;exact ⟨_,⟨Z,Z⟩,Sep.toTr1 (C:=fup t.C p (t.C p-1)) (F:=t.F) (k:=t.k) c a.1 ⟨a.2.m,a.2.i.unref b⟩⟩
theorem AbS(pp mb n:Nat)(o:TB)(t:TS)(R:List Nat)(p:Nat)(b:t.C p=1)(hN:∀d,t.N p≠some (.nd d)):
  Cn prog 142 [Y pp,I (p:Int)] [trA Tb pp mb n o (some (t,p::R))] (λv Γ=>v=I 0/\Γ=[trA Tb pp mb n o (some ({t with N:=fup t.N p none,C:=fup t.C p 0},R))]):=by
 intro z R' w H;obtain ⟨⟨M0,M⟩,a,H⟩:=H.tr1;have hp:=a.2.i.rin p O;refine Ret.mono (Cn.at (AbP pp mb n M0 o.C ⟨M,t.C,t.F,t.k⟩ p ⟨by omega,hp.2⟩ b) H 1 [0] Z Z) ?_;rintro v g ⟨Γ',⟨rfl,rfl⟩,f⟩;refine ⟨_,⟨Z,Z⟩,Sep.toTr1 (C:=fup t.C p 0) (F:=t.F) (k:=t.k) f a.1 ⟨λq c hq=>?_,(a.2.i.drop b hN).1⟩⟩;by_cases e:q=p
 ·subst e;rw[BK] at hq;cases hq
 rw[fup_ne _ _ e] at hq;exact a.2.m q c hq
theorem GU(pp mb n:Nat)(o:TB)(t:TS){R:List Nat}(p:Nat)(hN:∀d,t.N p≠some (.nd d)):
  Cn prog 142 [Y pp,I (p:Int)] [trA Tb pp mb n o (some (t,p::R))] (λv Γ=>∃t',(St t t' R 0 0/\(∀q,q≠p->t'.N q=t.N q/\t'.C q=t.C q)/\t'.C p=t.C p-1/\(t'.N p=t.N p\/t'.N p=none)/\t'.F=t.F)/\v=I 0/\Γ=[trA Tb pp mb n o (some (t',R))]):=by
 intro z R' w H;have K:=H.says 0 Z (λh a=>trA.k a);have b:=K.i.pos (p:=p) (by simp[CU]);have b:1<=t.C p:=b;rcases Aeq (t.C p) 2 with h|h
 ·have f:t.C p=1:=by omega
  refine Ret.mono (Cn.at (AbS pp mb n o t R p f hN) H 1 [0] Z Z) ?_;rintro v j ⟨Γ',⟨rfl,rfl⟩,g⟩;have l:=(TInv.drop (show TInv n (manyN n+1) t.N t.C (p::R) from K.i) f hN).2;refine ⟨_,⟨_,⟨St.one l (IA (show TInv n (manyN n+1) t.N t.C (p::R) from K.i) f) O (λ_ q=>q) U U (λq hq _ y=>by
   show fup t.C p 0 q=1;rw[fup_ne _ _ (λe=>IA (show TInv n (manyN n+1) t.N t.C (p::R) from K.i) f (by rw[<-e];exact hq))];exact y),λq hq=>⟨fup_ne _ _ hq,fup_ne _ _ hq⟩,?_,.inr (BK _ _ _),Z⟩,Z,Z⟩,g⟩
  show fup t.C p 0 p=t.C p-1;rw[BK];omega
 refine Ret.mono (Cn.at (QJ pp mb n o t R p h) H 1 [0] Z Z) ?_;rintro v j ⟨Γ',⟨rfl,rfl⟩,g⟩;refine ⟨_,⟨{t with C:=fup t.C p (t.C p-1)},⟨⟨λ_ _ _ _ _ _ _ q=>q,λ_ _ _ q=>q,λ_ q=>q,λ_ _ _ q=>q,Aei _,Aei _,λc m x y=>⟨x,?_⟩⟩,λq hq=>⟨Z,fup_ne _ _ hq⟩,BK _ _ _,.inl Z,Z⟩,Z,Z⟩,g⟩;show fup t.C p (t.C p-1) c=1;rw[fup_ne _ _ (λe=>by rw[e] at y;omega)];exact y
theorem OM(pp mb n:Nat)(o:TB)(t:TS)(R R2:List Nat)(x:Pg)(i:x.Ok)(hB:∀h,A h->rdH 1 u 240 (x.body.map u8) h)(hk:t.k<40)(c:Option Pc)(hc:∀q,c=some q->x=LX q)
  (hI:∀a,manyN n<a->a<n->t.C a=0->TInv n (manyN n+1) (fup t.N a c) (fup t.C a 1) (a::R2)):
  Cn prog 82 [Y pp,.agg #[I x.kind,u]] [trA Tb pp mb n o (some (t,R)),A] (λv Γ=>(cnt t.F 0 1024=0/\v=.tuple #[I 0,I 20]/\Γ=[trA Tb pp mb n o (some (t,R)),A])\/
   ∃(a:Nat) (F:Nat->Bool) (k:Nat),((manyN n<a/\a<n)/\t.C a=0/\t.F a=true/\(∀q,F q=true->t.F q=true)/\F a=false/\k<=t.k+1/\cnt t.F 0 1024=cnt F 0 1024+1)/\v=.tuple #[I (a:Int),I 0]/\Γ=[trA Tb pp mb n o (some (⟨fup t.N a c,fup t.C a 1,F,k⟩,a::R2)),A]):=by
 intro z R' w H;have K:=H.says 0 Z (λh a=>trA.k a);obtain ⟨⟨M0,M⟩,g,H⟩:=H.tr1;refine Ret.mono (Cn.at (Zt pp mb n M0 o.C ⟨M,t.C,t.F,t.k⟩ x i u A hB hk) H 2 [0,1] Z Z) ?_;rintro v w' ⟨Γ',(⟨h0,rfl,rfl⟩|⟨p,s,⟨r,h2,h3⟩,rfl,rfl⟩),y⟩
 ·exact ⟨_,.inl ⟨h0,Z,Z⟩,Sep.toTr1 (C:=t.C) (F:=t.F) (k:=t.k) y g.1 g.2⟩
 have d:=K.fr p r;have j:t.C p=0:=d.2.1;have f:cnt (Dw t.F p) 0 1024+1=cnt t.F 0 1024:=h3;refine ⟨_,.inr ⟨p,Dw t.F p,s,⟨⟨d.2.2,d.1⟩,j,r,λq hq=>?_,?_,h2,by rw[<-f]⟩,Z,Z⟩,Sep.toTr1 (C:=fup t.C p 1) (F:=Dw t.F p) (k:=s) (N:=fup t.N p c) y g.1 ⟨λl c' b=>?_,hI p d.2.2 d.1 j⟩⟩
 ·unfold Dw at hq;simp at hq;exact hq.1
 ·unfold Dw;simp
 by_cases e:l=p
 ·subst e;rw[BK] at b ⊢
  rw[hc c' b] at i ⊢;exact ⟨Z,i⟩
 rw[fup_ne _ _ e] at b ⊢;exact g.2.m l c' b
theorem Zz(pp mb n:Nat)(o:TB)(t:TS){R:List Nat}(R2:List Nat)(a:Nat)(x:Pg)(d:x.Ok)(l:∀h,A h->rdH 1 u 240 (x.body.map u8) h)(y:t.k<40)(c:Pc)(s:x=LX c)(hp:manyN n<a/\a<n)(j:t.C a≠0)
  (q:TInv n (manyN n+1) (fup t.N a (some c)) t.C R2):
  Cn prog 169 [Y pp,I (a:Int),.agg #[I x.kind,u]] [trA Tb pp mb n o (some (t,R)),A] (λv Γ=>∃k,k<=t.k+1/\v=I 0/\Γ=[trA Tb pp mb n o (some (⟨fup t.N a (some c),t.C,t.F,k⟩,R2)),A]):=by
 intro z R' w H;obtain ⟨⟨M0,M⟩,g,H⟩:=H.tr1;refine Ret.mono (Cn.at (write_p pp mb n M0 o.C ⟨M,t.C,t.F,t.k⟩ a x d u A l y ⟨.inr hp.1,hp.2⟩ j) H 2 [0,1] Z Z) ?_;rintro v w' ⟨Γ',⟨i,p,rfl,rfl⟩,r⟩;refine ⟨_,⟨i,p,Z,Z⟩,Sep.toTr1 (C:=t.C) (F:=t.F) (k:=i) (N:=fup t.N a (some c)) r g.1 ⟨λf c' b=>?_,q⟩⟩;by_cases e:f=a
 ·subst e;rw[BK] at b ⊢
  cases b;rw[s] at d ⊢
  exact ⟨Z,d⟩
 rw[fup_ne _ _ e] at b ⊢;exact g.2.m f c' b
theorem CkN.of{lf:Bool}{es:List E}(h:(Nd.mk lf es).Ok)(g:∀v∈vals es,1<=v/\v<1024):CkN lf (kL es) (vL es):=by
 refine ⟨by simp,by simpa using h.len,?_,λx c=>?_,λy d=>?_,λi x y c d=>?_⟩
 ·cases lf with
  | true=>exact .inl Z
  | false=>
   have:=h.ne Z
   cases es with
   | nil=>exact absurd Z this
   | cons e t=>simp
 ·obtain ⟨e,f,rfl⟩:=Aek.1 c
  have:=h.key e f;exact ⟨this.1,by have:=this.2;omega⟩
 ·obtain ⟨e,f,rfl⟩:=Aek.1 d
  have:=g e.2 (Aez f);omega
 simp only[Aeo] at c d
 cases h1:es[i]? with
 | none=>rw[h1] at c;cases c
 | some a=>
  cases h2:es[i+1]? with
  | none=>rw[h2] at d;cases d
  | some b=>
   rw[h1] at c;rw[h2] at d;simp at c d;subst c d;have hs:=h.srt;exact (Afv.1 hs) i (i+1) (Aeb.1 h1).1 (Aeb.1 h2).1 U |> λq=>by rw[(Aeb.1 h1).2,(Aeb.1 h2).2] at q;exact q
theorem ON(lf:Bool)(es:List E):((Fc ⟨lf,es⟩).kind=4/\lf=true)\/((Fc ⟨lf,es⟩).kind=3/\lf=false):=by
 cases lf
 ·exact .inr ⟨Z,Z⟩
 exact .inl ⟨Z,Z⟩
theorem TP(lf:Bool)(es:List E):decide (((Fc ⟨lf,es⟩).kind:Int)=4)=lf:=by cases lf<;>rfl
theorem TInv.take{n f a:Nat}{N:Hm}{R:List Nat}(I_:TInv n f N C R)(d:C a=0)(b:f<=a/\a<n):TInv n f (fup N a none) (fup C a 1) (a::R):=by
 have hN:N a=none:=by
  cases e:N a with
  | none=>rfl
  | some c=>have:=(I_.nin a c e).2.2;omega
 have e:fup N a none=N:=by
  funext q;unfold fup;split
  ·rename_i h;rw[h,hN]
  rfl
 have:=I_.ref b;rw[d] at this;rw[e];exact this
end
section
variable{Tb:Ai}
theorem ZA(pp ps pc pa pd n:Nat)(un:Bool)(D:Dsk)(G:StG)(own:Hb)(p:Nat)(lf:Bool)(es:List E)(a2:(p:Int)<G.x.pages)(a0:D.f1=0)(hq:Fc ⟨lf,es⟩=Ej G.M own p)(e:(Nd.mk lf es).Ok)(a:CkN lf (kL es) (vL es)):Cn prog 132 [Y pp,I (p:Int)] [plB pp ps pc pa n un,stoA ps pd D G own] (λv Γ=>∃l f:Value,v=.tuple #[.agg #[.bool lf,l,f],I 0]/\Γ=[grow 3 1 l (kL es).length ((kL es).map I),grow 3 1 f (vL es).length ((vL es).map I),plB pp ps pc pa n un,stoA ps pd D G own]):=by
 intro z R w H;have b:(Fc ⟨lf,es⟩).body.length=240:=(Jy e.len).2;have a6:=ON lf es;refine Ae func132 Z ntmps132 Z (Za 2 [] H Z ?_);intro b1 w H;refine Z2 21 [0,0,1,0] H Z (Aq Z (call85 _) (K7 ps pd D G own p a2 a0 (Fc ⟨lf,es⟩) hq) H.f2 ?_);rintro _ w _ (⟨a3,rfl,rfl⟩|⟨a4,rv,rfl,rfl⟩) H'
 ·(exfalso;have:=ON lf es;rw[a3] at this;have h0:noPg.kind=0:=rfl;omega)
 have H:=H'.l4;obtain ⟨gb,a5,rest,rfl,c1,c2,c3,H⟩:=H.ungrow 0 Z U;refine Za 3 [] H Z ?_;intro b2 w H;refine Z4 21 [0,4,0,0,0,0] H Z ?_;intro w H;refine Al 30 Z (λh1=>?_) (λh1=>?_)
 ·refine Z2 6 [0,0,0,0] H Z (Af Z (λh2=>U) (λh2=>?_))
  refine Z2 6 [1,0,0] H Z (Aq Z (call176 _) (MB (Fc ⟨lf,es⟩).body (λh q=>q.rd U U (by rw[Aee,Aef,b];omega) (by rw[Aeu,AeP,AeF (by rw[Aef,b])])) lf (kL es) (vL es) O (by simpa using e.len) (λx o=>by have:=a.k x o;omega) (λy r=>by have:=a.v y r;omega) Z) H.f1 ?_);rintro _ w _ ⟨l,f,rfl,rfl⟩ H;replace H:=(H.mono 1 (B:=grow 3 1 f ((vL es).length) ((vL es).map I)) Z (λh q=>by rw[show (vL es).length=(kL es).length by simp];exact q)).l7;have c:=H.sy 0 (·.slc);have d:=H.sy 1 (·.slc);refine Za 3 [] H Z ?_;intro b3 w H;obtain ⟨s,m,rfl⟩:=c;obtain ⟨u,t,rfl⟩:=d;refine Z4 11 [0,0,3] H Z ?_;intro w H;refine z_E_ Z (call177 _) (CT (kL es) (vL es) (λh q=>q.rd) (λh q=>q.rd) a) H.f2.f2 ?_;intro w H;refine Z2 8 [4,0,2,0,0,4,0,0] H Z (Ab Z (Nq Z J Z Z) (Zc 3 Z (Af Z (λh3=>?_) (λh3=>?_))))
  ·exact absurd (TP lf es).symm h3
  refine Z4 10 [2,3,6] H Z ?_;intro w H;refine Zl [6,3] H Z ?_;exact ⟨_,⟨.slice s ((kL es).length) m,.slice u ((vL es).length) t,Z,Z⟩,H.perm 8 [0,1,7,5] Z Z⟩
 refine Z2 13 [1,0,0] H Z (Aq Z (call176 _) (MB (Fc ⟨lf,es⟩).body (λh q=>q.rd U U (by rw[Aee,Aef,b];omega) (by rw[Aeu,AeP,AeF (by rw[Aef,b])])) lf (kL es) (vL es) O (by simpa using e.len) (λx o=>by have:=a.k x o;omega) (λy r=>by have:=a.v y r;omega) Z) H.f1 ?_);rintro _ w _ ⟨l,f,rfl,rfl⟩ H;replace H:=(H.mono 1 (B:=grow 3 1 f ((vL es).length) ((vL es).map I)) Z (λh q=>by rw[show (vL es).length=(kL es).length by simp];exact q)).l7;have c:=H.sy 0 (·.slc);have d:=H.sy 1 (·.slc);refine Za 3 [] H Z ?_;intro b8 w H;obtain ⟨a1,j,rfl⟩:=c;obtain ⟨g,i,rfl⟩:=d;refine Z4 11 [0,0,3] H Z ?_;intro w H;refine z_E_ Z (call177 _) (CT (kL es) (vL es) (λh q=>q.rd) (λh q=>q.rd) a) H.f2.f2 ?_;intro w H;refine Z2 8 [4,0,2,0,0,4,0,0] H Z (Ab Z (Nq Z J Z Z) (Zc 3 Z (Af Z (λh4=>?_) (λh4=>?_))))
 ·exact absurd (TP lf es).symm h4
 refine Z4 10 [2,3,6] H Z ?_;intro w H;refine Zl [6,3] H Z ?_;exact ⟨_,⟨.slice a1 ((kL es).length) j,.slice g ((vL es).length) i,Z,Z⟩,H.perm 8 [0,1,7,5] Z Z⟩
theorem TInv.vok{f:Nat}{N:Hm}(I_:TInv n f N C R)(c:1<=f)(b:n<=1024){p:Nat}{lf:Bool}{es:List E}(h:N p=some (.nd ⟨lf,es⟩)):CkN lf (kL es) (vL es):=
 CkN.of (I_.nds p _ h).1 (λv a=>by have:=(I_.nds p _ h).2.2 v a;omega)
theorem HT(pp mb n:Nat)(o:TB)(T:TT)(p:Nat)(lf:Bool)(es:List E)(hN:Dk o T p=some (.nd ⟨lf,es⟩)):
  Cn prog 132 [Y pp,I (p:Int)] [trA Tb pp mb n o T] (λv Γ=>∃e d:Value,v=.tuple #[.agg #[.bool lf,e,d],I 0]/\Γ=[grow 3 1 e (kL es).length ((kL es).map I),grow 3 1 d (vL es).length ((vL es).map I),trA Tb pp mb n o T]):=by
 intro z R w H;have K:=H.says 0 Z (λh a=>trA.k a);obtain ⟨M0,u,⟨_,_,_,j⟩,H,c⟩:=H.trP;obtain ⟨X,b,H⟩:=H.po;have r:=K.i.nin p _ hN;have hq:Fc ⟨lf,es⟩=Ej X.G.M (TM X.g u) p:=by
  have f:=(j p _ hN).1
  cases u with
  | none=>exact f.symm.trans (b.m0 p (.inr U))
  | some T'=>exact f.symm.trans ((b.tx T' Z).m p (.inr U))
 refine Ret.mono (Cn.at (ZA pp X.ps X.pc X.pa X.pd n u.isSome X.D X.G (TM X.g u) p lf es (by rw[b.pg];omega) b.fine.clean.f1 hq (K.i.nds p _ hN).1 (K.i.vok U b.hn.2 hN)) H 7 [0,1,2,3,4,5,6] Z Z) ?_;rintro v q ⟨Γ',⟨e,d,rfl,rfl⟩,l⟩;have H3:=l.pick 9 [2,3,4,5,6,7,8,0,1] Z;have H4:=c _ _ (H3.toPo (X:=X) b Z);exact ⟨_,⟨e,d,Z,Z⟩,H4.pick 3 [1,2,0] Z⟩
theorem Kg{a vs:List Int}(h:a.length=vs.length)(c:a.length<=8):0+240*1<=(A5 (AJ (Ga b a vs)) t).length:=by
 have hp:=AS (l:=Ga b a vs) (by rw[Gu h];omega);unfold A5;rw[Aee,Aef];omega
theorem LZ{a vs:List Int}(h:a.length=vs.length)(c:a.length<=8):((A5 (AJ (Ga b a vs)) t).drop 0).take (240*1)=(G9 b a vs).map u8:=by
 have hp:=AS (l:=Ga b a vs) (by rw[Gu h];omega);unfold A5 G9;rw[Aeu,AeP,Aet (by rw[Aef];omega),<-Afp,Aeu]
theorem L6(lf:Bool){j:Value}(b vs:List Int){B:Ai}(f:∀h,A h->rdH 1 u b.length (b.map I) h)(e:∀h,B h->rdH 1 j vs.length (vs.map I) h)(a:CkN lf b vs):Cn prog 180 [.agg #[.bool lf,u,j]] [A,B] (λv Γ=>∃d:Nat,v=.tuple #[.agg #[I (if lf=true then 4 else 3),.slice (some ⟨d,0,none⟩) 240 240],I 0]/\Γ=[blk d (A5 (AJ (Ga lf b vs)) ((2+6*b.length:Nat):Int)) 167,A,B]):=by
 intro z R w H;obtain ⟨r,t,rfl⟩:=H.sy 0 (λq=>(f _ q).slc);obtain ⟨va,s,rfl⟩:=H.sy 1 (λq=>(e _ q).slc);have c:=a.len;have i:=a.l8;refine Ae func180 Z ntmps180 Z (Za 2 [] H Z ?_);intro b1 w H;refine Za 0 [] H Z ?_;intro p w H;refine Z2 7 [1,3] H Z (z_E_ Z (call177 _) (CT b vs f e a) H.f3.f3 ?_);intro w H;refine Z2 9 [4,3,3] H Z (Aq Z (call217 _) (Tw lf b vs f e c i (λx n=>by have:=a.k x n;omega) (λy o=>by have:=a.v y o;omega)) H ?_);rintro _ w _ ⟨d,rfl,rfl⟩ H;refine Z2 24 [4,0,4,0] H Z (Ep Z (λg=>?_) (λg=>?_))
 ·refine Z4 9 [3] H Z ?_;intro w H;refine Zl [3,2] H Z ?_;exact ⟨_,⟨d,(by rw[if_pos g]),Z⟩,H.perm 5 [0,1,2] Z Z⟩
 refine Z4 11 [3] H Z ?_;intro w H;refine Zl [3,2] H Z ?_;exact ⟨_,⟨d,(by rw[if_neg (by rw[g];decide)]),Z⟩,H.perm 5 [0,1,2] Z Z⟩
end
section
variable{Tb:Ai}
variable{n:Nat}{t:TS}{R:List Nat}{a:Nat}{lf:Bool}{es:List E}
theorem Wj(I_:TInv n i t.N t.C (a::(vals es++R)))(h:t.C a=1)(hN:t.N a=none)(f:(Nd.mk lf es).Ok)(c:(vals es).Nodup)(l:Bd t.N j es p X)(e:lf=decide (j=0))(r:B3 s p es)(o:m<=es.length):
  TInv n i (fup t.N a (some (.nd ⟨lf,es⟩))) t.C (a::R)/\Tr (fup t.N a (some (.nd ⟨lf,es⟩))) j a s p m X/\(∀q d,t.N q=some (.nd d)->a∉vals d.es)/\a∉R:=by
 have b:∀q d,t.N q=some (.nd d)->a∉vals d.es:=λq d hq=>I_.noref (by simp;omega) hq;have g:=IA I_ h;simp only[Aep,not_or] at g;have k:Tr (fup t.N a (some (.nd ⟨lf,es⟩))) j a s p m X:=Tr.iff.2 ⟨es,by rw[BK,e],o,r,by rw[<-e];exact f,l.fup b g.1⟩;exact ⟨(I_.close (d:=⟨lf,es⟩) h hN f c ⟨_,_,_,_,_,k⟩).1,k,b,g.2⟩
theorem K8(I_:TInv n i t.N t.C (vals es++R))(h:t.C a=0)(o:i<=a/\a<n)(f:(Nd.mk lf es).Ok)(c:(vals es).Nodup)(l:Bd t.N j es p X)(e:lf=decide (j=0))(u:B3 s p es)(r:m<=es.length):
  TInv n i (fup t.N a (some (.nd ⟨lf,es⟩))) (fup t.C a 1) (a::R)/\Tr (fup t.N a (some (.nd ⟨lf,es⟩))) j a s p m X/\(∀q d,t.N q=some (.nd d)->a∉vals d.es)/\a∉R:=by
 have b:∀q d,t.N q=some (.nd d)->a∉vals d.es:=λq d hq=>I_.noref U hq;have g:=TO I_ h;simp only[Aep,not_or] at g;have k:Tr (fup t.N a (some (.nd ⟨lf,es⟩))) j a s p m X:=Tr.iff.2 ⟨es,by rw[BK,e],r,u,by rw[<-e];exact f,l.fup b g.1⟩;exact ⟨(I_.fresh (d:=⟨lf,es⟩) h o f c ⟨_,_,_,_,_,k⟩).2.1,k,b,g.2⟩
structure OwnP(t t':TS)(es:List E)(R:List Nat)(a:Nat):Prop where
 N0:t'.N a=none
 C1:t'.C a=1
 st:St t t' R 1 1
 fv:∀c∈vals es,∀h lo hi m L,Tr t.N h c lo hi m L->Tr t'.N h c lo hi m L
 dv:∀c∈vals es,∀b,t.N c=some (.dt b)->t'.N c=some (.dt b)
 sub:∀q d,t'.N q=some (.nd d)->t.N q=some (.nd d)
theorem OwnP.bd{t':TS}(O_:OwnP t t' es R a){h:Nat}{hi:Int}{L:List E}(q:Bd t.N h es hi L):Bd t'.N h es hi L:=by
 cases h with
 | zero=>exact ⟨q.1,λe c=>by obtain ⟨b,d⟩:=q.2 e c;exact ⟨b,O_.dv _ (Aez c) b d⟩⟩
 | succ h=>exact Sq.imp q λe c _ _ r=>O_.fv _ (Aez c) _ _ _ _ _ r
theorem QK{N:Hm}{a:Nat}:∀q d,fup N a none q=some (.nd d)->N q=some (.nd d):=λq d h=>by
 by_cases e:q=a
 ·subst e;rw[BK] at h;cases h
 rwa[fup_ne _ _ e] at h
theorem TQ{N:Hm}{a:Nat}(h:m≠a)(q:N m=some (.dt B)):fup N a none m=some (.dt B):=by rw[fup_ne _ _ h];exact q
theorem L7(I_:TInv n i t.N t.C (a::R))(g:t.C a=1)(hN:t.N a=some (.nd ⟨lf,es⟩)):OwnP t {t with N:=fup t.N a none} es R a:=by
 have f:=I_.opens g hN;have k:=IA f.1 g;have j:∀c∈vals es,c≠a:=λc d e=>k (Agm _ (by rw[<-e];exact d));have l:a∉R:=λq=>k (AgC _ q);exact ⟨BK _ _ _,g,(St.one f.2 l O (λ_ q=>q) U U (λ_ _ _ y=>y)),λc d h lo hi m L q=>q.fup f.2 (j c d),λc d b q=>TQ (j c d) q,QK⟩
structure OwI(t:TS)(es:List E)(i:Nat)(C:Nat->Nat):Prop where
 i:i<=es.length
 ge:∀q,t.C q<=C q
 same:∀q,q∉vals es->C q=t.C q
theorem OwI.next{e:E}(I_:OwI t es i C)(a:es[i]?=some e):OwI t es (i+1) (fup C e.2 (C e.2+1)):=by
 refine ⟨(Aeb.1 a).1,λq=>?_,λq hq=>?_⟩
 ·have:=I_.ge q
  unfold fup;split
  ·rename_i h;subst h;omega
  exact this
 rw[fup_ne _ _ (λh=>hq (by rw[h];exact Aez (Aec a)))];exact I_.same q hq
theorem Wk{e:E}(a:es[i]?=some e):((vals es).take (i+1)).reverse=e.2::((vals es).take i).reverse:=by
 rw[AeN];simp[vals,a]
theorem ZB(I_:TInv n i t.N t.C (a::R))(hN:t.N a=some (.nd ⟨lf,es⟩))(hc:t.C j=0)(w:OwI ⟨fup t.N j none,fup t.C j 1,F,g⟩ es es.length C)(z:∀p,F p=true->t.F p=true)(hf:cnt t.F 0 1024=cnt F 0 1024+1)(hk:g<=t.k+1):
  OwnP t ⟨fup t.N j none,fup C a (C a-1),F,g⟩ es R j:=by
 have s:j≠a:=λe=>by have:=I_.pos (p:=a) O;rw[e] at hc;omega
 have c:∀q d,t.N q=some (.nd d)->j∉vals d.es:=λq d hq=>I_.noref U hq;have l:j∉R:=λh=>by have:=I_.pos (p:=j) (by simp[h]);omega
 have y:∀q∈vals es,q≠j:=λq hq e=>c _ _ hN (by rw[<-e];exact hq);refine ⟨BK _ _ _,?_,St.one c l O z U hk (λq hq f v=>?_),λq hq h lo hi m L x=>x.fup c (y q hq),λq hq b x=>TQ (y q hq) x,QK⟩
 ·show fup C a (C a-1) j=1
  rw[fup_ne _ _ s,w.same j (c _ _ hN)];exact BK _ _ _
 have r:q≠a:=λe=>by rw[e,hN] at f;cases f
 have u:q∉vals es:=I_.noref (a:=q) (by
  have:=Agv.2 hq;rw[Afc];omega) hN
 have o:q≠j:=λe=>by rw[e] at v;omega
 show fup C a (C a-1) q=1;rw[fup_ne _ _ r,w.same q u];show fup t.C j 1 q=1;rw[fup_ne _ _ o];exact v
theorem F4(pp mb n:Nat)(o:TB)(t:TS)(Q:List Nat)(a:Nat)(lf:Bool){vv:Value}(es:List E){B:Ai}(hA:∀h,A h->rdH 1 u (kL es).length ((kL es).map I) h)(hB:∀h,B h->rdH 1 vv (vL es).length ((vL es).map I) h)(h:Nat)(lo hi:Int)(m:Nat)(L:List E)(j:Bd t.N h es hi L)(f:lf=decide (h=0))(e:B3 lo hi es)(hm:m<=es.length)(b:(Nd.mk lf es).Ok)(c:(vals es).Nodup)(hC:t.C a=1)(hN:t.N a=none)(hk:t.k<40):Cn prog 183 [Y pp,I (a:Int),.agg #[.bool lf,u,vv]] [trA Tb pp mb n o (some (t,a::(vals es++Q))),A,B] (λv Γ=>∃t2:TS,(St t t2 Q 0 1/\Tr t2.N h a lo hi m L/\t2.C=t.C/\t2.N=fup t.N a (some (.nd ⟨lf,es⟩)))/\v=I 0/\Γ=[trA Tb pp mb n o (some (t2,a::Q)),A,B]):=by
 intro z R w H;have K:=H.says 0 Z (λh a=>trA.k a);have hn:=K.hn;obtain ⟨ka,kc,rfl⟩:=H.sy 1 (λq=>(hA _ q).slc);obtain ⟨va,vc,rfl⟩:=H.sy 2 (λq=>(hB _ q).slc);obtain ⟨x,d,l,p⟩:=Wj K.i hC hN b c j f e hm;have r:=K.i.rin a (by simp[CU]);have g:CkN lf (kL es) (vL es):=CkN.of b (λv hv=>by have:=K.i.rin v (by simp[CU,hv]);omega);refine Ae func183 Z ntmps183 Z (Za 2 [] H Z ?_);intro b1 w H;refine Z2 6 [0,3] H Z (Aq Z (call180 _) (L6 lf (kL es) (vL es) hA hB g) H.f3.f3 ?_);rintro _ w _ ⟨pw,rfl,rfl⟩ H;refine Za 3 [] H Z ?_;intro b2 w H;refine Z4 19 [0,4,0,2] H Z ?_;intro w H;refine Aq Z (call169 _) (Zz pp mb n o t (a::Q) a (Fc ⟨lf,es⟩) (Jy b.len) (λh q=>q.rd U U (Kg O (by simpa using b.len)) (LZ O (by simpa using b.len))) hk (.nd ⟨lf,es⟩) Z ⟨by omega,r.2⟩ U x) H.f1.f5 ?_;rintro _ w _ ⟨k2,s,rfl,rfl⟩ H;refine Zc 4 Z (Zr Z ?_);exact ⟨_,⟨_,⟨St.one l p O (λ_ q=>q) U s (λ_ _ _ y=>y),d,Z,Z⟩,Z,Z⟩,H.perm 6 [0,3,4] Z Z⟩
theorem HU(pp mb n:Nat)(o:TB)(t:TS)(Q:List Nat)(lf:Bool){vv:Value}(es:List E){B:Ai}(hA:∀h,A h->rdH 1 u (kL es).length ((kL es).map I) h)(hB:∀h,B h->rdH 1 vv (vL es).length ((vL es).map I) h)(h:Nat)(lo hi:Int)(m:Nat)(L:List E)(l:Bd t.N h es hi L)(j:lf=decide (h=0))(g:B3 lo hi es)(hm:m<=es.length)(b:(Nd.mk lf es).Ok)(d:(vals es).Nodup)(hk:t.k<40):Cn prog 139 [Y pp,.agg #[.bool lf,u,vv]] [trA Tb pp mb n o (some (t,vals es++Q)),A,B] (λv Γ=>(cnt t.F 0 1024=0/\v=.tuple #[I 0,I 20]/\Γ=[trA Tb pp mb n o (some (t,vals es++Q)),A,B])\/∃(t2:TS) (a:Nat),(St t t2 Q 1 1/\Tr t2.N h a lo hi m L/\∀q∈Q,t2.N q=t.N q/\t2.C q=t.C q)/\v=.tuple #[I (a:Int),I 0]/\Γ=[trA Tb pp mb n o (some (t2,a::Q)),A,B]):=by
 intro z R w H;have K:=H.says 0 Z (λh a=>trA.k a);have hn:=K.hn;obtain ⟨ka,kc,rfl⟩:=H.sy 1 (λq=>(hA _ q).slc);obtain ⟨va,vc,rfl⟩:=H.sy 2 (λq=>(hB _ q).slc);have s:CkN lf (kL es) (vL es):=CkN.of b (λv hv=>by have:=K.i.rin v (by simp[CU,hv]);omega);refine Ae func139 Z ntmps139 Z (Za 2 [] H Z ?_);intro b1 w H;refine Z2 7 [0,3] H Z (Aq Z (call180 _) (L6 lf (kL es) (vL es) hA hB s) H.f3.f3 ?_);rintro _ w _ ⟨pw,rfl,rfl⟩ H;refine Za 3 [] H Z ?_;intro b2 w H;refine Z4 18 [0,4,0,2] H Z ?_;intro w H;refine Aq Z (call82 _) (OM pp mb n o t _ Q (Fc ⟨lf,es⟩) (Jy b.len) (λh q=>q.rd U U (Kg O (by simpa using b.len)) (LZ O (by simpa using b.len))) hk (some (.nd ⟨lf,es⟩)) (λq hq=>by cases hq;rfl) (λa h1 h2 h3=>(K8 K.i h3 ⟨h1,h2⟩ b d l j g hm).1)) H.f1.f5 ?_;rintro _ w _ (⟨f,rfl,rfl⟩|⟨a,F,k2,⟨p,x,a4,a1,a5,a2,a3⟩,rfl,rfl⟩) H'
 ·have H:=H'.l6;refine Zc 7 Z (Zr Z ?_);exact ⟨_,.inl ⟨f,Z,Z⟩,H.perm 6 [0,3,4] Z Z⟩
 have H:=H'.l6;obtain ⟨a6,r,a0,c⟩:=K8 K.i x ⟨p.1,p.2⟩ b d l j g hm;refine Zc 7 Z (Zr Z ?_);exact ⟨_,.inr ⟨_,a,⟨St.one a0 c O a1 U a2 (λq hq _ y=>(fup_ne _ _ (λe=>c (by rw[<-e];exact hq))).trans y),r,λq hq=>⟨fup_ne _ _ (λe=>c (by rw[<-e];exact hq)),fup_ne _ _ (λe=>c (by rw[<-e];exact hq))⟩⟩,Z,Z⟩,H.perm 6 [0,3,4] Z Z⟩
theorem Wl(pp mb n:Nat)(o:TB)(t:TS)(Q:List Nat)(lf:Bool)(es:List E){B:Ai}(p:∀h,A h->rdH 1 u (kL es).length ((kL es).map I) h)(m:∀h,B h->rdH 1 y (vL es).length ((vL es).map I) h)(b:(Nd.mk lf es).Ok)(f:CkN lf (kL es) (vL es))(hk:t.k<40):Cn prog 139 [Y pp,.agg #[.bool lf,u,y]] [trA Tb pp mb n o (some (t,Q)),A,B] (λv Γ=>(cnt t.F 0 1024=0/\v=.tuple #[I 0,I 20]/\Γ=[trA Tb pp mb n o (some (t,Q)),A,B])\/∃(a:Nat) (F:Nat->Bool) (e:Nat),(t.C a=0/\(∀q,F q=true->t.F q=true)/\e<=t.k+1/\cnt t.F 0 1024=cnt F 0 1024+1)/\v=.tuple #[I (a:Int),I 0]/\Γ=[trA Tb pp mb n o (some (⟨fup t.N a none,fup t.C a 1,F,e⟩,a::Q)),A,B]):=by
 intro z R w H;have K:=H.says 0 Z (λh a=>trA.k a);obtain ⟨ka,kc,rfl⟩:=H.sy 1 (λq=>(p _ q).slc);obtain ⟨va,vc,rfl⟩:=H.sy 2 (λq=>(m _ q).slc);refine Ae func139 Z ntmps139 Z (Za 2 [] H Z ?_);intro b1 w H;refine Z2 7 [0,3] H Z (Aq Z (call180 _) (L6 lf (kL es) (vL es) p m f) H.f3.f3 ?_);rintro _ w _ ⟨pw,rfl,rfl⟩ H;refine Za 3 [] H Z ?_;intro b2 w H;refine Z4 18 [0,4,0,2] H Z ?_;intro w H;refine Aq Z (call82 _) (OM pp mb n o t _ Q (Fc ⟨lf,es⟩) (Jy b.len) (λh q=>q.rd U U (Kg O (by simpa using b.len)) (LZ O (by simpa using b.len))) hk none (λq hq=>by cases hq) (λa s h2 h3=>TInv.take K.i h3 ⟨s,h2⟩)) H.f1.f5 ?_;rintro _ w _ (⟨c,rfl,rfl⟩|⟨a,F,e,⟨a1,g,x,j,a0,l,d⟩,rfl,rfl⟩) r
 ·have H:=r.l6;refine Zc 7 Z (Zr Z ?_);exact ⟨_,.inl ⟨c,Z,Z⟩,H.perm 6 [0,3,4] Z Z⟩
 have H:=r.l6;refine Zc 7 Z (Zr Z ?_);exact ⟨_,.inr ⟨a,F,e,⟨g,j,l,d⟩,Z,Z⟩,H.perm 6 [0,3,4] Z Z⟩
end
section
variable{Tb:Ai}
theorem ZC(es:List E)(c a:Nat)(Q:List Nat):(((vals es).take es.length).reverse++(c::a::Q)).Perm (a::c::(vals es++Q)):=by
 rw[Aej (by simp[vals])];have e:((vals es).reverse++(c::a::Q)).Perm (vals es++(c::a::Q)):=Afw _ (List.reverse_perm _);refine e.trans ?_;have b:(vals es++(c::a::Q)).Perm ((c::a::Q)++vals es):=Af5;refine b.trans ?_;have d:((c::a::Q)++vals es).Perm (a::c::(Q++vals es)):=by
  simp only[AfB];exact AfX _ _ _
 exact d.trans (Afk _ (Afk _ Af5))
set_option maxHeartbeats 1000000 in
theorem Jz (pp mb n:Nat) (o:TB) (t:TS) (Q:List Nat) (a:Nat) (lf:Bool) (es:List E) (hN:t.N a=some (.nd ⟨lf,es⟩)) (hk:t.k<40) (hb:Q.length+n<=980):Cn prog 181 [Y pp,I (a:Int)] [trA Tb pp mb n o (some (t,a::Q))] (λv Γ=>(cnt t.F 0 1024=0/\∃(b d:Value) (s:TS×List Nat),v=.tuple #[I 0,.agg #[.bool lf,b,d],I 20]/\Γ=[grow 3 1 b (kL es).length ((kL es).map I),grow 3 1 d (vL es).length ((vL es).map I),trA Tb pp mb n o (some s)])\/∃(t2:TS) (c:Nat) (b d:Value),OwnP t t2 es Q c/\v=.tuple #[I (c:Int),.agg #[.bool lf,b,d],I 0]/\Γ=[grow 3 1 b (kL es).length ((kL es).map I),grow 3 1 d (vL es).length ((vL es).map I),trA Tb pp mb n o (some (t2,c::(vals es++Q)))]):=by
 intro z R w H;replace H:=H.l1;have K:=H.says 0 Z (λh a=>trA.k a);have hn:=K.hn;have c1:=K.i.nin a _ hN;have b4:CkN lf (kL es) (vL es):=K.i.vok U hn.2 hN;have a6:=(K.i.nds a _ hN).1;have b5:=(K.i.nds a _ hN).2.2;have a7:=K.i.pos (p:=a) (by simp[CU]);have a7:1<=t.C a:=a7;refine Ae func181 Z ntmps181 Z (Za 3 [] H Z ?_);intro b1 w H;refine Zc 7 Z (Aq Z (call132 _) (HT pp mb n o (some (t,a::Q)) a lf es hN) H.f1 ?_);rintro _ w _ ⟨b,d,rfl,rfl⟩ H;replace H:=H.l4;have y:=H.sy 0 (·.slc);have a0:=H.sy 1 (·.slc);refine Za 3 [] H Z ?_;intro b2 w H;refine Az Z Z (Ak 0 H Z Z Z Z (vs:=[.bool lf,b,d]) Z (Ad Z (Ad y.one (Ad a0.one Aw))) J O (out:=[.bool lf,b,d]) Z) ?_;rintro w H;replace H:=H.l5;refine Z0 11 [4] Z (z_E_ Z (call138 _) (LY pp mb n o a U) H.f3 ?_);intro w H;replace H:=H.l5;refine AD 24 (v:=I (t.C a:Int)) Z Z (Z0 4 [0] Z (Af Z (λh1=>?_) (λh1=>?_)))
 ·refine Zc 1 Z ?_;replace H:=H.f1;refine AN (Sep z (blk b2 [.bool lf,b,d] 201::R)) 6 Z J (AZ H λw x=>?_)
  have H:=x.l5;refine AT [0,1,2,3] [0,3] [] (by exact H.pick 5 [0] Z) Z J Z (AC [4] J O (Am (Bi Z Z Z (Ak 4 H Z Z Z Z (vs:=[.bool lf,b,d]) Z (Ad Z (Ad y.one (Ad a0.one Aw))) J O (out:=[.bool lf,b,d]) Z) ?_)));rintro w H;replace H:=H.l5;refine Av (H.pick 5 [0] Z) (AT [5] [] [] (by exact H.pick 5 [0] Z) Z J Z (a_done J (gn (Zc 2 Z (Zl [4,3] H Z ?_)))));replace H:=(H.mono 1 (B:=trA Tb pp mb n o (some ({t with N:=fup t.N a none},a::(vals es++Q)))) Z (λh q=>q.opens U hN)).l5;exact ⟨[grow 3 1 b ((kL es).length) ((kL es).map I),grow 3 1 d ((vL es).length) ((vL es).map I),trA Tb pp mb n o (some ({t with N:=fup t.N a none},a::(vals es++Q)))],.inr ⟨_,a,b,d,L7 K.i U hN,Z,Z⟩,H.perm 5 [2,3,1] Z Z⟩
 refine Z2 6 [1,3] H Z (Aq Z (call139 _) (Wl pp mb n o t (a::Q) lf es (λh q=>q.rd) (λh q=>q.rd) a6 b4 hk) H.f3.f3.f2 ?_);rintro _ w _ (⟨a1,rfl,rfl⟩|⟨c,F,k2,⟨a4,b6,b8,b0⟩,rfl,rfl⟩) x
 ·have H:=x.l5;refine Z0 16 [3] Z ?_;replace H:=H.f3;refine AN (Sep z (blk b2 [.bool lf,b,d] 201::R)) 5 Z J (AZ H λw x=>?_)
  have H:=x.l5;refine AT [0,1,2] [0,3] [] (by exact H.pick 5 [0] Z) Z J Z (AC [3] J O (Am (Bi Z Z Z (Ak 4 H Z Z Z Z (vs:=[.bool lf,b,d]) Z (Ad Z (Ad y.one (Ad a0.one Aw))) J O (out:=[.bool lf,b,d]) Z) ?_)));rintro w H;replace H:=H.l5;refine Av (H.pick 5 [0] Z) (AT [4] [] [] (by exact H.pick 5 [0] Z) Z J Z (a_done J (gn (Zc 2 Z (Zl [4,3] H Z ?_)))));exact ⟨[grow 3 1 b ((kL es).length) ((kL es).map I),grow 3 1 d ((vL es).length) ((vL es).map I),trA Tb pp mb n o (some (t,a::Q))],.inl ⟨a1,b,d,_,Z,Z⟩,H.perm 5 [2,3,1] Z Z⟩
 have H:=x.l5;refine Z0 19 [4] Z ?_;obtain ⟨l,m,rfl⟩:=y;obtain ⟨f,g,rfl⟩:=a0;refine Z2 8 [2,3,0] H Z ?_;refine AB (σ:=Nat×(Nat->Nat)) (λ⟨i,C⟩=>[(43,I (i:Int)),(0,Y pp),(1,I (a:Int)),(5,Y b1),(7,Y b2),(9,I (c:Int)),(41,.slice f ((vL es).length) g),(42,I (((vL es).length:Nat):Int))])
   (λ⟨i,C⟩ w=>Sep z (trA Tb pp mb n o (some (⟨fup t.N c none,C,F,k2⟩,((vals es).take i).reverse++(c::a::Q)))::grow 3 1 (.slice l ((kL es).length) m) ((kL es).length) ((kL es).map I)::grow 3 1 (.slice f ((vL es).length) g) ((vL es).length) ((vL es).map I)::blk b2 [.bool lf,.slice l ((kL es).length) m,.slice f ((vL es).length) g] 201::blk b1 [.bool false,.slice none 0 0,.slice none 0 0] 201::R) w/\(OwI ⟨fup t.N c none,fup t.C c 1,F,k2⟩ es i C)) (λ⟨i,C⟩=>es.length-i) ⟨0,fup t.C c 1⟩
   fr_z ⟨(by simpa using H),⟨AeO _,λ_=>Aei _,λ_ _=>rfl⟩⟩ ?_
 clear H;rintro ⟨i,C⟩ w ⟨x,hI⟩;dsimp only at hI x ⊢;have H:=x.l5;have hI:=hI;have c0:=hI.i;refine Z0 6 [0] Z (Af Z (λh2=>?_) (λh2=>?_))
 ·have a3:i<es.length:=by simp only[Aef] at h2;omega
  obtain ⟨e,he⟩:∃e,es[i]?=some e:=⟨_,Aed a3⟩;have a2:e.2∈vals es:=Aez (Aec he);have b3:=b5 e.2 a2;have b7:1<=C e.2:=by
    have h1:=hI.ge e.2;have h2:=K.i.posE hN a2;have h3:fup t.C c 1 e.2<=C e.2:=h1;have h4:1<=t.C e.2:=h2;unfold fup at h3;split at h3<;>omega
  have a5:=a6.len;dsimp only at a5;refine Zc 6 Z ?_;have a9:=(H.rv 2 (·.rd)).at (j:=i) (u:=I (e.2:Int)) (by simp[he]);refine Ab Z (Aj Z (z:=1) (j:=i) (r:=i) J Z Z Z U a9 U) (Ab Z (Ax Z Z J (Ay a9)) (Zc 7 Z (z_E_ Z (call146 _) (XC pp mb n o _ _ e.2 ⟨by omega,b3.2⟩ b7 (by simp only[Aee,List.length_reverse,Aex,Aeg];omega)) H ?_)));intro w H;refine Z1 17 [4] [(i:Int)+1] Z U (gf ?_);intro _ hF;refine ⟨⟨i+1,fup C e.2 (C e.2+1)⟩,hF.cz,⟨(by rw[Wk he];exact H),?_⟩,?_⟩
  ·exact hI.next he
  (dsimp only;omega)
 obtain rfl:i=es.length:=by simp only[Aef] at h2;omega
 have a8:2<=C a:=by
   have h1:fup t.C c 1 a<=C a:=hI.ge a;have h2:c≠a:=λe=>by rw[e] at a4;omega
   rw[fup_ne _ _ (AfS h2)] at h1;omega
 refine Zc 2 Z (gx (Zc 3 Z ?_));replace H:=(H.mono 0 (B:=trA Tb pp mb n o (some (⟨fup t.N c none,C,F,k2⟩,a::c::(vals es++Q)))) Z (λh q=>q.perm (ZC es c a Q))).l5;replace H:=H.f3;refine AN (Sep z (blk b2 [.bool lf,.slice l ((kL es).length) m,.slice f ((vL es).length) g] 201::R)) 8 Z J (AZ H λw x=>?_);have H:=x.l5;refine AT [0,1,2,3] [0,3] [] (by exact H.pick 5 [0] Z) Z J Z (AC [4] J O (Am (Bo Z Z Z Z Z Z (λw=>call142 _ w) (QJ pp mb n o _ _ a a8) H.f1 Z ?_)));rintro _ w _ ⟨rfl,rfl⟩ H;replace H:=H.l5;refine Av (H.pick 5 [1] Z) (AT [5] [] [] (by exact H.pick 5 [1] Z) Z J Z (AC [6] J O (Am (Bi Z Z Z (Ak 4 H Z Z Z Z (vs:=[.bool lf,.slice l ((kL es).length) m,.slice f ((vL es).length) g]) Z (by simp[u8,u32,Value.oneCell']) J O (out:=[.bool lf,.slice l ((kL es).length) m,.slice f ((vL es).length) g]) Z) ?_))));rintro w H;replace H:=H.l5;refine Av (H.pick 5 [1] Z) (AT [7] [] [] (by exact H.pick 5 [1] Z) Z J Z (a_done J (gn (Zc 2 Z (Zl [4,3] H Z ?_)))));exact ⟨[grow 3 1 (.slice l ((kL es).length) m) ((kL es).length) ((kL es).map I),grow 3 1 (.slice f ((vL es).length) g) ((vL es).length) ((vL es).map I),trA Tb pp mb n o (some (⟨fup t.N c none,fup C a (C a-1),F,k2⟩,c::(vals es++Q)))],.inr ⟨_,c,.slice l ((kL es).length) m,.slice f ((vL es).length) g,ZB K.i hN a4 hI b6 b0 b8,Z,Z⟩,H.perm 5 [2,3,0] Z Z⟩
end
section
abbrev gK(v:Value)(es:List E):Ai:=grow 3 1 v (kL es).length ((kL es).map (Value.int .i64))
abbrev gV(v:Value)(es:List E):Ai:=grow 3 1 v (vL es).length ((vL es).map (Value.int .i64))
abbrev Gn(A:Ai)(kv:Value)(es:List E):Prop:=∀h,A h->rdH 1 kv (kL es).length ((kL es).map (Value.int .i64)) h
abbrev Gp(B:Ai)(vv:Value)(es:List E):Prop:=∀h,B h->rdH 1 vv (vL es).length ((vL es).map (Value.int .i64)) h
abbrev DC(lf:Bool)(k v:Value):Value:=.agg #[.bool lf,k,v]
theorem TR{B:List E}(b:∀e∈X,e.1<s)(d:∀e,B.head?=some e->s<=e.1):FdI (kL (X++B)) s X.length:=by
 refine ⟨by simp,λj x c a=>?_,λx a=>?_⟩
 ·simp only[kL,Aeo,Aem c] at a
  cases h:X[j]? with
  | none=>rw[h] at a;cases a
  | some e=>rw[h] at a;simp at a;subst a;exact b e (Aec h)
 simp only[kL,Aeo,Aes (Aei _),AgD] at a
 cases B with
 | nil=>simp at a
 | cons e t=>simp at a;subst a;exact d e Z
theorem fd_cases{es:List E}(h:Srt es)(key:Int):(∃X v Y_,es=X++(key,v)::Y_/\(∀e∈X,e.1<key)/\FdI (kL es) key X.length/\(kL es)[X.length]?=some key)\/(¬CE key es/\∃X Y_,es=X++Y_/\(∀e∈X,e.1<key)/\(∀e∈Y_,key<e.1)/\FdI (kL es) key X.length/\¬(kL es)[X.length]?=some key):=by
 rcases key_split h key with ⟨X,v,Y_,rfl,b⟩|⟨d,X,Y_,rfl,b,c⟩
 ·exact .inl ⟨X,v,Y_,Z,b,TR b (λe a=>by simp at a;subst a;exact Afm _),by simp[kL]⟩
 refine .inr ⟨d,X,Y_,Z,b,c,TR b (λe a=>?_),λq=>?_⟩
 ·cases Y_ with
  | nil=>cases a
  | cons y t=>simp at a;subst a;exact AgU (c y O)
 simp only[kL,Aeo,Aes (Aei _),AgD] at q
 cases Y_ with
 | nil=>simp at q
 | cons y t=>simp at q;have:=c y O;omega
theorem RY{lf:Bool}{es:List E}{B:Ai}(k:Gn A u es)(j:Gp B y es)(e:CkN lf (kL es) (vL es))(hs:Srt es)(key:Int)(val:Nat)(n:(0<=key/\key<1048576)/\1<=val/\val<1024)(d:CE key es\/es.length<8):
  Cn prog 218 [DC lf u y,I key,I (val:Int)] [A,B] (λv Γ=>∃g f:Value,v=.tuple #[DC lf g f,I 0]/\Γ=[gK g (putE key val es),gV f (putE key val es),A,B]):=by
 have a:(0<=key/\key<1048576)/\1<=(val:Int)/\(val:Int)<1024:=by omega
 rcases fd_cases hs key with ⟨X,v0,Y_,rfl,c,i,b⟩|⟨m,X,Y_,rfl,c,l,i,b⟩
 ·have h:=Zu lf u y A B k j e key (val:Int) a X.length i b
  have e1:kL (putE key val (X++(key,v0)::Y_))=kL (X++(key,v0)::Y_):=by rw[Ec c];simp[kL]
  have e2:vL (putE key val (X++(key,v0)::Y_))=(vL (X++(key,v0)::Y_)).set X.length (val:Int):=by
   rw[Ec c];simp[vL,AfZ]
  refine Cn.mono h ?_;rintro v Γ ⟨g,f,rfl,rfl⟩;refine ⟨g,f,Z,?_⟩;unfold gK gV;rw[e1,e2,AeU]
 have h:=Zw lf u y A B k j e key (val:Int) a X.length i b (by
  rcases d with q|q
  ·exact absurd q m
  simpa [kL] using q) (kL (putE key val (X++Y_))) (vL (putE key val (X++Y_))) (by rw[putE_new c l];simp[kL]) (by rw[putE_new c l];simp[vL])
 exact h
theorem AbT{lf:Bool}{es:List E}{B:Ai}(h:Gn A u es)(f:Gp B y es)(d:CkN lf (kL es) (vL es))(hs:Srt es)(key:Int)(val:Nat)(i:(0<=key/\key<1048576)/\1<=val/\val<1024)(c:¬CE key es)(j:es.length=8):
  Cn prog 218 [DC lf u y,I key,I (val:Int)] [A,B] (λv Γ=>v=.tuple #[DC false (.slice none 0 0) (.slice none 0 0),I 15]/\Γ=[A,B]):=by
 have b:(0<=key/\key<1048576)/\1<=(val:Int)/\(val:Int)<1024:=by omega
 rcases fd_cases hs key with ⟨X,v0,Y_,rfl,g,e,a⟩|⟨l,X,Y_,rfl,g,k,e,a⟩
 ·exact absurd ⟨v0,by simp⟩ c
 exact Zv lf u y A B h f d key (val:Int) b X.length e a (by simpa [kL] using j)
theorem OO{lf:Bool}{es:List E}{B:Ai}(f:Gn A u es)(d:Gp B y es)(h:es.length<=8)(hs:Srt es)(key:Int):
  Cn prog 133 [DC lf u y,I key] [A,B] (λv Γ=>(∃X v0 Y_,(es=X++(key,v0)::Y_/\∀e∈X,e.1<key)/\v=.tuple #[I (X.length:Int),.bool true]/\Γ=[A,B])\/(¬CE key es/\∃i:Nat,v=.tuple #[I (i:Int),.bool false]/\Γ=[A,B])):=by
 refine Cn.mono (Jx lf u y _ _ A B f d key (by simpa [kL] using h)) ?_;rintro v Γ ⟨i,hi,rfl,rfl⟩;rcases fd_cases hs key with ⟨X,v0,Y_,e,c,b,a⟩|⟨g,X,Y_,_,c,j,b,a⟩
 ·obtain rfl:=hi.uniq b
  exact .inl ⟨X,v0,Y_,⟨e,c⟩,by rw[decide_eq_true a],Z⟩
 obtain rfl:=hi.uniq b;exact .inr ⟨g,_,by rw[decide_eq_false a],Z⟩
theorem Md{lf:Bool}{es:List E}{B:Ai}(g:Gn A u es)(c:Gp B y es)(p:es.length<=8)(hs:Srt es)(b:es≠[])(key:Int):
  Cn prog 134 [DC lf u y,I key] [A,B] (λv Γ=>∃X e Y_,(es=X++e::Y_/\(X=[]\/e.1<=key)/\(∀x∈X,x.1<e.1)/\∀x∈Y_,key<x.1/\e.1<x.1)/\v=I (X.length:Int)/\Γ=[A,B]):=by
 refine Cn.mono (Wb lf u y A B g c key (by simpa [kL] using p)) ?_;rintro v Γ ⟨i,hi,rfl,rfl⟩;obtain ⟨X,e,Y_,f,k,r,s,n⟩:=PF hs b key;obtain ⟨U_,V,d,u2,m,o⟩:=GT hs key;have l:FcI (kL es) key U_.length:=by
  rw[d];refine ⟨by simp,λj x q a=>?_,λx a=>?_⟩
  ·simp only[kL,Aeo,Aem q] at a
   cases h:U_[j]? with
   | none=>rw[h] at a;cases a
   | some e=>rw[h] at a;simp at a;subst a;exact m e (Aec h)
  simp only[kL,Aeo,Aes (Aei _),AgD] at a
  cases V with
  | nil=>simp at a
  | cons e t=>simp at a;subst a;exact o e O
 obtain rfl:=hi.uniq l;refine ⟨X,e,Y_,⟨f,r,s,n⟩,?_,Z⟩;rw[k];unfold chI;rw[u2]
theorem AbU{lf:Bool}{Y_:List E}{e:E}{B:Ai}(g:Gn A u (X++e::Y_))(f:Gp B y (X++e::Y_))(b:CkN lf (kL (X++e::Y_)) (vL (X++e::Y_)))(a:CkN lf (kL (X++Y_)) (vL (X++Y_))):
  Cn prog 184 [DC lf u y,I (X.length:Int)] [A,B] (λv Γ=>∃d c:Value,v=.tuple #[DC lf d c,I 0]/\Γ=[gK d (X++Y_),gV c (X++Y_),A,B]):=
 QF lf u y A B g f b X.length (by simp[kL]) (kL (X++Y_)) (vL (X++Y_)) (by simp[kL,Ae6]) (by simp[vL,Ae6]) a
theorem ZD{lf:Bool}{B:Ai}(h:Gn A u X)(g:Gp B y X)(b:CkN lf (kL X) (vL X))(a:X.length=8):
  Cn prog 219 [DC lf u y] [A,B] (λv Γ=>∃d c e f:Value,v=.tuple #[DC lf d c,DC lf e f,I 0]/\Γ=[gK d (X.take 4),gV c (X.take 4),gK e (X.drop 4),gV f (X.drop 4),A,B]):=
 Wd lf u y A B h g b (by simp[kL,a]) (kL (X.take 4)) (vL (X.take 4)) (kL (X.drop 4)) (vL (X.drop 4)) (by simp[kL,a,Afp]) (by simp[kL,vL,a,Afp]) (by simp[kL,a,AfU]) (by simp[kL,vL,a,AfU])
theorem Wm{es1 es2:List E}(hs:Srt (es1++es2)):∀x y:Int,(kL es1)[(kL es1).length-1]?=some x->(kL es2)[0]?=some y->x<y:=λx y e f=>by
 obtain ⟨a,c,rfl⟩:=Aek.1 (Aec e);obtain ⟨b,d,rfl⟩:=Aek.1 (Aec f);exact (Srt.app.1 hs).2.2 a c b d
variable{lf:Bool}{kv1 vv1 kv2 vv2:Value}{es1 es2:List E}{A1 B1 A2 B2:Ai}
theorem AbV(c:Gn A1 kv1 es1)(d:Gp B1 vv1 es1)(e:Gn A2 kv2 es2)(f:Gp B2 vv2 es2)(b:CkN lf (kL es1) (vL es1))(a:CkN lf (kL es2) (vL es2))(hs:Srt (es1++es2))(i:es1.length+es2.length<=8):
  Cn prog 222 [DC lf kv1 vv1,DC lf kv2 vv2] [A1,B1,A2,B2] (λv Γ=>∃h g:Value,v=.tuple #[DC lf h g,I 0]/\Γ=[gK h (es1++es2),gV g (es1++es2),A1,B1,A2,B2]):=
 We lf kv1 vv1 A1 B1 c d kv2 vv2 A2 B2 e f b a (Wm hs) (by simpa [kL] using i) (kL (es1++es2)) (vL (es1++es2)) (by simp[kL]) (by simp[vL])
theorem joinF_e(c:Gn A1 kv1 es1)(d:Gp B1 vv1 es1)(e:Gn A2 kv2 es2)(f:Gp B2 vv2 es2)(b:CkN lf (kL es1) (vL es1))(a:CkN lf (kL es2) (vL es2))(hs:Srt (es1++es2))(g:8<es1.length+es2.length):
  Cn prog 222 [DC lf kv1 vv1,DC lf kv2 vv2] [A1,B1,A2,B2] (λv Γ=>v=.tuple #[DC false (.slice none 0 0) (.slice none 0 0),I 15]/\Γ=[A1,B1,A2,B2]):=
 Wf lf kv1 vv1 A1 B1 c d kv2 vv2 A2 B2 e f b a (Wm hs) (by simpa [kL] using g)
abbrev FH(es1 es2:List E):Nat:=((es1++es2).length+1)/2
theorem ZE(d:Gn A1 kv1 es1)(e:Gp B1 vv1 es1)(f:Gn A2 kv2 es2)(g:Gp B2 vv2 es2)(b:CkN lf (kL es1) (vL es1))(a:CkN lf (kL es2) (vL es2))(hs:Srt (es1++es2))(n:8<es1.length+es2.length):
  Cn prog 223 [DC lf kv1 vv1,DC lf kv2 vv2] [A1,B1,A2,B2] (λv Γ=>∃i h j k:Value,v=.tuple #[DC lf i h,DC lf j k,I 0]/\Γ=[gK i ((es1++es2).take (FH es1 es2)),gV h ((es1++es2).take (FH es1 es2)),gK j ((es1++es2).drop (FH es1 es2)),gV k ((es1++es2).drop (FH es1 es2)),A1,B1,A2,B2]):=by
 have m:kL es1++kL es2=kL (es1++es2):=by simp[kL]
 have l:vL es1++vL es2=vL (es1++es2):=by simp[vL]
 have c:(kL (es1++es2)).length=(es1++es2).length:=by simp[kL]
 exact Wg lf kv1 vv1 A1 B1 d e kv2 vv2 A2 B2 f g b a (Wm hs) (by simp[kL];omega) (kL (es1++es2)) (vL (es1++es2)) m l (kL ((es1++es2).take (FH es1 es2))) (vL ((es1++es2).take (FH es1 es2))) (kL ((es1++es2).drop (FH es1 es2))) (vL ((es1++es2).drop (FH es1 es2)))
  (by rw[c];exact Afp.symm) (by rw[c];exact Afp.symm) (by rw[c];exact AfU.symm) (by rw[c];exact AfU.symm)
end
section
variable{Tb:Ai}
theorem Ld{N:Hm}{es a b:List E}{lf:Bool}(hs:Srt es)(f:Bd N n (putE p m es) s X)(l:B3 t s (putE p m es))(h:∀e∈putE p m es,0<=e.1/\e.1<1048576)(c:(vals (putE p m es)).Nodup)
  (e:putE p m es=a++b)(a4:4<=a.length)(a5:a.length<=5)(i:4<=b.length)(b5:b.length<=5):
  ∃L1 L2,X=L1++L2/\(Bd N n a (nx b s) L1/\Bd N n b s L2)/\(B3 t (nx b s) a/\B3 (nx b s) s b/\t<nx b s/\nx b s<s)/\((Nd.mk lf a).Ok/\(Nd.mk lf b).Ok)/\(vals a).Nodup/\(vals b).Nodup:=by
 have d:=Ke (k:=p) (v:=m) hs;rw[e] at f l h c d;obtain ⟨L1,L2,u,w,z⟩:=Bd.app.1 f;have j:a≠[]:=λq=>by rw[q] at a4;simp at a4
 have o:b≠[]:=λq=>by rw[q] at i;simp at i
 obtain ⟨s1,r,_⟩:=Srt.app.1 d;have y:vals (a++b)=vals a++vals b:=by simp[vals]
 rw[y,Ae9] at c;exact ⟨L1,L2,u,⟨w,z⟩,OL d l j o,⟨⟨s1,by dsimp only;omega,λx g=>h x (by simp[g]),λ_=>j⟩,⟨r,by dsimp only;omega,λx g=>h x (by simp[g]),λ_=>o⟩⟩,c.1,c.2.1⟩
theorem MN(a:Nat){y:List E}(Q:List Nat):(a::(vals (X++y)++Q)).Perm (vals y++(a::(vals X++Q))):=by
 have b:vals (X++y)=vals X++vals y:=by simp[vals]
 rw[b,Aeh];have c:(a::(vals X++(vals y++Q))).Perm (a::(vals y++(vals X++Q))):=Afk _ (by
  rw[<-Aeh,<-Aeh];exact Afw _ Af5)
 exact c.trans Afh.symm
theorem MO(r a:Nat)(Q:List Nat):(r::(a::(R++Q))).Perm (a::(R++(r::Q))):=
 (AfX _ _ _).trans (Afk _ Afh.symm)
theorem FD{hi:Int}(h:4<=X.length):(kL X)[0]?=some (nx X hi):=by
 cases X with
 | nil=>simp at h
 | cons e t=>rfl
theorem JA{t t1 t2:TS}{L2:List E}(c:St t t1 (n::(vals X++R)) 1 1)(b:Tr t1.N m r s q 4 L2)(a:St t1 t2 (r::R) 0 1):St t t2 R 1 2/\Tr t2.N m r s q 4 L2:=
 ⟨c.trans a (λp hp=>by simp[hp]) (λp hp=>by simp[hp]) U U,a.fr r O _ _ _ _ _ b⟩
theorem QL(h:CkN b (kL X) (vL X))(hs:Srt X)(d:0<(X.take 4).length):CkN b (kL (X.take 4)) (vL (X.take 4))/\Srt (X.take 4):=by
 have e:=AeL 4 X;have a:=hs;rw[<-e] at a;have g:X.length<=8:=by have:=h.l8;simpa [kL] using this
 refine ⟨CkN.of ⟨(Srt.app.1 a).1,by simp;omega,λx c=>?_,λ_ q=>by have q:X.take 4=[]:=q;rw[q] at d;simp at d⟩ (λv f=>?_),(Srt.app.1 a).1⟩
 ·exact h.k x.1 (Aez (Afg c))
 obtain ⟨x,c,rfl⟩:=Aek.1 f;have:=h.v (x.2:Int) (Aek.2 ⟨x,Afg c,Z⟩);omega
theorem QM(h:CkN b (kL X) (vL X))(hs:Srt X)(d:0<(X.drop 4).length):CkN b (kL (X.drop 4)) (vL (X.drop 4))/\Srt (X.drop 4):=by
 have e:=AeL 4 X;have a:=hs;rw[<-e] at a;have g:X.length<=8:=by have:=h.l8;simpa [kL] using this
 refine ⟨CkN.of ⟨(Srt.app.1 a).2.1,by simp;omega,λx c=>?_,λ_ q=>by have q:X.drop 4=[]:=q;rw[q] at d;simp at d⟩ (λv f=>?_),(Srt.app.1 a).2.1⟩
 ·exact h.k x.1 (Aez (Afu c))
 obtain ⟨x,c,rfl⟩:=Aek.1 f;have:=h.v (x.2:Int) (Aek.2 ⟨x,Afu c,Z⟩);omega
theorem ZF(hs:Srt X)(d:X.length=8){val:Nat}(c:¬CE t X)(h:nx (X.drop 4) 0<=t):putE t val X=X.take 4++putE t val (X.drop 4)/\4<=(putE t val (X.drop 4)).length/\(putE t val (X.drop 4)).length<=5:=by
 obtain ⟨a,b,e,_,_,i,f,g,_⟩:=OK (v:=val) hs d c;obtain ⟨rfl,rfl⟩:=g h;exact ⟨e,i,f⟩
theorem ZG(hs:Srt X)(d:X.length=8){val:Nat}(c:¬CE t X)(h:t<nx (X.drop 4) 0):putE t val X=putE t val (X.take 4)++X.drop 4/\4<=(putE t val (X.take 4)).length/\(putE t val (X.take 4)).length<=5:=by
 obtain ⟨a,b,e,a4,a5,_,_,_,f⟩:=OK (v:=val) hs d c;obtain ⟨rfl,rfl⟩:=f h;exact ⟨e,a4,a5⟩
theorem AbW(pp mb n:Nat)(o:TB)(t:TS)(Q:List Nat)(a:Nat)(lf:Bool)(kv u:Value)(es:List E)(A B:Ai)(hA:∀h,A h->rdH 1 kv (kL es).length ((kL es).map I) h)(x:∀h,B h->rdH 1 u (vL es).length ((vL es).map I) h)(key:Int)(val:Nat)(r:(0<=key/\key<1048576)/\1<=val/\val<1024)(l:CkN lf (kL es) (vL es))(hs:Srt es)(h:Nat)(lo hi:Int)(m:Nat)(L:List E)(p:Bd t.N h (putE key val es) hi L)(j:lf=decide (h=0))(i:B3 lo hi (putE key val es))(c:(vals (putE key val es)).Nodup)(hC:t.C a=1)(hN:t.N a=none)(hk:t.k<39)(hm:m<=(putE key val es).length)(d:(Nd.mk lf (putE key val es)).Ok)(b:CE key es\/es.length<8):Cn prog 182 [Y pp,I (a:Int),.agg #[.bool lf,kv,u],I key,I (val:Int)] [trA Tb pp mb n o (some (t,a::(vals (putE key val es)++Q))),A,B] (λv Γ=>∃t2:TS,(St t t2 Q 0 1/\Tr t2.N h a lo hi m L)/\v=.tuple #[.agg #[I (a:Int),I 0,I 0],I 0]/\Γ=[trA Tb pp mb n o (some (t2,a::Q)),A,B]):=by
 intro z R w H;replace H:=H.l3;obtain ⟨ka,kc,rfl⟩:=H.sy 1 (λq=>(hA _ q).slc);obtain ⟨va,vc,rfl⟩:=H.sy 2 (λq=>(x _ q).slc);refine Ae func182 Z ntmps182 Z (Za 2 [] H Z ?_);intro b1 w H;refine Za 0 [] H Z ?_;intro b2 w H;refine Z2 8 [1,3] H Z (Aq Z (call218 _) (RY hA x l hs key val r b) H.f4.f4 ?_);rintro _ w _ ⟨v3,y,rfl,rfl⟩ H;replace H:=H.l7;have s:=H.sy 0 (·.slc);have g:=H.sy 1 (·.slc);refine Za 3 [] H Z ?_;intro b5 w H;refine Az Z Z (Ak 0 H Z Z Z Z (vs:=[.bool lf,v3,y]) Z (Ad Z (Ad s.one (Ad g.one Aw))) J O (out:=[.bool lf,v3,y]) Z) ?_;rintro w H;replace H:=H.l8;refine Z2 18 [3,0,3] H Z (Aq Z (call183 _) (F4 pp mb n o t Q a lf (putE key val es) (λh q=>q.rd) (λh q=>q.rd) h lo hi m L p j i hm d c hC hN U) H.f2.f2.f7 ?_);rintro _ w _ ⟨t2,⟨e,f,a0,a1⟩,rfl,rfl⟩ H;refine Z4 5 [6] H Z ?_;intro w H;refine Zl [6,3] H Z ?_;exact ⟨_,⟨t2,⟨e,f⟩,Z,Z⟩,H.perm 8 [0,4,5] Z Z⟩
set_option maxHeartbeats 2000000 in
theorem AbX (pp mb n:Nat) (o:TB) (t:TS) (Q:List Nat) (a:Nat) (lf:Bool) (kv vv:Value) (es:List E) (A B:Ai) (hA:∀h,A h->rdH 1 kv (kL es).length ((kL es).map I) h) (hB:∀h,B h->rdH 1 vv (vL es).length ((vL es).map I) h) (key:Int) (val:Nat) (c4:(0<=key/\key<1048576)/\1<=val/\val<1024) (i:CkN lf (kL es) (vL es)) (hs:Srt es) (h:Nat) (lo hi:Int) (m:Nat) (L:List E) (d6:Bd t.N h (putE key val es) hi L) (y:lf=decide (h=0)) (d3:B3 lo hi (putE key val es)) (a0:(vals (putE key val es)).Nodup) (hC:t.C a=1) (hN:t.N a=none) (hk:t.k<39) (c9:∀e∈putE key val es,0<=e.1/\e.1<1048576) (c2:¬CE key es) (h8:es.length=8):Cn prog 182 [Y pp,I (a:Int),.agg #[.bool lf,kv,vv],I key,I (val:Int)] [trA Tb pp mb n o (some (t,a::(vals (putE key val es)++Q))),A,B] (λv Γ=>(cnt t.F 0 1024=0/\∃s:TS×List Nat,v=.tuple #[.agg #[I 0,I 0,I 0],I 20]/\Γ=[trA Tb pp mb n o (some s),A,B])\/∃(t2:TS) (kr:Int) (r:Nat) (L1 L2:List E),(St t t2 Q 1 2/\L=L1++L2/\lo<kr/\kr<hi/\Tr t2.N h a lo kr 4 L1/\Tr t2.N h r kr hi 4 L2)/\v=.tuple #[.agg #[I (a:Int),I kr,I (r:Int)],I 0]/\Γ=[trA Tb pp mb n o (some (t2,a::r::Q)),A,B]):=by
 intro z R w H;replace H:=H.l3;obtain ⟨ka,kc,rfl⟩:=H.sy 1 (λq=>(hA _ q).slc);obtain ⟨va,vc,rfl⟩:=H.sy 2 (λq=>(hB _ q).slc);refine Ae func182 Z ntmps182 Z (Za 2 [] H Z ?_);intro b1 w H;refine Za 0 [] H Z ?_;intro b2 w H;refine Z2 8 [1,3] H Z (z_E_ Z (call218 _) (AbT hA hB i hs key val c4 c2 h8) H.f4.f4 ?_);intro w H;refine Za 3 [] H Z ?_;intro b3 w H;refine Z4 27 [0,4,4,4,3] H Z ?_;intro w H;refine Aq Z (call219 _) (ZD hA hB i h8) H.f2.f2 ?_;rintro _ w _ ⟨v4,v5,v6,v7,rfl,rfl⟩ H;replace H:=H.l10;have d8:=H.sy 0 (·.slc);have e0:=H.sy 1 (·.slc);have d2:=H.sy 2 (·.slc);have e2:=H.sy 3 (·.slc);refine Za 4 [] H Z ?_;intro b8 w H;refine Za 0 [] H Z ?_;intro b9 w H;refine Az Z Z (Ak 1 H Z Z Z Z (vs:=[.bool lf,v4,v5]) Z (Ad Z (Ad d8.one (Ad e0.one Aw))) J O (out:=[.bool lf,v4,v5]) Z) ?_;rintro w H;replace H:=H.l12;refine Az Z Z (Ak 0 H Z Z Z Z (vs:=[.bool lf,v6,v7]) Z (Ad Z (Ad d2.one (Ad e2.one Aw))) J O (out:=[.bool lf,v6,v7]) Z) ?_;rintro w H;replace H:=H.l12;refine Z0 15 [4] Z ?_;obtain ⟨ak,a2,rfl⟩:=d2;have g:=(H.rv 4 (·.rd)).at (j:=0) (u:=I (nx (es.drop 4) 0)) (by rw[Aeo,FD (by rw[AeM];omega)];rfl);refine Z2 4 [1,0,0] H Z (Ab Z (Aj Z (z:=1) (j:=0) (r:=0) J Z Z Z (by simp only[Aef,AeM];omega) g U) (Ab Z (Ax Z Z J (Ay g)) (Z0 3 [0] Z (Af Z (λh1=>?_) (λh1=>?_)))))
 ·obtain ⟨d4,d,b4⟩:=ZF (val:=val) hs h8 c2 h1;refine Z2 4 [0,3] H Z (Aq Z (call218 _) (RY (λh q=>q.rd) (λh q=>q.rd) (QM i hs (by simp;omega)).1 (QM i hs (by simp;omega)).2 key val c4 (.inr (by simp;omega))) H.f5.f5 ?_);rintro _ w _ ⟨d1,a9,rfl,rfl⟩ H;replace H:=H.l14;have a3:=H.sy 0 (·.slc)
  have d5:=H.sy 1 (·.slc);refine Zc 3 Z (Az Z Z (Ak 4 H Z Z Z Z (vs:=[.bool lf,d1,a9]) Z (Ad Z (Ad a3.one (Ad d5.one Aw))) J O (out:=[.bool lf,d1,a9]) Z) ?_);rintro w H;replace H:=H.l14;refine Z0 14 [4] Z ?_;obtain ⟨L1,L2,hL,⟨c5,c3⟩,⟨b0,a8,c6,b7⟩,⟨a6,c7⟩,a5,c0⟩:=Ld (lf:=lf) hs d6 d3 c9 a0 d4 (by simp;omega) (by simp;omega) d b4;replace H:=(H.mono 13 (B:=trA Tb pp mb n o (some (t,vals (putE key val (es.drop 4))++(a::(vals (es.take 4)++Q))))) Z (λh q=>q.perm (by rw[d4];exact MN a Q))).l14;refine Z2 3 [4,3] H Z (Aq Z (call139 _) (HU pp mb n o t (a::(vals (es.take 4)++Q)) lf (putE key val (es.drop 4)) (λh q=>q.rd) (λh q=>q.rd) h (nx (putE key val (es.drop 4)) hi) hi 4 L2 c3 y a8 d c7 c0 U) H.f1.f1.f13 ?_);rintro _ w _ (⟨f,rfl,rfl⟩|⟨t1,r,⟨b,p,c1⟩,rfl,rfl⟩) H'
  ·have H:=H'.l14;refine Z4 24 [3,12] H Z ?_;intro w H;refine Zl [12,3] H Z ?_;exact ⟨_,.inl ⟨f,_,Z,Z⟩,H.perm 14 [0,9,10] Z Z⟩
  have H:=H'.l14;have l:=c1 a O;refine Z0 18 [4] Z ?_;obtain ⟨bk,a1,rfl⟩:=a3;have x:=(H.rv 1 (·.rd)).at (j:=0) (u:=I (nx (putE key val (es.drop 4)) hi)) (by rw[Aeo,FD d];rfl);replace H:=(H.mono 0 (B:=trA Tb pp mb n o (some (t1,a::(vals (es.take 4)++(r::Q))))) Z (λh q=>q.perm (MO r a Q))).l14;replace H:=H.f1.f5.f6;refine AN (Sep z (blk b8 [.bool lf,v4,v5] 201::blk b9 [.bool lf,.slice bk ((kL (putE key val (es.drop 4))).length) a1,a9] 201::grow 3 1 (.slice bk ((kL (putE key val (es.drop 4))).length) a1) ((kL (putE key val (es.drop 4))).length) ((kL (putE key val (es.drop 4))).map I)::R)) 13 Z J (AZ H λw H'=>?_);have H:=H'.l14;refine AT [0,1,2] [1,1,0] [] (by exact H.pick 14 [0,1,2] Z) Z J Z (BN 3 Z J J J Z Z Z (Aj Z (z:=1) (j:=0) (r:=0) J Z Z Z (by simp only[Aef];first|omega|(rw[AeM];omega)) x U) (H.pick 14 [0,1,2] Z) (BN 4 Z J J J Z Z Z (Ax Z Z J (λ_ b5=>(b5.rv 2 (·.rd)).at (j:=0) (u:=I (nx (putE key val (es.drop 4)) hi)) (by rw[Aeo,FD d];rfl))) (H.pick 14 [0,1,2] Z) ?_));refine AT [5,6,7,8,9] [0,3] [] (by exact H.pick 14 [0,1,2] Z) Z J Z (AC [10] J O (Am (Bo Z Z Z Z Z Z (λw=>call183 _ w) (F4 pp mb n o t1 (r::Q) a lf (es.take 4) (λh q=>q.rd) (λh q=>q.rd) h lo (nx (putE key val (es.drop 4)) hi) 4 L1 (b.bd (λv hv=>by simp[hv]) c5) y b0 (by simp;omega) a6 a5 (l.2.trans hC) (l.1.trans hN) (by have:=b.k;omega)) H.f8.f8.f5 Z ?_)));rintro _ w _ ⟨t2,⟨c,a4,d9,e1⟩,rfl,rfl⟩ H;replace H:=H.l14;refine Av (H.pick 14 [3,4,5] Z) (AC [11] J O (Am (Bi Z Z Z (Ak 12 H Z Z Z Z (vs:=[I (a:Int),I (nx (putE key val (es.drop 4)) hi),I (r:Int)]) Z (by simp[u8,u32,Value.oneCell']) J O (out:=[I (a:Int),I (nx (putE key val (es.drop 4)) hi),I (r:Int)]) Z) ?_)));rintro w H;replace H:=H.l14;refine Av (H.pick 14 [3,4,5] Z) (AT [12] [] [] (by exact H.pick 14 [3,4,5] Z) Z J Z (a_done J (gn (Zc 2 Z (Zl [12,3] H Z ?_)))));exact ⟨_,.inr ⟨t2,nx (putE key val (es.drop 4)) hi,r,L1,L2,⟨(JA b p c).1,hL,c6,b7,a4,(JA b p c).2⟩,Z,Z⟩,H.perm 14 [0,9,10] Z Z⟩
 obtain ⟨d0,d,b4⟩:=ZG (val:=val) hs h8 c2 U;refine Z2 4 [1,3] H Z (Aq Z (call218 _) (RY (λh q=>q.rd) (λh q=>q.rd) (QL i hs (by simp;omega)).1 (QL i hs (by simp;omega)).2 key val c4 (.inr (by simp;omega))) H.f3.f3 ?_);rintro _ w _ ⟨a7,b6,rfl,rfl⟩ H;replace H:=H.l14;have c8:=H.sy 0 (·.slc);have d7:=H.sy 1 (·.slc);refine Zc 3 Z (Az Z Z (Ak 5 H Z Z Z Z (vs:=[.bool lf,a7,b6]) Z (Ad Z (Ad c8.one (Ad d7.one Aw))) J O (out:=[.bool lf,a7,b6]) Z) ?_);rintro w H;replace H:=H.l14;refine Z0 14 [4] Z ?_;obtain ⟨L1,L2,hL,⟨c5,c3⟩,⟨b0,a8,c6,b7⟩,⟨a6,c7⟩,a5,c0⟩:=Ld (lf:=lf) hs d6 d3 c9 a0 d0 d b4 (by simp;omega) (by simp;omega);replace H:=(H.mono 13 (B:=trA Tb pp mb n o (some (t,vals (es.drop 4)++(a::(vals (putE key val (es.take 4))++Q))))) Z (λh q=>q.perm (by rw[d0];exact MN a Q))).l14;refine Z2 3 [4,3] H Z (Aq Z (call139 _) (HU pp mb n o t (a::(vals (putE key val (es.take 4))++Q)) lf (es.drop 4) (λh q=>q.rd) (λh q=>q.rd) h (nx (es.drop 4) hi) hi 4 L2 c3 y a8 (by simp;omega) c7 c0 U) H.f7.f7.f13 ?_);rintro _ w _ (⟨f,rfl,rfl⟩|⟨t1,r,⟨b,p,c1⟩,rfl,rfl⟩) H'
 ·have H:=H'.l14;refine Z4 24 [3,12] H Z ?_;intro w H;refine Zl [12,3] H Z ?_;exact ⟨_,.inl ⟨f,_,Z,Z⟩,H.perm 14 [0,9,10] Z Z⟩
 have H:=H'.l14;have l:=c1 a O;refine Z0 18 [4] Z ?_;replace H:=(H.mono 0 (B:=trA Tb pp mb n o (some (t1,a::(vals (putE key val (es.take 4))++(r::Q))))) Z (λh q=>q.perm (MO r a Q))).l14;replace H:=H.f1.f7.f8;refine AN (Sep z (blk b8 [.bool lf,a7,b6] 201::blk b9 [.bool lf,.slice ak ((kL (es.drop 4)).length) a2,v7] 201::grow 3 1 (.slice ak ((kL (es.drop 4)).length) a2) ((kL (es.drop 4)).length) ((kL (es.drop 4)).map I)::R)) 13 Z J (AZ H λw H'=>?_);have H:=H'.l14;refine AT [0,1,2] [1,1,0] [] (by exact H.pick 14 [0,1,2] Z) Z J Z (BN 3 Z J J J Z Z Z (Aj Z (z:=1) (j:=0) (r:=0) J Z Z Z (by simp only[Aef];first|omega|(rw[AeM];omega)) g U) (H.pick 14 [0,1,2] Z) (BN 4 Z J J J Z Z Z (Ax Z Z J (λ_ b5=>(b5.rv 2 (·.rd)).at (j:=0) (u:=I (nx (es.drop 4) hi)) (by rw[Aeo,FD (by simp;omega)];rfl))) (H.pick 14 [0,1,2] Z) ?_));refine AT [5,6,7,8,9] [0,3] [] (by exact H.pick 14 [0,1,2] Z) Z J Z (AC [10] J O (Am (Bo Z Z Z Z Z Z (λw=>call183 _ w) (F4 pp mb n o t1 (r::Q) a lf (putE key val (es.take 4)) (λh q=>q.rd) (λh q=>q.rd) h lo (nx (es.drop 4) hi) 4 L1 (b.bd (λv hv=>by simp[hv]) c5) y b0 d a6 a5 (l.2.trans hC) (l.1.trans hN) (by have:=b.k;omega)) H.f6.f6.f5 Z ?_)));rintro _ w _ ⟨t2,⟨c,a4,d9,e1⟩,rfl,rfl⟩ H;replace H:=H.l14;refine Av (H.pick 14 [3,4,5] Z) (AC [11] J O (Am (Bi Z Z Z (Ak 12 H Z Z Z Z (vs:=[I (a:Int),I (nx (es.drop 4) hi),I (r:Int)]) Z (by simp[u8,u32,Value.oneCell']) J O (out:=[I (a:Int),I (nx (es.drop 4) hi),I (r:Int)]) Z) ?_)));rintro w H;replace H:=H.l14;refine Av (H.pick 14 [3,4,5] Z) (AT [12] [] [] (by exact H.pick 14 [3,4,5] Z) Z J Z (a_done J (gn (Zc 2 Z (Zl [12,3] H Z ?_)))));exact ⟨_,.inr ⟨t2,nx (es.drop 4) hi,r,L1,L2,⟨(JA b p c).1,hL,c6,b7,a4,(JA b p c).2⟩,Z,Z⟩,H.perm 14 [0,9,10] Z Z⟩
end
section
variable{Tb:Ai}
theorem BO(X Y_:List E):vals (X++Y_)=vals X++vals Y_:=by simp[vals]
theorem B7(e:E)(Y_:List E):vals (e::Y_)=e.2::vals Y_:=rfl
theorem ZH{key:Int}{es:List E}:putE key n es≠[]:=by
 cases es with
 | nil=>simp[putE]
 | cons e t=>simp only[putE];split;simp;split<;>simp
theorem Hc{es:List E}(hs:Srt es){key:Int}(val:Nat)(a:¬CE key es):(vals (putE key val es)).Perm (val::vals es)/\(putE key val es).length=es.length+1:=by
 rcases key_split hs key with ⟨X,v,Y_,rfl,_⟩|⟨_,X,Y_,rfl,b,c⟩
 ·exact absurd ⟨v,by simp⟩ a
 rw[putE_new b c,BO,BO,B7];exact ⟨Afh,by simp;omega⟩
theorem Kh{es:List E}(hs:Srt es)(key:Int)(val:Nat):es.length<=(putE key val es).length/\(putE key val es).length<=es.length+1:=by
 rcases key_split hs key with ⟨X,v,Y_,rfl,a⟩|⟨b,X,Y_,e,a,c⟩
 ·rw[Ec a];simp
 have:=(Hc hs val b).2;omega
theorem OP{es:List E}(hs:Srt es){lo hi key:Int}(val:Nat)(c:B3 lo hi es)(b:lo<=key/\key<hi):B3 lo hi (putE key val es):=λx a=>by
 rcases (putE_mem hs x).1 a with rfl|⟨h,_⟩
 ·exact b
 exact c x h
theorem Tr.ne{N:Hm}{h r:Nat}{lo hi:Int}{L:List E}(t:Tr N h r lo hi m L)(d:1<=m):L≠[]:=by
 induction h generalizing r lo hi m L with
 | zero=>
  obtain ⟨es,_,a,_,_,rfl,_⟩:=t;intro q;rw[q] at a;simp at a;omega
 | succ h ih=>
  obtain ⟨es,_,a,_,_,c⟩:=t
  cases es with
  | nil=>simp at a;omega
  | cons e t=>
   obtain ⟨L1,L2,rfl,b,_⟩:=c;intro q;exact ih b U (List.append_eq_nil_iff.1 q).1
theorem Sq.nodup{N:Hm}{h:Nat}{es:List E}{hi:Int}{L:List E}(q:Sq (λc a b L=>Tr N h c a b 4 L) es hi L)(hs:Srt es)(n:∀e∈es,e.1<hi):(vals es).Nodup:=by
 induction es generalizing L with
 | nil=>simp[vals]
 | cons e t ih=>
  obtain ⟨L1,L2,rfl,f,m⟩:=q;obtain ⟨p,l⟩:=Srt.cons.1 hs;have j:∀x∈t,x.1<hi:=λx g=>n x (by simp[g]);rw[B7,Afi];refine ⟨λo=>?_,ih m l j⟩;obtain ⟨x,g,i⟩:=Aek.1 o;obtain ⟨A,B,rfl⟩:=List.append_of_mem g;obtain ⟨_,Lc,_,_,_,k,_⟩:=Sq.at m;rw[i] at k;obtain ⟨_,rfl⟩:=f.uniq k;have d:=f.ne U;obtain ⟨y,u,rfl⟩:=AfF d;have a1:=f.srt.2 y O;have a2:=k.srt.2 y O;have a3:nx (A++x::B) hi<=x.1:=by
   cases A with
   | nil=>exact Afm _
   | cons z A=>exact AgU ((Srt.cons.1 l).1 x O)
  omega
theorem Bd.nodup{N:Hm}{h:Nat}{es:List E}{hi:Int}{L:List E}(q:Bd N (h+1) es hi L)(hs:Srt es)(a:∀e∈es,e.1<hi):(vals es).Nodup:=Sq.nodup q hs a
theorem AbY{N:Hm}{h:Nat}{lo hi:Int}{L X Y_:List E}{e:E}{key:Int}(val:Nat)(hs:Srt (X++e::Y_))(g:B3 lo hi (X++e::Y_))(n:Bd N (h+1) (X++e::Y_) hi L)(l:X=[]\/e.1<=key)(j:∀x∈Y_,key<x.1/\e.1<x.1)(k:lo<=key/\key<hi):
  ∃L0 Lc L2,(Sq (λc a b L=>Tr N h c a b 4 L) X (min e.1 key) L0/\Tr N h e.2 (min e.1 key) (nx Y_ hi) 4 Lc/\Sq (λc a b L=>Tr N h c a b 4 L) Y_ hi L2)/\L=L0++(Lc++L2)/\putE key val L=L0++(putE key val Lc++L2)/\(lo<=min e.1 key/\min e.1 key<=key/\key<nx Y_ hi/\nx Y_ hi<=hi):=by
 obtain ⟨L0,Lc,L2,rfl,i,p,m⟩:=Sq.at n;have t:=g e O;have r:=XB (λx d=>(j x d).1) k.2;have f:nx Y_ hi<=hi:=RX (λx d=>(g x (by simp[d])).2);obtain ⟨s,o⟩:=Sq.sides hs (λx d=>(g x d).2) i m l (λx d=>(j x d).1) k.2;refine ⟨L0,Lc,L2,⟨i.nilK ?_,p.mono U (Afm _) (Aei _),m⟩,Z,?_,by omega,by omega,r,f⟩
 ·rcases l with q|q
  ·exact .inl q
  exact .inr U
 rw[putE_lt _ s,QI o]
theorem Ki{lo hi:Int}{X Y_:List E}{e:E}{k1:Int}(c:Nat)(hs:Srt (X++e::Y_))(g:B3 lo hi (X++e::Y_))(k:X=[]\/k1=e.1)(o:k1<=e.1)(m:lo<=k1):Srt (X++(k1,c)::Y_)/\B3 lo hi (X++(k1,c)::Y_):=by
 obtain ⟨n,j,i⟩:=Srt.app.1 hs;obtain ⟨l,s5⟩:=Srt.cons.1 j;refine ⟨Srt.app.2 ⟨n,Srt.cons.2 ⟨λx d=>by have:=l x d;dsimp only;omega,s5⟩,λa f b h=>?_⟩,λx d=>?_⟩
 ·rcases Aen.1 h with rfl|h
  ·rcases k with rfl|rfl
   ·simp at f
   exact i a f e O
  exact i a f b (by simp[h])
 rcases Aep.1 d with d|d
 ·exact g x (by simp[d])
 rcases Aen.1 d with rfl|d
 ·have:=g e O;dsimp only;omega
 exact g x (by simp[d])
theorem Wn{lo hi:Int}{X Y_:List E}{kr:Int}{c r:Nat}(hs:Srt (X++(s,c)::Y_))(l:s<kr)(g:kr<nx Y_ hi)(j:B3 lo hi (X++(s,c)::Y_))(k:nx Y_ hi<=hi):putE kr r (X++(s,c)::Y_)=X++(s,c)::(kr,r)::Y_/\¬CE kr (X++(s,c)::Y_)/\lo<=kr/\kr<hi:=by
 obtain ⟨n,h,i⟩:=Srt.app.1 hs;obtain ⟨m,s5⟩:=Srt.cons.1 h;have d:∀x∈X++[(s,c)],x.1<kr:=λx a=>by
  rcases Aep.1 a with a|a
  ·have:=i x a (s,c) O;dsimp only at this;omega
  simp at a;subst a;exact l
 have f:∀x∈Y_,kr<x.1:=λx a=>by
  cases Y_ with
  | nil=>simp at a
  | cons y t=>
   simp only[nx] at g;rcases Aen.1 a with rfl|a
   ·exact g
   have:=(Srt.cons.1 s5).1 x a;omega
 have e:X++(s,c)::Y_=(X++[(s,c)])++Y_:=by simp
 refine ⟨by rw[e,putE_new d f];simp,?_,by have:=(j (s,c) O).1;dsimp only at this;omega,by omega⟩;rintro ⟨v,b⟩;rw[e] at b;rcases Aep.1 b with b|b
 ·have:=d _ b;dsimp only at this;omega
 have:=f _ b;dsimp only at this;omega
theorem M6{es:List E}(hs:Srt es){key:Int}{c:Nat}{Q:List Nat}(a:¬CE key es):(c::(vals es++(n::Q))).Perm (c::(vals (putE key n es)++Q)):=
 Afk _ (Afh.trans (Afw Q (Hc hs n a).1.symm))
theorem M7{X Y_:List E}{key:Int}{c:Nat}{Q:List Nat}(h:∀e∈X,e.1<key):(c::(vals (X++(key,m)::Y_)++(n::Q))).Perm (m::(c::(vals (putE key n (X++(key,m)::Y_))++Q))):=by
 rw[Ec h,BO,BO,B7,B7];have d:(vals X++m::vals Y_++n::Q).Perm (m::(vals X++vals Y_++n::Q)):=by
  have:(vals X++m::vals Y_).Perm (m::(vals X++vals Y_)):=Afh;exact Afw _ this
 have f:(vals X++vals Y_++n::Q).Perm (vals X++n::vals Y_++Q):=by
  have a:(vals X++vals Y_++n::Q).Perm (n::(vals X++vals Y_++Q)):=Afh;have b:(vals X++n::vals Y_++Q).Perm (n::(vals X++vals Y_++Q)):=Afw Q Afh;exact a.trans b.symm
 exact ((Afk c d).trans (AfX _ _ _)).trans (Afk _ (Afk _ f))
theorem ZI{X Y_:List E}{e:E}{c:Nat}{Q:List Nat}:(c::(vals (X++e::Y_)++(n::Q))).Perm (e.2::n::(c::(vals X++(vals Y_++Q)))):=by
 rw[BO,B7];have d:(vals X++e.2::vals Y_++n::Q).Perm (e.2::n::(vals X++(vals Y_++Q))):=by
  have a:(vals X++e.2::vals Y_++n::Q).Perm (e.2::(vals X++vals Y_++n::Q)):=Afw (n::Q) Afh;have b:(vals X++vals Y_++n::Q).Perm (n::(vals X++vals Y_++Q)):=Afh;rw[<-Aeh];exact a.trans (Afk _ b)
 exact (Afk c d).trans ((AfX _ _ _).trans (Afk _ (AfX _ _ _)))
theorem OQ{X Y_:List E}{c c2:Nat}{Q:List Nat}:(c2::(c::(vals X++(vals Y_++Q)))).Perm (c::(vals (X++(t,c2)::Y_)++Q)):=by
 rw[BO,B7];refine (AfX _ _ _).trans (Afk _ ?_);have:(vals X++c2::vals Y_++Q).Perm (c2::(vals X++vals Y_++Q)):=Afw Q Afh;rw[<-Aeh];exact this.symm
theorem TU{X Y_:List E}{kr:Int}{c c2 r:Nat}{Q:List Nat}:(c2::r::(c::(vals X++(vals Y_++Q)))).Perm (c::(vals (X++(t,c2)::(kr,r)::Y_)++Q)):=by
 have a:(r::(c::(vals X++(vals Y_++Q)))).Perm (c::(vals (X++(kr,r)::Y_)++Q)):=OQ;refine (Afk c2 a).trans ((AfX _ _ _).trans (Afk _ ?_));rw[BO,BO,B7,B7,B7];have:(vals X++c2::(r::vals Y_)++Q).Perm (c2::(vals X++(r::vals Y_)++Q)):=Afw Q Afh;exact this.symm
theorem Wo{N:Hm}{es:List E}{lo hi:Int}{key:Int}(hs:Srt es)(d:B3 lo hi es)(j:lo<=key/\key<hi)(h:∀e∈es,∃B,N e.2=some (.dt B))(g:N n=some (.dt B))(b:(vals es).Nodup)(a:n∉vals es):
  Bd N 0 (putE key n es) hi (putE key n es)/\B3 lo hi (putE key n es)/\(vals (putE key n es)).Nodup:=by
 refine ⟨⟨Z,λe i=>?_⟩,OP hs n d j,?_⟩
 ·rcases (putE_mem hs e).1 i with rfl|⟨c,_⟩
  ·exact ⟨B,g⟩
  exact h e c
 rcases key_split hs key with ⟨X,v,Y_,rfl,c⟩|⟨f,X,Y_,rfl,c,l⟩
 ·rw[Ec c,BO,B7]
  rw[BO,B7] at b a;simp only[Aep,Aen,not_or] at a;have k:(n::(vals X++vals Y_)).Nodup:=Afi.2 ⟨by simp[a.1,a.2.2],(Afi.1 (Afh.nodup_iff.1 b)).2⟩;exact Afh.nodup_iff.2 k
 exact (Hc hs n f).1.nodup_iff.2 (Afi.2 ⟨a,b⟩)
theorem JB{lo hi:Int}{es:List E}(b:B3 lo hi es)(d:0<=lo)(c:hi<=1048576):∀e∈es,0<=e.1/\e.1<1048576:=λe a=>by have:=b e a;omega
theorem RZ(pp mb n:Nat)(o:TB)(t:TS)(Q:List Nat)(a:Nat)(lf:Bool)(es:List E){B:Ai}(x:Gn A u es)(w:Gp B y es)(key:Int)(val:Nat)(i:(0<=key/\key<1048576)/\1<=val/\val<1024)(d:CkN lf (kL es) (vL es))(hs:Srt es)(h:Nat)(lo hi:Int)(m:Nat)(L:List E)(g:Bd t.N h (putE key val es) hi L)(f:lf=decide (h=0))(c:B3 lo hi (putE key val es))(b:(vals (putE key val es)).Nodup)(p:t.C a=1)(hN:t.N a=none)(z:t.k<39)
  (hm:m<=(putE key val es).length)(l:0<=lo)(j:hi<=1048576):
  Cn prog 182 [Y pp,I (a:Int),DC lf u y,I key,I (val:Int)] [trA Tb pp mb n o (some (t,a::(vals (putE key val es)++Q))),A,B] (λv Γ=>(cnt t.F 0 1024=0/\∃s:TS×List Nat,v=.tuple #[.agg #[I 0,I 0,I 0],I 20]/\Γ=[trA Tb pp mb n o (some s),A,B])\/(∃t2:TS,(St t t2 Q 1 2/\Tr t2.N h a lo hi m L)/\v=.tuple #[.agg #[I (a:Int),I 0,I 0],I 0]/\Γ=[trA Tb pp mb n o (some (t2,a::Q)),A,B])\/
   ∃(t2:TS) (kr:Int) (r:Nat) (L1 L2:List E),(St t t2 Q 1 2/\L=L1++L2/\lo<kr/\kr<hi/\Tr t2.N h a lo kr 4 L1/\Tr t2.N h r kr hi 4 L2)/\v=.tuple #[.agg #[I (a:Int),I kr,I (r:Int)],I 0]/\Γ=[trA Tb pp mb n o (some (t2,a::r::Q)),A,B]):=by
 have e:=JB c l j;have h8:es.length<=8:=by have:=d.l8;simpa [kL] using this
 by_cases hf:CE key es\/es.length<8
 ·have hl:(putE key val es).length<=8:=by
   rcases hf with q|q
   ·rcases key_split hs key with ⟨X,v,Y_,rfl,j⟩|⟨l,_⟩
    ·rw[Ec j];simpa using h8
    exact absurd q l
   have:=(Kh hs key val).2;omega
  refine Cn.mono (AbW pp mb n o t Q a lf u y es A B x w key val i d hs h lo hi m L g f c b p hN z hm ⟨Ke hs,hl,e,λ_=>ZH⟩ hf) ?_;rintro v Γ ⟨t2,⟨a1,a2⟩,rfl,rfl⟩;exact .inr (.inl ⟨t2,⟨a1.sub (λ_ q=>q) U U,a2⟩,Z,Z⟩)
 simp only[not_or] at hf;refine Cn.mono (AbX pp mb n o t Q a lf u y es A B x w key val i d hs h lo hi m L g f c b p hN z e hf.1 U) ?_;rintro v Γ (q|q)
 ·exact .inl q
 exact .inr (.inr q)
structure InsPre(n:Nat)(t:TS)(Q:List Nat)(a h:Nat)(lo hi:Int)(m:Nat)(key:Int)(val:Nat)(L:List E):Prop where
 T:Tr t.N h a lo hi m L
 kk:lo<=key/\key<hi
 l0:0<=lo
 h1:hi<=1048576
 dt:∃b,t.N val=some (.dt b)
 nv:∀q d,t.N q=some (.nd d)->val∉vals d.es
 hk:t.k+3*h+3<40
 hb:Q.length+10*h+12+n<=980
abbrev JC(Tb:Ai)(pp mb n:Nat)(o:TB)(t:TS)(Q:List Nat)(h:Nat)(lo hi:Int)(m:Nat)(key:Int)(val:Nat)(L:List E)(v:Value)(Γ:List Ai):Prop:=
 (cnt t.F 0 1024<=2*h+1/\∃s:TS×List Nat,v=.tuple #[.agg #[.int .i64 0,.int .i64 0,.int .i64 0],.int .i64 20]/\Γ=[trA Tb pp mb n o (some s)])\/
 (∃(t2:TS) (c:Nat),(St t t2 Q (2*h+2) (3*h+3)/\Tr t2.N h c lo hi m (putE key val L))/\v=.tuple #[.agg #[.int .i64 (c:Int),.int .i64 0,.int .i64 0],.int .i64 0]/\Γ=[trA Tb pp mb n o (some (t2,c::Q))])\/
 ∃(t2:TS) (c:Nat) (kr:Int) (r:Nat) (L1 L2:List E),(St t t2 Q (2*h+2) (3*h+3)/\putE key val L=L1++L2/\lo<kr/\kr<hi/\Tr t2.N h c lo kr 4 L1/\Tr t2.N h r kr hi 4 L2)/\v=.tuple #[.agg #[.int .i64 (c:Int),.int .i64 kr,.int .i64 (r:Int)],.int .i64 0]/\Γ=[trA Tb pp mb n o (some (t2,c::r::Q))]
variable{t1 t2:TS}{X Y_ Q':List E}{e:E}{Q:List Nat}{c c2 r h d1 d2:Nat}{lo hi key kr:Int}{L0 Lc L2 M1 M2:List E}
theorem MP(S:St t1 t2 (c::(vals X++(vals Y_++Q))) d1 d2)(g:Sq (λc a b L=>Tr t1.N h c a b 4 L) X (min e.1 key) L0)(f:Sq (λc a b L=>Tr t1.N h c a b 4 L) Y_ hi L2):Sq (λc a b L=>Tr t2.N h c a b 4 L) X (min e.1 key) L0/\Sq (λc a b L=>Tr t2.N h c a b 4 L) Y_ hi L2:=
 ⟨Sq.imp g λx d _ _ q=>S.fr _ (by simp[Aez d,vals]) _ _ _ _ _ q,Sq.imp f λx d _ _ q=>S.fr _ (by simp[Aez d,vals]) _ _ _ _ _ q⟩
theorem ZJ(S:St t1 t2 (c::(vals X++(vals Y_++Q))) d1 d2)(i:Sq (λc a b L=>Tr t1.N h c a b 4 L) X (min e.1 key) L0)(f:Sq (λc a b L=>Tr t1.N h c a b 4 L) Y_ hi L2)(k:Tr t2.N h c2 (min e.1 key) (nx Y_ hi) 4 Lc)(hs:Srt (X++e::Y_))(n:B3 lo hi (X++e::Y_))(m:X=[]\/e.1<=key)(g:lo<=min e.1 key):
  Bd t2.N (h+1) (X++(min e.1 key,c2)::Y_) hi (L0++(Lc++L2))/\(Srt (X++(min e.1 key,c2)::Y_)/\B3 lo hi (X++(min e.1 key,c2)::Y_))/\(vals (X++(min e.1 key,c2)::Y_)).Nodup:=by
 obtain ⟨a,b⟩:=MP S i f;have d:=Ki c2 hs n (k1:=min e.1 key) (m.imp id (λq=>by omega)) U g;have j:Bd t2.N (h+1) (X++(min e.1 key,c2)::Y_) hi (L0++(Lc++L2)):=Sq.mk a k b;exact ⟨j,d,j.nodup d.1 (λx l=>(d.2 x l).2)⟩
theorem ZK(S:St t1 t2 (c::(vals X++(vals Y_++Q))) d1 d2)(t:Sq (λc a b L=>Tr t1.N h c a b 4 L) X (min e.1 key) L0)(n:Sq (λc a b L=>Tr t1.N h c a b 4 L) Y_ hi L2)(w:Tr t2.N h c2 (min e.1 key) kr 4 M1)(l:Tr t2.N h r kr (nx Y_ hi) 4 M2)(hs:Srt (X++e::Y_))(y:B3 lo hi (X++e::Y_))(hX:X=[]\/e.1<=key)(o:lo<=min e.1 key)(m:min e.1 key<kr)(s:kr<nx Y_ hi)(p:nx Y_ hi<=hi):
  (Srt (X++(min e.1 key,c2)::Y_))/\putE kr r (X++(min e.1 key,c2)::Y_)=X++(min e.1 key,c2)::(kr,r)::Y_/\Bd t2.N (h+1) (putE kr r (X++(min e.1 key,c2)::Y_)) hi (L0++((M1++M2)++L2))/\B3 lo hi (putE kr r (X++(min e.1 key,c2)::Y_))/\(vals (putE kr r (X++(min e.1 key,c2)::Y_))).Nodup/\lo<=kr/\kr<hi:=by
 obtain ⟨a,b⟩:=MP S t n;have d:=Ki c2 hs y (k1:=min e.1 key) (hX.imp id (λq=>by omega)) U o;obtain ⟨hp,_,f,g⟩:=Wn (r:=r) d.1 m s d.2 p;have i:=OP d.1 r d.2 ⟨f,g⟩;have j:=Ke (k:=kr) (v:=r) d.1;have u:Bd t2.N (h+1) (putE kr r (X++(min e.1 key,c2)::Y_)) hi (L0++((M1++M2)++L2)):=by
  rw[hp];have:L0++((M1++M2)++L2)=L0++(M1++(M2++L2)):=by simp
  rw[this];exact Sq.mk (e:=(min e.1 key,c2)) (B:=(kr,r)::Y_) a w ⟨M2,L2,Z,l,b⟩
 exact ⟨d.1,hp,u,i,u.nodup j (λx z=>(i x z).2),f,g⟩
theorem Wp(b:B3 lo hi (X++e::Y_))(d:lo<=min e.1 key):∀x∈X++(min e.1 key,c)::Y_,lo<=x.1/\x.1<hi:=λx a=>by
 rcases Aep.1 a with a|a
 ·exact b x (by simp[a])
 rcases Aen.1 a with rfl|a
 ·have:=b e O;dsimp only;omega
 exact b x (by simp[a])
end
section
variable{Tb:Ai}
set_option maxHeartbeats 2000000 in
theorem AbZ (pp mb n:Nat) (o:TB) (t:TS) (Q:List Nat) (a:Nat) (lo hi:Int) (m:Nat) (key:Int) (val:Nat) (L:List E) (hP:InsPre n t Q a 0 lo hi m key val L):Cn prog 140 [Y pp,I (a:Int),I key,I (val:Int)] [trA Tb pp mb n o (some (t,a::val::Q))] (λv Γ=>JC Tb pp mb n o t Q 0 lo hi m key val L v Γ):=by
 intro z R w H;replace H:=H.l1;have K:=H.says 0 Z (λh a=>trA.k a);have hn:=K.hn;have c0:=hP.kk;have h0:=hP.l0;have a1:=hP.h1;have c6:=hP.nv;have d7:=hP.hk;have c9:=hP.hb;obtain ⟨b,c2⟩:=hP.dt;have d6:=K.i.rin val (by simp[CU]);obtain ⟨es,hN,hm,c4,l,b0,b7⟩:=hP.T;have a9:CkN true (kL es) (vL es):=K.i.vok U hn.2 hN;have c3:=(K.i.nds a _ hN).2.1;have b8:(0<=key/\key<1048576)/\1<=val/\val<1024:=by omega
 obtain rfl:es=L:=b0.symm;refine Ae func140 Z ntmps140 Z (Za 2 [] H Z ?_);intro b1 w H;refine Zc 7 Z (Aq Z (call181 _) (Jz pp mb n o t (val::Q) a true es hN U (by simp only[Aeg];omega)) H.f1 ?_);rintro _ w _ (⟨c7,v2,v3,s,rfl,rfl⟩|⟨t1,c,v2,v3,O_,rfl,rfl⟩) H'
 ·have H:=H'.l4;have a5:=H.sy 0 (·.slc)
  have a2:=H.sy 1 (·.slc);refine Za 4 [] H Z ?_;intro b4 w H;refine Zc 1 Z (Az Z Z (Ak 0 H Z Z Z Z (vs:=[.bool true,v2,v3]) Z (Ad Z (Ad a5.one (Ad a2.one Aw))) J O (out:=[.bool true,v2,v3]) Z) ?_);rintro w H;replace H:=H.l5;refine Z4 20 [3,4] H Z ?_;intro w H;refine Zl [4,3] H Z ?_;exact ⟨_,.inl ⟨U,_,Z,Z⟩,H.perm 5 [3] Z Z⟩
 have H:=H'.l4;have a5:=H.sy 0 (·.slc);have a2:=H.sy 1 (·.slc);refine Za 4 [] H Z ?_;intro b5 w H;refine Zc 1 Z (Az Z Z (Ak 0 H Z Z Z Z (vs:=[.bool true,v2,v3]) Z (Ad Z (Ad a5.one (Ad a2.one Aw))) J O (out:=[.bool true,v2,v3]) Z) ?_);rintro w H;replace H:=H.l5;refine Z0 15 [4] Z ?_;obtain ⟨b2,b6,a8⟩:=Wo (N:=t1.N) l.srt c4 c0 (λe he=>by obtain ⟨b,hb⟩:=b7 e he;exact ⟨b,O_.dv _ (Aez he) b hb⟩) (O_.st.dt val O b c2) c3 (c6 a _ hN);refine Z2 11 [0,0,0,0,3] H Z (Aq Z (call133 _) (OO (es:=es) (λh q=>q.rd) (λh q=>q.rd) l.len l.srt key) H.f2.f2 ?_);rintro _ w _ (⟨X,v0,Y_,⟨a0,hX⟩,rfl,rfl⟩|⟨c5,i0,rfl,rfl⟩) H'
 ·have H:=H'.l5;refine Zc 14 Z ?_;have c1:∀d,t1.N v0≠some (.nd d):=λd q=>by obtain ⟨b,hb⟩:=b7 (key,v0) (by rw[a0];simp);rw[O_.dv v0 (by rw[a0];simp[vals]) b hb] at q;cases q
  obtain ⟨d4,d1,rfl⟩:=a2;have b3:=(H.rv 1 (·.rd)).at (j:=X.length) (u:=I (v0:Int)) (by rw[a0];simp[vL]);replace H:=(H.mono 3 (B:=trA Tb pp mb n o (some (t1,v0::(c::(vals (putE key val es)++Q))))) Z (λh q=>q.perm (by rw[a0];exact M7 hX))).l5;refine Z2 5 [2,2,0] H Z (Ab Z (Aj Z (z:=1) (j:=X.length) (r:=X.length) J Z Z Z (by rw[a0];simp) b3 U) (Ab Z (Ax Z Z J (Ay b3)) (Aq Z (call142 _) (GU pp mb n o t1 v0 c1) H.f3 ?_)));rintro _ w _ ⟨t2,⟨x,d0,d2,d3,d5⟩,rfl,rfl⟩ H;refine Z2 19 [4,3,3] H Z (Aq Z (call182 _) (RZ pp mb n o t2 Q c true es (λh q=>q.rd) (λh q=>q.rd) key val b8 a9 l.srt 0 lo hi m (putE key val es) (x.bd (λv hv=>by simp[hv]) b2) Z b6 a8 (x.op c O O_.N0 O_.C1).2 (x.op c O O_.N0 O_.C1).1 (by have:=O_.st.k;have:=x.k;omega) (by have:=(Kh (es:=es) l.srt key val).1;omega) h0 a1) H ?_);rintro _ w _ (⟨c8,s3,rfl,rfl⟩|⟨t3,⟨g,y⟩,rfl,rfl⟩|⟨t3,b9,r3,L3,L4,⟨g,a4,a7,a3,y,a6⟩,rfl,rfl⟩) H'
  ·have H:=H'.l5;refine Z4 7 [4] H Z ?_;intro w H;refine Zl [4,3] H Z ?_;exact ⟨_,.inl ⟨(by have:=O_.st.f;have:=x.f;omega),_,Z,Z⟩,H.perm 5 [0] Z Z⟩
  ·have H:=H'.l5;refine Z4 7 [4] H Z ?_;intro w H;refine Zl [4,3] H Z ?_;exact ⟨_,.inr (.inl ⟨_,c,⟨((O_.st.sub (λp hp=>by simp[hp]) (Aei _) (Aei _)).trans x (R:=Q) (R1:=Q) (λp hp=>hp) (λp hp=>by simp[hp]) (e:=1) (f:=1) U U).trans g (λp hp=>hp) (λp hp=>hp) U U,y⟩,Z,Z⟩),H.perm 5 [0] Z Z⟩
  have H:=H'.l5;refine Z4 7 [4] H Z ?_;intro w H;refine Zl [4,3] H Z ?_;exact ⟨_,.inr (.inr ⟨_,c,_,_,_,_,⟨((O_.st.sub (λp hp=>by simp[hp]) (Aei _) (Aei _)).trans x (R:=Q) (R1:=Q) (λp hp=>hp) (λp hp=>by simp[hp]) (e:=1) (f:=1) U U).trans g (λp hp=>hp) (λp hp=>hp) U U,a4,a7,a3,y,a6⟩,Z,Z⟩),H.perm 5 [0] Z Z⟩
 have H:=H'.l5;refine Zc 16 Z ?_;replace H:=(H.mono 3 (B:=trA Tb pp mb n o (some (t1,c::(vals (putE key val es)++Q)))) Z (λh q=>q.perm (M6 l.srt c5))).l5;refine Z2 6 [2,3] H Z (Aq Z (call182 _) (RZ pp mb n o t1 Q c true es (λh q=>q.rd) (λh q=>q.rd) key val b8 a9 l.srt 0 lo hi m (putE key val es) b2 Z b6 a8 O_.C1 O_.N0 (by have:=O_.st.k;omega) (by have:=(Kh (es:=es) l.srt key val).1;omega) h0 a1) H.f1.f1.f3 ?_);rintro _ w _ (⟨c8,s3,rfl,rfl⟩|⟨t3,⟨g,y⟩,rfl,rfl⟩|⟨t3,b9,r3,L3,L4,⟨g,a4,a7,a3,y,a6⟩,rfl,rfl⟩) H'
 ·have H:=H'.l5;refine Z4 7 [4] H Z ?_;intro w H;refine Zl [4,3] H Z ?_;exact ⟨_,.inl ⟨(by have:=O_.st.f;omega),_,Z,Z⟩,H.perm 5 [0] Z Z⟩
 ·have H:=H'.l5;refine Z4 7 [4] H Z ?_;intro w H;refine Zl [4,3] H Z ?_;exact ⟨_,.inr (.inl ⟨_,c,⟨(O_.st.sub (λp hp=>by simp[hp]) (Aei _) (Aei _)).trans g (R:=Q) (R1:=Q) (λp hp=>hp) (λp hp=>hp) U U,y⟩,Z,Z⟩),H.perm 5 [0] Z Z⟩
 have H:=H'.l5;refine Z4 7 [4] H Z ?_;intro w H;refine Zl [4,3] H Z ?_;exact ⟨_,.inr (.inr ⟨_,c,_,_,_,_,⟨(O_.st.sub (λp hp=>by simp[hp]) (Aei _) (Aei _)).trans g (R:=Q) (R1:=Q) (λp hp=>hp) (λp hp=>hp) U U,a4,a7,a3,y,a6⟩,Z,Z⟩),H.perm 5 [0] Z Z⟩
set_option maxHeartbeats 4000000 in
theorem Ab0 (pp mb n:Nat) (o:TB) (t:TS) (Q:List Nat) (h:Nat) (ih:∀(t:TS) (Q:List Nat) (a:Nat) (lo hi:Int) (m:Nat) (key:Int) (val:Nat) (L:List E),InsPre n t Q a h lo hi m key val L->Cn prog 140 [Y pp,I (a:Int),I key,I (val:Int)] [trA Tb pp mb n o (some (t,a::val::Q))] (λv Γ=>JC Tb pp mb n o t Q h lo hi m key val L v Γ)) (a:Nat) (lo hi:Int) (m:Nat) (key:Int) (val:Nat) (L:List E) (hP:InsPre n t Q a (h+1) lo hi m key val L):Cn prog 140 [Y pp,I (a:Int),I key,I (val:Int)] [trA Tb pp mb n o (some (t,a::val::Q))] (λv Γ=>JC Tb pp mb n o t Q (h+1) lo hi m key val L v Γ):=by
 intro z R w H;replace H:=H.l1;have K:=H.says 0 Z (λh a=>trA.k a);have e8:=hP.kk;have h0:=hP.l0;have a3:=hP.h1;have f5:=hP.nv;have i0:=hP.hk;have h5:=hP.hb;obtain ⟨b,g1⟩:=hP.dt;obtain ⟨es,hN,hm,g4,a6,g5⟩:=hP.T;refine Ae func140 Z ntmps140 Z (Za 2 [] H Z ?_);intro b1 w H;refine Zc 7 Z (Aq Z (call181 _) (Jz pp mb n o t (val::Q) a false es hN U (by simp only[Aeg];omega)) H.f1 ?_);rintro _ w _ (⟨g7,v2,v3,s,rfl,rfl⟩|⟨t1,c,v2,v3,O_,rfl,rfl⟩) H'
 ·have H:=H'.l4;have c7:=H.sy 0 (·.slc)
  have b2:=H.sy 1 (·.slc);refine Za 4 [] H Z ?_;intro b4 w H;refine Zc 1 Z (Az Z Z (Ak 0 H Z Z Z Z (vs:=[.bool false,v2,v3]) Z (Ad Z (Ad c7.one (Ad b2.one Aw))) J O (out:=[.bool false,v2,v3]) Z) ?_);rintro w H;replace H:=H.l5;refine Z4 20 [3,4] H Z ?_;intro w H;refine Zl [4,3] H Z ?_;exact ⟨_,.inl ⟨U,_,Z,Z⟩,H.perm 5 [3] Z Z⟩
 have H:=H'.l4;have c7:=H.sy 0 (·.slc);have b2:=H.sy 1 (·.slc);refine Za 4 [] H Z ?_;intro b5 w H;refine Zc 1 Z (Az Z Z (Ak 0 H Z Z Z Z (vs:=[.bool false,v2,v3]) Z (Ad Z (Ad c7.one (Ad b2.one Aw))) J O (out:=[.bool false,v2,v3]) Z) ?_);rintro w H;replace H:=H.l5;refine Z2 27 [4,0,0,0,0,3] H Z (Aq Z (call134 _) (Md (es:=es) (λh q=>q.rd) (λh q=>q.rd) a6.len a6.srt (a6.ne Z) key) H.f2.f2 ?_);rintro _ w _ ⟨X,e,Y_,⟨g,hX,i6,hY⟩,rfl,rfl⟩ H;refine Zc 4 Z ?_;obtain ⟨i7,e6,rfl⟩:=b2;have d8:=(H.rv 1 (·.rd)).at (j:=X.length) (u:=I (e.2:Int)) (by rw[g];simp[vL]);replace H:=(H.mono 3 (B:=trA Tb pp mb n o (some (t1,e.2::val::(c::(vals X++(vals Y_++Q)))))) Z (λh q=>q.perm (by rw[g];exact ZI))).l5;have c5:Srt (X++e::Y_):=by rw[<-g];exact a6.srt
 have b3:B3 lo hi (X++e::Y_):=by rw[<-g];exact g4
 obtain ⟨L0,Lc,L2,⟨e0,f8,e3⟩,i3,d7,c3,e9,f9,f0⟩:=AbY val c5 b3 (by rw[<-g];exact O_.bd g5) hX hY e8;have h6:(vals X).length+(vals Y_).length+1=es.length:=by rw[g];simp[vals];omega
 have g8:es.length<=8:=a6.len;refine Z2 5 [2,2,0] H Z (Ab Z (Aj Z (z:=1) (j:=X.length) (r:=X.length) J Z Z Z (by rw[g];simp) d8 U) (Ab Z (Ax Z Z J (Ay d8)) (Zc 2 Z (Aq Z (call140 _) (ih t1 (c::(vals X++(vals Y_++Q))) e.2 (min e.1 key) (nx Y_ hi) 4 key val Lc ⟨f8,⟨e9,f9⟩,by omega,by omega,⟨b,O_.st.dt val O b g1⟩,λq d hq=>f5 q d (O_.sub q d hq),by have:=O_.st.k;omega,by simp only[Aeg,Aee];omega⟩) H.f3 ?_))));rintro _ w _ (⟨h8,s2,rfl,rfl⟩|⟨t2,c2,⟨l,d0⟩,rfl,rfl⟩|⟨t2,c2,kr,r,M1,M2,⟨l,g0,e7,g6,d0,a4⟩,rfl,rfl⟩) H'
 ·have H:=H'.l5;refine Za 3 [] H Z ?_;intro b6 w H;refine Z4 21 [0,3,5] H Z ?_;intro w H;refine Zl [5,3] H Z ?_;exact ⟨_,.inl ⟨(by have:=O_.st.f;omega),_,Z,Z⟩,H.perm 6 [1] Z Z⟩
 ·have H:=H'.l5;refine Za 3 [] H Z ?_;intro b7 w H;refine Z4 15 [0,4] H Z ?_;intro w H;have f4:X.length<es.length:=by rw[g];simp
  have a9:0<(kL es).length:=by simp only[Aef];omega
  have a8:0<(vL es).length:=by simp only[Aef];omega
  obtain ⟨gk,a1,y,rfl,e2,d5,e1,H⟩:=H.ungrow 2 Z a9;replace H:=H.l6;obtain ⟨d1,a7,a0,d2,b9,c1,c8,H'⟩:=H.ungrow 3 Z a8;cases d2;clear H;have H:=H'.l6;refine Z2 6 [2,4,0,0,0,0] H Z (Ab Z (CI Z (z:=1) (j:=X.length) (r:=X.length) J Z Z Z (by simp only[Aef];omega) U) (Az Z Z (Ak 3 H Z Z Z Z (vs:=[I (c2:Int)]) Z (by simp[u8,u32,Value.oneCell']) J (by simp only[Aee,Aef,Aeg,AeB];omega) (out:=(((vL es).set X.length (c2:Int)).map I++a0)) (Eb (by simp only[Aef];omega))) ?_));rintro w H;replace H:=H.l6;refine Zc 3 Z (BH 11 J J (AZ H λw H'=>?_));have H:=H'.l6;refine PV 6 [1,0,1,0] (AO (H.blk 4 Z) AM) Z J Z (B9 Z Z Z (CI Z (z:=1) (j:=X.length) (r:=X.length) J Z Z Z (by simp only[Aef];omega) U) (B9 Z Z Z (Bg Z Z J (Ay (H.cel 2 Z X.length (show ((kL es).map I++y)[X.length]?=some (I e.1) from (by rw[Aem (by simp only[Aef];omega),Aeo,Aeo,g];simp))))) ?_));refine PW 1 [] Z J (B9 Z Z Z (Ku Z Z Z) (B9 Z Z Z (CI Z (z:=1) (j:=X.length) (r:=X.length) J Z Z Z (by simp only[Aef];omega) U) (CF (gw (Az Z Z (Ak 2 H Z Z Z Z (vs:=[I (min (e.1:Int) key)]) Z (by simp[u8,u32,Value.oneCell']) J (by simp only[Aee,Aef,Aeg,AeB];omega) (out:=(((kL es).set X.length (min e.1 key)).map I++y)) (Eb (by simp only[Aef];omega))) ?_)))));rintro w H;replace H:=H.l6;refine Zc 4 Z ?_;have c6:(kL es).length=(kL (X++(min e.1 key,c2)::Y_)).length:=by rw[g];simp
  have c0:(vL es).length=(vL (X++(min e.1 key,c2)::Y_)).length:=by rw[g];simp
  have d3:(kL es).set X.length (min e.1 key)=kL (X++(min e.1 key,c2)::Y_):=by rw[g];simp[kL,AfZ]
  have c9:(vL es).set X.length (c2:Int)=vL (X++(min e.1 key,c2)::Y_):=by rw[g];simp[vL,AfZ]
  replace H:=(H.mono 2 (B:=grow 3 1 (.slice (some ⟨gk,0,none⟩) ((kL es).length) a1) ((kL es).length) ((kL (X++(min e.1 key,c2)::Y_)).map I)) Z (λh q=>q.grow U U (by simp only[Aee,Aef,AeU];simp only[Aef] at *;omega) (by rw[AeP,AeF O,d3]))).l6;replace H:=(H.mono 3 (B:=grow 3 1 (.slice (some ⟨d1,0,none⟩) ((vL es).length) e6) ((vL es).length) ((vL (X++(min e.1 key,c2)::Y_)).map I)) Z (λh q=>q.grow U U (by simp only[Aee,Aef,AeU];simp only[Aef] at *;omega) (by rw[AeP,AeF O,c9]))).l6;refine Z2 10 [2,0,0,4] H Z ?_;obtain ⟨d4,⟨b0,e5⟩,c4⟩:=ZJ l e0 e3 d0 c5 b3 hX c3;have i4:((X++(min e.1 key,c2)::Y_):List E).length=es.length:=by rw[g];simp
  replace H:=(H.mono 1 (B:=trA Tb pp mb n o (some (t2,c::(vals (X++(min e.1 key,c2)::Y_)++Q)))) Z (λh q=>q.perm OQ)).l6;refine Z2 6 [4,3] H Z (Aq Z (call183 _) (F4 pp mb n o t2 Q c false (X++(min e.1 key,c2)::Y_) (λh q=>by rw[<-c6];exact q.rd) (λh q=>by rw[<-c0];exact q.rd) (h+1) lo hi m (putE key val L) (by rw[d7];exact d4) O e5 U ⟨b0,by dsimp only;omega,JB e5 h0 a3,λ_=>by simp⟩ c4 (l.op c O O_.N0 O_.C1).2 (l.op c O O_.N0 O_.C1).1 (by have:=O_.st.k;have:=l.k;omega)) H.f3.f3.f3 ?_);rintro _ w _ ⟨t3,⟨a2,a4,h3,i5⟩,rfl,rfl⟩ H;refine Z4 5 [5] H Z ?_;intro w H;refine Zl [5,3] H Z ?_;exact ⟨_,.inr (.inl ⟨_,c,⟨((O_.st.sub (R':=Q) (λp hp=>by simp[hp]) (Aei _) (Aei _)).trans l (R:=Q) (R1:=Q) (λp hp=>hp) (λp hp=>by simp[hp]) (Aei _) (Aei _)).trans a2 (λp hp=>hp) (λp hp=>hp) U U,a4⟩,Z,Z⟩),H.perm 6 [0] Z Z⟩
 have H:=H'.l5;refine Za 3 [] H Z ?_;intro b8 w H;refine Z4 15 [0,4] H Z ?_;intro w H;have f4:X.length<es.length:=by rw[g];simp
 have a9:0<(kL es).length:=by simp only[Aef];omega
 have a8:0<(vL es).length:=by simp only[Aef];omega
 obtain ⟨gk,a1,y,rfl,e2,d5,e1,H⟩:=H.ungrow 2 Z a9;replace H:=H.l6;obtain ⟨d1,a7,a0,d2,b9,c1,c8,H'⟩:=H.ungrow 3 Z a8;cases d2;clear H;have H:=H'.l6;refine Z2 6 [2,4,0,0,0,0] H Z (Ab Z (CI Z (z:=1) (j:=X.length) (r:=X.length) J Z Z Z (by simp only[Aef];omega) U) (Az Z Z (Ak 3 H Z Z Z Z (vs:=[I (c2:Int)]) Z (by simp[u8,u32,Value.oneCell']) J (by simp only[Aee,Aef,Aeg,AeB];omega) (out:=(((vL es).set X.length (c2:Int)).map I++a0)) (Eb (by simp only[Aef];omega))) ?_));rintro w H;replace H:=H.l6;refine Zc 3 Z (BH 11 J J (AZ H λw H'=>?_));have H:=H'.l6;refine PV 6 [1,0,1,0] (AO (H.blk 4 Z) AM) Z J Z (B9 Z Z Z (CI Z (z:=1) (j:=X.length) (r:=X.length) J Z Z Z (by simp only[Aef];omega) U) (B9 Z Z Z (Bg Z Z J (Ay (H.cel 2 Z X.length (show ((kL es).map I++y)[X.length]?=some (I e.1) from (by rw[Aem (by simp only[Aef];omega),Aeo,Aeo,g];simp))))) ?_));refine PW 1 [] Z J (B9 Z Z Z (Ku Z Z Z) (B9 Z Z Z (CI Z (z:=1) (j:=X.length) (r:=X.length) J Z Z Z (by simp only[Aef];omega) U) (CF (gw (Az Z Z (Ak 2 H Z Z Z Z (vs:=[I (min (e.1:Int) key)]) Z (by simp[u8,u32,Value.oneCell']) J (by simp only[Aee,Aef,Aeg,AeB];omega) (out:=(((kL es).set X.length (min e.1 key)).map I++y)) (Eb (by simp only[Aef];omega))) ?_)))));rintro w H;replace H:=H.l6;refine Zc 4 Z ?_;have c6:(kL es).length=(kL (X++(min e.1 key,c2)::Y_)).length:=by rw[g];simp
 have c0:(vL es).length=(vL (X++(min e.1 key,c2)::Y_)).length:=by rw[g];simp
 have d3:(kL es).set X.length (min e.1 key)=kL (X++(min e.1 key,c2)::Y_):=by rw[g];simp[kL,AfZ]
 have c9:(vL es).set X.length (c2:Int)=vL (X++(min e.1 key,c2)::Y_):=by rw[g];simp[vL,AfZ]
 have i2:manyN n+1<=r:=by have K3:=H.says 1 Z (λh a=>trA.k a);exact (K3.i.rin r (by simp[CU])).1
 replace H:=(H.mono 2 (B:=grow 3 1 (.slice (some ⟨gk,0,none⟩) ((kL es).length) a1) ((kL es).length) ((kL (X++(min e.1 key,c2)::Y_)).map I)) Z (λh q=>q.grow U U (by simp only[Aee,Aef,AeU];simp only[Aef] at *;omega) (by rw[AeP,AeF O,d3]))).l6;replace H:=(H.mono 3 (B:=grow 3 1 (.slice (some ⟨d1,0,none⟩) ((vL es).length) e6) ((vL es).length) ((vL (X++(min e.1 key,c2)::Y_)).map I)) Z (λh q=>q.grow U U (by simp only[Aee,Aef,AeU];simp only[Aef] at *;omega) (by rw[AeP,AeF O,c9]))).l6;refine Z2 6 [2,0,0,0] H Z (Af Z (λh1=>?_) (λh1=>?_))
 ·refine Zc 1 Z ?_;obtain ⟨b0,a5,d4,e4,c4,g9,h2⟩:=ZK (r:=r) l e0 e3 d0 a4 c5 b3 hX c3 e7 g6 f0;have i1:(putE kr r (X++(min e.1 key,c2)::Y_)).length=es.length+1:=by rw[a5,g];simp only[Aee,Aeg];omega
  replace H:=(H.mono 1 (B:=trA Tb pp mb n o (some (t2,c::(vals (putE kr r (X++(min e.1 key,c2)::Y_))++Q)))) Z (λh q=>q.perm (by rw[a5];exact TU))).l6;have K2:=H.says 1 Z (λh a=>trA.k a);have d6:(0<=kr/\kr<1048576)/\1<=r/\r<1024:=by have:=K2.i.rin r (by simp[CU,a5,vals]);omega
  have d9:CkN false (kL (X++(min e.1 key,c2)::Y_)) (vL (X++(min e.1 key,c2)::Y_)):=CkN.of ⟨b0,by have:((X++(min e.1 key,c2)::Y_):List E).length=es.length:=(by rw[g];simp);dsimp only;omega,λx hx=>by have:=Wp b3 c3 (c:=c2) x hx;omega,λ_=>by simp⟩ (λv hv=>by have:=K2.i.rin v (by simp only[CU,a5,BO,B7] at hv ⊢;simp only[Aen,Aep] at hv ⊢;rcases hv with h|h|h<;>simp[h]);omega);refine Z2 8 [4,3,1,0,0,2,0,0] H Z (Aq Z (call182 _) (RZ pp mb n o t2 Q c false (X++(min e.1 key,c2)::Y_) (λh q=>by rw[<-c6];exact q.rd) (λh q=>by rw[<-c0];exact q.rd) kr r d6 d9 b0 (h+1) lo hi m (putE key val L) (by rw[d7,g0];exact d4) O e4 c4 (l.op c O O_.N0 O_.C1).2 (l.op c O O_.N0 O_.C1).1 (by have:=O_.st.k;have:=l.k;omega) U h0 a3) H.f3.f3.f3 ?_);rintro _ w _ (⟨i8,s3,rfl,rfl⟩|⟨t3,⟨a2,a4⟩,rfl,rfl⟩|⟨t3,h4,r3,L3,L4,⟨a2,g2,f6,f7,a4,g3⟩,rfl,rfl⟩) H'
  ·have H:=H'.l6;refine Z4 7 [5] H Z ?_;intro w H;refine Zl [5,3] H Z ?_;exact ⟨_,.inl ⟨(by have:=O_.st.f;have:=l.f;omega),_,Z,Z⟩,H.perm 6 [0] Z Z⟩
  ·have H:=H'.l6;refine Z4 7 [5] H Z ?_;intro w H;refine Zl [5,3] H Z ?_;exact ⟨_,.inr (.inl ⟨_,c,⟨((O_.st.sub (R':=Q) (λp hp=>by simp[hp]) (Aei _) (Aei _)).trans l (R:=Q) (R1:=Q) (λp hp=>hp) (λp hp=>by simp[hp]) (Aei _) (Aei _)).trans a2 (λp hp=>hp) (λp hp=>hp) U U,a4⟩,Z,Z⟩),H.perm 6 [0] Z Z⟩
  have H:=H'.l6;refine Z4 7 [5] H Z ?_;intro w H;refine Zl [5,3] H Z ?_;exact ⟨_,.inr (.inr ⟨_,c,_,_,_,_,⟨((O_.st.sub (R':=Q) (λp hp=>by simp[hp]) (Aei _) (Aei _)).trans l (R:=Q) (R1:=Q) (λp hp=>hp) (λp hp=>by simp[hp]) (Aei _) (Aei _)).trans a2 (λp hp=>hp) (λp hp=>hp) U U,g2,f6,f7,a4,g3⟩,Z,Z⟩),H.perm 6 [0] Z Z⟩
 (exfalso;omega)
end
section
variable{Tb:Ai}
theorem OR(pp mb n:Nat)(o:TB):∀(h:Nat) (t:TS) (Q:List Nat) (a:Nat) (lo hi:Int) (m:Nat) (key:Int) (val:Nat) (L:List E),InsPre n t Q a h lo hi m key val L->Cn prog 140 [Y pp,I (a:Int),I key,I (val:Int)] [trA Tb pp mb n o (some (t,a::val::Q))] (λv Γ=>JC Tb pp mb n o t Q h lo hi m key val L v Γ)
 | 0=>λt Q a lo hi m key val L hP=>AbZ pp mb n o t Q a lo hi m key val L hP
 | h+1=>λt Q a lo hi m key val L hP=>Ab0 pp mb n o t Q h (OR pp mb n o h) a lo hi m key val L hP
theorem Tr.lo{N:Hm}{h r:Nat}{lo hi:Int}{m:Nat}{L es:List E}{lf:Bool}(t:Tr N h r lo hi m L)(hN:N r=some (.nd ⟨lf,es⟩))(k:1<=m):Tr N h r (nx es hi) hi m L/\lo<=nx es hi/\nx es hi<hi:=by
 obtain ⟨j,b,c,d,f,g⟩:=Tr.iff.1 t;rw[b] at hN;cases hN
 cases es with
 | nil=>simp at c;omega
 | cons e u=>
  have i:=d e O;refine ⟨Tr.iff.2 ⟨_,b,c,λx a=>⟨?_,(d x a).2⟩,f,g⟩,i⟩;rcases Aen.1 a with rfl|a
  ·exact Afm _
  exact AgU ((Srt.cons.1 f.srt).1 x a)
theorem root_two{N:Hm}{L2:List E}{es:List E}(h:Tr N n m 0 t 4 X)(hN:N m=some (.nd ⟨b,es⟩))(c:Tr N n r t 1048576 4 L2)(i:t<1048576):
  Bd N (n+1) [(nx es t,m),(t,r)] 1048576 (X++L2)/\B3 0 1048576 [(nx es t,m),(t,r)]/\(Nd.mk false [(nx es t,m),(t,r)]).Ok/\(vals [(nx es t,m),(t,r)]).Nodup:=by
 obtain ⟨g,l,k⟩:=h.lo hN U;have hs:Srt [(nx es t,m),(t,r)]:=Srt.cons.2 ⟨λx a=>by simp at a;subst a;exact k,Srt.cons.2 ⟨by simp,by simp[Srt]⟩⟩;have d:B3 0 1048576 [(nx es t,m),(t,r)]:=λx a=>by
  simp at a;rcases a with rfl|rfl
  ·dsimp only;omega
  dsimp only;omega
 have f:Bd N (n+1) [(nx es t,m),(t,r)] 1048576 (X++L2):=⟨X,L2,Z,g,L2,[],by simp,c,Z⟩;exact ⟨f,d,⟨hs,by simp,λe j=>d e j,λ_=>by simp⟩,f.nodup hs (λx a=>(d x a).2)⟩
theorem Wq{N:Hm}(d:N n=some (.dt B))(f:0<=t/\t<1048576):Bd N 0 [(t,n)] 1048576 (putE t n [])/\B3 0 1048576 [(t,n)]/\(Nd.mk true [(t,n)]).Ok/\(vals [(t,n)]).Nodup:=by
 have b:B3 0 1048576 [(t,n)]:=λx c=>by simp at c;subst c;exact f
 exact ⟨⟨Z,λe a=>by simp at a;subst a;exact ⟨B,d⟩⟩,b,⟨by simp[Srt],by simp,λe a=>b e a,λq=>by cases q⟩,by simp[vals]⟩
def Root(N:Hm)(r:Nat)(L:List E):Prop:=(r=0/\L=[])\/(r≠0/\∃h,Tr N h r 0 1048576 (if h=0 then 1 else 2) L)
def A8(r:Nat):List Nat:=if r=0 then [] else [r]
def CY(N:Hm):Nat->Nat->List Nat
 | 0,r=>[r]
 | h+1,r=>match N r with
  | some (.nd d)=>d.es.flatMap λe=>CY N h e.2
  | _=>[]
def QN(N:Hm)(r:Nat):List E:=match N r with
 | some (.nd d)=>d.es
 | _=>[]
theorem R5{N:Hm}(t:Tr N n r s p m X)(v:1<=m):(CY N n r).flatMap (QN N)=X/\(∀q∈CY N n r,QN N q≠[]/\∃d,N q=some (.nd d))/\m*4^(n-1)<=(CY N n r).length*(if n=0 then m else 1):=by
 induction n generalizing r s p m X with
 | zero=>
  obtain ⟨es,f,g,_,_,rfl,_⟩:=t;refine ⟨by simp[CY,QN,f],λq hq=>?_,by simp[CY]⟩;simp[CY] at hq;subst hq;refine ⟨?_,_,f⟩;simp only[QN,f];intro q;rw[q] at g;simp at g;omega
 | succ n ih=>
  obtain ⟨es,f,g,_,_,i⟩:=t;have o:CY N (n+1) r=es.flatMap λe=>CY N n e.2:=by simp[CY,f]
  rw[o];have key:∀(es:List E) (X:List E),Sq (λc a b X=>Tr N n c a b 4 X) es p X->(es.flatMap λe=>CY N n e.2).flatMap (QN N)=X/\(∀q∈es.flatMap λe=>CY N n e.2,QN N q≠[]/\∃d,N q=some (.nd d))/\es.length*4^n<=(es.flatMap λe=>CY N n e.2).length:=by
   intro es
   induction es with
   | nil=>intro X q;have q:X=[]:=q;subst q;simp
   | cons e u ih2=>
    rintro _ ⟨L1,L2,rfl,k,l⟩;obtain ⟨a1,a2,a3⟩:=ih k U;obtain ⟨j,h,w⟩:=ih2 L2 l;have a4:4^n<=(CY N n e.2).length:=by
     cases n with
     | zero=>simp[CY]
     | succ n=>simp at a3;rw[Ahz,AhA];exact a3
    refine ⟨by simp only[AeG,Af1,a1,j],λq hq=>?_,?_⟩
    ·rcases Aep.1 (by simpa using hq:q∈CY N n e.2++u.flatMap λe=>CY N n e.2) with hq|hq
     ·exact a2 q hq
     exact h q hq
    simp only[AeG,Aee,Aeg];rw[AhF];omega
  obtain ⟨a1,a2,a3⟩:=key es X i;refine ⟨a1,a2,?_⟩;have:m*4^n<=es.length*4^n:=AfG _ g;rw[if_neg U,AeP,Nat.add_sub_cancel];omega
theorem Le{f:Nat->List E}:∀{ps:List Nat},Srt (ps.flatMap f)->(∀p∈ps,f p≠[])->ps.Nodup
 | [],_,_=>by simp
 | p::ps,hs,hne=>by
  rw[AeG] at hs;obtain ⟨s1,s2,s3⟩:=Srt.app.1 hs;rw[Afi];refine ⟨λhp=>?_,Le s2 (λq hq=>hne q (by simp[hq]))⟩;obtain ⟨x,u,e⟩:=AfF (hne p O);have:=s3 x (by rw[e];simp) x (Agg.2 ⟨p,hp,by rw[e];simp⟩);omega
theorem OS :∀{l:List Nat},l.Nodup->(∀x∈l,x<n)->l.length<=n:=λ{l} b a=>by
 have:=List.Nodup.length_le_of_subset (l₁:=l) (l₂:=List.range n) b (λx c=>AfQ.2 (a x c));simpa using this
theorem R6{N:Hm}{L Y_:List E}{e:E}{key:Int}(hs:Srt (X++e::Y_))(j:B3 s p (X++e::Y_))(f:Bd N (n+1) (X++e::Y_) p L)(d:X=[]\/e.1<=key)(k:∀x∈Y_,key<x.1/\e.1<x.1):∃Lc,Tr N n e.2 e.1 (nx Y_ p) 4 Lc/\∀v,(key,v)∈Lc↔(key,v)∈L:=by
 obtain ⟨L0,Lc,L2,rfl,a,i,c⟩:=Sq.at f;obtain ⟨l,g,h⟩:=Srt.app.1 hs;have a1:=Sq.srt a l (λx b=>h x b e O) (λ_ _ _ _ q=>Tr.srt q);have a3:=Sq.srt c (Srt.cons.1 g).2 (λx b=>(j x (by simp[b])).2) (λ_ _ _ _ q=>Tr.srt q);refine ⟨Lc,i,λv=>⟨λq=>by simp[q],λq=>?_⟩⟩;rcases Aep.1 q with q|q
 ·exfalso
  rcases d with rfl|d
  ·simp only[Sq] at a;subst a;simp at q
  have:=a1.2.1 _ q;dsimp only at this;omega
 rcases Aep.1 q with q|q
 ·exact q
 exfalso
 cases Y_ with
 | nil=>simp only[Sq] at c;subst c;simp at q
 | cons y t=>
  have:=a3.2.1 _ q;have:=k y O;simp only[nx] at *;omega
end
section
variable{Tb:Ai}
theorem Lf(pp mb n:Nat)(o:TB){s:TS×List Nat}:Cn prog 137 [Y pp] [trA Tb pp mb n o (some s)] (λv Γ=>v=I 0/\Γ=[trA Tb pp mb n o (some s)]):=by
 intro z R w H;refine Ae func137 Z ntmps137 Z (Zc 19 Z (z_E_ Z (call80 _) (HS pp mb n o) H ?_));intro w H;refine AD 6 (v:=.bool true) Z Z (Zc 12 Z (Zr Z ?_));exact ⟨_,⟨Z,Z⟩,H⟩
theorem Ab1(pp mb n:Nat)(o:TB)(t:TS)(Q:List Nat)(key:Int)(val:Nat)(b:List UInt8)(f:0<=key/\key<1048576)(m:t.N val=some (.dt b))(hk:t.k<40):Cn prog 83 [Y pp,I 0,I key,I (val:Int)] [trA Tb pp mb n o (some (t,val::Q))] (λv Γ=>(cnt t.F 0 1024<=0/\∃s:TS×List Nat,v=.tuple #[I 0,I 20]/\Γ=[trA Tb pp mb n o (some s)])\/∃(t2:TS) (r:Nat),(St t t2 Q 1 1/\Tr t2.N 0 r 0 1048576 1 (putE key val []))/\v=.tuple #[I (r:Int),I 0]/\Γ=[trA Tb pp mb n o (some (t2,r::Q))]):=by
 intro z R w H;have K:=H.says 0 Z (λh a=>trA.k a);have a1:=K.i.rin val (by simp[CU]);have d:=K.i.pos (p:=val) (by simp[CU]);have d:1<=t.C val:=d;obtain ⟨x,l,j,g⟩:=Wq m f;refine Ae func83 Z ntmps83 Z (Zc 10 Z (z_E_ Z (call137 _) (Lf pp mb n o) H ?_));intro w H;refine Z0 18 [4,0] Z (Al 21 Z (λh1=>U) (λh1=>?_));refine Z0 4 [0] Z (Al 25 Z (λh2=>U) (λh2=>?_));refine Zc 2 Z (z_E_ Z (call138 _) (LY pp mb n o val U) H ?_);intro w H;refine AD 28 (v:=I (t.C val:Int)) Z Z (Z0 4 [0] Z (Af Z (λh3=>U) (λh3=>?_)));refine Z0 14 [3] Z (AR Z (AP H Z J BA Z (by decide) (by decide) (out:=[I key]) J) ?_);rintro _ w ⟨b1,rfl,H⟩;refine Zc 1 Z (AR Z (AP H Z J BA Z (by decide) (by decide) (out:=[I (val:Int)]) J) ?_);rintro _ w ⟨b2,rfl,H⟩;refine Zc 1 Z (Aq Z (call139 _) (HU pp mb n o t Q true [(key,val)] (λh q=>q.rd U U O Z) (λh q=>q.rd U U O Z) 0 0 1048576 1 (putE key val []) x Z l O j g hk) H.f1.f2 ?_);rintro _ w _ (⟨a0,rfl,rfl⟩|⟨t2,u,⟨e,c,y⟩,rfl,rfl⟩) H'
 ·have H:=H'.l3;refine Zc 7 Z (Zr Z ?_);exact ⟨_,.inl ⟨by omega,_,Z,Z⟩,H.perm 3 [0] Z Z⟩
 have H:=H'.l3;refine Zc 7 Z (Zr Z ?_);exact ⟨_,.inr ⟨t2,u,⟨e,c⟩,Z,Z⟩,H.perm 3 [0] Z Z⟩
set_option maxHeartbeats 1000000 in
theorem Ab2 (pp mb n:Nat) (o:TB) (t:TS) (Q:List Nat) (h a:Nat) (m:Nat) (key:Int) (val:Nat) (L:List E) (hP:InsPre n t Q a h 0 1048576 m key val L):Cn prog 83 [Y pp,I (a:Int),I key,I (val:Int)] [trA Tb pp mb n o (some (t,a::val::Q))] (λv Γ=>(cnt t.F 0 1024<=2*h+2/\∃s:TS×List Nat,v=.tuple #[I 0,I 20]/\Γ=[trA Tb pp mb n o (some s)])\/∃(t2:TS) (r:Nat),(St t t2 Q (2*h+3) (3*h+4)/\(Tr t2.N h r 0 1048576 m (putE key val L)\/Tr t2.N (h+1) r 0 1048576 2 (putE key val L)))/\v=.tuple #[I (r:Int),I 0]/\Γ=[trA Tb pp mb n o (some (t2,r::Q))]):=by
 intro z R w H;have K:=H.says 0 Z (λh a=>trA.k a);have c5:=hP.kk;have d3:=K.i.rin val (by simp[CU]);have a6:=K.i.pos (p:=val) (by simp[CU]);have a6:1<=t.C val:=a6;have d1:=K.i.rin a (by simp[CU]);refine Ae func83 Z ntmps83 Z (Zc 10 Z (z_E_ Z (call137 _) (Lf pp mb n o) H ?_));intro w H;refine Z0 18 [4,0] Z (Al 21 Z (λh1=>U) (λh1=>?_));refine Z0 4 [0] Z (Al 25 Z (λh2=>U) (λh2=>?_));refine Zc 2 Z (z_E_ Z (call138 _) (LY pp mb n o val U) H ?_);intro w H;refine AD 28 (v:=I (t.C val:Int)) Z Z (Z0 4 [0] Z (Af Z (λh3=>U) (λh3=>?_)));refine Z0 9 [0] Z (Af Z (λh4=>U) (λh4=>?_));refine Zc 8 Z (Aq Z (call140 _) (OR pp mb n o h t Q a 0 1048576 m key val L hP) H ?_);rintro _ w _ (⟨d2,s2,rfl,rfl⟩|⟨t2,c2,⟨b,g⟩,rfl,rfl⟩|⟨t2,c2,kr,r,M1,M2,⟨b,a1,c4,c3,g,c1⟩,rfl,rfl⟩) e
 ·have H:=e.l1;refine Za 3 [] H Z ?_;intro b1 w H;refine Z4 27 [0,3,0,0,0] H Z ?_;intro w H;refine Zr Z ?_;exact ⟨_,.inl ⟨by omega,_,Z,Z⟩,H.perm 2 [1] Z Z⟩
 ·have H:=e.l1;refine Za 3 [] H Z ?_;intro b2 w H;refine Z4 27 [0,4,2,0,0,3,0,0,0] H Z ?_;intro w H;refine Zr Z ?_;exact ⟨_,.inr ⟨t2,c2,⟨b.sub (λp hp=>hp) U U,.inl g⟩,Z,Z⟩,H.perm 2 [1] Z Z⟩
 have H:=e.l1;refine Za 3 [] H Z ?_;intro b3 w H;refine Z4 6 [0] H Z ?_;intro w H;have c8:manyN n+1<=r:=by have K3:=H.says 1 Z (λh a=>trA.k a);exact (K3.i.rin r (by simp[CU])).1
 refine Z2 10 [4,2,0,0,0] H Z (Af Z (λh5=>U) (λh5=>?_));refine Zc 3 Z ?_;obtain ⟨es,b0,a7,c6,d0,c9⟩:=Tr.iff.1 g;obtain ⟨a4,a2,a0,a8⟩:=root_two g b0 c1 c3;refine Z2 4 [0,0,0] H Z (Aq Z (call132 _) (HT pp mb n o (some (t2,c2::r::Q)) c2 (decide (h=0)) es b0) H.f1 ?_);rintro _ w _ ⟨v4,v5,rfl,rfl⟩ H;have y:=H.sy 0 (·.slc);have c0:=H.sy 1 (·.slc);refine Za 3 [] H Z ?_;intro b6 w H;refine Az Z Z (Ak 0 H Z Z Z Z (vs:=[.bool (decide (h=0)),v4,v5]) Z (Ad Z (Ad y.one (Ad c0.one Aw))) J O (out:=[.bool (decide (h=0)),v4,v5]) Z) ?_;rintro w H;refine Z0 14 [4] Z ?_;obtain ⟨a9,a5,rfl⟩:=y;have b5:=(H.rv 1 (·.rd)).at (j:=0) (u:=I (nx es kr)) (by rw[Aeo,FD a7];rfl);replace H:=H.f1.f1.f4;refine AN (Sep z (blk b3 [I (c2:Int),I kr,I (r:Int)] 211::blk b6 [.bool (decide (h=0)),.slice a9 ((kL es).length) a5,v5] 201::grow 3 1 (.slice a9 ((kL es).length) a5) ((kL es).length) ((kL es).map I)::R)) 19 Z J (AZ H λw e=>?_);have H:=e.l5;refine AT [0,1,2] [1,1,0] [] (by exact H.pick 5 [0,1,2] Z) Z J Z (BN 3 Z J J J Z Z Z (Aj Z (z:=1) (j:=0) (r:=0) J Z Z Z (by simp only[Aef];omega) b5 U) (H.pick 5 [0,1,2] Z) (BN 4 Z J J J Z Z Z (Ax Z Z J (λ_ b4=>(b4.rv 2 (·.rd)).at (j:=0) (u:=I (nx es kr)) (by rw[Aeo,FD a7];rfl))) (H.pick 5 [0,1,2] Z) ?_));refine AT [5,6,8,9,10,11] [1,0,0,0,0,0,2,0,0] [] (by exact H.pick 5 [0,1,2] Z) Z J Z (AC [7,12] J O (JS ?_ ?_))
 ·refine Ca Z Z Z Z (AP H Z J BA Z (by decide) (by decide) (out:=[I (nx es kr),I kr]) J) ?_;rintro _ w ⟨b7,rfl,H⟩;refine Av (H.pick 6 [1,2,3] Z) (AC [12] J O (Am (Ca Z Z Z Z (AP H Z J BA Z (by decide) (by decide) (out:=[I (c2:Int),I (r:Int)]) J) ?_)));rintro _ w ⟨b8,rfl,H⟩;refine Av (H.pick 7 [2,3,4] Z) (AT [13] [] [] (by exact H.pick 7 [2,3,4] Z) Z J Z (AC [14] J O (Am (Bo Z Z Z Z Z Z (λw=>call139 _ w) (HU pp mb n o t2 Q false [(nx es kr,c2),(kr,r)] (λh q=>q.rd U U O Z) (λh q=>q.rd U U O Z) (h+1) 0 1048576 2 (putE key val L) (by rw[a1];exact a4) O a2 O a0 a8 (by have:=b.k;have:=hP.hk;omega)) H.f1.f6 Z ?_))));rintro _ w _ (⟨a3,rfl,rfl⟩|⟨t3,l,⟨d,c,x⟩,rfl,rfl⟩) e
  ·have H:=e.l7;refine Av (H.pick 7 [3,4,5] Z) (AT [15,16,17,18] [] [] (by exact H.pick 7 [3,4,5] Z) Z J Z (a_done J (gn (Zc 2 Z (Zr Z ?_)))));exact ⟨_,.inl ⟨by have:=b.f;omega,_,Z,Z⟩,H.perm 7 [0] Z Z⟩
  have H:=e.l7;refine Av (H.pick 7 [3,4,5] Z) (AT [15,16,17,18] [] [] (by exact H.pick 7 [3,4,5] Z) Z J Z (a_done J (gn (Zc 2 Z (Zr Z ?_)))));exact ⟨_,.inr ⟨t3,l,⟨b.trans d (λp hp=>hp) (λp hp=>hp) U U,.inr c⟩,Z,Z⟩,H.perm 7 [0] Z Z⟩
 refine Ca Z Z Z Z (AP H Z J BA Z (by decide) (by decide) (out:=[I (c2:Int),I (r:Int)]) J) ?_;rintro _ w ⟨b9,rfl,H⟩;refine Av (H.pick 6 [1,2,3] Z) (AC [7] J O (Am (Ca Z Z Z Z (AP H Z J BA Z (by decide) (by decide) (out:=[I (nx es kr),I kr]) J) ?_)));rintro _ w ⟨c7,rfl,H⟩;refine Av (H.pick 7 [2,3,4] Z) (AT [13] [] [] (by exact H.pick 7 [2,3,4] Z) Z J Z (AC [14] J O (Am (Bo Z Z Z Z Z Z (λw=>call139 _ w) (HU pp mb n o t2 Q false [(nx es kr,c2),(kr,r)] (λh q=>q.rd U U O Z) (λh q=>q.rd U U O Z) (h+1) 0 1048576 2 (putE key val L) (by rw[a1];exact a4) O a2 O a0 a8 (by have:=b.k;have:=hP.hk;omega)) H.f1.f1.f6 Z ?_))));rintro _ w _ (⟨a3,rfl,rfl⟩|⟨t3,l,⟨d,c,x⟩,rfl,rfl⟩) e
 ·have H:=e.l7;refine Av (H.pick 7 [3,4,5] Z) (AT [15,16,17,18] [] [] (by exact H.pick 7 [3,4,5] Z) Z J Z (a_done J (gn (Zc 2 Z (Zr Z ?_)))));exact ⟨_,.inl ⟨by have:=b.f;omega,_,Z,Z⟩,H.perm 7 [0] Z Z⟩
 have H:=e.l7;refine Av (H.pick 7 [3,4,5] Z) (AT [15,16,17,18] [] [] (by exact H.pick 7 [3,4,5] Z) Z J Z (a_done J (gn (Zc 2 Z (Zr Z ?_)))));exact ⟨_,.inr ⟨t3,l,⟨b.trans d (λp hp=>hp) (λp hp=>hp) U U,.inr c⟩,Z,Z⟩,H.perm 7 [0] Z Z⟩
end
section
variable{Tb:Ai}
theorem QO(pp mb n:Nat)(o:TB)(T:TT)(key:Int)(L:List E)(h0 r0:Nat)(a7:Tr (Dk o T) h0 r0 t s g L):Cn prog 81 [Y pp,I (r0:Int),I key] [trA Tb pp mb n o T] (λv Γ=>((∃v0:Nat,(key,v0)∈L/\v=.tuple #[I (v0:Int),I 0])\/(¬CE key L/\v=.tuple #[I 0,I 0]))/\Γ=[trA Tb pp mb n o T]):=by
 intro z R w H;replace H:=H.l1;have K:=H.says 0 Z (λh a=>trA.k a);refine Ae func81 Z ntmps81 Z (Zc 18 Z ?_);refine AB (σ:=Nat×Nat×List E) (λ⟨h,r,L1⟩=>[(1,I (r:Int)),(0,Y pp),(2,I key)])
   (λ⟨h,r,L1⟩ w=>Sep z (trA Tb pp mb n o T::R) w/\((∃lo hi m,Tr (Dk o T) h r lo hi m L1)/\∀v,(key,v)∈L1↔(key,v)∈L)) (λ⟨h,r,L1⟩=>h) ⟨h0,r0,L⟩
   (λ_ hF=>(hF.all Z)) ⟨H,⟨⟨_,_,_,a7⟩,λ_=>Ahu⟩⟩ ?_
 clear H;rintro ⟨h,r,L1⟩ w ⟨y,hI⟩;dsimp only at hI y ⊢;have H:=y.l1;obtain ⟨⟨lo,hi,m,hT⟩,f⟩:=hI;obtain ⟨es,hN,hm,a4,c,a1⟩:=Tr.iff.1 hT;have b3:=K.i.nin r _ hN;refine Z0 7 [0] Z (Af Z (λh1=>?_) (λh1=>?_))
 ·refine Zc 7 Z (Aq Z (call132 _) (HT pp mb n o T r (decide (h=0)) es hN) H ?_);rintro _ w _ ⟨v1,v2,rfl,rfl⟩ H;replace H:=H.l3;have a3:=H.sy 0 (·.slc)
  have p:=H.sy 1 (·.slc);refine Za 3 [] H Z ?_;intro b1 w H;refine Az Z Z (Ak 0 H Z Z Z Z (vs:=[.bool (decide (h=0)),v1,v2]) Z (Ad Z (Ad a3.one (Ad p.one Aw))) J O (out:=[.bool (decide (h=0)),v1,v2]) Z) ?_;rintro w H;replace H:=H.l4;refine Z2 20 [4,0,0,0] H Z (Ep Z (λh2=>?_) (λh2=>?_))
  ·have a6:h=0:=of_decide_eq_true h2
   have a2:L1=es:=by subst a6;exact a1.1
   refine Z2 5 [0,3] H Z (Aq Z (call133 _) (OO (es:=es) (λh q=>q.rd) (λh q=>q.rd) c.len c.srt key) H.f2.f2 ?_);rintro _ w _ (⟨X,v0,Y_,⟨b,hX⟩,rfl,rfl⟩|⟨b0,i0,rfl,rfl⟩) y
   ·have H:=y.l4;refine Zc 14 Z ?_;obtain ⟨x,a0,rfl⟩:=p;have l:=(H.rv 1 (·.rd)).at (j:=X.length) (u:=I (v0:Int)) (by rw[b];simp[vL])
    refine Z2 4 [2,2,0] H Z (Ab Z (Aj Z (z:=1) (j:=X.length) (r:=X.length) J Z Z Z (by rw[b];simp) l U) (Ab Z (Ax Z Z J (Ay l)) (Zc 5 Z (Zr Z ?_))));exact ⟨_,⟨.inl ⟨v0,(f v0).1 (by rw[a2,b];simp),Z⟩,Z⟩,H.perm 4 [3] Z Z⟩
   have H:=y.l4;refine Zc 22 Z (Zr Z ?_);exact ⟨_,⟨.inr ⟨λ⟨v,hv⟩=>b0 ⟨v,by rw[<-a2];exact (f v).2 hv⟩,Z⟩,Z⟩,H.perm 4 [3] Z Z⟩
  obtain ⟨h',rfl⟩:∃h',h=h'+1:=⟨h-1,by have:=of_decide_eq_false h2;omega⟩;refine Zc 2 Z ?_;obtain ⟨x,a0,rfl⟩:=p;replace H:=H.f2.f1;refine AN (Sep z (blk b1 [.bool (decide ((h'+1)=0)),v1,.slice x ((vL es).length) a0] 201::grow 3 1 (.slice x ((vL es).length) a0) ((vL es).length) ((vL es).map I)::R)) 8 Z J (AZ H λw y=>?_);have H:=y.l4;refine AT [0,1,2,3] [2,0,0,0,3] [] (by exact H.pick 4 [0,1] Z) Z J Z (AC [4] J O (Am (Bo Z Z Z Z Z Z (λw=>call134 _ w) (Md (es:=es) (λh q=>q.rd) (λh q=>q.rd) c.len c.srt (c.ne O) key) H.f1.f2 Z ?_)));rintro _ w _ ⟨X,e,Y_,⟨b,hX,b2,hY⟩,rfl,rfl⟩ H;replace H:=H.l4;obtain ⟨Lc,a5,a9⟩:=R6 (by rw[<-b];exact c.srt) (by rw[<-b];exact a4) (by rw[<-b];exact a1) hX hY;have l:=(H.rv 1 (·.rd)).at (j:=X.length) (u:=I (e.2:Int)) (by rw[b];simp[vL]);refine Av (H.pick 4 [2,1] Z) (BN 5 Z J J J Z Z Z (Aj Z (z:=1) (j:=X.length) (r:=X.length) J Z Z Z (by rw[b];simp) l U) (H.pick 4 [2,1] Z) (BN 6 Z J J J Z Z Z (Ax Z Z J (λ_ a8=>(a8.rv 1 (·.rd)).at (j:=X.length) (u:=I (e.2:Int)) (by rw[b];simp[vL]))) (H.pick 4 [2,1] Z) (AT [7] [] [] (by exact H.pick 4 [2,1] Z) Z J Z (a_done J (gn (Zc 1 Z ?_))))));replace H:=H.f2.d.f1.d.d;refine gf ?_;intro _ hF;refine ⟨⟨h',e.2,Lc⟩,(hF.all Z),⟨H,?_⟩,?_⟩
  ·exact ⟨⟨_,_,_,a5⟩,λv=>(a9 v).trans (f v)⟩
  (dsimp only;omega)
 (exfalso;omega)
theorem QP(pp:Nat)(key:Int):Cn prog 81 [Y pp,I 0,I key] [] (λv Γ=>v=.tuple #[I 0,I 0]/\Γ=[]):=by
 intro z R w H;refine Ae func81 Z ntmps81 Z (Zc 18 Z (GI 1 (DF (Z0 10 [4] Z (gx (Zc 9 Z (Zr Z ?_)))))));exact ⟨_,⟨Z,Z⟩,H⟩
end
section
variable{Tb:Ai}
theorem Bd.nd{N:Hm}{h:Nat}{es:List E}{hi:Int}{L:List E}(q:Bd N h es hi L)(hs:Srt es)(a:∀e∈es,e.1<hi)(b:(vals L).Nodup):(vals es).Nodup:=by
 cases h with
 | zero=>obtain ⟨rfl,_⟩:=q;exact b
 | succ h=>exact Bd.nodup q hs a
theorem DL(a:Nat)(X Y_:List E):(vals (X++Y_)).count a=(vals X).count a+(vals Y_).count a:=by simp[vals]
theorem Eg(a:Nat)(e:E)(Y_:List E):(vals (e::Y_)).count a=(vals Y_).count a+if e.2==a then 1 else 0:=by rw[B7,Afc]
theorem mp1(X Y_:List E)(e1 e2:E)(Q:List Nat):(vals (X++e1::e2::Y_)++Q).Perm (e1.2::(vals X++(e2.2::(vals Y_++Q)))):=
 AfD.2 λa=>by
  simp only[Afr,Afc,DL,Eg];omega
theorem mp2(c1 c2:Nat)(A B D:List Nat):(c1::(A++(B++(c2::D)))).Perm (c2::(c1::(A++(B++D)))):=
 AfD.2 λa=>by simp only[Afr,Afc];omega
theorem mp3(c1 c2:Nat)(es1 es2 x y:List E)(h:es1++es2=x++y):(c2::(vals es2++(c1::(vals es1++R)))).Perm (c1::(vals x++(c2::(vals y++R)))):=
 AfD.2 λa=>by
  have e:=congrArg (λl=>(vals l).count a) h;simp only[DL] at e;simp only[Afr,Afc];omega
theorem AdS(c1 c2:Nat)(es1 es2:List E):(c2::(vals es2++(c1::(vals es1++R)))).Perm (c1::(vals (es1++es2)++(c2::R))):=
 AfD.2 λa=>by simp only[Afr,Afc,DL];omega
theorem mp4(c1 c2:Nat){W:List Nat}:(c1::(c2::(R++W))).Perm (c2::(R++(c1::W))):=
 AfD.2 λa=>by simp only[Afr,Afc];omega
theorem mp5(c1:Nat)(k:Int)(X Y_:List E)(Q:List Nat):(c1::(vals X++(vals Y_++Q))).Perm (vals (X++(k,c1)::Y_)++Q):=
 AfD.2 λa=>by simp only[Afr,Afc,DL,Eg];omega
theorem mp6(c1 c2:Nat)(k b:Int)(X Y_:List E)(Q:List Nat):(c2::(c1::(vals X++(vals Y_++Q)))).Perm (vals (X++(k,c1)::(b,c2)::Y_)++Q):=
 AfD.2 λa=>by simp only[Afr,Afc,DL,Eg];omega
structure MnPre(n:Nat)(t:TS)(Q:List Nat)(h:Nat)(lo hi:Int)(X Y_:List E)(e1 e2:E)(m1 m2:Nat)(L0 La Lb L2:List E):Prop where
 ok:(Nd.mk false (X++e1::e2::Y_)).Ok
 r:B3 lo hi (X++e1::e2::Y_)
 q0:Sq (λc a b L=>Tr t.N h c a b 4 L) X e1.1 L0
 ta:Tr t.N h e1.2 e1.1 e2.1 m1 La
 tb:Tr t.N h e2.2 e2.1 (nx Y_ hi) m2 Lb
 q2:Sq (λc a b L=>Tr t.N h c a b 4 L) Y_ hi L2
 m3:3<=m1/\3<=m2/\7<=m1+m2
 l0:0<=lo
 h1:hi<=1048576
 d:(vals (La++Lb)).Nodup
 hk:t.k+5<40
 hb:Q.length+30+n<=980
variable{t t1 t2 t3:TS}{Q:List Nat}{h:Nat}{lo hi:Int}{X Y_:List E}{e1 e2:E}{L0 La Lb L2 es1 es2:List E}
theorem TV(e:Srt (X++e1::e2::Y_))(r:B3 lo hi (X++e1::e2::Y_)):e1.1<e2.1/\e2.1<nx Y_ hi/\nx Y_ hi<=hi/\lo<=e1.1:=by
 obtain ⟨_,b,_⟩:=Srt.app.1 e;obtain ⟨a,c⟩:=Srt.cons.1 b;have d:=r e2 O;refine ⟨a e2 O,?_,RX (λx f=>(r x (by simp[f])).2),(r e1 O).1⟩
 cases Y_ with
 | nil=>exact d.2
 | cons y u=>exact (Srt.cons.1 c).1 y O
theorem ZL{N:Hm}(l:Bd N h es1 e2.1 La)(j:Bd N h es2 (nx Y_ hi) Lb)(n:Srt es1)(g:Srt es2)(f:B3 e1.1 e2.1 es1)(e:B3 e2.1 (nx Y_ hi) es2)(d:es2≠[])(k:e1.1<e2.1)(o:e2.1<nx Y_ hi):
  Bd N h (es1++es2) (nx Y_ hi) (La++Lb)/\Srt (es1++es2)/\B3 e1.1 (nx Y_ hi) (es1++es2):=by
 refine ⟨Bd.app.2 ⟨La,Lb,Z,l.hi ?_,j⟩,Srt.app.2 ⟨n,g,λa i b m=>?_⟩,λx c=>?_⟩
 ·obtain ⟨y,u,rfl⟩:=AfF d
  exact (e y O).1
 ·have:=f a i;have:=e b m;omega
 rcases Aep.1 c with c|c
 ·have:=f x c;omega
 have:=e x c;omega
theorem QQ{N:Hm}{c1:Nat}(g:(Nd.mk false (X++e1::e2::Y_)).Ok)(r:B3 lo hi (X++e1::e2::Y_))(o:Sq (λc a b L=>Tr N h c a b 4 L) X e1.1 L0)(q:Sq (λc a b L=>Tr N h c a b 4 L) Y_ hi L2)(T:Tr N h c1 e1.1 (nx Y_ hi) 4 (La++Lb)):
  Bd N (h+1) (X++(e1.1,c1)::Y_) hi (L0++(La++(Lb++L2)))/\B3 lo hi (X++(e1.1,c1)::Y_)/\(Nd.mk false (X++(e1.1,c1)::Y_)).Ok/\(vals (X++(e1.1,c1)::Y_)).Nodup:=by
 have hs:Srt (X++e1::e2::Y_):=g.srt;obtain ⟨s,n,l⟩:=Srt.app.1 hs;obtain ⟨p,s5⟩:=Srt.cons.1 n;have i:Srt (X++(e1.1,c1)::Y_):=Srt.app.2 ⟨s,Srt.cons.2 ⟨λx d=>p x (by simp[d]),(Srt.cons.1 s5).2⟩,λa m b j=>by
  rcases Aen.1 j with rfl|j
  ·exact l a m e1 O
  exact l a m b (by simp[j])⟩
 have f:B3 lo hi (X++(e1.1,c1)::Y_):=λx d=>by
  rcases Aep.1 d with d|d
  ·exact r x (by simp[d])
  rcases Aen.1 d with rfl|d
  ·exact r e1 O
  exact r x (by simp[d])
 have k:Bd N (h+1) (X++(e1.1,c1)::Y_) hi (L0++(La++(Lb++L2))):=by
  have e:L0++(La++(Lb++L2))=L0++((La++Lb)++L2):=by simp
  rw[e];exact Sq.mk (e:=(e1.1,c1)) o T q
 have t:(X++e1::e2::Y_).length<=8:=g.len;refine ⟨k,f,⟨i,by simp at t ⊢;omega,λx d=>?_,λ_=>by simp⟩,k.nodup i (λx d=>(f x d).2)⟩;rcases Aep.1 d with d|d
 ·exact g.key x (by simp[d])
 rcases Aen.1 d with rfl|d
 ·exact g.key e1 O
 exact g.key x (by simp[d])
theorem mn_share{N:Hm}{c1 c2:Nat}{M1 M2:List E}(g:(Nd.mk false (X++e1::e2::Y_)).Ok)(r:B3 lo hi (X++e1::e2::Y_))(w:Sq (λc a b L=>Tr N h c a b 4 L) X e1.1 L0)(q2:Sq (λc a b L=>Tr N h c a b 4 L) Y_ hi L2)(T1:Tr N h c1 e1.1 s 4 M1)(T2:Tr N h c2 s (nx Y_ hi) 4 M2)(hM:M1++M2=La++Lb)(m:e1.1<s)(k:s<nx Y_ hi)(h1:hi<=1048576):
  Bd N (h+1) (X++(e1.1,c1)::(s,c2)::Y_) hi (L0++(La++(Lb++L2)))/\B3 lo hi (X++(e1.1,c1)::(s,c2)::Y_)/\(Nd.mk false (X++(e1.1,c1)::(s,c2)::Y_)).Ok/\(vals (X++(e1.1,c1)::(s,c2)::Y_)).Nodup:=by
 have hs:Srt (X++e1::e2::Y_):=g.srt;obtain ⟨z,v,t⟩:=Srt.app.1 hs;obtain ⟨s4,s5⟩:=Srt.cons.1 v;obtain ⟨_,_,a0,a1⟩:=TV hs r;have j:=(Srt.cons.1 s5).2;have o:∀x∈Y_,s<x.1:=λx d=>by
  cases Y_ with
  | nil=>simp at d
  | cons y u=>
   simp only[nx] at k;rcases Aen.1 d with rfl|d
   ·exact k
   have:=(Srt.cons.1 j).1 x d;omega
 have i:Srt (X++(e1.1,c1)::(s,c2)::Y_):=Srt.app.2 ⟨z,Srt.cons.2 ⟨λx d=>by
   rcases Aen.1 d with rfl|d
   ·exact m
   exact s4 x (by simp[d]),Srt.cons.2 ⟨o,j⟩⟩,λa q b l=>by
  have n:=t a q e1 O;rcases Aen.1 l with rfl|l
  ·exact n
  rcases Aen.1 l with rfl|l
  ·dsimp only;omega
  exact t a q b (by simp[l])⟩
 have f:∀x∈X++(e1.1,c1)::(s,c2)::Y_,lo<=x.1/\x.1<hi:=λx d=>by
  rcases Aep.1 d with d|d
  ·exact r x (by simp[d])
  rcases Aen.1 d with rfl|d
  ·exact r e1 O
  rcases Aen.1 d with rfl|d
  ·dsimp only;omega
  exact r x (by simp[d])
 have p:Bd N (h+1) (X++(e1.1,c1)::(s,c2)::Y_) hi (L0++(La++(Lb++L2))):=by
  have e:L0++(La++(Lb++L2))=L0++(M1++(M2++L2)):=by
   rw[<-Aeh La,<-hM];simp
  rw[e];exact Sq.mk (e:=(e1.1,c1)) (B:=(s,c2)::Y_) w T1 ⟨M2,L2,Z,T2,q2⟩
 have hl:(X++e1::e2::Y_).length<=8:=g.len;have k1:=g.key e1 O;refine ⟨p,f,⟨i,by simp at hl ⊢;omega,λx d=>?_,λ_=>by simp⟩,p.nodup i (λx d=>(f x d).2)⟩;rcases Aep.1 d with d|d
 ·exact g.key x (by simp[d])
 rcases Aen.1 d with rfl|d
 ·exact k1
 rcases Aen.1 d with rfl|d
 ·dsimp only
  omega
 exact g.key x (by simp[d])
section
variable{lf:Bool}{kv1 vv1 kv2 vv2:Value}{es1 es2:List E}{A1 B1 A2 B2:Ai}
theorem ZM(c:Gn A1 kv1 es1)(d:Gp B1 vv1 es1)(e:Gn A2 kv2 es2)(f:Gp B2 vv2 es2)(b:CkN lf (kL es1) (vL es1))(a:CkN lf (kL es2) (vL es2))(hs:Srt (es1++es2))(k:8<es1.length+es2.length)(x y:List E)(l:x=(es1++es2).take (FH es1 es2))(m:y=(es1++es2).drop (FH es1 es2)):
  Cn prog 223 [DC lf kv1 vv1,DC lf kv2 vv2] [A1,B1,A2,B2] (λv Γ=>∃h g i j:Value,v=.tuple #[DC lf h g,DC lf i j,I 0]/\Γ=[gK h x,gV g x,gK i y,gV j y,A1,B1,A2,B2]):=by
 subst l m;exact ZE c d e f b a hs k
end
theorem Kj(X:List E):(vals X).length=X.length:=by simp[vals]
theorem QR{α:Type}(x:List α)(a b:α)(y:List α):(x++a::b::y).take (x.length+1)++(x++a::b::y).drop (x.length+1+1)=x++a::y:=by
 have e1:x++a::b::y=(x++[a])++(b::y):=by simp
 have e2:x++a::b::y=(x++[a,b])++y:=by simp
 have c:(x++a::b::y).take (x.length+1)=x++[a]:=by rw[e1];exact AeF O
 have d:(x++a::b::y).drop (x.length+1+1)=y:=by rw[e2];exact AfR O
 rw[c,d];simp
theorem ZN{lf:Bool}{X Y_:List E}{a b:E}{B:Ai}(i:Gn A u (X++a::b::Y_))(h:Gp B y (X++a::b::Y_))(d:CkN lf (kL (X++a::b::Y_)) (vL (X++a::b::Y_)))(c:CkN lf (kL (X++a::Y_)) (vL (X++a::Y_))):
  Cn prog 184 [DC lf u y,I ((X.length+1:Nat):Int)] [A,B] (λv Γ=>∃g f:Value,v=.tuple #[DC lf g f,I 0]/\Γ=[gK g (X++a::Y_),gV f (X++a::Y_),A,B]):=
 QF lf u y A B i h d (X.length+1) (by simp[kL]) (kL (X++a::Y_)) (vL (X++a::Y_)) (by simp only[kL,AeH,AeJ];have:=QR (X.map Prod.fst) a.1 b.1 (Y_.map Prod.fst);rw[Aef] at this;exact this) (by simp only[vL,AeH,AeJ];have:=QR (X.map λe=>(e.2:Int)) (a.2:Int) (b.2:Int) (Y_.map λe=>(e.2:Int));rw[Aef] at this;exact this) c
theorem Sq.st{t t':TS}{a b:Nat}(S:St t t' R a b){h:Nat}{X:List E}{hi:Int}{L:List E}(d:∀v∈vals X,v∈R)(q:Sq (λc a b L=>Tr t.N h c a b 4 L) X hi L):Sq (λc a b L=>Tr t'.N h c a b 4 L) X hi L:=
 Sq.imp q λx e _ _ q=>S.fr _ (d _ (Aez e)) _ _ _ _ _ q
theorem St.t4{f t1 t2 t3 e:TS}{R1 R2 g h Q:List Nat}{i:Nat}(a:St f t1 R1 1 1)(b:St t1 t2 R2 1 1)(c:St t2 t3 g 0 1)(d:St t3 e h 0 i)(n:i<=1)(j:∀p∈Q,p∈R1)(k:∀p∈Q,p∈R2)(l:∀p∈Q,p∈g)(m:∀p∈Q,p∈h):St f e Q 2 4:=
 ((a.trans b j k (Aei _) (Aei _)).trans (c.trans d l m (Aei _) (Aei _)) (R:=Q) (R1:=Q) (R2:=Q) (λ_ q=>q) (λ_ q=>q) U U)
abbrev Ab3(Tb:Ai)(pp mb n:Nat)(o:TB)(t:TS)(Q:List Nat)(h:Nat)(lo hi:Int)(N8:Nat)(L:List E)(v:Value)(Γ:List Ai):Prop:=
 (cnt t.F 0 1024<=1/\∃(v1 v2:Value) (es':List E) (s:TS×List Nat),v=.tuple #[DC false v1 v2,.int .i64 20]/\Γ=[gK v1 es',gV v2 es',trA Tb pp mb n o (some s)])\/
 ∃(t2:TS) (es':List E) (v1 v2:Value),(St t t2 Q 2 4/\Bd t2.N (h+1) es' hi L/\B3 lo hi es'/\(Nd.mk false es').Ok/\(vals es').Nodup/\N8<=es'.length+1)/\v=.tuple #[DC false v1 v2,.int .i64 0]/\Γ=[gK v1 es',gV v2 es',trA Tb pp mb n o (some (t2,vals es'++Q))]
theorem Ab4(d:(Nd.mk false (X++e1::e2::Y_)).Ok):(Nd.mk false (X++(e1.1,n)::(e2.1,m)::Y_)).Ok:=by
 have hs:Srt (X++e1::e2::Y_):=d.srt;obtain ⟨j,i,f⟩:=Srt.app.1 hs;obtain ⟨h,s5⟩:=Srt.cons.1 i;have k:(X++e1::e2::Y_).length<=8:=d.len;refine ⟨Srt.app.2 ⟨j,Srt.cons.2 ⟨λx c=>?_,Srt.cons.2 ⟨(Srt.cons.1 s5).1,(Srt.cons.1 s5).2⟩⟩,λa g b e=>?_⟩,by simp at k ⊢;omega,λx c=>?_,λ_=>by simp⟩
 ·rcases Aen.1 c with rfl|c
  ·exact h e2 O
  exact h x (by simp[c])
 ·rcases Aen.1 e with rfl|e
  ·exact f a g e1 O
  rcases Aen.1 e with rfl|e
  ·exact f a g e2 O
  exact f a g b (by simp[e])
 have c:x∈X++(e1.1,n)::(e2.1,m)::Y_:=c;rcases Aep.1 c with c|c
 ·exact d.key x (by simp[c])
 rcases Aen.1 c with rfl|c
 ·exact d.key e1 O
 rcases Aen.1 c with rfl|c
 ·exact d.key e2 O
 exact d.key x (by simp[c])
end
section
variable{Tb:Ai}
set_option maxHeartbeats 4000000 in
theorem Ab5 (pp mb n:Nat) (o:TB) (t:TS) (Q:List Nat) {vv:Value} (h:Nat) (lo hi:Int) (X Y_:List E) (e1 e2:E) (m1 m2:Nat) (L0 La Lb L2:List E) (hP:MnPre n t Q h lo hi X Y_ e1 e2 m1 m2 L0 La Lb L2):Cn prog 185 [Y pp,.agg #[.bool false,y,vv],I (X.length:Int)] [trA Tb pp mb n o (some (t,vals (X++e1::e2::Y_)++Q)),grow 3 1 y ((kL (X++e1::e2::Y_)).length) ((kL (X++e1::e2::Y_)).map I),grow 3 1 vv ((vL (X++e1::e2::Y_)).length) ((vL (X++e1::e2::Y_)).map I)] (λv Γ=>Ab3 Tb pp mb n o t Q h lo hi (X++e1::e2::Y_).length (L0++(La++(Lb++L2))) v Γ):=by
 intro z R w H;replace H:=H.l3;obtain ⟨gk,s,b4,rfl,e4,m5,d7,H⟩:=H.ungrow 1 Z (by simp only[Aef,Aee,Aeg];omega);replace H:=H.l3;obtain ⟨gv,a0,g,rfl,g0,n0,g2,H⟩:=H.ungrow 2 Z (by simp only[Aef,Aee,Aeg];omega);replace H:=H.l3;have K:=H.says 0 Z (λh a=>trA.k a);have hn:=K.hn;obtain ⟨j5,l7,n7,n5⟩:=TV hP.ok.srt hP.r;obtain ⟨n9,n4,n3⟩:=hP.m3;have m8:=hP.hk;have m6:=hP.hb;have k6:(X++e1::e2::Y_).length<=8:=hP.ok.len;have n6:X.length+Y_.length+2<=8:=by simp only[Aee,Aeg] at k6;omega
 obtain ⟨es1,j1,m7,k5,f2,m0⟩:=Tr.iff.1 hP.ta;have m4:es1.length<=8:=f2.len;replace H:=(H.mono 0 (B:=trA Tb pp mb n o (some (t,e1.2::(vals X++(e2.2::(vals Y_++Q)))))) Z (λh q=>q.perm (mp1 X Y_ e1 e2 Q))).l3;refine Ae func185 Z ntmps185 Z (Za 2 [] H Z ?_);intro b1 w H;refine Za 0 [] H Z ?_;intro b2 w H;refine Za 5 [] H Z ?_;intro b3 w H;refine Zc 9 Z (GI 3 (DF (Z3 25 [3,2,2,0] [(X.length:Int)] H Z U (Ab Z (CI Z (z:=1) (j:=X.length) (r:=X.length) J Z Z Z (by simp only[Aef,Aee,Aeg];omega) U) (Ab Z (Bg Z Z J (Ay (H.cel 5 Z X.length (show ((vL (X++e1::e2::Y_)).map I++g)[X.length]?=some (I (e1.2:Int)) from (by rw[Aem O,Aeo];simp[vL]))))) ?_)))));refine Aq Z (call181 _) (Jz pp mb n o t (vals X++(e2.2::(vals Y_++Q))) e1.2 (decide (h=0)) es1 j1 U (by simp only[Aeg,Aee,Kj];omega)) H.f3 ?_;rintro _ w _ (⟨i7,v4,v5,s1,rfl,rfl⟩|⟨t1,c1,v4,v5,O1,rfl,rfl⟩) H'
 ·have H:=H'.l8;have b8:=H.sy 0 (·.slc)
  have c0:=H.sy 1 (·.slc);refine Za 4 [] H Z ?_;intro b6 w H;refine Zc 1 Z (Az Z Z (Ak 0 H Z Z Z Z (vs:=[.bool (decide (h=0)),v4,v5]) Z (Ad Z (Ad b8.one (Ad c0.one Aw))) J O (out:=[.bool (decide (h=0)),v4,v5]) Z) ?_);rintro w H;replace H:=H.l9;refine Z4 20 [3,6,3,5] H Z ?_;intro w H;refine Zl [5,3] H Z ?_;replace H:=(H.mono 7 (B:=grow 3 1 (.slice (some ⟨gk,0,none⟩) ((kL (X++e1::e2::Y_)).length) s) ((kL (X++e1::e2::Y_)).length) ((kL (X++e1::e2::Y_)).map I)) Z (λh q=>by exact q.grow U U (by have a:=d7;have b:=e4;simp only[Aee,Aef,Aeg] at a b ⊢;omega) (by rw[AeP,AeF O]))).l9;replace H:=(H.mono 8 (B:=grow 3 1 (.slice (some ⟨gv,0,none⟩) ((vL (X++e1::e2::Y_)).length) a0) ((vL (X++e1::e2::Y_)).length) ((vL (X++e1::e2::Y_)).map I)) Z (λh q=>by exact q.grow U U (by have a:=g2;have b:=g0;simp only[Aee,Aef,Aeg] at a b ⊢;omega) (by rw[AeP,AeF O]))).l9;exact ⟨_,.inl ⟨U,_,_,_,_,Z,Z⟩,H.perm 9 [7,8,3] Z Z⟩
 have H:=H'.l8;have b8:=H.sy 0 (·.slc);have c0:=H.sy 1 (·.slc);refine Za 4 [] H Z ?_;intro b7 w H;refine Zc 1 Z (Az Z Z (Ak 0 H Z Z Z Z (vs:=[.bool (decide (h=0)),v4,v5]) Z (Ad Z (Ad b8.one (Ad c0.one Aw))) J O (out:=[.bool (decide (h=0)),v4,v5]) Z) ?_);rintro w H;replace H:=H.l9;refine Z0 13 [4] Z ?_;obtain ⟨es2,l2,h6,k4,e9,l5⟩:=Tr.iff.1 (O1.st.fr e2.2 O _ _ _ _ _ hP.tb);have j4:es2.length<=8:=e9.len;replace H:=(H.mono 3 (B:=trA Tb pp mb n o (some (t1,e2.2::(c1::(vals es1++(vals X++(vals Y_++Q))))))) Z (λh q=>q.perm (mp2 c1 e2.2 (vals es1) (vals X) (vals Y_++Q)))).l9;replace H:=H.f6;refine AN (Sep z (blk b1 [.bool false,.slice (some ⟨gk,0,none⟩) ((kL (X++e1::e2::Y_)).length) s,.slice (some ⟨gv,0,none⟩) ((vL (X++e1::e2::Y_)).length) a0] 201::blk b7 [.bool (decide (h=0)),v4,v5] 201::R)) 12 Z J (AZ H λw H'=>?_);have H:=H'.l9;refine HD [0,1,2,3,4,5,6,7] [2,0,0,1,3] [(X.length:Int)] (by exact H.pick 9 [0,1] Z) Z J U Z (BN 8 Z J J J Z Z Z (CI Z (z:=1) (j:=X.length) (r:=X.length) J Z Z Z (by simp only[Aef,Aee,Aeg];omega) U) (H.pick 9 [0,1] Z) (AC [9] J O (Am (Bi Z Z Z (Ak 8 H Z Z Z Z (vs:=[I (c1:Int)]) Z (Ad Z Aw) J (by simp only[Aee,Aef,Aeg,AeB];omega) (out:=((vL (X++(e1.1,c1)::e2::Y_)).map I++g)) ((Eb O).trans (by rw[show (vL (X++e1::e2::Y_)).set (X.length) (c1:Int)=(vL (X++(e1.1,c1)::e2::Y_)) from by simp[vL,AfZ]]))) ?_))));rintro w H;replace H:=H.l9;refine Av (H.pick 9 [0,1] Z) (HD [10] [2,3,0,0] [] (by exact H.pick 9 [0,1] Z) Z J U Z (AC [11] J O (Am (Bi Z Z Z (Ak 5 H Z Z Z Z (vs:=[.bool (decide (h=0)),v4,v5]) Z (Ad Z (Ad b8.one (Ad c0.one Aw))) J O (out:=[.bool (decide (h=0)),v4,v5,.bool false,.slice none 0 0,.slice none 0 0]) Z) ?_))));rintro w H;replace H:=H.l9;refine Av (H.pick 9 [0,1] Z) (a_done J (gn (Z1 6 [] [1] Z U (gf (DF (Z3 25 [3,2,0,0] [(X.length:Int)+1] H Z U (Ab Z (CI Z (z:=1) (j:=(X.length+1)) (r:=(X.length+1)) J Z Z U (by simp only[Aef,Aee,Aeg];omega) U) (Ab Z (Bg Z Z J (Ay (H.cel 8 Z (X.length+1) (show ((vL (X++(e1.1,c1)::e2::Y_)).map I++g)[X.length+1]?=some (I (e2.2:Int)) from (by rw[Aem O,Aeo];simp[vL]))))) ?_))))))));refine Aq Z (call181 _) (Jz pp mb n o t1 (c1::(vals es1++(vals X++(vals Y_++Q)))) e2.2 (decide (h=0)) es2 l2 (by have:=O1.st.k;omega) (by simp only[Aeg,Aee,Kj];omega)) H.f4 ?_;rintro _ w _ (⟨i6,v8,v9,s2,rfl,rfl⟩|⟨t2,c2,v8,v9,O2,rfl,rfl⟩) H'
 ·have H:=H'.l11;have c7:=H.sy 0 (·.slc)
  have c6:=H.sy 1 (·.slc);refine Za 4 [] H Z ?_;intro n2 w H;refine Zc 1 Z (Az Z Z (Ak 0 H Z Z Z Z (vs:=[.bool (decide (h=0)),v8,v9]) Z (Ad Z (Ad c7.one (Ad c6.one Aw))) J O (out:=[.bool (decide (h=0)),v8,v9]) Z) ?_);rintro w H;replace H:=H.l12;refine Z4 20 [3,4,3,9] H Z ?_;intro w H;refine Zl [9,3] H Z ?_;replace H:=(H.mono 10 (B:=grow 3 1 (.slice (some ⟨gk,0,none⟩) ((kL (X++e1::e2::Y_)).length) s) ((kL (X++(e1.1,c1)::e2::Y_)).length) ((kL (X++(e1.1,c1)::e2::Y_)).map I)) Z (λh q=>by rw[show (kL (X++(e1.1,c1)::e2::Y_)).length=(kL (X++e1::e2::Y_)).length from by simp,show kL (X++(e1.1,c1)::e2::Y_)=kL (X++e1::e2::Y_) from by simp[kL]];exact q.grow U U (by have a:=d7;have b:=e4;simp only[Aee,Aef,Aeg] at a b ⊢;omega) (by rw[AeP,AeF O]))).l12;replace H:=(H.mono 11 (B:=grow 3 1 (.slice (some ⟨gv,0,none⟩) ((vL (X++e1::e2::Y_)).length) a0) ((vL (X++(e1.1,c1)::e2::Y_)).length) ((vL (X++(e1.1,c1)::e2::Y_)).map I)) Z (λh q=>by rw[show (vL (X++(e1.1,c1)::e2::Y_)).length=(vL (X++e1::e2::Y_)).length from by simp];exact q.grow U U (by have a:=g2;have b:=g0;simp only[Aee,Aef,Aeg] at a b ⊢;omega) (by rw[AeP,AeF O]))).l12;exact ⟨_,.inl ⟨(by have:=O1.st.f;omega),_,_,_,_,Z,Z⟩,H.perm 12 [10,11,3] Z Z⟩
 have H:=H'.l11;have c7:=H.sy 0 (·.slc);have c6:=H.sy 1 (·.slc);refine Za 4 [] H Z ?_;intro l4 w H;refine Zc 1 Z (Az Z Z (Ak 0 H Z Z Z Z (vs:=[.bool (decide (h=0)),v8,v9]) Z (Ad Z (Ad c7.one (Ad c6.one Aw))) J O (out:=[.bool (decide (h=0)),v8,v9]) Z) ?_);rintro w H;replace H:=H.l12;refine Z0 13 [4] Z ?_;replace H:=H.f4;refine AN (Sep z (blk b1 [.bool false,.slice (some ⟨gk,0,none⟩) ((kL (X++e1::e2::Y_)).length) s,.slice (some ⟨gv,0,none⟩) ((vL (X++e1::e2::Y_)).length) a0] 201::blk l4 [.bool (decide (h=0)),v8,v9] 201::R)) 12 Z J (AZ H λw H'=>?_);have H:=H'.l12;refine HD [0,1,2,3,4,5,6,7] [2,0,0,1,3] [(X.length:Int)+1] (by exact H.pick 12 [0,1] Z) Z J U Z (BN 8 Z J J J Z Z Z (CI Z (z:=1) (j:=(X.length+1)) (r:=(X.length+1)) J Z Z U (by simp only[Aef,Aee,Aeg];omega) U) (H.pick 12 [0,1] Z) (AC [9] J O (Am (Bi Z Z Z (Ak 11 H Z Z Z Z (vs:=[I (c2:Int)]) Z (Ad Z Aw) J (by simp only[Aee,Aef,Aeg,AeB];omega) (out:=((vL (X++(e1.1,c1)::(e2.1,c2)::Y_)).map I++g)) ((Eb O).trans (by rw[show (vL (X++(e1.1,c1)::e2::Y_)).set (X.length+1) (c2:Int)=(vL (X++(e1.1,c1)::(e2.1,c2)::Y_)) from by simp[vL,AfZ]]))) ?_))));rintro w H;replace H:=H.l12;refine Av (H.pick 12 [0,1] Z) (HD [10] [2,3,1,3] [] (by exact H.pick 12 [0,1] Z) Z J U Z (AC [11] J O (Am (Bi Z Z Z (Ak 8 H Z Z Z Z (vs:=[.bool (decide (h=0)),v8,v9]) Z (Ad Z (Ad c7.one (Ad c6.one Aw))) J O (out:=[.bool (decide (h=0)),v4,v5,.bool (decide (h=0)),v8,v9]) Z) ?_))));rintro w H;replace H:=H.l12;refine Av (H.pick 12 [0,1] Z) (a_done J (gn (Z1 6 [] [2] Z U (gf (DF (Z0 9 [4] Z (gx (Zc 3 Z ?_))))))));have K2:=H.says 4 Z (λh a=>trA.k a);have g3:Bd t2.N h es1 e2.1 La:=O2.st.bd (λv m=>by simp[m]) (O1.bd m0);have i5:Bd t2.N h es2 (nx Y_ hi) Lb:=O2.bd l5;have d3:es2≠[]:=λq=>by rw[q] at h6;simp at h6;omega
 obtain ⟨c4,a2,a8⟩:=ZL g3 i5 f2.srt e9.srt k5 k4 d3 j5 l7;have a7:(vals (es1++es2)).Nodup:=c4.nd a2 (λx hx=>(a8 x hx).2) hP.d;have a5:=O2.st.op c1 O O1.N0 O1.C1;have e0:Sq (λc a b L=>Tr t2.N h c a b 4 L) X e1.1 L0:=Sq.imp hP.q0 λx hx _ _ q=>O2.st.fr _ (by simp[Aez hx,vals]) _ _ _ _ _ (O1.st.fr _ (by simp[Aez hx,vals]) _ _ _ _ _ q);have e5:Sq (λc a b L=>Tr t2.N h c a b 4 L) Y_ hi L2:=Sq.imp hP.q2 λx hx _ _ q=>O2.st.fr _ (by simp[Aez hx,vals]) _ _ _ _ _ (O1.st.fr _ (by simp[Aez hx,vals]) _ _ _ _ _ q);have k1:∀v∈vals es1,1<=v/\v<1024:=λv m=>by have:=K2.i.rin v (by simp[CU,m]);omega
 have j8:∀v∈vals es2,1<=v/\v<1024:=λv m=>by have:=K2.i.rin v (by simp[CU,m]);omega
 have b5:=CkN.of f2 k1;have a9:=CkN.of e9 j8;have c5:=JB a8 (by have:=hP.l0;omega) (by have:=hP.h1;omega);refine Z3 5 [2,3,0,0,8,3,2,3,1,3,8,3] [] H Z U ?_;rcases Aeq 8 (es1.length+es2.length) with hj|hj
 ·refine z_E_ Z (call222 _) (joinF_e (λh q=>q.rd) (λh q=>q.rd) (λh q=>q.rd) (λh q=>q.rd) b5 a9 a2 hj) H.f3.f3.f7.f7 ?_;intro w H;refine Za 3 [] H Z ?_;intro m9 w H;refine Z5 20 [0,4,2,3,0,0,9,3,2,3,1,3,9,3] [] H Z U ?_;intro w H;have h0:5<=FH es1 es2/\FH es1 es2<=8/\4<=(es1++es2).length-FH es1 es2/\(es1++es2).length-FH es1 es2<=8:=by unfold FH;simp only[Aee];omega
  have e3:=AeL (FH es1 es2) (es1++es2);obtain ⟨x_,d8⟩:∃x_,x_=(es1++es2).take (FH es1 es2):=⟨_,Z⟩;obtain ⟨y_,e7⟩:∃y_,y_=(es1++es2).drop (FH es1 es2):=⟨_,Z⟩;refine Aq Z (call223 _) (ZM (λh q=>q.rd) (λh q=>q.rd) (λh q=>q.rd) (λh q=>q.rd) b5 a9 a2 hj x_ y_ d8 e7) H.f4.f4.f4.f4 ?_;rintro _ w _ ⟨d9,f0,h4,b9,rfl,rfl⟩ H;replace H:=H.l17;have h5:=H.sy 0 (·.slc);have i3:=H.sy 1 (·.slc);have d1:=H.sy 2 (·.slc);have g4:=H.sy 3 (·.slc);have c9:4<=x_.length/\x_.length<=8:=by rw[d8,Aex];simp only[Aee] at h0 ⊢;omega
  have a6:4<=y_.length/\y_.length<=8:=by rw[e7,AeM];exact h0.2.2
  rw[<-d8,<-e7] at e3;rw[<-e3] at c4 a2 a8 a7 c5;have d6:x_≠[]:=λq=>by rw[q] at c9;simp at c9
  have d2:y_≠[]:=λq=>by rw[q] at a6;simp at a6
  obtain ⟨M1,M2,hM,h2,k0⟩:=Bd.app.1 c4;obtain ⟨i1,h7,d0,d5⟩:=OL a2 a8 d6 d2;obtain ⟨k3,j0,_⟩:=Srt.app.1 a2;rw[BO,Ae9] at a7;obtain ⟨ky,e8⟩:∃ky,ky=nx y_ (nx Y_ hi):=⟨_,Z⟩;rw[<-e8] at h2 i1 h7 d0 d5;have i9:(Nd.mk (decide (h=0)) x_).Ok:=⟨k3,c9.2,λe he=>c5 e (by simp[he]),λ_=>d6⟩;have j9:(Nd.mk (decide (h=0)) y_).Ok:=⟨j0,a6.2,λe he=>c5 e (by simp[he]),λ_=>d2⟩;have j7:(c2::(vals es2++(c1::(vals es1++(vals X++(vals Y_++Q)))))).Perm (c1::(vals x_++(c2::(vals y_++(vals X++(vals Y_++Q)))))):=mp3 c1 c2 es1 es2 x_ y_ e3.symm;refine Za 4 [] H Z ?_;intro j6 w H;refine Za 0 [] H Z ?_;intro h9 w H;refine Az Z Z (Ak 1 H Z Z Z Z (vs:=[.bool (decide (h=0)),d9,f0]) Z (Ad Z (Ad h5.one (Ad i3.one Aw))) J O (out:=[.bool (decide (h=0)),d9,f0]) Z) ?_;rintro w H;replace H:=H.l19;refine Az Z Z (Ak 0 H Z Z Z Z (vs:=[.bool (decide (h=0)),h4,b9]) Z (Ad Z (Ad d1.one (Ad g4.one Aw))) J O (out:=[.bool (decide (h=0)),h4,b9]) Z) ?_;rintro w H;replace H:=H.l19;refine Z0 15 [4] Z ?_;replace H:=(H.mono 13 (B:=trA Tb pp mb n o (some (t2,c1::(vals x_++(c2::(vals y_++(vals X++(vals Y_++Q)))))))) Z (λh q=>q.perm j7)).l19;replace H:=(H.pick 19 [11,1,18,0,2,3,4,5,6,7,8,9,10,12,13,14,15,16,17] Z).l19;refine AN (Sep z (blk b1 [.bool false,.slice (some ⟨gk,0,none⟩) ((kL (X++e1::e2::Y_)).length) s,.slice (some ⟨gv,0,none⟩) ((vL (X++e1::e2::Y_)).length) a0] 201::blk j6 [.bool (decide (h=0)),d9,f0] 201::blk gv ((vL (X++(e1.1,c1)::(e2.1,c2)::Y_)).map I++g) 3::R)) 9 Z J (AZ H λw H'=>?_);have H:=H'.l19;refine AT [0,1,2,3] [2,0,0] [] (by exact H.pick 19 [0,1,2] Z) Z J Z (BN 4 Z J J J Z Z Z (CI Z (z:=1) (j:=X.length) (r:=X.length) J Z Z Z (by simp only[Aef,Aee,Aeg];omega) U) (H.pick 19 [0,1,2] Z) (BN 5 Z J J J Z Z Z (Bg Z Z J (λ_ hx=>hx.cel 2 Z X.length (show ((vL (X++(e1.1,c1)::(e2.1,c2)::Y_)).map I++g)[X.length]?=some (I (c1:Int)) from (by rw[Aem O,Aeo];simp[vL])))) (H.pick 19 [0,1,2] Z) ?_));refine AT [6] [1,3] [] (by exact H.pick 19 [0,1,2] Z) Z J Z (AC [7] J O (Am (PU Z Z Z Z Z Z (λw=>call183 _ w) (F4 pp mb n o t2 (c2::(vals y_++(vals X++(vals Y_++Q)))) c1 (decide (h=0)) x_ (λh q=>q.rd) (λh q=>q.rd) h e1.1 ky 4 M1 h2 Z i1 c9.1 i9 a7.1 a5.2 a5.1 (by have:=O1.st.k;have:=O2.st.k;omega)) H 15 [14,4,5,0,1,2,3,6,7,8,9,10,11,12,13] Z Z ?_)));rintro _ w _ ⟨t3,⟨l,c3,i8,k8⟩,rfl,rfl⟩ H;replace H:=H.l19;refine Av (H.pick 19 [3,4,5] Z) (AT [8] [] [] (by exact H.pick 19 [3,4,5] Z) Z J Z (a_done J (gn (Z0 11 [4] Z ?_))));obtain ⟨g1,b0,rfl⟩:=d1;have h8:=(H.rv 7 (·.rd)).at (j:=0) (u:=I ky) (by rw[Aeo,FD (hi:=nx Y_ hi) a6.1,e8];rfl);replace H:=(H.pick 19 [3,6,7,0,1,2,4,5,8,9,10,11,12,13,14,15,16,17,18] Z).l19;refine AN (Sep z (blk b1 [.bool false,.slice (some ⟨gk,0,none⟩) ((kL (X++e1::e2::Y_)).length) s,.slice (some ⟨gv,0,none⟩) ((vL (X++e1::e2::Y_)).length) a0] 201::blk h9 [.bool (decide (h=0)),.slice g1 ((kL y_).length) b0,b9] 201::grow 3 1 (.slice g1 ((kL y_).length) b0) ((kL y_).length) ((kL y_).map I)::R)) 10 Z J (AZ H λw H'=>?_);have H:=H'.l19;refine HD [0,1,2,3,4,5] [1,0,0,1,1,0] [(X.length:Int)+1] (by exact H.pick 19 [0,1,2] Z) Z J U Z (BN 6 Z J J J Z Z Z (Aj Z (z:=1) (j:=0) (r:=0) J Z Z Z (by simp only[Aef];omega) h8 U) (H.pick 19 [0,1,2] Z) (BN 7 Z J J J Z Z Z (Ax Z Z J (λ_ j3=>(j3.rv 2 (·.rd)).at (j:=0) (u:=I ky) (by rw[Aeo,FD (hi:=nx Y_ hi) a6.1,e8];rfl))) (H.pick 19 [0,1,2] Z) ?_));refine BN 8 Z J J J Z Z Z (CI Z (z:=1) (j:=(X.length+1)) (r:=(X.length+1)) J Z Z U (by simp only[Aef,Aee,Aeg];omega) U) (H.pick 19 [0,1,2] Z) (AC [9] J O (Am (Bi Z Z Z (Ak 18 H Z Z Z Z (vs:=[I ky]) Z (Ad Z Aw) J (by simp only[Aee,Aef,Aeg,AeB];omega) (out:=((kL (X++(e1.1,c1)::(ky,c2)::Y_)).map I++b4)) ((Eb O).trans (by rw[show (kL (X++e1::e2::Y_)).set (X.length+1) ky=(kL (X++(e1.1,c1)::(ky,c2)::Y_)) from by simp[kL,AfZ]]))) ?_)));rintro w H;replace H:=H.l19;refine Av (H.pick 19 [0,1,2] Z) (a_done J (gn (Zc 2 Z ?_)));replace H:=(H.mono 3 (B:=trA Tb pp mb n o (some (t3,c2::(vals y_++(c1::(vals X++(vals Y_++Q))))))) Z (λh q=>q.perm (mp4 c1 c2))).l19;replace H:=(H.pick 19 [0,1,7,2,3,4,5,6,8,9,10,11,12,13,14,15,16,17,18] Z).l19;refine AN (Sep z (blk b1 [.bool false,.slice (some ⟨gk,0,none⟩) ((kL (X++e1::e2::Y_)).length) s,.slice (some ⟨gv,0,none⟩) ((vL (X++e1::e2::Y_)).length) a0] 201::blk h9 [.bool (decide (h=0)),.slice g1 ((kL y_).length) b0,b9] 201::blk gv ((vL (X++(e1.1,c1)::(e2.1,c2)::Y_)).map I++g) 3::R)) 12 Z J (AZ H λw H'=>?_);have H:=H'.l19;refine HD [0,1,2,3,4,5] [0,3,2,0,0] [(X.length:Int)+1] (by exact H.pick 19 [0,1,2] Z) Z J U Z (BN 6 Z J J J Z Z Z (CI Z (z:=1) (j:=(X.length+1)) (r:=(X.length+1)) J Z Z U (by simp only[Aef,Aee,Aeg];omega) U) (H.pick 19 [0,1,2] Z) (BN 7 Z J J J Z Z Z (Bg Z Z J (λ_ hx=>hx.cel 2 Z (X.length+1) (show ((vL (X++(e1.1,c1)::(e2.1,c2)::Y_)).map I++g)[X.length+1]?=some (I (c2:Int)) from (by rw[Aem O,Aeo];simp[vL])))) (H.pick 19 [0,1,2] Z) ?_));refine AT [8] [1,3] [] (by exact H.pick 19 [0,1,2] Z) Z J Z (AC [9] J O (Am (PU Z Z Z Z Z Z (λw=>call183 _ w) (F4 pp mb n o t3 (c1::(vals X++(vals Y_++Q))) c2 (decide (h=0)) y_ (λh q=>q.rd) (λh q=>q.rd) h ky (nx Y_ hi) 4 M2 (l.bd (λv m=>by simp[m]) k0) Z h7 a6.1 j9 a7.2.1 (l.op c2 O O2.N0 O2.C1).2 (l.op c2 O O2.N0 O2.C1).1 (by have:=O1.st.k;have:=O2.st.k;have:=l.k;omega)) H 9 [4,3,8,0,1,2,5,6,7] Z Z ?_)));rintro _ w _ ⟨t4,⟨a4,k9,j2,k7⟩,rfl,rfl⟩ H;replace H:=H.l19;refine Av (H.pick 19 [3,4,5] Z) (AC [10] J O (Am (Bi Z Z Z (Ak 17 H Z Z Z Z (vs:=[.bool false,.slice (some ⟨gk,0,none⟩) ((kL (X++e1::e2::Y_)).length) s,.slice (some ⟨gv,0,none⟩) ((vL (X++e1::e2::Y_)).length) a0]) Z (by simp[u8,u32,Value.oneCell']) J O (out:=[.bool false,.slice (some ⟨gk,0,none⟩) ((kL (X++e1::e2::Y_)).length) s,.slice (some ⟨gv,0,none⟩) ((vL (X++e1::e2::Y_)).length) a0]) Z) ?_)));rintro w H;replace H:=H.l19;refine Av (H.pick 19 [3,4,5] Z) (AT [11] [] [] (by exact H.pick 19 [3,4,5] Z) Z J Z (a_done J (gn (Zc 2 Z (Zl [17,3] H Z ?_)))));replace H:=(H.mono 18 (B:=grow 3 1 (.slice (some ⟨gk,0,none⟩) ((kL (X++e1::e2::Y_)).length) s) ((kL (X++(e1.1,c1)::(ky,c2)::Y_)).length) ((kL (X++(e1.1,c1)::(ky,c2)::Y_)).map I)) Z (λh q=>by rw[show (kL (X++(e1.1,c1)::(ky,c2)::Y_)).length=(kL (X++e1::e2::Y_)).length from by simp];exact q.grow U U (by have a:=d7;have b:=e4;simp only[Aee,Aef,Aeg] at a b ⊢;omega) (by rw[AeP,AeF O]))).l19;replace H:=(H.mono 5 (B:=grow 3 1 (.slice (some ⟨gv,0,none⟩) ((vL (X++e1::e2::Y_)).length) a0) ((vL (X++(e1.1,c1)::(ky,c2)::Y_)).length) ((vL (X++(e1.1,c1)::(ky,c2)::Y_)).map I)) Z (λh q=>by rw[show (vL (X++(e1.1,c1)::(ky,c2)::Y_)).length=(vL (X++e1::e2::Y_)).length from by simp,show vL (X++(e1.1,c1)::(ky,c2)::Y_)=vL (X++(e1.1,c1)::(e2.1,c2)::Y_) from by simp[vL]];exact q.grow U U (by have a:=g2;have b:=g0;simp only[Aee,Aef,Aeg] at a b ⊢;omega) (by rw[AeP,AeF O]))).l19;replace H:=(H.mono 0 (B:=trA Tb pp mb n o (some (t4,vals (X++(e1.1,c1)::(ky,c2)::Y_)++Q))) Z (λh q=>q.perm (mp6 c1 c2 e1.1 ky X Y_ Q))).l19;have a1:=mn_share (c1:=c1) (c2:=c2) hP.ok hP.r (Sq.st a4 (λv m=>by simp[m]) (Sq.st l (λv m=>by simp[m]) e0)) (Sq.st a4 (λv m=>by simp[m]) (Sq.st l (λv m=>by simp[m]) e5)) (a4.fr c1 O _ _ _ _ _ c3) k9 hM.symm d0 d5 hP.h1;exact ⟨_,.inr ⟨t4,_,_,_,⟨St.t4 O1.st O2.st l a4 U (λp hp=>by simp[hp]) (λp hp=>by simp[hp]) (λp hp=>by simp[hp]) (λp hp=>by simp[hp]),a1.1,a1.2.1,a1.2.2.1,a1.2.2.2,by simp⟩,Z,Z⟩,H.perm 19 [18,5,0] Z Z⟩
 refine Aq Z (call222 _) (AbV (λh q=>q.rd) (λh q=>q.rd) (λh q=>q.rd) (λh q=>q.rd) b5 a9 a2 hj) H.f3.f3.f7.f7 ?_;rintro _ w _ ⟨e6,f9,rfl,rfl⟩ H;replace H:=H.l14;have g9:=H.sy 0 (·.slc);have g5:=H.sy 1 (·.slc);refine Za 3 [] H Z ?_;intro k2 w H;refine Az Z Z (Ak 0 H Z Z Z Z (vs:=[.bool (decide (h=0)),e6,f9]) Z (Ad Z (Ad g9.one (Ad g5.one Aw))) J O (out:=[.bool (decide (h=0)),e6,f9]) Z) ?_;rintro w H;replace H:=H.l15;refine Z0 13 [3] Z ?_;have l6:(Nd.mk (decide (h=0)) (es1++es2)).Ok:=⟨a2,by simp;omega,c5,λ_=>by simp[d3]⟩;replace H:=(H.mono 9 (B:=trA Tb pp mb n o (some (t2,c1::(vals (es1++es2)++(c2::(vals X++(vals Y_++Q))))))) Z (λh q=>q.perm (AdS c1 c2 es1 es2))).l15;replace H:=H.f14.f1.f8;refine AN (Sep z (blk b1 [.bool false,.slice (some ⟨gk,0,none⟩) ((kL (X++e1::e2::Y_)).length) s,.slice (some ⟨gv,0,none⟩) ((vL (X++e1::e2::Y_)).length) a0] 201::blk k2 [.bool (decide (h=0)),e6,f9] 201::blk gv ((vL (X++(e1.1,c1)::(e2.1,c2)::Y_)).map I++g) 3::R)) 9 Z J (AZ H λw H'=>?_);have H:=H'.l15;refine AT [0,1,2,3] [2,0,0] [] (by exact H.pick 15 [0,1,2] Z) Z J Z (BN 4 Z J J J Z Z Z (CI Z (z:=1) (j:=X.length) (r:=X.length) J Z Z Z (by simp only[Aef,Aee,Aeg];omega) U) (H.pick 15 [0,1,2] Z) (BN 5 Z J J J Z Z Z (Bg Z Z J (λ_ hx=>hx.cel 2 Z X.length (show ((vL (X++(e1.1,c1)::(e2.1,c2)::Y_)).map I++g)[X.length]?=some (I (c1:Int)) from (by rw[Aem O,Aeo];simp[vL])))) (H.pick 15 [0,1,2] Z) ?_));refine AT [6] [1,3] [] (by exact H.pick 15 [0,1,2] Z) Z J Z (AC [7] J O (Am (Bo Z Z Z Z Z Z (λw=>call183 _ w) (F4 pp mb n o t2 (c2::(vals X++(vals Y_++Q))) c1 (decide (h=0)) (es1++es2) (λh q=>q.rd) (λh q=>q.rd) h e1.1 (nx Y_ hi) 4 (La++Lb) c4 Z a8 (by simp;omega) l6 a7 a5.2 a5.1 (by have:=O1.st.k;have:=O2.st.k;omega)) H.f4.f4.f10 Z ?_)));rintro _ w _ ⟨t3,⟨l,c3,i8,k8⟩,rfl,rfl⟩ H;replace H:=H.l15;refine Av (H.pick 15 [3,4,5] Z) (AT [8] [] [] (by exact H.pick 15 [3,4,5] Z) Z J Z (a_done J (gn (Z0 12 [4] Z ?_))));replace H:=(H.mono 0 (B:=trA Tb pp mb n o (some (t3,c2::(c1::(vals X++(vals Y_++Q)))))) Z (λh q=>q.perm (AfX _ _ _))).l15;refine Z3 6 [2,3,0] [(X.length:Int)+1] H Z U (Ab Z (CI Z (z:=1) (j:=(X.length+1)) (r:=(X.length+1)) J Z Z U (by simp only[Aef,Aee,Aeg];omega) U) (Ab Z (Bg Z Z J (Ay (H.cel 5 Z (X.length+1) (show ((vL (X++(e1.1,c1)::(e2.1,c2)::Y_)).map I++g)[X.length+1]?=some (I (c2:Int)) from (by rw[Aem O,Aeo];simp[vL]))))) ?_));refine Aq Z (call142 _) (GU pp mb n o t3 c2 (λd q=>by rw[(l.op c2 O O2.N0 O2.C1).1] at q;cases q)) H ?_;rintro _ w _ ⟨t4,⟨a3,n1,j2,k7,n8⟩,rfl,rfl⟩ H;refine Z0 13 [4] Z ?_;have K4:=H.says 0 Z (λh a=>trA.k a);have c8:∀v∈vals X++vals Y_,1<=v/\v<1024:=λv m=>by have:=K4.i.rin v (by simp only[CU,Aen,Aep] at m ⊢;rcases m with h|h<;>simp[h]);omega
 have d4:1<=c1/\c1<1024:=by have:=K4.i.rin c1 (by simp[CU]);omega
 have g6:1<=c2/\c2<1024:=by have:=K2.i.rin c2 (by simp[CU]);omega
 have l1:=QQ (N:=t4.N) (c1:=c1) hP.ok hP.r (Sq.st a3 (λv m=>by simp[m]) (Sq.st l (λv m=>by simp[m]) e0)) (Sq.st a3 (λv m=>by simp[m]) (Sq.st l (λv m=>by simp[m]) e5)) (a3.fr c1 O _ _ _ _ _ c3);have h3:CkN false (kL (X++(e1.1,c1)::Y_)) (vL (X++(e1.1,c1)::Y_)):=CkN.of l1.2.2.1 (λv m=>by rw[BO,B7] at m;simp only[Aep,Aen] at m;rcases m with q|q|q;exact c8 v (by simp[q]);rw[q];exact d4;exact c8 v (by simp[q]));have i4:CkN false (kL (X++(e1.1,c1)::(e2.1,c2)::Y_)) (vL (X++(e1.1,c1)::(e2.1,c2)::Y_)):=CkN.of (Ab4 hP.ok) (λv m=>by rw[BO,B7,B7] at m;simp only[Aep,Aen] at m;rcases m with q|q|q|q;exact c8 v (by simp[q]);rw[q];exact d4;rw[q];exact g6;exact c8 v (by simp[q]));refine Z3 4 [3,3] [((X.length+1:Nat):Int)] H Z U (Aq Z (call184 _) (ZN (λh q=>by rw[show kL (X++(e1.1,c1)::(e2.1,c2)::Y_)=kL (X++e1::e2::Y_) from by simp[kL]];exact q.rd U U (by simp only[Aee,Aef,Aeg];omega) (by rw[Aeu,AeP,AeF O])) (λh q=>by rw[show (vL (X++(e1.1,c1)::(e2.1,c2)::Y_)).length=(vL (X++e1::e2::Y_)).length from by simp];exact q.rd U U (by simp only[Aee,Aef,Aeg];omega) (by rw[Aeu,AeP,AeF O])) i4 h3) H.f5.f14 ?_);rintro _ w _ ⟨i2,g8,rfl,rfl⟩ H;replace H:=H.l17;have g7:=H.sy 0 (·.slc);have i0:=H.sy 1 (·.slc);refine Zc 2 Z (Az Z Z (Ak 16 H Z Z Z Z (vs:=[.bool false,i2,g8]) Z (Ad Z (Ad g7.one (Ad i0.one Aw))) J O (out:=[.bool false,i2,g8]) Z) ?_);rintro w H;replace H:=H.l17;refine Zc 4 Z (Zl [16,3] H Z ?_);replace H:=(H.mono 4 (B:=trA Tb pp mb n o (some (t4,vals (X++(e1.1,c1)::Y_)++Q))) Z (λh q=>q.perm (mp5 c1 e1.1 X Y_ Q))).l17;have a1:=QQ (c1:=c1) hP.ok hP.r (Sq.st a3 (λv m=>by simp[m]) (Sq.st l (λv m=>by simp[m]) e0)) (Sq.st a3 (λv m=>by simp[m]) (Sq.st l (λv m=>by simp[m]) e5)) (a3.fr c1 O _ _ _ _ _ c3);exact ⟨_,.inr ⟨t4,_,_,_,⟨St.t4 O1.st O2.st l a3 U (λp hp=>by simp[hp]) (λp hp=>by simp[hp]) (λp hp=>by simp[hp]) (λp hp=>by simp[hp]),a1.1,a1.2.1,a1.2.2.1,a1.2.2.2,by simp;omega⟩,Z,Z⟩,H.perm 17 [0,1,4] Z Z⟩
end
section
variable{Tb:Ai}
structure RmPre(n:Nat)(t:TS)(Q:List Nat)(a h:Nat)(lo hi:Int)(m:Nat)(key:Int)(v0:Nat)(L:List E):Prop where
 T:Tr t.N h a lo hi m L
 kin:(key,v0)∈L
 l0:0<=lo
 h1:hi<=1048576
 d:(vals L).Nodup
 mm:1<=m/\(h≠0->2<=m)
 hk:t.k+6*h+4<40
 hb:Q.length+10*h+42+n<=980
abbrev Lg(Tb:Ai)(pp mb n:Nat)(o:TB)(t:TS)(Q:List Nat)(h:Nat)(lo hi:Int)(m:Nat)(key:Int)(L:List E)(v:Value)(Γ:List Ai):Prop:=
 (cnt t.F 0 1024<=3*h/\∃s:TS×List Nat,v=.tuple #[.int .i64 0,.int .i64 0,.int .i64 20]/\Γ=[trA Tb pp mb n o (some s)])\/
 ∃(t2:TS) (c:Nat) (es':List E),(St t t2 Q (3*h+1) (6*h+2)/\Tr t2.N h c lo hi es'.length (BW key L)/\t2.N c=some (.nd ⟨decide (h=0),es'⟩)/\t2.C c=1/\m<=es'.length+1)/\v=.tuple #[.int .i64 (c:Int),.int .i64 (es'.length:Int),.int .i64 0]/\Γ=[trA Tb pp mb n o (some (t2,c::Q))]
theorem Lh(h:(vals X).Nodup):(vals (BW t X)).Nodup:=by
 unfold vals BW;exact List.Nodup.sublist (List.Sublist.map _ List.filter_sublist) h
theorem ZO{Y_:List E}:(m::(vals (X++(t,n)::Y_)++R)).Perm (n::(m::(vals (X++Y_)++R))):=
 AfD.2 λa=>by simp only[Afr,Afc,DL,Eg];omega
theorem Wr{Y_:List E}{e:E}:(n::(vals (X++e::Y_)++R)).Perm (e.2::(n::(vals X++(vals Y_++R)))):=
 AfD.2 λa=>by simp only[Afr,Afc,DL,Eg];omega
theorem TW{Y_:List E}:(m::(n::(vals X++(vals Y_++R)))).Perm (vals (X++(t,m)::Y_)++(n::R)):=
 AfD.2 λa=>by simp only[Afr,Afc,DL,Eg];omega
theorem MQ :(vals X++(n::R)).Perm (n::(vals X++R)):=Afh
theorem Ws{N:Hm}{Y_:List E}(d:(Nd.mk true (X++(p,n)::Y_)).Ok)(m:B3 t s (X++(p,n)::Y_))(h:∀e∈X++(p,n)::Y_,∃b,N e.2=some (.dt b))(c:(vals (X++(p,n)::Y_)).Nodup):
  BW p (X++(p,n)::Y_)=X++Y_/\Bd N 0 (X++Y_) s (X++Y_)/\B3 t s (X++Y_)/\(Nd.mk true (X++Y_)).Ok/\(vals (X++Y_)).Nodup:=by
 have hs:Srt (X++(p,n)::Y_):=d.srt;obtain ⟨r,k,j⟩:=Srt.app.1 hs;have f:∀x∈X++Y_,x∈X++(p,n)::Y_:=λx g=>by
  rcases Aep.1 g with q|q<;>simp[q]
 have u:(X++(p,n)::Y_).length<=8:=d.len;refine ⟨LW hs,⟨Z,λe i=>h e (f e i)⟩,λx g=>m x (f x g),⟨Srt.app.2 ⟨r,(Srt.cons.1 k).2,λa l b o=>j a l b (by simp[o])⟩,by simp at u ⊢;omega,λe i=>d.key e (f e i),λq=>by cases q⟩,?_⟩;rw[BO,B7] at c;rw[BO];exact (Afi.1 (Afh.nodup_iff.1 c)).2
theorem Ade{N:Hm}{L Y_:List E}{e:E}{key:Int}(hs:Srt (X++e::Y_))(h:B3 s p (X++e::Y_))(l:Bd N (n+1) (X++e::Y_) p L)(k:X=[]\/e.1<=key)(v:∀x∈Y_,key<x.1/\e.1<x.1)(w:(key,m)∈L):
  ∃L0 Lc L2,(Sq (λc a b L=>Tr N n c a b 4 L) X e.1 L0/\Tr N n e.2 e.1 (nx Y_ p) 4 Lc/\Sq (λc a b L=>Tr N n c a b 4 L) Y_ p L2)/\L=L0++(Lc++L2)/\BW key L=L0++(BW key Lc++L2)/\(key,m)∈Lc/\s<=e.1/\nx Y_ p<=p:=by
 obtain ⟨L0,Lc,L2,rfl,f,u,g⟩:=Sq.at l;obtain ⟨z,o,r⟩:=Srt.app.1 hs;have a1:=Sq.srt f z (λx d=>r x d e O) (λ_ _ _ _ q=>Tr.srt q);have a3:=Sq.srt g (Srt.cons.1 o).2 (λx d=>(h x (by simp[d])).2) (λ_ _ _ _ q=>Tr.srt q);have i:∀x∈L0,x.1≠key:=λx d=>by
  rcases k with rfl|k
  ·simp only[Sq] at f;subst f;simp at d
  have:=a1.2.1 x d;omega
 have j:∀x∈L2,x.1≠key:=λx d=>by
  cases Y_ with
  | nil=>simp only[Sq] at g;subst g;simp at d
  | cons y t=>
   have:=a3.2.1 x d;have:=v y O;simp only[nx] at *;omega
 refine ⟨L0,Lc,L2,⟨f,u,g⟩,Z,?_,?_,(h e O).1,RX (λx d=>(h x (by simp[d])).2)⟩
 ·rw[Kf,Kf,Gw i,Gw j]
 rcases Aep.1 w with q|q
 ·exact absurd Z (i _ q)
 rcases Aep.1 q with q|q
 ·exact q
 exact absurd Z (j _ q)
theorem rm_node{Y_:List E}{e:E}(c2:Nat)(b:(Nd.mk false (X++e::Y_)).Ok)(d:B3 t s (X++e::Y_)):(Nd.mk false (X++(e.1,c2)::Y_)).Ok/\B3 t s (X++(e.1,c2)::Y_):=by
 have hs:Srt (X++e::Y_):=b.srt;have c:=Ki (k1:=e.1) c2 hs d (.inr Z) (Afm _) (d e O).1;have f:(X++e::Y_).length<=8:=b.len;refine ⟨⟨c.1,by simp at f ⊢;omega,λx a=>?_,λ_=>by simp⟩,c.2⟩;have a:x∈X++(e.1,c2)::Y_:=a;rcases Aep.1 a with a|a
 ·exact b.key x (by simp[a])
 rcases Aen.1 a with rfl|a
 ·exact b.key e O
 exact b.key x (by simp[a])
theorem rm_pick{t:TS}{Q:List Nat}{Y_:List E}{L0 Lc L2:List E}(e:(Nd.mk false (X++(q,i)::Y_)).Ok)(r:B3 s p (X++(q,i)::Y_))(o:Sq (λc a b L=>Tr t.N m c a b 4 L) X q L0)(h:Tr t.N m i q (nx Y_ p) j Lc)(v:Sq (λc a b L=>Tr t.N m c a b 4 L) Y_ p L2)
  (h3:3<=j)(h2:2<=(X++(q,i)::Y_).length)(u:0<=s)(f:p<=1048576)(d:(vals (L0++(Lc++L2))).Nodup)(z:t.k+5<40)(hb:Q.length+30+n<=980):
  ∃U_ V g w m2 m3 M0 Ma Mb M2,X++(q,i)::Y_=U_++g::w::V/\min (X.length:Int) (((X++(q,i)::Y_).length:Int)-2)=(U_.length:Int)/\L0++(Lc++L2)=M0++(Ma++(Mb++M2))/\MnPre n t Q m s p U_ V g w m2 m3 M0 Ma Mb M2:=by
 cases Y_ with
 | cons y Y_=>
  obtain ⟨Ly,L3,rfl,hy,q3⟩:=v;refine ⟨X,Y_,(q,i),y,j,4,L0,Lc,Ly,L3,Z,?_,Z,e,r,o,h,hy,q3,by omega,u,f,?_,z,hb⟩
  ·simp only[Aee,Aeg];omega
  rw[BO,BO,BO,Ae9] at d;have l:=d.2.1;rw[<-Aeh,Ae9] at l;rw[BO];exact l.1
 | nil=>
  have e2:L2=[]:=v;subst e2;rcases List.eq_nil_or_concat X with rfl|⟨X',x,rfl⟩
  ·simp at h2
  rw[List.concat_eq_append] at *;obtain ⟨La,Lb,rfl,qa,Lx,L5,rfl,hx,q5⟩:=Sq.app.1 o;have e5:L5=[]:=q5;subst e5;refine ⟨X',[],x,(q,i),4,j,La,Lx,Lc,[],by simp,?_,by simp,?_,?_,qa,hx,h,Z,by omega,u,f,?_,z,hb⟩
  ·simp only[Aee,Aeg,AeB];omega
  ·rw[Aeh] at e;exact e
  ·rw[Aeh] at r;exact r
  simp only[BO,AeV,Aeh,Ae9] at d ⊢;simp only[vals,Afz,AeQ] at d ⊢;exact ⟨d.2.1.1,d.2.1.2.1,d.2.1.2.2⟩
end
section
variable{Tb:Ai}
set_option maxHeartbeats 2000000 in
theorem Ab6 (pp mb n:Nat) (o:TB) (t:TS) (Q:List Nat) (a:Nat) (lo hi:Int) (m:Nat) (key:Int) (v0:Nat) (L:List E) (y:RmPre n t Q a 0 lo hi m key v0 L):Cn prog 141 [Y pp,I (a:Int),I key] [trA Tb pp mb n o (some (t,a::Q))] (λv Γ=>Lg Tb pp mb n o t Q 0 lo hi m key L v Γ):=by
 intro z R w H;replace H:=H.l1;have K:=H.says 0 Z (λh a=>trA.k a);have hn:=K.hn;have a2:=y.kin;have hdL:=y.d;have d6:=y.hk;have c9:=y.hb;obtain ⟨c8,c7⟩:=y.mm;obtain ⟨es,hN,hm,c2,a0,a4,a8⟩:=y.T;have b6:CkN true (kL es) (vL es):=K.i.vok U hn.2 hN;have b8:=(K.i.nds a _ hN).2.1;obtain rfl:es=L:=a4.symm;refine Ae func141 Z ntmps141 Z (Zc 11 Z (Aq Z (call181 _) (Jz pp mb n o t Q a true es hN U U) H ?_));rintro _ w _ (⟨c5,v1,v2,s,rfl,rfl⟩|⟨t1,c,v1,v2,O_,rfl,rfl⟩) H'
 ·have H:=H'.l3;have a1:=H.sy 0 (·.slc)
  have x:=H.sy 1 (·.slc);refine Za 4 [] H Z ?_;intro b3 w H;refine Zc 1 Z (Az Z Z (Ak 0 H Z Z Z Z (vs:=[.bool true,v1,v2]) Z (Ad Z (Ad a1.one (Ad x.one Aw))) J O (out:=[.bool true,v1,v2]) Z) ?_);rintro w H;replace H:=H.l4;refine Z0 20 [3] Z (Zr Z ?_);exact ⟨_,.inl ⟨by omega,_,Z,Z⟩,H.perm 4 [3] Z Z⟩
 have H:=H'.l3;have a1:=H.sy 0 (·.slc);have x:=H.sy 1 (·.slc);refine Za 4 [] H Z ?_;intro b4 w H;refine Zc 1 Z (Az Z Z (Ak 0 H Z Z Z Z (vs:=[.bool true,v1,v2]) Z (Ad Z (Ad a1.one (Ad x.one Aw))) J O (out:=[.bool true,v1,v2]) Z) ?_);rintro w H;replace H:=H.l4;refine Z2 25 [4,0,0,0,0,3] H Z (Aq Z (call133 _) (OO (es:=es) (λh q=>q.rd) (λh q=>q.rd) a0.len a0.srt key) H.f2.f2 ?_);rintro _ w _ (⟨X,vd,Y_,⟨g,hX⟩,rfl,rfl⟩|⟨c3,i0,rfl,rfl⟩) H'
 ·have H:=H'.l4;refine Zc 9 Z ?_;have b2:∀d,t1.N vd≠some (.nd d):=λd q=>by obtain ⟨b,hb⟩:=a8 (key,vd) (by rw[g];simp);rw[O_.dv vd (by rw[g];simp[vals]) b hb] at q;cases q
  obtain ⟨a6,b0,b5,a7,b9⟩:=Ws (N:=t1.N) (by rw[<-g];exact a0) (by rw[<-g];exact c2) (λe he=>by obtain ⟨b,hb⟩:=a8 e (by rw[g];exact he);exact ⟨b,O_.dv _ (by rw[g];exact Aez he) b hb⟩) (by rw[<-g];exact b8);obtain ⟨d4,d1,rfl⟩:=x;have a5:=(H.rv 1 (·.rd)).at (j:=X.length) (u:=I (vd:Int)) (by rw[g];simp[vL]);replace H:=(H.mono 3 (B:=trA Tb pp mb n o (some (t1,vd::(c::(vals (X++Y_)++Q))))) Z (λh q=>q.perm (by rw[g];exact ZO))).l4;refine Z2 5 [2,2,0] H Z (Ab Z (Aj Z (z:=1) (j:=X.length) (r:=X.length) J Z Z Z (by rw[g];simp) a5 U) (Ab Z (Ax Z Z J (Ay a5)) (Aq Z (call142 _) (GU pp mb n o t1 vd b2) H.f3 ?_)));rintro _ w _ ⟨t2,⟨l,d0,d2,d3,d5⟩,rfl,rfl⟩ H;refine Z2 16 [4,3,3] H Z ?_;have c6:∀v∈vals (X++Y_),1<=v/\v<1024:=λv hv=>by have K2:=H.says 0 Z (λh a=>trA.k a);have:=K2.i.rin v (by simp[CU,hv]);omega
  refine Aq Z (call184 _) (AbU (lf:=true) (X:=X) (e:=(key,vd)) (Y_:=Y_) (by rw[<-g];exact (λh q=>q.rd)) (by rw[<-g];exact (λh q=>q.rd)) (by rw[<-g];exact b6) (CkN.of a7 c6)) H.f2.f2 ?_;rintro _ w _ ⟨v5,v6,rfl,rfl⟩ H;replace H:=H.l6;have a9:=H.sy 0 (·.slc);have c0:=H.sy 1 (·.slc);refine Zc 3 Z (Az Z Z (Ak 5 H Z Z Z Z (vs:=[.bool true,v5,v6]) Z (Ad Z (Ad a9.one (Ad c0.one Aw))) J O (out:=[.bool true,v5,v6]) Z) ?_);rintro w H;replace H:=H.l6;refine Z0 14 [4] Z ?_;replace H:=H.f5;refine AN (Sep z (blk b4 [.bool true,v5,v6] 201::R)) 11 Z J (AZ H λw H'=>?_);have H:=H'.l6;refine AT [0,1,2] [1,0,0] [] (by exact H.pick 6 [0] Z) Z J Z (BN 3 Z J J J Z Z Z (Ed Z (sz:=1) J Z a9) (H.pick 6 [0] Z) (AT [4,5,6] [0,3] [] (by exact H.pick 6 [0] Z) Z J Z (AC [7] J O (Am (Bo Z Z Z Z Z Z (λw=>call183 _ w) (F4 pp mb n o t2 Q c true (X++Y_) (λh q=>q.rd) (λh q=>q.rd) 0 lo hi (X++Y_).length (X++Y_) (l.bd (λv hv=>by simp[hv]) b0) Z b5 (Aei _) a7 b9 (l.op c O O_.N0 O_.C1).2 (l.op c O O_.N0 O_.C1).1 (by have:=O_.st.k;have:=l.k;omega)) H.f2.f2.f5 Z ?_)))));rintro _ w _ ⟨t3,⟨a3,c4,b1,c1⟩,rfl,rfl⟩ H;replace H:=H.l6;refine Av (H.pick 6 [3] Z) (AT [8,9,10] [] [] (by exact H.pick 6 [3] Z) Z J Z (a_done J (gn (Zc 2 Z (Zr Z ?_)))));exact ⟨_,.inr ⟨t3,c,X++Y_,⟨((O_.st.sub (R':=Q) (λp hp=>hp) (Aei _) (Aei _)).trans l (R:=Q) (R1:=Q) (λp hp=>hp) (λp hp=>by simp[hp]) (e:=1) (f:=1) U U).trans a3 (λp hp=>hp) (λp hp=>hp) U U,by rw[g,a6];exact c4,by rw[c1];exact BK _ _ _,by rw[b1];exact (l.op c O O_.N0 O_.C1).2,by have:es.length=X.length+Y_.length+1:=(by rw[g];simp;omega);simp only[Aee];omega⟩,congrArg (λq:Int=>Value.tuple #[I (c:Int),I q,I 0]) O,Z⟩,H.perm 6 [0] Z Z⟩
 exact absurd ⟨v0,a2⟩ c3
set_option maxHeartbeats 4000000 in
theorem Ab7 (pp mb n:Nat) (o:TB) (t:TS) (Q:List Nat) (h:Nat) (ih:∀(t:TS) (Q:List Nat) (a:Nat) (lo hi:Int) (m:Nat) (key:Int) (v0:Nat) (L:List E),RmPre n t Q a h lo hi m key v0 L->Cn prog 141 [Y pp,I (a:Int),I key] [trA Tb pp mb n o (some (t,a::Q))] (λv Γ=>Lg Tb pp mb n o t Q h lo hi m key L v Γ)) (a:Nat) (lo hi:Int) (m:Nat) (key:Int) (v0:Nat) (L:List E) (hP:RmPre n t Q a (h+1) lo hi m key v0 L):Cn prog 141 [Y pp,I (a:Int),I key] [trA Tb pp mb n o (some (t,a::Q))] (λv Γ=>Lg Tb pp mb n o t Q (h+1) lo hi m key L v Γ):=by
 intro z R w H;replace H:=H.l1;have K:=H.says 0 Z (λh a=>trA.k a);have c6:=hP.kin;have h0:=hP.l0;have b2:=hP.h1;have hdL:=hP.d;have h8:=hP.hk;have g7:=hP.hb;obtain ⟨g6,d5⟩:=hP.mm;obtain ⟨es,hN,hm,f9,y,g2⟩:=hP.T;refine Ae func141 Z ntmps141 Z (Zc 11 Z (Aq Z (call181 _) (Jz pp mb n o t Q a false es hN U U) H ?_));rintro _ w _ (⟨g4,v1,v2,s,rfl,rfl⟩|⟨t1,c,v1,v2,O_,rfl,rfl⟩) l
 ·have H:=l.l3;have a0:=H.sy 0 (·.slc)
  have a8:=H.sy 1 (·.slc);refine Za 4 [] H Z ?_;intro b3 w H;refine Zc 1 Z (Az Z Z (Ak 0 H Z Z Z Z (vs:=[.bool false,v1,v2]) Z (Ad Z (Ad a0.one (Ad a8.one Aw))) J O (out:=[.bool false,v1,v2]) Z) ?_);rintro w H;replace H:=H.l4;refine Z0 20 [3] Z (Zr Z ?_);exact ⟨_,.inl ⟨by omega,_,Z,Z⟩,H.perm 4 [3] Z Z⟩
 have H:=l.l3;have a0:=H.sy 0 (·.slc);have a8:=H.sy 1 (·.slc);refine Za 4 [] H Z ?_;intro b4 w H;refine Zc 1 Z (Az Z Z (Ak 0 H Z Z Z Z (vs:=[.bool false,v1,v2]) Z (Ad Z (Ad a0.one (Ad a8.one Aw))) J O (out:=[.bool false,v1,v2]) Z) ?_);rintro w H;replace H:=H.l4;refine Z2 27 [4,0,0,0,0,3] H Z (Aq Z (call134 _) (Md (es:=es) (λh q=>q.rd) (λh q=>q.rd) y.len y.srt (y.ne Z) key) H.f2.f2 ?_);rintro _ w _ ⟨X,e,Y_,⟨i,hX,i0,hY⟩,rfl,rfl⟩ H;refine Zc 4 Z ?_;obtain ⟨i2,b7,rfl⟩:=a8;have d0:=(H.rv 1 (·.rd)).at (j:=X.length) (u:=I (e.2:Int)) (by rw[i];simp[vL]);replace H:=(H.mono 3 (B:=trA Tb pp mb n o (some (t1,e.2::(c::(vals X++(vals Y_++Q)))))) Z (λh q=>q.perm (by rw[i];exact Wr))).l4;have e3:Srt (X++e::Y_):=by rw[<-i];exact y.srt
 have d6:B3 lo hi (X++e::Y_):=by rw[<-i];exact f9
 have g3:(Nd.mk false (X++e::Y_)).Ok:=by rw[<-i];exact y
 obtain ⟨L0,Lc,L2,⟨e1,e9,f5⟩,f6,b5,f7,g9,h3⟩:=Ade e3 d6 (by rw[<-i];exact O_.bd g2) hX hY c6;have g8:X.length+Y_.length+1=es.length:=by rw[i];simp;omega
 have g5:es.length<=8:=y.len;have e2:(vals Lc).Nodup:=by rw[f6,BO,BO,Ae9] at hdL;have h5:=hdL.2.1;rw[Ae9] at h5;exact h5.1
 refine Z2 5 [2,2,0] H Z (Ab Z (Aj Z (z:=1) (j:=X.length) (r:=X.length) J Z Z Z (by rw[i];simp) d0 U) (Ab Z (Ax Z Z J (Ay d0)) (Zc 1 Z (Aq Z (call141 _) (ih t1 (c::(vals X++(vals Y_++Q))) e.2 e.1 (nx Y_ hi) 4 key v0 Lc ⟨e9,f7,by omega,by omega,e2,⟨by omega,λ_=>by omega⟩,by have:=O_.st.k;omega,by simp only[Aeg,Aee,Kj];omega⟩) H.f3 ?_))));rintro _ w _ (⟨h6,s2,rfl,rfl⟩|⟨t2,c2,g1,⟨g,d3,i1,h9,h7⟩,rfl,rfl⟩) l
 ·have H:=l.l4;refine Z0 26 [3] Z (Zr Z ?_);exact ⟨_,.inl ⟨by have:=O_.st.f;omega,_,Z,Z⟩,H.perm 4 [0] Z Z⟩
 have H:=l.l4;refine Z0 20 [4] Z ?_;have h4:X.length<es.length:=by rw[i];simp
 have d2:0<(vL es).length:=by simp only[Aef];omega
 obtain ⟨b8,c7,a1,f8,d9,e0,e5,l⟩:=H.ungrow 2 Z d2;cases f8;clear H;have H:=l.l4;refine Z2 5 [2,3,0] H Z (Ab Z (CI Z (z:=1) (j:=X.length) (r:=X.length) J Z Z Z (by simp only[Aef];omega) U) (Az Z Z (Ak 2 H Z Z Z Z (vs:=[I (c2:Int)]) Z (by simp[u8,u32,Value.oneCell']) J (by simp only[Aee,Aef,Aeg,AeB];omega) (out:=(((vL es).set X.length (c2:Int)).map I++a1)) (Eb (by simp only[Aef];omega))) ?_));rintro w H;replace H:=H.l4;refine Zc 4 Z ?_;have c8:(vL es).length=(vL (X++(e.1,c2)::Y_)).length:=by rw[i];simp
 have e6:(vL es).set X.length (c2:Int)=vL (X++(e.1,c2)::Y_):=by rw[i];simp[vL,AfZ]
 have b0:kL es=kL (X++(e.1,c2)::Y_):=by rw[i];simp[kL]
 have f0:(kL es).length=es.length:=by simp
 obtain ⟨c1,b6⟩:=rm_node c2 g3 d6;have d4:Sq (λc a b L=>Tr t2.N h c a b 4 L) X e.1 L0:=Sq.st g (λv hv=>by simp[hv]) e1;have c9:Sq (λc a b L=>Tr t2.N h c a b 4 L) Y_ hi L2:=Sq.st g (λv hv=>by simp[hv]) f5;have c4:(X++(e.1,c2)::Y_).length=es.length:=by simp only[Aee,Aeg];omega
 have a3:=g.op c O O_.N0 O_.C1;have d7:(vals (L0++(BW key Lc++L2))).Nodup:=by rw[<-b5];exact Lh hdL
 replace H:=(H.mono 2 (B:=grow 3 1 (.slice (some ⟨b8,0,none⟩) ((vL es).length) b7) ((vL es).length) ((vL (X++(e.1,c2)::Y_)).map I)) Z (λh q=>q.grow U U (by simp only[Aee,Aef,AeU];simp only[Aef] at *;omega) (by rw[AeP,AeF O,e6]))).l4;replace H:=(H.mono 0 (B:=trA Tb pp mb n o (some (t2,vals (X++(e.1,c2)::Y_)++(c::Q)))) Z (λh q=>q.perm TW)).l4;refine Z0 4 [0] Z (Al 87 Z (λh1=>?_) (λh1=>?_))
 ·refine Z2 2 [1,3,0] H Z (Ab Z (Ed Z (sz:=1) J Z a0) (Z0 4 [0] Z (Af Z (λh2=>?_) (λh2=>?_))))
  ·refine Zc 1 Z ?_;have c5:3<=g1.length:=by omega
   obtain ⟨U_,V,f1,f2,m2,m3,M0,Ma,Mb,M2,hU,d1,f4,d8⟩:=rm_pick (n:=n) (t:=t2) (Q:=c::Q) c1 b6 d4 d3 c9 c5 U h0 b2 d7 (by have:=O_.st.k;have:=g.k;omega) (by simp only[Aeg];omega);replace H:=(H.mono 1 (B:=grow 3 1 v1 ((kL (U_++f1::f2::V)).length) ((kL (U_++f1::f2::V)).map I)) Z (λh q=>by rw[<-hU,<-b0];exact q)).l4;replace H:=(H.mono 2 (B:=grow 3 1 (.slice (some ⟨b8,0,none⟩) ((vL es).length) b7) ((vL (U_++f1::f2::V)).length) ((vL (U_++f1::f2::V)).map I)) Z (λh q=>by rw[<-hU,<-c8];exact q)).l4;replace H:=(H.mono 0 (B:=trA Tb pp mb n o (some (t2,vals (U_++f1::f2::V)++(c::Q)))) Z (λh q=>by rw[<-hU];exact q)).l4;refine Z2 6 [3,3,1,3,0] H Z (Ab Z (Ed Z (sz:=1) J Z a0) (Z1 1 [] [(((kL es).length:Nat):Int)-2] Z U (Ab Z (Ku Z Z Z) (AD 101 (v:=I (U_.length:Int)) Z (congrArg I (by rw[<-d1,c4,f0])) (Aq Z (call185 _) (Ab5 pp mb n o t2 (c::Q) h lo hi U_ V f1 f2 m2 m3 M0 Ma Mb M2 d8) H ?_)))));rintro _ w _ (⟨i3,v5,v6,a4,s3,rfl,rfl⟩|⟨t3,a4,v5,v6,⟨a2,a7,e4,g0,e7,e8⟩,rfl,rfl⟩) l
   ·have H:=l.l4;have a9:=H.sy 0 (·.slc)
    have b9:=H.sy 1 (·.slc);refine Zc 3 Z (Az Z Z (Ak 3 H Z Z Z Z (vs:=[.bool false,v5,v6]) Z (Ad Z (Ad a9.one (Ad b9.one Aw))) J O (out:=[.bool false,v5,v6]) Z) ?_);rintro w H;replace H:=H.l4;refine Z0 19 [3] Z (Zr Z ?_);exact ⟨_,.inl ⟨by have:=O_.st.f;have:=g.f;omega,_,Z,Z⟩,H.perm 4 [2] Z Z⟩
   have H:=l.l4;have a9:=H.sy 0 (·.slc);have b9:=H.sy 1 (·.slc);refine Zc 3 Z (Az Z Z (Ak 3 H Z Z Z Z (vs:=[.bool false,v5,v6]) Z (Ad Z (Ad a9.one (Ad b9.one Aw))) J O (out:=[.bool false,v5,v6]) Z) ?_);rintro w H;replace H:=H.l4;refine Z0 13 [4] Z ?_;have a5:=a2.op c O a3.1 a3.2;replace H:=(H.mono 2 (B:=trA Tb pp mb n o (some (t3,c::(vals a4++Q)))) Z (λh q=>q.perm MQ)).l4;replace H:=H.f3;refine AN (Sep z (blk b4 [.bool false,v5,v6] 201::R)) 11 Z J (AZ H λw l=>?_);have H:=l.l4;refine AT [0,1,2] [1,0,0] [] (by exact H.pick 4 [0] Z) Z J Z (BN 3 Z J J J Z Z Z (Ed Z (sz:=1) J Z a9) (H.pick 4 [0] Z) (AT [4,5,6] [0,3] [] (by exact H.pick 4 [0] Z) Z J Z (AC [7] J O (Am (Bo Z Z Z Z Z Z (λw=>call183 _ w) (F4 pp mb n o t3 Q c false a4 (λh q=>q.rd) (λh q=>q.rd) (h+1) lo hi a4.length (BW key L) (by rw[b5,f4];exact a7) O e4 (Aei _) g0 e7 a5.2 a5.1 (by have:=O_.st.k;have:=g.k;have:=a2.k;omega)) H.f2.f2.f3 Z ?_)))));rintro _ w _ ⟨t4,⟨a6,c3,b1,c0⟩,rfl,rfl⟩ H;replace H:=H.l4;refine Av (H.pick 4 [3] Z) (AT [8,9,10] [] [] (by exact H.pick 4 [3] Z) Z J Z (a_done J (gn (Zc 2 Z (Zr Z ?_)))));exact ⟨_,.inr ⟨t4,c,a4,⟨(((O_.st.sub (R':=Q) (λp hp=>hp) (Aei _) (Aei _)).trans g (R:=Q) (R1:=Q) (λp hp=>hp) (λp hp=>by simp[hp]) (Aei _) (Aei _)).trans a2 (R:=Q) (R1:=Q) (λp hp=>hp) (λp hp=>by simp[hp]) (Aei _) (Aei _)).trans a6 (λp hp=>hp) (λp hp=>hp) U U,c3,by rw[c0];simp[BK],by rw[b1];exact a5.2,by rw[<-hU,c4] at e8;omega⟩,congrArg (λq:Int=>Value.tuple #[I (c:Int),I q,I 0]) O,Z⟩,H.perm 4 [0] Z Z⟩
  (exfalso;have:=d5 U;simp only[Aef] at *;omega)
 refine Zc 11 Z ?_;have a7:Bd t2.N (h+1) (X++(e.1,c2)::Y_) hi (L0++(BW key Lc++L2)):=Sq.mk (e:=(e.1,c2)) d4 (d3.mono (Afm _) (Afm _) U) c9;replace H:=(H.mono 0 (B:=trA Tb pp mb n o (some (t2,c::(vals (X++(e.1,c2)::Y_)++Q)))) Z (λh q=>q.perm MQ)).l4;replace H:=(H.mono 1 (B:=grow 3 1 v1 ((kL es).length) ((kL (X++(e.1,c2)::Y_)).map I)) Z (λh q=>by rw[<-b0];exact q)).l4;replace H:=H.f3;refine AN (Sep z (blk b4 [.bool false,v1,.slice (some ⟨b8,0,none⟩) ((vL es).length) b7] 201::R)) 11 Z J (AZ H λw l=>?_);have H:=l.l4;refine AT [0,1,2] [1,0,0] [] (by exact H.pick 4 [0] Z) Z J Z (BN 3 Z J J J Z Z Z (Ed Z (sz:=1) J Z a0) (H.pick 4 [0] Z) (AT [4,5,6] [0,3] [] (by exact H.pick 4 [0] Z) Z J Z (AC [7] J O (Am (Bo Z Z Z Z Z Z (λw=>call183 _ w) (F4 pp mb n o t2 Q c false (X++(e.1,c2)::Y_) (λh q=>by rw[<-b0];rw[<-b0] at q;exact q.rd) (λh q=>by rw[<-c8];exact q.rd) (h+1) lo hi (X++(e.1,c2)::Y_).length (BW key L) (by rw[b5];exact a7) O b6 (Aei _) c1 (a7.nodup c1.srt (λx hx=>(b6 x hx).2)) a3.2 a3.1 (by have:=O_.st.k;have:=g.k;omega)) H.f3.f3.f3 Z ?_)))));rintro _ w _ ⟨t4,⟨a6,c3,b1,c0⟩,rfl,rfl⟩ H;replace H:=H.l4;refine Av (H.pick 4 [3] Z) (AT [8,9,10] [] [] (by exact H.pick 4 [3] Z) Z J Z (a_done J (gn (Zc 2 Z (Zr Z ?_)))));exact ⟨_,.inr ⟨t4,c,(X++(e.1,c2)::Y_),⟨((O_.st.sub (R':=Q) (λp hp=>hp) (Aei _) (Aei _)).trans g (R:=Q) (R1:=Q) (λp hp=>hp) (λp hp=>by simp[hp]) (Aei _) (Aei _)).trans a6 (λp hp=>hp) (λp hp=>hp) U U,c3,by rw[c0];simp[BK],by rw[b1];exact a3.2,by rw[c4];omega⟩,congrArg (λq:Int=>Value.tuple #[I (c:Int),I q,I 0]) (by simp only[Aef];omega),Z⟩,H.perm 4 [0] Z Z⟩
end
section
variable{Tb:Ai}
theorem OT(pp mb n:Nat)(o:TB):∀(h:Nat) (t:TS) (Q:List Nat) (a:Nat) (lo hi:Int) (m:Nat) (key:Int) (v0:Nat) (L:List E),RmPre n t Q a h lo hi m key v0 L->Cn prog 141 [Y pp,I (a:Int),I key] [trA Tb pp mb n o (some (t,a::Q))] (λv Γ=>Lg Tb pp mb n o t Q h lo hi m key L v Γ)
 | 0=>λt Q a lo hi m key v0 L hP=>Ab6 pp mb n o t Q a lo hi m key v0 L hP
 | h+1=>λt Q a lo hi m key v0 L hP=>Ab7 pp mb n o t Q h (OT pp mb n o h) a lo hi m key v0 L hP
abbrev rootM(h:Nat):Nat:=if h=0 then 1 else 2
theorem Tr.data{N:Hm}{h:Nat}{lo hi:Int}{L:List E}(t:Tr N h r lo hi m L):∀e∈L,∃b,N e.2=some (.dt b):=by
 induction h generalizing r lo hi m L with
 | zero=>obtain ⟨es,_,_,_,_,rfl,h⟩:=t;exact h
 | succ h ih=>
  obtain ⟨es,_,_,_,_,g⟩:=t;have key:∀(es:List E) (L:List E),Sq (λc a b L=>Tr N h c a b 4 L) es hi L->∀e∈L,∃b,N e.2=some (.dt b):=by
   intro es
   induction es with
   | nil=>intro L q;have q:L=[]:=q;subst q;simp
   | cons e u ih2=>
    rintro _ ⟨L1,L2,rfl,i,f⟩ x d;rcases Aep.1 d with d|d
    ·exact ih i x d
    exact ih2 L2 f x d
  exact key es L g
theorem delR_none{N:Hm}{es:List E}(t:Tr N n i s p m X)(hN:N i=some (.nd ⟨b,es⟩))(g:es.length=0):X=[]:=by
 have c:es=[]:=Age.1 g;subst c;obtain ⟨e,a,_,_,f,d⟩:=Tr.iff.1 t;rw[a] at hN;cases hN
 cases n with
 | zero=>exact d.1
 | succ n=>exact absurd Z (f.ne O)
theorem Wt{N:Hm}{es:List E}(t:Tr N n i 0 1048576 m X)(hN:N i=some (.nd ⟨b,es⟩))(c:es.length=1)(k:n≠0):∃e h',es=[e]/\n=h'+1/\Tr N h' e.2 0 1048576 4 X:=by
 obtain ⟨e,rfl⟩:=List.length_eq_one_iff.1 c;obtain ⟨h',rfl⟩:∃h',n=h'+1:=⟨n-1,by omega⟩;obtain ⟨j,d,_,f,l,g⟩:=t;rw[d] at hN;cases hN;obtain ⟨L1,L2,rfl,h,a⟩:=g;have a:L2=[]:=a;subst a;have:=f e O;refine ⟨e,h',Z,Z,?_⟩;rw[AeV];exact h.mono this.1 (Afm _) (Aei _)
theorem root_of{N:Hm}(t:Tr N n r 0 1048576 m X)(b:rootM n<=m)(a:r≠0):Root N r X:=.inr ⟨a,n,t.mono (Afm _) (Afm _) b⟩
theorem DQ(h:r≠0):A8 r=[r]:=by simp[A8,h]
end
section
variable{Tb:Ai}
theorem Wu{o:TB}{T:TT}(K:TrK n o T)(t:Tr (Dk o T) j r s p m X)(a:(q,e)∈X):1<=e:=by
 have:∃b,Dk o T e=some (.dt b):=Tr.data t (q,e) a;obtain ⟨b,c⟩:=this;have:=(K.i.nin e _ c).1;omega
set_option maxHeartbeats 2000000 in
theorem Ab8 (pp mb n:Nat) (o:TB) (t:TS) (Q:List Nat) (h a:Nat) (key:Int) (L:List E) (hT:Tr t.N h a 0 1048576 (rootM h) L) (hd:(vals L).Nodup) (hk:t.k+6*h+4<40) (hb:Q.length+10*h+42+n<=980):Cn prog 84 [Y pp,I (a:Int),I key] [trA Tb pp mb n o (some (t,a::Q))] (λv Γ=>(¬CE key L/\v=.tuple #[I (a:Int),.bool false,I 0]/\Γ=[trA Tb pp mb n o (some (t,a::Q))])\/(cnt t.F 0 1024<=3*h/\∃s:TS×List Nat,v=.tuple #[I 0,.bool false,I 20]/\Γ=[trA Tb pp mb n o (some s)])\/∃(t2:TS) (r:Nat),(CE key L/\St t t2 Q (3*h+2) (6*h+3)/\Root t2.N r (BW key L))/\v=.tuple #[I (r:Int),.bool true,I 0]/\Γ=[trA Tb pp mb n o (some (t2,A8 r++Q))]):=by
 intro z R w H;replace H:=H.l1;have K:=H.says 0 Z (λh a=>trA.k a);refine Ae func84 Z ntmps84 Z (Zc 11 Z (z_E_ Z (call137 _) (Lf pp mb n o) H ?_));intro w H;refine Z0 17 [4] Z (Aq Z (call81 _) (QO pp mb n o (some (t,a::Q)) key L h a hT) H ?_);rintro _ w _ ⟨(⟨v0,b,rfl⟩|⟨b1,rfl⟩),rfl⟩ H'
 ·have H:=H'.l1;refine Zc 9 Z ?_;have b8:1<=v0:=Wu K hT b
  refine Z0 9 [4,0] Z (Af Z (λh1=>U) (λh1=>?_));refine Zc 7 Z (Aq Z (call141 _) (OT pp mb n o h t Q a 0 1048576 (rootM h) key v0 L ⟨hT,b,by omega,by omega,hd,⟨by unfold rootM;split<;>omega,λq=>by unfold rootM;rw[if_neg q];omega⟩,hk,hb⟩) H ?_);rintro _ w _ (⟨b4,s2,rfl,rfl⟩|⟨t2,c,f,⟨m,x,g,y,c1⟩,rfl,rfl⟩) H'
  ·have H:=H'.l1;refine Z0 26 [3] Z (Zr Z ?_);exact ⟨_,.inr (.inl ⟨b4,_,Z,Z⟩),H.perm 1 [0] Z Z⟩
  have H:=H'.l1;refine Z0 23 [4] Z (Aq Z (call132 _) (HT pp mb n o (some (t2,c::Q)) c (decide (h=0)) f g) H ?_);rintro _ w _ ⟨v1,v2,rfl,rfl⟩ H;replace H:=H.l3;have a8:=H.sy 0 (·.slc);have a2:=H.sy 1 (·.slc);refine Za 3 [] H Z ?_;intro b3 w H;refine Az Z Z (Ak 0 H Z Z Z Z (vs:=[.bool (decide (h=0)),v1,v2]) Z (Ad Z (Ad a8.one (Ad a2.one Aw))) J O (out:=[.bool (decide (h=0)),v1,v2]) Z) ?_;rintro w H;replace H:=H.l4;refine Z0 20 [4,0] Z (Af Z (λh2=>?_) (λh2=>?_))
  ·refine Zc 1 Z ?_;have a1:f=[]:=Age.1 U
   have O2:=L7 (show TInv n (manyN n+1) t2.N t2.C (c::Q) from (H.says 3 Z (λh a=>trA.k a)).i) y g;replace H:=(H.mono 3 (B:=trA Tb pp mb n o (some ({t2 with N:=fup t2.N c none},c::(vals f++Q)))) Z (λh q=>q.opens y g)).l4;refine Zc 3 Z (Aq Z (call142 _) (GU pp mb n o _ c (λd q=>by simp[fup] at q)) H.f3 ?_);rintro _ w _ ⟨t3,⟨a0,b2,a6,a7,b6⟩,rfl,rfl⟩ H;refine Zc 6 Z (Zr Z ?_);exact ⟨_,.inr (.inr ⟨t3,0,⟨⟨v0,b⟩,(m.trans O2.st (R:=Q) (R1:=Q) (λp hp=>hp) (λp hp=>hp) (Aei _) (Aei _)).trans a0 (λp hp=>hp) (λp hp=>by simp[hp]) U U,.inl ⟨Z,delR_none x g U⟩⟩,Z,by rw[a1];rfl⟩),H.perm 4 [0] Z Z⟩
  refine Z2 6 [0,0,0] H Z (FO 66 Z (λh3=>?_) (λh3=>?_))
  ·have a9:h≠0:=by simpa using h3
   refine Z0 6 [0] Z (Af Z (λh4=>?_) (λh4=>?_))
   ·refine Zc 1 Z ?_;obtain ⟨e,h',l,b9,b0⟩:=Wt x g U a9;have O2:=L7 (show TInv n (manyN n+1) t2.N t2.C (c::Q) from (H.says 3 Z (λh a=>trA.k a)).i) y g
    replace H:=(H.mono 3 (B:=trA Tb pp mb n o (some ({t2 with N:=fup t2.N c none},c::(vals f++Q)))) Z (λh q=>q.opens y g)).l4;obtain ⟨a4,a5,rfl⟩:=a2;have b7:=(H.rv 2 (·.rd)).at (j:=0) (u:=I (e.2:Int)) (by rw[l];simp[vL]);replace H:=(H.mono 3 (B:=trA Tb pp mb n o (some ({t2 with N:=fup t2.N c none},c::(e.2::Q)))) Z (λh q=>by rw[l] at q;exact q)).l4;replace H:=H.f2.f1;refine AN (Sep z (blk b3 [.bool (decide (h=0)),v1,.slice a4 ((vL f).length) a5] 201::grow 3 1 (.slice a4 ((vL f).length) a5) ((vL f).length) ((vL f).map I)::R)) 10 Z J (AZ H λw H'=>?_);have H:=H'.l4;refine AT [0,1] [2,0,0] [] (by exact H.pick 4 [0,1] Z) Z J Z (BN 2 Z J J J Z Z Z (Aj Z (z:=1) (j:=0) (r:=0) J Z Z Z (by simp only[Aef];omega) b7 U) (H.pick 4 [0,1] Z) (BN 3 Z J J J Z Z Z (Ax Z Z J (λ_ b5=>(b5.rv 1 (·.rd)).at (j:=0) (u:=I (e.2:Int)) (by rw[l];simp[vL]))) (H.pick 4 [0,1] Z) (AT [4,5] [] [] (by exact H.pick 4 [0,1] Z) Z J Z (AC [6] J O (Am (Bo Z Z Z Z Z Z (λw=>call142 _ w) (GU pp mb n o _ c (λd q=>by simp[fup] at q)) H.f3 Z ?_))))));rintro _ w _ ⟨t3,⟨a0,b2,a6,a7,b6⟩,rfl,rfl⟩ H;replace H:=H.l4;refine Av (H.pick 4 [1,2] Z) (AT [7,8,9] [] [] (by exact H.pick 4 [1,2] Z) Z J Z (a_done J (gn (Zc 2 Z (Zr Z ?_)))));have a3:manyN n+1<=e.2:=by have K3:=H.says 0 Z (λh a=>trA.k a);exact (K3.i.rin e.2 (by simp[CU])).1
    exact ⟨_,.inr (.inr ⟨t3,e.2,⟨⟨v0,b⟩,(m.trans O2.st (R:=Q) (R1:=Q) (λp hp=>hp) (λp hp=>hp) (Aei _) (Aei _)).trans a0 (λp hp=>hp) (λp hp=>by simp[hp]) U U,root_of (a0.fr e.2 O _ _ _ _ _ (O2.fv e.2 (by rw[l];simp[vals]) _ _ _ _ _ b0)) (by unfold rootM;split<;>omega) U⟩,Z,by rw[DQ (show e.2≠0 by omega)];rfl⟩),H.perm 4 [0] Z Z⟩
   refine Zc 12 Z (Zr Z ?_);have a3:manyN n+1<=c:=by have K3:=H.says 3 Z (λh a=>trA.k a);exact (K3.i.rin c (by simp[CU])).1
   exact ⟨_,.inr (.inr ⟨t2,c,⟨⟨v0,b⟩,m.sub (λp hp=>hp) U U,root_of x (by unfold rootM;split<;>omega) U⟩,Z,by rw[DQ (show c≠0 by omega)];rfl⟩),H.perm 4 [3] Z Z⟩
  have c0:h=0:=by simpa using h3
  refine Zc 19 Z (Zr Z ?_);have a3:manyN n+1<=c:=by have K3:=H.says 3 Z (λh a=>trA.k a);exact (K3.i.rin c (by simp[CU])).1
  exact ⟨_,.inr (.inr ⟨t2,c,⟨⟨v0,b⟩,m.sub (λp hp=>hp) U U,root_of x (by unfold rootM;split<;>omega) U⟩,Z,by rw[DQ (show c≠0 by omega)];rfl⟩),H.perm 4 [3] Z Z⟩
 have H:=H'.l1;refine Z0 29 [4,3] Z (Zr Z ?_);exact ⟨_,.inl ⟨b1,Z,Z⟩,H.perm 1 [0] Z Z⟩
theorem Ab9(pp mb n:Nat)(o:TB){s:TS×List Nat}(key:Int):Cn prog 84 [Y pp,I 0,I key] [trA Tb pp mb n o (some s)] (λv Γ=>v=.tuple #[I 0,.bool false,I 0]/\Γ=[trA Tb pp mb n o (some s)]):=by
 intro z R w H;refine Ae func84 Z ntmps84 Z (Zc 11 Z (z_E_ Z (call137 _) (Lf pp mb n o) H ?_));intro w H;refine Z0 17 [4] Z (z_E_ Z (call81 _) (QP _ _) H ?_);intro w H;refine Z0 29 [4,3] Z (Zr Z ?_);exact ⟨_,⟨Z,Z⟩,H⟩
end
section
variable{Tb:Ai}
def pkI(c:Int)(N:Nat):Nat:=((if c<0 then -(c+1) else c).tmod N).toNat
theorem OU(c:Int)(h:0<n):pkI c n<n:=by
 unfold pkI;have a:(0:Int)<=if c<0 then -(c+1) else c:=by split<;>omega
 have b:=Ahh (if c<0 then -(c+1) else c) (by omega:(0:Int)<(n:Int));have d:=AhE (n:Int) a;omega
theorem Aca(h:16<=n/\n<=1024):(CA (n:Int) 1030 128 2).Ok ((1200:Nat):Int):=
 Sup.ok_mk (by show 0<=(2:Int)/\(2:Int)<=1099511627776;omega) (by show 0<=(1:Int)/\(1:Int)<=1099511627776;omega) (by show 16<=(n:Int)/\(n:Int)<=1024;omega) (by show 2+(n:Int)<=1030/\(1030:Int)<=1099511627776;omega) (by show 64<=(128:Int)/\(128:Int)<=1099511627776;omega) (by show 0<=(0:Int)/\(0:Int)<128;omega) (by show 0<=(1:Int)/\(1:Int)<=1099511627776;omega) (by show (1030:Int)<=((1200:Nat):Int)-128/\(128:Int)<=((1200:Nat):Int);omega)
theorem TX(a:B.length=256){M:Nat->Pg}(b:M=Ej (λ_=>noPg) (some (gF n (B.take 240) (manyN n),1+manyN n))):M 0=⟨1,B.take 240⟩/\∀i,i<manyN n->M (1+i)=DB (C1 (manyN n+1)) n i:=by
 subst b;refine ⟨Z,λi hi=>?_⟩;simp only[Ej,gF];rw[if_neg U,if_pos U,show 1+i-1=i by omega];rfl
def FI(n:Nat):TB:=⟨λ_=>none,C1 (manyN n+1),[]⟩
theorem I4(p:Nat):∀n,FC (λ_=>none) p n=0
 | 0=>rfl
 | n+1=>by simp only[FC,I4 p n];rfl
theorem ZP(n:Nat){M:Nat->Pg}:Rel n M (FI n).N (FI n).C (FI n).R:=
 ⟨λp c h=>(by cases h),⟨λp a b=>(by show C1 (manyN n+1) p=_;unfold C1;rw[if_neg U];simp[FI,I4]),λp h=>(by cases h),λq c h=>(by cases h),λq d h=>(by cases h),λq d h=>(by cases h)⟩⟩
end
section
def cutZ(z:Nat)(ao:Option Addr)(c p:Nat):Option Addr:=if c=p then ao else ao.map (·.add (p*z))
theorem rdH.cutZ{z:Nat}{f:Option Addr}{n c p m:Nat}{xs:List Value}{h:Hp}(r:rdH z (.slice f n c) n xs h)(x:0<z)(g:p+m<=n)(v:n<=c):rdH z (.slice (YtemljpjnhjnncaaGreatDoor.cutZ z f c p) m (c-p)) m ((xs.drop (p*z)).take (m*z)) h:=by
 obtain ⟨s,c',e,q1,w,y,t⟩:=r;cases e;have l:p*z+m*z<=n*z:=by rw[<-AhF];exact AfG _ g
 refine ⟨_,_,Z,by omega,by omega,by simp;omega,λj u d=>?_⟩;have a:j<m*z:=by
  have:=(Aeb.1 d).1;simp at this;omega
 obtain ⟨b,o,rfl,q⟩:=t (p*z+j) u (by
  rw[AeX,if_pos a,Afl] at d;exact d)
 have i:0<m:=Nat.pos_of_ne_zero λe=>by subst e;omega
 refine ⟨b,o+p*z,?_,by rw[Agc];exact q⟩;unfold YtemljpjnhjnncaaGreatDoor.cutZ;rw[if_neg U];simp only[AeR];unfold Addr.add;split
 ·rename_i k;simp[k]
 rfl
theorem rdH.slcapZ{z:Nat}{b:Option Addr}{n c:Nat}{xs:List Value}(r:rdH z (.slice b n c) n xs h):n<=c/\c<=9223372036854775807/\xs.length=n*z:=by
 obtain ⟨a,c',e,g,f,d,i⟩:=r;cases e;exact ⟨g,f,d⟩
section
variable{P:Program}{C:World->Prop}{o:Oper}{n:Nat}{ds:List Deferred}{L:List (Nat×Value)}{x y:Operand}
theorem FV{z:Nat}{lo hi:Option Operand}{e:Option Addr}{p q l' c':Nat}(g:o.op=.slice T x lo hi none)(h:Dn P T=some z)
  (l:ev L x=some (.slice e m j))(c:(lo=none/\p=0)\/∃y k i,lo=some y/\ev L y=some (.int k i)/\i=(p:Int))(d:(hi=none/\q=m)\/∃y k i,hi=some y/\ev L y=some (.int k i)/\i=(q:Int))(a:p<=q)(b:q<=j)
  (f:q-p=l')(r:j-p=c'):Au P C n ds L o (.slice (cutZ z e j p) l' c'):=by
 subst f r;exact Jd g h l c d a b
end
def EL(L:List E):List Value:=L.flatMap λe=>[.int .i64 e.1,.int .i64 (e.2:Int)]
theorem ZQ(A B:List E):EL (A++B)=EL A++EL B:=by simp[EL]
def getE(k:Int):List E->Nat
 | []=>0
 | e::t=>if e.1=k then e.2 else getE k t
theorem Ww{L:List E}(hs:Srt L)(key:Int)(val:Nat):putE key val (BW key L)=putE key val L:=by
 rcases key_split hs key with ⟨X,v,Y_,rfl,a⟩|⟨f,X,Y_,rfl,a,c⟩
 ·rw[LW hs,Ec a]
  have d:∀e∈Y_,key<e.1:=λe b=>(Srt.cons.1 (Srt.app.1 hs).2.1).1 e b;exact putE_new a d
 rw[Gw (λe b=>by
  rcases Aep.1 b with q|q
  ·have:=a e q;omega
  have:=c e q;omega)]
theorem Acb{L:List E}(hs:Srt L)(key:Int)(val:Nat)(f:∀(j:Nat) (e:E),j<i->(BW key L)[j]?=some e->e.1<key)(h:∀e,(BW key L)[i]?=some e->key<=e.1):
  putE key val L=(BW key L).take i++(key,val)::(BW key L).drop i:=by
 have c:Srt (BW key L):=List.Pairwise.sublist List.filter_sublist hs;have g:∀e∈BW key L,e.1≠key:=λe a=>by simpa [BW] using (Afb.1 a).2
 rw[<-Ww hs];refine (congrArg (putE key val) (AeL i _).symm).trans (putE_new (λe a=>?_) (λe a=>?_))
 ·obtain ⟨j,b⟩:=Ae2 a
  rw[AeX] at b;split at b
  ·exact f j e (by assumption) b
  cases b
 have l:=g e (Afu a);have d:Srt ((BW key L).drop i):=List.Pairwise.sublist (List.drop_sublist _ _) c
 cases hd:(BW key L).drop i with
 | nil=>rw[hd] at a;cases a
 | cons x t=>
  rw[hd] at a d;have k:key<=x.1:=h x (by
   have:((BW key L).drop i)[0]?=some x:=by rw[hd];rfl
   rwa[Afl,Ag4] at this)
  rcases Aen.1 a with rfl|q
  ·omega
  have:=(Srt.cons.1 d).1 e q;omega
end
section
variable{Tb:Ai}
variable{z w:World}{Γ:List Ai}{pp mb n:Nat}{o:TB}{t t':TS}{R:List Nat}{T:TT}
structure LwI(n:Nat)(o:TB)(a:Nat)(L:List E)(Q:List Nat):Prop where
 n:n<=639
 q:Q.length<=100
 root:Root o.N a L
 nd:(vals L).Nodup
 r:o.R=A8 a++Q
theorem Tr.many{N:Hm}{h:Nat}{lo hi:Int}{L:List E}(t:Tr N h r lo hi m L):m*4^h<=L.length:=by
 induction h generalizing r lo hi m L with
 | zero=>obtain ⟨es,g,d,_,_,rfl,_⟩:=t;simpa using d
 | succ h ih=>
  obtain ⟨es,g,d,_,_,i⟩:=t;have f:4^(h+1)=4*4^h:=by rw[Ahz,AhA]
  have key:∀(es:List E) (L:List E),Sq (λc a b L=>Tr N h c a b 4 L) es hi L->es.length*4^(h+1)<=L.length:=by
   intro es
   induction es with
   | nil=>intro L q;simp
   | cons e u ih2=>
    rintro _ ⟨L1,L2,rfl,k,j⟩;have a:=ih k;have b:=ih2 L2 j;rw[Aeg,Aee,AhF,Nat.one_mul,f];rw[f] at b;omega
  exact Agr (AfG _ d) (key es L i)
theorem Tr.low3{f:Nat}{N:Hm}(I_:TInv n f N C R){h:Nat}{lo hi:Int}{L:List E}(t:Tr N h r lo hi m L)(k:(if h=0 then 1 else 2)<=m)(a:(vals L).Nodup)(z:n<=639):h<=3:=by
 rcases Aeq h 4 with q|q
 ·omega
 exfalso;rw[if_neg U] at k;obtain ⟨a1,a2,a3⟩:=R5 t U;have hs:=t.srt.1;rw[<-a1] at hs;have i:=Le hs (λp hp=>(a2 p hp).1);have c:=t.data;have g:(CY N h r++vals L).Nodup:=by
  rw[Ae9];refine ⟨i,a,λx s y u e=>?_⟩;obtain ⟨d,a⟩:=(a2 x s).2;obtain ⟨j,l,rfl⟩:=Aek.1 u;obtain ⟨b,o⟩:=c j l;rw[e,o] at a;cases a
 have v:=OS g (λp hp=>by
  rcases Aep.1 hp with hp|hp
  ·obtain ⟨d,a⟩:=(a2 p hp).2;exact (I_.nin p _ a).2.1
  obtain ⟨j,l,rfl⟩:=Aek.1 hp;obtain ⟨b,o⟩:=c j l;exact (I_.nin _ _ o).2.1)
 have a4:=t.many;have p1:4^4<=4^h:=Aha U q;have p2:4^3<=4^(h-1):=Aha U U;have w:2*4^h<=m*4^h:=AfG _ k;have h3:2*4^(h-1)<=m*4^(h-1):=AfG _ k;rw[if_neg U,AeP] at a3;simp only[Aee,vals,Aef] at v;omega
theorem Root.low3{N:Hm}{C:Nat->Nat}{f a:Nat}{L:List E}(I_:TInv n f N C R)(h:Root N a L)(d:a≠0)(g:(vals L).Nodup)(c:n<=639):∃h,Tr N h a 0 1048576 (rootM h) L/\h<=3:=by
 rcases h with ⟨e,_⟩|⟨_,h,b⟩
 ·exact absurd e d
 exact ⟨h,b,b.low3 I_ (Aei _) g c⟩
theorem Root.srt{N:Hm}{a:Nat}{L:List E}(h:Root N a L):Srt L/\B3 0 1048576 L:=by
 rcases h with ⟨_,rfl⟩|⟨_,h,b⟩
 ·exact ⟨by simp[Srt],by simp[B3]⟩
 exact b.srt
theorem Root.data{N:Hm}{a:Nat}{L:List E}(h:Root N a L):∀e∈L,∃b,N e.2=some (.dt b):=by
 rcases h with ⟨_,rfl⟩|⟨_,h,c⟩
 ·simp
 exact c.data
def Kp(N N':Hm)(Q:List Nat):Prop:=∀c∈Q,∀L,Root N c L->Root N' c L
theorem Kp.of{N a:Hm}{Q:List Nat}(h:∀c∈Q,∀h lo hi m L,Tr N h c lo hi m L->Tr a h c lo hi m L):Kp N a Q:=λc b L q=>by
 rcases q with q|⟨f,d,e⟩
 ·exact .inl q
 exact .inr ⟨f,d,h c b _ _ _ _ _ e⟩
theorem OV{F G:Nat->Bool}(h:∀q,F q=true->G q=true)(a:Nat):∀n,cnt F a n<=cnt G a n
 | 0=>Aei _
 | n+1=>by
  have:=OV h a n;have b:(F (a+n)).toNat<=(G (a+n)).toNat:=by
   cases e:F (a+n) with
   | false=>simp
   | true=>rw[h _ e];simp
  simp only[cnt];omega
theorem TrK.free{n:Nat}{o:TB}{t:TS}{R:List Nat}(K:TrK n o (some (t,R))):cnt t.F 0 1024<=cnt (AV n t.C) 0 1024:=
 OV (λq hq=>by
  obtain ⟨a,b,_⟩:=K.fr q hq;simp only[AV];exact decide_eq_true ⟨a,b⟩) 0 1024
theorem XD(pp mb n:Nat)(o:TB)(t:TS)(Q:List Nat)(a:Nat)(key:Int)(val:Nat)(L:List E)(x:Root t.N a L)(hn:n<=639)(hd:(vals L).Nodup)(g:0<=key/\key<1048576)(j:t.N val=some (.dt S))(m:∀q d,t.N q=some (.nd d)->val∉vals d.es)(hk:t.k<=20)(hb:Q.length<=100):
  Cn prog 83 [Y pp,I (a:Int),I key,I (val:Int)] [trA Tb pp mb n o (some (t,val::(A8 a++Q)))] (λv Γ=>(cnt t.F 0 1024<=10/\∃s:TS×List Nat,v=.tuple #[I 0,I 20]/\Γ=[trA Tb pp mb n o (some s)])\/
   ∃(t2:TS) (r:Nat),(St t t2 Q 11 16/\Root t2.N r (putE key val L)/\cnt t2.F 0 1024<=cnt (AV n t2.C) 0 1024)/\v=.tuple #[I (r:Int),I 0]/\Γ=[trA Tb pp mb n o (some (t2,A8 r++Q))]):=by
 intro z R' w H;have K:=H.says 0 Z (λh a=>trA.k a);by_cases ha:a=0
 ·subst ha
  have hL:L=[]:=by rcases x with ⟨_,e⟩|⟨e,_⟩;exact e;exact absurd Z e
  subst hL;refine Ret.mono (Cn.at (Ab1 pp mb n o t Q key val S g j U) H 1 [0] Z Z) ?_;rintro v y ⟨Γ',(⟨h0,s,rfl,rfl⟩|⟨t2,r,⟨l,b⟩,rfl,rfl⟩),c⟩
  ·exact ⟨_,.inl ⟨by omega,s,Z,Z⟩,c⟩
  have K2:=c.says 0 Z (λh a=>trA.k a);have f:r≠0:=by have:=(K2.i.rin r (by simp[CU])).1;omega
  exact ⟨_,.inr ⟨t2,r,⟨l.sub (λp hp=>hp) U U,.inr ⟨f,0,b⟩,K2.free⟩,Z,by rw[DQ f];rfl⟩,c⟩
 obtain ⟨h,hT,hh⟩:=x.low3 K.i ha hd hn;have H2:=H.mono 0 (B:=trA Tb pp mb n o (some (t,a::val::Q))) Z (λh q=>q.perm (by rw[DQ ha];exact AfX _ _ _));have u:t.k+3*h+3<40:=by omega
 refine Ret.mono (Cn.at (Ab2 pp mb n o t Q h a (rootM h) key val L ⟨hT,g,by omega,by omega,⟨S,j⟩,m,u,by omega⟩) H2 1 [0] Z Z) ?_;rintro v y ⟨Γ',(⟨h0,s,rfl,rfl⟩|⟨t2,r,⟨l,b⟩,rfl,rfl⟩),c⟩
 ·exact ⟨_,.inl ⟨by omega,s,Z,Z⟩,c⟩
 have K2:=c.says 0 Z (λh a=>trA.k a);have f:r≠0:=by have:=(K2.i.rin r (by simp[CU])).1;omega
 refine ⟨_,.inr ⟨t2,r,⟨l.sub (λp hp=>hp) U U,?_,K2.free⟩,Z,by rw[DQ f];rfl⟩,c⟩;rcases b with b|b
 ·exact root_of b (Aei _) f
 exact root_of b (by unfold rootM;rw[if_neg U];omega) f
theorem Adf(pp mb n:Nat)(o:TB)(t:TS)(Q:List Nat)(a:Nat)(key:Int)(L:List E)(d:Root t.N a L)(f:(vals L).Nodup)(u:n<=639)(hk:t.k<=10)(hb:Q.length<=100):
  Cn prog 84 [Y pp,I (a:Int),I key] [trA Tb pp mb n o (some (t,A8 a++Q))] (λv Γ=>(¬CE key L/\v=.tuple #[I (a:Int),.bool false,I 0]/\Γ=[trA Tb pp mb n o (some (t,A8 a++Q))])\/(cnt t.F 0 1024<=12/\∃s:TS×List Nat,v=.tuple #[I 0,.bool false,I 20]/\Γ=[trA Tb pp mb n o (some s)])\/
   ∃(t2:TS) (r:Nat),(CE key L/\St t t2 Q 12 27/\Root t2.N r (BW key L)/\cnt t2.F 0 1024<=cnt (AV n t2.C) 0 1024)/\v=.tuple #[I (r:Int),.bool true,I 0]/\Γ=[trA Tb pp mb n o (some (t2,A8 r++Q))]):=by
 intro z R' w H;have K:=H.says 0 Z (λh a=>trA.k a);by_cases ha:a=0
 ·subst ha
  have l:L=[]:=by rcases d with ⟨_,e⟩|⟨e,_⟩;exact e;exact absurd Z e
  subst l;refine Ret.mono (Cn.at (Ab9 pp mb n o key) H 1 [0] Z Z) ?_;rintro v j ⟨Γ',⟨rfl,rfl⟩,b⟩;exact ⟨_,.inl ⟨λ⟨v,x⟩=>(by cases x),Z,Z⟩,b⟩
 obtain ⟨h,q,y⟩:=d.low3 K.i ha f u;have e:A8 a++Q=a::Q:=by rw[DQ ha];rfl
 rw[e] at H;rw[e];refine Ret.mono (Cn.at (Ab8 pp mb n o t Q h a key L q f U U) H 1 [0] Z Z) ?_;rintro v j ⟨Γ',(⟨c,rfl,rfl⟩|⟨c,s,rfl,rfl⟩|⟨t2,r,⟨c,g,m⟩,rfl,rfl⟩),b⟩
 ·exact ⟨_,.inl ⟨c,Z,Z⟩,b⟩
 ·exact ⟨_,.inr (.inl ⟨by omega,s,Z,Z⟩),b⟩
 exact ⟨_,.inr (.inr ⟨t2,r,⟨c,g.sub (λp hp=>hp) U U,m,(b.says 0 Z (λh a=>trA.k a)).free⟩,Z,Z⟩),b⟩
theorem FW{key:Int}(h:∀e∈X,1<=e.2):(getE key X≠0↔CE key X)/\(∀v,(key,v)∈X->Srt X->getE key X=v):=by
 induction X with
 | nil=>exact ⟨⟨λq=>absurd Z q,λ⟨v,q⟩=>by cases q⟩,λv q=>by cases q⟩
 | cons e t ih=>
  have ih:=ih (λx c=>h x (by simp[c]));have d:=h e O;simp only[getE];split
  ·rename_i a
   refine ⟨⟨λ_=>⟨e.2,?_⟩,λ_=>by omega⟩,λv b hs=>?_⟩
   ·rw[<-a];simp
   rcases Aen.1 b with q|q
   ·rw[<-q]
   have:=(Srt.cons.1 hs).1 _ q;dsimp only at this;omega
  rename_i a;refine ⟨ih.1.trans ⟨λ⟨v,q⟩=>⟨v,by simp[q]⟩,λ⟨v,q⟩=>?_⟩,λv b hs=>?_⟩
  ·rcases Aen.1 q with q|q
   ·subst q;exact absurd Z a
   exact ⟨v,q⟩
  rcases Aen.1 b with q|q
  ·subst q;exact absurd Z a
  exact ih.2 v q (Srt.cons.1 hs).2
theorem Li{L:List E}(hs:Srt L)(g:(vals L).Nodup)(f:m∉vals L):(vals (putE s m L)).Nodup:=by
 rcases key_split hs s with ⟨X,v,Y_,rfl,j⟩|⟨k,_⟩
 ·rw[Ec j]
  rw[BO,B7] at g f ⊢;simp only[Aep,Aen,not_or] at f;rw[Ae9,Afi] at g ⊢;obtain ⟨a,⟨b,c⟩,d⟩:=g;refine ⟨a,⟨f.2.2,c⟩,λx i y h=>?_⟩;rcases Aen.1 h with rfl|h
  ·exact λe=>f.1 (by rw[<-e];exact i)
  exact d x i y (by simp[h])
 rw[(Hc hs m k).1.nodup_iff,Afi];exact ⟨f,g⟩
theorem GV{n:Nat}{N:Hm}(I_:TInv n m N C R)(f:1<=m)(d:∀e∈X,∃b,N e.2=some (.dt b)):∀e∈X,1<=e.2/\e.2<n:=λe a=>by
 obtain ⟨b,c⟩:=d e a;have:=I_.nin _ _ c;omega
theorem JD{n:Nat}{N:Hm}(I_:TInv n m N C R)(d:1<=m)(f:∀e∈X,∃b,N e.2=some (.dt b))(a:(vals X).Nodup):X.length<=n:=by
 have:=OS a (λp hp=>by
  obtain ⟨e,c,rfl⟩:=Aek.1 hp;exact (GV I_ d f e c).2)
 simpa [vals] using this
theorem LwI.done{a:Nat}{L L2:List E}{Q:List Nat}{o2:TB}(h:LwI n o a L Q)(c:Root o2.N r L2)(d:(vals L2).Nodup)(b:o2.R=A8 r++Q):LwI n o2 r L2 Q:=⟨h.n,h.q,c,d,b⟩
end
section
variable{Tb:Ai}
end
section
variable{Tb:Ai}
theorem Adg{P:Nat->Int->Int->List E->Prop}{e:E}{L2:List E}(b:X[i]?=some e)(h:Sq P (X.drop i) t L2):∃Lc L3,L2=Lc++L3/\P e.2 e.1 (nx (X.drop (i+1)) t) Lc/\Sq P (X.drop (i+1)) t L3:=by
 obtain ⟨a,rfl⟩:=Aeb.1 b;rw[AeZ a] at h;exact h
theorem Adh(hi:Int)(h:i+1<X.length):((kL X).map I)[i+1]?=some (I (nx (X.drop (i+1)) hi)):=by
 rw[AeZ h];simp[kL,nx,Aed h]
end
section
variable{Tb:Ai}
end
section
variable{Tb:Ai}
variable{z w:World}{Γ:List Ai}{pp mb n f:Nat}{o:TB}{T:TT}{N:Hm}{C:Nat->Nat}{R:List Nat}
theorem TY(pp mb n:Nat)(o:TB)(T:TT)(a:Nat)(key:Int)(L:List E)(c:Root (Dk o T) a L):Cn prog 81 [Y pp,I (a:Int),I key] [trA Tb pp mb n o T] (λv Γ=>v=.tuple #[I (getE key L:Int),I 0]/\Γ=[trA Tb pp mb n o T]):=by
 intro z R' w H;have K:=H.says 0 Z (λh a=>trA.k a);have hp:∀e∈L,1<=e.2:=λe m=>(GV K.i U c.data e m).1;have g:=FW (key:=key) hp;have f:¬CE key L->getE key L=0:=λq=>Afd λr=>q (g.1.1 r);by_cases ha:a=0
 ·subst ha
  have j:L=[]:=by rcases c with ⟨_,e⟩|⟨e,_⟩;exact e;exact absurd Z e
  subst j;refine Ret.mono (Cn.at (QP pp key) H 0 [] Z Z) ?_;rintro v l ⟨Γ',⟨rfl,rfl⟩,b⟩;exact ⟨_,⟨Z,Z⟩,b⟩
 rcases c with ⟨e,_⟩|⟨_,h,t⟩
 ·exact absurd e ha
 refine Ret.mono (Cn.at (QO pp mb n o T key L h a t) H 1 [0] Z Z) ?_;rintro v l ⟨Γ',⟨(⟨v0,d,rfl⟩|⟨d,rfl⟩),rfl⟩,b⟩
 ·exact ⟨_,⟨by rw[g.2 v0 d t.srt.1],Z⟩,b⟩
 exact ⟨_,⟨by rw[f d];rfl,Z⟩,b⟩
theorem Sep.trTab(H:Sep z (trA Tb pp mb n o none::Γ) w):Hl Tb/\Sep z (Tb::Γ) w:=by
 obtain ⟨M0,_,H⟩:=H.tr0;obtain ⟨X,a,H⟩:=H.po;refine ⟨a.tab.2▸a.tab.1,?_⟩;have h:=H.pick 7 [6] Z;rw[<-a.tab.2];exact h
end
section
variable{Tb:Ai}
end
section
variable{Tb:Ai}
abbrev Bk:=Int×List UInt8
def TZ:Option Pc->List UInt8
 | some (.dt b)=>b
 | _=>[]
def AW(N:Hm)(L:List E):List Bk:=L.map λe=>(e.1,(TZ (N e.2)).take 64)
def Lj:List UInt8:=List.replicate 64 0
def BT(k:Int):List Bk->List UInt8
 | []=>Lj
 | b::t=>if b.1=k then b.2 else BT k t
def GW(k:Int)(V:List Bk):Prop:=∃b∈V,b.1=k
instance(k:Int)(V:List Bk):Decidable (GW k V):=inferInstanceAs (Decidable (∃b∈V,b.1=k))
def By(k:Int)(V:List Bk):List Bk:=V.filter λb=>decide (b.1≠k)
def BY(V:List Bk):List Value:=V.flatMap λb=>[.int .i64 b.1,Ck b.2]
theorem Me(A B:List Bk):BY (A++B)=BY A++BY B:=by simp[BY]
theorem CN:∀{V:List Bk} {j:Nat} {e:Bk},V[j]?=some e->(BY V)[j*2]?=some (I e.1)/\(BY V)[j*2+1]?=some (Ck e.2)
 | x::L,0,e,h=>by simp at h;subst h;exact ⟨Z,Z⟩
 | x::L,j+1,e,h=>by
  have:=CN (V:=L) (j:=j) (by simpa using h);have e1:BY (x::L)=I x.1::Ck x.2::BY L:=rfl;rw[e1,show (j+1)*2=j*2+1+1 by omega];simp only[Aey];exact this
theorem OW:∀(L:List Bk) (p:Nat),(BY L).drop (p*2)=BY (L.drop p)
 | L,0=>by simp
 | [],p+1=>by simp[BY]
 | x::L,p+1=>by
  have e1:BY (x::L)=I x.1::Ck x.2::BY L:=rfl;rw[e1,show (p+1)*2=p*2+1+1 by omega,Ae3,Ae3,Ae3];exact OW L p
theorem OX:∀(L:List Bk) (p:Nat),(BY L).take (p*2)=BY (L.take p)
 | L,0=>by simp[BY]
 | [],p+1=>by simp[BY]
 | x::L,p+1=>by
  have e1:BY (x::L)=I x.1::Ck x.2::BY L:=rfl;rw[e1,show (p+1)*2=p*2+1+1 by omega,Ae5,Ae5,Ae5,OX L p];rfl
theorem Gx{L:List Bk}:∀c∈BY L,c.oneCell'=true:=λc a=>by
 simp only[BY,Agg] at a;obtain ⟨e,_,b⟩:=a;simp at b;rcases b with rfl|rfl<;>rfl
theorem rdH.cutB{a:Option Addr}{c p:Nat}{L:List Bk}(r:rdH 2 (.slice a n c) n (BY L) h)(b:p+m<=n)(d:n<=c):rdH 2 (.slice (YtemljpjnhjnncaaGreatDoor.cutZ 2 a c p) m (c-p)) m (BY ((L.drop p).take m)) h:=by
 have:=r.cutZ U b d;rw[OW,OX] at this;exact this
theorem MR{L:List Bk}{e:Bk}{k:Int}(h:L[i]?=some e):BT k (L.drop i)=if e.1=k then e.2 else BT k (L.drop (i+1)):=by
 obtain ⟨hi,rfl⟩:=Aeb.1 h;rw[AeZ hi];rfl
theorem MS{L:List Bk}{e:Bk}{k:Int}(h:L[i]?=some e):GW k (L.drop i)↔e.1=k\/GW k (L.drop (i+1)):=by
 obtain ⟨hi,rfl⟩:=Aeb.1 h;rw[AeZ hi];simp only[GW,Aen,exists_eq_or_imp]
theorem MT{L:List Bk}{e:Bk}(k:Int)(h:L[i]?=some e):By k (L.take (i+1))=if e.1=k then By k (L.take i) else By k (L.take i)++[e]:=by
 have b:L.take (i+1)=L.take i++[e]:=by rw[AeN,h];rfl
 rw[b];unfold By;rw[AfN];split
 ·rename_i a;simp[a]
 rename_i a;simp[a]
theorem JE(k:Int)(V:List Bk):(By k V).length<=V.length:=AfT _ _
def PutAt(k:Int)(d:List UInt8)(V V2:List Bk):Prop:=∃i,(∀(j:Nat) (e:Bk),j<i->(By k V)[j]?=some e->e.1<k)/\(∀e,(By k V)[i]?=some e->k<=e.1)/\V2=(By k V).take i++(k,d)::(By k V).drop i

variable{N N2:Hm}{L:List E}{k:Int}
@[simp] theorem Kk:(AW N L).length=L.length:=by simp[AW]
theorem volB_del:By k (AW N L)=AW N (BW k L):=by
 simp only[By,AW,BW,Agj];rfl
theorem I5(h:∀e∈L,N2 e.2=N e.2):AW N2 L=AW N L:=AfC λe a=>by rw[h e a]
theorem Wx(hp:∀e∈L,1<=e.2):GW k (AW N L)↔getE k L≠0:=by
 rw[(FW hp).1];constructor
 ·rintro ⟨b,d,rfl⟩
  obtain ⟨e,c,rfl⟩:=Aek.1 d;exact ⟨e.2,c⟩
 rintro ⟨v,a⟩;exact ⟨_,Aek.2 ⟨_,a,Z⟩,Z⟩
theorem Kl:∀{L:List E},(∀e∈L,1<=e.2)->BT k (AW N L)=if getE k L=0 then Lj else (TZ (N (getE k L))).take 64
 | [],_=>rfl
 | e::t,hp=>by
  have ih:=Kl (L:=t) (λx a=>hp x (by simp[a]));have b:=hp e O;simp only[AW,AeJ,BT,getE] at ih ⊢;split
  ·rw[if_neg U]
  exact ih
def Dt(N N2:Hm):Prop:=∀v b b2,N v=some (.dt b)->N2 v=some (.dt b2)->N2 v=N v
theorem Dt.vol(h:Dt N N2){a a2:Nat}(f:Root N a L)(g:Root N2 a2 L):AW N2 L=AW N L:=I5 λe d=>by
 obtain ⟨b,i⟩:=f.data e d;obtain ⟨j,c⟩:=g.data e d;exact h _ _ _ i c
theorem MU{o:TB}(K:TrK n o none){c:Pc}(h:o.N m=some c):AV n o.C m=false:=by
 have a:1<=o.C m:=(K.i.nin m c h).2.2;simp only[AV];exact decide_eq_false U
theorem St.dtd{o:TB}(K:TrK n o none){t2:TS}(x:St ⟨o.N,o.C,AV n o.C,0⟩ t2 R m i):Dt o.N t2.N:=λv b a h c=>by
 have d:o.N v=some (.dt a):=x.ev v a (MU K h) c;rw[c,d]
theorem T0{o:TB}(K:TrK n o none){t2 t3:TS}(d:o.N m=none)(g:t2.N=fup o.N m (some (.dt B)))(l:∀q,t2.F q=true->AV n o.C q=true)(y:St t2 t3 R i j):Dt o.N t3.N:=λv b f h a=>by
 have k:t2.F v=false:=by
  cases e:t2.F v with
  | false=>rfl
  | true=>have:=l v e;rw[MU K h] at this;cases this
 have c:=y.ev v f k a;rw[g,fup_ne _ _ (λe=>by rw[e,d] at h;cases h)] at c;rw[a,c]
theorem QS(k:Int)(v:Nat):∀L:List E,(k,v)∈putE k v L
 | []=>by simp[putE]
 | e::t=>by
  simp only[putE];split
  ·exact Agn _ (QS k v t)
  split<;>simp
theorem delE_put(v:Nat){e:E}:∀{L:List E},e∈BW k L->e∈putE k v L
 | x::t,h=>by
  obtain ⟨h1,a⟩:=Afb.1 h;have a:e.1≠k:=by simpa using a
  simp only[putE];rcases Aen.1 h1 with rfl|h1
  ·split
   ·simp
   simp
  split
  ·exact Agn _ (delE_put v (Afb.2 ⟨h1,by simpa using a⟩))
  split
  ·exact Agn _ h1
  exact Agn _ (Agn _ h1)
theorem ZR{o:TB}(K:TrK n o none){t2 t3:TS}{dk:Nat}{w:List Bk}{ra:Nat}(ha:o.N m=none)(x:t2.N=fup o.N m (some (.dt B)))(p:t2.F m=false)(hF:∀q,t2.F q=true->AV n o.C q=true)(y:St t2 t3 R g dk)(z:Root o.N ra L)(c:Root t3.N r (putE k m L))(hp:PutAt k (B.take 64) (AW o.N L) w):w=AW t3.N (putE k m L):=by
 have hs:=z.srt.1;have u:(k,m)∈putE k m L:=QS k m L;obtain ⟨b,l⟩:=c.data _ u;have l:t3.N m=some (.dt b):=l;have h:=y.ev m b p l;rw[x,BK] at h;cases h;have f:∀e∈BW k L,t3.N e.2=o.N e.2:=λe a=>by
  have hm:e∈putE k m L:=delE_put m a;obtain ⟨b1,s⟩:=z.data e ((Afb.1 a).1);obtain ⟨b3,t⟩:=c.data e hm;exact T0 K ha x hF y _ _ _ s t
 obtain ⟨i,v,d,rfl⟩:=hp;rw[volB_del] at v d;have e1:∀(j:Nat) (e:E),j<i->(BW k L)[j]?=some e->e.1<k:=λj e hj a=>v j (e.1,(TZ (o.N e.2)).take 64) hj (by simp[AW,a]);have e2:∀e:E,(BW k L)[i]?=some e->k<=e.1:=λe a=>d (e.1,(TZ (o.N e.2)).take 64) (by simp[AW,a]);rw[Acb hs k m e1 e2,volB_del,<-I5 (N2:=t3.N) (N:=o.N) (L:=BW k L) f];simp[AW,l,TZ,Afp,AfU]

def InB(A:Ai)(u:Value)(V:List Bk):Prop:=∀h,A h->rdH 2 u V.length (BY V) h
def both(G A:Ai):Ai:=λh=>seps [G,A] h
theorem OY(h:Hp)(own:Nat->Nat)(i:Nat):CJ (h.part own i) h:=λk o e=>(El e).2
theorem InB.grow{A:Ai}{u:Value}{V:List Bk}:InB (both (grow 90 2 u V.length (BY V)) A) u V:=λh ⟨own,q⟩=>(q 0 _ Z).rd.le (OY h own 0)
theorem InB.old{G:Ai}{V:List Bk}(x:InB A u V):InB (both G A) u V:=λh ⟨own,q⟩=>(x _ (q 1 _ Z)).le (OY h own 1)
def Ink(A A2:Ai):Prop:=∀u V,InB A u V->InB A2 u V
theorem Ink.refl(A:Ai):Ink A A:=λ_ _ q=>q
theorem Ink.both(G A:Ai):Ink A (both G A):=λ_ _ q=>q.old
theorem Ink.trans{B D:Ai}(x:Ink A B)(y:Ink B D):Ink A D:=λu V q=>y u V (x u V q)
theorem OZ(pp mb n:Nat)(o:TB)(t:TS)(R:List Nat)(x:List UInt8)(g:x.length=240)(b:Nat)(hk:t.k<40):
  Cn prog 82 [Y pp,.agg #[I 5,.slice (some ⟨b,0,none⟩) 240 240]] [trA Tb pp mb n o (some (t,R)),blk b (x.map u8) 5] (λv Γ=>(cnt t.F 0 1024=0/\v=.tuple #[I 0,I 20]/\Γ=[trA Tb pp mb n o (some (t,R)),blk b (x.map u8) 5])\/
   ∃(a:Nat) (t2:TS),((t.N a=none/\t2.N=fup t.N a (some (.dt x))/\t2.F a=false/\∀q,t2.F q=true->t.F q=true)/\(∀q d,t2.N q=some (.nd d)->a∉vals d.es)/\(∀h c lo hi m L,Tr t.N h c lo hi m L->Tr t2.N h c lo hi m L)/\t2.k<=t.k+1/\cnt t.F 0 1024=cnt t2.F 0 1024+1)/\v=.tuple #[I (a:Int),I 0]/\Γ=[trA Tb pp mb n o (some (t2,a::R)),blk b (x.map u8) 5]):=by
 intro z R' w H;have K:=H.says 0 Z (λh a=>trA.k a);have I_:TInv n (manyN n+1) t.N t.C R:=K.i;refine Ret.mono (Cn.at (OM pp mb n o t R R ⟨5,x⟩ ⟨⟨by show (1:Int)<=5;omega,by show (5:Int)<=5;omega⟩,g⟩ (λh q=>q.rd U U (by simp[g]) (by simp only[AeP,Aeu];exact Aej (by rw[Aef,g];omega))) hk (some (.dt x)) (λq hq=>by cases hq;rfl) (λa f j u=>(I_.freshD u ⟨f,j⟩).2.1)) H 2 [0,1] Z Z) ?_;rintro v w' ⟨Γ',(⟨h0,rfl,rfl⟩|⟨a,F,k,⟨f,j,u,h4,h5,h6,y⟩,rfl,rfl⟩),s⟩
 ·exact ⟨_,.inl ⟨h0,Z,Z⟩,s⟩
 obtain ⟨l,f2,r⟩:=I_.freshD (b:=x) j ⟨f.1,f.2⟩;refine ⟨_,.inr ⟨a,⟨_,_,F,k⟩,⟨⟨l,Z,h5,h4⟩,λq d hq=>?_,λh c lo hi m L q=>q.fup r (λe=>?_),h6,y⟩,Z,Z⟩,s⟩
 ·have hq:fup t.N a (some (.dt x)) q=some (.nd d):=hq
  by_cases e:q=a
  ·subst e;rw[BK] at hq;cases hq
  rw[fup_ne _ _ e] at hq;exact r q d hq
 subst e;obtain ⟨d,p⟩:=q.node;rw[l] at p;cases p
end
section
variable{Tb:Ai}
theorem Acc{x:UInt8}(h:i<B.length):(B.map u8).take i++[u8 x]++(B.map u8).drop (i+[u8 x].length)=(B.set i x).map u8:=by
 rw[Afa,if_pos h];simp
theorem O0{k:Int}{V:List Bk}(c:InB A u V):Cn prog 14 [.agg #[I t,I s,I q,u],I k] [A] (λv Γ=>v=Ck (BT k V)/\Γ=[A]):=by
 intro z R w H;obtain ⟨ao,m,rfl⟩:=H.sy 0 (λq=>(c _ q).slc);have n:=H.sy 0 (λq=>(c _ q).slcapZ);refine Ae func14 Z ntmps14 Z (Za 2 [] H Z ?_);intro h w H;refine Zc 10 Z ?_;refine AB (σ:=Nat) (λi=>[(5,I (i:Int)),(1,I k),(2,Y h)])
   (λi w=>Sep z (blk h [I t,I s,I q,.slice ao V.length m] 40::A::R) w/\(i<=V.length/\BT k V=BT k (V.drop i))) (λi=>V.length-i) 0
   fr_z ⟨H,⟨AeO _,Z⟩⟩ ?_
 clear H;rintro i w ⟨H',p⟩;have H:=H'.l2;obtain ⟨hi,g⟩:=p;refine Z2 10 [3,0,0,0] H Z (Af Z (λo=>?_) (λo=>?_))
 ·refine Zc 5 Z ?_;obtain ⟨e,d⟩:∃e,V[i]?=some e:=⟨_,Aed U⟩;have a:=(H.rv 1 (c _)).at (CN d).1
  have b:=(H.rv 1 (c _)).at (CN d).2;refine Z2 4 [3,0,0] H Z (Ab Z (Aj Z (z:=2) (j:=i) (r:=i*2) J Z Z Z U a U) (Ab Z (Bm Z (k:=0) (r:=i*2) J Z a Z) (Ab Z (Ax Z Z J (Ay a)) (Z0 4 [0] Z (Af Z (λx=>?_) (λx=>?_))))))
  ·refine Z2 5 [3,0,0] H Z (Ab Z (Aj Z (z:=2) (j:=i) (r:=i*2) J Z Z Z U a U) (Ab Z (Bm Z (k:=1) (r:=i*2+1) J Z a Z) (Ab Z (Ax Z Z J (Ay b)) (Zc 4 Z (Zr Z ?_)))));have f:BT k V=e.2:=by rw[g,MR d,if_pos U]
   exact ⟨_,⟨by rw[f],Z⟩,H.pick 2 [1] Z⟩
  refine Z1 8 [] [(i:Int)+1] Z U (gf ?_);intro _ y;refine ⟨(i+1),y.cz,⟨H,?_⟩,?_⟩
  ·exact ⟨by omega,by rw[g,MR d,if_neg U]⟩
  omega
 refine Zc 2 Z (gx (Zc 4 Z (AR Z (Em (k:=64) H Z J CK Z Z Z U) ?_)));rintro _ w ⟨b2,rfl,H⟩;refine Ab Z (Cg (l:=Lj) Z J J Z (Ay (H.rv 0 (·.rd U U O (by rfl))))) (Zc 4 Z (Zr Z ?_));have f:BT k V=Lj:=by rw[g,AeK U];rfl
 exact ⟨_,⟨by rw[f],Z⟩,H.pick 3 [2] Z⟩
theorem Acd{k:Int}{V:List Bk}(A:Ai)(b:InB A u V):Cn prog 68 [.agg #[I t,I s,I q,u],I k] [A] (λv Γ=>v=.bool (decide (GW k V))/\Γ=[A]):=by
 intro z R w H;obtain ⟨ao,m,rfl⟩:=H.sy 0 (λq=>(b _ q).slc);have n:=H.sy 0 (λq=>(b _ q).slcapZ);refine Ae func68 Z ntmps68 Z (Za 2 [] H Z ?_);intro l w H;refine Zc 10 Z ?_;refine AB (σ:=Nat) (λi=>[(5,I (i:Int)),(1,I k),(2,Y l)])
   (λi w=>Sep z (blk l [I t,I s,I q,.slice ao V.length m] 40::A::R) w/\(i<=V.length/\(GW k V↔GW k (V.drop i)))) (λi=>V.length-i) 0
   fr_z ⟨H,⟨AeO _,Ahu⟩⟩ ?_
 clear H;rintro i w ⟨H',p⟩;have H:=H'.l2;obtain ⟨hi,f⟩:=p;refine Z2 10 [3,0,0,0] H Z (Af Z (λo=>?_) (λo=>?_))
 ·refine Zc 5 Z ?_;obtain ⟨e,c⟩:∃e,V[i]?=some e:=⟨_,Aed U⟩;have a:=(H.rv 1 (b _)).at (CN c).1
  refine Z2 4 [3,0,0] H Z (Ab Z (Aj Z (z:=2) (j:=i) (r:=i*2) J Z Z Z U a U) (Ab Z (Bm Z (k:=0) (r:=i*2) J Z a Z) (Ab Z (Ax Z Z J (Ay a)) (Z0 4 [0] Z (Af Z (λx=>?_) (λx=>?_))))))
  ·refine Zc 6 Z (Zr Z ?_);have d:decide (GW k V)=true:=decide_eq_true (f.2 (by rw[MS c];exact .inl U))
   exact ⟨_,⟨by rw[d],Z⟩,H.pick 2 [1] Z⟩
  refine Z1 8 [] [(i:Int)+1] Z U (gf ?_);intro _ y;refine ⟨(i+1),y.cz,⟨H,?_⟩,?_⟩
  ·exact ⟨by omega,f.trans ((MS c).trans ⟨λq=>q.resolve_left U,.inr⟩)⟩
  omega
 refine Zc 2 Z (gx (Zc 8 Z (Zr Z ?_)));have d:decide (GW k V)=false:=decide_eq_false (λq=>by have:=f.1 q;rw[AeK U] at this;obtain ⟨_,h,_⟩:=this;cases h);exact ⟨_,⟨by rw[d],Z⟩,H.pick 2 [1] Z⟩
theorem QT(k:Int){V:List Bk}(A:Ai)(g:InB A u V)(hV:V.length<=1048576):Cn prog 119 [.agg #[I t,I s,I q,u],I k] [A] (λv Γ=>∃u2:Value,v=.agg #[I t,I s,I q,u2]/\Γ=[grow 90 2 u2 (By k V).length (BY (By k V)),A]):=by
 intro z R w H;replace H:=H.l1;obtain ⟨ao,x,rfl⟩:=H.sy 0 (λq=>(g _ q).slc);have a0:=H.sy 0 (λq=>(g _ q).slcapZ);refine Ae func119 Z ntmps119 Z (Za 2 [] H Z ?_);intro m w H;refine Za 0 [] H Z ?_;intro l w H;refine Zc 9 Z ?_;replace H:=(H.nilg 90 2).l4;refine Zc 5 Z ?_;refine AB (σ:=Nat×Value) (λ⟨i,u2⟩=>[(6,I (i:Int)),(5,u2),(1,I k),(2,Y m),(4,Y l)])
   (λ⟨i,u2⟩ w=>Sep z (grow 90 2 u2 ((By k (V.take i)).length) (BY (By k (V.take i)))::blk l [I 0,I 0,I 0,.slice none 0 0] 40::blk m [I t,I s,I q,.slice ao V.length x] 40::A::R) w/\(i<=V.length)) (λ⟨i,u2⟩=>V.length-i) ⟨0,.slice none 0 0⟩
   (λ_ f=>(f.co Z (by go_num) f.cz)) ⟨H,AeO _⟩ ?_
 clear H;rintro ⟨i,u2⟩ w ⟨b,o⟩;dsimp only at o b ⊢;have H:=b.l4;have c:=H.sy 0 (·.slc);have hi:=o;clear o;refine Z2 10 [3,2,0,0] H Z (Af Z (λh1=>?_) (λh1=>?_))
 ·refine Zc 5 Z ?_;obtain ⟨e,h⟩:∃e,V[i]?=some e:=⟨_,Aed U⟩;have a:=(H.rv 3 (g _)).at (CN h).1
  have y:=(H.rv 3 (g _)).at (CN h).2;have a1:(By k (V.take i)).length<=i:=Agr (JE _ _) (by rw[Aex];omega);refine Z2 4 [3,2,0] H Z (Ab Z (Aj Z (z:=2) (j:=i) (r:=i*2) J Z Z Z U a U) (Ab Z (Bm Z (k:=0) (r:=i*2) J Z a Z) (Ab Z (Ax Z Z J (Ay a)) (Z0 4 [0] Z (Af Z (λh2=>?_) (λh2=>?_))))))
  ·refine Z2 5 [3,2,0] H Z (Ab Z (Aj Z (z:=2) (j:=i) (r:=i*2) J Z Z Z U a U) (Ab Z (Bp Z Z (vs:=[I e.1,Ck e.2]) J O (Ay (λk u hk=>by rcases k with _|_|k<;>simp at hk<;>subst hk<;>assumption))) (AR Z (AP H Z J A4 Z (by decide) (by decide) (out:=[I e.1,Ck e.2]) J) ?_)));rintro _ w ⟨b3,rfl,H⟩;replace H:=H.l5;refine AR Z (A0 1 H Z Z J A4 Z Z (H.rv 0 (·.rd U U O Z)) (by simp[Ck,Value.oneCell']) U) ?_;rintro p w b;have b:Sep z (blk b3 [I e.1,Ck e.2] 90::grow 90 2 p ((By k (V.take i)).length+1) (BY (By k (V.take i))++[I e.1,Ck e.2])::blk l [I 0,I 0,I 0,.slice none 0 0] 40::blk m [I t,I s,I q,.slice ao V.length x] 40::A::R) w:=b
   have n:(BY (By k (V.take i))++[I e.1,Ck e.2]:List Value)=BY (By k (V.take i)++[e]):=by rw[Me];rfl
   rw[n] at b;have H:=b.l5;refine Z1 9 [] [(i:Int)+1] Z U ?_;replace H:=H.d;refine gf ?_;intro _ f;refine ⟨⟨i+1,p⟩,f.cz,⟨(by rw[MT k h,if_neg U,Aee];exact H),?_⟩,?_⟩
   ·show i+1<=V.length;omega
   (dsimp only;omega)
  refine Z1 8 [] [(i:Int)+1] Z U (gf ?_);intro _ f;refine ⟨⟨i+1,u2⟩,f.cz,⟨(by rw[MT k h,if_pos U];exact H),?_⟩,?_⟩
  ·show i+1<=V.length;omega
  (dsimp only;omega)
 refine Zc 2 Z (gx (Z0 6 [3] Z (Az Z Z (Nw 2 H Z Z Z Z c.cells c.one J) ?_)));rintro w H;replace H:=H.l4;refine Z2 5 [2,4] H Z (Az Z Z (Ak 1 H Z Z Z Z (vs:=[I t,I s,I q,u2]) Z (Ad Z (Ad Z (Ad Z (Ad c.one Aw)))) J O (out:=[I t,I s,I q,u2]) Z) ?_);rintro w H;replace H:=H.l4;refine Zc 3 Z (Zl [1,4] H Z ?_);rw[show i=V.length by omega,Ae7] at H;exact ⟨_,⟨u2,Z,Z⟩,H.pick 4 [0,3] Z⟩
theorem T3(k:Int)(V:List Bk)(A:Ai)(hA:InB A u V)(d:List UInt8)(hV:V.length<=1048576):Cn prog 69 [.agg #[I t,I s,I q,u],I k,Ck d] [A] (λv Γ=>∃(u2:Value) (V2:List Bk),PutAt k d V V2/\v=.agg #[I t,I s,I q,u2]/\Γ=[grow 90 2 u2 V2.length (BY V2),A]):=by
 intro z R w H;replace H:=H.l1;obtain ⟨ao,oc,rfl⟩:=H.sy 0 (λq=>(hA _ q).slc);have a2:=H.sy 0 (λq=>(hA _ q).slcapZ);have a3:=JE k V;refine Ae func69 Z ntmps69 Z (Za 2 [] H Z ?_);intro b1 w H;refine Za 0 [] H Z ?_;intro b2 w H;refine Z2 6 [1,4] H Z (Aq Z (call119 _) (QT _ _ hA hV) H.f2 ?_);rintro _ w _ ⟨u2,rfl,rfl⟩ H;replace H:=H.l4;have a0:=H.sy 0 (·.rd.slc);obtain ⟨am,o,rfl⟩:=a0;have a1:=H.sy 0 (·.rd.slcapZ);refine Z4 10 [3] H Z ?_;intro w H;refine AB (σ:=Nat) (λi=>[(7,I (i:Int)),(1,I k),(2,Ck d),(3,Y b1),(6,Y b2)])
   (λi w=>Sep z (grow 90 2 (.slice am ((By k V).length) o) ((By k V).length) (BY (By k V))::A::blk b2 [I 0,I 0,I 0,.slice none 0 0] 40::blk b1 [I t,I s,I q,.slice am ((By k V).length) o] 40::R) w/\(i<=(By k V).length/\∀(j:Nat) (e:Bk),j<i->(By k V)[j]?=some e->e.1<k)) (λi=>(By k V).length-i) 0
   fr_z ⟨H,⟨AeO _,λj e h=>by omega⟩⟩ ?_
 clear H;rintro i w ⟨H',hI⟩;have H:=H'.l4;obtain ⟨hi,c⟩:=hI;refine Z2 9 [3,3,0,0] H Z (Al 17 Z (λh1=>?_) (λh1=>?_))
 ·refine Z2 3 [3,3,0] H Z ?_;obtain ⟨e,y⟩:∃e,(By k V)[i]?=some e:=⟨_,Aed U⟩;have f:=(H.rv 0 (·.rd)).at (CN y).1
  refine Ab Z (Aj Z (z:=2) (j:=i) (r:=i*2) J Z Z Z U f U) (Ab Z (Bm Z (k:=0) (r:=i*2) J Z f Z) (Ab Z (Ax Z Z J (Ay f)) (Z0 5 [0] Z (Af Z (λh2=>?_) (λh2=>?_)))))
  ·refine Z1 9 [] [(i:Int)+1] Z U (gf ?_);intro _ hF;refine ⟨(i+1),hF.cz,⟨H,?_⟩,?_⟩
   ·refine ⟨by omega,λj m hj a=>?_⟩;rcases Aeq j i with q|q
    ·exact c j m q a
    obtain rfl:j=i:=by omega
    rw[y] at a;cases a;omega
   omega
  refine Zc 2 Z (gx (Z2 13 [3,3,0] H Z (Ab Z (FV (z:=2) (p:=0) (q:=i) (l':=i) (c':=o) Z J Z (.inl ⟨Z,Z⟩) (.inr ⟨_,_,_,Z,Z,Z⟩) U U Z Z) ?_)));replace H:=(H.nilg 90 2).l5;refine AR Z (A0 0 H Z Z J A4 Z Z (H.rv 1 (·.rd.cutB U U)) (Gx) U) ?_;rintro v3 w H;replace H:=H.l5;refine Zc 8 Z (Ab Z (Bc Z Z (out:=[I k,Ck d]) J) (AR Z (AP H Z J A4 Z (by decide) (by decide) (out:=[I k,Ck d]) J) ?_));rintro _ w ⟨b4,rfl,H⟩;replace H:=H.l6;refine AR Z (A0 1 H Z Z J A4 Z Z (H.rv 0 (·.rd U U O Z)) (by simp[Ck,Value.oneCell']) U) ?_;rintro v5 w H;replace H:=H.l6;refine Z2 9 [3,5,0] H Z (Ab Z (FV (z:=2) (p:=i) (q:=(By k V).length) (l':=((By k V).length)-i) (c':=o-i) Z J Z (.inr ⟨_,_,_,Z,Z,Z⟩) (.inl ⟨Z,Z⟩) U U Z Z) (AR Z (A0 1 H Z Z J A4 Z Z (H.rv 2 (·.rd.cutB U U)) (Gx) U) ?_));rintro v6 w H;replace H:=H.l6;have n:=H.sy 1 (·.slc);refine Z0 7 [3] Z (Az Z Z (Nw 5 H Z Z Z Z n.cells n.one J) ?_);rintro w H;replace H:=H.l6;refine Z2 5 [5,4] H Z (Az Z Z (Ak 4 H Z Z Z Z (vs:=[I t,I s,I q,v6]) Z (Ad Z (Ad Z (Ad Z (Ad n.one Aw)))) J O (out:=[I t,I s,I q,v6]) Z) ?_);rintro w H;replace H:=H.l6;refine Zc 3 Z (Zl [4,4] H Z ?_);have b:∀m,(By k V)[i]?=some m->k<=m.1:=λm a=>by first|(have:=(Aeb.1 a).1;omega)|(rw[y] at a;cases a;omega)
  rw[show (0+i+1+((By k V).length-i):Nat)=((By k V).take i++(k,d)::(By k V).drop i).length from by simp only[Aee,Aex,Aeg,AeM];omega,show ([]++BY (((By k V).drop 0).take i)++List.take (1*2) (List.drop 0 [I k,Ck d])++BY (((By k V).drop i).take ((By k V).length-i)):List Value)=BY ((By k V).take i++(k,d)::(By k V).drop i) from by rw[Me,Aeu,Aej (l:=(By k V).drop i) (by rw[AeM];omega)];simp[BY]] at H;exact ⟨_,⟨_,_,⟨i,c,b,rfl⟩,rfl,rfl⟩,H.pick 6 [1,3] rfl⟩
 refine Zc 14 Z (gx (Z2 13 [3,3,0] H Z (Ab Z (FV (z:=2) (p:=0) (q:=i) (l':=i) (c':=o) Z J Z (.inl ⟨Z,Z⟩) (.inr ⟨_,_,_,Z,Z,Z⟩) U U Z Z) ?_)));replace H:=(H.nilg 90 2).l5;refine AR Z (A0 0 H Z Z J A4 Z Z (H.rv 1 (·.rd.cutB U U)) (Gx) U) ?_;rintro v7 w H;replace H:=H.l5;refine Zc 8 Z (Ab Z (Bc Z Z (out:=[I k,Ck d]) J) (AR Z (AP H Z J A4 Z (by decide) (by decide) (out:=[I k,Ck d]) J) ?_));rintro _ w ⟨b8,rfl,H⟩;replace H:=H.l6;refine AR Z (A0 1 H Z Z J A4 Z Z (H.rv 0 (·.rd U U O Z)) (by simp[Ck,Value.oneCell']) U) ?_;rintro v9 w H;replace H:=H.l6;refine Z2 9 [3,5,0] H Z (Ab Z (FV (z:=2) (p:=i) (q:=(By k V).length) (l':=((By k V).length)-i) (c':=o-i) Z J Z (.inr ⟨_,_,_,Z,Z,Z⟩) (.inl ⟨Z,Z⟩) U U Z Z) (AR Z (A0 1 H Z Z J A4 Z Z (H.rv 2 (·.rd.cutB U U)) (Gx) U) ?_));rintro x w H;replace H:=H.l6;have g:=H.sy 1 (·.slc);refine Z0 7 [3] Z (Az Z Z (Nw 5 H Z Z Z Z g.cells g.one J) ?_);rintro w H;replace H:=H.l6;refine Z2 5 [5,4] H Z (Az Z Z (Ak 4 H Z Z Z Z (vs:=[I t,I s,I q,x]) Z (Ad Z (Ad Z (Ad Z (Ad g.one Aw)))) J O (out:=[I t,I s,I q,x]) Z) ?_);rintro w H;replace H:=H.l6;refine Zc 3 Z (Zl [4,4] H Z ?_);have b:∀m,(By k V)[i]?=some m->k<=m.1:=λm a=>by first|(have:=(Aeb.1 a).1;omega)|(rw[y] at a;cases a;omega)
 rw[show (0+i+1+((By k V).length-i):Nat)=((By k V).take i++(k,d)::(By k V).drop i).length from by simp only[Aee,Aex,Aeg,AeM];omega,show ([]++BY (((By k V).drop 0).take i)++List.take (1*2) (List.drop 0 [I k,Ck d])++BY (((By k V).drop i).take ((By k V).length-i)):List Value)=BY ((By k V).take i++(k,d)::(By k V).drop i) from by rw[Me,Aeu,Aej (l:=(By k V).drop i) (by rw[AeM];omega)];simp[BY]] at H;exact ⟨_,⟨_,_,⟨i,c,b,rfl⟩,rfl,rfl⟩,H.pick 6 [1,3] rfl⟩
end
def D6(id st sz q r mp:Int):Prop:=(1<=id/\id<=1073741824)/\(st=1\/st=2)/\(1<=sz/\sz<=1048576)/\(0<=q/\q<=1048576)/\(0<=r/\r<=1023)/\0<=mp/\mp<=1024
instance(id st sz q r mp:Int):Decidable (D6 id st sz q r mp):=by unfold D6;exact inferInstance
def CQ(id st sz q r mp blk:Int):Int:=if D6 id st sz q r mp then (if 0<=blk/\blk<=sz-1 then 0 else 34) else 1
theorem Dx:Cn prog 131 [I t,I s,I p] [] (λv Γ=>v=.bool (decide (s<=t/\t<=p))/\Γ=[]):=by
 intro z R w H;refine Ae func131 Z ntmps131 Z (Z0 11 [0] Z (Al 10 Z (λa=>?_) (λa=>?_)))
 ·refine Z0 8 [0] Z (Zr Z ?_);exact ⟨_,⟨congrArg Value.bool (by first|(rw[Aew];simp<;>omega)|(simp<;>omega)),Z⟩,H⟩
 refine Zc 8 Z (Zr Z ?_);exact ⟨_,⟨congrArg Value.bool (by first|(rw[Aew];simp<;>omega)|(simp<;>omega)),Z⟩,H⟩
theorem tmay_c(pp:Nat)(id c sz q r b d:Int):Cn prog 79 [Y pp,.agg #[I id,I c,I sz,I q,I r,I b],I d] [] (λv Γ=>v=I (CQ id c sz q r b d)/\Γ=[]):=by
 intro z R w H;refine Ae func79 Z ntmps79 Z (Za 2 [] H Z ?_);intro t w H;refine Z2 12 [0,0,0] H Z (z_E_ Z (call131 _) (Dx) H ?_);intro w H;refine Ab Z (AF Z Z) (Zc 2 Z (Al 16 Z (λk=>?_) (λk=>?_)))
 ·refine Zc 19 Z (Zr Z ?_);have a:CQ id c sz q r b d=1:=by unfold CQ;rw[if_neg (by unfold D6;omega)]
  exact ⟨_,⟨by rw[a],Z⟩,H.perm 1 [] Z Z⟩
 refine Z2 4 [1,0,0,0] H Z (Al 20 Z (λl=>?_) (λl=>?_))
 ·refine Z2 8 [1,0,0,0] H Z (Af Z (λp=>?_) (λp=>?_))
  ·refine Zc 6 Z (Zr Z ?_);have a:CQ id c sz q r b d=1:=by unfold CQ;rw[if_neg (by unfold D6;omega)]
   exact ⟨_,⟨by rw[a],Z⟩,H.perm 1 [] Z Z⟩
  refine Z2 4 [2,0,0] H Z (z_E_ Z (call131 _) (Dx) H ?_);intro w H;refine Ab Z (AF Z Z) (Zc 1 Z (Al 31 Z (λs=>?_) (λs=>?_)))
  ·refine Zc 15 Z (Zr Z ?_);have a:CQ id c sz q r b d=1:=by unfold CQ;rw[if_neg (by unfold D6;omega)]
   exact ⟨_,⟨by rw[a],Z⟩,H.perm 1 [] Z Z⟩
  refine Z2 2 [3,0,0] H Z (z_E_ Z (call131 _) (Dx) H ?_);intro w H;refine Ab Z (AF Z Z) (Zc 4 Z (Af Z (λm=>?_) (λm=>?_)))
  ·refine Zc 6 Z (Zr Z ?_);have a:CQ id c sz q r b d=1:=by unfold CQ;rw[if_neg (by unfold D6;omega)]
   exact ⟨_,⟨by rw[a],Z⟩,H.perm 1 [] Z Z⟩
  refine Z2 4 [4,0,0] H Z (z_E_ Z (call131 _) (Dx) H ?_);intro w H;refine Ab Z (AF Z Z) (Zc 1 Z (Al 42 Z (λo=>?_) (λo=>?_)))
  ·refine Zc 15 Z (Zr Z ?_);have a:CQ id c sz q r b d=1:=by unfold CQ;rw[if_neg (by unfold D6;omega)]
   exact ⟨_,⟨by rw[a],Z⟩,H.perm 1 [] Z Z⟩
  refine Z2 2 [5,0,0] H Z (z_E_ Z (call131 _) (Dx) H ?_);intro w H;refine Ab Z (AF Z Z) (Zc 4 Z (Af Z (λj=>?_) (λj=>?_)))
  ·refine Zc 6 Z (Zr Z ?_);have a:CQ id c sz q r b d=1:=by unfold CQ;rw[if_neg (by unfold D6;omega)]
   exact ⟨_,⟨by rw[a],Z⟩,H.perm 1 [] Z Z⟩
  refine Z3 6 [2,0,0] [sz-1] H Z U (z_E_ Z (call131 _) (Dx) H ?_);intro w H;refine Ab Z (AF Z Z) (Zc 3 Z (Af Z (λn=>?_) (λn=>?_)))
  ·refine Zc 6 Z (Zr Z ?_);have a:CQ id c sz q r b d=34:=by unfold CQ;rw[if_pos (by unfold D6;omega),if_neg U]
   exact ⟨_,⟨by rw[a],Z⟩,H.perm 1 [] Z Z⟩
  refine Zc 9 Z (Zr Z ?_);have a:CQ id c sz q r b d=0:=by unfold CQ;rw[if_pos (by unfold D6;omega),if_pos U]
  exact ⟨_,⟨by rw[a],Z⟩,H.perm 1 [] Z Z⟩
 refine Z2 13 [2,0,0] H Z (z_E_ Z (call131 _) (Dx) H ?_);intro w H;refine Ab Z (AF Z Z) (Zc 1 Z (Al 31 Z (λi=>?_) (λi=>?_)))
 ·refine Zc 15 Z (Zr Z ?_);have a:CQ id c sz q r b d=1:=by unfold CQ;rw[if_neg (by unfold D6;omega)]
  exact ⟨_,⟨by rw[a],Z⟩,H.perm 1 [] Z Z⟩
 refine Z2 2 [3,0,0] H Z (z_E_ Z (call131 _) (Dx) H ?_);intro w H;refine Ab Z (AF Z Z) (Zc 4 Z (Af Z (λg=>?_) (λg=>?_)))
 ·refine Zc 6 Z (Zr Z ?_);have a:CQ id c sz q r b d=1:=by unfold CQ;rw[if_neg (by unfold D6;omega)]
  exact ⟨_,⟨by rw[a],Z⟩,H.perm 1 [] Z Z⟩
 refine Z2 4 [4,0,0] H Z (z_E_ Z (call131 _) (Dx) H ?_);intro w H;refine Ab Z (AF Z Z) (Zc 1 Z (Al 42 Z (λe=>?_) (λe=>?_)))
 ·refine Zc 15 Z (Zr Z ?_);have a:CQ id c sz q r b d=1:=by unfold CQ;rw[if_neg (by unfold D6;omega)]
  exact ⟨_,⟨by rw[a],Z⟩,H.perm 1 [] Z Z⟩
 refine Z2 2 [5,0,0] H Z (z_E_ Z (call131 _) (Dx) H ?_);intro w H;refine Ab Z (AF Z Z) (Zc 4 Z (Af Z (λh=>?_) (λh=>?_)))
 ·refine Zc 6 Z (Zr Z ?_);have a:CQ id c sz q r b d=1:=by unfold CQ;rw[if_neg (by unfold D6;omega)]
  exact ⟨_,⟨by rw[a],Z⟩,H.perm 1 [] Z Z⟩
 refine Z3 6 [2,0,0] [sz-1] H Z U (z_E_ Z (call131 _) (Dx) H ?_);intro w H;refine Ab Z (AF Z Z) (Zc 3 Z (Af Z (λf=>?_) (λf=>?_)))
 ·refine Zc 6 Z (Zr Z ?_);have a:CQ id c sz q r b d=34:=by unfold CQ;rw[if_pos (by unfold D6;omega),if_neg U]
  exact ⟨_,⟨by rw[a],Z⟩,H.perm 1 [] Z Z⟩
 refine Zc 9 Z (Zr Z ?_);have a:CQ id c sz q r b d=0:=by unfold CQ;rw[if_pos (by unfold D6;omega),if_pos U]
 exact ⟨_,⟨by rw[a],Z⟩,H.perm 1 [] Z Z⟩
section
variable{Tb:Ai}
theorem O3{r a blk:Int}(c:D6 t s p q r a):Cn prog 79 [Y n,.agg #[I t,I s,I p,I q,I r,I a],I blk] [] (λv Γ=>((0<=blk/\blk<p)/\v=I 0/\Γ=[])\/(¬(0<=blk/\blk<p)/\v=I 34/\Γ=[])):=by
 intro z R w H;refine Ret.mono (tmay_c n t s p q r a blk z R w H) ?_;rintro v d ⟨Γ',⟨rfl,rfl⟩,b⟩;unfold CQ;rw[if_pos c];by_cases hb:0<=blk/\blk<p
 ·exact ⟨_,.inl ⟨hb,by rw[if_pos U],Z⟩,b⟩
 exact ⟨_,.inr ⟨hb,by rw[if_neg U],Z⟩,b⟩
set_option maxHeartbeats 2000000 in
theorem ZS (pp mb n:Nat) (o:TB) (T:TT) (id st sz q mp c:Int) (ra:Nat) (L:List E) (hR:Root (Dk o T) ra L) (hv:D6 id st sz q (ra:Int) mp):Cn prog 45 [Y pp,.agg #[I id,I st,I sz,I q,I (ra:Int),I mp],I c] [trA Tb pp mb n o T] (λv Γ=>((0<=c/\c<sz)/\∃b:Nat,(BT c (AW (Dk o T) L)).length=64/\v=.tuple #[.slice (some ⟨b,0,none⟩) 64 64,I 0]/\Γ=[blk b ((BT c (AW (Dk o T) L)).map u8) 5,trA Tb pp mb n o T])\/(¬(0<=c/\c<sz)/\v=.tuple #[.slice none 0 0,I 34]/\Γ=[trA Tb pp mb n o T])):=by
 intro z R w H;have K:=H.says 0 Z (λh a=>trA.k a);have l:∀e∈L,1<=e.2:=λe x=>(GV K.i U (show ∀e∈L,∃b,Dk o T e.2=some (.dt b) from hR.data) e x).1;refine Ae func45 Z ntmps45 Z (Za 2 [] H Z ?_);intro b1 w H;refine Z2 10 [0,6] H Z (Aq Z (call79 _) (O3 hv) H ?_);rintro _ w _ (⟨hb,rfl,rfl⟩|⟨hb,rfl,rfl⟩) p
 ·have H:=p.l2;refine Z2 18 [4,4,0,0] H Z (z_E_ Z (call81 _) (TY pp mb n o T ra c L hR) H.f1 ?_);intro w H;refine Z0 19 [4] Z (AR Z (Em (k:=64) H Z J CK Z Z Z U) ?_);rintro _ w ⟨b2,rfl,H⟩;refine Z0 10 [0] Z (Af Z (λy=>?_) (λy=>?_))
  ·refine Zc 8 Z (Zr Z ?_);have f:BT c (AW (Dk o T) L)=Lj:=by rw[Kl (λe x=>l e x),if_pos U]
   exact ⟨_,.inl ⟨hb,b2,by rw[f];rfl,Z,Z⟩,H.pick 3 [0,1] Z |>.mono 0 rfl (λh q=>by rw[f];exact q)⟩
  refine Zc 3 Z ?_;obtain ⟨vv,t⟩:=(FW l).1.1 (show getE c L≠0 by omega);have a1:=(FW l).2 vv t hR.srt.1;obtain ⟨r,d⟩:=hR.data _ t;have d:Dk o T (getE c L)=some (.dt r):=by rw[a1];exact d
  have a4:=K.i.nin _ _ d;obtain ⟨M0,uu,⟨_,_,_,hm⟩,p,u⟩:=(H.pick 3 [1,0,2] Z).trP;obtain ⟨X,s,p⟩:=p.po;have a2:(⟨5,r⟩:Pg)=Ej X.G.M (TM X.g uu) (getE c L):=by have y:=(hm _ _ d).1;rcases uu with _|T';exact y.symm.trans (s.m0 _ (.inr U));exact y.symm.trans ((s.tx T' Z).m _ (.inr U))
  have j:r.length=240:=(hm _ _ d).2.2;have f:BT c (AW (Dk o T) L)=r.take 64:=by rw[Kl (λe x=>l e x),if_neg U,d];rfl
  clear H;have H:=p.l9;refine Z2 7 [0,0,0,0] H Z (Aq Z (call85 _) (K7 X.ps X.pd X.D X.G (TM X.g uu) (getE c L) (by rw[s.pg];omega) s.fine.clean.f1 ⟨5,r⟩ a2) H.f1 ?_);rintro _ w _ (⟨a0,rfl,rfl⟩|⟨a3,rv,rfl,rfl⟩) p
  ·(exfalso;have h0:noPg.kind=(⟨5,r⟩:Pg).kind:=(by rw[a0]);cases h0)
  have H:=p.l10;obtain ⟨gb,a5,rest,rfl,c1,c2,c3,H⟩:=H.ungrow 0 Z U;refine Za 3 [] H Z ?_;intro b3 w H;refine Z4 30 [0,4,0,0,0,4,1,0,0] H Z ?_;intro w H;refine AR Z (F5 9 H Z Z J Z Z (m:=240) (news:=(r.map u8)) (.inl (H.rv 1 (·.rd U U (by rw[Aee,Aef,j];omega) (by rw[Aeu,AeP,AeF (by rw[Aef,j])])))) (by simp[u8,Value.oneCell']) O (k:=64) (by decide) (out:=((BT c (AW (Dk o T) L)).map u8)) (by rw[f];simp[j,Afp,Aej])) ?_;rintro _ w ⟨rfl,H⟩;refine Zc 10 Z (Zr Z ?_);have H8:=u _ _ ((H.pick 11 [3,2,4,5,6,7,8,9] Z).toPo (X:=X) s Z);exact ⟨_,.inl ⟨hb,b2,by rw[f];simp[j],Z,Z⟩,H8.pick 2 [1,0] Z⟩
 have H:=p.l2;refine Z0 18 [3] Z (Zr Z ?_);exact ⟨_,.inr ⟨hb,Z,Z⟩,H.pick 2 [1] Z⟩
end
section
variable{Tb:Ai}
theorem trA.k0{mb:Nat}{o:TB}{T:TT}(a:trA Tb m mb n o T h):TrK n o none:=by
 have key:∀(M0:Nat->Pg) (u:Option PoT),Rel n M0 o.N o.C o.R->poA Tb m mb n M0 o.C u h->TrK n o none:=λM0 u c a=>by
  have d:=a.hn;refine ⟨d,c.i,a.c0.2,λp hp=>?_⟩;have b:AV n o.C p=true:=hp;simp[AV] at b;refine ⟨b.1,b.2,?_⟩;rcases Aeq (manyN n) p with h|h
  ·exact h
  have:=a.c0.2 p h;omega
 cases T with
 | none=>obtain ⟨M0,c,a⟩:=a;exact key M0 _ c a
 | some s=>obtain ⟨M0,M,⟨c,_⟩,a⟩:=a;exact key M0 _ c a
structure WrF(n:Nat)(o:TB)(t3:TS)(ra r:Nat)(Q:List Nat)(kk:Int)(val:Nat)(bs:List UInt8)(L:List E):Prop where
 root:Root t3.N r (putE kk val L)
 nd:(vals (putE kk val L)).Nodup
 kp:Kp o.N t3.N Q
 dt:Dt o.N t3.N
 vol:∀V2,PutAt kk bs (AW o.N L) V2->V2=AW t3.N (putE kk val L)
 k:t3.k<=17
 f:cnt (AV n o.C) 0 1024<=cnt t3.F 0 1024+12
 g:cnt t3.F 0 1024<=cnt (AV n t3.C) 0 1024
theorem WrF.of{n:Nat}{o:TB}{t2 t3:TS}{l r:Nat}{Q:List Nat}{i:Int}{val:Nat}{bs:List UInt8}{L:List E}(K:TrK n o none)(u:bs.length=64)(s:o.N val=none)(p:t2.N=fup o.N val (some (.dt (bs++List.replicate 176 0))))(j:t2.F val=false)(b:∀q,t2.F q=true->AV n o.C q=true)(d:∀h c lo hi m L,Tr o.N h c lo hi m L->Tr t2.N h c lo hi m L)(y:St t2 t3 Q 11 16)(t:Root o.N l L)(a:Root t3.N r (putE i val L))(e:(vals (putE i val L)).Nodup)(z:t2.k<=0+1)(w:cnt (AV n o.C) 0 1024=cnt t2.F 0 1024+1)(g:cnt t3.F 0 1024<=cnt (AV n t3.C) 0 1024):WrF n o t3 l r Q i val bs L:=by
 have hk:=y.k;have hf:=y.f;refine ⟨a,e,Kp.of λc v h lo hi m L x=>y.fr c v h lo hi m L (d h c lo hi m L x),T0 K s p b y,λV2 hp=>?_,by omega,by omega,g⟩;exact ZR K s p j b y t a (by rw[AeF u];exact hp)
set_option maxHeartbeats 4000000 in
theorem Wy (pp mb n:Nat) (o:TB) (id st sz q mp j:Int) (g:Nat) (L:List E) (Q:List Nat) (D:Ai) (dv:Value) (bs:List UInt8) (p:LwI n o g L Q) (hv:D6 id st sz q (g:Int) mp) (hD:∀h,D h->rdH 1 dv bs.length (bs.map u8) h):Cn prog 42 [Y pp,.agg #[I id,I st,I sz,I q,I (g:Int),I mp],I j,dv] [trA Tb pp mb n o (some ((⟨o.N,o.C,AV n o.C,0⟩:TS),A8 g++Q)),D] (λv Γ=>(¬(0<=j/\j<sz)/\v=.tuple #[.agg #[I 0,I 0,I 0,I 0,I 0,I 0],I 34]/\Γ=[trA Tb pp mb n o (some (⟨o.N,o.C,AV n o.C,0⟩,A8 g++Q)),D])\/((0<=j/\j<sz)/\bs.length≠64/\v=.tuple #[.agg #[I 0,I 0,I 0,I 0,I 0,I 0],I 1]/\Γ=[trA Tb pp mb n o (some (⟨o.N,o.C,AV n o.C,0⟩,A8 g++Q)),D])\/(((0<=j/\j<sz)/\bs.length=64)/\(getE j L=0/\q<=mp)/\v=.tuple #[.agg #[I 0,I 0,I 0,I 0,I 0,I 0],I 30]/\Γ=[trA Tb pp mb n o (some (⟨o.N,o.C,AV n o.C,0⟩,A8 g++Q)),D])\/(((0<=j/\j<sz)/\bs.length=64/\¬(getE j L=0/\q<=mp))/\cnt (AV n o.C) 0 1024<=11/\∃s3,v=.tuple #[.agg #[I 0,I 0,I 0,I 0,I 0,I 0],I 20]/\Γ=[trA Tb pp mb n o (some s3),D])\/(((0<=j/\j<sz)/\bs.length=64/\¬(getE j L=0/\q<=mp))/\∃(t3:TS) (r val:Nat),WrF n o t3 g r Q j val bs L/\v=.tuple #[.agg #[I id,I st,I sz,I q,I (r:Int),I (if getE j L=0 then mp+1 else mp)],I 0]/\Γ=[trA Tb pp mb n o (some (t3,A8 r++Q)),D])):=by
 intro z R w H;obtain ⟨c6,dc,rfl⟩:=H.sy 1 (λq=>(hD _ q).slc);have c5:=H.sy 1 (λq=>(hD _ q).slcap);have K0:=H.says 0 Z (λh a=>trA.k0 a);have K:=H.says 0 Z (λh a=>trA.k a);refine Ae func42 Z ntmps42 Z (Za 2 [] H Z ?_);intro b1 w H;refine Za 0 [] H Z ?_;intro b2 w H;refine Z2 9 [1,6] H Z (Aq Z (call79 _) (O3 hv) H ?_);rintro _ w _ (⟨t,rfl,rfl⟩|⟨t,rfl,rfl⟩) u
 ·have H:=u.l4;refine Z0 17 [4] Z (z_E_ Z (call80 _) (HS pp mb n o) H.f2 ?_);intro w H;refine AD 25 (v:=.bool true) Z Z (Z0 13 [0] Z (Af Z (λh1=>?_) (λh1=>?_)))
  ·refine Zc 2 Z (Ab Z (Bc Z Z (out:=[I 0,I 0,I 0,I 0,I 0,I 0]) J) (Z4 5 [1] H Z ?_));intro w H;refine Zl [1,6] H Z ?_;exact ⟨_,.inr (.inl ⟨t,by omega,Z,Z⟩),H.pick 4 [0,3] Z⟩
  refine Z2 9 [4,2,0] H Z (z_E_ Z (call81 _) (TY pp mb n o (some ((⟨o.N,o.C,AV n o.C,0⟩:TS),A8 g++Q)) g j L p.root) H ?_);intro w H;refine Z0 23 [4,0] Z (Al 47 Z (λh2=>?_) (λh2=>?_))
  ·refine Z2 8 [5,2,0,3,2,0,0] H Z (Af Z (λh3=>?_) (λh3=>?_))
   ·refine Zc 2 Z (Ab Z (Bc Z Z (out:=[I 0,I 0,I 0,I 0,I 0,I 0]) J) (Z4 5 [1] H Z ?_));intro w H;refine Zl [1,6] H Z ?_;exact ⟨_,.inr (.inr (.inl ⟨⟨t,by omega⟩,⟨by omega,by omega⟩,Z,Z⟩)),H.pick 4 [0,3] Z⟩
   refine Zc 3 Z ?_;have s:bs.length=64:=by omega
   refine Zc 1 Z (AR Z (Em (k:=240) H Z J CK Z Z Z U) ?_);rintro _ w ⟨b3,rfl,H⟩;refine Zc 7 Z (AR Z (F5 0 H Z Z J Z Z (m:=bs.length) (news:=(bs.map u8)) (.inl (H.rv 4 (hD _))) (by simp[u8,Value.oneCell']) (by rw[Afj];omega) (k:=64) U (out:=((bs++List.replicate 176 0).map u8)) (by rw[Aej (l:=bs.map u8) (by rw[Aef];omega)];simp[u8])) ?_);rintro _ w ⟨rfl,H⟩;refine Zc 7 Z (Aq Z (call82 _) (OZ pp mb n o (⟨o.N,o.C,AV n o.C,0⟩:TS) (A8 g++Q) (bs++List.replicate 176 0) (by simp[s]) b3 (by show 0<40;omega)) H.f1 ?_);rintro _ w _ (⟨a5,rfl,rfl⟩|⟨val,t2,⟨⟨a0,a1,a7,b0⟩,b5,x,a4,a3⟩,rfl,rfl⟩) u
   ·have H:=u.l5;have c0:cnt (AV n o.C) 0 1024=0:=a5
    have b6:cnt (AV n o.C) 0 1024<=11:=by omega
    refine Z0 17 [3] Z (Ab Z (Bc Z Z (out:=[I 0,I 0,I 0,I 0,I 0,I 0]) J) (Z4 6 [2] H Z ?_));intro w H;refine Zl [2,6] H Z ?_;exact ⟨_,.inr (.inr (.inr (.inl ⟨⟨t,by omega,by omega⟩,by omega,_,Z,Z⟩))),H.pick 5 [0,4] Z⟩
   have H:=u.l5;have b6:cnt (AV n o.C) 0 1024=cnt t2.F 0 1024+1:=a3;have c2:t2.k<=0+1:=a4;refine Z2 25 [4,4,3,0] H Z ?_;have a9:Root t2.N g L:=Kp.of (Q:=[g]) (λc _ h=>x h c) g O L p.root;have c1:sz<=1048576:=by have:=hv;unfold D6 at this;omega
   have y:t2.N val=some (.dt (bs++List.replicate 176 0)):=by rw[a1,BK]
   refine Aq Z (call83 _) (XD pp mb n o t2 Q g j val L a9 p.n p.nd U y b5 U p.q) H ?_;rintro _ w _ (⟨b9,s3,rfl,rfl⟩|⟨t3,r,⟨d,a8,a6⟩,rfl,rfl⟩) u
   ·have H:=u.l5;have b7:cnt (AV n o.C) 0 1024<=11:=by omega
    refine Z4 17 [4,3,3] H Z ?_;intro w H;refine Ab Z (Bc Z Z (out:=[I 0,I 0,I 0,I 0,I 0,I 0]) J) (Z4 6 [2] H Z ?_);intro w H;refine Zl [2,6] H Z ?_;exact ⟨_,.inr (.inr (.inr (.inl ⟨⟨t,by omega,by omega⟩,by omega,_,Z,Z⟩))),H.pick 5 [0,4] Z⟩
   have H:=u.l5;have a2:(vals (putE j val L)).Nodup:=Li p.root.srt.1 p.nd (λq=>by obtain ⟨e,he,rfl⟩:=Aek.1 q;obtain ⟨b,t⟩:=p.root.data e he;rw[show o.N e.2=none from a0] at t;cases t);refine Z4 24 [4,3,4,0] H Z ?_;intro w H;refine Af Z (λh4=>?_) (λh4=>?_)
   ·have c3:=hv
    unfold D6 at c3;refine Z5 16 [5,3,0,5,3,3,6,2] [mp+1] H Z U ?_;intro w H;refine Zl [2,6] H Z ?_;exact ⟨_,.inr (.inr (.inr (.inr ⟨⟨t,by omega,by omega⟩,t3,r,val,WrF.of K0 s a0 a1 a7 b0 x d p.root a8 a2 a4 a3 a6,by rw[if_pos U],Z⟩))),H.pick 5 [0,4] Z⟩
   exact absurd h2 h4
  refine Zc 12 Z ?_;have s:bs.length=64:=by omega
  refine Zc 1 Z (AR Z (Em (k:=240) H Z J CK Z Z Z U) ?_);rintro _ w ⟨b4,rfl,H⟩;refine Zc 7 Z (AR Z (F5 0 H Z Z J Z Z (m:=bs.length) (news:=(bs.map u8)) (.inl (H.rv 4 (hD _))) (by simp[u8,Value.oneCell']) (by rw[Afj];omega) (k:=64) U (out:=((bs++List.replicate 176 0).map u8)) (by rw[Aej (l:=bs.map u8) (by rw[Aef];omega)];simp[u8])) ?_);rintro _ w ⟨rfl,H⟩;refine Zc 7 Z (Aq Z (call82 _) (OZ pp mb n o (⟨o.N,o.C,AV n o.C,0⟩:TS) (A8 g++Q) (bs++List.replicate 176 0) (by simp[s]) b4 (by show 0<40;omega)) H.f1 ?_);rintro _ w _ (⟨a5,rfl,rfl⟩|⟨val,t2,⟨⟨a0,a1,a7,b0⟩,b5,x,a4,a3⟩,rfl,rfl⟩) u
  ·have H:=u.l5;have c0:cnt (AV n o.C) 0 1024=0:=a5
   have b6:cnt (AV n o.C) 0 1024<=11:=by omega
   refine Z0 17 [3] Z (Ab Z (Bc Z Z (out:=[I 0,I 0,I 0,I 0,I 0,I 0]) J) (Z4 6 [2] H Z ?_));intro w H;refine Zl [2,6] H Z ?_;exact ⟨_,.inr (.inr (.inr (.inl ⟨⟨t,by omega,by omega⟩,by omega,_,Z,Z⟩))),H.pick 5 [0,4] Z⟩
  have H:=u.l5;have b6:cnt (AV n o.C) 0 1024=cnt t2.F 0 1024+1:=a3;have c2:t2.k<=0+1:=a4;refine Z2 25 [4,4,3,0] H Z ?_;have a9:Root t2.N g L:=Kp.of (Q:=[g]) (λc _ h=>x h c) g O L p.root;have c1:sz<=1048576:=by have:=hv;unfold D6 at this;omega
  have y:t2.N val=some (.dt (bs++List.replicate 176 0)):=by rw[a1,BK]
  refine Aq Z (call83 _) (XD pp mb n o t2 Q g j val L a9 p.n p.nd U y b5 U p.q) H ?_;rintro _ w _ (⟨b9,s3,rfl,rfl⟩|⟨t3,r,⟨d,a8,a6⟩,rfl,rfl⟩) u
  ·have H:=u.l5;have b7:cnt (AV n o.C) 0 1024<=11:=by omega
   refine Z4 17 [4,3,3] H Z ?_;intro w H;refine Ab Z (Bc Z Z (out:=[I 0,I 0,I 0,I 0,I 0,I 0]) J) (Z4 6 [2] H Z ?_);intro w H;refine Zl [2,6] H Z ?_;exact ⟨_,.inr (.inr (.inr (.inl ⟨⟨t,by omega,by omega⟩,by omega,_,Z,Z⟩))),H.pick 5 [0,4] Z⟩
  have H:=u.l5;have a2:(vals (putE j val L)).Nodup:=Li p.root.srt.1 p.nd (λq=>by obtain ⟨e,he,rfl⟩:=Aek.1 q;obtain ⟨b,t⟩:=p.root.data e he;rw[show o.N e.2=none from a0] at t;cases t);refine Z4 24 [4,3,4,0] H Z ?_;intro w H;refine Af Z (λh5=>?_) (λh5=>?_)
  ·exact absurd h5 h2
  refine Z4 10 [3,6,2] H Z ?_;intro w H;refine Zl [2,6] H Z ?_;exact ⟨_,.inr (.inr (.inr (.inr ⟨⟨t,by omega,by omega⟩,t3,r,val,WrF.of K0 s a0 a1 a7 b0 x d p.root a8 a2 a4 a3 a6,by rw[if_neg U],Z⟩))),H.pick 5 [0,4] Z⟩
 have H:=u.l4;refine Z0 12 [3] Z (Ab Z (Bc Z Z (out:=[I 0,I 0,I 0,I 0,I 0,I 0]) J) (Z4 6 [0] H Z ?_));intro w H;refine Zl [0,6] H Z ?_;exact ⟨_,.inl ⟨t,Z,Z⟩,H.pick 4 [2,3] Z⟩
end
section
variable{Tb:Ai}
structure UnF(n:Nat)(o:TB)(t3:TS)(r:Nat)(Q:List Nat)(kk:Int)(L:List E):Prop where
 root:Root t3.N r (BW kk L)
 nd:(vals (BW kk L)).Nodup
 kp:Kp o.N t3.N Q
 dt:Dt o.N t3.N
 k:t3.k<=0+27
 f:cnt (AV n o.C) 0 1024<=cnt t3.F 0 1024+12
 g:cnt t3.F 0 1024<=cnt (AV n t3.C) 0 1024
set_option maxHeartbeats 4000000 in
theorem Wz (pp mb n:Nat) (o:TB) (id p sz q i b:Int) (e:Nat) (L:List E) (Q:List Nat) (l:LwI n o e L Q) (hv:D6 id p sz q (e:Int) i):Cn prog 44 [Y pp,.agg #[I id,I p,I sz,I q,I (e:Int),I i],I b] [trA Tb pp mb n o (some ((⟨o.N,o.C,AV n o.C,0⟩:TS),A8 e++Q))] (λv Γ=>(¬(0<=b/\b<sz)/\v=.tuple #[.agg #[I 0,I 0,I 0,I 0,I 0,I 0],I 34]/\Γ=[trA Tb pp mb n o (some (⟨o.N,o.C,AV n o.C,0⟩,A8 e++Q))])\/(((0<=b/\b<sz)/\¬CE b L)/\v=.tuple #[.agg #[I id,I p,I sz,I q,I (e:Int),I i],I 0]/\Γ=[trA Tb pp mb n o (some (⟨o.N,o.C,AV n o.C,0⟩,A8 e++Q))])\/(((0<=b/\b<sz)/\cnt (AV n o.C) 0 1024<=12)/\∃s3,v=.tuple #[.agg #[I 0,I 0,I 0,I 0,I 0,I 0],I 20]/\Γ=[trA Tb pp mb n o (some s3)])\/(((0<=b/\b<sz)/\CE b L)/\∃(t3:TS) (r:Nat),UnF n o t3 r Q b L/\v=.tuple #[.agg #[I id,I p,I sz,I q,I (r:Int),I (i-1)],I 0]/\Γ=[trA Tb pp mb n o (some (t3,A8 r++Q))])):=by
 intro z R w H;have K0:=H.says 0 Z (λh a=>trA.k0 a);refine Ae func44 Z ntmps44 Z (Za 2 [] H Z ?_);intro b1 w H;refine Za 0 [] H Z ?_;intro b2 w H;refine Z2 9 [1,6] H Z (Aq Z (call79 _) (O3 hv) H ?_);rintro _ w _ (⟨j,rfl,rfl⟩|⟨j,rfl,rfl⟩) g
 ·have H:=g.l3;refine Z0 16 [4] Z (z_E_ Z (call80 _) (HS pp mb n o) H.f2 ?_);intro w H;refine AD 21 (v:=.bool true) Z Z (Z2 12 [4,2,0] H Z (Aq Z (call84 _) (Adf pp mb n o (⟨o.N,o.C,AV n o.C,0⟩:TS) Q e b L l.root l.nd l.n (by show 0<=10;omega) l.q) H ?_));rintro _ w _ (⟨a2,rfl,rfl⟩|⟨u,s3,rfl,rfl⟩|⟨t3,r,⟨a1,d,t,s⟩,rfl,rfl⟩) g
  ·have H:=g.l3;refine Z4 43 [4,4,2,2,6,1] H Z ?_;intro w H;refine Zl [1,6] H Z ?_;exact ⟨_,.inr (.inl ⟨⟨j,a2⟩,Z,Z⟩),H.pick 3 [0] Z⟩
  ·have H:=g.l3;have y:cnt (AV n o.C) 0 1024<=12:=u
   refine Z0 19 [3] Z (Ab Z (Bc Z Z (out:=[I 0,I 0,I 0,I 0,I 0,I 0]) J) (Z4 6 [1] H Z ?_));intro w H;refine Zl [1,6] H Z ?_;exact ⟨_,.inr (.inr (.inl ⟨⟨j,y⟩,_,Z,Z⟩)),H.pick 3 [0] Z⟩
  have H:=g.l3;refine Z4 33 [4,4,2] H Z ?_;intro w H;have a0:=hv;unfold D6 at a0;refine Z5 16 [5,2,0,5,2,2,6,1] [i-1] H Z U ?_;intro w H;refine Zl [1,6] H Z ?_;exact ⟨_,.inr (.inr (.inr ⟨⟨j,a1⟩,t3,r,⟨t,Lh l.nd,Kp.of λc hc h lo hi m L x=>d.fr c hc h lo hi m L x,d.dtd K0,d.k,d.f,s⟩,Z,Z⟩)),H.pick 3 [0] Z⟩
 have H:=g.l3;refine Z0 12 [3] Z (Ab Z (Bc Z Z (out:=[I 0,I 0,I 0,I 0,I 0,I 0]) J) (Z4 6 [0] H Z ?_));intro w H;refine Zl [0,6] H Z ?_;exact ⟨_,.inl ⟨j,Z,Z⟩,H.pick 3 [2] Z⟩
end
section
variable{Tb:Ai}
section
variable{P:Program}{C:World->Prop}{o:Oper}{n:Nat}{ds:List Deferred}{L:List (Nat×Value)}{x y:Operand}{xt yt:TypeId}
end
theorem PH{L:List E}(hs:Srt L)(hp:∀e∈L,1<=e.2)(k:Int)(v:Nat):((putE k v L).length:Int)=if getE k L=0 then (L.length:Int)+1 else L.length:=by
 rcases key_split hs k with ⟨X,v0,Y_,rfl,a⟩|⟨c,X,Y_,rfl,a,b⟩
 ·rw[if_neg ((FW hp).1.2 ⟨v0,by simp⟩),Ec a];simp
 rw[if_pos (Afd λq=>c ((FW hp).1.1 q)),putE_new a b];simp<;>omega
theorem PI{L:List E}(hs:Srt L)(h:CE t L):(L.length:Int)-1=((BW t L).length:Int):=by
 rcases key_split hs t with ⟨X,v0,Y_,rfl,b⟩|⟨a,_⟩
 ·rw[LW hs];simp<;>omega
 exact absurd h a
theorem UnF.vol{n:Nat}{o:TB}{t3:TS}{Q:List Nat}{L:List E}(h:UnF n o t3 r Q t L)(d:Root o.N m L):AW t3.N (BW t L)=By t (AW o.N L):=by
 rw[volB_del];refine I5 λe c=>?_;obtain ⟨b,f⟩:=d.data e (Afb.1 c).1;obtain ⟨g,a⟩:=h.root.data e c;exact h.dt _ _ _ f a
end
section
structure Vl where
 id:Int
 st:Int
 sz:Int
 q:Int
 r:Int
 mp:Int
deriving DecidableEq
def Vl.cells(v:Vl):List Value:=[.int .i64 v.id,.int .i64 v.st,.int .i64 v.sz,.int .i64 v.q,.int .i64 v.r,.int .i64 v.mp]
def Bb(vs:List Vl):List Value:=vs.flatMap Vl.cells
theorem ZT(vs:List Vl):(Bb vs).length=vs.length*6:=by
 induction vs with
 | nil=>rfl
 | cons e es ih=>simp only[Bb,AeG,Aee] at ih ⊢;rw[ih];simp[Vl.cells];omega
theorem JF(A B:List Vl):Bb (A++B)=Bb A++Bb B:=by simp[Bb]
theorem QU(vs:List Vl):∀c∈Bb vs,c.oneCell'=true:=λc a=>by
 simp only[Bb,Agg] at a;obtain ⟨e,_,b⟩:=a;simp[Vl.cells] at b;rcases b with rfl|rfl|rfl|rfl|rfl|rfl<;>rfl
theorem AU:∀{vs:List Vl} {j:Nat} {e:Vl},vs[j]?=some e->∀k u,(Vl.cells e)[k]?=some u->(Bb vs)[j*6+k]?=some u
 | x::es,0,e,h,k,u,hk=>by
  simp at h;subst h;have hl:=(Aeb.1 hk).1;simp only[Bb,AeG];rw[Aem U];simpa using hk
 | x::es,j+1,e,h,k,u,hk=>by
  have:=AU (vs:=es) (j:=j) (by simpa using h) k u hk;simp only[Bb,AeG] at this ⊢;rw[Aes (by simp[Vl.cells];omega)];rw[show (j+1)*6+k-(Vl.cells x).length=j*6+k from by simp[Vl.cells];omega];exact this
structure Vl.Fit(v:Vl):Prop where
 id:0<=v.id/\v.id<=1073741824
 st:0<=v.st/\v.st<=2
 sz:0<=v.sz/\v.sz<=1048576
 q:0<=v.q/\v.q<=1048576
 r:0<=v.r/\v.r<=1023
 mp:0<=v.mp/\v.mp<=1048576
def v0:Vl:=⟨0,0,0,0,0,0⟩
theorem v0_fit:v0.Fit:=by constructor<;>decide
def FJ(v:Vl):List UInt8:=Ag 4 v.id++Ag 1 v.st++Ag 4 v.sz++Ag 4 v.q++Ag 2 v.r++Ag 4 v.mp
theorem ZU(v:Vl):(FJ v).length=19:=by simp[FJ,Ah]
theorem ZV(vs:List Vl):(vs.flatMap FJ).length=19*vs.length:=by
 induction vs with
 | nil=>rfl
 | cons e es ih=>rw[AeG,Aee,ih,ZU,Aeg];omega
theorem QV(sk:List Int):(sk.flatMap (Ag 2)).length=2*sk.length:=by
 induction sk with
 | nil=>rfl
 | cons e es ih=>rw[AeG,Aee,ih,Ah,Aeg];omega
def Ex(nx:Int)(sk:List Int)(i:Nat):List UInt8:=Ag 4 nx++Ag 1 (sk.length:Int)++(sk.take i).flatMap (Ag 2)
theorem IB(nx:Int)(sk:List Int)(h:i<=sk.length):(Ex nx sk i).length=5+2*i:=by
 simp only[Ex,Aee,Ah,QV,Aex];omega
theorem T4(nx:Int){sk:List Int}(h:sk[i]?=some t):Ex nx sk (i+1)=Ex nx sk i++Ag 2 t:=by
 simp only[Ex,AeN,h,Af1,Option.toList,AeG,AhB,AeV,Aeh]
def Cc(nx:Int)(sk:List Int)(vs:List Vl)(i:Nat):List UInt8:=Ex nx sk sk.length++List.replicate (16-2*sk.length) 0++(vs.take i).flatMap FJ
theorem Ey(nx:Int){sk:List Int}(hs:sk.length<=8){vs:List Vl}(h:i<=vs.length):(Cc nx sk vs i).length=21+19*i:=by
 simp only[Cc,Aee,IB nx sk (Aei _),Afj,ZV,Aex];omega
theorem T5(nx:Int)(sk:List Int){vs:List Vl}{v:Vl}(h:vs[i]?=some v):Cc nx sk vs (i+1)=Cc nx sk vs i++Ag 4 v.id++Ag 1 v.st++Ag 4 v.sz++Ag 4 v.q++Ag 2 v.r++Ag 4 v.mp:=by
 simp only[Cc,AeN,h,Af1,Option.toList,AeG,AhB,AeV,Aeh,FJ]
theorem T6(nx:Int){sk:List Int}(hs:sk.length<=8)(vs:List Vl):AJ (Ex nx sk sk.length)=AJ (Cc nx sk vs 0):=by
 have h:=IB nx sk (Aei _);simp only[Cc,AfE,AhB,AeV,AJ,Aeh,Aee,Afj,h];rw[Af8];congr 2;omega
def Dq(nx:Int)(sk:List Int)(vs:List Vl):List UInt8:=((AJ (Cc nx sk vs vs.length)).drop 0).take 240
variable{nx:Int}{sk:List Int}{vs:List Vl}
theorem Km(hs:sk.length<=8)(a:vs.length=8):(Dq nx sk vs).length=240:=by
 have:=AS (l:=Cc nx sk vs vs.length) (by rw[Ey nx hs (Aei _),a];omega);unfold Dq;rw[Aex,Aeu,this];rfl
theorem GX(hs:sk.length<=8)(h:vs.length=8)(a b c:List UInt8){p:Nat}(e:Cc nx sk vs vs.length=a++b++c)(hp:p=a.length)(g:n=b.length):((Dq nx sk vs).drop p).take n=b:=by
 have d:=Ey (i:=vs.length) nx hs (Aei _);have f:a.length+b.length+c.length=173:=by rw[e] at d;simp only[Aee] at d;omega
 unfold Dq AJ;rw[Aeu,AfW,AeD,AeE U,e,Aeh (a++b)];exact G7 a b hp g
theorem Lk{α:Type}(f:α->List UInt8){l:List α}{x:α}(h:l[i]?=some x):l.flatMap f=(l.take i).flatMap f++f x++(l.drop (i+1)).flatMap f:=by
 obtain ⟨hi,rfl⟩:=Aeb.1 h;have e:l=l.take i++l[i]::l.drop (i+1):=by rw[<-AeZ hi,AeL]
 have e2:l.flatMap f=(l.take i++l[i]::l.drop (i+1)).flatMap f:=congrArg (λm=>List.flatMap f m) e;rw[e2,Af1,AeG,Aeh]
theorem WA(hs:sk.length<=8)(a:vs.length=8)(h:0<=nx/\nx<=1073741824):AX (((Dq nx sk vs).drop 0).take 4)=nx:=by
 rw[GX (p:=0) hs a [] (Ag 4 nx) (Ag 1 (sk.length:Int)++(sk.take sk.length).flatMap (Ag 2)++List.replicate (16-2*sk.length) 0++(vs.take vs.length).flatMap FJ) (by simp[Cc,Ex]) Z (Ah 4 _).symm];exact BV h.1 U U
theorem WB(hs:sk.length<=8)(a:vs.length=8):AX (((Dq nx sk vs).drop 4).take 1)=(sk.length:Int):=by
 rw[GX hs a (Ag 4 nx) (Ag 1 (sk.length:Int)) ((sk.take sk.length).flatMap (Ag 2)++List.replicate (16-2*sk.length) 0++(vs.take vs.length).flatMap FJ) (by simp[Cc,Ex]) (Ah 4 _).symm (Ah 1 _).symm];exact BV U U U
theorem Ace(hs:sk.length<=8)(a:vs.length=8)(h:sk[i]?=some t)(b:0<=t/\t<=1023):AX (((Dq nx sk vs).drop (5+2*i)).take 2)=t:=by
 have hi:=(Aeb.1 h).1;rw[GX hs a (Ag 4 nx++Ag 1 (sk.length:Int)++(sk.take i).flatMap (Ag 2)) (Ag 2 t) ((sk.drop (i+1)).flatMap (Ag 2)++List.replicate (16-2*sk.length) 0++(vs.take vs.length).flatMap FJ) (by simp only[Cc,Ex,Ae7];rw[Lk (Ag 2) h];simp only[Aeh]) (by simp only[Aee,Ah,QV,Aex];omega) (Ah 2 _).symm];exact BV b.1 U U
theorem ZW(hs:sk.length<=8)(a:vs.length=8)(h:i<8-sk.length):AX (((Dq nx sk vs).drop (5+2*sk.length+2*i)).take 2)=0:=by
 have e:List.replicate (16-2*sk.length) (0:UInt8)=List.replicate (2*i) 0++Ag 2 0++List.replicate (16-2*sk.length-2*i-2) 0:=by
  rw[show Ag 2 0=List.replicate 2 (0:UInt8) by decide,Af8,Af8];congr 1;omega
 rw[GX hs a (Ex nx sk sk.length++List.replicate (2*i) 0) (Ag 2 0) (List.replicate (16-2*sk.length-2*i-2) 0++(vs.take vs.length).flatMap FJ) (by simp only[Cc];rw[e];simp only[Aeh]) (by simp only[Aee,IB nx sk (Aei _),Afj]) (Ah 2 _).symm];decide
theorem HV(hs:sk.length<=8)(d:vs.length=8){v:Vl}(h:vs[i]?=some v)(a b c:List UInt8)(e:FJ v=a++b++c)(hp:n=21+19*i+a.length)(f:m=b.length):((Dq nx sk vs).drop n).take m=b:=by
 have hi:=(Aeb.1 h).1;refine GX hs d (Cc nx sk vs i++a) b (c++(vs.drop (i+1)).flatMap FJ) ?_ (by rw[Aee,Ey nx hs (Nat.le_of_lt hi),hp]) f;simp only[Cc,Ae7];rw[Lk FJ h,e];simp only[Aeh]
theorem Acf(hs:sk.length<=8)(a:vs.length=8){v:Vl}(h:vs[i]?=some v)(f:v.Fit):AX (((Dq nx sk vs).drop (21+19*i)).take 4)=v.id:=by
 rw[HV hs a h [] (Ag 4 v.id) (Ag 1 v.st++Ag 4 v.sz++Ag 4 v.q++Ag 2 v.r++Ag 4 v.mp) (by simp[FJ]) O (Ah 4 _).symm];have:=f.id;exact BV this.1 U U
theorem Acg(hs:sk.length<=8)(a:vs.length=8){v:Vl}(h:vs[i]?=some v)(f:v.Fit):AX (((Dq nx sk vs).drop (21+19*i+4)).take 1)=v.st:=by
 rw[HV hs a h (Ag 4 v.id) (Ag 1 v.st) (Ag 4 v.sz++Ag 4 v.q++Ag 2 v.r++Ag 4 v.mp) (by simp[FJ]) (by simp[Ah]) (Ah 1 _).symm];have:=f.st;exact BV this.1 U U
theorem Ach(hs:sk.length<=8)(a:vs.length=8){v:Vl}(h:vs[i]?=some v)(f:v.Fit):AX (((Dq nx sk vs).drop (21+19*i+5)).take 4)=v.sz:=by
 rw[HV hs a h (Ag 4 v.id++Ag 1 v.st) (Ag 4 v.sz) (Ag 4 v.q++Ag 2 v.r++Ag 4 v.mp) (by simp[FJ]) (by simp[Ah]) (Ah 4 _).symm];have:=f.sz;exact BV this.1 U U
theorem Adi(hs:sk.length<=8)(a:vs.length=8){v:Vl}(h:vs[i]?=some v)(f:v.Fit):AX (((Dq nx sk vs).drop (21+19*i+9)).take 4)=v.q:=by
 rw[HV hs a h (Ag 4 v.id++Ag 1 v.st++Ag 4 v.sz) (Ag 4 v.q) (Ag 2 v.r++Ag 4 v.mp) (by simp[FJ]) (by simp[Ah]) (Ah 4 _).symm];have:=f.q;exact BV this.1 U U
theorem Adj(hs:sk.length<=8)(a:vs.length=8){v:Vl}(h:vs[i]?=some v)(f:v.Fit):AX (((Dq nx sk vs).drop (21+19*i+13)).take 2)=v.r:=by
 rw[HV hs a h (Ag 4 v.id++Ag 1 v.st++Ag 4 v.sz++Ag 4 v.q) (Ag 2 v.r) (Ag 4 v.mp) (by simp[FJ]) (by simp[Ah]) (Ah 2 _).symm];have:=f.r;exact BV this.1 U U
theorem Aci(hs:sk.length<=8)(a:vs.length=8){v:Vl}(h:vs[i]?=some v)(f:v.Fit):AX (((Dq nx sk vs).drop (21+19*i+15)).take 4)=v.mp:=by
 rw[HV hs a h (Ag 4 v.id++Ag 1 v.st++Ag 4 v.sz++Ag 4 v.q++Ag 2 v.r) (Ag 4 v.mp) [] (by simp[FJ]) (by simp[Ah]) (Ah 4 _).symm];have:=f.mp;exact BV this.1 U U
theorem O4(hs:sk.length<=8)(a:vs.length=8):rz (((Dq nx sk vs).drop 173).take 67)=0:=by
 have b:=Ey (i:=vs.length) nx hs (vs:=vs) (Aei _);rw[a] at b;unfold Dq AJ;rw[Aeu,AfW,AeD,a,show (173:Nat)=(Cc nx sk vs 8).length by rw[b],AfR Z];refine LP.2 (λx c=>?_);have:=Afg c;exact (Af3.1 this).2
end
end Go.Proofs.YtemljpjnhjnncaaGreatDoor
