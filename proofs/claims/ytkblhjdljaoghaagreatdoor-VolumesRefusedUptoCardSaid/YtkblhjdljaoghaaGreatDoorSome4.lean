/-
  Steps to: VolumesRefused No condition.
-/
import Derived.Test.YtkblhjdljaoghaaGreatDoorSome3
set_option maxRecDepth 100000
set_option linter.unusedSimpArgs false
set_option linter.unusedVariables false
open Go.Proofs.Tryz
namespace Go.Proofs.YtkblhjdljaoghaaGreatDoor
open Go.RowKit
variable{n m i j e g r:Nat}{t s p q:Int}{V:List Value}{B S:List UInt8}{T:TypeId}{L:List (Nat×Value)}{v u y:Value}{z:World}{l:List Int}{R:List Nat}{N:Act->World->Prop}{b c:Bool}{x:Operand}{o:List Oper}{K:Value->World->Prop}{C:Nat->Nat}{P:Program}{F:Nat->Bool}{a:Act}
variable{Γ:List Ai}{h:Hp}{A:Ai}
variable{D:Dsk}
theorem I7{kv1 vv1:Value}(a i:List Int){B1:Ai}(d:∀h,A h->rdH 1 kv1 a.length (a.map I) h)(l:∀h,B1 h->rdH 1 vv1 i.length (i.map I) h){kv2 vv2:Value}(c k:List Int){A2 B2:Ai}(f:∀h,A2 h->rdH 1 kv2 c.length (c.map I) h)(n:∀h,B2 h->rdH 1 vv2 k.length (k.map I) h)(g:CkN b a i)(e:CkN b c k)(a1:∀x y:Int,a[a.length-1]?=some x->c[0]?=some y->x<y):Ak 241 [.agg #[.bool b,kv1,vv1],.agg #[.bool b,kv2,vv2]] [A,B1,A2,B2] (λv G=>v=.bool true/\G=[A,B1,A2,B2]):=by
 intro z R w H;obtain ⟨b7,b6,rfl⟩:=H.sy 0 (λq=>(d _ q).slc);obtain ⟨b9,b4,rfl⟩:=H.sy 1 (λq=>(l _ q).slc);have a3:=H.sy 0 (λq=>(d _ q).slcap);have s:=H.sy 1 (λq=>(l _ q).slcap);obtain ⟨b5,b0,rfl⟩:=H.sy 2 (λq=>(f _ q).slc);obtain ⟨b3,b8,rfl⟩:=H.sy 3 (λq=>(n _ q).slc);have a2:=H.sy 2 (λq=>(f _ q).slcap);have t:=H.sy 3 (λq=>(n _ q).slcap);have a6:=g.len;have a9:=g.l8;have a0:=e.len;have a8:=e.l8;refine Ae func241 Z ntmps241 Z (Za 2 [] H Z ?_);intro b1 w H;refine Za 0 [] H Z ?_;intro b2 w H;refine Z2 7 [1,3] H Z (z_E_ Z (call168 _) (CU a i d l g) H.f3.f3 ?_);intro w H;refine Z2 3 [4,2,3] H Z (z_E_ Z (call168 _) (CU c k f n e) H.f5.f5 ?_);intro w H;refine Z2 7 [4,0,5,0,0,4,0] H Z (Ad Z (Nv Z J Z Z) (Zc 3 Z (Af Z (λh1=>?_) (λh1=>?_))))
 ·exact absurd Z h1
 refine Zc 3 Z (Bu (Sep z _) J J H.drew (GL 5 [1,5,0,0] [] Z J (B8 24 Z (λh2=>?_) (λh2=>?_))))
 ·refine BS 21 [] Z J (BB (λw o=>?_));have H:=o.l6;refine gn (Zc 2 Z (Zr Z ?_));exact ⟨_,⟨Z,Z⟩,H.perm 6 [2,3,0,1] Z Z⟩
 refine GL 6 [1,4,0,0] [] Z J (B8 30 Z (λh3=>?_) (λh3=>?_))
 ·refine BS 15 [] Z J (BB (λw o=>?_));have H:=o.l6;refine gn (Zc 2 Z (Zr Z ?_));exact ⟨_,⟨Z,Z⟩,H.perm 6 [2,3,0,1] Z Z⟩
 obtain ⟨x,p⟩:∃x,a[a.length-1]?=some x:=⟨_,Aef U⟩;obtain ⟨y,hy⟩:∃y,c[0]?=some y:=⟨_,Aef U⟩;have a4:=a1 x y p hy;have a7:=(H.rd 2 Z d).at (j:=a.length-1) (u:=I x) (by simp[p]);have a5:=(H.rd 0 Z f).at (j:=0) (u:=I y) (by simp[hy]);refine Ha 6 [1,5,0,1,5,0] [(a.length:Int)-1] Z J U (AM Z Z Z (Aj Z (z:=1) (j:=(a.length-1)) (r:=(a.length-1)) J Z Z U U a7 U) (AM Z Z Z (Ax Z Z J (λ_ m=>(m.rd 2 Z d).at (j:=a.length-1) (u:=I x) (by simp[p]))) (DS 2 [1,0] (λ_ p=>(AN (p.blk 4 Z) AH)) Z J Z (AM Z Z Z (Aj Z (z:=1) (j:=0) (r:=0) J Z Z Z U a5 U) (AM Z Z Z (Ax Z Z J (λ_ m=>(m.rd 0 Z f).at (j:=0) (u:=I y) (by simp[hy]))) (BS 3 [] Z J (BB (λw o=>?_))))))));have H:=o.l6;refine gn (Zc 2 Z (Zr Z ?_));exact ⟨_,⟨congrArg Value.bool (decide_eq_true a4),Z⟩,H.perm 6 [2,3,0,1] Z Z⟩
theorem Wd(f:Bool)(kv1 vv1:Value){b:List Int}(A1 B1:Ai)(i:∀h,A1 h->rdH 1 kv1 l.length (l.map I) h)(g:∀h,B1 h->rdH 1 vv1 b.length (b.map I) h)(kv2 vv2:Value){a c:List Int}(A2 B2:Ai)(j:∀h,A2 h->rdH 1 kv2 a.length (a.map I) h)(k:∀h,B2 h->rdH 1 vv2 c.length (c.map I) h)(e:CkN f l b)(d:CkN f a c)(t:∀x y:Int,l[l.length-1]?=some x->a[0]?=some y->x<y)(h8:l.length+a.length<=8)(m vs:List Int)(hk:l++a=m)(hv:b++c=vs):Ak 212 [.agg #[.bool f,kv1,vv1],.agg #[.bool f,kv2,vv2]] [A1,B1,A2,B2] (λv G=>∃v1 v2:Value,v=.tuple #[.agg #[.bool f,v1,v2],I 0]/\G=[grow 3 1 v1 m.length (m.map I),grow 3 1 v2 vs.length (vs.map I),A1,B1,A2,B2]):=by
 intro z R w H;obtain ⟨b6,b5,rfl⟩:=H.sy 0 (λq=>(i _ q).slc);obtain ⟨b8,b0,rfl⟩:=H.sy 1 (λq=>(g _ q).slc);have a2:=H.sy 0 (λq=>(i _ q).slcap);have n:=H.sy 1 (λq=>(g _ q).slcap);obtain ⟨b4,a8,rfl⟩:=H.sy 2 (λq=>(j _ q).slc);obtain ⟨a9,b7,rfl⟩:=H.sy 3 (λq=>(k _ q).slc);have a1:=H.sy 2 (λq=>(j _ q).slcap);have o:=H.sy 3 (λq=>(k _ q).slcap);have a4:=e.len;have a7:=e.l8;have p:=d.len;have a6:=d.l8;refine Ae func212 Z ntmps212 Z (Za 2 [] H Z ?_);intro b1 w H;refine Za 0 [] H Z ?_;intro b2 w H;refine Za 0 [] H Z ?_;intro b3 w H;refine Z2 9 [2,3,1,3] H Z (z_E_ Z (call241 _) (I7 l b i g a c j k e d t) H.f6.f6.f6.f6 ?_);intro w H;refine Z3 18 [1,6,0,1,5,0,0] [(l.length:Int)+(a.length:Int)] H Z U (Af Z (λh1=>U) (λh1=>?_));refine Z2 7 [6,3,5,3] H Z (Au Z (call210 _) (Fl l b i g a c j k U U U U m vs hk hv) H ?_);rintro _ w _ ⟨v4,v5,rfl,rfl⟩ H;have r:=H.sy 0 (·.slc);obtain ⟨a0,u,rfl⟩:=r;have s:=H.sy 1 (·.slc);obtain ⟨a3,a5,rfl⟩:=s;refine Z4 5 [6] H Z ?_;intro w H;refine Zl [6,3] H Z ?_;exact ⟨_,⟨.slice a0 m.length u,.slice a3 vs.length a5,Z,Z⟩,H.perm 9 [0,1,2,3,4,5] Z Z⟩
theorem We(f:Bool)(kv1 vv1:Value){d:List Int}(A1 B1:Ai)(i:∀h,A1 h->rdH 1 kv1 l.length (l.map I) h)(g:∀h,B1 h->rdH 1 vv1 d.length (d.map I) h)(kv2 vv2:Value){a e:List Int}(A2 B2:Ai)(j:∀h,A2 h->rdH 1 kv2 a.length (a.map I) h)(k:∀h,B2 h->rdH 1 vv2 e.length (e.map I) h)(c:CkN f l d)(b:CkN f a e)(p:∀x y:Int,l[l.length-1]?=some x->a[0]?=some y->x<y)(h8:8<l.length+a.length):Ak 212 [.agg #[.bool f,kv1,vv1],.agg #[.bool f,kv2,vv2]] [A1,B1,A2,B2] (λv G=>v=.tuple #[.agg #[.bool false,.slice none 0 0,.slice none 0 0],I 15]/\G=[A1,B1,A2,B2]):=by
 intro z R w H;obtain ⟨a6,a5,rfl⟩:=H.sy 0 (λq=>(i _ q).slc);obtain ⟨a8,a3,rfl⟩:=H.sy 1 (λq=>(g _ q).slc);have s:=H.sy 0 (λq=>(i _ q).slcap);have m:=H.sy 1 (λq=>(g _ q).slcap);obtain ⟨a4,a1,rfl⟩:=H.sy 2 (λq=>(j _ q).slc);obtain ⟨a2,a7,rfl⟩:=H.sy 3 (λq=>(k _ q).slc);have r:=H.sy 2 (λq=>(j _ q).slcap);have n:=H.sy 3 (λq=>(k _ q).slcap);have t:=c.len;have a0:=c.l8;have o:=b.len;have u:=b.l8;refine Ae func212 Z ntmps212 Z (Za 2 [] H Z ?_);intro b1 w H;refine Za 0 [] H Z ?_;intro b2 w H;refine Za 0 [] H Z ?_;intro b3 w H;refine Z2 9 [2,3,1,3] H Z (z_E_ Z (call241 _) (I7 l d i g a e j k c b p) H.f6.f6.f6.f6 ?_);intro w H;refine Z3 18 [1,6,0,1,5,0,0] [(l.length:Int)+(a.length:Int)] H Z U (Af Z (λh1=>?_) (λh1=>?_))
 ·refine Z4 8 [4] H Z ?_;intro w H;refine Zl [4,3] H Z ?_;exact ⟨_,⟨Z,Z⟩,H.perm 7 [0,1,2,3] Z Z⟩
 (exfalso;omega)
theorem Wf(a:Bool)(kv1 vv1:Value){i:List Int}(A1 B1:Ai)(a1:∀h,A1 h->rdH 1 kv1 l.length (l.map I) h)(a0:∀h,B1 h->rdH 1 vv1 i.length (i.map I) h)(kv2 vv2:Value){b g:List Int}(A2 B2:Ai)(a3:∀h,A2 h->rdH 1 kv2 b.length (b.map I) h)(a2:∀h,B2 h->rdH 1 vv2 g.length (g.map I) h)(u:CkN a l i)(t:CkN a b g)(b6:∀x y:Int,l[l.length-1]?=some x->b[0]?=some y->x<y)(e5:2<=l.length+b.length)(ks vs:List Int)(hk:l++b=ks)(hv:i++g=vs)(d c e f:List Int)(c1:ks.take ((ks.length+1)/2)=d)(a9:vs.take ((ks.length+1)/2)=c)(b8:ks.drop ((ks.length+1)/2)=e)(b7:vs.drop ((ks.length+1)/2)=f):Ak 213 [.agg #[.bool a,kv1,vv1],.agg #[.bool a,kv2,vv2]] [A1,B1,A2,B2] (λv G=>∃v1 v2 v3 v4:Value,v=.tuple #[.agg #[.bool a,v1,v2],.agg #[.bool a,v3,v4],I 0]/\G=[grow 3 1 v1 d.length (d.map I),grow 3 1 v2 c.length (c.map I),grow 3 1 v3 e.length (e.map I),grow 3 1 v4 f.length (f.map I),A1,B1,A2,B2]):=by
 intro z R w H;replace H:=H.l4;obtain ⟨d6,d5,rfl⟩:=H.sy 0 (λq=>(a1 _ q).slc);obtain ⟨d8,d3,rfl⟩:=H.sy 1 (λq=>(a0 _ q).slc);have c0:=H.sy 0 (λq=>(a1 _ q).slcap);have c3:=H.sy 1 (λq=>(a0 _ q).slcap);obtain ⟨e0,d0,rfl⟩:=H.sy 2 (λq=>(a3 _ q).slc);obtain ⟨d9,e4,rfl⟩:=H.sy 3 (λq=>(a2 _ q).slc);have b9:=H.sy 2 (λq=>(a3 _ q).slcap);have b0:=H.sy 3 (λq=>(a2 _ q).slcap);have c2:=u.len;have c9:=u.l8;have c4:=t.len;have c8:=t.l8;have e3:ks.length=l.length+b.length:=by rw[<-hk,Aeh]
 have e7:vs.length=i.length+g.length:=by rw[<-hv,Aeh]
 refine Ae func213 Z ntmps213 Z (Za 2 [] H Z ?_);intro b1 w H;refine Za 0 [] H Z ?_;intro b2 w H;refine Za 0 [] H Z ?_;intro b3 w H;refine Za 0 [] H Z ?_;intro b4 w H;refine Z2 8 [3,3,2,3] H Z (z_E_ Z (call241 _) (I7 l i a1 a0 b g a3 a2 u t b6) H.f7.f7.f7.f7 ?_);intro w H;refine Z3 13 [1,7,0,1,6,0,0] [(l.length:Int)+(b.length:Int)] H Z U (Af Z (λh1=>U) (λh1=>?_));refine Z2 6 [7,3,6,3] H Z (Au Z (call210 _) (Fl l i a1 a0 b g a3 a2 U U U U ks vs hk hv) H ?_);rintro _ w _ ⟨v5,v6,rfl,rfl⟩ H;replace H:=H.l10;have b5:=H.sy 0 (·.slc);obtain ⟨e6,d7,rfl⟩:=b5;have c5:=H.sy 1 (·.slc);obtain ⟨e2,c7,rfl⟩:=c5;refine Au Z (call240 _) (MT ks vs (λh q=>q.rd) (λh q=>q.rd) U U d c e f c1 a9 b8 b7) H ?_;rintro _ w _ ⟨d4,d1,e1,d2,rfl,rfl⟩ H;replace H:=H.l14;have a6:=H.sy 0 (·.slc);obtain ⟨n,s,rfl⟩:=a6;have a7:=H.sy 1 (·.slc);obtain ⟨o,r,rfl⟩:=a7;have a5:=H.sy 2 (·.slc);obtain ⟨m,j,rfl⟩:=a5;have a4:=H.sy 3 (·.slc);obtain ⟨k,p,rfl⟩:=a4;refine Za 3 [] H Z ?_;intro c6 w H;refine Za 0 [] H Z ?_;intro a8 w H;refine Z4 5 [1,0] H Z ?_;intro w H;replace H:=(H.pick 16 [1,0,2,3,4,5,6,7,8,9,10,11,12,13,14,15] Z).l16;refine AS (Sep z (blk c6 [.bool a,.slice n d.length s,.slice o c.length r] 195::blk a8 [.bool a,.slice m e.length j,.slice k f.length p] 195::R)) 5 Z J (A4 H λw H'=>?_);have H:=H'.l16;refine AZ [0,1] [0,3,1,3] [] (by exact H.pick 16 [0,1] Z) Z J Z (AE [2] J O (Al (Bl Z Z Z (Am 13 H Z Z Z Z (vs:=[.bool a,.slice n d.length s,.slice o c.length r]) Z (by simp[u8,u32,Value.oneCell']) J O (out:=[.bool a,.slice n d.length s,.slice o c.length r]) Z) ?_)));rintro w H;replace H:=H.l16;refine Az (H.pick 16 [0,1] Z) (AE [3] J O (Al (Bl Z Z Z (Am 12 H Z Z Z Z (vs:=[.bool a,.slice m e.length j,.slice k f.length p]) Z (by simp[u8,u32,Value.oneCell']) J O (out:=[.bool a,.slice m e.length j,.slice k f.length p]) Z) ?_)));rintro w H;replace H:=H.l16;refine Az (H.pick 16 [0,1] Z) (AZ [4] [] [] (by exact H.pick 16 [0,1] Z) Z J Z (a_done J (gn (Zc 2 Z (Zl [13,3,12,3] H Z ?_)))));exact ⟨_,⟨.slice n d.length s,.slice o c.length r,.slice m e.length j,.slice k f.length p,Z,Z⟩,H.perm 16 [2,3,4,5,8,9,10,11] Z Z⟩
section
abbrev E:=Int×Nat
structure Nd where
 lf:Bool
 es:List E
inductive Pc where
 | nd (d:Nd)
 | dt (b:List UInt8)
abbrev Hm:=Nat->Option Pc
def Srt(es:List E):Prop:=es.Pairwise (λa b=>a.1<b.1)
structure Nd.Ok(d:Nd):Prop where
 srt:Srt d.es
 len:d.es.length<=8
 key:∀e∈d.es,0<=e.1/\e.1<1048576
 ne:d.lf=false->d.es≠[]
def vals(es:List E):List Nat:=es.map Prod.snd
def EN(o:Option Pc)(p:Nat):Nat:=
 match o with
 | some (.nd d)=>(vals d.es).count p
 | _=>0
def FD(N:Hm)(p:Nat):Nat->Nat
 | 0=>0
 | n+1=>FD N p n+EN (N n) p
theorem QF(N:Hm)(p a:Nat)(o:Option Pc):∀n,n<=a->FD (fup N a o) p n=FD N p n
 | 0,_=>rfl
 | n+1,h=>by simp only[FD];rw[QF N p a o n U,fup_ne _ _ U]
theorem FV(N:Hm)(p a:Nat)(o:Option Pc):∀n,a<n->FD (fup N a o) p n+EN (N a) p=FD N p n+EN o p
 | n+1,h=>by
  simp only[FD];rcases Aeu a n with q|q
  ·have:=FV N p a o n q
   rw[fup_ne _ _ U];omega
  obtain rfl:a=n:=by omega
  rw[QF N p a o a (Ael _),BK];omega
theorem L6(N:Hm)(p q:Nat):∀n,q<n->EN (N q) p<=FD N p n
 | n+1,h=>by
  simp only[FD];rcases Aeu q n with r|r
  ·have:=L6 N p q n r;omega
  obtain rfl:q=n:=by omega
  omega
theorem QG(N:Hm)(p:Nat)(h:∀q,EN (N q) p<=1):∀n,FD N p n<=n
 | 0=>Ael _
 | n+1=>by have:=QG N p h n;have:=h n;simp only[FD];omega
theorem ON{d:Nd}:0<EN (some (.nd d)) m↔m∈vals d.es:=Agy

def nx:List E->Int->Int
 | [],hi=>hi
 | e::_,_=>e.1
def Sq(P:Nat->Int->Int->List E->Prop):List E->Int->List E->Prop
 | [],_,L=>L=[]
 | e::t,hi,L=>∃L1 L2,L=L1++L2/\P e.2 e.1 (nx t hi) L1/\Sq P t hi L2
def Tr(N:Hm):Nat->Nat->Int->Int->Nat->List E->Prop
 | 0,r,lo,hi,m,L=>∃es,N r=some (.nd ⟨true,es⟩)/\m<=es.length/\(∀e∈es,lo<=e.1/\e.1<hi)/\(Nd.mk true es).Ok/\L=es/\∀e∈es,∃b,N e.2=some (.dt b)
 | h+1,r,lo,hi,m,L=>∃es,N r=some (.nd ⟨false,es⟩)/\m<=es.length/\(∀e∈es,lo<=e.1/\e.1<hi)/\(Nd.mk false es).Ok/\Sq (λc a b L=>Tr N h c a b 4 L) es hi L
def Bd(N:Hm):Nat->List E->Int->List E->Prop
 | 0,es,_,L=>L=es/\∀e∈es,∃b,N e.2=some (.dt b)
 | h+1,es,hi,L=>Sq (λc a b L=>Tr N h c a b 4 L) es hi L
def B5(lo hi:Int)(es:List E):Prop:=∀e∈es,lo<=e.1/\e.1<hi
theorem Tr.iff{N:Hm}{h:Nat}{lo hi:Int}{L:List E}:Tr N h r lo hi m L↔∃es,N r=some (.nd ⟨decide (h=0),es⟩)/\m<=es.length/\B5 lo hi es/\(Nd.mk (decide (h=0)) es).Ok/\Bd N h es hi L:=by
 cases h<;>exact Ahx
structure TInv(n f:Nat)(N:Hm)(C:Nat->Nat)(R:List Nat):Prop where
 cnt:∀p,f<=p->p<n->C p=R.count p+FD N p n
 rin:∀p∈R,f<=p/\p<n
 nin:∀q c,N q=some c->f<=q/\q<n/\1<=C q
 nds:∀q d,N q=some (.nd d)->d.Ok/\(vals d.es).Nodup/\∀v∈vals d.es,f<=v/\v<n
 hg:∀q d,N q=some (.nd d)->∃h lo hi m L,Tr N h q lo hi m L
theorem Sq.imp{P Q:Nat->Int->Int->List E->Prop}{es:List E}{hi:Int}{L:List E}(h:Sq P es hi L)(a:∀e∈es,∀b L,P e.2 e.1 b L->Q e.2 e.1 b L):Sq Q es hi L:=by
 induction es generalizing L with
 | nil=>exact h
 | cons e t ih=>
  obtain ⟨L1,L2,d,g,i⟩:=h;exact ⟨L1,L2,d,a e O _ _ g,ih i (λf c=>a f (by simp[c]))⟩
theorem Tr.mono{N:Hm}{h:Nat}{lo hi:Int}{L:List E}(t:Tr N h r lo hi m L)(n:s<=lo)(k:hi<=p)(o:i<=m):Tr N h r s p i L:=by
 induction h generalizing r lo hi s p m i L with
 | zero=>
  obtain ⟨es,a,b,c,d,e⟩:=t;exact ⟨es,a,by omega,λx f=>by have:=c x f;omega,d,e⟩
 | succ h ih=>
  obtain ⟨es,a,b,c,d,e⟩:=t;refine ⟨es,a,by omega,λx f=>by have:=c x f;omega,d,?_⟩;clear a b c d
  induction es generalizing L with
  | nil=>exact e
  | cons x t ih2=>
   obtain ⟨L1,L2,g,j,l⟩:=e;refine ⟨L1,L2,g,?_,ih2 l⟩;refine ih j (Afo _) ?_ (Ael _);cases t<;>simp[nx,k]
theorem Tr.fup{N:Hm}{a:Nat}{o:Option Pc}(g:∀q d,N q=some (.nd d)->a∉vals d.es){h c:Nat}{lo hi:Int}{m:Nat}{L:List E}(j:c≠a)(t:Tr N h c lo hi m L):Tr (fup N a o) h c lo hi m L:=by
 induction h generalizing c lo hi m L with
 | zero=>
  obtain ⟨es,f,b,c',d,e1,e⟩:=t;refine ⟨es,by rw[fup_ne _ _ j];exact f,b,c',d,e1,λx i=>?_⟩;rw[fup_ne _ _ (λq=>g _ _ f (by rw[<-q];exact AeD i))];exact e x i
 | succ h ih=>
  obtain ⟨es,f,b,c',d,e⟩:=t;refine ⟨es,by rw[fup_ne _ _ j];exact f,b,c',d,e.imp λx i b L q=>ih (λk=>g _ _ f (by rw[<-k];exact AeD i)) q⟩
theorem Tr.node{N:Hm}{h:Nat}{lo hi:Int}{L:List E}(t:Tr N h r lo hi m L):∃d,N r=some (.nd d):=by
 obtain ⟨es,a,_⟩:=Tr.iff.1 t;exact ⟨_,a⟩

section
variable{n f:Nat}{N:Hm}{C:Nat->Nat}{R:List Nat}
theorem TInv.perm{R':List Nat}(I_:TInv n f N C R)(h:R.Perm R'):TInv n f N C R':=
 ⟨λp a b=>by rw[<-h.count_eq];exact I_.cnt p a b,λp hp=>I_.rin p (h.mem_iff.2 hp),I_.nin,I_.nds,I_.hg⟩
theorem TInv.pos(I_:TInv n f N C R){p:Nat}(h:p∈R):1<=C p:=by
 have:=I_.cnt p (I_.rin p h).1 (I_.rin p h).2;have:=Agy.2 h;omega
theorem TInv.posE(I_:TInv n f N C R){q p:Nat}{d:Nd}(h:N q=some (.nd d))(hp:p∈vals d.es):1<=C p:=by
 have hi:=(I_.nds q d h).2.2 p hp;have:=I_.cnt p hi.1 hi.2;have a:0<EN (N q) p:=by rw[h];exact ON.2 hp
 have:=L6 N p q n (I_.nin q _ h).2.1;omega
theorem TInv.noref(I_:TInv n f N C R){a:Nat}(h:C a<=R.count a){q:Nat}{d:Nd}(hq:N q=some (.nd d)):a∉vals d.es:=λb=>by
 have hi:=(I_.nds q d hq).2.2 a b;have:=I_.cnt a hi.1 hi.2;have c:0<EN (N q) a:=by rw[hq];exact ON.2 b
 have:=L6 N a q n (I_.nin q _ hq).2.1;omega
theorem TInv.bound(I_:TInv n f N C R){p:Nat}(b:f<=p)(c:p<n):C p<=R.length+n:=by
 rw[I_.cnt p b c];have g:=List.count_le_length (a:=p) (l:=R);have h:=QG N p (λq=>by
  unfold EN;split
  ·rename_i d e
   exact List.nodup_iff_count.1 (I_.nds q d e).2.1 p
  omega) n
 omega
theorem TInv.opens{a:Nat}{d:Nd}(I_:TInv n f N C (a::R))(k:C a=1)(hN:N a=some (.nd d)):TInv n f (fup N a none) C (a::(vals d.es++R))/\∀q d,N q=some (.nd d)->a∉vals d.es:=by
  have b:∀q d,N q=some (.nd d)->a∉vals d.es:=λq d hq=>I_.noref (by simp[k]) hq;refine ⟨⟨λp g i=>?_,λp hp=>?_,λq c hq=>?_,λq c hq=>?_,λq c hq=>?_⟩,b⟩
  · have:=I_.cnt p g i
    have j:=FV N p a none n (I_.nin a _ hN).2.1;rw[hN] at j;simp only[Aff,Aft] at this ⊢;simp only[EN] at j;omega
  · rcases Aeq.1 hp with rfl|hp
    · exact I_.rin _ O
    · rcases Aes.1 hp with hp|hp
      · exact (I_.nds a d hN).2.2 p hp
      · exact I_.rin _ (by simp[hp])
  all_goals
    by_cases e:q=a
    · subst e;rw[BK] at hq;cases hq
    · rw[fup_ne _ _ e] at hq
      first
        | exact I_.nin q c hq
        | exact I_.nds q c hq
        | (obtain ⟨h,lo,hi,m,L,t⟩:=I_.hg q c hq
           exact ⟨h,lo,hi,m,L,t.fup b e⟩)
theorem TInv.close{a:Nat}{d:Nd}(I_:TInv n f N C (a::(vals d.es++R)))(u:C a=1)(hN:N a=none)(r:d.Ok)(b:(vals d.es).Nodup)
    (s:∃h lo hi m L,Tr (fup N a (some (.nd d))) h a lo hi m L):TInv n f (fup N a (some (.nd d))) C (a::R)/\∀q d,N q=some (.nd d)->a∉vals d.es:=by
  have g:∀q d,N q=some (.nd d)->a∉vals d.es:=λq d hq=>I_.noref (by simp;omega) hq;have i:=I_.rin a O;refine ⟨⟨λp j k=>?_,λp hp=>?_,λq c hq=>?_,λq c hq=>?_,λq c hq=>?_⟩,g⟩
  · have:=I_.cnt p j k
    have l:=FV N p a (some (.nd d)) n i.2;rw[hN] at l;simp only[Aff,Aft] at this ⊢;simp only[EN] at l;omega
  · rcases Aeq.1 hp with rfl|hp
    · exact i
    · exact I_.rin _ (by simp[hp])
  all_goals
    by_cases e:q=a
    · subst e;rw[BK] at hq;cases hq
      first
        | exact ⟨i.1,i.2,by omega⟩
        | exact ⟨r,b,λv o=>I_.rin v (by simp[o])⟩
        | exact s
    · rw[fup_ne _ _ e] at hq
      first
        | exact I_.nin q c hq
        | exact I_.nds q c hq
        | (obtain ⟨h,lo,hi,m,L,t⟩:=I_.hg q c hq
           exact ⟨h,lo,hi,m,L,t.fup g e⟩)
theorem TInv.fresh{a:Nat}{d:Nd}(I_:TInv n f N C (vals d.es++R))(w:C a=0)(b:f<=a/\a<n)(r:d.Ok)(g:(vals d.es).Nodup)
    (u:∃h lo hi m L,Tr (fup N a (some (.nd d))) h a lo hi m L):N a=none/\TInv n f (fup N a (some (.nd d))) (fup C a 1) (a::R)/\∀q d,N q=some (.nd d)->a∉vals d.es:=by
  have hN:N a=none:=by
    cases e:N a with
    | none=>rfl
    | some c=>have:=(I_.nin a c e).2.2;omega
  have i:∀q d,N q=some (.nd d)->a∉vals d.es:=λq d hq=>I_.noref U hq;have s:=I_.cnt a b.1 b.2;refine ⟨hN,⟨λp j k=>?_,λp hp=>?_,λq c hq=>?_,λq c hq=>?_,λq c hq=>?_⟩,i⟩
  · have:=I_.cnt p j k
    have l:=FV N p a (some (.nd d)) n b.2;rw[hN] at l;simp only[Aff,Aft] at this s ⊢;simp only[EN] at l;by_cases e:p=a
    · subst e;rw[BK];simp;omega
    · rw[fup_ne _ _ e];have:(a==p)=false:=by simp[AfV e]
      rw[this];simp;omega
  · rcases Aeq.1 hp with rfl|hp
    · exact b
    · exact I_.rin _ (by simp[hp])
  all_goals
    by_cases e:q=a
    · subst e;rw[BK] at hq;cases hq
      first
        | exact ⟨b.1,b.2,by simp[fup]⟩
        | exact ⟨r,g,λv o=>I_.rin v (by simp[o])⟩
        | exact u
    · rw[fup_ne _ _ e] at hq
      first
        | (rw[fup_ne _ _ e];exact I_.nin q c hq)
        | exact I_.nds q c hq
        | (obtain ⟨h,lo,hi,m,L,t⟩:=I_.hg q c hq
           exact ⟨h,lo,hi,m,L,t.fup i e⟩)
theorem TInv.freshD{a:Nat}{b:List UInt8}(I_:TInv n f N C R)(r:C a=0)(g:f<=a/\a<n):N a=none/\TInv n f (fup N a (some (.dt b))) (fup C a 1) (a::R)/\∀q d,N q=some (.nd d)->a∉vals d.es:=by
  have hN:N a=none:=by
    cases e:N a with
    | none=>rfl
    | some c=>have:=(I_.nin a c e).2.2;omega
  have i:∀q d,N q=some (.nd d)->a∉vals d.es:=λq d hq=>I_.noref U hq;have o:=I_.cnt a g.1 g.2;refine ⟨hN,⟨λp j k=>?_,λp hp=>?_,λq c hq=>?_,λq c hq=>?_,λq c hq=>?_⟩,i⟩
  · have:=I_.cnt p j k
    have l:=FV N p a (some (.dt b)) n g.2;rw[hN] at l;simp only[Aff] at this o ⊢;simp only[EN] at l;by_cases e:p=a
    · subst e;rw[BK];simp;omega
    · rw[fup_ne _ _ e];have:(a==p)=false:=by simp[AfV e]
      rw[this];simp;omega
  · rcases Aeq.1 hp with rfl|hp
    · exact g
    · exact I_.rin _ hp
  all_goals
    by_cases e:q=a
    · subst e;rw[BK] at hq;cases hq<;>exact ⟨g.1,g.2,by simp[fup]⟩
    · rw[fup_ne _ _ e] at hq
      first
        | (rw[fup_ne _ _ e];exact I_.nin q c hq)
        | exact I_.nds q c hq
        | (obtain ⟨h,lo,hi,m,L,t⟩:=I_.hg q c hq
           exact ⟨h,lo,hi,m,L,t.fup i e⟩)
theorem TInv.ref{a:Nat}(I_:TInv n f N C R)(g:f<=a/\a<n):TInv n f N (fup C a (C a+1)) (a::R):=by
 refine ⟨λp b d=>?_,λp hp=>?_,λq c hq=>?_,I_.nds,I_.hg⟩
 ·have:=I_.cnt p b d
  simp only[Aff];by_cases e:p=a
  ·subst e;rw[BK];simp;omega
  rw[fup_ne _ _ e];have:(a==p)=false:=by simp[AfV e]
  rw[this];simp;omega
 ·rcases Aeq.1 hp with rfl|hp
  ·exact g
  exact I_.rin _ hp
 have:=I_.nin q c hq;refine ⟨this.1,this.2.1,?_⟩;unfold fup;split<;>omega
theorem TInv.unref{a:Nat}(I_:TInv n f N C (a::R))(h:2<=C a):TInv n f N (fup C a (C a-1)) R:=by
 refine ⟨λp b d=>?_,λp hp=>I_.rin p (by simp[hp]),λq c hq=>?_,I_.nds,I_.hg⟩
 ·have:=I_.cnt p b d
  simp only[Aff] at this;by_cases e:p=a
  ·subst e;rw[BK];simp at this;omega
  rw[fup_ne _ _ e];have g:(a==p)=false:=by simp[AfV e]
  rw[g] at this;simpa using this
 have:=I_.nin q c hq;refine ⟨this.1,this.2.1,?_⟩;unfold fup;split<;>omega
theorem TInv.drop{a:Nat}(I_:TInv n f N C (a::R))(h:C a=1)(hN:∀d,N a≠some (.nd d)):TInv n f (fup N a none) (fup C a 0) R/\∀q d,N q=some (.nd d)->a∉vals d.es:=by
  have b:∀q d,N q=some (.nd d)->a∉vals d.es:=λq d hq=>I_.noref (by simp[h]) hq;have k:=I_.rin a O;have r:∀p,EN (N a) p=0:=λp=>by
    unfold EN;split
    · rename_i d l;exact absurd l (hN d)
    · rfl
  refine ⟨⟨λp g i=>?_,λp hp=>I_.rin p (by simp[hp]),λq c hq=>?_,λq c hq=>?_,λq c hq=>?_⟩,b⟩
  · have:=I_.cnt p g i
    have j:=FV N p a none n k.2;rw[r p] at j;simp only[EN] at j;simp only[Aff] at this;by_cases e:p=a
    · subst e;rw[BK];simp at this;omega
    · rw[fup_ne _ _ e];have o:(a==p)=false:=by simp[AfV e]
      rw[o] at this;simp at this;omega
  all_goals
    by_cases e:q=a
    · subst e;rw[BK] at hq;cases hq
    · rw[fup_ne _ _ e] at hq
      first
        | (rw[fup_ne _ _ e];exact I_.nin q c hq)
        | exact I_.nds q c hq
        | (obtain ⟨h,lo,hi,m,L,t⟩:=I_.hg q c hq
           exact ⟨h,lo,hi,m,L,t.fup b e⟩)
end

def putE(k:Int)(v:Nat):List E->List E
 | []=>[(k,v)]
 | e::t=>if e.1<k then e::putE k v t else if e.1=k then (k,v)::t else (k,v)::e::t
def BY(k:Int)(es:List E):List E:=es.filter (λe=>decide (e.1≠k))
def CE(k:Int)(es:List E):Prop:=∃v,(k,v)∈es
theorem Srt.cons{e:E}{t:List E}:Srt (e::t)↔(∀x∈t,e.1<x.1)/\Srt t:=List.pairwise_cons
theorem Srt.app{A B:List E}:Srt (A++B)↔Srt A/\Srt B/\∀a∈A,∀b∈B,a.1<b.1:=List.pairwise_append
theorem putE_mem{es:List E}(h:Srt es)(x:E):x∈putE s m es↔x=(s,m)\/(x∈es/\x.1≠s):=by
 induction es with
 | nil=>simp[putE]
 | cons e t ih=>
  obtain ⟨d,g⟩:=Srt.cons.1 h;simp only[putE];split
  ·rename_i i
   rw[Aeq,ih g,Aeq];constructor
   ·rintro (rfl|rfl|⟨a,b⟩)
    ·exact .inr ⟨.inl Z,by omega⟩
    ·exact .inl Z
    exact .inr ⟨.inr a,b⟩
   rintro (rfl|⟨rfl|a,b⟩)
   ·exact .inr (.inl Z)
   ·exact .inl Z
   exact .inr (.inr ⟨a,b⟩)
  split
  ·rename_i f c
   rw[Aeq,Aeq];constructor
   ·rintro (rfl|a)
    ·exact .inl Z
    exact .inr ⟨.inr a,by have:=d x a;omega⟩
   rintro (rfl|⟨rfl|a,b⟩)
   ·exact .inl Z
   ·exact absurd c b
   exact .inr a
  rename_i f c;rw[Aeq,Aeq];constructor
  ·rintro (rfl|rfl|a)
   ·exact .inl Z
   ·exact .inr ⟨.inl Z,c⟩
   exact .inr ⟨.inr a,by have:=d x a;omega⟩
  rintro (rfl|⟨rfl|a,b⟩)
  ·exact .inl Z
  ·exact .inr (.inl Z)
  exact .inr (.inr a)
theorem Kj{k:Int}{v:Nat}{es:List E}(h:Srt es):Srt (putE k v es):=by
 induction es with
 | nil=>simp[putE,Srt]
 | cons e t ih=>
  obtain ⟨c,d⟩:=Srt.cons.1 h;simp only[putE];split
  ·refine Srt.cons.2 ⟨λx b=>?_,ih d⟩
   rcases (putE_mem d x).1 b with rfl|⟨a,_⟩
   ·assumption
   exact c x a
  split
  ·exact Srt.cons.2 ⟨λx b=>by have:=c x b;dsimp only;omega,d⟩
  refine Srt.cons.2 ⟨λx b=>?_,h⟩;rcases Aeq.1 b with rfl|b
  ·dsimp only;omega
  have:=c x b;dsimp only;omega
theorem putE_lt{A:List E}(B:List E)(h:∀e∈A,e.1<s):putE s m (A++B)=A++putE s m B:=by
 induction A with
 | nil=>rfl
 | cons e t ih=>simp only[AfD,putE];rw[if_pos (h e O),ih (λx a=>h x (by simp[a]))]
theorem MU{B:List E}(h:∀e∈B,s<e.1):putE s m B=(s,m)::B:=by
 cases B with
 | nil=>rfl
 | cons e t=>have:=h e O;simp only[putE];rw[if_neg U,if_neg U]
theorem QH{A:List E}{B:List E}(h:∀e∈B,s<e.1):putE s m (A++B)=putE s m A++B:=by
 induction A with
 | nil=>simp only[AeT];rw[MU h];rfl
 | cons e t ih=>
  simp only[AfD,putE];split
  ·rw[ih];rfl
  split<;>rfl
theorem putE_new{A B:List E}(a:∀e∈A,e.1<t)(b:∀e∈B,t<e.1):putE t m (A++B)=A++(t,m)::B:=by
 rw[putE_lt B a,MU b]
theorem Ed{A:List E}{B:List E}(a:∀e∈A,e.1<t):putE t m (A++(t,i)::B)=A++(t,m)::B:=by
 rw[putE_lt _ a];simp[putE]
theorem Kk(k:Int)(A B:List E):BY k (A++B)=BY k A++BY k B:=AfQ ..
theorem GA{A:List E}(h:∀e∈A,e.1≠t):BY t A=A:=by
 refine Agw.2 (λe a=>decide_eq_true (h e a))
theorem L7{A B:List E}(h:Srt (A++(t,m)::B)):BY t (A++(t,m)::B)=A++B:=by
 obtain ⟨f,b,d⟩:=Srt.app.1 h;obtain ⟨c,g⟩:=Srt.cons.1 b;rw[Kk,GA (λe a=>by have:=d e a (t,m) O;dsimp only at this;omega)];congr 1;have:BY t ((t,m)::B)=BY t B:=by simp[BY]
 rw[this,GA (λe a=>by have:=c e a;dsimp only at this;omega)]
theorem key_split{es:List E}(h:Srt es)(k:Int):(∃A v B,es=A++(k,v)::B/\∀e∈A,e.1<k)\/(¬CE k es/\∃A B,es=A++B/\(∀e∈A,e.1<k)/\∀e∈B,k<e.1):=by
 induction es with
 | nil=>exact .inr ⟨by simp[CE],[],[],Z,by simp,by simp⟩
 | cons e t ih=>
  obtain ⟨f,g⟩:=Srt.cons.1 h;rcases Int.lt_trichotomy e.1 k with q|q|q
  ·rcases ih g with ⟨A,v,B,rfl,d⟩|⟨d,A,B,rfl,i,j⟩
   ·exact .inl ⟨e::A,v,B,Z,λx b=>by rcases Aeq.1 b with rfl|b;exact q;exact d x b⟩
   refine .inr ⟨?_,e::A,B,Z,λx b=>by rcases Aeq.1 b with rfl|b;exact q;exact i x b,j⟩;rintro ⟨v,c⟩;rcases Aeq.1 c with rfl|c
   ·dsimp only at q;omega
   exact d ⟨v,c⟩
  ·obtain ⟨a,v⟩:=e
   dsimp only at q;subst q;exact .inl ⟨[],v,t,Z,by simp⟩
  refine .inr ⟨?_,[],e::t,Z,by simp,λx b=>?_⟩
  ·rintro ⟨v,c⟩
   rcases Aeq.1 c with rfl|c
   ·dsimp only at q;omega
   have:=f _ c;dsimp only at this;omega
  rcases Aeq.1 b with rfl|b
  ·exact q
  have:=f x b;omega
theorem TK(A B:List E)(hi:Int):nx (A++B) hi=nx A (nx B hi):=by cases A<;>rfl
theorem Adg{es:List E}(h:t<=s):nx es t<=nx es s:=by cases es<;>simp[nx,h]
theorem Sq.app{P:Nat->Int->Int->List E->Prop}{A B:List E}{hi:Int}{L:List E}:Sq P (A++B) hi L↔∃L1 L2,L=L1++L2/\Sq P A (nx B hi) L1/\Sq P B hi L2:=by
 induction A generalizing L with
 | nil=>
  simp only[AeT,Sq];exact ⟨λh=>⟨[],L,Z,Z,h⟩,λ⟨L1,L2,f,a,c⟩=>by subst f a;exact c⟩
 | cons e t ih=>
  simp only[AfD,Sq];constructor
  ·rintro ⟨L1,L2,rfl,a,c⟩
   obtain ⟨M1,M2,rfl,b,d⟩:=ih.1 c;exact ⟨L1++M1,M2,by simp,⟨L1,M1,Z,by rw[<-TK];exact a,b⟩,d⟩
  rintro ⟨_,M2,rfl,⟨L1,M1,rfl,a,b⟩,d⟩;exact ⟨L1,M1++M2,by simp,by rw[TK];exact a,ih.2 ⟨M1,M2,Z,b,d⟩⟩
theorem Bd.app{N:Hm}{h:Nat}{A B:List E}{hi:Int}{L:List E}:Bd N h (A++B) hi L↔∃L1 L2,L=L1++L2/\Bd N h A (nx B hi) L1/\Bd N h B hi L2:=by
 cases h with
 | zero=>
  constructor
  ·rintro ⟨rfl,h⟩
   exact ⟨A,B,Z,⟨Z,λe a=>h e (by simp[a])⟩,⟨Z,λe a=>h e (by simp[a])⟩⟩
  rintro ⟨_,_,rfl,⟨rfl,b⟩,⟨rfl,c⟩⟩;refine ⟨Z,λe a=>?_⟩;rcases Aes.1 a with a|a
  ·exact b e a
  exact c e a
 | succ h=>exact Sq.app
theorem Bd.hi{N:Hm}{h:Nat}{es:List E}{hi a:Int}{L:List E}(b:Bd N h es hi L)(f:hi<=a):Bd N h es a L:=by
 cases h with
 | zero=>exact b
 | succ h=>
  induction es generalizing L with
  | nil=>exact b
  | cons e t ih=>
   obtain ⟨L1,L2,c,d,g⟩:=b;exact ⟨L1,L2,c,d.mono (Afo _) (Adg f) (Ael _),ih g⟩
theorem Bd.fup{N:Hm}{a:Nat}{o:Option Pc}(f:∀q d,N q=some (.nd d)->a∉vals d.es){h:Nat}{es:List E}{hi:Int}{L:List E}(g:a∉vals es)(b:Bd N h es hi L):Bd (fup N a o) h es hi L:=by
 cases h with
 | zero=>exact ⟨b.1,λe c=>by rw[fup_ne _ _ (λq=>g (by rw[<-q];exact AeD c))];exact b.2 e c⟩
 | succ h=>exact Sq.imp b λe c _ _ q=>q.fup f (λq=>g (by rw[<-q];exact AeD c))
theorem Sq.srt{P:Nat->Int->Int->List E->Prop}{es:List E}{hi:Int}{L:List E}(h:Sq P es hi L)(hs:Srt es)(c:∀e∈es,e.1<hi)(d:∀e∈es,∀b L,P e.2 e.1 b L->Srt L/\B5 e.1 b L):Srt L/\B5 (nx es hi) hi L/\nx es hi<=hi:=by
 induction es generalizing L with
 | nil=>subst h;exact ⟨by simp[Srt],by simp[B5],Afo _⟩
 | cons e t ih=>
  obtain ⟨L1,L2,rfl,j,m⟩:=h;obtain ⟨g,i⟩:=Srt.cons.1 hs;obtain ⟨a1,a2,a3⟩:=ih m i (λx a=>c x (by simp[a])) (λx a=>d x (by simp[a]));obtain ⟨k,f⟩:=d e O _ _ j;have n:e.1<=nx t hi:=by
   cases t with
   | nil=>have:=c e O;simp only[nx];omega
   | cons x t=>have:=g x O;simp only[nx];omega
  refine ⟨Srt.app.2 ⟨k,a1,λx a y l=>by have:=f x a;have:=a2 y l;omega⟩,λx a=>?_,by have:=c e O;simp only[nx];omega⟩;simp only[nx];rcases Aes.1 a with a|a
  ·have:=f x a;omega
  have:=a2 x a;omega
theorem Tr.srt{N:Hm}{h r:Nat}{lo hi:Int}{m:Nat}{L:List E}(t:Tr N h r lo hi m L):Srt L/\B5 lo hi L:=by
 induction h generalizing r lo hi m L with
 | zero=>
  obtain ⟨es,_,_,c,a,rfl,_⟩:=t;exact ⟨a.srt,c⟩
 | succ h ih=>
  obtain ⟨es,_,_,c,a,i⟩:=t;have:=Sq.srt i a.srt (λe f=>(c e f).2) (λe f b L q=>ih q);refine ⟨this.1,λx g=>?_⟩;have d:=this.2.1 x g
  cases es with
  | nil=>exact absurd Z (a.ne Z)
  | cons e t=>have:=c e O;simp only[nx] at d;omega
theorem Tr.uniq{N:Hm}{h h':Nat}{lo hi:Int}{L L':List E}(t:Tr N h r lo hi m L)(t':Tr N h' r s p i L'):h=h'/\L=L':=by
 induction h generalizing h' r lo hi s p m i L L' with
 | zero=>
  obtain ⟨es,g,_,_,_,rfl,_⟩:=t
  cases h' with
  | zero=>
   obtain ⟨f,d,_,_,_,rfl,_⟩:=t';rw[g] at d;cases d;exact ⟨Z,Z⟩
  | succ h'=>
   obtain ⟨f,d,_⟩:=t';rw[g] at d;cases d
 | succ h ih=>
  obtain ⟨es,g,_,_,k,u⟩:=t
  cases h' with
  | zero=>
   obtain ⟨f,d,_⟩:=t';rw[g] at d;cases d
  | succ h'=>
   obtain ⟨f,d,_,_,_,j⟩:=t';rw[g] at d;cases d;have key:∀es (L L':List E),Sq (λc a b L=>Tr N h c a b 4 L) es hi L->Sq (λc a b L=>Tr N h' c a b 4 L) es p L'->(es≠[]->h=h')/\L=L':=by
    intro es
    induction es with
    | nil=>intro L L' a b;exact ⟨λq=>absurd Z q,a.trans b.symm⟩
    | cons e t ih2=>
     rintro _ _ ⟨L1,L2,rfl,a2,a3⟩ ⟨M1,M2,rfl,l,o⟩;obtain ⟨n,rfl⟩:=ih a2 l;obtain ⟨_,rfl⟩:=ih2 _ _ a3 o;exact ⟨λ_=>n,Z⟩
   obtain ⟨a,b⟩:=key es L L' u j;exact ⟨by rw[a (k.ne Z)],b⟩

def chI(es:List E)(k:Int):Nat:=(es.takeWhile λe=>decide (e.1<=k)).length-1
theorem GZ{es:List E}(h:Srt es)(k:Int):∃A B,es=A++B/\(es.takeWhile λe=>decide (e.1<=k))=A/\(∀e∈A,e.1<=k)/\∀e∈B,k<e.1:=by
 induction es with
 | nil=>exact ⟨[],[],Z,Z,by simp,by simp⟩
 | cons e t ih=>
  obtain ⟨f,g⟩:=Srt.cons.1 h;by_cases q:e.1<=k
  ·obtain ⟨A,B,rfl,a,b,c⟩:=ih g
   refine ⟨e::A,B,Z,?_,λx d=>?_,c⟩
   ·rw[List.takeWhile_cons,if_pos (decide_eq_true q),a]
   rcases Aeq.1 d with rfl|d
   ·exact q
   exact b x d
  refine ⟨[],e::t,Z,?_,by simp,λx d=>?_⟩
  ·rw[List.takeWhile_cons,if_neg (by simpa using q)]
  rcases Aeq.1 d with rfl|d
  ·omega
  have:=f x d;omega
theorem PF{es:List E}(h:Srt es)(b:es≠[])(k:Int):∃A e B,es=A++e::B/\A.length=chI es k/\(A=[]\/e.1<=k)/\(∀x∈A,x.1<e.1)/\∀x∈B,k<x.1/\e.1<x.1:=by
 obtain ⟨A,B,e1,e2,c,d⟩:=GZ h k;unfold chI;rw[e2];rcases List.eq_nil_or_concat A with rfl|⟨A',e,rfl⟩
 ·obtain ⟨e,t,rfl⟩:=AfI b
  simp only[AeT] at e1;subst e1;exact ⟨[],e,t,Z,Z,.inl Z,by simp,λx a=>⟨d x (by simp[a]),(Srt.cons.1 h).1 x a⟩⟩
 subst e1;rw[List.concat_eq_append] at h c ⊢;rw[Aek] at h;obtain ⟨_,f,g⟩:=Srt.app.1 h;refine ⟨A',e,B,by simp,by simp,.inr (c e O),λx a=>g x a e O,λx a=>⟨d x a,(Srt.cons.1 f).1 x a⟩⟩
theorem XD{B:List E}(h:∀x∈B,p<x.1)(a:p<s):p<nx B s:=by
 cases B with
 | nil=>exact a
 | cons e t=>exact h e O
theorem RS{B:List E}(h:∀x∈B,x.1<s):nx B s<=s:=by
 cases B with
 | nil=>exact Afo _
 | cons e t=>exact AgW (h e O)
theorem Sq.at{P:Nat->Int->Int->List E->Prop}{A B:List E}{e:E}{hi:Int}{L:List E}(h:Sq P (A++e::B) hi L):∃L0 Lc L2,L=L0++(Lc++L2)/\Sq P A e.1 L0/\P e.2 e.1 (nx B hi) Lc/\Sq P B hi L2:=by
 obtain ⟨L0,L3,rfl,a,L1,L2,rfl,b,c⟩:=Sq.app.1 h;exact ⟨L0,L1,L2,Z,a,b,c⟩
theorem Sq.mk{P:Nat->Int->Int->List E->Prop}{A B:List E}{e:E}{hi:Int}{L0 Lc L2:List E}(a:Sq P A e.1 L0)(c:P e.2 e.1 (nx B hi) Lc)(b:Sq P B hi L2):Sq P (A++e::B) hi (L0++(Lc++L2)):=
 Sq.app.2 ⟨L0,_,Z,a,Lc,L2,Z,c,b⟩
theorem Sq.nilK{P:Nat->Int->Int->List E->Prop}{A:List E}{a b:Int}{L:List E}(h:Sq P A a L)(q:A=[]\/a=b):Sq P A b L:=by
 rcases q with rfl|rfl
 ·exact h
 exact h
theorem Sq.sides{N:Hm}{h:Nat}{A B:List E}{e:E}{hi:Int}{L0 L2:List E}{k:Int}(hs:Srt (A++e::B))(l:∀x∈A++e::B,x.1<hi)(f:Sq (λc a b L=>Tr N h c a b 4 L) A e.1 L0)(p:Sq (λc a b L=>Tr N h c a b 4 L) B hi L2)
  (g:A=[]\/e.1<=k)(o:∀x∈B,k<x.1)(n:k<hi):(∀x∈L0,x.1<k)/\∀x∈L2,k<x.1:=by
 obtain ⟨i,j,m⟩:=Srt.app.1 hs;have a1:=Sq.srt f i (λx d=>m x d e O) (λ_ _ _ _ q=>Tr.srt q);have a3:=Sq.srt p (Srt.cons.1 j).2 (λx d=>l x (by simp[d])) (λ_ _ _ _ q=>Tr.srt q);refine ⟨λx d=>?_,λx d=>?_⟩
 ·rcases g with rfl|g
  ·simp only[Sq] at f;subst f;simp at d
  have:=a1.2.1 x d;omega
 have:=a3.2.1 x d;have:=XD o n;omega

theorem OO{es:List E}(hs:Srt es)(h8:es.length=8){v:Nat}(j:¬CE p es):
  ∃a b,putE p v es=a++b/\4<=a.length/\a.length<=5/\4<=b.length/\b.length<=5/\(nx (es.drop 4) 0<=p->a=es.take 4/\b=putE p v (es.drop 4))/\(p<nx (es.drop 4) 0->a=putE p v (es.take 4)/\b=es.drop 4):=by
 have d:=AeO 4 es;have g:=hs;rw[<-d] at g;obtain ⟨m,h,z⟩:=Srt.app.1 g;have c:∀xs:List E,Srt xs->¬CE p xs->(putE p v xs).length=xs.length+1:=λxs s q=>by
  rcases key_split s p with ⟨A,w,B,rfl,_⟩|⟨_,A,B,rfl,l,o⟩
  ·exact absurd ⟨w,by simp⟩ q
  rw[putE_new l o];simp;omega
 have n:¬CE p (es.take 4):=λ⟨w,i⟩=>j ⟨w,Afi i⟩;have u:¬CE p (es.drop 4):=λ⟨w,i⟩=>j ⟨w,Afw i⟩;have l1:=c _ m n;have l2:=c _ h u;have l3:(es.take 4).length=4:=by rw[AeA];omega
 have k:(es.drop 4).length=4:=by rw[AeP];omega
 obtain ⟨y,t,e⟩:∃y t,es.drop 4=y::t:=AfI (by intro q;rw[q] at k;simp at k);by_cases q:nx (es.drop 4) 0<=p
 ·refine ⟨es.take 4,putE p v (es.drop 4),?_,by omega,by omega,by omega,by omega,λ_=>⟨Z,Z⟩,λr=>absurd q U⟩
  rw[<-putE_lt _ (λx f=>?_),d];rw[e] at q;simp only[nx] at q;have:=z x f y (by rw[e];simp);omega
 refine ⟨putE p v (es.take 4),es.drop 4,?_,by omega,by omega,by omega,by omega,λr=>absurd r q,λ_=>⟨Z,Z⟩⟩;rw[<-QH (λx f=>?_),d];rw[e] at q f h;simp only[nx] at q;rcases Aeq.1 f with rfl|f
 ·omega
 have:=(Srt.cons.1 h).1 x f;omega
theorem OP{a b:List E}(hs:Srt (a++b))(d:B5 s p (a++b))(h:a≠[])(g:b≠[]):B5 s (nx b p) a/\B5 (nx b p) p b/\s<nx b p/\nx b p<p:=by
 obtain ⟨i,f,e⟩:=Srt.app.1 hs;obtain ⟨y,t,rfl⟩:=AfI g;obtain ⟨x,u,rfl⟩:=AfI h;simp only[nx];refine ⟨λz c=>⟨(d z (Agp _ c)).1,e z c y O⟩,λz c=>⟨?_,(d z (AgF _ c)).2⟩,?_,(d y O).2⟩
 ·rcases Aeq.1 c with rfl|c
  ·exact Afo _
  exact AgW ((Srt.cons.1 f).1 z c)
 have:=e x O y O;have:=(d x O).1;omega
end
variable{X:List E}
section
variable{Tb:Ai}
abbrev kL(es:List E):List Int:=es.map Prod.fst
abbrev vL(es:List E):List Int:=es.map λe=>(e.2:Int)
def Fd(d:Nd):Pg:=⟨if d.lf then 4 else 3,Hf d.lf (kL d.es) (vL d.es)⟩
def Mc:Pc->Pg
 | .nd d=>Fd d
 | .dt b=>⟨5,b⟩
theorem JD{d:Nd}(h:d.es.length<=8):(Fd d).Ok:=by
 refine ⟨?_,YH O (by simpa using h)⟩;unfold Fd;dsimp only;split<;>omega
structure TS where
 N:Hm
 C:Nat->Nat
 F:Nat->Bool
 k:Nat
structure TB where
 N:Hm
 C:Nat->Nat
 R:List Nat
abbrev TT:=Option (TS×List Nat)
structure Rel(n:Nat)(M:Nat->Pg)(N:Hm)(C:Nat->Nat)(R:List Nat):Prop where
 m:∀p c,N p=some c->M p=Mc c/\(Mc c).Ok
 i:TInv n (manyN n+1) N C R
def trA(Tb:Ai)(pp mb n:Nat)(o:TB):TT->Ai
 | none=>λh=>∃M0,Rel n M0 o.N o.C o.R/\poA Tb pp mb n M0 o.C none h
 | some s=>λh=>∃M0 M,(Rel n M0 o.N o.C o.R/\Rel n M s.1.N s.1.C s.2)/\poA Tb pp mb n M0 o.C (some ⟨M,s.1.C,s.1.F,s.1.k⟩) h
def Dm(o:TB):TT->Hm
 | none=>o.N
 | some s=>s.1.N
def curC(o:TB):TT->Nat->Nat
 | none=>o.C
 | some s=>s.1.C
def Wg(n:Nat)(o:TB):TT->Nat->Bool
 | none=>AR n o.C
 | some s=>s.1.F
def CV(o:TB):TT->List Nat
 | none=>o.R
 | some s=>s.2
variable{z w:World}{Γ:List Ai}{pp mb n:Nat}{o:TB}{t t':TS}{R:List Nat}{T:TT}
structure TrK(n:Nat)(o:TB)(T:TT):Prop where
 hn:16<=n/\n<=1024
 i:TInv n (manyN n+1) (Dm o T) (curC o T) (CV o T)
 one:∀p,p<=manyN n->curC o T p=1
 fr:∀p,Wg n o T p=true->p<n/\curC o T p=0/\manyN n<p
theorem trA.k{h:Hp}(a:trA Tb pp mb n o T h):TrK n o T:=by
 cases T with
 | none=>
  obtain ⟨M0,c,a⟩:=a;have d:=a.hn;refine ⟨d,c.i,a.c0.2,λp hp=>?_⟩;have b:AR n o.C p=true:=hp;simp[AR] at b;refine ⟨b.1,b.2,?_⟩;rcases Aeu (manyN n) p with q|q
  ·exact q
  have:=a.c0.2 p q;omega
 | some s=>
  obtain ⟨M0,M,c,a⟩:=a;exact ⟨a.hn,c.2.i,a.k.one,a.k.free⟩
theorem trA.perm{R':List Nat}{h:Hp}(hp:R.Perm R')(a:trA Tb pp mb n o (some (t,R)) h):trA Tb pp mb n o (some (t,R')) h:=by
 obtain ⟨M0,M,b,a⟩:=a;exact ⟨M0,M,⟨b.1,⟨b.2.m,b.2.i.perm hp⟩⟩,a⟩
theorem trA.opens{a:Nat}{d:Nd}{h:Hp}(x:trA Tb pp mb n o (some (t,a::R)) h)(f:t.C a=1)(hN:t.N a=some (.nd d)):trA Tb pp mb n o (some ({t with N:=fup t.N a none},a::(vals d.es++R))) h:=by
 obtain ⟨M0,M,b,x⟩:=x;refine ⟨M0,M,⟨b.1,⟨λp c hp=>?_,(b.2.i.opens f hN).1⟩⟩,x⟩;have hp:fup t.N a none p=some c:=hp;by_cases e:p=a
 ·subst e;rw[BK] at hp;cases hp
 rw[fup_ne _ _ e] at hp;exact b.2.m p c hp
theorem Sep.tr1(H:Sep z (trA Tb pp mb n o (some (t,R))::Γ) w):∃x:(Nat->Pg)×(Nat->Pg),(Rel n x.1 o.N o.C o.R/\Rel n x.2 t.N t.C R)/\Sep z (poA Tb pp mb n x.1 o.C (some ⟨x.2,t.C,t.F,t.k⟩)::Γ) w:=by
 obtain ⟨⟨x,hp⟩,c⟩:=H.ex 0 (σ:= {x:(Nat->Pg)×(Nat->Pg) // Rel n x.1 o.N o.C o.R/\Rel n x.2 t.N t.C R}) (B:=λx=>poA Tb pp mb n x.1.1 o.C (some ⟨x.1.2,t.C,t.F,t.k⟩)) Z (λh q=>by
  obtain ⟨M0,M,b,a⟩:=q;exact ⟨⟨(M0,M),b⟩,a⟩)
 exact ⟨x,hp,c⟩
theorem Sep.toTr1{M0 M:Nat->Pg}{k:Nat}(H:Sep z (poA Tb pp mb n M0 o.C (some ⟨M,C,F,k⟩)::Γ) w)(c:Rel n M0 o.N o.C o.R){N:Hm}(b:Rel n M N C R):Sep z (trA Tb pp mb n o (some (⟨N,C,F,k⟩,R))::Γ) w:=
 H.mono 0 (B:=trA Tb pp mb n o (some (⟨N,C,F,k⟩,R))) Z (λh a=>⟨M0,M,⟨c,b⟩,a⟩)
theorem Sep.tr0(H:Sep z (trA Tb pp mb n o none::Γ) w):∃M0,Rel n M0 o.N o.C o.R/\Sep z (poA Tb pp mb n M0 o.C none::Γ) w:=by
 obtain ⟨⟨x,hp⟩,c⟩:=H.ex 0 (σ:= {x:Nat->Pg // Rel n x o.N o.C o.R}) (B:=λx=>poA Tb pp mb n x.1 o.C none) Z (λh q=>by
  obtain ⟨M0,b,a⟩:=q;exact ⟨⟨M0,b⟩,a⟩)
 exact ⟨x,hp,c⟩
theorem Sep.toTr0{M0:Nat->Pg}(H:Sep z (poA Tb pp mb n M0 o.C none::Γ) w)(b:Rel n M0 o.N o.C o.R):Sep z (trA Tb pp mb n o none::Γ) w:=
 H.mono 0 (B:=trA Tb pp mb n o none) Z (λh a=>⟨M0,b,a⟩)
theorem Zz{pp mb n:Nat}{o:TB}:Ak 70 [Y pp] [trA Tb pp mb n o none] (λv G=>v=I 0/\G=[trA Tb pp mb n o (some (⟨o.N,o.C,AR n o.C,0⟩,o.R))]):=by
 intro z R w H;obtain ⟨M0,a,H⟩:=H.tr0;refine Ret.mono (Cn.at (Zp pp mb n M0 o.C) H 1 [0] Z Z) ?_;rintro v c ⟨Γ',⟨rfl,rfl⟩,b⟩;exact ⟨_,⟨Z,Z⟩,Sep.toTr1 (C:=o.C) (F:=AR n o.C) (k:=0) (M:=M0) b a a⟩
theorem ZA{pp mb n:Nat}{o:TB}{s:TS×List Nat}:Ak 71 [Y pp] [trA Tb pp mb n o (some s)] (λv G=>v=.tuple #[]/\G=[trA Tb pp mb n o none]):=by
 obtain ⟨t,R⟩:=s;intro z R w H;obtain ⟨⟨M0,M⟩,b,H⟩:=H.tr1;refine Ret.mono (Cn.at (Zq pp mb n M0 o.C ⟨M,t.C,t.F,t.k⟩) H 1 [0] Z Z) ?_;rintro v c ⟨Γ',⟨rfl,rfl⟩,a⟩;exact ⟨_,⟨Z,Z⟩,Sep.toTr0 a b.1⟩
theorem Wh{pp mb n:Nat}{o:TB}(t:TS)(R:List Nat)(c:t.k+manyN n<=40)(b:mb<=1000000000):Ak 134 [Y pp] [trA Tb pp mb n o (some (t,R))] (λv G=>v=I 0/\G=[trA Tb pp (mb+2) n ⟨t.N,t.C,R⟩ none]):=by
 intro z R w H;obtain ⟨⟨M0,M⟩,a,H⟩:=H.tr1;refine Ret.mono (Cn.at (V8 pp mb n M0 o.C ⟨M,t.C,t.F,t.k⟩ c b) H 1 [0] Z Z) ?_;rintro v e ⟨Γ',⟨rfl,rfl⟩,d⟩;exact ⟨_,⟨Z,Z⟩,Sep.toTr0 (o:=⟨t.N,t.C,_⟩) d a.2⟩
theorem Sep.trP(H:Sep z (trA Tb pp mb n o T::Γ) w):∃(M0:Nat->Pg) (u:Option PoT),(poC o.C u=curC o T/\XB n o.C u=Wg n o T/\u.isSome=T.isSome/\(∀p c,Dm o T p=some c->poM M0 u p=Mc c/\(Mc c).Ok))/\Sep z (poA Tb pp mb n M0 o.C u::Γ) w/\∀Γ' b,Sep z (poA Tb pp mb n M0 o.C u::Γ') b->Sep z (trA Tb pp mb n o T::Γ') b:=by
 cases T with
 | none=>
  obtain ⟨M0,a,H⟩:=H.tr0;exact ⟨M0,none,⟨Z,Z,Z,a.m⟩,H,λ_ b d=>d.toTr0 a⟩
 | some s=>
  obtain ⟨t,R⟩:=s;obtain ⟨⟨M0,M⟩,a,H⟩:=H.tr1;exact ⟨M0,some ⟨M,t.C,t.F,t.k⟩,⟨Z,Z,Z,a.2.m⟩,H,λ_ b d=>Sep.toTr1 (C:=t.C) (F:=t.F) (k:=t.k) d a.1 a.2⟩
theorem Md(pp mb n:Nat)(o:TB){T:TT}(p:Nat)(hp:p<n):Ak 125 [Y pp,I (p:Int)] [trA Tb pp mb n o T] (λv G=>v=I (curC o T p:Int)/\G=[trA Tb pp mb n o T]):=by
 intro z R w H;obtain ⟨M0,u,⟨b,_⟩,H,a⟩:=H.trP;refine Ret.mono (Cn.at (Zs pp mb n M0 o.C u p hp) H 1 [0] Z Z) ?_;rintro v d ⟨Γ',⟨rfl,rfl⟩,c⟩;exact ⟨_,⟨by rw[b],Z⟩,a _ _ c⟩
theorem I8{pp mb n:Nat}{o:TB}(T:TT):Ak 8 [Y pp] [trA Tb pp mb n o T] (λv G=>v=I (cnt (Wg n o T) 0 1024:Int)/\G=[trA Tb pp mb n o T]):=by
 intro z R w H;obtain ⟨M0,u,⟨_,b,_⟩,H,a⟩:=H.trP;refine Ret.mono (Cn.at (AbS pp mb n M0 o.C u) H 1 [0] Z Z) ?_;rintro v d ⟨Γ',⟨rfl,rfl⟩,c⟩;exact ⟨_,⟨by rw[b],Z⟩,a _ _ c⟩
theorem GB(pp mb n:Nat)(o:TB)(T:TT):Ak 18 [Y pp] [trA Tb pp mb n o T] (λv G=>v=.bool T.isSome/\G=[trA Tb pp mb n o T]):=by
 intro z R w H;obtain ⟨M0,u,⟨_,_,b,_⟩,H,a⟩:=H.trP;refine Ret.mono (Cn.at (Zt pp mb n M0 o.C u) H 1 [0] Z Z) ?_;rintro v d ⟨Γ',⟨rfl,rfl⟩,c⟩;exact ⟨_,⟨by rw[b],Z⟩,a _ _ c⟩

structure St(t t':TS)(R:List Nat)(df dk:Nat):Prop where
 fr:∀c∈R,∀h lo hi m L,Tr t.N h c lo hi m L->Tr t'.N h c lo hi m L
 dt:∀c∈R,∀b,t.N c=some (.dt b)->t'.N c=some (.dt b)
 f1:∀p,t'.F p=true->t.F p=true
 ev:∀v b,t.F v=false->t'.N v=some (.dt b)->t.N v=some (.dt b)
 f:cnt t.F 0 1024<=cnt t'.F 0 1024+df
 k:t'.k<=t.k+dk
 op:∀c∈R,t.N c=none->t.C c=1->t'.N c=none/\t'.C c=1
theorem St.trans{t1 t2 t3:TS}{R R1 R2:List Nat}{a b c d f:Nat}(x:St t1 t2 R1 a b)(y:St t2 t3 R2 c d)(i:∀p∈R,p∈R1)(j:∀p∈R,p∈R2)(o:a+c<=e)(n:b+d<=f):St t1 t3 R e f:=by
 refine ⟨λc g h lo hi m L q=>y.fr c (j c g) _ _ _ _ _ (x.fr c (i c g) _ _ _ _ _ q),λc g b q=>y.dt c (j c g) b (x.dt c (i c g) b q),λp q=>x.f1 p (y.f1 p q),λv b l q=>x.ev v b l (y.ev v b ?_ q),?_,?_,λc g a b=>by obtain ⟨a',b'⟩:=x.op c (i c g) a b;exact y.op c (j c g) a' b'⟩
 ·cases e:t2.F v with
  | false=>rfl
  | true=>have:=x.f1 v e;rw[l] at this;cases this
 ·have:=x.f;have:=y.f;omega
 have:=x.k;have:=y.k;omega
theorem St.sub{R R':List Nat}{a b c d:Nat}(x:St t t' R a b)(h:∀p∈R',p∈R)(g:a<=c)(i:b<=d):St t t' R' c d:=
 ⟨λc e=>x.fr c (h c e),λc e=>x.dt c (h c e),x.f1,x.ev,Agu x.f U,Agu x.k U,λc e=>x.op c (h c e)⟩
theorem St.bd{R:List Nat}{a b:Nat}(x:St t t' R a b){h:Nat}{es:List E}{hi:Int}{L:List E}(d:∀v∈vals es,v∈R)(q:Bd t.N h es hi L):Bd t'.N h es hi L:=by
 cases h with
 | zero=>exact ⟨q.1,λe c=>by obtain ⟨b,f⟩:=q.2 e c;exact ⟨b,x.dt _ (d _ (AeD c)) b f⟩⟩
 | succ h=>exact Sq.imp q λe c _ _ r=>x.fr _ (d _ (AeD c)) _ _ _ _ _ r
theorem St.one{a:Nat}{c:Option Pc}{k:Nat}(n:∀q d,t.N q=some (.nd d)->a∉vals d.es)(f:a∉R)(r:∀b,c≠some (.dt b))(l:∀p,F p=true->t.F p=true)(s:cnt t.F 0 1024<=cnt F 0 1024+i)(o:k<=t.k+j)(g:∀q∈R,t.N q=none->t.C q=1->C q=1):St t ⟨fup t.N a c,C,F,k⟩ R i j:=by
 refine ⟨λq hq h lo hi m L x=>x.fup n (λe=>f (by rw[<-e];exact hq)),λq hq b x=>?_,l,λv b u x=>?_,s,o,λq hq x y=>⟨?_,g q hq x y⟩⟩
 ·show fup t.N a c q=_
  rw[fup_ne _ _ (λe=>f (by rw[<-e];exact hq))];exact x
 ·have x:fup t.N a c v=some (.dt b):=x
  by_cases e:v=a
  ·subst e;rw[BK] at x;exact absurd x (r b)
  rwa[fup_ne _ _ e] at x
 show fup t.N a c q=none;rw[fup_ne _ _ (λe=>f (by rw[<-e];exact hq))];exact x
theorem IG{n:Nat}{N:Hm}{R:List Nat}(I_:TInv n m N C (i::R))(h:C i=1):i∉R:=λq=>by
 have a:=I_.rin i O;have:=I_.cnt i a.1 a.2;rw[List.count_cons_self] at this;have:=Agy.2 q;omega
theorem TL{n:Nat}{N:Hm}{R:List Nat}(I_:TInv n m N C R)(h:C i=0):i∉R:=λq=>by
 have:=I_.pos q;omega
theorem XE(pp mb n:Nat)(o:TB)(t:TS)(R:List Nat)(p:Nat)(hp:manyN n<p/\p<n)(b:1<=t.C p)(d:R.length+n<1000):
  Ak 117 [Y pp,I (p:Int)] [trA Tb pp mb n o (some (t,R))] (λv G=>v=I 0/\G=[trA Tb pp mb n o (some ({t with C:=fup t.C p (t.C p+1)},p::R))]):=by
 intro z R' w H;obtain ⟨⟨M0,M⟩,a,H⟩:=H.tr1;have:=a.2.i.bound (p:=p) U hp.2;refine Ret.mono (Cn.at (Adf pp mb n M0 o.C ⟨M,t.C,t.F,t.k⟩ p hp ⟨b,by show t.C p<1000;omega⟩) H 1 [0] Z Z) ?_;rintro v e ⟨Γ',⟨rfl,rfl⟩,c⟩;exact ⟨_,⟨Z,Z⟩,Sep.toTr1 (C:=fup t.C p (t.C p+1)) (F:=t.F) (k:=t.k) c a.1 ⟨a.2.m,a.2.i.ref ⟨by omega,hp.2⟩⟩⟩
theorem QI(pp mb n:Nat)(o:TB)(t:TS)(R:List Nat)(p:Nat)(b:2<=t.C p):
  Ak 131 [Y pp,I (p:Int)] [trA Tb pp mb n o (some (t,p::R))] (λv G=>v=I 0/\G=[trA Tb pp mb n o (some ({t with C:=fup t.C p (t.C p-1)},R))]):=by
 intro z R' w H;obtain ⟨⟨M0,M⟩,a,H⟩:=H.tr1;have hp:=a.2.i.rin p O;refine Ret.mono (Cn.at (Zu pp mb n M0 o.C ⟨M,t.C,t.F,t.k⟩ p ⟨by omega,hp.2⟩ b) H 1 [0] Z Z) ?_;rintro v d ⟨Γ',⟨rfl,rfl⟩,c⟩;exact ⟨_,⟨Z,Z⟩,Sep.toTr1 (C:=fup t.C p (t.C p-1)) (F:=t.F) (k:=t.k) c a.1 ⟨a.2.m,a.2.i.unref b⟩⟩
theorem AbV(pp mb n:Nat)(o:TB)(t:TS)(R:List Nat)(p:Nat)(b:t.C p=1)(hN:∀d,t.N p≠some (.nd d)):
  Ak 131 [Y pp,I (p:Int)] [trA Tb pp mb n o (some (t,p::R))] (λv G=>v=I 0/\G=[trA Tb pp mb n o (some ({t with N:=fup t.N p none,C:=fup t.C p 0},R))]):=by
 intro z R' w H;obtain ⟨⟨M0,M⟩,a,H⟩:=H.tr1;have hp:=a.2.i.rin p O;refine Ret.mono (Cn.at (AbT pp mb n M0 o.C ⟨M,t.C,t.F,t.k⟩ p ⟨by omega,hp.2⟩ b) H 1 [0] Z Z) ?_;rintro v g ⟨Γ',⟨rfl,rfl⟩,f⟩;refine ⟨_,⟨Z,Z⟩,Sep.toTr1 (C:=fup t.C p 0) (F:=t.F) (k:=t.k) f a.1 ⟨λq c hq=>?_,(a.2.i.drop b hN).1⟩⟩;by_cases e:q=p
 ·subst e;rw[BK] at hq;cases hq
 rw[fup_ne _ _ e] at hq;exact a.2.m q c hq
theorem G0(pp mb n:Nat)(o:TB)(t:TS){R:List Nat}(p:Nat)(hN:∀d,t.N p≠some (.nd d)):
  Ak 131 [Y pp,I (p:Int)] [trA Tb pp mb n o (some (t,p::R))] (λv G=>∃t',(St t t' R 0 0/\(∀q,q≠p->t'.N q=t.N q/\t'.C q=t.C q)/\t'.C p=t.C p-1/\(t'.N p=t.N p\/t'.N p=none)/\t'.F=t.F)/\v=I 0/\G=[trA Tb pp mb n o (some (t',R))]):=by
 intro z R' w H;have K:=H.says 0 Z (λh a=>trA.k a);have b:=K.i.pos (p:=p) (by simp[CV]);have b:1<=t.C p:=b;rcases Aeu (t.C p) 2 with h|h
 ·have f:t.C p=1:=by omega
  refine Ret.mono (Cn.at (AbV pp mb n o t R p f hN) H 1 [0] Z Z) ?_;rintro v l ⟨Γ',⟨rfl,rfl⟩,g⟩;have j:=(TInv.drop (show TInv n (manyN n+1) t.N t.C (p::R) from K.i) f hN).2;refine ⟨_,⟨_,⟨St.one j (IG (show TInv n (manyN n+1) t.N t.C (p::R) from K.i) f) O (λ_ q=>q) U U (λq hq _ y=>by
   show fup t.C p 0 q=1;rw[fup_ne _ _ (λe=>IG (show TInv n (manyN n+1) t.N t.C (p::R) from K.i) f (by rw[<-e];exact hq))];exact y),λq hq=>⟨fup_ne _ _ hq,fup_ne _ _ hq⟩,?_,.inr (BK _ _ _),Z⟩,Z,Z⟩,g⟩
  show fup t.C p 0 p=t.C p-1;rw[BK];omega
 refine Ret.mono (Cn.at (QI pp mb n o t R p h) H 1 [0] Z Z) ?_;rintro v l ⟨Γ',⟨rfl,rfl⟩,g⟩;refine ⟨_,⟨{t with C:=fup t.C p (t.C p-1)},⟨⟨λ_ _ _ _ _ _ _ q=>q,λ_ _ _ q=>q,λ_ q=>q,λ_ _ _ q=>q,Ael _,Ael _,λc m x y=>⟨x,?_⟩⟩,λq hq=>⟨Z,fup_ne _ _ hq⟩,BK _ _ _,.inl Z,Z⟩,Z,Z⟩,g⟩;show fup t.C p (t.C p-1) c=1;rw[fup_ne _ _ (λe=>by rw[e] at y;omega)];exact y
theorem OQ(pp mb n:Nat)(o:TB)(t:TS)(R R2:List Nat)(x:Pg)(i:x.Ok)(hB:∀h,A h->rdH 1 u 240 (x.body.map u8) h)(hk:t.k<40)(c:Option Pc)(hc:∀q,c=some q->x=Mc q)
  (hI:∀a,manyN n<a->a<n->t.C a=0->TInv n (manyN n+1) (fup t.N a c) (fup t.C a 1) (a::R2)):
  Ak 66 [Y pp,.agg #[I x.kind,u]] [trA Tb pp mb n o (some (t,R)),A] (λv G=>(cnt t.F 0 1024=0/\v=.tuple #[I 0,I 20]/\G=[trA Tb pp mb n o (some (t,R)),A])\/
   ∃(a:Nat) (F:Nat->Bool) (k:Nat),((manyN n<a/\a<n)/\t.C a=0/\t.F a=true/\(∀q,F q=true->t.F q=true)/\F a=false/\k<=t.k+1/\cnt t.F 0 1024=cnt F 0 1024+1)/\v=.tuple #[I (a:Int),I 0]/\G=[trA Tb pp mb n o (some (⟨fup t.N a c,fup t.C a 1,F,k⟩,a::R2)),A]):=by
 intro z R' w H;have K:=H.says 0 Z (λh a=>trA.k a);obtain ⟨⟨M0,M⟩,g,H⟩:=H.tr1;refine Ret.mono (Cn.at (Zv pp mb n M0 o.C ⟨M,t.C,t.F,t.k⟩ x i u A hB hk) H 2 [0,1] Z Z) ?_;rintro v w' ⟨Γ',(⟨h0,rfl,rfl⟩|⟨p,l,⟨y,h2,h3⟩,rfl,rfl⟩),r⟩
 ·exact ⟨_,.inl ⟨h0,Z,Z⟩,Sep.toTr1 (C:=t.C) (F:=t.F) (k:=t.k) r g.1 g.2⟩
 have f:=K.fr p y;have j:t.C p=0:=f.2.1;have d:cnt (Dx t.F p) 0 1024+1=cnt t.F 0 1024:=h3;refine ⟨_,.inr ⟨p,Dx t.F p,l,⟨⟨f.2.2,f.1⟩,j,y,λq hq=>?_,?_,h2,by rw[<-d]⟩,Z,Z⟩,Sep.toTr1 (C:=fup t.C p 1) (F:=Dx t.F p) (k:=l) (N:=fup t.N p c) r g.1 ⟨λs c' b=>?_,hI p f.2.2 f.1 j⟩⟩
 ·unfold Dx at hq;simp at hq;exact hq.1
 ·unfold Dx;simp
 by_cases e:s=p
 ·subst e;rw[BK] at b ⊢
  rw[hc c' b] at i ⊢;exact ⟨Z,i⟩
 rw[fup_ne _ _ e] at b ⊢;exact g.2.m s c' b
theorem ZB(pp mb n:Nat)(o:TB)(t:TS){R:List Nat}(R2:List Nat)(a:Nat)(x:Pg)(d:x.Ok)(y:∀h,A h->rdH 1 u 240 (x.body.map u8) h)(q:t.k<40)(c:Pc)(r:x=Mc c)(hp:manyN n<a/\a<n)(l:t.C a≠0)
  (p:TInv n (manyN n+1) (fup t.N a (some c)) t.C R2):
  Ak 133 [Y pp,I (a:Int),.agg #[I x.kind,u]] [trA Tb pp mb n o (some (t,R)),A] (λv G=>∃k,k<=t.k+1/\v=I 0/\G=[trA Tb pp mb n o (some (⟨fup t.N a (some c),t.C,t.F,k⟩,R2)),A]):=by
 intro z R' w H;obtain ⟨⟨M0,M⟩,g,H⟩:=H.tr1;refine Ret.mono (Cn.at (write_p pp mb n M0 o.C ⟨M,t.C,t.F,t.k⟩ a x d u A y q ⟨.inr hp.1,hp.2⟩ l) H 2 [0,1] Z Z) ?_;rintro v w' ⟨Γ',⟨f,j,rfl,rfl⟩,s⟩;refine ⟨_,⟨f,j,Z,Z⟩,Sep.toTr1 (C:=t.C) (F:=t.F) (k:=f) (N:=fup t.N a (some c)) s g.1 ⟨λi c' b=>?_,p⟩⟩;by_cases e:i=a
 ·subst e;rw[BK] at b ⊢
  cases b;rw[r] at d ⊢
  exact ⟨Z,d⟩
 rw[fup_ne _ _ e] at b ⊢;exact g.2.m i c' b
theorem CkN.of{lf:Bool}{es:List E}(h:(Nd.mk lf es).Ok)(g:∀v∈vals es,1<=v/\v<1024):CkN lf (kL es) (vL es):=by
 refine ⟨by simp,by simpa using h.len,?_,λx d=>?_,λy c=>?_,λi x y d c=>?_⟩
 ·cases lf with
  | true=>exact .inl Z
  | false=>
   have:=h.ne Z
   cases es with
   | nil=>exact absurd Z this
   | cons e t=>simp
 ·obtain ⟨e,f,rfl⟩:=Aen.1 d
  have:=h.key e f;exact ⟨this.1,by have:=this.2;omega⟩
 ·obtain ⟨e,f,rfl⟩:=Aen.1 c
  have:=g e.2 (AeD f);omega
 simp only[Aer] at d c
 cases h1:es[i]? with
 | none=>rw[h1] at d;cases d
 | some a=>
  cases h2:es[i+1]? with
  | none=>rw[h2] at c;cases c
  | some b=>
   rw[h1] at d;rw[h2] at c;simp at d c;subst d c;have hs:=h.srt;exact (Afx.1 hs) i (i+1) (Aee.1 h1).1 (Aee.1 h2).1 U |> λq=>by rw[(Aee.1 h1).2,(Aee.1 h2).2] at q;exact q
theorem OR(lf:Bool)(es:List E):((Fd ⟨lf,es⟩).kind=4/\lf=true)\/((Fd ⟨lf,es⟩).kind=3/\lf=false):=by
 cases lf
 ·exact .inr ⟨Z,Z⟩
 exact .inl ⟨Z,Z⟩
theorem TM(lf:Bool)(es:List E):decide (((Fd ⟨lf,es⟩).kind:Int)=4)=lf:=by cases lf<;>rfl
theorem TInv.take{n f a:Nat}{N:Hm}{R:List Nat}(I_:TInv n f N C R)(d:C a=0)(b:f<=a/\a<n):TInv n f (fup N a none) (fup C a 1) (a::R):=by
 have hN:N a=none:=by
  cases e:N a with
  | none=>rfl
  | some c=>have:=(I_.nin a c e).2.2;omega
 have e:fup N a none=N:=by
  funext q;unfold fup;split
  ·rename_i h;rw[h,hN]
  rfl
 have:=I_.ref b;rw[d] at this;rw[e];exact this
end
section
variable{Tb:Ai}
theorem ZC(pp ps pc pa pd n:Nat)(un:Bool)(D:Dsk)(G:StG)(own:Hh)(p:Nat)(lf:Bool)(es:List E)(m:(p:Int)<G.x.pages)(s:D.f1=0)(hq:Fd ⟨lf,es⟩=Ek G.M own p)(e:(Nd.mk lf es).Ok)(a:CkN lf (kL es) (vL es)):Ak 119 [Y pp,I (p:Int)] [plB pp ps pc pa n un,stoA ps pd D G own] (λv X=>∃l f:Value,v=.tuple #[.agg #[.bool lf,l,f],I 0]/\X=[grow 3 1 l (kL es).length ((kL es).map I),grow 3 1 f (vL es).length ((vL es).map I),plB pp ps pc pa n un,stoA ps pd D G own]):=by
 intro z R w H;have b:(Fd ⟨lf,es⟩).body.length=240:=(JD e.len).2;have a5:=OR lf es;refine Ae func119 Z ntmps119 Z (Za 2 [] H Z ?_);intro b1 w H;refine Z2 21 [0,0,1,0] H Z (Au Z (call68 _) (Li ps pd D G own p m s (Fd ⟨lf,es⟩) hq) H.f2 ?_);rintro _ w _ (⟨a3,rfl,rfl⟩|⟨a4,rv,rfl,rfl⟩) H'
 ·(exfalso;have:=OR lf es;rw[a3] at this;have h0:noPg.kind=0:=rfl;omega)
 have H:=H'.l4;obtain ⟨gb,a6,rest,rfl,c1,c2,c3,H⟩:=H.ungrow 0 Z U;refine Za 3 [] H Z ?_;intro b2 w H;refine Z4 21 [0,4,0,0,0,0] H Z ?_;intro w H;refine An 30 Z (λh1=>?_) (λh1=>?_)
 ·refine Z2 6 [0,0,0,0] H Z (Af Z (λh2=>U) (λh2=>?_))
  refine Z2 6 [1,0,0] H Z (Au Z (call167 _) (MJ (Fd ⟨lf,es⟩).body (λh q=>q.rd U U (by rw[Aeh,Aei,b];omega) (by rw[Aey,AeS,AeI (by rw[Aei,b])])) lf (kL es) (vL es) O (by simpa using e.len) (λx u=>by have:=a.k x u;omega) (λy r=>by have:=a.v y r;omega) Z) H.f1 ?_);rintro _ w _ ⟨l,f,rfl,rfl⟩ H;replace H:=(H.mono 1 (B:=grow 3 1 f ((vL es).length) ((vL es).map I)) Z (λh q=>by rw[show (vL es).length=(kL es).length by simp];exact q)).l7;have d:=H.sy 0 (·.slc);have c:=H.sy 1 (·.slc);refine Za 3 [] H Z ?_;intro b3 w H;obtain ⟨o,t,rfl⟩:=d;obtain ⟨a1,a0,rfl⟩:=c;refine Z4 11 [0,0,3] H Z ?_;intro w H;refine z_E_ Z (call168 _) (CU (kL es) (vL es) (λh q=>q.rd) (λh q=>q.rd) a) H.f2.f2 ?_;intro w H;refine Z2 8 [4,0,2,0,0,4,0,0] H Z (Ad Z (Nv Z J Z Z) (Zc 3 Z (Af Z (λh3=>?_) (λh3=>?_))))
  ·exact absurd (TM lf es).symm h3
  refine Z4 10 [2,3,6] H Z ?_;intro w H;refine Zl [6,3] H Z ?_;exact ⟨_,⟨.slice o ((kL es).length) t,.slice a1 ((vL es).length) a0,Z,Z⟩,H.perm 8 [0,1,7,5] Z Z⟩
 refine Z2 13 [1,0,0] H Z (Au Z (call167 _) (MJ (Fd ⟨lf,es⟩).body (λh q=>q.rd U U (by rw[Aeh,Aei,b];omega) (by rw[Aey,AeS,AeI (by rw[Aei,b])])) lf (kL es) (vL es) O (by simpa using e.len) (λx u=>by have:=a.k x u;omega) (λy r=>by have:=a.v y r;omega) Z) H.f1 ?_);rintro _ w _ ⟨l,f,rfl,rfl⟩ H;replace H:=(H.mono 1 (B:=grow 3 1 f ((vL es).length) ((vL es).map I)) Z (λh q=>by rw[show (vL es).length=(kL es).length by simp];exact q)).l7;have d:=H.sy 0 (·.slc);have c:=H.sy 1 (·.slc);refine Za 3 [] H Z ?_;intro b8 w H;obtain ⟨a2,j,rfl⟩:=d;obtain ⟨g,i,rfl⟩:=c;refine Z4 11 [0,0,3] H Z ?_;intro w H;refine z_E_ Z (call168 _) (CU (kL es) (vL es) (λh q=>q.rd) (λh q=>q.rd) a) H.f2.f2 ?_;intro w H;refine Z2 8 [4,0,2,0,0,4,0,0] H Z (Ad Z (Nv Z J Z Z) (Zc 3 Z (Af Z (λh4=>?_) (λh4=>?_))))
 ·exact absurd (TM lf es).symm h4
 refine Z4 10 [2,3,6] H Z ?_;intro w H;refine Zl [6,3] H Z ?_;exact ⟨_,⟨.slice a2 ((kL es).length) j,.slice g ((vL es).length) i,Z,Z⟩,H.perm 8 [0,1,7,5] Z Z⟩
theorem TInv.vok{f:Nat}{N:Hm}(I_:TInv n f N C R)(c:1<=f)(b:n<=1024){p:Nat}{lf:Bool}{es:List E}(h:N p=some (.nd ⟨lf,es⟩)):CkN lf (kL es) (vL es):=
 CkN.of (I_.nds p _ h).1 (λv a=>by have:=(I_.nds p _ h).2.2 v a;omega)
theorem HY(pp mb n:Nat)(o:TB)(T:TT)(p:Nat)(lf:Bool)(es:List E)(hN:Dm o T p=some (.nd ⟨lf,es⟩)):
  Ak 119 [Y pp,I (p:Int)] [trA Tb pp mb n o T] (λv G=>∃e d:Value,v=.tuple #[.agg #[.bool lf,e,d],I 0]/\G=[grow 3 1 e (kL es).length ((kL es).map I),grow 3 1 d (vL es).length ((vL es).map I),trA Tb pp mb n o T]):=by
 intro z R w H;have K:=H.says 0 Z (λh a=>trA.k a);obtain ⟨M0,u,⟨_,_,_,j⟩,H,c⟩:=H.trP;obtain ⟨X,b,H⟩:=H.po;have q:=K.i.nin p _ hN;have hq:Fd ⟨lf,es⟩=Ek X.G.M (TJ X.g u) p:=by
  have f:=(j p _ hN).1
  cases u with
  | none=>exact f.symm.trans (b.m0 p (.inr U))
  | some T'=>exact f.symm.trans ((b.tx T' Z).m p (.inr U))
 refine Ret.mono (Cn.at (ZC pp X.ps X.pc X.pa X.pd n u.isSome X.D X.G (TJ X.g u) p lf es (by rw[b.pg];omega) b.fine.clean.f1 hq (K.i.nds p _ hN).1 (K.i.vok U b.hn.2 hN)) H 7 [0,1,2,3,4,5,6] Z Z) ?_;rintro v r ⟨Γ',⟨e,d,rfl,rfl⟩,l⟩;have H3:=l.pick 9 [2,3,4,5,6,7,8,0,1] Z;have H4:=c _ _ (H3.toPo (X:=X) b Z);exact ⟨_,⟨e,d,Z,Z⟩,H4.pick 3 [1,2,0] Z⟩
theorem Kl{a vs:List Int}(h:a.length=vs.length)(c:a.length<=8):0+240*1<=(Bb (AL (Ge b a vs)) t).length:=by
 have hp:=AW (l:=Ge b a vs) (by rw[Gy h];omega);unfold Bb;rw[Aeh,Aei];omega
theorem Me{a vs:List Int}(h:a.length=vs.length)(c:a.length<=8):((Bb (AL (Ge b a vs)) t).drop 0).take (240*1)=(Hf b a vs).map u8:=by
 have hp:=AW (l:=Ge b a vs) (by rw[Gy h];omega);unfold Bb Hf;rw[Aey,AeS,Aew (by rw[Aei];omega),<-Afr,Aey]
theorem Mf(lf:Bool){l:Value}(b vs:List Int){B:Ai}(e:∀h,A h->rdH 1 u b.length (b.map I) h)(f:∀h,B h->rdH 1 l vs.length (vs.map I) h)(a:CkN lf b vs):Ak 171 [.agg #[.bool lf,u,l]] [A,B] (λv G=>∃d:Nat,v=.tuple #[.agg #[I (if lf=true then 4 else 3),.slice (some ⟨d,0,none⟩) 240 240],I 0]/\G=[blk d (Bb (AL (Ge lf b vs)) ((2+6*b.length:Nat):Int)) 173,A,B]):=by
 intro z R w H;obtain ⟨r,t,rfl⟩:=H.sy 0 (λq=>(e _ q).slc);obtain ⟨p,vc,rfl⟩:=H.sy 1 (λq=>(f _ q).slc);have c:=a.len;have i:=a.l8;refine Ae func171 Z ntmps171 Z (Za 2 [] H Z ?_);intro b1 w H;refine Za 0 [] H Z ?_;intro s w H;refine Z2 7 [1,3] H Z (z_E_ Z (call168 _) (CU b vs e f a) H.f3.f3 ?_);intro w H;refine Z2 9 [4,3,3] H Z (Au Z (call206 _) (Tt lf b vs e f c i (λx n=>by have:=a.k x n;omega) (λy o=>by have:=a.v y o;omega)) H ?_);rintro _ w _ ⟨d,rfl,rfl⟩ H;refine Z2 24 [4,0,4,0] H Z (Eq Z (λg=>?_) (λg=>?_))
 ·refine Z4 9 [3] H Z ?_;intro w H;refine Zl [3,2] H Z ?_;exact ⟨_,⟨d,(by rw[if_pos g]),Z⟩,H.perm 5 [0,1,2] Z Z⟩
 refine Z4 11 [3] H Z ?_;intro w H;refine Zl [3,2] H Z ?_;exact ⟨_,⟨d,(by rw[if_neg (by rw[g];decide)]),Z⟩,H.perm 5 [0,1,2] Z Z⟩
end
section
variable{Tb:Ai}
variable{n:Nat}{t:TS}{R:List Nat}{a:Nat}{lf:Bool}{es:List E}
theorem Wi(I_:TInv n i t.N t.C (a::(vals es++R)))(h:t.C a=1)(hN:t.N a=none)(e:(Nd.mk lf es).Ok)(f:(vals es).Nodup)(l:Bd t.N j es p X)(b:lf=decide (j=0))(o:B5 s p es)(r:m<=es.length):
  TInv n i (fup t.N a (some (.nd ⟨lf,es⟩))) t.C (a::R)/\Tr (fup t.N a (some (.nd ⟨lf,es⟩))) j a s p m X/\(∀q d,t.N q=some (.nd d)->a∉vals d.es)/\a∉R:=by
 have c:∀q d,t.N q=some (.nd d)->a∉vals d.es:=λq d hq=>I_.noref (by simp;omega) hq;have g:=IG I_ h;simp only[Aes,not_or] at g;have k:Tr (fup t.N a (some (.nd ⟨lf,es⟩))) j a s p m X:=Tr.iff.2 ⟨es,by rw[BK,b],r,o,by rw[<-b];exact e,l.fup c g.1⟩;exact ⟨(I_.close (d:=⟨lf,es⟩) h hN e f ⟨_,_,_,_,_,k⟩).1,k,c,g.2⟩
theorem Lj(I_:TInv n i t.N t.C (vals es++R))(h:t.C a=0)(o:i<=a/\a<n)(e:(Nd.mk lf es).Ok)(f:(vals es).Nodup)(l:Bd t.N j es p X)(b:lf=decide (j=0))(r:B5 s p es)(u:m<=es.length):
  TInv n i (fup t.N a (some (.nd ⟨lf,es⟩))) (fup t.C a 1) (a::R)/\Tr (fup t.N a (some (.nd ⟨lf,es⟩))) j a s p m X/\(∀q d,t.N q=some (.nd d)->a∉vals d.es)/\a∉R:=by
 have c:∀q d,t.N q=some (.nd d)->a∉vals d.es:=λq d hq=>I_.noref U hq;have g:=TL I_ h;simp only[Aes,not_or] at g;have k:Tr (fup t.N a (some (.nd ⟨lf,es⟩))) j a s p m X:=Tr.iff.2 ⟨es,by rw[BK,b],u,r,by rw[<-b];exact e,l.fup c g.1⟩;exact ⟨(I_.fresh (d:=⟨lf,es⟩) h o e f ⟨_,_,_,_,_,k⟩).2.1,k,c,g.2⟩
structure OwnP(t t':TS)(es:List E)(R:List Nat)(a:Nat):Prop where
 N0:t'.N a=none
 C1:t'.C a=1
 st:St t t' R 1 1
 fv:∀c∈vals es,∀h lo hi m L,Tr t.N h c lo hi m L->Tr t'.N h c lo hi m L
 dv:∀c∈vals es,∀b,t.N c=some (.dt b)->t'.N c=some (.dt b)
 sub:∀q d,t'.N q=some (.nd d)->t.N q=some (.nd d)
theorem OwnP.bd{t':TS}(O_:OwnP t t' es R a){h:Nat}{hi:Int}{L:List E}(q:Bd t.N h es hi L):Bd t'.N h es hi L:=by
 cases h with
 | zero=>exact ⟨q.1,λe c=>by obtain ⟨b,d⟩:=q.2 e c;exact ⟨b,O_.dv _ (AeD c) b d⟩⟩
 | succ h=>exact Sq.imp q λe c _ _ r=>O_.fv _ (AeD c) _ _ _ _ _ r
theorem QJ{N:Hm}{a:Nat}:∀q d,fup N a none q=some (.nd d)->N q=some (.nd d):=λq d h=>by
 by_cases e:q=a
 ·subst e;rw[BK] at h;cases h
 rwa[fup_ne _ _ e] at h
theorem TN{N:Hm}{a:Nat}(h:m≠a)(q:N m=some (.dt B)):fup N a none m=some (.dt B):=by rw[fup_ne _ _ h];exact q
theorem Mg(I_:TInv n i t.N t.C (a::R))(f:t.C a=1)(hN:t.N a=some (.nd ⟨lf,es⟩)):OwnP t {t with N:=fup t.N a none} es R a:=by
 have g:=I_.opens f hN;have k:=IG g.1 f;have j:∀c∈vals es,c≠a:=λc d e=>k (Agp _ (by rw[<-e];exact d));have l:a∉R:=λq=>k (AgF _ q);exact ⟨BK _ _ _,f,(St.one g.2 l O (λ_ q=>q) U U (λ_ _ _ y=>y)),λc d h lo hi m L q=>q.fup g.2 (j c d),λc d b q=>TN (j c d) q,QJ⟩
structure OwI(t:TS)(es:List E)(i:Nat)(C:Nat->Nat):Prop where
 i:i<=es.length
 ge:∀q,t.C q<=C q
 same:∀q,q∉vals es->C q=t.C q
theorem OwI.next{e:E}(I_:OwI t es i C)(a:es[i]?=some e):OwI t es (i+1) (fup C e.2 (C e.2+1)):=by
 refine ⟨(Aee.1 a).1,λq=>?_,λq hq=>?_⟩
 ·have:=I_.ge q
  unfold fup;split
  ·rename_i h;subst h;omega
  exact this
 rw[fup_ne _ _ (λh=>hq (by rw[h];exact AeD (Aeg a)))];exact I_.same q hq
theorem Wj{e:E}(a:es[i]?=some e):((vals es).take (i+1)).reverse=e.2::((vals es).take i).reverse:=by
 rw[AeQ];simp[vals,a]
theorem ZD(I_:TInv n i t.N t.C (a::R))(hN:t.N a=some (.nd ⟨lf,es⟩))(hc:t.C j=0)(y:OwI ⟨fup t.N j none,fup t.C j 1,F,g⟩ es es.length C)(hF:∀p,F p=true->t.F p=true)(hf:cnt t.F 0 1024=cnt F 0 1024+1)(z:g<=t.k+1):
  OwnP t ⟨fup t.N j none,fup C a (C a-1),F,g⟩ es R j:=by
 have o:j≠a:=λe=>by have:=I_.pos (p:=a) O;rw[e] at hc;omega
 have c:∀q d,t.N q=some (.nd d)->j∉vals d.es:=λq d hq=>I_.noref U hq;have r:j∉R:=λh=>by have:=I_.pos (p:=j) (by simp[h]);omega
 have w:∀q∈vals es,q≠j:=λq hq e=>c _ _ hN (by rw[<-e];exact hq);refine ⟨BK _ _ _,?_,St.one c r O hF U z (λq hq f v=>?_),λq hq h lo hi m L x=>x.fup c (w q hq),λq hq b x=>TN (w q hq) x,QJ⟩
 ·show fup C a (C a-1) j=1
  rw[fup_ne _ _ o,y.same j (c _ _ hN)];exact BK _ _ _
 have l:q≠a:=λe=>by rw[e,hN] at f;cases f
 have s:q∉vals es:=I_.noref (a:=q) (by
  have:=Agy.2 hq;rw[Aff];omega) hN
 have u:q≠j:=λe=>by rw[e] at v;omega
 show fup C a (C a-1) q=1;rw[fup_ne _ _ l,y.same q s];show fup t.C j 1 q=1;rw[fup_ne _ _ u];exact v
theorem F7(pp mb n:Nat)(o:TB)(t:TS)(Q:List Nat)(a:Nat)(lf:Bool){vv:Value}(es:List E){B:Ai}(hA:∀h,A h->rdH 1 u (kL es).length ((kL es).map I) h)(hB:∀h,B h->rdH 1 vv (vL es).length ((vL es).map I) h)(h:Nat)(lo hi:Int)(m:Nat)(L:List E)(e:Bd t.N h es hi L)(x:lf=decide (h=0))(f:B5 lo hi es)(hm:m<=es.length)(b:(Nd.mk lf es).Ok)(c:(vals es).Nodup)(hC:t.C a=1)(hN:t.N a=none)(hk:t.k<40):Ak 174 [Y pp,I (a:Int),.agg #[.bool lf,u,vv]] [trA Tb pp mb n o (some (t,a::(vals es++Q))),A,B] (λv G=>∃t2:TS,(St t t2 Q 0 1/\Tr t2.N h a lo hi m L/\t2.C=t.C/\t2.N=fup t.N a (some (.nd ⟨lf,es⟩)))/\v=I 0/\G=[trA Tb pp mb n o (some (t2,a::Q)),A,B]):=by
 intro z R w H;have K:=H.says 0 Z (λh a=>trA.k a);have hn:=K.hn;obtain ⟨ka,kc,rfl⟩:=H.sy 1 (λq=>(hA _ q).slc);obtain ⟨va,vc,rfl⟩:=H.sy 2 (λq=>(hB _ q).slc);obtain ⟨g,s,l,j⟩:=Wi K.i hC hN b c e x f hm;have d:=K.i.rin a (by simp[CV]);have r:CkN lf (kL es) (vL es):=CkN.of b (λv hv=>by have:=K.i.rin v (by simp[CV,hv]);omega);refine Ae func174 Z ntmps174 Z (Za 2 [] H Z ?_);intro b1 w H;refine Z2 6 [0,3] H Z (Au Z (call171 _) (Mf lf (kL es) (vL es) hA hB r) H.f3.f3 ?_);rintro _ w _ ⟨pw,rfl,rfl⟩ H;refine Za 3 [] H Z ?_;intro b2 w H;refine Z4 19 [0,4,0,2] H Z ?_;intro w H;refine Au Z (call133 _) (ZB pp mb n o t (a::Q) a (Fd ⟨lf,es⟩) (JD b.len) (λh q=>q.rd U U (Kl O (by simpa using b.len)) (Me O (by simpa using b.len))) hk (.nd ⟨lf,es⟩) Z ⟨by omega,d.2⟩ U g) H.f1.f5 ?_;rintro _ w _ ⟨k2,p,rfl,rfl⟩ H;refine Zc 4 Z (Zr Z ?_);exact ⟨_,⟨_,⟨St.one l j O (λ_ q=>q) U p (λ_ _ _ y=>y),s,Z,Z⟩,Z,Z⟩,H.perm 6 [0,3,4] Z Z⟩
theorem HZ(pp mb n:Nat)(o:TB)(t:TS)(Q:List Nat)(lf:Bool){vv:Value}(es:List E){B:Ai}(hA:∀h,A h->rdH 1 u (kL es).length ((kL es).map I) h)(hB:∀h,B h->rdH 1 vv (vL es).length ((vL es).map I) h)(h:Nat)(lo hi:Int)(m:Nat)(L:List E)(j:Bd t.N h es hi L)(p:lf=decide (h=0))(l:B5 lo hi es)(hm:m<=es.length)(b:(Nd.mk lf es).Ok)(d:(vals es).Nodup)(hk:t.k<40):Ak 126 [Y pp,.agg #[.bool lf,u,vv]] [trA Tb pp mb n o (some (t,vals es++Q)),A,B] (λv G=>(cnt t.F 0 1024=0/\v=.tuple #[I 0,I 20]/\G=[trA Tb pp mb n o (some (t,vals es++Q)),A,B])\/∃(t2:TS) (a:Nat),(St t t2 Q 1 1/\Tr t2.N h a lo hi m L/\∀q∈Q,t2.N q=t.N q/\t2.C q=t.C q)/\v=.tuple #[I (a:Int),I 0]/\G=[trA Tb pp mb n o (some (t2,a::Q)),A,B]):=by
 intro z R w H;have K:=H.says 0 Z (λh a=>trA.k a);have hn:=K.hn;obtain ⟨ka,kc,rfl⟩:=H.sy 1 (λq=>(hA _ q).slc);obtain ⟨va,vc,rfl⟩:=H.sy 2 (λq=>(hB _ q).slc);have a1:CkN lf (kL es) (vL es):=CkN.of b (λv hv=>by have:=K.i.rin v (by simp[CV,hv]);omega);refine Ae func126 Z ntmps126 Z (Za 2 [] H Z ?_);intro b1 w H;refine Z2 7 [0,3] H Z (Au Z (call171 _) (Mf lf (kL es) (vL es) hA hB a1) H.f3.f3 ?_);rintro _ w _ ⟨pw,rfl,rfl⟩ H;refine Za 3 [] H Z ?_;intro b2 w H;refine Z4 18 [0,4,0,2] H Z ?_;intro w H;refine Au Z (call66 _) (OQ pp mb n o t _ Q (Fd ⟨lf,es⟩) (JD b.len) (λh q=>q.rd U U (Kl O (by simpa using b.len)) (Me O (by simpa using b.len))) hk (some (.nd ⟨lf,es⟩)) (λq hq=>by cases hq;rfl) (λa h1 h2 h3=>(Lj K.i h3 ⟨h1,h2⟩ b d j p l hm).1)) H.f1.f5 ?_;rintro _ w _ (⟨f,rfl,rfl⟩|⟨a,F,k2,⟨g,s,a5,r,a6,a0,a3⟩,rfl,rfl⟩) H'
 ·have H:=H'.l6;refine Zc 7 Z (Zr Z ?_);exact ⟨_,.inl ⟨f,Z,Z⟩,H.perm 6 [0,3,4] Z Z⟩
 have H:=H'.l6;obtain ⟨a4,a2,x,c⟩:=Lj K.i s ⟨g.1,g.2⟩ b d j p l hm;refine Zc 7 Z (Zr Z ?_);exact ⟨_,.inr ⟨_,a,⟨St.one x c O r U a0 (λq hq _ y=>(fup_ne _ _ (λe=>c (by rw[<-e];exact hq))).trans y),a2,λq hq=>⟨fup_ne _ _ (λe=>c (by rw[<-e];exact hq)),fup_ne _ _ (λe=>c (by rw[<-e];exact hq))⟩⟩,Z,Z⟩,H.perm 6 [0,3,4] Z Z⟩
theorem Wk(pp mb n:Nat)(o:TB)(t:TS)(Q:List Nat)(lf:Bool)(es:List E){B:Ai}(p:∀h,A h->rdH 1 u (kL es).length ((kL es).map I) h)(r:∀h,B h->rdH 1 y (vL es).length ((vL es).map I) h)(c:(Nd.mk lf es).Ok)(l:CkN lf (kL es) (vL es))(x:t.k<40):Ak 126 [Y pp,.agg #[.bool lf,u,y]] [trA Tb pp mb n o (some (t,Q)),A,B] (λv G=>(cnt t.F 0 1024=0/\v=.tuple #[I 0,I 20]/\G=[trA Tb pp mb n o (some (t,Q)),A,B])\/∃(a:Nat) (F:Nat->Bool) (e:Nat),(t.C a=0/\(∀q,F q=true->t.F q=true)/\e<=t.k+1/\cnt t.F 0 1024=cnt F 0 1024+1)/\v=.tuple #[I (a:Int),I 0]/\G=[trA Tb pp mb n o (some (⟨fup t.N a none,fup t.C a 1,F,e⟩,a::Q)),A,B]):=by
 intro z R w H;have K:=H.says 0 Z (λh a=>trA.k a);obtain ⟨ka,kc,rfl⟩:=H.sy 1 (λq=>(p _ q).slc);obtain ⟨va,vc,rfl⟩:=H.sy 2 (λq=>(r _ q).slc);refine Ae func126 Z ntmps126 Z (Za 2 [] H Z ?_);intro b1 w H;refine Z2 7 [0,3] H Z (Au Z (call171 _) (Mf lf (kL es) (vL es) p r l) H.f3.f3 ?_);rintro _ w _ ⟨pw,rfl,rfl⟩ H;refine Za 3 [] H Z ?_;intro b2 w H;refine Z4 18 [0,4,0,2] H Z ?_;intro w H;refine Au Z (call66 _) (OQ pp mb n o t _ Q (Fd ⟨lf,es⟩) (JD c.len) (λh q=>q.rd U U (Kl O (by simpa using c.len)) (Me O (by simpa using c.len))) x none (λq hq=>by cases hq) (λa h1 h2 h3=>TInv.take K.i h3 ⟨h1,h2⟩)) H.f1.f5 ?_;rintro _ w _ (⟨b,rfl,rfl⟩|⟨a,F,e,⟨s,g,a0,f,a1,j,d⟩,rfl,rfl⟩) m
 ·have H:=m.l6;refine Zc 7 Z (Zr Z ?_);exact ⟨_,.inl ⟨b,Z,Z⟩,H.perm 6 [0,3,4] Z Z⟩
 have H:=m.l6;refine Zc 7 Z (Zr Z ?_);exact ⟨_,.inr ⟨a,F,e,⟨g,f,j,d⟩,Z,Z⟩,H.perm 6 [0,3,4] Z Z⟩
end
section
variable{Tb:Ai}
theorem ZE(es:List E)(c a:Nat)(Q:List Nat):(((vals es).take es.length).reverse++(c::a::Q)).Perm (a::c::(vals es++Q)):=by
 rw[Aem (by simp[vals])];have b:((vals es).reverse++(c::a::Q)).Perm (vals es++(c::a::Q)):=Afz _ (List.reverse_perm _);refine b.trans ?_;have d:(vals es++(c::a::Q)).Perm ((c::a::Q)++vals es):=Af7;refine d.trans ?_;have e:((c::a::Q)++vals es).Perm (a::c::(Q++vals es)):=by
  simp only[AfD];exact AfZ _ _ _
 exact e.trans (Afm _ (Afm _ Af7))
set_option maxHeartbeats 1000000 in
theorem JE (pp mb n:Nat) (o:TB) (t:TS) (Q:List Nat) (a:Nat) (lf:Bool) (es:List E) (hN:t.N a=some (.nd ⟨lf,es⟩)) (hk:t.k<40) (hb:Q.length+n<=980):Ak 172 [Y pp,I (a:Int)] [trA Tb pp mb n o (some (t,a::Q))] (λv G=>(cnt t.F 0 1024=0/\∃(d b:Value) (s:TS×List Nat),v=.tuple #[I 0,.agg #[.bool lf,d,b],I 20]/\G=[grow 3 1 d (kL es).length ((kL es).map I),grow 3 1 b (vL es).length ((vL es).map I),trA Tb pp mb n o (some s)])\/∃(t2:TS) (c:Nat) (d b:Value),OwnP t t2 es Q c/\v=.tuple #[I (c:Int),.agg #[.bool lf,d,b],I 0]/\G=[grow 3 1 d (kL es).length ((kL es).map I),grow 3 1 b (vL es).length ((vL es).map I),trA Tb pp mb n o (some (t2,c::(vals es++Q)))]):=by
 intro z R w H;replace H:=H.l1;have K:=H.says 0 Z (λh a=>trA.k a);have hn:=K.hn;have c0:=K.i.nin a _ hN;have b6:CkN lf (kL es) (vL es):=K.i.vok U hn.2 hN;have b0:=(K.i.nds a _ hN).1;have b7:=(K.i.nds a _ hN).2.2;have a7:=K.i.pos (p:=a) (by simp[CV]);have a7:1<=t.C a:=a7;refine Ae func172 Z ntmps172 Z (Za 3 [] H Z ?_);intro b1 w H;refine Zc 7 Z (Au Z (call119 _) (HY pp mb n o (some (t,a::Q)) a lf es hN) H.f1 ?_);rintro _ w _ ⟨d,b,rfl,rfl⟩ H;replace H:=H.l4;have a0:=H.sy 0 (·.slc);have y:=H.sy 1 (·.slc);refine Za 3 [] H Z ?_;intro b2 w H;refine AC Z Z (Am 0 H Z Z Z Z (vs:=[.bool lf,d,b]) Z (Ab Z (Ab a0.one (Ab y.one Aw))) J O (out:=[.bool lf,d,b]) Z) ?_;rintro w H;replace H:=H.l5;refine Z0 11 [4] Z (z_E_ Z (call125 _) (Md pp mb n o a U) H.f3 ?_);intro w H;replace H:=H.l5;refine AD 24 (v:=I (t.C a:Int)) Z Z (Z0 4 [0] Z (Af Z (λh1=>?_) (λh1=>?_)))
 ·refine Zc 1 Z ?_;replace H:=H.f1;refine AS (Sep z (blk b2 [.bool lf,d,b] 195::R)) 6 Z J (A4 H λw x=>?_)
  have H:=x.l5;refine AZ [0,1,2,3] [0,3] [] (by exact H.pick 5 [0] Z) Z J Z (AE [4] J O (Al (Bl Z Z Z (Am 4 H Z Z Z Z (vs:=[.bool lf,d,b]) Z (Ab Z (Ab a0.one (Ab y.one Aw))) J O (out:=[.bool lf,d,b]) Z) ?_)));rintro w H;replace H:=H.l5;refine Az (H.pick 5 [0] Z) (AZ [5] [] [] (by exact H.pick 5 [0] Z) Z J Z (a_done J (gn (Zc 2 Z (Zl [4,3] H Z ?_)))));replace H:=(H.mono 1 (B:=trA Tb pp mb n o (some ({t with N:=fup t.N a none},a::(vals es++Q)))) Z (λh q=>q.opens U hN)).l5;exact ⟨[grow 3 1 d ((kL es).length) ((kL es).map I),grow 3 1 b ((vL es).length) ((vL es).map I),trA Tb pp mb n o (some ({t with N:=fup t.N a none},a::(vals es++Q)))],.inr ⟨_,a,d,b,Mg K.i U hN,Z,Z⟩,H.perm 5 [2,3,1] Z Z⟩
 refine Z2 6 [1,3] H Z (Au Z (call126 _) (Wk pp mb n o t (a::Q) lf es (λh q=>q.rd) (λh q=>q.rd) b0 b6 hk) H.f3.f3.f2 ?_);rintro _ w _ (⟨a1,rfl,rfl⟩|⟨c,F,k2,⟨a3,b3,b5,a2⟩,rfl,rfl⟩) x
 ·have H:=x.l5;refine Z0 16 [3] Z ?_;replace H:=H.f3;refine AS (Sep z (blk b2 [.bool lf,d,b] 195::R)) 5 Z J (A4 H λw x=>?_)
  have H:=x.l5;refine AZ [0,1,2] [0,3] [] (by exact H.pick 5 [0] Z) Z J Z (AE [3] J O (Al (Bl Z Z Z (Am 4 H Z Z Z Z (vs:=[.bool lf,d,b]) Z (Ab Z (Ab a0.one (Ab y.one Aw))) J O (out:=[.bool lf,d,b]) Z) ?_)));rintro w H;replace H:=H.l5;refine Az (H.pick 5 [0] Z) (AZ [4] [] [] (by exact H.pick 5 [0] Z) Z J Z (a_done J (gn (Zc 2 Z (Zl [4,3] H Z ?_)))));exact ⟨[grow 3 1 d ((kL es).length) ((kL es).map I),grow 3 1 b ((vL es).length) ((vL es).map I),trA Tb pp mb n o (some (t,a::Q))],.inl ⟨a1,d,b,_,Z,Z⟩,H.perm 5 [2,3,1] Z Z⟩
 have H:=x.l5;refine Z0 19 [4] Z ?_;obtain ⟨l,m,rfl⟩:=a0;obtain ⟨f,g,rfl⟩:=y;refine Z2 8 [2,3,0] H Z ?_;refine AF (σ:=Nat×(Nat->Nat)) (λ⟨i,C⟩=>[(43,I (i:Int)),(0,Y pp),(1,I (a:Int)),(5,Y b1),(7,Y b2),(9,I (c:Int)),(41,.slice f ((vL es).length) g),(42,I (((vL es).length:Nat):Int))])
   (λ⟨i,C⟩ w=>Sep z (trA Tb pp mb n o (some (⟨fup t.N c none,C,F,k2⟩,((vals es).take i).reverse++(c::a::Q)))::grow 3 1 (.slice l ((kL es).length) m) ((kL es).length) ((kL es).map I)::grow 3 1 (.slice f ((vL es).length) g) ((vL es).length) ((vL es).map I)::blk b2 [.bool lf,.slice l ((kL es).length) m,.slice f ((vL es).length) g] 195::blk b1 [.bool false,.slice none 0 0,.slice none 0 0] 195::R) w/\(OwI ⟨fup t.N c none,fup t.C c 1,F,k2⟩ es i C)) (λ⟨i,C⟩=>es.length-i) ⟨0,fup t.C c 1⟩
   fr_z ⟨(by simpa using H),⟨AeR _,λ_=>Ael _,λ_ _=>rfl⟩⟩ ?_
 clear H;rintro ⟨i,C⟩ w ⟨x,hI⟩;dsimp only at hI x ⊢;have H:=x.l5;have hI:=hI;have c1:=hI.i;refine Z0 6 [0] Z (Af Z (λh2=>?_) (λh2=>?_))
 ·have a4:i<es.length:=by simp only[Aei] at h2;omega
  obtain ⟨e,he⟩:∃e,es[i]?=some e:=⟨_,Aef a4⟩;have a6:e.2∈vals es:=AeD (Aeg he);have b4:=b7 e.2 a6;have b8:1<=C e.2:=by
    have h1:=hI.ge e.2;have h2:=K.i.posE hN a6;have h3:fup t.C c 1 e.2<=C e.2:=h1;have h4:1<=t.C e.2:=h2;unfold fup at h3;split at h3<;>omega
  have a8:=b0.len;dsimp only at a8;refine Zc 6 Z ?_;have a9:=(H.rv 2 (·.rd)).at (j:=i) (u:=I (e.2:Int)) (by simp[he]);refine Ad Z (Aj Z (z:=1) (j:=i) (r:=i) J Z Z Z U a9 U) (Ad Z (Ax Z Z J (AB a9)) (Zc 7 Z (z_E_ Z (call117 _) (XE pp mb n o _ _ e.2 ⟨by omega,b4.2⟩ b8 (by simp only[Aeh,List.length_reverse,AeA,Aej];omega)) H ?_)));intro w H;refine Z1 17 [4] [(i:Int)+1] Z U (gf ?_);intro _ hF;refine ⟨⟨i+1,fup C e.2 (C e.2+1)⟩,hF.cz,⟨(by rw[Wj he];exact H),?_⟩,?_⟩
  ·exact hI.next he
  (dsimp only;omega)
 obtain rfl:i=es.length:=by simp only[Aei] at h2;omega
 have a5:2<=C a:=by
   have h1:fup t.C c 1 a<=C a:=hI.ge a;have h2:c≠a:=λe=>by rw[e] at a3;omega
   rw[fup_ne _ _ (AfV h2)] at h1;omega
 refine Zc 2 Z (gx (Zc 3 Z ?_));replace H:=(H.mono 0 (B:=trA Tb pp mb n o (some (⟨fup t.N c none,C,F,k2⟩,a::c::(vals es++Q)))) Z (λh q=>q.perm (ZE es c a Q))).l5;replace H:=H.f3;refine AS (Sep z (blk b2 [.bool lf,.slice l ((kL es).length) m,.slice f ((vL es).length) g] 195::R)) 8 Z J (A4 H λw x=>?_);have H:=x.l5;refine AZ [0,1,2,3] [0,3] [] (by exact H.pick 5 [0] Z) Z J Z (AE [4] J O (Al (Br Z Z Z Z Z Z (λw=>call131 _ w) (QI pp mb n o _ _ a a5) H.f1 Z ?_)));rintro _ w _ ⟨rfl,rfl⟩ H;replace H:=H.l5;refine Az (H.pick 5 [1] Z) (AZ [5] [] [] (by exact H.pick 5 [1] Z) Z J Z (AE [6] J O (Al (Bl Z Z Z (Am 4 H Z Z Z Z (vs:=[.bool lf,.slice l ((kL es).length) m,.slice f ((vL es).length) g]) Z (by simp[u8,u32,Value.oneCell']) J O (out:=[.bool lf,.slice l ((kL es).length) m,.slice f ((vL es).length) g]) Z) ?_))));rintro w H;replace H:=H.l5;refine Az (H.pick 5 [1] Z) (AZ [7] [] [] (by exact H.pick 5 [1] Z) Z J Z (a_done J (gn (Zc 2 Z (Zl [4,3] H Z ?_)))));exact ⟨[grow 3 1 (.slice l ((kL es).length) m) ((kL es).length) ((kL es).map I),grow 3 1 (.slice f ((vL es).length) g) ((vL es).length) ((vL es).map I),trA Tb pp mb n o (some (⟨fup t.N c none,fup C a (C a-1),F,k2⟩,c::(vals es++Q)))],.inr ⟨_,c,.slice l ((kL es).length) m,.slice f ((vL es).length) g,ZD K.i hN a3 hI b3 a2 b5,Z,Z⟩,H.perm 5 [2,3,0] Z Z⟩
end
section
abbrev gK(v:Value)(es:List E):Ai:=grow 3 1 v (kL es).length ((kL es).map (Value.int .i64))
abbrev gV(v:Value)(es:List E):Ai:=grow 3 1 v (vL es).length ((vL es).map (Value.int .i64))
abbrev Gs(A:Ai)(kv:Value)(es:List E):Prop:=∀h,A h->rdH 1 kv (kL es).length ((kL es).map (Value.int .i64)) h
abbrev Gt(B:Ai)(vv:Value)(es:List E):Prop:=∀h,B h->rdH 1 vv (vL es).length ((vL es).map (Value.int .i64)) h
abbrev DD(lf:Bool)(k v:Value):Value:=.agg #[.bool lf,k,v]
theorem TO{B:List E}(b:∀e∈X,e.1<s)(c:∀e,B.head?=some e->s<=e.1):FdI (kL (X++B)) s X.length:=by
 refine ⟨by simp,λj x d a=>?_,λx a=>?_⟩
 ·simp only[kL,Aer,Aep d] at a
  cases h:X[j]? with
  | none=>rw[h] at a;cases a
  | some e=>rw[h] at a;simp at a;subst a;exact b e (Aeg h)
 simp only[kL,Aer,Aev (Ael _),AgG] at a
 cases B with
 | nil=>simp at a
 | cons e t=>simp at a;subst a;exact c e Z
theorem fd_cases{es:List E}(h:Srt es)(key:Int):(∃X v Y_,es=X++(key,v)::Y_/\(∀e∈X,e.1<key)/\FdI (kL es) key X.length/\(kL es)[X.length]?=some key)\/(¬CE key es/\∃X Y_,es=X++Y_/\(∀e∈X,e.1<key)/\(∀e∈Y_,key<e.1)/\FdI (kL es) key X.length/\¬(kL es)[X.length]?=some key):=by
 rcases key_split h key with ⟨X,v,Y_,rfl,b⟩|⟨d,X,Y_,rfl,b,c⟩
 ·exact .inl ⟨X,v,Y_,Z,b,TO b (λe a=>by simp at a;subst a;exact Afo _),by simp[kL]⟩
 refine .inr ⟨d,X,Y_,Z,b,c,TO b (λe a=>?_),λq=>?_⟩
 ·cases Y_ with
  | nil=>cases a
  | cons y t=>simp at a;subst a;exact AgW (c y O)
 simp only[kL,Aer,Aev (Ael _),AgG] at q
 cases Y_ with
 | nil=>simp at q
 | cons y t=>simp at q;have:=c y O;omega
theorem RT{lf:Bool}{es:List E}{B:Ai}(k:Gs A u es)(l:Gt B y es)(d:CkN lf (kL es) (vL es))(hs:Srt es)(key:Int)(val:Nat)(m:(0<=key/\key<1048576)/\1<=val/\val<1024)(e:CE key es\/es.length<8):
  Ak 207 [DD lf u y,I key,I (val:Int)] [A,B] (λv G=>∃g f:Value,v=.tuple #[DD lf g f,I 0]/\G=[gK g (putE key val es),gV f (putE key val es),A,B]):=by
 have a:(0<=key/\key<1048576)/\1<=(val:Int)/\(val:Int)<1024:=by omega
 rcases fd_cases hs key with ⟨X,v0,Y_,rfl,c,i,b⟩|⟨n,X,Y_,rfl,c,j,i,b⟩
 ·have h:=Zw lf u y A B k l d key (val:Int) a X.length i b
  have e1:kL (putE key val (X++(key,v0)::Y_))=kL (X++(key,v0)::Y_):=by rw[Ed c];simp[kL]
  have e2:vL (putE key val (X++(key,v0)::Y_))=(vL (X++(key,v0)::Y_)).set X.length (val:Int):=by
   rw[Ed c];simp[vL,Af1]
  refine Cn.mono h ?_;rintro v Γ ⟨g,f,rfl,rfl⟩;refine ⟨g,f,Z,?_⟩;unfold gK gV;rw[e1,e2,AeX]
 have h:=Zy lf u y A B k l d key (val:Int) a X.length i b (by
  rcases e with q|q
  ·exact absurd q n
  simpa [kL] using q) (kL (putE key val (X++Y_))) (vL (putE key val (X++Y_))) (by rw[putE_new c j];simp[kL]) (by rw[putE_new c j];simp[vL])
 exact h
theorem AbW{lf:Bool}{es:List E}{B:Ai}(i:Gs A u es)(j:Gt B y es)(c:CkN lf (kL es) (vL es))(hs:Srt es)(key:Int)(val:Nat)(g:(0<=key/\key<1048576)/\1<=val/\val<1024)(d:¬CE key es)(h:es.length=8):
  Ak 207 [DD lf u y,I key,I (val:Int)] [A,B] (λv G=>v=.tuple #[DD false (.slice none 0 0) (.slice none 0 0),I 15]/\G=[A,B]):=by
 have a:(0<=key/\key<1048576)/\1<=(val:Int)/\(val:Int)<1024:=by omega
 rcases fd_cases hs key with ⟨X,v0,Y_,rfl,f,e,b⟩|⟨l,X,Y_,rfl,f,k,e,b⟩
 ·exact absurd ⟨v0,by simp⟩ d
 exact Zx lf u y A B i j c key (val:Int) a X.length e b (by simpa [kL] using h)
theorem OS{lf:Bool}{es:List E}{B:Ai}(g:Gs A u es)(h:Gt B y es)(d:es.length<=8)(hs:Srt es)(key:Int):
  Ak 120 [DD lf u y,I key] [A,B] (λv G=>(∃X v0 Y_,(es=X++(key,v0)::Y_/\∀e∈X,e.1<key)/\v=.tuple #[I (X.length:Int),.bool true]/\G=[A,B])\/(¬CE key es/\∃i:Nat,v=.tuple #[I (i:Int),.bool false]/\G=[A,B])):=by
 refine Cn.mono (JC lf u y _ _ A B g h key (by simpa [kL] using d)) ?_;rintro v Γ ⟨i,hi,rfl,rfl⟩;rcases fd_cases hs key with ⟨X,v0,Y_,e,c,b,a⟩|⟨f,X,Y_,_,c,j,b,a⟩
 ·obtain rfl:=hi.uniq b
  exact .inl ⟨X,v0,Y_,⟨e,c⟩,by rw[decide_eq_true a],Z⟩
 obtain rfl:=hi.uniq b;exact .inr ⟨f,_,by rw[decide_eq_false a],Z⟩
theorem Mj{lf:Bool}{es:List E}{B:Ai}(l:Gs A u es)(o:Gt B y es)(f:es.length<=8)(hs:Srt es)(b:es≠[])(key:Int):
  Ak 121 [DD lf u y,I key] [A,B] (λv G=>∃X e Y_,(es=X++e::Y_/\(X=[]\/e.1<=key)/\(∀x∈X,x.1<e.1)/\∀x∈Y_,key<x.1/\e.1<x.1)/\v=I (X.length:Int)/\G=[A,B]):=by
 refine Cn.mono (Wa lf u y A B l o key (by simpa [kL] using f)) ?_;rintro v Γ ⟨i,hi,rfl,rfl⟩;obtain ⟨X,e,Y_,c,g,q,k,n⟩:=PF hs b key;obtain ⟨U_,V,r,u2,d,m⟩:=GZ hs key;have p:FcI (kL es) key U_.length:=by
  rw[r];refine ⟨by simp,λj x s a=>?_,λx a=>?_⟩
  ·simp only[kL,Aer,Aep s] at a
   cases h:U_[j]? with
   | none=>rw[h] at a;cases a
   | some e=>rw[h] at a;simp at a;subst a;exact d e (Aeg h)
  simp only[kL,Aer,Aev (Ael _),AgG] at a
  cases V with
  | nil=>simp at a
  | cons e t=>simp at a;subst a;exact m e O
 obtain rfl:=hi.uniq p;refine ⟨X,e,Y_,⟨c,q,k,n⟩,?_,Z⟩;rw[g];unfold chI;rw[u2]
theorem AbX{lf:Bool}{Y_:List E}{e:E}{B:Ai}(g:Gs A u (X++e::Y_))(f:Gt B y (X++e::Y_))(b:CkN lf (kL (X++e::Y_)) (vL (X++e::Y_)))(a:CkN lf (kL (X++Y_)) (vL (X++Y_))):
  Ak 177 [DD lf u y,I (X.length:Int)] [A,B] (λv G=>∃d c:Value,v=.tuple #[DD lf d c,I 0]/\G=[gK d (X++Y_),gV c (X++Y_),A,B]):=
 QE lf u y A B g f b X.length (by simp[kL]) (kL (X++Y_)) (vL (X++Y_)) (by simp[kL,Ae9]) (by simp[vL,Ae9]) a
theorem ZF{lf:Bool}{B:Ai}(h:Gs A u X)(g:Gt B y X)(b:CkN lf (kL X) (vL X))(a:X.length=8):
  Ak 208 [DD lf u y] [A,B] (λv G=>∃f e d c:Value,v=.tuple #[DD lf f e,DD lf d c,I 0]/\G=[gK f (X.take 4),gV e (X.take 4),gK d (X.drop 4),gV c (X.drop 4),A,B]):=
 Wb lf u y A B h g b (by simp[kL,a]) (kL (X.take 4)) (vL (X.take 4)) (kL (X.drop 4)) (vL (X.drop 4)) (by simp[kL,a,Afr]) (by simp[kL,vL,a,Afr]) (by simp[kL,a,AfX]) (by simp[kL,vL,a,AfX])
theorem Wl{es1 es2:List E}(hs:Srt (es1++es2)):∀x y:Int,(kL es1)[(kL es1).length-1]?=some x->(kL es2)[0]?=some y->x<y:=λx y f e=>by
 obtain ⟨a,d,rfl⟩:=Aen.1 (Aeg f);obtain ⟨b,c,rfl⟩:=Aen.1 (Aeg e);exact (Srt.app.1 hs).2.2 a d b c
variable{lf:Bool}{kv1 vv1 kv2 vv2:Value}{es1 es2:List E}{A1 B1 A2 B2:Ai}
theorem AbY(e:Gs A1 kv1 es1)(c:Gt B1 vv1 es1)(d:Gs A2 kv2 es2)(f:Gt B2 vv2 es2)(a:CkN lf (kL es1) (vL es1))(b:CkN lf (kL es2) (vL es2))(hs:Srt (es1++es2))(i:es1.length+es2.length<=8):
  Ak 212 [DD lf kv1 vv1,DD lf kv2 vv2] [A1,B1,A2,B2] (λv G=>∃h g:Value,v=.tuple #[DD lf h g,I 0]/\G=[gK h (es1++es2),gV g (es1++es2),A1,B1,A2,B2]):=
 Wd lf kv1 vv1 A1 B1 e c kv2 vv2 A2 B2 d f a b (Wl hs) (by simpa [kL] using i) (kL (es1++es2)) (vL (es1++es2)) (by simp[kL]) (by simp[vL])
theorem joinF_e(e:Gs A1 kv1 es1)(c:Gt B1 vv1 es1)(d:Gs A2 kv2 es2)(f:Gt B2 vv2 es2)(a:CkN lf (kL es1) (vL es1))(b:CkN lf (kL es2) (vL es2))(hs:Srt (es1++es2))(g:8<es1.length+es2.length):
  Ak 212 [DD lf kv1 vv1,DD lf kv2 vv2] [A1,B1,A2,B2] (λv G=>v=.tuple #[DD false (.slice none 0 0) (.slice none 0 0),I 15]/\G=[A1,B1,A2,B2]):=
 We lf kv1 vv1 A1 B1 e c kv2 vv2 A2 B2 d f a b (Wl hs) (by simpa [kL] using g)
abbrev FJ(es1 es2:List E):Nat:=((es1++es2).length+1)/2
theorem ZG(f:Gs A1 kv1 es1)(d:Gt B1 vv1 es1)(e:Gs A2 kv2 es2)(g:Gt B2 vv2 es2)(a:CkN lf (kL es1) (vL es1))(b:CkN lf (kL es2) (vL es2))(hs:Srt (es1++es2))(n:8<es1.length+es2.length):
  Ak 213 [DD lf kv1 vv1,DD lf kv2 vv2] [A1,B1,A2,B2] (λv G=>∃k j i h:Value,v=.tuple #[DD lf k j,DD lf i h,I 0]/\G=[gK k ((es1++es2).take (FJ es1 es2)),gV j ((es1++es2).take (FJ es1 es2)),gK i ((es1++es2).drop (FJ es1 es2)),gV h ((es1++es2).drop (FJ es1 es2)),A1,B1,A2,B2]):=by
 have l:kL es1++kL es2=kL (es1++es2):=by simp[kL]
 have m:vL es1++vL es2=vL (es1++es2):=by simp[vL]
 have c:(kL (es1++es2)).length=(es1++es2).length:=by simp[kL]
 exact Wf lf kv1 vv1 A1 B1 f d kv2 vv2 A2 B2 e g a b (Wl hs) (by simp[kL];omega) (kL (es1++es2)) (vL (es1++es2)) l m (kL ((es1++es2).take (FJ es1 es2))) (vL ((es1++es2).take (FJ es1 es2))) (kL ((es1++es2).drop (FJ es1 es2))) (vL ((es1++es2).drop (FJ es1 es2)))
  (by rw[c];exact Afr.symm) (by rw[c];exact Afr.symm) (by rw[c];exact AfX.symm) (by rw[c];exact AfX.symm)
end
section
variable{Tb:Ai}
theorem Lk{N:Hm}{es a b:List E}{lf:Bool}(hs:Srt es)(f:Bd N n (putE p m es) s X)(l:B5 t s (putE p m es))(h:∀e∈putE p m es,0<=e.1/\e.1<1048576)(c:(vals (putE p m es)).Nodup)
  (e:putE p m es=a++b)(a4:4<=a.length)(a5:a.length<=5)(i:4<=b.length)(b5:b.length<=5):
  ∃L1 L2,X=L1++L2/\(Bd N n a (nx b s) L1/\Bd N n b s L2)/\(B5 t (nx b s) a/\B5 (nx b s) s b/\t<nx b s/\nx b s<s)/\((Nd.mk lf a).Ok/\(Nd.mk lf b).Ok)/\(vals a).Nodup/\(vals b).Nodup:=by
 have d:=Kj (k:=p) (v:=m) hs;rw[e] at f l h c d;obtain ⟨L1,L2,r,z,h3⟩:=Bd.app.1 f;have o:a≠[]:=λq=>by rw[q] at a4;simp at a4
 have j:b≠[]:=λq=>by rw[q] at i;simp at i
 obtain ⟨u,w,_⟩:=Srt.app.1 d;have y:vals (a++b)=vals a++vals b:=by simp[vals]
 rw[y,Afc] at c;exact ⟨L1,L2,r,⟨z,h3⟩,OP d l o j,⟨⟨u,by dsimp only;omega,λx g=>h x (by simp[g]),λ_=>o⟩,⟨w,by dsimp only;omega,λx g=>h x (by simp[g]),λ_=>j⟩⟩,c.1,c.2.1⟩
theorem MV(a:Nat){y:List E}(Q:List Nat):(a::(vals (X++y)++Q)).Perm (vals y++(a::(vals X++Q))):=by
 have c:vals (X++y)=vals X++vals y:=by simp[vals]
 rw[c,Aek];have b:(a::(vals X++(vals y++Q))).Perm (a::(vals y++(vals X++Q))):=Afm _ (by
  rw[<-Aek,<-Aek];exact Afz _ Af7)
 exact b.trans Afj.symm
theorem MW(r a:Nat)(Q:List Nat):(r::(a::(R++Q))).Perm (a::(R++(r::Q))):=
 (AfZ _ _ _).trans (Afm _ Afj.symm)
theorem FE{hi:Int}(h:4<=X.length):(kL X)[0]?=some (nx X hi):=by
 cases X with
 | nil=>simp at h
 | cons e t=>rfl
theorem JF{t t1 t2:TS}{L2:List E}(b:St t t1 (n::(vals X++R)) 1 1)(c:Tr t1.N m r s q 4 L2)(a:St t1 t2 (r::R) 0 1):St t t2 R 1 2/\Tr t2.N m r s q 4 L2:=
 ⟨b.trans a (λp hp=>by simp[hp]) (λp hp=>by simp[hp]) U U,a.fr r O _ _ _ _ _ c⟩
theorem QK(h:CkN b (kL X) (vL X))(hs:Srt X)(d:0<(X.take 4).length):CkN b (kL (X.take 4)) (vL (X.take 4))/\Srt (X.take 4):=by
 have e:=AeO 4 X;have a:=hs;rw[<-e] at a;have g:X.length<=8:=by have:=h.l8;simpa [kL] using this
 refine ⟨CkN.of ⟨(Srt.app.1 a).1,by simp;omega,λx c=>?_,λ_ q=>by have q:X.take 4=[]:=q;rw[q] at d;simp at d⟩ (λv f=>?_),(Srt.app.1 a).1⟩
 ·exact h.k x.1 (AeD (Afi c))
 obtain ⟨x,c,rfl⟩:=Aen.1 f;have:=h.v (x.2:Int) (Aen.2 ⟨x,Afi c,Z⟩);omega
theorem QL(h:CkN b (kL X) (vL X))(hs:Srt X)(d:0<(X.drop 4).length):CkN b (kL (X.drop 4)) (vL (X.drop 4))/\Srt (X.drop 4):=by
 have e:=AeO 4 X;have a:=hs;rw[<-e] at a;have g:X.length<=8:=by have:=h.l8;simpa [kL] using this
 refine ⟨CkN.of ⟨(Srt.app.1 a).2.1,by simp;omega,λx c=>?_,λ_ q=>by have q:X.drop 4=[]:=q;rw[q] at d;simp at d⟩ (λv f=>?_),(Srt.app.1 a).2.1⟩
 ·exact h.k x.1 (AeD (Afw c))
 obtain ⟨x,c,rfl⟩:=Aen.1 f;have:=h.v (x.2:Int) (Aen.2 ⟨x,Afw c,Z⟩);omega
theorem ZH(hs:Srt X)(d:X.length=8){val:Nat}(c:¬CE t X)(h:nx (X.drop 4) 0<=t):putE t val X=X.take 4++putE t val (X.drop 4)/\4<=(putE t val (X.drop 4)).length/\(putE t val (X.drop 4)).length<=5:=by
 obtain ⟨a,b,e,_,_,g,i,f,_⟩:=OO (v:=val) hs d c;obtain ⟨rfl,rfl⟩:=f h;exact ⟨e,g,i⟩
theorem ZI(hs:Srt X)(d:X.length=8){val:Nat}(c:¬CE t X)(h:t<nx (X.drop 4) 0):putE t val X=putE t val (X.take 4)++X.drop 4/\4<=(putE t val (X.take 4)).length/\(putE t val (X.take 4)).length<=5:=by
 obtain ⟨a,b,e,a4,a5,_,_,_,f⟩:=OO (v:=val) hs d c;obtain ⟨rfl,rfl⟩:=f h;exact ⟨e,a4,a5⟩
theorem AbZ(pp mb n:Nat)(o:TB)(t:TS)(Q:List Nat)(a:Nat)(lf:Bool)(kv u:Value)(es:List E)(A B:Ai)(hA:∀h,A h->rdH 1 kv (kL es).length ((kL es).map I) h)(hB:∀h,B h->rdH 1 u (vL es).length ((vL es).map I) h)(key:Int)(val:Nat)(p:(0<=key/\key<1048576)/\1<=val/\val<1024)(r:CkN lf (kL es) (vL es))(hs:Srt es)(h:Nat)(lo hi:Int)(m:Nat)(L:List E)(i:Bd t.N h (putE key val es) hi L)(s:lf=decide (h=0))(j:B5 lo hi (putE key val es))(d:(vals (putE key val es)).Nodup)(hC:t.C a=1)(hN:t.N a=none)(hk:t.k<39)(hm:m<=(putE key val es).length)(c:(Nd.mk lf (putE key val es)).Ok)(e:CE key es\/es.length<8):Ak 173 [Y pp,I (a:Int),.agg #[.bool lf,kv,u],I key,I (val:Int)] [trA Tb pp mb n o (some (t,a::(vals (putE key val es)++Q))),A,B] (λv G=>∃t2:TS,(St t t2 Q 0 1/\Tr t2.N h a lo hi m L)/\v=.tuple #[.agg #[I (a:Int),I 0,I 0],I 0]/\G=[trA Tb pp mb n o (some (t2,a::Q)),A,B]):=by
 intro z R w H;replace H:=H.l3;obtain ⟨ka,kc,rfl⟩:=H.sy 1 (λq=>(hA _ q).slc);obtain ⟨va,vc,rfl⟩:=H.sy 2 (λq=>(hB _ q).slc);refine Ae func173 Z ntmps173 Z (Za 2 [] H Z ?_);intro b1 w H;refine Za 0 [] H Z ?_;intro b2 w H;refine Z2 8 [1,3] H Z (Au Z (call207 _) (RT hA hB r hs key val p e) H.f4.f4 ?_);rintro _ w _ ⟨y,x,rfl,rfl⟩ H;replace H:=H.l7;have g:=H.sy 0 (·.slc);have l:=H.sy 1 (·.slc);refine Za 3 [] H Z ?_;intro b5 w H;refine AC Z Z (Am 0 H Z Z Z Z (vs:=[.bool lf,y,x]) Z (Ab Z (Ab g.one (Ab l.one Aw))) J O (out:=[.bool lf,y,x]) Z) ?_;rintro w H;replace H:=H.l8;refine Z2 18 [3,0,3] H Z (Au Z (call174 _) (F7 pp mb n o t Q a lf (putE key val es) (λh q=>q.rd) (λh q=>q.rd) h lo hi m L i s j hm c d hC hN U) H.f2.f2.f7 ?_);rintro _ w _ ⟨t2,⟨b,f,a0,a1⟩,rfl,rfl⟩ H;refine Z4 5 [6] H Z ?_;intro w H;refine Zl [6,3] H Z ?_;exact ⟨_,⟨t2,⟨b,f⟩,Z,Z⟩,H.perm 8 [0,4,5] Z Z⟩
set_option maxHeartbeats 2000000 in
theorem Ab0 (pp mb n:Nat) (o:TB) (t:TS) (Q:List Nat) (a:Nat) (lf:Bool) (kv vv:Value) (es:List E) (A B:Ai) (hA:∀h,A h->rdH 1 kv (kL es).length ((kL es).map I) h) (hB:∀h,B h->rdH 1 vv (vL es).length ((vL es).map I) h) (key:Int) (val:Nat) (b4:(0<=key/\key<1048576)/\1<=val/\val<1024) (i:CkN lf (kL es) (vL es)) (hs:Srt es) (h:Nat) (lo hi:Int) (m:Nat) (L:List E) (d0:Bd t.N h (putE key val es) hi L) (y:lf=decide (h=0)) (d1:B5 lo hi (putE key val es)) (a3:(vals (putE key val es)).Nodup) (hC:t.C a=1) (hN:t.N a=none) (hk:t.k<39) (c8:∀e∈putE key val es,0<=e.1/\e.1<1048576) (c2:¬CE key es) (h8:es.length=8):Ak 173 [Y pp,I (a:Int),.agg #[.bool lf,kv,vv],I key,I (val:Int)] [trA Tb pp mb n o (some (t,a::(vals (putE key val es)++Q))),A,B] (λv G=>(cnt t.F 0 1024=0/\∃s:TS×List Nat,v=.tuple #[.agg #[I 0,I 0,I 0],I 20]/\G=[trA Tb pp mb n o (some s),A,B])\/∃(t2:TS) (kr:Int) (r:Nat) (L1 L2:List E),(St t t2 Q 1 2/\L=L1++L2/\lo<kr/\kr<hi/\Tr t2.N h a lo kr 4 L1/\Tr t2.N h r kr hi 4 L2)/\v=.tuple #[.agg #[I (a:Int),I kr,I (r:Int)],I 0]/\G=[trA Tb pp mb n o (some (t2,a::r::Q)),A,B]):=by
 intro z R w H;replace H:=H.l3;obtain ⟨ka,kc,rfl⟩:=H.sy 1 (λq=>(hA _ q).slc);obtain ⟨va,vc,rfl⟩:=H.sy 2 (λq=>(hB _ q).slc);refine Ae func173 Z ntmps173 Z (Za 2 [] H Z ?_);intro b1 w H;refine Za 0 [] H Z ?_;intro b2 w H;refine Z2 8 [1,3] H Z (z_E_ Z (call207 _) (AbW hA hB i hs key val b4 c2 h8) H.f4.f4 ?_);intro w H;refine Za 3 [] H Z ?_;intro b3 w H;refine Z4 27 [0,4,4,4,3] H Z ?_;intro w H;refine Au Z (call208 _) (ZF hA hB i h8) H.f2.f2 ?_;rintro _ w _ ⟨v4,v5,v6,v7,rfl,rfl⟩ H;replace H:=H.l10;have d8:=H.sy 0 (·.slc);have d9:=H.sy 1 (·.slc);have d6:=H.sy 2 (·.slc);have e2:=H.sy 3 (·.slc);refine Za 4 [] H Z ?_;intro b8 w H;refine Za 0 [] H Z ?_;intro b9 w H;refine AC Z Z (Am 1 H Z Z Z Z (vs:=[.bool lf,v4,v5]) Z (Ab Z (Ab d8.one (Ab d9.one Aw))) J O (out:=[.bool lf,v4,v5]) Z) ?_;rintro w H;replace H:=H.l12;refine AC Z Z (Am 0 H Z Z Z Z (vs:=[.bool lf,v6,v7]) Z (Ab Z (Ab d6.one (Ab e2.one Aw))) J O (out:=[.bool lf,v6,v7]) Z) ?_;rintro w H;replace H:=H.l12;refine Z0 15 [4] Z ?_;obtain ⟨ak,a0,rfl⟩:=d6;have d:=(H.rv 4 (·.rd)).at (j:=0) (u:=I (nx (es.drop 4) 0)) (by rw[Aer,FE (by rw[AeP];omega)];rfl);refine Z2 4 [1,0,0] H Z (Ad Z (Aj Z (z:=1) (j:=0) (r:=0) J Z Z Z (by simp only[Aei,AeP];omega) d U) (Ad Z (Ax Z Z J (AB d)) (Z0 3 [0] Z (Af Z (λh1=>?_) (λh1=>?_)))))
 ·obtain ⟨d5,g,c6⟩:=ZH (val:=val) hs h8 c2 h1;refine Z2 4 [0,3] H Z (Au Z (call207 _) (RT (λh q=>q.rd) (λh q=>q.rd) (QL i hs (by simp;omega)).1 (QL i hs (by simp;omega)).2 key val b4 (.inr (by simp;omega))) H.f5.f5 ?_);rintro _ w _ ⟨d2,a6,rfl,rfl⟩ H;replace H:=H.l14;have a2:=H.sy 0 (·.slc)
  have d7:=H.sy 1 (·.slc);refine Zc 3 Z (AC Z Z (Am 4 H Z Z Z Z (vs:=[.bool lf,d2,a6]) Z (Ab Z (Ab a2.one (Ab d7.one Aw))) J O (out:=[.bool lf,d2,a6]) Z) ?_);rintro w H;replace H:=H.l14;refine Z0 14 [4] Z ?_;obtain ⟨L1,L2,hL,⟨a4,b7⟩,⟨c7,a7,b0,a8⟩,⟨c0,b5⟩,c4,b6⟩:=Lk (lf:=lf) hs d0 d1 c8 a3 d5 (by simp;omega) (by simp;omega) g c6;replace H:=(H.mono 13 (B:=trA Tb pp mb n o (some (t,vals (putE key val (es.drop 4))++(a::(vals (es.take 4)++Q))))) Z (λh q=>q.perm (by rw[d5];exact MV a Q))).l14;refine Z2 3 [4,3] H Z (Au Z (call126 _) (HZ pp mb n o t (a::(vals (es.take 4)++Q)) lf (putE key val (es.drop 4)) (λh q=>q.rd) (λh q=>q.rd) h (nx (putE key val (es.drop 4)) hi) hi 4 L2 b7 y a7 g b5 b6 U) H.f1.f1.f13 ?_);rintro _ w _ (⟨f,rfl,rfl⟩|⟨t1,r,⟨b,l,a5⟩,rfl,rfl⟩) H'
  ·have H:=H'.l14;refine Z4 24 [3,12] H Z ?_;intro w H;refine Zl [12,3] H Z ?_;exact ⟨_,.inl ⟨f,_,Z,Z⟩,H.perm 14 [0,9,10] Z Z⟩
  have H:=H'.l14;have p:=a5 a O;refine Z0 18 [4] Z ?_;obtain ⟨bk,a1,rfl⟩:=a2;have x:=(H.rv 1 (·.rd)).at (j:=0) (u:=I (nx (putE key val (es.drop 4)) hi)) (by rw[Aer,FE g];rfl);replace H:=(H.mono 0 (B:=trA Tb pp mb n o (some (t1,a::(vals (es.take 4)++(r::Q))))) Z (λh q=>q.perm (MW r a Q))).l14;replace H:=H.f1.f5.f6;refine AS (Sep z (blk b8 [.bool lf,v4,v5] 195::blk b9 [.bool lf,.slice bk ((kL (putE key val (es.drop 4))).length) a1,a6] 195::grow 3 1 (.slice bk ((kL (putE key val (es.drop 4))).length) a1) ((kL (putE key val (es.drop 4))).length) ((kL (putE key val (es.drop 4))).map I)::R)) 13 Z J (A4 H λw H'=>?_);have H:=H'.l14;refine AZ [0,1,2] [1,1,0] [] (by exact H.pick 14 [0,1,2] Z) Z J Z (BQ 3 Z J J J Z Z Z (Aj Z (z:=1) (j:=0) (r:=0) J Z Z Z (by simp only[Aei];first|omega|(rw[AeP];omega)) x U) (H.pick 14 [0,1,2] Z) (BQ 4 Z J J J Z Z Z (Ax Z Z J (λ_ c5=>(c5.rv 2 (·.rd)).at (j:=0) (u:=I (nx (putE key val (es.drop 4)) hi)) (by rw[Aer,FE g];rfl))) (H.pick 14 [0,1,2] Z) ?_));refine AZ [5,6,7,8,9] [0,3] [] (by exact H.pick 14 [0,1,2] Z) Z J Z (AE [10] J O (Al (Br Z Z Z Z Z Z (λw=>call174 _ w) (F7 pp mb n o t1 (r::Q) a lf (es.take 4) (λh q=>q.rd) (λh q=>q.rd) h lo (nx (putE key val (es.drop 4)) hi) 4 L1 (b.bd (λv hv=>by simp[hv]) a4) y c7 (by simp;omega) c0 c4 (p.2.trans hC) (p.1.trans hN) (by have:=b.k;omega)) H.f8.f8.f5 Z ?_)));rintro _ w _ ⟨t2,⟨c,c3,e0,e1⟩,rfl,rfl⟩ H;replace H:=H.l14;refine Az (H.pick 14 [3,4,5] Z) (AE [11] J O (Al (Bl Z Z Z (Am 12 H Z Z Z Z (vs:=[I (a:Int),I (nx (putE key val (es.drop 4)) hi),I (r:Int)]) Z (by simp[u8,u32,Value.oneCell']) J O (out:=[I (a:Int),I (nx (putE key val (es.drop 4)) hi),I (r:Int)]) Z) ?_)));rintro w H;replace H:=H.l14;refine Az (H.pick 14 [3,4,5] Z) (AZ [12] [] [] (by exact H.pick 14 [3,4,5] Z) Z J Z (a_done J (gn (Zc 2 Z (Zl [12,3] H Z ?_)))));exact ⟨_,.inr ⟨t2,nx (putE key val (es.drop 4)) hi,r,L1,L2,⟨(JF b l c).1,hL,b0,a8,c3,(JF b l c).2⟩,Z,Z⟩,H.perm 14 [0,9,10] Z Z⟩
 obtain ⟨c9,g,c6⟩:=ZI (val:=val) hs h8 c2 U;refine Z2 4 [1,3] H Z (Au Z (call207 _) (RT (λh q=>q.rd) (λh q=>q.rd) (QK i hs (by simp;omega)).1 (QK i hs (by simp;omega)).2 key val b4 (.inr (by simp;omega))) H.f3.f3 ?_);rintro _ w _ ⟨a9,c1,rfl,rfl⟩ H;replace H:=H.l14;have d3:=H.sy 0 (·.slc);have d4:=H.sy 1 (·.slc);refine Zc 3 Z (AC Z Z (Am 5 H Z Z Z Z (vs:=[.bool lf,a9,c1]) Z (Ab Z (Ab d3.one (Ab d4.one Aw))) J O (out:=[.bool lf,a9,c1]) Z) ?_);rintro w H;replace H:=H.l14;refine Z0 14 [4] Z ?_;obtain ⟨L1,L2,hL,⟨a4,b7⟩,⟨c7,a7,b0,a8⟩,⟨c0,b5⟩,c4,b6⟩:=Lk (lf:=lf) hs d0 d1 c8 a3 c9 g c6 (by simp;omega) (by simp;omega);replace H:=(H.mono 13 (B:=trA Tb pp mb n o (some (t,vals (es.drop 4)++(a::(vals (putE key val (es.take 4))++Q))))) Z (λh q=>q.perm (by rw[c9];exact MV a Q))).l14;refine Z2 3 [4,3] H Z (Au Z (call126 _) (HZ pp mb n o t (a::(vals (putE key val (es.take 4))++Q)) lf (es.drop 4) (λh q=>q.rd) (λh q=>q.rd) h (nx (es.drop 4) hi) hi 4 L2 b7 y a7 (by simp;omega) b5 b6 U) H.f7.f7.f13 ?_);rintro _ w _ (⟨f,rfl,rfl⟩|⟨t1,r,⟨b,l,a5⟩,rfl,rfl⟩) H'
 ·have H:=H'.l14;refine Z4 24 [3,12] H Z ?_;intro w H;refine Zl [12,3] H Z ?_;exact ⟨_,.inl ⟨f,_,Z,Z⟩,H.perm 14 [0,9,10] Z Z⟩
 have H:=H'.l14;have p:=a5 a O;refine Z0 18 [4] Z ?_;replace H:=(H.mono 0 (B:=trA Tb pp mb n o (some (t1,a::(vals (putE key val (es.take 4))++(r::Q))))) Z (λh q=>q.perm (MW r a Q))).l14;replace H:=H.f1.f7.f8;refine AS (Sep z (blk b8 [.bool lf,a9,c1] 195::blk b9 [.bool lf,.slice ak ((kL (es.drop 4)).length) a0,v7] 195::grow 3 1 (.slice ak ((kL (es.drop 4)).length) a0) ((kL (es.drop 4)).length) ((kL (es.drop 4)).map I)::R)) 13 Z J (A4 H λw H'=>?_);have H:=H'.l14;refine AZ [0,1,2] [1,1,0] [] (by exact H.pick 14 [0,1,2] Z) Z J Z (BQ 3 Z J J J Z Z Z (Aj Z (z:=1) (j:=0) (r:=0) J Z Z Z (by simp only[Aei];first|omega|(rw[AeP];omega)) d U) (H.pick 14 [0,1,2] Z) (BQ 4 Z J J J Z Z Z (Ax Z Z J (λ_ c5=>(c5.rv 2 (·.rd)).at (j:=0) (u:=I (nx (es.drop 4) hi)) (by rw[Aer,FE (by simp;omega)];rfl))) (H.pick 14 [0,1,2] Z) ?_));refine AZ [5,6,7,8,9] [0,3] [] (by exact H.pick 14 [0,1,2] Z) Z J Z (AE [10] J O (Al (Br Z Z Z Z Z Z (λw=>call174 _ w) (F7 pp mb n o t1 (r::Q) a lf (putE key val (es.take 4)) (λh q=>q.rd) (λh q=>q.rd) h lo (nx (es.drop 4) hi) 4 L1 (b.bd (λv hv=>by simp[hv]) a4) y c7 g c0 c4 (p.2.trans hC) (p.1.trans hN) (by have:=b.k;omega)) H.f6.f6.f5 Z ?_)));rintro _ w _ ⟨t2,⟨c,c3,e0,e1⟩,rfl,rfl⟩ H;replace H:=H.l14;refine Az (H.pick 14 [3,4,5] Z) (AE [11] J O (Al (Bl Z Z Z (Am 12 H Z Z Z Z (vs:=[I (a:Int),I (nx (es.drop 4) hi),I (r:Int)]) Z (by simp[u8,u32,Value.oneCell']) J O (out:=[I (a:Int),I (nx (es.drop 4) hi),I (r:Int)]) Z) ?_)));rintro w H;replace H:=H.l14;refine Az (H.pick 14 [3,4,5] Z) (AZ [12] [] [] (by exact H.pick 14 [3,4,5] Z) Z J Z (a_done J (gn (Zc 2 Z (Zl [12,3] H Z ?_)))));exact ⟨_,.inr ⟨t2,nx (es.drop 4) hi,r,L1,L2,⟨(JF b l c).1,hL,b0,a8,c3,(JF b l c).2⟩,Z,Z⟩,H.perm 14 [0,9,10] Z Z⟩
end
section
variable{Tb:Ai}
theorem BO(X Y_:List E):vals (X++Y_)=vals X++vals Y_:=by simp[vals]
theorem Cb(e:E)(Y_:List E):vals (e::Y_)=e.2::vals Y_:=rfl
theorem ZJ{key:Int}{es:List E}:putE key n es≠[]:=by
 cases es with
 | nil=>simp[putE]
 | cons e t=>simp only[putE];split;simp;split<;>simp
theorem Hi{es:List E}(hs:Srt es){key:Int}(val:Nat)(a:¬CE key es):(vals (putE key val es)).Perm (val::vals es)/\(putE key val es).length=es.length+1:=by
 rcases key_split hs key with ⟨X,v,Y_,rfl,_⟩|⟨_,X,Y_,rfl,b,c⟩
 ·exact absurd ⟨v,by simp⟩ a
 rw[putE_new b c,BO,BO,Cb];exact ⟨Afj,by simp;omega⟩
theorem Km{es:List E}(hs:Srt es)(key:Int)(val:Nat):es.length<=(putE key val es).length/\(putE key val es).length<=es.length+1:=by
 rcases key_split hs key with ⟨X,v,Y_,rfl,a⟩|⟨b,X,Y_,e,a,c⟩
 ·rw[Ed a];simp
 have:=(Hi hs val b).2;omega
theorem OT{es:List E}(hs:Srt es){lo hi key:Int}(val:Nat)(b:B5 lo hi es)(a:lo<=key/\key<hi):B5 lo hi (putE key val es):=λx c=>by
 rcases (putE_mem hs x).1 c with rfl|⟨h,_⟩
 ·exact a
 exact b x h
theorem Tr.ne{N:Hm}{h r:Nat}{lo hi:Int}{L:List E}(t:Tr N h r lo hi m L)(d:1<=m):L≠[]:=by
 induction h generalizing r lo hi m L with
 | zero=>
  obtain ⟨es,_,a,_,_,rfl,_⟩:=t;intro q;rw[q] at a;simp at a;omega
 | succ h ih=>
  obtain ⟨es,_,a,_,_,b⟩:=t
  cases es with
  | nil=>simp at a;omega
  | cons e t=>
   obtain ⟨L1,L2,rfl,c,_⟩:=b;intro q;exact ih c U (List.append_eq_nil_iff.1 q).1
theorem Sq.nodup{N:Hm}{h:Nat}{es:List E}{hi:Int}{L:List E}(q:Sq (λc a b L=>Tr N h c a b 4 L) es hi L)(hs:Srt es)(n:∀e∈es,e.1<hi):(vals es).Nodup:=by
 induction es generalizing L with
 | nil=>simp[vals]
 | cons e t ih=>
  obtain ⟨L1,L2,rfl,d,m⟩:=q;obtain ⟨p,l⟩:=Srt.cons.1 hs;have j:∀x∈t,x.1<hi:=λx f=>n x (by simp[f]);rw[Cb,Afk];refine ⟨λo=>?_,ih m l j⟩;obtain ⟨x,f,i⟩:=Aen.1 o;obtain ⟨A,B,rfl⟩:=List.append_of_mem f;obtain ⟨_,Lc,_,_,_,g,_⟩:=Sq.at m;rw[i] at g;obtain ⟨_,rfl⟩:=d.uniq g;have k:=d.ne U;obtain ⟨y,u,rfl⟩:=AfI k;have a1:=d.srt.2 y O;have a2:=g.srt.2 y O;have a3:nx (A++x::B) hi<=x.1:=by
   cases A with
   | nil=>exact Afo _
   | cons z A=>exact AgW ((Srt.cons.1 l).1 x O)
  omega
theorem Bd.nodup{N:Hm}{h:Nat}{es:List E}{hi:Int}{L:List E}(q:Bd N (h+1) es hi L)(hs:Srt es)(a:∀e∈es,e.1<hi):(vals es).Nodup:=Sq.nodup q hs a
theorem Ab1{N:Hm}{h:Nat}{lo hi:Int}{L X Y_:List E}{e:E}{key:Int}(val:Nat)(hs:Srt (X++e::Y_))(f:B5 lo hi (X++e::Y_))(s:Bd N (h+1) (X++e::Y_) hi L)(k:X=[]\/e.1<=key)(j:∀x∈Y_,key<x.1/\e.1<x.1)(l:lo<=key/\key<hi):
  ∃L0 Lc L2,(Sq (λc a b L=>Tr N h c a b 4 L) X (min e.1 key) L0/\Tr N h e.2 (min e.1 key) (nx Y_ hi) 4 Lc/\Sq (λc a b L=>Tr N h c a b 4 L) Y_ hi L2)/\L=L0++(Lc++L2)/\putE key val L=L0++(putE key val Lc++L2)/\(lo<=min e.1 key/\min e.1 key<=key/\key<nx Y_ hi/\nx Y_ hi<=hi):=by
 obtain ⟨L0,Lc,L2,rfl,i,p,m⟩:=Sq.at s;have t:=f e O;have r:=XD (λx d=>(j x d).1) l.2;have g:nx Y_ hi<=hi:=RS (λx d=>(f x (by simp[d])).2);obtain ⟨n,o⟩:=Sq.sides hs (λx d=>(f x d).2) i m k (λx d=>(j x d).1) l.2;refine ⟨L0,Lc,L2,⟨i.nilK ?_,p.mono U (Afo _) (Ael _),m⟩,Z,?_,by omega,by omega,r,g⟩
 ·rcases k with q|q
  ·exact .inl q
  exact .inr U
 rw[putE_lt _ n,QH o]
theorem Kn{lo hi:Int}{X Y_:List E}{e:E}{k1:Int}(c:Nat)(hs:Srt (X++e::Y_))(g:B5 lo hi (X++e::Y_))(n:X=[]\/k1=e.1)(o:k1<=e.1)(j:lo<=k1):Srt (X++(k1,c)::Y_)/\B5 lo hi (X++(k1,c)::Y_):=by
 obtain ⟨k,l,i⟩:=Srt.app.1 hs;obtain ⟨m,s5⟩:=Srt.cons.1 l;refine ⟨Srt.app.2 ⟨k,Srt.cons.2 ⟨λx d=>by have:=m x d;dsimp only;omega,s5⟩,λa h b f=>?_⟩,λx d=>?_⟩
 ·rcases Aeq.1 f with rfl|f
  ·rcases n with rfl|rfl
   ·simp at h
   exact i a h e O
  exact i a h b (by simp[f])
 rcases Aes.1 d with d|d
 ·exact g x (by simp[d])
 rcases Aeq.1 d with rfl|d
 ·have:=g e O;dsimp only;omega
 exact g x (by simp[d])
theorem Wm{lo hi:Int}{X Y_:List E}{kr:Int}{c r:Nat}(hs:Srt (X++(s,c)::Y_))(l:s<kr)(g:kr<nx Y_ hi)(i:B5 lo hi (X++(s,c)::Y_))(k:nx Y_ hi<=hi):putE kr r (X++(s,c)::Y_)=X++(s,c)::(kr,r)::Y_/\¬CE kr (X++(s,c)::Y_)/\lo<=kr/\kr<hi:=by
 obtain ⟨m,h,j⟩:=Srt.app.1 hs;obtain ⟨n,s5⟩:=Srt.cons.1 h;have d:∀x∈X++[(s,c)],x.1<kr:=λx a=>by
  rcases Aes.1 a with a|a
  ·have:=j x a (s,c) O;dsimp only at this;omega
  simp at a;subst a;exact l
 have f:∀x∈Y_,kr<x.1:=λx a=>by
  cases Y_ with
  | nil=>simp at a
  | cons y t=>
   simp only[nx] at g;rcases Aeq.1 a with rfl|a
   ·exact g
   have:=(Srt.cons.1 s5).1 x a;omega
 have e:X++(s,c)::Y_=(X++[(s,c)])++Y_:=by simp
 refine ⟨by rw[e,putE_new d f];simp,?_,by have:=(i (s,c) O).1;dsimp only at this;omega,by omega⟩;rintro ⟨v,b⟩;rw[e] at b;rcases Aes.1 b with b|b
 ·have:=d _ b;dsimp only at this;omega
 have:=f _ b;dsimp only at this;omega
theorem Nf{es:List E}(hs:Srt es){key:Int}{c:Nat}{Q:List Nat}(a:¬CE key es):(c::(vals es++(n::Q))).Perm (c::(vals (putE key n es)++Q)):=
 Afm _ (Afj.trans (Afz Q (Hi hs n a).1.symm))
theorem Ng{X Y_:List E}{key:Int}{c:Nat}{Q:List Nat}(h:∀e∈X,e.1<key):(c::(vals (X++(key,m)::Y_)++(n::Q))).Perm (m::(c::(vals (putE key n (X++(key,m)::Y_))++Q))):=by
 rw[Ed h,BO,BO,Cb,Cb];have d:(vals X++m::vals Y_++n::Q).Perm (m::(vals X++vals Y_++n::Q)):=by
  have:(vals X++m::vals Y_).Perm (m::(vals X++vals Y_)):=Afj;exact Afz _ this
 have f:(vals X++vals Y_++n::Q).Perm (vals X++n::vals Y_++Q):=by
  have a:(vals X++vals Y_++n::Q).Perm (n::(vals X++vals Y_++Q)):=Afj;have b:(vals X++n::vals Y_++Q).Perm (n::(vals X++vals Y_++Q)):=Afz Q Afj;exact a.trans b.symm
 exact ((Afm c d).trans (AfZ _ _ _)).trans (Afm _ (Afm _ f))
theorem ZK{X Y_:List E}{e:E}{c:Nat}{Q:List Nat}:(c::(vals (X++e::Y_)++(n::Q))).Perm (e.2::n::(c::(vals X++(vals Y_++Q)))):=by
 rw[BO,Cb];have d:(vals X++e.2::vals Y_++n::Q).Perm (e.2::n::(vals X++(vals Y_++Q))):=by
  have a:(vals X++e.2::vals Y_++n::Q).Perm (e.2::(vals X++vals Y_++n::Q)):=Afz (n::Q) Afj;have b:(vals X++vals Y_++n::Q).Perm (n::(vals X++vals Y_++Q)):=Afj;rw[<-Aek];exact a.trans (Afm _ b)
 exact (Afm c d).trans ((AfZ _ _ _).trans (Afm _ (AfZ _ _ _)))
theorem OU{X Y_:List E}{c c2:Nat}{Q:List Nat}:(c2::(c::(vals X++(vals Y_++Q)))).Perm (c::(vals (X++(t,c2)::Y_)++Q)):=by
 rw[BO,Cb];refine (AfZ _ _ _).trans (Afm _ ?_);have:(vals X++c2::vals Y_++Q).Perm (c2::(vals X++vals Y_++Q)):=Afz Q Afj;rw[<-Aek];exact this.symm
theorem TP{X Y_:List E}{kr:Int}{c c2 r:Nat}{Q:List Nat}:(c2::r::(c::(vals X++(vals Y_++Q)))).Perm (c::(vals (X++(t,c2)::(kr,r)::Y_)++Q)):=by
 have a:(r::(c::(vals X++(vals Y_++Q)))).Perm (c::(vals (X++(kr,r)::Y_)++Q)):=OU;refine (Afm c2 a).trans ((AfZ _ _ _).trans (Afm _ ?_));rw[BO,BO,Cb,Cb,Cb];have:(vals X++c2::(r::vals Y_)++Q).Perm (c2::(vals X++(r::vals Y_)++Q)):=Afz Q Afj;exact this.symm
theorem Wn{N:Hm}{es:List E}{lo hi:Int}{key:Int}(hs:Srt es)(f:B5 lo hi es)(i:lo<=key/\key<hi)(h:∀e∈es,∃B,N e.2=some (.dt B))(d:N n=some (.dt B))(b:(vals es).Nodup)(a:n∉vals es):
  Bd N 0 (putE key n es) hi (putE key n es)/\B5 lo hi (putE key n es)/\(vals (putE key n es)).Nodup:=by
 refine ⟨⟨Z,λe k=>?_⟩,OT hs n f i,?_⟩
 ·rcases (putE_mem hs e).1 k with rfl|⟨c,_⟩
  ·exact ⟨B,d⟩
  exact h e c
 rcases key_split hs key with ⟨X,v,Y_,rfl,c⟩|⟨g,X,Y_,rfl,c,l⟩
 ·rw[Ed c,BO,Cb]
  rw[BO,Cb] at b a;simp only[Aes,Aeq,not_or] at a;have j:(n::(vals X++vals Y_)).Nodup:=Afk.2 ⟨by simp[a.1,a.2.2],(Afk.1 (Afj.nodup_iff.1 b)).2⟩;exact Afj.nodup_iff.2 j
 exact (Hi hs n g).1.nodup_iff.2 (Afk.2 ⟨a,b⟩)
theorem JG{lo hi:Int}{es:List E}(a:B5 lo hi es)(d:0<=lo)(c:hi<=1048576):∀e∈es,0<=e.1/\e.1<1048576:=λe b=>by have:=a e b;omega
theorem RU(pp mb n:Nat)(o:TB)(t:TS)(Q:List Nat)(a:Nat)(lf:Bool)(es:List E){B:Ai}(z:Gs A u es)(hB:Gt B y es)(key:Int)(val:Nat)(g:(0<=key/\key<1048576)/\1<=val/\val<1024)(d:CkN lf (kL es) (vL es))(hs:Srt es)(h:Nat)(lo hi:Int)(m:Nat)(L:List E)(f:Bd t.N h (putE key val es) hi L)(i:lf=decide (h=0))(c:B5 lo hi (putE key val es))(b:(vals (putE key val es)).Nodup)(p:t.C a=1)(hN:t.N a=none)(w:t.k<39)
  (hm:m<=(putE key val es).length)(j:0<=lo)(l:hi<=1048576):
  Ak 173 [Y pp,I (a:Int),DD lf u y,I key,I (val:Int)] [trA Tb pp mb n o (some (t,a::(vals (putE key val es)++Q))),A,B] (λv G=>(cnt t.F 0 1024=0/\∃s:TS×List Nat,v=.tuple #[.agg #[I 0,I 0,I 0],I 20]/\G=[trA Tb pp mb n o (some s),A,B])\/(∃t2:TS,(St t t2 Q 1 2/\Tr t2.N h a lo hi m L)/\v=.tuple #[.agg #[I (a:Int),I 0,I 0],I 0]/\G=[trA Tb pp mb n o (some (t2,a::Q)),A,B])\/
   ∃(t2:TS) (kr:Int) (r:Nat) (x L2:List E),(St t t2 Q 1 2/\L=x++L2/\lo<kr/\kr<hi/\Tr t2.N h a lo kr 4 x/\Tr t2.N h r kr hi 4 L2)/\v=.tuple #[.agg #[I (a:Int),I kr,I (r:Int)],I 0]/\G=[trA Tb pp mb n o (some (t2,a::r::Q)),A,B]):=by
 have e:=JG c j l;have h8:es.length<=8:=by have:=d.l8;simpa [kL] using this
 by_cases hf:CE key es\/es.length<8
 ·have hl:(putE key val es).length<=8:=by
   rcases hf with q|q
   ·rcases key_split hs key with ⟨X,v,Y_,rfl,l⟩|⟨j,_⟩
    ·rw[Ed l];simpa using h8
    exact absurd q j
   have:=(Km hs key val).2;omega
  refine Cn.mono (AbZ pp mb n o t Q a lf u y es A B z hB key val g d hs h lo hi m L f i c b p hN w hm ⟨Kj hs,hl,e,λ_=>ZJ⟩ hf) ?_;rintro v Γ ⟨t2,⟨a1,a2⟩,rfl,rfl⟩;exact .inr (.inl ⟨t2,⟨a1.sub (λ_ q=>q) U U,a2⟩,Z,Z⟩)
 simp only[not_or] at hf;refine Cn.mono (Ab0 pp mb n o t Q a lf u y es A B z hB key val g d hs h lo hi m L f i c b p hN w e hf.1 U) ?_;rintro v Γ (q|q)
 ·exact .inl q
 exact .inr (.inr q)
structure InsPre(n:Nat)(t:TS)(Q:List Nat)(a h:Nat)(lo hi:Int)(m:Nat)(key:Int)(val:Nat)(L:List E):Prop where
 T:Tr t.N h a lo hi m L
 kk:lo<=key/\key<hi
 l0:0<=lo
 h1:hi<=1048576
 dt:∃b,t.N val=some (.dt b)
 nv:∀q d,t.N q=some (.nd d)->val∉vals d.es
 hk:t.k+3*h+3<40
 hb:Q.length+10*h+12+n<=980
abbrev JH(Tb:Ai)(pp mb n:Nat)(o:TB)(t:TS)(Q:List Nat)(h:Nat)(lo hi:Int)(m:Nat)(key:Int)(val:Nat)(L:List E)(v:Value)(Γ:List Ai):Prop:=
 (cnt t.F 0 1024<=2*h+1/\∃s:TS×List Nat,v=.tuple #[.agg #[.int .i64 0,.int .i64 0,.int .i64 0],.int .i64 20]/\Γ=[trA Tb pp mb n o (some s)])\/
 (∃(t2:TS) (c:Nat),(St t t2 Q (2*h+2) (3*h+3)/\Tr t2.N h c lo hi m (putE key val L))/\v=.tuple #[.agg #[.int .i64 (c:Int),.int .i64 0,.int .i64 0],.int .i64 0]/\Γ=[trA Tb pp mb n o (some (t2,c::Q))])\/
 ∃(t2:TS) (c:Nat) (kr:Int) (r:Nat) (L1 L2:List E),(St t t2 Q (2*h+2) (3*h+3)/\putE key val L=L1++L2/\lo<kr/\kr<hi/\Tr t2.N h c lo kr 4 L1/\Tr t2.N h r kr hi 4 L2)/\v=.tuple #[.agg #[.int .i64 (c:Int),.int .i64 kr,.int .i64 (r:Int)],.int .i64 0]/\Γ=[trA Tb pp mb n o (some (t2,c::r::Q))]
variable{t1 t2:TS}{X Y_ Q':List E}{e:E}{Q:List Nat}{c c2 r h d1 d2:Nat}{lo hi key kr:Int}{L0 Lc L2 M1 M2:List E}
theorem MX(S:St t1 t2 (c::(vals X++(vals Y_++Q))) d1 d2)(d:Sq (λc a b L=>Tr t1.N h c a b 4 L) X (min e.1 key) L0)(g:Sq (λc a b L=>Tr t1.N h c a b 4 L) Y_ hi L2):Sq (λc a b L=>Tr t2.N h c a b 4 L) X (min e.1 key) L0/\Sq (λc a b L=>Tr t2.N h c a b 4 L) Y_ hi L2:=
 ⟨Sq.imp d λx f _ _ q=>S.fr _ (by simp[AeD f,vals]) _ _ _ _ _ q,Sq.imp g λx f _ _ q=>S.fr _ (by simp[AeD f,vals]) _ _ _ _ _ q⟩
theorem ZL(S:St t1 t2 (c::(vals X++(vals Y_++Q))) d1 d2)(i:Sq (λc a b L=>Tr t1.N h c a b 4 L) X (min e.1 key) L0)(f:Sq (λc a b L=>Tr t1.N h c a b 4 L) Y_ hi L2)(n:Tr t2.N h c2 (min e.1 key) (nx Y_ hi) 4 Lc)(hs:Srt (X++e::Y_))(l:B5 lo hi (X++e::Y_))(k:X=[]\/e.1<=key)(d:lo<=min e.1 key):
  Bd t2.N (h+1) (X++(min e.1 key,c2)::Y_) hi (L0++(Lc++L2))/\(Srt (X++(min e.1 key,c2)::Y_)/\B5 lo hi (X++(min e.1 key,c2)::Y_))/\(vals (X++(min e.1 key,c2)::Y_)).Nodup:=by
 obtain ⟨a,b⟩:=MX S i f;have g:=Kn c2 hs l (k1:=min e.1 key) (k.imp id (λq=>by omega)) U d;have j:Bd t2.N (h+1) (X++(min e.1 key,c2)::Y_) hi (L0++(Lc++L2)):=Sq.mk a n b;exact ⟨j,g,j.nodup g.1 (λx m=>(g.2 x m).2)⟩
theorem ZM(S:St t1 t2 (c::(vals X++(vals Y_++Q))) d1 d2)(t:Sq (λc a b L=>Tr t1.N h c a b 4 L) X (min e.1 key) L0)(n:Sq (λc a b L=>Tr t1.N h c a b 4 L) Y_ hi L2)(z:Tr t2.N h c2 (min e.1 key) kr 4 M1)(m:Tr t2.N h r kr (nx Y_ hi) 4 M2)(hs:Srt (X++e::Y_))(w:B5 lo hi (X++e::Y_))(hX:X=[]\/e.1<=key)(l:lo<=min e.1 key)(s:min e.1 key<kr)(o:kr<nx Y_ hi)(p:nx Y_ hi<=hi):
  (Srt (X++(min e.1 key,c2)::Y_))/\putE kr r (X++(min e.1 key,c2)::Y_)=X++(min e.1 key,c2)::(kr,r)::Y_/\Bd t2.N (h+1) (putE kr r (X++(min e.1 key,c2)::Y_)) hi (L0++((M1++M2)++L2))/\B5 lo hi (putE kr r (X++(min e.1 key,c2)::Y_))/\(vals (putE kr r (X++(min e.1 key,c2)::Y_))).Nodup/\lo<=kr/\kr<hi:=by
 obtain ⟨a,b⟩:=MX S t n;have d:=Kn c2 hs w (k1:=min e.1 key) (hX.imp id (λq=>by omega)) U l;obtain ⟨hp,_,i,g⟩:=Wm (r:=r) d.1 s o d.2 p;have f:=OT d.1 r d.2 ⟨i,g⟩;have j:=Kj (k:=kr) (v:=r) d.1;have u:Bd t2.N (h+1) (putE kr r (X++(min e.1 key,c2)::Y_)) hi (L0++((M1++M2)++L2)):=by
  rw[hp];have:L0++((M1++M2)++L2)=L0++(M1++(M2++L2)):=by simp
  rw[this];exact Sq.mk (e:=(min e.1 key,c2)) (B:=(kr,r)::Y_) a z ⟨M2,L2,Z,m,b⟩
 exact ⟨d.1,hp,u,f,u.nodup j (λx y=>(f x y).2),i,g⟩
theorem Wo(b:B5 lo hi (X++e::Y_))(d:lo<=min e.1 key):∀x∈X++(min e.1 key,c)::Y_,lo<=x.1/\x.1<hi:=λx a=>by
 rcases Aes.1 a with a|a
 ·exact b x (by simp[a])
 rcases Aeq.1 a with rfl|a
 ·have:=b e O;dsimp only;omega
 exact b x (by simp[a])
end
section
variable{Tb:Ai}
set_option maxHeartbeats 2000000 in
theorem Ab2 (pp mb n:Nat) (o:TB) (t:TS) (Q:List Nat) (a:Nat) (lo hi:Int) (m:Nat) (key:Int) (val:Nat) (L:List E) (hP:InsPre n t Q a 0 lo hi m key val L):Ak 127 [Y pp,I (a:Int),I key,I (val:Int)] [trA Tb pp mb n o (some (t,a::val::Q))] (λv G=>JH Tb pp mb n o t Q 0 lo hi m key val L v G):=by
 intro z R w H;replace H:=H.l1;have K:=H.says 0 Z (λh a=>trA.k a);have hn:=K.hn;have c6:=hP.kk;have h0:=hP.l0;have a0:=hP.h1;have c8:=hP.nv;have d7:=hP.hk;have d3:=hP.hb;obtain ⟨b,c0⟩:=hP.dt;have d1:=K.i.rin val (by simp[CV]);obtain ⟨es,hN,hm,b9,l,b2,a9⟩:=hP.T;have b3:CkN true (kL es) (vL es):=K.i.vok U hn.2 hN;have c4:=(K.i.nds a _ hN).2.1;have b0:(0<=key/\key<1048576)/\1<=val/\val<1024:=by omega
 obtain rfl:es=L:=b2.symm;refine Ae func127 Z ntmps127 Z (Za 2 [] H Z ?_);intro b1 w H;refine Zc 7 Z (Au Z (call172 _) (JE pp mb n o t (val::Q) a true es hN U (by simp only[Aej];omega)) H.f1 ?_);rintro _ w _ (⟨c5,v2,v3,s,rfl,rfl⟩|⟨t1,c,v2,v3,O_,rfl,rfl⟩) H'
 ·have H:=H'.l4;have a3:=H.sy 0 (·.slc)
  have a2:=H.sy 1 (·.slc);refine Za 4 [] H Z ?_;intro b4 w H;refine Zc 1 Z (AC Z Z (Am 0 H Z Z Z Z (vs:=[.bool true,v2,v3]) Z (Ab Z (Ab a3.one (Ab a2.one Aw))) J O (out:=[.bool true,v2,v3]) Z) ?_);rintro w H;replace H:=H.l5;refine Z4 20 [3,4] H Z ?_;intro w H;refine Zl [4,3] H Z ?_;exact ⟨_,.inl ⟨U,_,Z,Z⟩,H.perm 5 [3] Z Z⟩
 have H:=H'.l4;have a3:=H.sy 0 (·.slc);have a2:=H.sy 1 (·.slc);refine Za 4 [] H Z ?_;intro b5 w H;refine Zc 1 Z (AC Z Z (Am 0 H Z Z Z Z (vs:=[.bool true,v2,v3]) Z (Ab Z (Ab a3.one (Ab a2.one Aw))) J O (out:=[.bool true,v2,v3]) Z) ?_);rintro w H;replace H:=H.l5;refine Z0 15 [4] Z ?_;obtain ⟨b7,b8,a8⟩:=Wn (N:=t1.N) l.srt b9 c6 (λe he=>by obtain ⟨b,hb⟩:=a9 e he;exact ⟨b,O_.dv _ (AeD he) b hb⟩) (O_.st.dt val O b c0) c4 (c8 a _ hN);refine Z2 11 [0,0,0,0,3] H Z (Au Z (call120 _) (OS (es:=es) (λh q=>q.rd) (λh q=>q.rd) l.len l.srt key) H.f2.f2 ?_);rintro _ w _ (⟨X,v0,Y_,⟨a1,hX⟩,rfl,rfl⟩|⟨c2,i0,rfl,rfl⟩) H'
 ·have H:=H'.l5;refine Zc 14 Z ?_;have c7:∀d,t1.N v0≠some (.nd d):=λd q=>by obtain ⟨b,hb⟩:=a9 (key,v0) (by rw[a1];simp);rw[O_.dv v0 (by rw[a1];simp[vals]) b hb] at q;cases q
  obtain ⟨c9,d4,rfl⟩:=a2;have b6:=(H.rv 1 (·.rd)).at (j:=X.length) (u:=I (v0:Int)) (by rw[a1];simp[vL]);replace H:=(H.mono 3 (B:=trA Tb pp mb n o (some (t1,v0::(c::(vals (putE key val es)++Q))))) Z (λh q=>q.perm (by rw[a1];exact Ng hX))).l5;refine Z2 5 [2,2,0] H Z (Ad Z (Aj Z (z:=1) (j:=X.length) (r:=X.length) J Z Z Z (by rw[a1];simp) b6 U) (Ad Z (Ax Z Z J (AB b6)) (Au Z (call131 _) (G0 pp mb n o t1 v0 c7) H.f3 ?_)));rintro _ w _ ⟨t2,⟨y,d6,d0,d2,d5⟩,rfl,rfl⟩ H;refine Z2 19 [4,3,3] H Z (Au Z (call173 _) (RU pp mb n o t2 Q c true es (λh q=>q.rd) (λh q=>q.rd) key val b0 b3 l.srt 0 lo hi m (putE key val es) (y.bd (λv hv=>by simp[hv]) b7) Z b8 a8 (y.op c O O_.N0 O_.C1).2 (y.op c O O_.N0 O_.C1).1 (by have:=O_.st.k;have:=y.k;omega) (by have:=(Km (es:=es) l.srt key val).1;omega) h0 a0) H ?_);rintro _ w _ (⟨c3,s3,rfl,rfl⟩|⟨t3,⟨g,x⟩,rfl,rfl⟩|⟨t3,c1,r3,L3,L4,⟨g,a4,a5,a6,x,a7⟩,rfl,rfl⟩) H'
  ·have H:=H'.l5;refine Z4 7 [4] H Z ?_;intro w H;refine Zl [4,3] H Z ?_;exact ⟨_,.inl ⟨(by have:=O_.st.f;have:=y.f;omega),_,Z,Z⟩,H.perm 5 [0] Z Z⟩
  ·have H:=H'.l5;refine Z4 7 [4] H Z ?_;intro w H;refine Zl [4,3] H Z ?_;exact ⟨_,.inr (.inl ⟨_,c,⟨((O_.st.sub (λp hp=>by simp[hp]) (Ael _) (Ael _)).trans y (R:=Q) (R1:=Q) (λp hp=>hp) (λp hp=>by simp[hp]) (e:=1) (f:=1) U U).trans g (λp hp=>hp) (λp hp=>hp) U U,x⟩,Z,Z⟩),H.perm 5 [0] Z Z⟩
  have H:=H'.l5;refine Z4 7 [4] H Z ?_;intro w H;refine Zl [4,3] H Z ?_;exact ⟨_,.inr (.inr ⟨_,c,_,_,_,_,⟨((O_.st.sub (λp hp=>by simp[hp]) (Ael _) (Ael _)).trans y (R:=Q) (R1:=Q) (λp hp=>hp) (λp hp=>by simp[hp]) (e:=1) (f:=1) U U).trans g (λp hp=>hp) (λp hp=>hp) U U,a4,a5,a6,x,a7⟩,Z,Z⟩),H.perm 5 [0] Z Z⟩
 have H:=H'.l5;refine Zc 16 Z ?_;replace H:=(H.mono 3 (B:=trA Tb pp mb n o (some (t1,c::(vals (putE key val es)++Q)))) Z (λh q=>q.perm (Nf l.srt c2))).l5;refine Z2 6 [2,3] H Z (Au Z (call173 _) (RU pp mb n o t1 Q c true es (λh q=>q.rd) (λh q=>q.rd) key val b0 b3 l.srt 0 lo hi m (putE key val es) b7 Z b8 a8 O_.C1 O_.N0 (by have:=O_.st.k;omega) (by have:=(Km (es:=es) l.srt key val).1;omega) h0 a0) H.f1.f1.f3 ?_);rintro _ w _ (⟨c3,s3,rfl,rfl⟩|⟨t3,⟨g,x⟩,rfl,rfl⟩|⟨t3,c1,r3,L3,L4,⟨g,a4,a5,a6,x,a7⟩,rfl,rfl⟩) H'
 ·have H:=H'.l5;refine Z4 7 [4] H Z ?_;intro w H;refine Zl [4,3] H Z ?_;exact ⟨_,.inl ⟨(by have:=O_.st.f;omega),_,Z,Z⟩,H.perm 5 [0] Z Z⟩
 ·have H:=H'.l5;refine Z4 7 [4] H Z ?_;intro w H;refine Zl [4,3] H Z ?_;exact ⟨_,.inr (.inl ⟨_,c,⟨(O_.st.sub (λp hp=>by simp[hp]) (Ael _) (Ael _)).trans g (R:=Q) (R1:=Q) (λp hp=>hp) (λp hp=>hp) U U,x⟩,Z,Z⟩),H.perm 5 [0] Z Z⟩
 have H:=H'.l5;refine Z4 7 [4] H Z ?_;intro w H;refine Zl [4,3] H Z ?_;exact ⟨_,.inr (.inr ⟨_,c,_,_,_,_,⟨(O_.st.sub (λp hp=>by simp[hp]) (Ael _) (Ael _)).trans g (R:=Q) (R1:=Q) (λp hp=>hp) (λp hp=>hp) U U,a4,a5,a6,x,a7⟩,Z,Z⟩),H.perm 5 [0] Z Z⟩
set_option maxHeartbeats 4000000 in
theorem Ab3 (pp mb n:Nat) (o:TB) (t:TS) (Q:List Nat) (h:Nat) (ih:∀(t:TS) (Q:List Nat) (a:Nat) (lo hi:Int) (m:Nat) (key:Int) (val:Nat) (L:List E),InsPre n t Q a h lo hi m key val L->Ak 127 [Y pp,I (a:Int),I key,I (val:Int)] [trA Tb pp mb n o (some (t,a::val::Q))] (λv G=>JH Tb pp mb n o t Q h lo hi m key val L v G)) (a:Nat) (lo hi:Int) (m:Nat) (key:Int) (val:Nat) (L:List E) (hP:InsPre n t Q a (h+1) lo hi m key val L):Ak 127 [Y pp,I (a:Int),I key,I (val:Int)] [trA Tb pp mb n o (some (t,a::val::Q))] (λv G=>JH Tb pp mb n o t Q (h+1) lo hi m key val L v G):=by
 intro z R w H;replace H:=H.l1;have K:=H.says 0 Z (λh a=>trA.k a);have f8:=hP.kk;have h0:=hP.l0;have a4:=hP.h1;have g7:=hP.nv;have i7:=hP.hk;have h4:=hP.hb;obtain ⟨b,g1⟩:=hP.dt;obtain ⟨es,hN,hm,e8,a9,e7⟩:=hP.T;refine Ae func127 Z ntmps127 Z (Za 2 [] H Z ?_);intro b1 w H;refine Zc 7 Z (Au Z (call172 _) (JE pp mb n o t (val::Q) a false es hN U (by simp only[Aej];omega)) H.f1 ?_);rintro _ w _ (⟨f7,v2,v3,s,rfl,rfl⟩|⟨t1,c,v2,v3,O_,rfl,rfl⟩) H'
 ·have H:=H'.l4;have c8:=H.sy 0 (·.slc)
  have b0:=H.sy 1 (·.slc);refine Za 4 [] H Z ?_;intro b4 w H;refine Zc 1 Z (AC Z Z (Am 0 H Z Z Z Z (vs:=[.bool false,v2,v3]) Z (Ab Z (Ab c8.one (Ab b0.one Aw))) J O (out:=[.bool false,v2,v3]) Z) ?_);rintro w H;replace H:=H.l5;refine Z4 20 [3,4] H Z ?_;intro w H;refine Zl [4,3] H Z ?_;exact ⟨_,.inl ⟨U,_,Z,Z⟩,H.perm 5 [3] Z Z⟩
 have H:=H'.l4;have c8:=H.sy 0 (·.slc);have b0:=H.sy 1 (·.slc);refine Za 4 [] H Z ?_;intro b5 w H;refine Zc 1 Z (AC Z Z (Am 0 H Z Z Z Z (vs:=[.bool false,v2,v3]) Z (Ab Z (Ab c8.one (Ab b0.one Aw))) J O (out:=[.bool false,v2,v3]) Z) ?_);rintro w H;replace H:=H.l5;refine Z2 27 [4,0,0,0,0,3] H Z (Au Z (call121 _) (Mj (es:=es) (λh q=>q.rd) (λh q=>q.rd) a9.len a9.srt (a9.ne Z) key) H.f2.f2 ?_);rintro _ w _ ⟨X,e,Y_,⟨g,hX,i4,hY⟩,rfl,rfl⟩ H;refine Zc 4 Z ?_;obtain ⟨h3,e4,rfl⟩:=b0;have e5:=(H.rv 1 (·.rd)).at (j:=X.length) (u:=I (e.2:Int)) (by rw[g];simp[vL]);replace H:=(H.mono 3 (B:=trA Tb pp mb n o (some (t1,e.2::val::(c::(vals X++(vals Y_++Q)))))) Z (λh q=>q.perm (by rw[g];exact ZK))).l5;have c4:Srt (X++e::Y_):=by rw[<-g];exact a9.srt
 have b3:B5 lo hi (X++e::Y_):=by rw[<-g];exact e8
 obtain ⟨L0,Lc,L2,⟨d6,f4,e6⟩,i5,e0,d4,f0,f9,g4⟩:=Ab1 val c4 b3 (by rw[<-g];exact O_.bd e7) hX hY f8;have h6:(vals X).length+(vals Y_).length+1=es.length:=by rw[g];simp[vals];omega
 have g9:es.length<=8:=a9.len;refine Z2 5 [2,2,0] H Z (Ad Z (Aj Z (z:=1) (j:=X.length) (r:=X.length) J Z Z Z (by rw[g];simp) e5 U) (Ad Z (Ax Z Z J (AB e5)) (Zc 2 Z (Au Z (call127 _) (ih t1 (c::(vals X++(vals Y_++Q))) e.2 (min e.1 key) (nx Y_ hi) 4 key val Lc ⟨f4,⟨f0,f9⟩,by omega,by omega,⟨b,O_.st.dt val O b g1⟩,λq d hq=>g7 q d (O_.sub q d hq),by have:=O_.st.k;omega,by simp only[Aej,Aeh];omega⟩) H.f3 ?_))));rintro _ w _ (⟨h8,s2,rfl,rfl⟩|⟨t2,c2,⟨l,d0⟩,rfl,rfl⟩|⟨t2,c2,kr,r,M1,M2,⟨l,f5,g3,g0,d0,a3⟩,rfl,rfl⟩) H'
 ·have H:=H'.l5;refine Za 3 [] H Z ?_;intro b6 w H;refine Z4 21 [0,3,5] H Z ?_;intro w H;refine Zl [5,3] H Z ?_;exact ⟨_,.inl ⟨(by have:=O_.st.f;omega),_,Z,Z⟩,H.perm 6 [1] Z Z⟩
 ·have H:=H'.l5;refine Za 3 [] H Z ?_;intro b7 w H;refine Z4 15 [0,4] H Z ?_;intro w H;have g6:X.length<es.length:=by rw[g];simp
  have a6:0<(kL es).length:=by simp only[Aei];omega
  have a8:0<(vL es).length:=by simp only[Aei];omega
  obtain ⟨gk,a1,y,rfl,d9,e1,e3,H⟩:=H.ungrow 2 Z a6;replace H:=H.l6;obtain ⟨c7,a7,a0,c6,c0,c5,b9,H'⟩:=H.ungrow 3 Z a8;cases c6;clear H;have H:=H'.l6;refine Z2 6 [2,4,0,0,0,0] H Z (Ad Z (CJ Z (z:=1) (j:=X.length) (r:=X.length) J Z Z Z (by simp only[Aei];omega) U) (AC Z Z (Am 3 H Z Z Z Z (vs:=[I (c2:Int)]) Z (by simp[u8,u32,Value.oneCell']) J (by simp only[Aeh,Aei,Aej,AeE];omega) (out:=(((vL es).set X.length (c2:Int)).map I++a0)) (Ec (by simp only[Aei];omega))) ?_));rintro w H;replace H:=H.l6;refine Zc 3 Z (BJ 11 J J (A4 H λw H'=>?_));have H:=H'.l6;refine PU 6 [1,0,1,0] (AN (H.blk 4 Z) AH) Z J Z (Cd Z Z Z (CJ Z (z:=1) (j:=X.length) (r:=X.length) J Z Z Z (by simp only[Aei];omega) U) (Cd Z Z Z (Bn Z Z J (AB (H.cel 2 Z X.length (show ((kL es).map I++y)[X.length]?=some (I e.1) from (by rw[Aep (by simp only[Aei];omega),Aer,Aer,g];simp))))) ?_));refine PV 1 [] Z J (Cd Z Z Z (KA Z Z Z) (Cd Z Z Z (CJ Z (z:=1) (j:=X.length) (r:=X.length) J Z Z Z (by simp only[Aei];omega) U) (CG (gw (AC Z Z (Am 2 H Z Z Z Z (vs:=[I (min (e.1:Int) key)]) Z (by simp[u8,u32,Value.oneCell']) J (by simp only[Aeh,Aei,Aej,AeE];omega) (out:=(((kL es).set X.length (min e.1 key)).map I++y)) (Ec (by simp only[Aei];omega))) ?_)))));rintro w H;replace H:=H.l6;refine Zc 4 Z ?_;have d2:(kL es).length=(kL (X++(min e.1 key,c2)::Y_)).length:=by rw[g];simp
  have d1:(vL es).length=(vL (X++(min e.1 key,c2)::Y_)).length:=by rw[g];simp
  have c1:(kL es).set X.length (min e.1 key)=kL (X++(min e.1 key,c2)::Y_):=by rw[g];simp[kL,Af1]
  have d3:(vL es).set X.length (c2:Int)=vL (X++(min e.1 key,c2)::Y_):=by rw[g];simp[vL,Af1]
  replace H:=(H.mono 2 (B:=grow 3 1 (.slice (some ⟨gk,0,none⟩) ((kL es).length) a1) ((kL es).length) ((kL (X++(min e.1 key,c2)::Y_)).map I)) Z (λh q=>q.grow U U (by simp only[Aeh,Aei,AeX];simp only[Aei] at *;omega) (by rw[AeS,AeI O,c1]))).l6;replace H:=(H.mono 3 (B:=grow 3 1 (.slice (some ⟨c7,0,none⟩) ((vL es).length) e4) ((vL es).length) ((vL (X++(min e.1 key,c2)::Y_)).map I)) Z (λh q=>q.grow U U (by simp only[Aeh,Aei,AeX];simp only[Aei] at *;omega) (by rw[AeS,AeI O,d3]))).l6;refine Z2 10 [2,0,0,4] H Z ?_;obtain ⟨c9,⟨b2,d7⟩,c3⟩:=ZL l d6 e6 d0 c4 b3 hX d4;have i2:((X++(min e.1 key,c2)::Y_):List E).length=es.length:=by rw[g];simp
  replace H:=(H.mono 1 (B:=trA Tb pp mb n o (some (t2,c::(vals (X++(min e.1 key,c2)::Y_)++Q)))) Z (λh q=>q.perm OU)).l6;refine Z2 6 [4,3] H Z (Au Z (call174 _) (F7 pp mb n o t2 Q c false (X++(min e.1 key,c2)::Y_) (λh q=>by rw[<-d2];exact q.rd) (λh q=>by rw[<-d1];exact q.rd) (h+1) lo hi m (putE key val L) (by rw[e0];exact c9) O d7 U ⟨b2,by dsimp only;omega,JG d7 h0 a4,λ_=>by simp⟩ c3 (l.op c O O_.N0 O_.C1).2 (l.op c O O_.N0 O_.C1).1 (by have:=O_.st.k;have:=l.k;omega)) H.f3.f3.f3 ?_);rintro _ w _ ⟨t3,⟨a2,a3,h9,i0⟩,rfl,rfl⟩ H;refine Z4 5 [5] H Z ?_;intro w H;refine Zl [5,3] H Z ?_;exact ⟨_,.inr (.inl ⟨_,c,⟨((O_.st.sub (R':=Q) (λp hp=>by simp[hp]) (Ael _) (Ael _)).trans l (R:=Q) (R1:=Q) (λp hp=>hp) (λp hp=>by simp[hp]) (Ael _) (Ael _)).trans a2 (λp hp=>hp) (λp hp=>hp) U U,a3⟩,Z,Z⟩),H.perm 6 [0] Z Z⟩
 have H:=H'.l5;refine Za 3 [] H Z ?_;intro b8 w H;refine Z4 15 [0,4] H Z ?_;intro w H;have g6:X.length<es.length:=by rw[g];simp
 have a6:0<(kL es).length:=by simp only[Aei];omega
 have a8:0<(vL es).length:=by simp only[Aei];omega
 obtain ⟨gk,a1,y,rfl,d9,e1,e3,H⟩:=H.ungrow 2 Z a6;replace H:=H.l6;obtain ⟨c7,a7,a0,c6,c0,c5,b9,H'⟩:=H.ungrow 3 Z a8;cases c6;clear H;have H:=H'.l6;refine Z2 6 [2,4,0,0,0,0] H Z (Ad Z (CJ Z (z:=1) (j:=X.length) (r:=X.length) J Z Z Z (by simp only[Aei];omega) U) (AC Z Z (Am 3 H Z Z Z Z (vs:=[I (c2:Int)]) Z (by simp[u8,u32,Value.oneCell']) J (by simp only[Aeh,Aei,Aej,AeE];omega) (out:=(((vL es).set X.length (c2:Int)).map I++a0)) (Ec (by simp only[Aei];omega))) ?_));rintro w H;replace H:=H.l6;refine Zc 3 Z (BJ 11 J J (A4 H λw H'=>?_));have H:=H'.l6;refine PU 6 [1,0,1,0] (AN (H.blk 4 Z) AH) Z J Z (Cd Z Z Z (CJ Z (z:=1) (j:=X.length) (r:=X.length) J Z Z Z (by simp only[Aei];omega) U) (Cd Z Z Z (Bn Z Z J (AB (H.cel 2 Z X.length (show ((kL es).map I++y)[X.length]?=some (I e.1) from (by rw[Aep (by simp only[Aei];omega),Aer,Aer,g];simp))))) ?_));refine PV 1 [] Z J (Cd Z Z Z (KA Z Z Z) (Cd Z Z Z (CJ Z (z:=1) (j:=X.length) (r:=X.length) J Z Z Z (by simp only[Aei];omega) U) (CG (gw (AC Z Z (Am 2 H Z Z Z Z (vs:=[I (min (e.1:Int) key)]) Z (by simp[u8,u32,Value.oneCell']) J (by simp only[Aeh,Aei,Aej,AeE];omega) (out:=(((kL es).set X.length (min e.1 key)).map I++y)) (Ec (by simp only[Aei];omega))) ?_)))));rintro w H;replace H:=H.l6;refine Zc 4 Z ?_;have d2:(kL es).length=(kL (X++(min e.1 key,c2)::Y_)).length:=by rw[g];simp
 have d1:(vL es).length=(vL (X++(min e.1 key,c2)::Y_)).length:=by rw[g];simp
 have c1:(kL es).set X.length (min e.1 key)=kL (X++(min e.1 key,c2)::Y_):=by rw[g];simp[kL,Af1]
 have d3:(vL es).set X.length (c2:Int)=vL (X++(min e.1 key,c2)::Y_):=by rw[g];simp[vL,Af1]
 have i8:manyN n+1<=r:=by have K3:=H.says 1 Z (λh a=>trA.k a);exact (K3.i.rin r (by simp[CV])).1
 replace H:=(H.mono 2 (B:=grow 3 1 (.slice (some ⟨gk,0,none⟩) ((kL es).length) a1) ((kL es).length) ((kL (X++(min e.1 key,c2)::Y_)).map I)) Z (λh q=>q.grow U U (by simp only[Aeh,Aei,AeX];simp only[Aei] at *;omega) (by rw[AeS,AeI O,c1]))).l6;replace H:=(H.mono 3 (B:=grow 3 1 (.slice (some ⟨c7,0,none⟩) ((vL es).length) e4) ((vL es).length) ((vL (X++(min e.1 key,c2)::Y_)).map I)) Z (λh q=>q.grow U U (by simp only[Aeh,Aei,AeX];simp only[Aei] at *;omega) (by rw[AeS,AeI O,d3]))).l6;refine Z2 6 [2,0,0,0] H Z (Af Z (λh1=>?_) (λh1=>?_))
 ·refine Zc 1 Z ?_;obtain ⟨b2,a5,c9,e2,c3,h2,g8⟩:=ZM (r:=r) l d6 e6 d0 a3 c4 b3 hX d4 g3 g0 g4;have i6:(putE kr r (X++(min e.1 key,c2)::Y_)).length=es.length+1:=by rw[a5,g];simp only[Aeh,Aej];omega
  replace H:=(H.mono 1 (B:=trA Tb pp mb n o (some (t2,c::(vals (putE kr r (X++(min e.1 key,c2)::Y_))++Q)))) Z (λh q=>q.perm (by rw[a5];exact TP))).l6;have K2:=H.says 1 Z (λh a=>trA.k a);have d8:(0<=kr/\kr<1048576)/\1<=r/\r<1024:=by have:=K2.i.rin r (by simp[CV,a5,vals]);omega
  have d5:CkN false (kL (X++(min e.1 key,c2)::Y_)) (vL (X++(min e.1 key,c2)::Y_)):=CkN.of ⟨b2,by have:((X++(min e.1 key,c2)::Y_):List E).length=es.length:=(by rw[g];simp);dsimp only;omega,λx hx=>by have:=Wo b3 d4 (c:=c2) x hx;omega,λ_=>by simp⟩ (λv hv=>by have:=K2.i.rin v (by simp only[CV,a5,BO,Cb] at hv ⊢;simp only[Aeq,Aes] at hv ⊢;rcases hv with h|h|h<;>simp[h]);omega);refine Z2 8 [4,3,1,0,0,2,0,0] H Z (Au Z (call173 _) (RU pp mb n o t2 Q c false (X++(min e.1 key,c2)::Y_) (λh q=>by rw[<-d2];exact q.rd) (λh q=>by rw[<-d1];exact q.rd) kr r d8 d5 b2 (h+1) lo hi m (putE key val L) (by rw[e0,f5];exact c9) O e2 c3 (l.op c O O_.N0 O_.C1).2 (l.op c O O_.N0 O_.C1).1 (by have:=O_.st.k;have:=l.k;omega) U h0 a4) H.f3.f3.f3 ?_);rintro _ w _ (⟨h7,s3,rfl,rfl⟩|⟨t3,⟨a2,a3⟩,rfl,rfl⟩|⟨t3,h5,r3,L3,L4,⟨a2,e9,g2,g5,a3,f6⟩,rfl,rfl⟩) H'
  ·have H:=H'.l6;refine Z4 7 [5] H Z ?_;intro w H;refine Zl [5,3] H Z ?_;exact ⟨_,.inl ⟨(by have:=O_.st.f;have:=l.f;omega),_,Z,Z⟩,H.perm 6 [0] Z Z⟩
  ·have H:=H'.l6;refine Z4 7 [5] H Z ?_;intro w H;refine Zl [5,3] H Z ?_;exact ⟨_,.inr (.inl ⟨_,c,⟨((O_.st.sub (R':=Q) (λp hp=>by simp[hp]) (Ael _) (Ael _)).trans l (R:=Q) (R1:=Q) (λp hp=>hp) (λp hp=>by simp[hp]) (Ael _) (Ael _)).trans a2 (λp hp=>hp) (λp hp=>hp) U U,a3⟩,Z,Z⟩),H.perm 6 [0] Z Z⟩
  have H:=H'.l6;refine Z4 7 [5] H Z ?_;intro w H;refine Zl [5,3] H Z ?_;exact ⟨_,.inr (.inr ⟨_,c,_,_,_,_,⟨((O_.st.sub (R':=Q) (λp hp=>by simp[hp]) (Ael _) (Ael _)).trans l (R:=Q) (R1:=Q) (λp hp=>hp) (λp hp=>by simp[hp]) (Ael _) (Ael _)).trans a2 (λp hp=>hp) (λp hp=>hp) U U,e9,g2,g5,a3,f6⟩,Z,Z⟩),H.perm 6 [0] Z Z⟩
 (exfalso;omega)
end
section
variable{Tb:Ai}
theorem OV(pp mb n:Nat)(o:TB):∀(h:Nat) (t:TS) (Q:List Nat) (a:Nat) (lo hi:Int) (m:Nat) (key:Int) (val:Nat) (L:List E),InsPre n t Q a h lo hi m key val L->Ak 127 [Y pp,I (a:Int),I key,I (val:Int)] [trA Tb pp mb n o (some (t,a::val::Q))] (λv G=>JH Tb pp mb n o t Q h lo hi m key val L v G)
 | 0=>λt Q a lo hi m key val L hP=>Ab2 pp mb n o t Q a lo hi m key val L hP
 | h+1=>λt Q a lo hi m key val L hP=>Ab3 pp mb n o t Q h (OV pp mb n o h) a lo hi m key val L hP
theorem Tr.lo{N:Hm}{h r:Nat}{lo hi:Int}{m:Nat}{L es:List E}{lf:Bool}(t:Tr N h r lo hi m L)(hN:N r=some (.nd ⟨lf,es⟩))(k:1<=m):Tr N h r (nx es hi) hi m L/\lo<=nx es hi/\nx es hi<hi:=by
 obtain ⟨i,b,c,f,d,g⟩:=Tr.iff.1 t;rw[b] at hN;cases hN
 cases es with
 | nil=>simp at c;omega
 | cons e u=>
  have j:=f e O;refine ⟨Tr.iff.2 ⟨_,b,c,λx a=>⟨?_,(f x a).2⟩,d,g⟩,j⟩;rcases Aeq.1 a with rfl|a
  ·exact Afo _
  exact AgW ((Srt.cons.1 d.srt).1 x a)
theorem root_two{N:Hm}{L2:List E}{es:List E}(i:Tr N n m 0 t 4 X)(hN:N m=some (.nd ⟨b,es⟩))(c:Tr N n r t 1048576 4 L2)(h:t<1048576):
  Bd N (n+1) [(nx es t,m),(t,r)] 1048576 (X++L2)/\B5 0 1048576 [(nx es t,m),(t,r)]/\(Nd.mk false [(nx es t,m),(t,r)]).Ok/\(vals [(nx es t,m),(t,r)]).Nodup:=by
 obtain ⟨g,l,j⟩:=i.lo hN U;have hs:Srt [(nx es t,m),(t,r)]:=Srt.cons.2 ⟨λx a=>by simp at a;subst a;exact j,Srt.cons.2 ⟨by simp,by simp[Srt]⟩⟩;have d:B5 0 1048576 [(nx es t,m),(t,r)]:=λx a=>by
  simp at a;rcases a with rfl|rfl
  ·dsimp only;omega
  dsimp only;omega
 have f:Bd N (n+1) [(nx es t,m),(t,r)] 1048576 (X++L2):=⟨X,L2,Z,g,L2,[],by simp,c,Z⟩;exact ⟨f,d,⟨hs,by simp,λe k=>d e k,λ_=>by simp⟩,f.nodup hs (λx a=>(d x a).2)⟩
theorem Wp{N:Hm}(f:N n=some (.dt B))(d:0<=t/\t<1048576):Bd N 0 [(t,n)] 1048576 (putE t n [])/\B5 0 1048576 [(t,n)]/\(Nd.mk true [(t,n)]).Ok/\(vals [(t,n)]).Nodup:=by
 have b:B5 0 1048576 [(t,n)]:=λx c=>by simp at c;subst c;exact d
 exact ⟨⟨Z,λe a=>by simp at a;subst a;exact ⟨B,f⟩⟩,b,⟨by simp[Srt],by simp,λe a=>b e a,λq=>by cases q⟩,by simp[vals]⟩
def Root(N:Hm)(r:Nat)(L:List E):Prop:=(r=0/\L=[])\/(r≠0/\∃h,Tr N h r 0 1048576 (if h=0 then 1 else 2) L)
def Ba(r:Nat):List Nat:=if r=0 then [] else [r]
def CZ(N:Hm):Nat->Nat->List Nat
 | 0,r=>[r]
 | h+1,r=>match N r with
  | some (.nd d)=>d.es.flatMap λe=>CZ N h e.2
  | _=>[]
def QM(N:Hm)(r:Nat):List E:=match N r with
 | some (.nd d)=>d.es
 | _=>[]
theorem RV{N:Hm}(t:Tr N n r s p m X)(v:1<=m):(CZ N n r).flatMap (QM N)=X/\(∀q∈CZ N n r,QM N q≠[]/\∃d,N q=some (.nd d))/\m*4^(n-1)<=(CZ N n r).length*(if n=0 then m else 1):=by
 induction n generalizing r s p m X with
 | zero=>
  obtain ⟨es,f,g,_,_,rfl,_⟩:=t;refine ⟨by simp[CZ,QM,f],λq hq=>?_,by simp[CZ]⟩;simp[CZ] at hq;subst hq;refine ⟨?_,_,f⟩;simp only[QM,f];intro q;rw[q] at g;simp at g;omega
 | succ n ih=>
  obtain ⟨es,f,g,_,_,l⟩:=t;have h:CZ N (n+1) r=es.flatMap λe=>CZ N n e.2:=by simp[CZ,f]
  rw[h];have key:∀(es:List E) (X:List E),Sq (λc a b X=>Tr N n c a b 4 X) es p X->(es.flatMap λe=>CZ N n e.2).flatMap (QM N)=X/\(∀q∈es.flatMap λe=>CZ N n e.2,QM N q≠[]/\∃d,N q=some (.nd d))/\es.length*4^n<=(es.flatMap λe=>CZ N n e.2).length:=by
   intro es
   induction es with
   | nil=>intro X q;have q:X=[]:=q;subst q;simp
   | cons e u ih2=>
    rintro _ ⟨L1,L2,rfl,j,k⟩;obtain ⟨a1,a2,a3⟩:=ih j U;obtain ⟨o,i,w⟩:=ih2 L2 k;have a4:4^n<=(CZ N n e.2).length:=by
     cases n with
     | zero=>simp[CZ]
     | succ n=>simp at a3;rw[AhC,AhD];exact a3
    refine ⟨by simp only[AeJ,Af3,a1,o],λq hq=>?_,?_⟩
    ·rcases Aes.1 (by simpa using hq:q∈CZ N n e.2++u.flatMap λe=>CZ N n e.2) with hq|hq
     ·exact a2 q hq
     exact i q hq
    simp only[AeJ,Aeh,Aej];rw[AhI];omega
  obtain ⟨a1,a2,a3⟩:=key es X l;refine ⟨a1,a2,?_⟩;have:m*4^n<=es.length*4^n:=AfJ _ g;rw[if_neg U,AeS,Nat.add_sub_cancel];omega
theorem Ll{f:Nat->List E}:∀{ps:List Nat},Srt (ps.flatMap f)->(∀p∈ps,f p≠[])->ps.Nodup
 | [],_,_=>by simp
 | p::ps,hs,hne=>by
  rw[AeJ] at hs;obtain ⟨s1,s2,s3⟩:=Srt.app.1 hs;rw[Afk];refine ⟨λhp=>?_,Ll s2 (λq hq=>hne q (by simp[hq]))⟩;obtain ⟨x,u,e⟩:=AfI (hne p O);have:=s3 x (by rw[e];simp) x (Agj.2 ⟨p,hp,by rw[e];simp⟩);omega
theorem OW :∀{l:List Nat},l.Nodup->(∀x∈l,x<n)->l.length<=n:=λ{l} a b=>by
 have:=List.Nodup.length_le_of_subset (l₁:=l) (l₂:=List.range n) a (λx c=>AfT.2 (b x c));simpa using this
theorem RX{N:Hm}{L Y_:List E}{e:E}{key:Int}(hs:Srt (X++e::Y_))(i:B5 s p (X++e::Y_))(l:Bd N (n+1) (X++e::Y_) p L)(d:X=[]\/e.1<=key)(j:∀x∈Y_,key<x.1/\e.1<x.1):∃Lc,Tr N n e.2 e.1 (nx Y_ p) 4 Lc/\∀v,(key,v)∈Lc↔(key,v)∈L:=by
 obtain ⟨L0,Lc,L2,rfl,a,h,c⟩:=Sq.at l;obtain ⟨f,g,k⟩:=Srt.app.1 hs;have a1:=Sq.srt a f (λx b=>k x b e O) (λ_ _ _ _ q=>Tr.srt q);have a3:=Sq.srt c (Srt.cons.1 g).2 (λx b=>(i x (by simp[b])).2) (λ_ _ _ _ q=>Tr.srt q);refine ⟨Lc,h,λv=>⟨λq=>by simp[q],λq=>?_⟩⟩;rcases Aes.1 q with q|q
 ·exfalso
  rcases d with rfl|d
  ·simp only[Sq] at a;subst a;simp at q
  have:=a1.2.1 _ q;dsimp only at this;omega
 rcases Aes.1 q with q|q
 ·exact q
 exfalso
 cases Y_ with
 | nil=>simp only[Sq] at c;subst c;simp at q
 | cons y t=>
  have:=a3.2.1 _ q;have:=j y O;simp only[nx] at *;omega
end
section
variable{Tb:Ai}
theorem Lm(pp mb n:Nat)(o:TB){s:TS×List Nat}:Ak 124 [Y pp] [trA Tb pp mb n o (some s)] (λv G=>v=I 0/\G=[trA Tb pp mb n o (some s)]):=by
 intro z R w H;refine Ae func124 Z ntmps124 Z (Zc 19 Z (z_E_ Z (call18 _) (GB pp mb n o _) H ?_));intro w H;refine AD 6 (v:=.bool true) Z Z (Zc 12 Z (Zr Z ?_));exact ⟨_,⟨Z,Z⟩,H⟩
theorem Ab4(pp mb n:Nat)(o:TB)(t:TS)(Q:List Nat)(key:Int)(val:Nat)(b:List UInt8)(l:0<=key/\key<1048576)(m:t.N val=some (.dt b))(hk:t.k<40):Ak 67 [Y pp,I 0,I key,I (val:Int)] [trA Tb pp mb n o (some (t,val::Q))] (λv G=>(cnt t.F 0 1024<=0/\∃s:TS×List Nat,v=.tuple #[I 0,I 20]/\G=[trA Tb pp mb n o (some s)])\/∃(t2:TS) (r:Nat),(St t t2 Q 1 1/\Tr t2.N 0 r 0 1048576 1 (putE key val []))/\v=.tuple #[I (r:Int),I 0]/\G=[trA Tb pp mb n o (some (t2,r::Q))]):=by
 intro z R w H;have K:=H.says 0 Z (λh a=>trA.k a);have a2:=K.i.rin val (by simp[CV]);have c:=K.i.pos (p:=val) (by simp[CV]);have c:1<=t.C val:=c;obtain ⟨x,u,j,f⟩:=Wp m l;refine Ae func67 Z ntmps67 Z (Zc 10 Z (z_E_ Z (call124 _) (Lm pp mb n o) H ?_));intro w H;refine Z0 18 [4,0] Z (An 21 Z (λh1=>U) (λh1=>?_));refine Z0 4 [0] Z (An 25 Z (λh2=>U) (λh2=>?_));refine Zc 2 Z (z_E_ Z (call125 _) (Md pp mb n o val U) H ?_);intro w H;refine AD 28 (v:=I (t.C val:Int)) Z Z (Z0 4 [0] Z (Af Z (λh3=>U) (λh3=>?_)));refine Z0 14 [3] Z (AU Z (AP H Z J BC Z (by decide) (by decide) (out:=[I key]) J) ?_);rintro _ w ⟨b1,rfl,H⟩;refine Zc 1 Z (AU Z (AP H Z J BC Z (by decide) (by decide) (out:=[I (val:Int)]) J) ?_);rintro _ w ⟨b2,rfl,H⟩;refine Zc 1 Z (Au Z (call126 _) (HZ pp mb n o t Q true [(key,val)] (λh q=>q.rd U U O Z) (λh q=>q.rd U U O Z) 0 0 1048576 1 (putE key val []) x Z u O j f hk) H.f1.f2 ?_);rintro _ w _ (⟨a1,rfl,rfl⟩|⟨t2,g,⟨d,e,a0⟩,rfl,rfl⟩) y
 ·have H:=y.l3;refine Zc 7 Z (Zr Z ?_);exact ⟨_,.inl ⟨by omega,_,Z,Z⟩,H.perm 3 [0] Z Z⟩
 have H:=y.l3;refine Zc 7 Z (Zr Z ?_);exact ⟨_,.inr ⟨t2,g,⟨d,e⟩,Z,Z⟩,H.perm 3 [0] Z Z⟩
set_option maxHeartbeats 1000000 in
theorem Ab5 (pp mb n:Nat) (o:TB) (t:TS) (Q:List Nat) (h a:Nat) (m:Nat) (key:Int) (val:Nat) (L:List E) (hP:InsPre n t Q a h 0 1048576 m key val L):Ak 67 [Y pp,I (a:Int),I key,I (val:Int)] [trA Tb pp mb n o (some (t,a::val::Q))] (λv G=>(cnt t.F 0 1024<=2*h+2/\∃s:TS×List Nat,v=.tuple #[I 0,I 20]/\G=[trA Tb pp mb n o (some s)])\/∃(t2:TS) (r:Nat),(St t t2 Q (2*h+3) (3*h+4)/\(Tr t2.N h r 0 1048576 m (putE key val L)\/Tr t2.N (h+1) r 0 1048576 2 (putE key val L)))/\v=.tuple #[I (r:Int),I 0]/\G=[trA Tb pp mb n o (some (t2,r::Q))]):=by
 intro z R w H;have K:=H.says 0 Z (λh a=>trA.k a);have d0:=hP.kk;have c5:=K.i.rin val (by simp[CV]);have a4:=K.i.pos (p:=val) (by simp[CV]);have a4:1<=t.C val:=a4;have c8:=K.i.rin a (by simp[CV]);refine Ae func67 Z ntmps67 Z (Zc 10 Z (z_E_ Z (call124 _) (Lm pp mb n o) H ?_));intro w H;refine Z0 18 [4,0] Z (An 21 Z (λh1=>U) (λh1=>?_));refine Z0 4 [0] Z (An 25 Z (λh2=>U) (λh2=>?_));refine Zc 2 Z (z_E_ Z (call125 _) (Md pp mb n o val U) H ?_);intro w H;refine AD 28 (v:=I (t.C val:Int)) Z Z (Z0 4 [0] Z (Af Z (λh3=>U) (λh3=>?_)));refine Z0 9 [0] Z (Af Z (λh4=>U) (λh4=>?_));refine Zc 8 Z (Au Z (call127 _) (OV pp mb n o h t Q a 0 1048576 m key val L hP) H ?_);rintro _ w _ (⟨c9,s2,rfl,rfl⟩|⟨t2,c2,⟨b,g⟩,rfl,rfl⟩|⟨t2,c2,kr,r,M1,M2,⟨b,a5,c6,c0,g,b4⟩,rfl,rfl⟩) d
 ·have H:=d.l1;refine Za 3 [] H Z ?_;intro b1 w H;refine Z4 27 [0,3,0,0,0] H Z ?_;intro w H;refine Zr Z ?_;exact ⟨_,.inl ⟨by omega,_,Z,Z⟩,H.perm 2 [1] Z Z⟩
 ·have H:=d.l1;refine Za 3 [] H Z ?_;intro b2 w H;refine Z4 27 [0,4,2,0,0,3,0,0,0] H Z ?_;intro w H;refine Zr Z ?_;exact ⟨_,.inr ⟨t2,c2,⟨b.sub (λp hp=>hp) U U,.inl g⟩,Z,Z⟩,H.perm 2 [1] Z Z⟩
 have H:=d.l1;refine Za 3 [] H Z ?_;intro b3 w H;refine Z4 6 [0] H Z ?_;intro w H;have d2:manyN n+1<=r:=by have K3:=H.says 1 Z (λh a=>trA.k a);exact (K3.i.rin r (by simp[CV])).1
 refine Z2 10 [4,2,0,0,0] H Z (Af Z (λh5=>U) (λh5=>?_));refine Zc 3 Z ?_;obtain ⟨es,a8,a1,c4,d3,c7⟩:=Tr.iff.1 g;obtain ⟨b0,a0,a9,a6⟩:=root_two g a8 b4 c0;refine Z2 4 [0,0,0] H Z (Au Z (call119 _) (HY pp mb n o (some (t2,c2::r::Q)) c2 (decide (h=0)) es a8) H.f1 ?_);rintro _ w _ ⟨v4,v5,rfl,rfl⟩ H;have x:=H.sy 0 (·.slc);have b5:=H.sy 1 (·.slc);refine Za 3 [] H Z ?_;intro b6 w H;refine AC Z Z (Am 0 H Z Z Z Z (vs:=[.bool (decide (h=0)),v4,v5]) Z (Ab Z (Ab x.one (Ab b5.one Aw))) J O (out:=[.bool (decide (h=0)),v4,v5]) Z) ?_;rintro w H;refine Z0 14 [4] Z ?_;obtain ⟨a7,a2,rfl⟩:=x;have c1:=(H.rv 1 (·.rd)).at (j:=0) (u:=I (nx es kr)) (by rw[Aer,FE a1];rfl);replace H:=H.f1.f1.f4;refine AS (Sep z (blk b3 [I (c2:Int),I kr,I (r:Int)] 204::blk b6 [.bool (decide (h=0)),.slice a7 ((kL es).length) a2,v5] 195::grow 3 1 (.slice a7 ((kL es).length) a2) ((kL es).length) ((kL es).map I)::R)) 19 Z J (A4 H λw d=>?_);have H:=d.l5;refine AZ [0,1,2] [1,1,0] [] (by exact H.pick 5 [0,1,2] Z) Z J Z (BQ 3 Z J J J Z Z Z (Aj Z (z:=1) (j:=0) (r:=0) J Z Z Z (by simp only[Aei];omega) c1 U) (H.pick 5 [0,1,2] Z) (BQ 4 Z J J J Z Z Z (Ax Z Z J (λ_ c3=>(c3.rv 2 (·.rd)).at (j:=0) (u:=I (nx es kr)) (by rw[Aer,FE a1];rfl))) (H.pick 5 [0,1,2] Z) ?_));refine AZ [5,6,8,9,10,11] [1,0,0,0,0,0,2,0,0] [] (by exact H.pick 5 [0,1,2] Z) Z J Z (AE [7,12] J O (JY ?_ ?_))
 ·refine BU Z Z Z Z (AP H Z J BC Z (by decide) (by decide) (out:=[I (nx es kr),I kr]) J) ?_;rintro _ w ⟨b7,rfl,H⟩;refine Az (H.pick 6 [1,2,3] Z) (AE [12] J O (Al (BU Z Z Z Z (AP H Z J BC Z (by decide) (by decide) (out:=[I (c2:Int),I (r:Int)]) J) ?_)));rintro _ w ⟨b8,rfl,H⟩;refine Az (H.pick 7 [2,3,4] Z) (AZ [13] [] [] (by exact H.pick 7 [2,3,4] Z) Z J Z (AE [14] J O (Al (Br Z Z Z Z Z Z (λw=>call126 _ w) (HZ pp mb n o t2 Q false [(nx es kr,c2),(kr,r)] (λh q=>q.rd U U O Z) (λh q=>q.rd U U O Z) (h+1) 0 1048576 2 (putE key val L) (by rw[a5];exact b0) O a0 O a9 a6 (by have:=b.k;have:=hP.hk;omega)) H.f1.f6 Z ?_))));rintro _ w _ (⟨y,rfl,rfl⟩|⟨t3,l,⟨e,c,a3⟩,rfl,rfl⟩) d
  ·have H:=d.l7;refine Az (H.pick 7 [3,4,5] Z) (AZ [15,16,17,18] [] [] (by exact H.pick 7 [3,4,5] Z) Z J Z (a_done J (gn (Zc 2 Z (Zr Z ?_)))));exact ⟨_,.inl ⟨by have:=b.f;omega,_,Z,Z⟩,H.perm 7 [0] Z Z⟩
  have H:=d.l7;refine Az (H.pick 7 [3,4,5] Z) (AZ [15,16,17,18] [] [] (by exact H.pick 7 [3,4,5] Z) Z J Z (a_done J (gn (Zc 2 Z (Zr Z ?_)))));exact ⟨_,.inr ⟨t3,l,⟨b.trans e (λp hp=>hp) (λp hp=>hp) U U,.inr c⟩,Z,Z⟩,H.perm 7 [0] Z Z⟩
 refine BU Z Z Z Z (AP H Z J BC Z (by decide) (by decide) (out:=[I (c2:Int),I (r:Int)]) J) ?_;rintro _ w ⟨b9,rfl,H⟩;refine Az (H.pick 6 [1,2,3] Z) (AE [7] J O (Al (BU Z Z Z Z (AP H Z J BC Z (by decide) (by decide) (out:=[I (nx es kr),I kr]) J) ?_)));rintro _ w ⟨d1,rfl,H⟩;refine Az (H.pick 7 [2,3,4] Z) (AZ [13] [] [] (by exact H.pick 7 [2,3,4] Z) Z J Z (AE [14] J O (Al (Br Z Z Z Z Z Z (λw=>call126 _ w) (HZ pp mb n o t2 Q false [(nx es kr,c2),(kr,r)] (λh q=>q.rd U U O Z) (λh q=>q.rd U U O Z) (h+1) 0 1048576 2 (putE key val L) (by rw[a5];exact b0) O a0 O a9 a6 (by have:=b.k;have:=hP.hk;omega)) H.f1.f1.f6 Z ?_))));rintro _ w _ (⟨y,rfl,rfl⟩|⟨t3,l,⟨e,c,a3⟩,rfl,rfl⟩) d
 ·have H:=d.l7;refine Az (H.pick 7 [3,4,5] Z) (AZ [15,16,17,18] [] [] (by exact H.pick 7 [3,4,5] Z) Z J Z (a_done J (gn (Zc 2 Z (Zr Z ?_)))));exact ⟨_,.inl ⟨by have:=b.f;omega,_,Z,Z⟩,H.perm 7 [0] Z Z⟩
 have H:=d.l7;refine Az (H.pick 7 [3,4,5] Z) (AZ [15,16,17,18] [] [] (by exact H.pick 7 [3,4,5] Z) Z J Z (a_done J (gn (Zc 2 Z (Zr Z ?_)))));exact ⟨_,.inr ⟨t3,l,⟨b.trans e (λp hp=>hp) (λp hp=>hp) U U,.inr c⟩,Z,Z⟩,H.perm 7 [0] Z Z⟩
end
section
variable{Tb:Ai}
theorem QN(pp mb n:Nat)(o:TB)(T:TT)(key:Int)(L:List E)(h0 r0:Nat)(a6:Tr (Dm o T) h0 r0 t s g L):Ak 65 [Y pp,I (r0:Int),I key] [trA Tb pp mb n o T] (λv G=>((∃v0:Nat,(key,v0)∈L/\v=.tuple #[I (v0:Int),I 0])\/(¬CE key L/\v=.tuple #[I 0,I 0]))/\G=[trA Tb pp mb n o T]):=by
 intro z R w H;replace H:=H.l1;have K:=H.says 0 Z (λh a=>trA.k a);refine Ae func65 Z ntmps65 Z (Zc 18 Z ?_);refine AF (σ:=Nat×Nat×List E) (λ⟨h,r,L1⟩=>[(1,I (r:Int)),(0,Y pp),(2,I key)])
   (λ⟨h,r,L1⟩ w=>Sep z (trA Tb pp mb n o T::R) w/\((∃lo hi m,Tr (Dm o T) h r lo hi m L1)/\∀v,(key,v)∈L1↔(key,v)∈L)) (λ⟨h,r,L1⟩=>h) ⟨h0,r0,L⟩
   (λ_ hF=>(hF.all Z)) ⟨H,⟨⟨_,_,_,a6⟩,λ_=>Ahx⟩⟩ ?_
 clear H;rintro ⟨h,r,L1⟩ w ⟨x,hI⟩;dsimp only at hI x ⊢;have H:=x.l1;obtain ⟨⟨lo,hi,m,hT⟩,f⟩:=hI;obtain ⟨es,hN,hm,a3,c,a1⟩:=Tr.iff.1 hT;have b2:=K.i.nin r _ hN;refine Z0 7 [0] Z (Af Z (λh1=>?_) (λh1=>?_))
 ·refine Zc 7 Z (Au Z (call119 _) (HY pp mb n o T r (decide (h=0)) es hN) H ?_);rintro _ w _ ⟨v1,v2,rfl,rfl⟩ H;replace H:=H.l3;have a9:=H.sy 0 (·.slc)
  have y:=H.sy 1 (·.slc);refine Za 3 [] H Z ?_;intro b1 w H;refine AC Z Z (Am 0 H Z Z Z Z (vs:=[.bool (decide (h=0)),v1,v2]) Z (Ab Z (Ab a9.one (Ab y.one Aw))) J O (out:=[.bool (decide (h=0)),v1,v2]) Z) ?_;rintro w H;replace H:=H.l4;refine Z2 20 [4,0,0,0] H Z (Eq Z (λh2=>?_) (λh2=>?_))
  ·have a4:h=0:=of_decide_eq_true h2
   have a2:L1=es:=by subst a4;exact a1.1
   refine Z2 5 [0,3] H Z (Au Z (call120 _) (OS (es:=es) (λh q=>q.rd) (λh q=>q.rd) c.len c.srt key) H.f2.f2 ?_);rintro _ w _ (⟨X,v0,Y_,⟨b,hX⟩,rfl,rfl⟩|⟨b0,i0,rfl,rfl⟩) x
   ·have H:=x.l4;refine Zc 14 Z ?_;obtain ⟨p,a0,rfl⟩:=y;have l:=(H.rv 1 (·.rd)).at (j:=X.length) (u:=I (v0:Int)) (by rw[b];simp[vL])
    refine Z2 4 [2,2,0] H Z (Ad Z (Aj Z (z:=1) (j:=X.length) (r:=X.length) J Z Z Z (by rw[b];simp) l U) (Ad Z (Ax Z Z J (AB l)) (Zc 5 Z (Zr Z ?_))));exact ⟨_,⟨.inl ⟨v0,(f v0).1 (by rw[a2,b];simp),Z⟩,Z⟩,H.perm 4 [3] Z Z⟩
   have H:=x.l4;refine Zc 22 Z (Zr Z ?_);exact ⟨_,⟨.inr ⟨λ⟨v,hv⟩=>b0 ⟨v,by rw[<-a2];exact (f v).2 hv⟩,Z⟩,Z⟩,H.perm 4 [3] Z Z⟩
  obtain ⟨h',rfl⟩:∃h',h=h'+1:=⟨h-1,by have:=of_decide_eq_false h2;omega⟩;refine Zc 2 Z ?_;obtain ⟨p,a0,rfl⟩:=y;replace H:=H.f2.f1;refine AS (Sep z (blk b1 [.bool (decide ((h'+1)=0)),v1,.slice p ((vL es).length) a0] 195::grow 3 1 (.slice p ((vL es).length) a0) ((vL es).length) ((vL es).map I)::R)) 8 Z J (A4 H λw x=>?_);have H:=x.l4;refine AZ [0,1,2,3] [2,0,0,0,3] [] (by exact H.pick 4 [0,1] Z) Z J Z (AE [4] J O (Al (Br Z Z Z Z Z Z (λw=>call121 _ w) (Mj (es:=es) (λh q=>q.rd) (λh q=>q.rd) c.len c.srt (c.ne O) key) H.f1.f2 Z ?_)));rintro _ w _ ⟨X,e,Y_,⟨b,hX,b3,hY⟩,rfl,rfl⟩ H;replace H:=H.l4;obtain ⟨Lc,a7,a8⟩:=RX (by rw[<-b];exact c.srt) (by rw[<-b];exact a3) (by rw[<-b];exact a1) hX hY;have l:=(H.rv 1 (·.rd)).at (j:=X.length) (u:=I (e.2:Int)) (by rw[b];simp[vL]);refine Az (H.pick 4 [2,1] Z) (BQ 5 Z J J J Z Z Z (Aj Z (z:=1) (j:=X.length) (r:=X.length) J Z Z Z (by rw[b];simp) l U) (H.pick 4 [2,1] Z) (BQ 6 Z J J J Z Z Z (Ax Z Z J (λ_ a5=>(a5.rv 1 (·.rd)).at (j:=X.length) (u:=I (e.2:Int)) (by rw[b];simp[vL]))) (H.pick 4 [2,1] Z) (AZ [7] [] [] (by exact H.pick 4 [2,1] Z) Z J Z (a_done J (gn (Zc 1 Z ?_))))));replace H:=H.f2.d.f1.d.d;refine gf ?_;intro _ hF;refine ⟨⟨h',e.2,Lc⟩,(hF.all Z),⟨H,?_⟩,?_⟩
  ·exact ⟨⟨_,_,_,a7⟩,λv=>(a8 v).trans (f v)⟩
  (dsimp only;omega)
 (exfalso;omega)
theorem QO(pp:Nat)(key:Int):Ak 65 [Y pp,I 0,I key] [] (λv G=>v=.tuple #[I 0,I 0]/\G=[]):=by
 intro z R w H;refine Ae func65 Z ntmps65 Z (Zc 18 Z (GO 1 (DG (Z0 10 [4] Z (gx (Zc 9 Z (Zr Z ?_)))))));exact ⟨_,⟨Z,Z⟩,H⟩
end
section
variable{Tb:Ai}
theorem Bd.nd{N:Hm}{h:Nat}{es:List E}{hi:Int}{L:List E}(q:Bd N h es hi L)(hs:Srt es)(a:∀e∈es,e.1<hi)(b:(vals L).Nodup):(vals es).Nodup:=by
 cases h with
 | zero=>obtain ⟨rfl,_⟩:=q;exact b
 | succ h=>exact Bd.nodup q hs a
theorem DM(a:Nat)(X Y_:List E):(vals (X++Y_)).count a=(vals X).count a+(vals Y_).count a:=by simp[vals]
theorem Eh(a:Nat)(e:E)(Y_:List E):(vals (e::Y_)).count a=(vals Y_).count a+if e.2==a then 1 else 0:=by rw[Cb,Aff]
theorem mp1(X Y_:List E)(e1 e2:E)(Q:List Nat):(vals (X++e1::e2::Y_)++Q).Perm (e1.2::(vals X++(e2.2::(vals Y_++Q)))):=
 AfF.2 λa=>by
  simp only[Aft,Aff,DM,Eh];omega
theorem mp2(c1 c2:Nat)(A B D:List Nat):(c1::(A++(B++(c2::D)))).Perm (c2::(c1::(A++(B++D)))):=
 AfF.2 λa=>by simp only[Aft,Aff];omega
theorem mp3(c1 c2:Nat)(es1 es2 x y:List E)(h:es1++es2=x++y):(c2::(vals es2++(c1::(vals es1++R)))).Perm (c1::(vals x++(c2::(vals y++R)))):=
 AfF.2 λa=>by
  have e:=congrArg (λl=>(vals l).count a) h;simp only[DM] at e;simp only[Aft,Aff];omega
theorem AdU(c1 c2:Nat)(es1 es2:List E):(c2::(vals es2++(c1::(vals es1++R)))).Perm (c1::(vals (es1++es2)++(c2::R))):=
 AfF.2 λa=>by simp only[Aft,Aff,DM];omega
theorem mp4(c1 c2:Nat){W:List Nat}:(c1::(c2::(R++W))).Perm (c2::(R++(c1::W))):=
 AfF.2 λa=>by simp only[Aft,Aff];omega
theorem mp5(c1:Nat)(k:Int)(X Y_:List E)(Q:List Nat):(c1::(vals X++(vals Y_++Q))).Perm (vals (X++(k,c1)::Y_)++Q):=
 AfF.2 λa=>by simp only[Aft,Aff,DM,Eh];omega
theorem mp6(c1 c2:Nat)(k b:Int)(X Y_:List E)(Q:List Nat):(c2::(c1::(vals X++(vals Y_++Q)))).Perm (vals (X++(k,c1)::(b,c2)::Y_)++Q):=
 AfF.2 λa=>by simp only[Aft,Aff,DM,Eh];omega
structure MnPre(n:Nat)(t:TS)(Q:List Nat)(h:Nat)(lo hi:Int)(X Y_:List E)(e1 e2:E)(m1 m2:Nat)(L0 La Lb L2:List E):Prop where
 ok:(Nd.mk false (X++e1::e2::Y_)).Ok
 r:B5 lo hi (X++e1::e2::Y_)
 q0:Sq (λc a b L=>Tr t.N h c a b 4 L) X e1.1 L0
 ta:Tr t.N h e1.2 e1.1 e2.1 m1 La
 tb:Tr t.N h e2.2 e2.1 (nx Y_ hi) m2 Lb
 q2:Sq (λc a b L=>Tr t.N h c a b 4 L) Y_ hi L2
 m3:3<=m1/\3<=m2/\7<=m1+m2
 l0:0<=lo
 h1:hi<=1048576
 d:(vals (La++Lb)).Nodup
 hk:t.k+5<40
 hb:Q.length+30+n<=980
variable{t t1 t2 t3:TS}{Q:List Nat}{h:Nat}{lo hi:Int}{X Y_:List E}{e1 e2:E}{L0 La Lb L2 es1 es2:List E}
theorem TQ(c:Srt (X++e1::e2::Y_))(r:B5 lo hi (X++e1::e2::Y_)):e1.1<e2.1/\e2.1<nx Y_ hi/\nx Y_ hi<=hi/\lo<=e1.1:=by
 obtain ⟨_,a,_⟩:=Srt.app.1 c;obtain ⟨f,e⟩:=Srt.cons.1 a;have b:=r e2 O;refine ⟨f e2 O,?_,RS (λx d=>(r x (by simp[d])).2),(r e1 O).1⟩
 cases Y_ with
 | nil=>exact b.2
 | cons y u=>exact (Srt.cons.1 e).1 y O
theorem ZN{N:Hm}(n:Bd N h es1 e2.1 La)(k:Bd N h es2 (nx Y_ hi) Lb)(g:Srt es1)(i:Srt es2)(f:B5 e1.1 e2.1 es1)(d:B5 e2.1 (nx Y_ hi) es2)(e:es2≠[])(l:e1.1<e2.1)(o:e2.1<nx Y_ hi):
  Bd N h (es1++es2) (nx Y_ hi) (La++Lb)/\Srt (es1++es2)/\B5 e1.1 (nx Y_ hi) (es1++es2):=by
 refine ⟨Bd.app.2 ⟨La,Lb,Z,n.hi ?_,k⟩,Srt.app.2 ⟨g,i,λa m b j=>?_⟩,λx c=>?_⟩
 ·obtain ⟨y,u,rfl⟩:=AfI e
  exact (d y O).1
 ·have:=f a m;have:=d b j;omega
 rcases Aes.1 c with c|c
 ·have:=f x c;omega
 have:=d x c;omega
theorem QP{N:Hm}{c1:Nat}(g:(Nd.mk false (X++e1::e2::Y_)).Ok)(r:B5 lo hi (X++e1::e2::Y_))(p:Sq (λc a b L=>Tr N h c a b 4 L) X e1.1 L0)(t:Sq (λc a b L=>Tr N h c a b 4 L) Y_ hi L2)(T:Tr N h c1 e1.1 (nx Y_ hi) 4 (La++Lb)):
  Bd N (h+1) (X++(e1.1,c1)::Y_) hi (L0++(La++(Lb++L2)))/\B5 lo hi (X++(e1.1,c1)::Y_)/\(Nd.mk false (X++(e1.1,c1)::Y_)).Ok/\(vals (X++(e1.1,c1)::Y_)).Nodup:=by
 have hs:Srt (X++e1::e2::Y_):=g.srt;obtain ⟨n,o,k⟩:=Srt.app.1 hs;obtain ⟨s,s5⟩:=Srt.cons.1 o;have i:Srt (X++(e1.1,c1)::Y_):=Srt.app.2 ⟨n,Srt.cons.2 ⟨λx d=>s x (by simp[d]),(Srt.cons.1 s5).2⟩,λa m b j=>by
  rcases Aeq.1 j with rfl|j
  ·exact k a m e1 O
  exact k a m b (by simp[j])⟩
 have f:B5 lo hi (X++(e1.1,c1)::Y_):=λx d=>by
  rcases Aes.1 d with d|d
  ·exact r x (by simp[d])
  rcases Aeq.1 d with rfl|d
  ·exact r e1 O
  exact r x (by simp[d])
 have l:Bd N (h+1) (X++(e1.1,c1)::Y_) hi (L0++(La++(Lb++L2))):=by
  have e:L0++(La++(Lb++L2))=L0++((La++Lb)++L2):=by simp
  rw[e];exact Sq.mk (e:=(e1.1,c1)) p T t
 have q:(X++e1::e2::Y_).length<=8:=g.len;refine ⟨l,f,⟨i,by simp at q ⊢;omega,λx d=>?_,λ_=>by simp⟩,l.nodup i (λx d=>(f x d).2)⟩;rcases Aes.1 d with d|d
 ·exact g.key x (by simp[d])
 rcases Aeq.1 d with rfl|d
 ·exact g.key e1 O
 exact g.key x (by simp[d])
theorem mn_share{N:Hm}{c1 c2:Nat}{M1 M2:List E}(k:(Nd.mk false (X++e1::e2::Y_)).Ok)(r:B5 lo hi (X++e1::e2::Y_))(w:Sq (λc a b L=>Tr N h c a b 4 L) X e1.1 L0)(q2:Sq (λc a b L=>Tr N h c a b 4 L) Y_ hi L2)(T1:Tr N h c1 e1.1 s 4 M1)(T2:Tr N h c2 s (nx Y_ hi) 4 M2)(hM:M1++M2=La++Lb)(n:e1.1<s)(j:s<nx Y_ hi)(h1:hi<=1048576):
  Bd N (h+1) (X++(e1.1,c1)::(s,c2)::Y_) hi (L0++(La++(Lb++L2)))/\B5 lo hi (X++(e1.1,c1)::(s,c2)::Y_)/\(Nd.mk false (X++(e1.1,c1)::(s,c2)::Y_)).Ok/\(vals (X++(e1.1,c1)::(s,c2)::Y_)).Nodup:=by
 have hs:Srt (X++e1::e2::Y_):=k.srt;obtain ⟨s1,v,q⟩:=Srt.app.1 hs;obtain ⟨s4,s5⟩:=Srt.cons.1 v;obtain ⟨_,_,z,a0⟩:=TQ hs r;have l:=(Srt.cons.1 s5).2;have o:∀x∈Y_,s<x.1:=λx d=>by
  cases Y_ with
  | nil=>simp at d
  | cons y u=>
   simp only[nx] at j;rcases Aeq.1 d with rfl|d
   ·exact j
   have:=(Srt.cons.1 l).1 x d;omega
 have g:Srt (X++(e1.1,c1)::(s,c2)::Y_):=Srt.app.2 ⟨s1,Srt.cons.2 ⟨λx d=>by
   rcases Aeq.1 d with rfl|d
   ·exact n
   exact s4 x (by simp[d]),Srt.cons.2 ⟨o,l⟩⟩,λa p b i=>by
  have m:=q a p e1 O;rcases Aeq.1 i with rfl|i
  ·exact m
  rcases Aeq.1 i with rfl|i
  ·dsimp only;omega
  exact q a p b (by simp[i])⟩
 have f:∀x∈X++(e1.1,c1)::(s,c2)::Y_,lo<=x.1/\x.1<hi:=λx d=>by
  rcases Aes.1 d with d|d
  ·exact r x (by simp[d])
  rcases Aeq.1 d with rfl|d
  ·exact r e1 O
  rcases Aeq.1 d with rfl|d
  ·dsimp only;omega
  exact r x (by simp[d])
 have t:Bd N (h+1) (X++(e1.1,c1)::(s,c2)::Y_) hi (L0++(La++(Lb++L2))):=by
  have e:L0++(La++(Lb++L2))=L0++(M1++(M2++L2)):=by
   rw[<-Aek La,<-hM];simp
  rw[e];exact Sq.mk (e:=(e1.1,c1)) (B:=(s,c2)::Y_) w T1 ⟨M2,L2,Z,T2,q2⟩
 have hl:(X++e1::e2::Y_).length<=8:=k.len;have k1:=k.key e1 O;refine ⟨t,f,⟨g,by simp at hl ⊢;omega,λx d=>?_,λ_=>by simp⟩,t.nodup g (λx d=>(f x d).2)⟩;rcases Aes.1 d with d|d
 ·exact k.key x (by simp[d])
 rcases Aeq.1 d with rfl|d
 ·exact k1
 rcases Aeq.1 d with rfl|d
 ·dsimp only
  omega
 exact k.key x (by simp[d])
section
variable{lf:Bool}{kv1 vv1 kv2 vv2:Value}{es1 es2:List E}{A1 B1 A2 B2:Ai}
theorem ZO(e:Gs A1 kv1 es1)(c:Gt B1 vv1 es1)(d:Gs A2 kv2 es2)(f:Gt B2 vv2 es2)(a:CkN lf (kL es1) (vL es1))(b:CkN lf (kL es2) (vL es2))(hs:Srt (es1++es2))(k:8<es1.length+es2.length)(x y:List E)(l:x=(es1++es2).take (FJ es1 es2))(m:y=(es1++es2).drop (FJ es1 es2)):
  Ak 213 [DD lf kv1 vv1,DD lf kv2 vv2] [A1,B1,A2,B2] (λv G=>∃j i h g:Value,v=.tuple #[DD lf j i,DD lf h g,I 0]/\G=[gK j x,gV i x,gK h y,gV g y,A1,B1,A2,B2]):=by
 subst l m;exact ZG e c d f a b hs k
end
theorem Ko(X:List E):(vals X).length=X.length:=by simp[vals]
theorem QQ{α:Type}(x:List α)(a b:α)(y:List α):(x++a::b::y).take (x.length+1)++(x++a::b::y).drop (x.length+1+1)=x++a::y:=by
 have e1:x++a::b::y=(x++[a])++(b::y):=by simp
 have e2:x++a::b::y=(x++[a,b])++y:=by simp
 have c:(x++a::b::y).take (x.length+1)=x++[a]:=by rw[e1];exact AeI O
 have d:(x++a::b::y).drop (x.length+1+1)=y:=by rw[e2];exact AfU O
 rw[c,d];simp
theorem ZP{lf:Bool}{X Y_:List E}{a b:E}{B:Ai}(i:Gs A u (X++a::b::Y_))(h:Gt B y (X++a::b::Y_))(d:CkN lf (kL (X++a::b::Y_)) (vL (X++a::b::Y_)))(c:CkN lf (kL (X++a::Y_)) (vL (X++a::Y_))):
  Ak 177 [DD lf u y,I ((X.length+1:Nat):Int)] [A,B] (λv G=>∃g f:Value,v=.tuple #[DD lf g f,I 0]/\G=[gK g (X++a::Y_),gV f (X++a::Y_),A,B]):=
 QE lf u y A B i h d (X.length+1) (by simp[kL]) (kL (X++a::Y_)) (vL (X++a::Y_)) (by simp only[kL,AeK,AeM];have:=QQ (X.map Prod.fst) a.1 b.1 (Y_.map Prod.fst);rw[Aei] at this;exact this) (by simp only[vL,AeK,AeM];have:=QQ (X.map λe=>(e.2:Int)) (a.2:Int) (b.2:Int) (Y_.map λe=>(e.2:Int));rw[Aei] at this;exact this) c
theorem Sq.st{t t':TS}{a b:Nat}(S:St t t' R a b){h:Nat}{X:List E}{hi:Int}{L:List E}(d:∀v∈vals X,v∈R)(q:Sq (λc a b L=>Tr t.N h c a b 4 L) X hi L):Sq (λc a b L=>Tr t'.N h c a b 4 L) X hi L:=
 Sq.imp q λx e _ _ q=>S.fr _ (d _ (AeD e)) _ _ _ _ _ q
theorem St.t4{f t1 t2 t3 e:TS}{R1 R2 g i Q:List Nat}{h:Nat}(a:St f t1 R1 1 1)(b:St t1 t2 R2 1 1)(c:St t2 t3 g 0 1)(d:St t3 e i 0 h)(n:h<=1)(j:∀p∈Q,p∈R1)(k:∀p∈Q,p∈R2)(m:∀p∈Q,p∈g)(l:∀p∈Q,p∈i):St f e Q 2 4:=
 ((a.trans b j k (Ael _) (Ael _)).trans (c.trans d m l (Ael _) (Ael _)) (R:=Q) (R1:=Q) (R2:=Q) (λ_ q=>q) (λ_ q=>q) U U)
abbrev Ab6(Tb:Ai)(pp mb n:Nat)(o:TB)(t:TS)(Q:List Nat)(h:Nat)(lo hi:Int)(N8:Nat)(L:List E)(v:Value)(Γ:List Ai):Prop:=
 (cnt t.F 0 1024<=1/\∃(v1 v2:Value) (es':List E) (s:TS×List Nat),v=.tuple #[DD false v1 v2,.int .i64 20]/\Γ=[gK v1 es',gV v2 es',trA Tb pp mb n o (some s)])\/
 ∃(t2:TS) (es':List E) (v1 v2:Value),(St t t2 Q 2 4/\Bd t2.N (h+1) es' hi L/\B5 lo hi es'/\(Nd.mk false es').Ok/\(vals es').Nodup/\N8<=es'.length+1)/\v=.tuple #[DD false v1 v2,.int .i64 0]/\Γ=[gK v1 es',gV v2 es',trA Tb pp mb n o (some (t2,vals es'++Q))]
theorem Ab7(d:(Nd.mk false (X++e1::e2::Y_)).Ok):(Nd.mk false (X++(e1.1,n)::(e2.1,m)::Y_)).Ok:=by
 have hs:Srt (X++e1::e2::Y_):=d.srt;obtain ⟨i,j,g⟩:=Srt.app.1 hs;obtain ⟨h,s5⟩:=Srt.cons.1 j;have k:(X++e1::e2::Y_).length<=8:=d.len;refine ⟨Srt.app.2 ⟨i,Srt.cons.2 ⟨λx c=>?_,Srt.cons.2 ⟨(Srt.cons.1 s5).1,(Srt.cons.1 s5).2⟩⟩,λa f b e=>?_⟩,by simp at k ⊢;omega,λx c=>?_,λ_=>by simp⟩
 ·rcases Aeq.1 c with rfl|c
  ·exact h e2 O
  exact h x (by simp[c])
 ·rcases Aeq.1 e with rfl|e
  ·exact g a f e1 O
  rcases Aeq.1 e with rfl|e
  ·exact g a f e2 O
  exact g a f b (by simp[e])
 have c:x∈X++(e1.1,n)::(e2.1,m)::Y_:=c;rcases Aes.1 c with c|c
 ·exact d.key x (by simp[c])
 rcases Aeq.1 c with rfl|c
 ·exact d.key e1 O
 rcases Aeq.1 c with rfl|c
 ·exact d.key e2 O
 exact d.key x (by simp[c])
end
section
variable{Tb:Ai}
set_option maxHeartbeats 4000000 in
theorem Ab8 (pp mb n:Nat) (o:TB) (t:TS) (Q:List Nat) {vv:Value} (h:Nat) (lo hi:Int) (X Y_:List E) (e1 e2:E) (m1 m2:Nat) (L0 La Lb L2:List E) (hP:MnPre n t Q h lo hi X Y_ e1 e2 m1 m2 L0 La Lb L2):Ak 178 [Y pp,.agg #[.bool false,y,vv],I (X.length:Int)] [trA Tb pp mb n o (some (t,vals (X++e1::e2::Y_)++Q)),grow 3 1 y ((kL (X++e1::e2::Y_)).length) ((kL (X++e1::e2::Y_)).map I),grow 3 1 vv ((vL (X++e1::e2::Y_)).length) ((vL (X++e1::e2::Y_)).map I)] (λv G=>Ab6 Tb pp mb n o t Q h lo hi (X++e1::e2::Y_).length (L0++(La++(Lb++L2))) v G):=by
 intro z R w H;replace H:=H.l3;obtain ⟨gk,s,a8,rfl,d8,n4,e5,H⟩:=H.ungrow 1 Z (by simp only[Aei,Aeh,Aej];omega);replace H:=H.l3;obtain ⟨gv,a0,g,rfl,e6,m9,f0,H⟩:=H.ungrow 2 Z (by simp only[Aei,Aeh,Aej];omega);replace H:=H.l3;have K:=H.says 0 Z (λh a=>trA.k a);have hn:=K.hn;obtain ⟨j9,j8,n2,n6⟩:=TQ hP.ok.srt hP.r;obtain ⟨n1,m8,n0⟩:=hP.m3;have m5:=hP.hk;have n5:=hP.hb;have j3:(X++e1::e2::Y_).length<=8:=hP.ok.len;have n3:X.length+Y_.length+2<=8:=by simp only[Aeh,Aej] at j3;omega
 obtain ⟨es1,k5,n8,m4,e8,i8⟩:=Tr.iff.1 hP.ta;have l2:es1.length<=8:=e8.len;replace H:=(H.mono 0 (B:=trA Tb pp mb n o (some (t,e1.2::(vals X++(e2.2::(vals Y_++Q)))))) Z (λh q=>q.perm (mp1 X Y_ e1 e2 Q))).l3;refine Ae func178 Z ntmps178 Z (Za 2 [] H Z ?_);intro b1 w H;refine Za 0 [] H Z ?_;intro b2 w H;refine Za 5 [] H Z ?_;intro b3 w H;refine Zc 9 Z (GO 3 (DG (Z3 25 [3,2,2,0] [(X.length:Int)] H Z U (Ad Z (CJ Z (z:=1) (j:=X.length) (r:=X.length) J Z Z Z (by simp only[Aei,Aeh,Aej];omega) U) (Ad Z (Bn Z Z J (AB (H.cel 5 Z X.length (show ((vL (X++e1::e2::Y_)).map I++g)[X.length]?=some (I (e1.2:Int)) from (by rw[Aep O,Aer];simp[vL]))))) ?_)))));refine Au Z (call172 _) (JE pp mb n o t (vals X++(e2.2::(vals Y_++Q))) e1.2 (decide (h=0)) es1 k5 U (by simp only[Aej,Aeh,Ko];omega)) H.f3 ?_;rintro _ w _ (⟨i7,v4,v5,s1,rfl,rfl⟩|⟨t1,c1,v4,v5,O1,rfl,rfl⟩) H'
 ·have H:=H'.l8;have b9:=H.sy 0 (·.slc)
  have c4:=H.sy 1 (·.slc);refine Za 4 [] H Z ?_;intro b6 w H;refine Zc 1 Z (AC Z Z (Am 0 H Z Z Z Z (vs:=[.bool (decide (h=0)),v4,v5]) Z (Ab Z (Ab b9.one (Ab c4.one Aw))) J O (out:=[.bool (decide (h=0)),v4,v5]) Z) ?_);rintro w H;replace H:=H.l9;refine Z4 20 [3,6,3,5] H Z ?_;intro w H;refine Zl [5,3] H Z ?_;replace H:=(H.mono 7 (B:=grow 3 1 (.slice (some ⟨gk,0,none⟩) ((kL (X++e1::e2::Y_)).length) s) ((kL (X++e1::e2::Y_)).length) ((kL (X++e1::e2::Y_)).map I)) Z (λh q=>by exact q.grow U U (by have a:=e5;have b:=d8;simp only[Aeh,Aei,Aej] at a b ⊢;omega) (by rw[AeS,AeI O]))).l9;replace H:=(H.mono 8 (B:=grow 3 1 (.slice (some ⟨gv,0,none⟩) ((vL (X++e1::e2::Y_)).length) a0) ((vL (X++e1::e2::Y_)).length) ((vL (X++e1::e2::Y_)).map I)) Z (λh q=>by exact q.grow U U (by have a:=f0;have b:=e6;simp only[Aeh,Aei,Aej] at a b ⊢;omega) (by rw[AeS,AeI O]))).l9;exact ⟨_,.inl ⟨U,_,_,_,_,Z,Z⟩,H.perm 9 [7,8,3] Z Z⟩
 have H:=H'.l8;have b9:=H.sy 0 (·.slc);have c4:=H.sy 1 (·.slc);refine Za 4 [] H Z ?_;intro b7 w H;refine Zc 1 Z (AC Z Z (Am 0 H Z Z Z Z (vs:=[.bool (decide (h=0)),v4,v5]) Z (Ab Z (Ab b9.one (Ab c4.one Aw))) J O (out:=[.bool (decide (h=0)),v4,v5]) Z) ?_);rintro w H;replace H:=H.l9;refine Z0 13 [4] Z ?_;obtain ⟨es2,j7,i2,k8,e0,l6⟩:=Tr.iff.1 (O1.st.fr e2.2 O _ _ _ _ _ hP.tb);have j2:es2.length<=8:=e0.len;replace H:=(H.mono 3 (B:=trA Tb pp mb n o (some (t1,e2.2::(c1::(vals es1++(vals X++(vals Y_++Q))))))) Z (λh q=>q.perm (mp2 c1 e2.2 (vals es1) (vals X) (vals Y_++Q)))).l9;replace H:=H.f6;refine AS (Sep z (blk b1 [.bool false,.slice (some ⟨gk,0,none⟩) ((kL (X++e1::e2::Y_)).length) s,.slice (some ⟨gv,0,none⟩) ((vL (X++e1::e2::Y_)).length) a0] 195::blk b7 [.bool (decide (h=0)),v4,v5] 195::R)) 12 Z J (A4 H λw H'=>?_);have H:=H'.l9;refine HJ [0,1,2,3,4,5,6,7] [2,0,0,1,3] [(X.length:Int)] (by exact H.pick 9 [0,1] Z) Z J U Z (BQ 8 Z J J J Z Z Z (CJ Z (z:=1) (j:=X.length) (r:=X.length) J Z Z Z (by simp only[Aei,Aeh,Aej];omega) U) (H.pick 9 [0,1] Z) (AE [9] J O (Al (Bl Z Z Z (Am 8 H Z Z Z Z (vs:=[I (c1:Int)]) Z (Ab Z Aw) J (by simp only[Aeh,Aei,Aej,AeE];omega) (out:=((vL (X++(e1.1,c1)::e2::Y_)).map I++g)) ((Ec O).trans (by rw[show (vL (X++e1::e2::Y_)).set (X.length) (c1:Int)=(vL (X++(e1.1,c1)::e2::Y_)) from by simp[vL,Af1]]))) ?_))));rintro w H;replace H:=H.l9;refine Az (H.pick 9 [0,1] Z) (HJ [10] [2,3,0,0] [] (by exact H.pick 9 [0,1] Z) Z J U Z (AE [11] J O (Al (Bl Z Z Z (Am 5 H Z Z Z Z (vs:=[.bool (decide (h=0)),v4,v5]) Z (Ab Z (Ab b9.one (Ab c4.one Aw))) J O (out:=[.bool (decide (h=0)),v4,v5,.bool false,.slice none 0 0,.slice none 0 0]) Z) ?_))));rintro w H;replace H:=H.l9;refine Az (H.pick 9 [0,1] Z) (a_done J (gn (Z1 6 [] [1] Z U (gf (DG (Z3 25 [3,2,0,0] [(X.length:Int)+1] H Z U (Ad Z (CJ Z (z:=1) (j:=(X.length+1)) (r:=(X.length+1)) J Z Z U (by simp only[Aei,Aeh,Aej];omega) U) (Ad Z (Bn Z Z J (AB (H.cel 8 Z (X.length+1) (show ((vL (X++(e1.1,c1)::e2::Y_)).map I++g)[X.length+1]?=some (I (e2.2:Int)) from (by rw[Aep O,Aer];simp[vL]))))) ?_))))))));refine Au Z (call172 _) (JE pp mb n o t1 (c1::(vals es1++(vals X++(vals Y_++Q)))) e2.2 (decide (h=0)) es2 j7 (by have:=O1.st.k;omega) (by simp only[Aej,Aeh,Ko];omega)) H.f4 ?_;rintro _ w _ (⟨i6,v8,v9,s2,rfl,rfl⟩|⟨t2,c2,v8,v9,O2,rfl,rfl⟩) H'
 ·have H:=H'.l11;have c3:=H.sy 0 (·.slc)
  have c6:=H.sy 1 (·.slc);refine Za 4 [] H Z ?_;intro n9 w H;refine Zc 1 Z (AC Z Z (Am 0 H Z Z Z Z (vs:=[.bool (decide (h=0)),v8,v9]) Z (Ab Z (Ab c3.one (Ab c6.one Aw))) J O (out:=[.bool (decide (h=0)),v8,v9]) Z) ?_);rintro w H;replace H:=H.l12;refine Z4 20 [3,4,3,9] H Z ?_;intro w H;refine Zl [9,3] H Z ?_;replace H:=(H.mono 10 (B:=grow 3 1 (.slice (some ⟨gk,0,none⟩) ((kL (X++e1::e2::Y_)).length) s) ((kL (X++(e1.1,c1)::e2::Y_)).length) ((kL (X++(e1.1,c1)::e2::Y_)).map I)) Z (λh q=>by rw[show (kL (X++(e1.1,c1)::e2::Y_)).length=(kL (X++e1::e2::Y_)).length from by simp,show kL (X++(e1.1,c1)::e2::Y_)=kL (X++e1::e2::Y_) from by simp[kL]];exact q.grow U U (by have a:=e5;have b:=d8;simp only[Aeh,Aei,Aej] at a b ⊢;omega) (by rw[AeS,AeI O]))).l12;replace H:=(H.mono 11 (B:=grow 3 1 (.slice (some ⟨gv,0,none⟩) ((vL (X++e1::e2::Y_)).length) a0) ((vL (X++(e1.1,c1)::e2::Y_)).length) ((vL (X++(e1.1,c1)::e2::Y_)).map I)) Z (λh q=>by rw[show (vL (X++(e1.1,c1)::e2::Y_)).length=(vL (X++e1::e2::Y_)).length from by simp];exact q.grow U U (by have a:=f0;have b:=e6;simp only[Aeh,Aei,Aej] at a b ⊢;omega) (by rw[AeS,AeI O]))).l12;exact ⟨_,.inl ⟨(by have:=O1.st.f;omega),_,_,_,_,Z,Z⟩,H.perm 12 [10,11,3] Z Z⟩
 have H:=H'.l11;have c3:=H.sy 0 (·.slc);have c6:=H.sy 1 (·.slc);refine Za 4 [] H Z ?_;intro i9 w H;refine Zc 1 Z (AC Z Z (Am 0 H Z Z Z Z (vs:=[.bool (decide (h=0)),v8,v9]) Z (Ab Z (Ab c3.one (Ab c6.one Aw))) J O (out:=[.bool (decide (h=0)),v8,v9]) Z) ?_);rintro w H;replace H:=H.l12;refine Z0 13 [4] Z ?_;replace H:=H.f4;refine AS (Sep z (blk b1 [.bool false,.slice (some ⟨gk,0,none⟩) ((kL (X++e1::e2::Y_)).length) s,.slice (some ⟨gv,0,none⟩) ((vL (X++e1::e2::Y_)).length) a0] 195::blk i9 [.bool (decide (h=0)),v8,v9] 195::R)) 12 Z J (A4 H λw H'=>?_);have H:=H'.l12;refine HJ [0,1,2,3,4,5,6,7] [2,0,0,1,3] [(X.length:Int)+1] (by exact H.pick 12 [0,1] Z) Z J U Z (BQ 8 Z J J J Z Z Z (CJ Z (z:=1) (j:=(X.length+1)) (r:=(X.length+1)) J Z Z U (by simp only[Aei,Aeh,Aej];omega) U) (H.pick 12 [0,1] Z) (AE [9] J O (Al (Bl Z Z Z (Am 11 H Z Z Z Z (vs:=[I (c2:Int)]) Z (Ab Z Aw) J (by simp only[Aeh,Aei,Aej,AeE];omega) (out:=((vL (X++(e1.1,c1)::(e2.1,c2)::Y_)).map I++g)) ((Ec O).trans (by rw[show (vL (X++(e1.1,c1)::e2::Y_)).set (X.length+1) (c2:Int)=(vL (X++(e1.1,c1)::(e2.1,c2)::Y_)) from by simp[vL,Af1]]))) ?_))));rintro w H;replace H:=H.l12;refine Az (H.pick 12 [0,1] Z) (HJ [10] [2,3,1,3] [] (by exact H.pick 12 [0,1] Z) Z J U Z (AE [11] J O (Al (Bl Z Z Z (Am 8 H Z Z Z Z (vs:=[.bool (decide (h=0)),v8,v9]) Z (Ab Z (Ab c3.one (Ab c6.one Aw))) J O (out:=[.bool (decide (h=0)),v4,v5,.bool (decide (h=0)),v8,v9]) Z) ?_))));rintro w H;replace H:=H.l12;refine Az (H.pick 12 [0,1] Z) (a_done J (gn (Z1 6 [] [2] Z U (gf (DG (Z0 9 [4] Z (gx (Zc 3 Z ?_))))))));have K2:=H.says 4 Z (λh a=>trA.k a);have i0:Bd t2.N h es1 e2.1 La:=O2.st.bd (λv m=>by simp[m]) (O1.bd i8);have h8:Bd t2.N h es2 (nx Y_ hi) Lb:=O2.bd l6;have d1:es2≠[]:=λq=>by rw[q] at i2;simp at i2;omega
 obtain ⟨c8,a2,b0⟩:=ZN i0 h8 e8.srt e0.srt m4 k8 d1 j9 j8;have b5:(vals (es1++es2)).Nodup:=c8.nd a2 (λx hx=>(b0 x hx).2) hP.d;have a5:=O2.st.op c1 O O1.N0 O1.C1;have d9:Sq (λc a b L=>Tr t2.N h c a b 4 L) X e1.1 L0:=Sq.imp hP.q0 λx hx _ _ q=>O2.st.fr _ (by simp[AeD hx,vals]) _ _ _ _ _ (O1.st.fr _ (by simp[AeD hx,vals]) _ _ _ _ _ q);have g2:Sq (λc a b L=>Tr t2.N h c a b 4 L) Y_ hi L2:=Sq.imp hP.q2 λx hx _ _ q=>O2.st.fr _ (by simp[AeD hx,vals]) _ _ _ _ _ (O1.st.fr _ (by simp[AeD hx,vals]) _ _ _ _ _ q);have k0:∀v∈vals es1,1<=v/\v<1024:=λv m=>by have:=K2.i.rin v (by simp[CV,m]);omega
 have j1:∀v∈vals es2,1<=v/\v<1024:=λv m=>by have:=K2.i.rin v (by simp[CV,m]);omega
 have b4:=CkN.of e8 k0;have a7:=CkN.of e0 j1;have c5:=JG b0 (by have:=hP.l0;omega) (by have:=hP.h1;omega);refine Z3 5 [2,3,0,0,8,3,2,3,1,3,8,3] [] H Z U ?_;rcases Aeu 8 (es1.length+es2.length) with hj|hj
 ·refine z_E_ Z (call212 _) (joinF_e (λh q=>q.rd) (λh q=>q.rd) (λh q=>q.rd) (λh q=>q.rd) b4 a7 a2 hj) H.f3.f3.f7.f7 ?_;intro w H;refine Za 3 [] H Z ?_;intro m6 w H;refine Z5 20 [0,4,2,3,0,0,9,3,2,3,1,3,9,3] [] H Z U ?_;intro w H;have g9:5<=FJ es1 es2/\FJ es1 es2<=8/\4<=(es1++es2).length-FJ es1 es2/\(es1++es2).length-FJ es1 es2<=8:=by unfold FJ;simp only[Aeh];omega
  have e7:=AeO (FJ es1 es2) (es1++es2);obtain ⟨x_,g0⟩:∃x_,x_=(es1++es2).take (FJ es1 es2):=⟨_,Z⟩;obtain ⟨y_,e3⟩:∃y_,y_=(es1++es2).drop (FJ es1 es2):=⟨_,Z⟩;refine Au Z (call213 _) (ZO (λh q=>q.rd) (λh q=>q.rd) (λh q=>q.rd) (λh q=>q.rd) b4 a7 a2 hj x_ y_ g0 e3) H.f4.f4.f4.f4 ?_;rintro _ w _ ⟨f2,f9,i5,c7,rfl,rfl⟩ H;replace H:=H.l17;have g6:=H.sy 0 (·.slc);have i4:=H.sy 1 (·.slc);have d2:=H.sy 2 (·.slc);have h3:=H.sy 3 (·.slc);have c0:4<=x_.length/\x_.length<=8:=by rw[g0,AeA];simp only[Aeh] at g9 ⊢;omega
  have a6:4<=y_.length/\y_.length<=8:=by rw[e3,AeP];exact g9.2.2
  rw[<-g0,<-e3] at e7;rw[<-e7] at c8 a2 b0 b5 c5;have d5:x_≠[]:=λq=>by rw[q] at c0;simp at c0
  have d3:y_≠[]:=λq=>by rw[q] at a6;simp at a6
  obtain ⟨M1,M2,hM,g8,l4⟩:=Bd.app.1 c8;obtain ⟨i3,g3,d4,d6⟩:=OP a2 b0 d5 d3;obtain ⟨j6,j4,_⟩:=Srt.app.1 a2;rw[BO,Afc] at b5;obtain ⟨ky,e9⟩:∃ky,ky=nx y_ (nx Y_ hi):=⟨_,Z⟩;rw[<-e9] at g8 i3 g3 d4 d6;have j5:(Nd.mk (decide (h=0)) x_).Ok:=⟨j6,c0.2,λe he=>c5 e (by simp[he]),λ_=>d5⟩;have k7:(Nd.mk (decide (h=0)) y_).Ok:=⟨j4,a6.2,λe he=>c5 e (by simp[he]),λ_=>d3⟩;have k9:(c2::(vals es2++(c1::(vals es1++(vals X++(vals Y_++Q)))))).Perm (c1::(vals x_++(c2::(vals y_++(vals X++(vals Y_++Q)))))):=mp3 c1 c2 es1 es2 x_ y_ e7.symm;refine Za 4 [] H Z ?_;intro m0 w H;refine Za 0 [] H Z ?_;intro h4 w H;refine AC Z Z (Am 1 H Z Z Z Z (vs:=[.bool (decide (h=0)),f2,f9]) Z (Ab Z (Ab g6.one (Ab i4.one Aw))) J O (out:=[.bool (decide (h=0)),f2,f9]) Z) ?_;rintro w H;replace H:=H.l19;refine AC Z Z (Am 0 H Z Z Z Z (vs:=[.bool (decide (h=0)),i5,c7]) Z (Ab Z (Ab d2.one (Ab h3.one Aw))) J O (out:=[.bool (decide (h=0)),i5,c7]) Z) ?_;rintro w H;replace H:=H.l19;refine Z0 15 [4] Z ?_;replace H:=(H.mono 13 (B:=trA Tb pp mb n o (some (t2,c1::(vals x_++(c2::(vals y_++(vals X++(vals Y_++Q)))))))) Z (λh q=>q.perm k9)).l19;replace H:=(H.pick 19 [11,1,18,0,2,3,4,5,6,7,8,9,10,12,13,14,15,16,17] Z).l19;refine AS (Sep z (blk b1 [.bool false,.slice (some ⟨gk,0,none⟩) ((kL (X++e1::e2::Y_)).length) s,.slice (some ⟨gv,0,none⟩) ((vL (X++e1::e2::Y_)).length) a0] 195::blk m0 [.bool (decide (h=0)),f2,f9] 195::blk gv ((vL (X++(e1.1,c1)::(e2.1,c2)::Y_)).map I++g) 3::R)) 9 Z J (A4 H λw H'=>?_);have H:=H'.l19;refine AZ [0,1,2,3] [2,0,0] [] (by exact H.pick 19 [0,1,2] Z) Z J Z (BQ 4 Z J J J Z Z Z (CJ Z (z:=1) (j:=X.length) (r:=X.length) J Z Z Z (by simp only[Aei,Aeh,Aej];omega) U) (H.pick 19 [0,1,2] Z) (BQ 5 Z J J J Z Z Z (Bn Z Z J (λ_ hx=>hx.cel 2 Z X.length (show ((vL (X++(e1.1,c1)::(e2.1,c2)::Y_)).map I++g)[X.length]?=some (I (c1:Int)) from (by rw[Aep O,Aer];simp[vL])))) (H.pick 19 [0,1,2] Z) ?_));refine AZ [6] [1,3] [] (by exact H.pick 19 [0,1,2] Z) Z J Z (AE [7] J O (Al (PT Z Z Z Z Z Z (λw=>call174 _ w) (F7 pp mb n o t2 (c2::(vals y_++(vals X++(vals Y_++Q)))) c1 (decide (h=0)) x_ (λh q=>q.rd) (λh q=>q.rd) h e1.1 ky 4 M1 g8 Z i3 c0.1 j5 b5.1 a5.2 a5.1 (by have:=O1.st.k;have:=O2.st.k;omega)) H 15 [14,4,5,0,1,2,3,6,7,8,9,10,11,12,13] Z Z ?_)));rintro _ w _ ⟨t3,⟨l,b8,k4,l5⟩,rfl,rfl⟩ H;replace H:=H.l19;refine Az (H.pick 19 [3,4,5] Z) (AZ [8] [] [] (by exact H.pick 19 [3,4,5] Z) Z J Z (a_done J (gn (Z0 11 [4] Z ?_))));obtain ⟨e4,a9,rfl⟩:=d2;have h7:=(H.rv 7 (·.rd)).at (j:=0) (u:=I ky) (by rw[Aer,FE (hi:=nx Y_ hi) a6.1,e9];rfl);replace H:=(H.pick 19 [3,6,7,0,1,2,4,5,8,9,10,11,12,13,14,15,16,17,18] Z).l19;refine AS (Sep z (blk b1 [.bool false,.slice (some ⟨gk,0,none⟩) ((kL (X++e1::e2::Y_)).length) s,.slice (some ⟨gv,0,none⟩) ((vL (X++e1::e2::Y_)).length) a0] 195::blk h4 [.bool (decide (h=0)),.slice e4 ((kL y_).length) a9,c7] 195::grow 3 1 (.slice e4 ((kL y_).length) a9) ((kL y_).length) ((kL y_).map I)::R)) 10 Z J (A4 H λw H'=>?_);have H:=H'.l19;refine HJ [0,1,2,3,4,5] [1,0,0,1,1,0] [(X.length:Int)+1] (by exact H.pick 19 [0,1,2] Z) Z J U Z (BQ 6 Z J J J Z Z Z (Aj Z (z:=1) (j:=0) (r:=0) J Z Z Z (by simp only[Aei];omega) h7 U) (H.pick 19 [0,1,2] Z) (BQ 7 Z J J J Z Z Z (Ax Z Z J (λ_ k1=>(k1.rv 2 (·.rd)).at (j:=0) (u:=I ky) (by rw[Aer,FE (hi:=nx Y_ hi) a6.1,e9];rfl))) (H.pick 19 [0,1,2] Z) ?_));refine BQ 8 Z J J J Z Z Z (CJ Z (z:=1) (j:=(X.length+1)) (r:=(X.length+1)) J Z Z U (by simp only[Aei,Aeh,Aej];omega) U) (H.pick 19 [0,1,2] Z) (AE [9] J O (Al (Bl Z Z Z (Am 18 H Z Z Z Z (vs:=[I ky]) Z (Ab Z Aw) J (by simp only[Aeh,Aei,Aej,AeE];omega) (out:=((kL (X++(e1.1,c1)::(ky,c2)::Y_)).map I++a8)) ((Ec O).trans (by rw[show (kL (X++e1::e2::Y_)).set (X.length+1) ky=(kL (X++(e1.1,c1)::(ky,c2)::Y_)) from by simp[kL,Af1]]))) ?_)));rintro w H;replace H:=H.l19;refine Az (H.pick 19 [0,1,2] Z) (a_done J (gn (Zc 2 Z ?_)));replace H:=(H.mono 3 (B:=trA Tb pp mb n o (some (t3,c2::(vals y_++(c1::(vals X++(vals Y_++Q))))))) Z (λh q=>q.perm (mp4 c1 c2))).l19;replace H:=(H.pick 19 [0,1,7,2,3,4,5,6,8,9,10,11,12,13,14,15,16,17,18] Z).l19;refine AS (Sep z (blk b1 [.bool false,.slice (some ⟨gk,0,none⟩) ((kL (X++e1::e2::Y_)).length) s,.slice (some ⟨gv,0,none⟩) ((vL (X++e1::e2::Y_)).length) a0] 195::blk h4 [.bool (decide (h=0)),.slice e4 ((kL y_).length) a9,c7] 195::blk gv ((vL (X++(e1.1,c1)::(e2.1,c2)::Y_)).map I++g) 3::R)) 12 Z J (A4 H λw H'=>?_);have H:=H'.l19;refine HJ [0,1,2,3,4,5] [0,3,2,0,0] [(X.length:Int)+1] (by exact H.pick 19 [0,1,2] Z) Z J U Z (BQ 6 Z J J J Z Z Z (CJ Z (z:=1) (j:=(X.length+1)) (r:=(X.length+1)) J Z Z U (by simp only[Aei,Aeh,Aej];omega) U) (H.pick 19 [0,1,2] Z) (BQ 7 Z J J J Z Z Z (Bn Z Z J (λ_ hx=>hx.cel 2 Z (X.length+1) (show ((vL (X++(e1.1,c1)::(e2.1,c2)::Y_)).map I++g)[X.length+1]?=some (I (c2:Int)) from (by rw[Aep O,Aer];simp[vL])))) (H.pick 19 [0,1,2] Z) ?_));refine AZ [8] [1,3] [] (by exact H.pick 19 [0,1,2] Z) Z J Z (AE [9] J O (Al (PT Z Z Z Z Z Z (λw=>call174 _ w) (F7 pp mb n o t3 (c1::(vals X++(vals Y_++Q))) c2 (decide (h=0)) y_ (λh q=>q.rd) (λh q=>q.rd) h ky (nx Y_ hi) 4 M2 (l.bd (λv m=>by simp[m]) l4) Z g3 a6.1 k7 b5.2.1 (l.op c2 O O2.N0 O2.C1).2 (l.op c2 O O2.N0 O2.C1).1 (by have:=O1.st.k;have:=O2.st.k;have:=l.k;omega)) H 9 [4,3,8,0,1,2,5,6,7] Z Z ?_)));rintro _ w _ ⟨t4,⟨a4,k3,l7,k6⟩,rfl,rfl⟩ H;replace H:=H.l19;refine Az (H.pick 19 [3,4,5] Z) (AE [10] J O (Al (Bl Z Z Z (Am 17 H Z Z Z Z (vs:=[.bool false,.slice (some ⟨gk,0,none⟩) ((kL (X++e1::e2::Y_)).length) s,.slice (some ⟨gv,0,none⟩) ((vL (X++e1::e2::Y_)).length) a0]) Z (by simp[u8,u32,Value.oneCell']) J O (out:=[.bool false,.slice (some ⟨gk,0,none⟩) ((kL (X++e1::e2::Y_)).length) s,.slice (some ⟨gv,0,none⟩) ((vL (X++e1::e2::Y_)).length) a0]) Z) ?_)));rintro w H;replace H:=H.l19;refine Az (H.pick 19 [3,4,5] Z) (AZ [11] [] [] (by exact H.pick 19 [3,4,5] Z) Z J Z (a_done J (gn (Zc 2 Z (Zl [17,3] H Z ?_)))));replace H:=(H.mono 18 (B:=grow 3 1 (.slice (some ⟨gk,0,none⟩) ((kL (X++e1::e2::Y_)).length) s) ((kL (X++(e1.1,c1)::(ky,c2)::Y_)).length) ((kL (X++(e1.1,c1)::(ky,c2)::Y_)).map I)) Z (λh q=>by rw[show (kL (X++(e1.1,c1)::(ky,c2)::Y_)).length=(kL (X++e1::e2::Y_)).length from by simp];exact q.grow U U (by have a:=e5;have b:=d8;simp only[Aeh,Aei,Aej] at a b ⊢;omega) (by rw[AeS,AeI O]))).l19;replace H:=(H.mono 5 (B:=grow 3 1 (.slice (some ⟨gv,0,none⟩) ((vL (X++e1::e2::Y_)).length) a0) ((vL (X++(e1.1,c1)::(ky,c2)::Y_)).length) ((vL (X++(e1.1,c1)::(ky,c2)::Y_)).map I)) Z (λh q=>by rw[show (vL (X++(e1.1,c1)::(ky,c2)::Y_)).length=(vL (X++e1::e2::Y_)).length from by simp,show vL (X++(e1.1,c1)::(ky,c2)::Y_)=vL (X++(e1.1,c1)::(e2.1,c2)::Y_) from by simp[vL]];exact q.grow U U (by have a:=f0;have b:=e6;simp only[Aeh,Aei,Aej] at a b ⊢;omega) (by rw[AeS,AeI O]))).l19;replace H:=(H.mono 0 (B:=trA Tb pp mb n o (some (t4,vals (X++(e1.1,c1)::(ky,c2)::Y_)++Q))) Z (λh q=>q.perm (mp6 c1 c2 e1.1 ky X Y_ Q))).l19;have a1:=mn_share (c1:=c1) (c2:=c2) hP.ok hP.r (Sq.st a4 (λv m=>by simp[m]) (Sq.st l (λv m=>by simp[m]) d9)) (Sq.st a4 (λv m=>by simp[m]) (Sq.st l (λv m=>by simp[m]) g2)) (a4.fr c1 O _ _ _ _ _ b8) k3 hM.symm d4 d6 hP.h1;exact ⟨_,.inr ⟨t4,_,_,_,⟨St.t4 O1.st O2.st l a4 U (λp hp=>by simp[hp]) (λp hp=>by simp[hp]) (λp hp=>by simp[hp]) (λp hp=>by simp[hp]),a1.1,a1.2.1,a1.2.2.1,a1.2.2.2,by simp⟩,Z,Z⟩,H.perm 19 [18,5,0] Z Z⟩
 refine Au Z (call212 _) (AbY (λh q=>q.rd) (λh q=>q.rd) (λh q=>q.rd) (λh q=>q.rd) b4 a7 a2 hj) H.f3.f3.f7.f7 ?_;rintro _ w _ ⟨d7,g1,rfl,rfl⟩ H;replace H:=H.l14;have h0:=H.sy 0 (·.slc);have g5:=H.sy 1 (·.slc);refine Za 3 [] H Z ?_;intro j0 w H;refine AC Z Z (Am 0 H Z Z Z Z (vs:=[.bool (decide (h=0)),d7,g1]) Z (Ab Z (Ab h0.one (Ab g5.one Aw))) J O (out:=[.bool (decide (h=0)),d7,g1]) Z) ?_;rintro w H;replace H:=H.l15;refine Z0 13 [3] Z ?_;have l1:(Nd.mk (decide (h=0)) (es1++es2)).Ok:=⟨a2,by simp;omega,c5,λ_=>by simp[d1]⟩;replace H:=(H.mono 9 (B:=trA Tb pp mb n o (some (t2,c1::(vals (es1++es2)++(c2::(vals X++(vals Y_++Q))))))) Z (λh q=>q.perm (AdU c1 c2 es1 es2))).l15;replace H:=H.f14.f1.f8;refine AS (Sep z (blk b1 [.bool false,.slice (some ⟨gk,0,none⟩) ((kL (X++e1::e2::Y_)).length) s,.slice (some ⟨gv,0,none⟩) ((vL (X++e1::e2::Y_)).length) a0] 195::blk j0 [.bool (decide (h=0)),d7,g1] 195::blk gv ((vL (X++(e1.1,c1)::(e2.1,c2)::Y_)).map I++g) 3::R)) 9 Z J (A4 H λw H'=>?_);have H:=H'.l15;refine AZ [0,1,2,3] [2,0,0] [] (by exact H.pick 15 [0,1,2] Z) Z J Z (BQ 4 Z J J J Z Z Z (CJ Z (z:=1) (j:=X.length) (r:=X.length) J Z Z Z (by simp only[Aei,Aeh,Aej];omega) U) (H.pick 15 [0,1,2] Z) (BQ 5 Z J J J Z Z Z (Bn Z Z J (λ_ hx=>hx.cel 2 Z X.length (show ((vL (X++(e1.1,c1)::(e2.1,c2)::Y_)).map I++g)[X.length]?=some (I (c1:Int)) from (by rw[Aep O,Aer];simp[vL])))) (H.pick 15 [0,1,2] Z) ?_));refine AZ [6] [1,3] [] (by exact H.pick 15 [0,1,2] Z) Z J Z (AE [7] J O (Al (Br Z Z Z Z Z Z (λw=>call174 _ w) (F7 pp mb n o t2 (c2::(vals X++(vals Y_++Q))) c1 (decide (h=0)) (es1++es2) (λh q=>q.rd) (λh q=>q.rd) h e1.1 (nx Y_ hi) 4 (La++Lb) c8 Z b0 (by simp;omega) l1 b5 a5.2 a5.1 (by have:=O1.st.k;have:=O2.st.k;omega)) H.f4.f4.f10 Z ?_)));rintro _ w _ ⟨t3,⟨l,b8,k4,l5⟩,rfl,rfl⟩ H;replace H:=H.l15;refine Az (H.pick 15 [3,4,5] Z) (AZ [8] [] [] (by exact H.pick 15 [3,4,5] Z) Z J Z (a_done J (gn (Z0 12 [4] Z ?_))));replace H:=(H.mono 0 (B:=trA Tb pp mb n o (some (t3,c2::(c1::(vals X++(vals Y_++Q)))))) Z (λh q=>q.perm (AfZ _ _ _))).l15;refine Z3 6 [2,3,0] [(X.length:Int)+1] H Z U (Ad Z (CJ Z (z:=1) (j:=(X.length+1)) (r:=(X.length+1)) J Z Z U (by simp only[Aei,Aeh,Aej];omega) U) (Ad Z (Bn Z Z J (AB (H.cel 5 Z (X.length+1) (show ((vL (X++(e1.1,c1)::(e2.1,c2)::Y_)).map I++g)[X.length+1]?=some (I (c2:Int)) from (by rw[Aep O,Aer];simp[vL]))))) ?_));refine Au Z (call131 _) (G0 pp mb n o t3 c2 (λd q=>by rw[(l.op c2 O O2.N0 O2.C1).1] at q;cases q)) H ?_;rintro _ w _ ⟨t4,⟨a3,n7,l7,k6,m7⟩,rfl,rfl⟩ H;refine Z0 13 [4] Z ?_;have K4:=H.says 0 Z (λh a=>trA.k a);have c9:∀v∈vals X++vals Y_,1<=v/\v<1024:=λv m=>by have:=K4.i.rin v (by simp only[CV,Aeq,Aes] at m ⊢;rcases m with h|h<;>simp[h]);omega
 have d0:1<=c1/\c1<1024:=by have:=K4.i.rin c1 (by simp[CV]);omega
 have h2:1<=c2/\c2<1024:=by have:=K2.i.rin c2 (by simp[CV]);omega
 have k2:=QP (N:=t4.N) (c1:=c1) hP.ok hP.r (Sq.st a3 (λv m=>by simp[m]) (Sq.st l (λv m=>by simp[m]) d9)) (Sq.st a3 (λv m=>by simp[m]) (Sq.st l (λv m=>by simp[m]) g2)) (a3.fr c1 O _ _ _ _ _ b8);have h9:CkN false (kL (X++(e1.1,c1)::Y_)) (vL (X++(e1.1,c1)::Y_)):=CkN.of k2.2.2.1 (λv m=>by rw[BO,Cb] at m;simp only[Aes,Aeq] at m;rcases m with q|q|q;exact c9 v (by simp[q]);rw[q];exact d0;exact c9 v (by simp[q]));have g7:CkN false (kL (X++(e1.1,c1)::(e2.1,c2)::Y_)) (vL (X++(e1.1,c1)::(e2.1,c2)::Y_)):=CkN.of (Ab7 hP.ok) (λv m=>by rw[BO,Cb,Cb] at m;simp only[Aes,Aeq] at m;rcases m with q|q|q|q;exact c9 v (by simp[q]);rw[q];exact d0;rw[q];exact h2;exact c9 v (by simp[q]));refine Z3 4 [3,3] [((X.length+1:Nat):Int)] H Z U (Au Z (call177 _) (ZP (λh q=>by rw[show kL (X++(e1.1,c1)::(e2.1,c2)::Y_)=kL (X++e1::e2::Y_) from by simp[kL]];exact q.rd U U (by simp only[Aeh,Aei,Aej];omega) (by rw[Aey,AeS,AeI O])) (λh q=>by rw[show (vL (X++(e1.1,c1)::(e2.1,c2)::Y_)).length=(vL (X++e1::e2::Y_)).length from by simp];exact q.rd U U (by simp only[Aeh,Aei,Aej];omega) (by rw[Aey,AeS,AeI O])) g7 h9) H.f5.f14 ?_);rintro _ w _ ⟨h6,i1,rfl,rfl⟩ H;replace H:=H.l17;have h5:=H.sy 0 (·.slc);have g4:=H.sy 1 (·.slc);refine Zc 2 Z (AC Z Z (Am 16 H Z Z Z Z (vs:=[.bool false,h6,i1]) Z (Ab Z (Ab h5.one (Ab g4.one Aw))) J O (out:=[.bool false,h6,i1]) Z) ?_);rintro w H;replace H:=H.l17;refine Zc 4 Z (Zl [16,3] H Z ?_);replace H:=(H.mono 4 (B:=trA Tb pp mb n o (some (t4,vals (X++(e1.1,c1)::Y_)++Q))) Z (λh q=>q.perm (mp5 c1 e1.1 X Y_ Q))).l17;have a1:=QP (c1:=c1) hP.ok hP.r (Sq.st a3 (λv m=>by simp[m]) (Sq.st l (λv m=>by simp[m]) d9)) (Sq.st a3 (λv m=>by simp[m]) (Sq.st l (λv m=>by simp[m]) g2)) (a3.fr c1 O _ _ _ _ _ b8);exact ⟨_,.inr ⟨t4,_,_,_,⟨St.t4 O1.st O2.st l a3 U (λp hp=>by simp[hp]) (λp hp=>by simp[hp]) (λp hp=>by simp[hp]) (λp hp=>by simp[hp]),a1.1,a1.2.1,a1.2.2.1,a1.2.2.2,by simp;omega⟩,Z,Z⟩,H.perm 17 [0,1,4] Z Z⟩
end
section
variable{Tb:Ai}
structure RmPre(n:Nat)(t:TS)(Q:List Nat)(a h:Nat)(lo hi:Int)(m:Nat)(key:Int)(v0:Nat)(L:List E):Prop where
 T:Tr t.N h a lo hi m L
 kin:(key,v0)∈L
 l0:0<=lo
 h1:hi<=1048576
 d:(vals L).Nodup
 mm:1<=m/\(h≠0->2<=m)
 hk:t.k+6*h+4<40
 hb:Q.length+10*h+42+n<=980
abbrev Ln(Tb:Ai)(pp mb n:Nat)(o:TB)(t:TS)(Q:List Nat)(h:Nat)(lo hi:Int)(m:Nat)(key:Int)(L:List E)(v:Value)(Γ:List Ai):Prop:=
 (cnt t.F 0 1024<=3*h/\∃s:TS×List Nat,v=.tuple #[.int .i64 0,.int .i64 0,.int .i64 20]/\Γ=[trA Tb pp mb n o (some s)])\/
 ∃(t2:TS) (c:Nat) (es':List E),(St t t2 Q (3*h+1) (6*h+2)/\Tr t2.N h c lo hi es'.length (BY key L)/\t2.N c=some (.nd ⟨decide (h=0),es'⟩)/\t2.C c=1/\m<=es'.length+1)/\v=.tuple #[.int .i64 (c:Int),.int .i64 (es'.length:Int),.int .i64 0]/\Γ=[trA Tb pp mb n o (some (t2,c::Q))]
theorem Lo(h:(vals X).Nodup):(vals (BY t X)).Nodup:=by
 unfold vals BY;exact List.Nodup.sublist (List.Sublist.map _ List.filter_sublist) h
theorem ZQ{Y_:List E}:(m::(vals (X++(t,n)::Y_)++R)).Perm (n::(m::(vals (X++Y_)++R))):=
 AfF.2 λa=>by simp only[Aft,Aff,DM,Eh];omega
theorem Wq{Y_:List E}{e:E}:(n::(vals (X++e::Y_)++R)).Perm (e.2::(n::(vals X++(vals Y_++R)))):=
 AfF.2 λa=>by simp only[Aft,Aff,DM,Eh];omega
theorem TR{Y_:List E}:(m::(n::(vals X++(vals Y_++R)))).Perm (vals (X++(t,m)::Y_)++(n::R)):=
 AfF.2 λa=>by simp only[Aft,Aff,DM,Eh];omega
theorem MY :(vals X++(n::R)).Perm (n::(vals X++R)):=Afj
theorem Wr{N:Hm}{Y_:List E}(d:(Nd.mk true (X++(p,n)::Y_)).Ok)(m:B5 t s (X++(p,n)::Y_))(h:∀e∈X++(p,n)::Y_,∃b,N e.2=some (.dt b))(c:(vals (X++(p,n)::Y_)).Nodup):
  BY p (X++(p,n)::Y_)=X++Y_/\Bd N 0 (X++Y_) s (X++Y_)/\B5 t s (X++Y_)/\(Nd.mk true (X++Y_)).Ok/\(vals (X++Y_)).Nodup:=by
 have hs:Srt (X++(p,n)::Y_):=d.srt;obtain ⟨j,k,r⟩:=Srt.app.1 hs;have g:∀x∈X++Y_,x∈X++(p,n)::Y_:=λx f=>by
  rcases Aes.1 f with q|q<;>simp[q]
 have o:(X++(p,n)::Y_).length<=8:=d.len;refine ⟨L7 hs,⟨Z,λe i=>h e (g e i)⟩,λx f=>m x (g x f),⟨Srt.app.2 ⟨j,(Srt.cons.1 k).2,λa u b l=>r a u b (by simp[l])⟩,by simp at o ⊢;omega,λe i=>d.key e (g e i),λq=>by cases q⟩,?_⟩;rw[BO,Cb] at c;rw[BO];exact (Afk.1 (Afj.nodup_iff.1 c)).2
theorem Adh{N:Hm}{L Y_:List E}{e:E}{key:Int}(hs:Srt (X++e::Y_))(h:B5 s p (X++e::Y_))(z:Bd N (n+1) (X++e::Y_) p L)(j:X=[]\/e.1<=key)(u:∀x∈Y_,key<x.1/\e.1<x.1)(w:(key,m)∈L):
  ∃L0 Lc L2,(Sq (λc a b L=>Tr N n c a b 4 L) X e.1 L0/\Tr N n e.2 e.1 (nx Y_ p) 4 Lc/\Sq (λc a b L=>Tr N n c a b 4 L) Y_ p L2)/\L=L0++(Lc++L2)/\BY key L=L0++(BY key Lc++L2)/\(key,m)∈Lc/\s<=e.1/\nx Y_ p<=p:=by
 obtain ⟨L0,Lc,L2,rfl,f,r,g⟩:=Sq.at z;obtain ⟨l,o,v⟩:=Srt.app.1 hs;have a1:=Sq.srt f l (λx d=>v x d e O) (λ_ _ _ _ q=>Tr.srt q);have a3:=Sq.srt g (Srt.cons.1 o).2 (λx d=>(h x (by simp[d])).2) (λ_ _ _ _ q=>Tr.srt q);have k:∀x∈L0,x.1≠key:=λx d=>by
  rcases j with rfl|j
  ·simp only[Sq] at f;subst f;simp at d
  have:=a1.2.1 x d;omega
 have i:∀x∈L2,x.1≠key:=λx d=>by
  cases Y_ with
  | nil=>simp only[Sq] at g;subst g;simp at d
  | cons y t=>
   have:=a3.2.1 x d;have:=u y O;simp only[nx] at *;omega
 refine ⟨L0,Lc,L2,⟨f,r,g⟩,Z,?_,?_,(h e O).1,RS (λx d=>(h x (by simp[d])).2)⟩
 ·rw[Kk,Kk,GA k,GA i]
 rcases Aes.1 w with q|q
 ·exact absurd Z (k _ q)
 rcases Aes.1 q with q|q
 ·exact q
 exact absurd Z (i _ q)
theorem rm_node{Y_:List E}{e:E}(c2:Nat)(b:(Nd.mk false (X++e::Y_)).Ok)(c:B5 t s (X++e::Y_)):(Nd.mk false (X++(e.1,c2)::Y_)).Ok/\B5 t s (X++(e.1,c2)::Y_):=by
 have hs:Srt (X++e::Y_):=b.srt;have d:=Kn (k1:=e.1) c2 hs c (.inr Z) (Afo _) (c e O).1;have f:(X++e::Y_).length<=8:=b.len;refine ⟨⟨d.1,by simp at f ⊢;omega,λx a=>?_,λ_=>by simp⟩,d.2⟩;have a:x∈X++(e.1,c2)::Y_:=a;rcases Aes.1 a with a|a
 ·exact b.key x (by simp[a])
 rcases Aeq.1 a with rfl|a
 ·exact b.key e O
 exact b.key x (by simp[a])
theorem rm_pick{t:TS}{Q:List Nat}{Y_:List E}{L0 Lc L2:List E}(e:(Nd.mk false (X++(q,i)::Y_)).Ok)(r:B5 s p (X++(q,i)::Y_))(f:Sq (λc a b L=>Tr t.N m c a b 4 L) X q L0)(u:Tr t.N m i q (nx Y_ p) j Lc)(h:Sq (λc a b L=>Tr t.N m c a b 4 L) Y_ p L2)
  (h3:3<=j)(h2:2<=(X++(q,i)::Y_).length)(o:0<=s)(v:p<=1048576)(d:(vals (L0++(Lc++L2))).Nodup)(l:t.k+5<40)(w:Q.length+30+n<=980):
  ∃U_ V g z m2 m3 M0 Ma Mb M2,X++(q,i)::Y_=U_++g::z::V/\min (X.length:Int) (((X++(q,i)::Y_).length:Int)-2)=(U_.length:Int)/\L0++(Lc++L2)=M0++(Ma++(Mb++M2))/\MnPre n t Q m s p U_ V g z m2 m3 M0 Ma Mb M2:=by
 cases Y_ with
 | cons y Y_=>
  obtain ⟨Ly,L3,rfl,hy,q3⟩:=h;refine ⟨X,Y_,(q,i),y,j,4,L0,Lc,Ly,L3,Z,?_,Z,e,r,f,u,hy,q3,by omega,o,v,?_,l,w⟩
  ·simp only[Aeh,Aej];omega
  rw[BO,BO,BO,Afc] at d;have h5:=d.2.1;rw[<-Aek,Afc] at h5;rw[BO];exact h5.1
 | nil=>
  have e2:L2=[]:=h;subst e2;rcases List.eq_nil_or_concat X with rfl|⟨X',x,rfl⟩
  ·simp at h2
  rw[List.concat_eq_append] at *;obtain ⟨La,Lb,rfl,qa,Lx,L5,rfl,hx,q5⟩:=Sq.app.1 f;have e5:L5=[]:=q5;subst e5;refine ⟨X',[],x,(q,i),4,j,La,Lx,Lc,[],by simp,?_,by simp,?_,?_,qa,hx,u,Z,by omega,o,v,?_,l,w⟩
  ·simp only[Aeh,Aej,AeE];omega
  ·rw[Aek] at e;exact e
  ·rw[Aek] at r;exact r
  simp only[BO,AeY,Aek,Afc] at d ⊢;simp only[vals,AfB,AeT] at d ⊢;exact ⟨d.2.1.1,d.2.1.2.1,d.2.1.2.2⟩
end
section
variable{Tb:Ai}
set_option maxHeartbeats 2000000 in
theorem Ab9 (pp mb n:Nat) (o:TB) (t:TS) (Q:List Nat) (a:Nat) (lo hi:Int) (m:Nat) (key:Int) (v0:Nat) (L:List E) (y:RmPre n t Q a 0 lo hi m key v0 L):Ak 130 [Y pp,I (a:Int),I key] [trA Tb pp mb n o (some (t,a::Q))] (λv G=>Ln Tb pp mb n o t Q 0 lo hi m key L v G):=by
 intro z R w H;replace H:=H.l1;have K:=H.says 0 Z (λh a=>trA.k a);have hn:=K.hn;have a6:=y.kin;have hdL:=y.d;have d6:=y.hk;have d2:=y.hb;obtain ⟨c8,c7⟩:=y.mm;obtain ⟨es,hN,hm,b1,a0,a4,a3⟩:=y.T;have b8:CkN true (kL es) (vL es):=K.i.vok U hn.2 hN;have c3:=(K.i.nds a _ hN).2.1;obtain rfl:es=L:=a4.symm;refine Ae func130 Z ntmps130 Z (Zc 11 Z (Au Z (call172 _) (JE pp mb n o t Q a true es hN U U) H ?_));rintro _ w _ (⟨c5,v1,v2,s,rfl,rfl⟩|⟨t1,c,v1,v2,O_,rfl,rfl⟩) H'
 ·have H:=H'.l3;have a1:=H.sy 0 (·.slc)
  have x:=H.sy 1 (·.slc);refine Za 4 [] H Z ?_;intro b3 w H;refine Zc 1 Z (AC Z Z (Am 0 H Z Z Z Z (vs:=[.bool true,v1,v2]) Z (Ab Z (Ab a1.one (Ab x.one Aw))) J O (out:=[.bool true,v1,v2]) Z) ?_);rintro w H;replace H:=H.l4;refine Z0 20 [3] Z (Zr Z ?_);exact ⟨_,.inl ⟨by omega,_,Z,Z⟩,H.perm 4 [3] Z Z⟩
 have H:=H'.l3;have a1:=H.sy 0 (·.slc);have x:=H.sy 1 (·.slc);refine Za 4 [] H Z ?_;intro b4 w H;refine Zc 1 Z (AC Z Z (Am 0 H Z Z Z Z (vs:=[.bool true,v1,v2]) Z (Ab Z (Ab a1.one (Ab x.one Aw))) J O (out:=[.bool true,v1,v2]) Z) ?_);rintro w H;replace H:=H.l4;refine Z2 25 [4,0,0,0,0,3] H Z (Au Z (call120 _) (OS (es:=es) (λh q=>q.rd) (λh q=>q.rd) a0.len a0.srt key) H.f2.f2 ?_);rintro _ w _ (⟨X,vd,Y_,⟨g,hX⟩,rfl,rfl⟩|⟨c2,i0,rfl,rfl⟩) H'
 ·have H:=H'.l4;refine Zc 9 Z ?_;have c1:∀d,t1.N vd≠some (.nd d):=λd q=>by obtain ⟨b,hb⟩:=a3 (key,vd) (by rw[g];simp);rw[O_.dv vd (by rw[g];simp[vals]) b hb] at q;cases q
  obtain ⟨b0,a7,b2,a8,b9⟩:=Wr (N:=t1.N) (by rw[<-g];exact a0) (by rw[<-g];exact b1) (λe he=>by obtain ⟨b,hb⟩:=a3 e (by rw[g];exact he);exact ⟨b,O_.dv _ (by rw[g];exact AeD he) b hb⟩) (by rw[<-g];exact c3);obtain ⟨c9,d3,rfl⟩:=x;have a5:=(H.rv 1 (·.rd)).at (j:=X.length) (u:=I (vd:Int)) (by rw[g];simp[vL]);replace H:=(H.mono 3 (B:=trA Tb pp mb n o (some (t1,vd::(c::(vals (X++Y_)++Q))))) Z (λh q=>q.perm (by rw[g];exact ZQ))).l4;refine Z2 5 [2,2,0] H Z (Ad Z (Aj Z (z:=1) (j:=X.length) (r:=X.length) J Z Z Z (by rw[g];simp) a5 U) (Ad Z (Ax Z Z J (AB a5)) (Au Z (call131 _) (G0 pp mb n o t1 vd c1) H.f3 ?_)));rintro _ w _ ⟨t2,⟨l,d5,d0,d1,d4⟩,rfl,rfl⟩ H;refine Z2 16 [4,3,3] H Z ?_;have c0:∀v∈vals (X++Y_),1<=v/\v<1024:=λv hv=>by have K2:=H.says 0 Z (λh a=>trA.k a);have:=K2.i.rin v (by simp[CV,hv]);omega
  refine Au Z (call177 _) (AbX (lf:=true) (X:=X) (e:=(key,vd)) (Y_:=Y_) (by rw[<-g];exact (λh q=>q.rd)) (by rw[<-g];exact (λh q=>q.rd)) (by rw[<-g];exact b8) (CkN.of a8 c0)) H.f2.f2 ?_;rintro _ w _ ⟨v5,v6,rfl,rfl⟩ H;replace H:=H.l6;have a2:=H.sy 0 (·.slc);have c4:=H.sy 1 (·.slc);refine Zc 3 Z (AC Z Z (Am 5 H Z Z Z Z (vs:=[.bool true,v5,v6]) Z (Ab Z (Ab a2.one (Ab c4.one Aw))) J O (out:=[.bool true,v5,v6]) Z) ?_);rintro w H;replace H:=H.l6;refine Z0 14 [4] Z ?_;replace H:=H.f5;refine AS (Sep z (blk b4 [.bool true,v5,v6] 195::R)) 11 Z J (A4 H λw H'=>?_);have H:=H'.l6;refine AZ [0,1,2] [1,0,0] [] (by exact H.pick 6 [0] Z) Z J Z (BQ 3 Z J J J Z Z Z (Ee Z (sz:=1) J Z a2) (H.pick 6 [0] Z) (AZ [4,5,6] [0,3] [] (by exact H.pick 6 [0] Z) Z J Z (AE [7] J O (Al (Br Z Z Z Z Z Z (λw=>call174 _ w) (F7 pp mb n o t2 Q c true (X++Y_) (λh q=>q.rd) (λh q=>q.rd) 0 lo hi (X++Y_).length (X++Y_) (l.bd (λv hv=>by simp[hv]) a7) Z b2 (Ael _) a8 b9 (l.op c O O_.N0 O_.C1).2 (l.op c O O_.N0 O_.C1).1 (by have:=O_.st.k;have:=l.k;omega)) H.f2.f2.f5 Z ?_)))));rintro _ w _ ⟨t3,⟨a9,b5,c6,b7⟩,rfl,rfl⟩ H;replace H:=H.l6;refine Az (H.pick 6 [3] Z) (AZ [8,9,10] [] [] (by exact H.pick 6 [3] Z) Z J Z (a_done J (gn (Zc 2 Z (Zr Z ?_)))));exact ⟨_,.inr ⟨t3,c,X++Y_,⟨((O_.st.sub (R':=Q) (λp hp=>hp) (Ael _) (Ael _)).trans l (R:=Q) (R1:=Q) (λp hp=>hp) (λp hp=>by simp[hp]) (e:=1) (f:=1) U U).trans a9 (λp hp=>hp) (λp hp=>hp) U U,by rw[g,b0];exact b5,by rw[b7];exact BK _ _ _,by rw[c6];exact (l.op c O O_.N0 O_.C1).2,by have:es.length=X.length+Y_.length+1:=(by rw[g];simp;omega);simp only[Aeh];omega⟩,congrArg (λq:Int=>Value.tuple #[I (c:Int),I q,I 0]) O,Z⟩,H.perm 6 [0] Z Z⟩
 exact absurd ⟨v0,a6⟩ c2
set_option maxHeartbeats 4000000 in
theorem Aca (pp mb n:Nat) (o:TB) (t:TS) (Q:List Nat) (h:Nat) (ih:∀(t:TS) (Q:List Nat) (a:Nat) (lo hi:Int) (m:Nat) (key:Int) (v0:Nat) (L:List E),RmPre n t Q a h lo hi m key v0 L->Ak 130 [Y pp,I (a:Int),I key] [trA Tb pp mb n o (some (t,a::Q))] (λv G=>Ln Tb pp mb n o t Q h lo hi m key L v G)) (a:Nat) (lo hi:Int) (m:Nat) (key:Int) (v0:Nat) (L:List E) (hP:RmPre n t Q a (h+1) lo hi m key v0 L):Ak 130 [Y pp,I (a:Int),I key] [trA Tb pp mb n o (some (t,a::Q))] (λv G=>Ln Tb pp mb n o t Q (h+1) lo hi m key L v G):=by
 intro z R w H;replace H:=H.l1;have K:=H.says 0 Z (λh a=>trA.k a);have d0:=hP.kin;have h0:=hP.l0;have b1:=hP.h1;have hdL:=hP.d;have i2:=hP.hk;have h3:=hP.hb;obtain ⟨g5,c7⟩:=hP.mm;obtain ⟨es,hN,hm,e0,a1,d9⟩:=hP.T;refine Ae func130 Z ntmps130 Z (Zc 11 Z (Au Z (call172 _) (JE pp mb n o t Q a false es hN U U) H ?_));rintro _ w _ (⟨e8,v1,v2,s,rfl,rfl⟩|⟨t1,c,v1,v2,O_,rfl,rfl⟩) l
 ·have H:=l.l3;have a0:=H.sy 0 (·.slc)
  have b0:=H.sy 1 (·.slc);refine Za 4 [] H Z ?_;intro b3 w H;refine Zc 1 Z (AC Z Z (Am 0 H Z Z Z Z (vs:=[.bool false,v1,v2]) Z (Ab Z (Ab a0.one (Ab b0.one Aw))) J O (out:=[.bool false,v1,v2]) Z) ?_);rintro w H;replace H:=H.l4;refine Z0 20 [3] Z (Zr Z ?_);exact ⟨_,.inl ⟨by omega,_,Z,Z⟩,H.perm 4 [3] Z Z⟩
 have H:=l.l3;have a0:=H.sy 0 (·.slc);have b0:=H.sy 1 (·.slc);refine Za 4 [] H Z ?_;intro b4 w H;refine Zc 1 Z (AC Z Z (Am 0 H Z Z Z Z (vs:=[.bool false,v1,v2]) Z (Ab Z (Ab a0.one (Ab b0.one Aw))) J O (out:=[.bool false,v1,v2]) Z) ?_);rintro w H;replace H:=H.l4;refine Z2 27 [4,0,0,0,0,3] H Z (Au Z (call121 _) (Mj (es:=es) (λh q=>q.rd) (λh q=>q.rd) a1.len a1.srt (a1.ne Z) key) H.f2.f2 ?_);rintro _ w _ ⟨X,e,Y_,⟨i,hX,i0,hY⟩,rfl,rfl⟩ H;refine Zc 4 Z ?_;obtain ⟨g7,c4,rfl⟩:=b0;have d4:=(H.rv 1 (·.rd)).at (j:=X.length) (u:=I (e.2:Int)) (by rw[i];simp[vL]);replace H:=(H.mono 3 (B:=trA Tb pp mb n o (some (t1,e.2::(c::(vals X++(vals Y_++Q)))))) Z (λh q=>q.perm (by rw[i];exact Wq))).l4;have e7:Srt (X++e::Y_):=by rw[<-i];exact a1.srt
 have d7:B5 lo hi (X++e::Y_):=by rw[<-i];exact e0
 have f8:(Nd.mk false (X++e::Y_)).Ok:=by rw[<-i];exact a1
 obtain ⟨L0,Lc,L2,⟨e3,e6,g3⟩,g1,c1,f0,i3,h9⟩:=Adh e7 d7 (by rw[<-i];exact O_.bd d9) hX hY d0;have h4:X.length+Y_.length+1=es.length:=by rw[i];simp;omega
 have g6:es.length<=8:=a1.len;have f4:(vals Lc).Nodup:=by rw[g1,BO,BO,Afc] at hdL;have h5:=hdL.2.1;rw[Afc] at h5;exact h5.1
 refine Z2 5 [2,2,0] H Z (Ad Z (Aj Z (z:=1) (j:=X.length) (r:=X.length) J Z Z Z (by rw[i];simp) d4 U) (Ad Z (Ax Z Z J (AB d4)) (Zc 1 Z (Au Z (call130 _) (ih t1 (c::(vals X++(vals Y_++Q))) e.2 e.1 (nx Y_ hi) 4 key v0 Lc ⟨e6,f0,by omega,by omega,f4,⟨by omega,λ_=>by omega⟩,by have:=O_.st.k;omega,by simp only[Aej,Aeh,Ko];omega⟩) H.f3 ?_))));rintro _ w _ (⟨h7,s2,rfl,rfl⟩|⟨t2,c2,e5,⟨g,d5,g9,g8,h8⟩,rfl,rfl⟩) l
 ·have H:=l.l4;refine Z0 26 [3] Z (Zr Z ?_);exact ⟨_,.inl ⟨by have:=O_.st.f;omega,_,Z,Z⟩,H.perm 4 [0] Z Z⟩
 have H:=l.l4;refine Z0 20 [4] Z ?_;have i1:X.length<es.length:=by rw[i];simp
 have d3:0<(vL es).length:=by simp only[Aei];omega
 obtain ⟨b8,d1,y,f5,e4,e9,e1,l⟩:=H.ungrow 2 Z d3;cases f5;clear H;have H:=l.l4;refine Z2 5 [2,3,0] H Z (Ad Z (CJ Z (z:=1) (j:=X.length) (r:=X.length) J Z Z Z (by simp only[Aei];omega) U) (AC Z Z (Am 2 H Z Z Z Z (vs:=[I (c2:Int)]) Z (by simp[u8,u32,Value.oneCell']) J (by simp only[Aeh,Aei,Aej,AeE];omega) (out:=(((vL es).set X.length (c2:Int)).map I++y)) (Ec (by simp only[Aei];omega))) ?_));rintro w H;replace H:=H.l4;refine Zc 4 Z ?_;have d6:(vL es).length=(vL (X++(e.1,c2)::Y_)).length:=by rw[i];simp
 have g2:(vL es).set X.length (c2:Int)=vL (X++(e.1,c2)::Y_):=by rw[i];simp[vL,Af1]
 have a8:kL es=kL (X++(e.1,c2)::Y_):=by rw[i];simp[kL]
 have g4:(kL es).length=es.length:=by simp
 obtain ⟨b6,c0⟩:=rm_node c2 f8 d7;have c9:Sq (λc a b L=>Tr t2.N h c a b 4 L) X e.1 L0:=Sq.st g (λv hv=>by simp[hv]) e3;have c8:Sq (λc a b L=>Tr t2.N h c a b 4 L) Y_ hi L2:=Sq.st g (λv hv=>by simp[hv]) g3;have b2:(X++(e.1,c2)::Y_).length=es.length:=by simp only[Aeh,Aej];omega
 have a2:=g.op c O O_.N0 O_.C1;have c6:(vals (L0++(BY key Lc++L2))).Nodup:=by rw[<-c1];exact Lo hdL
 replace H:=(H.mono 2 (B:=grow 3 1 (.slice (some ⟨b8,0,none⟩) ((vL es).length) c4) ((vL es).length) ((vL (X++(e.1,c2)::Y_)).map I)) Z (λh q=>q.grow U U (by simp only[Aeh,Aei,AeX];simp only[Aei] at *;omega) (by rw[AeS,AeI O,g2]))).l4;replace H:=(H.mono 0 (B:=trA Tb pp mb n o (some (t2,vals (X++(e.1,c2)::Y_)++(c::Q)))) Z (λh q=>q.perm TR)).l4;refine Z0 4 [0] Z (An 87 Z (λh1=>?_) (λh1=>?_))
 ·refine Z2 2 [1,3,0] H Z (Ad Z (Ee Z (sz:=1) J Z a0) (Z0 4 [0] Z (Af Z (λh2=>?_) (λh2=>?_))))
  ·refine Zc 1 Z ?_;have c5:3<=e5.length:=by omega
   obtain ⟨U_,V,f1,f2,m2,m3,M0,Ma,Mb,M2,hU,d2,e2,f7⟩:=rm_pick (n:=n) (t:=t2) (Q:=c::Q) b6 c0 c9 d5 c8 c5 U h0 b1 c6 (by have:=O_.st.k;have:=g.k;omega) (by simp only[Aej];omega);replace H:=(H.mono 1 (B:=grow 3 1 v1 ((kL (U_++f1::f2::V)).length) ((kL (U_++f1::f2::V)).map I)) Z (λh q=>by rw[<-hU,<-a8];exact q)).l4;replace H:=(H.mono 2 (B:=grow 3 1 (.slice (some ⟨b8,0,none⟩) ((vL es).length) c4) ((vL (U_++f1::f2::V)).length) ((vL (U_++f1::f2::V)).map I)) Z (λh q=>by rw[<-hU,<-d6];exact q)).l4;replace H:=(H.mono 0 (B:=trA Tb pp mb n o (some (t2,vals (U_++f1::f2::V)++(c::Q)))) Z (λh q=>by rw[<-hU];exact q)).l4;refine Z2 6 [3,3,1,3,0] H Z (Ad Z (Ee Z (sz:=1) J Z a0) (Z1 1 [] [(((kL es).length:Nat):Int)-2] Z U (Ad Z (KA Z Z Z) (AD 101 (v:=I (U_.length:Int)) Z (congrArg I (by rw[<-d2,b2,g4])) (Au Z (call178 _) (Ab8 pp mb n o t2 (c::Q) h lo hi U_ V f1 f2 m2 m3 M0 Ma Mb M2 f7) H ?_)))));rintro _ w _ (⟨h6,v5,v6,a3,s3,rfl,rfl⟩|⟨t3,a3,v5,v6,⟨a5,a7,g0,f9,f6,d8⟩,rfl,rfl⟩) l
   ·have H:=l.l4;have a9:=H.sy 0 (·.slc)
    have b5:=H.sy 1 (·.slc);refine Zc 3 Z (AC Z Z (Am 3 H Z Z Z Z (vs:=[.bool false,v5,v6]) Z (Ab Z (Ab a9.one (Ab b5.one Aw))) J O (out:=[.bool false,v5,v6]) Z) ?_);rintro w H;replace H:=H.l4;refine Z0 19 [3] Z (Zr Z ?_);exact ⟨_,.inl ⟨by have:=O_.st.f;have:=g.f;omega,_,Z,Z⟩,H.perm 4 [2] Z Z⟩
   have H:=l.l4;have a9:=H.sy 0 (·.slc);have b5:=H.sy 1 (·.slc);refine Zc 3 Z (AC Z Z (Am 3 H Z Z Z Z (vs:=[.bool false,v5,v6]) Z (Ab Z (Ab a9.one (Ab b5.one Aw))) J O (out:=[.bool false,v5,v6]) Z) ?_);rintro w H;replace H:=H.l4;refine Z0 13 [4] Z ?_;have a6:=a5.op c O a2.1 a2.2;replace H:=(H.mono 2 (B:=trA Tb pp mb n o (some (t3,c::(vals a3++Q)))) Z (λh q=>q.perm MY)).l4;replace H:=H.f3;refine AS (Sep z (blk b4 [.bool false,v5,v6] 195::R)) 11 Z J (A4 H λw l=>?_);have H:=l.l4;refine AZ [0,1,2] [1,0,0] [] (by exact H.pick 4 [0] Z) Z J Z (BQ 3 Z J J J Z Z Z (Ee Z (sz:=1) J Z a9) (H.pick 4 [0] Z) (AZ [4,5,6] [0,3] [] (by exact H.pick 4 [0] Z) Z J Z (AE [7] J O (Al (Br Z Z Z Z Z Z (λw=>call174 _ w) (F7 pp mb n o t3 Q c false a3 (λh q=>q.rd) (λh q=>q.rd) (h+1) lo hi a3.length (BY key L) (by rw[c1,e2];exact a7) O g0 (Ael _) f9 f6 a6.2 a6.1 (by have:=O_.st.k;have:=g.k;have:=a5.k;omega)) H.f2.f2.f3 Z ?_)))));rintro _ w _ ⟨t4,⟨a4,b7,c3,b9⟩,rfl,rfl⟩ H;replace H:=H.l4;refine Az (H.pick 4 [3] Z) (AZ [8,9,10] [] [] (by exact H.pick 4 [3] Z) Z J Z (a_done J (gn (Zc 2 Z (Zr Z ?_)))));exact ⟨_,.inr ⟨t4,c,a3,⟨(((O_.st.sub (R':=Q) (λp hp=>hp) (Ael _) (Ael _)).trans g (R:=Q) (R1:=Q) (λp hp=>hp) (λp hp=>by simp[hp]) (Ael _) (Ael _)).trans a5 (R:=Q) (R1:=Q) (λp hp=>hp) (λp hp=>by simp[hp]) (Ael _) (Ael _)).trans a4 (λp hp=>hp) (λp hp=>hp) U U,b7,by rw[b9];simp[BK],by rw[c3];exact a6.2,by rw[<-hU,b2] at d8;omega⟩,congrArg (λq:Int=>Value.tuple #[I (c:Int),I q,I 0]) O,Z⟩,H.perm 4 [0] Z Z⟩
  (exfalso;have:=c7 U;simp only[Aei] at *;omega)
 refine Zc 11 Z ?_;have a7:Bd t2.N (h+1) (X++(e.1,c2)::Y_) hi (L0++(BY key Lc++L2)):=Sq.mk (e:=(e.1,c2)) c9 (d5.mono (Afo _) (Afo _) U) c8;replace H:=(H.mono 0 (B:=trA Tb pp mb n o (some (t2,c::(vals (X++(e.1,c2)::Y_)++Q)))) Z (λh q=>q.perm MY)).l4;replace H:=(H.mono 1 (B:=grow 3 1 v1 ((kL es).length) ((kL (X++(e.1,c2)::Y_)).map I)) Z (λh q=>by rw[<-a8];exact q)).l4;replace H:=H.f3;refine AS (Sep z (blk b4 [.bool false,v1,.slice (some ⟨b8,0,none⟩) ((vL es).length) c4] 195::R)) 11 Z J (A4 H λw l=>?_);have H:=l.l4;refine AZ [0,1,2] [1,0,0] [] (by exact H.pick 4 [0] Z) Z J Z (BQ 3 Z J J J Z Z Z (Ee Z (sz:=1) J Z a0) (H.pick 4 [0] Z) (AZ [4,5,6] [0,3] [] (by exact H.pick 4 [0] Z) Z J Z (AE [7] J O (Al (Br Z Z Z Z Z Z (λw=>call174 _ w) (F7 pp mb n o t2 Q c false (X++(e.1,c2)::Y_) (λh q=>by rw[<-a8];rw[<-a8] at q;exact q.rd) (λh q=>by rw[<-d6];exact q.rd) (h+1) lo hi (X++(e.1,c2)::Y_).length (BY key L) (by rw[c1];exact a7) O c0 (Ael _) b6 (a7.nodup b6.srt (λx hx=>(c0 x hx).2)) a2.2 a2.1 (by have:=O_.st.k;have:=g.k;omega)) H.f3.f3.f3 Z ?_)))));rintro _ w _ ⟨t4,⟨a4,b7,c3,b9⟩,rfl,rfl⟩ H;replace H:=H.l4;refine Az (H.pick 4 [3] Z) (AZ [8,9,10] [] [] (by exact H.pick 4 [3] Z) Z J Z (a_done J (gn (Zc 2 Z (Zr Z ?_)))));exact ⟨_,.inr ⟨t4,c,(X++(e.1,c2)::Y_),⟨((O_.st.sub (R':=Q) (λp hp=>hp) (Ael _) (Ael _)).trans g (R:=Q) (R1:=Q) (λp hp=>hp) (λp hp=>by simp[hp]) (Ael _) (Ael _)).trans a4 (λp hp=>hp) (λp hp=>hp) U U,b7,by rw[b9];simp[BK],by rw[c3];exact a2.2,by rw[b2];omega⟩,congrArg (λq:Int=>Value.tuple #[I (c:Int),I q,I 0]) (by simp only[Aei];omega),Z⟩,H.perm 4 [0] Z Z⟩
end
section
variable{Tb:Ai}
theorem OX(pp mb n:Nat)(o:TB):∀(h:Nat) (t:TS) (Q:List Nat) (a:Nat) (lo hi:Int) (m:Nat) (key:Int) (v0:Nat) (L:List E),RmPre n t Q a h lo hi m key v0 L->Ak 130 [Y pp,I (a:Int),I key] [trA Tb pp mb n o (some (t,a::Q))] (λv G=>Ln Tb pp mb n o t Q h lo hi m key L v G)
 | 0=>λt Q a lo hi m key v0 L hP=>Ab9 pp mb n o t Q a lo hi m key v0 L hP
 | h+1=>λt Q a lo hi m key v0 L hP=>Aca pp mb n o t Q h (OX pp mb n o h) a lo hi m key v0 L hP
abbrev rootM(h:Nat):Nat:=if h=0 then 1 else 2
theorem Tr.data{N:Hm}{h:Nat}{lo hi:Int}{L:List E}(t:Tr N h r lo hi m L):∀e∈L,∃b,N e.2=some (.dt b):=by
 induction h generalizing r lo hi m L with
 | zero=>obtain ⟨es,_,_,_,_,rfl,h⟩:=t;exact h
 | succ h ih=>
  obtain ⟨es,_,_,_,_,i⟩:=t;have key:∀(es:List E) (L:List E),Sq (λc a b L=>Tr N h c a b 4 L) es hi L->∀e∈L,∃b,N e.2=some (.dt b):=by
   intro es
   induction es with
   | nil=>intro L q;have q:L=[]:=q;subst q;simp
   | cons e u ih2=>
    rintro _ ⟨L1,L2,rfl,g,f⟩ x d;rcases Aes.1 d with d|d
    ·exact ih g x d
    exact ih2 L2 f x d
  exact key es L i
theorem delR_none{N:Hm}{es:List E}(t:Tr N n i s p m X)(hN:N i=some (.nd ⟨b,es⟩))(d:es.length=0):X=[]:=by
 have g:es=[]:=Agh.1 d;subst g;obtain ⟨e,a,_,_,f,c⟩:=Tr.iff.1 t;rw[a] at hN;cases hN
 cases n with
 | zero=>exact c.1
 | succ n=>exact absurd Z (f.ne O)
theorem Ws{N:Hm}{es:List E}(t:Tr N n i 0 1048576 m X)(hN:N i=some (.nd ⟨b,es⟩))(c:es.length=1)(l:n≠0):∃e h',es=[e]/\n=h'+1/\Tr N h' e.2 0 1048576 4 X:=by
 obtain ⟨e,rfl⟩:=List.length_eq_one_iff.1 c;obtain ⟨h',rfl⟩:∃h',n=h'+1:=⟨n-1,by omega⟩;obtain ⟨h,f,_,j,k,g⟩:=t;rw[f] at hN;cases hN;obtain ⟨L1,L2,rfl,d,a⟩:=g;have a:L2=[]:=a;subst a;have:=j e O;refine ⟨e,h',Z,Z,?_⟩;rw[AeY];exact d.mono this.1 (Afo _) (Ael _)
theorem root_of{N:Hm}(t:Tr N n r 0 1048576 m X)(b:rootM n<=m)(a:r≠0):Root N r X:=.inr ⟨a,n,t.mono (Afo _) (Afo _) b⟩
theorem DR(h:r≠0):Ba r=[r]:=by simp[Ba,h]
end
section
variable{Tb:Ai}
theorem Wt{o:TB}{T:TT}(K:TrK n o T)(t:Tr (Dm o T) j r s p m X)(a:(q,e)∈X):1<=e:=by
 have:∃b,Dm o T e=some (.dt b):=Tr.data t (q,e) a;obtain ⟨b,c⟩:=this;have:=(K.i.nin e _ c).1;omega
set_option maxHeartbeats 2000000 in
theorem Acb (pp mb n:Nat) (o:TB) (t:TS) (Q:List Nat) (h a:Nat) (key:Int) (L:List E) (hT:Tr t.N h a 0 1048576 (rootM h) L) (hd:(vals L).Nodup) (hk:t.k+6*h+4<40) (hb:Q.length+10*h+42+n<=980):Ak 69 [Y pp,I (a:Int),I key] [trA Tb pp mb n o (some (t,a::Q))] (λv G=>(¬CE key L/\v=.tuple #[I (a:Int),.bool false,I 0]/\G=[trA Tb pp mb n o (some (t,a::Q))])\/(cnt t.F 0 1024<=3*h/\∃s:TS×List Nat,v=.tuple #[I 0,.bool false,I 20]/\G=[trA Tb pp mb n o (some s)])\/∃(t2:TS) (r:Nat),(CE key L/\St t t2 Q (3*h+2) (6*h+3)/\Root t2.N r (BY key L))/\v=.tuple #[I (r:Int),.bool true,I 0]/\G=[trA Tb pp mb n o (some (t2,Ba r++Q))]):=by
 intro z R w H;replace H:=H.l1;have K:=H.says 0 Z (λh a=>trA.k a);refine Ae func69 Z ntmps69 Z (Zc 11 Z (z_E_ Z (call124 _) (Lm pp mb n o) H ?_));intro w H;refine Z0 17 [4] Z (Au Z (call65 _) (QN pp mb n o (some (t,a::Q)) key L h a hT) H ?_);rintro _ w _ ⟨(⟨v0,b,rfl⟩|⟨b6,rfl⟩),rfl⟩ H'
 ·have H:=H'.l1;refine Zc 9 Z ?_;have b8:1<=v0:=Wt K hT b
  refine Z0 9 [4,0] Z (Af Z (λh1=>U) (λh1=>?_));refine Zc 7 Z (Au Z (call130 _) (OX pp mb n o h t Q a 0 1048576 (rootM h) key v0 L ⟨hT,b,by omega,by omega,hd,⟨by unfold rootM;split<;>omega,λq=>by unfold rootM;rw[if_neg q];omega⟩,hk,hb⟩) H ?_);rintro _ w _ (⟨a9,s2,rfl,rfl⟩|⟨t2,c,f,⟨l,x,g,y,b9⟩,rfl,rfl⟩) H'
  ·have H:=H'.l1;refine Z0 26 [3] Z (Zr Z ?_);exact ⟨_,.inr (.inl ⟨a9,_,Z,Z⟩),H.perm 1 [0] Z Z⟩
  have H:=H'.l1;refine Z0 23 [4] Z (Au Z (call119 _) (HY pp mb n o (some (t2,c::Q)) c (decide (h=0)) f g) H ?_);rintro _ w _ ⟨v1,v2,rfl,rfl⟩ H;replace H:=H.l3;have b4:=H.sy 0 (·.slc);have a2:=H.sy 1 (·.slc);refine Za 3 [] H Z ?_;intro b3 w H;refine AC Z Z (Am 0 H Z Z Z Z (vs:=[.bool (decide (h=0)),v1,v2]) Z (Ab Z (Ab b4.one (Ab a2.one Aw))) J O (out:=[.bool (decide (h=0)),v1,v2]) Z) ?_;rintro w H;replace H:=H.l4;refine Z0 20 [4,0] Z (Af Z (λh2=>?_) (λh2=>?_))
  ·refine Zc 1 Z ?_;have a3:f=[]:=Agh.1 U
   have O2:=Mg (show TInv n (manyN n+1) t2.N t2.C (c::Q) from (H.says 3 Z (λh a=>trA.k a)).i) y g;replace H:=(H.mono 3 (B:=trA Tb pp mb n o (some ({t2 with N:=fup t2.N c none},c::(vals f++Q)))) Z (λh q=>q.opens y g)).l4;refine Zc 3 Z (Au Z (call131 _) (G0 pp mb n o _ c (λd q=>by simp[fup] at q)) H.f3 ?_);rintro _ w _ ⟨t3,⟨a0,b7,b1,b0,b2⟩,rfl,rfl⟩ H;refine Zc 6 Z (Zr Z ?_);exact ⟨_,.inr (.inr ⟨t3,0,⟨⟨v0,b⟩,(l.trans O2.st (R:=Q) (R1:=Q) (λp hp=>hp) (λp hp=>hp) (Ael _) (Ael _)).trans a0 (λp hp=>hp) (λp hp=>by simp[hp]) U U,.inl ⟨Z,delR_none x g U⟩⟩,Z,by rw[a3];rfl⟩),H.perm 4 [0] Z Z⟩
  refine Z2 6 [0,0,0] H Z (FP 66 Z (λh3=>?_) (λh3=>?_))
  ·have a7:h≠0:=by simpa using h3
   refine Z0 6 [0] Z (Af Z (λh4=>?_) (λh4=>?_))
   ·refine Zc 1 Z ?_;obtain ⟨e,h',m,c0,a6⟩:=Ws x g U a7;have O2:=Mg (show TInv n (manyN n+1) t2.N t2.C (c::Q) from (H.says 3 Z (λh a=>trA.k a)).i) y g
    replace H:=(H.mono 3 (B:=trA Tb pp mb n o (some ({t2 with N:=fup t2.N c none},c::(vals f++Q)))) Z (λh q=>q.opens y g)).l4;obtain ⟨a1,a5,rfl⟩:=a2;have b5:=(H.rv 2 (·.rd)).at (j:=0) (u:=I (e.2:Int)) (by rw[m];simp[vL]);replace H:=(H.mono 3 (B:=trA Tb pp mb n o (some ({t2 with N:=fup t2.N c none},c::(e.2::Q)))) Z (λh q=>by rw[m] at q;exact q)).l4;replace H:=H.f2.f1;refine AS (Sep z (blk b3 [.bool (decide (h=0)),v1,.slice a1 ((vL f).length) a5] 195::grow 3 1 (.slice a1 ((vL f).length) a5) ((vL f).length) ((vL f).map I)::R)) 10 Z J (A4 H λw H'=>?_);have H:=H'.l4;refine AZ [0,1] [2,0,0] [] (by exact H.pick 4 [0,1] Z) Z J Z (BQ 2 Z J J J Z Z Z (Aj Z (z:=1) (j:=0) (r:=0) J Z Z Z (by simp only[Aei];omega) b5 U) (H.pick 4 [0,1] Z) (BQ 3 Z J J J Z Z Z (Ax Z Z J (λ_ a8=>(a8.rv 1 (·.rd)).at (j:=0) (u:=I (e.2:Int)) (by rw[m];simp[vL]))) (H.pick 4 [0,1] Z) (AZ [4,5] [] [] (by exact H.pick 4 [0,1] Z) Z J Z (AE [6] J O (Al (Br Z Z Z Z Z Z (λw=>call131 _ w) (G0 pp mb n o _ c (λd q=>by simp[fup] at q)) H.f3 Z ?_))))));rintro _ w _ ⟨t3,⟨a0,b7,b1,b0,b2⟩,rfl,rfl⟩ H;replace H:=H.l4;refine Az (H.pick 4 [1,2] Z) (AZ [7,8,9] [] [] (by exact H.pick 4 [1,2] Z) Z J Z (a_done J (gn (Zc 2 Z (Zr Z ?_)))));have a4:manyN n+1<=e.2:=by have K3:=H.says 0 Z (λh a=>trA.k a);exact (K3.i.rin e.2 (by simp[CV])).1
    exact ⟨_,.inr (.inr ⟨t3,e.2,⟨⟨v0,b⟩,(l.trans O2.st (R:=Q) (R1:=Q) (λp hp=>hp) (λp hp=>hp) (Ael _) (Ael _)).trans a0 (λp hp=>hp) (λp hp=>by simp[hp]) U U,root_of (a0.fr e.2 O _ _ _ _ _ (O2.fv e.2 (by rw[m];simp[vals]) _ _ _ _ _ a6)) (by unfold rootM;split<;>omega) U⟩,Z,by rw[DR (show e.2≠0 by omega)];rfl⟩),H.perm 4 [0] Z Z⟩
   refine Zc 12 Z (Zr Z ?_);have a4:manyN n+1<=c:=by have K3:=H.says 3 Z (λh a=>trA.k a);exact (K3.i.rin c (by simp[CV])).1
   exact ⟨_,.inr (.inr ⟨t2,c,⟨⟨v0,b⟩,l.sub (λp hp=>hp) U U,root_of x (by unfold rootM;split<;>omega) U⟩,Z,by rw[DR (show c≠0 by omega)];rfl⟩),H.perm 4 [3] Z Z⟩
  have c1:h=0:=by simpa using h3
  refine Zc 19 Z (Zr Z ?_);have a4:manyN n+1<=c:=by have K3:=H.says 3 Z (λh a=>trA.k a);exact (K3.i.rin c (by simp[CV])).1
  exact ⟨_,.inr (.inr ⟨t2,c,⟨⟨v0,b⟩,l.sub (λp hp=>hp) U U,root_of x (by unfold rootM;split<;>omega) U⟩,Z,by rw[DR (show c≠0 by omega)];rfl⟩),H.perm 4 [3] Z Z⟩
 have H:=H'.l1;refine Z0 29 [4,3] Z (Zr Z ?_);exact ⟨_,.inl ⟨b6,Z,Z⟩,H.perm 1 [0] Z Z⟩
theorem Acc(pp mb n:Nat)(o:TB){s:TS×List Nat}(key:Int):Ak 69 [Y pp,I 0,I key] [trA Tb pp mb n o (some s)] (λv G=>v=.tuple #[I 0,.bool false,I 0]/\G=[trA Tb pp mb n o (some s)]):=by
 intro z R w H;refine Ae func69 Z ntmps69 Z (Zc 11 Z (z_E_ Z (call124 _) (Lm pp mb n o) H ?_));intro w H;refine Z0 17 [4] Z (z_E_ Z (call65 _) (QO _ _) H ?_);intro w H;refine Z0 29 [4,3] Z (Zr Z ?_);exact ⟨_,⟨Z,Z⟩,H⟩
end
section
variable{Tb:Ai}
def pkI(c:Int)(N:Nat):Nat:=((if c<0 then -(c+1) else c).tmod N).toNat
theorem OY(c:Int){N:Nat}(h:0<N):pkI c N<N:=by
 unfold pkI;have a:(0:Int)<=if c<0 then -(c+1) else c:=by split<;>omega
 have b:=Ahk (if c<0 then -(c+1) else c) (by omega:(0:Int)<(N:Int));have d:=AhH (N:Int) a;omega
theorem Acd(h:16<=n/\n<=1024):(CC (n:Int) 1030 128 2).Ok ((1200:Nat):Int):=
 Sup.ok_mk (by show 0<=(2:Int)/\(2:Int)<=1099511627776;omega) (by show 0<=(1:Int)/\(1:Int)<=1099511627776;omega) (by show 16<=(n:Int)/\(n:Int)<=1024;omega) (by show 2+(n:Int)<=1030/\(1030:Int)<=1099511627776;omega) (by show 64<=(128:Int)/\(128:Int)<=1099511627776;omega) (by show 0<=(0:Int)/\(0:Int)<128;omega) (by show 0<=(1:Int)/\(1:Int)<=1099511627776;omega) (by show (1030:Int)<=((1200:Nat):Int)-128/\(128:Int)<=((1200:Nat):Int);omega)
theorem TU(b:B.length=256){M:Nat->Pg}(a:M=Ek (λ_=>noPg) (some (gF n (B.take 240) (manyN n),1+manyN n))):M 0=⟨1,B.take 240⟩/\∀i,i<manyN n->M (1+i)=DC (C1 (manyN n+1)) n i:=by
 subst a;refine ⟨Z,λi hi=>?_⟩;simp only[Ek,gF];rw[if_neg U,if_pos U,show 1+i-1=i by omega];rfl
def FF(n:Nat):TB:=⟨λ_=>none,C1 (manyN n+1),[]⟩
theorem I9(p:Nat):∀n,FD (λ_=>none) p n=0
 | 0=>rfl
 | n+1=>by simp only[FD,I9 p n];rfl
theorem ZR(n:Nat){M:Nat->Pg}:Rel n M (FF n).N (FF n).C (FF n).R:=
 ⟨λp c h=>(by cases h),⟨λp a b=>(by show C1 (manyN n+1) p=_;unfold C1;rw[if_neg U];simp[FF,I9]),λp h=>(by cases h),λq c h=>(by cases h),λq d h=>(by cases h),λq d h=>(by cases h)⟩⟩
end
section
def cutZ(z:Nat)(ao:Option Addr)(c p:Nat):Option Addr:=if c=p then ao else ao.map (·.add (p*z))
theorem rdH.cutZ{z:Nat}{f:Option Addr}{n c p m:Nat}{xs:List Value}{h:Hp}(r:rdH z (.slice f n c) n xs h)(hz:0<z)(g:p+m<=n)(v:n<=c):rdH z (.slice (YtkblhjdljaoghaaGreatDoor.cutZ z f c p) m (c-p)) m ((xs.drop (p*z)).take (m*z)) h:=by
 obtain ⟨i,c',e,x,y,w,t⟩:=r;cases e;have q:p*z+m*z<=n*z:=by rw[<-AhI];exact AfJ _ g
 refine ⟨_,_,Z,by omega,by omega,by simp;omega,λj u d=>?_⟩;have a:j<m*z:=by
  have:=(Aee.1 d).1;simp at this;omega
 obtain ⟨b,o,rfl,s⟩:=t (p*z+j) u (by
  rw[Ae0,if_pos a,Afn] at d;exact d)
 have l:0<m:=Nat.pos_of_ne_zero λe=>by subst e;omega
 refine ⟨b,o+p*z,?_,by rw[Agf];exact s⟩;unfold YtkblhjdljaoghaaGreatDoor.cutZ;rw[if_neg U];simp only[AeV];unfold Addr.add;split
 ·rename_i k;simp[k]
 rfl
theorem rdH.slcapZ{z:Nat}{d:Option Addr}{n c:Nat}{xs:List Value}(r:rdH z (.slice d n c) n xs h):n<=c/\c<=9223372036854775807/\xs.length=n*z:=by
 obtain ⟨b,c',e,g,a,f,i⟩:=r;cases e;exact ⟨g,a,f⟩
section
variable{P:Program}{C:World->Prop}{o:Oper}{n:Nat}{ds:List Deferred}{L:List (Nat×Value)}{x y:Operand}
theorem FW{z:Nat}{lo hi:Option Operand}{e:Option Addr}{p q l' c':Nat}(h:o.op=.slice T x lo hi none)(r:Do P T=some z)
  (g:ev L x=some (.slice e m j))(a:(lo=none/\p=0)\/∃y k i,lo=some y/\ev L y=some (.int k i)/\i=(p:Int))(c:(hi=none/\q=m)\/∃y k i,hi=some y/\ev L y=some (.int k i)/\i=(q:Int))(b:p<=q)(d:q<=j)
  (f:q-p=l')(l:j-p=c'):Av P C n ds L o (.slice (cutZ z e j p) l' c'):=by
 subst f l;exact Ji h r g a c b d
end
def EM(L:List E):List Value:=L.flatMap λe=>[.int .i64 e.1,.int .i64 (e.2:Int)]
theorem ZS(A B:List E):EM (A++B)=EM A++EM B:=by simp[EM]
def getE(k:Int):List E->Nat
 | []=>0
 | e::t=>if e.1=k then e.2 else getE k t
theorem Wu{L:List E}(hs:Srt L)(key:Int)(val:Nat):putE key val (BY key L)=putE key val L:=by
 rcases key_split hs key with ⟨X,v,Y_,rfl,a⟩|⟨f,X,Y_,rfl,a,c⟩
 ·rw[L7 hs,Ed a]
  have d:∀e∈Y_,key<e.1:=λe b=>(Srt.cons.1 (Srt.app.1 hs).2.1).1 e b;exact putE_new a d
 rw[GA (λe b=>by
  rcases Aes.1 b with q|q
  ·have:=a e q;omega
  have:=c e q;omega)]
theorem Ace{L:List E}(hs:Srt L)(key:Int)(val:Nat)(f:∀(j:Nat) (e:E),j<i->(BY key L)[j]?=some e->e.1<key)(h:∀e,(BY key L)[i]?=some e->key<=e.1):
  putE key val L=(BY key L).take i++(key,val)::(BY key L).drop i:=by
 have c:Srt (BY key L):=List.Pairwise.sublist List.filter_sublist hs;have g:∀e∈BY key L,e.1≠key:=λe a=>by simpa [BY] using (Afe.1 a).2
 rw[<-Wu hs];refine (congrArg (putE key val) (AeO i _).symm).trans (putE_new (λe a=>?_) (λe a=>?_))
 ·obtain ⟨j,b⟩:=Ae5 a
  rw[Ae0] at b;split at b
  ·exact f j e (by assumption) b
  cases b
 have l:=g e (Afw a);have d:Srt ((BY key L).drop i):=List.Pairwise.sublist (List.drop_sublist _ _) c
 cases hd:(BY key L).drop i with
 | nil=>rw[hd] at a;cases a
 | cons x t=>
  rw[hd] at a d;have k:key<=x.1:=h x (by
   have:((BY key L).drop i)[0]?=some x:=by rw[hd];rfl
   rwa[Afn,Ag7] at this)
  rcases Aeq.1 a with rfl|q
  ·omega
  have:=(Srt.cons.1 d).1 e q;omega
end
section
variable{Tb:Ai}
variable{z w:World}{Γ:List Ai}{pp mb n:Nat}{o:TB}{t t':TS}{R:List Nat}{T:TT}
structure LwI(n:Nat)(o:TB)(a:Nat)(L:List E)(Q:List Nat):Prop where
 n:n<=639
 q:Q.length<=100
 root:Root o.N a L
 nd:(vals L).Nodup
 r:o.R=Ba a++Q
theorem Tr.many{N:Hm}{h:Nat}{lo hi:Int}{L:List E}(t:Tr N h r lo hi m L):m*4^h<=L.length:=by
 induction h generalizing r lo hi m L with
 | zero=>obtain ⟨es,g,d,_,_,rfl,_⟩:=t;simpa using d
 | succ h ih=>
  obtain ⟨es,g,d,_,_,k⟩:=t;have f:4^(h+1)=4*4^h:=by rw[AhC,AhD]
  have key:∀(es:List E) (L:List E),Sq (λc a b L=>Tr N h c a b 4 L) es hi L->es.length*4^(h+1)<=L.length:=by
   intro es
   induction es with
   | nil=>intro L q;simp
   | cons e u ih2=>
    rintro _ ⟨L1,L2,rfl,i,j⟩;have a:=ih i;have b:=ih2 L2 j;rw[Aej,Aeh,AhI,Nat.one_mul,f];rw[f] at b;omega
  exact Agu (AfJ _ d) (key es L k)
theorem Tr.low3{f:Nat}{N:Hm}(I_:TInv n f N C R){h:Nat}{lo hi:Int}{L:List E}(t:Tr N h r lo hi m L)(g:(if h=0 then 1 else 2)<=m)(a:(vals L).Nodup)(w:n<=639):h<=3:=by
 rcases Aeu h 4 with q|q
 ·omega
 exfalso;rw[if_neg U] at g;obtain ⟨a1,a2,a3⟩:=RV t U;have hs:=t.srt.1;rw[<-a1] at hs;have k:=Ll hs (λp hp=>(a2 p hp).1);have c:=t.data;have i:(CZ N h r++vals L).Nodup:=by
  rw[Afc];refine ⟨k,a,λx u y s e=>?_⟩;obtain ⟨d,a⟩:=(a2 x u).2;obtain ⟨l,o,rfl⟩:=Aen.1 s;obtain ⟨b,j⟩:=c l o;rw[e,j] at a;cases a
 have v:=OW i (λp hp=>by
  rcases Aes.1 hp with hp|hp
  ·obtain ⟨d,a⟩:=(a2 p hp).2;exact (I_.nin p _ a).2.1
  obtain ⟨l,o,rfl⟩:=Aen.1 hp;obtain ⟨b,j⟩:=c l o;exact (I_.nin _ _ j).2.1)
 have a4:=t.many;have p1:4^4<=4^h:=Ahd U q;have p2:4^3<=4^(h-1):=Ahd U U;have z:2*4^h<=m*4^h:=AfJ _ g;have h3:2*4^(h-1)<=m*4^(h-1):=AfJ _ g;rw[if_neg U,AeS] at a3;simp only[Aeh,vals,Aei] at v;omega
theorem Root.low3{N:Hm}{C:Nat->Nat}{f a:Nat}{L:List E}(I_:TInv n f N C R)(h:Root N a L)(c:a≠0)(g:(vals L).Nodup)(d:n<=639):∃h,Tr N h a 0 1048576 (rootM h) L/\h<=3:=by
 rcases h with ⟨e,_⟩|⟨_,h,b⟩
 ·exact absurd e c
 exact ⟨h,b,b.low3 I_ (Ael _) g d⟩
theorem Root.srt{N:Hm}{a:Nat}{L:List E}(h:Root N a L):Srt L/\B5 0 1048576 L:=by
 rcases h with ⟨_,rfl⟩|⟨_,h,b⟩
 ·exact ⟨by simp[Srt],by simp[B5]⟩
 exact b.srt
theorem Root.data{N:Hm}{a:Nat}{L:List E}(h:Root N a L):∀e∈L,∃b,N e.2=some (.dt b):=by
 rcases h with ⟨_,rfl⟩|⟨_,h,c⟩
 ·simp
 exact c.data
def Kp(N N':Hm)(Q:List Nat):Prop:=∀c∈Q,∀L,Root N c L->Root N' c L
theorem Kp.of{N a:Hm}{Q:List Nat}(h:∀c∈Q,∀h lo hi m L,Tr N h c lo hi m L->Tr a h c lo hi m L):Kp N a Q:=λc d L q=>by
 rcases q with q|⟨e,b,f⟩
 ·exact .inl q
 exact .inr ⟨e,b,h c d _ _ _ _ _ f⟩
theorem OZ{F G:Nat->Bool}(h:∀q,F q=true->G q=true)(a:Nat):∀n,cnt F a n<=cnt G a n
 | 0=>Ael _
 | n+1=>by
  have:=OZ h a n;have b:(F (a+n)).toNat<=(G (a+n)).toNat:=by
   cases e:F (a+n) with
   | false=>simp
   | true=>rw[h _ e];simp
  simp only[cnt];omega
theorem TrK.free{n:Nat}{o:TB}{t:TS}{R:List Nat}(K:TrK n o (some (t,R))):cnt t.F 0 1024<=cnt (AR n t.C) 0 1024:=
 OZ (λq hq=>by
  obtain ⟨a,b,_⟩:=K.fr q hq;simp only[AR];exact decide_eq_true ⟨a,b⟩) 0 1024
theorem XF(pp mb n:Nat)(o:TB)(t:TS)(Q:List Nat)(a:Nat)(key:Int)(val:Nat)(L:List E)(x:Root t.N a L)(hn:n<=639)(hd:(vals L).Nodup)(g:0<=key/\key<1048576)(j:t.N val=some (.dt S))(u:∀q d,t.N q=some (.nd d)->val∉vals d.es)(hk:t.k<=20)(hb:Q.length<=100):
  Ak 67 [Y pp,I (a:Int),I key,I (val:Int)] [trA Tb pp mb n o (some (t,val::(Ba a++Q)))] (λv G=>(cnt t.F 0 1024<=10/\∃s:TS×List Nat,v=.tuple #[I 0,I 20]/\G=[trA Tb pp mb n o (some s)])\/
   ∃(t2:TS) (r:Nat),(St t t2 Q 11 16/\Root t2.N r (putE key val L)/\cnt t2.F 0 1024<=cnt (AR n t2.C) 0 1024)/\v=.tuple #[I (r:Int),I 0]/\G=[trA Tb pp mb n o (some (t2,Ba r++Q))]):=by
 intro z R' w H;have K:=H.says 0 Z (λh a=>trA.k a);by_cases ha:a=0
 ·subst ha
  have hL:L=[]:=by rcases x with ⟨_,e⟩|⟨e,_⟩;exact e;exact absurd Z e
  subst hL;refine Ret.mono (Cn.at (Ab4 pp mb n o t Q key val S g j U) H 1 [0] Z Z) ?_;rintro v w' ⟨Γ',(⟨y,s,rfl,rfl⟩|⟨t2,r,⟨l,c⟩,rfl,rfl⟩),b⟩
  ·exact ⟨_,.inl ⟨by omega,s,Z,Z⟩,b⟩
  have K2:=b.says 0 Z (λh a=>trA.k a);have f:r≠0:=by have:=(K2.i.rin r (by simp[CV])).1;omega
  exact ⟨_,.inr ⟨t2,r,⟨l.sub (λp hp=>hp) U U,.inr ⟨f,0,c⟩,K2.free⟩,Z,by rw[DR f];rfl⟩,b⟩
 obtain ⟨h,hT,hh⟩:=x.low3 K.i ha hd hn;have H2:=H.mono 0 (B:=trA Tb pp mb n o (some (t,a::val::Q))) Z (λh q=>q.perm (by rw[DR ha];exact AfZ _ _ _));have m:t.k+3*h+3<40:=by omega
 refine Ret.mono (Cn.at (Ab5 pp mb n o t Q h a (rootM h) key val L ⟨hT,g,by omega,by omega,⟨S,j⟩,u,m,by omega⟩) H2 1 [0] Z Z) ?_;rintro v w' ⟨Γ',(⟨y,s,rfl,rfl⟩|⟨t2,r,⟨l,c⟩,rfl,rfl⟩),b⟩
 ·exact ⟨_,.inl ⟨by omega,s,Z,Z⟩,b⟩
 have K2:=b.says 0 Z (λh a=>trA.k a);have f:r≠0:=by have:=(K2.i.rin r (by simp[CV])).1;omega
 refine ⟨_,.inr ⟨t2,r,⟨l.sub (λp hp=>hp) U U,?_,K2.free⟩,Z,by rw[DR f];rfl⟩,b⟩;rcases c with c|c
 ·exact root_of c (Ael _) f
 exact root_of c (by unfold rootM;rw[if_neg U];omega) f
theorem Adi(pp mb n:Nat)(o:TB)(t:TS)(Q:List Nat)(a:Nat)(key:Int)(L:List E)(f:Root t.N a L)(d:(vals L).Nodup)(g:n<=639)(y:t.k<=10)(hb:Q.length<=100):
  Ak 69 [Y pp,I (a:Int),I key] [trA Tb pp mb n o (some (t,Ba a++Q))] (λv G=>(¬CE key L/\v=.tuple #[I (a:Int),.bool false,I 0]/\G=[trA Tb pp mb n o (some (t,Ba a++Q))])\/(cnt t.F 0 1024<=12/\∃s:TS×List Nat,v=.tuple #[I 0,.bool false,I 20]/\G=[trA Tb pp mb n o (some s)])\/
   ∃(t2:TS) (r:Nat),(CE key L/\St t t2 Q 12 27/\Root t2.N r (BY key L)/\cnt t2.F 0 1024<=cnt (AR n t2.C) 0 1024)/\v=.tuple #[I (r:Int),.bool true,I 0]/\G=[trA Tb pp mb n o (some (t2,Ba r++Q))]):=by
 intro z R' w H;have K:=H.says 0 Z (λh a=>trA.k a);by_cases ha:a=0
 ·subst ha
  have x:L=[]:=by rcases f with ⟨_,e⟩|⟨e,_⟩;exact e;exact absurd Z e
  subst x;refine Ret.mono (Cn.at (Acc pp mb n o key) H 1 [0] Z Z) ?_;rintro v l ⟨Γ',⟨rfl,rfl⟩,b⟩;exact ⟨_,.inl ⟨λ⟨v,q⟩=>(by cases q),Z,Z⟩,b⟩
 obtain ⟨h,j,hh⟩:=f.low3 K.i ha d g;have e:Ba a++Q=a::Q:=by rw[DR ha];rfl
 rw[e] at H;rw[e];refine Ret.mono (Cn.at (Acb pp mb n o t Q h a key L j d U U) H 1 [0] Z Z) ?_;rintro v l ⟨Γ',(⟨c,rfl,rfl⟩|⟨c,s,rfl,rfl⟩|⟨t2,r,⟨c,m,u⟩,rfl,rfl⟩),b⟩
 ·exact ⟨_,.inl ⟨c,Z,Z⟩,b⟩
 ·exact ⟨_,.inr (.inl ⟨by omega,s,Z,Z⟩),b⟩
 exact ⟨_,.inr (.inr ⟨t2,r,⟨c,m.sub (λp hp=>hp) U U,u,(b.says 0 Z (λh a=>trA.k a)).free⟩,Z,Z⟩),b⟩
theorem FY{key:Int}(h:∀e∈X,1<=e.2):(getE key X≠0↔CE key X)/\(∀v,(key,v)∈X->Srt X->getE key X=v):=by
 induction X with
 | nil=>exact ⟨⟨λq=>absurd Z q,λ⟨v,q⟩=>by cases q⟩,λv q=>by cases q⟩
 | cons e t ih=>
  have ih:=ih (λx c=>h x (by simp[c]));have d:=h e O;simp only[getE];split
  ·rename_i a
   refine ⟨⟨λ_=>⟨e.2,?_⟩,λ_=>by omega⟩,λv b hs=>?_⟩
   ·rw[<-a];simp
   rcases Aeq.1 b with q|q
   ·rw[<-q]
   have:=(Srt.cons.1 hs).1 _ q;dsimp only at this;omega
  rename_i a;refine ⟨ih.1.trans ⟨λ⟨v,q⟩=>⟨v,by simp[q]⟩,λ⟨v,q⟩=>?_⟩,λv b hs=>?_⟩
  ·rcases Aeq.1 q with q|q
   ·subst q;exact absurd Z a
   exact ⟨v,q⟩
  rcases Aeq.1 b with q|q
  ·subst q;exact absurd Z a
  exact ih.2 v q (Srt.cons.1 hs).2
theorem Lp{L:List E}(hs:Srt L)(g:(vals L).Nodup)(f:m∉vals L):(vals (putE s m L)).Nodup:=by
 rcases key_split hs s with ⟨X,v,Y_,rfl,j⟩|⟨k,_⟩
 ·rw[Ed j]
  rw[BO,Cb] at g f ⊢;simp only[Aes,Aeq,not_or] at f;rw[Afc,Afk] at g ⊢;obtain ⟨a,⟨b,c⟩,d⟩:=g;refine ⟨a,⟨f.2.2,c⟩,λx i y h=>?_⟩;rcases Aeq.1 h with rfl|h
  ·exact λe=>f.1 (by rw[<-e];exact i)
  exact d x i y (by simp[h])
 rw[(Hi hs m k).1.nodup_iff,Afk];exact ⟨f,g⟩
theorem G3{n:Nat}{N:Hm}(I_:TInv n m N C R)(f:1<=m)(d:∀e∈X,∃b,N e.2=some (.dt b)):∀e∈X,1<=e.2/\e.2<n:=λe c=>by
 obtain ⟨b,a⟩:=d e c;have:=I_.nin _ _ a;omega
theorem JI{n:Nat}{N:Hm}(I_:TInv n m N C R)(d:1<=m)(f:∀e∈X,∃b,N e.2=some (.dt b))(a:(vals X).Nodup):X.length<=n:=by
 have:=OW a (λp hp=>by
  obtain ⟨e,c,rfl⟩:=Aen.1 hp;exact (G3 I_ d f e c).2)
 simpa [vals] using this
theorem LwI.done{a:Nat}{L L2:List E}{Q:List Nat}{o2:TB}(h:LwI n o a L Q)(c:Root o2.N r L2)(d:(vals L2).Nodup)(b:o2.R=Ba r++Q):LwI n o2 r L2 Q:=⟨h.n,h.q,c,d,b⟩
end
section
variable{Tb:Ai}
end
section
variable{Tb:Ai}
theorem Adj{P:Nat->Int->Int->List E->Prop}{e:E}{L2:List E}(b:X[i]?=some e)(h:Sq P (X.drop i) t L2):∃Lc L3,L2=Lc++L3/\P e.2 e.1 (nx (X.drop (i+1)) t) Lc/\Sq P (X.drop (i+1)) t L3:=by
 obtain ⟨a,rfl⟩:=Aee.1 b;rw[Ae2 a] at h;exact h
theorem Adk(hi:Int)(h:i+1<X.length):((kL X).map I)[i+1]?=some (I (nx (X.drop (i+1)) hi)):=by
 rw[Ae2 h];simp[kL,nx,Aef h]
end
section
variable{Tb:Ai}
end
section
variable{Tb:Ai}
variable{z w:World}{Γ:List Ai}{pp mb n f:Nat}{o:TB}{T:TT}{N:Hm}{C:Nat->Nat}{R:List Nat}
theorem TV(pp mb n:Nat)(o:TB)(T:TT)(a:Nat)(key:Int)(L:List E)(d:Root (Dm o T) a L):Ak 65 [Y pp,I (a:Int),I key] [trA Tb pp mb n o T] (λv G=>v=.tuple #[I (getE key L:Int),I 0]/\G=[trA Tb pp mb n o T]):=by
 intro z R' w H;have K:=H.says 0 Z (λh a=>trA.k a);have hp:∀e∈L,1<=e.2:=λe m=>(G3 K.i U d.data e m).1;have g:=FY (key:=key) hp;have f:¬CE key L->getE key L=0:=λq=>Afg λr=>q (g.1.1 r);by_cases ha:a=0
 ·subst ha
  have l:L=[]:=by rcases d with ⟨_,e⟩|⟨e,_⟩;exact e;exact absurd Z e
  subst l;refine Ret.mono (Cn.at (QO pp key) H 0 [] Z Z) ?_;rintro v j ⟨Γ',⟨rfl,rfl⟩,b⟩;exact ⟨_,⟨Z,Z⟩,b⟩
 rcases d with ⟨e,_⟩|⟨_,h,t⟩
 ·exact absurd e ha
 refine Ret.mono (Cn.at (QN pp mb n o T key L h a t) H 1 [0] Z Z) ?_;rintro v j ⟨Γ',⟨(⟨v0,c,rfl⟩|⟨c,rfl⟩),rfl⟩,b⟩
 ·exact ⟨_,⟨by rw[g.2 v0 c t.srt.1],Z⟩,b⟩
 exact ⟨_,⟨by rw[f c];rfl,Z⟩,b⟩
theorem Sep.trTab(H:Sep z (trA Tb pp mb n o none::Γ) w):Ht Tb/\Sep z (Tb::Γ) w:=by
 obtain ⟨M0,_,H⟩:=H.tr0;obtain ⟨X,a,H⟩:=H.po;refine ⟨a.tab.2▸a.tab.1,?_⟩;have h:=H.pick 7 [6] Z;rw[<-a.tab.2];exact h
end
section
variable{Tb:Ai}
end
section
variable{Tb:Ai}
abbrev Bk:=Int×List UInt8
def TW:Option Pc->List UInt8
 | some (.dt b)=>b
 | _=>[]
def A7(N:Hm)(L:List E):List Bk:=L.map λe=>(e.1,(TW (N e.2)).take 64)
def Lq:List UInt8:=List.replicate 64 0
def B9(k:Int):List Bk->List UInt8
 | []=>Lq
 | b::t=>if b.1=k then b.2 else B9 k t
def G4(k:Int)(V:List Bk):Prop:=∃b∈V,b.1=k
instance(k:Int)(V:List Bk):Decidable (G4 k V):=inferInstanceAs (Decidable (∃b∈V,b.1=k))
def Bz(k:Int)(V:List Bk):List Bk:=V.filter λb=>decide (b.1≠k)
def B0(V:List Bk):List Value:=V.flatMap λb=>[.int .i64 b.1,Cl b.2]
theorem Mk(A B:List Bk):B0 (A++B)=B0 A++B0 B:=by simp[B0]
theorem CP:∀{V:List Bk} {j:Nat} {e:Bk},V[j]?=some e->(B0 V)[j*2]?=some (I e.1)/\(B0 V)[j*2+1]?=some (Cl e.2)
 | x::L,0,e,h=>by simp at h;subst h;exact ⟨Z,Z⟩
 | x::L,j+1,e,h=>by
  have:=CP (V:=L) (j:=j) (by simpa using h);have e1:B0 (x::L)=I x.1::Cl x.2::B0 L:=rfl;rw[e1,show (j+1)*2=j*2+1+1 by omega];simp only[AeB];exact this
theorem O0:∀(L:List Bk) (p:Nat),(B0 L).drop (p*2)=B0 (L.drop p)
 | L,0=>by simp
 | [],p+1=>by simp[B0]
 | x::L,p+1=>by
  have e1:B0 (x::L)=I x.1::Cl x.2::B0 L:=rfl;rw[e1,show (p+1)*2=p*2+1+1 by omega,Ae6,Ae6,Ae6];exact O0 L p
theorem O3:∀(L:List Bk) (p:Nat),(B0 L).take (p*2)=B0 (L.take p)
 | L,0=>by simp[B0]
 | [],p+1=>by simp[B0]
 | x::L,p+1=>by
  have e1:B0 (x::L)=I x.1::Cl x.2::B0 L:=rfl;rw[e1,show (p+1)*2=p*2+1+1 by omega,Ae8,Ae8,Ae8,O3 L p];rfl
theorem GC{L:List Bk}:∀c∈B0 L,c.oneCell'=true:=λc a=>by
 simp only[B0,Agj] at a;obtain ⟨e,_,b⟩:=a;simp at b;rcases b with rfl|rfl<;>rfl
theorem rdH.cutB{a:Option Addr}{c p:Nat}{L:List Bk}(r:rdH 2 (.slice a n c) n (B0 L) h)(b:p+m<=n)(d:n<=c):rdH 2 (.slice (YtkblhjdljaoghaaGreatDoor.cutZ 2 a c p) m (c-p)) m (B0 ((L.drop p).take m)) h:=by
 have:=r.cutZ U b d;rw[O0,O3] at this;exact this
theorem MZ{L:List Bk}{e:Bk}{k:Int}(h:L[i]?=some e):B9 k (L.drop i)=if e.1=k then e.2 else B9 k (L.drop (i+1)):=by
 obtain ⟨hi,rfl⟩:=Aee.1 h;rw[Ae2 hi];rfl
theorem M3{L:List Bk}{e:Bk}{k:Int}(h:L[i]?=some e):G4 k (L.drop i)↔e.1=k\/G4 k (L.drop (i+1)):=by
 obtain ⟨hi,rfl⟩:=Aee.1 h;rw[Ae2 hi];simp only[G4,Aeq,exists_eq_or_imp]
theorem M4{L:List Bk}{e:Bk}(k:Int)(h:L[i]?=some e):Bz k (L.take (i+1))=if e.1=k then Bz k (L.take i) else Bz k (L.take i)++[e]:=by
 have b:L.take (i+1)=L.take i++[e]:=by rw[AeQ,h];rfl
 rw[b];unfold Bz;rw[AfQ];split
 ·rename_i a;simp[a]
 rename_i a;simp[a]
theorem JJ(k:Int)(V:List Bk):(Bz k V).length<=V.length:=AfW _ _
def PutAt(k:Int)(d:List UInt8)(V V2:List Bk):Prop:=∃i,(∀(j:Nat) (e:Bk),j<i->(Bz k V)[j]?=some e->e.1<k)/\(∀e,(Bz k V)[i]?=some e->k<=e.1)/\V2=(Bz k V).take i++(k,d)::(Bz k V).drop i

variable{N N2:Hm}{L:List E}{k:Int}
@[simp] theorem Kq:(A7 N L).length=L.length:=by simp[A7]
theorem volB_del:Bz k (A7 N L)=A7 N (BY k L):=by
 simp only[Bz,A7,BY,Agm];rfl
theorem Ja(h:∀e∈L,N2 e.2=N e.2):A7 N2 L=A7 N L:=AfE λe a=>by rw[h e a]
theorem Ww(hp:∀e∈L,1<=e.2):G4 k (A7 N L)↔getE k L≠0:=by
 rw[(FY hp).1];constructor
 ·rintro ⟨b,c,rfl⟩
  obtain ⟨e,d,rfl⟩:=Aen.1 c;exact ⟨e.2,d⟩
 rintro ⟨v,a⟩;exact ⟨_,Aen.2 ⟨_,a,Z⟩,Z⟩
theorem Kr:∀{L:List E},(∀e∈L,1<=e.2)->B9 k (A7 N L)=if getE k L=0 then Lq else (TW (N (getE k L))).take 64
 | [],_=>rfl
 | e::t,hp=>by
  have ih:=Kr (L:=t) (λx a=>hp x (by simp[a]));have b:=hp e O;simp only[A7,AeM,B9,getE] at ih ⊢;split
  ·rw[if_neg U]
  exact ih
def Dt(N N2:Hm):Prop:=∀v b b2,N v=some (.dt b)->N2 v=some (.dt b2)->N2 v=N v
theorem Dt.vol(h:Dt N N2){a a2:Nat}(f:Root N a L)(i:Root N2 a2 L):A7 N2 L=A7 N L:=Ja λe d=>by
 obtain ⟨b,g⟩:=f.data e d;obtain ⟨j,c⟩:=i.data e d;exact h _ _ _ g c
theorem M5{o:TB}(K:TrK n o none){c:Pc}(h:o.N m=some c):AR n o.C m=false:=by
 have a:1<=o.C m:=(K.i.nin m c h).2.2;simp only[AR];exact decide_eq_false U
theorem St.dtd{o:TB}(K:TrK n o none){t2:TS}(x:St ⟨o.N,o.C,AR n o.C,0⟩ t2 R m i):Dt o.N t2.N:=λv b c h a=>by
 have d:o.N v=some (.dt c):=x.ev v c (M5 K h) a;rw[a,d]
theorem TX{o:TB}(K:TrK n o none){t2 t3:TS}(d:o.N m=none)(f:t2.N=fup o.N m (some (.dt B)))(g:∀q,t2.F q=true->AR n o.C q=true)(y:St t2 t3 R i j):Dt o.N t3.N:=λv b k h a=>by
 have l:t2.F v=false:=by
  cases e:t2.F v with
  | false=>rfl
  | true=>have:=g v e;rw[M5 K h] at this;cases this
 have c:=y.ev v k l a;rw[f,fup_ne _ _ (λe=>by rw[e,d] at h;cases h)] at c;rw[a,c]
theorem QR(k:Int)(v:Nat):∀L:List E,(k,v)∈putE k v L
 | []=>by simp[putE]
 | e::t=>by
  simp only[putE];split
  ·exact Agq _ (QR k v t)
  split<;>simp
theorem delE_put(v:Nat){e:E}:∀{L:List E},e∈BY k L->e∈putE k v L
 | x::t,h=>by
  obtain ⟨h1,a⟩:=Afe.1 h;have a:e.1≠k:=by simpa using a
  simp only[putE];rcases Aeq.1 h1 with rfl|h1
  ·split
   ·simp
   simp
  split
  ·exact Agq _ (delE_put v (Afe.2 ⟨h1,by simpa using a⟩))
  split
  ·exact Agq _ h1
  exact Agq _ (Agq _ h1)
theorem ZT{o:TB}(K:TrK n o none){t2 t3:TS}{dk:Nat}{w:List Bk}{ra:Nat}(ha:o.N m=none)(z:t2.N=fup o.N m (some (.dt B)))(s:t2.F m=false)(hF:∀q,t2.F q=true->AR n o.C q=true)(y:St t2 t3 R g dk)(x:Root o.N ra L)(d:Root t3.N r (putE k m L))(hp:PutAt k (B.take 64) (A7 o.N L) w):w=A7 t3.N (putE k m L):=by
 have hs:=x.srt.1;have u:(k,m)∈putE k m L:=QR k m L;obtain ⟨b,l⟩:=d.data _ u;have l:t3.N m=some (.dt b):=l;have f:=y.ev m b s l;rw[z,BK] at f;cases f;have c:∀e∈BY k L,t3.N e.2=o.N e.2:=λe a=>by
  have hm:e∈putE k m L:=delE_put m a;obtain ⟨b1,t⟩:=x.data e ((Afe.1 a).1);obtain ⟨b3,p⟩:=d.data e hm;exact TX K ha z hF y _ _ _ t p
 obtain ⟨i,v,h,rfl⟩:=hp;rw[volB_del] at v h;have e1:∀(j:Nat) (e:E),j<i->(BY k L)[j]?=some e->e.1<k:=λj e hj a=>v j (e.1,(TW (o.N e.2)).take 64) hj (by simp[A7,a]);have e2:∀e:E,(BY k L)[i]?=some e->k<=e.1:=λe a=>h (e.1,(TW (o.N e.2)).take 64) (by simp[A7,a]);rw[Ace hs k m e1 e2,volB_del,<-Ja (N2:=t3.N) (N:=o.N) (L:=BY k L) c];simp[A7,l,TW,Afr,AfX]

def InB(A:Ai)(u:Value)(V:List Bk):Prop:=∀h,A h->rdH 2 u V.length (B0 V) h
def both(G A:Ai):Ai:=λh=>seps [G,A] h
theorem O4(h:Hp)(own:Nat->Nat)(i:Nat):CL (h.part own i) h:=λk o e=>(Em e).2
theorem InB.grow{A:Ai}{u:Value}{V:List Bk}:InB (both (grow 146 2 u V.length (B0 V)) A) u V:=λh ⟨own,q⟩=>(q 0 _ Z).rd.le (O4 h own 0)
theorem InB.old{G:Ai}{V:List Bk}(x:InB A u V):InB (both G A) u V:=λh ⟨own,q⟩=>(x _ (q 1 _ Z)).le (O4 h own 1)
def Ink(A A2:Ai):Prop:=∀u V,InB A u V->InB A2 u V
theorem Ink.refl(A:Ai):Ink A A:=λ_ _ q=>q
theorem Ink.both(G A:Ai):Ink A (both G A):=λ_ _ q=>q.old
theorem Ink.trans{B D:Ai}(x:Ink A B)(y:Ink B D):Ink A D:=λu V q=>y u V (x u V q)
theorem O5(pp mb n:Nat)(o:TB)(t:TS)(R:List Nat)(x:List UInt8)(j:x.length=240)(b:Nat)(hk:t.k<40):
  Ak 66 [Y pp,.agg #[I 5,.slice (some ⟨b,0,none⟩) 240 240]] [trA Tb pp mb n o (some (t,R)),blk b (x.map u8) 5] (λv G=>(cnt t.F 0 1024=0/\v=.tuple #[I 0,I 20]/\G=[trA Tb pp mb n o (some (t,R)),blk b (x.map u8) 5])\/
   ∃(a:Nat) (t2:TS),((t.N a=none/\t2.N=fup t.N a (some (.dt x))/\t2.F a=false/\∀q,t2.F q=true->t.F q=true)/\(∀q d,t2.N q=some (.nd d)->a∉vals d.es)/\(∀h c lo hi m L,Tr t.N h c lo hi m L->Tr t2.N h c lo hi m L)/\t2.k<=t.k+1/\cnt t.F 0 1024=cnt t2.F 0 1024+1)/\v=.tuple #[I (a:Int),I 0]/\G=[trA Tb pp mb n o (some (t2,a::R)),blk b (x.map u8) 5]):=by
 intro z R' w H;have K:=H.says 0 Z (λh a=>trA.k a);have I_:TInv n (manyN n+1) t.N t.C R:=K.i;refine Ret.mono (Cn.at (OQ pp mb n o t R R ⟨5,x⟩ ⟨⟨by show (1:Int)<=5;omega,by show (5:Int)<=5;omega⟩,j⟩ (λh q=>q.rd U U (by simp[j]) (by simp only[AeS,Aey];exact Aem (by rw[Aei,j];omega))) hk (some (.dt x)) (λq hq=>by cases hq;rfl) (λa f g p=>(I_.freshD p ⟨f,g⟩).2.1)) H 2 [0,1] Z Z) ?_;rintro v w' ⟨Γ',(⟨h0,rfl,rfl⟩|⟨a,F,k,⟨f,g,p,h4,h5,h6,y⟩,rfl,rfl⟩),s⟩
 ·exact ⟨_,.inl ⟨h0,Z,Z⟩,s⟩
 obtain ⟨l,f2,u⟩:=I_.freshD (b:=x) g ⟨f.1,f.2⟩;refine ⟨_,.inr ⟨a,⟨_,_,F,k⟩,⟨⟨l,Z,h5,h4⟩,λq d hq=>?_,λh c lo hi m L q=>q.fup u (λe=>?_),h6,y⟩,Z,Z⟩,s⟩
 ·have hq:fup t.N a (some (.dt x)) q=some (.nd d):=hq
  by_cases e:q=a
  ·subst e;rw[BK] at hq;cases hq
  rw[fup_ne _ _ e] at hq;exact u q d hq
 subst e;obtain ⟨d,r⟩:=q.node;rw[l] at r;cases r
end
section
variable{Tb:Ai}
theorem Acf{x:UInt8}(h:i<B.length):(B.map u8).take i++[u8 x]++(B.map u8).drop (i+[u8 x].length)=(B.set i x).map u8:=by
 rw[Afd,if_pos h];simp
theorem TY{k:Int}{V:List Bk}(c:InB A u V):Ak 87 [.agg #[I t,I s,I q,u],I k] [A] (λv G=>v=Cl (B9 k V)/\G=[A]):=by
 intro z R w H;obtain ⟨y,o,rfl⟩:=H.sy 0 (λq=>(c _ q).slc);have a0:=H.sy 0 (λq=>(c _ q).slcapZ);refine Ae func87 Z ntmps87 Z (Za 2 [] H Z ?_);intro h w H;refine Zc 10 Z ?_;refine AF (σ:=Nat) (λi=>[(5,I (i:Int)),(1,I k),(2,Y h)])
   (λi w=>Sep z (blk h [I t,I s,I q,.slice y V.length o] 62::A::R) w/\(i<=V.length/\B9 k V=B9 k (V.drop i))) (λi=>V.length-i) 0
   fr_z ⟨H,⟨AeR _,Z⟩⟩ ?_
 clear H;rintro i w ⟨p,hI⟩;have H:=p.l2;obtain ⟨hi,g⟩:=hI;refine Z2 10 [3,0,0,0] H Z (Af Z (λm=>?_) (λm=>?_))
 ·refine Zc 5 Z ?_;obtain ⟨e,d⟩:∃e,V[i]?=some e:=⟨_,Aef U⟩;have a:=(H.rv 1 (c _)).at (CP d).1
  have b:=(H.rv 1 (c _)).at (CP d).2;refine Z2 4 [3,0,0] H Z (Ad Z (Aj Z (z:=2) (j:=i) (r:=i*2) J Z Z Z U a U) (Ad Z (Bi Z (k:=0) (r:=i*2) J Z a Z) (Ad Z (Ax Z Z J (AB a)) (Z0 4 [0] Z (Af Z (λn=>?_) (λn=>?_))))))
  ·refine Z2 5 [3,0,0] H Z (Ad Z (Aj Z (z:=2) (j:=i) (r:=i*2) J Z Z Z U a U) (Ad Z (Bi Z (k:=1) (r:=i*2+1) J Z a Z) (Ad Z (Ax Z Z J (AB b)) (Zc 4 Z (Zr Z ?_)))));have f:B9 k V=e.2:=by rw[g,MZ d,if_pos U]
   exact ⟨_,⟨by rw[f],Z⟩,H.pick 2 [1] Z⟩
  refine Z1 8 [] [(i:Int)+1] Z U (gf ?_);intro _ x;refine ⟨(i+1),x.cz,⟨H,?_⟩,?_⟩
  ·exact ⟨by omega,by rw[g,MZ d,if_neg U]⟩
  omega
 refine Zc 2 Z (gx (Zc 4 Z (AU Z (En (k:=64) H Z J CM Z Z Z U) ?_)));rintro _ w ⟨b2,rfl,H⟩;refine Ad Z (Cq (l:=Lq) Z J J Z (AB (H.rv 0 (·.rd U U O (by rfl))))) (Zc 4 Z (Zr Z ?_));have f:B9 k V=Lq:=by rw[g,AeN U];rfl
 exact ⟨_,⟨by rw[f],Z⟩,H.pick 3 [2] Z⟩
theorem Acg{k:Int}{V:List Bk}(A:Ai)(b:InB A u V):Ak 138 [.agg #[I t,I s,I q,u],I k] [A] (λv G=>v=.bool (decide (G4 k V))/\G=[A]):=by
 intro z R w H;obtain ⟨y,o,rfl⟩:=H.sy 0 (λq=>(b _ q).slc);have a0:=H.sy 0 (λq=>(b _ q).slcapZ);refine Ae func138 Z ntmps138 Z (Za 2 [] H Z ?_);intro l w H;refine Zc 10 Z ?_;refine AF (σ:=Nat) (λi=>[(5,I (i:Int)),(1,I k),(2,Y l)])
   (λi w=>Sep z (blk l [I t,I s,I q,.slice y V.length o] 62::A::R) w/\(i<=V.length/\(G4 k V↔G4 k (V.drop i)))) (λi=>V.length-i) 0
   fr_z ⟨H,⟨AeR _,Ahx⟩⟩ ?_
 clear H;rintro i w ⟨p,hI⟩;have H:=p.l2;obtain ⟨hi,f⟩:=hI;refine Z2 10 [3,0,0,0] H Z (Af Z (λm=>?_) (λm=>?_))
 ·refine Zc 5 Z ?_;obtain ⟨e,c⟩:∃e,V[i]?=some e:=⟨_,Aef U⟩;have a:=(H.rv 1 (b _)).at (CP c).1
  refine Z2 4 [3,0,0] H Z (Ad Z (Aj Z (z:=2) (j:=i) (r:=i*2) J Z Z Z U a U) (Ad Z (Bi Z (k:=0) (r:=i*2) J Z a Z) (Ad Z (Ax Z Z J (AB a)) (Z0 4 [0] Z (Af Z (λn=>?_) (λn=>?_))))))
  ·refine Zc 6 Z (Zr Z ?_);have d:decide (G4 k V)=true:=decide_eq_true (f.2 (by rw[M3 c];exact .inl U))
   exact ⟨_,⟨by rw[d],Z⟩,H.pick 2 [1] Z⟩
  refine Z1 8 [] [(i:Int)+1] Z U (gf ?_);intro _ x;refine ⟨(i+1),x.cz,⟨H,?_⟩,?_⟩
  ·exact ⟨by omega,f.trans ((M3 c).trans ⟨λq=>q.resolve_left U,.inr⟩)⟩
  omega
 refine Zc 2 Z (gx (Zc 8 Z (Zr Z ?_)));have d:decide (G4 k V)=false:=decide_eq_false (λq=>by have:=f.1 q;rw[AeN U] at this;obtain ⟨_,h,_⟩:=this;cases h);exact ⟨_,⟨by rw[d],Z⟩,H.pick 2 [1] Z⟩
theorem QS(k:Int){V:List Bk}(A:Ai)(g:InB A u V)(hV:V.length<=1048576):Ak 184 [.agg #[I t,I s,I q,u],I k] [A] (λv G=>∃u2:Value,v=.agg #[I t,I s,I q,u2]/\G=[grow 146 2 u2 (Bz k V).length (B0 (Bz k V)),A]):=by
 intro z R w H;replace H:=H.l1;obtain ⟨ao,oc,rfl⟩:=H.sy 0 (λq=>(g _ q).slc);have a2:=H.sy 0 (λq=>(g _ q).slcapZ);refine Ae func184 Z ntmps184 Z (Za 2 [] H Z ?_);intro m w H;refine Za 0 [] H Z ?_;intro o w H;refine Zc 9 Z ?_;replace H:=(H.nilg 146 2).l4;refine Zc 5 Z ?_;refine AF (σ:=Nat×Value) (λ⟨i,u2⟩=>[(6,I (i:Int)),(5,u2),(1,I k),(2,Y m),(4,Y o)])
   (λ⟨i,u2⟩ w=>Sep z (grow 146 2 u2 ((Bz k (V.take i)).length) (B0 (Bz k (V.take i)))::blk o [I 0,I 0,I 0,.slice none 0 0] 62::blk m [I t,I s,I q,.slice ao V.length oc] 62::A::R) w/\(i<=V.length)) (λ⟨i,u2⟩=>V.length-i) ⟨0,.slice none 0 0⟩
   (λ_ f=>(f.co Z (by go_num) f.cz)) ⟨H,AeR _⟩ ?_
 clear H;rintro ⟨i,u2⟩ w ⟨b,n⟩;dsimp only at n b ⊢;have H:=b.l4;have c:=H.sy 0 (·.slc);have hi:=n;clear n;refine Z2 10 [3,2,0,0] H Z (Af Z (λh1=>?_) (λh1=>?_))
 ·refine Zc 5 Z ?_;obtain ⟨e,h⟩:∃e,V[i]?=some e:=⟨_,Aef U⟩;have a:=(H.rv 3 (g _)).at (CP h).1
  have y:=(H.rv 3 (g _)).at (CP h).2;have a1:(Bz k (V.take i)).length<=i:=Agu (JJ _ _) (by rw[AeA];omega);refine Z2 4 [3,2,0] H Z (Ad Z (Aj Z (z:=2) (j:=i) (r:=i*2) J Z Z Z U a U) (Ad Z (Bi Z (k:=0) (r:=i*2) J Z a Z) (Ad Z (Ax Z Z J (AB a)) (Z0 4 [0] Z (Af Z (λh2=>?_) (λh2=>?_))))))
  ·refine Z2 5 [3,2,0] H Z (Ad Z (Aj Z (z:=2) (j:=i) (r:=i*2) J Z Z Z U a U) (Ad Z (Bt Z Z (vs:=[I e.1,Cl e.2]) J O (AB (λk u p=>by rcases k with _|_|k<;>simp at p<;>subst p<;>assumption))) (AU Z (AP H Z J A8 Z (by decide) (by decide) (out:=[I e.1,Cl e.2]) J) ?_)));rintro _ w ⟨b3,rfl,H⟩;replace H:=H.l5;refine AU Z (AX 1 H Z Z J A8 Z Z (H.rv 0 (·.rd U U O Z)) (by simp[Cl,Value.oneCell']) U) ?_;rintro x w b;have b:Sep z (blk b3 [I e.1,Cl e.2] 146::grow 146 2 x ((Bz k (V.take i)).length+1) (B0 (Bz k (V.take i))++[I e.1,Cl e.2])::blk o [I 0,I 0,I 0,.slice none 0 0] 62::blk m [I t,I s,I q,.slice ao V.length oc] 62::A::R) w:=b
   have l:(B0 (Bz k (V.take i))++[I e.1,Cl e.2]:List Value)=B0 (Bz k (V.take i)++[e]):=by rw[Mk];rfl
   rw[l] at b;have H:=b.l5;refine Z1 9 [] [(i:Int)+1] Z U ?_;replace H:=H.d;refine gf ?_;intro _ f;refine ⟨⟨i+1,x⟩,f.cz,⟨(by rw[M4 k h,if_neg U,Aeh];exact H),?_⟩,?_⟩
   ·show i+1<=V.length;omega
   (dsimp only;omega)
  refine Z1 8 [] [(i:Int)+1] Z U (gf ?_);intro _ f;refine ⟨⟨i+1,u2⟩,f.cz,⟨(by rw[M4 k h,if_pos U];exact H),?_⟩,?_⟩
  ·show i+1<=V.length;omega
  (dsimp only;omega)
 refine Zc 2 Z (gx (Z0 6 [3] Z (AC Z Z (NB 2 H Z Z Z Z c.cells c.one J) ?_)));rintro w H;replace H:=H.l4;refine Z2 5 [2,4] H Z (AC Z Z (Am 1 H Z Z Z Z (vs:=[I t,I s,I q,u2]) Z (Ab Z (Ab Z (Ab Z (Ab c.one Aw)))) J O (out:=[I t,I s,I q,u2]) Z) ?_);rintro w H;replace H:=H.l4;refine Zc 3 Z (Zl [1,4] H Z ?_);rw[show i=V.length by omega,Afa] at H;exact ⟨_,⟨u2,Z,Z⟩,H.pick 4 [0,3] Z⟩
theorem TZ(k:Int)(V:List Bk)(A:Ai)(hA:InB A u V)(d:List UInt8)(hV:V.length<=1048576):Ak 139 [.agg #[I t,I s,I q,u],I k,Cl d] [A] (λv G=>∃(u2:Value) (V2:List Bk),PutAt k d V V2/\v=.agg #[I t,I s,I q,u2]/\G=[grow 146 2 u2 V2.length (B0 V2),A]):=by
 intro z R w H;replace H:=H.l1;obtain ⟨ao,oc,rfl⟩:=H.sy 0 (λq=>(hA _ q).slc);have a6:=H.sy 0 (λq=>(hA _ q).slcapZ);have a5:=JJ k V;refine Ae func139 Z ntmps139 Z (Za 2 [] H Z ?_);intro b1 w H;refine Za 0 [] H Z ?_;intro b2 w H;refine Z2 6 [1,4] H Z (Au Z (call184 _) (QS _ _ hA hV) H.f2 ?_);rintro _ w _ ⟨u2,rfl,rfl⟩ H;replace H:=H.l4;have a0:=H.sy 0 (·.rd.slc);obtain ⟨am,o,rfl⟩:=a0;have a1:=H.sy 0 (·.rd.slcapZ);refine Z4 10 [3] H Z ?_;intro w H;refine AF (σ:=Nat) (λi=>[(7,I (i:Int)),(1,I k),(2,Cl d),(3,Y b1),(6,Y b2)])
   (λi w=>Sep z (grow 146 2 (.slice am ((Bz k V).length) o) ((Bz k V).length) (B0 (Bz k V))::A::blk b2 [I 0,I 0,I 0,.slice none 0 0] 62::blk b1 [I t,I s,I q,.slice am ((Bz k V).length) o] 62::R) w/\(i<=(Bz k V).length/\∀(j:Nat) (e:Bk),j<i->(Bz k V)[j]?=some e->e.1<k)) (λi=>(Bz k V).length-i) 0
   fr_z ⟨H,⟨AeR _,λj e h=>by omega⟩⟩ ?_
 clear H;rintro i w ⟨H',hI⟩;have H:=H'.l4;obtain ⟨hi,f⟩:=hI;refine Z2 9 [3,3,0,0] H Z (An 17 Z (λh1=>?_) (λh1=>?_))
 ·refine Z2 3 [3,3,0] H Z ?_;obtain ⟨e,y⟩:∃e,(Bz k V)[i]?=some e:=⟨_,Aef U⟩;have g:=(H.rv 0 (·.rd)).at (CP y).1
  refine Ad Z (Aj Z (z:=2) (j:=i) (r:=i*2) J Z Z Z U g U) (Ad Z (Bi Z (k:=0) (r:=i*2) J Z g Z) (Ad Z (Ax Z Z J (AB g)) (Z0 5 [0] Z (Af Z (λh2=>?_) (λh2=>?_)))))
  ·refine Z1 9 [] [(i:Int)+1] Z U (gf ?_);intro _ hF;refine ⟨(i+1),hF.cz,⟨H,?_⟩,?_⟩
   ·refine ⟨by omega,λj m hj a=>?_⟩;rcases Aeu j i with q|q
    ·exact f j m q a
    obtain rfl:j=i:=by omega
    rw[y] at a;cases a;omega
   omega
  refine Zc 2 Z (gx (Z2 13 [3,3,0] H Z (Ad Z (FW (z:=2) (p:=0) (q:=i) (l':=i) (c':=o) Z J Z (.inl ⟨Z,Z⟩) (.inr ⟨_,_,_,Z,Z,Z⟩) U U Z Z) ?_)));replace H:=(H.nilg 146 2).l5;refine AU Z (AX 0 H Z Z J A8 Z Z (H.rv 1 (·.rd.cutB U U)) (GC) U) ?_;rintro v3 w H;replace H:=H.l5;refine Zc 8 Z (Ad Z (Be Z Z (out:=[I k,Cl d]) J) (AU Z (AP H Z J A8 Z (by decide) (by decide) (out:=[I k,Cl d]) J) ?_));rintro _ w ⟨b4,rfl,H⟩;replace H:=H.l6;refine AU Z (AX 1 H Z Z J A8 Z Z (H.rv 0 (·.rd U U O Z)) (by simp[Cl,Value.oneCell']) U) ?_;rintro v5 w H;replace H:=H.l6;refine Z2 9 [3,5,0] H Z (Ad Z (FW (z:=2) (p:=i) (q:=(Bz k V).length) (l':=((Bz k V).length)-i) (c':=o-i) Z J Z (.inr ⟨_,_,_,Z,Z,Z⟩) (.inl ⟨Z,Z⟩) U U Z Z) (AU Z (AX 1 H Z Z J A8 Z Z (H.rv 2 (·.rd.cutB U U)) (GC) U) ?_));rintro v6 w H;replace H:=H.l6;have n:=H.sy 1 (·.slc);refine Z0 7 [3] Z (AC Z Z (NB 5 H Z Z Z Z n.cells n.one J) ?_);rintro w H;replace H:=H.l6;refine Z2 5 [5,4] H Z (AC Z Z (Am 4 H Z Z Z Z (vs:=[I t,I s,I q,v6]) Z (Ab Z (Ab Z (Ab Z (Ab n.one Aw)))) J O (out:=[I t,I s,I q,v6]) Z) ?_);rintro w H;replace H:=H.l6;refine Zc 3 Z (Zl [4,4] H Z ?_);have b:∀m,(Bz k V)[i]?=some m->k<=m.1:=λm a=>by first|(have:=(Aee.1 a).1;omega)|(rw[y] at a;cases a;omega)
  rw[show (0+i+1+((Bz k V).length-i):Nat)=((Bz k V).take i++(k,d)::(Bz k V).drop i).length from by simp only[Aeh,AeA,Aej,AeP];omega,show ([]++B0 (((Bz k V).drop 0).take i)++List.take (1*2) (List.drop 0 [I k,Cl d])++B0 (((Bz k V).drop i).take ((Bz k V).length-i)):List Value)=B0 ((Bz k V).take i++(k,d)::(Bz k V).drop i) from by rw[Mk,Aey,Aem (l:=(Bz k V).drop i) (by rw[AeP];omega)];simp[B0]] at H;exact ⟨_,⟨_,_,⟨i,f,b,rfl⟩,rfl,rfl⟩,H.pick 6 [1,3] rfl⟩
 refine Zc 14 Z (gx (Z2 13 [3,3,0] H Z (Ad Z (FW (z:=2) (p:=0) (q:=i) (l':=i) (c':=o) Z J Z (.inl ⟨Z,Z⟩) (.inr ⟨_,_,_,Z,Z,Z⟩) U U Z Z) ?_)));replace H:=(H.nilg 146 2).l5;refine AU Z (AX 0 H Z Z J A8 Z Z (H.rv 1 (·.rd.cutB U U)) (GC) U) ?_;rintro v7 w H;replace H:=H.l5;refine Zc 8 Z (Ad Z (Be Z Z (out:=[I k,Cl d]) J) (AU Z (AP H Z J A8 Z (by decide) (by decide) (out:=[I k,Cl d]) J) ?_));rintro _ w ⟨b8,rfl,H⟩;replace H:=H.l6;refine AU Z (AX 1 H Z Z J A8 Z Z (H.rv 0 (·.rd U U O Z)) (by simp[Cl,Value.oneCell']) U) ?_;rintro v9 w H;replace H:=H.l6;refine Z2 9 [3,5,0] H Z (Ad Z (FW (z:=2) (p:=i) (q:=(Bz k V).length) (l':=((Bz k V).length)-i) (c':=o-i) Z J Z (.inr ⟨_,_,_,Z,Z,Z⟩) (.inl ⟨Z,Z⟩) U U Z Z) (AU Z (AX 1 H Z Z J A8 Z Z (H.rv 2 (·.rd.cutB U U)) (GC) U) ?_));rintro x w H;replace H:=H.l6;have c:=H.sy 1 (·.slc);refine Z0 7 [3] Z (AC Z Z (NB 5 H Z Z Z Z c.cells c.one J) ?_);rintro w H;replace H:=H.l6;refine Z2 5 [5,4] H Z (AC Z Z (Am 4 H Z Z Z Z (vs:=[I t,I s,I q,x]) Z (Ab Z (Ab Z (Ab Z (Ab c.one Aw)))) J O (out:=[I t,I s,I q,x]) Z) ?_);rintro w H;replace H:=H.l6;refine Zc 3 Z (Zl [4,4] H Z ?_);have b:∀m,(Bz k V)[i]?=some m->k<=m.1:=λm a=>by first|(have:=(Aee.1 a).1;omega)|(rw[y] at a;cases a;omega)
 rw[show (0+i+1+((Bz k V).length-i):Nat)=((Bz k V).take i++(k,d)::(Bz k V).drop i).length from by simp only[Aeh,AeA,Aej,AeP];omega,show ([]++B0 (((Bz k V).drop 0).take i)++List.take (1*2) (List.drop 0 [I k,Cl d])++B0 (((Bz k V).drop i).take ((Bz k V).length-i)):List Value)=B0 ((Bz k V).take i++(k,d)::(Bz k V).drop i) from by rw[Mk,Aey,Aem (l:=(Bz k V).drop i) (by rw[AeP];omega)];simp[B0]] at H;exact ⟨_,⟨_,_,⟨i,f,b,rfl⟩,rfl,rfl⟩,H.pick 6 [1,3] rfl⟩
end
def D7(id st sz q r mp:Int):Prop:=(1<=id/\id<=1073741824)/\(st=1\/st=2)/\(1<=sz/\sz<=1048576)/\(0<=q/\q<=1048576)/\(0<=r/\r<=1023)/\0<=mp/\mp<=1024
instance(id st sz q r mp:Int):Decidable (D7 id st sz q r mp):=by unfold D7;exact inferInstance
def CS(id st sz q r mp blk:Int):Int:=if D7 id st sz q r mp then (if 0<=blk/\blk<=sz-1 then 0 else 34) else 1
theorem Dy:Ak 118 [I t,I s,I p] [] (λv G=>v=.bool (decide (s<=t/\t<=p))/\G=[]):=by
 intro z R w H;refine Ae func118 Z ntmps118 Z (Z0 11 [0] Z (An 10 Z (λa=>?_) (λa=>?_)))
 ·refine Z0 8 [0] Z (Zr Z ?_);exact ⟨_,⟨congrArg Value.bool (by first|(rw[Aez];simp<;>omega)|(simp<;>omega)),Z⟩,H⟩
 refine Zc 8 Z (Zr Z ?_);exact ⟨_,⟨congrArg Value.bool (by first|(rw[Aez];simp<;>omega)|(simp<;>omega)),Z⟩,H⟩
theorem tmay_c(pp:Nat)(id b sz q r d c:Int):Ak 64 [Y pp,.agg #[I id,I b,I sz,I q,I r,I d],I c] [] (λv G=>v=I (CS id b sz q r d c)/\G=[]):=by
 intro z R w H;refine Ae func64 Z ntmps64 Z (Za 2 [] H Z ?_);intro t w H;refine Z2 12 [0,0,0] H Z (z_E_ Z (call118 _) (Dy) H ?_);intro w H;refine Ad Z (AG Z Z) (Zc 2 Z (An 16 Z (λi=>?_) (λi=>?_)))
 ·refine Zc 19 Z (Zr Z ?_);have a:CS id b sz q r d c=1:=by unfold CS;rw[if_neg (by unfold D7;omega)]
  exact ⟨_,⟨by rw[a],Z⟩,H.perm 1 [] Z Z⟩
 refine Z2 4 [1,0,0,0] H Z (An 20 Z (λm=>?_) (λm=>?_))
 ·refine Z2 8 [1,0,0,0] H Z (Af Z (λp=>?_) (λp=>?_))
  ·refine Zc 6 Z (Zr Z ?_);have a:CS id b sz q r d c=1:=by unfold CS;rw[if_neg (by unfold D7;omega)]
   exact ⟨_,⟨by rw[a],Z⟩,H.perm 1 [] Z Z⟩
  refine Z2 4 [2,0,0] H Z (z_E_ Z (call118 _) (Dy) H ?_);intro w H;refine Ad Z (AG Z Z) (Zc 1 Z (An 31 Z (λn=>?_) (λn=>?_)))
  ·refine Zc 15 Z (Zr Z ?_);have a:CS id b sz q r d c=1:=by unfold CS;rw[if_neg (by unfold D7;omega)]
   exact ⟨_,⟨by rw[a],Z⟩,H.perm 1 [] Z Z⟩
  refine Z2 2 [3,0,0] H Z (z_E_ Z (call118 _) (Dy) H ?_);intro w H;refine Ad Z (AG Z Z) (Zc 4 Z (Af Z (λo=>?_) (λo=>?_)))
  ·refine Zc 6 Z (Zr Z ?_);have a:CS id b sz q r d c=1:=by unfold CS;rw[if_neg (by unfold D7;omega)]
   exact ⟨_,⟨by rw[a],Z⟩,H.perm 1 [] Z Z⟩
  refine Z2 4 [4,0,0] H Z (z_E_ Z (call118 _) (Dy) H ?_);intro w H;refine Ad Z (AG Z Z) (Zc 1 Z (An 42 Z (λl=>?_) (λl=>?_)))
  ·refine Zc 15 Z (Zr Z ?_);have a:CS id b sz q r d c=1:=by unfold CS;rw[if_neg (by unfold D7;omega)]
   exact ⟨_,⟨by rw[a],Z⟩,H.perm 1 [] Z Z⟩
  refine Z2 2 [5,0,0] H Z (z_E_ Z (call118 _) (Dy) H ?_);intro w H;refine Ad Z (AG Z Z) (Zc 4 Z (Af Z (λj=>?_) (λj=>?_)))
  ·refine Zc 6 Z (Zr Z ?_);have a:CS id b sz q r d c=1:=by unfold CS;rw[if_neg (by unfold D7;omega)]
   exact ⟨_,⟨by rw[a],Z⟩,H.perm 1 [] Z Z⟩
  refine Z3 6 [2,0,0] [sz-1] H Z U (z_E_ Z (call118 _) (Dy) H ?_);intro w H;refine Ad Z (AG Z Z) (Zc 3 Z (Af Z (λk=>?_) (λk=>?_)))
  ·refine Zc 6 Z (Zr Z ?_);have a:CS id b sz q r d c=34:=by unfold CS;rw[if_pos (by unfold D7;omega),if_neg U]
   exact ⟨_,⟨by rw[a],Z⟩,H.perm 1 [] Z Z⟩
  refine Zc 9 Z (Zr Z ?_);have a:CS id b sz q r d c=0:=by unfold CS;rw[if_pos (by unfold D7;omega),if_pos U]
  exact ⟨_,⟨by rw[a],Z⟩,H.perm 1 [] Z Z⟩
 refine Z2 13 [2,0,0] H Z (z_E_ Z (call118 _) (Dy) H ?_);intro w H;refine Ad Z (AG Z Z) (Zc 1 Z (An 31 Z (λs=>?_) (λs=>?_)))
 ·refine Zc 15 Z (Zr Z ?_);have a:CS id b sz q r d c=1:=by unfold CS;rw[if_neg (by unfold D7;omega)]
  exact ⟨_,⟨by rw[a],Z⟩,H.perm 1 [] Z Z⟩
 refine Z2 2 [3,0,0] H Z (z_E_ Z (call118 _) (Dy) H ?_);intro w H;refine Ad Z (AG Z Z) (Zc 4 Z (Af Z (λf=>?_) (λf=>?_)))
 ·refine Zc 6 Z (Zr Z ?_);have a:CS id b sz q r d c=1:=by unfold CS;rw[if_neg (by unfold D7;omega)]
  exact ⟨_,⟨by rw[a],Z⟩,H.perm 1 [] Z Z⟩
 refine Z2 4 [4,0,0] H Z (z_E_ Z (call118 _) (Dy) H ?_);intro w H;refine Ad Z (AG Z Z) (Zc 1 Z (An 42 Z (λe=>?_) (λe=>?_)))
 ·refine Zc 15 Z (Zr Z ?_);have a:CS id b sz q r d c=1:=by unfold CS;rw[if_neg (by unfold D7;omega)]
  exact ⟨_,⟨by rw[a],Z⟩,H.perm 1 [] Z Z⟩
 refine Z2 2 [5,0,0] H Z (z_E_ Z (call118 _) (Dy) H ?_);intro w H;refine Ad Z (AG Z Z) (Zc 4 Z (Af Z (λh=>?_) (λh=>?_)))
 ·refine Zc 6 Z (Zr Z ?_);have a:CS id b sz q r d c=1:=by unfold CS;rw[if_neg (by unfold D7;omega)]
  exact ⟨_,⟨by rw[a],Z⟩,H.perm 1 [] Z Z⟩
 refine Z3 6 [2,0,0] [sz-1] H Z U (z_E_ Z (call118 _) (Dy) H ?_);intro w H;refine Ad Z (AG Z Z) (Zc 3 Z (Af Z (λg=>?_) (λg=>?_)))
 ·refine Zc 6 Z (Zr Z ?_);have a:CS id b sz q r d c=34:=by unfold CS;rw[if_pos (by unfold D7;omega),if_neg U]
  exact ⟨_,⟨by rw[a],Z⟩,H.perm 1 [] Z Z⟩
 refine Zc 9 Z (Zr Z ?_);have a:CS id b sz q r d c=0:=by unfold CS;rw[if_pos (by unfold D7;omega),if_pos U]
 exact ⟨_,⟨by rw[a],Z⟩,H.perm 1 [] Z Z⟩
section
variable{Tb:Ai}
theorem O6{r a blk:Int}(c:D7 t s p q r a):Ak 64 [Y n,.agg #[I t,I s,I p,I q,I r,I a],I blk] [] (λv G=>((0<=blk/\blk<p)/\v=I 0/\G=[])\/(¬(0<=blk/\blk<p)/\v=I 34/\G=[])):=by
 intro z R w H;refine Ret.mono (tmay_c n t s p q r a blk z R w H) ?_;rintro v d ⟨Γ',⟨rfl,rfl⟩,b⟩;unfold CS;rw[if_pos c];by_cases hb:0<=blk/\blk<p
 ·exact ⟨_,.inl ⟨hb,by rw[if_pos U],Z⟩,b⟩
 exact ⟨_,.inr ⟨hb,by rw[if_neg U],Z⟩,b⟩
set_option maxHeartbeats 2000000 in
theorem ZU (pp mb n:Nat) (o:TB) (T:TT) (id st sz q mp c:Int) (y:Nat) (L:List E) (hR:Root (Dm o T) y L) (hv:D7 id st sz q (y:Int) mp):Ak 34 [Y pp,.agg #[I id,I st,I sz,I q,I (y:Int),I mp],I c] [trA Tb pp mb n o T] (λv G=>((0<=c/\c<sz)/\∃b:Nat,(B9 c (A7 (Dm o T) L)).length=64/\v=.tuple #[.slice (some ⟨b,0,none⟩) 64 64,I 0]/\G=[blk b ((B9 c (A7 (Dm o T) L)).map u8) 5,trA Tb pp mb n o T])\/(¬(0<=c/\c<sz)/\v=.tuple #[.slice none 0 0,I 34]/\G=[trA Tb pp mb n o T])):=by
 intro z R w H;have K:=H.says 0 Z (λh a=>trA.k a);have j:∀e∈L,1<=e.2:=λe x=>(G3 K.i U (show ∀e∈L,∃b,Dm o T e.2=some (.dt b) from hR.data) e x).1;refine Ae func34 Z ntmps34 Z (Za 2 [] H Z ?_);intro b1 w H;refine Z2 10 [0,6] H Z (Au Z (call64 _) (O6 hv) H ?_);rintro _ w _ (⟨hb,rfl,rfl⟩|⟨hb,rfl,rfl⟩) p
 ·have H:=p.l2;refine Z2 18 [4,4,0,0] H Z (z_E_ Z (call65 _) (TV pp mb n o T y c L hR) H.f1 ?_);intro w H;refine Z0 19 [4] Z (AU Z (En (k:=64) H Z J CM Z Z Z U) ?_);rintro _ w ⟨b2,rfl,H⟩;refine Z0 10 [0] Z (Af Z (λh1=>?_) (λh1=>?_))
  ·refine Zc 8 Z (Zr Z ?_);have f:B9 c (A7 (Dm o T) L)=Lq:=by rw[Kr (λe x=>j e x),if_pos U]
   exact ⟨_,.inl ⟨hb,b2,by rw[f];rfl,Z,Z⟩,H.pick 3 [0,1] Z |>.mono 0 rfl (λh q=>by rw[f];exact q)⟩
  refine Zc 3 Z ?_;obtain ⟨vv,u⟩:=(FY j).1.1 (show getE c L≠0 by omega);have a1:=(FY j).2 vv u hR.srt.1;obtain ⟨r,d⟩:=hR.data _ u;have d:Dm o T (getE c L)=some (.dt r):=by rw[a1];exact d
  have a4:=K.i.nin _ _ d;obtain ⟨M0,uu,⟨_,_,_,hm⟩,p,s⟩:=(H.pick 3 [1,0,2] Z).trP;obtain ⟨X,t,p⟩:=p.po;have a0:(⟨5,r⟩:Pg)=Ek X.G.M (TJ X.g uu) (getE c L):=by have h1:=(hm _ _ d).1;rcases uu with _|T';exact h1.symm.trans (t.m0 _ (.inr U));exact h1.symm.trans ((t.tx T' Z).m _ (.inr U))
  have l:r.length=240:=(hm _ _ d).2.2;have f:B9 c (A7 (Dm o T) L)=r.take 64:=by rw[Kr (λe x=>j e x),if_neg U,d];rfl
  clear H;have H:=p.l9;refine Z2 7 [0,0,0,0] H Z (Au Z (call68 _) (Li X.ps X.pd X.D X.G (TJ X.g uu) (getE c L) (by rw[t.pg];omega) t.fine.clean.f1 ⟨5,r⟩ a0) H.f1 ?_);rintro _ w _ (⟨a2,rfl,rfl⟩|⟨a3,rv,rfl,rfl⟩) p
  ·(exfalso;have h0:noPg.kind=(⟨5,r⟩:Pg).kind:=(by rw[a2]);cases h0)
  have H:=p.l10;obtain ⟨gb,a5,rest,rfl,c1,c2,c3,H⟩:=H.ungrow 0 Z U;refine Za 3 [] H Z ?_;intro b3 w H;refine Z4 30 [0,4,0,0,0,4,1,0,0] H Z ?_;intro w H;refine AU Z (F8 9 H Z Z J Z Z (m:=240) (news:=(r.map u8)) (.inl (H.rv 1 (·.rd U U (by rw[Aeh,Aei,l];omega) (by rw[Aey,AeS,AeI (by rw[Aei,l])])))) (by simp[u8,Value.oneCell']) O (k:=64) (by decide) (out:=((B9 c (A7 (Dm o T) L)).map u8)) (by rw[f];simp[l,Afr,Aem])) ?_;rintro _ w ⟨rfl,H⟩;refine Zc 10 Z (Zr Z ?_);have H8:=s _ _ ((H.pick 11 [3,2,4,5,6,7,8,9] Z).toPo (X:=X) t Z);exact ⟨_,.inl ⟨hb,b2,by rw[f];simp[l],Z,Z⟩,H8.pick 2 [1,0] Z⟩
 have H:=p.l2;refine Z0 18 [3] Z (Zr Z ?_);exact ⟨_,.inr ⟨hb,Z,Z⟩,H.pick 2 [1] Z⟩
end
section
variable{Tb:Ai}
theorem trA.k0{mb:Nat}{o:TB}{T:TT}(a:trA Tb m mb n o T h):TrK n o none:=by
 have key:∀(M0:Nat->Pg) (u:Option PoT),Rel n M0 o.N o.C o.R->poA Tb m mb n M0 o.C u h->TrK n o none:=λM0 u c a=>by
  have d:=a.hn;refine ⟨d,c.i,a.c0.2,λp hp=>?_⟩;have b:AR n o.C p=true:=hp;simp[AR] at b;refine ⟨b.1,b.2,?_⟩;rcases Aeu (manyN n) p with h|h
  ·exact h
  have:=a.c0.2 p h;omega
 cases T with
 | none=>obtain ⟨M0,c,a⟩:=a;exact key M0 _ c a
 | some s=>obtain ⟨M0,M,⟨c,_⟩,a⟩:=a;exact key M0 _ c a
structure WrF(n:Nat)(o:TB)(t3:TS)(ra r:Nat)(Q:List Nat)(kk:Int)(val:Nat)(bs:List UInt8)(L:List E):Prop where
 root:Root t3.N r (putE kk val L)
 nd:(vals (putE kk val L)).Nodup
 kp:Kp o.N t3.N Q
 dt:Dt o.N t3.N
 vol:∀V2,PutAt kk bs (A7 o.N L) V2->V2=A7 t3.N (putE kk val L)
 k:t3.k<=17
 f:cnt (AR n o.C) 0 1024<=cnt t3.F 0 1024+12
 g:cnt t3.F 0 1024<=cnt (AR n t3.C) 0 1024
theorem WrF.of{n:Nat}{o:TB}{t2 t3:TS}{l r:Nat}{Q:List Nat}{i:Int}{val:Nat}{bs:List UInt8}{L:List E}(K:TrK n o none)(t:bs.length=64)(p:o.N val=none)(s:t2.N=fup o.N val (some (.dt (bs++List.replicate 176 0))))(g:t2.F val=false)(a:∀q,t2.F q=true->AR n o.C q=true)(j:∀h c lo hi m L,Tr o.N h c lo hi m L->Tr t2.N h c lo hi m L)(y:St t2 t3 Q 11 16)(v:Root o.N l L)(b:Root t3.N r (putE i val L))(d:(vals (putE i val L)).Nodup)(w:t2.k<=0+1)(u:cnt (AR n o.C) 0 1024=cnt t2.F 0 1024+1)(e:cnt t3.F 0 1024<=cnt (AR n t3.C) 0 1024):WrF n o t3 l r Q i val bs L:=by
 have hk:=y.k;have hf:=y.f;refine ⟨b,d,Kp.of λc z h lo hi m L x=>y.fr c z h lo hi m L (j h c lo hi m L x),TX K p s a y,λV2 hp=>?_,by omega,by omega,e⟩;exact ZT K p s g a y v b (by rw[AeI t];exact hp)
set_option maxHeartbeats 4000000 in
theorem Wx (pp mb n:Nat) (o:TB) (id st sz q mp j:Int) (g:Nat) (L:List E) (Q:List Nat) (D:Ai) (dv:Value) (bs:List UInt8) (p:LwI n o g L Q) (hv:D7 id st sz q (g:Int) mp) (hD:∀h,D h->rdH 1 dv bs.length (bs.map u8) h):Ak 32 [Y pp,.agg #[I id,I st,I sz,I q,I (g:Int),I mp],I j,dv] [trA Tb pp mb n o (some ((⟨o.N,o.C,AR n o.C,0⟩:TS),Ba g++Q)),D] (λv G=>(¬(0<=j/\j<sz)/\v=.tuple #[.agg #[I 0,I 0,I 0,I 0,I 0,I 0],I 34]/\G=[trA Tb pp mb n o (some (⟨o.N,o.C,AR n o.C,0⟩,Ba g++Q)),D])\/((0<=j/\j<sz)/\bs.length≠64/\v=.tuple #[.agg #[I 0,I 0,I 0,I 0,I 0,I 0],I 1]/\G=[trA Tb pp mb n o (some (⟨o.N,o.C,AR n o.C,0⟩,Ba g++Q)),D])\/(((0<=j/\j<sz)/\bs.length=64)/\(getE j L=0/\q<=mp)/\v=.tuple #[.agg #[I 0,I 0,I 0,I 0,I 0,I 0],I 30]/\G=[trA Tb pp mb n o (some (⟨o.N,o.C,AR n o.C,0⟩,Ba g++Q)),D])\/(((0<=j/\j<sz)/\bs.length=64/\¬(getE j L=0/\q<=mp))/\cnt (AR n o.C) 0 1024<=11/\∃s3,v=.tuple #[.agg #[I 0,I 0,I 0,I 0,I 0,I 0],I 20]/\G=[trA Tb pp mb n o (some s3),D])\/(((0<=j/\j<sz)/\bs.length=64/\¬(getE j L=0/\q<=mp))/\∃(t3:TS) (r val:Nat),WrF n o t3 g r Q j val bs L/\v=.tuple #[.agg #[I id,I st,I sz,I q,I (r:Int),I (if getE j L=0 then mp+1 else mp)],I 0]/\G=[trA Tb pp mb n o (some (t3,Ba r++Q)),D])):=by
 intro z R w H;obtain ⟨c6,dc,rfl⟩:=H.sy 1 (λq=>(hD _ q).slc);have c5:=H.sy 1 (λq=>(hD _ q).slcap);have K0:=H.says 0 Z (λh a=>trA.k0 a);have K:=H.says 0 Z (λh a=>trA.k a);refine Ae func32 Z ntmps32 Z (Za 2 [] H Z ?_);intro b1 w H;refine Za 0 [] H Z ?_;intro b2 w H;refine Z2 9 [1,6] H Z (Au Z (call64 _) (O6 hv) H ?_);rintro _ w _ (⟨t,rfl,rfl⟩|⟨t,rfl,rfl⟩) u
 ·have H:=u.l4;refine Z0 17 [4] Z (z_E_ Z (call18 _) (GB pp mb n o _) H.f2 ?_);intro w H;refine AD 25 (v:=.bool true) Z Z (Z0 13 [0] Z (Af Z (λh1=>?_) (λh1=>?_)))
  ·refine Zc 2 Z (Ad Z (Be Z Z (out:=[I 0,I 0,I 0,I 0,I 0,I 0]) J) (Z4 5 [1] H Z ?_));intro w H;refine Zl [1,6] H Z ?_;exact ⟨_,.inr (.inl ⟨t,by omega,Z,Z⟩),H.pick 4 [0,3] Z⟩
  refine Z2 9 [4,2,0] H Z (z_E_ Z (call65 _) (TV pp mb n o (some ((⟨o.N,o.C,AR n o.C,0⟩:TS),Ba g++Q)) g j L p.root) H ?_);intro w H;refine Z0 23 [4,0] Z (An 47 Z (λh2=>?_) (λh2=>?_))
  ·refine Z2 8 [5,2,0,3,2,0,0] H Z (Af Z (λh3=>?_) (λh3=>?_))
   ·refine Zc 2 Z (Ad Z (Be Z Z (out:=[I 0,I 0,I 0,I 0,I 0,I 0]) J) (Z4 5 [1] H Z ?_));intro w H;refine Zl [1,6] H Z ?_;exact ⟨_,.inr (.inr (.inl ⟨⟨t,by omega⟩,⟨by omega,by omega⟩,Z,Z⟩)),H.pick 4 [0,3] Z⟩
   refine Zc 3 Z ?_;have s:bs.length=64:=by omega
   refine Zc 1 Z (AU Z (En (k:=240) H Z J CM Z Z Z U) ?_);rintro _ w ⟨b3,rfl,H⟩;refine Zc 7 Z (AU Z (F8 0 H Z Z J Z Z (m:=bs.length) (news:=(bs.map u8)) (.inl (H.rv 4 (hD _))) (by simp[u8,Value.oneCell']) (by rw[Afl];omega) (k:=64) U (out:=((bs++List.replicate 176 0).map u8)) (by rw[Aem (l:=bs.map u8) (by rw[Aei];omega)];simp[u8])) ?_);rintro _ w ⟨rfl,H⟩;refine Zc 7 Z (Au Z (call66 _) (O5 pp mb n o (⟨o.N,o.C,AR n o.C,0⟩:TS) (Ba g++Q) (bs++List.replicate 176 0) (by simp[s]) b3 (by show 0<40;omega)) H.f1 ?_);rintro _ w _ (⟨a5,rfl,rfl⟩|⟨val,t2,⟨⟨a2,a0,a6,a9⟩,b6,a4,y,a1⟩,rfl,rfl⟩) u
   ·have H:=u.l5;have b9:cnt (AR n o.C) 0 1024=0:=a5
    have a8:cnt (AR n o.C) 0 1024<=11:=by omega
    refine Z0 17 [3] Z (Ad Z (Be Z Z (out:=[I 0,I 0,I 0,I 0,I 0,I 0]) J) (Z4 6 [2] H Z ?_));intro w H;refine Zl [2,6] H Z ?_;exact ⟨_,.inr (.inr (.inr (.inl ⟨⟨t,by omega,by omega⟩,by omega,_,Z,Z⟩))),H.pick 5 [0,4] Z⟩
   have H:=u.l5;have a8:cnt (AR n o.C) 0 1024=cnt t2.F 0 1024+1:=a1;have c1:t2.k<=0+1:=y;refine Z2 25 [4,4,3,0] H Z ?_;have a7:Root t2.N g L:=Kp.of (Q:=[g]) (λc _ h=>a4 h c) g O L p.root;have c0:sz<=1048576:=by have:=hv;unfold D7 at this;omega
   have x:t2.N val=some (.dt (bs++List.replicate 176 0)):=by rw[a0,BK]
   refine Au Z (call67 _) (XF pp mb n o t2 Q g j val L a7 p.n p.nd U x b6 U p.q) H ?_;rintro _ w _ (⟨c4,s3,rfl,rfl⟩|⟨t3,r,⟨d,b5,b0⟩,rfl,rfl⟩) u
   ·have H:=u.l5;have b7:cnt (AR n o.C) 0 1024<=11:=by omega
    refine Z4 17 [4,3,3] H Z ?_;intro w H;refine Ad Z (Be Z Z (out:=[I 0,I 0,I 0,I 0,I 0,I 0]) J) (Z4 6 [2] H Z ?_);intro w H;refine Zl [2,6] H Z ?_;exact ⟨_,.inr (.inr (.inr (.inl ⟨⟨t,by omega,by omega⟩,by omega,_,Z,Z⟩))),H.pick 5 [0,4] Z⟩
   have H:=u.l5;have a3:(vals (putE j val L)).Nodup:=Lp p.root.srt.1 p.nd (λq=>by obtain ⟨e,he,rfl⟩:=Aen.1 q;obtain ⟨b,t⟩:=p.root.data e he;rw[show o.N e.2=none from a2] at t;cases t);refine Z4 24 [4,3,4,0] H Z ?_;intro w H;refine Af Z (λh4=>?_) (λh4=>?_)
   ·have b8:=hv
    unfold D7 at b8;refine Z5 16 [5,3,0,5,3,3,6,2] [mp+1] H Z U ?_;intro w H;refine Zl [2,6] H Z ?_;exact ⟨_,.inr (.inr (.inr (.inr ⟨⟨t,by omega,by omega⟩,t3,r,val,WrF.of K0 s a2 a0 a6 a9 a4 d p.root b5 a3 y a1 b0,by rw[if_pos U],Z⟩))),H.pick 5 [0,4] Z⟩
   exact absurd h2 h4
  refine Zc 12 Z ?_;have s:bs.length=64:=by omega
  refine Zc 1 Z (AU Z (En (k:=240) H Z J CM Z Z Z U) ?_);rintro _ w ⟨b4,rfl,H⟩;refine Zc 7 Z (AU Z (F8 0 H Z Z J Z Z (m:=bs.length) (news:=(bs.map u8)) (.inl (H.rv 4 (hD _))) (by simp[u8,Value.oneCell']) (by rw[Afl];omega) (k:=64) U (out:=((bs++List.replicate 176 0).map u8)) (by rw[Aem (l:=bs.map u8) (by rw[Aei];omega)];simp[u8])) ?_);rintro _ w ⟨rfl,H⟩;refine Zc 7 Z (Au Z (call66 _) (O5 pp mb n o (⟨o.N,o.C,AR n o.C,0⟩:TS) (Ba g++Q) (bs++List.replicate 176 0) (by simp[s]) b4 (by show 0<40;omega)) H.f1 ?_);rintro _ w _ (⟨a5,rfl,rfl⟩|⟨val,t2,⟨⟨a2,a0,a6,a9⟩,b6,a4,y,a1⟩,rfl,rfl⟩) u
  ·have H:=u.l5;have b9:cnt (AR n o.C) 0 1024=0:=a5
   have a8:cnt (AR n o.C) 0 1024<=11:=by omega
   refine Z0 17 [3] Z (Ad Z (Be Z Z (out:=[I 0,I 0,I 0,I 0,I 0,I 0]) J) (Z4 6 [2] H Z ?_));intro w H;refine Zl [2,6] H Z ?_;exact ⟨_,.inr (.inr (.inr (.inl ⟨⟨t,by omega,by omega⟩,by omega,_,Z,Z⟩))),H.pick 5 [0,4] Z⟩
  have H:=u.l5;have a8:cnt (AR n o.C) 0 1024=cnt t2.F 0 1024+1:=a1;have c1:t2.k<=0+1:=y;refine Z2 25 [4,4,3,0] H Z ?_;have a7:Root t2.N g L:=Kp.of (Q:=[g]) (λc _ h=>a4 h c) g O L p.root;have c0:sz<=1048576:=by have:=hv;unfold D7 at this;omega
  have x:t2.N val=some (.dt (bs++List.replicate 176 0)):=by rw[a0,BK]
  refine Au Z (call67 _) (XF pp mb n o t2 Q g j val L a7 p.n p.nd U x b6 U p.q) H ?_;rintro _ w _ (⟨c4,s3,rfl,rfl⟩|⟨t3,r,⟨d,b5,b0⟩,rfl,rfl⟩) u
  ·have H:=u.l5;have b7:cnt (AR n o.C) 0 1024<=11:=by omega
   refine Z4 17 [4,3,3] H Z ?_;intro w H;refine Ad Z (Be Z Z (out:=[I 0,I 0,I 0,I 0,I 0,I 0]) J) (Z4 6 [2] H Z ?_);intro w H;refine Zl [2,6] H Z ?_;exact ⟨_,.inr (.inr (.inr (.inl ⟨⟨t,by omega,by omega⟩,by omega,_,Z,Z⟩))),H.pick 5 [0,4] Z⟩
  have H:=u.l5;have a3:(vals (putE j val L)).Nodup:=Lp p.root.srt.1 p.nd (λq=>by obtain ⟨e,he,rfl⟩:=Aen.1 q;obtain ⟨b,t⟩:=p.root.data e he;rw[show o.N e.2=none from a2] at t;cases t);refine Z4 24 [4,3,4,0] H Z ?_;intro w H;refine Af Z (λh5=>?_) (λh5=>?_)
  ·exact absurd h5 h2
  refine Z4 10 [3,6,2] H Z ?_;intro w H;refine Zl [2,6] H Z ?_;exact ⟨_,.inr (.inr (.inr (.inr ⟨⟨t,by omega,by omega⟩,t3,r,val,WrF.of K0 s a2 a0 a6 a9 a4 d p.root b5 a3 y a1 b0,by rw[if_neg U],Z⟩))),H.pick 5 [0,4] Z⟩
 have H:=u.l4;refine Z0 12 [3] Z (Ad Z (Be Z Z (out:=[I 0,I 0,I 0,I 0,I 0,I 0]) J) (Z4 6 [0] H Z ?_));intro w H;refine Zl [0,6] H Z ?_;exact ⟨_,.inl ⟨t,Z,Z⟩,H.pick 4 [2,3] Z⟩
end
section
variable{Tb:Ai}
structure UnF(n:Nat)(o:TB)(t3:TS)(r:Nat)(Q:List Nat)(kk:Int)(L:List E):Prop where
 root:Root t3.N r (BY kk L)
 nd:(vals (BY kk L)).Nodup
 kp:Kp o.N t3.N Q
 dt:Dt o.N t3.N
 k:t3.k<=0+27
 f:cnt (AR n o.C) 0 1024<=cnt t3.F 0 1024+12
 g:cnt t3.F 0 1024<=cnt (AR n t3.C) 0 1024
set_option maxHeartbeats 4000000 in
theorem Wy (pp mb n:Nat) (o:TB) (id p sz q i b:Int) (e:Nat) (L:List E) (Q:List Nat) (j:LwI n o e L Q) (hv:D7 id p sz q (e:Int) i):Ak 36 [Y pp,.agg #[I id,I p,I sz,I q,I (e:Int),I i],I b] [trA Tb pp mb n o (some ((⟨o.N,o.C,AR n o.C,0⟩:TS),Ba e++Q))] (λv G=>(¬(0<=b/\b<sz)/\v=.tuple #[.agg #[I 0,I 0,I 0,I 0,I 0,I 0],I 34]/\G=[trA Tb pp mb n o (some (⟨o.N,o.C,AR n o.C,0⟩,Ba e++Q))])\/(((0<=b/\b<sz)/\¬CE b L)/\v=.tuple #[.agg #[I id,I p,I sz,I q,I (e:Int),I i],I 0]/\G=[trA Tb pp mb n o (some (⟨o.N,o.C,AR n o.C,0⟩,Ba e++Q))])\/(((0<=b/\b<sz)/\cnt (AR n o.C) 0 1024<=12)/\∃s3,v=.tuple #[.agg #[I 0,I 0,I 0,I 0,I 0,I 0],I 20]/\G=[trA Tb pp mb n o (some s3)])\/(((0<=b/\b<sz)/\CE b L)/\∃(t3:TS) (r:Nat),UnF n o t3 r Q b L/\v=.tuple #[.agg #[I id,I p,I sz,I q,I (r:Int),I (i-1)],I 0]/\G=[trA Tb pp mb n o (some (t3,Ba r++Q))])):=by
 intro z R w H;have K0:=H.says 0 Z (λh a=>trA.k0 a);refine Ae func36 Z ntmps36 Z (Za 2 [] H Z ?_);intro b1 w H;refine Za 0 [] H Z ?_;intro b2 w H;refine Z2 9 [1,6] H Z (Au Z (call64 _) (O6 hv) H ?_);rintro _ w _ (⟨l,rfl,rfl⟩|⟨l,rfl,rfl⟩) g
 ·have H:=g.l3;refine Z0 16 [4] Z (z_E_ Z (call18 _) (GB pp mb n o _) H.f2 ?_);intro w H;refine AD 21 (v:=.bool true) Z Z (Z2 12 [4,2,0] H Z (Au Z (call69 _) (Adi pp mb n o (⟨o.N,o.C,AR n o.C,0⟩:TS) Q e b L j.root j.nd j.n (by show 0<=10;omega) j.q) H ?_));rintro _ w _ (⟨a2,rfl,rfl⟩|⟨u,s3,rfl,rfl⟩|⟨t3,r,⟨y,d,a1,a0⟩,rfl,rfl⟩) g
  ·have H:=g.l3;refine Z4 43 [4,4,2,2,6,1] H Z ?_;intro w H;refine Zl [1,6] H Z ?_;exact ⟨_,.inr (.inl ⟨⟨l,a2⟩,Z,Z⟩),H.pick 3 [0] Z⟩
  ·have H:=g.l3;have t:cnt (AR n o.C) 0 1024<=12:=u
   refine Z0 19 [3] Z (Ad Z (Be Z Z (out:=[I 0,I 0,I 0,I 0,I 0,I 0]) J) (Z4 6 [1] H Z ?_));intro w H;refine Zl [1,6] H Z ?_;exact ⟨_,.inr (.inr (.inl ⟨⟨l,t⟩,_,Z,Z⟩)),H.pick 3 [0] Z⟩
  have H:=g.l3;refine Z4 33 [4,4,2] H Z ?_;intro w H;have s:=hv;unfold D7 at s;refine Z5 16 [5,2,0,5,2,2,6,1] [i-1] H Z U ?_;intro w H;refine Zl [1,6] H Z ?_;exact ⟨_,.inr (.inr (.inr ⟨⟨l,y⟩,t3,r,⟨a1,Lo j.nd,Kp.of λc hc h lo hi m L x=>d.fr c hc h lo hi m L x,d.dtd K0,d.k,d.f,a0⟩,Z,Z⟩)),H.pick 3 [0] Z⟩
 have H:=g.l3;refine Z0 12 [3] Z (Ad Z (Be Z Z (out:=[I 0,I 0,I 0,I 0,I 0,I 0]) J) (Z4 6 [0] H Z ?_));intro w H;refine Zl [0,6] H Z ?_;exact ⟨_,.inl ⟨l,Z,Z⟩,H.pick 3 [2] Z⟩
end
section
variable{Tb:Ai}
section
variable{P:Program}{C:World->Prop}{o:Oper}{n:Nat}{ds:List Deferred}{L:List (Nat×Value)}{x y:Operand}{xt yt:TypeId}
end
theorem PH{L:List E}(hs:Srt L)(hp:∀e∈L,1<=e.2)(k:Int)(v:Nat):((putE k v L).length:Int)=if getE k L=0 then (L.length:Int)+1 else L.length:=by
 rcases key_split hs k with ⟨X,v0,Y_,rfl,a⟩|⟨c,X,Y_,rfl,a,b⟩
 ·rw[if_neg ((FY hp).1.2 ⟨v0,by simp⟩),Ed a];simp
 rw[if_pos (Afg λq=>c ((FY hp).1.1 q)),putE_new a b];simp<;>omega
theorem PI{L:List E}(hs:Srt L)(h:CE t L):(L.length:Int)-1=((BY t L).length:Int):=by
 rcases key_split hs t with ⟨X,v0,Y_,rfl,b⟩|⟨a,_⟩
 ·rw[L7 hs];simp<;>omega
 exact absurd h a
theorem UnF.vol{n:Nat}{o:TB}{t3:TS}{Q:List Nat}{L:List E}(h:UnF n o t3 r Q t L)(d:Root o.N m L):A7 t3.N (BY t L)=Bz t (A7 o.N L):=by
 rw[volB_del];refine Ja λe c=>?_;obtain ⟨b,f⟩:=d.data e (Afe.1 c).1;obtain ⟨g,a⟩:=h.root.data e c;exact h.dt _ _ _ f a
end
section
structure Vl where
 id:Int
 st:Int
 sz:Int
 q:Int
 r:Int
 mp:Int
deriving DecidableEq
def Vl.cells(v:Vl):List Value:=[.int .i64 v.id,.int .i64 v.st,.int .i64 v.sz,.int .i64 v.q,.int .i64 v.r,.int .i64 v.mp]
def AY(vs:List Vl):List Value:=vs.flatMap Vl.cells
theorem ZV(vs:List Vl):(AY vs).length=vs.length*6:=by
 induction vs with
 | nil=>rfl
 | cons e es ih=>simp only[AY,AeJ,Aeh] at ih ⊢;rw[ih];simp[Vl.cells];omega
theorem JK(A B:List Vl):AY (A++B)=AY A++AY B:=by simp[AY]
theorem QT(vs:List Vl):∀c∈AY vs,c.oneCell'=true:=λc a=>by
 simp only[AY,Agj] at a;obtain ⟨e,_,b⟩:=a;simp[Vl.cells] at b;rcases b with rfl|rfl|rfl|rfl|rfl|rfl<;>rfl
theorem AI:∀{vs:List Vl} {j:Nat} {e:Vl},vs[j]?=some e->∀k u,(Vl.cells e)[k]?=some u->(AY vs)[j*6+k]?=some u
 | x::es,0,e,h,k,u,hk=>by
  simp at h;subst h;have hl:=(Aee.1 hk).1;simp only[AY,AeJ];rw[Aep U];simpa using hk
 | x::es,j+1,e,h,k,u,hk=>by
  have:=AI (vs:=es) (j:=j) (by simpa using h) k u hk;simp only[AY,AeJ] at this ⊢;rw[Aev (by simp[Vl.cells];omega)];rw[show (j+1)*6+k-(Vl.cells x).length=j*6+k from by simp[Vl.cells];omega];exact this
structure Vl.Fit(v:Vl):Prop where
 id:0<=v.id/\v.id<=1073741824
 st:0<=v.st/\v.st<=2
 sz:0<=v.sz/\v.sz<=1048576
 q:0<=v.q/\v.q<=1048576
 r:0<=v.r/\v.r<=1023
 mp:0<=v.mp/\v.mp<=1048576
def v0:Vl:=⟨0,0,0,0,0,0⟩
theorem v0_fit:v0.Fit:=by constructor<;>decide
def FK(v:Vl):List UInt8:=Ag 4 v.id++Ag 1 v.st++Ag 4 v.sz++Ag 4 v.q++Ag 2 v.r++Ag 4 v.mp
theorem ZW(v:Vl):(FK v).length=19:=by simp[FK,Ah]
theorem ZX(vs:List Vl):(vs.flatMap FK).length=19*vs.length:=by
 induction vs with
 | nil=>rfl
 | cons e es ih=>rw[AeJ,Aeh,ih,ZW,Aej];omega
theorem QU(sk:List Int):(sk.flatMap (Ag 2)).length=2*sk.length:=by
 induction sk with
 | nil=>rfl
 | cons e es ih=>rw[AeJ,Aeh,ih,Ah,Aej];omega
def Ey(nx:Int)(sk:List Int)(i:Nat):List UInt8:=Ag 4 nx++Ag 1 (sk.length:Int)++(sk.take i).flatMap (Ag 2)
theorem IH(nx:Int)(sk:List Int)(h:i<=sk.length):(Ey nx sk i).length=5+2*i:=by
 simp only[Ey,Aeh,Ah,QU,AeA];omega
theorem T0(nx:Int){sk:List Int}(h:sk[i]?=some t):Ey nx sk (i+1)=Ey nx sk i++Ag 2 t:=by
 simp only[Ey,AeQ,h,Af3,Option.toList,AeJ,AhE,AeY,Aek]
def Cf(nx:Int)(sk:List Int)(vs:List Vl)(i:Nat):List UInt8:=Ey nx sk sk.length++List.replicate (16-2*sk.length) 0++(vs.take i).flatMap FK
theorem Ez(nx:Int){sk:List Int}(hs:sk.length<=8){vs:List Vl}(h:i<=vs.length):(Cf nx sk vs i).length=21+19*i:=by
 simp only[Cf,Aeh,IH nx sk (Ael _),Afl,ZX,AeA];omega
theorem T3(nx:Int)(sk:List Int){vs:List Vl}{v:Vl}(h:vs[i]?=some v):Cf nx sk vs (i+1)=Cf nx sk vs i++Ag 4 v.id++Ag 1 v.st++Ag 4 v.sz++Ag 4 v.q++Ag 2 v.r++Ag 4 v.mp:=by
 simp only[Cf,AeQ,h,Af3,Option.toList,AeJ,AhE,AeY,Aek,FK]
theorem T4(nx:Int){sk:List Int}(hs:sk.length<=8)(vs:List Vl):AL (Ey nx sk sk.length)=AL (Cf nx sk vs 0):=by
 have h:=IH nx sk (Ael _);simp only[Cf,AfH,AhE,AeY,AL,Aek,Aeh,Afl,h];rw[Aga];congr 2;omega
def Dr(nx:Int)(sk:List Int)(vs:List Vl):List UInt8:=((AL (Cf nx sk vs vs.length)).drop 0).take 240
variable{nx:Int}{sk:List Int}{vs:List Vl}
theorem Ks(hs:sk.length<=8)(a:vs.length=8):(Dr nx sk vs).length=240:=by
 have:=AW (l:=Cf nx sk vs vs.length) (by rw[Ez nx hs (Ael _),a];omega);unfold Dr;rw[AeA,Aey,this];rfl
theorem G5(hs:sk.length<=8)(h:vs.length=8)(a b c:List UInt8){p:Nat}(e:Cf nx sk vs vs.length=a++b++c)(hp:p=a.length)(f:n=b.length):((Dr nx sk vs).drop p).take n=b:=by
 have d:=Ez (i:=vs.length) nx hs (Ael _);have g:a.length+b.length+c.length=173:=by rw[e] at d;simp only[Aeh] at d;omega
 unfold Dr AL;rw[Aey,AfY,AeG,AeH U,e,Aek (a++b)];exact Hd a b hp f
theorem Lr{α:Type}(f:α->List UInt8){l:List α}{x:α}(h:l[i]?=some x):l.flatMap f=(l.take i).flatMap f++f x++(l.drop (i+1)).flatMap f:=by
 obtain ⟨hi,rfl⟩:=Aee.1 h;have e:l=l.take i++l[i]::l.drop (i+1):=by rw[<-Ae2 hi,AeO]
 have e2:l.flatMap f=(l.take i++l[i]::l.drop (i+1)).flatMap f:=congrArg (λm=>List.flatMap f m) e;rw[e2,Af3,AeJ,Aek]
theorem Wz(hs:sk.length<=8)(a:vs.length=8)(h:0<=nx/\nx<=1073741824):A5 (((Dr nx sk vs).drop 0).take 4)=nx:=by
 rw[G5 (p:=0) hs a [] (Ag 4 nx) (Ag 1 (sk.length:Int)++(sk.take sk.length).flatMap (Ag 2)++List.replicate (16-2*sk.length) 0++(vs.take vs.length).flatMap FK) (by simp[Cf,Ey]) Z (Ah 4 _).symm];exact BX h.1 U U
theorem WA(hs:sk.length<=8)(a:vs.length=8):A5 (((Dr nx sk vs).drop 4).take 1)=(sk.length:Int):=by
 rw[G5 hs a (Ag 4 nx) (Ag 1 (sk.length:Int)) ((sk.take sk.length).flatMap (Ag 2)++List.replicate (16-2*sk.length) 0++(vs.take vs.length).flatMap FK) (by simp[Cf,Ey]) (Ah 4 _).symm (Ah 1 _).symm];exact BX U U U
theorem Ach(hs:sk.length<=8)(b:vs.length=8)(h:sk[i]?=some t)(a:0<=t/\t<=1023):A5 (((Dr nx sk vs).drop (5+2*i)).take 2)=t:=by
 have hi:=(Aee.1 h).1;rw[G5 hs b (Ag 4 nx++Ag 1 (sk.length:Int)++(sk.take i).flatMap (Ag 2)) (Ag 2 t) ((sk.drop (i+1)).flatMap (Ag 2)++List.replicate (16-2*sk.length) 0++(vs.take vs.length).flatMap FK) (by simp only[Cf,Ey,Afa];rw[Lr (Ag 2) h];simp only[Aek]) (by simp only[Aeh,Ah,QU,AeA];omega) (Ah 2 _).symm];exact BX a.1 U U
theorem ZY(hs:sk.length<=8)(a:vs.length=8)(h:i<8-sk.length):A5 (((Dr nx sk vs).drop (5+2*sk.length+2*i)).take 2)=0:=by
 have e:List.replicate (16-2*sk.length) (0:UInt8)=List.replicate (2*i) 0++Ag 2 0++List.replicate (16-2*sk.length-2*i-2) 0:=by
  rw[show Ag 2 0=List.replicate 2 (0:UInt8) by decide,Aga,Aga];congr 1;omega
 rw[G5 hs a (Ey nx sk sk.length++List.replicate (2*i) 0) (Ag 2 0) (List.replicate (16-2*sk.length-2*i-2) 0++(vs.take vs.length).flatMap FK) (by simp only[Cf];rw[e];simp only[Aek]) (by simp only[Aeh,IH nx sk (Ael _),Afl]) (Ah 2 _).symm];decide
theorem Ia(hs:sk.length<=8)(f:vs.length=8){v:Vl}(h:vs[i]?=some v)(a b c:List UInt8)(e:FK v=a++b++c)(hp:n=21+19*i+a.length)(d:m=b.length):((Dr nx sk vs).drop n).take m=b:=by
 have hi:=(Aee.1 h).1;refine G5 hs f (Cf nx sk vs i++a) b (c++(vs.drop (i+1)).flatMap FK) ?_ (by rw[Aeh,Ez nx hs (Nat.le_of_lt hi),hp]) d;simp only[Cf,Afa];rw[Lr FK h,e];simp only[Aek]
theorem Aci(hs:sk.length<=8)(a:vs.length=8){v:Vl}(h:vs[i]?=some v)(f:v.Fit):A5 (((Dr nx sk vs).drop (21+19*i)).take 4)=v.id:=by
 rw[Ia hs a h [] (Ag 4 v.id) (Ag 1 v.st++Ag 4 v.sz++Ag 4 v.q++Ag 2 v.r++Ag 4 v.mp) (by simp[FK]) O (Ah 4 _).symm];have:=f.id;exact BX this.1 U U
theorem Acj(hs:sk.length<=8)(a:vs.length=8){v:Vl}(h:vs[i]?=some v)(f:v.Fit):A5 (((Dr nx sk vs).drop (21+19*i+4)).take 1)=v.st:=by
 rw[Ia hs a h (Ag 4 v.id) (Ag 1 v.st) (Ag 4 v.sz++Ag 4 v.q++Ag 2 v.r++Ag 4 v.mp) (by simp[FK]) (by simp[Ah]) (Ah 1 _).symm];have:=f.st;exact BX this.1 U U
theorem Ack(hs:sk.length<=8)(a:vs.length=8){v:Vl}(h:vs[i]?=some v)(f:v.Fit):A5 (((Dr nx sk vs).drop (21+19*i+5)).take 4)=v.sz:=by
 rw[Ia hs a h (Ag 4 v.id++Ag 1 v.st) (Ag 4 v.sz) (Ag 4 v.q++Ag 2 v.r++Ag 4 v.mp) (by simp[FK]) (by simp[Ah]) (Ah 4 _).symm];have:=f.sz;exact BX this.1 U U
theorem Adl(hs:sk.length<=8)(a:vs.length=8){v:Vl}(h:vs[i]?=some v)(f:v.Fit):A5 (((Dr nx sk vs).drop (21+19*i+9)).take 4)=v.q:=by
 rw[Ia hs a h (Ag 4 v.id++Ag 1 v.st++Ag 4 v.sz) (Ag 4 v.q) (Ag 2 v.r++Ag 4 v.mp) (by simp[FK]) (by simp[Ah]) (Ah 4 _).symm];have:=f.q;exact BX this.1 U U
theorem Adm(hs:sk.length<=8)(a:vs.length=8){v:Vl}(h:vs[i]?=some v)(f:v.Fit):A5 (((Dr nx sk vs).drop (21+19*i+13)).take 2)=v.r:=by
 rw[Ia hs a h (Ag 4 v.id++Ag 1 v.st++Ag 4 v.sz++Ag 4 v.q) (Ag 2 v.r) (Ag 4 v.mp) (by simp[FK]) (by simp[Ah]) (Ah 2 _).symm];have:=f.r;exact BX this.1 U U
theorem Acl(hs:sk.length<=8)(a:vs.length=8){v:Vl}(h:vs[i]?=some v)(f:v.Fit):A5 (((Dr nx sk vs).drop (21+19*i+15)).take 4)=v.mp:=by
 rw[Ia hs a h (Ag 4 v.id++Ag 1 v.st++Ag 4 v.sz++Ag 4 v.q++Ag 2 v.r) (Ag 4 v.mp) [] (by simp[FK]) (by simp[Ah]) (Ah 4 _).symm];have:=f.mp;exact BX this.1 U U
theorem O7(hs:sk.length<=8)(b:vs.length=8):rz (((Dr nx sk vs).drop 173).take 67)=0:=by
 have a:=Ez (i:=vs.length) nx hs (vs:=vs) (Ael _);rw[b] at a;unfold Dr AL;rw[Aey,AfY,AeG,b,show (173:Nat)=(Cf nx sk vs 8).length by rw[a],AfU Z];refine LU.2 (λx c=>?_);have:=Afi c;exact (Af5.1 this).2
end
end Go.Proofs.YtkblhjdljaoghaaGreatDoor
