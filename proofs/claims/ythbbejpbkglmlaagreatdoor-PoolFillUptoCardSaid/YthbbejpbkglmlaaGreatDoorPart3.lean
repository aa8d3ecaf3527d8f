/-
  Steps to: A pool is filled, page by page, and given back. No condition.
-/
import Derived.Test.YthbbejpbkglmlaaGreatDoorPart2
set_option maxRecDepth 100000
set_option linter.unusedSimpArgs false
set_option linter.unusedVariables false
open Go.Proofs.Tryz
namespace Go.Proofs.YthbbejpbkglmlaaGreatDoor
open Go.RowKit
set_option maxHeartbeats 2000000 in
theorem RI (ps pd pt md f:Nat) (x:Sup) (u:Value) (g:Bc) (k:Nat) (hq:Hp) (n:Nat) (hn:(n:Int)<x.pages) (p:Pg) (hp:p.Ok) (bv:Value) (A:Ai) (hA:∀h,A h->rdH 1 bv 240 (p.body.map u8) h):An 41 [V ps,Aa (n:Int),.agg #[Aa p.kind,bv]] [stB ps pd pt x u md true (.map (some f)),DC f g k hq,poolA hq,A] (λv G=>((g n=none/\40<=k)/\v=Aa 16/\G=[stB ps pd pt x u md true (.map (some f)),DC f g k hq,poolA hq,A])\/(¬(g n=none/\40<=k)/\∃a,BC hq a/\v=Aa 0/\G=[stB ps pd pt x u md true (.map (some f)),DC f (pgSet g n p) (k+(if (g n).isSome then 0 else 1)) a,poolA a,A])):=by
 intro z R w H;replace H:=H.l4;obtain ⟨t,o,d,c,H⟩:=H.pgsc 1 Z;replace H:=H.l4;obtain ⟨bb,oo,cc,rfl⟩:=H.sy 3 (λq=>(hA _ q).sl (by simp[hp.2]));have a6:=hp.1;have a7:(t.map PgE.ie).length=k:=by simp[c]
 refine Af func41 Z ntmps41 Z (Za 2 [] H Z ?_);intro b1 w H;refine Z2 10 [12,1,0] H Z ?_;rcases d.get n with ⟨m,a0⟩|⟨po,i,m,s,a2,a0⟩
 ·refine Ad Z (CS (e:=40) (zv:=.agg #[Aa 0,.slice none 0 0]) Z J J Z Z (AA (H.bk 2 Z))) (k_updA 15 (v:=.tuple #[.agg #[Aa 0,.slice none 0 0],.bool false]) Z (by simp[Ce,a0]) (Za 3 [] H Z ?_));intro b2 w H;refine Z4 22 [0,11,2,0,0] H Z ?_;intro w H;refine Am 27 Z (λh1=>U) (λh1=>?_)
  refine Z2 11 [2,4,2,0,0] H Z (Ag Z (λh2=>U) (λh2=>?_));refine Z2 6 [0,1,0,0] H Z (Am 40 Z (λh3=>U) (λh3=>?_));refine Z2 5 [0,1,0,0] H Z (Am 45 Z (λh4=>U) (λh4=>?_));refine Z2 18 [1,1,0,4,12,2,0] H Z (Ad Z (Lo (e:=40) Z J Z (AA (H.bk 3 Z))) (Z0 5 [0] Z (Ag Z (λh5=>?_) (λh5=>?_))))
  ·refine Zc 6 Z (Zr Z ?_);replace H:=(H.toPgsc 3 Z d c).l6
   exact ⟨_,.inl ⟨⟨m,by omega⟩,Z,Z⟩,H.perm 6 [2,3,4,5] Z Z⟩
  refine Zc 4 Z ?_;replace H:=H.f1.f2;refine BQ (Sep z (stB ps pd pt x u md true (.map (some f))::blk b1 [Aa p.kind,.slice (some ⟨bb,oo,none⟩) 240 cc] 40::R)) 8 Z J (A9 H λw H'=>?_);have H:=H'.l6;refine CC [0,1,2,3,4,5] [12,0,0,1,2] [] (by exact H.pick 6 [0,1] Z) Z J Z (Cg [6] J O (Az (BF Z Z Z Z Z Z (λw=>call64 _ w) (FD p _ _ hA hp) H.f5 Z ?_)));rintro _ w _ ⟨v1,rfl,rfl⟩ H;replace H:=H.l7;refine B3 (H.pick 7 [2,3] Z) (Cg [7] J O (Az (CA Z Z Z (CW 5 (e:=40) H Z Z J Z Z Z) ?_)));rintro w H;replace H:=H.l7;refine B3 (H.pick 7 [2,3] Z) (a_done J (gn (Zc 7 Z (Zr Z ?_))));replace H:=H.f6;obtain ⟨a,⟨b,l⟩,H⟩:=BW H (λh q=>q.rd);replace H:=H.l6;obtain ⟨a1,y,j,r⟩:=(d.le b).put (k:=n) (p:=p) hp l;rw[y] at H;have H:Sep z (poolA a::A::stB ps pd pt x u md true (.map (some f))::blk b1 [Aa p.kind,.slice (some ⟨bb,oo,none⟩) 240 cc] 40::blk b2 [Aa 0,.slice none 0 0] 40::AG f (a1.map PgE.ie) (putC (t.map PgE.ie) (n:Int) o)::R) w:=H;replace H:=(H.toPgsc 5 Z j (by rw[r,c])).l6;exact ⟨_,.inr ⟨λq=>by first|(rw[m] at q;cases q.1;done)|omega,a,b,rfl,rfl⟩,H.perm 6 [2,5,0,1] rfl rfl⟩
 have a3:Slc i 240:=a2.slc;refine Ad Z (CS (e:=40) (zv:=.agg #[Aa 0,.slice none 0 0]) Z J J Z Z (AA (H.bk 2 Z))) (k_updA 15 (v:=.tuple #[.agg #[Aa po.kind,i],.bool true]) Z (by simp[Ce,a0]) (Za 3 [] H Z ?_));intro b3 w H;refine AV Z Z (AD 0 H Z Z Z Z (vs:=[Aa po.kind,i]) Z (Al Z (Al a3.one AL)) J O (out:=[Aa po.kind,i]) Z) ?_;rintro w H;replace H:=H.l6;refine Z2 21 [11,2,0,0] H Z (Am 27 Z (λh6=>U) (λh6=>?_));refine Z2 11 [2,4,2,0,0] H Z (Ag Z (λh7=>U) (λh7=>?_));refine Z2 6 [0,1,0,0] H Z (Am 40 Z (λh8=>U) (λh8=>?_));refine Z2 5 [0,1,0,0] H Z (Am 45 Z (λh9=>U) (λh9=>?_));refine Z2 29 [1,1,0,4] H Z ?_;replace H:=H.f1.f2;refine BQ (Sep z (stB ps pd pt x u md true (.map (some f))::blk b1 [Aa p.kind,.slice (some ⟨bb,oo,none⟩) 240 cc] 40::R)) 8 Z J (A9 H λw H'=>?_);have H:=H'.l6;refine CC [0,1,2,3,4,5] [12,0,0,1,2] [] (by exact H.pick 6 [0,1] Z) Z J Z (Cg [6] J O (Az (BF Z Z Z Z Z Z (λw=>call64 _ w) (FD p _ _ hA hp) H.f5 Z ?_)));rintro _ w _ ⟨v1,rfl,rfl⟩ H;replace H:=H.l7;refine B3 (H.pick 7 [2,3] Z) (Cg [7] J O (Az (CA Z Z Z (CW 5 (e:=40) H Z Z J Z Z Z) ?_)));rintro w H;replace H:=H.l7;refine B3 (H.pick 7 [2,3] Z) (a_done J (gn (Zc 7 Z (Zr Z ?_))));replace H:=H.f6;obtain ⟨a,⟨b,l⟩,H⟩:=BW H (λh q=>q.rd);replace H:=H.l6;obtain ⟨a1,y,j,r⟩:=(d.le b).put (k:=n) (p:=p) hp l;rw[y] at H;have H:Sep z (poolA a::A::stB ps pd pt x u md true (.map (some f))::blk b1 [Aa p.kind,.slice (some ⟨bb,oo,none⟩) 240 cc] 40::blk b3 [Aa po.kind,i] 40::AG f (a1.map PgE.ie) (putC (t.map PgE.ie) (n:Int) o)::R) w:=H;replace H:=(H.toPgsc 5 Z j (by rw[r,c])).l6;exact ⟨_,.inr ⟨λq=>by first|(rw[m] at q;cases q.1;done)|omega,a,b,rfl,rfl⟩,H.perm 6 [2,5,0,1] rfl rfl⟩
section
theorem HI{s:Sup}(hs:SOk s)(x:Int):s.start<=(ringAt s x:Int)/\(ringAt s x:Int)<s.start+s.len:=by
 have d:=hs.start;have a:=hs.head;have b:=ZJ x (by omega:s.len≠0);have c:=Zs x (by omega:0<s.len);unfold ringAt;omega
def Ly(s:Sup)(D D':Dsk):Prop:=∀i:Nat,s.start<=(i:Int)->(i:Int)<s.start+s.len->D'.dur i=D.dur i/\D'.ver i=D.ver i
def SameOut(s:Sup)(D D':Dsk):Prop:=∀i:Nat,¬(s.start<=(i:Int)/\(i:Int)<s.start+s.len)->D'.dur i=D.dur i/\D'.ver i=D.ver i
theorem PInv.out{D D':Dsk}{s:Sup}{rs:List Rc}{f:List (List UInt8)}{a q u:Int}{b:Bool}{sure:Nat}(h:PInv D s rs f a q u b sure)(hs:SOk s)(g:Ly s D D'):PInv D' s rs f a q u b sure:=by
 have d:∀x:Int,D'.dur (ringAt s x)=D.dur (ringAt s x)/\D'.ver (ringAt s x)=D.ver (ringAt s x):=λx=>g _ (HI hs x).1 (HI hs x).2;refine ⟨h.fa,h.fq,h.fu,h.ul,h.pb,h.part,h.recs,λi j c e=>h.old i j c ?_,λi c e=>?_,λi c e=>?_,h.sure⟩
 ·unfold Cx at e ⊢;rwa[(d _).1,(d _).2] at e
 ·have:=h.last i c e
  unfold Dsk.cont at this ⊢;rw[(d _).1,(d _).2];exact this
 rw[(d _).1,(d _).2];exact h.dura i c e
theorem N1{f:Bc}{ims:List Img}{n:Nat}(h:(f n).isSome=true):(DN f ims n).isSome=true:=by rw[MJ,h];rfl
theorem Fc(a:List Rc):∀(rs:List Rc) {n:Nat},(ov rs n).isSome=true->(ov (rs++a) n).isSome=true:=by
 induction a with
 | nil=>intro rs n h;rwa[YJ]
 | cons r a ih=>
  intro rs n h;rw[show rs++r::a=(rs++[r])++a from by simp];exact ih _ (by rw[HB];exact N1 h)
theorem Gi{rs:List Rc}{k n:Nat}(h:(ov (rs.take k) n).isSome=true):(ov rs n).isSome=true:=by
 have:=Fc (rs.drop k) _ h;rwa[YG] at this
structure Clean(D:Dsk):Prop where
 f1:D.f1=0
 f2:D.f2=0
 f3:D.f3=0
 cut:D.cut=false
theorem Clean.bad{D:Dsk}(h:Clean D):¬D.bad:=by
 rintro (g|⟨g,_⟩)
 ·rw[h.f2] at g;cases g
 rw[h.cut] at g;cases g
theorem Clean.flb{D:Dsk}(h:Clean D):¬D.flb:=by
 rintro (g|⟨g,_⟩)
 ·rw[h.f3] at g;cases g
 rw[h.cut] at g;cases g
theorem Clean.wr1{D:Dsk}(h:Clean D)(b:Bool)(x:Nat)(p:List UInt8):Clean (wr1 D b x p):=by
 have a:=Dsk.ws_f b [p] {D with f2:=AP D.f2} x;refine ⟨a.1.trans h.f1,a.2.1.trans ?_,a.2.2.1.trans h.f3,a.2.2.2.1.trans h.cut⟩;show AP D.f2=0;rw[h.f2];rfl
theorem Clean.wr{D:Dsk}(h:Clean D)(x:Nat)(ps:List (List UInt8)):Clean (D.wr x ps):=by
 have a:=Dsk.ws_f false ps {D with f2:=AP D.f2} x;refine ⟨a.1.trans h.f1,a.2.1.trans ?_,a.2.2.1.trans h.f3,a.2.2.2.1.trans h.cut⟩;show AP D.f2=0;rw[h.f2];rfl
theorem Clean.hw(l:List (Nat×Pg)):∀{D:Dsk},Clean D->Clean (hwD D l):=by
 induction l with
 | nil=>intro D h;exact h
 | cons x l ih=>intro D h;rw[hwD_cons];exact ih (h.wr _ _)
theorem Clean.fl{D:Dsk}(h:Clean D):Clean D.fl:=⟨h.f1,h.f2,by show AP D.f3=0;rw[h.f3];rfl,h.cut⟩
theorem Clean.sv{D:Dsk}(h:Clean D)(x:Sup):Clean (En D x):=h.wr1 true _ _
theorem Clean.setF{D:Dsk}(h:Clean D){l:List (Nat×Pg)}{c:Int}{a:Dsk}:¬JM D l c a:=by
 rintro (⟨j,g,_⟩|⟨g,_⟩|⟨g,_⟩)
 ·exact (h.hw _).bad g
 ·exact (h.hw _).flb g
 exact (h.hw _).fl.bad g

structure SInv(D:Dsk)(x:Sup)(B:Nat->Pg)(rs:List Rc)(ptl:List (List UInt8))(a q u:Int)(b:Bool)(sure:Nat):Prop where
 ok:x.Ok (D.n:Int)
 p:PInv D x rs ptl a q u b sure
 s:SOk x
 gen:1<=x.gen
 num:∀r∈rs,∀m∈r.ims,m.num<x.pages
 home:∀i:Nat,(i:Int)<x.pages->∀c,Cx D (2+i) c->HomeP c i (B i)\/((ov (rs.take sure) i).isSome=true/\∃p,HomeP c i p)
 sup:D.dur (x.gen%2).toNat=Br x/\D.ver (x.gen%2).toNat=[]
 oth:∃y:Sup,y.Ok (D.n:Int)/\y.gen=x.gen-1/\D.dur ((x.gen+1)%2).toNat=Br y/\D.ver ((x.gen+1)%2).toNat=[]
 rest:∀i:Nat,2+x.pages<=(i:Int)->¬(x.start<=(i:Int)/\(i:Int)<x.start+x.len)->∀c,Cx D i c->∀e q,Tg c e q->e<=x.epoch
variable{D D':Dsk}{x:Sup}{B:Nat->Pg}{rs:List Rc}{ptl:List (List UInt8)}{a q u:Int}{b:Bool}{sure:Nat}
theorem SInv.cur(h:SInv D x B rs ptl a q u b sure){i:Nat}(c:(i:Int)<x.pages)(d:ov rs i=none):HomeP (D.cont (2+i)) i (B i):=by
 rcases h.home i c _ (cont_has D _) with g|⟨g,_⟩
 ·exact g
 have:=Gi g;rw[d] at this;cases this
theorem SInv.ovb(h:SInv D x B rs ptl a q u b sure){n:Nat}(c:(ov rs n).isSome=true):(n:Int)<x.pages:=by
 obtain ⟨p,hp⟩:=YH.1 c;obtain ⟨r,e,m,d,i,_⟩:=I8 _ rs Z hp;have f:=h.num r e m d;have g:=h.ok.2;omega
theorem SInv.ovok(h:SInv D x B rs ptl a q u b sure){n:Nat}{p:Pg}(d:ov rs n=some p):p.Ok:=by
 obtain ⟨r,f,m,e,_,rfl⟩:=I8 _ rs Z d;obtain ⟨j,c⟩:=YC f;exact ES ((h.p.recs j r c).2.2 m e)
theorem SInv.f(h:SInv D x B rs ptl a q u b sure)(l:D'.n=D.n)(g:D'.dur=D.dur)(j:D'.ver=D.ver):SInv D' x B rs ptl a q u b sure:=
 ⟨by rw[l];exact h.ok,h.p.f g j,h.s,h.gen,h.num,λi k c e=>h.home i k c (by unfold Cx at e ⊢;rwa[g,j] at e),by rw[g,j];exact h.sup,by
  obtain ⟨y,a,b,c,d⟩:=h.oth;exact ⟨y,by rw[l];exact a,b,by rw[g];exact c,by rw[j];exact d⟩,λi k m c e=>h.rest i k m c (by unfold Cx at e ⊢;rwa[g,j] at e)⟩
theorem SInv.log(h:SInv D x B rs ptl a q u b sure)(z:D'.n=D.n)(p:SameOut x D D'){e:List Rc}{f:List (List UInt8)}{a' w v:Int}{t:Bool}(hp:PInv D' x e f a' w v t sure)(l:e.take sure=rs.take sure)(k:∀r∈e,∀m∈r.ims,m.num<x.pages):SInv D' x B e f a' w v t sure:=by
 have hk:=h.ok.2;have hg:=h.gen;have g:∀i:Nat,(i:Int)<x.start->D'.dur i=D.dur i/\D'.ver i=D.ver i:=λi o=>p i U;refine ⟨by rw[z];exact h.ok,hp,h.s,hg,k,λi o c j=>?_,?_,?_,λi o l c j=>h.rest i o l c (by have:=p i l;unfold Cx at j ⊢;rwa[this.1,this.2] at j)⟩
 ·have:=g (2+i) U
  unfold Cx at j;rw[this.1,this.2] at j;rw[l];exact h.home i o c j
 ·have:=g (x.gen%2).toNat U
  rw[this.1,this.2];exact h.sup
 obtain ⟨y,a,b,c,d⟩:=h.oth;have:=g ((x.gen+1)%2).toNat U;exact ⟨y,by rw[z];exact a,b,by rw[this.1];exact c,by rw[this.2];exact d⟩
theorem DM{D:Dsk}{i:Nat}(h:D.ver i=[]):D.cont i=D.dur i:=Ik h
theorem SInv.flush(h:SInv D x B rs ptl a q u b sure):SInv D.fl x B rs ptl a q u b rs.length:=by
 refine ⟨h.ok,h.p.flush,h.s,h.gen,h.num,λi f c e=>?_,?_,?_,λi f k c e=>h.rest i f k c (fl_has e)⟩
 ·rw[YS]
  rcases h.home i f c (fl_has e) with g|⟨j,l⟩
  ·exact .inl g
  exact .inr ⟨Gi j,l⟩
 ·exact ⟨(DM h.sup.2).trans h.sup.1,Z⟩
 obtain ⟨y,a,b,c,d⟩:=h.oth;exact ⟨y,a,b,(DM d).trans c,Z⟩
theorem Uf(a:x.Ok (D.n:Int)){l:List (Nat×Pg)}(c:∀y∈l,(y.1:Int)<x.pages):Ly x D (hwD D l):=λi f _=>by
 have d:=a.2;refine ⟨by rw[I9],Ja l D i λy b e=>?_⟩;have:=c y b;omega
theorem SInv.hw(h:SInv D x B rs ptl a q u b rs.length){l:List (Nat×Pg)}(o:∀y∈l,ov rs y.1=some y.2):SInv (hwD D l) x B rs ptl a q u b rs.length:=by
 have r:=h.gen;have m:∀y∈l,(y.1:Int)<x.pages:=λy j=>h.ovb (by rw[o y j];rfl);have f:∀i:Nat,i<2->(hwD D l).ver i=D.ver i:=λi n=>Ja l D i λy _ e=>by omega
 refine ⟨by rw[Ed];exact h.ok,h.p.out h.s (Uf h.ok m),h.s,r,h.num,λi n c k=>?_,?_,?_,λi n t c k=>?_⟩
 ·rcases hw_has l D _ c k with g|⟨y,j,v,k⟩
  ·exact h.home i n c g
  refine .inr ⟨?_,y.2,.inr ⟨h.ovok (o y j),?_⟩⟩
  ·rw[YS,show i=y.1 from by omega,o y j];rfl
  rw[k,show i=y.1 from by omega]
 ·rw[I9,f _ U];exact h.sup
 ·obtain ⟨y,a,b,c,d⟩:=h.oth
  exact ⟨y,by rw[Ed];exact a,b,by rw[I9];exact c,by rw[f _ U];exact d⟩
 rcases hw_has l D _ c k with g|⟨y,j,v,_⟩
 ·exact h.rest i n t c g
 have:=m y j;omega
theorem SInv.setF(h:SInv D x B rs ptl a q u b rs.length){e:List Int}(g:Ef (ov rs) e){c:Int}{k:Dsk}(m:JM D (pgLst (ov rs) e) c k):SInv k x B rs ptl a q u b rs.length:=by
 have i:∀l:List (Nat×Pg),(∀y∈l,y∈pgLst (ov rs) e)->SInv (hwD D l) x B rs ptl a q u b rs.length:=λl n=>h.hw λy d=>(DD g y.1 y.2).1 (n y d);rcases m with ⟨j,_,_,rfl⟩|⟨_,_,rfl⟩|⟨_,_,rfl⟩
 ·exact (i _ λy d=>YF d).f Z Z Z
 ·exact (i _ λy d=>d).f Z Z Z
 exact (i _ λy d=>d).flush.f Z Z Z
theorem SInv.settled(h:SInv D x B rs ptl a q u b rs.length){f:List Int}(j:Ef (ov rs) f)(hq:q<=1099511627776){y:Sup}(hy:y.Ok (D.n:Int))(h1:y.start=x.start)(o:y.len=x.len)(h3:y.epoch=x.epoch)(h4:y.head=a)(h5:y.seq=q)(h6:y.pages=x.pages)(h7:y.gen=x.gen+1):
  SInv (En (hwD D (pgLst (ov rs) f)).fl y) y (pgMap (ov rs) B) [] [] a q 0 false 0:=by
 have hk:=h.ok.2;have hg:=h.gen;have m:SInv (hwD D (pgLst (ov rs) f)) x B rs ptl a q u b rs.length:=h.hw λz hz=>(DD j z.1 z.2).1 hz;have k:=m.flush;have l:=h.p.at_ok h.s;have a5:=Sup.get hy;have a3:=h.p.fq;have w:0<=q:=by split at a3<;>omega
 have a2:SOk y:=⟨by rw[h1];exact h.s.start,by rw[h4,o];exact l,by rw[h3];exact h.s.epoch,by rw[h5];exact w⟩;have a0:Ly x (hwD D (pgLst (ov rs) f)).fl (En (hwD D (pgLst (ov rs) f)).fl y):=λi hi _=>by
  have:=DU (hwD D (pgLst (ov rs) f)).fl y i U;exact this
 have a1:=k.p.out h.s a0;have t:=a1.drop h.s hq h1 o h3 h4 h5 U (by rw[h4,o];exact l);refine ⟨by show y.Ok ((hwD D _).n:Int);rw[Ed];exact hy,t,a2,by omega,λr v=>(by cases v),λi hi c g=>.inl ?_,Gb _ y,?_,λi hi v c g e q' ht=>?_⟩
 ·have d:=DU (hwD D (pgLst (ov rs) f)).fl y (2+i) U
  unfold Cx at g;rw[d.1,d.2] at g;rcases g with rfl|g
  ·show HomeP ((hwD D (pgLst (ov rs) f)).cont (2+i)) i _
   unfold pgMap
   cases ho:ov rs i with
   | some p=>
    have hm:(i,p)∈pgLst (ov rs) f:=(DD j i p).2 ho;rw[S6 _ D (DV j) (i,p) hm];exact .inr ⟨h.ovok ho,Z⟩
   | none=>
    rw[hw_cont_out _ D _ (λz hz e=>by
     have:=(DD j z.1 z.2).1 hz;rw[show z.1=i from by omega,ho] at this;cases this)]
    exact h.cur U ho
  cases g
 ·refine ⟨x,by show x.Ok ((hwD D _).n:Int);rw[Ed];exact h.ok,by omega,?_⟩
  have d:=DU (hwD D (pgLst (ov rs) f)).fl y ((y.gen+1)%2).toNat U;rw[d.1,d.2,show (y.gen+1)%2=x.gen%2 from by omega];exact k.sup
 have d:=DU (hwD D (pgLst (ov rs) f)).fl y i U;unfold Cx at g;rw[d.1,d.2] at g;rw[h3];exact k.rest i U (by rwa[h1,o] at v) c g e q' ht
theorem SInv.tags(h:SInv D x B rs ptl a q u b sure)(hq:q<=1099511627776){i:Nat}(d:2+x.pages<=(i:Int)){c:List UInt8}(f:Cx D i c){e g:Int}(k:Tg c e g):e<=x.epoch:=by
 by_cases hr:x.start<=(i:Int)/\(i:Int)<x.start+x.len
 ·have n:0<x.len:=by have:=h.s.head;omega
  obtain ⟨j,m,l⟩:=Ld n x.head ((i:Int)-x.start);have d:ringAt x ((i:Int)-x.start)=i:=by
   unfold ringAt;rw[Y5 U U];omega
  have:=h.p.tags h.s hq m (c:=c) (by rw[<-l,d];exact f) k;omega
 exact h.rest i d hr c f e g k
theorem PInv.fresh{D:Dsk}{s:Sup}(hs:SOk s)(h:∀i:Nat,s.start<=(i:Int)->(i:Int)<s.start+s.len->∀c,Cx D i c->∀e q,Tg c e q->e<s.epoch):PInv D s [] [] s.head s.seq 0 false 0:=by
 refine ⟨?_,by simp,by simp[secs],by have:=hs.head;omega,λ_=>rfl,.inl Z,λj r h=>by simp at h,λi d c a=>.inl λe q b=>.inl ?_,λi c h=>by simp[secs] at h,λi c h=>by simp[secs] at h,Yp _⟩
 ·rw[AaX,Y5 hs.head.1 hs.head.2]
 have:=HI hs (s.head+i);exact h _ this.1 this.2 c a e q b
end
def Td(c:Int)(ims:List Img)(room:Prop):Prop:=(c=16/\ims.length > 40)\/(c=1/\ims.length<=40/\(ims=[]\/¬DK ims))\/(c=15/\(1<=ims.length/\ims.length<=40)/\DK ims/\¬room)
structure OpM where
 k0:Int
 kd:Int
 fl:Int
 k4:Int
 k5:Int
 ns:List Int
abbrev OpE:=OpM×Value×Value
def OpE.cells(e:OpE):List Value:=[.int .i64 e.1.k0,e.2.1,.int .i64 e.1.kd,.int .i64 e.1.fl,.int .i64 e.1.k4,.int .i64 e.1.k5,e.2.2]
theorem SameOut.one{s:Sup}{D:Dsk}{x:Nat}{ps:List (List UInt8)}(b:s.start<=x)(c:(x:Int)+ps.length<=s.start+s.len):SameOut s D (D.wr x ps):=λi a=>⟨by rw[O7],Fo _ _ _ _ U⟩
theorem SameOut.trans{s:Sup}{D b c:Dsk}(d:SameOut s D b)(e:SameOut s b c):SameOut s D c:=λi a=>⟨(e i a).1.trans (d i a).1,(e i a).2.trans (d i a).2⟩
theorem Kq(pl pd l:Nat)(d x:Sup)(z:Bool)(v:Value)(ims:List Img)(A:Ai)(hA:∀h,A h->imgsH v ims h)(D:Dsk){B:Nat->Pg}{rs:List Rc}{ptl:List (List UInt8)}{a q u:Int}{b:Bool}{sure:Nat}(j:SInv D x B rs ptl a q u b sure)(a0:∀m∈ims,m.num<x.pages)(h1:d.start=x.start)(h2:d.len=x.len)(h3:d.epoch=x.epoch)(a8:d.Ok (D.n:Int))(a9:z=decide (d.epoch<4294967296))(hq:0<=q/\q<=1099511627776)(a7:∀i,(D.ver i).length<=1000000000000):
  An 167 [V pl,v] [blk pl [V pd,V l,Aa d.gen,Aa d.epoch,Aa d.pages,Aa d.start,Aa d.len,Aa d.head,Aa d.seq,Aa a,Aa q,Aa u,.bool b,.bool z] 191,tblA l,diskA pd D,A] (λv G=>
   (∃(Da:Dsk) (a2 q2 u2:Int),(1<=ims.length/\ims.length<=40)/\DK ims/\SInv Da x B (rs++[⟨q,ims⟩]) [] a2 q2 u2 b sure/\b=false/\(Clean D->Clean Da)/\(Da.n=D.n/\∀i,(Da.ver i).length<=(D.ver i).length+2)/\q2=q+1/\u2=u+(1+(ims.length:Int))/\v=Aa 0/\G=[blk pl [V pd,V l,Aa d.gen,Aa d.epoch,Aa d.pages,Aa d.start,Aa d.len,Aa d.head,Aa d.seq,Aa a2,Aa q2,Aa u2,.bool b,.bool z] 191,tblA l,diskA pd Da,A])\/
   (∃c:Int,Td c ims (1+(ims.length:Int)<=(if b then 0 else x.len-u)/\z=true/\q<1099511627776)/\v=Aa c/\G=[blk pl [V pd,V l,Aa d.gen,Aa d.epoch,Aa d.pages,Aa d.start,Aa d.len,Aa d.head,Aa d.seq,Aa a,Aa q,Aa u,.bool b,.bool z] 191,tblA l,diskA pd D,A])\/
   (∃(Df:Dsk) (a4:List (List UInt8)),¬Clean D/\SInv Df x B rs a4 a (q+1) u true sure/\(Df.n=D.n/\∀i,(Df.ver i).length<=(D.ver i).length+2)/\v=Aa 11/\G=[blk pl [V pd,V l,Aa d.gen,Aa d.epoch,Aa d.pages,Aa d.start,Aa d.len,Aa d.head,Aa d.seq,Aa a,Aa (q+1),Aa u,.bool true,.bool z] 191,tblA l,diskA pd Df,A])):=by
 have w:=j.p;have hs:=j.s;have b1:=w.at_ok hs;have b2:=hs.head;have b3:=hs.start;have b4:=w.fu;have b0:=w.ul;refine Cn.mono (Rv pl pd l d a q u b z v ims A hA D a8 a9 U U U a7) ?_;rintro v Γ (⟨g,rfl,rfl⟩|⟨g,t,rfl,rfl⟩|⟨g,t,g3,rfl,rfl⟩|⟨g,t,g3,k,hk,g4⟩)
 ·exact .inr (.inl ⟨16,.inl ⟨Z,g⟩,Z,Z⟩)
 ·exact .inr (.inl ⟨1,.inr (.inl ⟨Z,g,t⟩),Z,Z⟩)
 ·exact .inr (.inl ⟨15,.inr (.inr ⟨Z,g,t,by rw[<-h2];exact g3⟩),Z,Z⟩)
 have a3:=g3.1
 cases b with
 | true=>rw[if_pos Z] at a3;omega
 | false=>
  rw[if_neg (by decide)] at a3;have o:1+(ims.length:Int)<=x.len-u:=by omega
  have a1:(k:Int)=min (1+(ims.length:Int)) (x.len-a):=by rw[<-h2];exact hk
  have a5:=EP x.epoch q ims;rw[h1,h3] at g4;have l1:=λi=>Dsk.wr_len D (x.start+a).toNat ((A8 x.epoch q ims).take k) i;have l2:=λi=>Dsk.wr_len (D.wr (x.start+a).toNat ((A8 x.epoch q ims).take k)) x.start.toNat ((A8 x.epoch q ims).drop k) i;have o1:SameOut x D (D.wr (x.start+a).toNat ((A8 x.epoch q ims).take k)):=SameOut.one U (by rw[X1,a5];omega);have o2:SameOut x (D.wr (x.start+a).toNat ((A8 x.epoch q ims).take k)) ((D.wr (x.start+a).toNat ((A8 x.epoch q ims).take k)).wr x.start.toNat ((A8 x.epoch q ims).drop k)):=SameOut.one U (by rw[Yr,a5];omega);have e:=w.app hs g t.1 o a1;have a6:(rs++[(⟨q,ims⟩:Rc)]).take sure=rs.take sure:=X8 w.sure;have f:∀r∈rs++[(⟨q,ims⟩:Rc)],∀m∈r.ims,m.num<x.pages:=λr o m hm=>by
   rcases Yt.1 o with o|o
   ·exact j.num r o m hm
   rw[YA.1 o] at hm;exact a0 m hm
  rcases g4 with ⟨_,g5,rfl,rfl⟩|⟨_,g5,_,rfl,rfl⟩|⟨g5,rfl,rfl⟩|⟨_,g6,g5,rfl,rfl⟩
  ·unfold Eb at e
   rw[if_neg U] at e;exact .inl ⟨_,(a+(1+(ims.length:Int)))%x.len,q+1,u+(1+(ims.length:Int)),g,t,j.log (Dsk.wr_n _ _ _) o1 e a6 f,Z,λy=>y.wr _ _,⟨Dsk.wr_n _ _ _,λi=>by have:=l1 i;omega⟩,Z,Z,Z,by simp only[lgB,h1,h2,h3]⟩
  ·unfold Eb at e
   rw[if_pos U] at e;exact .inl ⟨_,(a+(1+(ims.length:Int)))%x.len,q+1,u+(1+(ims.length:Int)),g,t,j.log (by rw[Dsk.wr_n,Dsk.wr_n]) (o1.trans o2) e a6 f,Z,λy=>(y.wr _ _).wr _ _,⟨by rw[Dsk.wr_n,Dsk.wr_n],λi=>by have:=l1 i;have:=l2 i;omega⟩,Z,Z,Z,by simp only[lgB,h1,h2,h3]⟩
  ·exact .inr (.inr ⟨D.wf,_,λy=>y.bad g5,SInv.log (D':=D.wf) j Z (λ_ _=>⟨Z,Z⟩) w.fail0 Z j.num,⟨Z,λi=>by show (D.ver i).length<=_;omega⟩,Z,by simp only[lgB,h1,h3]⟩)
  exact .inr (.inr ⟨Dsk.wf (D.wr (x.start+a).toNat ((A8 x.epoch q ims).take k)),_,λy=>(y.wr _ _).bad g5,SInv.log (D':=Dsk.wf (D.wr (x.start+a).toNat ((A8 x.epoch q ims).take k))) j (Dsk.wr_n _ _ _) o1 (w.fail1 hs g t.1 o a1 g6) Z j.num,⟨Dsk.wr_n _ _ _,λi=>by have:=l1 i;show ((D.wr (x.start+a).toNat ((A8 x.epoch q ims).take k)).ver i).length<=_;omega⟩,Z,by simp only[lgB,h1,h3]⟩)
def Eq(x:Sup)(a q:Int):Sup:= {x with gen:=x.gen+1,head:=a,seq:=q}
theorem N2(x:Sup)(a q:Int):(Eq x a q).gen=x.gen+1/\(Eq x a q).epoch=x.epoch/\(Eq x a q).pages=x.pages/\(Eq x a q).start=x.start/\(Eq x a q).len=x.len/\(Eq x a q).head=a/\(Eq x a q).seq=q:=⟨Z,Z,Z,Z,Z,Z,Z⟩
theorem Sup.ok_mk{s:Sup}{n:Int}(d:0<=s.gen/\s.gen<=1099511627776)(f:0<=s.epoch/\s.epoch<=1099511627776)(e:16<=s.pages/\s.pages<=1024)(b:2+s.pages<=s.start/\s.start<=1099511627776)(h:64<=s.len/\s.len<=1099511627776)(c:0<=s.head/\s.head<s.len)(i:0<=s.seq/\s.seq<=1099511627776)(g:s.start<=n-s.len/\s.len<=n):s.Ok n:=by
 refine ⟨λy a=>?_,by omega,by omega,by omega,by omega,by omega,by omega,by omega⟩;simp only[Sup.list,YO,List.not_mem_nil,or_false] at a;omega
theorem Hj(ps pd b md:Nat)(x:Sup)(l j:Value)(h:Bool)(f:Bc)(hq:Hp)(y:Sup)(D:Dsk)(m:∀n,(f n).isSome=true->n<1024)(q:∀n,(f n).isSome=true->2+n<D.n)(e:y.Ok (D.n:Int))(g:∀i,(D.ver i).length<=1000000000000):
  An 76 [V ps,.agg #[Aa y.gen,Aa y.epoch,Aa y.pages,Aa y.start,Aa y.len,Aa y.head,Aa y.seq]] [stB ps pd b x l md h j,tblA b,diskA pd D,pgsA md f hq,poolA hq] (λv G=>(∃a:List Int,Ef f a/\v=Aa 0/\G=[stB ps pd b y l md h j,tblA b,diskA pd (En (hwD D (pgLst f a)).fl y),pgsA md CQ hq,poolA hq])\/(∃(a:List Int) (c:Int) (k:Dsk),Ef f a/\c≠0/\JM D (pgLst f a) c k/\v=Aa c/\G=[stB ps pd b x l md h j,tblA b,diskA pd k,pgsA md f hq,poolA hq])):=by
 refine Cn.mono (RF ps pd b md x l j h f hq y D m q e g) ?_;rintro v Γ ⟨a,d,⟨o,p⟩|⟨c,k,o,p,r,s⟩⟩
 ·exact .inl ⟨a,d,o,p⟩
 exact .inr ⟨a,c,k,d,o,p,r,s⟩
theorem Ps{D a:Dsk}{l:List (Nat×Pg)}{c:Int}(h:JM D l c a):a.n=D.n:=by
 rcases h with ⟨j,_,_,rfl⟩|⟨_,_,rfl⟩|⟨_,_,rfl⟩
 ·exact Ed _ _
 ·exact Ed _ _
 exact Ed _ _
theorem Lz{D a:Dsk}{l:List (Nat×Pg)}{c:Int}(b:(l.map Prod.fst).Nodup)(h:JM D l c a)(i:Nat):(a.ver i).length<=(D.ver i).length+1:=by
 rcases h with ⟨j,_,_,rfl⟩|⟨_,_,rfl⟩|⟨_,_,rfl⟩
 ·exact Lf _ D i (b.sublist ((List.take_sublist _ _).map _))
 ·exact Lf _ D i b
 show ([]:List (List UInt8)).length<=_;simp
theorem Gj{D:Dsk}(h:∀i,D.ver i=[])(x:Sup)(i:Nat):(En D x).ver i=[]:=by
 by_cases e:i=(x.gen%2).toNat
 ·rw[e];exact (Gb D x).2
 rw[(DU D x i e).2];exact h i
theorem LA{b:Bool}{l u:Int}(h:(0:Int)<(if b then 0 else l-u)):b=false/\u<l:=by
 cases b with
 | true=>rw[if_pos Z] at h;omega
 | false=>rw[if_neg (by decide)] at h;exact ⟨Z,by omega⟩
theorem PgsIn.nil_iff{f:Bc}{es:List PgE}{clk:Nat}{hq:Hp}(h:PgsIn f es clk hq):es.length=0↔∀n,f n=Option.none:=by
 constructor
 ·intro e n
  obtain rfl:=ZR.1 e
  cases a:f n with
  | none=>rfl
  | some p=>obtain ⟨e,b,_⟩:=h.all n p a;cases b
 intro a
 cases es with
 | nil=>rfl
 | cons e es=>
  have:=(h.ent e O).1;rw[a] at this;cases this
set_option maxHeartbeats 2000000 in
theorem LB (ps pd t pl md:Nat) (x sL:Sup) (mo:Value) (un nu:Bool) (hq:Hp) (D:Dsk) (B:Nat->Pg) (rs:List Rc) (ptl:List (List UInt8)) (a q u:Int) (b:Bool) (sure:Nat) (o:SInv D x B rs ptl a q u b sure) (hL:sL.start=x.start/\sL.len=x.len/\sL.epoch=x.epoch) (b5:q<=1099511627776) (a9:∀i,(D.ver i).length<=1000000000000):An 168 [V ps] [stB ps pd t x (V pl) md un mo,lgB pl pd t sL a q u b nu,tblA t,diskA pd D,pgsA md (ov rs) hq,poolA hq] (λv G=>((∀n,ov rs n=none)/\b=false/\u<x.len/\v=Aa 0/\G=[stB ps pd t x (V pl) md un mo,lgB pl pd t sL a q u b nu,tblA t,diskA pd D,pgsA md (ov rs) hq,poolA hq])\/(∃r:Dsk,¬((∀n,ov rs n=none)/\b=false/\u<x.len)/\SInv r (Eq x a q) (pgMap (ov rs) B) [] [] a q 0 false 0/\(Clean D->Clean r)/\r.n=D.n/\(∀i,r.ver i=[])/\v=Aa 0/\G=[stB ps pd t (Eq x a q) (V pl) md un mo,lgB pl pd t sL a q 0 false nu,tblA t,diskA pd r,pgsA md CQ hq,poolA hq])\/(∃(c:Int) (r:Dsk) (a0:Nat),c≠0/\(¬Clean D\/1099511627776<x.gen+1)/\(SInv r x B rs ptl a q u b a0/\sure<=a0)/\r.n=D.n/\(∀i,(r.ver i).length<=(D.ver i).length+1)/\v=Aa c/\G=[stB ps pd t x (V pl) md un mo,lgB pl pd t sL a q u b nu,tblA t,diskA pd r,pgsA md (ov rs) hq,poolA hq])):=by
 intro z R w H;replace H:=H.l6;have a3:=o.ok;have b8:=Sup.get a3;have b3:=a3.2;have hP:=o.p;have b9:=hP.at_ok o.s;have b7:=hP.ul;have b4:=hP.fu;have a7:=o.gen;have a4:=hP.fq;have b0:0<=q:=by split at a4<;>omega
 have a1:∀n,(ov rs n).isSome=true->n<1024:=λn h=>by have:=o.ovb h;omega
 have a2:∀n,(ov rs n).isSome=true->2+n<D.n:=λn h=>by have:=o.ovb h;omega
 have b6:=N2 x a q;obtain ⟨es,clk,d,H⟩:=H.pgs 4 Z;replace H:=H.l6;refine Af func168 Z ntmps168 Z (Z2 12 [10,0,0] H Z (Ad Z (Lo (e:=40) Z J Z (AA (H.bk 4 Z))) (Z0 2 [0] Z (Am 12 Z (λh1=>?_) (λh1=>?_)))))
 ·refine Z2 4 [9,0,0] H Z (Ah Z (call209 _) (Pn _ _ _ _ _ _ _ _ _ U) H.f1 ?_);intro w H;refine Z0 4 [0] Z (Ag Z (λh2=>?_) (λh2=>?_))
  ·refine Zc 6 Z (Zr Z ?_);replace H:=(H.toPgs 4 Z d).l6
   have a5:=d.nil_iff.1 (by simpa using h1);exact ⟨_,.inl ⟨a5,(LA h2).1,by have:=(LA h2).2;omega,Z,Z⟩,H.perm 6 [1,0,2,3,4,5] Z Z⟩
  refine Za 8 [2,1,7] H Z ?_;intro b1 w H;refine Z5 18 [0,0,0,0,0,0,9,2,0] [x.gen+1] H Z U ?_;intro w H;refine Ah Z (call210 _) (Po _ _ _ _ _ _ _ _ _) H.f1 ?_;intro w H;refine Z4 17 [5,1,6,1,0,1,0,0] H Z ?_;intro w H;refine Ag Z (λh3=>?_) (λh3=>?_)
  ·refine Zc 6 Z (Zr Z ?_);replace H:=(H.toPgs 5 Z d).l7
   exact ⟨_,.inr (.inr ⟨_,D,sure,by decide,.inr U,⟨o,Yp _⟩,Z,λi=>by omega,Z,Z⟩),H.perm 7 [2,0,3,4,5,6] Z Z⟩
  refine Zc 4 Z ?_;have k:(Eq x a q).Ok (D.n:Int):=Sup.ok_mk U U U U U U U U;refine Z2 5 [0,2,0] H Z (AB Z (call70 _) (Gg _ _) H.f4 ?_);rintro _ w _ (⟨m,rfl,rfl⟩|⟨m,rfl,rfl⟩) H'
  ·have H:=H'.l7;refine Z0 17 [3] Z (Zr Z ?_);replace H:=(H.toPgs 5 Z d).l7
   exact ⟨_,.inr (.inr ⟨_,_,sure,by decide,.inl (λy=>y.flb m),⟨SInv.f (D':= {D with f3:=AP D.f3}) o Z Z Z,Yp _⟩,Z,λi=>by show (D.ver i).length<=_;omega,Z,Z⟩),H.perm 7 [3,1,4,0,5,6] Z Z⟩
  have H:=H'.l7;refine Z0 14 [4] Z ?_;replace H:=(H.toPgs 5 Z d).l7;refine Z2 3 [2,7] H Z (AB Z (call76 _) (Hj _ _ _ _ _ _ _ _ (ov rs) _ (Eq x a q) D.fl a1 a2 k (λi=>by show ([]:List (List UInt8)).length<=_;simp)) H.f6.f6.f2.f6.f6 ?_);rintro _ w _ (⟨ks,j,rfl,rfl⟩|⟨ks,c,r,j,l,g,rfl,rfl⟩) H'
  ·have H:=H'.l7;refine Z2 18 [4,9,0,0] H Z (Ah Z (call211 _) (Pp _ _ _ _ _ _ _ _ _) H.f5 ?_);intro w H;refine Zc 8 Z (Zr Z ?_);exact ⟨_,.inr (.inl ⟨_,(λe=>by first|exact h1 (by have:=d.nil_iff.2 e.1;simpa using this)|exact h2 (by rw[e.2.1];simp;omega)),o.flush.settled j U k Z Z Z Z Z Z Z,λy=>((y.fl.hw _).fl).sv _,by show (hwD _ _).n=_;exact Ed _ _,Gj (λ_=>rfl) _,Z,Z⟩),H.perm 7 [1,0,2,3,4,5] Z Z⟩
  have H:=H'.l7;refine Z0 9 [0] Z (Ag Z (λh4=>?_) (λh4=>?_))
  ·refine Zc 7 Z (Zr Z ?_);exact ⟨_,.inr (.inr ⟨_,r,rs.length,l,.inl (λy=>y.fl.setF g),⟨o.flush.setF j g,hP.sure⟩,Ps (D:=D.fl) g,λi=>by have:=Lz (DV j) g i;have h0:(D.fl.ver i).length=0:=rfl;omega,Z,Z⟩),H.perm 7 [0,5,1,2,3,4] Z Z⟩
  exact absurd l h4
 refine Za 18 [2,0,7] H Z ?_;intro b2 w H;refine Z5 18 [0,0,0,0,0,0,9,1,0] [x.gen+1] H Z U ?_;intro w H;refine Ah Z (call210 _) (Po _ _ _ _ _ _ _ _ _) H.f2 ?_;intro w H;refine Z4 17 [5,1,6,1,0,1,0,0] H Z ?_;intro w H;refine Ag Z (λh5=>?_) (λh5=>?_)
 ·refine Zc 6 Z (Zr Z ?_);replace H:=(H.toPgs 5 Z d).l7
  exact ⟨_,.inr (.inr ⟨_,D,sure,by decide,.inr U,⟨o,Yp _⟩,Z,λi=>by omega,Z,Z⟩),H.perm 7 [2,0,3,4,5,6] Z Z⟩
 refine Zc 4 Z ?_;have k:(Eq x a q).Ok (D.n:Int):=Sup.ok_mk U U U U U U U U;refine Z2 5 [0,2,0] H Z (AB Z (call70 _) (Gg _ _) H.f4 ?_);rintro _ w _ (⟨m,rfl,rfl⟩|⟨m,rfl,rfl⟩) H'
 ·have H:=H'.l7;refine Z0 17 [3] Z (Zr Z ?_);replace H:=(H.toPgs 5 Z d).l7
  exact ⟨_,.inr (.inr ⟨_,_,sure,by decide,.inl (λy=>y.flb m),⟨SInv.f (D':= {D with f3:=AP D.f3}) o Z Z Z,Yp _⟩,Z,λi=>by show (D.ver i).length<=_;omega,Z,Z⟩),H.perm 7 [3,1,4,0,5,6] Z Z⟩
 have H:=H'.l7;refine Z0 14 [4] Z ?_;replace H:=(H.toPgs 5 Z d).l7;refine Z2 3 [2,7] H Z (AB Z (call76 _) (Hj _ _ _ _ _ _ _ _ (ov rs) _ (Eq x a q) D.fl a1 a2 k (λi=>by show ([]:List (List UInt8)).length<=_;simp)) H.f6.f6.f2.f6.f6 ?_);rintro _ w _ (⟨ks,j,rfl,rfl⟩|⟨ks,c,r,j,l,g,rfl,rfl⟩) H'
 ·have H:=H'.l7;refine Z2 18 [4,9,0,0] H Z (Ah Z (call211 _) (Pp _ _ _ _ _ _ _ _ _) H.f5 ?_);intro w H;refine Zc 8 Z (Zr Z ?_);exact ⟨_,.inr (.inl ⟨_,(λe=>by first|exact h1 (by have:=d.nil_iff.2 e.1;simpa using this)|exact h2 (by rw[e.2.1];simp;omega)),o.flush.settled j U k Z Z Z Z Z Z Z,λy=>((y.fl.hw _).fl).sv _,by show (hwD _ _).n=_;exact Ed _ _,Gj (λ_=>rfl) _,Z,Z⟩),H.perm 7 [1,0,2,3,4,5] Z Z⟩
 have H:=H'.l7;refine Z0 9 [0] Z (Ag Z (λh6=>?_) (λh6=>?_))
 ·refine Zc 7 Z (Zr Z ?_);exact ⟨_,.inr (.inr ⟨_,r,rs.length,l,.inl (λy=>y.fl.setF g),⟨o.flush.setF j g,hP.sure⟩,Ps (D:=D.fl) g,λi=>by have:=Lz (DV j) g i;have h0:(D.fl.ver i).length=0:=rfl;omega,Z,Z⟩),H.perm 7 [0,5,1,2,3,4] Z Z⟩
 exact absurd l h6
def BU(g:Bc)(ks:List Int):List Img:=ks.map λk=>⟨k,((g k.toNat).getD DP).kind,((g k.toNat).getD DP).body⟩
theorem N3(g:Bc)(a:List Int):(BU g a).length=a.length:=by simp[BU]
theorem Mn{g:Bc}{a:List Int}{j n:Nat}{p:Pg}(b:a[j]?=some (n:Int))(c:g n=some p):(BU g a).take j++[(⟨(n:Int),p.kind,p.body⟩:Img)]=(BU g a).take (j+1):=by
 rw[Ye];congr 1;unfold BU;rw[Yb,b];simp[c]
theorem PgsIn.okp{f:Bc}{es:List PgE}{clk:Nat}{hq:Hp}(h:PgsIn f es clk hq){n:Nat}{p:Pg}(hp:f n=some p):p.Ok:=by
 obtain ⟨e,b,d⟩:=h.all n p hp;obtain ⟨a,c,_⟩:=h.ent e b;rw[d,hp] at a;cases a;exact c
theorem Kr{g:Bc}{c:List Int}(h:Ef g c)(f:∀n p,g n=some p->p.Ok)(l:∀n,(g n).isSome=true->n<1024):DK (BU g c):=by
 have a:∀k∈c,∃p,g k.toNat=some p/\0<=k/\k<1024:=λk b=>by
  obtain ⟨d,e⟩:=(h.2 k).1 b;obtain ⟨p,hp⟩:=YH.1 e;have:=l _ e;exact ⟨p,hp,d,by omega⟩
 refine ⟨λm i=>?_,?_⟩
 ·obtain ⟨k,b,rfl⟩:=X6.1 i
  obtain ⟨p,hp,d,e⟩:=a k b;have:=f _ p hp;simp only[hp,AaY];exact ⟨⟨d,by dsimp only;omega⟩,this.1,this.2⟩
 unfold BU;rw[Zp];refine Zk.2 (h.1.imp λj=>?_);simp only[Aaa];omega
theorem N4{g:Bc}{a:List Int}{b:Int}(h:Ef g a)(f:∀n,(g n).isSome=true->(n:Int)<b):∀m∈BU g a,m.num<b:=λm d=>by
 obtain ⟨k,c,rfl⟩:=X6.1 d;obtain ⟨i,e⟩:=(h.2 k).1 c;have:=f _ e;dsimp only;omega
theorem Pu{c:Int}{ims:List Img}{a:Prop}(h:Td c ims a)(b:1<=ims.length/\ims.length<=40)(d:DK ims):c=15/\¬a:=by
 rcases h with ⟨_,h⟩|⟨_,_,rfl|h⟩|⟨rfl,_,_,h⟩
 ·omega
 ·simp at b
 ·exact absurd d h
 exact ⟨Z,h⟩
theorem Ug(ims:List Img):∀(f:Bc) (n:Nat),(ims.map Img.num).Nodup->(∀m∈ims,0<=m.num)->DN f ims n=((ims.find? λm=>decide (m.num=(n:Int))).map ER).or (f n):=by
 induction ims with
 | nil=>intro f n _ _;rfl
 | cons m ims ih=>
  intro f n d hp;simp only[Yn,Y8] at d;have:DN f (m::ims)=DN (pgSet f m.num.toNat (ER m)) ims:=rfl;rw[this,ih _ _ d.2 (λb h=>hp b (by simp[h])),List.find?_cons];have i:=hp m O;by_cases e:m.num=(n:Int)
  ·have a:(ims.find? λm=>decide (m.num=(n:Int)))=none:=by
    rw[AaH];intro b c g;exact d.1 (X6.2 ⟨b,c,by simp at g;omega⟩)
   rw[a];simp[e,pgSet]
  have:¬n=m.num.toNat:=by omega
  simp[e,pgSet,this]
theorem N5{f g:Bc}{a:List Int}(h:Ef g a)(j:DK (BU g a)):DN f (BU g a)=FZ f g:=by
 funext n;rw[Ug _ _ _ j.2 (λm d=>(j.1 m d).1.1)];unfold FZ;congr 1
 cases hg:g n with
 | some p=>
  have l:(n:Int)∈a:=(h.2 _).2 ⟨by omega,by rw[YB,hg];rfl⟩
  cases b:(BU g a).find? λm=>decide (m.num=(n:Int)) with
  | none=>
   rw[AaH] at b;exact absurd O (b _ (X6.2 ⟨(n:Int),l,Z⟩))
  | some m=>
   have i:=List.find?_some b;obtain ⟨k,c,rfl⟩:=X6.1 (List.mem_of_find?_eq_some b);simp only[decide_eq_true_eq] at i;subst i;simp[hg,ER]
 | none=>
  have b:((BU g a).find? λm=>decide (m.num=(n:Int)))=none:=by
   rw[AaH];intro m d e;obtain ⟨k,c,rfl⟩:=X6.1 d;simp only[decide_eq_true_eq] at e;subst e;have:=((h.2 _).1 c).2;rw[YB,hg] at this;cases this
  rw[b];rfl
theorem Uh{rs:List Rc}(h:∀n,ov rs n=none)(c:∀(j:Nat) (r:Rc),rs[j]?=some r->1<=r.ims.length):rs=[]:=by
 cases rs with
 | nil=>rfl
 | cons r rs=>
  exfalso;have d:=c 0 r Z;have b:(ov [r] ((r.ims[0]'U).num.toNat)).isSome=true:=by
   show (DN CQ r.ims _).isSome=true;rw[MJ];simp only[CQ,Option.isSome_none,Bool.false_or,List.any_eq_true];exact ⟨r.ims[0]'U,ZE _,by simp⟩
  have a:=Fc rs [r] b;rw[show [r]++rs=r::rs from Z,h] at a;cases a
set_option maxHeartbeats 4000000 in
theorem Pv (ps pd pt pl md mo:Nat) (x sL:Sup) (un nu:Bool) (hq:Hp) (g:Bc) (k:Nat) (D:Dsk) (B:Nat->Pg) (rs:List Rc) (ptl:List (List UInt8)) (a q u:Int) (b:Bool) (sure:Nat) (hS:SInv D x B rs ptl a q u b sure) (hL:sL.start=x.start/\sL.len=x.len/\sL.epoch=x.epoch) (c1:sL.Ok (D.n:Int)) (d7:nu=decide (sL.epoch<4294967296)) (j6:q<1099511627775) (c5:∀i,(D.ver i).length<=1000000000000) (e5:∀n,(g n).isSome=true->(n:Int)<x.pages) (hk:1<=k/\k<=40):An 104 [V ps] [stB ps pd pt x (V pl) md un (.map (some mo)),lgB pl pd pt sL a q u b nu,tblA pt,diskA pd D,pgsA md (ov rs) hq,DC mo g k hq,poolA hq] (λv G=>(∃(o:List Int) (l:Hp) (D2:Dsk) (x2:Sup) (B2:Nat->Pg) (d3:List Rc) (a2 u2:Int) (t:Nat),Ef g o/\BC hq l/\SInv D2 x2 B2 (d3++[⟨q,BU g o⟩]) [] a2 (q+1) u2 false t/\pgMap (ov d3) B2=pgMap (ov rs) B/\(x2=x\/x2=Eq x a q)/\(Clean D->Clean D2)/\(D2.n=D.n/\∀i,(D2.ver i).length<=(D.ver i).length+2)/\v=Aa 0/\G=[stB ps pd pt x2 (V pl) md un (.map (some mo)),lgB pl pd pt sL a2 (q+1) u2 false nu,tblA pt,diskA pd D2,pgsA md (ov d3) l,DC mo g k l,poolA l])\/(∃(c:Int) (l:Hp) (D2:Dsk) (x2:Sup) (B2:Nat->Pg) (d9:List Rc) (a5:List (List UInt8)) (a2 q2 u2:Int) (b2:Bool) (t:Nat),c≠0/\(¬Clean D\/1099511627776<x.gen+1)/\BC hq l/\SInv D2 x2 B2 d9 a5 a2 q2 u2 b2 t/\pgMap (ov d9) B2=pgMap (ov rs) B/\(x2=x\/x2=Eq x a q)/\(D2.n=D.n/\∀i,(D2.ver i).length<=(D.ver i).length+2)/\(q<=q2/\q2<=q+1)/\v=Aa c/\G=[stB ps pd pt x2 (V pl) md un (.map (some mo)),lgB pl pd pt sL a2 q2 u2 b2 nu,tblA pt,diskA pd D2,pgsA md (ov d9) l,DC mo g k l,poolA l])):=by
 intro z R w H;replace H:=H.l7;have e0:=hS.ok;have j4:=Sup.get e0;have i9:=e0.2;have hP:=hS.p;have j1:=hP.ul;have g2:=hP.fu;have h5:=hP.fq;have e1:0<=q:=by split at h5<;>omega
 have i0:∀n,(ov rs n).isSome=true->n<1024:=λn h=>by have:=hS.ovb h;omega
 have i3:∀n,(ov rs n).isSome=true->2+n<D.n:=λn h=>by have:=hS.ovb h;omega
 have i6:=H.sy 3 (λq=>(diskA.ok q).n2);have h8:=N2 x a q;obtain ⟨a4,a8,m,a0,H⟩:=H.pgsc 5 Z;replace H:=H.l7;have h6:a4.length<=1099511627776:=by omega
 refine Af func104 Z ntmps104 Z (Z2 17 [12,0,0] H Z (AB Z (call166 _) (MW _) H ?_));rintro _ w _ ⟨bb,rfl,rfl⟩ H;replace H:=H.l8;have g6:∀h:IE->Nat,(a4.map PgE.ie).map h=a4.map λe=>h e.ie:=λh=>by simp
 refine AB Z (call125 _) (Kp _ _ _ _ (λp hp=>by obtain ⟨e,he,rfl⟩:=X6.1 hp;exact m.clk e he) (by rw[g6];exact m.born) (by simp;exact h6)) H.f6.f1 ?_;rintro v2 w _ ⟨s,hs,rfl⟩ H;replace H:=H.l9;have a9:Ef g ((s.map λp:IE=>p.1).mergeSort (λx y=>decide (x<=y))):=m.keys hs;have g3:((s.map λp:IE=>p.1).mergeSort (λx y=>decide (x<=y))).length=k:=by simp[hs.length_eq,a0]
 obtain ⟨o,f2⟩:∃o:List Int,((s.map λp:IE=>p.1).mergeSort (λx y=>decide (x<=y)))=o:=⟨_,Z⟩;rw[f2] at H a9 g3;clear f2 hs;have H:Sep z (grow 3 1 v2 o.length (o.map Aa)::blk bb [.map (some mo)] 95::AG mo (a4.map PgE.ie) a8::stB ps pd pt x (V pl) md un (.map (some mo))::lgB pl pd pt sL a q u b nu::tblA pt::diskA pd D::pgsA md (ov rs) hq::poolA hq::R) w:=H;have e8:=H.sy 0 (·.slc);obtain ⟨c0,c3,rfl⟩:=e8;have H:Sep z (grow 3 1 (.slice c0 o.length c3) o.length (o.map Aa)::blk bb [.map (some mo)] 95::AG mo (a4.map PgE.ie) a8::stB ps pd pt x (V pl) md un (.map (some mo))::lgB pl pd pt sL a q u b nu::tblA pt::diskA pd D::pgsA md (ov rs) hq::poolA hq::R) w:=H;replace H:=(H.nilg 118 3).l10;have g1:=N3 g o;have e4:∀n p,g n=some p->p.Ok:=λn p h=>m.okp h;have e7:∀n,(g n).isSome=true->n<1024:=λn h=>by have:=e5 n h;omega
 have c6:DK (BU g o):=Kr a9 e4 e7;have b4:=N4 a9 e5;have e3:1<=(BU g o).length/\(BU g o).length<=40:=by omega
 refine Zc 5 Z ?_;refine Ap (σ:=Nat×Value×List ImE) (λ⟨j,v1,ie⟩=>[(15,Aa (j:Int)),(3,v1),(0,V ps),(2,Aa 0),(13,.slice c0 o.length c3),(14,Aa (o.length:Int))])
   (λ⟨j,v1,ie⟩ w=>Sep z (grow 118 3 v1 j (Bj ie)::grow 3 1 (.slice c0 o.length c3) o.length (o.map Aa)::blk bb [.map (some mo)] 95::AG mo (a4.map PgE.ie) a8::stB ps pd pt x (V pl) md un (.map (some mo))::lgB pl pd pt sL a q u b nu::tblA pt::diskA pd D::pgsA md (ov rs) hq::poolA hq::R) w/\(j<=o.length/\ie.map Prod.fst=(BU g o).take j/\imesOk ie hq)) (λ⟨j,v1,ie⟩=>o.length-j) ⟨0,.slice none 0 0,[]⟩
   (λ_ hF=>(hF.co Z (by go_num) hF.cz)) ⟨H,by omega,Z,λe he=>absurd he O⟩ ?_
 clear H;rintro ⟨j,v1,ie⟩ w ⟨H',hI⟩;dsimp only at hI H' ⊢;have H:=H'.l10;have j7:=H.sy 0 (·.slc);obtain ⟨k0,c8,c4⟩:=hI;refine Z0 6 [0] Z (Ag Z (λh1=>?_) (λh1=>?_))
 ·have i8:j<o.length:=by omega
  refine Zc 6 Z ?_;obtain ⟨x,hx⟩:∃x,o[j]?=some x:=⟨_,XW U⟩;obtain ⟨j3,d4⟩:=(a9.2 x).1 (XX hx);obtain ⟨n,rfl⟩:∃n:Nat,x=(n:Int):=⟨x.toNat,by omega⟩;rw[YB] at d4;obtain ⟨p,pv,g8,f0,e2,h0⟩:∃(p:Pg) (v:Value),g n=some p/\p.Ok/\rdH 1 v 240 (p.body.map u8) hq/\Cl (a4.map PgE.ie) (n:Int)=some (.agg #[Aa p.kind,v]):=by
    rcases m.get n with ⟨q,_⟩|q
    · rw[q] at d4;cases d4
    · exact q
  have h4:Slc pv 240:=e2.slc;have d0:=(H.rv 1 (·.rd)).at (j:=j) (u:=Aa (n:Int)) (by simp[hx]);refine Ad Z (Ar Z (z:=1) (j:=j) (r:=j) J Z Z Z U d0 U) (Ad Z (AK Z Z J (AA d0)) (Z2 11 [12,4,0] H Z (Ad Z (FA (e:=40) (zv:=.agg #[Aa 0,.slice none 0 0]) Z J J Z Z (AA (H.bk 3 Z))) (k_updA 26 (v:=.agg #[Aa p.kind,pv]) Z (by rw[h0];rfl) (Ad Z (AQ Z Z (out:=[Aa (n:Int),Aa p.kind,pv]) J) (AC Z (AI H Z J AR Z (by decide) (by decide) (out:=[Aa (n:Int),Aa p.kind,pv]) J) ?_))))));rintro _ w ⟨b1,rfl,H⟩;replace H:=H.l11;refine AC Z (AJ 1 H Z Z J AR Z Z (H.rv 0 (·.rd U U O Z)) (Al Z (Al Z (Al h4.one AL))) U) ?_;rintro v2 w H';have H':Sep z (blk b1 [Aa (n:Int),Aa p.kind,pv] 118::grow 118 3 v2 (j+1) (Bj ie++[Aa (n:Int),Aa p.kind,pv])::grow 3 1 (.slice c0 o.length c3) o.length (o.map Aa)::blk bb [.map (some mo)] 95::AG mo (a4.map PgE.ie) a8::stB ps pd pt x (V pl) md un (.map (some mo))::lgB pl pd pt sL a q u b nu::tblA pt::diskA pd D::pgsA md (ov rs) hq::poolA hq::R) w:=H';have g5:(Bj ie++[Aa (n:Int),Aa p.kind,pv]:List Value)=Bj (ie++[(⟨(n:Int),p.kind,p.body⟩,pv)]):=Ip ie (⟨(n:Int),p.kind,p.body⟩,pv);rw[g5] at H';have H:=H'.l11;refine Z1 8 [] [(j:Int)+1] Z U ?_;replace H:=H.d;refine gf ?_;intro _ hF;refine ⟨⟨j+1,v2,ie++[(⟨(n:Int),p.kind,p.body⟩,pv)]⟩,hF.cz,⟨H,?_⟩,?_⟩
  ·dsimp only
   refine ⟨by omega,by rw[Yj,c8,<-Mn hx g8];rfl,λe he=>?_⟩;rcases Yt.1 he with q|q
   ·exact c4 e q
   rw[YA.1 q];show rdH 1 pv p.body.length _ _;rw[f0.2];exact e2
  (dsimp only;omega)
 obtain rfl:j=o.length:=by omega
 refine Zc 2 Z (gx (Zc 3 Z ?_));replace H:=H.f9;obtain ⟨l,⟨f,e6⟩,H⟩:=BW H (λh q=>q.rd);replace H:=H.l9;have d5:ie.map Prod.fst=BU g o:=by rw[c8];exact X0 U
 have g0:imgsH v1 (BU g o) l:=⟨ie,d5,by rw[g1];exact e6,c4.le f⟩;replace H:=(H.mono 8 (B:=pgsA md (ov rs) l) Z (pgsA.le f)).l9;have c2:nu=true:=by rw[d7];have:=hS.s.epoch;simp;omega
 refine Z2 6 [9,4,0] H Z (AB Z (call167 _) (Kq _ _ _ sL x _ _ (BU g o) _ (λh q=>g0.le q) D hS b4 hL.1 hL.2.1 hL.2.2 c1 d7 ⟨e1,by omega⟩ c5) H.f7.f7.f7 ?_);rintro _ w _ (⟨Da,a3,q3,u3,g4,h7,a7,b8,b5,b9,d2,d6,rfl,rfl⟩|⟨cq,a6,hv,rfl⟩|⟨Df,a5,b3,a7,b6,rfl,rfl⟩) H'
 ·have H:=H'.l9;subst d2;subst d6;refine Z0 18 [3] Z (Zr Z ?_);replace H:=(H.toPgsc 6 Z (m.le f) a0).l9
  subst b8;exact ⟨_,.inl ⟨o,l,Da,x,B,rs,a3,_,sure,a9,f,a7,Z,.inl Z,b5,b9,Z,Z⟩,H.perm 9 [7,0,1,2,8,6,3] Z Z⟩
 ·have H:=H'.l9;obtain ⟨e9,g9⟩:=Pu a6 e3 c6;subst e9;subst hv;refine Z0 16 [4] Z (AB Z (call168 _) (LB _ _ _ _ _ _ _ _ _ _ _ _ _ _ _ _ _ _ _ _ hS hL U c5) H.f3.f8.f4.f4.f4.f8 ?_);rintro _ w _ (⟨g7,b8,i2,rfl,rfl⟩|⟨D2,i7,b7,c9,a1,d8,rfl,rfl⟩|⟨j2,D2,t,b0,d1,⟨b7,i1⟩,a1,c7,rfl,rfl⟩) H'
  ·(obtain rfl:=Uh g7 (λj r h=>(hP.recs j r h).2.1.1);exact absurd ⟨by rw[b8,if_neg (by decide)];have j0:u=0:=g2;omega,c2,by omega⟩ g9)
  ·have H:=H'.l9;refine Z2 23 [3,9,0,0] H Z (AB Z (call167 _) (Kq _ _ _ sL (Eq x a q) _ _ (BU g o) _ (λh q=>g0.le q) D2 b7 b4 hL.1 hL.2.1 hL.2.2 (by rw[a1];exact c1) d7 ⟨e1,by omega⟩ (λi=>by rw[d8];simp)) H.f5.f4.f4.f4 ?_);rintro _ w _ (⟨Da,a3,q3,u3,g4,h7,a7,b8,b5,b9,d2,d6,rfl,rfl⟩|⟨cq,a6,hv,rfl⟩|⟨Df,a5,b3,a7,b6,rfl,rfl⟩) H'
   ·have H:=H'.l9;subst d2;subst d6;refine Zc 4 Z (Zr Z ?_);replace H:=(H.toPgsc 8 Z (m.le f) a0).l9
    exact ⟨_,.inl ⟨o,l,Da,_,_,[],a3,_,0,a9,f,a7,Z,.inr Z,λhc=>b5 (c9 hc),⟨b9.1.trans a1,λi=>by have h1:=b9.2 i;rw[d8] at h1;simp at h1;omega⟩,Z,Z⟩,H.perm 9 [4,0,1,2,5,8,3] Z Z⟩
   ·exact absurd ⟨by rw[if_neg (by decide)];have:=h8.2.2.2.2.1;omega,c2,by omega⟩ (Pu a6 e3 c6).2
   have H:=H'.l9;refine Zc 4 Z (Zr Z ?_);replace H:=(H.toPgsc 8 Z (m.le f) a0).l9;exact ⟨_,.inr ⟨_,l,Df,_,_,[],a5,a,q+1,0,true,0,by decide,.inl (λhc=>b3 (c9 hc)),f,a7,Z,.inr Z,⟨b6.1.trans a1,λi=>by have h1:=b6.2 i;rw[d8] at h1;simp at h1;omega⟩,by omega,Z,Z⟩,H.perm 9 [4,0,1,2,5,8,3] Z Z⟩
  have H:=H'.l9;refine Z0 15 [0] Z (Ag Z (λh2=>?_) (λh2=>?_))
  ·exact absurd h2 b0
  refine Z0 6 [0] Z (Ag Z (λh3=>?_) (λh3=>?_))
  ·refine Zc 6 Z (Zr Z ?_);replace H:=(H.toPgsc 8 Z (m.le f) a0).l9
   exact ⟨_,.inr ⟨_,l,D2,x,B,rs,ptl,a,q,u,b,t,by first|decide|exact b0,d1,f,b7,rfl,.inl rfl,⟨a1,λi=>by have:=c7 i;omega⟩,by omega,Z,Z⟩,H.perm 9 [0,1,2,3,4,8,5] Z Z⟩
  refine Zc 7 Z (Zr Z ?_);replace H:=(H.toPgsc 8 Z (m.le f) a0).l9;exact ⟨_,.inr ⟨_,l,D2,x,B,rs,ptl,a,q,u,b,t,by first|decide|exact b0,d1,f,b7,rfl,.inl rfl,⟨a1,λi=>by have:=c7 i;omega⟩,by omega,Z,Z⟩,H.perm 9 [0,1,2,3,4,8,5] Z Z⟩
 have H:=H'.l9;refine Z0 18 [3] Z (Zr Z ?_);replace H:=(H.toPgsc 6 Z (m.le f) a0).l9;exact ⟨_,.inr ⟨_,l,Df,x,B,rs,a5,a,q+1,u,true,sure,by decide,.inl b3,f,a7,Z,.inl Z,b6,by omega,Z,Z⟩,H.perm 9 [7,0,1,2,8,6,3] Z Z⟩
def Hk(f g:Bc)(S:List IE):Bc:=λi=>if (i:Int)∈S.map (λp:IE=>p.1) then g i else f i
theorem RJ(f g:Bc):Hk f g []=f:=by funext i;simp[Hk]
theorem Pw{f g:Bc}{S:List IE}{n:Nat}{p:Pg}{q:IE}(hq:q.1=(n:Int))(a:g n=some p):Hk f g (S++[q])=pgSet (Hk f g S) n p:=by
 funext i;unfold Hk pgSet;simp only[Yj,Yn,Y2,Yt,YA,hq];by_cases h:i=n
 ·subst h;simp[a]
 have:¬((i:Int)=(n:Int)):=by omega
 simp only[this,or_false,h,if_false]
theorem RK{f g:Bc}{es:List PgE}{clk:Nat}{hq:Hp}{S:List IE}(h:PgsIn g es clk hq)(r:BT (es.map PgE.ie) (S.map λp:IE=>p.2.2)=[])(l:∀p∈S,p∈es.map PgE.ie):Hk f g S=FZ f g:=by
 funext i;unfold Hk FZ;by_cases hi:(i:Int)∈S.map (λp:IE=>p.1)
 ·rw[if_pos hi]
  obtain ⟨p,hp,e⟩:=X6.1 hi;obtain ⟨b,a,rfl⟩:=X6.1 (l p hp);have c:=(h.ent b a).1;have:b.n=i:=by have:(b.n:Int)=i:=e;omega
  rw[this] at c;rw[c];rfl
 rw[if_neg hi]
 cases hg:g i with
 | none=>rfl
 | some p=>
  exfalso;obtain ⟨b,a,v⟩:=h.all i p hg;have o:b.ie∈es.map PgE.ie:=YP a;by_cases q:b.born∈S.map λp:IE=>p.2.2
  ·obtain ⟨p',d,m⟩:=X6.1 q
   obtain ⟨u,j,rfl⟩:=X6.1 (l p' d);obtain ⟨t,c⟩:=YC a;obtain ⟨s,k⟩:=YC j;have:=E4 h.born c k m.symm;subst this;rw[c] at k;cases k;exact hi (X6.2 ⟨_,d,by show (b.n:Int)=i;omega⟩)
  have:b.ie∈BT (es.map PgE.ie) (S.map λp:IE=>p.2.2):=by
   simp only[BT,Aa4];exact ⟨o,by simpa [PgE.ie] using q⟩
  rw[r] at this;cases this
theorem Ix(f g:Bc)(B:Nat->Pg):pgMap (FZ f g) B=λi=>(g i).getD (pgMap f B i):=by
 funext i;unfold pgMap FZ;cases g i<;>rfl
theorem Ui(md o:Nat)(f g:Bc)(k:Nat)(hq:Hp):An 105 [.map (some md),.map (some o)] [pgsA md f hq,DC o g k hq] (λv G=>v=.tuple #[]/\G=[pgsA md (FZ f g) hq,DC o g k hq]):=by
 intro z R w H;replace H:=H.l2;obtain ⟨es,clk,a8,H⟩:=H.pgs 0 Z;replace H:=H.l2;obtain ⟨c,a,b,a4,H⟩:=H.pgsc 1 Z;replace H:=H.l2;have y:∀p∈c.map PgE.ie,p.2.2<a:=λp hp=>by obtain ⟨e,he,rfl⟩:=X6.1 hp;exact b.clk e he
 have hn:((c.map PgE.ie).map λp:IE=>p.2.2).Nodup:=by rw[Zp];exact b.born
 refine Af func105 Z ntmps105 Z (Zc 3 Z (AC Z (HD 1 (e:=40) H Z Z J Z) ?_));rintro _ w ⟨rr,rfl,H⟩;replace H:=H.l3;refine Zc 3 Z ?_;refine Ap (σ:=List IE×List PgE×Nat) (λ⟨S,m,l⟩=>[(0,.map (some md)),(7,V rr)])
   (λ⟨S,m,l⟩ w=>Sep z (Gc rr o a (S.map λp:IE=>p.2.2)::AG md (m.map PgE.ie) l::AG o (c.map PgE.ie) a::R) w/\((∀p∈S,p∈c.map PgE.ie)/\PgsIn (Hk f g S) m l hq)) (λ⟨S,m,l⟩=>(BT (c.map PgE.ie) (S.map λp:IE=>p.2.2)).length) ⟨[],es,clk⟩
   (λ_ hF=>(hF.all Z)) ⟨H,λp hp=>absurd hp O,by rw[RJ];exact a8⟩ ?_
 clear H;rintro ⟨S,m,l⟩ w ⟨H',hI⟩;dsimp only at hI H' ⊢;have H:=H'.l3;obtain ⟨hS,a2⟩:=hI;refine Zc 2 Z (AC Z (Jc 0 2 H Z Z Z Z y) ?_);rintro _ w ⟨qx,rfl,t,H⟩;replace H:=H.l3;refine Ad Z (KN Z Z) (Zc 3 Z (Fz Z (λh1=>?_) (λh1=>?_)))
 ·obtain ⟨p1,rfl⟩:=YH.1 h1;refine Zc 5 Z ?_;obtain ⟨⟨j,i,h,s⟩,x,rfl⟩:=X6.1 (Dl t).1;obtain ⟨a0,a1,u⟩:=b.ent _ x;dsimp only at a0 a1 u
  have a6:Slc h 240:=u.slc;obtain ⟨a5,a7,a3,_⟩:=a2.put (k:=j) (p:=i) (v:=h) a1 u;refine Ad Z (HE (p:=(PgE.ie ⟨j,i,h,s⟩)) Z Z (AA ⟨H.bk 0 Z,H.bk 2 Z⟩) (YP x) hn) (Za 2 [] H Z ?_);intro b1 w H;refine Zc 1 Z (AV Z Z (AD 0 H Z Z Z Z (vs:=[Aa i.kind,h]) Z (Al Z (Al a6.one AL)) J O (out:=[Aa i.kind,h]) Z) ?_);rintro w H;replace H:=H.l4;refine Z2 6 [0,2] H Z (AV Z Z (CW 2 (e:=40) H Z Z J Z Z Z) ?_);rintro w H;replace H:=H.l4;refine Zc 1 Z ?_;have H':=H;have H:Sep z (blk b1 [Aa i.kind,h] 40::Gc rr o a (HX (S.map λp:IE=>p.2.2) (some (PgE.ie ⟨j,i,h,s⟩)))::AG md (D9 (m.map PgE.ie) (j:Int) (.agg #[Aa i.kind,h]) l) (putC (m.map PgE.ie) (j:Int) l)::AG o (c.map PgE.ie) a::R) w:=H';clear H';rw[a7] at H;have H:Sep z (blk b1 [Aa i.kind,h] 40::Gc rr o a (HX (S.map λp:IE=>p.2.2) (some (PgE.ie ⟨j,i,h,s⟩)))::AG md (a5.map PgE.ie) (putC (m.map PgE.ie) (j:Int) l)::AG o (c.map PgE.ie) a::R) w:=H;refine Zc 1 Z ?_;replace H:=H.d;refine gf ?_;intro _ hF;refine ⟨⟨S++[(PgE.ie ⟨j,i,h,s⟩)],a5,putC (m.map PgE.ie) (j:Int) l⟩,(hF.all Z),⟨(by dsimp only;rw[Yj];exact H),?_⟩,?_⟩
  ·refine ⟨λp hp=>?_,?_⟩
   ·rcases Yt.1 hp with hp|hp
    ·exact hS p hp
    simp at hp;subst hp;exact YP x
   dsimp only;rw[Pw (n:=j) (p:=i) (q:=(PgE.ie ⟨j,i,h,s⟩)) Z a0];exact a3
  (dsimp only;have:=ED t;rwa[show (S++[(PgE.ie ⟨j,i,h,s⟩)]).map (λp:IE=>p.2.2)=(S.map λp:IE=>p.2.2)++[s] from by simp[PgE.ie]])
 obtain rfl:qx=none:=by simpa using h1
 refine Zc 2 Z (gx (Zc 1 Z (Zf Z ?_)));have r:=a2;rw[RK b t hS] at r;replace H:=(H.toPgs 1 Z r).l3;replace H:=(H.toPgsc 2 Z b a4).l3;exact ⟨_,⟨Z,Z⟩,H.perm 3 [1,2] Z Z⟩
theorem JN(ps pd b md:Nat)(x:Sup)(c d:Value)(e:Bool):S8 prog 63 [V ps] [stB ps pd b x c md e d] (λv G=>v=.tuple #[]/\G=[stB ps pd b x c md false (.map none)]):=by
 intro z R u w a;have H:=a.l1;refine Ln func63 Z 8 ntmps63 Z (AF (Kb 4 [11] Z J (EY Z Z (SW 0 H Z Z Z Z Z Z J) ?_)));rintro w a;have H:=a.l1;refine Kb 2 [12] Z J (EY Z Z (WM 0 H Z Z Z Z Z Z J) ?_);rintro w a;have H:=a.l1;refine AN (Ve Z ?_);exact ⟨[stB ps pd b x c md false (.map none)],⟨Z,Z⟩,H⟩
set_option maxHeartbeats 4000000 in
theorem RL (ps pd j o md mo:Nat) (x s:Sup) (nu:Bool) (hq:Hp) (g:Bc) (k:Nat) (D:Dsk) (B:Nat->Pg) (rs:List Rc) (ptl:List (List UInt8)) (a q u:Int) (b:Bool) (sure:Nat) (hS:SInv D x B rs ptl a q u b sure) (hL:s.start=x.start/\s.len=x.len/\s.epoch=x.epoch) (b1:s.Ok (D.n:Int)) (c7:nu=decide (s.epoch<4294967296)) (c5:q<1099511627775) (b7:∀i,(D.ver i).length<=1000000000000) (c0:∀n,(g n).isSome=true->(n:Int)<x.pages) (hk:k<=40):An 46 [V ps] [stB ps pd j x (V o) md true (.map (some mo)),lgB o pd j s a q u b nu,tblA j,diskA pd D,pgsA md (ov rs) hq,DC mo g k hq,poolA hq] (λv G=>(k=0/\v=Aa 0/\G=[stB ps pd j x (V o) md false (.map none),lgB o pd j s a q u b nu,tblA j,diskA pd D,pgsA md (ov rs) hq,poolA hq])\/(1<=k/\∃(d:Hp) (r:Dsk) (x2:Sup) (B2:Nat->Pg) (l:List Rc) (a2 t:Int) (f:Nat),BC hq d/\SInv r x2 B2 l [] a2 (q+1) t false f/\(pgMap (ov l) B2=pgMap (FZ (ov rs) g) B/\∀n,(g n).isSome=true->(ov l n).isSome=true)/\(x2=x\/x2=Eq x a q)/\(Clean D->Clean r)/\(r.n=D.n/\∀i,(r.ver i).length<=(D.ver i).length+2)/\v=Aa 0/\G=[stB ps pd j x2 (V o) md false (.map none),lgB o pd j s a2 (q+1) t false nu,tblA j,diskA pd r,pgsA md (ov l) d,poolA d])\/(1<=k/\∃(c:Int) (d:Hp) (r:Dsk) (x2:Sup) (B2:Nat->Pg) (l:List Rc) (a0:List (List UInt8)) (a2 q2 t:Int) (b2:Bool) (f:Nat),c≠0/\(¬Clean D\/1099511627776<x.gen+1)/\BC hq d/\SInv r x2 B2 l a0 a2 q2 t b2 f/\pgMap (ov l) B2=pgMap (ov rs) B/\(x2=x\/x2=Eq x a q)/\(r.n=D.n/\∀i,(r.ver i).length<=(D.ver i).length+2)/\(q<=q2/\q2<=q+1)/\v=Aa c/\G=[stB ps pd j x2 (V o) md false (.map none),lgB o pd j s a2 q2 t b2 nu,tblA j,diskA pd r,pgsA md (ov l) d,poolA d])):=by
 intro z R w m;have H:=m.l7;have c9:=hS.ok.2;have b5:∀n,(g n).isSome=true->n<1024:=λn h=>by have:=c0 n h;omega
 obtain ⟨c3,c8,a5,a3,m⟩:=H.pgsc 5 Z;clear H;have H:=m.l7;have b6:∀n p,g n=some p->p.Ok:=λn p h=>a5.okp h;have d0:(c3.map PgE.ie).length=k:=by simp[a3]
 refine Pe func46 Z 30 ntmps46 Z (AO (AF (BI 1 Z Z (AN (AO (AO (AF (F7 5 [11,0] (A3 (H.blk 0 Z) AU) Z J Z (AN (Ei Z (C6 (AO (AF ?_)))))))))))));refine BI 1 Z Z (JK Z Z Z Z (AN (AO (AO (AF (F7 4 [12,0] (A3 (H.blk 0 Z) AU) Z J Z (s_do Z Z Z (Lo (e:=40) Z J Z (AA (H.bk 5 Z))) (BI 1 Z Z (AN (Fg Z (λh1=>?_) (λh1=>?_)))))))))))
 ·refine AO (AF (BI 1 Z Z (AN (DY ?_))));intro a_ hF;unfold HF;rw[hF.defers];refine FB (λw=>call63 _ w) (JN _ _ _ _ _ _ _ _) H 7 [0,1,2,3,4,5,6] Z Z ?_;rintro _ w _ ⟨rfl,rfl⟩ m;clear H;have H:=m.l7;refine NU hF (rs:=[.tmp 2]) Z [Aa 0] ⟨Z,trivial⟩ (v:=Aa 0) Z ?_;exact ⟨[stB ps pd j x (V o) md false (.map none),lgB o pd j s a q u b nu,tblA j,diskA pd D,pgsA md (ov rs) hq,poolA hq],.inl ⟨by omega,Z,Z⟩,H.perm 7 [0,1,2,3,4,6] Z Z⟩
 refine C6 (AO (AO ?_));have b3:1<=k:=by omega
 have m:=H.toPgsc 5 Z a5 a3;have H:=m.l7;refine AF (BI 1 Z Z (E2 Z Z Z Z Z (λw=>call104 _ w) (Pv _ _ _ _ _ _ _ _ _ _ _ _ _ _ _ _ _ _ _ _ _ _ hS hL b1 c7 c5 b7 c0 U) H Z ?_));rintro _ w _ (⟨ks,d,r,x2,B2,a1,a2,t,f,c1,y,a7,a8,b0,b8,a9,rfl,rfl⟩|⟨c4,d,r,x2,B2,l,a0,a2,q2,t,b9,f,a4,c2,y,a7,a8,b0,a9,b4,rfl,rfl⟩) m
 ·have H:=m.l7;refine BI 1 Z Z (AN (AO (AF (BI 2 Z Z (QC 19 Z Z (AN (Ei Z (C6 (AO (BQ (Sep z (stB ps pd j x2 (V o) md true (.map (some mo))::R)) 9 Z J (A9 H λw m=>?_)))))))))))
  have H:=m.l7;refine XP [0,1,2,3,4,5,6,7] [10,0,12,0] (λ_ hx=>(A3 (hx.blk 0 Z) AU)) (by exact H.pick 7 [0] Z) Z J Z Z (Cg [8] J O (Az (BF Z Z Z Z Z Z (λw=>call105 _ w) (Ui _ _ _ _ _ _) H.f5.f5 Z ?_)));rintro _ w _ ⟨rfl,rfl⟩ m;have H:=m.l7;refine B3 (H.pick 7 [2] Z) (a_done J (AO (AF (BI 1 Z Z (AN (DY ?_))))));intro a_ hF;unfold HF;rw[hF.defers];refine FB (λw=>call63 _ w) (JN _ _ _ _ _ _ _ _) H 7 [2,0,1,3,4,5,6] Z Z ?_;rintro _ w _ ⟨rfl,rfl⟩ m;clear H;have H:=m.l7;refine NU hF (rs:=[.tmp 2]) Z [Aa 0] ⟨Z,trivial⟩ (v:=Aa 0) Z ?_;have a6:FZ (ov a1) g=ov (a1++[⟨q,BU g ks⟩]):=by rw[HB,N5 c1 (Kr c1 b6 b5)]
  rw[a6] at H;have H:Sep z (stB ps pd j x2 (V o) md false (.map none)::pgsA md (ov (a1++[⟨q,BU g ks⟩])) d::DC mo g k d::lgB o pd j s a2 (q+1) t false nu::tblA j::diskA pd r::poolA d::R) w:=H;exact ⟨[stB ps pd j x2 (V o) md false (.map none),lgB o pd j s a2 (q+1) t false nu,tblA j,diskA pd r,pgsA md (ov (a1++[⟨q,BU g ks⟩])) d,poolA d],.inr (.inl ⟨b3,d,r,x2,B2,_,a2,t,f,y,a7,⟨by rw[<-a6,Ix,Ix,a8],λn hn=>by rw[<-a6];obtain ⟨p_,c6⟩:=YH.1 hn;simp[FZ,c6]⟩,b0,b8,a9,Z,Z⟩),H.perm 7 [0,3,4,5,1,6] Z Z⟩
 have H:=m.l7;refine BI 1 Z Z (AN (AO (AF (BI 2 Z Z (AN (Fg Z (λh2=>?_) (λh2=>?_)))))))
 ·refine AO (AF (BI 2 Z Z (AN (DY ?_))));intro a_ hF;unfold HF;rw[hF.defers];refine FB (λw=>call63 _ w) (JN _ _ _ _ _ _ _ _) H 7 [0,1,2,3,4,5,6] Z Z ?_;rintro _ w _ ⟨rfl,rfl⟩ m;clear H;have H:=m.l7;refine NU hF (rs:=[.tmp 2]) Z [Aa c4] ⟨Z,trivial⟩ (v:=Aa c4) Z ?_;exact ⟨[stB ps pd j x2 (V o) md false (.map none),lgB o pd j s a2 q2 t b9 nu,tblA j,diskA pd r,pgsA md (ov l) d,poolA d],.inr (.inr ⟨b3,_,d,r,x2,B2,l,a0,a2,q2,t,b9,f,a4,c2,y,a7,a8,b0,a9,b4,Z,Z⟩),H.perm 7 [0,1,2,3,4,6] Z Z⟩
 exact absurd a4 h2
section
def BG(x:Sup):Sup:= {x with gen:=x.gen+1,epoch:=x.epoch+1,head:=0,seq:=1}
theorem Te(x:Sup):(BG x).gen=x.gen+1/\(BG x).epoch=x.epoch+1/\(BG x).pages=x.pages/\(BG x).start=x.start/\(BG x).len=x.len/\(BG x).head=0/\(BG x).seq=1:=⟨Z,Z,Z,Z,Z,Z,Z⟩
def WW(D:Dsk)(s:Sup)(a q u:Int):Prop:=s.len<=u\/∀ims,¬nextP (Cs D s a) s.epoch q (s.len-u) ims
structure OInv(D:Dsk)(x:Sup)(B:Nat->Pg)(Gd:List Rc->Prop):Prop where
 ok:x.Ok (D.n:Int)
 s:SOk x
 gen:1<=x.gen
 ver:∀i,D.ver i=[]
 sup:D.dur (x.gen%2).toNat=Br x
 oth:∃y:Sup,y.Ok (D.n:Int)/\y.gen=x.gen-1/\D.dur ((x.gen+1)%2).toNat=Br y
 tags:∀i:Nat,2+x.pages<=(i:Int)->∀e q,Tg (D.dur i) e q->e<=x.epoch
 read:∀(got:List Rc) (a q u:Int),Runs D x x.head x.seq 0 got a q u->WW D x a q u->Gd got
 recs:∀got,Gd got->∀r∈got,(1<=r.ims.length/\r.ims.length<=40)/\∀m∈r.ims,m.Ok/\m.num<x.pages
 gd:∀got,Gd got->∀i:Nat,(i:Int)<x.pages->ov got i=none->HomeP (D.dur (2+i)) i (B i)
theorem N6{rs:List Rc}{k m n:Nat}(a:k<=m)(h:(ov (rs.take k) n).isSome=true):(ov (rs.take m) n).isSome=true:=by
 have:=Fc ((rs.take m).drop k) _ (show (ov ((rs.take m).take k) n).isSome=true by rw[YE,Yz a];exact h);rwa[YG] at this
theorem SInv.crashed{D D':Dsk}{x:Sup}{B:Nat->Pg}{rs:List Rc}{ptl:List (List UInt8)}{a q u:Int}{b:Bool}{sure:Nat}(h:SInv D x B rs ptl a q u b sure)(hq:q<=1099511627776)(l:Crashed D D'):OInv D' x B (λf=>sure<=f.length/\f.length<=rs.length/\f=rs.take f.length):=by
 have hg:=h.gen;refine ⟨by rw[l.n];exact h.ok,h.s,hg,l.ver,?_,?_,λi v e q' ht=>h.tags hq v (l.dur i) ht,λf a' q' u' t w=>h.p.read h.s l hq t w,λf k r t=>?_,λf k i v ho=>?_⟩
 ·rcases l.dur (x.gen%2).toNat with g|g
  ·rw[g];exact h.sup.1
  rw[h.sup.2] at g;cases g
 ·obtain ⟨y,a,b,c,d⟩:=h.oth
  refine ⟨y,by rw[l.n];exact a,b,?_⟩;rcases l.dur ((x.gen+1)%2).toNat with g|g
  ·rw[g];exact c
  rw[d] at g;cases g
 ·rw[k.2.2] at t
  have o:=YF t;obtain ⟨j,hj⟩:=YC o;obtain ⟨_,h2,h3⟩:=h.p.recs j r hj;exact ⟨h2,λm z=>⟨h3 m z,h.num r o m z⟩⟩
 rcases h.home i v _ (l.dur _) with g|⟨g,_⟩
 ·exact g
 have:=N6 k.1 g;rw[<-k.2.2,ho] at this;cases this
variable{D:Dsk}{x:Sup}{B:Nat->Pg}{Gd:List Rc->Prop}
theorem OInv.ovb(h:OInv D x B Gd){a:List Rc}(c:Gd a){n:Nat}(b:(ov a n).isSome=true):(n:Int)<x.pages:=by
 obtain ⟨p,hp⟩:=YH.1 b;obtain ⟨r,e,m,d,i,_⟩:=I8 _ a Z hp;have f:=((h.recs a c r e).2 m d).2;have g:=h.ok.2;omega
theorem OInv.ovok(h:OInv D x B Gd){a:List Rc}(c:Gd a){n:Nat}{p:Pg}(b:ov a n=some p):p.Ok:=by
 obtain ⟨r,e,m,d,_,rfl⟩:=I8 _ a Z b;exact ES ((h.recs a c r e).2 m d).1
theorem OInv.opened(h:OInv D x B Gd){a:List Rc}(v:Gd a){f:List Int}(k:Ef (ov a) f)(l:(BG x).Ok (D.n:Int))(he:x.epoch+1<4294967296):
  SInv (En (hwD D (pgLst (ov a) f)).fl (BG x)) (BG x) (pgMap (ov a) B) [] [] 0 1 0 false 0:=by
 have hk:=h.ok.2;have a0:=h.gen;have hf:=Te x;have o:=h.s;have t:SOk (BG x):=⟨by rw[hf.2.2.2.1];exact o.start,by have:=o.head;omega,by have:=o.epoch;omega,by omega⟩;have u:∀y∈pgLst (ov a) f,(y.1:Int)<x.pages:=λy l=>h.ovb v (by rw[(DD k y.1 y.2).1 l];rfl);have d:∀i c,Cx (En (hwD D (pgLst (ov a) f)).fl (BG x)) i c->i≠((BG x).gen%2).toNat->c=(hwD D (pgLst (ov a) f)).cont i:=λi c b m=>by
  have g:=DU (hwD D (pgLst (ov a) f)).fl (BG x) i m;unfold Cx at b;rw[g.1,g.2] at b;rcases b with b|b
  ·exact b
  cases b
 have q:∀i:Nat,i<2->(hwD D (pgLst (ov a) f)).cont i=D.dur i:=λi m=>by
  rw[hw_cont_out _ D i (λy _ e=>by omega)];exact DM (h.ver i)
 refine ⟨by show (BG x).Ok ((hwD D _).n:Int);rw[Ed];exact l,?_,t,by omega,λr hr=>(by cases hr),λi m c b=>.inl ?_,Gb _ _,?_,λi m hr c b e q' w=>?_⟩
 ·have:=PInv.fresh (D:=En (hwD D (pgLst (ov a) f)).fl (BG x)) t (λi h1 h2 c b e q' w=>?_)
  ·rw[hf.2.2.2.2.2.1,hf.2.2.2.2.2.2] at this;exact this
  have m:=d i c b U;rw[hw_cont_out _ D i (λy l e=>by have:=u y l;omega),DM (h.ver i)] at m;subst m;have:=h.tags i U e q' w;omega
 ·have j:=d (2+i) c b U
  subst j;unfold pgMap
  cases g:ov a i with
  | some p=>
   have hm:(i,p)∈pgLst (ov a) f:=(DD k i p).2 g;rw[S6 _ D (DV k) (i,p) hm];exact .inr ⟨h.ovok v g,Z⟩
  | none=>
   rw[hw_cont_out _ D _ (λz hz e=>by
    have:=(DD k z.1 z.2).1 hz;rw[show z.1=i from by omega,g] at this;cases this),DM (h.ver _)]
   exact h.gd a v i U g
 ·refine ⟨x,by show x.Ok ((hwD D _).n:Int);rw[Ed];exact h.ok,by omega,?_⟩
  have g:=DU (hwD D (pgLst (ov a) f)).fl (BG x) (((BG x).gen+1)%2).toNat U;refine ⟨?_,by rw[g.2];rfl⟩;rw[g.1];show (hwD D (pgLst (ov a) f)).cont _=_;rw[q _ U,show ((BG x).gen+1)%2=x.gen%2 from by omega];exact h.sup
 have j:=d i c b U;rw[hw_cont_out _ D i (λy l e=>by have:=u y l;omega),DM (h.ver i)] at j;subst j;have:=h.tags i U e q' w;omega

def DW(D:Dsk):Nat->Dsk
 | 0=>D
 | k+1=>(DW D k).wr (2+k) [List.replicate 256 0]
theorem LD(D:Dsk):∀k,(DW D k).n=D.n
 | 0=>rfl
 | k+1=>by show ((DW D k).wr _ _).n=_;rw[Dsk.wr_n];exact LD D k
theorem Uj(n k i:Nat):(DW (BV n) k).cont i=List.replicate 256 0:=by
 induction k with
 | zero=>rfl
 | succ k ih=>
  show ((DW (BV n) k).wr _ _).cont i=_;rw[wr_cont,ih];by_cases h:2+k<=i
  ·rw[if_pos h]
   rcases Aaj (i-(2+k)) with e|e
   ·rw[e];rfl
   rw[Ys (by simp;omega)];rfl
  rw[if_neg h];rfl
theorem EU{D:Dsk}(h:Clean D):∀k,Clean (DW D k)
 | 0=>h
 | k+1=>(EU h k).wr _ _
theorem Px(n:Nat)(i:Nat):∀k,((DW (BV n) k).ver i).length<=k
 | 0=>by simp[DW,BV]
 | k+1=>by
  have h1:=Dsk.wr_len (DW (BV n) k) (2+k) [List.replicate 256 0] i;have a:=Px n i k;show (((DW (BV n) k).wr _ _).ver i).length<=_;omega
def Bl(p s l g:Int):Sup:=⟨g,1,p,s,l,0,1⟩
def Ks(n:Nat)(p s l:Int):Dsk:=En (En (DW (BV n) p.toNat).fl (Bl p s l 1)) (Bl p s l 2)
theorem EF(n:Nat):Clean (BV n):=⟨Z,Z,Z,Z⟩
theorem RM(n:Nat)(p s l:Int):Clean (Ks n p s l):=((EU (EF n) _).fl.sv _).sv _
theorem RN(n:Nat)(p s l:Int):(Ks n p s l).n=n:=LD _ _
theorem Py(n:Nat)(p s l:Int)(i:Nat):(Ks n p s l).ver i=[]:=Gj (Gj (λ_=>rfl) _) _ i
theorem LE(n:Nat)(p s l:Int)(i:Nat)(c:2<=i):(Ks n p s l).dur i=List.replicate 256 0:=by
 have a:=DU (En (DW (BV n) p.toNat).fl (Bl p s l 1)) (Bl p s l 2) i (by show i≠((2:Int)%2).toNat;simp;omega);have b:=DU (DW (BV n) p.toNat).fl (Bl p s l 1) i (by show i≠((1:Int)%2).toNat;simp;omega);exact (a.1.trans b.1).trans (Uj n _ i)
theorem Uk{n:Nat}{p s l:Int}(c:(Bl p s l 2).Ok (n:Int)):OInv (Ks n p s l) (Bl p s l 2) (λ_=>DP) (λb=>b=[]):=by
 have x:(Bl p s l 2).gen=2/\(Bl p s l 2).epoch=1/\(Bl p s l 2).pages=p/\(Bl p s l 2).start=s/\(Bl p s l 2).len=l/\(Bl p s l 2).head=0/\(Bl p s l 2).seq=1:=⟨Z,Z,Z,Z,Z,Z,Z⟩;have v:=Sup.get c;have t:=c.2;have f:SOk (Bl p s l 2):=⟨by omega,by omega,by omega,by omega⟩;have d:∀z:Int,(Ks n p s l).cont (ringAt (Bl p s l 2) z)=List.replicate 256 0:=λz=>by
  have:=HI f z;rw[DM (Py _ _ _ _ _)];exact LE _ _ _ _ _ U
 refine ⟨by rw[RN];exact c,f,by omega,Py _ _ _ _,(Gb _ _).1,⟨Bl p s l 1,?_,Z,?_⟩,λi j e q k=>?_,λb a q u g o=>?_,λb h r g=>?_,λb _ i w _=>?_⟩
 ·rw[RN]
  exact Sup.ok_mk (by show 0<=(1:Int)/\(1:Int)<=1099511627776;omega) (by show 0<=(1:Int)/\(1:Int)<=1099511627776;omega) (by show 16<=p/\p<=1024;omega) (by show 2+p<=s/\s<=1099511627776;omega) (by show 64<=l/\l<=1099511627776;omega) (by show 0<=(0:Int)/\(0:Int)<l;omega) (by show 0<=(1:Int)/\(1:Int)<=1099511627776;omega) (by show s<=n-l/\l<=n;omega)
 ·have j:=DU (En (DW (BV n) p.toNat).fl (Bl p s l 1)) (Bl p s l 2) 1 (by show 1≠((2:Int)%2).toNat;decide)
  exact j.1.trans (Gb (DW (BV n) p.toNat).fl (Bl p s l 1)).1
 ·rw[LE _ _ _ _ _ U] at k
  exact (Re _ _ k).elim
 ·cases g with
  | nil=>rfl
  | snoc r hlt hn=>
   exfalso;have m:=hn.1;have e:∀z,Cs (Ks n p s l) (Bl p s l 2) z 0=List.replicate 256 0:=λz=>d (z+((0:Nat):Int));rw[e] at m;exact Kk m
 ·subst h;cases g
 rw[LE _ _ _ _ _ U];exact .inl ⟨Z,Z⟩
end
theorem OInv.two{D:Dsk}{x:Sup}{B:Nat->Pg}{Gd:List Rc->Prop}(h:OInv D x B Gd):∃a b:Sup,a.Ok (D.n:Int)/\b.Ok (D.n:Int)/\a.gen%2=0/\b.gen%2=1/\D.cont 0=Br a/\D.cont 1=Br b/\x=if a.gen<b.gen then b else a:=by
 obtain ⟨y,g,i,c⟩:=h.oth;have hs:=h.sup;have j:=h.gen;have d:=DM (h.ver 0);have f:=DM (h.ver 1);rcases (show x.gen%2=0\/x.gen%2=1 by omega) with e|e
 ·rw[show (x.gen%2).toNat=0 by omega] at hs
  rw[show ((x.gen+1)%2).toNat=1 by omega] at c;exact ⟨x,y,h.ok,g,e,by omega,d.trans hs,f.trans c,by rw[if_neg U]⟩
 rw[show (x.gen%2).toNat=1 by omega] at hs;rw[show ((x.gen+1)%2).toNat=0 by omega] at c;exact ⟨y,x,g,h.ok,by omega,e,d.trans c,f.trans hs,by rw[if_pos U]⟩
theorem VO{x:Sup}{n:Int}(h:x.Ok n)(d:1<=x.gen)(c:x.gen+1<=1099511627776)(b:x.epoch+1<=1099511627776):(BG x).Ok n:=by
 have hs:=Sup.get h;have a:=h.2;have e:=Te x;exact Sup.ok_mk U U U U U U U U
theorem LF{rs:List Rc}{k:Nat}{r:Rc}(h:rs[k]?=some r):DN (ov (rs.take k)) r.ims=ov (rs.take (k+1)):=by
 rw[Ye,h];exact (HB _ _).symm
theorem KF{f:Bc}{ims:List Img}{k:Nat}{m:Img}(h:ims[k]?=some m):pgSet (DN f (ims.take k)) m.num.toNat (ER m)=DN f (ims.take (k+1)):=by
 rw[Ye,h];exact (Rh _ _ _).symm
set_option maxHeartbeats 4000000 in
theorem sopen_c (pd:Nat) (D:Dsk) (x:Sup) (B:Nat->Pg) (Gd:List Rc->Prop) (hO:OInv D x B Gd) (b1:Clean D) (h7:x.gen+1<=1099511627776) (e5:x.epoch+1<4294967296):An 30 [V pd] [diskA pd D] (λv G=>∃(ps pl b md:Nat) (hq:Hp) (D2:Dsk) (d4:List Rc),Gd d4/\SInv D2 (BG x) (pgMap (ov d4) B) [] [] 0 1 0 false 0/\Clean D2/\D2.n=D.n/\(∀i,D2.ver i=[])/\v=.tuple #[V ps,Aa 0]/\G=[stB ps pd b (BG x) (V pl) md false (.map none),lgB pl pd b (BG x) 0 1 0 false (decide ((BG x).epoch<4294967296)),tblA b,diskA pd D2,pgsA md CQ hq,poolA hq]):=by
 intro z R w H;obtain ⟨y0,y1,f8,g2,f9,g1,g3,e6,g0⟩:=hO.two;have a8:=hO.ok;have h8:=Sup.get a8;have h0:=a8.2;have c7:=hO.gen;have a3:(BG x).Ok (D.n:Int):=VO a8 c7 U U;refine Af func30 Z ntmps30 Z (Zc 19 Z (AB Z (call73 _) (Lq) H ?_));rintro _ w _ ⟨b,rfl,rfl⟩ H;refine AC Z (E3 H Z) ?_;rintro _ w ⟨t,rfl,H⟩;refine Ad Z (AQ Z Z (out:=[V pd,V b,Aa 0,Aa 0,Aa 0,Aa 0,Aa 0,Aa 0,Aa 0,.pointer none,.map (some t),.bool false,.map none]) J) (Za 0 [] H Z ?_);intro b2 w H;refine Z2 10 [1,0,0] H Z (Ah Z (call74 _) (VN _ _ _ b1.f1 x y0 y1 f8 g2 f9 g1 g3 e6 g0) H.f2.f3 ?_);intro w H;refine Za 3 [] H Z ?_;intro b3 w H;refine Z4 24 [0,4,0,7,2,3] H Z ?_;intro w H;replace H:=H.f3;refine BQ (Sep z (stB b2 pd b x (.pointer none) t false (.map none)::blk b3 [Aa x.gen,Aa x.epoch,Aa x.pages,Aa x.start,Aa x.len,Aa x.head,Aa x.seq] 92::R)) 14 Z J (A9 H λw s=>?_);have H:=s.l5;refine CC [0,1,2,3,4,5] [1,0,0,1,7] [] (by exact H.pick 5 [0,1] Z) Z J Z (Cg [6] J O (Az (BF Z Z Z Z Z Z (λw=>call75 _ w) (VK _ _ x _ a8 b1.f1) H.f2.f3 Z ?_)));rintro _ w _ ⟨b0,a,a5,q5,u5,v5,y,rfl,b7,b6,o,rfl⟩ H;obtain ⟨c5,c2,rfl⟩:=o.slc;obtain ⟨d2,b9,a7,c9⟩:=o;have g4:d2.length=a.length:=by rw[<-b9];simp
 have a1:=hO.read a a5 q5 u5 b7 b6;have e9:=hO.recs a a1;have g9:=a7.small;have c8:∀n,(ov a n).isSome=true->n<1024:=λn h=>by have:=hO.ovb a1 h;omega
 have d6:∀n,(ov a n).isSome=true->2+n<D.n:=λn h=>by have:=hO.ovb a1 h;omega
 have H:Sep z (poolA y::lgB b0 pd b x a5 q5 u5 false (decide (x.epoch<4294967296))::tblA b::diskA pd D::stB b2 pd b x (.pointer none) t false (.map none)::blk b3 [Aa x.gen,Aa x.epoch,Aa x.pages,Aa x.start,Aa x.len,Aa x.head,Aa x.seq] 92::AG t ([]) 0::R) w:=H;refine B3 (H.pick 7 [4,5] Z) (CC [7,8,9,10,11,12,13] [] [] (by exact H.pick 7 [4,5] Z) Z J Z (a_done J (gn (Z5 36 [4,0,5,0,0,5,1,5,0,1,5,0,5,0,0] [x.gen+1,x.epoch+1] H Z U ?_))));intro w H;refine Am 62 Z (λh1=>U) (λh1=>?_);refine Z2 6 [1,5,0,0] H Z (Ag Z (λh2=>U) (λh2=>?_));refine Zc 11 Z ?_;refine Ap (σ:=Nat×List PgE×Nat) (λ⟨k,es,cl⟩=>[(69,Aa (k:Int)),(0,V pd),(2,.pointer none),(3,Aa 0),(4,V b2),(5,V b3),(67,.slice c5 a.length c2),(68,Aa (a.length:Int))])
   (λ⟨k,es,cl⟩ w=>Sep z (poolA y::lgB b0 pd b x a5 q5 u5 false (decide (x.epoch<4294967296))::tblA b::diskA pd D::stB b2 pd b x (.pointer none) t false (.map none)::blk b3 [Aa (x.gen+1),Aa (x.epoch+1),Aa x.pages,Aa x.start,Aa x.len,Aa x.head,Aa x.seq] 92::AG t (es.map PgE.ie) cl::R) w/\(k<=a.length/\PgsIn (ov (a.take k)) es cl y)) (λ⟨k,es,cl⟩=>a.length-k) ⟨0,[],0⟩
   fr_z ⟨H,by omega,PgsIn.none _ _⟩ ?_
 clear H;rintro ⟨k,es,cl⟩ w ⟨s,hI⟩;dsimp only at hI s ⊢;have H:=s.l7;obtain ⟨h5,c1⟩:=hI;refine Z0 6 [0] Z (Ag Z (λh3=>?_) (λh3=>?_))
 ·refine Zc 6 Z ?_;obtain ⟨⟨g,w1⟩,b8⟩:∃e:RcE,d2[k]?=some e:=⟨_,XW U⟩;have e1:a[k]?=some g:=by rw[<-b9];simp[b8]
  obtain ⟨d1,c4,f,d3⟩:=c9 _ (XX b8);dsimp only at c4 f;obtain ⟨a4,c3,rfl⟩:=f.slc;have g6:d1.length=g.ims.length:=by rw[<-c4];simp
  have g5:=f.small;have d0:=e9 _ (XX e1);have d9:=(H.rv 0 (λq=>a7.le q)).at (DI b8 0 _ Z);refine Ad Z (Ar Z (z:=2) (j:=k) (r:=k*2) J Z Z Z U d9 U) (Ad Z (B8 Z Z (vs:=[Aa g.seq,.slice a4 g.ims.length c3]) J O (AA (λk u hk=>(H.rv 0 (λq=>a7.le q)).at (DI b8 k u hk)))) (Za 0 [] H Z ?_));intro b4 w H;refine Z4 12 [0,1,0,0] H Z ?_;intro w H;refine Ap (σ:=Nat×List PgE×Nat) (λ⟨j,ei,ci⟩=>[(76,Aa (j:Int)),(0,V pd),(2,.pointer none),(3,Aa 0),(4,V b2),(5,V b3),(10,V b4),(67,.slice c5 a.length c2),(68,Aa (a.length:Int)),(69,Aa (k:Int)),(70,.bool (decide ((k:Int)<(a.length:Int)))),(71,Fb c5 (k*2)),(72,.agg #[Aa g.seq,.slice a4 g.ims.length c3]),(73,.pointer (some ⟨b4,1,none⟩)),(74,.slice a4 g.ims.length c3),(75,Aa (g.ims.length:Int))])
    (λ⟨j,ei,ci⟩ w=>Sep z (blk b4 [Aa g.seq,.slice a4 g.ims.length c3] 116::poolA y::lgB b0 pd b x a5 q5 u5 false (decide (x.epoch<4294967296))::tblA b::diskA pd D::stB b2 pd b x (.pointer none) t false (.map none)::blk b3 [Aa (x.gen+1),Aa (x.epoch+1),Aa x.pages,Aa x.start,Aa x.len,Aa x.head,Aa x.seq] 92::AG t (ei.map PgE.ie) ci::R) w/\(j<=g.ims.length/\PgsIn (DN (ov (a.take k)) (g.ims.take j)) ei ci y)) (λ⟨j,ei,ci⟩=>g.ims.length-j) ⟨0,es,cl⟩
    fr_z ⟨H,by omega,c1⟩ ?_
  clear H;rintro ⟨j,ei,ci⟩ w ⟨s,hI⟩;dsimp only at hI s ⊢;have H:=s.l8;obtain ⟨h6,a0⟩:=hI;refine Z0 6 [0] Z (Ag Z (λh4=>?_) (λh4=>?_))
  ·refine Zc 6 Z ?_;obtain ⟨⟨⟨a6,l,c6⟩,u1⟩,m⟩:∃e:ImE,d1[j]?=some e:=⟨_,XW U⟩;have e0:g.ims[j]?=some ⟨a6,l,c6⟩:=by rw[<-c4];simp[m]
   obtain ⟨⟨d5,d8⟩,c0,a2⟩:=(d0.2 _ (XX e0)).1;dsimp only at d5 d8 c0 a2;obtain ⟨n,rfl⟩:∃n:Nat,a6=(n:Int):=⟨a6.toNat,by omega⟩;have a9:=d3 _ (XX m);dsimp only at a9;rw[a2] at a9;have e8:=a9.slc;have e3:=(H.rv 1 (λq=>f.le q)).at (Bb m 0 _ Z);obtain ⟨d7,f0,e2,_⟩:=a0.put (k:=n) (p:=⟨l,c6⟩) (v:=u1) ⟨c0,a2⟩ a9;refine Ad Z (Ar Z (z:=3) (j:=j) (r:=j*3) J Z Z Z U e3 U) (Ad Z (B8 Z Z (vs:=[Aa (n:Int),Aa l,u1]) J O (AA (λk u hk=>(H.rv 1 (λq=>f.le q)).at (Bb m k u hk)))) (Za 0 [] H Z ?_));intro b5 w H;refine AV Z Z (AD 0 H Z Z Z Z (vs:=[Aa (n:Int),Aa l,u1]) Z (Al Z (Al Z (Al e8.one AL))) J O (out:=[Aa (n:Int),Aa l,u1]) Z) ?_;rintro w H;refine Zc 2 Z ?_;replace H:=H.f6;refine BQ (Sep z (stB b2 pd b x (.pointer none) t false (.map none)::blk b5 [Aa (n:Int),Aa l,u1] 118::R)) 9 Z J (A9 H λw s=>?_);have H:=s.l9;refine CC [0,1,2,3,4,5,6,7] [10,0,0,0,1,0,1,1,2] [] (by exact H.pick 9 [0,1] Z) Z J Z (Cg [8] J O (Az (CA Z Z Z (CW 8 (e:=40) H Z Z J Z Z Z) ?_)));rintro w H;refine B3 (H.pick 9 [0,1] Z) (a_done J (gn ?_));rw[f0] at H;have H:Sep z (stB b2 pd b x (.pointer none) t false (.map none)::blk b5 [Aa (n:Int),Aa l,u1] 118::blk b4 [Aa g.seq,.slice a4 g.ims.length c3] 116::poolA y::lgB b0 pd b x a5 q5 u5 false (decide (x.epoch<4294967296))::tblA b::diskA pd D::blk b3 [Aa (x.gen+1),Aa (x.epoch+1),Aa x.pages,Aa x.start,Aa x.len,Aa x.head,Aa x.seq] 92::AG t (d7.map PgE.ie) (putC (ei.map PgE.ie) (n:Int) ci)::R) w:=H;refine Z1 6 [] [(j:Int)+1] Z U ?_;replace H:=H.f1.d.f7.f7.f2.f7.f7.f7.f7.f7;refine gf ?_;intro _ hF;refine ⟨⟨j+1,d7,putC (ei.map PgE.ie) (n:Int) ci⟩,hF.cz,⟨H,?_⟩,?_⟩
   ·dsimp only
    exact ⟨by omega,(KF e0)▸e2⟩
   (dsimp only;omega)
  obtain rfl:j=g.ims.length:=by omega
  refine Zc 2 Z (gx (Z1 7 [] [(k:Int)+1] Z U ?_));replace H:=H.d;refine gf ?_;intro _ hF;refine ⟨⟨k+1,ei,ci⟩,hF.cz,⟨H,?_⟩,?_⟩
  ·dsimp only
   rw[X0 (Yp _),LF e1] at a0;exact ⟨by omega,a0⟩
  (dsimp only;omega)
 obtain rfl:k=a.length:=by omega
 have a0:=c1;rw[X0 (Yp _)] at a0;refine Zc 2 Z (gx (Z4 15 [5,5,6,5,5,7] H Z ?_));intro w H;replace H:=(H.toPgs 6 Z a0).l7;refine AB Z (call76 _) (Hj _ _ _ _ _ _ _ _ (ov a) _ (BG x) D c8 d6 a3 (λi=>by rw[hO.ver];simp)) H.f6.f4.f4.f5 ?_;rintro _ w _ (⟨ks,e4,rfl,rfl⟩|⟨ks,c,D2,e4,g8,e7,rfl,rfl⟩) s
 ·have H:=s.l7;refine Z0 13 [4] Z ?_;replace H:=H.f6.f1;refine A1 (Sep z (stB b2 pd b (BG x) (.pointer none) t false (.map none)::blk b3 [Aa (x.gen+1),Aa (x.epoch+1),Aa x.pages,Aa x.start,Aa x.len,Aa 0,Aa 1] 92::R)) 11 Z J (A9 H λw s=>?_)
  have H:=s.l7;refine BA [0,1,2,3,4,5] [1,0] J (λ_ hx=>(A3 (hx.blk 0 Z) AU)) (by exact H.pick 7 [0,1] Z) Z J Z Z (Bg 6 J Z Z J J J Z Z Z (Bz Z Z (vs:=[Aa (x.gen+1),Aa (x.epoch+1),Aa x.pages,Aa x.start,Aa x.len,Aa 0,Aa 1]) J (λ_ hx=>(hx.blk 1 Z).part 0 7 _ Z)) (H.pick 7 [0,1] Z) (Ay [7] J O (Az (BF Z Z Z Z Z Z (λw=>call77 _ w) (MS _ _ _ (BG x) (by show (BG x).Ok ((hwD D _).n:Int);rw[Ed];exact a3)) H.f3 Z ?_))));rintro _ w _ ⟨pl,rfl,rfl⟩ H;refine Ax (λ_=>(H.pick 8 [2,3] Z)) (BA [8,9] [9] J (λ_ _=>AU) (by exact H.pick 8 [2,3] Z) Z J Z Z (Ay [10] J O (Az (CA Z Z Z (QI 2 H Z Z Z Z Z Z J) ?_))));rintro w H;refine Ax (λh=>absurd Z h) (Bi J (gn (Zc 9 Z (Zr Z ?_))));exact ⟨_,⟨b2,pl,_,t,_,_,a,a1,hO.opened a1 e4 a3 e5,(((b1.hw _).fl).sv _),by show (hwD _ _).n=_;exact Ed _ _,Gj (λ_=>rfl) _,Z,Z⟩,H.perm 8 [2,0,4,1,5,6] Z Z⟩
 exact absurd e7 b1.setF
theorem Ul(n k:Nat):wr1 (DW (BV n) k) false ((2:Int)+(k:Int)).toNat (List.replicate 256 0)=DW (BV n) (k+1):=by
 rw[show ((2:Int)+(k:Int)).toNat=2+k from by omega];rfl
theorem LG{n:Nat}{p s l:Int}(h:(Bl p s l 2).Ok (n:Int)):(Bl p s l 1).Ok (n:Int):=by
 have a:=h.2;have hs:=Sup.get h;have b:(Bl p s l 2).pages=p/\(Bl p s l 2).start=s/\(Bl p s l 2).len=l/\(Bl p s l 2).head=0:=⟨Z,Z,Z,Z⟩;exact Sup.ok_mk (by show 0<=(1:Int)/\(1:Int)<=1099511627776;omega) (by show 0<=(1:Int)/\(1:Int)<=1099511627776;omega) (by show 16<=p/\p<=1024;omega) (by show 2+p<=s/\s<=1099511627776;omega) (by show 64<=l/\l<=1099511627776;omega) (by show 0<=(0:Int)/\(0:Int)<l;omega) (by show 0<=(1:Int)/\(1:Int)<=1099511627776;omega) (by show s<=n-l/\l<=n;omega)
theorem RO{n:Nat}{p s l:Int}(h:(Bl p s l 2).Ok (n:Int)):(16<=p/\p<=1024)/\2+p<=s/\s+l<=n/\0<=l:=by
 have a:=h.2;have b:(Bl p s l 2).pages=p/\(Bl p s l 2).start=s/\(Bl p s l 2).len=l/\(Bl p s l 2).head=0:=⟨Z,Z,Z,Z⟩;omega
set_option maxHeartbeats 2000000 in
theorem RP (pd n:Nat) (p s l:Int) (f:(Bl p s l 2).Ok (n:Int)):An 86 [V pd,Aa p,Aa s,Aa l] [diskA pd (BV n)] (λv G=>v=Aa 0/\G=[diskA pd (Ks n p s l)]):=by
 intro z R w a;have H:Sep z (diskA pd (BV n)::R) w:=a;clear a;have b:(Bl p s l 1).Ok (n:Int):=LG f;have a1:(16<=p/\p<=1024)/\2+p<=s/\s+l<=n/\0<=l:=RO f;have j:=H.sy 0 (λq=>(diskA.ok q).n2);refine enter func86 Z 57 ntmps86 Z (AO (AF (BI 1 Z Z (AN (AO (AO (AF (BI 1 Z Z (s_do Z Z Z (KW Z J Z Z) (AN (Ei Z (C6 (AO ?_)))))))))))));refine AF (BI 3 Z Z (s_do Z Z Z (AQ Z Z (out:=[Aa 1,Aa 1,Aa p,Aa s,Aa l,Aa 0,Aa 1]) J) (Fa Z Z Z (BN (P:=prog) H Z (zs:=[Aa 0,Aa 0,Aa 0,Aa 0,Aa 0,Aa 0,Aa 0]) J) ?_)));rintro _ w ⟨o,rfl,a⟩;have H:=a.l2;refine EY Z Z (AD 0 H Z Z Z Z (vs:=[Aa 1,Aa 1,Aa p,Aa s,Aa l,Aa 0,Aa 1]) Z (by simp[u8,u32,Value.oneCell']) J O (out:=[Aa 1,Aa 1,Aa p,Aa s,Aa l,Aa 0,Aa 1]) Z) ?_;rintro w a;have H:=a.l2;refine AN (AO (AO (A4 (Sep z _) J J H.drew (Be Z Z Z (Bz Z Z (vs:=[Aa 1,Aa 1,Aa p,Aa s,Aa l,Aa 0,Aa 1]) J (λ_ hx=>(hx.blk 0 Z).part 0 7 _ Z)) (Ca 1 [] Z J (CO Z Z Z Z Z (λw=>call127 _ w) (v:=Aa ((BV n).n:Int)) (cq (Gh _ _) (by rintro _ _ ⟨rfl,rfl⟩;exact ⟨Z,Z⟩) 2 [1,0] [1,0] Z Z Z Z) (CO Z Z Z Z Z (λw=>call129 _ w) (v:=Aa (if (Sup.mk 1 1 p s l 0 1).Ok ((BV n).n:Int) then 0 else 1)) (cq (Ge (Sup.mk 1 1 p s l 0 1) _ U) (by rintro _ _ ⟨rfl,rfl⟩;exact ⟨Z,Z⟩) 0 [] [] Z Z Z Z) (Ca 1 [] Z J (Bn (λw a=>?_))))))))));have H:=a.l2;refine Fg Z (λt=>?_) (λt=>?_)
 ·exact (t (if_pos b)).elim
 refine C6 (AO (AO (AF (BI 2 Z Z (AN (Fk ?_))))));refine Ov (σ:=Nat) (λk=>[(27,Aa (k:Int)),(0,V pd),(9,V o),(26,Aa p)])
   (λk w=>Sep z (blk o [Aa 1,Aa 1,Aa p,Aa s,Aa l,Aa 0,Aa 1] 92::diskA pd (DW (BV n) k)::R) w/\(k<=p.toNat)) (λk=>p.toNat-k) 0
   fr_z ⟨H,by omega⟩ ?_
 clear H;rintro k w ⟨a,x⟩;have H:=a.l2;have a0:=x;clear x;refine AO (AF (BI 1 Z Z (AN (AO (Fg Z (λh2=>?_) (λh2=>?_))))))
 ·refine C6 (AO (Fk (AO (AF (BI 2 Z Z (AN (AO (AF (BI 2 Z Z (s_do Z Z Z (Cm Z Z Z (r:=(2:Int)+(k:Int)) U U) (Fa Z Z Z (C8 (k:=256) H Z J (Elt.mk (P:=prog) (e:=5) (z:=u8 0) (sz:=1) (by_:=1) J Z U U) Z Z Z U) ?_)))))))))));rintro _ w ⟨b2,rfl,a⟩;have H:=a.l3;refine E2 Z Z Z Z Z (λw=>call134 _ w) (Iw _ _ _ _ _ _ _ (List.replicate 256 0) _ O (λh q=>by rw[ZH];exact q.rd U U O Z) (λi=>by have:=Px n i k;omega) (by rw[LD];show 0<=(2:Int)+(k:Int)/\(2:Int)+(k:Int)+1<=(n:Int);omega)) H.f2 Z ?_;rintro _ w _ (⟨m,rfl,rfl⟩|⟨_,rfl,rfl⟩) a
  ·exact absurd m (EU (EF n) k).bad
  have H:=a.l3;refine BI 1 Z Z (AN (AO (AF (BI 2 Z Z (k_updA 36 (u:=.bool (decide ((0:Int)≠0))) (v:=.bool false) Z (congrArg Value.bool (by decide)) (AN (Ei Z (C6 (AF (s_do Z Z Z (Cm Z Z Z (r:=(k:Int)+1) U U) (BI 1 Z Z (AN ?_))))))))))));replace H:=H.f1.d.f1;intro _ hF;refine ⟨(k+1),hF.cz,⟨(by rw[<-Ul];exact H),?_⟩,?_⟩
  ·omega
  omega
 obtain rfl:k=p.toNat:=by omega
 refine Or (IS (AO (AO (AF (BI 1 Z Z (E2 Z Z Z Z Z (λw=>call70 _ w) (Gg _ _) H.f1 Z ?_))))));rintro _ w _ (⟨g,rfl,rfl⟩|⟨_,rfl,rfl⟩) a
 ·exact absurd g (EU (EF n) p.toNat).flb
 have H:=a.l2;refine BI 1 Z Z (AN (AO (AF (BI 2 Z Z (k_updA 42 (u:=.bool (decide ((0:Int)≠0))) (v:=.bool false) Z (congrArg Value.bool (by decide)) (AN (Ei Z (C6 (AO (AF (E2 Z Z Z Z Z (λw=>call73 _ w) (Lq) H Z ?_)))))))))));rintro _ w _ ⟨pt,rfl,rfl⟩ a;have H:=a.l3;refine BI 1 Z Z (AN (AO (AO (AF (BI 2 Z Z (s_do Z Z Z (Bz Z Z (vs:=[Aa 1,Aa 1,Aa p,Aa s,Aa l,Aa 0,Aa 1]) J (AA ((H.blk 2 Z).part 0 7 _ Z))) (E2 Z Z Z Z Z (λw=>call135 _ w) (Lw _ _ _ (Bl p s l 1) (by show (Bl p s l 1).Ok ((DW (BV n) p.toNat).n:Int);rw[LD];exact b) (λi=>by show ([]:List (List UInt8)).length<=_;simp)) H.f1 Z ?_)))))));rintro _ w _ (⟨c,rfl,rfl⟩|⟨_,rfl,rfl⟩) a
 ·exact absurd c ((EU (EF n) p.toNat).fl).bad
 have H:=a.l3;refine BI 1 Z Z (AN (AO (AF (BI 2 Z Z (k_updA 50 (u:=.bool (decide ((0:Int)≠0))) (v:=.bool false) Z (congrArg Value.bool (by decide)) (AN (Ei Z (C6 (AO (AF (Kb 1 [0] Z J (EY Z Z (AD 2 H Z Z Z Z (vs:=[Aa 2]) Z (by simp[u8,u32,Value.oneCell']) J O (out:=[Aa 2,Aa 1,Aa p,Aa s,Aa l,Aa 0,Aa 1]) Z) ?_))))))))))));rintro w a;have H:=a.l3;refine AN (AO (AF (BI 2 Z Z (s_do Z Z Z (Bz Z Z (vs:=[Aa 2,Aa 1,Aa p,Aa s,Aa l,Aa 0,Aa 1]) J (AA ((H.blk 2 Z).part 0 7 _ Z))) (E2 Z Z Z Z Z (λw=>call135 _ w) (Lw _ _ _ (Bl p s l 2) (by show (Bl p s l 2).Ok ((DW (BV n) p.toNat).n:Int);rw[LD];exact f) (λi=>by rw[Gj (λ_=>rfl)];simp)) H Z ?_)))));rintro _ w _ (⟨c,rfl,rfl⟩|⟨_,rfl,rfl⟩) a
 ·exact absurd c (((EU (EF n) p.toNat).fl.sv _)).bad
 have H:=a.l3;refine BI 1 Z Z (AN (DY (FN Z [Aa 0] ⟨Z,trivial⟩ (v:=Aa 0) Z ?_)));exact ⟨[diskA pd (En (En ((DW (BV n) p.toNat).fl) (Bl p s l 1)) (Bl p s l 2))],⟨Z,Z⟩,H.perm 3 [0] Z Z⟩
theorem Um(ps pd b md:Nat)(x:Sup)(c d:Value)(D:Dsk):An 28 [V ps] [stB ps pd b x c md false d,diskA pd D] (λv G=>(D.flb/\v=Aa 12/\G=[stB ps pd b x c md false d,diskA pd {D with f3:=AP D.f3}])\/(¬D.flb/\v=Aa 0/\G=[stB ps pd b x c md false d,diskA pd D.fl])):=by
 intro z R w e;have H:Sep z (stB ps pd b x c md false d::diskA pd D::R) w:=e;clear e;refine enter func28 Z 12 ntmps28 Z (AO (AF (BI 1 Z Z (AN (AO (AO (AF (F7 4 [11,0] (A3 (H.blk 0 Z) AU) Z J Z (AN (Ei Z (C6 (AO (AF ?_)))))))))))));refine F7 4 [0,0] (A3 (H.blk 0 Z) AU) Z J Z (E2 Z Z Z Z Z (λw=>call70 _ w) (Gg _ _) H.f1 Z ?_);rintro _ w _ (⟨a,rfl,rfl⟩|⟨a,rfl,rfl⟩) e
 ·have H:=e.l2;refine BI 1 Z Z (AN (DY (FN Z [Aa 12] ⟨Z,trivial⟩ (v:=Aa 12) Z ?_)));exact ⟨[stB ps pd b x c md false d,diskA pd ({D with f3:=AP D.f3})],.inl ⟨a,Z,Z⟩,H.perm 2 [1,0] Z Z⟩
 have H:=e.l2;refine BI 1 Z Z (AN (DY (FN Z [Aa 0] ⟨Z,trivial⟩ (v:=Aa 0) Z ?_)));exact ⟨[stB ps pd b x c md false d,diskA pd D.fl],.inr ⟨a,Z,Z⟩,H.perm 2 [1,0] Z Z⟩
section
structure StG where
 x:Sup
 B:Nat->Pg
 rs:List Rc
 ptl:List (List UInt8)
 a:Int
 q:Int
 u:Int
 b:Bool
 sure:Nat
def StG.M(G:StG):Nat->Pg:=pgMap (ov G.rs) G.B
def StG.home(G:StG):Prop:=∀n,ov G.rs n=none
structure StX where
 pl:Nat
 pt:Nat
 md:Nat
 mm:Nat
 sL:Sup
 nu:Bool
 hq:Hp
abbrev GZ:=Option (Bc×Nat)
def XG(mm:Nat):GZ->Value
 | none=>.map none
 | some _=>.map (some mm)
def XH(mm:Nat)(hq:Hp):GZ->List Ai
 | none=>[]
 | some o=>[DC mm o.1 o.2 hq]
abbrev XI(ps pd pt md:Nat)(x:Sup)(lp:Value)(un:Bool)(mo:Value):Ai:=blk ps [.pointer (some ⟨pd,0,none⟩),.pointer (some ⟨pt,0,none⟩),.int .i64 x.gen,.int .i64 x.epoch,.int .i64 x.pages,.int .i64 x.start,.int .i64 x.len,.int .i64 x.head,.int .i64 x.seq,lp,.map (some md),.bool un,mo] 97
abbrev XJ(pl pd pt:Nat)(sL:Sup)(a q u:Int)(b nu:Bool):Ai:=blk pl [.pointer (some ⟨pd,0,none⟩),.pointer (some ⟨pt,0,none⟩),.int .i64 sL.gen,.int .i64 sL.epoch,.int .i64 sL.pages,.int .i64 sL.start,.int .i64 sL.len,.int .i64 sL.head,.int .i64 sL.seq,.int .i64 a,.int .i64 q,.int .i64 u,.bool b,.bool nu] 191
def N7(ps pd:Nat)(D:Dsk)(G:StG)(own:GZ)(X:StX):List Ai:=
 [XI ps pd X.pt X.md G.x (.pointer (some ⟨X.pl,0,none⟩)) own.isSome (XG X.mm own),XJ X.pl pd X.pt X.sL G.a G.q G.u G.b X.nu,tblA X.pt,diskA pd D,pgsA X.md (ov G.rs) X.hq,poolA X.hq]++XH X.mm X.hq own
structure StP(D:Dsk)(G:StG)(own:GZ)(X:StX):Prop where
 inv:SInv D G.x G.B G.rs G.ptl G.a G.q G.u G.b G.sure
 l:X.sL.start=G.x.start/\X.sL.len=G.x.len/\X.sL.epoch=G.x.epoch
 ok:X.sL.Ok (D.n:Int)
 nu:X.nu=decide (X.sL.epoch<4294967296)
 own:∀o,own=some o->o.2<=40/\∀n,(o.1 n).isSome=true->(n:Int)<G.x.pages
def stoA(ps pd:Nat)(D:Dsk)(G:StG)(own:GZ):Ai:=λh=>∃X,StP D G own X/\seps (N7 ps pd D G own X) h
structure Fine(D:Dsk)(G:StG)(m:Nat):Prop where
 clean:Clean D
 b:G.b=false
 ver:∀i,(D.ver i).length<=m
 gen:G.x.gen<=m
 epoch:G.x.epoch<=m
 q:G.q<=m
theorem Fine.le{D:Dsk}{G:StG}{m a:Nat}(h:Fine D G m)(e:m<=a):Fine D G a:=
 ⟨h.clean,h.b,λi=>AaZ (h.ver i) e,by have:=h.gen;omega,by have:=h.epoch;omega,by have:=h.q;omega⟩
variable{z w:World}{Γ:List Ai}{ps pd:Nat}{D:Dsk}{G:StG}{own:GZ}
theorem Sep.sto(H:Sep z (stoA ps pd D G own::Γ) w):∃X,StP D G own X/\Sep z (N7 ps pd D G own X++Γ) w:=
 H.into (p:=λX=>StP D G own X) (As:=λX=>N7 ps pd D G own X) (λ_ q=>q)
theorem Sep.toSto{X:StX}(n:Nat)(H:Sep z Γ w)(b:StP D G own X)(a:Γ.take n=N7 ps pd D G own X):Sep z (stoA ps pd D G own::Γ.drop n) w:=
 H.made n (λh q=>⟨X,b,by rwa[a] at q⟩)
def EG(M:Nat->Pg):GZ->Nat->Pg
 | none,n=>M n
 | some o,n=>(o.1 n).getD (M n)
def MY(x:Sup)(B:Nat->Pg):StG:=⟨BG x,B,[],[],0,1,0,false,0⟩
theorem Pz(pd:Nat)(D:Dsk)(x:Sup)(B:Nat->Pg)(Gd:List Rc->Prop)(m:Nat)(h:OInv D x B Gd)(c:Clean D)(r:x.gen<=m/\x.epoch<=m)(s:m<=1000000000):
  An 30 [V pd] [diskA pd D] (λv G=>∃(ps:Nat) (b:Dsk) (a:List Rc),Gd a/\Fine b (MY x (pgMap (ov a) B)) (m+1)/\b.n=D.n/\v=.tuple #[V ps,Aa 0]/\G=[stoA ps pd b (MY x (pgMap (ov a) B)) none]):=by
 intro z R w H;refine Ret.mono (sopen_c pd D x B Gd h c U U z R w H) ?_;rintro v w' ⟨Γ',⟨ps,j,p,md,hq,b,a,f,d,g,k,q,rfl,rfl⟩,l⟩;refine ⟨_,⟨ps,b,a,f,⟨g,Z,λi=>by rw[q];simp,?_,?_,?_⟩,k,Z,Z⟩,l.toSto (X:=⟨j,p,md,0,BG x,decide ((BG x).epoch<4294967296),hq⟩) 6 ⟨d,⟨Z,Z,Z⟩,d.ok,Z,λo e=>(by cases e)⟩ Z⟩
 ·show x.gen+1<=_;omega
 ·show x.epoch+1<=_;omega
 show (1:Int)<=_;omega
theorem MZ(ps pd:Nat)(D:Dsk)(G:StG):An 39 [V ps] [stoA ps pd D G none] (λv X=>v=Aa 0/\X=[stoA ps pd D G (some (CQ,0))]):=by
 intro z R w H;obtain ⟨X,a,H⟩:=H.sto;refine Ret.mono (Cn.at (Ue ps pd X.pt X.md G.x _ _) H 6 [0,1,2,3,4,5] Z Z) ?_;rintro v w' ⟨Γ',⟨rfl,m,rfl⟩,b⟩;have H2:=b.mono 1 (B:=DC m CQ 0 X.hq) Z (λh q=>⟨[],0,PgsIn.none _ _,Z,q⟩);have H3:=H2.pick 7 [0,2,3,4,5,6,1] Z;exact ⟨_,⟨Z,Z⟩,H3.toSto (X:=⟨X.pl,X.pt,X.md,m,X.sL,X.nu,X.hq⟩) 7 ⟨a.inv,a.l,a.ok,a.nu,λo e=>by cases e;exact ⟨by omega,λn h=>(by cases h)⟩⟩ Z⟩
theorem Un(ps pd:Nat)(D:Dsk)(G:StG)(own:GZ):An 78 [V ps] [stoA ps pd D G own] (λv X=>v=.agg #[Aa G.x.gen,Aa G.x.epoch,Aa G.x.pages,Aa G.x.start,Aa G.x.len,Aa G.x.head,Aa G.x.seq]/\X=[stoA ps pd D G own]):=by
 intro z R w H;obtain ⟨X,b,H⟩:=H.sto
 cases own with
 | none=>
  refine Ret.mono (Cn.at (MX ps pd X.pt X.md G.x _ _ _) H 6 [0,1,2,3,4,5] Z Z) ?_;rintro v w' ⟨Γ',⟨rfl,rfl⟩,a⟩;exact ⟨_,⟨Z,Z⟩,a.toSto (X:=X) 6 b Z⟩
 | some o=>
  refine Ret.mono (Cn.at (MX ps pd X.pt X.md G.x _ _ _) H 7 [0,1,2,3,4,5,6] Z Z) ?_;rintro v w' ⟨Γ',⟨rfl,rfl⟩,a⟩;exact ⟨_,⟨Z,Z⟩,a.toSto (X:=X) 7 b Z⟩
theorem HJ(ps pd:Nat)(D:Dsk)(G:StG)(g:Bc)(k:Nat)(n:Nat)(u:(n:Int)<G.x.pages)(p:Pg)(hp:p.Ok)(s:Value)(A:Ai)(y:∀h,A h->rdH 1 s 240 (p.body.map u8) h):
  An 41 [V ps,Aa (n:Int),.agg #[Aa p.kind,s]] [stoA ps pd D G (some (g,k)),A] (λv X=>((g n=none/\40<=k)/\v=Aa 16/\X=[stoA ps pd D G (some (g,k)),A])\/(¬(g n=none/\40<=k)/\v=Aa 0/\X=[stoA ps pd D G (some (pgSet g n p,k+(if (g n).isSome then 0 else 1))),A])):=by
 intro z R w H;obtain ⟨X,b,H⟩:=H.sto;obtain ⟨m,r⟩:=b.own _ Z;refine Ret.mono (Cn.at (RI ps pd X.pt X.md X.mm G.x _ g k X.hq n u p hp s A y) H 8 [0,6,5,7,1,2,3,4] Z Z) ?_;rintro v w' ⟨Γ',(⟨d,rfl,rfl⟩|⟨d,c,hs,rfl,rfl⟩),t⟩
 ·have H3:=t.pick 8 [0,4,5,6,7,2,1,3] Z
  exact ⟨_,.inl ⟨d,Z,Z⟩,H3.toSto (X:=X) (ps:=ps) (pd:=pd) (D:=D) (G:=G) (own:=some (g,k)) 7 b Z⟩
 have H3:=(t.pick 8 [0,4,5,6,7,2,1,3] Z).mono 4 (B:=pgsA X.md (ov G.rs) c) Z (λh q=>pgsA.le hs h q);refine ⟨_,.inr ⟨d,Z,Z⟩,H3.toSto (X:=⟨X.pl,X.pt,X.md,X.mm,X.sL,X.nu,c⟩) (ps:=ps) (pd:=pd) (D:=D) (G:=G) (own:=some (pgSet g n p,k+(if (g n).isSome then 0 else 1))) 7 ⟨b.inv,b.l,b.ok,b.nu,λo e=>?_⟩ Z⟩;cases e;refine ⟨?_,λi hi=>?_⟩
 ·show k+(if (g n).isSome then 0 else 1)<=40
  split
  ·exact m
  rename_i j;have f:g n=none:=by simpa using j
  have:¬40<=k:=λe=>d ⟨f,e⟩;omega
 have a:(pgSet g n p i).isSome=true:=hi;unfold pgSet at a;split at a
 ·rename_i e;subst e;exact u
 exact r i a
theorem VP(ps pd:Nat)(D:Dsk)(G:StG)(own:GZ)(n:Nat)(g:(n:Int)<G.x.pages)(f:D.f1=0)(q:Pg)(hq:q=EG G.M own n):
  An 21 [V ps,Aa (n:Int)] [stoA ps pd D G own] (λv X=>(q=DP/\v=.tuple #[.agg #[Aa 0,.slice none 0 0],Aa 0]/\X=[stoA ps pd D G own])\/(q.Ok/\∃c,v=.tuple #[.agg #[Aa q.kind,c],Aa 0]/\X=[grow 5 1 c 240 (q.body.map u8),stoA ps pd D G own])):=by
 intro z R w H;obtain ⟨X,b,H⟩:=H.sto
 cases own with
 | none=>
  refine Ret.mono (Cn.at (RG ps pd X.pt X.md G.x _ _ (ov G.rs) X.hq D n g f b.inv.ok q (G.B n) hq (λe=>b.inv.cur g e)) H 6 [0,2,3,4,5,1] Z Z) ?_;rintro v w' ⟨Γ',(⟨a,rfl,rfl⟩|⟨a,c,rfl,rfl⟩),d⟩
  ·have H3:=d.pick 6 [0,5,1,2,3,4] Z
   exact ⟨_,.inl ⟨a,Z,Z⟩,H3.toSto (X:=X) (ps:=ps) (pd:=pd) (D:=D) (G:=G) (own:=none) 6 b Z⟩
  have H3:=d.pick 7 [1,6,2,3,4,5,0] Z;have H4:=H3.toSto (X:=X) (ps:=ps) (pd:=pd) (D:=D) (G:=G) (own:=none) 6 b Z;exact ⟨_,.inr ⟨a,c,Z,Z⟩,H4.pick 2 [1,0] Z⟩
 | some o=>
  refine Ret.mono (Cn.at (RH ps pd X.pt X.md X.mm G.x _ _ (ov G.rs) o.1 o.2 X.hq D n g f b.inv.ok q (G.B n) (by rw[hq];show (o.1 n).getD ((ov G.rs n).getD (G.B n))=_;cases o.1 n<;>rfl) (λe=>b.inv.cur g (by cases a:o.1 n with|none=>rw[a] at e;exact e|some y=>rw[a] at e;cases e))) H 7 [0,2,3,4,6,5,1] Z Z) ?_;rintro v w' ⟨Γ',(⟨a,rfl,rfl⟩|⟨a,c,rfl,rfl⟩),d⟩
  ·have H3:=d.pick 7 [0,6,1,2,3,5,4] Z
   exact ⟨_,.inl ⟨a,Z,Z⟩,H3.toSto (X:=X) (ps:=ps) (pd:=pd) (D:=D) (G:=G) (own:=some o) 7 b Z⟩
  have H3:=d.pick 8 [1,7,2,3,4,6,5,0] Z;have H4:=H3.toSto (X:=X) (ps:=ps) (pd:=pd) (D:=D) (G:=G) (own:=some o) 7 b Z;exact ⟨_,.inr ⟨a,c,Z,Z⟩,H4.pick 2 [1,0] Z⟩
theorem LH(ps pd:Nat)(D:Dsk)(G:StG)(g:Bc)(k m:Nat)(h:Fine D G m)(hm:m<=1000000000):
  An 46 [V ps] [stoA ps pd D G (some (g,k))] (λv X=>∃(r:Dsk) (s:StG),Fine r s (m+2)/\r.n=D.n/\(s.M=EG G.M (some (g,k))/\∀n,(g n).isSome=true->(ov s.rs n).isSome=true)/\(s.x=G.x\/s.x=Eq G.x G.a G.q)/\v=Aa 0/\X=[stoA ps pd r s none]):=by
 intro z R w H;obtain ⟨X,d,H⟩:=H.sto;obtain ⟨a5,a6⟩:=d.own _ Z;have h1:=h.gen;have h2:=h.epoch;have h3:=h.q;have hL:=d.l;have hc:=N2 G.x G.a G.q;refine Ret.mono (Cn.at (RL ps pd X.pt X.pl X.md X.mm G.x X.sL X.nu X.hq g k D G.B G.rs G.ptl G.a G.q G.u G.b G.sure d.inv d.l d.ok d.nu U (λi=>by have:=h.ver i;omega) a6 a5) H 7 [0,1,2,3,4,6,5] Z Z) ?_;rintro v w' ⟨Γ',(⟨h4,rfl,rfl⟩|⟨h4,a0,r,x2,B2,p,a2,u2,f,hs,a3,⟨a4,a1⟩,t,y,j,rfl,rfl⟩|⟨_,c,a0,r,x2,B2,p,a7,a2,q2,u2,b2,f,a8,hw,_⟩),H'⟩
 ·subst h4
  have hg:∀n,g n=none:=H.sy 6 (λq=>by obtain ⟨es,clk,h1,h2,_⟩:=q;exact h1.nil_iff.1 h2);exact ⟨_,⟨D,G,h.le U,Z,⟨by funext n;show _=(g n).getD _;rw[hg];rfl,λn hn=>by rw[hg] at hn;cases hn⟩,.inl Z,Z,Z⟩,H'.toSto (X:=X) 6 ⟨d.inv,d.l,d.ok,d.nu,λo e=>(by cases e)⟩ Z⟩
 ·have a9:x2.start=G.x.start/\x2.len=G.x.len/\x2.epoch=G.x.epoch/\x2.gen<=G.x.gen+1/\G.x.gen<=x2.gen:=by
   rcases t with rfl|rfl
   ·exact ⟨Z,Z,Z,by omega,by omega⟩
   exact ⟨Z,Z,Z,by omega,by omega⟩
  refine ⟨_,⟨r,⟨x2,B2,p,[],a2,G.q+1,u2,false,f⟩,⟨y h.clean,Z,λi=>by have:=j.2 i;have:=h.ver i;omega,by show x2.gen<=_;omega,by show x2.epoch<=_;omega,by show G.q+1<=_;omega⟩,j.1,⟨?_,a1⟩,t,Z,Z⟩,H'.toSto (X:=⟨X.pl,X.pt,X.md,X.mm,X.sL,X.nu,a0⟩) 6 ⟨a3,by show X.sL.start=x2.start/\X.sL.len=x2.len/\X.sL.epoch=x2.epoch;omega,by rw[j.1];exact d.ok,d.nu,λo e=>(by cases e)⟩ Z⟩;show pgMap (ov p) B2=_;rw[a4,Ix];rfl
 rcases hw with g|g
 ·exact absurd h.clean g
 omega
theorem sync_s(ps pd:Nat)(D:Dsk)(G:StG)(m:Nat)(a:Fine D G m):An 28 [V ps] [stoA ps pd D G none] (λv X=>v=Aa 0/\Fine D.fl {G with sure:=G.rs.length} m/\X=[stoA ps pd D.fl {G with sure:=G.rs.length} none]):=by
 intro z R w H;obtain ⟨X,c,H⟩:=H.sto;refine Ret.mono (Cn.at (Um ps pd X.pt X.md G.x _ _ D) H 6 [0,3,1,2,4,5] Z Z) ?_;rintro v w' ⟨Γ',(⟨d,_⟩|⟨_,rfl,rfl⟩),f⟩
 ·exact absurd d a.clean.flb
 have H3:=f.pick 6 [0,2,3,1,4,5] Z;exact ⟨_,⟨Z,⟨a.clean.fl,a.b,λi=>Yi _,a.gen,a.epoch,a.q⟩,Z⟩,H3.toSto (X:=X) 6 ⟨c.inv.flush,c.l,c.ok,c.nu,λo e=>(by cases e)⟩ Z⟩
end
section
theorem HK{a b:UInt32}(h:∀i,i<32->a.toBitVec.getLsbD i=b.toBitVec.getLsbD i):a=b:=UInt32.toBitVec_inj.1 (Aam h)
theorem bit1(a:UInt32):a&&&1=0\/a&&&1=1:=by
 have h:(a&&&1).toNat=a.toNat%2:=by rw[AaU];exact Nat.and_one_is_mod _
 rcases Nat.mod_two_eq_zero_or_one a.toNat with q|q
 ·exact .inl (ZC.1 (by rw[h,q];rfl))
 exact .inr (ZC.1 (by rw[h,q];rfl))
theorem Uo(a b:UInt32):(a ^^^ b)>>>1=(a>>>1) ^^^ (b>>>1):=by
 apply HK;intro i c;simp
theorem Up(a b:UInt32):(a ^^^ b)&&&1=(a&&&1) ^^^ (b&&&1):=by
 apply HK;intro i c;simp only[UInt32.toBitVec_and,AaF,Aak,Aal,Bool.and_xor_distrib_right]
theorem RQ(K a b:UInt32):((a ^^^ b)>>>1) ^^^ (((a ^^^ b)&&&(1:UInt32))*K)=((a>>>1) ^^^ ((a&&&(1:UInt32))*K)) ^^^ ((b>>>1) ^^^ ((b&&&(1:UInt32))*K)):=by
 rw[Uo,Up];generalize a>>>1=p;generalize b>>>1=q;have o:(1:UInt32)*K=K:=UInt32.one_mul K;have z:(0:UInt32)*K=0:=UInt32.zero_mul;have e:(1:UInt32) ^^^ 1=0:=Aa2;rcases bit1 a with x|x<;>rcases bit1 b with y|y<;>rw[x,y]<;>simp only[UInt32.xor_zero,Aa3,e,o,z]
 ·rw[ZN]
 ·rw[ZN,ZN,UInt32.xor_comm q K]
 rw[ZN,UInt32.xor_comm q K,<-ZN K K,Aa2,Aa3]
theorem Mp(a b:UInt32):CN (a ^^^ b)=CN a ^^^ CN b:=RQ _ a b
theorem N8{a:UInt32}(h:a&&&1=0):CN a=a>>>1:=by
 unfold CN;rw[h,UInt32.zero_mul,UInt32.xor_zero]
theorem Gk(n:Nat)(c:UInt32):Ch (n+1) c=CN (Ch n c):=by rw[Ch]
theorem EV(c:UInt32):Ch 0 c=c:=by rw[Ch]
theorem HL(n:Nat):∀c:UInt32,Ch (n+1) c=Ch n (CN c):=by
 induction n with
 | zero=>intro c;rw[Gk,EV,EV]
 | succ n ih=>intro c;rw[Gk,ih,<-Gk]
attribute [local irreducible] CN Ch
theorem PA(n:Nat):∀a b:UInt32,Ch n (a ^^^ b)=Ch n a ^^^ Ch n b:=by
 induction n with
 | zero=>intro a b;rw[EV,EV,EV]
 | succ n ih=>intro a b;rw[HL,HL,HL,Mp,ih]
theorem M1(a:UInt32)(i:Nat):(a>>>1).toBitVec.getLsbD i=a.toBitVec.getLsbD (1+i):=by simp
theorem Uq{a:UInt32}(h:a.toBitVec.getLsbD 0=false):a&&&1=0:=by
 rcases bit1 a with x|x
 ·exact x
 have e:=congrArg (λu:UInt32=>u.toBitVec.getLsbD 0) x;simp only[UInt32.toBitVec_and,Aak,h,Bool.false_and] at e;exact absurd e (by decide)
theorem crcIt_hi(n:Nat):∀a:UInt32,(∀i,i<n->a.toBitVec.getLsbD i=false)->n<=32->∀j,j<32->(Ch n a).toBitVec.getLsbD j=a.toBitVec.getLsbD (n+j):=by
 induction n with
 | zero=>intro a _ _ j b;rw[EV,Ze]
 | succ n ih=>
  intro a h d j b;have hs:=N8 (Uq (h 0 U));rw[HL,hs,ih _ (λi c=>by rw[M1];exact h _ U) U j b,M1];congr 1;omega
theorem RR(c:UInt32)(b:UInt8):Ch 8 (c ^^^ b.toUInt32)=(c>>>8) ^^^ Ch 8 ((c.toUInt8 ^^^ b).toUInt32):=by
 have d:∀i,((c>>>8) <<< 8).toBitVec.getLsbD i=(!decide (i<8)&&c.toBitVec.getLsbD i&&decide (i<32)):=λi=>by
  simp only[UInt32.toBitVec_shiftLeft,AaO];simp;by_cases h:i<8
  ·simp[h]
  simp[h,show 8+(i-8)=i by omega,Bool.and_comm]
 have g:∀i,((c.toUInt8 ^^^ b).toUInt32).toBitVec.getLsbD i=(decide (i<8)&&(c.toBitVec.getLsbD i ^^ b.toBitVec.getLsbD i)):=λi=>by
  simp only[UInt8.toBitVec_toUInt32,UInt8.toBitVec_xor,UInt32.toBitVec_toUInt8,BitVec.getLsbD_setWidth,Aal];by_cases h:i<8
  ·simp[h,show i<32 by omega]
  rw[AaC b.toBitVec i U];simp[h]
 have k:∀i,(b.toUInt32).toBitVec.getLsbD i=(decide (i<8)&&b.toBitVec.getLsbD i):=λi=>by
  simp only[UInt8.toBitVec_toUInt32,BitVec.getLsbD_setWidth];by_cases h:i<8
  ·simp[h,show i<32 by omega]
  rw[AaC b.toBitVec i U];simp
 have e:c ^^^ b.toUInt32=((c>>>8) <<< 8) ^^^ (c.toUInt8 ^^^ b).toUInt32:=by
  apply HK;intro i a;rw[AaF,AaF,Aal,Aal,d,g,k];by_cases h:i<8<;>simp[h,a]
 rw[e,PA];congr 1;apply HK;intro j f;rw[crcIt_hi 8 _ (λi a=>by rw[d];simp[a]) U j f,d];simp only[AaO];simp;by_cases h:8+j<32
 ·simp[h]
 rw[AaC c.toBitVec (8+j) U];simp
theorem RS(c:UInt32)(b:UInt8):Ch 8 (c ^^^ b.toUInt32)=C9 c b:=by
 rw[RR];unfold C9;have d:=(c.toUInt8 ^^^ b).toNat_lt;rw[GL U,AaY];congr 2;apply ZC.1;have a:=(c.toUInt8 ^^^ b).toNat_lt;generalize c.toUInt8 ^^^ b=u at a;simp[Dt];omega
theorem RT(c:UInt32):(c&&&1).toNat=c.toNat%2:=by rw[AaU];exact Nat.and_one_is_mod _
theorem HZ{c:UInt32}(h:c&&&1=1):CN c=(c>>>1) ^^^ 2197175160:=by unfold CN;rw[h,UInt32.one_mul]
section
variable{P:Program}{C:World->Prop}{o:Oper}{n:Nat}{ds:List Deferred}{L:List (Nat×Value)}{x y:Operand}{xt yt:TypeId}
theorem VQ{p:UInt32}(c:o.op=.binOp .rem xt x y yt)(b:ev L x=some (u32 p))(a:ev L y=some (.int .u32 2)):Ao P C n ds L o (u32 (p&&&1)):=by
 have:=KG (P:=P) (C:=C) (n:=n) (ds:=ds) (L:=L) c b a U;have e:((p.toNat:Int).tmod 2)=((p&&&1).toNat:Int):=by rw[RT,AaM U];rfl
 rwa[e] at this
theorem VR{p:UInt32}(d:o.op=.binOp .quo xt x y yt)(c:ev L x=some (u32 p))(b:ev L y=some (.int .u32 2)):Ao P C n ds L o (u32 (p>>>1)):=by
 have:=SO (P:=P) (C:=C) (n:=n) (ds:=ds) (L:=L) d c b U;have hp:=p.toNat_lt;have e:IntKind.u32.wrap ((p.toNat:Int).tdiv 2)=((p>>>1).toNat:Int):=by
  have a:(p>>>1).toNat=p.toNat/2:=by rw[UInt32.toNat_shiftRight];exact Zh _ _
  rw[a,AaL U];simp only[IntKind.wrap,IntKind.bits,IntKind.signed];simp only[Bool.false_and,YW,if_false];omega
 rwa[e] at this
end

theorem PB{xs:List UInt8}(h:xs.length<=252):xs++List.replicate (252-xs.length) 0=(AX xs).take 252:=by
 unfold AX;rw[Z6,X0 h,List.take_replicate];congr 2;omega
theorem RU{xs:List UInt8}(h:xs.length<=252):(AX xs).take 252++CY (Av ((AX xs).take 252))=sect xs:=by
 unfold sect Kg Bp;have a:=A7 (l:=xs) U;rw[Yk (by simp[CY,a]),YJ]

structure RRow where
 dv:Value
 vv:Value
 pvs:List Value
def RRow.cells(r:RRow):List Value:=[r.dv,r.vv]
def Cc(rs:List RRow):List Value:=rs.flatMap RRow.cells
theorem Ur(es:List RRow):(Cc es).length=es.length*2:=by
 induction es with
 | nil=>rfl
 | cons e es ih=>simp only[Cc,YL,XY] at ih ⊢;rw[ih];simp[RRow.cells];omega
theorem Er:∀{es:List RRow} {j:Nat} {e:RRow},es[j]?=some e->∀k u,(RRow.cells e)[k]?=some u->(Cc es)[j*2+k]?=some u
 | x::es,0,e,h,k,u,hk=>by
  simp at h;subst h;have hl:=(XV.1 hk).1;simp only[Cc,YL];rw[Yc U];simpa using hk
 | x::es,j+1,e,h,k,u,hk=>by
  have:=Er (es:=es) (j:=j) (by simpa using h) k u hk;simp only[Cc,YL] at this ⊢;rw[Ya (by simp[RRow.cells];omega)];rw[show (j+1)*2+k-(RRow.cells x).length=j*2+k from by simp[RRow.cells];omega];exact this
theorem JO(a b:List RRow):Cc (a++b)=Cc a++Cc b:=by simp[Cc]
def RRow.asn(r:RRow):Ai:=grow 38 1 r.vv r.pvs.length r.pvs
def RRow.last(r:RRow):Value:=r.pvs.getLast?.getD r.dv
structure RRow.Ok(hq:Hp)(f:List UInt8)(r:RRow):Prop where
 len:f.length=256
 d:∃ao c,r.dv=.slice ao 256 c
 l:rdH 1 r.last 256 (f.map u8) hq
theorem RRow.Ok.le{hq a:Hp}{f:List UInt8}{r:RRow}(h:r.Ok hq f)(s:BC hq a):r.Ok a f:=⟨h.len,h.d,h.l.le s⟩
structure RdX where
 lv:Value
 rows:List RRow
 hq:Hp
def RdP(n:Nat)(F:Nat->List UInt8)(m:Nat)(rows:List RRow)(hq:Hp):Prop:=rows.length=n/\(1<=n/\n<=4096)/\∀(i:Nat) (r:RRow),rows[i]?=some r->r.Ok hq (F i)/\r.pvs.length<=m
def Tf(pr n:Nat)(lv:Value)(rows:List RRow)(hq:Hp):List Ai:=
 [blk pr [lv,.int .i64 0,.int .i64 0,.int .i64 0,.int .i64 0,.int .i64 (-1)] 133,grow 135 2 lv n (Cc rows),poolA hq,seps (rows.map RRow.asn)]
def rdkA(pr n:Nat)(F:Nat->List UInt8)(m:Nat):Ai:=λh=>∃X:RdX,RdP n F m X.rows X.hq/\seps (Tf pr n X.lv X.rows X.hq) h
theorem Sep.rk{z w:World}{Γ:List Ai}{a n m:Nat}{F:Nat->List UInt8}(H:Sep z (rdkA a n F m::Γ) w):∃(c:Value) (rows:List RRow) (hq:Hp),RdP n F m rows hq/\Sep z (Tf a n c rows hq++Γ) w:=by
 obtain ⟨X,b,H⟩:=H.into (p:=λX:RdX=>RdP n F m X.rows X.hq) (As:=λX=>Tf a n X.lv X.rows X.hq) (λ_ q=>q);exact ⟨_,_,_,b,H⟩
theorem Sep.toRk{z w:World}{Γ:List Ai}{b n m:Nat}{F:Nat->List UInt8}{c:Value}{rows:List RRow}{hq:Hp}(H:Sep z (Tf b n c rows hq++Γ) w)(d:RdP n F m rows hq):Sep z (rdkA b n F m::Γ) w:=
 H.shut.mono 0 Z (λh a=>⟨⟨c,rows,hq⟩,d,a⟩)
theorem LI{rows:List RRow}{i:Nat}{r:RRow}(b:rows[i]?=some r){h:Hp}(hs:seps (rows.map RRow.asn) h):rdH 1 r.vv r.pvs.length r.pvs h:=by
 obtain ⟨h',c,a⟩:=Ea hs (i:=i) (A:=r.asn) (by rw[Yb,b];rfl);exact (grow.rd c).le a
theorem RV{A:Ai}{E:List Ai}{h:Hp}(hs:seps (A::E) h):seps [A,seps E] h:=Cp (As:=[seps E]) (Bs:=[A]) (G3 (As:=E) (Γ:=[A]) (Ha hs))
theorem Kt{A:Ai}{E:List Ai}{h:Hp}(hs:seps [A,seps E] h):seps (A::E) h:=Cp (As:=E) (Bs:=[A]) (FP (Cp (As:=[A]) (Bs:=[seps E]) hs))
theorem LJ{z w:World}{Γ:List Ai}{rows:List RRow}{i:Nat}{r:RRow}(a:rows[i]?=some r)(H:Sep z (seps (rows.map RRow.asn)::Γ) w):Sep z (r.asn::seps ((rows.map RRow.asn).eraseIdx i)::Γ) w:=by
 have H1:Sep z (seps [r.asn,seps ((rows.map RRow.asn).eraseIdx i)]::Γ) w:=H.mono 0 Z (λh hs=>RV (GJ hs i (by rw[Yb,a];rfl)));exact H1.opened
theorem Iy{z w:World}{Γ:List Ai}{rows:List RRow}{i:Nat}(r:RRow)(a:i<rows.length)(H:Sep z (r.asn::seps ((rows.map RRow.asn).eraseIdx i)::Γ) w):Sep z (seps ((rows.set i r).map RRow.asn)::Γ) w:=by
 have H1:Sep z (seps [r.asn,seps ((rows.map RRow.asn).eraseIdx i)]::Γ) w:=Sep.shut (As:=[r.asn,seps ((rows.map RRow.asn).eraseIdx i)]) H;refine H1.mono 0 Z (λh hs=>?_);rw[Aax];exact Kf i (by rw[X9];exact a) (Kt hs)
theorem PC{z w:World}{Γ:List Ai}{rows:List RRow}(r:RRow)(H:Sep z (r.asn::seps (rows.map RRow.asn)::Γ) w):Sep z (seps ((rows++[r]).map RRow.asn)::Γ) w:=by
 have H1:Sep z (seps [r.asn,seps (rows.map RRow.asn)]::Γ) w:=Sep.shut (As:=[r.asn,seps (rows.map RRow.asn)]) H;refine H1.mono 0 Z (λh hs=>?_);rw[Yj];exact Ha (Kt hs)

def E7(F:Nat->List UInt8)(a:Nat)(bs:List UInt8)(j:Nat):Nat->List UInt8:=λi=>if a<=i/\i<a+j then (bs.drop (256*(i-a))).take 256 else F i
theorem VS(F:Nat->List UInt8)(a:Nat)(bs:List UInt8):E7 F a bs 0=F:=by
 funext i;unfold E7;rw[if_neg U]
theorem N9(F:Nat->List UInt8)(a:Nat)(bs:List UInt8)(j:Nat):E7 F a bs (j+1)=By (E7 F a bs j) (a+j) ((bs.drop (256*j)).take 256):=by
 funext i;unfold By E7;by_cases h:i=a+j
 ·subst h;rw[if_pos U,if_pos Z,Zb]
 rw[if_neg h];by_cases q:a<=i/\i<a+j
 ·rw[if_pos U,if_pos q]
 rw[if_neg U,if_neg q]
theorem RX(F:Nat->List UInt8)(a:Nat){bs:List UInt8}(h:bs.length=256):E7 F a bs 1=By F a bs:=by
 rw[N9,VS,AaA,Ym,X0 U,Aai]
theorem RdP.set{n m c:Nat}{F:Nat->List UInt8}{rows:List RRow}{hq:Hp}(h:RdP n F m rows hq){i:Nat}{p:List UInt8}{r:RRow}(f:r.Ok hq p)(g:m<=c)(b:r.pvs.length<=c):RdP n (By F i p) c (rows.set i r) hq:=by
 refine ⟨by rw[YU];exact h.1,h.2.1,λj q a=>?_⟩;by_cases e:j=i
 ·subst e
  have d:=(XV.1 a).1;rw[YU] at d;rw[YR d] at a;simp only[X2] at a;subst a;rw[CX];exact ⟨f,b⟩
 rw[Zd (ZI e)] at a;rw[upf_other F p e];exact ⟨(h.2.2 j q a).1,AaZ (h.2.2 j q a).2 g⟩
theorem RdP.le{n m:Nat}{F:Nat->List UInt8}{rows:List RRow}{hq a:Hp}(h:RdP n F m rows hq)(s:BC hq a):RdP n F m rows a:=⟨h.1,h.2.1,λi r b=>⟨(h.2.2 i r b).1.le s,(h.2.2 i r b).2⟩⟩
end
def BJ:List ImE->ImE->List ImE
 | [],x=>[x]
 | y::l,x=>if y.1.num<x.1.num then y::BJ l x else if y.1.num=x.1.num then x::l else x::y::l
theorem JP(x:ImE):∀{es:List ImE} {i:Nat},(∀(j:Nat) (y:ImE),j<i->es[j]?=some y->y.1.num<x.1.num)->i<=es.length->(∀y,es[i]?=some y->x.1.num<y.1.num)->BJ es x=es.take i++[x]++es.drop i
 | [],0,_,_,_=>rfl
 | y::l,0,_,_,h3=>by
  have:=h3 y Z;simp only[BJ];rw[if_neg U,if_neg U];rfl
 | y::l,i+1,h1,h2,h3=>by
  have:=h1 0 y U Z;simp only[BJ];rw[if_pos this,JP x (es:=l) (i:=i) (λj z b a=>h1 (j+1) z U (by simpa using a)) (by simpa using h2) (λz a=>h3 z (by simpa using a))];rfl
theorem M3(x:ImE):∀{es:List ImE} {i:Nat} {z:ImE},(∀(j:Nat) (y:ImE),j<i->es[j]?=some y->y.1.num<x.1.num)->es[i]?=some z->z.1.num=x.1.num->BJ es x=es.take i++[x]++es.drop (i+1)
 | [],_,_,_,h,_=>by simp at h
 | y::l,0,z,_,h2,h3=>by
  simp at h2;subst h2;simp only[BJ];rw[if_neg U,if_pos h3];rfl
 | y::l,i+1,z,h1,h2,h3=>by
  have:=h1 0 y U Z;simp only[BJ];rw[if_pos this,M3 x (es:=l) (i:=i) (λj z b a=>h1 (j+1) z U (by simpa using a)) (by simpa using h2) h3];rfl
theorem putI_mem{x e:ImE}:∀{es:List ImE},e∈BJ es x->e=x\/e∈es
 | [],h=>by simp[BJ] at h;exact .inl h
 | y::l,h=>by
  simp only[BJ] at h;split at h
  ·rcases YO.1 h with q|q
   ·exact .inr (by simp[q])
   rcases putI_mem q with r|r
   ·exact .inl r
   exact .inr (Zx _ r)
  split at h
  ·rcases YO.1 h with q|q
   ·exact .inl q
   exact .inr (Zx _ q)
  rcases YO.1 h with q|q
  ·exact .inl q
  exact .inr q
theorem putI_len(x:ImE):∀es:List ImE,(BJ es x).length<=es.length+1
 | []=>by simp[BJ]
 | y::l=>by
  have:=putI_len x l;simp only[BJ];split
  ·simp only[XZ];omega
  split<;>simp
def imeOk(hq:Hp)(e:ImE):Prop:=e.1.Ok/\rdH 1 e.2 240 (e.1.body.map u8) hq
theorem imeOk.le{hq a:Hp}{e:ImE}(h:imeOk hq e)(s:BC hq a):imeOk a e:=⟨h.1,h.2.le s⟩
theorem imesOk.of{hq:Hp}{es:List ImE}(h:∀e∈es,imeOk hq e):imesOk es hq:=λe a=>by rw[(h e a).1.2.2];exact (h e a).2

def Hl(F:Nat->List UInt8)(a:Nat)(ss:List (List UInt8)):Nat->List UInt8:=λi=>if a<=i then (ss[i-a]?).getD (F i) else F i
theorem M4{F:Nat->List UInt8}{a:Nat}{b:List (List UInt8)}{j:Nat}{s:List UInt8}(h:b[j]?=some s):Hl F a b (a+j)=s:=by
 unfold Hl;rw[if_pos U,Zb,h];rfl
theorem Iz{F:Nat->List UInt8}{a:Nat}{b:List (List UInt8)}{i:Nat}(h:i<a\/a+b.length<=i):Hl F a b i=F i:=by
 unfold Hl;rcases h with h|h
 ·rw[if_neg U]
 split
 ·rw[Ys U];rfl
 rfl
theorem Us{F:Nat->List UInt8}{a:Nat}{bs:List UInt8}{b:List (List UInt8)}(h:bs=b.flatten)(hs:∀s∈b,s.length=256):E7 F a bs b.length=Hl F a b:=by
 have c:∀(b:List (List UInt8)) (j:Nat) (s:List UInt8),(∀s∈b,s.length=256)->b[j]?=some s->(b.flatten.drop (256*j)).take 256=s:=by
  intro b
  induction b with
  | nil=>intro j s _ h;simp at h
  | cons t b ih=>
   intro j s hs h;have e:=hs t O
   cases j with
   | zero=>simp at h;subst h;simp only[Zz,AaA,Ym];rw[YK e]
   | succ j=>
    simp only[Zz];rw[YD,Yk U,Yo,e,show 256*(j+1)-256=256*j by omega];exact ih j s (λs h=>hs s (by simp[h])) (by simpa using h)
 subst h;funext i;unfold E7 Hl;by_cases q:a<=i
 ·rw[if_pos q]
  by_cases r:i<a+b.length
  ·rw[if_pos ⟨q,r⟩]
   have d:b[i-a]?=some (b[i-a]'U):=XW U;rw[d,c b (i-a) _ hs d];rfl
  rw[if_neg U,Ys U];rfl
 rw[if_neg q,if_neg U]
section
def Ku(v:Value)(k:Nat)(xs:List Value):Ai:=λh=>∃b,v=.slice (some ⟨b,0,none⟩) k k/\rdH 1 v k xs h
section
variable{P:Program}{o:Oper}{n:Nat}{ds:List Deferred}{L:List (Nat×Value)}{x y:Operand}{z w:World}{Γ:List Ai}
theorem RY{w:World}{t e:TypeId}{C:Array Value}{b n c:Nat}(g:w.heap[b]?=some (.cells C e (0,0)))(f:P.underlying t=some (.slice e))(d:P.underlying e=some (.int .u8)):
  (convert t t (.slice (some ⟨b,0,none⟩) n c)).run P w=.ok (.slice (some ⟨b,0,none⟩) n c) (w.freeze ⟨b,C.size,none⟩ 1):=by
 have a:w.shape? b=some (e,C.size):=by unfold World.shape?;rw[g]
 simp[convert,run_underlying f,run_underlying d,markStringish,a]
theorem LK(i:Nat){t e:TypeId}{b k:Nat}{cs:List Value}(H:Sep z Γ w)(f:Γ[i]?=some (blk b cs e))(r:o.op=.convert t t x)(v:P.underlying t=some (.slice e))(y:P.underlying e=some (.int .u8))
  (p:ev L x=some (.slice (some ⟨b,0,none⟩) k k))(l:k=cs.length/\k<=9223372036854775807):BL P n ds L o w (λv' w'=>v'=.slice (some ⟨b,0,none⟩) k k/\Sep z (Γ.set i (Ku (.slice (some ⟨b,0,none⟩) k k) k cs)) w'):=λa hF=>by
 have g:=H.bk i f;have s:=RY (P:=P) (w:=w) (n:=k) (c:=k) g v y;have hm:(w.freeze ⟨b,cs.toArray.size,none⟩ 1).heap[b]?=some (.cells cs.toArray e (cs.toArray.size,cs.toArray.size+1)):=by
  unfold World.freeze;rw[if_neg (by decide)];simp[Zu,g]
 have d:∀q,q≠b->(w.freeze ⟨b,cs.toArray.size,none⟩ 1).heap[q]?=w.heap[q]? :=λq hq=>by
  unfold World.freeze;rw[if_neg (by decide)];simp[Zu,ZI hq]
 refine ⟨.slice (some ⟨b,0,none⟩) k k,w.freeze ⟨b,cs.toArray.size,none⟩ 1,?_,Z,?_⟩
 ·simp only[execOp,r,hF.ev p]
  simp[Yd,s,go_sem]
 have H2:=H.write i f (o':=.cells cs.toArray e (cs.toArray.size,cs.toArray.size+1)) (w':=w.freeze ⟨b,cs.toArray.size,none⟩ 1) Z Z Z hm d;have h9:(Γ.set i (bk b (.cells cs.toArray e (cs.toArray.size,cs.toArray.size+1))))[i]?=some (bk b (.cells cs.toArray e (cs.toArray.size,cs.toArray.size+1))):=YR (XV.1 f).1;have H3:=H2.mono i (B:=Ku (.slice (some ⟨b,0,none⟩) k k) k cs) h9 (λh q=>⟨b,Z,_,_,Z,Yp _,l.2,by omega,λj u m=>⟨b,0,Z,?_⟩⟩)
 ·rwa[ZZ] at H3
 exact ⟨cs.toArray,e,_,q,by simpa using m⟩
def bsA(e:TypeId)(v:Value)(xs:List UInt8):Ai:=λh=>Ku v xs.length (xs.map u8) h\/grow e 1 v xs.length (xs.map u8) h
def pmA(e:TypeId)(xs ys:List UInt8)(u:Value)(j:Nat):Ai:=λh=>(j=0/\bsA e u xs h)\/(0<j/\grow e 1 u (xs.length+j) ((xs++ys.take j).map u8) h)
theorem PD{t e:TypeId}{zv:Value}{by_ k:Nat}{u s:Value}{xs:List UInt8}{b:UInt8}(H:Sep z (grow e 1 u k (xs.map u8)::Γ) w)(h:o.op=.call {callee:=.builtin .append,args:= #[x,y],argTypes:= #[t,t]})
  (m:P.underlying t=some (.slice e))(j:Elt P e zv 1 by_)(g:ev L x=some u)(i:ev L y=some s)(c:Rd 1 s 1 [u8 b] w)(d:(k+1)*by_<=140737488355328):
  BL P n ds L o w (λf w'=>Sep z (grow e 1 f (k+1) ((xs++[b]).map u8)::Γ) w'):=λa p=>by
 obtain ⟨f,w',l,H2⟩:=AJ 0 H Z h m j g i c (by simp[u8,Value.oneCell']) d a p;refine ⟨f,w',l,?_⟩;rw[Yj];exact H2
theorem PE{t e:TypeId}{zv:Value}{by_ j:Nat}{u s:Value}{xs ys:List UInt8}{b:UInt8}(H:Sep z (pmA e xs ys u j::Γ) w)(p:o.op=.call {callee:=.builtin .append,args:= #[x,y],argTypes:= #[t,t]})
  (ht:P.underlying t=some (.slice e))(hE:Elt P e zv 1 by_)(m:ev L x=some u)(v:ev L y=some s)(d:Rd 1 s 1 [u8 b] w)(hb:ys[j]?=some b)(f:(xs.length+(j+1))*by_<=140737488355328):
  BL P n ds L o w (λl w'=>Sep z (grow e 1 l (xs.length+(j+1)) ((xs++ys.take (j+1)).map u8)::Γ) w'):=by
 have k:xs++ys.take j++[b]=xs++ys.take (j+1):=by rw[Ye,hb];simp
 obtain ⟨c,H1⟩:=H.ex 0 (σ:=Bool) (B:=λc=>match c with
  | true=>λh=>j=0/\Ku u xs.length (xs.map u8) h
  | false=>grow e 1 u (xs.length+j) ((xs++ys.take j).map u8)) Z (λh q=>by
   rcases q with ⟨i,q|q⟩|⟨_,q⟩
   ·exact ⟨true,i,q⟩
   ·subst i;exact ⟨false,by simpa using q⟩
   exact ⟨false,q⟩)
 cases c with
 | true=>
  have i:j=0:=H1.sy 0 (·.1);subst i;have H3:Sep z (Ku u xs.length (xs.map u8)::Γ) w:=H1.mono 0 Z (λh q=>q.2);obtain ⟨g,rfl⟩:∃g,u=.slice (some ⟨g,0,none⟩) xs.length xs.length:=H3.sy 0 (λq=>by obtain ⟨g,e0,_⟩:=q;exact ⟨g,e0⟩);intro a hF;obtain ⟨l,w',hr,H2⟩:=Ki H3 p ht hE m v (H3.rv 0 (λq=>by obtain ⟨_,_,r⟩:=q;exact r)) d U (by simp[u8,Value.oneCell']) (by simpa using f) a hF;refine ⟨l,w',hr,?_⟩;rw[Aa7,YJ] at k;rw[<-k,Yj];exact H2.pick 2 [0] Z
 | false=>
  have H3:Sep z (grow e 1 u (xs.length+j) ((xs++ys.take j).map u8)::Γ) w:=H1;have:=PD (n:=n) (ds:=ds) H3 p ht hE m v d (by simpa [ZA] using f);rw[k] at this;exact this
theorem RZ{e:TypeId}{xs ys:List UInt8}{u:Value}(H:Sep z (bsA e u xs::Γ) w):Sep z (pmA e xs ys u 0::Γ) w:=H.mono 0 Z (λh q=>.inl ⟨Z,q⟩)
theorem Ut{e:TypeId}{xs ys:List UInt8}{u:Value}{j:Nat}(H:Sep z (grow e 1 u (xs.length+(j+1)) ((xs++ys.take (j+1)).map u8)::Γ) w):Sep z (pmA e xs ys u (j+1)::Γ) w:=H.mono 0 Z (λh q=>.inr ⟨by omega,q⟩)
theorem VT{e:TypeId}{xs ys:List UInt8}{u:Value}{j:Nat}(b:0<j)(a:j=ys.length)(H:Sep z (pmA e xs ys u j::Γ) w):Sep z (grow e 1 u (xs++ys).length ((xs++ys).map u8)::Γ) w:=H.mono 0 Z (λh q=>by
 rcases q with q|q
 ·exact absurd q.1 U
 have:=q.2;rw[X0 U] at this;rw[XY,<-a];exact this)
def pgA(e:TypeId)(v:Value)(xs:List UInt8)(i:Nat):Ai:=λh=>(i=0/\bsA e v xs h)\/(0<i/\grow e 1 v xs.length (xs.map u8) h)
theorem pgA.bs{e:TypeId}{v:Value}{xs:List UInt8}{i:Nat}{h:Hp}(q:pgA e v xs i h):bsA e v xs h:=by
 rcases q with q|q
 ·exact q.2
 exact .inr q.2
theorem pgA.gr{e:TypeId}{v:Value}{xs:List UInt8}{i:Nat}{h:Hp}(a:0<i)(q:pgA e v xs i h):grow e 1 v xs.length (xs.map u8) h:=by
 rcases q with q|q
 ·exact absurd q.1 U
 exact q.2
end
end
set_option linter.unusedSimpArgs false
def bw(F:Nat->Bool)(k:Nat):BitVec 64:=(BitVec.ofBoolListLE ((List.range 64).map λj=>F (64*k+j))).cast O
theorem Dg(F:Nat->Bool)(k j:Nat)(h:j<64):(bw F k).getLsbD j=F (64*k+j):=by
 unfold bw;rw[BitVec.getLsbD_cast,BitVec.getLsbD_ofBoolListLE];simp[List.getD,h]
theorem Ji{F:Nat->Bool}{k:Nat}{x:BitVec 64}(h:∀j,j<64->x.getLsbD j=F (64*k+j)):x=bw F k:=
 Aam λj a=>by rw[h j a,Dg _ _ _ a]
theorem WX(F G:Nat->Bool)(k:Nat):bw F k|||bw G k=bw (λp=>F p||G p) k:=Ji λj a=>by
 rw[BitVec.getLsbD_or,Dg _ _ _ a,Dg _ _ _ a]
def Dv(m:Nat):BitVec 64:=BitVec.twoPow 64 m
theorem VU(F:Nat->Bool)(p k:Nat):(if p/64=k then bw F k|||Dv (p%64) else bw F k)=bw (λq=>F q||decide (q=p)) k:=by
 refine Ji λj a=>?_;split
 ·rename_i e
  rw[BitVec.getLsbD_or,Dg _ _ _ a,Dv,Aat];congr 1;rw[Yf];simp;omega
 rename_i e;rw[Dg _ _ _ a];have:¬(64*k+j=p):=by omega
 simp[this]
theorem VV(F:Nat->Bool)(p k:Nat):(if p/64=k then bw F k&&& ~~~(Dv (p%64)) else bw F k)=bw (λq=>F q && !decide (q=p)) k:=by
 refine Ji λj a=>?_;split
 ·rename_i e
  rw[Aak,Dg _ _ _ a,BitVec.getLsbD_not,Dv,Aat];congr 1;rw[Yf];simp;omega
 rename_i e;rw[Dg _ _ _ a];have:¬(64*k+j=p):=by omega
 simp[this]
theorem VW(F:Nat->Bool)(p:Nat):(bw F (p/64))>>>(p%64)&&&1#64=if F p then 1#64 else 0#64:=by
 refine Aam λj b=>?_;rw[Aak,BitVec.getLsbD_ushiftRight];have a:∀j,(1#64).getLsbD j=decide (j=0):=λj=>by
  rw[show (1#64)=BitVec.twoPow 64 0 from Z,Aat,Yf];simp;omega
 by_cases h:j=0
 ·subst h
  rw[Dg _ _ _ U,a,show 64*(p/64)+(p%64+0)=p by omega];cases F p<;>simp
 rw[a];have:(if F p then 1#64 else 0#64).getLsbD j=false:=by
  split
  ·rw[a];simp[h]
  simp
 rw[this];simp[h]
theorem bw_zero{F:Nat->Bool}{k:Nat}:bw F k=0#64↔∀j,j<64->F (64*k+j)=false:=by
 constructor
 ·intro h j a;rw[<-Dg F k j a,h];simp
 intro h;exact (Ji λj a=>by rw[h j a];simp).symm

def cnt(F:Nat->Bool)(a:Nat):Nat->Nat
 | 0=>0
 | n+1=>cnt F a n+(F (a+n)).toNat
theorem Gl(F:Nat->Bool)(a m n:Nat):cnt F a (m+n)=cnt F a m+cnt F (a+m) n:=by
 induction n with
 | zero=>rfl
 | succ n ih=>rw[<-ZA];simp only[cnt];rw[ih,show a+(m+n)=a+m+n by omega];omega
def B0(w:Nat):List Nat->Nat
 | []=>0
 | d::l=>d+2^w*B0 w l
def evN:List Nat->List Nat
 | a::_::l=>a::evN l
 | _=>[]
def FE:List Nat->List Nat
 | _::b::l=>b::FE l
 | _=>[]
theorem PF(k x y a b:Nat)(c:a<2^k)(d:b<2^k):(a+2^k*x)&&&(b+2^k*y)=(a&&&b)+2^k*(x&&&y):=by
 have e:((a+2^k*x)&&&(b+2^k*y))%2^k=a&&&b:=by
  rw[Nat.and_mod_two_pow,Aae,Aae,Y3 c,Y3 d]
 have hp:0<2^k:=Aaf k;have f:((a+2^k*x)&&&(b+2^k*y))/2^k=x&&&y:=by
  rw[Nat.and_div_two_pow,Z8 _ _ hp,Z8 _ _ hp,Aas c,Aas d,Ze,Ze]
 have:=Nat.mod_add_div ((a+2^k*x)&&&(b+2^k*y)) (2^k);rw[e,f] at this;exact this.symm
theorem Jj(w:Nat):∀l:List Nat,l.length%2=0->(∀d∈l,d<2^w)->B0 w l&&&B0 (2*w) (List.replicate (l.length/2) (2^w-1))=B0 (2*w) (evN l)
 | [],_,_=>by simp[B0,evN]
 | [_],h,_=>by simp at h
 | a::b::l,h,hd=>by
  have ih:=Jj w l (by simp at h;omega) (λd i=>hd d (by simp[i]));have g:=hd a O;have k:=hd b O;have e:(2:Nat)^(2*w)=2^w*2^w:=by rw[<-Nat.pow_add];congr 1;omega
  have hp:0<2^w:=Aaf w;simp only[B0,evN];rw[show (a::b::l).length/2=l.length/2+1 by simp;omega,List.replicate_succ];simp only[B0];have c:a+2^w*b<2^(2*w):=by
   rw[e];have:2^w*(b+1)<=2^w*2^w:=ZO _ k;rw[ZM] at this;omega
  have j:(2^w-1)<2^(2*w):=by
   rw[e];have:2^w*1<=2^w*2^w:=ZO _ hp;omega
  have f:a+2^w*(b+2^w*B0 w l)=(a+2^w*b)+2^(2*w)*B0 w l:=by
   rw[e,ZM,Nat.mul_assoc];omega
  rw[f,PF _ _ _ _ _ c j,ih,AaD,Aae,Y3 g]
theorem LL(w:Nat):∀(l:List Nat) (d:Nat),B0 w (l++[d])=B0 w l+2^(w*l.length)*d
 | [],d=>by simp[B0]
 | a::l,d=>by
  simp only[ZD,B0,LL w l d,XZ];rw[ZM,<-Nat.mul_assoc,<-Nat.pow_add,show w+w*l.length=w*(l.length+1) by rw[ZM];omega];omega
theorem M5(w a:Nat)(l:List Nat)(h:a<2^w):B0 w (a::l)/2^w=B0 w l:=by
 simp only[B0];rw[Z8 _ _ (Aaf w),Aas h,Ze]
theorem LM(w:Nat)(l:List Nat):B0 w (l++[0])=B0 w l:=by rw[LL];simp
theorem JQ(w:Nat):∀(l m:List Nat),l.length=m.length->B0 w l+B0 w m=B0 w (List.zipWith (·+·) l m)
 | [],[],_=>rfl
 | a::l,b::m,h=>by
  simp only[List.zipWith,B0];rw[<-JQ w l m (by simpa using h),ZM];omega
 | [],_::_,h=>by simp at h
 | _::_,[],h=>by simp at h
theorem JR:∀l:List Nat,(evN l).length=l.length/2
 | []=>rfl
 | [_]=>by simp[evN]
 | a::b::l=>by simp only[evN,XZ,JR l];omega
theorem JS:∀l:List Nat,(FE l).length=l.length/2
 | []=>rfl
 | [_]=>by simp[FE]
 | a::b::l=>by simp only[FE,XZ,JS l];omega
theorem IA:∀(a:Nat) (l:List Nat),(a::l).length%2=0->evN (l++[0])=FE (a::l)
 | a,[],h=>by simp at h
 | a,[b],_=>by simp[evN,FE]
 | a,b::c::l,h=>by
  simp only[ZD,evN,FE];rw[IA c l (by simp at h ⊢;omega)]
theorem evN_mem:∀(l:List Nat),∀d∈evN l,d∈l
 | [],d,h=>by simp[evN] at h
 | [_],d,h=>by simp[evN] at h
 | a::b::l,d,h=>by
  simp only[evN,YO] at h;rcases h with rfl|h
  ·simp
  simp[evN_mem l d h]
theorem odN_mem:∀(l:List Nat),∀d∈FE l,d∈l
 | [],d,h=>by simp[FE] at h
 | [_],d,h=>by simp[FE] at h
 | a::b::l,d,h=>by
  simp only[FE,YO] at h;rcases h with rfl|h
  ·simp
  simp[odN_mem l d h]
def psm(l:List Nat):List Nat:=List.zipWith (·+·) (evN l) (FE l)
theorem JT(l:List Nat):(psm l).length=l.length/2:=by simp[psm,JR,JS]
theorem HM:∀l:List Nat,l.length%2=0->(psm l).sum=l.sum
 | [],_=>rfl
 | [_],h=>by simp at h
 | a::b::l,h=>by
  have:=HM l (by simp at h;omega);simp only[psm,evN,FE,List.zipWith,List.sum_cons] at this ⊢;omega
theorem LN{c d:Nat}:∀(l m:List Nat),(∀x∈l,x<=c)->(∀x∈m,x<=d)->∀x∈List.zipWith (·+·) l m,x<=c+d
 | [],_,_,_,x,h=>by simp at h
 | _::_,[],_,_,x,h=>by simp at h
 | a::l,b::m,h1,h2,x,h=>by
  simp only[List.zipWith,YO] at h;rcases h with rfl|h
  ·have:=h1 a O;have:=h2 b O;omega
  exact LN l m (λx e=>h1 x (by simp[e])) (λx e=>h2 x (by simp[e])) x h
theorem LO(l:List Nat)(c:Nat)(h:∀d∈l,d<=c):∀d∈psm l,d<=c+c:=
 LN _ _ (λx a=>h x (evN_mem l x a)) (λx a=>h x (odN_mem l x a))
def M6(w n:Nat):Nat:=B0 (2*w) (List.replicate n (2^w-1))
theorem VX(w:Nat)(l:List Nat)(h:l.length%2=0)(c:∀d∈l,d<2^w):B0 w l/2^w&&&M6 w (l.length/2)=B0 (2*w) (FE l):=by
 cases l with
 | nil=>simp[B0,FE]
 | cons a l=>
  rw[M5 _ _ _ (c a O),<-LM,<-IA a l h];have:=Jj w (l++[0]) (by simp at h ⊢;omega) (λd b=>by
   simp only[Yt,YA] at b;rcases b with b|rfl
   ·exact c d (by simp[b])
   exact Aaf w)
  have e:(l++[0]).length=(a::l).length:=by simp
  rw[e] at this;exact this
theorem LP(w:Nat)(l:List Nat)(h:l.length%2=0)(a:∀d∈l,d<2^w):(B0 w l/2^w&&&M6 w (l.length/2))+(B0 w l&&&M6 w (l.length/2))=B0 (2*w) (psm l):=by
 rw[VX w l h a,show B0 w l&&&M6 w (l.length/2)=B0 (2*w) (evN l) from Jj w l h a,ZY,JQ _ _ _ (by rw[JR,JS])];rfl
theorem Jk(w:Nat):∀(l:List Nat),(∀d∈l,d<2^w)->B0 w l<2^(w*l.length)
 | [],_=>by simp[B0]
 | a::l,h=>by
  have:=Jk w l (λd b=>h d (by simp[b]));have c:=h a O;simp only[B0,XZ];rw[show w*(l.length+1)=w+w*l.length by rw[ZM];omega,Nat.pow_add];have:2^w*(B0 w l+1)<=2^w*2^(w*l.length):=ZO _ this;rw[ZM] at this;omega
def JU(x:BitVec 64):BitVec 64:=
 let a:=(x>>>1&&&6148914691236517205#64)+(x&&&6148914691236517205#64);let b:=(a>>>2&&&3689348814741910323#64)+(a&&&3689348814741910323#64);let c:=(b>>>4+b)&&&1085102592571150095#64;let d:=c+c>>>8;let e:=d+d>>>16
 e+e>>>32
theorem VY(b:BitVec 64)(m:List Nat)(j:m.length=16)(k:∀d∈m,d<=4)(o:b.toNat=B0 4 m):((b>>>4+b)&&&1085102592571150095#64).toNat=B0 8 (psm m):=by
 rw[ZF,Z9,Zy,o,Zh]
 cases m with
 | nil=>simp at j
 | cons a m=>
  have q:=k a O;rw[M5 _ _ _ U,<-LM,JQ _ _ _ O];have e:∀d∈List.zipWith (·+·) (m++[0]) (a::m),d<2^4:=λd h=>by
   have:=LN (c:=4) (d:=4) _ _ (λx i=>by
    simp only[Yt,YA] at i;rcases i with i|rfl
    ·exact k x (by simp[i])
    omega) k d h
   omega
  have f:(List.zipWith (·+·) (m++[0]) (a::m)).length=16:=by simp at j ⊢;omega
  have g:=Jk 4 _ e;rw[f] at g;rw[Y3 g];have n:=Jj 4 _ (by rw[f]) e;rw[f,show B0 (2*4) (List.replicate (16/2) (2^4-1))=1085102592571150095 by decide+kernel] at n;rw[show (1085102592571150095#64).toNat=1085102592571150095 from Z,n];have p:∀(l l':List Nat),evN (List.zipWith (·+·) l l')=List.zipWith (·+·) (evN l) (evN l'):=λl=>by
   induction l using evN.induct with
   | case1 a b l ih=>
    intro l'
    match l' with
    | []=>simp[evN]
    | [_]=>simp[evN]
    | x::y::l'=>simp only[List.zipWith,evN,ih l']
   | case2 l h=>
    intro l'
    match l,l' with
    | [],_=>simp[evN]
    | [_],[]=>simp[evN]
    | [_],_::_=>simp[evN]
    | a::b::l,_=>exact absurd Z (h a b l)
  rw[p,IA a m (by rw[j]),psm];congr 1;exact List.zipWith_comm_of_comm (λx y=>ZY x y)
theorem JV(c:BitVec 64)(k p x lo a b:Nat)(hp:2^k=p)(e:c.toNat=x)(f:x=lo+p*a)(d:lo<p)(j:x<=b)(g:a<=b)(i:b<9223372036854775808):(c+c>>>k).toNat=x+a:=by
 subst hp;have h:x/2^k=a:=by rw[f,Z8 _ _ (Aaf k),Aas d,Ze]
 rw[Z9,Zy,Zh,e,h];exact Y3 U
theorem VZ(x y t K:Nat)(e:x=y)(h:y=t+256*K)(b:t<=64)(a:K<=20000000000000000):x<9223372036854775808/\x%128=t:=by omega
theorem V0(l h g f e d b a:Nat)(t:l<=8)(q:h<=8)(r:g<=8)(u:f<=8)(n:e<=8)(p:d<=8)(s:b<=8)(o:a<=8)(c:BitVec 64)(j:c.toNat=l+256*h+65536*g+16777216*f+4294967296*e+1099511627776*d+281474976710656*b+72057594037927936*a):
  ((c+c>>>8)+(c+c>>>8)>>>16+((c+c>>>8)+(c+c>>>8)>>>16)>>>32).toNat<9223372036854775808/\((c+c>>>8)+(c+c>>>8)>>>16+((c+c>>>8)+(c+c>>>8)>>>16)>>>32).toNat%128=l+h+g+f+e+d+b+a:=by
 have i:=JV c 8 256 _ l (h+256*g+65536*f+16777216*e+4294967296*d+1099511627776*b+281474976710656*a) 1000000000000000000 Z j U U U U (by decide);have k:=JV (c+c>>>8) 16 65536 _ (l+h+256*(h+g)) (g+f+256*(f+e)+65536*(e+d)+16777216*(d+b)+4294967296*(b+a)+1099511627776*a) 2000000000000000000 (by decide) i U U U U (by decide);have m:=JV (c+c>>>8+(c+c>>>8)>>>16) 32 4294967296 _ (l+h+g+f+256*(h+g+f+e)+65536*(g+f+e+d)+16777216*(f+e+d+b)) (e+d+b+a+256*(d+b+a)+65536*(b+a)+16777216*a) 4000000000000000000 O k (by clear i k j;omega) (by clear i k j;omega) (by clear i k j;omega) (by clear i k j;omega) (by decide);refine VZ _ _ (l+h+g+f+e+d+b+a) ((h+g+f+e+d+b+a)+256*((g+f+e+d+b+a)+256*((f+e+d+b+a)+256*((e+d+b+a)+256*((d+b+a)+256*((b+a)+256*a)))))) m ?_ ?_ ?_
 ·clear i k m j;omega
 ·clear i k m j;omega
 clear i k m j;omega
theorem V1(c:BitVec 64)(m:List Nat)(b:m.length=8)(a:∀d∈m,d<=8)(e:c.toNat=B0 8 m):((c+c>>>8)+(c+c>>>8)>>>16+((c+c>>>8)+(c+c>>>8)>>>16)>>>32).toNat<9223372036854775808/\((c+c>>>8)+(c+c>>>8)>>>16+((c+c>>>8)+(c+c>>>8)>>>16)>>>32).toNat%128=m.sum:=by
 match m,b with
 | [m0,m1,m2,m3,m4,m5,m6,m7],_=>
  have:=V0 m0 m1 m2 m3 m4 m5 m6 m7 (a m0 O) (a m1 O) (a m2 O) (a m3 O) (a m4 O) (a m5 O) (a m6 O) (a m7 O) c (by rw[e];simp only[B0];omega);refine ⟨this.1,this.2.trans ?_⟩;simp only[List.sum_cons,List.sum_nil];omega
theorem Uu(l:List Nat)(g:l.length=64)(m:∀d∈l,d<=1)(x:BitVec 64)(s:x.toNat=B0 1 l):(JU x).toNat<9223372036854775808/\(JU x).toNat%128=l.sum:=by
 have r:∀d∈l,d<2^1:=λd h=>by have:=m d h;omega
 have f:(psm l).length=32:=by rw[JT,g]
 have c:(psm (psm l)).length=16:=by rw[JT,f]
 have o:(psm (psm (psm l))).length=8:=by rw[JT,c]
 have b:=LO l 1 m;have e:=LO _ _ b;have y:=LO _ _ e;have p:=HM l U;have w:=HM (psm l) U;have v:=HM (psm (psm l)) U;have i:=LP 1 l U r;have n:=LP 2 (psm l) U (λd h=>by have:=b d h;omega);rw[g,show M6 1 (64/2)=6148914691236517205 by decide+kernel] at i;rw[f,show M6 2 (32/2)=3689348814741910323 by decide+kernel] at n;have j:=Jk 2 (psm l) (λd h=>by have:=b d h;omega);have k:=Jk 4 (psm (psm l)) (λd h=>by have:=e d h;omega);rw[f] at j;rw[c] at k;have t:((x>>>1&&&6148914691236517205#64)+(x&&&6148914691236517205#64)).toNat=B0 2 (psm l):=by
  rw[Z9,ZF,ZF,Zy,s,Zh];rw[show (6148914691236517205#64).toNat=6148914691236517205 from Z,i];exact Y3 j
 have z:∀a:BitVec 64,a.toNat=B0 2 (psm l)->((a>>>2&&&3689348814741910323#64)+(a&&&3689348814741910323#64)).toNat=B0 4 (psm (psm l)):=λa q=>by
  rw[Z9,ZF,ZF,Zy,q,Zh];rw[show (3689348814741910323#64).toNat=3689348814741910323 from Z,n];exact Y3 k
 have u:=VY _ _ c e (z _ t);have:=V1 _ _ o y u;rw[<-p,<-w,<-v];exact this
theorem Ia:∀l:List Bool,(BitVec.ofBoolListLE l).toNat=B0 1 (l.map Bool.toNat)
 | []=>rfl
 | b::l=>by
  have ih:=Ia l;simp only[BitVec.ofBoolListLE,Yn,B0];rw[BitVec.toNat_concat,ih];omega
theorem M7(F:Nat->Bool)(a:Nat):∀n,((List.range n).map λj=>(F (a+j)).toNat).sum=cnt F a n
 | 0=>rfl
 | n+1=>by rw[ZT,Yj,List.sum_append,M7 F a n];simp[cnt]
theorem JW(F:Nat->Bool)(k:Nat):(JU (bw F k)).toNat<9223372036854775808/\(JU (bw F k)).toNat%128=cnt F (64*k) 64:=by
 have:=Uu ((List.range 64).map λj=>(F (64*k+j)).toNat) O (λd h=>by
  simp only[X6] at h;obtain ⟨j,_,rfl⟩:=h;cases F (64*k+j)<;>simp) (bw F k) (by
   unfold bw;rw[BitVec.toNat_cast,Ia,Zp];rfl)
 rw[M7] at this;exact this
section
def u64(b:BitVec 64):Value:=.int .u64 b.toNat
theorem PG(n:Nat)(h:n<18446744073709551616):IntKind.u64.wrap (n:Int)=n:=by
 simp[IntKind.wrap,IntKind.bits,IntKind.signed];omega
theorem Oa(b:BitVec 64):IntKind.u64.wrap (b.toNat:Int)=b.toNat:=PG _ b.isLt
theorem Fp(p:BitVec 64):BitVec.ofInt 64 (p.toNat:Int)=p:=by rw[Aaz];simp
section
variable{P:Program}{C:World->Prop}{o:Oper}{a:Act}{w z:World}{Γ:List Ai}{n:Nat}{ds:List Deferred}{L:List (Nat×Value)}{v:Value}{x y:Operand}{xt yt:TypeId}
theorem XK(p q:BitVec 64):Op.intBits .or .u64 (p.toNat:Int) (q.toNat:Int)=pure (u64 (p|||q)):=by
 have e:Op.intBits .or .u64 (p.toNat:Int) (q.toNat:Int)=pure (.int .u64 (IntKind.u64.wrap ((BitVec.ofInt 64 (p.toNat:Int)|||BitVec.ofInt 64 (q.toNat:Int)).toNat:Int))):=rfl;rw[Fp,Fp,Oa] at e;exact e
theorem WY(p q:BitVec 64):Op.intBits .and .u64 (p.toNat:Int) (q.toNat:Int)=pure (u64 (p&&&q)):=by
 have e:Op.intBits .and .u64 (p.toNat:Int) (q.toNat:Int)=pure (.int .u64 (IntKind.u64.wrap ((BitVec.ofInt 64 (p.toNat:Int)&&&BitVec.ofInt 64 (q.toNat:Int)).toNat:Int))):=rfl;rw[Fp,Fp,Oa] at e;exact e
theorem V2(p q:BitVec 64):Op.intBits .andNot .u64 (p.toNat:Int) (q.toNat:Int)=pure (u64 (p&&& ~~~q)):=by
 have e:Op.intBits .andNot .u64 (p.toNat:Int) (q.toNat:Int)=pure (.int .u64 (IntKind.u64.wrap ((BitVec.ofInt 64 (p.toNat:Int)&&& ~~~(BitVec.ofInt 64 (q.toNat:Int))).toNat:Int))):=rfl;rw[Fp,Fp,Oa] at e;exact e
theorem LQ{p q:BitVec 64}(d:o.op=.binOp .or xt x y yt)(c:ev L x=some (u64 p))(f:ev L y=some (u64 q)):Ao P C n ds L o (u64 (p|||q)):=λa b w _=>by
 have e:=XK p q;simp only[execOp,d,b.ev c,b.ev f,u64];simp only[binOp,go_sem,e];rfl
theorem Es{p q:BitVec 64}(d:o.op=.binOp .and xt x y yt)(c:ev L x=some (u64 p))(f:ev L y=some (u64 q)):Ao P C n ds L o (u64 (p&&&q)):=λa b w _=>by
 have e:=WY p q;simp only[execOp,d,b.ev c,b.ev f,u64];simp only[binOp,go_sem,e];rfl
theorem R0{p q:BitVec 64}(d:o.op=.binOp .andNot xt x y yt)(c:ev L x=some (u64 p))(f:ev L y=some (u64 q)):Ao P C n ds L o (u64 (p&&& ~~~q)):=λa b w _=>by
 have e:=V2 p q;simp only[execOp,d,b.ev c,b.ev f,u64];simp only[binOp,go_sem,e];rfl
theorem Gm{p q:BitVec 64}(d:o.op=.binOp .add xt x y yt)(c:ev L x=some (u64 p))(f:ev L y=some (u64 q)):Ao P C n ds L o (u64 (p+q)):=λa b w _=>by
 simp only[execOp,d,b.ev c,b.ev f,u64];have e:IntKind.u64.wrap ((p.toNat:Int)+(q.toNat:Int))=((p+q).toNat:Int):=by
  rw[Z9];simp[IntKind.wrap,IntKind.bits,IntKind.signed]
 simp[go_sem,e]
theorem V3{p q:BitVec 64}(d:o.op=.binOp .mul xt x y yt)(c:ev L x=some (u64 p))(f:ev L y=some (u64 q)):Ao P C n ds L o (u64 (p*q)):=λa b w _=>by
 simp only[execOp,d,b.ev c,b.ev f,u64];have e:IntKind.u64.wrap ((p.toNat:Int)*(q.toNat:Int))=((p*q).toNat:Int):=by
  rw[BitVec.toNat_mul];simp[IntKind.wrap,IntKind.bits,IntKind.signed]
 simp[go_sem,e]
theorem V4{p:BitVec 64}(b:o.op=.unOp .neg xt x)(a:ev L x=some (u64 p)):Ao P C n ds L o (u64 (-p)):=by
 have:=ST (P:=P) (C:=C) (n:=n) (ds:=ds) (L:=L) b a;have e:IntKind.u64.wrap (0-(p.toNat:Int))=((-p).toNat:Int):=by
  have:=p.isLt;rw[BitVec.toNat_neg];simp[IntKind.wrap,IntKind.bits,IntKind.signed];omega
 rw[e] at this;exact this
theorem EH{p:BitVec 64}{k:IntKind}{q:Int}{m:Nat}(f:o.op=.binOp .shr xt x y yt)(e:ev L x=some (u64 p))(g:ev L y=some (.int k q))(hq:q=m)(h:m<64):Ao P C n ds L o (u64 (p>>>m)):=λa c w _=>by
 subst hq;simp only[execOp,f,c.ev e,c.ev g,u64];have d:¬((m:Int)<0):=by omega
 have b:min m 64=m:=by omega
 simp[go_sem,Op.shift,IntKind.bits,d,b,AaR]
theorem LR{k:IntKind}{q:Int}{m:Nat}(h:o.op=.binOp .shl xt x y yt)(g:ev L x=some (.int .u64 1))(j:ev L y=some (.int k q))(hq:q=m)(d:m<64):Ao P C n ds L o (u64 (Dv m)):=λa c w _=>by
 subst hq;have f:¬((m:Int)<0):=by omega
 have b:min m 64=m:=by omega
 have e:Op.shift .shl .u64 1 k (m:Int)=pure (u64 (Dv m)):=by
  have i:(Dv m).toNat=2^m:=by unfold Dv;rw[BitVec.toNat_twoPow];exact Y3 (Nat.pow_lt_pow_right U d)
  unfold Op.shift u64;rw[if_neg f,i];simp only[IntKind.bits,YB,b];rw[Int.one_mul,<-PG (2^m) (Nat.pow_lt_pow_right (m:=m) (n:=64) (a:=2) U d)];simp
 simp only[execOp,h,c.ev g,c.ev j];simp only[binOp,go_sem,e];rfl
theorem LS{p q:BitVec 64}(e:o.op=.binOp .eql xt x y yt){k:IntKind}(i:C4 P xt xt=some k)(c:ev L x=some (u64 p))(g:ev L y=some (u64 q)):Ao P C n ds L o (.bool (decide (p=q))):=λa b w _=>by
 obtain ⟨d,j,f⟩:=D7 i;simp only[execOp,e,b.ev c,b.ev g,u64];simp[f,go_sem];rw[Yf];simp;exact ⟨λh=>Aau U,λh=>by rw[h]⟩
theorem PH{p q:BitVec 64}(f:o.op=.binOp .neq xt x y yt){k:IntKind}(j:C4 P xt xt=some k)(c:ev L x=some (u64 p))(i:ev L y=some (u64 q)):Ao P C n ds L o (.bool (decide (p≠q))):=λa b w _=>by
 obtain ⟨d,l,g⟩:=D7 j;simp only[execOp,f,b.ev c,b.ev i,u64];simp[g,go_sem];rw[Yf];simp;exact ⟨λh e=>h (by rw[e]),λh e=>h (Aau U)⟩
theorem WZ{a:TypeId}{p:BitVec 64}(d:o.op=.convert xt a x)(b:C4 P xt a=some .i64)(c:ev L x=some (u64 p))(hp:p.toNat<9223372036854775808):Ao P C n ds L o (Aa p.toNat):=by
 have:=G0 (P:=P) (C:=C) (n:=n) (ds:=ds) (L:=L) d b c;rwa[Y7 _ U] at this
theorem PI{t:TypeId}{r m:Operand}{b c n' q z:Nat}{u k3:IntKind}{p s:Int}(v:o.op=.slice t x none (some r) (some m))(y:Gx P t=some (n',z))
  (hx:ev L x=some (.pointer (some ⟨b,c,none⟩)))(f:ev L r=some (.int u p))(d:ev L m=some (.int k3 s))(e2:p=(q:Int))(e3:s=(q:Int))(hq:0<q)(h:q<=n'):Ao P C n ds L o (.slice (some ⟨b,c,none⟩) q q):=λa k w _=>by
 obtain ⟨e,i0,l,j,hz⟩:=Gy y;subst e2;subst e3;have g2:(0:Int)<=(q:Int)/\(q:Int)<=(n':Int):=by omega
 have g3:(0:Int)<=(q:Int)/\(q:Int)<=(q:Int):=by omega
 have i:¬q=0:=by omega
 have g:0<=q:=by omega
 simp only[execOp,v,Yu,YX,k.ev hx,k.ev f,k.ev d];simp[Instr.sliceAt,Instr.slice,run_underlying l,Instr.sureAddr,Instr.sliceBounds,Instr.sliceBound,asIntOf,g2,g3,sizeOf,typeInfo,j,hz,g,h,i,go_sem]<;>(try simp_all)
theorem R1{t:TypeId}{lo:Operand}{b a l c p z o' l' c':Nat}{k:IntKind}{i:Int}(h:o.op=.slice t x (some lo) none none)(u:CF P t=some z)
  (g:ev L x=some (.slice (some ⟨b,a,none⟩) l c))(j:ev L lo=some (.int k i))(v:i=(p:Int))(f:p<=l)(d:l<=c)
  (m:(if c=p then a else a+p*z)=o')(r:l-p=l')(s:c-p=c'):Ao P C n ds L o (.slice (some ⟨b,o',none⟩) l' c'):=by
 have:=Jx (P:=P) (C:=C) (n:=n) (ds:=ds) (L:=L) (p:=p) (q:=l) h u g (.inr ⟨lo,k,i,Z,j,v⟩) (.inl ⟨Z,Z⟩) f d;rw[r,s] at this;have e:(if c=p then (some ⟨b,a,none⟩:Option Addr) else (some ⟨b,a,none⟩:Option Addr).map (·.add (p*z)))=some ⟨b,o',none⟩:=by
  subst m;split
  ·rfl
  simp only[Yu,X2];unfold Addr.add;split
  ·rename_i w;simp[w]
  rfl
 rwa[e] at this
theorem Uv{p:Int}(g:o.op=.binOp .and xt x y yt)(f:ev L x=some (Aa p))(h:ev L y=some (Aa 127))(hp:0<=p/\p<9223372036854775808):Ao P C n ds L o (Aa (p%128)):=λa c w _=>by
 obtain ⟨q,rfl⟩:=ZQ hp.1;have e:Op.intBits .and .i64 (q:Int) 127=pure (Aa (IntKind.i64.wrap ((BitVec.ofInt 64 (q:Int)&&&BitVec.ofInt 64 127).toNat:Int))):=rfl;have d:(BitVec.ofInt 64 (q:Int)&&&BitVec.ofInt 64 127).toNat=q%128:=by
  rw[ZF,show (BitVec.ofInt 64 127).toNat=2^7-1 from Z,AaD,Aaz,BitVec.toNat_ofNat,Y3 (a:=q) (b:=2^64) U]
 rw[d,Y7 _ U,show ((q%128:Nat):Int)=(q:Int)%128 from by omega] at e;simp only[execOp,g,c.ev f,c.ev h];simp only[binOp,go_sem,e];rfl
end
end
def BP(F:Nat->Bool):List Value:=(List.range 16).map λk=>u64 (bw F k)
theorem BE(F:Nat->Bool):(BP F).length=16:=by simp[BP]
theorem wsV_at(F:Nat->Bool){k:Nat}(a:k<16):(BP F)[k]?=some (u64 (bw F k)):=by simp[BP,a]
theorem wsV_one(F:Nat->Bool):∀u∈BP F,u.oneCell'=true:=λu h=>by
 simp only[BP,X6] at h;obtain ⟨k,_,rfl⟩:=h;rfl
def Ci(n:Nat)(F D S:Nat->Bool):List Value:=.int .i64 n::(BP F++(BP D++(BP S++BP λ_=>false)))
abbrev alB(pa n:Nat)(F D S:Nat->Bool):Ai:=blk pa (Ci n F D S) 150
def BY:Nat->Bool:=λ_=>false
theorem W0(n:Nat)(F D S:Nat->Bool):(Ci n F D S)[0]?=some (Aa n):=rfl
theorem KO(n:Nat)(F D S:Nat->Bool){k:Nat}(a:k<16):(Ci n F D S)[1+k]?=some (u64 (bw F k)):=by
 unfold Ci;rw[ZY,Yq,Yc (by rw[BE];exact a),wsV_at _ a]
theorem Th(n:Nat)(F D S:Nat->Bool){k:Nat}(a:k<16):(Ci n F D S)[17+k]?=some (u64 (bw D k)):=by
 unfold Ci;rw[show 17+k=(16+k)+1 by omega,Yq,Ya (by rw[BE];omega),BE,show 16+k-16=k by omega,Yc (by rw[BE];exact a),wsV_at _ a]
theorem PJ{F c:Nat->Bool}{k:Nat}{x:BitVec 64}(d:k<16)(h:∀j,j<16->(if k=j then x else bw F j)=bw c j):(BP F).take k++[u64 x]++(BP F).drop (k+1)=BP c:=by
 have f:=BE F;have e:=Y9 (l:=BP F) (i:=k) (a:=u64 x);rw[if_pos U] at e;rw[X3,ZK,<-e];refine Y0 λj=>?_;rw[YZ];rcases Yg j 16 with b|b
 ·rw[wsV_at c b,<-h j b]
  split
  ·rw[if_pos U]
  rw[wsV_at F b]
 rw[if_neg U,Ys U,Ys (by rw[BE];omega)]
theorem LT(a:Value)(l:List Value)(k:Nat)(u:Value):(a::l).take (1+k)++[u]++(a::l).drop (1+k+1)=a::(l.take k++[u]++l.drop (k+1)):=by
 rw[ZY 1 k];simp
theorem LU(l m:List Value)(k:Nat)(u:Value)(a:k<l.length):(l++m).take k++[u]++(l++m).drop (k+1)=(l.take k++[u]++l.drop (k+1))++m:=by
 rw[X8 U,Yx U];simp
theorem R2(l m:List Value)(k:Nat)(u:Value):(l++m).take (l.length+k)++[u]++(l++m).drop (l.length+k+1)=l++(m.take k++[u]++m.drop (k+1)):=by
 rw[Z6,YD,X0 U,Yk U];rw[show l.length+k-l.length=k by omega,show l.length+k+1-l.length=k+1 by omega];simp
theorem IB(n:Nat){F b:Nat->Bool}(D S:Nat->Bool){k:Nat}{x:BitVec 64}(a:k<16)(h:∀j,j<16->(if k=j then x else bw F j)=bw b j):(Ci n F D S).take (1+k)++[u64 x]++(Ci n F D S).drop (1+k+1)=Ci n b D S:=by
 unfold Ci;rw[LT,LU _ _ _ _ (by rw[BE];exact a),PJ a h]
theorem LV(n:Nat)(F:Nat->Bool){D D':Nat->Bool}(S:Nat->Bool){k:Nat}{x:BitVec 64}(a:k<16)(h:∀j,j<16->(if k=j then x else bw D j)=bw D' j):(Ci n F D S).take (17+k)++[u64 x]++(Ci n F D S).drop (17+k+1)=Ci n F D' S:=by
 have e:=R2 (BP F) (BP D++(BP S++BP λ_=>false)) k (u64 x);rw[BE] at e;unfold Ci;rw[show 17+k=1+(16+k) by omega,LT,e,LU _ _ _ _ (by rw[BE];exact a),PJ a h]
theorem Et(n:Nat)(F D S:Nat->Bool):(Ci n F D S).length=65:=by simp[Ci,BE]
theorem M8(n:Nat)(F D S:Nat->Bool):BP F++BP D=((Ci n F D S).drop 1).take 32:=by
 have a:=BE F;have b:=BE D;unfold Ci;rw[List.drop_one,List.tail_cons,<-X3,YK (by simp[a,b])]
theorem Jl(n:Nat)(F S:Nat->Bool):(Ci n F BY S).take 33++(BP F++BP BY)++(Ci n F BY S).drop (33+(BP F++BP BY).length)=Ci n F BY F:=by
 have a:=BE F;have b:=BE BY;have e:(Ci n F BY S).drop (33+(BP F++BP BY).length)=[]:=Yk (by simp[Et,a,b]);rw[e,YJ];unfold Ci;rw[show (33:Nat)=32+1 from Z,Zn,<-X3 (BP F) (BP BY) (BP S++_),YK (by simp[BE])];simp only[ZD,X3];rfl
theorem LW(l:List Value)(F:Nat->Bool)(h:∀u∈l,u.oneCell'=true):∀u∈l++BP F,u.oneCell'=true:=λu a=>by
 rcases Yt.1 a with q|q
 ·exact h u q
 exact wsV_one F u q
theorem bit_of(F:Nat->Bool)(p:Nat):(decide ((bw F (p/64))>>>(p%64)&&&1#64=1#64))=F p:=by
 rw[VW];cases F p<;>simp
theorem V5{z w:World}{Γ:List Ai}(i:Nat)(H:Sep z Γ w){A:Ai}(a:Γ[i]?=some A){b o:Nat}{v:Value}(h:∀h,A h->celH h b o v):EK b o v w:=H.cell i a h
def Fd(F:Nat->Bool)(p:Nat):Nat->Bool:=λq=>F q||decide (q=p)
def Cq(F:Nat->Bool)(p:Nat):Nat->Bool:=λq=>F q && !decide (q=p)
theorem Uw(F:Nat->Bool)(p j:Nat):(if p/64=j then bw F (p/64)&&& ~~~Dv (p%64) else bw F j)=bw (Cq F p) j:=by
 rw[show Cq F p=λq=>F q && !decide (q=p) from Z,<-VV];split
 ·rename_i e;rw[e]
 rfl
theorem M9(F:Nat->Bool)(p j:Nat):(if p/64=j then bw F (p/64)|||Dv (p%64) else bw F j)=bw (Fd F p) j:=by
 rw[show Fd F p=λq=>F q||decide (q=p) from rfl,<-VU];split
 ·rename_i e;rw[e]
 rfl
def Cy(F G:Nat->Bool):Nat->Bool:=λq=>F q||G q
def DO(F G:Nat->Bool)(k:Nat):Nat->Bool:=λq=>if q<64*k then G q else F q
theorem HN(F G:Nat->Bool)(k j:Nat):bw (DO F G k) j=if j<k then bw G j else bw F j:=by
 symm;refine Ji λi a=>?_;unfold DO;split
 ·rw[if_pos U,Dg _ _ _ a]
 rw[if_neg U,Dg _ _ _ a]
theorem Na(F G:Nat->Bool)(k:Nat):∀j,j<16->(if k=j then bw G k else bw (DO F G k) j)=bw (DO F G (k+1)) j:=λj _=>by
 rw[HN,HN];split
 ·rename_i e;subst e;rw[if_pos U]
 by_cases h:j<k
 ·rw[if_pos h,if_pos U]
 rw[if_neg h,if_neg U]
theorem Nb(F G:Nat->Bool):DO F G 0=F:=by funext q;simp[DO]
theorem V6(n:Nat)(F G D D' S:Nat->Bool):Ci n (DO F G 16) (DO D D' 16) S=Ci n G D' S:=by
 have h:∀F G:Nat->Bool,BP (DO F G 16)=BP G:=λF G=>by
  refine Y0 λj=>?_;rcases Yg j 16 with a|a
  ·rw[wsV_at _ a,wsV_at _ a,HN,if_pos a]
  rw[Ys (by rw[BE];omega),Ys (by rw[BE];omega)]
 unfold Ci;rw[h,h]
theorem LX(n:Nat)(F D S:Nat->Bool):BP F=((Ci n F D S).drop 1).take 16:=by
 unfold Ci;rw[List.drop_one,List.tail_cons,YK (BE F)]
theorem V7(n:Nat)(F D S:Nat->Bool):BP D=((Ci n F D S).drop 17).take 16:=by
 unfold Ci;rw[show (17:Nat)=16+1 from Z,Zo,Aay (BE F),YK (BE D)]
theorem W3(F D:Nat->Bool)(k:Nat):bw (DO F (Cy F D) k) k|||bw D k=bw (Cy F D) k:=by
 rw[HN,if_neg U,WX];rfl
theorem V8(F D:Nat->Bool)(k:Nat):∀j,j<16->(if k=j then bw (DO F (Cy F D) k) k|||bw D k else bw (DO F (Cy F D) k) j)=bw (DO F (Cy F D) (k+1)) j:=λj a=>by
 rw[W3];exact Na F _ k j a
theorem V9(D:Nat->Bool)(k:Nat):∀j,j<16->(if k=j then 0#64 else bw (DO D BY k) j)=bw (DO D BY (k+1)) j:=λj a=>by
 have e:(0#64)=bw BY k:=(bw_zero.2 λ_ _=>rfl).symm;rw[e];exact Na D BY k j a
def CZ(n:Nat):Nat->Bool:=λq=>decide (q<n)
theorem Ux(k:Nat):Fd (CZ k) k=CZ (k+1):=by
 funext q;unfold Fd CZ;rw[Yf];simp;omega
theorem R3(k:Nat):∀j,j<16->(if k/64=j then bw (CZ k) (k/64)|||Dv (k%64) else bw (CZ k) j)=bw (CZ (k+1)) j:=λj _=>by
 rw[<-Ux];exact M9 _ _ _
theorem R4(F:Nat->Bool)(k:Nat):(cnt F 0 (64*k):Int)+(cnt F (64*k) 64:Int)=(cnt F 0 (64*(k+1)):Int):=by
 have:=Gl F 0 (64*k) 64;rw[show 64*(k+1)=64*k+64 by omega,this,Ze];omega
theorem PK(F:Nat->Bool)(a:Nat):∀n,cnt F a n<=n
 | 0=>Yp _
 | n+1=>by
  have:=PK F a n;have:(F (a+n)).toNat<=1:=by cases F (a+n)<;>simp
  simp only[cnt];omega
def PL(j:Nat):UInt8:=UInt8.ofNat (Go.Lib.deBruijn64tab.getD j 0)
def F1(A:Ai):Prop:=∀h,A h->∀j,j<64->celH h 0 j (u8 (PL j))
theorem Wa(x:BitVec 64)(i:Nat)(q:i<64)(f:x.getLsbD i=true)(r:∀j,j<i->x.getLsbD j=false):(((x&&& -x)*285870213051353865#64)>>>58).toNat<64/\((PL (((x&&& -x)*285870213051353865#64)>>>58).toNat).toNat:Int)=i:=by
 have d:x.toNat≠0:=λe=>by
  have:x=0#64:=Aau (by simpa using e);rw[this] at f;simp at f
 have b:=x.isLt;obtain ⟨m,k,l⟩:=Go.Lib.ctzFrom_spec 64 x.toNat U b;have o:Go.Lib.ctzFrom 64 x.toNat=i:=by
  generalize Go.Lib.ctzFrom 64 x.toNat=c at k l;have g:∀j,x.getLsbD j=(decide (j>=c)&&(2*m+1).testBit (j-c)):=λj=>by
   show x.toNat.testBit j=_;rw[k,Nat.testBit_two_pow_mul]
  rcases Zi i c with h|h|h
  ·have:=g i;rw[f] at this;simp at this;omega
  ·exact h.symm
  have:=g c;rw[r c h] at this;simp at this
 obtain ⟨a,_⟩:=Go.Lib.lowest_bit 64 x.toNat d b;have s:Go.Lib.ctz 64 x.toNat=i:=by unfold Go.Lib.ctz;rw[if_neg d,o]
 rw[s] at a;have p:(x&&& -x).toNat=2^i:=by
  rw[ZF,BitVec.toNat_neg,Y3 U];exact a
 have n:(((x&&& -x)*285870213051353865#64)>>>58).toNat=2^i*285870213051353865%18446744073709551616/288230376151711744:=by
  rw[Zy,BitVec.toNat_mul,p,Zh];rfl
 obtain ⟨a1,a2⟩:=Go.Lib.deBruijn64_at i q;rw[n];refine ⟨a1,?_⟩;unfold PL;rw[a2];simp;omega
theorem LY(a n:Nat)(F D S:Nat->Bool)(p:Nat):An 109 [V a,Aa (p:Int)] [alB a n F D S] (λv G=>v=.bool (decide (p<n))/\G=[alB a n F D S]):=by
 intro z R w H;refine Af func109 Z ntmps109 Z (Z0 10 [0] Z (Am 7 Z (λb=>?_) (λb=>?_)))
 ·refine Z0 4 [0] Z (Ad Z (AZ Z Z J (AA (H.cel 0 Z 0 (W0 _ _ _ _)))) (Z0 6 [0] Z (Zr Z ?_)));exact ⟨_,⟨congrArg Value.bool (by first|(rw[Yf];simp<;>omega)|(simp<;>omega)),Z⟩,H⟩
 refine Zc 11 Z (Zr Z ?_);exact ⟨_,⟨congrArg Value.bool (by first|(rw[Yf];simp<;>omega)|(simp<;>omega)),Z⟩,H⟩
theorem LZ(a n:Nat)(F D S:Nat->Bool)(p:Nat)(hp:p<n)(c:n<=1024):An 110 [V a,Aa (p:Int)] [alB a n F D S] (λv G=>v=.bool (F p)/\G=[alB a n F D S]):=by
 intro z R w H;refine Af func110 Z ntmps110 Z (Zc 9 Z (Ah Z (call109 _) (LY _ _ _ _ _ _) H ?_));intro w H;refine Zc 1 Z (Am 8 Z (λb=>?_) (λb=>?_))
 ·refine Z1 7 [1,1,16,1,(p/64),1+(p/64)] [(p:Int)/64] Z U (Ad Z (AZ Z Z J (AA (H.cel 0 Z (1+(p/64)) (KO _ _ _ _ U)))) (Z1 2 [] [(p:Int)%64] Z U (Ad Z (EH Z Z Z (m:=(p%64)) U U) (Ad Z (Es (q:=1#64) Z Z Z) (Ad Z (LS (p:=((bw F (p/64))>>>(p%64))&&&(1#64)) (q:=1#64) (k:=.u64) Z J Z Z) (k_updA 21 (v:=.bool (F p)) Z (congrArg Value.bool (bit_of F p)) (Zc 5 Z (Zr Z ?_))))))));exact ⟨_,⟨Z,Z⟩,H⟩
 exact absurd hp b
theorem PM(a n:Nat)(F D S:Nat->Bool)(p:Nat)(hp:p<n)(d:n<=1024)(c:F p=true):An 82 [V a,Aa (p:Int)] [alB a n F D S] (λv G=>v=.bool true/\G=[alB a n (Cq F p) D S]):=by
 intro z R w H;refine Af func82 Z ntmps82 Z (Zc 10 Z (Ah Z (call110 _) (LZ _ _ _ _ _ _ U U) H ?_));intro w H;refine k_updA 7 (v:=.bool true) Z (congrArg Value.bool c) (Zc 7 Z (Bo 16 J J (A9 H λw b=>?_)));have H:=b.l1;refine CD 7 [1,1,16,1,(p/64),1+(p/64)] [(p:Int)/64] H Z J U (B5 Z Z Z (AZ Z Z J (AA (H.cel 0 Z (1+(p/64)) (KO _ _ _ _ U)))) (CD 2 [] [(p:Int)%64] H Z J U (B5 Z Z Z (LR Z Z Z (m:=(p%64)) U U) (B5 Z Z Z (R0 Z Z Z) (CD 4 [1,1,16,1,(p/64),1+(p/64)] [] H Z J U (Cf (gw (AV Z Z (AD 0 H Z Z Z Z (vs:=[u64 ((bw F (p/64))&&& ~~~(Dv (p%64)))]) Z (Al Z AL) J (by simp only[Et,XZ,X4];omega) (out:=(Ci n (Cq F p) D S)) (IB _ _ _ U (λj _=>Uw F p j))) ?_))))))));rintro w H;refine Zc 8 Z (Zr Z ?_);exact ⟨_,⟨Z,Z⟩,H⟩
theorem Uy(a n:Nat)(F D S:Nat->Bool)(p:Nat)(hp:p<n)(e:n<=1024)(d:F p=false)(b:D p=false):An 52 [V a,Aa (p:Int)] [alB a n F D S] (λv G=>v=.bool true/\G=[alB a n F (Fd D p) S]):=by
 intro z R w H;refine Af func52 Z ntmps52 Z (Zc 10 Z (Ah Z (call109 _) (LY _ _ _ _ _ _) H ?_));intro w H;refine k_updA 7 (v:=.bool true) Z (congrArg Value.bool (decide_eq_true hp)) (Zc 4 Z (Ah Z (call110 _) (LZ _ _ _ _ _ _ U U) H ?_));intro w H;refine k_updA 12 (v:=.bool false) Z (congrArg Value.bool d) (Z1 9 [1,17,16,1,(p/64),17+(p/64)] [(p:Int)/64] Z U (Ad Z (AZ Z Z J (AA (H.cel 0 Z (17+(p/64)) (Th _ _ _ _ U)))) (Z1 2 [] [(p:Int)%64] Z U (Ad Z (EH Z Z Z (m:=(p%64)) U U) (Ad Z (Es (q:=1#64) Z Z Z) (Ad Z (LS (p:=((bw D (p/64))>>>(p%64))&&&(1#64)) (q:=1#64) (k:=.u64) Z J Z Z) (k_updA 27 (v:=.bool false) Z (congrArg Value.bool ((bit_of D p).trans b)) (Zc 7 Z (Bo 16 J J (A9 H λw c=>?_))))))))));have H:=c.l1;refine CD 7 [1,17,16,1,(p/64),17+(p/64)] [(p:Int)/64] H Z J U (B5 Z Z Z (AZ Z Z J (AA (H.cel 0 Z (17+(p/64)) (Th _ _ _ _ U)))) (CD 2 [] [(p:Int)%64] H Z J U (B5 Z Z Z (LR Z Z Z (m:=(p%64)) U U) (B5 Z Z Z (LQ Z Z Z) (CD 4 [1,17,16,1,(p/64),17+(p/64)] [] H Z J U (Cf (gw (AV Z Z (AD 0 H Z Z Z Z (vs:=[u64 ((bw D (p/64))|||(Dv (p%64)))]) Z (Al Z AL) J (by simp only[Et,XZ,X4];omega) (out:=(Ci n F (Fd D p) S)) (LV _ _ _ U (λj _=>M9 D p j))) ?_))))))));rintro w H;refine Zc 8 Z (Zr Z ?_);exact ⟨_,⟨Z,Z⟩,H⟩
abbrev pB_(F:Nat->Bool)(k:Nat):BitVec 64:=((bw F k)>>>1)&&&(6148914691236517205#64)
abbrev pC_ (F:Nat->Bool) (k:Nat):BitVec 64:=(bw F k)&&&(6148914691236517205#64)
abbrev Nc (F:Nat->Bool) (k:Nat):BitVec 64:=(((bw F k)>>>1)&&&(6148914691236517205#64))+((bw F k)&&&(6148914691236517205#64))
abbrev pD_ (F:Nat->Bool) (k:Nat):BitVec 64:=(((Nc F k)>>>2)&&&(3689348814741910323#64))
abbrev pE_ (F:Nat->Bool) (k:Nat):BitVec 64:=((Nc F k)&&&(3689348814741910323#64))
abbrev pF_ (F:Nat->Bool) (k:Nat):BitVec 64:=(pD_ F k)+(pE_ F k)
theorem Uz(F:Nat->Bool)(k:Nat):An 99 [u64 (bw F k)] [] (λv G=>v=Aa ((cnt F (64*k) 64:Nat):Int)/\G=[]):=by
 intro z R w H;refine Af func99 Z ntmps99 Z (Zc 8 Z (Ad Z (EH Z Z Z (m:=1) Z (by decide)) (Ad Z (Es (q:=6148914691236517205#64) Z Z Z) (Zc 1 Z (Ad Z (Es (q:=6148914691236517205#64) Z Z Z) (Ad Z (Gm (p:=((bw F k)>>>1)&&&(6148914691236517205#64)) (q:=(bw F k)&&&(6148914691236517205#64)) Z Z Z) (Zc 6 Z (Ad Z (EH Z Z Z (m:=2) Z (by decide)) (Ad Z (Es (p:=(Nc F k)>>>2) (q:=3689348814741910323#64) Z Z Z) (Zc 1 Z (Ad Z (Es (p:=(pB_ F k)+(pC_ F k)) (q:=3689348814741910323#64) Z Z Z) (Ad Z (Gm (p:=((Nc F k)>>>2)&&&(3689348814741910323#64)) (q:=(Nc F k)&&&(3689348814741910323#64)) Z Z Z) (Zc 6 Z ?_)))))))))))));refine Ad Z (EH Z Z Z (m:=4) Z (by decide)) (Zc 1 Z (Ad Z (Gm (p:=(pF_ F k)>>>4) (q:=(pD_ F k)+(pE_ F k)) Z Z Z) (Ad Z (Es (p:=((pF_ F k)>>>4)+(pF_ F k)) (q:=1085102592571150095#64) Z Z Z) (Zc 7 Z (Ad Z (EH Z Z Z (m:=8) Z (by decide)) (Ad Z (Gm (p:=(((pF_ F k)>>>4)+(pF_ F k))&&&(1085102592571150095#64)) (q:=((((pF_ F k)>>>4)+(pF_ F k))&&&(1085102592571150095#64))>>>8) Z Z Z) (Zc 7 Z (Ad Z (EH Z Z Z (m:=16) Z (by decide)) (Ad Z (Gm (p:=((((pF_ F k)>>>4)+(pF_ F k))&&&(1085102592571150095#64))+(((((pF_ F k)>>>4)+(pF_ F k))&&&(1085102592571150095#64))>>>8)) (q:=(((((pF_ F k)>>>4)+(pF_ F k))&&&(1085102592571150095#64))+(((((pF_ F k)>>>4)+(pF_ F k))&&&(1085102592571150095#64))>>>8))>>>16) Z Z Z) (Zc 7 Z (Ad Z (EH Z Z Z (m:=32) Z (by decide)) (Ad Z (Gm (p:=(((((pF_ F k)>>>4)+(pF_ F k))&&&(1085102592571150095#64))+(((((pF_ F k)>>>4)+(pF_ F k))&&&(1085102592571150095#64))>>>8))+((((((pF_ F k)>>>4)+(pF_ F k))&&&(1085102592571150095#64))+(((((pF_ F k)>>>4)+(pF_ F k))&&&(1085102592571150095#64))>>>8))>>>16)) (q:=((((((pF_ F k)>>>4)+(pF_ F k))&&&(1085102592571150095#64))+(((((pF_ F k)>>>4)+(pF_ F k))&&&(1085102592571150095#64))>>>8))+((((((pF_ F k)>>>4)+(pF_ F k))&&&(1085102592571150095#64))+(((((pF_ F k)>>>4)+(pF_ F k))&&&(1085102592571150095#64))>>>8))>>>16))>>>32) Z Z Z) (Zc 6 Z ?_)))))))))))));refine Ad Z (WZ Z J Z (JW F k).1) (Ad Z (Uv Z Z Z (by have:=(JW F k).1;exact ⟨Int.natCast_nonneg _,by unfold JU at this;dsimp only[Nc,pB_,pC_,pD_,pE_,pF_] at this ⊢;omega⟩)) (k_updA 34 (u:=Aa (((JU (bw F k)).toNat:Int)%128)) (v:=Aa ((cnt F (64*k) 64:Nat):Int)) Z (congrArg Aa (by have:=(JW F k).2;omega)) (Zc 4 Z (gr (FN Z [Aa ((cnt F (64*k) 64:Nat):Int)] ⟨Z,trivial⟩ (v:=Aa ((cnt F (64*k) 64:Nat):Int)) Z ?_)))));exact ⟨_,⟨Z,Z⟩,H⟩
theorem UA(b n:Nat)(F D S:Nat->Bool):An 38 [V b] [alB b n F D S] (λv G=>v=Aa (cnt F 0 1024:Int)/\G=[alB b n F D S]):=by
 intro z R w H;refine Af func38 Z ntmps38 Z (Z0 17 [1,1] Z (Ad Z (Bz Z Z (vs:=BP F) J (AA ((H.blk 0 Z).part 1 16 _ (LX _ _ _ _)))) (Zc 4 Z ?_)));refine Ap (σ:=Nat) (λk=>[(11,Aa (k:Int)),(3,Aa (cnt F 0 (64*k):Int)),(2,Aa 0),(10,.agg (BP F).toArray)])
   (λk w=>Sep z (alB b n F D S::R) w/\(k<=16)) (λk=>16-k) 0
   (λ_ a=>(a.co Z (by go_num) a.cz)) ⟨H,by omega⟩ ?_
 clear H;rintro k w ⟨e,c⟩;have H:=e.l1;have d:=c;clear c;have f:=PK F 0 (64*(k+1));refine Z0 6 [0] Z (Ag Z (λg=>?_) (λg=>?_))
 ·refine Zc 6 Z (Ad Z (Ee (m:=16) Z J Z Z Z (j:=k) Z (u:=u64 (bw F k)) (wsV_at F U)) (Zc 6 Z (Ah Z (call99 _) (Uz _ _) H ?_)));intro w H;refine Ad Z (Cm Z Z Z (r:=(cnt F 0 (64*(k+1)):Int)) (R4 F k) U) (Z1 8 [] [(k:Int)+1] Z U (gf ?_));intro _ a;refine ⟨(k+1),a.cz,⟨H,?_⟩,?_⟩
  ·omega
  omega
 obtain rfl:k=16:=by omega
 refine Zc 2 Z (gx (Zc 9 Z (Zr Z ?_)));exact ⟨_,⟨Z,Z⟩,H⟩
theorem Kv(a n:Nat)(F D S:Nat->Bool):An 49 [V a] [alB a n F D S] (λv G=>v=.tuple #[]/\G=[alB a n (Cy F D) BY (Cy F D)]):=by
 intro z R w H;refine Af func49 Z ntmps49 Z (Z0 7 [1,17] Z (Ad Z (Bz Z Z (vs:=BP D) J (AA ((H.blk 0 Z).part 17 16 _ (V7 _ _ _ _)))) (Zc 4 Z ?_)));refine Ap (σ:=Nat) (λk=>[(9,Aa (k:Int)),(0,V a),(8,.agg (BP D).toArray)])
   (λk w=>Sep z (alB a n (DO F (Cy F D) k) (DO D BY k) S::R) w/\(k<=16)) (λk=>16-k) 0
   fr_z ⟨(by rw[Nb,Nb];exact H),by omega⟩ ?_
 clear H;rintro k w ⟨b,c⟩;have H:=b.l1;have d:=c;clear c;refine Z0 6 [0] Z (Ag Z (λf=>?_) (λf=>?_))
 ·refine Zc 7 Z (Ad Z (Ee (m:=16) Z J Z Z Z (j:=k) Z (u:=u64 (bw D k)) (wsV_at D U)) (Zc 5 Z (Bo 13 J J (A9 H λw b=>?_))))
  have H:=b.l1;refine CD 6 [1,1,16,1,k,1+k] [] H Z J U (B5 Z Z Z (AZ Z Z J (AA (H.cel 0 Z (1+k) (KO _ _ _ _ U)))) (SX 1 [] Z J (B5 Z Z Z (LQ Z Z Z) (CD 4 [1,1,16,1,k,1+k] [] H Z J U (Cf (gw (AV Z Z (AD 0 H Z Z Z Z (vs:=[u64 ((bw (DO F (Cy F D) k) k)|||(bw D k))]) Z (Al Z AL) J (by simp only[Et,XZ,X4];omega) (out:=(Ci n (DO F (Cy F D) (k+1)) (DO D BY k) S)) (IB _ _ _ U (V8 F D k))) ?_)))))));rintro w H;refine Z1 9 [1,17,16,1,k,17+k] [] Z U (AV Z Z (AD 0 H Z Z Z Z (vs:=[u64 (0#64)]) Z (Al Z AL) J (by simp only[Et,XZ,X4];omega) (out:=(Ci n (DO F (Cy F D) (k+1)) (DO D BY (k+1)) S)) (LV _ _ _ U (V9 D k))) ?_);rintro w H;refine Z1 7 [] [(k:Int)+1] Z U (gf ?_);intro _ e;refine ⟨(k+1),e.cz,⟨H,?_⟩,?_⟩
  ·omega
  omega
 obtain rfl:k=16:=by omega
 refine Zc 2 Z (gx (Zc 2 Z ?_));dsimp only[alB] at H;rw[V6] at H;refine Z0 5 [1] Z (Ad Z (Bz Z Z (vs:=BP (Cy F D)++BP BY) J (AA ((H.blk 0 Z).part 1 32 _ (M8 _ _ _ _)))) (Z0 2 [33] Z (AV Z Z (AD 0 H Z Z Z Z (vs:=BP (Cy F D)++BP BY) Z (LW _ _ (wsV_one _)) J (by simp only[Et,XY,BE];omega) (out:=(Ci n (Cy F D) BY (Cy F D))) (Jl _ _ _)) ?_)));rintro w H;refine Zc 1 Z (Zf Z ?_);exact ⟨_,⟨Z,Z⟩,H⟩
theorem Wb(n:Nat)(j:1<=n/\n<=1024):An 80 [Aa (n:Int)] [] (λv G=>(∃d,v=V d/\G=[alB d n (CZ n) BY (CZ n)])):=by
 intro z R w H;refine Af func80 Z ntmps80 Z (Z0 11 [0] Z (Am 7 Z (λg=>U) (λg=>?_)));refine Z0 5 [0] Z (Ag Z (λi=>U) (λi=>?_));refine Zc 5 Z (Ad Z (AQ Z Z (out:=(Ci n (CZ 0) BY BY)) J) (AC Z (Fh H Z Z (cs:=(Ci n (CZ 0) BY BY)) Z) ?_));rintro _ w ⟨b,rfl,H⟩;refine Zc 11 Z ?_;refine Ap (σ:=Nat) (λk=>[(15,Aa (k:Int)),(2,.pointer none),(3,V b),(14,Aa (n:Int))])
   (λk w=>Sep z (alB b n (CZ k) BY BY::R) w/\(k<=n)) (λk=>n-k) 0
   fr_z ⟨H,by omega⟩ ?_
 clear H;rintro k w ⟨a,c⟩;have H:=a.l1;have e:=c;clear c;refine Z0 6 [0] Z (Ag Z (λh=>?_) (λh=>?_))
 ·refine Zc 10 Z (Bo 16 J J (A9 H λw a=>?_))
  have H:=a.l1;refine CD 7 [1,1,16,1,(k/64),1+(k/64)] [(k:Int)/64] H Z J U (B5 Z Z Z (AZ Z Z J (AA (H.cel 0 Z (1+(k/64)) (KO _ _ _ _ U)))) (CD 2 [] [(k:Int)%64] H Z J U (B5 Z Z Z (LR Z Z Z (m:=(k%64)) U U) (B5 Z Z Z (LQ Z Z Z) (CD 4 [1,1,16,1,(k/64),1+(k/64)] [] H Z J U (Cf (gw (AV Z Z (AD 0 H Z Z Z Z (vs:=[u64 ((bw (CZ k) (k/64))|||(Dv (k%64)))]) Z (Al Z AL) J (by simp only[Et,XZ,X4];omega) (out:=(Ci n (CZ (k+1)) BY BY)) (IB _ _ _ U (R3 k))) ?_))))))));rintro w H;refine Z1 7 [] [(k:Int)+1] Z U (gf ?_);intro _ f;refine ⟨(k+1),f.cz,⟨H,?_⟩,?_⟩
  ·omega
  omega
 obtain rfl:k=n:=by omega
 refine Zc 2 Z (gx (Z0 8 [1] Z (Ad Z (Bz Z Z (vs:=BP (CZ k)++BP BY) J (AA ((H.blk 0 Z).part 1 32 _ (M8 _ _ _ _)))) (Z0 2 [33] Z (AV Z Z (AD 0 H Z Z Z Z (vs:=BP (CZ k)++BP BY) Z (LW _ _ (wsV_one _)) J (by simp only[Et,XY,BE];omega) (out:=(Ci k (CZ k) BY (CZ k))) (Jl _ _ _)) ?_)))));rintro w H;refine Zc 9 Z (Zr Z ?_);exact ⟨_,⟨b,Z,Z⟩,H⟩
theorem XL(x:BitVec 64)(i:Nat)(f:i<64)(a:x.getLsbD i=true)(b:∀j,j<i->x.getLsbD j=false)(A:Ai)(g:F1 A):An 100 [u64 x] [A] (λv G=>v=Aa ((i:Nat):Int)/\G=[A]):=by
 intro z R w H;obtain ⟨c,e⟩:=Wa x i f a b;refine Af func100 Z ntmps100 Z (Zc 9 Z (Ad Z (LS (q:=0#64) (k:=.u64) Z J Z Z) (Zc 2 Z (Ag Z (λd=>?_) (λd=>?_)))))
 ·(exfalso;rw[d] at a;simp at a)
 refine Zc 6 Z (Ad Z (V4 Z Z) (Ad Z (Es Z Z Z) (Ad Z (V3 (q:=285870213051353865#64) Z Z Z) (Ad Z (EH Z Z Z (m:=58) Z (by decide)) (Ad Z (Ie (l:=64) Z (z:=1) (j:=(((x&&& -x)*285870213051353865#64)>>>58).toNat) (r:=(((x&&& -x)*285870213051353865#64)>>>58).toNat) J Z Z Z c U) (Ad Z (AZ Z Z J (AA (V5 0 H Z (λh q=>g h q _ c)))) (Ad Z (KJ Z J Z) (k_updA 13 (v:=Aa ((i:Nat):Int)) Z (congrArg Aa e) (Zc 4 Z (Zr Z ?_))))))))));exact ⟨_,⟨Z,Z⟩,H⟩
theorem Wc(c n:Nat)(F D S:Nat->Bool)(p:Nat)(hp:p<n)(x:n<=1024)(a:F p=true)(b:∀q,q<p->F q=false)(A:Ai)(r:F1 A):An 40 [V c] [alB c n F D S,A] (λv G=>v=.tuple #[Aa (p:Int),.bool true]/\G=[alB c n (Cq F p) D S,A]):=by
 intro z R w H;refine Af func40 Z ntmps40 Z (Z0 13 [1,1] Z (Ad Z (Bz Z Z (vs:=BP F) J (AA ((H.blk 0 Z).part 1 16 _ (LX _ _ _ _)))) (Zc 4 Z ?_)));refine Ap (σ:=Nat) (λk=>[(12,Aa (k:Int)),(0,V c),(11,.agg (BP F).toArray)])
   (λk w=>Sep z (alB c n F D S::A::R) w/\(k<=p/64)) (λk=>16-k) 0
   fr_z ⟨H,by omega⟩ ?_
 clear H;rintro k w ⟨s,h⟩;have H:=s.l2;have i:=h;clear h;refine Z0 6 [0] Z (Ag Z (λo=>?_) (λo=>?_))
 ·refine Zc 7 Z (Ad Z (Ee (m:=16) Z J Z Z Z (j:=k) Z (u:=u64 (bw F k)) (wsV_at F U)) (Zc 7 Z (Ad Z (PH (q:=0#64) (k:=.u64) Z J Z Z) (Zc 2 Z (Ag Z (λf=>?_) (λf=>?_))))))
  ·have d:k=p/64:=by
     rcases Yg k (p/64) with q|q
     · exact absurd (bw_zero.2 λj l=>b _ U) f
     · omega
   have g:F (64*k+p%64)=true:=by rw[show 64*k+p%64=p by omega];exact a
   refine Z1 5 [] [64*(k:Int)] Z U (Ah Z (call100 _) (XL _ (p%64) U (by rw[Dg _ _ _ U];exact g) (λj l=>by rw[Dg _ _ _ U];exact b _ U) _ r) H.f1 ?_);intro w H;refine Z1 9 [] [(p:Int)] Z U (Ah Z (call82 _) (PM _ _ _ _ _ _ hp x a) H.f1 ?_);intro w H;refine Zc 5 Z (Zr Z ?_);exact ⟨_,⟨Z,Z⟩,H⟩
  have d:k≠p/64:=λe=>by
    have:=bw_zero.1 (AaQ.1 f) (p%64) U;rw[show 64*k+p%64=p by omega,a] at this;cases this
  refine Z1 7 [] [(k:Int)+1] Z U (gf ?_);intro _ t;refine ⟨(k+1),t.cz,⟨H,?_⟩,?_⟩
  ·omega
  omega
 (exfalso;omega)
theorem UB(a n:Nat)(F D S:Nat->Bool)(b:∀q,q<1024->F q=false):An 40 [V a] [alB a n F D S] (λv G=>v=.tuple #[Aa 0,.bool false]/\G=[alB a n F D S]):=by
 intro z R w H;refine Af func40 Z ntmps40 Z (Z0 13 [1,1] Z (Ad Z (Bz Z Z (vs:=BP F) J (AA ((H.blk 0 Z).part 1 16 _ (LX _ _ _ _)))) (Zc 4 Z ?_)));refine Ap (σ:=Nat) (λk=>[(12,Aa (k:Int)),(0,V a),(11,.agg (BP F).toArray)])
   (λk w=>Sep z (alB a n F D S::R) w/\(k<=16)) (λk=>16-k) 0
   fr_z ⟨H,by omega⟩ ?_
 clear H;rintro k w ⟨g,d⟩;have H:=g.l1;have e:=d;clear d;refine Z0 6 [0] Z (Ag Z (λf=>?_) (λf=>?_))
 ·refine Zc 7 Z (Ad Z (Ee (m:=16) Z J Z Z Z (j:=k) Z (u:=u64 (bw F k)) (wsV_at F U)) (Zc 7 Z (Ad Z (PH (q:=0#64) (k:=.u64) Z J Z Z) (Zc 2 Z (Ag Z (λc=>?_) (λc=>?_))))))
  ·exact absurd (bw_zero.2 λj i=>b _ U) c
  refine Z1 7 [] [(k:Int)+1] Z U (gf ?_);intro _ h;refine ⟨(k+1),h.cz,⟨H,?_⟩,?_⟩
  ·omega
  omega
 refine Zc 2 Z (gx (Zc 9 Z (Zr Z ?_)));exact ⟨_,⟨Z,Z⟩,H⟩
section
section late
variable{P:Program}{ops:Array Oper}{Q:Exit->Act->World->Prop}{S:World->Prop}{E:List Nat}
end late
section late2
variable{P:Program}{ops:List Oper}{N R:Act->World->Prop}{X:Nat->Act->World->Prop}{S:World->Prop}{E:List Nat}{a:Act}{w:World}{fuel:Nat}{listed:Array Bool}{n d i:Nat}{ds:List Deferred}{L:List (Nat×Value)}{v:Value}{o:Oper}
end late2
section
variable{P:Program}{o:Oper}{w z:World}{Γ:List Ai}{n:Nat}{ds:List Deferred}{L:List (Nat×Value)}{x:Operand}
def Ob(P:Program)(t:TypeId):Bool:=match P.underlying t with
 | some (.slice e)=>(match P.info? e with|some i=>(match i.zero with|some (.int .i64 0)=>true|_=>false)|none=>false)
 | _=>false
theorem R5{t:TypeId}(h:Ob P t=true):∃e i,P.underlying t=some (.slice e)/\P.info? e=some i/\i.zero=some (Aa 0):=by
 unfold Ob at h;split at h
 ·rename_i e a
  split at h
  ·rename_i i b
   split at h
   ·rename_i c;exact ⟨e,i,a,b,c⟩
   cases h
  cases h
 cases h
theorem R6(i:Nat){t:TypeId}{b d k c:Nat}{h:TypeId}{cs:List Value}(H:Sep z Γ w)(p:Γ[i]?=some (blk b cs h))(u:o.op=.call {callee:=.builtin .clear,args:= #[x],argTypes:= #[t]})(hd:Ob P t=true)(s:ev L x=some (.slice (some ⟨b,d,none⟩) k c))(hk:0<k)(hl:d+k<=cs.length):
  BL P n ds L o w (λv w'=>v=.tuple #[]/\Sep z (Γ.set i (blk b (cs.take d++List.replicate k (Aa 0)++cs.drop (d+k)) h)) w'):=λa hF=>by
 obtain ⟨e,i0,y,h2,h3⟩:=R5 hd;have m:=H.blk i p;have g:=run_storeCells_at P b d h (List.replicate k (Aa 0)) 0 cs.toArray w m (by simpa using hl) (λc hc=>by rw[List.mem_replicate.1 hc |>.2];rfl);simp only[X5,Aai,Zm] at g;have hz:(zeroValue e).run P w=.ok (Aa 0) w:=by simp[zeroValue,typeInfo,h2,h3,go_sem]
 have l:(Builtin.zeroCells (Value.cells (Aa 0)) k).toList=List.replicate k (Aa 0):=by
  refine Aaq (by simp[Builtin.zeroCells,Value.cells]) λj g1 g2=>?_;simp[Builtin.zeroCells,Value.cells,Nat.mod_one]
 have f:(Builtin.clear_ #[t] o.type #[.slice (some ⟨b,d,none⟩) k c]).run P w=.ok (.tuple #[]) (w.setRow b (cs.take d++List.replicate k (Aa 0)++cs.drop (d+k)).toArray):=by
  obtain ⟨r,rfl⟩:∃r,k=r+1:=⟨k-1,by omega⟩;simp only[Builtin.clear_,YM,YT,Yd,run_underlying y,X7,hz,l,g,Yh]
 refine ⟨.tuple #[],w.setRow b (cs.take d++List.replicate k (Aa 0)++cs.drop (d+k)).toArray,?_,Z,H.write i p Z Z Z (setRow_heap w b _ _ h (0,0) m) (λq hq=>setRow_other w b q _ hq)⟩;simp only[execOp,u,resolve,invoke,builtin,Yd,Yh,X7,Yv,Yn,Y2,hF.ev s,f]
end
end
theorem Aj(k:Nat)(ns:List Int):(ns.flatMap (Ae k)).length=k*ns.length:=by
 induction ns with
 | nil=>rfl
 | cons x ns ih=>simp only[YL,XY,Ac,ih,XZ];rw[ZM];omega
theorem Oc{k:Nat}{ns:List Int}{i:Nat}{x:Int}(h:ns[i]?=some x):(ns.take i).flatMap (Ae k)++Ae k x=(ns.take (i+1)).flatMap (Ae k):=by
 rw[Ye,h];simp
theorem PN(k:Nat)(ns:List Int):∀{j:Nat} {x:Int},ns[j]?=some x->((ns.flatMap (Ae k)).drop (k*j)).take k=Ae k x:=by
 induction ns with
 | nil=>intro j x h;simp at h
 | cons y ys ih=>
  intro j x h
  cases j with
  | zero=>simp at h;subst h;rw[YL,AaA,Ym,YK (Ac k y)]
  | succ j=>
   rw[YL,show k*(j+1)=(Ae k y).length+k*j by rw[Ac,ZM];omega,YD,Yk U,Yo,show (Ae k y).length+k*j-(Ae k y).length=k*j by omega];exact ih (by simpa using h)
abbrev EI(ns:List Int):List UInt8:=ns.flatMap (Ae 2)
theorem Gn{ns:List Int}(h:ns.length=120):(EI ns).length=240:=by rw[Aj,h]
theorem R7{L:List UInt8}(h:L.length=240):((AX L).drop 0).take 240=L:=by
 unfold AX;rw[Ym,YK h]
theorem PO{ns:List Int}(hs:∀x∈ns,0<=x/\x<=1000){j:Nat}{x:Int}(h:ns[j]?=some x):A0 (((EI ns).drop (2*j)).take 2)=x:=by
 rw[PN 2 ns h];have:=hs x (XX h);exact CE this.1 U U
theorem PP{ns:List Int}{i:Nat}{x:Int}(h:ns[i]?=some x):(ns.take i).map Aa++[Aa x]=(ns.take (i+1)).map Aa:=by
 rw[Ye,h];simp
theorem E8(b a k a2:Nat)(x:Int)(bs:List UInt8)(c:bs.length=256)(d:a+k<=256/\k<=8)(e:a+k=a2):
  An 144 [V b,Aa x,Aa (k:Int)] [blk b (AW bs (a:Int)) 204] (λv G=>∃bs':List UInt8,bs'.length=256/\v=.tuple #[]/\G=[blk b (AW bs' (a2:Int)) 204]):=by
 subst e;refine Cn.mono (Du b a k x bs c d) ?_;rintro v Γ ⟨f,g⟩;exact ⟨_,(Dj (by rw[Ac];omega)).trans c,f,g⟩
def FU:List Value:=List.replicate 48 (.int .i64 0)
theorem Jm{i:Nat}(h:i<8)(k:Nat)(u:Value)(a:([Aa 0,Aa 0,Aa 0,Aa 0,Aa 0,Aa 0]:List Value)[k]?=some u):FU[i*6+k]?=some u:=by
 have b:k<6:=by simpa using (XV.1 a).1
 have:u=Aa 0:=by
  rcases (show k=0\/k=1\/k=2\/k=3\/k=4\/k=5 by omega) with rfl|rfl|rfl|rfl|rfl|rfl<;>simp at a<;>exact a.symm
 subst this;unfold FU;rw[List.getElem?_replicate,if_pos U]
theorem Nd(b:Nat)(a:Int)(bs:List UInt8)(c:bs.length=256):An 146 [V b] [blk b (AW bs a) 204] (λv G=>v=.slice (some ⟨b,0,none⟩) 240 240/\G=[blk b (AW bs a) 204]):=by
 intro z R w H;refine Af func146 Z ntmps146 Z (Z0 10 [0] Z (Ad Z (PI (n':=256) (z:=1) Z J Z Z Z (q:=240) Z Z (by decide) (by decide)) (Zc 4 Z (Zr Z ?_))));exact ⟨_,⟨Z,Z⟩,H⟩
theorem Mq(e:Value)(ns:List Int)(t:ns.length=120)(c:∀x∈ns,0<=x/\x<=1000)(A:Ai)(f:∀h,A h->rdH 1 e 120 (ns.map Aa) h):An 103 [e] [A] (λv G=>∃g,v=.tuple #[.slice (some ⟨g,0,none⟩) 240 240,Aa 0]/\G=[blk g (AW (AX (EI ns)) ((2*120:Nat):Int)) 204,A]):=by
 intro z R w H;obtain ⟨m,s,rfl⟩:=H.sy 0 (λq=>(f _ q).slc);refine Af func103 Z ntmps103 Z (Z0 19 [4] Z (AC Z (BN (P:=prog) H Z (zs:=(AW (AX []) 0)) J) ?_));rintro _ w ⟨a,rfl,H⟩;refine Zc 11 Z ?_;refine Ap (σ:=Nat) (λi=>[(12,Aa (i:Int)),(4,V a),(10,.slice m 120 s),(11,Aa 120)])
   (λi w=>Sep z (blk a (AW (AX ((ns.take i).flatMap (Ae 2))) ((2*i:Nat):Int)) 204::A::R) w/\(i<=120)) (λi=>120-i) 0
   fr_z ⟨(by simpa using H),by omega⟩ ?_
 clear H;rintro i w ⟨p,k⟩;have H:=p.l2;have o:=k;clear k;refine Z0 6 [0] Z (Ag Z (λl=>?_) (λl=>?_))
 ·obtain ⟨x,d⟩:∃x,ns[i]?=some x:=⟨_,XW U⟩;have a0:=c x (XX d)
  refine Zc 6 Z ?_;have b:=(H.rd 1 Z f).at (j:=i) (u:=Aa x) (by simp[d]);refine Ad Z (Ar Z (z:=1) (j:=i) (r:=i) J Z Z Z U b U) (Ad Z (AK Z Z J (AA b)) (Zc 7 Z (Ah Z (call122 _) (CK _ _) H ?_)));intro w H;refine Ad Z (AM Z Z) (Zc 2 Z (Ag Z (λn=>U) (λn=>?_)));refine Zc 4 Z (Ah Z (call144 _) (Du _ (2*i) 2 x _ (A7 (by first|omega|(simp[Ac,Aj,-List.length_flatMap]<;>omega))) U) H ?_);intro w H;rw[show ((2*i+2:Nat):Int)=(((2*(i+1):Nat):Int):Int) from by omega] at H;rw[show Bp (AX ((ns.take i).flatMap (Ae 2))) (Ae 2 x) (2*i)=AX ((ns.take i).flatMap (Ae 2)++Ae 2 x) from B6 (by first|omega|(simp[Ac,Aj,-List.length_flatMap]<;>omega)) (by first|omega|(simp[Ac,Aj,-List.length_flatMap]<;>omega))] at H;have H:Sep z (blk a (AW (AX ((ns.take i).flatMap (Ae 2)++Ae 2 x)) ((2*(i+1):Nat):Int)) 204::A::R) w:=H;refine Z1 7 [] [(i:Int)+1] Z U (gf ?_);intro _ y;refine ⟨(i+1),y.cz,⟨(by rw[<-Oc d];exact H),?_⟩,?_⟩
  ·omega
  omega
 obtain rfl:i=120:=by omega
 refine Zc 2 Z (gx (Zc 3 Z ?_));rw[X0 U] at H;have H:Sep z (blk a (AW (AX (EI ns)) ((2*120:Nat):Int)) 204::A::R) w:=H;refine Zc 1 Z (Ah Z (call146 _) (Nd _ _ _ (A7 (by first|omega|(simp[Ac,Aj,-List.length_flatMap]<;>omega)))) H ?_);intro w H;refine Zc 5 Z (Zr Z ?_);exact ⟨_,⟨a,Z,Z⟩,H.perm 2 [0,1] Z Z⟩
theorem Wd(k:Nat)(d b o n c:Nat)(xs:List UInt8)(A:Ai)(e:∀h,A h->rdH 1 (.slice (some ⟨b,o,none⟩) n c) n (xs.map u8) h)(hn:n<=c)(hk:k<=n)(a0:0<k)(ys:List UInt8)(hy:xs.take k=ys)(s l u:Nat)(f:(if c=k then o else o+k)=s)(g:n-k=l)(i:c-k=u):An 121 [V d,Aa (k:Int)] [blk d [.slice (some ⟨b,o,none⟩) n c] 162,A] (λv G=>v=Aa (A0 ys)/\G=[blk d [.slice (some ⟨b,s,none⟩) l u] 162,A]):=by
 intro z R w H;subst hy f g i;have a1:=H.sy 1 (λq=>(e _ q).len);have a2:=H.sy 1 (λq=>(e _ q).cap);refine Af func121 Z ntmps121 Z (Z2 18 [0,0,0] H Z (Ad Z (Ba Z (z:=1) (p:=0) (q:=k) (o':=o) (l':=k) (c':=c) J Z (.inl ⟨Z,Z⟩) (.inr ⟨_,_,_,Z,Z,Z⟩) U U U U U U) (Zc 5 Z ?_)));refine Ap (σ:=Nat) (λj=>[(15,Aa (j:Int)),(5,Aa (A0 (xs.take j))),(0,V d),(1,Aa (k:Int)),(4,Aa 0),(13,.slice (some ⟨b,o,none⟩) k c),(14,Aa (k:Int))])
   (λj w=>Sep z (blk d [.slice (some ⟨b,o,none⟩) n c] 162::A::R) w/\(j<=k)) (λj=>k-j) 0
   (λ_ a=>(a.co Z (by go_num) a.cz)) ⟨H,by omega⟩ ?_
 clear H;rintro j w ⟨H',r⟩;have H:=H'.l2;have y:=r;clear r;refine Z0 6 [0] Z (Ag Z (λh1=>?_) (λh1=>?_))
 ·obtain ⟨x,t⟩:∃x,xs[j]?=some x:=⟨_,XW U⟩;refine Z1 7 [1,j,o+j] [] Z U (Ad Z (AZ Z Z J (AA (H.cell 1 Z (λh q=>(e h q).at t)))) (Zc 5 Z (Ad Z (O2 Z Z Z (m:=8) Z (by decide)) (Zc 1 Z (Ad Z (KJ Z J Z) (Ad Z (S5 Z Z Z (K6 _) ⟨by omega,by have:=x.toNat_lt;omega⟩) (Z1 8 [] [(j:Int)+1] Z U (gf ?_))))))));intro _ a;refine ⟨(j+1),(a.co Z (by go_num) (a.co Z (congrArg Aa (Hd t)) (a.all Z))),⟨H,?_⟩,?_⟩
  ·omega
  omega
 obtain rfl:j=k:=by omega
 refine Zc 2 Z (gx (Z2 10 [0,0,0] H Z (Ad Z (R1 Z (z:=1) J Z Z (p:=j) Z U U (o':=if c=j then o else o+j) (l':=n-j) (c':=c-j) (by rw[YQ]) Z Z) (Z4 12 [0,0] H Z ?_))));intro w H;refine Zr Z ?_;exact ⟨_,⟨Z,Z⟩,H⟩
theorem Mr(b o c:Nat)(bd:List UInt8)(A:Ai)(r:∀h,A h->rdH 1 (.slice (some ⟨b,o,none⟩) 240 c) 240 (bd.map u8) h)(ns:List Int)(a4:ns.length=120)(a:∀x∈ns,0<=x/\x<=1000)(l:bd=EI ns):An 136 [.slice (some ⟨b,o,none⟩) 240 c] [A] (λv G=>∃v1,v=.tuple #[v1,.bool true]/\G=[grow 3 1 v1 120 (ns.map Aa),A]):=by
 intro z R w H;have a3:=H.sy 0 (λq=>(r _ q).cap);refine Af func136 Z ntmps136 Z (Za 21 [4] H Z ?_);intro g w H;refine Z4 10 [0] H Z ?_;intro w H;replace H:=(H.nilg 3 1).l3;refine Zc 5 Z ?_;refine Ap (σ:=Nat×Value×Nat) (λ⟨i,v,x⟩=>[(12,Aa (i:Int)),(5,v),(4,V g)])
   (λ⟨i,v,x⟩ w=>Sep z (grow 3 1 v i ((ns.take i).map Aa)::blk g [.slice (some ⟨b,x,none⟩) (240-2*i) (c-2*i)] 162::A::R) w/\(i<=120/\(i<120->x=o+2*i))) (λ⟨i,v,x⟩=>120-i) ⟨0,.slice none 0 0,o⟩
   (λ_ f=>(f.co Z (by go_num) f.cz)) ⟨H,⟨by omega,λ_=>rfl⟩⟩ ?_
 clear H;rintro ⟨i,v,x⟩ w ⟨e,u⟩;dsimp only at u e ⊢;have H:=e.l3;have sv:=H.sy 0 (·.slc);obtain ⟨a1,p⟩:=u;refine Z0 6 [0] Z (Ag Z (λh1=>?_) (λh1=>?_))
 ·have n:i<120:=by omega
  have k:=p n;obtain ⟨y,s⟩:∃y,ns[i]?=some y:=⟨_,XW U⟩;have a5:=a y (XX s);have t:A0 ((bd.drop (2*i)).take 2)=y:=by rw[l];exact PO a s
  refine Zc 6 Z (Ah Z (call121 _) (Wd 2 _ b x (240-2*i) (c-2*i) ((bd.drop (2*i)).take (240-2*i)) _ (λh q=>by have:=(r h q).cut (lo:=2*i) (m:=240-2*i) (c':=c-2*i) U U U;rw[k];exact this) U U U ((bd.drop (2*i)).take 2) (by rw[YE,Yz U]) (if c-2*i=2 then x else x+2) (240-2*(i+1)) (c-2*(i+1)) Z U U) H.f2.f2 ?_);intro w H;refine k_updA 14 (v:=Aa y) Z (congrArg Aa t) (Zc 7 Z (Ah Z (call122 _) (CK _ _) H ?_));intro w H;refine Ad Z (AM Z Z) (Zc 2 Z (Ag Z (λh2=>U) (λh2=>?_)));refine Zc 5 Z (AC Z (AI H Z J BK Z (by decide) (by decide) (out:=[Aa y]) J) ?_);rintro _ w ⟨b2,rfl,H⟩;refine AC Z (AJ 3 H Z Z J BK Z Z (H.rv 0 (·.rd U U O Z)) (by simp[Value.oneCell']) U) ?_;rintro v3 w e;have e:Sep z (blk b2 [Aa y] 3::blk g [.slice (some ⟨b,(if c-2*i=2 then x else x+2),none⟩) (240-2*(i+1)) (c-2*(i+1))] 162::A::grow 3 1 v3 (i+1) ((ns.take i).map Aa++[Aa y])::R) w:=e;have j:((ns.take i).map Aa++[Aa y]:List Value)=(ns.take (i+1)).map Aa:=(PP s);rw[j] at e;have H:=e.l4;refine Z1 8 [] [(i:Int)+1] Z U ?_;replace H:=H.d.f1.f1.f2;refine gf ?_;intro _ f;refine ⟨⟨i+1,v3,if c-2*i=2 then x else x+2⟩,f.cz,⟨H,?_⟩,?_⟩
  ·refine ⟨by dsimp only;omega,λq=>?_⟩;dsimp only at q ⊢;rw[if_neg U];omega
  omega
 obtain rfl:i=120:=by omega
 refine Zc 2 Z (gx (Zc 10 Z (Zr Z ?_)));rw[X0 U] at H;exact ⟨_,⟨v,Z,Z⟩,H.perm 3 [0,2] Z Z⟩
theorem R8:An 145 [.agg #[Aa 0,Aa 0,Aa 0,Aa 0,Aa 0,Aa 0]] [] (λv G=>v=.bool true/\G=[]):=by
 intro z R w H;refine Af func145 Z ntmps145 Z (Za 2 [] H Z ?_);intro f w H;refine Z2 7 [0,0,0] H Z (Ah Z (call122 _) (CK _ _) H ?_);intro w H;refine Zc 1 Z (Am 6 Z (λb=>?_) (λb=>?_))
 ·refine Z2 2 [1,0,0] H Z (Ah Z (call122 _) (CK _ _) H ?_);intro w H;refine Zc 2 Z (Am 11 Z (λd=>?_) (λd=>?_))
  ·refine Z2 2 [2,0,0] H Z (Ah Z (call122 _) (CK _ _) H ?_);intro w H;refine Zc 2 Z (Am 16 Z (λc=>?_) (λc=>?_))
   ·refine Z2 2 [3,0,0] H Z (Ah Z (call122 _) (CK _ _) H ?_);intro w H;refine Zc 2 Z (Am 21 Z (λa=>?_) (λa=>?_))
    ·refine Z2 2 [4,0,0] H Z (Ah Z (call122 _) (CK _ _) H ?_);intro w H;refine Zc 2 Z (Am 26 Z (λe=>?_) (λe=>?_))
     ·refine Z2 2 [5,0,0] H Z (Ah Z (call122 _) (CK _ _) H ?_);intro w H;refine Zc 5 Z (Zr Z ?_);exact ⟨_,⟨congrArg Value.bool (by first|rfl|decide),Z⟩,H.perm 1 [] Z Z⟩
     (exfalso;omega)
    (exfalso;omega)
   (exfalso;omega)
  (exfalso;omega)
 (exfalso;omega)
theorem R9(vv:Value)(A:Ai)(t:∀h,A h->rdH 6 vv 8 FU h):An 87 [.agg #[Aa 1,vv,.slice none 0 0]] [A] (λv G=>∃(pw:Nat) (bs:List UInt8),bs.length=256/\v=.tuple #[.slice (some ⟨pw,0,none⟩) 240 240,Aa 0]/\G=[blk pw (AW bs ((21+19*8:Nat):Int)) 204,A]):=by
 intro z R w H;replace H:=H.l1;obtain ⟨va,y,rfl⟩:=H.sy 0 (λq=>(t _ q).slc);refine Af func87 Z ntmps87 Z (Za 2 [] H Z ?_);intro b1 w H;refine Z2 9 [0,0,0] H Z (Ah Z (call122 _) (CK _ _) H ?_);intro w H;replace H:=H.l2;refine Ad Z (AM Z Z) (Zc 1 Z (Am 13 Z (λh1=>U) (λh1=>?_)));refine Z2 18 [2,0,0,4,1,0,0,4] H Z (AC Z (BN (P:=prog) H Z (zs:=(AW (AX []) 0)) J) ?_);rintro _ w ⟨p,rfl,H⟩;replace H:=H.l3;refine Zc 3 Z ?_;have H:Sep z (blk p (AW (AX []) ((0:Nat):Int)) 204::blk b1 [Aa 1,.slice va 8 y,.slice none 0 0] 139::A::R) w:=H;refine Z2 3 [0,1,0] H Z (AB Z (call144 _) (E8 _ 0 4 4 1 _ (A7 (by decide)) U U) H ?_);rintro _ w _ ⟨a2,n,rfl,rfl⟩ H;refine Z2 7 [2,1,0] H Z (AB Z (call144 _) (E8 _ 4 1 5 0 _ n U U) H ?_);rintro _ w _ ⟨o,a,rfl,rfl⟩ H;refine Z2 12 [2,1,0] H Z (Iu 1 (Eo (Z0 9 [4] Z (gx (Z0 5 [256] Z (AV Z Z (AD 0 H Z Z Z Z (vs:=[Aa 21]) Z (Al Z AL) J (by rw[Em _ a];simp) (out:=(AW o 21)) (HA _ _ a)) ?_))))));rintro w H;replace H:=H.l3;refine Z2 12 [1,1,0] H Z ?_;refine Ap (σ:=Nat×List UInt8) (λ⟨i,bs⟩=>[(49,Aa (i:Int)),(4,V p),(47,.slice va 8 y),(48,Aa 8)])
   (λ⟨i,bs⟩ w=>Sep z (blk p (AW bs ((21+19*i:Nat):Int)) 204::blk b1 [Aa 1,.slice va 8 y,.slice none 0 0] 139::A::R) w/\(i<=8/\bs.length=256)) (λ⟨i,bs⟩=>8-i) ⟨0,o⟩
   fr_z ⟨H,⟨by omega,a⟩⟩ ?_
 clear H;rintro ⟨i,bs⟩ w ⟨H',hI⟩;dsimp only at hI H' ⊢;have H:=H'.l3;obtain ⟨a1,b⟩:=hI;refine Z0 6 [0] Z (Ag Z (λh2=>?_) (λh2=>?_))
 ·refine Zc 6 Z ?_;have s:=(H.rd 2 Z t).at (Jm (i:=i) U 0 _ Z)
  refine Ad Z (Ar Z (z:=6) (j:=i) (r:=i*6) J Z Z Z U s U) (Ad Z (B8 Z Z (vs:=[Aa 0,Aa 0,Aa 0,Aa 0,Aa 0,Aa 0]) J O (AA (λk u hk=>(H.rd 2 Z t).at (Jm (i:=i) U k u hk)))) (Za 0 [] H Z ?_));intro b5 w H;refine Z4 7 [0,0,6] H Z ?_;intro w H;refine Ah Z (call145 _) (R8) H ?_;intro w H;refine Z2 10 [0,0,0] H Z (AB Z (call144 _) (E8 _ (21+19*i) 4 (21+19*i+4) 0 _ b U U) H.f1 ?_);rintro _ w _ ⟨a3,l,rfl,rfl⟩ H;refine Z2 6 [1,1,0] H Z (AB Z (call144 _) (E8 _ (21+19*i+4) 1 (21+19*i+5) 0 _ l U U) H ?_);rintro _ w _ ⟨a5,e,rfl,rfl⟩ H;refine Z2 6 [2,1,0] H Z (AB Z (call144 _) (E8 _ (21+19*i+5) 4 (21+19*i+9) 0 _ e U U) H ?_);rintro _ w _ ⟨a6,g,rfl,rfl⟩ H;refine Z2 6 [3,1,0] H Z (AB Z (call144 _) (E8 _ (21+19*i+9) 4 (21+19*i+13) 0 _ g U U) H ?_);rintro _ w _ ⟨a4,m,rfl,rfl⟩ H;refine Z2 6 [4,1,0] H Z (AB Z (call144 _) (E8 _ (21+19*i+13) 2 (21+19*i+15) 0 _ m U U) H ?_);rintro _ w _ ⟨a0,c,rfl,rfl⟩ H;refine Z2 5 [5,1,0] H Z (AB Z (call144 _) (E8 _ (21+19*i+15) 4 (21+19*(i+1)) 0 _ c U U) H ?_);rintro _ w _ ⟨f,x,rfl,rfl⟩ H;refine Z1 7 [] [(i:Int)+1] Z U ?_;replace H:=H.f1.d;refine gf ?_;intro _ hF;refine ⟨⟨i+1,f⟩,hF.cz,⟨H,?_⟩,?_⟩
  ·dsimp only;exact ⟨by omega,by assumption⟩
  omega
 obtain rfl:i=8:=by omega
 refine Zc 2 Z (gx (Zc 4 Z (Ah Z (call146 _) (Nd _ _ _ b) H ?_)));intro w H;refine Zc 5 Z (Zr Z ?_);exact ⟨_,⟨p,bs,b,Z,Z⟩,H.perm 3 [0,2] Z Z⟩
def cnL(C:Nat->Nat)(n:Nat):List Value:=(List.range n).map λk=>.int .i64 (C k:Int)
abbrev AY(bn:Nat)(C:Nat->Nat)(n:Nat):Ai:=blk bn (cnL C n) 3
abbrev coB(pc bn n m:Nat):Ai:=blk pc [.slice (some ⟨bn,0,none⟩) n n,.map (some m)] 154
def updN(C:Nat->Nat)(p x:Nat):Nat->Nat:=λq=>if q=p then x else C q
theorem Cd(C:Nat->Nat)(n:Nat):(cnL C n).length=n:=by simp[cnL]
theorem cnL_at(C:Nat->Nat){n k:Nat}(h:k<n):(cnL C n)[k]?=some (Aa (C k:Int)):=by simp[cnL,h]
theorem EW(C:Nat->Nat){n k x:Nat}{y:Int}(h:k<n)(d:y=(x:Int)):(cnL C n).take k++[Aa y]++(cnL C n).drop (k+1)=cnL (updN C k x) n:=by
 subst d;have e:=Y9 (l:=cnL C n) (i:=k) (a:=Aa (x:Int));rw[if_pos (by rw[Cd];exact h)] at e;rw[X3,ZK,<-e];refine Y0 λj=>?_;rw[YZ];rcases Yg j n with c|c
 ·rw[cnL_at (updN C k x) c]
  split
  ·rename_i b;subst b;rw[if_pos (by rw[Cd];exact h)];simp[updN]
  rename_i b;rw[cnL_at C c];simp[updN,ZI b]
 rw[Ys (by rw[Cd];exact c),Ys (by rw[Cd];exact c)];split
 ·rename_i b;subst b;rw[if_neg (by rw[Cd];omega)]
 rfl
structure WasOk(C C0:Nat->Nat)(n:Nat)(l:List IE)(clk:Nat):Prop where
 clk:∀p∈l,p.2.2<clk
 born:(l.map λp:IE=>p.2.2).Nodup
 keys:(l.map λp:IE=>p.1).Nodup
 ent:∀p∈l,∃k:Nat,p.1=(k:Int)/\k<n/\p.2.1=.int .i64 (C0 k:Int)
 rest:∀k,k<n->(∀p∈l,p.1≠(k:Int))->C k=C0 k
theorem WasOk.nil(C:Nat->Nat)(n clk:Nat):WasOk C C n [] clk:=⟨by simp,by simp,by simp,by simp,λ_ _ _=>rfl⟩
theorem Kw:∀{l:List IE} {k:Int},Cl l k=none->∀p∈l,p.1≠k
 | [],_,_,p,h=>by simp at h
 | q::l,k,h,p,hp=>by
  simp only[Cl] at h;split at h
  ·cases h
  rename_i hne;rcases YO.1 hp with rfl|hp
  ·exact λe=>hne e.symm
  exact Kw h p hp
theorem Kx:∀{l:List IE} {k:Int} {v:Value},Cl l k=some v->∃p∈l,p.1=k/\p.2.1=v
 | [],_,_,h=>by simp[Cl] at h
 | q::l,k,v,h=>by
  simp only[Cl] at h;split at h
  ·rename_i e;simp at h;exact ⟨q,by simp,e.symm,h⟩
  obtain ⟨p,hp,h1,h2⟩:=Kx h;exact ⟨p,by simp[hp],h1,h2⟩
theorem WasOk.has{C C0:Nat->Nat}{n clk p:Nat}{l:List IE}(W:WasOk C C0 n l clk)(h:Ce l (p:Int)=true)(x:Nat):WasOk (updN C p x) C0 n l clk:=by
 refine ⟨W.clk,W.born,W.keys,W.ent,λk b a=>?_⟩;unfold updN;split
 ·rename_i e;subst e
  obtain ⟨v,d⟩:=YH.1 h;obtain ⟨q,hq,c,_⟩:=Kx d;exact absurd c (a q hq)
 exact W.rest k b a
theorem WasOk.put{C C0:Nat->Nat}{n clk p:Nat}{l:List IE}(W:WasOk C C0 n l clk)(hp:p<n)(h:Ce l (p:Int)=false)(x:Nat):
  WasOk (updN C p x) C0 n (D9 l (p:Int) (Aa (C p:Int)) clk) (putC l (p:Int) clk):=by
 have f:∀q∈l,q.1≠(p:Int):=Kw (by unfold Ce at h;simpa using h);have j:D9 l (p:Int) (Aa (C p:Int)) clk=l++[((p:Int),Aa (C p:Int),clk)]:=by unfold D9;rw[h];rfl
 have o:putC l (p:Int) clk=clk+1:=by unfold putC;rw[h];rfl
 have m:C p=C0 p:=W.rest p hp f;rw[j,o];refine ⟨λq hq=>?_,?_,?_,λq hq=>?_,λk i d=>?_⟩
 ·rcases Yt.1 hq with hq|hq
  ·have:=W.clk q hq;omega
  simp at hq;subst hq;simp
 ·rw[Yj,Y4]
  refine ⟨W.born,by simp,λa g b c=>?_⟩;simp at c;subst c;obtain ⟨q,hq,rfl⟩:=X6.1 g;have:=W.clk q hq;omega
 ·rw[Yj,Y4]
  refine ⟨W.keys,by simp,λa g b c=>?_⟩;simp at c;subst c;obtain ⟨q,hq,rfl⟩:=X6.1 g;exact f q hq
 ·rcases Yt.1 hq with hq|hq
  ·exact W.ent q hq
  simp at hq;subst hq;exact ⟨p,Z,hp,by rw[m]⟩
 unfold updN;split
 ·rename_i e;subst e
  exact absurd Z (d ((k:Int),Aa (C k:Int),clk) O)
 exact W.rest k i (λq hq=>d q (by simp[hq]))
theorem WasOk.len{C C0:Nat->Nat}{n clk:Nat}{l:List IE}(W:WasOk C C0 n l clk):l.length<=n:=by
 have h:=Gf (s:=l.map λp:IE=>p.1) (l:=(List.range n).map λk:Nat=>(k:Int)) W.keys (λx a=>by
  obtain ⟨p,hp,rfl⟩:=X6.1 a;obtain ⟨k,b,c,_⟩:=W.ent p hp;rw[b];exact X6.2 ⟨k,Y1.2 c,Z⟩)
 simpa using h
def manyN(n:Nat):Nat:=(n+119)/120
def B9(C:Nat->Nat)(n i:Nat):List Int:=(List.range 120).map λk=>if 120*i+k<n then (C (120*i+k):Int) else 0
theorem Dh(C:Nat->Nat)(n i:Nat):(B9 C n i).length=120:=by simp[B9]
theorem Jn{C:Nat->Nat}(h:∀k,C k<=1000)(n i:Nat):∀x∈B9 C n i,0<=x/\x<=1000:=λx a=>by
 simp only[B9,X6] at a;obtain ⟨k,_,rfl⟩:=a;split
 ·have:=h (120*i+k);omega
 omega
theorem Sa(C:Nat->Nat)(n i:Nat)(d:120*i<n):(List.replicate 120 (Aa 0)).take 0++((cnL C n).drop (120*i)).take (min (n-120*i) 120)++(List.replicate 120 (Aa 0)).drop (0+min (n-120*i) 120)=(B9 C n i).map Aa:=by
 rw[Aa7,Yo,Ze];refine Y0 λj=>?_;have b:(((cnL C n).drop (120*i)).take (min (n-120*i) 120)).length=min (n-120*i) 120:=by rw[X1,Yr,Cd];omega
 rcases Yg j 120 with a|a
 ·have c:((B9 C n i).map Aa)[j]?=some (Aa (if 120*i+j<n then (C (120*i+j):Int) else 0)):=by simp[B9,a]
  rw[c];rcases Yg j (min (n-120*i) 120) with h|h
  ·rw[Yc U,Yy,if_pos h,YN,cnL_at C U,if_pos U]
  rw[Ya U,b,YN,List.getElem?_replicate,if_pos U,if_neg U]
 rw[Ys (by rw[XY,b,Yr,X5];omega),Ys (by simp[B9];omega)]
theorem UC(C:Nat->Nat)(n:Nat):∀c∈cnL C n,c.oneCell'=true:=λc a=>by
 simp only[cnL,X6] at a;obtain ⟨k,_,rfl⟩:=a;rfl
def DE(C:Nat->Nat)(i:Nat)(ns:List Int)(j:Nat):Nat->Nat:=λp=>if p/120=i/\p%120<j then (ns.getD (p%120) 0).toNat else C p
theorem IC(C:Nat->Nat)(i:Nat)(ns:List Int):DE C i ns 0=C:=by funext p;simp[DE]
theorem ID(C:Nat->Nat){i j:Nat}{ns:List Int}{x:Int}(b:j<120)(a:ns[j]?=some x)(c:0<=x):updN (DE C i ns j) (120*i+j) x.toNat=DE C i ns (j+1):=by
 funext p;unfold updN DE;split
 ·rename_i e;subst e
  rw[if_pos ⟨by omega,by omega⟩,show (120*i+j)%120=j by omega];simp[List.getD,a]
 rename_i e;by_cases h:p/120=i/\p%120<j
 ·rw[if_pos h,if_pos ⟨h.1,by omega⟩]
 rw[if_neg h,if_neg (λq=>h ⟨q.1,by omega⟩)]
theorem Sb(C:Nat->Nat){n i j:Nat}{ns:List Int}(h:n<=120*i+j)(a:j<120):cnL (DE C i ns j) n=cnL (DE C i ns (j+1)) n:=by
 refine Y0 λp=>?_;rcases Yg p n with hp|hp
 ·rw[cnL_at _ hp,cnL_at _ hp]
  unfold DE;by_cases q:p/120=i/\p%120<j
  ·rw[if_pos q,if_pos ⟨q.1,by omega⟩]
  rw[if_neg q,if_neg (λr=>q ⟨r.1,by omega⟩)]
 rw[Ys (by rw[Cd];exact hp),Ys (by rw[Cd];exact hp)]
theorem Sc{L:List Int}{rest:List Value}{k:Nat}{x:Int}(b:k<L.length):(L.map Aa++rest).take k++[Aa x]++(L.map Aa++rest).drop (k+1)=(L.set k x).map Aa++rest:=by
 rw[X8 (by simp;omega),Yx (by simp;omega)];have e:=Y9 (l:=L) (i:=k) (a:=x);rw[if_pos b] at e;rw[e];simp[ZS,List.map_drop]
theorem FF{L:List Int}{rest:List Value}{k:Nat}{x:Int}(a:L[k]?=some x):(L.map Aa++rest)[k]?=some (Aa x):=by
 rw[Yc (by simpa using (XV.1 a).1),Yb,a];rfl
structure CpI(ys:List Int)(n k0 k j:Nat)(L:List Int):Prop where
 k0k:k0<=k
 kj:k+1<=k0+j
 j1:1<=j
 jn:k0+j<=n
 len:L.length=n
 same:∀i,k0+j<=i+1->L[i]?=ys[i]?
 mem:∀x,x∈L.take k↔x∈ys.take (k0+j)
theorem D6{l:List Int}{k:Nat}{x:Int}(h:l[k]?=some x)(z:Int):z∈l.take (k+1)↔z∈l.take k\/z=x:=by
 rw[Ye,h];simp
theorem CpI.start{ys:List Int}{n k:Nat}{x:Int}(b:ys.length=n)(f:1<=k)(d:k<n)(c:ys[k]?=some x)(a:ys[k-1]?=some x):CpI ys n k k 1 ys:=by
 refine ⟨Yp _,Yp _,Yp _,by omega,b,λ_ _=>rfl,λz=>?_⟩;rw[D6 c];refine ⟨.inl,λh=>h.elim id λe=>?_⟩;subst e;exact AaT.2 ⟨k-1,by have:=(XV.1 a).1;omega,(XV.1 a).2⟩
theorem CpI.skip{ys L:List Int}{n a k j:Nat}{x:Int}(I_:CpI ys n a k j L)(b:ys[a+j]?=some x)(c:ys[a+(j-1)]?=some x):CpI ys n a k (j+1) L:=by
 have f:=I_.j1;have d:=(XV.1 b).1;refine ⟨I_.k0k,by have:=I_.kj;omega,by omega,?_,I_.len,λi g=>I_.same i U,λz=>?_⟩
 ·have hs:=I_.same (a+j) U
  rw[b] at hs;have:=(XV.1 hs).1;have:=I_.len;omega
 rw[<-ZA,D6 b,I_.mem z];refine ⟨.inl,λh=>h.elim id λe=>?_⟩;subst e;exact AaT.2 ⟨a+(j-1),by have:=(XV.1 c).1;omega,(XV.1 c).2⟩
theorem CpI.put{ys L:List Int}{n a k j:Nat}{x:Int}(I_:CpI ys n a k j L)(b:ys[a+j]?=some x):CpI ys n a (k+1) (j+1) (L.set k x):=by
 have h:=I_.j1;have d:=I_.kj;have c:=I_.len;have hs:=I_.same (a+j) U;rw[b] at hs;have f:=(XV.1 hs).1;have e:(L.set k x)[k]?=some x:=by rw[YZ];simp;omega
 refine ⟨by have:=I_.k0k;omega,by omega,by omega,by omega,by simpa using I_.len,λi g=>?_,λz=>?_⟩
 ·rw[YZ,if_neg U];exact I_.same i U
 rw[D6 e,<-ZA,D6 b,<-I_.mem z,AaG (Yp _)]
def Eu(C C0:Nat->Nat)(s:List IE):List Int:=(s.filter λp=>decide (C0 p.1.toNat≠C p.1.toNat)).map λp=>p.1/120
theorem Nf{C C0:Nat->Nat}{s:List IE}{p:IE}{k:Nat}(a:p.1=(k:Int))(h:(C0 k:Int)≠(C k:Int)):Eu C C0 (s++[p])=Eu C C0 s++[(k:Int)/120]:=by
 unfold Eu;have:decide (C0 k≠C k)=true:=decide_eq_true (λe=>h (by rw[e]));rw[List.filter_append,Yj];congr 1;simp only[List.filter,a,YB,this];simp[a]
theorem Sd{C C0:Nat->Nat}{s:List IE}{p:IE}{k:Nat}(a:p.1=(k:Int))(h:(C0 k:Int)=(C k:Int)):Eu C C0 (s++[p])=Eu C C0 s:=by
 unfold Eu;have:decide (C0 k≠C k)=false:=decide_eq_false (λe=>e U);rw[List.filter_append,Yj];simp only[List.filter,a,YB,this];simp
theorem We(C C0:Nat->Nat)(s:List IE):(Eu C C0 s).length<=s.length:=by unfold Eu;rw[X9];exact List.length_filter_le _ _
theorem UD{C C0:Nat->Nat}{n clk:Nat}{l s:List IE}(W:WasOk C C0 n l clk)(hs:s.Perm l)(x:Int):x∈Eu C C0 s↔∃k:Nat,k<n/\C k≠C0 k/\x=((k/120:Nat):Int):=by
 unfold Eu;simp only[X6,Aa4,decide_eq_true_eq];constructor
 ·rintro ⟨p,⟨hp,a⟩,rfl⟩
  obtain ⟨k,b,f,_⟩:=W.ent p (hs.mem_iff.1 hp);rw[b,YB] at a;exact ⟨k,f,λe=>a e.symm,by rw[b];omega⟩
 rintro ⟨k,d,a,rfl⟩;have:∃p∈l,p.1=(k:Int):=by
  refine Aag λc=>a (W.rest k d λp hp e=>c ⟨p,hp,e⟩)
 obtain ⟨p,hp,b⟩:=this;exact ⟨p,⟨hs.mem_iff.2 hp,by rw[b,YB];exact λe=>a e.symm⟩,by rw[b];omega⟩
theorem Ti(n:Int):An 108 [Aa n] [] (λv G=>v=.bool (decide (16<=n/\n<=1024))/\G=[]):=by
 intro z R w H;refine Af func108 Z ntmps108 Z (Z0 10 [0] Z (Am 5 Z (λa=>?_) (λa=>?_)))
 ·refine Z0 7 [0] Z (Zr Z ?_);exact ⟨_,⟨congrArg Value.bool (by first|(rw[Yf];simp<;>omega)|(simp<;>omega)),Z⟩,H⟩
 refine Zc 7 Z (Zr Z ?_);exact ⟨_,⟨congrArg Value.bool (by first|(rw[Yf];simp<;>omega)|(simp<;>omega)),Z⟩,H⟩
theorem Gp(n:Nat)(b:16<=n/\n<=1024):An 51 [Aa (n:Int)] [] (λv G=>v=Aa (manyN n:Int)/\G=[]):=by
 intro z R w H;refine Af func51 Z ntmps51 Z (Zc 9 Z (Ah Z (call108 _) (Ti _) H ?_));intro w H;refine Ad Z (AM Z Z) (Zc 2 Z (Ag Z (λa=>U) (λa=>?_)));refine Z1 12 [] [(n:Int)+120,((n:Int)+120)-1,(((n:Int)+120)-1)/120] Z U (Zr Z ?_);exact ⟨_,⟨congrArg Aa (by unfold manyN;omega),Z⟩,H⟩
theorem PQ(n:Nat)(h:16<=n/\n<=1024):An 79 [Aa (n:Int)] [] (λv G=>∃a b m:Nat,v=.tuple #[V a,Aa 0]/\G=[coB a b n m,AY b (λ_=>0) n,AG m [] 0]):=by
 intro z R w H;refine Af func79 Z ntmps79 Z (Zc 10 Z (Ah Z (call108 _) (Ti _) H ?_));intro w H;refine Ad Z (AM Z Z) (Zc 2 Z (Ag Z (λf=>U) (λf=>?_)));refine Zc 5 Z (AC Z (C8 (k:=n) H Z J BK Z Z Z U) ?_);rintro _ w ⟨e,rfl,H⟩;refine AC Z (E3 H Z) ?_;rintro _ w ⟨c,rfl,H⟩;refine Za 1 [] H Z ?_;intro g w H;refine Zc 5 Z (Zr Z ?_);have d:List.replicate n (Aa 0)=cnL (λ_=>0) n:=by
   unfold cnL;rw[Aa5,Aan];rfl
 rw[d] at H;exact ⟨_,⟨g,e,c,Z,Z⟩,H.perm 3 [0,2,1] Z Z⟩
theorem Gq(b a m n:Nat)(C:Nat->Nat)(p:Nat)(hp:p<n)(e:16<=n/\n<=1024):An 50 [V b,Aa (p:Int)] [coB b a n m,AY a C n] (λv G=>v=Aa (C p:Int)/\G=[coB b a n m,AY a C n]):=by
 intro z R w H;refine Af func50 Z ntmps50 Z (Z0 11 [0] Z (Am 7 Z (λc=>U) (λc=>?_)));refine Z2 10 [0,0,0,0] H Z (Ag Z (λd=>U) (λd=>?_));refine Z3 10 [0,0,0,1,p,p] [] H Z U (Ad Z (AZ Z Z J (AA (H.cel 1 Z p (cnL_at _ U)))) (Zc 4 Z (Zr Z ?_)));exact ⟨_,⟨Z,Z⟩,H⟩
theorem Jo(c b m n:Nat)(C:Nat->Nat)(C0:Nat->Nat)(l:List IE)(clk p x:Nat)(y:Int)(hp:p<n)(u:16<=n/\n<=1024)(t:(C p:Int)+y=x)(g:x<=1000)(hC:C p<=1000)(W:WasOk C C0 n l clk):An 43 [V c,Aa (p:Int),Aa y] [coB c b n m,AY b C n,AG m l clk] (λv G=>∃(f:List IE) (a:Nat),WasOk (updN C p x) C0 n f a/\v=Aa 0/\G=[coB c b n m,AY b (updN C p x) n,AG m f a]):=by
 intro z R w H;replace H:=H.l3;refine Af func43 Z ntmps43 Z (Z0 11 [0] Z (Am 11 Z (λh=>U) (λh=>?_)));refine Z2 10 [0,0,0,0] H Z (Ag Z (λj=>U) (λj=>?_));refine Z3 12 [0,0,0,1,p,p] [] H Z U (Ad Z (AZ Z Z J (AA (H.cel 1 Z p (cnL_at _ U)))) (Z1 3 [0] [1000-(C p:Int)] Z U (Am 30 Z (λi=>U) (λi=>?_))));refine Z3 7 [0,0,0,1,p,p] [] H Z U (Ad Z (AZ Z Z J (AA (H.cel 1 Z p (cnL_at _ U)))) (Ad Z (Mz Z Z (r:= -(C p:Int)) U U) (Z0 4 [0] Z (Ag Z (λo=>U) (λo=>?_)))));refine Z2 10 [1,0,0] H Z (Ad Z (CS (e:=3) (zv:=Aa 0) Z J J Z Z (AA (H.bk 2 Z))) (Zc 13 Z (Fz Z (λd=>?_) (λd=>?_))))
 ·have s:Ce l (p:Int)=false:=by simpa using d
  refine Bo 12 J J (A9 H λw q=>?_);have H:=q.l3;refine CD 11 [1,0,0,0,0,0,1,p,p] [] H Z J U (B5 Z Z Z (AZ Z Z J (AA (H.cel 1 Z p (cnL_at _ U)))) (Cf (gw (AV Z Z (CW 2 (e:=3) H Z Z J Z Z Z) ?_))));rintro w H;replace H:=H.l3;refine Z3 10 [0,0,0,1,p,p] [] H Z U (Ad Z (AZ Z Z J (AA (H.cel 1 Z p (cnL_at _ U)))) (Z1 3 [1,p,p] [(x:Int)] Z U (AV Z Z (AD 1 H Z Z Z Z (vs:=[Aa (x:Int)]) Z (Al Z AL) J (by simp only[Cd,XZ,X4];omega) (out:=cnL (updN C p x) n) (EW _ U Z)) ?_)));rintro w H;replace H:=H.l3;refine Zc 8 Z (Zr Z ?_);exact ⟨_,⟨_,_,W.put hp s x,Z,Z⟩,H⟩
 have k:Ce l (p:Int)=true:=by simpa using d
 refine Z3 10 [0,0,0,1,p,p] [] H Z U (Ad Z (AZ Z Z J (AA (H.cel 1 Z p (cnL_at _ U)))) (Z1 3 [1,p,p] [(x:Int)] Z U (AV Z Z (AD 1 H Z Z Z Z (vs:=[Aa (x:Int)]) Z (Al Z AL) J (by simp only[Cd,XZ,X4];omega) (out:=cnL (updN C p x) n) (EW _ U Z)) ?_)));rintro w H;replace H:=H.l3;refine Zc 8 Z (Zr Z ?_);exact ⟨_,⟨_,_,W.has k x,Z,Z⟩,H⟩
theorem PR(a b m n:Nat)(l:List IE)(clk:Nat):An 48 [V a] [coB a b n m,AG m l clk] (λv G=>v=.tuple #[]/\G=[coB a b n m,AG m [] clk]):=by
 intro z R w H;refine Af func48 Z ntmps48 Z (Z2 5 [1,0,0] H Z (I0 Z Z (JJ 1 (e:=3) H Z Z J Z) ?_));rintro _ w ⟨rfl,H⟩;refine Zc 1 Z (Zf Z ?_);exact ⟨_,⟨Z,Z⟩,H⟩
theorem Ng(e a m n:Nat)(C:Nat->Nat)(i:Nat)(l:i<manyN n)(s:16<=n/\n<=1024)(o:∀k,C k<=1000):An 45 [V e,Aa (i:Int)] [coB e a n m,AY a C n] (λv G=>∃b:Nat,v=.slice (some ⟨b,0,none⟩) 240 240/\G=[blk b (AW (AX (EI (B9 C n i))) ((2*120:Nat):Int)) 204,coB e a n m,AY a C n]):=by
 intro z R w H;have d:120*i<n:=by unfold manyN at l;omega
 refine Af func45 Z ntmps45 Z (Z0 11 [0] Z (Am 10 Z (λf=>U) (λf=>?_)));refine Z2 6 [0,0,0] H Z (Ah Z (call51 _) (Gp _ U) H ?_);intro w H;refine Z0 4 [0] Z (Ag Z (λg=>U) (λg=>?_));refine Zc 4 Z (AC Z (C8 (k:=120) H Z J BK Z Z Z U) ?_);rintro _ w ⟨r,rfl,H⟩;refine Z3 12 [0,1,0] [(i:Int)*120] H Z U (Ad Z (Ba Z (z:=1) (p:=(120*i)) (q:=n) (o':=120*i) (l':=(n-120*i)) (c':=(n-120*i)) J Z (.inr ⟨_,_,_,Z,Z,U⟩) (.inl ⟨Z,Z⟩) U U U U U U) (AC Z (TE 0 H Z Z J Z Z (m:=(n-120*i)) (news:=((cnL C n).drop (120*i))) (.inl (H.rv 2 (·.rd U U (by rw[Cd];omega) (by rw[YQ];exact X0 (by rw[Yr,Cd];omega))))) (λc j=>UC C n c (ZL j)) (by rw[X5];omega) (k:=(min (n-120*i) 120)) Z (out:=((B9 C n i).map Aa)) (Sa C n i d)) ?_));rintro _ w ⟨rfl,H⟩;refine Zc 5 Z (AB Z (call103 _) (Mq _ (B9 C n i) (Dh _ _ _) (Jn o _ _) _ (λh q=>q.rd U U (by simp[B9]) (by rw[Ym];exact X0 (by simp[B9])))) H ?_);rintro _ w _ ⟨b,rfl,rfl⟩ H;refine Zc 14 Z (Zr Z ?_);exact ⟨_,⟨b,Z,Z⟩,H.perm 4 [0,2,3] Z Z⟩
theorem UE(p l m n:Nat)(C:Nat->Nat)(clk i:Nat)(hi:i<manyN n)(hn:16<=n/\n<=1024)(b o c:Nat)(bd:List UInt8)(A:Ai)(hA:∀h,A h->rdH 1 (.slice (some ⟨b,o,none⟩) 240 c) 240 (bd.map u8) h)(ns:List Int)(a2:ns.length=120)(d:∀x∈ns,0<=x/\x<=1000)(a1:bd=EI ns)(hz:∀(k:Nat) (x:Int),ns[k]?=some x->n<=120*i+k->x=0):An 81 [V p,Aa (i:Int),.slice (some ⟨b,o,none⟩) 240 c] [coB p l n m,AY l C n,AG m ([]) clk,A] (λv G=>v=Aa 0/\G=[coB p l n m,AY l (DE C i ns 120) n,AG m [] clk,A]):=by
 intro z R w H;replace H:=H.l4;have a4:120*i<n:=by unfold manyN at hi;omega
 refine Af func81 Z ntmps81 Z (Z0 11 [0] Z (Am 16 Z (λh1=>U) (λh1=>?_)));refine Z2 6 [0,0,0] H Z (Ah Z (call51 _) (Gp _ U) H ?_);intro w H;refine Z0 4 [0] Z (Ag Z (λh2=>U) (λh2=>?_));refine Zc 5 Z (AB Z (call136 _) (Mr _ _ _ bd _ hA ns a2 d a1) H.f3 ?_);rintro _ w _ ⟨v1,rfl,rfl⟩ H;refine Zc 19 Z ?_;have a0:=H.sy 0 (·.slc);obtain ⟨g,f,rfl⟩:=a0;refine Zc 7 Z ?_;refine Ap (σ:=Nat) (λj=>[(35,Aa (j:Int)),(0,V p),(1,Aa (i:Int)),(7,.slice g 120 f),(33,.slice g 120 f),(34,Aa 120)])
   (λj w=>Sep z (grow 3 1 (.slice g 120 f) 120 (ns.map Aa)::A::coB p l n m::AY l C n::AG m ([]) clk::R) w/\(j<=120)) (λj=>120-j) 0
   fr_z ⟨H,by omega⟩ ?_
 clear H;rintro j w ⟨H',t⟩;have H:=H'.l5;have hj:=t;clear t;refine Z0 6 [0] Z (Ag Z (λh3=>?_) (λh3=>?_))
 ·obtain ⟨x,s⟩:∃x,ns[j]?=some x:=⟨_,XW U⟩;have y:=d x (XX s)
  refine Zc 7 Z ?_;have a:=(H.rv 0 (·.rd)).at (j:=j) (u:=Aa x) (by simp[s]);refine Ad Z (Ar Z (z:=1) (j:=j) (r:=j) J Z Z Z U a U) (Ad Z (AK Z Z J (AA a)) (Z0 9 [0] Z (Am 42 Z (λh4=>U) (λh4=>?_))));refine Z0 3 [0] Z (Am 45 Z (λh5=>?_) (λh5=>?_))
  ·refine Z3 14 [0,2,0,0] [(i:Int)*120,((i:Int)*120)+(j:Int)] H Z U (Ag Z (λh6=>?_) (λh6=>?_))
   ·(exfalso;have:=hz j x s;omega)
   refine Z1 7 [] [(j:Int)+1] Z U (gf ?_);intro _ q;refine ⟨(j+1),q.cz,⟨H,?_⟩,?_⟩
   ·omega
   omega
  refine Z1 22 [] [(j:Int)+1] Z U (gf ?_);intro _ q;refine ⟨(j+1),q.cz,⟨H,?_⟩,?_⟩
  ·omega
  omega
 obtain rfl:j=120:=by omega
 refine Zc 2 Z (gx (Zc 11 Z ?_));refine Ap (σ:=Nat) (λj=>[(61,Aa (j:Int)),(0,V p),(1,Aa (i:Int)),(59,.slice g 120 f),(60,Aa 120)])
   (λj w=>Sep z (grow 3 1 (.slice g 120 f) 120 (ns.map Aa)::A::coB p l n m::AY l (DE C i ns j) n::AG m ([]) clk::R) w/\(j<=120)) (λj=>120-j) 0
   fr_z ⟨(by rw[IC];exact H),by omega⟩ ?_
 clear H;rintro j w ⟨H',t⟩;have H:=H'.l5;have hj:=t;clear t;refine Z0 6 [0] Z (Ag Z (λh7=>?_) (λh7=>?_))
 ·obtain ⟨x,s⟩:∃x,ns[j]?=some x:=⟨_,XW U⟩;have y:=d x (XX s)
  refine Zc 7 Z ?_;have a:=(H.rv 0 (·.rd)).at (j:=j) (u:=Aa x) (by simp[s]);refine Ad Z (Ar Z (z:=1) (j:=j) (r:=j) J Z Z Z U a U) (Ad Z (AK Z Z J (AA a)) (Z3 24 [0,2,0,0] [(i:Int)*120,((i:Int)*120)+(j:Int)] H Z U (Ag Z (λh8=>?_) (λh8=>?_))))
  ·refine Z3 9 [0,2,0,1,(120*i+j),120*i+j] [] H Z U (AV Z Z (AD 3 H Z Z Z Z (vs:=[Aa x]) Z (Al Z AL) J (by simp only[Cd,XZ,X4];omega) (out:=cnL (DE C i ns (j+1)) n) ((EW (x:=x.toNat) _ U U).trans (by rw[ID C U s y.1]))) ?_);rintro w H;replace H:=H.l5;refine Z2 8 [1,2,0] H Z (I0 Z Z (K2 4 (e:=3) H Z Z J Z Z) ?_);rintro _ w ⟨rfl,H⟩;replace H:=H.l5;refine Z1 7 [] [(j:Int)+1] Z U (gf ?_);intro _ q;refine ⟨(j+1),q.cz,⟨H,?_⟩,?_⟩
   ·omega
   omega
  refine Z1 7 [] [(j:Int)+1] Z U (gf ?_);intro _ q;refine ⟨(j+1),q.cz,⟨(by dsimp only[AY];rw[<-Sb C U U];exact H),?_⟩,?_⟩
  ·omega
  omega
 obtain rfl:j=120:=by omega
 refine Zc 2 Z (gx (Zc 8 Z (Zr Z ?_)));exact ⟨_,⟨Z,Z⟩,H.perm 5 [2,3,4,1] Z Z⟩
theorem compS_c(b:Value)(ys:List Int)(e:ys.length<2):An 102 [b] [grow 3 1 b ys.length (ys.map Aa)] (λv G=>∃(c:Value) (zs:List Int) (B:Ai),(zs.length<=ys.length/\(∀x,x∈zs↔x∈ys)/\∀h,B h->rdH 1 c zs.length (zs.map Aa) h)/\v=c/\G=[B]):=by
 intro z R w H;have a:=H.sy 0 (·.slc);refine Af func102 Z ntmps102 Z (Zc 9 Z (Ad Z (G8 Z (sz:=1) J Z a) (Z0 3 [0] Z (Ag Z (λd=>?_) (λd=>?_)))))
 ·refine Zc 7 Z (Zr Z ?_);exact ⟨_,⟨b,ys,_,⟨Yp _,λ_=>Iff.rfl,λh q=>q.rd⟩,Z,Z⟩,H⟩
 (exfalso;omega)
theorem compact_c(v0:Value)(ys:List Int)(n:Nat)(hl:ys.length=n)(hn:2<=n/\n<=1073741824):An 102 [v0] [grow 3 1 v0 n (ys.map Aa)] (λv G=>∃(v1:Value) (zs:List Int) (B:Ai),(zs.length<=ys.length/\(∀x,x∈zs↔x∈ys)/\∀h,B h->rdH 1 v1 zs.length (zs.map Aa) h)/\v=v1/\G=[B]):=by
 intro z R w H;obtain ⟨g,c,rest,rfl,c1,c2,c3,H⟩:=H.ungrow 0 Z U;refine Af func102 Z ntmps102 Z (Z0 13 [0] Z (Ag Z (λh1=>U) (λh1=>?_)));refine Zc 9 Z ?_;refine Ap (σ:=Nat) (λa=>[(3,Aa (a:Int)),(0,.slice (some ⟨g,0,none⟩) n c)])
   (λa w=>Sep z (blk g (ys.map Aa++rest) 3::R) w/\(1<=a/\a<=n)) (λa=>n-a) 1
   fr_z ⟨H,by omega⟩ ?_
 clear H;rintro a w ⟨i,r⟩;have H:=i.l1;have hk:=r;clear r;refine Z0 9 [0] Z (Ag Z (λh2=>?_) (λh2=>?_))
 ·obtain ⟨x,d⟩:∃x,ys[a]?=some x:=⟨_,XW U⟩;obtain ⟨y,e⟩:∃y,ys[a-1]?=some y:=⟨_,XW U⟩;refine Zc 5 Z (A4 (Sep z _) J J H.drew (F8 3 [1,a,a] [] Z J U (Be Z Z Z (AZ Z Z J (λ_ o=>o.cel 0 Z a (FF d))) (F8 4 [1,(a-1),(a-1)] [(a:Int)-1] Z J U (Be Z Z Z (AZ Z Z J (λ_ o=>o.cel 0 Z (a-1) (FF e))) (Ca 1 [] Z J (Bn (λw i=>?_))))))));have H:=i.l1;refine gn (Zc 1 Z (Ag Z (λh3=>?_) (λh3=>?_)))
  ·have m:x=y:=h3
   refine Zc 4 Z (Ad Z (Ba Z (z:=1) (p:=a) (q:=n) (o':=a) (l':=n-a) (c':=c-a) J Z (.inr ⟨_,_,_,Z,Z,Z⟩) (.inl ⟨Z,Z⟩) U U U U U U) (Zc 10 Z ?_));refine Ap (σ:=Nat×Nat×List Int) (λ⟨k,j,L⟩=>[(3,Aa (k:Int)),(5,Aa (j:Int)),(0,.slice (some ⟨g,0,none⟩) n c),(4,.slice (some ⟨g,a,none⟩) (n-a) (c-a)),(10,Aa (a:Int)),(11,.slice (some ⟨g,0,none⟩) n c),(12,Aa (n:Int)),(13,.bool (decide ((a:Int)<(n:Int)))),(16,.slice (some ⟨g,0,none⟩) n c),(17,Aa (a:Int)),(18,.pointer (some ⟨g,a,none⟩)),(19,Aa x),(20,.slice (some ⟨g,0,none⟩) n c),(21,Aa (a:Int)),(22,Aa ((a:Int)-1)),(23,.pointer (some ⟨g,(a-1),none⟩)),(24,Aa y),(25,.bool (decide ((x:Int)=y))),(26,.slice (some ⟨g,0,none⟩) n c),(27,Aa (a:Int)),(28,.slice (some ⟨g,a,none⟩) (n-a) (c-a))])
     (λ⟨k,j,L⟩ w=>Sep z (blk g (L.map Aa++rest) 3::R) w/\(CpI ys n a k j L)) (λ⟨k,j,L⟩=>n-j) ⟨a,1,ys⟩
     (λ_ f=>(f.co Z Z f.cz)) ⟨H,CpI.start hl U U d (by rw[m];exact e)⟩ ?_
   clear H;rintro ⟨k,j,L⟩ w ⟨i,r⟩;dsimp only at r i ⊢;have H:=i.l1;have b:=r;clear r;have a3:=b.kj;have a1:=b.j1;have a4:=b.jn;have a2:=b.len;refine Z0 9 [0] Z (Ag Z (λh4=>?_) (λh4=>?_))
   ·obtain ⟨x,d⟩:∃x,ys[a+j]?=some x:=⟨_,XW U⟩;obtain ⟨y,e⟩:∃y,ys[a+(j-1)]?=some y:=⟨_,XW (by have:=b.j1;omega)⟩;have l:L[a+j]?=some x:=(b.same _ U).trans d
    have s:L[a+(j-1)]?=some y:=(b.same _ (by have:=b.j1;omega)).trans e;refine Zc 5 Z (A4 (Sep z _) J J H.drew (F8 3 [1,j,a+j] [] Z J U (Be Z Z Z (AZ Z Z J (λ_ o=>o.cel 0 Z (a+j) (FF l))) (F8 4 [1,(j-1),a+(j-1)] [(j:Int)-1] Z J U (Be Z Z Z (AZ Z Z J (λ_ o=>o.cel 0 Z (a+(j-1)) (FF s))) (Ca 1 [] Z J (Bn (λw i=>?_))))))));have H:=i.l1;refine gn (Zc 1 Z (Ag Z (λh5=>?_) (λh5=>?_)))
    ·refine Z1 7 [1,j,a+j] [] Z U (Ad Z (AZ Z Z J (AA (H.cel 0 Z (a+j) (FF l)))) (Z1 1 [1,k,k] [] Z U (AV Z Z (AD 0 H Z Z Z Z (vs:=[Aa x]) Z (by simp[u8,u32,Value.oneCell']) J (by simp only[XY,X9,XZ,X4];have:=b.len;omega) (out:=((L.set k x).map Aa++rest)) (Sc (by have:=b.len;have:=b.kj;have:=b.jn;omega))) ?_)));rintro w H;refine Z1 14 [] [(k:Int)+1,(j:Int)+1] Z U (gf ?_);intro _ f;refine ⟨⟨k+1,j+1,L.set k x⟩,(f.co Z (by go_num) f.cz),⟨H,?_⟩,?_⟩
     ·exact b.put d
     (dsimp only;omega)
    have m:x=y:=AaQ.1 h5;refine Z1 8 [] [(j:Int)+1] Z U (gf ?_);intro _ f;refine ⟨⟨k,j+1,L⟩,(f.co Z Z f.cz),⟨H,?_⟩,?_⟩
    ·exact b.skip d (by rw[m];exact e)
    (dsimp only;omega)
   have a0:a+j=n:=by omega
   refine Zc 2 Z (gx (Zc 6 Z (Ad Z (Ba Z (z:=1) (p:=k) (q:=n) (o':=k) (l':=n-k) (c':=c-k) J Z (.inr ⟨_,_,_,Z,Z,Z⟩) (.inl ⟨Z,Z⟩) U U U U U U) (I0 Z Z (R6 0 H Z Z J Z (by have:=b.kj;have:=b.jn;omega) (by simp;have:=b.len;have:=b.kj;have:=b.jn;omega)) ?_))));rintro _ w ⟨rfl,H⟩;refine Zc 6 Z (Ad Z (Ba Z (z:=1) (p:=0) (q:=k) (o':=0) (l':=k) (c':=c) J Z (.inl ⟨Z,Z⟩) (.inr ⟨_,_,_,Z,Z,Z⟩) U U U U U U) (Zc 4 Z (Zr Z ?_)));have t:(L.take k).length=k:=by rw[X1];have:=b.len;have:=b.kj;have:=b.jn;omega
   exact ⟨_,⟨_,L.take k,_,⟨by have:=b.kj;have:=b.jn;omega,λz=>(b.mem z).trans (by rw[X0 U]),λh q=>by rw[t];exact q.rd (by have:=b.kj;have:=b.jn;omega) U (by simp;have:=b.len;have:=b.kj;have:=b.jn;omega) (by rw[Ym,YQ,X3,YK (by rw[X1];simp;have:=b.len;have:=b.kj;have:=b.jn;omega),X8 (by simp;have:=b.len;have:=b.kj;have:=b.jn;omega),ZS])⟩,Z,Z⟩,H.perm 1 [0] Z Z⟩
  refine Z1 8 [] [(a:Int)+1] Z U (gf ?_);intro _ f;refine ⟨(a+1),f.cz,⟨H,?_⟩,?_⟩
  ·omega
  omega
 refine Zc 2 Z (gx (Zc 9 Z (Zr Z ?_)));exact ⟨_,⟨_,ys,_,⟨by omega,λ_=>Iff.rfl,λh q=>by rw[hl];exact q.rd U U (by simp;omega) (by rw[Ym,YK (by simp;omega)])⟩,Z,Z⟩,H.perm 1 [0] Z Z⟩
theorem Wf(a:Value)(ys:List Int)(c:ys.length<=1073741824):An 102 [a] [grow 3 1 a ys.length (ys.map Aa)] (λv G=>∃(b:Value) (zs:List Int) (B:Ai),(zs.length<=ys.length/\(∀x,x∈zs↔x∈ys)/\∀h,B h->rdH 1 b zs.length (zs.map Aa) h)/\v=b/\G=[B]):=by
 rcases Yg ys.length 2 with h|h
 ·exact compS_c a ys h
 exact compact_c a ys _ Z ⟨h,c⟩
theorem PS(o j m n:Nat)(C:Nat->Nat)(C0:Nat->Nat)(l:List IE)(clk:Nat)(hn:16<=n/\n<=1024)(W:WasOk C C0 n l clk):An 44 [V o] [coB o j n m,AY j C n,AG m l clk] (λv G=>∃(g:Value) (zs:List Int) (B:Ai),(zs.length<=n/\(∀x:Int,x∈zs↔∃k:Nat,k<n/\C k≠C0 k/\x=((k/120:Nat):Int))/\∀h,B h->rdH 1 g zs.length (zs.map Aa) h)/\v=g/\G=[B,coB o j n m,AY j C n,AG m l clk]):=by
 intro z R w H;replace H:=H.l3;have b2:=W.len;refine Af func44 Z ntmps44 Z (Z2 17 [1,0,0] H Z (AC Z (HD 2 (e:=3) H Z Z J Z) ?_));rintro _ w ⟨rr,rfl,H⟩;replace H:=H.l4;refine Zc 1 Z ?_;replace H:=(H.nilg 3 1).l5;refine Zc 2 Z ?_;refine Ap (σ:=List IE×Value) (λ⟨s,g⟩=>[(3,g),(0,V o),(2,.slice none 0 0),(10,V rr)])
   (λ⟨s,g⟩ w=>Sep z (grow 3 1 g ((Eu C C0 s).length) ((Eu C C0 s).map Aa)::Gc rr m clk (s.map λp:IE=>p.2.2)::coB o j n m::AY j C n::AG m l clk::R) w/\((∀p∈s,p∈l)/\(s.map λp:IE=>p.2.2).Nodup)) (λ⟨s,g⟩=>(BT l (s.map λp:IE=>p.2.2)).length) ⟨[],.slice none 0 0⟩
   fr_z ⟨H,⟨by simp,by simp⟩⟩ ?_
 clear H;rintro ⟨s,g⟩ w ⟨i,hI⟩;dsimp only at hI i ⊢;have H:=i.l5;have f:=hI;clear hI;have a4:=Jf f;have a5:=We C C0 s;refine Zc 2 Z (AC Z (Jc 1 4 H Z Z Z Z W.clk) ?_);rintro _ w ⟨qx,rfl,a,H⟩;replace H:=H.l5;refine Ad Z (KN Z Z) (Zc 3 Z (Fz Z (λh1=>?_) (λh1=>?_)))
 ·obtain ⟨b,rfl⟩:=YH.1 h1;obtain ⟨k,c,a9,a3⟩:=W.ent b (Dl a).1;refine Zc 5 Z (Ad Z (HE (p:=b) Z Z (AA ⟨H.bk 1 Z,H.bk 4 Z⟩) (Dl a).1 W.born) (Zc 2 Z (k_updA 14 (v:=Aa (k:Int)) Z (congrArg Aa c) (k_updA 15 (v:=Aa (C0 k:Int)) Z a3 (Z3 13 [0,2,0,1,k,k] [] H Z U (Ad Z (AZ Z Z J (AA (H.cel 3 Z k (cnL_at _ U)))) (Z0 3 [0] Z (Ag Z (λh2=>?_) (λh2=>?_)))))))))
  ·have t:(C0 k:Int)≠(C k:Int):=h2
   refine Z1 4 [] [(k:Int)/120] Z U (AC Z (AI H Z J BK Z (by decide) (by decide) (out:=[Aa ((k:Int)/120)]) J) ?_);rintro _ w ⟨b1,rfl,H⟩;replace H:=H.l6;refine AC Z (AJ 1 H Z Z J BK Z Z (H.rv 0 (·.rd U U O Z)) (by simp[Value.oneCell']) U) ?_;rintro v2 w i;have i:Sep z (blk b1 [Aa ((k:Int)/120)] 3::grow 3 1 v2 ((Eu C C0 s).length+1) ((Eu C C0 s).map Aa++[Aa ((k:Int)/120)])::Gc rr m clk (HX (s.map λp:IE=>p.2.2) (some b))::coB o j n m::AY j C n::AG m l clk::R) w:=i;have u:((Eu C C0 s).map Aa++[Aa ((k:Int)/120)]:List Value)=(Eu C C0 (s++[b])).map Aa:=(by rw[Nf c t];simp);rw[u] at i;rw[show ((Eu C C0 s).length+1:Nat)=(Eu C C0 (s++[b])).length from (by rw[Nf c t];simp)] at i;have H:=i.l6;refine Zc 3 Z ?_;replace H:=H.d;refine gf ?_;intro _ hF;refine ⟨⟨s++[b],v2⟩,(hF.all Z),⟨(by dsimp only;rw[Yj];exact H),?_⟩,?_⟩
   ·exact F0 f a
   (have:=ED a;rwa[show (s++[b]).map (λp:IE=>p.2.2)=(s.map λp:IE=>p.2.2)++[b.2.2] from by simp])
  have a2:(C0 k:Int)=(C k:Int):=AaQ.1 h2;refine Zc 2 Z (gf ?_);intro _ hF;refine ⟨⟨s++[b],g⟩,(hF.all Z),⟨(by dsimp only;rw[Yj,Sd c a2];exact H),?_⟩,?_⟩
  ·exact F0 f a
  (have:=ED a;rwa[show (s++[b]).map (λp:IE=>p.2.2)=(s.map λp:IE=>p.2.2)++[b.2.2] from by simp])
 obtain rfl:qx=none:=by simpa using h1
 have q:Rx l s:=a;refine Zc 2 Z (gx (Zc 5 Z (AB Z (call101 _) (Pq _ _ U) H ?_)));rintro _ w _ ⟨rfl,ys,rfl,rfl⟩ H;refine Zc 5 Z ?_;have a7:((Eu C C0 s).mergeSort (λx y=>decide (x<=y))).length=(Eu C C0 s).length:=List.length_mergeSort _;refine AB Z (call102 _) (Wf _ _ U) H ?_;rintro v2 w _ ⟨v3,zs,B,⟨b0,a1,a0⟩,rfl,rfl⟩ H;replace H:=H.l5;refine Zc 4 Z (Zr Z ?_);have r:=λx=>(a1 x).trans (List.mem_mergeSort.trans (UD W (HY W.born f q) x));exact ⟨_,⟨_,zs,B,⟨by omega,r,a0⟩,Z,Z⟩,H.perm 5 [0,2,3,4] Z Z⟩
abbrev plB(pp ps pc pa n:Nat)(un:Bool):Ai:=blk pp [.pointer (some ⟨ps,0,none⟩),.pointer (some ⟨pc,0,none⟩),.pointer (some ⟨pa,0,none⟩),.int .i64 (n:Int),.bool un] 63
theorem Se(pp ps pd a c m b n:Nat)(D:Dsk)(G:StG):An 11 [V pp] [plB pp ps a b n false,stoA ps pd D G none] (λv X=>v=Aa 0/\X=[plB pp ps a b n true,stoA ps pd D G (some (CQ,0))]):=by
 intro z R w H;refine Af func11 Z ntmps11 Z (Z2 12 [0,0,0,0] H Z (Ah Z (call39 _) (MZ _ _ _ _) H.f1 ?_));intro w H;refine Z4 26 [4,1,0,3,4,1] H Z ?_;intro w H;refine Zr Z ?_;exact ⟨_,⟨Z,Z⟩,H.perm 2 [1,0] Z Z⟩
theorem Sf(pp ps b a m d n:Nat)(c:Bool)(C:Nat->Nat)(p:Nat)(hp:p<n)(e:16<=n/\n<=1024):An 18 [V pp,Aa (p:Int)] [plB pp ps b d n c,coB b a n m,AY a C n] (λv G=>v=Aa (C p:Int)/\G=[plB pp ps b d n c,coB b a n m,AY a C n]):=by
 intro z R w H;refine Af func18 Z ntmps18 Z (Z2 12 [1,0,0] H Z (Ah Z (call50 _) (Gq _ _ _ _ _ _ U U) H.f2.f2 ?_));intro w H;refine Zc 4 Z (Zr Z ?_);exact ⟨_,⟨Z,Z⟩,H.perm 3 [2,0,1] Z Z⟩
theorem UF(pp ps b a n:Nat)(d:Bool)(F c S:Nat->Bool):An 10 [V pp] [plB pp ps b a n d,alB a n F c S] (λv G=>v=Aa (cnt F 0 1024:Int)/\G=[plB pp ps b a n d,alB a n F c S]):=by
 intro z R w H;refine Af func10 Z ntmps10 Z (Z2 11 [2,0,0] H Z (Ah Z (call38 _) (UA _ _ _ _ _) H.f1 ?_));intro w H;refine Zc 4 Z (Zr Z ?_);exact ⟨_,⟨Z,Z⟩,H.perm 2 [1,0] Z Z⟩
theorem Sg(pp ps pd c f m d n:Nat)(D:Dsk)(G:StG)(g:Bc)(k:Nat)(C C0:Nat->Nat)(l:List IE)(clk:Nat)(F s S:Nat->Bool)(W:WasOk C C0 n l clk)(hn:16<=n/\n<=1024)(hG:G.x.pages=n)(p:Nat)(x:Pg)(y:x.Ok)(t:Value)(B:Ai)(r:∀h,B h->rdH 1 t 240 (x.body.map u8) h)(u:¬(g p=none/\40<=k))(hp:p<n)(j:F p=true)(i:∀q,q<p->F q=false)(hC:C p=0)(A:Ai)(hT:F1 A):An 12 [V pp,.agg #[Aa x.kind,t]] [stoA ps pd D G (some (g,k)),plB pp ps c d n true,coB c f n m,AY f C n,AG m l clk,alB d n F s S,A,B] (λv X=>∃(e:List IE) (a:Nat),WasOk (updN C p 1) C0 n e a/\v=.tuple #[Aa (p:Int),Aa 0]/\X=[stoA ps pd D G (some (pgSet g p x,k+(if (g p).isSome then 0 else 1))),plB pp ps c d n true,coB c f n m,AY f (updN C p 1) n,AG m e a,alB d n (Cq F p) s S,A,B]):=by
 intro z R w H;obtain ⟨bo,bc,rfl⟩:=H.sy 7 (λq=>(r _ q).slc);refine Af func12 Z ntmps12 Z (Za 2 [] H Z ?_);intro b1 w H;refine Z2 23 [4,2,0,2,2,0] H Z (Ah Z (call40 _) (Wc _ _ _ _ _ p U U j i _ hT) H.f7.f7 ?_);intro w H;refine Zc 19 Z (Bo 7 J J (A9 H λw o=>?_));have H:=o.l9;refine Xp 7 [0,0,4,0,2,2] [] H Z J (Cf (gw (AB Z (call41 _) (HJ _ _ _ _ _ _ p U _ y _ _ r) H.f8.f4 ?_)));rintro _ w _ (⟨b,rfl,rfl⟩|⟨_,rfl,rfl⟩) o
 ·exact absurd b u
 have H:=o.l9;refine Z2 19 [4,1,5,0] H Z (AB Z (call43 _) (Jo _ _ _ _ _ C0 _ _ p 1 _ U U U U U W) H.f8.f8.f8 ?_);rintro _ w _ ⟨e,a,W2,rfl,rfl⟩ H;refine Zc 10 Z (Zr Z ?_);exact ⟨_,⟨e,a,W2,Z,Z⟩,H.perm 9 [3,8,0,1,2,5,6,4] Z Z⟩
theorem PT(pp ps d a n:Nat)(x:Pg)(j:x.Ok)(e:Value)(B:Ai)(f:∀h,B h->rdH 1 e 240 (x.body.map u8) h)(F c S:Nat->Bool)(b:∀q,q<1024->F q=false):An 12 [V pp,.agg #[Aa x.kind,e]] [plB pp ps d a n true,alB a n F c S,B] (λv G=>v=.tuple #[Aa 0,Aa 20]/\G=[plB pp ps d a n true,alB a n F c S,B]):=by
 intro z R w H;obtain ⟨k,g,rfl⟩:=H.sy 2 (λq=>(f _ q).slc);refine Af func12 Z ntmps12 Z (Za 2 [] H Z ?_);intro i w H;refine Z2 23 [4,1,0,2,1,0] H Z (Ah Z (call40 _) (UB _ _ _ _ _ b) H.f2 ?_);intro w H;refine Zc 22 Z (Zr Z ?_);exact ⟨_,⟨Z,Z⟩,H.perm 4 [2,0,3] Z Z⟩
theorem Wg(pp ps d c m e n:Nat)(C C0:Nat->Nat)(l:List IE)(clk:Nat)(W:WasOk C C0 n l clk)(h:16<=n/\n<=1024)(p:Nat)(hp:manyN n<p/\p<n)(i:1<=C p/\C p<1000):An 17 [V pp,Aa (p:Int)] [plB pp ps d e n true,coB d c n m,AY c C n,AG m l clk] (λv G=>∃(b:List IE) (a:Nat),WasOk (updN C p (C p+1)) C0 n b a/\v=Aa 0/\G=[plB pp ps d e n true,coB d c n m,AY c (updN C p (C p+1)) n,AG m b a]):=by
 intro z R w H;replace H:=H.l4;refine Af func17 Z ntmps17 Z (Z2 25 [4,0,0,1,0,0] H Z (Ah Z (call50 _) (Gq _ _ _ _ _ _ U U) H.f2.f2 ?_));intro w H;replace H:=H.l4;refine Z0 2 [0] Z (Am 19 Z (λf=>U) (λf=>?_));refine Z2 5 [3,2,0] H Z (Ah Z (call51 _) (Gp _ U) H ?_);intro w H;replace H:=H.l4;refine Z0 5 [0] Z (Ag Z (λg=>U) (λg=>?_));refine Z2 10 [1,2,0] H Z (AB Z (call43 _) (Jo _ _ _ _ _ C0 _ _ p (C p+1) _ U U U U U W) H.f3.f2.f2 ?_);rintro _ w _ ⟨b,a,W2,rfl,rfl⟩ H;replace H:=H.l4;refine Zc 4 Z (Zr Z ?_);exact ⟨_,⟨b,a,W2,Z,Z⟩,H.perm 4 [3,0,1,2] Z Z⟩
theorem UG(pp ps b e m c n:Nat)(C C0:Nat->Nat)(l:List IE)(clk:Nat)(W:WasOk C C0 n l clk)(k:16<=n/\n<=1024)(p:Nat)(hp:manyN n<p/\p<n)(F f S:Nat->Bool)(o:C p=1)(i:F p=false)(h:f p=false):An 15 [V pp,Aa (p:Int)] [plB pp ps b c n true,coB b e n m,AY e C n,AG m l clk,alB c n F f S] (λv G=>∃(d:List IE) (a:Nat),WasOk (updN C p (0)) C0 n d a/\v=Aa 0/\G=[plB pp ps b c n true,coB b e n m,AY e (updN C p (0)) n,AG m d a,alB c n F (Fd f p) S]):=by
 intro z R w H;replace H:=H.l5;refine Af func15 Z ntmps15 Z (Z2 25 [4,0,0,1,0,0] H Z (Ah Z (call50 _) (Gq _ _ _ _ _ _ U U) H.f2.f2 ?_));intro w H;replace H:=H.l5;refine Z0 2 [0] Z (Am 20 Z (λj=>U) (λj=>?_));refine Z2 5 [3,2,0] H Z (Ah Z (call51 _) (Gp _ U) H ?_);intro w H;replace H:=H.l5;refine Z0 5 [0] Z (Ag Z (λg=>U) (λg=>?_));refine Z2 11 [1,2,0] H Z (AB Z (call43 _) (Jo _ _ _ _ _ C0 _ _ p 0 _ U U U U U W) H.f3.f2.f2 ?_);rintro _ w _ ⟨d,a,W2,rfl,rfl⟩ H;replace H:=H.l5;refine Z2 20 [4,1,3,0] H Z (Ah Z (call50 _) (Gq _ _ _ _ _ _ U U) H ?_);intro w H;replace H:=H.l5;refine k_updA 43 (v:=Aa 0) Z (congrArg Aa (by simp[updN])) (Z2 10 [3,2,3,0] H Z (Ah Z (call52 _) (Uy _ _ _ _ _ _ U U i h) H.f4 ?_));intro w H;replace H:=H.l5;refine Zc 8 Z (Zr Z ?_);exact ⟨_,⟨d,a,W2,Z,Z⟩,H.perm 5 [4,1,2,3,0] Z Z⟩
def CL(C:Nat->Nat)(n i:Nat):Pg:=⟨2,EI (B9 C n i)⟩
theorem Eg(C:Nat->Nat)(n i:Nat):(CL C n i).Ok:=⟨⟨by show (1:Int)<=2;omega,by show (2:Int)<=5;omega⟩,Gn (Dh _ _ _)⟩
theorem UH(F:Nat->Bool)(a:Nat){i n:Nat}(c:i<n)(h:F (a+i)=true):1<=cnt F a n:=by
 have e:=Gl F a i (n-i);rw[show i+(n-i)=n by omega] at e;obtain ⟨m,b⟩:∃m,n-i=1+m:=⟨n-i-1,by omega⟩;rw[b,Gl] at e;have:cnt F (a+i) 1=1:=by simp[cnt,h]
 omega
theorem FG{F G:Nat->Bool}{a:Nat}:∀{n:Nat},(∀i,i<n->F (a+i)=G (a+i))->cnt F a n=cnt G a n
 | 0,_=>rfl
 | n+1,h=>by simp only[cnt];rw[FG (λi hi=>h i U),h n U]
theorem L0{F G:Nat->Bool}{n i:Nat}(p:i<n)(h:F i=true)(f:G i=false)(hs:∀j,j≠i->F j=G j):cnt G 0 n+1=cnt F 0 n:=by
 have e:=λF=>Gl F 0 i (1+(n-i-1));have g:=λF=>Gl F (0+i) 1 (n-i-1);have c:=λF=>(e F).trans (by rw[g F]);rw[show i+(1+(n-i-1))=n by omega] at c;have k:cnt F 0 i=cnt G 0 i:=FG (λj d=>hs _ U);have l:cnt F (0+i+1) (n-i-1)=cnt G (0+i+1) (n-i-1):=FG (λj d=>hs _ U);have m:cnt F (0+i) 1=1:=by simp[cnt,h]
 have o:cnt G (0+i) 1=0:=by simp[cnt,f]
 have a:=c F;have b:=c G;omega
structure CmI(n:Nat)(C:Nat->Nat)(zs:List Int)(g0:Bc)(k0 j:Nat)(g:Bc)(k:Nat):Prop where
 jl:j<=zs.length
 old:∀p,(p=0\/manyN n<p)->g p=g0 p
 rm:k+cnt (λi=>(g (1+i)).isNone) 0 (manyN n)<=k0+manyN n
 set:∀i,i<manyN n->g (1+i)=none\/g (1+i)=some (CL C n i)
 dn:∀j',j'<j->∀i:Nat,zs[j']?=some (i:Int)->g (1+i)=some (CL C n i)
theorem Nh(F:Nat->Bool)(a:Nat):∀n,cnt F a n<=n
 | 0=>Yp _
 | n+1=>by
  have:=Nh F a n;have:(F (a+n)).toNat<=1:=by cases F (a+n)<;>simp
  simp only[cnt];omega
theorem CmI.start{n:Nat}{C:Nat->Nat}{zs:List Int}{a:Bc}{b:Nat}(h:∀i,i<manyN n->a (1+i)=none):CmI n C zs a b 0 a b:=
 ⟨Yi _,λ_ _=>rfl,by have:=Nh (λi=>(a (1+i)).isNone) 0 (manyN n);omega,λi c=>.inl (h i c),λe d=>by omega⟩
theorem CmI.room{n:Nat}{C:Nat->Nat}{zs:List Int}{d g:Bc}{a j k i:Nat}(I_:CmI n C zs d a j g k)(b:i<manyN n)(e:a+manyN n<=40):¬(g (1+i)=none/\40<=k):=λ⟨c,f⟩=>by
 have:=UH (λi=>(g (1+i)).isNone) 0 b (by simp[c]);have:=I_.rm;omega
theorem CmI.put{n:Nat}{C:Nat->Nat}{zs:List Int}{f g:Bc}{c j k i:Nat}(I_:CmI n C zs f c j g k)(r:i<manyN n)(l:zs[j]?=some (i:Int)):CmI n C zs f c (j+1) (pgSet g (1+i) (CL C n i)) (k+(if (g (1+i)).isSome then 0 else 1)):=by
 have a:=(XV.1 l).1;refine ⟨a,λp hp=>?_,?_,λq hq=>?_,λb s q hq=>?_⟩
 ·unfold pgSet;rw[if_neg U];exact I_.old p hp
 ·have o:=I_.rm
  split
  ·rename_i d
   rw[<-FG (F:=λi=>(g (1+i)).isNone)]
   ·exact o
   intro q _;unfold pgSet;split
   ·rename_i e;rw[show 0+q=i by omega];cases e2:g (1+i)<;>simp_all
   rfl
  rename_i d;have m:g (1+i)=none:=by simpa using d
  have:=L0 (F:=λi=>(g (1+i)).isNone) (G:=λq=>(pgSet g (1+i) (CL C n i) (1+q)).isNone) r (by simp[m]) (by simp[pgSet]) (λq hq=>by unfold pgSet;rw[if_neg U]);omega
 ·unfold pgSet;split
  ·rename_i e;obtain rfl:q=i:=by omega
   exact .inr Z
  exact I_.set q hq
 unfold pgSet;split
 ·rename_i e;obtain rfl:q=i:=by omega
  rfl
 rcases Yg b j with h|h
 ·exact I_.dn b h q hq
 obtain rfl:b=j:=by omega
 rw[l] at hq;simp at hq;omega
theorem CmI.done{n:Nat}{C C0:Nat->Nat}{zs:List Int}{o g:Bc}{f k:Nat}(I_:CmI n C zs o f zs.length g k)(p:∀x:Int,x∈zs↔∃k:Nat,k<n/\C k≠C0 k/\x=((k/120:Nat):Int)){i:Nat}(l:i<manyN n):g (1+i)=some (CL C n i)\/g (1+i)=none/\CL C0 n i=CL C n i:=by
 rcases I_.set i l with h|h
 ·refine .inr ⟨h,?_⟩
  have b:(i:Int)∉zs:=λm=>by
   obtain ⟨j,d⟩:=YC m;have:=I_.dn j (XV.1 d).1 i d;rw[h] at this;cases this
  have:B9 C0 n i=B9 C n i:=by
   unfold B9;refine ZB λq hq=>?_;split
   ·rename_i c
    have:=Y1.1 hq;refine congrArg Int.ofNat (Aag λa=>b ((p _).2 ⟨120*i+q,c,λe=>a e.symm,by rw[show (120*i+q)/120=i by omega]⟩))
   rfl
  unfold CL;rw[this]
 exact .inl h
theorem UI{n k:Nat}(h:k<n):k/120<manyN n:=by unfold manyN;omega
theorem L2{L:List UInt8}{x:Int}(h:L.length=240):0+240*1<=(AW (AX L) x).length:=by
 have hp:=A7 (l:=L) U;unfold AW;rw[XY,X9];omega
theorem Ni{L:List UInt8}{x:Int}(h:L.length=240):((AW (AX L) x).drop 0).take (240*1)=L.map u8:=by
 unfold AW;rw[Ym,YQ];have hp:=A7 (l:=L) U;rw[X8 (by rw[X9];omega),<-ZS];have:=R7 h;rw[Ym] at this;rw[this]
theorem PU(pp ps pd c p m e n:Nat)(D:Dsk)(G:StG)(mb:Nat)(g0:Bc)(k0:Nat)(C C0:Nat->Nat)(l:List IE)(clk:Nat)(F Dd S:Nat->Bool)(W:WasOk C C0 n l clk)(hn:16<=n/\n<=1024)(hG:G.x.pages=n)(hg:∀i,i<manyN n->g0 (1+i)=none)(hk:k0+manyN n<=40)(a7:∀k,C k<=1000)(hF:Fine D G mb)(hm:mb<=1000000000):An 14 [V pp] [stoA ps pd D G (some (g0,k0)),plB pp ps c e n true,coB c p n m,AY p C n,AG m l clk,alB e n F Dd S] (λv X=>∃(D2:Dsk) (b:StG) (g:Bc) (k:Nat) (zs:List Int),CmI n C zs g0 k0 zs.length g k/\(∀x:Int,x∈zs↔∃k:Nat,k<n/\C k≠C0 k/\x=((k/120:Nat):Int))/\Fine D2 b (mb+2)/\D2.n=D.n/\b.M=EG G.M (some (g,k))/\(b.x=G.x\/b.x=Eq G.x G.a G.q)/\v=Aa 0/\X=[stoA ps pd D2 b none,plB pp ps c e n false,coB c p n m,AY p C n,AG m ([]) clk,alB e n (Cy F Dd) BY (Cy F Dd)]):=by
 intro z R w H;refine Af func14 Z ntmps14 Z (Z2 25 [4,1,0,1,1,0] H Z (AB Z (call44 _) (PS _ _ _ _ _ C0 _ _ U W) H.f4.f4.f4 ?_));rintro v1 w _ ⟨v2,zs,Z_,⟨b3,a1,a0⟩,rfl,rfl⟩ H;obtain ⟨za,zc,rfl⟩:=H.sy 0 (λq=>(a0 _ q).slc);refine Zc 5 Z ?_;refine Ap (σ:=Nat×Bc×Nat) (λ⟨j,g,k⟩=>[(18,Aa (j:Int)),(0,V pp),(16,.slice za zs.length zc),(17,Aa (zs.length:Int))])
   (λ⟨j,g,k⟩ w=>Sep z (Z_::coB c p n m::AY p C n::AG m l clk::stoA ps pd D G (some (g,k))::plB pp ps c e n true::alB e n F Dd S::R) w/\(CmI n C zs g0 k0 j g k)) (λ⟨j,g,k⟩=>zs.length-j) ⟨0,g0,k0⟩
   fr_z ⟨H,CmI.start hg⟩ ?_
 clear H;rintro ⟨j,g,k⟩ w ⟨o,hI⟩;dsimp only at hI o ⊢;have H:=o.l7;have hC:=hI;clear hI;have b2:=hC.jl;refine Z0 6 [0] Z (Ag Z (λh1=>?_) (λh1=>?_))
 ·obtain ⟨z_,f⟩:∃z_,zs[j]?=some z_:=⟨_,XW U⟩;obtain ⟨q_,a6,b1,s⟩:=(a1 z_).1 (XX f);obtain ⟨i,t⟩:∃i,i=q_/120:=⟨_,Z⟩;rw[<-t] at s;subst s;have hi:i<manyN n:=t▸UI a6
  have b0:manyN n<n:=by unfold manyN;omega
  refine Zc 6 Z ?_;have y:=(H.rd 0 Z a0).at (j:=j) (u:=Aa (i:Int)) (by simp[f]);refine Ad Z (Ar Z (z:=1) (j:=j) (r:=j) J Z Z Z U y U) (Ad Z (AK Z Z J (AA y)) (Zc 4 Z ?_));replace H:=H.f5;refine BQ (Sep z (plB pp ps c e n true::R)) 16 Z J (A9 H λw o=>?_);have H:=o.l7;refine OP [0,1,2,3,4,5,6,7,8,9,10,11] [0,0,0,0,1,0,0] [((1+i:Nat):Int)] (by exact H.pick 7 [0] Z) Z J U Z (Cg [12] J O (Az (BF Z Z Z Z Z Z (λw=>call45 _ w) (Ng _ _ _ _ _ i hi U a7) H.f3.f3 Z ?_)));rintro _ w _ ⟨pw,rfl,rfl⟩ H;refine B3 (H.pick 8 [3] Z) (CC [13] [] [] (by exact H.pick 8 [3] Z) Z J Z (Cg [14] J O (Az (BF Z Z Z Z Z Z (λw=>call41 _ w) (HJ _ _ _ _ _ _ (1+i) U (CL C n i) (Eg _ _ _) _ _ (λh q=>q.rd U U (L2 (Eg _ _ _).2) (Ni (Eg _ _ _).2))) H.f6 Z ?_))));rintro _ w _ (⟨a2,rfl,rfl⟩|⟨_,rfl,rfl⟩) o
  ·exact absurd a2 (hC.room hi hk)
  have H:=o.l8;refine B3 (H.pick 8 [4] Z) (CC [15] [] [] (by exact H.pick 8 [4] Z) Z J Z (a_done J (gn (Z1 15 [4] [(j:Int)+1] Z U ?_))));replace H:=H.f1.d.f6.f4.f2.f6.f5.f5.f6;refine gf ?_;intro _ hF;refine ⟨⟨j+1,pgSet g (1+i) (CL C n i),k+(if (g (1+i)).isSome then 0 else 1)⟩,hF.cz,⟨H,?_⟩,?_⟩
  ·exact hC.put hi f
  (dsimp only;omega)
 obtain rfl:j=zs.length:=by omega
 refine Zc 2 Z (gx (Z2 10 [0,0,5,0] H Z (AB Z (call46 _) (LH _ _ _ _ _ _ mb hF hm) H.f4 ?_)));rintro _ w _ ⟨D2,b,a5,a3,⟨a8,a9⟩,a4,rfl,rfl⟩ H;refine Z4 26 [4,4,5,1,5,0] H Z ?_;intro w H;refine Ah Z (call48 _) (PR _ _ _ _ _ _) H.f4.f3 ?_;intro w H;refine Z2 8 [2,5,0] H Z (Ah Z (call49 _) (Kv _ _ _ _ _) H.f6 ?_);intro w H;refine Zc 8 Z (Zr Z ?_);exact ⟨_,⟨D2,b,g,k,zs,hC,a1,a5,a3,a8,a4,Z,Z⟩,H.perm 7 [3,6,1,5,2,0] Z Z⟩
section
section
variable{P:Program}{o:Oper}{w z:World}{Γ:List Ai}{n:Nat}{ds:List Deferred}{L:List (Nat×Value)}{x y:Operand}
theorem Nj{t e:TypeId}{k sz:Nat}(H:Sep z Γ w)(l:o.op=.makeSlice t x y)(r:P.underlying t=some (.slice e)){zv:Value}{by_:Nat}(p:Elt P e zv sz by_)(j:ev L x=some (Aa k))(m:ev L y=some (Aa k))(hk:by_*k<=140737488355328){out:List Value}(c:madeCells zv.cells (k*sz)=out.toArray):
  BL P n ds L o w (λv w'=>∃b,v=.slice (some ⟨b,0,none⟩) k k/\Sep z (blk b out e::Γ) w'):=λa h=>by
 obtain ⟨i,hi,hz,hs,q,u,a0,d⟩:=p;have f:(i.bytes:Int)*(k:Int)<=281474976710656:=by
  rw[q,<-Int.natCast_mul];omega
 have g:=run_make (P:=P) (w:=w) t e i zv r hi hz .i64 .i64 (k:Int) (k:Int) U (Int.le_refl _) f (by
  have:1*k<=by_*k:=Zv _ d;omega)
 have s:madeCells zv.cells (((k:Int)).toNat*i.size)=out.toArray:=by
  rw[YB,hs];exact c
 rw[s] at g;refine ⟨_,_,?_,w.heap.size,Z,H.new (CH w (.cells out.toArray e)) (Yp _) (by show (w.heap.push _)[w.heap.size]?=_;simp)⟩;simp only[execOp,l,h.ev j,h.ev m,Yd,g,X7,Yh,YB];rfl
end
theorem Sh{bs:List UInt8}{a:Int}(h:bs.length=256):0+240*1<=(AW bs a).length:=by unfold AW;rw[XY,X9];omega
theorem UJ{bs:List UInt8}{a:Int}(h:bs.length=256):((AW bs a).drop 0).take (240*1)=(bs.take 240).map u8:=by
 unfold AW;rw[Ym,YQ,X8 (by rw[X9];omega),ZS]
def C1(i:Nat):Nat->Nat:=λp=>if p<i then 1 else 0
theorem JX(i:Nat):updN (C1 i) i 1=C1 (i+1):=by
 funext p;unfold updN C1;split
 ·rw[if_pos U]
 by_cases h:p<i
 ·rw[if_pos h,if_pos U]
 rw[if_neg h,if_neg U]
theorem JY:C1 0=λ_=>0:=by funext p;simp[C1]
theorem Jp(i k:Nat):C1 i k<=1000:=by unfold C1;split<;>omega
def gF(n:Nat)(cb:List UInt8)(i:Nat):Bc:=λp=>if p=0 then some ⟨1,cb⟩ else if p<=i then some (CL (C1 (manyN n+1)) n (p-1)) else none
theorem UK(n:Nat)(cb:List UInt8)(i:Nat):(some (pgSet (gF n cb i) (1+i) (CL (C1 (manyN n+1)) n i),1+i+(if (gF n cb i (1+i)).isSome then 0 else 1)):GZ)=some (gF n cb (i+1),1+(i+1)):=by
 have e:gF n cb i (1+i)=none:=by unfold gF;rw[if_neg U,if_neg U]
 rw[e];have:pgSet (gF n cb i) (1+i) (CL (C1 (manyN n+1)) n i)=gF n cb (i+1):=by
  funext p;unfold pgSet gF;split
  ·rename_i h;subst h;rw[if_neg U,if_pos U,show 1+i-1=i by omega]
  by_cases h0:p=0
  ·rw[if_pos h0,if_pos h0]
  rw[if_neg h0,if_neg h0];by_cases h1:p<=i
  ·rw[if_pos h1,if_pos U]
  rw[if_neg h1,if_neg U]
 rw[this];simp;omega
theorem UL(n:Nat)(cb:List UInt8):(some (pgSet CQ 0 ⟨1,cb⟩,0+(if (CQ 0).isSome then 0 else 1)):GZ)=some (gF n cb 0,1+0):=by
 have:pgSet CQ 0 ⟨1,cb⟩=gF n cb 0:=by
  funext p;unfold pgSet gF CQ;split
  ·rfl
  rw[if_neg U]
 rw[this];rfl
theorem Eh{n:Nat}(h:n<=1024):manyN n<=9:=by unfold manyN;omega
theorem GS{n:Nat}(h:16<=n):1<=manyN n/\manyN n+1<n:=by unfold manyN;omega
theorem Sep.flDisk{z w:World}{Γ:List Ai}{ps pd:Nat}{D:Dsk}{G:StG}(H:Sep z (stoA ps pd D.fl {G with sure:=G.rs.length} none::Γ) w)(hq:G.q<=1099511627776):OInv D.fl G.x G.B (λd=>d=G.rs)/\Sep z (diskA pd D.fl::Γ) w:=by
 obtain ⟨X,g,H⟩:=H.sto;have h:=g.inv.crashed (D':=D.fl) hq ⟨Z,λ_=>rfl,λ_=>.inl Z⟩;have e:(λd:List Rc=>G.rs.length<=d.length/\d.length<=G.rs.length/\d=G.rs.take d.length)=λd=>d=G.rs:=funext λd=>propext ⟨λ⟨a,b,c⟩=>by rw[c];exact X0 U,λe=>by subst e;simp⟩;refine ⟨?_,H.pick 6 [3] Z⟩;have f:OInv D.fl G.x G.B (λd:List Rc=>G.rs.length<=d.length/\d.length<=G.rs.length/\d=G.rs.take d.length):=h;rw[e] at f;exact f
set_option maxHeartbeats 2000000 in
theorem PV (pd dn n:Nat) (s l:Int) (hn:16<=n/\n<=1024) (r:(Bl n s l 2).Ok (dn:Int)):An 35 [V pd,Aa (n:Int),Aa s,Aa l] [diskA pd (BV dn)] (λv G=>∃(j:Dsk) (f:StG) (bs:List UInt8),bs.length=256/\OInv j f.x f.B (λgot=>got=f.rs)/\Clean j/\(f.x.gen<=((5:Nat):Int)/\f.x.epoch<=((5:Nat):Int))/\j.n=dn/\f.x.pages=n/\f.M=EG (λ_=>DP) (some (gF n (bs.take 240) (manyN n),1+manyN n))/\v=Aa 0/\G=[diskA pd j]):=by
 intro z R w H;have b0:=GS hn.1;have a9:=Eh hn.2;refine Af func35 Z ntmps35 Z (Zc 12 Z (Ah Z (call86 _) (RP _ dn _ _ _ r) H ?_));intro w H;refine Z0 15 [4] Z (AB Z (call30 _) (Pz _ _ _ _ _ _ (Uk r) (RM _ _ _ _) (show (2:Int)<=(2:Nat)/\(1:Int)<=(2:Nat) by omega) U) H ?_);rintro _ w _ ⟨ps,D0,a7,t,a2,a4,rfl,rfl⟩ H;subst t;have a:Sep z (stoA ps pd D0 (MY (Bl n s l 2) (λ_=>DP)) none::R) w:=H;clear H;have H:=a.l1;refine Z0 21 [4] Z (Ah Z (call39 _) (MZ _ _ _ _) H ?_);intro w H;refine Z0 14 [4] Z (AC Z (Nj (k:=8) (out:=FU) H Z J EE Z Z U J) ?_);rintro _ w ⟨b1,rfl,H⟩;refine Zc 1 Z (AB Z (call87 _) (R9 _ _ (λh q=>q.rd U U (by simp[FU]) (by simp[FU]))) H ?_);rintro _ w _ ⟨pw,bs,g,rfl,rfl⟩ H;refine Z0 23 [4] Z (AB Z (call41 _) (HJ _ _ _ _ _ _ 0 (by show (0:Int)<(n:Int);omega) ⟨1,bs.take 240⟩ ⟨by show (1:Int)<=1/\(1:Int)<=5;omega,by show (bs.take 240).length=240;rw[X1];omega⟩ _ _ (λh q=>q.rd U U (Sh g) (UJ g))) H.f2 ?_);rintro _ w _ (⟨b,rfl,rfl⟩|⟨_,rfl,rfl⟩) a
 ·(exfalso;have:=b.2;omega)
 have H:=a.l3;rw[UL n] at H;refine Z0 15 [4] Z (AB Z (call79 _) (PQ _ U) H ?_);rintro _ w _ ⟨pc,bn,m,rfl,rfl⟩ H;refine Z0 20 [4] Z (Ah Z (call51 _) (Gp _ U) H ?_);intro w H;refine Z1 12 [] [(manyN n:Int)+1] Z U ?_;refine Ap (σ:=Nat×List IE×Nat) (λ⟨i,o,clk⟩=>[(70,Aa (i:Int)),(8,Aa 0),(10,V ps),(15,V pc),(16,Aa (manyN n:Int)),(69,Aa ((manyN n:Int)+1))])
   (λ⟨i,o,clk⟩ w=>Sep z (coB pc bn n m::AY bn (C1 i) n::AG m o clk::stoA ps pd D0 (MY (Bl n s l 2) (λ_=>DP)) (some (gF n (bs.take 240) 0,1+0))::blk pw (AW bs ((21+19*8:Nat):Int)) 204::blk b1 FU 207::R) w/\(i<=manyN n+1/\WasOk (C1 i) (λ_=>0) n o clk)) (λ⟨i,o,clk⟩=>manyN n+1-i) ⟨0,[],0⟩
   fr_z ⟨(by rw[JY];exact H),⟨by omega,by rw[JY];exact WasOk.nil _ _ _⟩⟩ ?_
 clear H;rintro ⟨i,o,clk⟩ w ⟨a,u⟩;dsimp only at u a ⊢;have H:=a.l6;obtain ⟨a5,W⟩:=u;have y:C1 i i=0:=by simp[C1]
 refine Z0 6 [0] Z (Ag Z (λh1=>?_) (λh1=>?_))
 ·refine Zc 13 Z (AB Z (call43 _) (Jo _ _ _ _ _ (λ_=>0) _ _ i 1 _ U U (by rw[y];rfl) U (by rw[y];omega) W) H ?_);rintro _ w _ ⟨l2,p,W2,rfl,rfl⟩ H;refine Z1 7 [] [(i:Int)+1] Z U (gf ?_);intro _ hF;refine ⟨⟨i+1,l2,p⟩,hF.cz,⟨(by rw[<-JX];exact H),?_⟩,?_⟩
  ·dsimp only;exact ⟨by omega,by rw[<-JX];exact W2⟩
  (dsimp only;omega)
 obtain rfl:i=manyN n+1:=by omega
 refine Zc 2 Z (gx (Zc 10 Z ?_));refine Ap (σ:=Nat) (λi=>[(78,Aa (i:Int)),(10,V ps),(15,V pc),(77,Aa (manyN n:Int))])
   (λi w=>Sep z (coB pc bn n m::AY bn (C1 (manyN n+1)) n::AG m o clk::stoA ps pd D0 (MY (Bl n s l 2) (λ_=>DP)) (some (gF n (bs.take 240) i,1+i))::blk pw (AW bs ((21+19*8:Nat):Int)) 204::blk b1 FU 207::R) w/\(i<=manyN n)) (λi=>manyN n-i) 0
   fr_z ⟨H,by omega⟩ ?_
 clear H;rintro i w ⟨a,u⟩;have H:=a.l6;have a5:=u;clear u;refine Z0 6 [0] Z (Ag Z (λh2=>?_) (λh2=>?_))
 ·refine Z1 17 [] [((1+i:Nat):Int)] Z U (AB Z (call45 _) (Ng _ _ _ _ _ i U U (Jp _)) H ?_);rintro _ w _ ⟨pq,rfl,rfl⟩ H;refine Zc 1 Z (AB Z (call41 _) (HJ _ _ _ _ _ _ (1+i) (by show ((1+i:Nat):Int)<(n:Int);omega) (CL (C1 (manyN n+1)) n i) (Eg _ _ _) _ _ (λh q=>q.rd U U (L2 (Eg _ _ _).2) (Ni (Eg _ _ _).2))) H.f4 ?_);rintro _ w _ (⟨b,rfl,rfl⟩|⟨_,rfl,rfl⟩) a
  ·(exfalso;have:=b.2;omega)
  have H:=a.l7;rw[UK] at H;refine Z1 17 [4] [(i:Int)+1] Z U ?_;replace H:=H.f1.d.f5.f5.f2.f5.f5.f5;refine gf ?_;intro _ hF;refine ⟨(i+1),hF.cz,⟨H,?_⟩,?_⟩
  ·omega
  omega
 obtain rfl:i=manyN n:=by omega
 refine Zc 2 Z (gx (Zc 6 Z (AB Z (call46 _) (LH _ _ _ _ _ _ 3 a2 U) H.f3 ?_)));rintro _ w _ ⟨j,f,c,a0,⟨a6,a8⟩,a3,rfl,rfl⟩ H;refine Z0 15 [4] Z (AB Z (call28 _) (sync_s _ _ _ _ 5 c) H ?_);rintro _ w _ ⟨rfl,a1,rfl⟩ H;refine Zc 4 Z (Zr Z ?_);have H2:=H.pick 6 [0] Z;obtain ⟨hO,a⟩:=H2.flDisk (by have:=c.q;omega);exact ⟨_,⟨j.fl,f,bs,g,hO,a1.clean,⟨c.gen,c.epoch⟩,a0.trans (a4.trans (RN _ _ _ _)),(a3.elim (λe=>by rw[e];rfl) (λe=>by rw[e];rfl)),a6,Z,Z⟩,a⟩
end
section
section
variable{P:Program}{C:World->Prop}{o:Oper}{n:Nat}{ds:List Deferred}{L:List (Nat×Value)}{x y:Operand}{xt yt:TypeId}
def Ky(P:Program)(t:TypeId)(f:Nat)(cs:Array Value):Option Value:=match P.underlying t with
 | some (.struct fs)=>match fs[f]? with
  | some fd=>bif Ft P fd.type then cs[fd.offset]? else none
  | none=>none
 | _=>none
theorem Si{t:TypeId}{f:Nat}{cs:Array Value}{v:Value}(e:o.op=.field t x f)(c:ev L x=some (.agg cs))(b:Ky P t f cs=some v):Ao P C n ds L o v:=λa d w _=>by
 unfold Ky at b;split at b
 ·rename_i j h
  split at b
  ·rename_i g i
   cases hb:Ft P g.type with
   | false=>rw[hb] at b;cases b
   | true=>
    rw[hb] at b;simp only[cond_true] at b;simp only[execOp,e,d.ev c,Instr.field,Yd,run_underlying h,X7,i];simp[asAgg,part,Fu hb,b,go_sem]
  cases b
 cases b
end
end
def BH(n:Nat)(C:Nat->Nat):Nat->Bool:=λp=>decide (p<n/\C p=0)
def LC(C:Nat->Nat)(i:Nat):Nat->Nat:=λp=>if p/120+1<i then C p else 0
theorem Nk(C:Nat->Nat):LC C 0=λ_=>0:=by funext p;simp[LC]
theorem PW(C:Nat->Nat):LC C 1=LC C 0:=by funext p;simp[LC]
theorem PX(C:Nat->Nat)(n i:Nat){k:Nat}(h:k<120):(B9 C n i).getD k 0=if 120*i+k<n then (C (120*i+k):Int) else 0:=by
 simp[B9,List.getD,h]
theorem Nl(C:Nat->Nat)(n j:Nat):cnL (DE (LC C (1+j)) j (B9 C n j) 120) n=cnL (LC C (1+j+1)) n:=by
 unfold cnL;refine ZB λp hp=>?_;have hp:=Y1.1 hp;unfold DE LC;by_cases h:p/120=j
 ·rw[if_pos ⟨h,by omega⟩,if_pos U,PX _ _ _ U,if_pos U,show 120*j+p%120=p by omega];rfl
 rw[if_neg (λq=>h q.1)];by_cases h2:p/120+1<1+j
 ·rw[if_pos h2,if_pos U]
 rw[if_neg h2,if_neg U]
theorem PY(C:Nat->Nat)(n:Nat):cnL (LC C (manyN n+1)) n=cnL C n:=by
 unfold cnL;refine ZB λp hp=>?_;have hp:=Y1.1 hp;unfold LC;rw[if_pos (by unfold manyN;omega)]
theorem PZ{C:Nat->Nat}{n i:Nat}:∀(k:Nat) (x:Int),(B9 C n i)[k]?=some x->n<=120*i+k->x=0:=λk x h b=>by
 have a:=(XV.1 h).1;rw[Dh] at a;have:=PX C n i a;rw[List.getD,h,if_neg U] at this;simpa using this
def Gr(C:Nat->Nat)(n i:Nat):Nat->Bool:=λp=>decide (p<n) && !(decide (p<i)&&decide (0<C p))
theorem Sj(C:Nat->Nat)(n:Nat):Gr C n 0=CZ n:=by funext p;simp[Gr,CZ]
theorem UM(C:Nat->Nat)(n:Nat):Gr C n n=BH n C:=by
 funext p;unfold Gr BH;rw[Yf];simp;omega
theorem Sk{C:Nat->Nat}{n i:Nat}(h:0<C i):Cq (Gr C n i) i=Gr C n (i+1):=by
 funext p;unfold Cq Gr;rw[Yf];simp;by_cases e:p=i
 ·subst e;simp;omega
 simp[e];omega
theorem Sl{C:Nat->Nat}{n i:Nat}(h:¬0<C i):Gr C n i=Gr C n (i+1):=by
 funext p;unfold Gr;by_cases e:p=i
 ·subst e;have:decide (0<C p)=false:=decide_eq_false h
  rw[this];simp
 have a:decide (p<i)=decide (p<i+1):=decide_eq_decide.2 U;rw[a]
theorem Nm(F:Nat->Bool):Cy F BY=F:=by funext p;simp[Cy,BY]
theorem Wh{C:Nat->Nat}{n i:Nat}(h:i<n):Gr C n i i=true:=by unfold Gr;simp[h]
theorem UN(ps pd:Nat)(D:Dsk)(G:StG)(mb n:Nat)(C:Nat->Nat)(g:Fine D G mb)(hn:16<=n/\n<=1024)(hG:G.x.pages=n)(cb:List UInt8)(f:G.M 0=⟨1,cb⟩)(o:∀i,i<manyN n->G.M (1+i)=CL C n i)(hC:∀k,C k<=1000)(a1:∀p,p<=manyN n->C p=1):An 31 [V ps] [stoA ps pd D G none] (λv X=>∃pp a c m b:Nat,v=.tuple #[V pp,Aa 0]/\X=[stoA ps pd D G none,plB pp ps a b n false,coB a c n m,AY c C n,AG m ([]) 0,alB b n (BH n C) BY (BH n C)]):=by
 intro z R w H;have a9:=GS hn.1;refine Af func31 Z ntmps31 Z (Zc 21 Z (Ah Z (call78 _) (Un _ _ _ _ _) H ?_));intro w H;refine Ad Z (Si (v:=Aa G.x.pages) Z Z J) (k_updA 18 (v:=Aa (n:Int)) Z (congrArg Aa hG) (Ad Z (AQ Z Z (out:=[V ps,.pointer none,.pointer none,Aa (n:Int),.bool false]) J) (Za 0 [] H Z ?_)));intro l w H;refine Z2 10 [3,0,0] H Z (AB Z (call79 _) (PQ _ U) H ?_);rintro _ w _ ⟨a,c,m,rfl,rfl⟩ H;refine Z4 15 [1,3,3,3,0] H Z ?_;intro w H;refine AB Z (call80 _) (Wb _ U) H ?_;rintro _ w _ ⟨b,rfl,rfl⟩ H;refine Z4 11 [2,4,3,4,0] H Z ?_;intro w H;refine Ah Z (call51 _) (Gp _ U) H ?_;intro w H;refine Z1 17 [] [(manyN n:Int)+1] Z U ?_;refine Ap (σ:=Nat) (λi=>[(47,Aa (i:Int)),(6,.bool false),(0,V ps),(4,V l),(5,Aa (manyN n:Int)),(46,Aa ((manyN n:Int)+1))])
   (λi w=>Sep z (alB b n (CZ n) BY (CZ n)::coB a c n m::AY c (LC C i) n::AG m ([]) 0::plB l ps a b n false::stoA ps pd D G none::R) w/\(i<=manyN n+1)) (λi=>manyN n+1-i) 0
   fr_z ⟨(by rw[Nk];exact H),by omega⟩ ?_
 clear H;rintro i w ⟨e,r⟩;have H:=e.l6;have a6:=r;clear r;refine Z0 6 [0] Z (Ag Z (λt=>?_) (λt=>?_))
 ·have a0:G.M i≠DP:=λq=>by
    rcases Aaj i with h0|h0
    · subst h0;rw[f] at q;cases q
    · have t:=o (i-1) U;rw[show 1+(i-1)=i by omega,q] at t;cases t
  refine Zc 14 Z (AB Z (call21 _) (VP ps pd D G none i U g.clean.f1 (G.M i) Z) H.f5 ?_);rintro _ w _ (⟨a5,rfl,rfl⟩|⟨a7,rv,rfl,rfl⟩) e
  ·exact absurd a5 a0
  have H:=e.l7;obtain ⟨gb,a4,rest,rfl,c1,c2,c3,H⟩:=H.ungrow 0 Z U;refine Za 3 [] H Z ?_;intro b2 w H;refine Z4 20 [0,4,0] H Z ?_;intro w H;refine Ag Z (λh2=>?_) (λh2=>?_)
  ·obtain rfl:i=0:=by omega
   refine Z2 5 [0,0,0] H Z (k_updA 84 (v:=Aa 1) Z (congrArg Aa (by rw[f])) (Z1 11 [4] [(0:Int)+1] Z U ?_));replace H:=H.f1.d.d.f5.f5.f5.f5.f5;refine gf ?_;intro _ g;refine ⟨(0+1),g.cz,⟨(by rw[PW];exact H),?_⟩,?_⟩
   ·omega
   omega
  obtain ⟨j,rfl⟩:∃j,i=1+j:=⟨i-1,by omega⟩;have u:=o j U;have y:(G.M (1+j)).body.length=240:=by rw[u];exact (Eg _ _ _).2
  have a3:(G.M (1+j)).body=EI (B9 C n j):=by rw[u];rfl
  refine Bo 15 J J (A9 H λw e=>?_);have H:=e.l8;refine Vo 4 [0,0] (A3 (H.blk 0 Z) AU) Z J Z (k_updA 59 (v:=Aa 2) Z (congrArg Aa (by rw[o j U];rfl)) (CD 11 [4,1,7,0,1,0,0] [(j:Int)] H Z J U (Cf (gw (Ah Z (call81 _) (UE _ _ _ _ _ _ j U U _ _ _ _ _ (λh q=>q.rd U U (by rw[XY,X9,y];omega) (by rw[Ym,YQ,YK (by rw[X9,y])])) (B9 C n j) (Dh _ _ _) (Jn hC _ _) a3 PZ) H.f1.f6.f6.f6 ?_)))));intro w H;dsimp only[AY] at H;rw[Nl] at H;have e:Sep z (coB a c n m::AY c (LC C (1+j+1)) n::AG m ([]) 0::blk gb ((G.M (1+j)).body.map u8++rest) 5::blk b2 [Aa ((G.M (1+j)).kind),.slice (some ⟨gb,0,none⟩) 240 a4] 40::stoA ps pd D G none::alB b n (CZ n) BY (CZ n)::plB l ps a b n false::R) w:=H;clear H;have H:=e.l8;refine Z1 11 [4] [((1+j):Int)+1] Z U ?_;replace H:=H.f4.d.f3.d.f3.f5.f4.f4.f4.f5;refine gf ?_;intro _ g;refine ⟨(1+j+1),g.cz,⟨H,?_⟩,?_⟩
  ·omega
  omega
 obtain rfl:i=manyN n+1:=by omega
 refine Zc 2 Z (gx (Zc 4 Z ?_));dsimp only[AY] at H;rw[PY] at H;have e:Sep z (alB b n (CZ n) BY (CZ n)::coB a c n m::AY c C n::AG m ([]) 0::plB l ps a b n false::stoA ps pd D G none::R) w:=H;clear H;have H:=e.l6;refine Z1 7 [] [(manyN n:Int)+1] Z U ?_;refine Ap (σ:=Nat) (λi=>[(90,Aa (i:Int)),(6,.bool false),(4,V l),(89,Aa ((manyN n:Int)+1))])
   (λi w=>Sep z (alB b n (CZ n) BY (CZ n)::coB a c n m::AY c C n::AG m ([]) 0::plB l ps a b n false::stoA ps pd D G none::R) w/\(i<=manyN n+1)) (λi=>manyN n+1-i) 0
   fr_z ⟨H,by omega⟩ ?_
 clear H;rintro i w ⟨e,r⟩;have H:=e.l6;have a6:=r;clear r;refine Z0 6 [0] Z (Ag Z (λh3=>?_) (λh3=>?_))
 ·have a0:G.M i≠DP:=λq=>by
    rcases Aaj i with h0|h0
    · subst h0;rw[f] at q;cases q
    · have t:=o (i-1) U;rw[show 1+(i-1)=i by omega,q] at t;cases t
  refine Z2 18 [1,4,0] H Z (Ah Z (call50 _) (Gq _ _ _ _ _ _ U U) H.f2.f2 ?_);intro w H;refine k_updA 100 (v:=Aa 1) Z (congrArg Aa (by rw[a1 i U];rfl)) (Z1 10 [4] [(i:Int)+1] Z U ?_);replace H:=H.f5.f5.f5.f4.f4.f5;refine gf ?_;intro _ g;refine ⟨(i+1),g.cz,⟨H,?_⟩,?_⟩
  ·omega
  omega
 obtain rfl:i=manyN n+1:=by omega
 refine Zc 2 Z (gx (Z2 22 [3,4,0] H Z ?_));refine Ap (σ:=Nat) (λi=>[(109,Aa (i:Int)),(4,V l),(108,Aa (n:Int))])
   (λi w=>Sep z (alB b n (Gr C n i) BY (CZ n)::coB a c n m::AY c C n::AG m ([]) 0::plB l ps a b n false::stoA ps pd D G none::R) w/\(i<=n)) (λi=>n-i) 0
   fr_z ⟨(by rw[Sj];exact H),by omega⟩ ?_
 clear H;rintro i w ⟨e,r⟩;have H:=e.l6;have a8:=r;clear r;refine Z0 6 [0] Z (Ag Z (λh4=>?_) (λh4=>?_))
 ·refine Z2 17 [1,4,0] H Z (Ah Z (call50 _) (Gq _ _ _ _ _ _ U U) H.f2.f2 ?_);intro w H;refine Z0 3 [0] Z (Ag Z (λh5=>?_) (λh5=>?_))
  ·have a2:0<C i:=by omega
   refine Z2 6 [2,4,0] H Z (Ah Z (call82 _) (PM _ _ _ _ _ i U U (Wh U)) H.f2 ?_);intro w H;rw[Sk a2] at H;refine Z1 7 [] [(i:Int)+1] Z U (gf ?_);intro _ g;refine ⟨(i+1),g.cz,⟨H,?_⟩,?_⟩
   ·omega
   omega
  have s:¬0<C i:=by omega
  refine Z1 7 [] [(i:Int)+1] Z U ?_;replace H:=H.f5.f5.f5.f4.f4.f5;refine gf ?_;intro _ g;refine ⟨(i+1),g.cz,⟨(by rw[<-Sl s];exact H),?_⟩,?_⟩
  ·omega
  omega
 obtain rfl:n=i:=by omega
 refine Zc 2 Z (gx (Zc 3 Z ?_));rw[UM] at H;refine Z2 5 [2,4,0] H Z (Ah Z (call49 _) (Kv _ _ _ _ _) H ?_);intro w H;rw[Nm] at H;refine Zc 10 Z (Zr Z ?_);exact ⟨_,⟨l,a,c,m,b,Z,Z⟩,H.perm 6 [5,4,1,2,3,0] Z Z⟩
section
variable{Tb:Ai}
def BZ{α:Type}(f:Nat->α)(a:Nat)(x:α):Nat->α:=λi=>if i=a then x else f i
theorem Wi{α:Type}(f:Nat->α)(a:Nat)(x:α):BZ f a x a=x:=by simp[BZ]
theorem L3{α:Type}(f:Nat->α){a b:Nat}(x:α)(h:b≠a):BZ f a x b=f b:=by simp[BZ,h]
structure PoX where
 ps:Nat
 pd:Nat
 pc:Nat
 bn:Nat
 mm:Nat
 pa:Nat
 D:Dsk
 G:StG
 g:Bc
 l:List IE
 clk:Nat
 Dd:Nat->Bool
 A:Ai
structure PoT where
 M:Nat->Pg
 C:Nat->Nat
 F:Nat->Bool
 k:Nat
def poC(C0:Nat->Nat):Option PoT->Nat->Nat
 | none=>C0
 | some T=>T.C
def Wj(n:Nat)(C0:Nat->Nat):Option PoT->Nat->Bool
 | none=>BH n C0
 | some T=>T.F
def XS(g:Bc):Option PoT->GZ
 | none=>none
 | some T=>some (g,T.k)
def Tj(pp n:Nat)(C0:Nat->Nat)(t:Option PoT)(X:PoX):List Ai:=
 [plB pp X.ps X.pc X.pa n t.isSome,stoA X.ps X.pd X.D X.G (XS X.g t),coB X.pc X.bn n X.mm,AY X.bn (poC C0 t) n,AG X.mm X.l X.clk,alB X.pa n (Wj n C0 t) X.Dd (BH n C0),X.A]
structure PoQ(n:Nat)(C0:Nat->Nat)(T:PoT)(X:PoX):Prop where
 m:∀p,(p=0\/manyN n<p)->T.M p=EG X.G.M (some (X.g,T.k)) p
 gn:∀i,i<manyN n->X.g (1+i)=none
 W:WasOk T.C C0 n X.l X.clk
 c:∀k,T.C k<=1000
 df:Cy T.F X.Dd=BH n T.C
 dj:∀p,X.Dd p=true->T.F p=false
 one:∀p,p<=manyN n->T.C p=1
structure PoP(Tb:Ai)(mb n:Nat)(M0:Nat->Pg)(C0:Nat->Nat)(t:Option PoT)(X:PoX):Prop where
 hn:16<=n/\n<=1024
 fine:Fine X.D X.G mb
 pg:X.G.x.pages=n
 tab:F1 X.A/\X.A=Tb
 m0:∀p,(p=0\/manyN n<p)->M0 p=X.G.M p
 cp:∀i,i<manyN n->X.G.M (1+i)=CL C0 n i
 c0:∀k,C0 k<=1000
 one:∀p,p<=manyN n->C0 p=1
 idle:t=none->X.l=[]/\X.Dd=BY
 tx:∀T,t=some T->PoQ n C0 T X
def poA(Tb:Ai)(pp mb n:Nat)(M0:Nat->Pg)(C0:Nat->Nat)(t:Option PoT):Ai:=λh=>∃X,PoP Tb mb n M0 C0 t X/\seps (Tj pp n C0 t X) h
variable{z w:World}{Γ:List Ai}{pp mb n:Nat}{M0:Nat->Pg}{C0:Nat->Nat}{t:Option PoT}{T:PoT}
theorem Sep.po(H:Sep z (poA Tb pp mb n M0 C0 t::Γ) w):∃X,PoP Tb mb n M0 C0 t X/\Sep z (Tj pp n C0 t X++Γ) w:=
 H.into (p:=λX=>PoP Tb mb n M0 C0 t X) (As:=λX=>Tj pp n C0 t X) (λ_ q=>q)
theorem Sep.toPo{X:PoX}(H:Sep z Γ w)(b:PoP Tb mb n M0 C0 t X)(a:Γ.take 7=Tj pp n C0 t X):Sep z (poA Tb pp mb n M0 C0 t::Γ.drop 7) w:=
 H.made 7 (λh q=>⟨X,b,by rwa[a] at q⟩)
structure PoK(n:Nat)(T:PoT):Prop where
 c:∀k,T.C k<=1000
 free:∀p,T.F p=true->p<n/\T.C p=0/\manyN n<p
 one:∀p,p<=manyN n->T.C p=1
theorem PoQ.k{X:PoX}(Q:PoQ n C0 T X)(b:16<=n):PoK n T:=by
 refine ⟨Q.c,λp hp=>?_,Q.one⟩;have a:BH n T.C p=true:=by rw[<-Q.df];simp[Cy,hp]
 simp[BH] at a;refine ⟨a.1,a.2,?_⟩;rcases Yg (manyN n) p with h|h
 ·exact h
 have:=Q.one p h;omega
def XT(n:Nat)(M0:Nat->Pg)(C0:Nat->Nat):PoT:=⟨M0,C0,BH n C0,0⟩
theorem JZ(pp mb n:Nat)(M0:Nat->Pg)(C0:Nat->Nat):An 11 [V pp] [poA Tb pp mb n M0 C0 none] (λv G=>v=Aa 0/\G=[poA Tb pp mb n M0 C0 (some (XT n M0 C0))]):=by
 intro z R w H;obtain ⟨X,a,H⟩:=H.po;obtain ⟨b,c⟩:=a.idle Z;refine Ret.mono (Cn.at (Se pp X.ps X.pd X.pc X.bn X.mm X.pa n X.D X.G) H 7 [0,1,2,3,4,5,6] Z Z) ?_;rintro v w' ⟨Γ',⟨rfl,rfl⟩,d⟩;refine ⟨_,⟨Z,Z⟩,d.toPo (X:= {X with g:=CQ}) ⟨a.hn,a.fine,a.pg,a.tab,a.m0,a.cp,a.c0,a.one,λe=>(by cases e),λT e=>?_⟩ Z⟩;cases e;refine ⟨λp hp=>a.m0 p hp,λ_ _=>rfl,?_,a.c0,?_,λp hp=>?_,a.one⟩
 ·show WasOk C0 C0 n X.l X.clk
  rw[b];exact WasOk.nil _ _ _
 ·show Cy (BH n C0) X.Dd=BH n C0
  rw[c];exact Nm _
 have:X.Dd p=true:=hp;rw[c] at this;cases this
theorem GT(pp mb n:Nat)(M0:Nat->Pg)(C0:Nat->Nat)(T:PoT)(r:T.k+manyN n<=40)(o:mb<=1000000000):An 14 [V pp] [poA Tb pp mb n M0 C0 (some T)] (λv G=>v=Aa 0/\G=[poA Tb pp (mb+2) n T.M T.C none]):=by
 intro z R w H;obtain ⟨X,a,H⟩:=H.po;have Q:=a.tx T Z;refine Ret.mono (Cn.at (PU pp X.ps X.pd X.pc X.bn X.mm X.pa n X.D X.G mb X.g T.k T.C C0 X.l X.clk T.F X.Dd (BH n C0) Q.W a.hn a.pg Q.gn r Q.c a.fine o) H 7 [1,0,2,3,4,5,6] Z Z) ?_;rintro v w' ⟨Γ',⟨D2,G2,g,k,zs,f,q,t,_,b,s,rfl,rfl⟩,j⟩;have H3:=j.pick 7 [1,0,2,3,4,5,6] Z;rw[Q.df] at H3;refine ⟨_,⟨Z,Z⟩,H3.toPo (X:= {X with l:=[],Dd:=BY,D:=D2,G:=G2}) ⟨a.hn,t,?_,a.tab,λp hp=>?_,λi d=>?_,Q.c,Q.one,λ_=>⟨Z,Z⟩,λT e=>(by cases e)⟩ Z⟩
 ·have:=a.pg
  rcases s with e|e
  ·show G2.x.pages=_;rw[e];exact this
  show G2.x.pages=_;rw[e];exact this
 ·rw[Q.m p hp]
  show _=G2.M p;rw[b];simp only[EG];rw[f.old p hp]
 show G2.M (1+i)=_;rw[b];simp only[EG];rcases f.done q d with h|⟨h,e⟩
 ·rw[h];rfl
 rw[h,<-e];exact a.cp i d
theorem UO(pp mb n:Nat)(M0:Nat->Pg)(C0:Nat->Nat)(t:Option PoT)(p:Nat)(hp:p<n):An 18 [V pp,Aa (p:Int)] [poA Tb pp mb n M0 C0 t] (λv G=>v=Aa (poC C0 t p:Int)/\G=[poA Tb pp mb n M0 C0 t]):=by
 intro z R w H;obtain ⟨X,a,H⟩:=H.po;refine Ret.mono (Cn.at (Sf pp X.ps X.pc X.bn X.mm X.pa n t.isSome (poC C0 t) p hp a.hn) H 7 [0,2,3,1,4,5,6] Z Z) ?_;rintro v w' ⟨Γ',⟨rfl,rfl⟩,b⟩;exact ⟨_,⟨Z,Z⟩,(b.pick 7 [0,3,1,2,4,5,6] Z).toPo a Z⟩
theorem Hn(pp mb n:Nat)(M0:Nat->Pg)(C0:Nat->Nat)(t:Option PoT):An 10 [V pp] [poA Tb pp mb n M0 C0 t] (λv G=>v=Aa (cnt (Wj n C0 t) 0 1024:Int)/\G=[poA Tb pp mb n M0 C0 t]):=by
 intro z R w H;obtain ⟨X,b,H⟩:=H.po;refine Ret.mono (Cn.at (UF pp X.ps X.pc X.pa n t.isSome (Wj n C0 t) X.Dd (BH n C0)) H 7 [0,5,1,2,3,4,6] Z Z) ?_;rintro v w' ⟨Γ',⟨rfl,rfl⟩,a⟩;exact ⟨_,⟨Z,Z⟩,(a.pick 7 [0,2,3,4,5,1,6] Z).toPo b Z⟩
theorem PoQ.put{X:PoX}{p:Nat}{x:Pg}(Q:PoQ n C0 T X)(hp:p=0\/manyN n<p)(b:Nat):PoQ n C0 {T with M:=BZ T.M p x,k:=b} {X with g:=pgSet X.g p x} :=by
 refine ⟨λq hq=>?_,λi a=>?_,Q.W,Q.c,Q.df,Q.dj,Q.one⟩
 ·simp only[BZ,EG,pgSet]
  split
  ·rfl
  exact Q.m q hq
 show pgSet X.g p x (1+i)=none;unfold pgSet;rw[if_neg U];exact Q.gn i a
theorem XU(pp mb n:Nat)(M0:Nat->Pg)(C0:Nat->Nat)(T:PoT)(p:Nat)(hp:manyN n<p/\p<n)(g:1<=T.C p/\T.C p<1000):
  An 17 [V pp,Aa (p:Int)] [poA Tb pp mb n M0 C0 (some T)] (λv G=>v=Aa 0/\G=[poA Tb pp mb n M0 C0 (some {T with C:=BZ T.C p (T.C p+1)})]):=by
 intro z R w H;obtain ⟨X,a,H⟩:=H.po;have Q:=a.tx T Z;refine Ret.mono (Cn.at (Wg pp X.ps X.pc X.bn X.mm X.pa n T.C C0 X.l X.clk Q.W a.hn p hp g) H 7 [0,2,3,4,1,5,6] Z Z) ?_;rintro v w' ⟨Γ',⟨d,b,W2,rfl,rfl⟩,f⟩;refine ⟨_,⟨Z,Z⟩,((f.pick 7 [0,4,1,2,3,5,6] Z).toPo (X:= {X with l:=d,clk:=b}) (t:=some {T with C:=BZ T.C p (T.C p+1)}) ⟨a.hn,a.fine,a.pg,a.tab,a.m0,a.cp,a.c0,a.one,λe=>(by cases e),λT' e=>?_⟩ Z)⟩;cases e;refine ⟨Q.m,Q.gn,W2,λk=>?_,?_,Q.dj,λq hq=>?_⟩
 ·show BZ T.C p (T.C p+1) k<=1000
  unfold BZ;split
  ·omega
  exact Q.c k
 ·show Cy T.F X.Dd=BH n (BZ T.C p (T.C p+1))
  rw[Q.df];funext q;unfold BH BZ;split
  ·rename_i e;subst e;simp;omega
  rfl
 show BZ T.C p (T.C p+1) q=1;rw[L3 _ _ U];exact Q.one q hq
theorem L4(pp mb n:Nat)(M0:Nat->Pg)(C0:Nat->Nat)(T:PoT)(p:Nat)(hp:manyN n<p/\p<n)(i:T.C p=1):
  An 15 [V pp,Aa (p:Int)] [poA Tb pp mb n M0 C0 (some T)] (λv G=>v=Aa 0/\G=[poA Tb pp mb n M0 C0 (some {T with C:=BZ T.C p 0})]):=by
 intro z R w H;obtain ⟨X,a,H⟩:=H.po;have Q:=a.tx T Z;have f:(T.F p||X.Dd p)=false:=by
  have:Cy T.F X.Dd p=BH n T.C p:=by rw[Q.df]
  unfold Cy BH at this;rw[this];simp;omega
 simp at f;refine Ret.mono (Cn.at (UG pp X.ps X.pc X.bn X.mm X.pa n T.C C0 X.l X.clk Q.W a.hn p hp T.F X.Dd (BH n C0) i f.1 f.2) H 7 [0,2,3,4,5,1,6] Z Z) ?_;rintro v w' ⟨Γ',⟨g,d,W2,rfl,rfl⟩,h⟩;refine ⟨_,⟨Z,Z⟩,((h.pick 7 [0,5,1,2,3,4,6] Z).toPo (X:= {X with l:=g,clk:=d,Dd:=Fd X.Dd p}) (t:=some {T with C:=BZ T.C p 0}) ⟨a.hn,a.fine,a.pg,a.tab,a.m0,a.cp,a.c0,a.one,λe=>(by cases e),λT' e=>?_⟩ Z)⟩;cases e;refine ⟨Q.m,Q.gn,W2,λk=>?_,?_,λq hq=>?_,λq hq=>?_⟩
 ·show BZ T.C p 0 k<=1000
  unfold BZ;split
  ·omega
  exact Q.c k
 ·show Cy T.F (Fd X.Dd p)=BH n (BZ T.C p 0)
  funext q;have:Cy T.F X.Dd q=BH n T.C q:=by rw[Q.df]
  unfold Cy BH at this;unfold Cy Fd BH BZ;rw[<-Bool.or_assoc,this];by_cases e:q=p
  ·subst e;simp[hp.2]
  simp[e]
 ·have b:Fd X.Dd p q=true:=hq
  unfold Fd at b;by_cases e:q=p
  ·subst e;exact f.1
  simp[e] at b;exact Q.dj q b
 show BZ T.C p 0 q=1;rw[L3 _ _ U];exact Q.one q hq
end
section
variable{Tb:Ai}
variable{z w:World}{Γ:List Ai}{pp mb n:Nat}{M0:Nat->Pg}{C0:Nat->Nat}{t:Option PoT}{T:PoT}
theorem Nn(pp mb n:Nat)(M0:Nat->Pg)(C0:Nat->Nat)(T:PoT)(x:Pg)(hx:x.Ok)(o:Value)(B:Ai)(hB:∀h,B h->rdH 1 o 240 (x.body.map u8) h)(hk:T.k<40):
  An 12 [V pp,.agg #[Aa x.kind,o]] [poA Tb pp mb n M0 C0 (some T),B] (λv G=>(cnt T.F 0 1024=0/\v=.tuple #[Aa 0,Aa 20]/\G=[poA Tb pp mb n M0 C0 (some T),B])\/
   ∃p f:Nat,((T.F p=true/\∀q,q<p->T.F q=false)/\f<=T.k+1/\cnt (Cq T.F p) 0 1024+1=cnt T.F 0 1024)/\v=.tuple #[Aa (p:Int),Aa 0]/\G=[poA Tb pp mb n M0 C0 (some ⟨BZ T.M p x,BZ T.C p 1,Cq T.F p,f⟩),B]):=by
 intro z R w H;obtain ⟨X,a,H⟩:=H.po;have Q:=a.tx T Z;have K:=Q.k a.hn.1;have hn:=a.hn;by_cases hno:∀q,q<1024->T.F q=false
 ·refine Ret.mono (Cn.at (PT pp X.ps X.pc X.pa n x hx o B hB T.F X.Dd (BH n C0) hno) H 8 [0,5,7,1,2,3,4,6] Z Z) ?_
  rintro v w' ⟨Γ',⟨rfl,rfl⟩,y⟩;refine ⟨_,.inl ⟨?_,Z,Z⟩,(y.pick 8 [0,3,4,5,6,1,7,2] Z).toPo a Z⟩;rw[FG (F:=T.F) (G:=BY) (λi hi=>by rw[hno _ U];rfl)];have:∀m,cnt BY 0 m=0:=λm=>by
   induction m with
   | zero=>rfl
   | succ m ih=>simp only[cnt,ih,BY];rfl
  exact this _
 have s:∃p,T.F p=true/\∀q,q<p->T.F q=false:=by
  have b:∃q,T.F q=true:=Aag λh=>hno (λq _=>by
   cases e:T.F q with
   | false=>rfl
   | true=>exact absurd ⟨q,e⟩ h)
  obtain ⟨q,hq⟩:=b;have:∀m q,q<=m->T.F q=true->∃p,T.F p=true/\∀q,q<p->T.F q=false:=λm=>by
   induction m with
   | zero=>intro q b u;exact ⟨q,u,λr hr=>by omega⟩
   | succ m ih=>
    intro q b u;by_cases h3:∃r,r<q/\T.F r=true
    ·obtain ⟨r,h4,h5⟩:=h3
     exact ih r U h5
    refine ⟨q,u,λr hr=>?_⟩
    cases e:T.F r with
    | false=>rfl
    | true=>exact absurd ⟨r,hr,e⟩ h3
  exact this q q (Yp _) hq
 obtain ⟨p,b,h0⟩:=s;obtain ⟨k1,f,k3⟩:=K.free p b;have hd:X.Dd p=false:=by
  cases e:X.Dd p with
  | false=>rfl
  | true=>have:=Q.dj p e;rw[b] at this;cases this
 refine Ret.mono (Cn.at (Sg pp X.ps X.pd X.pc X.bn X.mm X.pa n X.D X.G X.g T.k T.C C0 X.l X.clk T.F X.Dd (BH n C0) Q.W a.hn a.pg p x hx o B hB (λq=>by omega) k1 b h0 f X.A a.tab.1) H 8 [1,0,2,3,4,5,6,7] Z Z) ?_;rintro v w' ⟨Γ',⟨l2,d,W2,rfl,rfl⟩,y⟩;refine ⟨_,.inr ⟨p,_,⟨⟨b,h0⟩,?_,?_⟩,Z,Z⟩,((y.pick 8 [1,0,2,3,4,5,6,7] Z).toPo (X:= {X with g:=pgSet X.g p x,l:=l2,clk:=d}) (t:=some ⟨BZ T.M p x,BZ T.C p 1,Cq T.F p,T.k+(if (X.g p).isSome then 0 else 1)⟩) ⟨a.hn,a.fine,a.pg,a.tab,a.m0,a.cp,a.c0,a.one,λe=>(by cases e),λT' e=>?_⟩ Z)⟩
 ·split<;>omega
 ·exact L0 (F:=T.F) (G:=Cq T.F p) (i:=p) U b (by simp[Cq]) (λj hj=>by simp[Cq,hj])
 cases e
 have Q2:=Q.put (x:=x) (.inr k3) 0;refine ⟨Q2.m,Q2.gn,W2,λk=>?_,?_,λq hq=>?_,λq hq=>?_⟩
 ·show BZ T.C p 1 k<=1000
  unfold BZ;split
  ·omega
  exact Q.c k
 ·show Cy (Cq T.F p) X.Dd=BH n (BZ T.C p 1)
  funext q;have:Cy T.F X.Dd q=BH n T.C q:=by rw[Q.df]
  unfold Cy BH at this;unfold Cy Cq BH BZ;by_cases e:q=p
  ·subst e;simp[hd]
  simp only[e,decide_false,Bool.not_false,Bool.and_true,if_false];exact this
 ·have:=Q.dj q hq
  show Cq T.F p q=false;unfold Cq;rw[this];rfl
 show BZ T.C p 1 q=1;rw[L3 _ _ U];exact Q.one q hq
end
attribute [local irreducible] CN Ch
theorem Sm{xs:List UInt8}{j:Nat}{b:UInt8}(h:xs[j]?=some b):IntKind.i64.wrap (IntKind.i64.wrap (256*A0 (xs.take j))+(b.toNat:Int))=A0 (xs.take (j+1)):=by
 rw[Int.mul_comm];exact Hd h
theorem Sn{s:UInt32}{i:Nat}(h:i<4):(CY s)[i]?=some (s>>>UInt32.ofNat (8*i)).toUInt8:=by
 match i,h with
 | 0,_=>
  have e:s>>>UInt32.ofNat (8*0)=s:=UInt32.shiftRight_zero;rw[e];rfl
 | 1,_=>rfl
 | 2,_=>rfl
 | 3,_=>rfl
theorem IF{xs bs:List UInt8}{i:Nat}(h:xs.take i=bs.take i)(a:xs.length<=i)(b:bs.length<=i):xs=bs:=by
 rwa[X0 a,X0 b] at h
theorem UP(c:UInt32)(v:Value)(bs:List UInt8)(A:Ai)(l:∀h,A h->rdH 1 v bs.length (bs.map u8) h):An 242 [u32 c,v] [A] (λv G=>v=u32 (Db c bs)/\G=[A]):=by
 intro z R w H;obtain ⟨e,g,rfl⟩:=H.sy 0 (λq=>(l _ q).slc);have m:=H.sy 0 (λq=>(l _ q).small);refine Af func242 Z ntmps242 Z (Zc 8 Z (Ad Z (Hw Z Z) (Zc 10 Z ?_)));refine Ap (σ:=Nat) (λi=>[(6,Aa (i:Int)),(5,u32 ((bs.take i).foldl C9 (4294967295 ^^^ c))),(1,.slice e bs.length g),(4,u32 0)])
   (λi w=>Sep z (A::R) w/\(i<=bs.length)) (λi=>bs.length-i) 0
   (λ_ a=>(a.co Z (by go_num) a.cz)) ⟨H,Yi _⟩ ?_
 clear H;rintro i w ⟨n,f⟩;have H:=n.l1;have y:=f;clear f;refine Z0 9 [0] Z (Ag Z (λp=>?_) (λp=>?_))
 ·obtain ⟨b,o⟩:∃b,bs[i]?=some b:=⟨_,XW U⟩;refine Zc 5 Z ?_;have d:=(H.rd 0 Z l).at (j:=i) (u:=u8 b) (by simp[o])
  refine Zc 4 Z (Ad Z (Ar Z (z:=1) (j:=i) (r:=i) J Z Z Z U d U) (Ad Z (AK Z Z J (AA d)) (Ad Z (Ty Z J Z) (Ad Z (Hv Z Z Z) (Zc 9 Z ?_)))));refine Ap (σ:=Nat) (λk=>[(7,Aa (k:Int)),(5,u32 (Ch k (((bs.take i).foldl C9 (4294967295 ^^^ c)) ^^^ b.toUInt32))),(1,.slice e bs.length g),(4,u32 0),(6,Aa (i:Int)),(11,Aa (i:Int)),(12,.slice e bs.length g),(13,Aa (bs.length:Int)),(14,.bool (decide ((i:Int)<(bs.length:Int)))),(17,u32 ((bs.take i).foldl C9 (4294967295 ^^^ c))),(18,.slice e bs.length g),(19,Aa (i:Int)),(20,Fb e i),(21,u8 b),(22,u32 b.toUInt32),(23,u32 (((bs.take i).foldl C9 (4294967295 ^^^ c)) ^^^ b.toUInt32))])
    (λk w=>Sep z (A::R) w/\(k<=8)) (λk=>8-k) 0
    (λ_ a=>(a.co Z (by go_num) (a.co Z (congrArg u32 (EV _).symm) (a.all Z)))) ⟨H,Yi _⟩ ?_
  clear H;rintro k w ⟨n,f⟩;have H:=n.l1;have x:=f;clear f;refine Z0 7 [0] Z (Ag Z (λt=>?_) (λt=>?_))
  ·refine Zc 7 Z (Ad Z (VQ Z Z Z) (Zc 6 Z (Ad Z (VR Z Z Z) (Zc 6 Z (Ad Z (Tv (q:=1) (k:=.u32) Z J Z Z) (Zc 2 Z (Ag Z (λs=>?_) (λs=>?_))))))))
   ·refine Zc 2 Z (Ad Z (Hv (q:=2197175160) Z Z Z) (Z1 9 [] [(k:Int)+1] Z U (gf ?_)));intro _ a;refine ⟨(k+1),(a.co Z (by go_num) (a.co Z (congrArg u32 (by rw[Gk];first|rw[HZ (by assumption)]|rw[N8 ((bit1 _).resolve_right (by assumption))])) (a.all Z))),⟨H,?_⟩,?_⟩
    ·omega
    omega
   refine Z1 8 [] [(k:Int)+1] Z U (gf ?_);intro _ a;refine ⟨(k+1),(a.co Z (by go_num) (a.co Z (congrArg u32 (by rw[Gk];first|rw[HZ (by assumption)]|rw[N8 ((bit1 _).resolve_right (by assumption))])) (a.all Z))),⟨H,?_⟩,?_⟩
   ·omega
   omega
  obtain rfl:k=8:=by omega
  refine Zc 2 Z (gx (Z1 8 [] [(i:Int)+1] Z U (gf ?_)));intro _ a;refine ⟨(i+1),(a.co Z (by go_num) (a.co Z (congrArg u32 (by rw[Ye,o,RS];simp)) (a.all Z))),⟨H,?_⟩,?_⟩
  ·omega
  omega
 refine Zc 2 Z (gx (Zc 5 Z (Ad Z (Hw Z Z) (Zc 4 Z (Zr Z ?_)))));obtain rfl:i=bs.length:=by omega
 exact ⟨_,⟨congrArg u32 (by simp[Db]),Z⟩,H⟩
theorem L5(v:Value)(bs:List UInt8)(A:Ai)(a:∀h,A h->rdH 1 v bs.length (bs.map u8) h):An 222 [v] [A] (λv G=>v=u32 (Av bs)/\G=[A]):=by
 intro z R w H;refine Af func222 Z ntmps222 Z (Zc 8 Z (Ah Z (call242 _) (UP 0 _ bs A a) H ?_));intro w H;refine Zc 4 Z (Zr Z ?_);exact ⟨_,⟨Z,Z⟩,H⟩
theorem B7(v:Value)(xs:List UInt8)(x:Int)(k:Nat)(h:1<=k/\k<=8)(e:xs.length<=1048576):An 157 [v,Aa x,Aa (k:Int)] [bsA 5 v xs] (λv G=>∃a:Value,v=a/\G=[grow 5 1 a (xs++Ae k x).length ((xs++Ae k x).map u8)]):=by
 intro z R w H;refine Af func157 Z ntmps157 Z (Z1 14 [] [(k:Int)-1] Z U ?_);refine Ap (σ:=Nat×Value) (λ⟨j,u⟩=>[(7,Aa ((k:Int)-1-(j:Int))),(0,u),(1,Aa x),(6,.slice none 0 0)])
   (λ⟨j,u⟩ w=>Sep z (pmA 5 xs (Ae k x) u j::R) w/\(j<=k)) (λ⟨j,u⟩=>k-j) ⟨0,v⟩
   fr_z ⟨(RZ H),Yi _⟩ ?_
 clear H;rintro ⟨j,u⟩ w ⟨c,b⟩;dsimp only at b c ⊢;have H:=c.l1;have i:=b;clear b;refine Z0 7 [0] Z (Ag Z (λf=>?_) (λf=>?_))
 ·refine Z1 9 [] [((8*(k-1-j):Nat):Int)] Z U (Ad Z (O1 Z Z Z (m:=8*(k-1-j)) Z U) (Ad Z (KI Z J Z) (AC Z (AI H Z J A2 Z (by decide) (by decide) (out:=[u8 (EL (x/2^(8*(k-1-j))))]) J) ?_)));rintro _ w ⟨l,rfl,H⟩;replace H:=H.f1;refine AC Z (PE H Z J A2 Z Z (H.rv 1 (·.rd U U O Z)) (beN_get x U) U) ?_;rintro a w H;refine Zc 2 Z ?_;replace H:=(Ut H).l2
  refine Z1 7 [] [(k:Int)-1-((j+1:Nat):Int)] Z U ?_;replace H:=H.f1.d;refine gf ?_;intro _ g;refine ⟨⟨j+1,a⟩,g.cz,⟨H,?_⟩,?_⟩
  ·show j+1<=k;omega
  (dsimp only;omega)
 refine Zc 2 Z (gx (Zc 3 Z ?_));obtain rfl:j=k:=by omega
 replace H:=(VT U (Ac _ _).symm H).l1;refine Zc 6 Z (Zr Z ?_);exact ⟨_,⟨_,Z,Z⟩,H⟩
theorem B4(v:Value)(bs:List UInt8)(A:Ai)(e:∀h,A h->rdH 1 v bs.length (bs.map u8) h)(a k:Nat)(s:a+k<=bs.length/\k<=8):An 142 [v,Aa (a:Int),Aa (k:Int)] [A] (λv G=>v=Aa (A0 ((bs.drop a).take k))/\G=[A]):=by
 intro z R w H;obtain ⟨n,p,rfl⟩:=H.sy 0 (λq=>(e _ q).slc);have f:=H.sy 0 (λq=>(e _ q).small);refine Af func142 Z ntmps142 Z (Zc 18 Z ?_);refine Ap (σ:=Nat) (λj=>[(8,Aa ((a+j:Nat):Int)),(7,Aa (A0 ((bs.drop a).take j))),(0,.slice n bs.length p),(1,Aa (a:Int)),(2,Aa (k:Int)),(6,Aa 0)])
   (λj w=>Sep z (A::R) w/\(j<=k)) (λj=>k-j) 0
   (λ_ c=>(c.co Z (by go_num) c.cz)) ⟨H,Yi _⟩ ?_
 clear H;rintro j w ⟨o,i⟩;have H:=o.l1;have t:=i;clear i;refine Z1 10 [0] [((a+k:Nat):Int)] Z U (Ag Z (λl=>?_) (λl=>?_))
 ·obtain ⟨b,g⟩:∃b,bs[a+j]?=some b:=⟨_,XW U⟩;refine Z0 18 [0] Z (Ag Z (λm=>?_) (λm=>?_))
  ·have d:=(H.rd 0 Z e).at (j:=a+j) (u:=u8 b) (by simp[g])
   refine Zc 3 Z (Ad Z (Ar Z (z:=1) (j:=(a+j)) (r:=(a+j)) J Z Z Z U d U) (Ad Z (AK Z Z J (AA d)) (Ad Z (KJ Z J Z) (Zc 5 Z (Ad Z (SN Z Z Z) (Zc 1 Z (Ad Z (SM Z Z Z) (Z1 9 [] [((a+(j+1):Nat):Int)] Z U (gf ?_)))))))));intro _ c;refine ⟨(j+1),(c.co Z Z (c.co Z (congrArg Aa (Sm (by rw[YN];exact g))) (c.all Z))),⟨H,?_⟩,?_⟩
   ·omega
   omega
  (exfalso;omega)
 refine Zc 2 Z (gx (Zc 9 Z (Zr Z ?_)));obtain rfl:j=k:=by omega
 exact ⟨_,⟨Z,Z⟩,H⟩
theorem Fq(v:Value)(xs:List UInt8)(m:Nat)(l:xs.length<=m/\m<=1048576):An 141 [v,Aa (m:Int)] [grow 5 1 v xs.length (xs.map u8)] (λv G=>∃b:Value,v=b/\G=[grow 5 1 b (xs++List.replicate (m-xs.length) 0).length ((xs++List.replicate (m-xs.length) 0).map u8)]):=by
 intro z R w H;refine Af func141 Z ntmps141 Z (Zc 7 Z ?_);refine Ap (σ:=Nat×Value) (λ⟨j,u⟩=>[(0,u),(1,Aa (m:Int)),(4,.slice none 0 0)])
   (λ⟨j,u⟩ w=>Sep z (grow 5 1 u (xs.length+j) ((xs++List.replicate j 0).map u8)::R) w/\(xs.length+j<=m)) (λ⟨j,u⟩=>m-j) ⟨0,v⟩
   (λ_ f=>(f.all Z)) ⟨(by simpa using H),l.1⟩ ?_
 clear H;rintro ⟨j,u⟩ w ⟨a,e⟩;dsimp only at e a ⊢;have H:=a.l1;have h:=H.sy 0 (·.slc);have n:=e;clear e;refine Zc 4 Z (Ad Z (G8 Z (sz:=1) J Z h) (Z0 4 [0] Z (Ag Z (λi=>?_) (λi=>?_))))
 ·refine Zc 5 Z (AC Z (AI H Z J A2 Z (by decide) (by decide) (out:=[u8 0]) J) ?_);rintro _ w ⟨g,rfl,H⟩;refine AC Z (AJ 1 H Z Z J A2 Z Z (H.rv 0 (·.rd U U O Z)) (by simp[u8,Value.oneCell']) U) ?_;rintro b w a;have a:Sep z (blk g [u8 0] 5::grow 5 1 b ((xs.length+j)+1) ((xs++List.replicate j 0).map u8++[u8 0])::R) w:=a
  have c:((xs++List.replicate j 0).map u8++[u8 0]:List Value)=(xs++List.replicate (j+1) 0).map u8:=(by rw[List.replicate_succ'];simp[u8]);rw[c] at a;rw[show ((xs.length+j)+1:Nat)=(xs.length+(j+1)) from by omega] at a;have H:=a.l2;have k:=H.sy 1 (·.slc);refine Zc 3 Z ?_;replace H:=H.d;refine gf ?_;intro _ f;refine ⟨⟨j+1,b⟩,(f.all Z),⟨H,?_⟩,?_⟩
  ·show xs.length+(j+1)<=m;omega
  (dsimp only;omega)
 refine Zc 2 Z (gx (Zc 9 Z (Zr Z ?_)));obtain rfl:j=m-xs.length:=by omega
 rw[show xs.length+(m-xs.length)=(xs++List.replicate (m-xs.length) (0:UInt8)).length from by simp] at H;exact ⟨_,⟨_,Z,Z⟩,H⟩
theorem P0(v:Value)(xs:List UInt8)(m:xs.length<=1048576):An 219 [v,v] [grow 5 1 v xs.length (xs.map u8)] (λv G=>∃b:Value,v=b/\G=[grow 5 1 b (xs++CY (Av xs)).length ((xs++CY (Av xs)).map u8)]):=by
 intro z R w H;refine Af func219 Z ntmps219 Z (Zc 8 Z (Ah Z (call222 _) (L5 _ xs _ (λh q=>q.rd)) H ?_));intro w H;refine Zc 10 Z ?_;refine Ap (σ:=Nat×Value) (λ⟨j,u⟩=>[(6,Aa (j:Int)),(0,u),(4,.slice none 0 0),(5,u32 (Av xs))])
   (λ⟨j,u⟩ w=>Sep z (grow 5 1 u (xs.length+j) ((xs++(CY (Av xs)).take j).map u8)::R) w/\(j<=4)) (λ⟨j,u⟩=>4-j) ⟨0,v⟩
   fr_z ⟨(by simpa using H),Yi _⟩ ?_
 clear H;rintro ⟨j,u⟩ w ⟨a,e⟩;dsimp only at e a ⊢;have H:=a.l1;have n:=H.sy 0 (·.slc);have l:=e;clear e;refine Z0 7 [0] Z (Ag Z (λg=>?_) (λg=>?_))
 ·refine Z1 9 [] [((8*j:Nat):Int)] Z U (Ad Z (Fl Z Z Z (n':=UInt32.ofNat (8*j)) ⟨by omega,by omega,Z⟩) (Ad Z (Fm Z J Z) (AC Z (AI H Z J A2 Z (by decide) (by decide) (out:=[u8 ((Av xs>>>UInt32.ofNat (8*j)).toUInt8)]) J) ?_)));rintro _ w ⟨f,rfl,H⟩;refine AC Z (AJ 1 H Z Z J A2 Z Z (H.rv 0 (·.rd U U O Z)) (by simp[u8,Value.oneCell']) U) ?_;rintro b w a;have a:Sep z (blk f [u8 ((Av xs>>>UInt32.ofNat (8*j)).toUInt8)] 5::grow 5 1 b ((xs.length+j)+1) ((xs++(CY (Av xs)).take j).map u8++[u8 ((Av xs>>>UInt32.ofNat (8*j)).toUInt8)])::R) w:=a
  have c:((xs++(CY (Av xs)).take j).map u8++[u8 ((Av xs>>>UInt32.ofNat (8*j)).toUInt8)]:List Value)=(xs++(CY (Av xs)).take (j+1)).map u8:=(by rw[Ye,Sn U];simp);rw[c] at a;rw[show ((xs.length+j)+1:Nat)=(xs.length+(j+1)) from by omega] at a;have H:=a.l2;have i:=H.sy 1 (·.slc);refine Z1 9 [] [(j:Int)+1] Z U ?_;replace H:=H.d;refine gf ?_;intro _ k;refine ⟨⟨j+1,b⟩,k.cz,⟨H,?_⟩,?_⟩
  ·show j+1<=4;omega
  (dsimp only;omega)
 refine Zc 2 Z (gx (Zc 9 Z (Zr Z ?_)));obtain rfl:j=4:=by omega
 rw[X0 (by simp[CY]),show xs.length+4=(xs++CY (Av xs)).length from by simp[CY]] at H;exact ⟨_,⟨_,Z,Z⟩,H⟩
theorem FV(v:Value)(xs:List UInt8)(a:xs.length<=252):An 183 [v] [grow 5 1 v xs.length (xs.map u8)] (λv G=>∃b:Value,v=b/\G=[grow 5 1 b (sect xs).length ((sect xs).map u8)]):=by
 intro z R w H;refine Af func183 Z ntmps183 Z (Zc 8 Z (AB Z (call141 _) (Fq _ xs 252 ⟨by first|omega|(simp only[XY,XZ,X4,X5,X1,Ac,Aj,Ak]<;>omega)|(simp[Ac,Aj,Ak,Sup.list,sect_len]<;>omega)|simp[Ac,Aj,Ak,Sup.list,sect_len],by omega⟩) H ?_));rintro f w _ ⟨_,rfl,rfl⟩ H;have c:=H.sy 0 (·.slc);refine Zc 7 Z (AB Z (call219 _) (P0 _ (xs++List.replicate (252-xs.length) (0:UInt8)) (by first|omega|(simp only[XY,XZ,X4,X5,X1,Ac,Aj,Ak]<;>omega)|(simp[Ac,Aj,Ak,Sup.list,sect_len]<;>omega)|simp[Ac,Aj,Ak,Sup.list,sect_len])) H ?_);rintro e w _ ⟨_,rfl,rfl⟩ H;have d:=H.sy 0 (·.slc);refine Zc 4 Z (Zr Z ?_);rw[PB a,RU a] at H;exact ⟨_,⟨_,Z,Z⟩,H⟩
theorem CT(x m:Int):An 156 [Aa x,Aa m] [] (λv G=>v=.bool (decide (0<=x/\x<=m))/\G=[]):=by
 intro z R w H;refine Af func156 Z ntmps156 Z (Z0 10 [0] Z (Am 7 Z (λa=>?_) (λa=>?_)))
 ·refine Z0 8 [0] Z (Zr Z ?_);exact ⟨_,⟨congrArg Value.bool (by rw[Yf];simp<;>omega),Z⟩,H⟩
 refine Zc 8 Z (Zr Z ?_);exact ⟨_,⟨congrArg Value.bool (by rw[Yf];simp<;>omega),Z⟩,H⟩
theorem EX(s t:Value)(xs bs:List UInt8)(A B:Ai)(f:∀h,A h->rdH 1 s xs.length (xs.map u8) h)(e:∀h,B h->rdH 1 t bs.length (bs.map u8) h):An 140 [s,t] [A,B] (λv G=>v=.bool (decide (xs=bs))/\G=[A,B]):=by
 intro z R w H;obtain ⟨ao,oc,rfl⟩:=H.sy 0 (λq=>(f _ q).slc);have n:=H.sy 0 (λq=>(f _ q).small);obtain ⟨y,x,rfl⟩:=H.sy 1 (λq=>(e _ q).slc);have g:=H.sy 1 (λq=>(e _ q).small);refine Af func140 Z ntmps140 Z (Z0 15 [0] Z (Ag Z (λh1=>?_) (λh1=>?_)))
 ·refine Zc 6 Z (Zr Z ?_);exact ⟨_,⟨congrArg Value.bool (by first|exact (decide_eq_true (IF a U U)).symm|exact (decide_eq_false (λq=>by subst q;first|omega|simp_all)).symm),Z⟩,H⟩
 refine Zc 9 Z ?_;refine Ap (σ:=Nat) (λi=>[(5,Aa (i:Int)),(0,.slice ao xs.length oc),(1,.slice y bs.length x)])
   (λi w=>Sep z (A::B::R) w/\(i<=xs.length/\xs.take i=bs.take i)) (λi=>xs.length-i) 0
   fr_z ⟨H,⟨Yi _,Z⟩⟩ ?_
 clear H;rintro i w ⟨p,hI⟩;have H:=p.l2;obtain ⟨hi,a⟩:=hI;refine Z0 9 [0] Z (Ag Z (λh2=>?_) (λh2=>?_))
 ·obtain ⟨b,m⟩:∃b,xs[i]?=some b:=⟨_,XW U⟩;obtain ⟨c,o⟩:∃c,bs[i]?=some c:=⟨_,XW U⟩;refine Zc 5 Z ?_;have l:=(H.rd 0 Z f).at (j:=i) (u:=u8 b) (by simp[m])
  have d:=(H.rd 1 Z e).at (j:=i) (u:=u8 c) (by simp[o]);refine A4 (Sep z _) J J H.drew (Ca 2 [] Z J (Be Z Z Z (Ar Z (z:=1) (j:=i) (r:=i) J Z Z Z U l U) (Be Z Z Z (AK Z Z J (λ_ hs=>(hs.rd 0 Z f).at (j:=i) (u:=u8 b) (by simp[m]))) (Ca 2 [] Z J (Be Z Z Z (Ar Z (z:=1) (j:=i) (r:=i) J Z Z Z U d U) (Be Z Z Z (AK Z Z J (λ_ hs=>(hs.rd 1 Z e).at (j:=i) (u:=u8 c) (by simp[o]))) (Be Z Z Z (Vm (k:=.u8) Z J Z Z) (Bn (λw p=>?_)))))))));have H:=p.l2;refine gn (Zc 1 Z (Ag Z (λh3=>?_) (λh3=>?_)))
  ·refine Zc 6 Z (Zr Z ?_);exact ⟨_,⟨congrArg Value.bool (by first|exact (decide_eq_true (IF a U U)).symm|exact (decide_eq_false (λq=>by subst q;first|omega|simp_all)).symm),Z⟩,H⟩
  refine Z1 8 [] [(i:Int)+1] Z U (gf ?_);intro _ hF;refine ⟨(i+1),hF.cz,⟨H,?_⟩,?_⟩
  ·exact ⟨by omega,by rw[Ye,Ye,a,m,o];simp_all⟩
  omega
 refine Zc 2 Z (gx (Zc 8 Z (Zr Z ?_)));exact ⟨_,⟨congrArg Value.bool (by first|exact (decide_eq_true (IF a U U)).symm|exact (decide_eq_false (λq=>by subst q;first|omega|simp_all)).symm),Z⟩,H⟩
def DX(m:Img):List UInt8:=Dk m.num.toNat (ER m)
theorem Wk{m:Img}(h:m.Ok):sect (([80,80,65,71]:List UInt8)++Ae 1 m.kind++Ae 4 m.num++List.replicate (12-(([80,80,65,71]:List UInt8)++Ae 1 m.kind++Ae 4 m.num).length) (0:UInt8)++m.body)=DX m:=by
 obtain ⟨a,c,b⟩:=h;unfold DX Dk Ga ER;congr 1;have e:((m.num.toNat:Nat):Int)=m.num:=by omega
 simp[Ac,e]
theorem Od(s:Sup):An 220 [.agg #[Aa s.gen,Aa s.epoch,Aa s.pages,Aa s.start,Aa s.len,Aa s.head,Aa s.seq]] [] (λv G=>∃a:Value,v=a/\G=[grow 3 1 a 7 (s.list.map Aa)]):=by
 intro z R w H;refine Af func220 Z ntmps220 Z (Za 2 [] H Z ?_);intro b w H;refine Z2 19 [0,0,0,1,0,0,2,0,0,3,0,0,4,0,0,5,0,0,6,0,0] H Z (AC Z (AI H Z J BK Z (by decide) (by decide) (out:=[Aa s.gen,Aa s.epoch,Aa s.pages,Aa s.start,Aa s.len,Aa s.head,Aa s.seq]) J) ?_);rintro _ w ⟨c,rfl,H⟩;refine Zc 4 Z (Zr Z ?_);exact ⟨_,⟨_,Z,Z⟩,(H.pick 2 [0] Z).mono 0 Z (λh q=>q.grow U U O Z)⟩
theorem F2(s:Sup)(hs:∀x∈s.list,0<=x/\x<=1099511627776):An 184 [.agg #[Aa s.gen,Aa s.epoch,Aa s.pages,Aa s.start,Aa s.len,Aa s.head,Aa s.seq]] [] (λv G=>∃n:Value,v=.tuple #[n,Aa 0]/\G=[grow 5 1 n (Br s).length ((Br s).map u8)]):=by
 intro z R w H;refine Af func184 Z ntmps184 Z (Za 2 [] H Z ?_);intro l w H;refine Zc 6 Z (AC Z (AI H Z J A2 Z (by decide) (by decide) (out:=[u8 80,u8 83,u8 85,u8 80]) J) ?_);rintro _ w ⟨e,rfl,H⟩;refine AC Z (LK 0 H Z Z J J Z ⟨Z,by omega⟩) ?_;rintro _ w ⟨rfl,b⟩;have b:Sep z (Ku (.slice (some ⟨e,0,none⟩) 4 4) ([80,83,85,80]:List UInt8).length (([80,83,85,80]:List UInt8).map u8)::blk l [Aa s.gen,Aa s.epoch,Aa s.pages,Aa s.start,Aa s.len,Aa s.head,Aa s.seq] 92::R) w:=b;have H:=b.l2;refine Z2 6 [1,7] H Z (AB Z (call220 _) (Od s) H ?_);rintro nv w _ ⟨_,rfl,rfl⟩ H;have f:=H.sy 0 (·.slc);obtain ⟨m,k,rfl⟩:=f;refine Zc 5 Z ?_;replace H:=(H.mono 1 (B:=bsA 5 (.slice (some ⟨e,0,none⟩) 4 4) ([80,83,85,80]:List UInt8)) Z (λh q=>.inl q)).l3;replace H:=(H.mono 1 (B:=pgA 5 (.slice (some ⟨e,0,none⟩) 4 4) (([80,83,85,80]:List UInt8)++(s.list.take 0).flatMap (Ae 8)) 0) Z (λh q=>.inl ⟨Z,q⟩)).l3;refine Zc 5 Z ?_;refine Ap (σ:=Nat×Value) (λ⟨i,u⟩=>[(6,Aa (i:Int)),(4,u),(5,.slice m 7 k)])
   (λ⟨i,u⟩ w=>Sep z (grow 3 1 (.slice m 7 k) 7 (s.list.map Aa)::pgA 5 u (([80,83,85,80]:List UInt8)++(s.list.take i).flatMap (Ae 8)) i::blk l [Aa s.gen,Aa s.epoch,Aa s.pages,Aa s.start,Aa s.len,Aa s.head,Aa s.seq] 92::R) w/\(i<=7)) (λ⟨i,u⟩=>7-i) ⟨0,.slice (some ⟨e,0,none⟩) 4 4⟩
   (λ_ d=>(d.co Z (by go_num) d.cz)) ⟨H,Yi _⟩ ?_
 clear H;rintro ⟨i,u⟩ w ⟨b,g⟩;dsimp only at g b ⊢;have H:=b.l3;have hi:=g;clear g;refine Z0 9 [0] Z (Ag Z (λp=>?_) (λp=>?_))
 ·refine Zc 6 Z ?_;obtain ⟨y,c⟩:∃y,s.list[i]?=some y:=⟨_,XW (by show i<7;omega)⟩;have a1:=hs y (XX c)
  have a:=(H.rv 0 (·.rd)).at (j:=i) (u:=Aa y) (by rw[Yb,c];rfl);refine Zc 3 Z (Ad Z (Ar Z (z:=1) (j:=i) (r:=i) J Z Z Z U a U) (Ad Z (AK Z Z J (AA a)) (Ah Z (call156 _) (CT _ _) H ?_)));intro w H;refine Ad Z (AM Z Z) (Zc 2 Z (Ag Z (λt=>U) (λt=>?_)));refine Zc 2 Z ?_;have a:=(H.rv 0 (·.rd)).at (j:=i) (u:=Aa y) (by rw[Yb,c];rfl);refine Zc 4 Z (Ad Z (Ar Z (z:=1) (j:=i) (r:=i) J Z Z Z U a U) (Ad Z (AK Z Z J (AA a)) ?_));replace H:=(H.mono 1 (B:=bsA 5 u (([80,83,85,80]:List UInt8)++(s.list.take i).flatMap (Ae 8))) Z (λh q=>q.bs)).l3;refine AB Z (call157 _) (B7 _ (([80,83,85,80]:List UInt8)++(s.list.take i).flatMap (Ae 8)) y 8 U (by first|omega|(simp only[XY,XZ,X4,X5,X1,Ac,Aj,Ak]<;>omega)|(simp[Ac,Aj,Ak,Sup.list,sect_len]<;>omega)|simp[Ac,Aj,Ak,Sup.list,sect_len])) H.f1 ?_;rintro o w _ ⟨_,rfl,rfl⟩ H;have a2:=H.sy 0 (·.slc);refine Zc 2 Z ?_;rw[show (([80,83,85,80]:List UInt8)++(s.list.take i).flatMap (Ae 8)++Ae 8 y)=([80,83,85,80]:List UInt8)++(s.list.take (i+1)).flatMap (Ae 8) from (by rw[Ye,c];simp)] at H;replace H:=(H.mono 0 (B:=pgA 5 o (([80,83,85,80]:List UInt8)++(s.list.take (i+1)).flatMap (Ae 8)) (i+1)) Z (λh q=>.inr ⟨Nat.succ_pos _,q⟩)).l3;refine Z1 7 [] [(i:Int)+1] Z U ?_;replace H:=H.f2.f1.f2;refine gf ?_;intro _ d;refine ⟨⟨i+1,o⟩,d.cz,⟨H,?_⟩,?_⟩
  ·show i+1<=7;omega
  (dsimp only;omega)
 refine Zc 2 Z (gx (Zc 3 Z ?_));obtain rfl:i=7:=by omega
 replace H:=(H.mono 1 (B:=grow 5 1 u (([80,83,85,80]:List UInt8)++(s.list.take 7).flatMap (Ae 8)).length ((([80,83,85,80]:List UInt8)++(s.list.take 7).flatMap (Ae 8)).map u8)) Z (λh q=>q.gr U)).l3;rw[show ([80,83,85,80]:List UInt8)++(s.list.take 7).flatMap (Ae 8)=GQ s from Z] at H;have su:=H.sy 1 (·.slc);refine Zc 2 Z (AB Z (call183 _) (FV _ (GQ s) (by first|omega|(simp only[XY,XZ,X4,X5,X1,Ac,Aj,Ak]<;>omega)|(simp[Ac,Aj,Ak,Sup.list,sect_len]<;>omega)|simp[Ac,Aj,Ak,Sup.list,sect_len])) H.f1 ?_);rintro u4 w _ ⟨_,rfl,rfl⟩ H;have a0:=H.sy 0 (·.slc);refine Zc 5 Z (Zr Z ?_);exact ⟨_,⟨_,Z,Z⟩,H.pick 3 [0] Z⟩
theorem Ms(v:Value)(sec:List UInt8)(A:Ai)(d:∀h,A h->rdH 1 v sec.length (sec.map u8) h)(s:Sup)(hs:∀x∈s.list,0<=x/\x<=1099511627776)(a:sec=Br s):An 185 [v] [A] (λv G=>v=.tuple #[.agg #[Aa s.gen,Aa s.epoch,Aa s.pages,Aa s.start,Aa s.len,Aa s.head,Aa s.seq],.bool true]/\G=[A]):=by
 intro z R w H;have f:sec.length=256:=by rw[a];exact Dn s
 obtain ⟨b,o,c,rfl⟩:=H.sy 0 (λq=>(d _ q).sl (by rw[X9];omega));have e:=H.sy 0 (λq=>(d _ q).cap);refine Af func185 Z ntmps185 Z (Za 2 [] H Z ?_);intro i w H;refine Zc 6 Z (Ah Z (call142 _) (B4 _ sec _ d 4 8 (by first|omega|simp_all)) H.f1 ?_);intro w H;refine k_updA 8 (v:=Aa s.gen) Z (congrArg Aa (by rw[a];exact Ep hs (k:=0) Z)) (Zc 1 Z (Ah Z (call142 _) (B4 _ sec _ d 12 8 (by first|omega|simp_all)) H ?_));intro w H;refine k_updA 10 (v:=Aa s.epoch) Z (congrArg Aa (by rw[a];exact Ep hs (k:=1) Z)) (Zc 1 Z (Ah Z (call142 _) (B4 _ sec _ d 20 8 (by first|omega|simp_all)) H ?_));intro w H;refine k_updA 12 (v:=Aa s.pages) Z (congrArg Aa (by rw[a];exact Ep hs (k:=2) Z)) (Zc 1 Z (Ah Z (call142 _) (B4 _ sec _ d 28 8 (by first|omega|simp_all)) H ?_));intro w H;refine k_updA 14 (v:=Aa s.start) Z (congrArg Aa (by rw[a];exact Ep hs (k:=3) Z)) (Zc 1 Z (Ah Z (call142 _) (B4 _ sec _ d 36 8 (by first|omega|simp_all)) H ?_));intro w H;refine k_updA 16 (v:=Aa s.len) Z (congrArg Aa (by rw[a];exact Ep hs (k:=4) Z)) (Zc 1 Z (Ah Z (call142 _) (B4 _ sec _ d 44 8 (by first|omega|simp_all)) H ?_));intro w H;refine k_updA 18 (v:=Aa s.head) Z (congrArg Aa (by rw[a];exact Ep hs (k:=5) Z)) (Zc 1 Z (Ah Z (call142 _) (B4 _ sec _ d 52 8 (by first|omega|simp_all)) H ?_));intro w H;refine k_updA 20 (v:=Aa s.seq) Z (congrArg Aa (by rw[a];exact Ep hs (k:=6) Z)) (Ad Z (AQ Z Z (out:=[Aa s.gen,Aa s.epoch,Aa s.pages,Aa s.start,Aa s.len,Aa s.head,Aa s.seq]) J) (Za 0 [] H Z ?_));intro l w H;refine Z4 6 [0,0,7] H Z ?_;intro w H;refine AB Z (call184 _) (F2 _ hs) H ?_;rintro _ w _ ⟨j,rfl,rfl⟩ H;have g:=H.sy 0 (·.slc);refine Z0 15 [4] Z (Ah Z (call140 _) (EX _ _ (Br s) sec _ _ (λh q=>q.rd) d) H.f2.f1 ?_);intro w H;refine k_updA 32 (v:=.bool true) Z (congrArg Value.bool (decide_eq_true a.symm)) (Z4 15 [2,7,3] H Z ?_);intro w H;refine Zl [3,7] H Z ?_;exact ⟨_,⟨Z,Z⟩,H.pick 4 [1] Z⟩
theorem Fj(m:Img)(j:m.Ok)(l:Value)(A:Ai)(g:∀h,A h->rdH 1 l 240 (m.body.map u8) h):An 143 [.agg #[Aa m.num,Aa m.kind,l]] [A] (λv G=>∃i:Value,v=.tuple #[i,Aa 0]/\G=[grow 5 1 i (DX m).length ((DX m).map u8),A]):=by
 intro z R w H;obtain ⟨d,f,rfl⟩:=H.sy 0 (λq=>(g _ q).slc);obtain ⟨n,a0,c⟩:=id j;refine Af func143 Z ntmps143 Z (Za 2 [] H Z ?_);intro b w H;refine Z2 12 [1,1,0,0,0] H Z (Am 9 Z (λp=>U) (λp=>?_));refine Z2 6 [1,1,0,0,0] H Z (Am 15 Z (λs=>U) (λs=>?_));refine Z2 2 [0,0,0] H Z (Ah Z (call156 _) (CT _ _) H ?_);intro w H;refine Ad Z (AM Z Z) (Zc 2 Z (Am 21 Z (λr=>U) (λr=>?_)));refine Z2 12 [1,2,0,0,4] H Z (A1 (Sep z (blk b [Aa m.num,Aa m.kind,.slice d 240 f] 118::R)) 10 Z J (A9 H λw a=>?_));have H:=a.l2;refine BA [2,3,4,6,7] [1,1,0,0,0] J (λ_ o=>(A3 (o.blk 0 Z) AU)) (by exact H.pick 2 [0] Z) Z J Z Z (Ay [0] J O (Az (Ck Z Z Z Z (AI H Z J A2 Z (by decide) (by decide) (out:=[u8 80,u8 80,u8 65,u8 71]) J) ?_)));rintro _ w ⟨k,rfl,H⟩;refine Ax (λ_=>(H.pick 3 [1] Z)) (Ay [1] J O (Az (Ck Z Z Z Z (LK 0 H Z Z J J Z ⟨Z,by omega⟩) ?_)));rintro _ w ⟨rfl,a⟩;have a:Sep z (Ku (.slice (some ⟨k,0,none⟩) 4 4) ([80,80,65,71]:List UInt8).length (([80,80,65,71]:List UInt8).map u8)::blk b [Aa m.num,Aa m.kind,.slice d 240 f] 118::A::R) w:=a;have H:=a.l3;refine Ax (λ_=>(H.pick 3 [1] Z)) (Ay [5] J O (Az ?_));replace H:=(H.mono 0 (B:=bsA 5 (.slice (some ⟨k,0,none⟩) 4 4) ([80,80,65,71]:List UInt8)) Z (λh q=>.inl q)).l3;refine BF Z Z Z Z Z Z (λw=>call157 _ w) (B7 _ ([80,80,65,71]:List UInt8) m.kind 1 U (by first|omega|(simp only[XY,XZ,X4,X5,X1,Ac,Aj,Ak]<;>omega)|(simp[Ac,Aj,Ak,Sup.list,sect_len]<;>omega)|simp[Ac,Aj,Ak,Sup.list,sect_len])) H Z ?_;rintro y w _ ⟨_,rfl,rfl⟩ H;have a3:=H.sy 0 (·.slc);refine Ax (λ_=>(H.pick 3 [1] Z)) (Ay [8] J O (Az ?_));replace H:=(H.mono 0 (B:=bsA 5 y (([80,80,65,71]:List UInt8)++Ae 1 m.kind)) Z (λh q=>.inr q)).l3;refine BF Z Z Z Z Z Z (λw=>call157 _ w) (B7 _ (([80,80,65,71]:List UInt8)++Ae 1 m.kind) m.num 4 U (by first|omega|(simp only[XY,XZ,X4,X5,X1,Ac,Aj,Ak]<;>omega)|(simp[Ac,Aj,Ak,Sup.list,sect_len]<;>omega)|simp[Ac,Aj,Ak,Sup.list,sect_len])) H Z ?_;rintro u4 w _ ⟨_,rfl,rfl⟩ H;have a1:=H.sy 0 (·.slc);refine Ax (λ_=>(H.pick 3 [1] Z)) (Ay [9] J O (Az (Dr Z Z Z Z (Bq Z Z) (Ax (λh=>absurd Z h) (Bi J (gn (Zc 4 Z (AB Z (call141 _) (Fq _ ((([80,80,65,71]:List UInt8)++Ae 1 m.kind)++Ae 4 m.num) 12 ⟨by first|omega|(simp only[XY,XZ,X4,X5,X1,Ac,Aj,Ak]<;>omega)|(simp[Ac,Aj,Ak,Sup.list,sect_len]<;>omega)|simp[Ac,Aj,Ak,Sup.list,sect_len],by omega⟩) H ?_))))))));rintro u5 w _ ⟨_,rfl,rfl⟩ H;have a2:=H.sy 0 (·.slc);refine Z2 9 [1,2,1,0] H Z (AC Z (AJ 0 H Z Z J A2 Z Z (H.rd 2 Z g) (by simp[u8,Value.oneCell']) (by simp[Ac])) ?_);rintro x w a;have a:Sep z (grow 5 1 x ((((([80,80,65,71]:List UInt8)++Ae 1 m.kind)++Ae 4 m.num)++List.replicate (12-((([80,80,65,71]:List UInt8)++Ae 1 m.kind)++Ae 4 m.num).length) (0:UInt8)).length+240) ((((([80,80,65,71]:List UInt8)++Ae 1 m.kind)++Ae 4 m.num)++List.replicate (12-((([80,80,65,71]:List UInt8)++Ae 1 m.kind)++Ae 4 m.num).length) (0:UInt8)).map u8++m.body.map u8)::blk b [Aa m.num,Aa m.kind,.slice d 240 f] 118::A::R) w:=a;have e:((((([80,80,65,71]:List UInt8)++Ae 1 m.kind)++Ae 4 m.num)++List.replicate (12-((([80,80,65,71]:List UInt8)++Ae 1 m.kind)++Ae 4 m.num).length) (0:UInt8)).map u8++m.body.map u8:List Value)=(([80,80,65,71]:List UInt8)++Ae 1 m.kind++Ae 4 m.num++List.replicate (12-(([80,80,65,71]:List UInt8)++Ae 1 m.kind++Ae 4 m.num).length) (0:UInt8)++m.body).map u8:=O;rw[e] at a;rw[show ((((([80,80,65,71]:List UInt8)++Ae 1 m.kind)++Ae 4 m.num)++List.replicate (12-((([80,80,65,71]:List UInt8)++Ae 1 m.kind)++Ae 4 m.num).length) (0:UInt8)).length+240:Nat)=(([80,80,65,71]:List UInt8)++Ae 1 m.kind++Ae 4 m.num++List.replicate (12-(([80,80,65,71]:List UInt8)++Ae 1 m.kind++Ae 4 m.num).length) (0:UInt8)++m.body).length from (by simp[Ac,c])] at a;have H:=a.l3;have u:=H.sy 0 (·.slc);refine Zc 6 Z (AB Z (call183 _) (FV _ (([80,80,65,71]:List UInt8)++Ae 1 m.kind++Ae 4 m.num++List.replicate (12-(([80,80,65,71]:List UInt8)++Ae 1 m.kind++Ae 4 m.num).length) (0:UInt8)++m.body) (by first|omega|(simp only[XY,XZ,X4,X5,X1,Ac,Aj,Ak]<;>omega)|(simp[Ac,Aj,Ak,Sup.list,sect_len]<;>omega)|simp[Ac,Aj,Ak,Sup.list,sect_len])) H ?_);rintro u7 w _ ⟨_,rfl,rfl⟩ H;have t:=H.sy 0 (·.slc);refine Zc 5 Z (Zr Z ?_);rw[Wk j] at H;exact ⟨_,⟨_,Z,Z⟩,H.pick 3 [0,2] Z⟩
theorem WC(v:Value)(sec:List UInt8)(A:Ai)(a:∀h,A h->rdH 1 v sec.length (sec.map u8) h)(p:Int)(e:sec=List.replicate 256 0):An 85 [v,Aa p] [A] (λv G=>v=.tuple #[.agg #[Aa 0,.slice none 0 0],.bool true]/\G=[A]):=by
 intro z R w H;have g:sec.length=256:=by rw[e];simp
 obtain ⟨b,o,c,rfl⟩:=H.sy 0 (λq=>(a _ q).sl (by rw[X9];omega));have d:=H.sy 0 (λq=>(a _ q).cap);refine Af func85 Z ntmps85 Z (Za 2 [] H Z ?_);intro i w H;refine Zc 7 Z ?_;replace H:=(H.nilg 5 1).l3;refine AB Z (call141 _) (Fq _ ([]:List UInt8) 256 ⟨by first|omega|(simp only[XY,XZ,X4,X5,X1,Ac,Aj,Ak]<;>omega)|(simp[Ac,Aj,Ak,Sup.list,sect_len]<;>omega)|simp[Ac,Aj,Ak,Sup.list,sect_len],by omega⟩) H ?_;rintro j w _ ⟨_,rfl,rfl⟩ H;have f:=H.sy 0 (·.slc);refine Ah Z (call140 _) (EX _ _ sec (([]:List UInt8)++List.replicate (256-([]:List UInt8).length) (0:UInt8)) _ _ a (λh q=>q.rd)) H.f2 ?_;intro w H;refine k_updA 11 (v:=.bool true) Z (congrArg Value.bool (decide_eq_true (by rw[e];rfl))) (Z4 11 [2] H Z ?_);intro w H;refine Zl [2,2] H Z ?_;exact ⟨_,⟨Z,Z⟩,H.pick 3 [0] Z⟩
theorem Oe(v:Value)(sec:List UInt8)(A:Ai)(g:∀h,A h->rdH 1 v sec.length (sec.map u8) h)(m:Img)(i:m.Ok)(a:sec=DX m):An 85 [v,Aa m.num] [A] (λv G=>∃s:Value,v=.tuple #[.agg #[Aa m.kind,s],.bool true]/\G=[grow 5 1 s 240 (m.body.map u8),A]):=by
 intro z R w H;replace H:=H.l1;have t:sec.length=256:=by rw[a];exact De (ES i)
 have f:(sec.drop 12).take 240=m.body:=by rw[a];exact MV (ES i)
 obtain ⟨b,o,c,rfl⟩:=H.sy 0 (λq=>(g _ q).sl (by rw[X9];omega));have n:=H.sy 0 (λq=>(g _ q).cap);refine Af func85 Z ntmps85 Z (Za 2 [] H Z ?_);intro b1 w H;refine Zc 7 Z ?_;replace H:=(H.nilg 5 1).l3;refine AB Z (call141 _) (Fq _ ([]:List UInt8) 256 ⟨by first|omega|(simp only[XY,XZ,X4,X5,X1,Ac,Aj,Ak]<;>omega)|(simp[Ac,Aj,Ak,Sup.list,sect_len]<;>omega)|simp[Ac,Aj,Ak,Sup.list,sect_len],by omega⟩) H ?_;rintro u2 w _ ⟨_,rfl,rfl⟩ H;replace H:=H.l3;have a0:=H.sy 0 (·.slc);refine Ah Z (call140 _) (EX _ _ sec (([]:List UInt8)++List.replicate (256-([]:List UInt8).length) (0:UInt8)) _ _ g (λh q=>q.rd)) H.f2 ?_;intro w H;replace H:=H.l3;refine k_updA 11 (v:=.bool false) Z (congrArg Value.bool (decide_eq_false (by rw[a];exact λe=>HW (ES i) (e.trans Z)))) (Z0 13 [0] Z (Ag Z (λy=>U) (λy=>?_)));refine Zc 6 Z (Ah Z (call142 _) (B4 _ sec _ g 4 1 (by first|omega|simp_all)) H ?_);intro w H;replace H:=H.l3;refine k_updA 19 (v:=Aa m.kind) Z (congrArg Aa (by rw[a];exact MU (ES i))) (Za 2 [] H Z ?_);intro u w H;refine Z4 4 [0] H Z ?_;intro w H;refine A1 (Sep z (blk u [Aa m.num,Aa m.kind,.slice none 0 0] 118::A::R)) 9 Z J (A9 H λw j=>?_);have H:=j.l4;refine BA [0,1,2,3] [1,2,0] J (λ_ x=>(A3 (x.blk 0 Z) AU)) (by exact H.pick 4 [0,1] Z) Z J Z Z (Bg 4 J Z Z J J J Z Z Z (Ba Z (z:=1) (p:=12) (q:=252) (o':=o+12) (l':=240) (c':=c-12) J Z (.inr ⟨_,_,_,Z,Z,Z⟩) (.inr ⟨_,_,_,Z,Z,Z⟩) U U U U U U) (H.pick 4 [0,1] Z) (Ay [5] J O (Az ?_)));replace H:=(H.nilg 5 1).l5;refine Ck Z Z Z Z (AJ 0 H Z Z J A2 Z Z (H.rv 2 (λq=>(g _ q).cut (lo:=12) (m:=240) U U U)) (by intro c9 k;obtain ⟨b9,_,rfl⟩:=X6.1 k;rfl) U) ?_;rintro r w j;have l:([]++((sec.drop 12).take 240).map u8:List Value)=m.body.map u8:=(by rw[Yo,f]);rw[l] at j;have H:=j.l5;have d:=H.sy 0 (·.slc);refine Ax (λ_=>(H.pick 5 [1,2] Z)) (BA [6,7] [1,2] J (λ_ _=>AU) (by exact H.pick 5 [1,2] Z) Z J Z Z (Ay [8] J O (Az (CA Z Z Z (Jy 1 H Z Z Z Z d.cells d.one J) ?_))));rintro w H;replace H:=H.l5;refine Ax (λh=>absurd Z h) (Bi J (gn (Z2 4 [1,3] H Z (AB Z (call143 _) (Fj m i _ _ (λh q=>q.rd)) H ?_))));rintro _ w _ ⟨u5,rfl,rfl⟩ H;replace H:=H.l6;have a1:=H.sy 0 (·.slc);refine Z0 15 [4] Z (Ah Z (call140 _) (EX _ _ (DX m) sec _ _ (λh q=>q.rd) g) H.f3.f1 ?_);intro w H;replace H:=H.l6;refine k_updA 40 (v:=.bool true) Z (congrArg Value.bool (decide_eq_true a.symm)) (Z2 11 [1,3,2] H Z (AV Z Z (AD 5 H Z Z Z Z (vs:=[Aa m.kind,r]) Z (Al Z (Al d.one AL)) J O (out:=[Aa m.kind,r]) Z) ?_));rintro w H;replace H:=H.l6;refine Zc 4 Z (Zl [5,2] H Z ?_);exact ⟨_,⟨_,Z,Z⟩,H.pick 6 [2,1] Z⟩
theorem Ib(e q:Int)(he:0<=e/\e<4294967296)(hq:0<=q/\q<1099511627776)(m:Img)(i:m.Ok)(n:Value)(A:Ai)(d:∀h,A h->rdH 1 n 240 (m.body.map u8) h):An 224 [Aa e,Aa q,.agg #[Aa m.num,Aa m.kind,n]] [A] (λv G=>∃k:Value,v=.tuple #[k,Aa 0]/\G=[grow 5 1 k (sect (A6 e q m)).length ((sect (A6 e q m)).map u8),A]):=by
 intro z R w H;obtain ⟨j,l,rfl⟩:=H.sy 0 (λq=>(d _ q).slc);obtain ⟨a1,u,f⟩:=id i;refine Af func224 Z ntmps224 Z (Za 2 [] H Z ?_);intro g w H;refine Z2 7 [0,3] H Z (AB Z (call143 _) (Fj m i _ _ d) H.f1 ?_);rintro _ w _ ⟨r,rfl,rfl⟩ H;have a2:=H.sy 0 (·.slc);refine Z0 14 [4] Z (Ah Z (call156 _) (CT _ _) H ?_);intro w H;refine Ad Z (AM Z Z) (Zc 2 Z (Am 23 Z (λh1=>U) (λh1=>?_)));refine Zc 1 Z (Ah Z (call156 _) (CT _ _) H ?_);intro w H;refine Ad Z (AM Z Z) (Zc 3 Z (Ag Z (λo=>U) (λo=>?_)));refine Zc 3 Z ?_;replace H:=H.f2;refine A1 (Sep z (blk g [Aa m.num,Aa m.kind,.slice j 240 l] 118::R)) 8 Z J (A9 H λw a=>?_);have H:=a.l3;refine BA [0,1,2,4,5] [1,1,0,0,0] J (λ_ hx=>(A3 (hx.blk 0 Z) AU)) (by exact H.pick 3 [0] Z) Z J Z Z (Ay [3] J O (Az ?_));replace H:=(H.nilg 5 1).l4;replace H:=(H.mono 0 (B:=bsA 5 (.slice none 0 0) ([]:List UInt8)) Z (λh q=>.inr q)).l4;refine BF Z Z Z Z Z Z (λw=>call157 _ w) (B7 _ ([]:List UInt8) m.kind 1 U (by first|omega|(simp only[XY,XZ,X4,X5,X1,Ac,Aj,Ak]<;>omega)|(simp[Ac,Aj,Ak,Sup.list,sect_len]<;>omega)|simp[Ac,Aj,Ak,Sup.list,sect_len])) H Z ?_;rintro u3 w _ ⟨_,rfl,rfl⟩ H;have a0:=H.sy 0 (·.slc);refine Ax (λ_=>(H.pick 4 [1] Z)) (Ay [6] J O (Az ?_));replace H:=(H.mono 0 (B:=bsA 5 u3 (([]:List UInt8)++Ae 1 m.kind)) Z (λh q=>.inr q)).l4;refine BF Z Z Z Z Z Z (λw=>call157 _ w) (B7 _ (([]:List UInt8)++Ae 1 m.kind) m.num 2 U (by first|omega|(simp only[XY,XZ,X4,X5,X1,Ac,Aj,Ak]<;>omega)|(simp[Ac,Aj,Ak,Sup.list,sect_len]<;>omega)|simp[Ac,Aj,Ak,Sup.list,sect_len])) H Z ?_;rintro y w _ ⟨_,rfl,rfl⟩ H;have x:=H.sy 0 (·.slc);refine Ax (λ_=>(H.pick 4 [1] Z)) (Ay [7] J O (Az (Dr Z Z Z Z (Bq Z Z) (Ax (λh=>absurd Z h) (Bi J (gn (Zc 5 Z ?_)))))));replace H:=(H.mono 0 (B:=bsA 5 y ((([]:List UInt8)++Ae 1 m.kind)++Ae 2 m.num)) Z (λh q=>.inr q)).l4;refine AB Z (call157 _) (B7 _ ((([]:List UInt8)++Ae 1 m.kind)++Ae 2 m.num) e 4 U (by first|omega|(simp only[XY,XZ,X4,X5,X1,Ac,Aj,Ak]<;>omega)|(simp[Ac,Aj,Ak,Sup.list,sect_len]<;>omega)|simp[Ac,Aj,Ak,Sup.list,sect_len])) H ?_;rintro u5 w _ ⟨_,rfl,rfl⟩ H;have a4:=H.sy 0 (·.slc);refine Zc 1 Z ?_;replace H:=(H.mono 0 (B:=bsA 5 u5 (((([]:List UInt8)++Ae 1 m.kind)++Ae 2 m.num)++Ae 4 e)) Z (λh q=>.inr q)).l4;refine AB Z (call157 _) (B7 _ (((([]:List UInt8)++Ae 1 m.kind)++Ae 2 m.num)++Ae 4 e) q 5 U (by first|omega|(simp only[XY,XZ,X4,X5,X1,Ac,Aj,Ak]<;>omega)|(simp[Ac,Aj,Ak,Sup.list,sect_len]<;>omega)|simp[Ac,Aj,Ak,Sup.list,sect_len])) H ?_;rintro u6 w _ ⟨_,rfl,rfl⟩ H;have s:=H.sy 0 (·.slc);refine Z2 9 [1,2,1,0] H Z (AC Z (AJ 0 H Z Z J A2 Z Z (H.rd 3 Z d) (by intro c9 b;obtain ⟨b9,_,rfl⟩:=X6.1 b;rfl) (by simp[Ac])) ?_);rintro p w a;have a:Sep z (grow 5 1 p (((((([]:List UInt8)++Ae 1 m.kind)++Ae 2 m.num)++Ae 4 e)++Ae 5 q).length+240) (((((([]:List UInt8)++Ae 1 m.kind)++Ae 2 m.num)++Ae 4 e)++Ae 5 q).map u8++m.body.map u8)::blk g [Aa m.num,Aa m.kind,.slice j 240 l] 118::grow 5 1 r ((DX m).length) ((DX m).map u8)::A::R) w:=a;have c:(((((([]:List UInt8)++Ae 1 m.kind)++Ae 2 m.num)++Ae 4 e)++Ae 5 q).map u8++m.body.map u8:List Value)=(([]:List UInt8)++Ae 1 m.kind++Ae 2 m.num++Ae 4 e++Ae 5 q++m.body).map u8:=O;rw[c] at a;rw[show (((((([]:List UInt8)++Ae 1 m.kind)++Ae 2 m.num)++Ae 4 e)++Ae 5 q).length+240:Nat)=(([]:List UInt8)++Ae 1 m.kind++Ae 2 m.num++Ae 4 e++Ae 5 q++m.body).length from (by simp[Ac,f])] at a;have H:=a.l4;have t:=H.sy 0 (·.slc);refine Zc 6 Z (AB Z (call183 _) (FV _ (([]:List UInt8)++Ae 1 m.kind++Ae 2 m.num++Ae 4 e++Ae 5 q++m.body) (by first|omega|(simp only[XY,XZ,X4,X5,X1,Ac,Aj,Ak]<;>omega)|(simp[Ac,Aj,Ak,Sup.list,sect_len]<;>omega)|simp[Ac,Aj,Ak,Sup.list,sect_len])) H ?_);rintro u8 w _ ⟨_,rfl,rfl⟩ H;have a3:=H.sy 0 (·.slc);refine Zc 5 Z (Zr Z ?_);exact ⟨_,⟨_,Z,Z⟩,H.pick 4 [0,3] Z⟩
theorem Mt(v:Value)(sec:List UInt8)(A:Ai)(f:∀h,A h->rdH 1 v sec.length (sec.map u8) h)(e q:Int)(he:0<=e/\e<4294967296)(hq:0<=q/\q<1099511627776)(m:Img)(r:m.Ok)(a:sec=sect (A6 e q m)):An 223 [v] [A] (λv G=>∃u:Value,v=.tuple #[Aa e,Aa q,.agg #[Aa m.num,Aa m.kind,u],.bool true]/\G=[grow 5 1 u 240 (m.body.map u8),A]):=by
 intro z R w H;replace H:=H.l1;have y:sec.length=256:=by rw[a];exact sect_len (YY (CJ r.2.2))
 have d:=I6 r he hq;have g:(sec.drop 12).take 240=m.body:=by rw[a];exact congrArg Img.body d.2.2.2
 obtain ⟨b,o,c,rfl⟩:=H.sy 0 (λq=>(f _ q).sl (by rw[X9];omega));have t:=H.sy 0 (λq=>(f _ q).cap);refine Af func223 Z ntmps223 Z (Za 4 [] H Z ?_);intro b1 w H;refine Z0 11 [0] Z (Ag Z (λh1=>U) (λh1=>?_));refine Zc 5 Z (Ah Z (call142 _) (B4 _ sec _ f 1 2 (by first|omega|simp_all)) H.f1 ?_);intro w H;replace H:=H.l2;refine k_updA 16 (v:=Aa m.num) Z (congrArg Aa (by rw[a];exact congrArg Img.num d.2.2.2)) (Zc 1 Z (Ah Z (call142 _) (B4 _ sec _ f 0 1 (by first|omega|simp_all)) H ?_));intro w H;replace H:=H.l2;refine k_updA 18 (v:=Aa m.kind) Z (congrArg Aa (by rw[a];exact congrArg Img.kind d.2.2.2)) (Za 2 [] H Z ?_);intro x w H;refine Z4 4 [0] H Z ?_;intro w H;refine A1 (Sep z (blk x [Aa m.num,Aa m.kind,.slice none 0 0] 118::A::R)) 9 Z J (A9 H λw j=>?_);have H:=j.l3;refine BA [0,1,2,3] [1,2,0] J (λ_ s=>(A3 (s.blk 0 Z) AU)) (by exact H.pick 3 [0,1] Z) Z J Z Z (Bg 4 J Z Z J J J Z Z Z (Ba Z (z:=1) (p:=12) (q:=252) (o':=o+12) (l':=240) (c':=c-12) J Z (.inr ⟨_,_,_,Z,Z,Z⟩) (.inr ⟨_,_,_,Z,Z,Z⟩) U U U U U U) (H.pick 3 [0,1] Z) (Ay [5] J O (Az ?_)));replace H:=(H.nilg 5 1).l4;refine Ck Z Z Z Z (AJ 0 H Z Z J A2 Z Z (H.rv 2 (λq=>(f _ q).cut (lo:=12) (m:=240) U U U)) (by intro c9 n;obtain ⟨b9,_,rfl⟩:=X6.1 n;rfl) U) ?_;rintro k w j;have l:([]++((sec.drop 12).take 240).map u8:List Value)=m.body.map u8:=(by rw[Yo,g]);rw[l] at j;have H:=j.l4;have i:=H.sy 0 (·.slc);refine Ax (λ_=>(H.pick 4 [1,2] Z)) (BA [6,7] [1,2] J (λ_ _=>AU) (by exact H.pick 4 [1,2] Z) Z J Z Z (Ay [8] J O (Az (CA Z Z Z (Jy 1 H Z Z Z Z i.cells i.one J) ?_))));rintro w H;replace H:=H.l4;refine Ax (λh=>absurd Z h) (Bi J (gn (Zc 4 Z (Ah Z (call142 _) (B4 _ sec _ f 3 4 (by first|omega|simp_all)) H.f2 ?_))));intro w H;replace H:=H.l4;refine k_updA 30 (v:=Aa e) Z (congrArg Aa (by rw[a];exact d.2.1)) (Zc 6 Z (Ah Z (call142 _) (B4 _ sec _ f 7 5 (by first|omega|simp_all)) H ?_));intro w H;replace H:=H.l4;refine k_updA 32 (v:=Aa q) Z (congrArg Aa (by rw[a];exact d.2.2.1)) (Z2 8 [2,3] H Z (AB Z (call224 _) (Ib e q U U m r _ _ (λh q=>q.rd)) H.f1 ?_));rintro _ w _ ⟨u4,rfl,rfl⟩ H;replace H:=H.l5;have a0:=H.sy 0 (·.slc);refine Z0 15 [4] Z (Ah Z (call140 _) (EX _ _ (sect (A6 e q m)) sec _ _ (λh q=>q.rd) f) H.f2.f1 ?_);intro w H;replace H:=H.l5;refine k_updA 45 (v:=.bool true) Z (congrArg Value.bool (decide_eq_true a.symm)) (Zc 8 Z ?_);replace H:=H.f3;refine A1 (Sep z (blk x [Aa m.num,Aa m.kind,k] 118::R)) 7 Z J (A9 H λw j=>?_);have H:=j.l5;refine BA [0,1] [] J (λ_ _=>AU) (by exact H.pick 5 [0] Z) Z J Z Z (Bg 2 J Z Z J J J Z Z Z (Bz Z Z (vs:=[Aa m.num,Aa m.kind,k]) J (λ_ s=>(s.blk 0 Z).part 0 3 _ Z)) (H.pick 5 [0] Z) (BA [3,4] [] J (λ_ _=>AU) (by exact H.pick 5 [0] Z) Z J Z Z (Ay [5] J O (Az (CA Z Z Z (AD 4 H Z Z Z Z (vs:=[Aa m.num,Aa m.kind,k]) Z (Al Z (Al Z (Al i.one AL))) J O (out:=[Aa m.num,Aa m.kind,k]) Z) ?_)))));rintro w H;replace H:=H.l5;refine Ax (λ_=>(H.pick 5 [0] Z)) (Ay [6] J O (Az (Dr Z Z Z Z (Bq Z Z) (Ax (λh=>absurd Z h) (Bi J (gn (Zc 2 Z (Zl [4,3] H Z ?_))))))));exact ⟨_,⟨_,Z,Z⟩,H.pick 5 [3,2] Z⟩
theorem hdL_le{e q:Int}{ims:List Img}(h:ims.length<=40):(Bt e q ims).length<=252:=by
 unfold Bt;simp only[XY,Ac,BD,X9,XZ,X4];omega
set_option maxHeartbeats 2000000 in
theorem Jq (e q:Int) (a:UInt32) (ns:List Int) (p:Value) (A:Ai) (n:∀h,A h->rdH 1 p ns.length (ns.map Aa) h) (he:0<=e/\e<=1099511627776) (hq:0<=q/\q<=1099511627776) (hn:1<=ns.length/\ns.length<=40) (o:∀y∈ns,0<=y/\y<=1023):An 221 [.agg #[Aa e,Aa q,p,u32 a]] [A] (λv G=>∃s:Value,v=.tuple #[s,Aa 0]/\G=[grow 5 1 s (sect (([80,76,79,71]:List UInt8)++Ae 8 e++Ae 8 q++Ae 4 (a.toNat:Int)++Ae 2 (ns.length:Int)++(ns).flatMap (Ae 4))).length ((sect (([80,76,79,71]:List UInt8)++Ae 8 e++Ae 8 q++Ae 4 (a.toNat:Int)++Ae 2 (ns.length:Int)++(ns).flatMap (Ae 4))).map u8),A]):=by
 intro z R w H;obtain ⟨k,l,rfl⟩:=H.sy 0 (λq=>(n _ q).slc);refine Af func221 Z ntmps221 Z (Za 2 [] H Z ?_);intro d w H;refine Z2 9 [0,0,0] H Z (Ah Z (call156 _) (CT _ _) H ?_);intro w H;refine Ad Z (AM Z Z) (Zc 1 Z (Am 10 Z (λh1=>U) (λh1=>?_)));refine Z2 2 [1,0,0] H Z (Ah Z (call156 _) (CT _ _) H ?_);intro w H;refine Ad Z (AM Z Z) (Zc 2 Z (Am 16 Z (λh2=>U) (λh2=>?_)));refine Z2 6 [2,0,0,0] H Z (Am 22 Z (λh3=>U) (λh3=>?_));refine Z2 7 [2,0,0,0] H Z (Ag Z (λh4=>U) (λh4=>?_));refine Zc 3 Z (A1 (Sep z (blk d [Aa e,Aa q,.slice k ns.length l,u32 a] 233::R)) 9 Z J (A9 H λw c=>?_));have H:=c.l2;refine BA [2,3,5,6] [0,0,1,0] J (λ_ f=>(A3 (f.blk 0 Z) AU)) (by exact H.pick 2 [0] Z) Z J Z Z (Ay [0] J O (Az (Ck Z Z Z Z (AI H Z J A2 Z (by decide) (by decide) (out:=[u8 80,u8 76,u8 79,u8 71]) J) ?_)));rintro _ w ⟨t,rfl,H⟩;refine Ax (λ_=>(H.pick 3 [1] Z)) (Ay [1] J O (Az (Ck Z Z Z Z (LK 0 H Z Z J J Z ⟨Z,by omega⟩) ?_)));rintro _ w ⟨rfl,c⟩;have c:Sep z (Ku (.slice (some ⟨t,0,none⟩) 4 4) ([80,76,79,71]:List UInt8).length (([80,76,79,71]:List UInt8).map u8)::blk d [Aa e,Aa q,.slice k ns.length l,u32 a] 233::A::R) w:=c;have H:=c.l3;refine Ax (λ_=>(H.pick 3 [1] Z)) (Ay [4] J O (Az ?_));replace H:=(H.mono 0 (B:=bsA 5 (.slice (some ⟨t,0,none⟩) 4 4) ([80,76,79,71]:List UInt8)) Z (λh q=>.inl q)).l3;refine BF Z Z Z Z Z Z (λw=>call157 _ w) (B7 _ ([80,76,79,71]:List UInt8) e 8 U (by first|omega|(simp only[XY,XZ,X4,X5,X1,Ac,Aj,Ak]<;>omega)|(simp[Ac,Aj,Ak,Sup.list,sect_len]<;>omega)|simp[Ac,Aj,Ak,Sup.list,sect_len])) H Z ?_;rintro u3 w _ ⟨_,rfl,rfl⟩ H;have a2:=H.sy 0 (·.slc);refine Ax (λ_=>(H.pick 3 [1] Z)) (Ay [7] J O (Az ?_));replace H:=(H.mono 0 (B:=bsA 5 u3 (([80,76,79,71]:List UInt8)++Ae 8 e)) Z (λh q=>.inr q)).l3;refine BF Z Z Z Z Z Z (λw=>call157 _ w) (B7 _ (([80,76,79,71]:List UInt8)++Ae 8 e) q 8 U (by first|omega|(simp only[XY,XZ,X4,X5,X1,Ac,Aj,Ak]<;>omega)|(simp[Ac,Aj,Ak,Sup.list,sect_len]<;>omega)|simp[Ac,Aj,Ak,Sup.list,sect_len])) H Z ?_;rintro u4 w _ ⟨_,rfl,rfl⟩ H;have a1:=H.sy 0 (·.slc);refine Ax (λ_=>(H.pick 3 [1] Z)) (Ay [8] J O (Az (Dr Z Z Z Z (Bq Z Z) (Ax (λh=>absurd Z h) (Bi J (gn (Zc 2 Z ?_)))))));replace H:=H.f1;refine A1 (Sep z (blk d [Aa e,Aa q,.slice k ns.length l,u32 a] 233::R)) 10 Z J (A9 H λw c=>?_);have H:=c.l3;refine BA [0,1,2] [3,0] J (λ_ f=>(A3 (f.blk 0 Z) AU)) (by exact H.pick 3 [0] Z) Z J Z Z (Bg 3 J Z Z J J J Z Z Z (OG Z J Z) (H.pick 3 [0] Z) (BA [5,6] [2,0] J (λ_ f=>(A3 (f.blk 0 Z) AU)) (by exact H.pick 3 [0] Z) Z J Z Z (Bg 7 J Z Z J J J Z Z Z (D4 Z (z:=1) J Z) (H.pick 3 [0] Z) (Ay [4] J O (Az ?_)))));replace H:=(H.mono 1 (B:=bsA 5 u4 ((([80,76,79,71]:List UInt8)++Ae 8 e)++Ae 8 q)) Z (λh q=>.inr q)).l3;refine BF Z Z Z Z Z Z (λw=>call157 _ w) (B7 _ ((([80,76,79,71]:List UInt8)++Ae 8 e)++Ae 8 q) (a.toNat:Int) 4 U (by first|omega|(simp only[XY,XZ,X4,X5,X1,Ac,Aj,Ak]<;>omega)|(simp[Ac,Aj,Ak,Sup.list,sect_len]<;>omega)|simp[Ac,Aj,Ak,Sup.list,sect_len])) H.f1 Z ?_;rintro u5 w _ ⟨_,rfl,rfl⟩ H;have a5:=H.sy 0 (·.slc);refine Ax (λ_=>(H.pick 3 [1] Z)) (Ay [8] J O (Az ?_));replace H:=(H.mono 0 (B:=bsA 5 u5 (((([80,76,79,71]:List UInt8)++Ae 8 e)++Ae 8 q)++Ae 4 (a.toNat:Int))) Z (λh q=>.inr q)).l3;refine BF Z Z Z Z Z Z (λw=>call157 _ w) (B7 _ (((([80,76,79,71]:List UInt8)++Ae 8 e)++Ae 8 q)++Ae 4 (a.toNat:Int)) (ns.length:Int) 2 U (by first|omega|(simp only[XY,XZ,X4,X5,X1,Ac,Aj,Ak]<;>omega)|(simp[Ac,Aj,Ak,Sup.list,sect_len]<;>omega)|simp[Ac,Aj,Ak,Sup.list,sect_len])) H Z ?_;rintro u6 w _ ⟨_,rfl,rfl⟩ H;have a0:=H.sy 0 (·.slc);refine Ax (λ_=>(H.pick 3 [1] Z)) (Ay [9] J O (Az (Dr Z Z Z Z (Bq Z Z) (Ax (λh=>absurd Z h) (Bi J (gn (Zc 3 Z ?_)))))));rw[show ((((([80,76,79,71]:List UInt8)++Ae 8 e)++Ae 8 q)++Ae 4 (a.toNat:Int))++Ae 2 (ns.length:Int))=([80,76,79,71]:List UInt8)++Ae 8 e++Ae 8 q++Ae 4 (a.toNat:Int)++Ae 2 (ns.length:Int)++(ns.take 0).flatMap (Ae 4) from by simp] at H;refine Zc 5 Z ?_;refine Ap (σ:=Nat×Value) (λ⟨i,u⟩=>[(5,Aa (i:Int)),(4,u),(1,V d)])
   (λ⟨i,u⟩ w=>Sep z (grow 5 1 u ((([80,76,79,71]:List UInt8)++Ae 8 e++Ae 8 q++Ae 4 (a.toNat:Int)++Ae 2 (ns.length:Int)++(ns.take i).flatMap (Ae 4)).length) ((([80,76,79,71]:List UInt8)++Ae 8 e++Ae 8 q++Ae 4 (a.toNat:Int)++Ae 2 (ns.length:Int)++(ns.take i).flatMap (Ae 4)).map u8)::blk d [Aa e,Aa q,.slice k ns.length l,u32 a] 233::A::R) w/\(i<=ns.length)) (λ⟨i,u⟩=>ns.length-i) ⟨0,u6⟩
   fr_z ⟨H,Yi _⟩ ?_
 clear H;rintro ⟨i,u⟩ w ⟨c,m⟩;dsimp only at m c ⊢;have H:=c.l3;have su:=H.sy 0 (·.slc);have hi:=m;clear m;refine Z2 10 [2,1,0,0] H Z (Ag Z (λh5=>?_) (λh5=>?_))
 ·refine Zc 6 Z ?_;obtain ⟨y,g⟩:∃y,ns[i]?=some y:=⟨_,XW U⟩;have a6:=o y (XX g)
  have b:=(H.rd 2 Z n).at (j:=i) (u:=Aa y) (by rw[Yb,g];rfl);refine Z2 4 [2,1,0] H Z (Ad Z (Ar Z (z:=1) (j:=i) (r:=i) J Z Z Z U b U) (Ad Z (AK Z Z J (AA b)) (Ah Z (call156 _) (CT _ _) H ?_)));intro w H;refine Ad Z (AM Z Z) (Zc 2 Z (Ag Z (λx=>U) (λx=>?_)));refine Zc 2 Z ?_;have b:=(H.rd 2 Z n).at (j:=i) (u:=Aa y) (by rw[Yb,g];rfl);refine Z2 5 [2,1,0] H Z (Ad Z (Ar Z (z:=1) (j:=i) (r:=i) J Z Z Z U b U) (Ad Z (AK Z Z J (AA b)) ?_));replace H:=(H.mono 0 (B:=bsA 5 u (([80,76,79,71]:List UInt8)++Ae 8 e++Ae 8 q++Ae 4 (a.toNat:Int)++Ae 2 (ns.length:Int)++(ns.take i).flatMap (Ae 4))) Z (λh q=>.inr q)).l3;refine AB Z (call157 _) (B7 _ (([80,76,79,71]:List UInt8)++Ae 8 e++Ae 8 q++Ae 4 (a.toNat:Int)++Ae 2 (ns.length:Int)++(ns.take i).flatMap (Ae 4)) y 4 U (by first|omega|(simp only[XY,XZ,X4,X5,X1,Ac,Aj,Ak]<;>omega)|(simp[Ac,Aj,Ak,Sup.list,sect_len]<;>omega)|simp[Ac,Aj,Ak,Sup.list,sect_len])) H ?_;rintro u7 w _ ⟨_,rfl,rfl⟩ H;have a3:=H.sy 0 (·.slc);refine Zc 2 Z ?_;rw[show ((([80,76,79,71]:List UInt8)++Ae 8 e++Ae 8 q++Ae 4 (a.toNat:Int)++Ae 2 (ns.length:Int)++(ns.take i).flatMap (Ae 4))++Ae 4 y)=([80,76,79,71]:List UInt8)++Ae 8 e++Ae 8 q++Ae 4 (a.toNat:Int)++Ae 2 (ns.length:Int)++(ns.take (i+1)).flatMap (Ae 4) from (by rw[Ye,g];simp)] at H;refine Z1 7 [] [(i:Int)+1] Z U (gf ?_);intro _ hF;refine ⟨⟨i+1,u7⟩,hF.cz,⟨H,?_⟩,?_⟩
  ·show i+1<=ns.length;omega
  (dsimp only;omega)
 refine Zc 2 Z (gx (Zc 3 Z ?_));rw[show ns.take i=ns from X0 U] at H;refine Zc 2 Z (AB Z (call183 _) (FV _ (([80,76,79,71]:List UInt8)++Ae 8 e++Ae 8 q++Ae 4 (a.toNat:Int)++Ae 2 (ns.length:Int)++(ns).flatMap (Ae 4)) (by first|omega|(simp only[XY,XZ,X4,X5,X1,Ac,Aj,Ak]<;>omega)|(simp[Ac,Aj,Ak,Sup.list,sect_len]<;>omega)|simp[Ac,Aj,Ak,Sup.list,sect_len])) H ?_);rintro u8 w _ ⟨_,rfl,rfl⟩ H;have a4:=H.sy 0 (·.slc);refine Zc 5 Z (Zr Z ?_);exact ⟨_,⟨_,Z,Z⟩,H.pick 3 [0,2] Z⟩
theorem Mu(e q:Int)(a:UInt32)(d:0<=e/\e<=1099511627776)(hq:0<=q/\q<=1099511627776):An 221 [.agg #[Aa e,Aa q,.slice none 0 0,u32 a]] [] (λv G=>v=.tuple #[.slice none 0 0,Aa 1]/\G=[]):=by
 intro z R w H;refine Af func221 Z ntmps221 Z (Za 2 [] H Z ?_);intro f w H;refine Z2 9 [0,0,0] H Z (Ah Z (call156 _) (CT _ _) H ?_);intro w H;refine Ad Z (AM Z Z) (Zc 1 Z (Am 10 Z (λb=>U) (λb=>?_)));refine Z2 2 [1,0,0] H Z (Ah Z (call156 _) (CT _ _) H ?_);intro w H;refine Ad Z (AM Z Z) (Zc 2 Z (Am 16 Z (λc=>U) (λc=>?_)));refine Z2 21 [2,0,0,3] H Z (Zr Z ?_);exact ⟨_,⟨Z,Z⟩,H.pick 1 [] Z⟩
theorem Mv(v:Value)(sec:List UInt8)(A:Ai)(a:∀h,A h->rdH 1 v sec.length (sec.map u8) h)(d:sec=List.replicate 256 0):An 187 [v] [A] (λv G=>v=.tuple #[.agg #[Aa 0,Aa 0,.slice none 0 0,.int .u32 0],.bool false]/\G=[A]):=by
 intro z R w H;have k:sec.length=256:=by rw[d];simp
 obtain ⟨b,o,c,rfl⟩:=H.sy 0 (λq=>(a _ q).sl (by rw[X9];omega));have f:=H.sy 0 (λq=>(a _ q).cap);refine Af func187 Z ntmps187 Z (Zc 2 Z (AC Z (BN (P:=prog) H Z (zs:=[Aa 0,Aa 0,.slice none 0 0,u32 0]) J) ?_));rintro _ w ⟨e,rfl,H⟩;refine Zc 6 Z (Ah Z (call142 _) (B4 _ sec _ a 4 8 (by first|omega|simp_all)) H.f1 ?_);intro w H;refine k_updA 10 (v:=Aa 0) Z (congrArg Aa (by rw[d];rfl)) (Zc 1 Z (Ah Z (call142 _) (B4 _ sec _ a 12 8 (by first|omega|simp_all)) H ?_));intro w H;refine k_updA 12 (v:=Aa 0) Z (congrArg Aa (by rw[d];rfl)) (Zc 1 Z (Ah Z (call142 _) (B4 _ sec _ a 20 4 (by first|omega|simp_all)) H ?_));intro w H;refine k_updA 14 (v:=Aa 0) Z (congrArg Aa (by rw[d];rfl)) (Ad Z (G4 Z J Z) (Ad Z (AQ Z Z (out:=[Aa 0,Aa 0,.slice none 0 0,u32 (Dt 0)]) J) (AC Z (BN (P:=prog) H Z (zs:=[Aa 0,Aa 0,.slice none 0 0,u32 0]) J) ?_)));rintro _ w ⟨g,rfl,H⟩;refine Z4 6 [0] H Z ?_;intro w H;refine Ah Z (call142 _) (B4 _ sec _ a 24 2 (by first|omega|simp_all)) H.f1 ?_;intro w H;refine k_updA 18 (v:=Aa 0) Z (congrArg Aa (by rw[d];rfl)) (Zc 10 Z ?_);refine Ap (σ:=Nat) (λi=>[(6,Aa (i:Int)),(0,.slice (some ⟨b,o,none⟩) sec.length c),(2,V e),(3,.bool false),(4,V g),(5,Aa 0)])
   (λi w=>Sep z (A::blk g [Aa 0,Aa 0,.slice none 0 0,u32 (Dt 0)] 233::blk e [Aa 0,Aa 0,.slice none 0 0,u32 0] 233::R) w/\(True)) (λi=>0) 0
   fr_z ⟨H,trivial⟩ ?_
 clear H;rintro i w ⟨l,m⟩;have H:=l.l3;refine Z0 7 [0] Z (Am 22 Z (λj=>U) (λj=>?_));refine Zc 8 Z (gx (Z2 5 [1,4] H Z (Ah Z (call221 _) (Mu _ _ _ U U) H ?_)));intro w H;refine Z0 23 [3] Z (Ad Z (AQ Z Z (out:=[Aa 0,Aa 0,.slice none 0 0,u32 0]) J) (Z4 5 [2] H Z ?_));intro w H;refine Zl [2,4] H Z ?_;exact ⟨_,⟨Z,Z⟩,H.pick 3 [0] Z⟩
set_option maxHeartbeats 2000000 in
theorem Of (v:Value) (sec:List UInt8) (A:Ai) (g:∀h,A h->rdH 1 v sec.length (sec.map u8) h) (e q:Int) (he:0<=e/\e<=1099511627776) (hq:0<=q/\q<=1099511627776) (ims:List Img) (k:1<=ims.length/\ims.length<=40) (n:∀m∈ims,m.Ok) (a:sec=sect (Bt e q ims)):An 187 [v] [A] (λv G=>∃v2:Value,v=.tuple #[.agg #[Aa e,Aa q,v2,u32 (Av (AE e q ims))],.bool true]/\G=[grow 3 1 v2 ims.length ((ims.map Img.num).map Aa),A]):=by
 intro z R w H;replace H:=H.l1;have a2:sec.length=256:=by rw[a];exact sect_len (hdL_le k.2)
 obtain ⟨b,o,c,rfl⟩:=H.sy 0 (λq=>(g _ q).sl (by rw[X9];omega));have a1:=H.sy 0 (λq=>(g _ q).cap);refine Af func187 Z ntmps187 Z (Zc 2 Z (AC Z (BN (P:=prog) H Z (zs:=[Aa 0,Aa 0,.slice none 0 0,u32 0]) J) ?_));rintro _ w ⟨s,rfl,H⟩;replace H:=H.l2;refine Zc 6 Z (Ah Z (call142 _) (B4 _ sec _ g 4 8 (by first|omega|simp_all)) H.f1 ?_);intro w H;replace H:=H.l2;refine k_updA 10 (v:=Aa e) Z (congrArg Aa (by rw[a];exact NP k.2 he)) (Zc 1 Z (Ah Z (call142 _) (B4 _ sec _ g 12 8 (by first|omega|simp_all)) H ?_));intro w H;replace H:=H.l2;refine k_updA 12 (v:=Aa q) Z (congrArg Aa (by rw[a];exact NQ k.2 hq)) (Zc 1 Z (Ah Z (call142 _) (B4 _ sec _ g 20 4 (by first|omega|simp_all)) H ?_));intro w H;replace H:=H.l2;refine Ad Z (G4 Z J Z) (k_updA 15 (v:=u32 (Av (AE e q ims))) Z (congrArg u32 (by rw[a];exact VA k.2)) (Ad Z (AQ Z Z (out:=[Aa e,Aa q,.slice none 0 0,u32 (Av (AE e q ims))]) J) (AC Z (BN (P:=prog) H Z (zs:=[Aa 0,Aa 0,.slice none 0 0,u32 0]) J) ?_)));rintro _ w ⟨p,rfl,H⟩;replace H:=H.l3;refine Z4 6 [0] H Z ?_;intro w H;refine Ah Z (call142 _) (B4 _ sec _ g 24 2 (by first|omega|simp_all)) H.f1 ?_;intro w H;replace H:=H.l3;refine k_updA 18 (v:=Aa (ims.length:Int)) Z (congrArg Aa (by obtain ⟨m9,h1,t⟩:=O0 (sec:=sec);rw[h1,<-t,a,La k.2])) (Zc 5 Z ?_);replace H:=(H.nilg 3 1).l4;refine Zc 5 Z ?_;refine Ap (σ:=Nat×Value) (λ⟨i,u⟩=>[(6,Aa (i:Int)),(0,.slice (some ⟨b,o,none⟩) sec.length c),(2,V s),(3,.bool false),(4,V p),(5,Aa (ims.length:Int))])
   (λ⟨i,u⟩ w=>Sep z (grow 3 1 u i (((ims.take i).map Img.num).map Aa)::A::blk p [Aa e,Aa q,u,u32 (Av (AE e q ims))] 233::blk s [Aa 0,Aa 0,.slice none 0 0,u32 0] 233::R) w/\(i<=ims.length)) (λ⟨i,u⟩=>ims.length-i) ⟨0,.slice none 0 0⟩
   fr_z ⟨(by simpa using H),Yi _⟩ ?_
 clear H;rintro ⟨i,u⟩ w ⟨f,x⟩;dsimp only at x f ⊢;have H:=f.l4;have su:=H.sy 0 (·.slc);have hi:=x;clear x;refine Z0 7 [0] Z (Am 22 Z (λh1=>?_) (λh1=>?_))
 ·refine Z0 5 [0] Z (Ag Z (λt=>?_) (λt=>?_))
  ·refine Zc 4 Z ?_;obtain ⟨m,j⟩:∃m,ims[i]?=some m:=⟨_,XW U⟩;replace H:=H.f1.f2;refine A1 (Sep z (blk p [Aa e,Aa q,u,u32 (Av (AE e q ims))] 233::A::R)) 11 Z J (A9 H λw f=>?_)
   have H:=f.l4;refine BA [0,1,2,3] [2,0] J (λ_ hx=>(A3 (hx.blk 0 Z) AU)) (by exact H.pick 4 [0,1] Z) Z J Z Z (Bg 4 J Z Z J J J Z Z Z (Jv Z Z Z (r:=((4*i:Nat):Int)) U U) (H.pick 4 [0,1] Z) (Bg 5 J Z Z J J J Z Z Z (Cm Z Z Z (r:=((26+4*i:Nat):Int)) U U) (H.pick 4 [0,1] Z) (Ay [6] J O (Az (BF Z Z Z Z Z Z (λw=>call142 _ w) (B4 _ sec _ g (26+4*i) 4 (by first|omega|simp_all)) H.f1 Z ?_)))));rintro _ w _ ⟨rfl,rfl⟩ H;replace H:=H.l4;refine k_updA 34 (v:=Aa m.num) Z (congrArg Aa (by rw[a];exact Q9 k.2 j (n m (XX j)))) (Ax (λ_=>(H.pick 4 [1,0] Z)) (Ay [7] J O (Az (Ck Z Z Z Z (AI H Z J BK Z (by decide) (by decide) (out:=[Aa m.num]) J) ?_))));rintro _ w ⟨b3,rfl,H⟩;replace H:=H.l5;refine Ax (λ_=>(H.pick 5 [2,1] Z)) (Ay [8] J O (Az (Ck Z Z Z Z (AJ 3 H Z Z J BK Z Z (H.rv 0 (·.rd U U O Z)) (by simp[Value.oneCell']) U) ?_)));rintro v4 w f;have f:Sep z (blk b3 [Aa m.num] 3::A::blk p [Aa e,Aa q,u,u32 (Av (AE e q ims))] 233::grow 3 1 v4 (i+1) (((ims.take i).map Img.num).map Aa++[Aa m.num])::blk s [Aa 0,Aa 0,.slice none 0 0,u32 0] 233::R) w:=f;have a0:(((ims.take i).map Img.num).map Aa++[Aa m.num]:List Value)=((ims.take (i+1)).map Img.num).map Aa:=(by rw[Ye,j];simp);rw[a0] at f;have H:=f.l5;have l:=H.sy 3 (·.slc);refine Ax (λ_=>(H.pick 5 [2,1] Z)) (BA [9] [2] J (λ_ _=>AU) (by exact H.pick 5 [2,1] Z) Z J Z Z (Ay [10] J O (Az (CA Z Z Z (Jy 2 H Z Z Z Z l.cells l.one J) ?_))));rintro w H;replace H:=H.l5;refine Ax (λh=>absurd Z h) (Bi J (gn (Z1 7 [] [(i:Int)+1] Z U ?_)));replace H:=H.d.f3.f2.f2.f3;refine gf ?_;intro _ hF;refine ⟨⟨i+1,v4⟩,hF.cz,⟨H,?_⟩,?_⟩
   ·show i+1<=ims.length;omega
   (dsimp only;omega)
  (exfalso;omega)
 refine Zc 8 Z (gx (Zc 3 Z ?_));obtain rfl:i=ims.length:=by omega
 rw[YS] at H;refine Z2 2 [2,4] H Z (AB Z (call221 _) (Jq e q _ (ims.map Img.num) _ _ (λh q=>by have e9:(ims.map Img.num).length=ims.length:=X9 ..;rw[e9];exact q.rd) U U (by rw[X9];omega) (λy hy=>by obtain ⟨m9,h9,rfl⟩:=X6.1 hy;exact (n m9 h9).1)) H ?_);rintro _ w _ ⟨u5,rfl,rfl⟩ H;replace H:=H.l5;have a3:=H.sy 0 (·.slc);refine Z0 15 [4] Z (Ah Z (call140 _) (EX _ _ (sect (Bt e q ims)) sec _ _ (λh q=>q.rd) g) H.f2.f1 ?_);intro w H;replace H:=H.l5;refine k_updA 48 (v:=.bool true) Z (congrArg Value.bool (decide_eq_true a.symm)) (Z2 10 [3,4] H Z (AV Z Z (AD 4 H Z Z Z Z (vs:=[Aa e,Aa q,u,u32 (Av (AE e q ims))]) Z (Al Z (Al Z (Al su.one (Al Z AL)))) J O (out:=[Aa e,Aa q,u,u32 (Av (AE e q ims))]) Z) ?_));rintro w H;replace H:=H.l5;refine Zc 4 Z (Zl [4,4] H Z ?_);exact ⟨_,⟨_,Z,Z⟩,H.pick 5 [2,1] Z⟩
end Go.Proofs.YthbbejpbkglmlaaGreatDoor
