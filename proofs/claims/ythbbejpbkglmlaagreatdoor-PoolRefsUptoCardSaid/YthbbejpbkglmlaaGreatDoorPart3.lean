/-
  Steps to: A page of a pool that is referred to so many times more. No condition.
-/
import Derived.Test.YthbbejpbkglmlaaGreatDoorPart2
set_option maxRecDepth 100000
set_option linter.unusedSimpArgs false
set_option linter.unusedVariables false
open Go.Proofs.Tryz
namespace Go.Proofs.YthbbejpbkglmlaaGreatDoor
open Go.RowKit
set_option maxHeartbeats 2000000 in
theorem Rv (ps pd pt md f:Nat) (x:Sup) (s:Value) (g:Bb) (k:Nat) (hq:Hp) (n:Nat) (hn:(n:Int)<x.pages) (p:Pg) (hp:p.Ok) (bv:Value) (A:Ai) (hA:∀h,A h->rdH 1 bv 240 (p.body.map u8) h):An 41 [V ps,Aa (n:Int),.agg #[Aa p.kind,bv]] [stB ps pd pt x s md true (.map (some f)),Dz f g k hq,poolA hq,A] (λv G=>((g n=none/\40<=k)/\v=Aa 16/\G=[stB ps pd pt x s md true (.map (some f)),Dz f g k hq,poolA hq,A])\/(¬(g n=none/\40<=k)/\∃a,BC hq a/\v=Aa 0/\G=[stB ps pd pt x s md true (.map (some f)),Dz f (pgSet g n p) (k+(if (g n).isSome then 0 else 1)) a,poolA a,A])):=by
 intro z R w H;replace H:=H.l4;obtain ⟨r,o,d,c,H⟩:=H.pgsc 1 Z;replace H:=H.l4;obtain ⟨bb,oo,cc,rfl⟩:=H.sy 3 (λq=>(hA _ q).sl (by simp[hp.2]));have a7:=hp.1;have a6:(r.map PgE.ie).length=k:=by simp[c]
 refine Af func41 Z ntmps41 Z (Za 2 [] H Z ?_);intro b1 w H;refine Z2 10 [12,1,0] H Z ?_;rcases d.get n with ⟨m,y⟩|⟨po,l,m,a0,a2,y⟩
 ·refine Ae Z (CR (e:=40) (zv:=.agg #[Aa 0,.slice none 0 0]) Z J J Z Z (AB (H.bk 2 Z))) (k_updA 15 (v:=.tuple #[.agg #[Aa 0,.slice none 0 0],.bool false]) Z (by simp[Cd,y]) (Za 3 [] H Z ?_));intro b2 w H;refine Z4 22 [0,11,2,0,0] H Z ?_;intro w H;refine Am 27 Z (λh1=>U) (λh1=>?_)
  refine Z2 11 [2,4,2,0,0] H Z (Ag Z (λh2=>U) (λh2=>?_));refine Z2 6 [0,1,0,0] H Z (Am 40 Z (λh3=>U) (λh3=>?_));refine Z2 5 [0,1,0,0] H Z (Am 45 Z (λh4=>U) (λh4=>?_));refine Z2 18 [1,1,0,4,12,2,0] H Z (Ae Z (Lk (e:=40) Z J Z (AB (H.bk 3 Z))) (Z0 5 [0] Z (Ag Z (λh5=>?_) (λh5=>?_))))
  ·refine Zc 6 Z (Zr Z ?_);replace H:=(H.toPgsc 3 Z d c).l6
   exact ⟨_,.inl ⟨⟨m,by omega⟩,Z,Z⟩,H.perm 6 [2,3,4,5] Z Z⟩
  refine Zc 4 Z ?_;replace H:=H.f1.f2;refine BO (Sep z (stB ps pd pt x s md true (.map (some f))::blk b1 [Aa p.kind,.slice (some ⟨bb,oo,none⟩) 240 cc] 40::R)) 8 Z J (A8 H λw H'=>?_);have H:=H'.l6;refine CB [0,1,2,3,4,5] [12,0,0,1,2] [] (by exact H.pick 6 [0,1] Z) Z J Z (Cf [6] J O (Ay (BF Z Z Z Z Z Z (λw=>call64 _ w) (FC p _ _ hA hp) H.f5 Z ?_)));rintro _ w _ ⟨v1,rfl,rfl⟩ H;replace H:=H.l7;refine B0 (H.pick 7 [2,3] Z) (Cf [7] J O (Ay (Cy Z Z Z (CV 5 (e:=40) H Z Z J Z Z Z) ?_)));rintro w H;replace H:=H.l7;refine B0 (H.pick 7 [2,3] Z) (a_done J (gn (Zc 7 Z (Zr Z ?_))));replace H:=H.f6;obtain ⟨a,⟨b,i⟩,H⟩:=BU H (λh q=>q.rd);replace H:=H.l6;obtain ⟨u,a1,j,t⟩:=(d.le b).put (k:=n) (p:=p) hp i;rw[a1] at H;have H:Sep z (poolA a::A::stB ps pd pt x s md true (.map (some f))::blk b1 [Aa p.kind,.slice (some ⟨bb,oo,none⟩) 240 cc] 40::blk b2 [Aa 0,.slice none 0 0] 40::AG f (u.map PgE.ie) (putC (r.map PgE.ie) (n:Int) o)::R) w:=H;replace H:=(H.toPgsc 5 Z j (by rw[t,c])).l6;exact ⟨_,.inr ⟨λq=>by first|(rw[m] at q;cases q.1;done)|omega,a,b,rfl,rfl⟩,H.perm 6 [2,5,0,1] rfl rfl⟩
 have a3:Slc l 240:=a2.slc;refine Ae Z (CR (e:=40) (zv:=.agg #[Aa 0,.slice none 0 0]) Z J J Z Z (AB (H.bk 2 Z))) (k_updA 15 (v:=.tuple #[.agg #[Aa po.kind,l],.bool true]) Z (by simp[Cd,y]) (Za 3 [] H Z ?_));intro b3 w H;refine A0 Z Z (AE 0 H Z Z Z Z (vs:=[Aa po.kind,l]) Z (Al Z (Al a3.one AK)) J O (out:=[Aa po.kind,l]) Z) ?_;rintro w H;replace H:=H.l6;refine Z2 21 [11,2,0,0] H Z (Am 27 Z (λh6=>U) (λh6=>?_));refine Z2 11 [2,4,2,0,0] H Z (Ag Z (λh7=>U) (λh7=>?_));refine Z2 6 [0,1,0,0] H Z (Am 40 Z (λh8=>U) (λh8=>?_));refine Z2 5 [0,1,0,0] H Z (Am 45 Z (λh9=>U) (λh9=>?_));refine Z2 29 [1,1,0,4] H Z ?_;replace H:=H.f1.f2;refine BO (Sep z (stB ps pd pt x s md true (.map (some f))::blk b1 [Aa p.kind,.slice (some ⟨bb,oo,none⟩) 240 cc] 40::R)) 8 Z J (A8 H λw H'=>?_);have H:=H'.l6;refine CB [0,1,2,3,4,5] [12,0,0,1,2] [] (by exact H.pick 6 [0,1] Z) Z J Z (Cf [6] J O (Ay (BF Z Z Z Z Z Z (λw=>call64 _ w) (FC p _ _ hA hp) H.f5 Z ?_)));rintro _ w _ ⟨v1,rfl,rfl⟩ H;replace H:=H.l7;refine B0 (H.pick 7 [2,3] Z) (Cf [7] J O (Ay (Cy Z Z Z (CV 5 (e:=40) H Z Z J Z Z Z) ?_)));rintro w H;replace H:=H.l7;refine B0 (H.pick 7 [2,3] Z) (a_done J (gn (Zc 7 Z (Zr Z ?_))));replace H:=H.f6;obtain ⟨a,⟨b,i⟩,H⟩:=BU H (λh q=>q.rd);replace H:=H.l6;obtain ⟨u,a1,j,t⟩:=(d.le b).put (k:=n) (p:=p) hp i;rw[a1] at H;have H:Sep z (poolA a::A::stB ps pd pt x s md true (.map (some f))::blk b1 [Aa p.kind,.slice (some ⟨bb,oo,none⟩) 240 cc] 40::blk b3 [Aa po.kind,l] 40::AG f (u.map PgE.ie) (putC (r.map PgE.ie) (n:Int) o)::R) w:=H;replace H:=(H.toPgsc 5 Z j (by rw[t,c])).l6;exact ⟨_,.inr ⟨λq=>by first|(rw[m] at q;cases q.1;done)|omega,a,b,rfl,rfl⟩,H.perm 6 [2,5,0,1] rfl rfl⟩
section
theorem HB{s:Sup}(hs:SOk s)(x:Int):s.start<=(ringAt s x:Int)/\(ringAt s x:Int)<s.start+s.len:=by
 have a:=hs.start;have d:=hs.head;have b:=ZC x (by omega:s.len≠0);have c:=Zk x (by omega:0<s.len);unfold ringAt;omega
def Lt(s:Sup)(D D':Dsk):Prop:=∀i:Nat,s.start<=(i:Int)->(i:Int)<s.start+s.len->D'.dur i=D.dur i/\D'.ver i=D.ver i
def SameOut(s:Sup)(D D':Dsk):Prop:=∀i:Nat,¬(s.start<=(i:Int)/\(i:Int)<s.start+s.len)->D'.dur i=D.dur i/\D'.ver i=D.ver i
theorem PInv.out{D D':Dsk}{s:Sup}{rs:List Rc}{f:List (List UInt8)}{a q u:Int}{b:Bool}{sure:Nat}(h:PInv D s rs f a q u b sure)(hs:SOk s)(g:Lt s D D'):PInv D' s rs f a q u b sure:=by
 have d:∀x:Int,D'.dur (ringAt s x)=D.dur (ringAt s x)/\D'.ver (ringAt s x)=D.ver (ringAt s x):=λx=>g _ (HB hs x).1 (HB hs x).2;refine ⟨h.fa,h.fq,h.fu,h.ul,h.pb,h.part,h.recs,λi j c e=>h.old i j c ?_,λi c e=>?_,λi c e=>?_,h.sure⟩
 ·unfold Cx at e ⊢;rwa[(d _).1,(d _).2] at e
 ·have:=h.last i c e
  unfold Dsk.cont at this ⊢;rw[(d _).1,(d _).2];exact this
 rw[(d _).1,(d _).2];exact h.dura i c e
theorem NQ{f:Bb}{ims:List Img}{n:Nat}(h:(f n).isSome=true):(DK f ims n).isSome=true:=by rw[ME,h];rfl
theorem Fa(a:List Rc):∀(rs:List Rc) {n:Nat},(ov rs n).isSome=true->(ov (rs++a) n).isSome=true:=by
 induction a with
 | nil=>intro rs n h;rwa[YG]
 | cons r a ih=>
  intro rs n h;rw[show rs++r::a=(rs++[r])++a from by simp];exact ih _ (by rw[Ht];exact NQ h)
theorem Gi{rs:List Rc}{k n:Nat}(h:(ov (rs.take k) n).isSome=true):(ov rs n).isSome=true:=by
 have:=Fa (rs.drop k) _ h;rwa[YO] at this
structure Clean(D:Dsk):Prop where
 f1:D.f1=0
 f2:D.f2=0
 f3:D.f3=0
 cut:D.cut=false
theorem Clean.bad{D:Dsk}(h:Clean D):¬D.bad:=by
 rintro (g|⟨g,_⟩)
 ·rw[h.f2] at g;cases g
 rw[h.cut] at g;cases g
theorem Clean.flb{D:Dsk}(h:Clean D):¬D.flb:=by
 rintro (g|⟨g,_⟩)
 ·rw[h.f3] at g;cases g
 rw[h.cut] at g;cases g
theorem Clean.wr1{D:Dsk}(h:Clean D)(b:Bool)(x:Nat)(p:List UInt8):Clean (wr1 D b x p):=by
 have a:=Dsk.ws_f b [p] {D with f2:=AO D.f2} x;refine ⟨a.1.trans h.f1,a.2.1.trans ?_,a.2.2.1.trans h.f3,a.2.2.2.1.trans h.cut⟩;show AO D.f2=0;rw[h.f2];rfl
theorem Clean.wr{D:Dsk}(h:Clean D)(x:Nat)(ps:List (List UInt8)):Clean (D.wr x ps):=by
 have a:=Dsk.ws_f false ps {D with f2:=AO D.f2} x;refine ⟨a.1.trans h.f1,a.2.1.trans ?_,a.2.2.1.trans h.f3,a.2.2.2.1.trans h.cut⟩;show AO D.f2=0;rw[h.f2];rfl
theorem Clean.hw(l:List (Nat×Pg)):∀{D:Dsk},Clean D->Clean (hwD D l):=by
 induction l with
 | nil=>intro D h;exact h
 | cons x l ih=>intro D h;rw[hwD_cons];exact ih (h.wr _ _)
theorem Clean.fl{D:Dsk}(h:Clean D):Clean D.fl:=⟨h.f1,h.f2,by show AO D.f3=0;rw[h.f3];rfl,h.cut⟩
theorem Clean.sv{D:Dsk}(h:Clean D)(x:Sup):Clean (Ek D x):=h.wr1 true _ _
theorem Clean.setF{D:Dsk}(h:Clean D){l:List (Nat×Pg)}{c:Int}{a:Dsk}:¬JK D l c a:=by
 rintro (⟨j,g,_⟩|⟨g,_⟩|⟨g,_⟩)
 ·exact (h.hw _).bad g
 ·exact (h.hw _).flb g
 exact (h.hw _).fl.bad g

structure SInv(D:Dsk)(x:Sup)(B:Nat->Pg)(rs:List Rc)(ptl:List (List UInt8))(a q u:Int)(b:Bool)(sure:Nat):Prop where
 ok:x.Ok (D.n:Int)
 p:PInv D x rs ptl a q u b sure
 s:SOk x
 gen:1<=x.gen
 num:∀r∈rs,∀m∈r.ims,m.num<x.pages
 home:∀i:Nat,(i:Int)<x.pages->∀c,Cx D (2+i) c->HomeP c i (B i)\/((ov (rs.take sure) i).isSome=true/\∃p,HomeP c i p)
 sup:D.dur (x.gen%2).toNat=Br x/\D.ver (x.gen%2).toNat=[]
 oth:∃y:Sup,y.Ok (D.n:Int)/\y.gen=x.gen-1/\D.dur ((x.gen+1)%2).toNat=Br y/\D.ver ((x.gen+1)%2).toNat=[]
 rest:∀i:Nat,2+x.pages<=(i:Int)->¬(x.start<=(i:Int)/\(i:Int)<x.start+x.len)->∀c,Cx D i c->∀e q,Tg c e q->e<=x.epoch
variable{D D':Dsk}{x:Sup}{B:Nat->Pg}{rs:List Rc}{ptl:List (List UInt8)}{a q u:Int}{b:Bool}{sure:Nat}
theorem SInv.cur(h:SInv D x B rs ptl a q u b sure){i:Nat}(d:(i:Int)<x.pages)(c:ov rs i=none):HomeP (D.cont (2+i)) i (B i):=by
 rcases h.home i d _ (cont_has D _) with g|⟨g,_⟩
 ·exact g
 have:=Gi g;rw[c] at this;cases this
theorem SInv.ovb(h:SInv D x B rs ptl a q u b sure){n:Nat}(d:(ov rs n).isSome=true):(n:Int)<x.pages:=by
 obtain ⟨p,hp⟩:=YE.1 d;obtain ⟨r,e,m,c,f,_⟩:=I5 _ rs Z hp;have g:=h.num r e m c;have i:=h.ok.2;omega
theorem SInv.ovok(h:SInv D x B rs ptl a q u b sure){n:Nat}{p:Pg}(d:ov rs n=some p):p.Ok:=by
 obtain ⟨r,e,m,c,_,rfl⟩:=I5 _ rs Z d;obtain ⟨j,f⟩:=Yx e;exact EQ ((h.p.recs j r f).2.2 m c)
theorem SInv.f(h:SInv D x B rs ptl a q u b sure)(l:D'.n=D.n)(g:D'.dur=D.dur)(e:D'.ver=D.ver):SInv D' x B rs ptl a q u b sure:=
 ⟨by rw[l];exact h.ok,h.p.f g e,h.s,h.gen,h.num,λi k c j=>h.home i k c (by unfold Cx at j ⊢;rwa[g,e] at j),by rw[g,e];exact h.sup,by
  obtain ⟨y,a,b,c,d⟩:=h.oth;exact ⟨y,by rw[l];exact a,b,by rw[g];exact c,by rw[e];exact d⟩,λi k m c j=>h.rest i k m c (by unfold Cx at j ⊢;rwa[g,e] at j)⟩
theorem SInv.log(h:SInv D x B rs ptl a q u b sure)(p:D'.n=D.n)(t:SameOut x D D'){e:List Rc}{f:List (List UInt8)}{a' w z:Int}{v:Bool}(hp:PInv D' x e f a' w z v sure)(l:e.take sure=rs.take sure)(k:∀r∈e,∀m∈r.ims,m.num<x.pages):SInv D' x B e f a' w z v sure:=by
 have hk:=h.ok.2;have hg:=h.gen;have g:∀i:Nat,(i:Int)<x.start->D'.dur i=D.dur i/\D'.ver i=D.ver i:=λi o=>t i U;refine ⟨by rw[p];exact h.ok,hp,h.s,hg,k,λi o c j=>?_,?_,?_,λi o l c j=>h.rest i o l c (by have:=t i l;unfold Cx at j ⊢;rwa[this.1,this.2] at j)⟩
 ·have:=g (2+i) U
  unfold Cx at j;rw[this.1,this.2] at j;rw[l];exact h.home i o c j
 ·have:=g (x.gen%2).toNat U
  rw[this.1,this.2];exact h.sup
 obtain ⟨y,a,b,c,d⟩:=h.oth;have:=g ((x.gen+1)%2).toNat U;exact ⟨y,by rw[p];exact a,b,by rw[this.1];exact c,by rw[this.2];exact d⟩
theorem DJ{D:Dsk}{i:Nat}(h:D.ver i=[]):D.cont i=D.dur i:=Ih h
theorem SInv.flush(h:SInv D x B rs ptl a q u b sure):SInv D.fl x B rs ptl a q u b rs.length:=by
 refine ⟨h.ok,h.p.flush,h.s,h.gen,h.num,λi e c f=>?_,?_,?_,λi e k c f=>h.rest i e k c (fl_has f)⟩
 ·rw[YN]
  rcases h.home i e c (fl_has f) with g|⟨l,j⟩
  ·exact .inl g
  exact .inr ⟨Gi l,j⟩
 ·exact ⟨(DJ h.sup.2).trans h.sup.1,Z⟩
 obtain ⟨y,a,b,c,d⟩:=h.oth;exact ⟨y,a,b,(DJ d).trans c,Z⟩
theorem T5(b:x.Ok (D.n:Int)){l:List (Nat×Pg)}(a:∀y∈l,(y.1:Int)<x.pages):Lt x D (hwD D l):=λi f _=>by
 have d:=b.2;refine ⟨by rw[I6],I7 l D i λy c e=>?_⟩;have:=a y c;omega
theorem SInv.hw(h:SInv D x B rs ptl a q u b rs.length){l:List (Nat×Pg)}(o:∀y∈l,ov rs y.1=some y.2):SInv (hwD D l) x B rs ptl a q u b rs.length:=by
 have v:=h.gen;have k:∀y∈l,(y.1:Int)<x.pages:=λy j=>h.ovb (by rw[o y j];rfl);have f:∀i:Nat,i<2->(hwD D l).ver i=D.ver i:=λi n=>I7 l D i λy _ e=>by omega
 refine ⟨by rw[Ea];exact h.ok,h.p.out h.s (T5 h.ok k),h.s,v,h.num,λi n c m=>?_,?_,?_,λi n r c m=>?_⟩
 ·rcases hw_has l D _ c m with g|⟨y,j,t,m⟩
  ·exact h.home i n c g
  refine .inr ⟨?_,y.2,.inr ⟨h.ovok (o y j),?_⟩⟩
  ·rw[YN,show i=y.1 from by omega,o y j];rfl
  rw[m,show i=y.1 from by omega]
 ·rw[I6,f _ U];exact h.sup
 ·obtain ⟨y,a,b,c,d⟩:=h.oth
  exact ⟨y,by rw[Ea];exact a,b,by rw[I6];exact c,by rw[f _ U];exact d⟩
 rcases hw_has l D _ c m with g|⟨y,j,t,_⟩
 ·exact h.rest i n r c g
 have:=k y j;omega
theorem SInv.setF(h:SInv D x B rs ptl a q u b rs.length){e:List Int}(i:Ec (ov rs) e){c:Int}{k:Dsk}(n:JK D (pgLst (ov rs) e) c k):SInv k x B rs ptl a q u b rs.length:=by
 have g:∀l:List (Nat×Pg),(∀y∈l,y∈pgLst (ov rs) e)->SInv (hwD D l) x B rs ptl a q u b rs.length:=λl m=>h.hw λy d=>(DA i y.1 y.2).1 (m y d);rcases n with ⟨j,_,_,rfl⟩|⟨_,_,rfl⟩|⟨_,_,rfl⟩
 ·exact (g _ λy d=>YH d).f Z Z Z
 ·exact (g _ λy d=>d).f Z Z Z
 exact (g _ λy d=>d).flush.f Z Z Z
theorem SInv.settled(h:SInv D x B rs ptl a q u b rs.length){f:List Int}(g:Ec (ov rs) f)(hq:q<=1099511627776){y:Sup}(hy:y.Ok (D.n:Int))(h1:y.start=x.start)(o:y.len=x.len)(h3:y.epoch=x.epoch)(h4:y.head=a)(h5:y.seq=q)(h6:y.pages=x.pages)(h7:y.gen=x.gen+1):
  SInv (Ek (hwD D (pgLst (ov rs) f)).fl y) y (pgMap (ov rs) B) [] [] a q 0 false 0:=by
 have hk:=h.ok.2;have hg:=h.gen;have m:SInv (hwD D (pgLst (ov rs) f)) x B rs ptl a q u b rs.length:=h.hw λz t=>(DA g z.1 z.2).1 t;have k:=m.flush;have l:=h.p.at_ok h.s;have a5:=Sup.get hy;have a2:=h.p.fq;have a4:0<=q:=by split at a2<;>omega
 have a1:SOk y:=⟨by rw[h1];exact h.s.start,by rw[h4,o];exact l,by rw[h3];exact h.s.epoch,by rw[h5];exact a4⟩;have w:Lt x (hwD D (pgLst (ov rs) f)).fl (Ek (hwD D (pgLst (ov rs) f)).fl y):=λi hi _=>by
  have:=DR (hwD D (pgLst (ov rs) f)).fl y i U;exact this
 have a0:=k.p.out h.s w;have a3:=a0.drop h.s hq h1 o h3 h4 h5 U (by rw[h4,o];exact l);refine ⟨by show y.Ok ((hwD D _).n:Int);rw[Ea];exact hy,a3,a1,by omega,λr v=>(by cases v),λi hi c j=>.inl ?_,Gc _ y,?_,λi hi v c j e q' ht=>?_⟩
 ·have d:=DR (hwD D (pgLst (ov rs) f)).fl y (2+i) U
  unfold Cx at j;rw[d.1,d.2] at j;rcases j with rfl|j
  ·show HomeP ((hwD D (pgLst (ov rs) f)).cont (2+i)) i _
   unfold pgMap
   cases ho:ov rs i with
   | some p=>
    have hm:(i,p)∈pgLst (ov rs) f:=(DA g i p).2 ho;rw[SY _ D (DS g) (i,p) hm];exact .inr ⟨h.ovok ho,Z⟩
   | none=>
    rw[hw_cont_out _ D _ (λz t e=>by
     have:=(DA g z.1 z.2).1 t;rw[show z.1=i from by omega,ho] at this;cases this)]
    exact h.cur U ho
  cases j
 ·refine ⟨x,by show x.Ok ((hwD D _).n:Int);rw[Ea];exact h.ok,by omega,?_⟩
  have d:=DR (hwD D (pgLst (ov rs) f)).fl y ((y.gen+1)%2).toNat U;rw[d.1,d.2,show (y.gen+1)%2=x.gen%2 from by omega];exact k.sup
 have d:=DR (hwD D (pgLst (ov rs) f)).fl y i U;unfold Cx at j;rw[d.1,d.2] at j;rw[h3];exact k.rest i U (by rwa[h1,o] at v) c j e q' ht
theorem SInv.tags(h:SInv D x B rs ptl a q u b sure)(hq:q<=1099511627776){i:Nat}(d:2+x.pages<=(i:Int)){c:List UInt8}(k:Cx D i c){e g:Int}(f:Tg c e g):e<=x.epoch:=by
 by_cases hr:x.start<=(i:Int)/\(i:Int)<x.start+x.len
 ·have m:0<x.len:=by have:=h.s.head;omega
  obtain ⟨j,l,n⟩:=K9 m x.head ((i:Int)-x.start);have d:ringAt x ((i:Int)-x.start)=i:=by
   unfold ringAt;rw[YZ U U];omega
  have:=h.p.tags h.s hq l (c:=c) (by rw[<-n,d];exact k) f;omega
 exact h.rest i d hr c k e g f
theorem PInv.fresh{D:Dsk}{s:Sup}(hs:SOk s)(h:∀i:Nat,s.start<=(i:Int)->(i:Int)<s.start+s.len->∀c,Cx D i c->∀e q,Tg c e q->e<s.epoch):PInv D s [] [] s.head s.seq 0 false 0:=by
 refine ⟨?_,by simp,by simp[secs],by have:=hs.head;omega,λ_=>rfl,.inl Z,λj r h=>by simp at h,λi d c b=>.inl λe q a=>.inl ?_,λi c h=>by simp[secs] at h,λi c h=>by simp[secs] at h,Yo _⟩
 ·rw[AaS,YZ hs.head.1 hs.head.2]
 have:=HB hs (s.head+i);exact h _ this.1 this.2 c b e q a
end
def S4(c:Int)(ims:List Img)(room:Prop):Prop:=(c=16/\ims.length > 40)\/(c=1/\ims.length<=40/\(ims=[]\/¬DH ims))\/(c=15/\(1<=ims.length/\ims.length<=40)/\DH ims/\¬room)
structure OpM where
 k0:Int
 kd:Int
 fl:Int
 k4:Int
 k5:Int
 ns:List Int
abbrev OpE:=OpM×Value×Value
def OpE.cells(e:OpE):List Value:=[.int .i64 e.1.k0,e.2.1,.int .i64 e.1.kd,.int .i64 e.1.fl,.int .i64 e.1.k4,.int .i64 e.1.k5,e.2.2]
theorem SameOut.one{s:Sup}{D:Dsk}{x:Nat}{ps:List (List UInt8)}(a:s.start<=x)(c:(x:Int)+ps.length<=s.start+s.len):SameOut s D (D.wr x ps):=λi b=>⟨by rw[OW],Fl _ _ _ _ U⟩
theorem SameOut.trans{s:Sup}{D b c:Dsk}(d:SameOut s D b)(e:SameOut s b c):SameOut s D c:=λi a=>⟨(e i a).1.trans (d i a).1,(e i a).2.trans (d i a).2⟩
theorem Ko(pl pd l:Nat)(d x:Sup)(w:Bool)(v:Value)(ims:List Img)(A:Ai)(hA:∀h,A h->imgsH v ims h)(D:Dsk){B:Nat->Pg}{rs:List Rc}{ptl:List (List UInt8)}{a q u:Int}{b:Bool}{sure:Nat}(j:SInv D x B rs ptl a q u b sure)(a3:∀m∈ims,m.num<x.pages)(h1:d.start=x.start)(h2:d.len=x.len)(h3:d.epoch=x.epoch)(a8:d.Ok (D.n:Int))(a9:w=decide (d.epoch<4294967296))(hq:0<=q/\q<=1099511627776)(a4:∀i,(D.ver i).length<=1000000000000):
  An 167 [V pl,v] [blk pl [V pd,V l,Aa d.gen,Aa d.epoch,Aa d.pages,Aa d.start,Aa d.len,Aa d.head,Aa d.seq,Aa a,Aa q,Aa u,.bool b,.bool w] 191,tblA l,diskA pd D,A] (λv G=>
   (∃(Da:Dsk) (a2 q2 u2:Int),(1<=ims.length/\ims.length<=40)/\DH ims/\SInv Da x B (rs++[⟨q,ims⟩]) [] a2 q2 u2 b sure/\b=false/\(Clean D->Clean Da)/\(Da.n=D.n/\∀i,(Da.ver i).length<=(D.ver i).length+2)/\q2=q+1/\u2=u+(1+(ims.length:Int))/\v=Aa 0/\G=[blk pl [V pd,V l,Aa d.gen,Aa d.epoch,Aa d.pages,Aa d.start,Aa d.len,Aa d.head,Aa d.seq,Aa a2,Aa q2,Aa u2,.bool b,.bool w] 191,tblA l,diskA pd Da,A])\/
   (∃c:Int,S4 c ims (1+(ims.length:Int)<=(if b then 0 else x.len-u)/\w=true/\q<1099511627776)/\v=Aa c/\G=[blk pl [V pd,V l,Aa d.gen,Aa d.epoch,Aa d.pages,Aa d.start,Aa d.len,Aa d.head,Aa d.seq,Aa a,Aa q,Aa u,.bool b,.bool w] 191,tblA l,diskA pd D,A])\/
   (∃(Df:Dsk) (a5:List (List UInt8)),¬Clean D/\SInv Df x B rs a5 a (q+1) u true sure/\(Df.n=D.n/\∀i,(Df.ver i).length<=(D.ver i).length+2)/\v=Aa 11/\G=[blk pl [V pd,V l,Aa d.gen,Aa d.epoch,Aa d.pages,Aa d.start,Aa d.len,Aa d.head,Aa d.seq,Aa a,Aa (q+1),Aa u,.bool true,.bool w] 191,tblA l,diskA pd Df,A])):=by
 have y:=j.p;have hs:=j.s;have b4:=y.at_ok hs;have b3:=hs.head;have b1:=hs.start;have b0:=y.fu;have b2:=y.ul;refine Cn.mono (Rh pl pd l d a q u b w v ims A hA D a8 a9 U U U a4) ?_;rintro v Γ (⟨g,rfl,rfl⟩|⟨g,o,rfl,rfl⟩|⟨g,o,g3,rfl,rfl⟩|⟨g,o,g3,k,hk,g4⟩)
 ·exact .inr (.inl ⟨16,.inl ⟨Z,g⟩,Z,Z⟩)
 ·exact .inr (.inl ⟨1,.inr (.inl ⟨Z,g,o⟩),Z,Z⟩)
 ·exact .inr (.inl ⟨15,.inr (.inr ⟨Z,g,o,by rw[<-h2];exact g3⟩),Z,Z⟩)
 have a0:=g3.1
 cases b with
 | true=>rw[if_pos Z] at a0;omega
 | false=>
  rw[if_neg (by decide)] at a0;have t:1+(ims.length:Int)<=x.len-u:=by omega
  have a6:(k:Int)=min (1+(ims.length:Int)) (x.len-a):=by rw[<-h2];exact hk
  have a7:=EN x.epoch q ims;rw[h1,h3] at g4;have l1:=λi=>Dsk.wr_len D (x.start+a).toNat ((A7 x.epoch q ims).take k) i;have l2:=λi=>Dsk.wr_len (D.wr (x.start+a).toNat ((A7 x.epoch q ims).take k)) x.start.toNat ((A7 x.epoch q ims).drop k) i;have o1:SameOut x D (D.wr (x.start+a).toNat ((A7 x.epoch q ims).take k)):=SameOut.one U (by rw[X2,a7];omega);have o2:SameOut x (D.wr (x.start+a).toNat ((A7 x.epoch q ims).take k)) ((D.wr (x.start+a).toNat ((A7 x.epoch q ims).take k)).wr x.start.toNat ((A7 x.epoch q ims).drop k)):=SameOut.one U (by rw[Yv,a7];omega);have e:=y.app hs g o.1 t a6;have a1:(rs++[(⟨q,ims⟩:Rc)]).take sure=rs.take sure:=X7 y.sure;have f:∀r∈rs++[(⟨q,ims⟩:Rc)],∀m∈r.ims,m.num<x.pages:=λr t m hm=>by
   rcases Yr.1 t with t|t
   ·exact j.num r t m hm
   rw[YD.1 t] at hm;exact a3 m hm
  rcases g4 with ⟨_,g5,rfl,rfl⟩|⟨_,g5,_,rfl,rfl⟩|⟨g5,rfl,rfl⟩|⟨_,g6,g5,rfl,rfl⟩
  ·unfold D8 at e
   rw[if_neg U] at e;exact .inl ⟨_,(a+(1+(ims.length:Int)))%x.len,q+1,u+(1+(ims.length:Int)),g,o,j.log (Dsk.wr_n _ _ _) o1 e a1 f,Z,λz=>z.wr _ _,⟨Dsk.wr_n _ _ _,λi=>by have:=l1 i;omega⟩,Z,Z,Z,by simp only[lgB,h1,h2,h3]⟩
  ·unfold D8 at e
   rw[if_pos U] at e;exact .inl ⟨_,(a+(1+(ims.length:Int)))%x.len,q+1,u+(1+(ims.length:Int)),g,o,j.log (by rw[Dsk.wr_n,Dsk.wr_n]) (o1.trans o2) e a1 f,Z,λz=>(z.wr _ _).wr _ _,⟨by rw[Dsk.wr_n,Dsk.wr_n],λi=>by have:=l1 i;have:=l2 i;omega⟩,Z,Z,Z,by simp only[lgB,h1,h2,h3]⟩
  ·exact .inr (.inr ⟨D.wf,_,λz=>z.bad g5,SInv.log (D':=D.wf) j Z (λ_ _=>⟨Z,Z⟩) y.fail0 Z j.num,⟨Z,λi=>by show (D.ver i).length<=_;omega⟩,Z,by simp only[lgB,h1,h3]⟩)
  exact .inr (.inr ⟨Dsk.wf (D.wr (x.start+a).toNat ((A7 x.epoch q ims).take k)),_,λz=>(z.wr _ _).bad g5,SInv.log (D':=Dsk.wf (D.wr (x.start+a).toNat ((A7 x.epoch q ims).take k))) j (Dsk.wr_n _ _ _) o1 (y.fail1 hs g o.1 t a6 g6) Z j.num,⟨Dsk.wr_n _ _ _,λi=>by have:=l1 i;show ((D.wr (x.start+a).toNat ((A7 x.epoch q ims).take k)).ver i).length<=_;omega⟩,Z,by simp only[lgB,h1,h3]⟩)
def En(x:Sup)(a q:Int):Sup:= {x with gen:=x.gen+1,head:=a,seq:=q}
theorem NR(x:Sup)(a q:Int):(En x a q).gen=x.gen+1/\(En x a q).epoch=x.epoch/\(En x a q).pages=x.pages/\(En x a q).start=x.start/\(En x a q).len=x.len/\(En x a q).head=a/\(En x a q).seq=q:=⟨Z,Z,Z,Z,Z,Z,Z⟩
theorem Sup.ok_mk{s:Sup}{n:Int}(e:0<=s.gen/\s.gen<=1099511627776)(i:0<=s.epoch/\s.epoch<=1099511627776)(f:16<=s.pages/\s.pages<=1024)(c:2+s.pages<=s.start/\s.start<=1099511627776)(b:64<=s.len/\s.len<=1099511627776)(g:0<=s.head/\s.head<s.len)(h:0<=s.seq/\s.seq<=1099511627776)(d:s.start<=n-s.len/\s.len<=n):s.Ok n:=by
 refine ⟨λy a=>?_,by omega,by omega,by omega,by omega,by omega,by omega,by omega⟩;simp only[Sup.list,YL,List.not_mem_nil,or_false] at a;omega
theorem Hd(ps pd b md:Nat)(x:Sup)(j h:Value)(l:Bool)(f:Bb)(hq:Hp)(y:Sup)(D:Dsk)(q:∀n,(f n).isSome=true->n<1024)(p:∀n,(f n).isSome=true->2+n<D.n)(d:y.Ok (D.n:Int))(e:∀i,(D.ver i).length<=1000000000000):
  An 76 [V ps,.agg #[Aa y.gen,Aa y.epoch,Aa y.pages,Aa y.start,Aa y.len,Aa y.head,Aa y.seq]] [stB ps pd b x j md l h,tblA b,diskA pd D,pgsA md f hq,poolA hq] (λv G=>(∃a:List Int,Ec f a/\v=Aa 0/\G=[stB ps pd b y j md l h,tblA b,diskA pd (Ek (hwD D (pgLst f a)).fl y),pgsA md CP hq,poolA hq])\/(∃(a:List Int) (c:Int) (k:Dsk),Ec f a/\c≠0/\JK D (pgLst f a) c k/\v=Aa c/\G=[stB ps pd b x j md l h,tblA b,diskA pd k,pgsA md f hq,poolA hq])):=by
 refine Cn.mono (Rs ps pd b md x j h l f hq y D q p d e) ?_;rintro v Γ ⟨a,g,⟨o,m⟩|⟨c,k,o,m,s,r⟩⟩
 ·exact .inl ⟨a,g,o,m⟩
 exact .inr ⟨a,c,k,g,o,m,s,r⟩
theorem Ph{D a:Dsk}{l:List (Nat×Pg)}{c:Int}(h:JK D l c a):a.n=D.n:=by
 rcases h with ⟨j,_,_,rfl⟩|⟨_,_,rfl⟩|⟨_,_,rfl⟩
 ·exact Ea _ _
 ·exact Ea _ _
 exact Ea _ _
theorem Lu{D a:Dsk}{l:List (Nat×Pg)}{c:Int}(b:(l.map Prod.fst).Nodup)(h:JK D l c a)(i:Nat):(a.ver i).length<=(D.ver i).length+1:=by
 rcases h with ⟨j,_,_,rfl⟩|⟨_,_,rfl⟩|⟨_,_,rfl⟩
 ·exact Lb _ D i (b.sublist ((List.take_sublist _ _).map _))
 ·exact Lb _ D i b
 show ([]:List (List UInt8)).length<=_;simp
theorem Gj{D:Dsk}(h:∀i,D.ver i=[])(x:Sup)(i:Nat):(Ek D x).ver i=[]:=by
 by_cases e:i=(x.gen%2).toNat
 ·rw[e];exact (Gc D x).2
 rw[(DR D x i e).2];exact h i
theorem Lw{b:Bool}{l u:Int}(h:(0:Int)<(if b then 0 else l-u)):b=false/\u<l:=by
 cases b with
 | true=>rw[if_pos Z] at h;omega
 | false=>rw[if_neg (by decide)] at h;exact ⟨Z,by omega⟩
theorem PgsIn.nil_iff{f:Bb}{es:List PgE}{clk:Nat}{hq:Hp}(h:PgsIn f es clk hq):es.length=0↔∀n,f n=Option.none:=by
 constructor
 ·intro e n
  obtain rfl:=ZL.1 e
  cases a:f n with
  | none=>rfl
  | some p=>obtain ⟨e,b,_⟩:=h.all n p a;cases b
 intro a
 cases es with
 | nil=>rfl
 | cons e es=>
  have:=(h.ent e O).1;rw[a] at this;cases this
set_option maxHeartbeats 2000000 in
theorem Lx (ps pd t pl md:Nat) (x sL:Sup) (mo:Value) (un nu:Bool) (hq:Hp) (D:Dsk) (B:Nat->Pg) (rs:List Rc) (ptl:List (List UInt8)) (a q u:Int) (b:Bool) (sure:Nat) (o:SInv D x B rs ptl a q u b sure) (hL:sL.start=x.start/\sL.len=x.len/\sL.epoch=x.epoch) (c0:q<=1099511627776) (a9:∀i,(D.ver i).length<=1000000000000):An 168 [V ps] [stB ps pd t x (V pl) md un mo,lgB pl pd t sL a q u b nu,tblA t,diskA pd D,pgsA md (ov rs) hq,poolA hq] (λv G=>((∀n,ov rs n=none)/\b=false/\u<x.len/\v=Aa 0/\G=[stB ps pd t x (V pl) md un mo,lgB pl pd t sL a q u b nu,tblA t,diskA pd D,pgsA md (ov rs) hq,poolA hq])\/(∃r:Dsk,¬((∀n,ov rs n=none)/\b=false/\u<x.len)/\SInv r (En x a q) (pgMap (ov rs) B) [] [] a q 0 false 0/\(Clean D->Clean r)/\r.n=D.n/\(∀i,r.ver i=[])/\v=Aa 0/\G=[stB ps pd t (En x a q) (V pl) md un mo,lgB pl pd t sL a q 0 false nu,tblA t,diskA pd r,pgsA md CP hq,poolA hq])\/(∃(c:Int) (r:Dsk) (a0:Nat),c≠0/\(¬Clean D\/1099511627776<x.gen+1)/\(SInv r x B rs ptl a q u b a0/\sure<=a0)/\r.n=D.n/\(∀i,(r.ver i).length<=(D.ver i).length+1)/\v=Aa c/\G=[stB ps pd t x (V pl) md un mo,lgB pl pd t sL a q u b nu,tblA t,diskA pd r,pgsA md (ov rs) hq,poolA hq])):=by
 intro z R w H;replace H:=H.l6;have a3:=o.ok;have c1:=Sup.get a3;have b6:=a3.2;have hP:=o.p;have b0:=hP.at_ok o.s;have b3:=hP.ul;have b9:=hP.fu;have a8:=o.gen;have a4:=hP.fq;have b5:0<=q:=by split at a4<;>omega
 have a2:∀n,(ov rs n).isSome=true->n<1024:=λn h=>by have:=o.ovb h;omega
 have a1:∀n,(ov rs n).isSome=true->2+n<D.n:=λn h=>by have:=o.ovb h;omega
 have b8:=NR x a q;obtain ⟨es,clk,d,H⟩:=H.pgs 4 Z;replace H:=H.l6;refine Af func168 Z ntmps168 Z (Z2 12 [10,0,0] H Z (Ae Z (Lk (e:=40) Z J Z (AB (H.bk 4 Z))) (Z0 2 [0] Z (Am 12 Z (λh1=>?_) (λh1=>?_)))))
 ·refine Z2 4 [9,0,0] H Z (Ah Z (call209 _) (Pb _ _ _ _ _ _ _ _ _ U) H.f1 ?_);intro w H;refine Z0 4 [0] Z (Ag Z (λh2=>?_) (λh2=>?_))
  ·refine Zc 6 Z (Zr Z ?_);replace H:=(H.toPgs 4 Z d).l6
   have a5:=d.nil_iff.1 (by simpa using h1);exact ⟨_,.inl ⟨a5,(Lw h2).1,by have:=(Lw h2).2;omega,Z,Z⟩,H.perm 6 [1,0,2,3,4,5] Z Z⟩
  refine Za 8 [2,1,7] H Z ?_;intro b1 w H;refine Z5 18 [0,0,0,0,0,0,9,2,0] [x.gen+1] H Z U ?_;intro w H;refine Ah Z (call210 _) (Pc _ _ _ _ _ _ _ _ _) H.f1 ?_;intro w H;refine Z4 17 [5,1,6,1,0,1,0,0] H Z ?_;intro w H;refine Ag Z (λh3=>?_) (λh3=>?_)
  ·refine Zc 6 Z (Zr Z ?_);replace H:=(H.toPgs 5 Z d).l7
   exact ⟨_,.inr (.inr ⟨_,D,sure,by decide,.inr U,⟨o,Yo _⟩,Z,λi=>by omega,Z,Z⟩),H.perm 7 [2,0,3,4,5,6] Z Z⟩
  refine Zc 4 Z ?_;have l:(En x a q).Ok (D.n:Int):=Sup.ok_mk U U U U U U U U;refine Z2 5 [0,2,0] H Z (AA Z (call70 _) (Gg _ _) H.f4 ?_);rintro _ w _ (⟨k,rfl,rfl⟩|⟨k,rfl,rfl⟩) y
  ·have H:=y.l7;refine Z0 17 [3] Z (Zr Z ?_);replace H:=(H.toPgs 5 Z d).l7
   exact ⟨_,.inr (.inr ⟨_,_,sure,by decide,.inl (λhc=>hc.flb k),⟨SInv.f (D':= {D with f3:=AO D.f3}) o Z Z Z,Yo _⟩,Z,λi=>by show (D.ver i).length<=_;omega,Z,Z⟩),H.perm 7 [3,1,4,0,5,6] Z Z⟩
  have H:=y.l7;refine Z0 14 [4] Z ?_;replace H:=(H.toPgs 5 Z d).l7;refine Z2 3 [2,7] H Z (AA Z (call76 _) (Hd _ _ _ _ _ _ _ _ (ov rs) _ (En x a q) D.fl a2 a1 l (λi=>by show ([]:List (List UInt8)).length<=_;simp)) H.f6.f6.f2.f6.f6 ?_);rintro _ w _ (⟨ks,j,rfl,rfl⟩|⟨ks,c,r,j,m,g,rfl,rfl⟩) y
  ·have H:=y.l7;refine Z2 18 [4,9,0,0] H Z (Ah Z (call211 _) (Pd _ _ _ _ _ _ _ _ _) H.f5 ?_);intro w H;refine Zc 8 Z (Zr Z ?_);exact ⟨_,.inr (.inl ⟨_,(λe=>by first|exact h1 (by have:=d.nil_iff.2 e.1;simpa using this)|exact h2 (by rw[e.2.1];simp;omega)),o.flush.settled j U l Z Z Z Z Z Z Z,λhc=>((hc.fl.hw _).fl).sv _,by show (hwD _ _).n=_;exact Ea _ _,Gj (λ_=>rfl) _,Z,Z⟩),H.perm 7 [1,0,2,3,4,5] Z Z⟩
  have H:=y.l7;refine Z0 9 [0] Z (Ag Z (λh4=>?_) (λh4=>?_))
  ·refine Zc 7 Z (Zr Z ?_);exact ⟨_,.inr (.inr ⟨_,r,rs.length,m,.inl (λhc=>hc.fl.setF g),⟨o.flush.setF j g,hP.sure⟩,Ph (D:=D.fl) g,λi=>by have:=Lu (DS j) g i;have h0:(D.fl.ver i).length=0:=rfl;omega,Z,Z⟩),H.perm 7 [0,5,1,2,3,4] Z Z⟩
  exact absurd m h4
 refine Za 18 [2,0,7] H Z ?_;intro b2 w H;refine Z5 18 [0,0,0,0,0,0,9,1,0] [x.gen+1] H Z U ?_;intro w H;refine Ah Z (call210 _) (Pc _ _ _ _ _ _ _ _ _) H.f2 ?_;intro w H;refine Z4 17 [5,1,6,1,0,1,0,0] H Z ?_;intro w H;refine Ag Z (λh5=>?_) (λh5=>?_)
 ·refine Zc 6 Z (Zr Z ?_);replace H:=(H.toPgs 5 Z d).l7
  exact ⟨_,.inr (.inr ⟨_,D,sure,by decide,.inr U,⟨o,Yo _⟩,Z,λi=>by omega,Z,Z⟩),H.perm 7 [2,0,3,4,5,6] Z Z⟩
 refine Zc 4 Z ?_;have l:(En x a q).Ok (D.n:Int):=Sup.ok_mk U U U U U U U U;refine Z2 5 [0,2,0] H Z (AA Z (call70 _) (Gg _ _) H.f4 ?_);rintro _ w _ (⟨k,rfl,rfl⟩|⟨k,rfl,rfl⟩) y
 ·have H:=y.l7;refine Z0 17 [3] Z (Zr Z ?_);replace H:=(H.toPgs 5 Z d).l7
  exact ⟨_,.inr (.inr ⟨_,_,sure,by decide,.inl (λhc=>hc.flb k),⟨SInv.f (D':= {D with f3:=AO D.f3}) o Z Z Z,Yo _⟩,Z,λi=>by show (D.ver i).length<=_;omega,Z,Z⟩),H.perm 7 [3,1,4,0,5,6] Z Z⟩
 have H:=y.l7;refine Z0 14 [4] Z ?_;replace H:=(H.toPgs 5 Z d).l7;refine Z2 3 [2,7] H Z (AA Z (call76 _) (Hd _ _ _ _ _ _ _ _ (ov rs) _ (En x a q) D.fl a2 a1 l (λi=>by show ([]:List (List UInt8)).length<=_;simp)) H.f6.f6.f2.f6.f6 ?_);rintro _ w _ (⟨ks,j,rfl,rfl⟩|⟨ks,c,r,j,m,g,rfl,rfl⟩) y
 ·have H:=y.l7;refine Z2 18 [4,9,0,0] H Z (Ah Z (call211 _) (Pd _ _ _ _ _ _ _ _ _) H.f5 ?_);intro w H;refine Zc 8 Z (Zr Z ?_);exact ⟨_,.inr (.inl ⟨_,(λe=>by first|exact h1 (by have:=d.nil_iff.2 e.1;simpa using this)|exact h2 (by rw[e.2.1];simp;omega)),o.flush.settled j U l Z Z Z Z Z Z Z,λhc=>((hc.fl.hw _).fl).sv _,by show (hwD _ _).n=_;exact Ea _ _,Gj (λ_=>rfl) _,Z,Z⟩),H.perm 7 [1,0,2,3,4,5] Z Z⟩
 have H:=y.l7;refine Z0 9 [0] Z (Ag Z (λh6=>?_) (λh6=>?_))
 ·refine Zc 7 Z (Zr Z ?_);exact ⟨_,.inr (.inr ⟨_,r,rs.length,m,.inl (λhc=>hc.fl.setF g),⟨o.flush.setF j g,hP.sure⟩,Ph (D:=D.fl) g,λi=>by have:=Lu (DS j) g i;have h0:(D.fl.ver i).length=0:=rfl;omega,Z,Z⟩),H.perm 7 [0,5,1,2,3,4] Z Z⟩
 exact absurd m h6
def BS(g:Bb)(ks:List Int):List Img:=ks.map λk=>⟨k,((g k.toNat).getD DM).kind,((g k.toNat).getD DM).body⟩
theorem NS(g:Bb)(a:List Int):(BS g a).length=a.length:=by simp[BS]
theorem Mh{g:Bb}{a:List Int}{j n:Nat}{p:Pg}(b:a[j]?=some (n:Int))(c:g n=some p):(BS g a).take j++[(⟨(n:Int),p.kind,p.body⟩:Img)]=(BS g a).take (j+1):=by
 rw[Yd];congr 1;unfold BS;rw[X9,b];simp[c]
theorem PgsIn.okp{f:Bb}{es:List PgE}{clk:Nat}{hq:Hp}(h:PgsIn f es clk hq){n:Nat}{p:Pg}(hp:f n=some p):p.Ok:=by
 obtain ⟨e,d,b⟩:=h.all n p hp;obtain ⟨a,c,_⟩:=h.ent e d;rw[b,hp] at a;cases a;exact c
theorem Kp{g:Bb}{d:List Int}(h:Ec g d)(f:∀n p,g n=some p->p.Ok)(i:∀n,(g n).isSome=true->n<1024):DH (BS g d):=by
 have a:∀k∈d,∃p,g k.toNat=some p/\0<=k/\k<1024:=λk b=>by
  obtain ⟨c,e⟩:=(h.2 k).1 b;obtain ⟨p,hp⟩:=YE.1 e;have:=i _ e;exact ⟨p,hp,c,by omega⟩
 refine ⟨λm j=>?_,?_⟩
 ·obtain ⟨k,b,rfl⟩:=X5.1 j
  obtain ⟨p,hp,c,e⟩:=a k b;have:=f _ p hp;simp only[hp,AaT];exact ⟨⟨c,by dsimp only;omega⟩,this.1,this.2⟩
 unfold BS;rw[Zi];refine Zb.2 (h.1.imp λl=>?_);simp only[ZZ];omega
theorem NT{g:Bb}{a:List Int}{b:Int}(h:Ec g a)(c:∀n,(g n).isSome=true->(n:Int)<b):∀m∈BS g a,m.num<b:=λm e=>by
 obtain ⟨k,d,rfl⟩:=X5.1 e;obtain ⟨i,f⟩:=(h.2 k).1 d;have:=c _ f;dsimp only;omega
theorem Pi{c:Int}{ims:List Img}{a:Prop}(h:S4 c ims a)(b:1<=ims.length/\ims.length<=40)(d:DH ims):c=15/\¬a:=by
 rcases h with ⟨_,h⟩|⟨_,_,rfl|h⟩|⟨rfl,_,_,h⟩
 ·omega
 ·simp at b
 ·exact absurd d h
 exact ⟨Z,h⟩
theorem T6(ims:List Img):∀(f:Bb) (n:Nat),(ims.map Img.num).Nodup->(∀m∈ims,0<=m.num)->DK f ims n=((ims.find? λm=>decide (m.num=(n:Int))).map EP).or (f n):=by
 induction ims with
 | nil=>intro f n _ _;rfl
 | cons m ims ih=>
  intro f n a hp;simp only[Yn,Zd] at a;have:DK f (m::ims)=DK (pgSet f m.num.toNat (EP m)) ims:=rfl;rw[this,ih _ _ a.2 (λb i=>hp b (by simp[i])),List.find?_cons];have g:=hp m O;by_cases e:m.num=(n:Int)
  ·have d:(ims.find? λm=>decide (m.num=(n:Int)))=none:=by
    rw[AaB];intro b c h;exact a.1 (X5.2 ⟨b,c,by simp at h;omega⟩)
   rw[d];simp[e,pgSet]
  have:¬n=m.num.toNat:=by omega
  simp[e,pgSet,this]
theorem NU{f g:Bb}{b:List Int}(h:Ec g b)(j:DH (BS g b)):DK f (BS g b)=F0 f g:=by
 funext n;rw[T6 _ _ _ j.2 (λm d=>(j.1 m d).1.1)];unfold F0;congr 1
 cases hg:g n with
 | some p=>
  have l:(n:Int)∈b:=(h.2 _).2 ⟨by omega,by rw[Yw,hg];rfl⟩
  cases a:(BS g b).find? λm=>decide (m.num=(n:Int)) with
  | none=>
   rw[AaB] at a;exact absurd O (a _ (X5.2 ⟨(n:Int),l,Z⟩))
  | some m=>
   have i:=List.find?_some a;obtain ⟨k,c,rfl⟩:=X5.1 (List.mem_of_find?_eq_some a);simp only[decide_eq_true_eq] at i;subst i;simp[hg,EP]
 | none=>
  have a:((BS g b).find? λm=>decide (m.num=(n:Int)))=none:=by
   rw[AaB];intro m d e;obtain ⟨k,c,rfl⟩:=X5.1 d;simp only[decide_eq_true_eq] at e;subst e;have:=((h.2 _).1 c).2;rw[Yw,hg] at this;cases this
  rw[a];rfl
theorem T7{rs:List Rc}(h:∀n,ov rs n=none)(b:∀(j:Nat) (r:Rc),rs[j]?=some r->1<=r.ims.length):rs=[]:=by
 cases rs with
 | nil=>rfl
 | cons r rs=>
  exfalso;have d:=b 0 r Z;have c:(ov [r] ((r.ims[0]'U).num.toNat)).isSome=true:=by
   show (DK CP r.ims _).isSome=true;rw[ME];simp only[CP,Option.isSome_none,Bool.false_or,List.any_eq_true];exact ⟨r.ims[0]'U,Zx _,by simp⟩
  have a:=Fa rs [r] c;rw[show [r]++rs=r::rs from Z,h] at a;cases a
set_option maxHeartbeats 4000000 in
theorem Pj (ps pd pt pl md mo:Nat) (x sL:Sup) (un nu:Bool) (hq:Hp) (g:Bb) (k:Nat) (D:Dsk) (B:Nat->Pg) (rs:List Rc) (ptl:List (List UInt8)) (a q u:Int) (b:Bool) (sure:Nat) (hS:SInv D x B rs ptl a q u b sure) (hL:sL.start=x.start/\sL.len=x.len/\sL.epoch=x.epoch) (d1:sL.Ok (D.n:Int)) (d5:nu=decide (sL.epoch<4294967296)) (j4:q<1099511627775) (d0:∀i,(D.ver i).length<=1000000000000) (e2:∀n,(g n).isSome=true->(n:Int)<x.pages) (hk:1<=k/\k<=40):An 104 [V ps] [stB ps pd pt x (V pl) md un (.map (some mo)),lgB pl pd pt sL a q u b nu,tblA pt,diskA pd D,pgsA md (ov rs) hq,Dz mo g k hq,poolA hq] (λv G=>(∃(o:List Int) (l:Hp) (D2:Dsk) (x2:Sup) (B2:Nat->Pg) (d3:List Rc) (a2 u2:Int) (t:Nat),Ec g o/\BC hq l/\SInv D2 x2 B2 (d3++[⟨q,BS g o⟩]) [] a2 (q+1) u2 false t/\pgMap (ov d3) B2=pgMap (ov rs) B/\(x2=x\/x2=En x a q)/\(Clean D->Clean D2)/\(D2.n=D.n/\∀i,(D2.ver i).length<=(D.ver i).length+2)/\v=Aa 0/\G=[stB ps pd pt x2 (V pl) md un (.map (some mo)),lgB pl pd pt sL a2 (q+1) u2 false nu,tblA pt,diskA pd D2,pgsA md (ov d3) l,Dz mo g k l,poolA l])\/(∃(c:Int) (l:Hp) (D2:Dsk) (x2:Sup) (B2:Nat->Pg) (d9:List Rc) (a5:List (List UInt8)) (a2 q2 u2:Int) (b2:Bool) (t:Nat),c≠0/\(¬Clean D\/1099511627776<x.gen+1)/\BC hq l/\SInv D2 x2 B2 d9 a5 a2 q2 u2 b2 t/\pgMap (ov d9) B2=pgMap (ov rs) B/\(x2=x\/x2=En x a q)/\(D2.n=D.n/\∀i,(D2.ver i).length<=(D.ver i).length+2)/\(q<=q2/\q2<=q+1)/\v=Aa c/\G=[stB ps pd pt x2 (V pl) md un (.map (some mo)),lgB pl pd pt sL a2 q2 u2 b2 nu,tblA pt,diskA pd D2,pgsA md (ov d9) l,Dz mo g k l,poolA l])):=by
 intro z R w H;replace H:=H.l7;have f2:=hS.ok;have j5:=Sup.get f2;have j2:=f2.2;have hP:=hS.p;have i9:=hP.ul;have g9:=hP.fu;have g2:=hP.fq;have e9:0<=q:=by split at g2<;>omega
 have i1:∀n,(ov rs n).isSome=true->n<1024:=λn h=>by have:=hS.ovb h;omega
 have i8:∀n,(ov rs n).isSome=true->2+n<D.n:=λn h=>by have:=hS.ovb h;omega
 have i5:=H.sy 3 (λq=>(diskA.ok q).n2);have h7:=NR x a q;obtain ⟨a4,a8,m,a0,H⟩:=H.pgsc 5 Z;replace H:=H.l7;have h5:a4.length<=1099511627776:=by omega
 refine Af func104 Z ntmps104 Z (Z2 17 [12,0,0] H Z (AA Z (call166 _) (MR _) H ?_));rintro _ w _ ⟨bb,rfl,rfl⟩ H;replace H:=H.l8;have g5:∀h:IE->Nat,(a4.map PgE.ie).map h=a4.map λe=>h e.ie:=λh=>by simp
 refine AA Z (call125 _) (Kn _ _ _ _ (λp hp=>by obtain ⟨e,he,rfl⟩:=X5.1 hp;exact m.clk e he) (by rw[g5];exact m.born) (by simp;exact h5)) H.f6.f1 ?_;rintro v2 w _ ⟨s,hs,rfl⟩ H;replace H:=H.l9;have a9:Ec g ((s.map λp:IE=>p.1).mergeSort (λx y=>decide (x<=y))):=m.keys hs;have g8:((s.map λp:IE=>p.1).mergeSort (λx y=>decide (x<=y))).length=k:=by simp[hs.length_eq,a0]
 obtain ⟨o,e0⟩:∃o:List Int,((s.map λp:IE=>p.1).mergeSort (λx y=>decide (x<=y)))=o:=⟨_,Z⟩;rw[e0] at H a9 g8;clear e0 hs;have H:Sep z (grow 3 1 v2 o.length (o.map Aa)::blk bb [.map (some mo)] 95::AG mo (a4.map PgE.ie) a8::stB ps pd pt x (V pl) md un (.map (some mo))::lgB pl pd pt sL a q u b nu::tblA pt::diskA pd D::pgsA md (ov rs) hq::poolA hq::R) w:=H;have e5:=H.sy 0 (·.slc);obtain ⟨b6,c3,rfl⟩:=e5;have H:Sep z (grow 3 1 (.slice b6 o.length c3) o.length (o.map Aa)::blk bb [.map (some mo)] 95::AG mo (a4.map PgE.ie) a8::stB ps pd pt x (V pl) md un (.map (some mo))::lgB pl pd pt sL a q u b nu::tblA pt::diskA pd D::pgsA md (ov rs) hq::poolA hq::R) w:=H;replace H:=(H.nilg 118 3).l10;have h8:=NS g o;have e4:∀n p,g n=some p->p.Ok:=λn p h=>m.okp h;have g0:∀n,(g n).isSome=true->n<1024:=λn h=>by have:=e2 n h;omega
 have c2:DH (BS g o):=Kp a9 e4 g0;have b5:=NT a9 e2;have e6:1<=(BS g o).length/\(BS g o).length<=40:=by omega
 refine Zc 5 Z ?_;refine Aq (σ:=Nat×Value×List ImE) (λ⟨j,v1,ie⟩=>[(15,Aa (j:Int)),(3,v1),(0,V ps),(2,Aa 0),(13,.slice b6 o.length c3),(14,Aa (o.length:Int))])
   (λ⟨j,v1,ie⟩ w=>Sep z (grow 118 3 v1 j (Bj ie)::grow 3 1 (.slice b6 o.length c3) o.length (o.map Aa)::blk bb [.map (some mo)] 95::AG mo (a4.map PgE.ie) a8::stB ps pd pt x (V pl) md un (.map (some mo))::lgB pl pd pt sL a q u b nu::tblA pt::diskA pd D::pgsA md (ov rs) hq::poolA hq::R) w/\(j<=o.length/\ie.map Prod.fst=(BS g o).take j/\imesOk ie hq)) (λ⟨j,v1,ie⟩=>o.length-j) ⟨0,.slice none 0 0,[]⟩
   (λ_ hF=>(hF.co Z (by go_num) hF.cz)) ⟨H,by omega,Z,λe he=>absurd he O⟩ ?_
 clear H;rintro ⟨j,v1,ie⟩ w ⟨H',hI⟩;dsimp only at hI H' ⊢;have H:=H'.l10;have j0:=H.sy 0 (·.slc);obtain ⟨k0,c5,c7⟩:=hI;refine Z0 6 [0] Z (Ag Z (λh1=>?_) (λh1=>?_))
 ·have i7:j<o.length:=by omega
  refine Zc 6 Z ?_;obtain ⟨x,hx⟩:∃x,o[j]?=some x:=⟨_,XV U⟩;obtain ⟨j1,d2⟩:=(a9.2 x).1 (XW hx);obtain ⟨n,rfl⟩:∃n:Nat,x=(n:Int):=⟨x.toNat,by omega⟩;rw[Yw] at d2;obtain ⟨p,pv,g4,e8,e1,h0⟩:∃(p:Pg) (v:Value),g n=some p/\p.Ok/\rdH 1 v 240 (p.body.map u8) hq/\Ck (a4.map PgE.ie) (n:Int)=some (.agg #[Aa p.kind,v]):=by
    rcases m.get n with ⟨q,_⟩|q
    · rw[q] at d2;cases d2
    · exact q
  have h6:Slc pv 240:=e1.slc;have c9:=(H.rv 1 (·.rd)).at (j:=j) (u:=Aa (n:Int)) (by simp[hx]);refine Ae Z (Az Z (z:=1) (j:=j) (r:=j) J Z Z Z U c9 U) (Ae Z (AS Z Z J (AB c9)) (Z2 11 [12,4,0] H Z (Ae Z (Fz (e:=40) (zv:=.agg #[Aa 0,.slice none 0 0]) Z J J Z Z (AB (H.bk 3 Z))) (k_updA 26 (v:=.agg #[Aa p.kind,pv]) Z (by rw[h0];rfl) (Ae Z (AR Z Z (out:=[Aa (n:Int),Aa p.kind,pv]) J) (AC Z (AI H Z J AQ Z (by decide) (by decide) (out:=[Aa (n:Int),Aa p.kind,pv]) J) ?_))))));rintro _ w ⟨b1,rfl,H⟩;replace H:=H.l11;refine AC Z (AJ 1 H Z Z J AQ Z Z (H.rv 0 (·.rd U U O Z)) (Al Z (Al Z (Al h6.one AK))) U) ?_;rintro v2 w H';have H':Sep z (blk b1 [Aa (n:Int),Aa p.kind,pv] 118::grow 118 3 v2 (j+1) (Bj ie++[Aa (n:Int),Aa p.kind,pv])::grow 3 1 (.slice b6 o.length c3) o.length (o.map Aa)::blk bb [.map (some mo)] 95::AG mo (a4.map PgE.ie) a8::stB ps pd pt x (V pl) md un (.map (some mo))::lgB pl pd pt sL a q u b nu::tblA pt::diskA pd D::pgsA md (ov rs) hq::poolA hq::R) w:=H';have g3:(Bj ie++[Aa (n:Int),Aa p.kind,pv]:List Value)=Bj (ie++[(⟨(n:Int),p.kind,p.body⟩,pv)]):=Il ie (⟨(n:Int),p.kind,p.body⟩,pv);rw[g3] at H';have H:=H'.l11;refine Z1 8 [] [(j:Int)+1] Z U ?_;replace H:=H.d;refine gf ?_;intro _ hF;refine ⟨⟨j+1,v2,ie++[(⟨(n:Int),p.kind,p.body⟩,pv)]⟩,hF.cz,⟨H,?_⟩,?_⟩
  ·dsimp only
   refine ⟨by omega,by rw[Yi,c5,<-Mh hx g4];rfl,λe he=>?_⟩;rcases Yr.1 he with q|q
   ·exact c7 e q
   rw[YD.1 q];show rdH 1 pv p.body.length _ _;rw[e8.2];exact e1
  (dsimp only;omega)
 obtain rfl:j=o.length:=by omega
 refine Zc 2 Z (gx (Zc 3 Z ?_));replace H:=H.f9;obtain ⟨l,⟨f,e7⟩,H⟩:=BU H (λh q=>q.rd);replace H:=H.l9;have d6:ie.map Prod.fst=BS g o:=by rw[c5];exact XZ U
 have f0:imgsH v1 (BS g o) l:=⟨ie,d6,by rw[h8];exact e7,c7.le f⟩;replace H:=(H.mono 8 (B:=pgsA md (ov rs) l) Z (pgsA.le f)).l9;have c1:nu=true:=by rw[d5];have:=hS.s.epoch;simp;omega
 refine Z2 6 [9,4,0] H Z (AA Z (call167 _) (Ko _ _ _ sL x _ _ (BS g o) _ (λh q=>f0.le q) D hS b5 hL.1 hL.2.1 hL.2.2 d1 d5 ⟨e9,by omega⟩ d0) H.f7.f7.f7 ?_);rintro _ w _ (⟨Da,a3,q3,u3,h4,g7,a7,b8,b0,c0,d7,d4,rfl,rfl⟩|⟨cq,a6,hv,rfl⟩|⟨Df,a5,b3,a7,b7,rfl,rfl⟩) H'
 ·have H:=H'.l9;subst d7;subst d4;refine Z0 18 [3] Z (Zr Z ?_);replace H:=(H.toPgsc 6 Z (m.le f) a0).l9
  subst b8;exact ⟨_,.inl ⟨o,l,Da,x,B,rs,a3,_,sure,a9,f,a7,Z,.inl Z,b0,c0,Z,Z⟩,H.perm 9 [7,0,1,2,8,6,3] Z Z⟩
 ·have H:=H'.l9;obtain ⟨e3,g1⟩:=Pi a6 e6 c2;subst e3;subst hv;refine Z0 16 [4] Z (AA Z (call168 _) (Lx _ _ _ _ _ _ _ _ _ _ _ _ _ _ _ _ _ _ _ _ hS hL U d0) H.f3.f8.f4.f4.f4.f8 ?_);rintro _ w _ (⟨g6,b8,i4,rfl,rfl⟩|⟨D2,i6,b9,c8,a1,d8,rfl,rfl⟩|⟨j8,D2,t,b4,c6,⟨b9,h9⟩,a1,c4,rfl,rfl⟩) H'
  ·(obtain rfl:=T7 g6 (λj r h=>(hP.recs j r h).2.1.1);exact absurd ⟨by rw[b8,if_neg (by decide)];have j7:u=0:=g9;omega,c1,by omega⟩ g1)
  ·have H:=H'.l9;refine Z2 23 [3,9,0,0] H Z (AA Z (call167 _) (Ko _ _ _ sL (En x a q) _ _ (BS g o) _ (λh q=>f0.le q) D2 b9 b5 hL.1 hL.2.1 hL.2.2 (by rw[a1];exact d1) d5 ⟨e9,by omega⟩ (λi=>by rw[d8];simp)) H.f5.f4.f4.f4 ?_);rintro _ w _ (⟨Da,a3,q3,u3,h4,g7,a7,b8,b0,c0,d7,d4,rfl,rfl⟩|⟨cq,a6,hv,rfl⟩|⟨Df,a5,b3,a7,b7,rfl,rfl⟩) H'
   ·have H:=H'.l9;subst d7;subst d4;refine Zc 4 Z (Zr Z ?_);replace H:=(H.toPgsc 8 Z (m.le f) a0).l9
    exact ⟨_,.inl ⟨o,l,Da,_,_,[],a3,_,0,a9,f,a7,Z,.inr Z,λhc=>b0 (c8 hc),⟨c0.1.trans a1,λi=>by have h1:=c0.2 i;rw[d8] at h1;simp at h1;omega⟩,Z,Z⟩,H.perm 9 [4,0,1,2,5,8,3] Z Z⟩
   ·exact absurd ⟨by rw[if_neg (by decide)];have:=h7.2.2.2.2.1;omega,c1,by omega⟩ (Pi a6 e6 c2).2
   have H:=H'.l9;refine Zc 4 Z (Zr Z ?_);replace H:=(H.toPgsc 8 Z (m.le f) a0).l9;exact ⟨_,.inr ⟨_,l,Df,_,_,[],a5,a,q+1,0,true,0,by decide,.inl (λhc=>b3 (c8 hc)),f,a7,Z,.inr Z,⟨b7.1.trans a1,λi=>by have h1:=b7.2 i;rw[d8] at h1;simp at h1;omega⟩,by omega,Z,Z⟩,H.perm 9 [4,0,1,2,5,8,3] Z Z⟩
  have H:=H'.l9;refine Z0 15 [0] Z (Ag Z (λh2=>?_) (λh2=>?_))
  ·exact absurd h2 b4
  refine Z0 6 [0] Z (Ag Z (λh3=>?_) (λh3=>?_))
  ·refine Zc 6 Z (Zr Z ?_);replace H:=(H.toPgsc 8 Z (m.le f) a0).l9
   exact ⟨_,.inr ⟨_,l,D2,x,B,rs,ptl,a,q,u,b,t,by first|decide|exact b4,c6,f,b9,rfl,.inl rfl,⟨a1,λi=>by have:=c4 i;omega⟩,by omega,Z,Z⟩,H.perm 9 [0,1,2,3,4,8,5] Z Z⟩
  refine Zc 7 Z (Zr Z ?_);replace H:=(H.toPgsc 8 Z (m.le f) a0).l9;exact ⟨_,.inr ⟨_,l,D2,x,B,rs,ptl,a,q,u,b,t,by first|decide|exact b4,c6,f,b9,rfl,.inl rfl,⟨a1,λi=>by have:=c4 i;omega⟩,by omega,Z,Z⟩,H.perm 9 [0,1,2,3,4,8,5] Z Z⟩
 have H:=H'.l9;refine Z0 18 [3] Z (Zr Z ?_);replace H:=(H.toPgsc 6 Z (m.le f) a0).l9;exact ⟨_,.inr ⟨_,l,Df,x,B,rs,a5,a,q+1,u,true,sure,by decide,.inl b3,f,a7,Z,.inl Z,b7,by omega,Z,Z⟩,H.perm 9 [7,0,1,2,8,6,3] Z Z⟩
def He(f g:Bb)(S:List IE):Bb:=λi=>if (i:Int)∈S.map (λp:IE=>p.1) then g i else f i
theorem Rw(f g:Bb):He f g []=f:=by funext i;simp[He]
theorem Pk{f g:Bb}{S:List IE}{n:Nat}{p:Pg}{q:IE}(hq:q.1=(n:Int))(a:g n=some p):He f g (S++[q])=pgSet (He f g S) n p:=by
 funext i;unfold He pgSet;simp only[Yi,Yn,YW,Yr,YD,hq];by_cases h:i=n
 ·subst h;simp[a]
 have:¬((i:Int)=(n:Int)):=by omega
 simp only[this,or_false,h,if_false]
theorem Rx{f g:Bb}{es:List PgE}{clk:Nat}{hq:Hp}{S:List IE}(h:PgsIn g es clk hq)(m:BR (es.map PgE.ie) (S.map λp:IE=>p.2.2)=[])(l:∀p∈S,p∈es.map PgE.ie):He f g S=F0 f g:=by
 funext i;unfold He F0;by_cases hi:(i:Int)∈S.map (λp:IE=>p.1)
 ·rw[if_pos hi]
  obtain ⟨p,hp,e⟩:=X5.1 hi;obtain ⟨b,a,rfl⟩:=X5.1 (l p hp);have d:=(h.ent b a).1;have:b.n=i:=by have:(b.n:Int)=i:=e;omega
  rw[this] at d;rw[d];rfl
 rw[if_neg hi]
 cases hg:g i with
 | none=>rfl
 | some p=>
  exfalso;obtain ⟨b,a,s⟩:=h.all i p hg;have r:b.ie∈es.map PgE.ie:=YM a;by_cases q:b.born∈S.map λp:IE=>p.2.2
  ·obtain ⟨p',c,o⟩:=X5.1 q
   obtain ⟨t,j,rfl⟩:=X5.1 (l p' c);obtain ⟨u,d⟩:=Yx a;obtain ⟨v,k⟩:=Yx j;have:=E3 h.born d k o.symm;subst this;rw[d] at k;cases k;exact hi (X5.2 ⟨_,c,by show (b.n:Int)=i;omega⟩)
  have:b.ie∈BR (es.map PgE.ie) (S.map λp:IE=>p.2.2):=by
   simp only[BR,Aa0];exact ⟨r,by simpa [PgE.ie] using q⟩
  rw[m] at this;cases this
theorem Iu(f g:Bb)(B:Nat->Pg):pgMap (F0 f g) B=λi=>(g i).getD (pgMap f B i):=by
 funext i;unfold pgMap F0;cases g i<;>rfl
theorem T8(md l:Nat)(f g:Bb)(k:Nat)(hq:Hp):An 105 [.map (some md),.map (some l)] [pgsA md f hq,Dz l g k hq] (λv G=>v=.tuple #[]/\G=[pgsA md (F0 f g) hq,Dz l g k hq]):=by
 intro z R w H;replace H:=H.l2;obtain ⟨es,clk,a7,H⟩:=H.pgs 0 Z;replace H:=H.l2;obtain ⟨c,a,b,a0,H⟩:=H.pgsc 1 Z;replace H:=H.l2;have a4:∀p∈c.map PgE.ie,p.2.2<a:=λp hp=>by obtain ⟨e,he,rfl⟩:=X5.1 hp;exact b.clk e he
 have hn:((c.map PgE.ie).map λp:IE=>p.2.2).Nodup:=by rw[Zi];exact b.born
 refine Af func105 Z ntmps105 Z (Zc 3 Z (AC Z (Hv 1 (e:=40) H Z Z J Z) ?_));rintro _ w ⟨rr,rfl,H⟩;replace H:=H.l3;refine Zc 3 Z ?_;refine Aq (σ:=List IE×List PgE×Nat) (λ⟨S,m,o⟩=>[(0,.map (some md)),(7,V rr)])
   (λ⟨S,m,o⟩ w=>Sep z (Ge rr l a (S.map λp:IE=>p.2.2)::AG md (m.map PgE.ie) o::AG l (c.map PgE.ie) a::R) w/\((∀p∈S,p∈c.map PgE.ie)/\PgsIn (He f g S) m o hq)) (λ⟨S,m,o⟩=>(BR (c.map PgE.ie) (S.map λp:IE=>p.2.2)).length) ⟨[],es,clk⟩
   (λ_ hF=>(hF.all Z)) ⟨H,λp hp=>absurd hp O,by rw[Rw];exact a7⟩ ?_
 clear H;rintro ⟨S,m,o⟩ w ⟨H',hI⟩;dsimp only at hI H' ⊢;have H:=H'.l3;obtain ⟨hS,a1⟩:=hI;refine Zc 2 Z (AC Z (I9 0 2 H Z Z Z Z a4) ?_);rintro _ w ⟨qx,rfl,x,H⟩;replace H:=H.l3;refine Ae Z (KK Z Z) (Zc 3 Z (Fy Z (λh1=>?_) (λh1=>?_)))
 ·obtain ⟨p1,rfl⟩:=YE.1 h1;refine Zc 5 Z ?_;obtain ⟨⟨j,i,h,t⟩,u,rfl⟩:=X5.1 (Di x).1;obtain ⟨a2,a5,s⟩:=b.ent _ u;dsimp only at a2 a5 s
  have a6:Slc h 240:=s.slc;obtain ⟨a3,a8,y,_⟩:=a1.put (k:=j) (p:=i) (v:=h) a5 s;refine Ae Z (Hw (p:=(PgE.ie ⟨j,i,h,t⟩)) Z Z (AB ⟨H.bk 0 Z,H.bk 2 Z⟩) (YM u) hn) (Za 2 [] H Z ?_);intro b1 w H;refine Zc 1 Z (A0 Z Z (AE 0 H Z Z Z Z (vs:=[Aa i.kind,h]) Z (Al Z (Al a6.one AK)) J O (out:=[Aa i.kind,h]) Z) ?_);rintro w H;replace H:=H.l4;refine Z2 6 [0,2] H Z (A0 Z Z (CV 2 (e:=40) H Z Z J Z Z Z) ?_);rintro w H;replace H:=H.l4;refine Zc 1 Z ?_;have H':=H;have H:Sep z (blk b1 [Aa i.kind,h] 40::Ge rr l a (HT (S.map λp:IE=>p.2.2) (some (PgE.ie ⟨j,i,h,t⟩)))::AG md (D6 (m.map PgE.ie) (j:Int) (.agg #[Aa i.kind,h]) o) (putC (m.map PgE.ie) (j:Int) o)::AG l (c.map PgE.ie) a::R) w:=H';clear H';rw[a8] at H;have H:Sep z (blk b1 [Aa i.kind,h] 40::Ge rr l a (HT (S.map λp:IE=>p.2.2) (some (PgE.ie ⟨j,i,h,t⟩)))::AG md (a3.map PgE.ie) (putC (m.map PgE.ie) (j:Int) o)::AG l (c.map PgE.ie) a::R) w:=H;refine Zc 1 Z ?_;replace H:=H.d;refine gf ?_;intro _ hF;refine ⟨⟨S++[(PgE.ie ⟨j,i,h,t⟩)],a3,putC (m.map PgE.ie) (j:Int) o⟩,(hF.all Z),⟨(by dsimp only;rw[Yi];exact H),?_⟩,?_⟩
  ·refine ⟨λp hp=>?_,?_⟩
   ·rcases Yr.1 hp with hp|hp
    ·exact hS p hp
    simp at hp;subst hp;exact YM u
   dsimp only;rw[Pk (n:=j) (p:=i) (q:=(PgE.ie ⟨j,i,h,t⟩)) Z a2];exact y
  (dsimp only;have:=EA x;rwa[show (S++[(PgE.ie ⟨j,i,h,t⟩)]).map (λp:IE=>p.2.2)=(S.map λp:IE=>p.2.2)++[t] from by simp[PgE.ie]])
 obtain rfl:qx=none:=by simpa using h1
 refine Zc 2 Z (gx (Zc 1 Z (Zf Z ?_)));have r:=a1;rw[Rx b x hS] at r;replace H:=(H.toPgs 1 Z r).l3;replace H:=(H.toPgsc 2 Z b a0).l3;exact ⟨_,⟨Z,Z⟩,H.perm 3 [1,2] Z Z⟩
theorem JL(ps pd c md:Nat)(x:Sup)(b d:Value)(e:Bool):S0 prog 63 [V ps] [stB ps pd c x b md e d] (λv G=>v=.tuple #[]/\G=[stB ps pd c x b md false (.map none)]):=by
 intro z R u w a;have H:=a.l1;refine Lj func63 Z 8 ntmps63 Z (AF (J9 4 [11] Z J (EX Z Z (SO 0 H Z Z Z Z Z Z J) ?_)));rintro w a;have H:=a.l1;refine J9 2 [12] Z J (EX Z Z (WI 0 H Z Z Z Z Z Z J) ?_);rintro w a;have H:=a.l1;refine AM (U8 Z ?_);exact ⟨[stB ps pd c x b md false (.map none)],⟨Z,Z⟩,H⟩
set_option maxHeartbeats 4000000 in
theorem Ry (ps pd j r md mo:Nat) (x s:Sup) (nu:Bool) (hq:Hp) (g:Bb) (k:Nat) (D:Dsk) (B:Nat->Pg) (rs:List Rc) (ptl:List (List UInt8)) (a q u:Int) (b:Bool) (sure:Nat) (hS:SInv D x B rs ptl a q u b sure) (hL:s.start=x.start/\s.len=x.len/\s.epoch=x.epoch) (b8:s.Ok (D.n:Int)) (c6:nu=decide (s.epoch<4294967296)) (c7:q<1099511627775) (b7:∀i,(D.ver i).length<=1000000000000) (b5:∀n,(g n).isSome=true->(n:Int)<x.pages) (hk:k<=40):An 46 [V ps] [stB ps pd j x (V r) md true (.map (some mo)),lgB r pd j s a q u b nu,tblA j,diskA pd D,pgsA md (ov rs) hq,Dz mo g k hq,poolA hq] (λv G=>(k=0/\v=Aa 0/\G=[stB ps pd j x (V r) md false (.map none),lgB r pd j s a q u b nu,tblA j,diskA pd D,pgsA md (ov rs) hq,poolA hq])\/(1<=k/\∃(d:Hp) (o:Dsk) (x2:Sup) (B2:Nat->Pg) (l:List Rc) (a2 t:Int) (f:Nat),BC hq d/\SInv o x2 B2 l [] a2 (q+1) t false f/\(pgMap (ov l) B2=pgMap (F0 (ov rs) g) B/\∀n,(g n).isSome=true->(ov l n).isSome=true)/\(x2=x\/x2=En x a q)/\(Clean D->Clean o)/\(o.n=D.n/\∀i,(o.ver i).length<=(D.ver i).length+2)/\v=Aa 0/\G=[stB ps pd j x2 (V r) md false (.map none),lgB r pd j s a2 (q+1) t false nu,tblA j,diskA pd o,pgsA md (ov l) d,poolA d])\/(1<=k/\∃(c:Int) (d:Hp) (o:Dsk) (x2:Sup) (B2:Nat->Pg) (l:List Rc) (y:List (List UInt8)) (a2 q2 t:Int) (b2:Bool) (f:Nat),c≠0/\(¬Clean D\/1099511627776<x.gen+1)/\BC hq d/\SInv o x2 B2 l y a2 q2 t b2 f/\pgMap (ov l) B2=pgMap (ov rs) B/\(x2=x\/x2=En x a q)/\(o.n=D.n/\∀i,(o.ver i).length<=(D.ver i).length+2)/\(q<=q2/\q2<=q+1)/\v=Aa c/\G=[stB ps pd j x2 (V r) md false (.map none),lgB r pd j s a2 q2 t b2 nu,tblA j,diskA pd o,pgsA md (ov l) d,poolA d])):=by
 intro z R w m;have H:=m.l7;have d0:=hS.ok.2;have b6:∀n,(g n).isSome=true->n<1024:=λn h=>by have:=b5 n h;omega
 obtain ⟨c3,c8,a4,a3,m⟩:=H.pgsc 5 Z;clear H;have H:=m.l7;have c2:∀n p,g n=some p->p.Ok:=λn p h=>a4.okp h;have c9:(c3.map PgE.ie).length=k:=by simp[a3]
 refine O3 func46 Z 30 ntmps46 Z (AN (AF (BH 1 Z Z (AM (AN (AN (AF (F8 5 [11,0] (A3 (H.blk 0 Z) AU) Z J Z (AM (Ef Z (C3 (AN (AF ?_)))))))))))));refine BH 1 Z Z (JI Z Z Z Z (AM (AN (AN (AF (F8 4 [12,0] (A3 (H.blk 0 Z) AU) Z J Z (s_do Z Z Z (Lk (e:=40) Z J Z (AB (H.bk 5 Z))) (BH 1 Z Z (AM (Fe Z (λh1=>?_) (λh1=>?_)))))))))))
 ·refine AN (AF (BH 1 Z Z (AM (DV ?_))));intro a_ hF;unfold Hx;rw[hF.defers];refine FA (λw=>call63 _ w) (JL _ _ _ _ _ _ _ _) H 7 [0,1,2,3,4,5,6] Z Z ?_;rintro _ w _ ⟨rfl,rfl⟩ m;clear H;have H:=m.l7;refine NJ hF (rs:=[.tmp 2]) Z [Aa 0] ⟨Z,trivial⟩ (v:=Aa 0) Z ?_;exact ⟨[stB ps pd j x (V r) md false (.map none),lgB r pd j s a q u b nu,tblA j,diskA pd D,pgsA md (ov rs) hq,poolA hq],.inl ⟨by omega,Z,Z⟩,H.perm 7 [0,1,2,3,4,6] Z Z⟩
 refine C3 (AN (AN ?_));have b9:1<=k:=by omega
 have m:=H.toPgsc 5 Z a4 a3;have H:=m.l7;refine AF (BH 1 Z Z (E1 Z Z Z Z Z (λw=>call104 _ w) (Pj _ _ _ _ _ _ _ _ _ _ _ _ _ _ _ _ _ _ _ _ _ _ hS hL b8 c6 c7 b7 b5 U) H Z ?_));rintro _ w _ (⟨ks,d,o,x2,B2,a1,a2,t,f,c1,a0,b0,a7,a8,b4,a9,rfl,rfl⟩|⟨c4,d,o,x2,B2,l,y,a2,q2,t,b1,f,a5,c0,a0,b0,a7,a8,a9,b3,rfl,rfl⟩) m
 ·have H:=m.l7;refine BH 1 Z Z (AM (AN (AF (BH 2 Z Z (Qm 19 Z Z (AM (Ef Z (C3 (AN (BO (Sep z (stB ps pd j x2 (V r) md true (.map (some mo))::R)) 9 Z J (A8 H λw m=>?_)))))))))))
  have H:=m.l7;refine XQ [0,1,2,3,4,5,6,7] [10,0,12,0] (λ_ hx=>(A3 (hx.blk 0 Z) AU)) (by exact H.pick 7 [0] Z) Z J Z Z (Cf [8] J O (Ay (BF Z Z Z Z Z Z (λw=>call105 _ w) (T8 _ _ _ _ _ _) H.f5.f5 Z ?_)));rintro _ w _ ⟨rfl,rfl⟩ m;have H:=m.l7;refine B0 (H.pick 7 [2] Z) (a_done J (AN (AF (BH 1 Z Z (AM (DV ?_))))));intro a_ hF;unfold Hx;rw[hF.defers];refine FA (λw=>call63 _ w) (JL _ _ _ _ _ _ _ _) H 7 [2,0,1,3,4,5,6] Z Z ?_;rintro _ w _ ⟨rfl,rfl⟩ m;clear H;have H:=m.l7;refine NJ hF (rs:=[.tmp 2]) Z [Aa 0] ⟨Z,trivial⟩ (v:=Aa 0) Z ?_;have a6:F0 (ov a1) g=ov (a1++[⟨q,BS g ks⟩]):=by rw[Ht,NU c1 (Kp c1 c2 b6)]
  rw[a6] at H;have H:Sep z (stB ps pd j x2 (V r) md false (.map none)::pgsA md (ov (a1++[⟨q,BS g ks⟩])) d::Dz mo g k d::lgB r pd j s a2 (q+1) t false nu::tblA j::diskA pd o::poolA d::R) w:=H;exact ⟨[stB ps pd j x2 (V r) md false (.map none),lgB r pd j s a2 (q+1) t false nu,tblA j,diskA pd o,pgsA md (ov (a1++[⟨q,BS g ks⟩])) d,poolA d],.inr (.inl ⟨b9,d,o,x2,B2,_,a2,t,f,a0,b0,⟨by rw[<-a6,Iu,Iu,a7],λn hn=>by rw[<-a6];obtain ⟨p_,c5⟩:=YE.1 hn;simp[F0,c5]⟩,a8,b4,a9,Z,Z⟩),H.perm 7 [0,3,4,5,1,6] Z Z⟩
 have H:=m.l7;refine BH 1 Z Z (AM (AN (AF (BH 2 Z Z (AM (Fe Z (λh2=>?_) (λh2=>?_)))))))
 ·refine AN (AF (BH 2 Z Z (AM (DV ?_))));intro a_ hF;unfold Hx;rw[hF.defers];refine FA (λw=>call63 _ w) (JL _ _ _ _ _ _ _ _) H 7 [0,1,2,3,4,5,6] Z Z ?_;rintro _ w _ ⟨rfl,rfl⟩ m;clear H;have H:=m.l7;refine NJ hF (rs:=[.tmp 2]) Z [Aa c4] ⟨Z,trivial⟩ (v:=Aa c4) Z ?_;exact ⟨[stB ps pd j x2 (V r) md false (.map none),lgB r pd j s a2 q2 t b1 nu,tblA j,diskA pd o,pgsA md (ov l) d,poolA d],.inr (.inr ⟨b9,_,d,o,x2,B2,l,y,a2,q2,t,b1,f,a5,c0,a0,b0,a7,a8,a9,b3,Z,Z⟩),H.perm 7 [0,1,2,3,4,6] Z Z⟩
 exact absurd a5 h2
section
def BG(x:Sup):Sup:= {x with gen:=x.gen+1,epoch:=x.epoch+1,head:=0,seq:=1}
theorem S5(x:Sup):(BG x).gen=x.gen+1/\(BG x).epoch=x.epoch+1/\(BG x).pages=x.pages/\(BG x).start=x.start/\(BG x).len=x.len/\(BG x).head=0/\(BG x).seq=1:=⟨Z,Z,Z,Z,Z,Z,Z⟩
def WS(D:Dsk)(s:Sup)(a q u:Int):Prop:=s.len<=u\/∀ims,¬nextP (Cr D s a) s.epoch q (s.len-u) ims
structure OInv(D:Dsk)(x:Sup)(B:Nat->Pg)(Gd:List Rc->Prop):Prop where
 ok:x.Ok (D.n:Int)
 s:SOk x
 gen:1<=x.gen
 ver:∀i,D.ver i=[]
 sup:D.dur (x.gen%2).toNat=Br x
 oth:∃y:Sup,y.Ok (D.n:Int)/\y.gen=x.gen-1/\D.dur ((x.gen+1)%2).toNat=Br y
 tags:∀i:Nat,2+x.pages<=(i:Int)->∀e q,Tg (D.dur i) e q->e<=x.epoch
 read:∀(got:List Rc) (a q u:Int),Runs D x x.head x.seq 0 got a q u->WS D x a q u->Gd got
 recs:∀got,Gd got->∀r∈got,(1<=r.ims.length/\r.ims.length<=40)/\∀m∈r.ims,m.Ok/\m.num<x.pages
 gd:∀got,Gd got->∀i:Nat,(i:Int)<x.pages->ov got i=none->HomeP (D.dur (2+i)) i (B i)
theorem NV{rs:List Rc}{k m n:Nat}(a:k<=m)(h:(ov (rs.take k) n).isSome=true):(ov (rs.take m) n).isSome=true:=by
 have:=Fa ((rs.take m).drop k) _ (show (ov ((rs.take m).take k) n).isSome=true by rw[YA,YC a];exact h);rwa[YO] at this
theorem SInv.crashed{D D':Dsk}{x:Sup}{B:Nat->Pg}{rs:List Rc}{ptl:List (List UInt8)}{a q u:Int}{b:Bool}{sure:Nat}(h:SInv D x B rs ptl a q u b sure)(hq:q<=1099511627776)(l:Crashed D D'):OInv D' x B (λf=>sure<=f.length/\f.length<=rs.length/\f=rs.take f.length):=by
 have hg:=h.gen;refine ⟨by rw[l.n];exact h.ok,h.s,hg,l.ver,?_,?_,λi w e q' ht=>h.tags hq w (l.dur i) ht,λf a' q' u' t v=>h.p.read h.s l hq t v,λf k r t=>?_,λf k i w ho=>?_⟩
 ·rcases l.dur (x.gen%2).toNat with g|g
  ·rw[g];exact h.sup.1
  rw[h.sup.2] at g;cases g
 ·obtain ⟨y,a,b,c,d⟩:=h.oth
  refine ⟨y,by rw[l.n];exact a,b,?_⟩;rcases l.dur ((x.gen+1)%2).toNat with g|g
  ·rw[g];exact c
  rw[d] at g;cases g
 ·rw[k.2.2] at t
  have o:=YH t;obtain ⟨j,hj⟩:=Yx o;obtain ⟨_,h2,h3⟩:=h.p.recs j r hj;exact ⟨h2,λm z=>⟨h3 m z,h.num r o m z⟩⟩
 rcases h.home i w _ (l.dur _) with g|⟨g,_⟩
 ·exact g
 have:=NV k.1 g;rw[<-k.2.2,ho] at this;cases this
variable{D:Dsk}{x:Sup}{B:Nat->Pg}{Gd:List Rc->Prop}
theorem OInv.ovb(h:OInv D x B Gd){a:List Rc}(b:Gd a){n:Nat}(d:(ov a n).isSome=true):(n:Int)<x.pages:=by
 obtain ⟨p,hp⟩:=YE.1 d;obtain ⟨r,e,m,c,f,_⟩:=I5 _ a Z hp;have g:=((h.recs a b r e).2 m c).2;have i:=h.ok.2;omega
theorem OInv.ovok(h:OInv D x B Gd){a:List Rc}(b:Gd a){n:Nat}{p:Pg}(d:ov a n=some p):p.Ok:=by
 obtain ⟨r,e,m,c,_,rfl⟩:=I5 _ a Z d;exact EQ ((h.recs a b r e).2 m c).1
theorem OInv.opened(h:OInv D x B Gd){a:List Rc}(hg:Gd a){d:List Int}(k:Ec (ov a) d)(l:(BG x).Ok (D.n:Int))(he:x.epoch+1<4294967296):
  SInv (Ek (hwD D (pgLst (ov a) d)).fl (BG x)) (BG x) (pgMap (ov a) B) [] [] 0 1 0 false 0:=by
 have hk:=h.ok.2;have a0:=h.gen;have w:=S5 x;have m:=h.s;have q:SOk (BG x):=⟨by rw[w.2.2.2.1];exact m.start,by have:=m.head;omega,by have:=m.epoch;omega,by omega⟩;have u:∀y∈pgLst (ov a) d,(y.1:Int)<x.pages:=λy l=>h.ovb hg (by rw[(DA k y.1 y.2).1 l];rfl);have f:∀i c,Cx (Ek (hwD D (pgLst (ov a) d)).fl (BG x)) i c->i≠((BG x).gen%2).toNat->c=(hwD D (pgLst (ov a) d)).cont i:=λi c b o=>by
  have g:=DR (hwD D (pgLst (ov a) d)).fl (BG x) i o;unfold Cx at b;rw[g.1,g.2] at b;rcases b with b|b
  ·exact b
  cases b
 have t:∀i:Nat,i<2->(hwD D (pgLst (ov a) d)).cont i=D.dur i:=λi o=>by
  rw[hw_cont_out _ D i (λy _ e=>by omega)];exact DJ (h.ver i)
 refine ⟨by show (BG x).Ok ((hwD D _).n:Int);rw[Ea];exact l,?_,q,by omega,λr hr=>(by cases hr),λi o c b=>.inl ?_,Gc _ _,?_,λi o hr c b e q' v=>?_⟩
 ·have:=PInv.fresh (D:=Ek (hwD D (pgLst (ov a) d)).fl (BG x)) q (λi h1 h2 c b e q' v=>?_)
  ·rw[w.2.2.2.2.2.1,w.2.2.2.2.2.2] at this;exact this
  have o:=f i c b U;rw[hw_cont_out _ D i (λy l e=>by have:=u y l;omega),DJ (h.ver i)] at o;subst o;have:=h.tags i U e q' v;omega
 ·have j:=f (2+i) c b U
  subst j;unfold pgMap
  cases g:ov a i with
  | some p=>
   have hm:(i,p)∈pgLst (ov a) d:=(DA k i p).2 g;rw[SY _ D (DS k) (i,p) hm];exact .inr ⟨h.ovok hg g,Z⟩
  | none=>
   rw[hw_cont_out _ D _ (λz hz e=>by
    have:=(DA k z.1 z.2).1 hz;rw[show z.1=i from by omega,g] at this;cases this),DJ (h.ver _)]
   exact h.gd a hg i U g
 ·refine ⟨x,by show x.Ok ((hwD D _).n:Int);rw[Ea];exact h.ok,by omega,?_⟩
  have g:=DR (hwD D (pgLst (ov a) d)).fl (BG x) (((BG x).gen+1)%2).toNat U;refine ⟨?_,by rw[g.2];rfl⟩;rw[g.1];show (hwD D (pgLst (ov a) d)).cont _=_;rw[t _ U,show ((BG x).gen+1)%2=x.gen%2 from by omega];exact h.sup
 have j:=f i c b U;rw[hw_cont_out _ D i (λy l e=>by have:=u y l;omega),DJ (h.ver i)] at j;subst j;have:=h.tags i U e q' v;omega

def DT(D:Dsk):Nat->Dsk
 | 0=>D
 | k+1=>(DT D k).wr (2+k) [List.replicate 256 0]
theorem Ly(D:Dsk):∀k,(DT D k).n=D.n
 | 0=>rfl
 | k+1=>by show ((DT D k).wr _ _).n=_;rw[Dsk.wr_n];exact Ly D k
theorem T9(n k i:Nat):(DT (BT n) k).cont i=List.replicate 256 0:=by
 induction k with
 | zero=>rfl
 | succ k ih=>
  show ((DT (BT n) k).wr _ _).cont i=_;rw[wr_cont,ih];by_cases h:2+k<=i
  ·rw[if_pos h]
   rcases Aad (i-(2+k)) with e|e
   ·rw[e];rfl
   rw[Yp (by simp;omega)];rfl
  rw[if_neg h];rfl
theorem ES{D:Dsk}(h:Clean D):∀k,Clean (DT D k)
 | 0=>h
 | k+1=>(ES h k).wr _ _
theorem Pl(n:Nat)(i:Nat):∀k,((DT (BT n) k).ver i).length<=k
 | 0=>by simp[DT,BT]
 | k+1=>by
  have h1:=Dsk.wr_len (DT (BT n) k) (2+k) [List.replicate 256 0] i;have a:=Pl n i k;show (((DT (BT n) k).wr _ _).ver i).length<=_;omega
def Bk(p s l g:Int):Sup:=⟨g,1,p,s,l,0,1⟩
def Kq(n:Nat)(p s l:Int):Dsk:=Ek (Ek (DT (BT n) p.toNat).fl (Bk p s l 1)) (Bk p s l 2)
theorem EC(n:Nat):Clean (BT n):=⟨Z,Z,Z,Z⟩
theorem Rz(n:Nat)(p s l:Int):Clean (Kq n p s l):=((ES (EC n) _).fl.sv _).sv _
theorem RA(n:Nat)(p s l:Int):(Kq n p s l).n=n:=Ly _ _
theorem Pm(n:Nat)(p s l:Int)(i:Nat):(Kq n p s l).ver i=[]:=Gj (Gj (λ_=>rfl) _) _ i
theorem Lz(n:Nat)(p s l:Int)(i:Nat)(c:2<=i):(Kq n p s l).dur i=List.replicate 256 0:=by
 have a:=DR (Ek (DT (BT n) p.toNat).fl (Bk p s l 1)) (Bk p s l 2) i (by show i≠((2:Int)%2).toNat;simp;omega);have b:=DR (DT (BT n) p.toNat).fl (Bk p s l 1) i (by show i≠((1:Int)%2).toNat;simp;omega);exact (a.1.trans b.1).trans (T9 n _ i)
theorem Ua{n:Nat}{p s l:Int}(c:(Bk p s l 2).Ok (n:Int)):OInv (Kq n p s l) (Bk p s l 2) (λ_=>DM) (λb=>b=[]):=by
 have v:(Bk p s l 2).gen=2/\(Bk p s l 2).epoch=1/\(Bk p s l 2).pages=p/\(Bk p s l 2).start=s/\(Bk p s l 2).len=l/\(Bk p s l 2).head=0/\(Bk p s l 2).seq=1:=⟨Z,Z,Z,Z,Z,Z,Z⟩;have w:=Sup.get c;have t:=c.2;have f:SOk (Bk p s l 2):=⟨by omega,by omega,by omega,by omega⟩;have d:∀z:Int,(Kq n p s l).cont (ringAt (Bk p s l 2) z)=List.replicate 256 0:=λz=>by
  have:=HB f z;rw[DJ (Pm _ _ _ _ _)];exact Lz _ _ _ _ _ U
 refine ⟨by rw[RA];exact c,f,by omega,Pm _ _ _ _,(Gc _ _).1,⟨Bk p s l 1,?_,Z,?_⟩,λi m e q j=>?_,λb a q u h o=>?_,λb g r h=>?_,λb _ i x _=>?_⟩
 ·rw[RA]
  exact Sup.ok_mk (by show 0<=(1:Int)/\(1:Int)<=1099511627776;omega) (by show 0<=(1:Int)/\(1:Int)<=1099511627776;omega) (by show 16<=p/\p<=1024;omega) (by show 2+p<=s/\s<=1099511627776;omega) (by show 64<=l/\l<=1099511627776;omega) (by show 0<=(0:Int)/\(0:Int)<l;omega) (by show 0<=(1:Int)/\(1:Int)<=1099511627776;omega) (by show s<=n-l/\l<=n;omega)
 ·have m:=DR (Ek (DT (BT n) p.toNat).fl (Bk p s l 1)) (Bk p s l 2) 1 (by show 1≠((2:Int)%2).toNat;decide)
  exact m.1.trans (Gc (DT (BT n) p.toNat).fl (Bk p s l 1)).1
 ·rw[Lz _ _ _ _ _ U] at j
  exact (QY _ _ j).elim
 ·cases h with
  | nil=>rfl
  | snoc r hlt hn=>
   exfalso;have k:=hn.1;have e:∀z,Cr (Kq n p s l) (Bk p s l 2) z 0=List.replicate 256 0:=λz=>d (z+((0:Nat):Int));rw[e] at k;exact Ki k
 ·subst g;cases h
 rw[Lz _ _ _ _ _ U];exact .inl ⟨Z,Z⟩
end
theorem OInv.two{D:Dsk}{x:Sup}{B:Nat->Pg}{Gd:List Rc->Prop}(h:OInv D x B Gd):∃a b:Sup,a.Ok (D.n:Int)/\b.Ok (D.n:Int)/\a.gen%2=0/\b.gen%2=1/\D.cont 0=Br a/\D.cont 1=Br b/\x=if a.gen<b.gen then b else a:=by
 obtain ⟨y,f,i,c⟩:=h.oth;have hs:=h.sup;have j:=h.gen;have g:=DJ (h.ver 0);have d:=DJ (h.ver 1);rcases (show x.gen%2=0\/x.gen%2=1 by omega) with e|e
 ·rw[show (x.gen%2).toNat=0 by omega] at hs
  rw[show ((x.gen+1)%2).toNat=1 by omega] at c;exact ⟨x,y,h.ok,f,e,by omega,g.trans hs,d.trans c,by rw[if_neg U]⟩
 rw[show (x.gen%2).toNat=1 by omega] at hs;rw[show ((x.gen+1)%2).toNat=0 by omega] at c;exact ⟨y,x,f,h.ok,by omega,e,g.trans c,d.trans hs,by rw[if_pos U]⟩
theorem VI{x:Sup}{n:Int}(h:x.Ok n)(d:1<=x.gen)(b:x.gen+1<=1099511627776)(e:x.epoch+1<=1099511627776):(BG x).Ok n:=by
 have hs:=Sup.get h;have c:=h.2;have a:=S5 x;exact Sup.ok_mk U U U U U U U U
theorem LA{rs:List Rc}{k:Nat}{r:Rc}(h:rs[k]?=some r):DK (ov (rs.take k)) r.ims=ov (rs.take (k+1)):=by
 rw[Yd,h];exact (Ht _ _).symm
theorem KC{f:Bb}{ims:List Img}{k:Nat}{m:Img}(h:ims[k]?=some m):pgSet (DK f (ims.take k)) m.num.toNat (EP m)=DK f (ims.take (k+1)):=by
 rw[Yd,h];exact (Q0 _ _ _).symm
set_option maxHeartbeats 4000000 in
theorem sopen_c (pd:Nat) (D:Dsk) (x:Sup) (B:Nat->Pg) (Gd:List Rc->Prop) (hO:OInv D x B Gd) (b8:Clean D) (h6:x.gen+1<=1099511627776) (g3:x.epoch+1<4294967296):An 30 [V pd] [diskA pd D] (λv G=>∃(ps pl b md:Nat) (hq:Hp) (D2:Dsk) (d6:List Rc),Gd d6/\SInv D2 (BG x) (pgMap (ov d6) B) [] [] 0 1 0 false 0/\Clean D2/\D2.n=D.n/\(∀i,D2.ver i=[])/\v=.tuple #[V ps,Aa 0]/\G=[stB ps pd b (BG x) (V pl) md false (.map none),lgB pl pd b (BG x) 0 1 0 false (decide ((BG x).epoch<4294967296)),tblA b,diskA pd D2,pgsA md CP hq,poolA hq]):=by
 intro z R w H;obtain ⟨y0,y1,e5,g2,e7,f0,e9,g1,f9⟩:=hO.two;have b7:=hO.ok;have h7:=Sup.get b7;have h5:=b7.2;have d3:=hO.gen;have a4:(BG x).Ok (D.n:Int):=VI b7 d3 U U;refine Af func30 Z ntmps30 Z (Zc 19 Z (AA Z (call73 _) (Lm) H ?_));rintro _ w _ ⟨b,rfl,rfl⟩ H;refine AC Z (E2 H Z) ?_;rintro _ w ⟨y,rfl,H⟩;refine Ae Z (AR Z Z (out:=[V pd,V b,Aa 0,Aa 0,Aa 0,Aa 0,Aa 0,Aa 0,Aa 0,.pointer none,.map (some y),.bool false,.map none]) J) (Za 0 [] H Z ?_);intro b2 w H;refine Z2 10 [1,0,0] H Z (Ah Z (call74 _) (VH _ _ _ b8.f1 x y0 y1 e5 g2 e7 f0 e9 g1 f9) H.f2.f3 ?_);intro w H;refine Za 3 [] H Z ?_;intro b3 w H;refine Z4 24 [0,4,0,7,2,3] H Z ?_;intro w H;replace H:=H.f3;refine BO (Sep z (stB b2 pd b x (.pointer none) y false (.map none)::blk b3 [Aa x.gen,Aa x.epoch,Aa x.pages,Aa x.start,Aa x.len,Aa x.head,Aa x.seq] 92::R)) 14 Z J (A8 H λw s=>?_);have H:=s.l5;refine CB [0,1,2,3,4,5] [1,0,0,1,7] [] (by exact H.pick 5 [0,1] Z) Z J Z (Cf [6] J O (Ay (BF Z Z Z Z Z Z (λw=>call75 _ w) (VE _ _ x _ b7 b8.f1) H.f2.f3 Z ?_)));rintro _ w _ ⟨b1,a,a5,q5,u5,v5,a0,rfl,a9,b0,o,rfl⟩ H;obtain ⟨c4,c2,rfl⟩:=o.slc;obtain ⟨c8,b9,a2,c6⟩:=o;have g5:c8.length=a.length:=by rw[<-b9];simp
 have a7:=hO.read a a5 q5 u5 a9 b0;have f8:=hO.recs a a7;have g9:=a2.small;have e2:∀n,(ov a n).isSome=true->n<1024:=λn h=>by have:=hO.ovb a7 h;omega
 have d9:∀n,(ov a n).isSome=true->2+n<D.n:=λn h=>by have:=hO.ovb a7 h;omega
 have H:Sep z (poolA a0::lgB b1 pd b x a5 q5 u5 false (decide (x.epoch<4294967296))::tblA b::diskA pd D::stB b2 pd b x (.pointer none) y false (.map none)::blk b3 [Aa x.gen,Aa x.epoch,Aa x.pages,Aa x.start,Aa x.len,Aa x.head,Aa x.seq] 92::AG y ([]) 0::R) w:=H;refine B0 (H.pick 7 [4,5] Z) (CB [7,8,9,10,11,12,13] [] [] (by exact H.pick 7 [4,5] Z) Z J Z (a_done J (gn (Z5 36 [4,0,5,0,0,5,1,5,0,1,5,0,5,0,0] [x.gen+1,x.epoch+1] H Z U ?_))));intro w H;refine Am 62 Z (λh1=>U) (λh1=>?_);refine Z2 6 [1,5,0,0] H Z (Ag Z (λh2=>U) (λh2=>?_));refine Zc 11 Z ?_;refine Aq (σ:=Nat×List PgE×Nat) (λ⟨k,es,cl⟩=>[(69,Aa (k:Int)),(0,V pd),(2,.pointer none),(3,Aa 0),(4,V b2),(5,V b3),(67,.slice c4 a.length c2),(68,Aa (a.length:Int))])
   (λ⟨k,es,cl⟩ w=>Sep z (poolA a0::lgB b1 pd b x a5 q5 u5 false (decide (x.epoch<4294967296))::tblA b::diskA pd D::stB b2 pd b x (.pointer none) y false (.map none)::blk b3 [Aa (x.gen+1),Aa (x.epoch+1),Aa x.pages,Aa x.start,Aa x.len,Aa x.head,Aa x.seq] 92::AG y (es.map PgE.ie) cl::R) w/\(k<=a.length/\PgsIn (ov (a.take k)) es cl a0)) (λ⟨k,es,cl⟩=>a.length-k) ⟨0,[],0⟩
   fr_z ⟨H,by omega,PgsIn.none _ _⟩ ?_
 clear H;rintro ⟨k,es,cl⟩ w ⟨s,hI⟩;dsimp only at hI s ⊢;have H:=s.l7;obtain ⟨h8,c0⟩:=hI;refine Z0 6 [0] Z (Ag Z (λh3=>?_) (λh3=>?_))
 ·refine Zc 6 Z ?_;obtain ⟨⟨g,w1⟩,b6⟩:∃e:RcE,c8[k]?=some e:=⟨_,XV U⟩;have d4:a[k]?=some g:=by rw[<-b9];simp[b6]
  obtain ⟨c9,c5,f,e1⟩:=c6 _ (XW b6);dsimp only at c5 f;obtain ⟨a3,c3,rfl⟩:=f.slc;have g4:c9.length=g.ims.length:=by rw[<-c5];simp
  have g8:=f.small;have e3:=f8 _ (XW d4);have d1:=(H.rv 0 (λq=>a2.le q)).at (DF b6 0 _ Z);refine Ae Z (Az Z (z:=2) (j:=k) (r:=k*2) J Z Z Z U d1 U) (Ae Z (B7 Z Z (vs:=[Aa g.seq,.slice a3 g.ims.length c3]) J O (AB (λk u hk=>(H.rv 0 (λq=>a2.le q)).at (DF b6 k u hk)))) (Za 0 [] H Z ?_));intro b4 w H;refine Z4 12 [0,1,0,0] H Z ?_;intro w H;refine Aq (σ:=Nat×List PgE×Nat) (λ⟨j,ei,ci⟩=>[(76,Aa (j:Int)),(0,V pd),(2,.pointer none),(3,Aa 0),(4,V b2),(5,V b3),(10,V b4),(67,.slice c4 a.length c2),(68,Aa (a.length:Int)),(69,Aa (k:Int)),(70,.bool (decide ((k:Int)<(a.length:Int)))),(71,Fu c4 (k*2)),(72,.agg #[Aa g.seq,.slice a3 g.ims.length c3]),(73,.pointer (some ⟨b4,1,none⟩)),(74,.slice a3 g.ims.length c3),(75,Aa (g.ims.length:Int))])
    (λ⟨j,ei,ci⟩ w=>Sep z (blk b4 [Aa g.seq,.slice a3 g.ims.length c3] 116::poolA a0::lgB b1 pd b x a5 q5 u5 false (decide (x.epoch<4294967296))::tblA b::diskA pd D::stB b2 pd b x (.pointer none) y false (.map none)::blk b3 [Aa (x.gen+1),Aa (x.epoch+1),Aa x.pages,Aa x.start,Aa x.len,Aa x.head,Aa x.seq] 92::AG y (ei.map PgE.ie) ci::R) w/\(j<=g.ims.length/\PgsIn (DK (ov (a.take k)) (g.ims.take j)) ei ci a0)) (λ⟨j,ei,ci⟩=>g.ims.length-j) ⟨0,es,cl⟩
    fr_z ⟨H,by omega,c0⟩ ?_
  clear H;rintro ⟨j,ei,ci⟩ w ⟨s,hI⟩;dsimp only at hI s ⊢;have H:=s.l8;obtain ⟨h0,t⟩:=hI;refine Z0 6 [0] Z (Ag Z (λh4=>?_) (λh4=>?_))
  ·refine Zc 6 Z ?_;obtain ⟨⟨⟨a1,l,e0⟩,u1⟩,m⟩:∃e:ImE,c9[j]?=some e:=⟨_,XV U⟩;have d7:g.ims[j]?=some ⟨a1,l,e0⟩:=by rw[<-c5];simp[m]
   obtain ⟨⟨d0,d2⟩,c1,a6⟩:=(e3.2 _ (XW d7)).1;dsimp only at d0 d2 c1 a6;obtain ⟨n,rfl⟩:∃n:Nat,a1=(n:Int):=⟨a1.toNat,by omega⟩;have a8:=e1 _ (XW m);dsimp only at a8;rw[a6] at a8;have e8:=a8.slc;have d5:=(H.rv 1 (λq=>f.le q)).at (Ba m 0 _ Z);obtain ⟨d8,e6,c7,_⟩:=t.put (k:=n) (p:=⟨l,e0⟩) (v:=u1) ⟨c1,a6⟩ a8;refine Ae Z (Az Z (z:=3) (j:=j) (r:=j*3) J Z Z Z U d5 U) (Ae Z (B7 Z Z (vs:=[Aa (n:Int),Aa l,u1]) J O (AB (λk u hk=>(H.rv 1 (λq=>f.le q)).at (Ba m k u hk)))) (Za 0 [] H Z ?_));intro b5 w H;refine A0 Z Z (AE 0 H Z Z Z Z (vs:=[Aa (n:Int),Aa l,u1]) Z (Al Z (Al Z (Al e8.one AK))) J O (out:=[Aa (n:Int),Aa l,u1]) Z) ?_;rintro w H;refine Zc 2 Z ?_;replace H:=H.f6;refine BO (Sep z (stB b2 pd b x (.pointer none) y false (.map none)::blk b5 [Aa (n:Int),Aa l,u1] 118::R)) 9 Z J (A8 H λw s=>?_);have H:=s.l9;refine CB [0,1,2,3,4,5,6,7] [10,0,0,0,1,0,1,1,2] [] (by exact H.pick 9 [0,1] Z) Z J Z (Cf [8] J O (Ay (Cy Z Z Z (CV 8 (e:=40) H Z Z J Z Z Z) ?_)));rintro w H;refine B0 (H.pick 9 [0,1] Z) (a_done J (gn ?_));rw[e6] at H;have H:Sep z (stB b2 pd b x (.pointer none) y false (.map none)::blk b5 [Aa (n:Int),Aa l,u1] 118::blk b4 [Aa g.seq,.slice a3 g.ims.length c3] 116::poolA a0::lgB b1 pd b x a5 q5 u5 false (decide (x.epoch<4294967296))::tblA b::diskA pd D::blk b3 [Aa (x.gen+1),Aa (x.epoch+1),Aa x.pages,Aa x.start,Aa x.len,Aa x.head,Aa x.seq] 92::AG y (d8.map PgE.ie) (putC (ei.map PgE.ie) (n:Int) ci)::R) w:=H;refine Z1 6 [] [(j:Int)+1] Z U ?_;replace H:=H.f1.d.f7.f7.f2.f7.f7.f7.f7.f7;refine gf ?_;intro _ hF;refine ⟨⟨j+1,d8,putC (ei.map PgE.ie) (n:Int) ci⟩,hF.cz,⟨H,?_⟩,?_⟩
   ·dsimp only
    exact ⟨by omega,(KC d7)▸c7⟩
   (dsimp only;omega)
  obtain rfl:j=g.ims.length:=by omega
  refine Zc 2 Z (gx (Z1 7 [] [(k:Int)+1] Z U ?_));replace H:=H.d;refine gf ?_;intro _ hF;refine ⟨⟨k+1,ei,ci⟩,hF.cz,⟨H,?_⟩,?_⟩
  ·dsimp only
   rw[XZ (Yo _),LA d4] at t;exact ⟨by omega,t⟩
  (dsimp only;omega)
 obtain rfl:k=a.length:=by omega
 have t:=c0;rw[XZ (Yo _)] at t;refine Zc 2 Z (gx (Z4 15 [5,5,6,5,5,7] H Z ?_));intro w H;replace H:=(H.toPgs 6 Z t).l7;refine AA Z (call76 _) (Hd _ _ _ _ _ _ _ _ (ov a) _ (BG x) D e2 d9 a4 (λi=>by rw[hO.ver];simp)) H.f6.f4.f4.f5 ?_;rintro _ w _ (⟨ks,e4,rfl,rfl⟩|⟨ks,c,D2,e4,g7,g0,rfl,rfl⟩) s
 ·have H:=s.l7;refine Z0 13 [4] Z ?_;replace H:=H.f6.f1;refine A1 (Sep z (stB b2 pd b (BG x) (.pointer none) y false (.map none)::blk b3 [Aa (x.gen+1),Aa (x.epoch+1),Aa x.pages,Aa x.start,Aa x.len,Aa 0,Aa 1] 92::R)) 11 Z J (A8 H λw s=>?_)
  have H:=s.l7;refine BA [0,1,2,3,4,5] [1,0] J (λ_ hx=>(A3 (hx.blk 0 Z) AU)) (by exact H.pick 7 [0,1] Z) Z J Z Z (Bg 6 J Z Z J J J Z Z Z (Bz Z Z (vs:=[Aa (x.gen+1),Aa (x.epoch+1),Aa x.pages,Aa x.start,Aa x.len,Aa 0,Aa 1]) J (λ_ hx=>(hx.blk 1 Z).part 0 7 _ Z)) (H.pick 7 [0,1] Z) (Ax [7] J O (Ay (BF Z Z Z Z Z Z (λw=>call77 _ w) (MN _ _ _ (BG x) (by show (BG x).Ok ((hwD D _).n:Int);rw[Ea];exact a4)) H.f3 Z ?_))));rintro _ w _ ⟨pl,rfl,rfl⟩ H;refine Aw (λ_=>(H.pick 8 [2,3] Z)) (BA [8,9] [9] J (λ_ _=>AU) (by exact H.pick 8 [2,3] Z) Z J Z Z (Ax [10] J O (Ay (Cy Z Z Z (Qu 2 H Z Z Z Z Z Z J) ?_))));rintro w H;refine Aw (λh=>absurd Z h) (Bi J (gn (Zc 9 Z (Zr Z ?_))));exact ⟨_,⟨b2,pl,_,y,_,_,a,a7,hO.opened a7 e4 a4 g3,(((b8.hw _).fl).sv _),by show (hwD _ _).n=_;exact Ea _ _,Gj (λ_=>rfl) _,Z,Z⟩,H.perm 8 [2,0,4,1,5,6] Z Z⟩
 exact absurd g0 b8.setF
theorem Ub(n k:Nat):wr1 (DT (BT n) k) false ((2:Int)+(k:Int)).toNat (List.replicate 256 0)=DT (BT n) (k+1):=by
 rw[show ((2:Int)+(k:Int)).toNat=2+k from by omega];rfl
theorem LB{n:Nat}{p s l:Int}(h:(Bk p s l 2).Ok (n:Int)):(Bk p s l 1).Ok (n:Int):=by
 have a:=h.2;have hs:=Sup.get h;have b:(Bk p s l 2).pages=p/\(Bk p s l 2).start=s/\(Bk p s l 2).len=l/\(Bk p s l 2).head=0:=⟨Z,Z,Z,Z⟩;exact Sup.ok_mk (by show 0<=(1:Int)/\(1:Int)<=1099511627776;omega) (by show 0<=(1:Int)/\(1:Int)<=1099511627776;omega) (by show 16<=p/\p<=1024;omega) (by show 2+p<=s/\s<=1099511627776;omega) (by show 64<=l/\l<=1099511627776;omega) (by show 0<=(0:Int)/\(0:Int)<l;omega) (by show 0<=(1:Int)/\(1:Int)<=1099511627776;omega) (by show s<=n-l/\l<=n;omega)
theorem RB{n:Nat}{p s l:Int}(h:(Bk p s l 2).Ok (n:Int)):(16<=p/\p<=1024)/\2+p<=s/\s+l<=n/\0<=l:=by
 have a:=h.2;have b:(Bk p s l 2).pages=p/\(Bk p s l 2).start=s/\(Bk p s l 2).len=l/\(Bk p s l 2).head=0:=⟨Z,Z,Z,Z⟩;omega
set_option maxHeartbeats 2000000 in
theorem RC (pd n:Nat) (p s l:Int) (c:(Bk p s l 2).Ok (n:Int)):An 86 [V pd,Aa p,Aa s,Aa l] [diskA pd (BT n)] (λv G=>v=Aa 0/\G=[diskA pd (Kq n p s l)]):=by
 intro z R w a;have H:Sep z (diskA pd (BT n)::R) w:=a;clear a;have b:(Bk p s l 1).Ok (n:Int):=LB c;have a0:(16<=p/\p<=1024)/\2+p<=s/\s+l<=n/\0<=l:=RB c;have g:=H.sy 0 (λq=>(diskA.ok q).n2);refine enter func86 Z 57 ntmps86 Z (AN (AF (BH 1 Z Z (AM (AN (AN (AF (BH 1 Z Z (s_do Z Z Z (KT Z J Z Z) (AM (Ef Z (C3 (AN ?_)))))))))))));refine AF (BH 3 Z Z (s_do Z Z Z (AR Z Z (out:=[Aa 1,Aa 1,Aa p,Aa s,Aa l,Aa 0,Aa 1]) J) (E9 Z Z Z (BL (P:=prog) H Z (zs:=[Aa 0,Aa 0,Aa 0,Aa 0,Aa 0,Aa 0,Aa 0]) J) ?_)));rintro _ w ⟨t,rfl,a⟩;have H:=a.l2;refine EX Z Z (AE 0 H Z Z Z Z (vs:=[Aa 1,Aa 1,Aa p,Aa s,Aa l,Aa 0,Aa 1]) Z (by simp[u8,u32,Value.oneCell']) J O (out:=[Aa 1,Aa 1,Aa p,Aa s,Aa l,Aa 0,Aa 1]) Z) ?_;rintro w a;have H:=a.l2;refine AM (AN (AN (A4 (Sep z _) J J H.drew (Bd Z Z Z (Bz Z Z (vs:=[Aa 1,Aa 1,Aa p,Aa s,Aa l,Aa 0,Aa 1]) J (λ_ hx=>(hx.blk 0 Z).part 0 7 _ Z)) (B9 1 [] Z J (CN Z Z Z Z Z (λw=>call127 _ w) (v:=Aa ((BT n).n:Int)) (cq (Gh _ _) (by rintro _ _ ⟨rfl,rfl⟩;exact ⟨Z,Z⟩) 2 [1,0] [1,0] Z Z Z Z) (CN Z Z Z Z Z (λw=>call129 _ w) (v:=Aa (if (Sup.mk 1 1 p s l 0 1).Ok ((BT n).n:Int) then 0 else 1)) (cq (Gf (Sup.mk 1 1 p s l 0 1) _ U) (by rintro _ _ ⟨rfl,rfl⟩;exact ⟨Z,Z⟩) 0 [] [] Z Z Z Z) (B9 1 [] Z J (Bn (λw a=>?_))))))))));have H:=a.l2;refine Fe Z (λx=>?_) (λx=>?_)
 ·exact (x (if_pos b)).elim
 refine C3 (AN (AN (AF (BH 2 Z Z (AM (Fi ?_))))));refine Oh (σ:=Nat) (λk=>[(27,Aa (k:Int)),(0,V pd),(9,V t),(26,Aa p)])
   (λk w=>Sep z (blk t [Aa 1,Aa 1,Aa p,Aa s,Aa l,Aa 0,Aa 1] 92::diskA pd (DT (BT n) k)::R) w/\(k<=p.toNat)) (λk=>p.toNat-k) 0
   fr_z ⟨H,by omega⟩ ?_
 clear H;rintro k w ⟨a,o⟩;have H:=a.l2;have y:=o;clear o;refine AN (AF (BH 1 Z Z (AM (AN (Fe Z (λh2=>?_) (λh2=>?_))))))
 ·refine C3 (AN (Fi (AN (AF (BH 2 Z Z (AM (AN (AF (BH 2 Z Z (s_do Z Z Z (Cm Z Z Z (r:=(2:Int)+(k:Int)) U U) (E9 Z Z Z (C5 (k:=256) H Z J (Elt.mk (P:=prog) (e:=5) (z:=u8 0) (sz:=1) (by_:=1) J Z U U) Z Z Z U) ?_)))))))))));rintro _ w ⟨b2,rfl,a⟩;have H:=a.l3;refine E1 Z Z Z Z Z (λw=>call134 _ w) (Is _ _ _ _ _ _ _ (List.replicate 256 0) _ O (λh q=>by rw[ZA];exact q.rd U U O Z) (λi=>by have:=Pl n i k;omega) (by rw[Ly];show 0<=(2:Int)+(k:Int)/\(2:Int)+(k:Int)+1<=(n:Int);omega)) H.f2 Z ?_;rintro _ w _ (⟨m,rfl,rfl⟩|⟨_,rfl,rfl⟩) a
  ·exact absurd m (ES (EC n) k).bad
  have H:=a.l3;refine BH 1 Z Z (AM (AN (AF (BH 2 Z Z (k_updA 36 (u:=.bool (decide ((0:Int)≠0))) (v:=.bool false) Z (congrArg Value.bool (by decide)) (AM (Ef Z (C3 (AF (s_do Z Z Z (Cm Z Z Z (r:=(k:Int)+1) U U) (BH 1 Z Z (AM ?_))))))))))));replace H:=H.f1.d.f1;intro _ hF;refine ⟨(k+1),hF.cz,⟨(by rw[<-Ub];exact H),?_⟩,?_⟩
  ·omega
  omega
 obtain rfl:k=p.toNat:=by omega
 refine Oe (IN (AN (AN (AF (BH 1 Z Z (E1 Z Z Z Z Z (λw=>call70 _ w) (Gg _ _) H.f1 Z ?_))))));rintro _ w _ (⟨j,rfl,rfl⟩|⟨_,rfl,rfl⟩) a
 ·exact absurd j (ES (EC n) p.toNat).flb
 have H:=a.l2;refine BH 1 Z Z (AM (AN (AF (BH 2 Z Z (k_updA 42 (u:=.bool (decide ((0:Int)≠0))) (v:=.bool false) Z (congrArg Value.bool (by decide)) (AM (Ef Z (C3 (AN (AF (E1 Z Z Z Z Z (λw=>call73 _ w) (Lm) H Z ?_)))))))))));rintro _ w _ ⟨pt,rfl,rfl⟩ a;have H:=a.l3;refine BH 1 Z Z (AM (AN (AN (AF (BH 2 Z Z (s_do Z Z Z (Bz Z Z (vs:=[Aa 1,Aa 1,Aa p,Aa s,Aa l,Aa 0,Aa 1]) J (AB ((H.blk 2 Z).part 0 7 _ Z))) (E1 Z Z Z Z Z (λw=>call135 _ w) (Lr _ _ _ (Bk p s l 1) (by show (Bk p s l 1).Ok ((DT (BT n) p.toNat).n:Int);rw[Ly];exact b) (λi=>by show ([]:List (List UInt8)).length<=_;simp)) H.f1 Z ?_)))))));rintro _ w _ (⟨f,rfl,rfl⟩|⟨_,rfl,rfl⟩) a
 ·exact absurd f ((ES (EC n) p.toNat).fl).bad
 have H:=a.l3;refine BH 1 Z Z (AM (AN (AF (BH 2 Z Z (k_updA 50 (u:=.bool (decide ((0:Int)≠0))) (v:=.bool false) Z (congrArg Value.bool (by decide)) (AM (Ef Z (C3 (AN (AF (J9 1 [0] Z J (EX Z Z (AE 2 H Z Z Z Z (vs:=[Aa 2]) Z (by simp[u8,u32,Value.oneCell']) J O (out:=[Aa 2,Aa 1,Aa p,Aa s,Aa l,Aa 0,Aa 1]) Z) ?_))))))))))));rintro w a;have H:=a.l3;refine AM (AN (AF (BH 2 Z Z (s_do Z Z Z (Bz Z Z (vs:=[Aa 2,Aa 1,Aa p,Aa s,Aa l,Aa 0,Aa 1]) J (AB ((H.blk 2 Z).part 0 7 _ Z))) (E1 Z Z Z Z Z (λw=>call135 _ w) (Lr _ _ _ (Bk p s l 2) (by show (Bk p s l 2).Ok ((DT (BT n) p.toNat).n:Int);rw[Ly];exact c) (λi=>by rw[Gj (λ_=>rfl)];simp)) H Z ?_)))));rintro _ w _ (⟨f,rfl,rfl⟩|⟨_,rfl,rfl⟩) a
 ·exact absurd f (((ES (EC n) p.toNat).fl.sv _)).bad
 have H:=a.l3;refine BH 1 Z Z (AM (DV (FN Z [Aa 0] ⟨Z,trivial⟩ (v:=Aa 0) Z ?_)));exact ⟨[diskA pd (Ek (Ek ((DT (BT n) p.toNat).fl) (Bk p s l 1)) (Bk p s l 2))],⟨Z,Z⟩,H.perm 3 [0] Z Z⟩
theorem Uc(ps pd c md:Nat)(x:Sup)(b d:Value)(D:Dsk):An 28 [V ps] [stB ps pd c x b md false d,diskA pd D] (λv G=>(D.flb/\v=Aa 12/\G=[stB ps pd c x b md false d,diskA pd {D with f3:=AO D.f3}])\/(¬D.flb/\v=Aa 0/\G=[stB ps pd c x b md false d,diskA pd D.fl])):=by
 intro z R w e;have H:Sep z (stB ps pd c x b md false d::diskA pd D::R) w:=e;clear e;refine enter func28 Z 12 ntmps28 Z (AN (AF (BH 1 Z Z (AM (AN (AN (AF (F8 4 [11,0] (A3 (H.blk 0 Z) AU) Z J Z (AM (Ef Z (C3 (AN (AF ?_)))))))))))));refine F8 4 [0,0] (A3 (H.blk 0 Z) AU) Z J Z (E1 Z Z Z Z Z (λw=>call70 _ w) (Gg _ _) H.f1 Z ?_);rintro _ w _ (⟨a,rfl,rfl⟩|⟨a,rfl,rfl⟩) e
 ·have H:=e.l2;refine BH 1 Z Z (AM (DV (FN Z [Aa 12] ⟨Z,trivial⟩ (v:=Aa 12) Z ?_)));exact ⟨[stB ps pd c x b md false d,diskA pd ({D with f3:=AO D.f3})],.inl ⟨a,Z,Z⟩,H.perm 2 [1,0] Z Z⟩
 have H:=e.l2;refine BH 1 Z Z (AM (DV (FN Z [Aa 0] ⟨Z,trivial⟩ (v:=Aa 0) Z ?_)));exact ⟨[stB ps pd c x b md false d,diskA pd D.fl],.inr ⟨a,Z,Z⟩,H.perm 2 [1,0] Z Z⟩
section
structure StG where
 x:Sup
 B:Nat->Pg
 rs:List Rc
 ptl:List (List UInt8)
 a:Int
 q:Int
 u:Int
 b:Bool
 sure:Nat
def StG.M(G:StG):Nat->Pg:=pgMap (ov G.rs) G.B
def StG.home(G:StG):Prop:=∀n,ov G.rs n=none
structure StX where
 pl:Nat
 pt:Nat
 md:Nat
 mm:Nat
 sL:Sup
 nu:Bool
 hq:Hp
abbrev GU:=Option (Bb×Nat)
def XG(mm:Nat):GU->Value
 | none=>.map none
 | some _=>.map (some mm)
def XH(mm:Nat)(hq:Hp):GU->List Ai
 | none=>[]
 | some o=>[Dz mm o.1 o.2 hq]
abbrev XI(ps pd pt md:Nat)(x:Sup)(lp:Value)(un:Bool)(mo:Value):Ai:=blk ps [.pointer (some ⟨pd,0,none⟩),.pointer (some ⟨pt,0,none⟩),.int .i64 x.gen,.int .i64 x.epoch,.int .i64 x.pages,.int .i64 x.start,.int .i64 x.len,.int .i64 x.head,.int .i64 x.seq,lp,.map (some md),.bool un,mo] 97
abbrev XJ(pl pd pt:Nat)(sL:Sup)(a q u:Int)(b nu:Bool):Ai:=blk pl [.pointer (some ⟨pd,0,none⟩),.pointer (some ⟨pt,0,none⟩),.int .i64 sL.gen,.int .i64 sL.epoch,.int .i64 sL.pages,.int .i64 sL.start,.int .i64 sL.len,.int .i64 sL.head,.int .i64 sL.seq,.int .i64 a,.int .i64 q,.int .i64 u,.bool b,.bool nu] 191
def NW(ps pd:Nat)(D:Dsk)(G:StG)(own:GU)(X:StX):List Ai:=
 [XI ps pd X.pt X.md G.x (.pointer (some ⟨X.pl,0,none⟩)) own.isSome (XG X.mm own),XJ X.pl pd X.pt X.sL G.a G.q G.u G.b X.nu,tblA X.pt,diskA pd D,pgsA X.md (ov G.rs) X.hq,poolA X.hq]++XH X.mm X.hq own
structure StP(D:Dsk)(G:StG)(own:GU)(X:StX):Prop where
 inv:SInv D G.x G.B G.rs G.ptl G.a G.q G.u G.b G.sure
 l:X.sL.start=G.x.start/\X.sL.len=G.x.len/\X.sL.epoch=G.x.epoch
 ok:X.sL.Ok (D.n:Int)
 nu:X.nu=decide (X.sL.epoch<4294967296)
 own:∀o,own=some o->o.2<=40/\∀n,(o.1 n).isSome=true->(n:Int)<G.x.pages
def stoA(ps pd:Nat)(D:Dsk)(G:StG)(own:GU):Ai:=λh=>∃X,StP D G own X/\seps (NW ps pd D G own X) h
structure Fine(D:Dsk)(G:StG)(m:Nat):Prop where
 clean:Clean D
 b:G.b=false
 ver:∀i,(D.ver i).length<=m
 gen:G.x.gen<=m
 epoch:G.x.epoch<=m
 q:G.q<=m
theorem Fine.le{D:Dsk}{G:StG}{m a:Nat}(h:Fine D G m)(e:m<=a):Fine D G a:=
 ⟨h.clean,h.b,λi=>AaU (h.ver i) e,by have:=h.gen;omega,by have:=h.epoch;omega,by have:=h.q;omega⟩
variable{z w:World}{Γ:List Ai}{ps pd:Nat}{D:Dsk}{G:StG}{own:GU}
theorem Sep.sto(H:Sep z (stoA ps pd D G own::Γ) w):∃X,StP D G own X/\Sep z (NW ps pd D G own X++Γ) w:=
 H.into (p:=λX=>StP D G own X) (As:=λX=>NW ps pd D G own X) (λ_ q=>q)
theorem Sep.toSto{X:StX}(n:Nat)(H:Sep z Γ w)(b:StP D G own X)(a:Γ.take n=NW ps pd D G own X):Sep z (stoA ps pd D G own::Γ.drop n) w:=
 H.made n (λh q=>⟨X,b,by rwa[a] at q⟩)
def ED(M:Nat->Pg):GU->Nat->Pg
 | none,n=>M n
 | some o,n=>(o.1 n).getD (M n)
def MT(x:Sup)(B:Nat->Pg):StG:=⟨BG x,B,[],[],0,1,0,false,0⟩
theorem Pn(pd:Nat)(D:Dsk)(x:Sup)(B:Nat->Pg)(Gd:List Rc->Prop)(m:Nat)(g:OInv D x B Gd)(c:Clean D)(r:x.gen<=m/\x.epoch<=m)(s:m<=1000000000):
  An 30 [V pd] [diskA pd D] (λv G=>∃(ps:Nat) (b:Dsk) (a:List Rc),Gd a/\Fine b (MT x (pgMap (ov a) B)) (m+1)/\b.n=D.n/\v=.tuple #[V ps,Aa 0]/\G=[stoA ps pd b (MT x (pgMap (ov a) B)) none]):=by
 intro z R w H;refine Ret.mono (sopen_c pd D x B Gd g c U U z R w H) ?_;rintro v w' ⟨Γ',⟨ps,q,l,md,hq,b,a,k,d,p,f,j,rfl,rfl⟩,h⟩;refine ⟨_,⟨ps,b,a,k,⟨p,Z,λi=>by rw[j];simp,?_,?_,?_⟩,f,Z,Z⟩,h.toSto (X:=⟨q,l,md,0,BG x,decide ((BG x).epoch<4294967296),hq⟩) 6 ⟨d,⟨Z,Z,Z⟩,d.ok,Z,λo e=>(by cases e)⟩ Z⟩
 ·show x.gen+1<=_;omega
 ·show x.epoch+1<=_;omega
 show (1:Int)<=_;omega
theorem MU(ps pd:Nat)(D:Dsk)(G:StG):An 39 [V ps] [stoA ps pd D G none] (λv X=>v=Aa 0/\X=[stoA ps pd D G (some (CP,0))]):=by
 intro z R w H;obtain ⟨X,a,H⟩:=H.sto;refine Ret.mono (Cn.at (T4 ps pd X.pt X.md G.x _ _) H 6 [0,1,2,3,4,5] Z Z) ?_;rintro v w' ⟨Γ',⟨rfl,m,rfl⟩,b⟩;have H2:=b.mono 1 (B:=Dz m CP 0 X.hq) Z (λh q=>⟨[],0,PgsIn.none _ _,Z,q⟩);have H3:=H2.pick 7 [0,2,3,4,5,6,1] Z;exact ⟨_,⟨Z,Z⟩,H3.toSto (X:=⟨X.pl,X.pt,X.md,m,X.sL,X.nu,X.hq⟩) 7 ⟨a.inv,a.l,a.ok,a.nu,λo e=>by cases e;exact ⟨by omega,λn h=>(by cases h)⟩⟩ Z⟩
theorem Ud(ps pd:Nat)(D:Dsk)(G:StG)(own:GU):An 78 [V ps] [stoA ps pd D G own] (λv X=>v=.agg #[Aa G.x.gen,Aa G.x.epoch,Aa G.x.pages,Aa G.x.start,Aa G.x.len,Aa G.x.head,Aa G.x.seq]/\X=[stoA ps pd D G own]):=by
 intro z R w H;obtain ⟨X,b,H⟩:=H.sto
 cases own with
 | none=>
  refine Ret.mono (Cn.at (MS ps pd X.pt X.md G.x _ _ _) H 6 [0,1,2,3,4,5] Z Z) ?_;rintro v w' ⟨Γ',⟨rfl,rfl⟩,a⟩;exact ⟨_,⟨Z,Z⟩,a.toSto (X:=X) 6 b Z⟩
 | some o=>
  refine Ret.mono (Cn.at (MS ps pd X.pt X.md G.x _ _ _) H 7 [0,1,2,3,4,5,6] Z Z) ?_;rintro v w' ⟨Γ',⟨rfl,rfl⟩,a⟩;exact ⟨_,⟨Z,Z⟩,a.toSto (X:=X) 7 b Z⟩
theorem HC(ps pd:Nat)(D:Dsk)(G:StG)(g:Bb)(k:Nat)(n:Nat)(t:(n:Int)<G.x.pages)(p:Pg)(hp:p.Ok)(f:Value)(A:Ai)(y:∀h,A h->rdH 1 f 240 (p.body.map u8) h):
  An 41 [V ps,Aa (n:Int),.agg #[Aa p.kind,f]] [stoA ps pd D G (some (g,k)),A] (λv X=>((g n=none/\40<=k)/\v=Aa 16/\X=[stoA ps pd D G (some (g,k)),A])\/(¬(g n=none/\40<=k)/\v=Aa 0/\X=[stoA ps pd D G (some (pgSet g n p,k+(if (g n).isSome then 0 else 1))),A])):=by
 intro z R w H;obtain ⟨X,b,H⟩:=H.sto;obtain ⟨s,m⟩:=b.own _ Z;refine Ret.mono (Cn.at (Rv ps pd X.pt X.md X.mm G.x _ g k X.hq n t p hp f A y) H 8 [0,6,5,7,1,2,3,4] Z Z) ?_;rintro v w' ⟨Γ',(⟨d,rfl,rfl⟩|⟨d,c,hs,rfl,rfl⟩),u⟩
 ·have H3:=u.pick 8 [0,4,5,6,7,2,1,3] Z
  exact ⟨_,.inl ⟨d,Z,Z⟩,H3.toSto (X:=X) (ps:=ps) (pd:=pd) (D:=D) (G:=G) (own:=some (g,k)) 7 b Z⟩
 have H3:=(u.pick 8 [0,4,5,6,7,2,1,3] Z).mono 4 (B:=pgsA X.md (ov G.rs) c) Z (λh q=>pgsA.le hs h q);refine ⟨_,.inr ⟨d,Z,Z⟩,H3.toSto (X:=⟨X.pl,X.pt,X.md,X.mm,X.sL,X.nu,c⟩) (ps:=ps) (pd:=pd) (D:=D) (G:=G) (own:=some (pgSet g n p,k+(if (g n).isSome then 0 else 1))) 7 ⟨b.inv,b.l,b.ok,b.nu,λo e=>?_⟩ Z⟩;cases e;refine ⟨?_,λi hi=>?_⟩
 ·show k+(if (g n).isSome then 0 else 1)<=40
  split
  ·exact s
  rename_i r;have j:g n=none:=by simpa using r
  have:¬40<=k:=λe=>d ⟨j,e⟩;omega
 have a:(pgSet g n p i).isSome=true:=hi;unfold pgSet at a;split at a
 ·rename_i e;subst e;exact t
 exact m i a
theorem VJ(ps pd:Nat)(D:Dsk)(G:StG)(own:GU)(n:Nat)(g:(n:Int)<G.x.pages)(f:D.f1=0)(q:Pg)(hq:q=ED G.M own n):
  An 21 [V ps,Aa (n:Int)] [stoA ps pd D G own] (λv X=>(q=DM/\v=.tuple #[.agg #[Aa 0,.slice none 0 0],Aa 0]/\X=[stoA ps pd D G own])\/(q.Ok/\∃c,v=.tuple #[.agg #[Aa q.kind,c],Aa 0]/\X=[grow 5 1 c 240 (q.body.map u8),stoA ps pd D G own])):=by
 intro z R w H;obtain ⟨X,b,H⟩:=H.sto
 cases own with
 | none=>
  refine Ret.mono (Cn.at (Rt ps pd X.pt X.md G.x _ _ (ov G.rs) X.hq D n g f b.inv.ok q (G.B n) hq (λe=>b.inv.cur g e)) H 6 [0,2,3,4,5,1] Z Z) ?_;rintro v w' ⟨Γ',(⟨a,rfl,rfl⟩|⟨a,c,rfl,rfl⟩),d⟩
  ·have H3:=d.pick 6 [0,5,1,2,3,4] Z
   exact ⟨_,.inl ⟨a,Z,Z⟩,H3.toSto (X:=X) (ps:=ps) (pd:=pd) (D:=D) (G:=G) (own:=none) 6 b Z⟩
  have H3:=d.pick 7 [1,6,2,3,4,5,0] Z;have H4:=H3.toSto (X:=X) (ps:=ps) (pd:=pd) (D:=D) (G:=G) (own:=none) 6 b Z;exact ⟨_,.inr ⟨a,c,Z,Z⟩,H4.pick 2 [1,0] Z⟩
 | some o=>
  refine Ret.mono (Cn.at (Ru ps pd X.pt X.md X.mm G.x _ _ (ov G.rs) o.1 o.2 X.hq D n g f b.inv.ok q (G.B n) (by rw[hq];show (o.1 n).getD ((ov G.rs n).getD (G.B n))=_;cases o.1 n<;>rfl) (λe=>b.inv.cur g (by cases a:o.1 n with|none=>rw[a] at e;exact e|some y=>rw[a] at e;cases e))) H 7 [0,2,3,4,6,5,1] Z Z) ?_;rintro v w' ⟨Γ',(⟨a,rfl,rfl⟩|⟨a,c,rfl,rfl⟩),d⟩
  ·have H3:=d.pick 7 [0,6,1,2,3,5,4] Z
   exact ⟨_,.inl ⟨a,Z,Z⟩,H3.toSto (X:=X) (ps:=ps) (pd:=pd) (D:=D) (G:=G) (own:=some o) 7 b Z⟩
  have H3:=d.pick 8 [1,7,2,3,4,6,5,0] Z;have H4:=H3.toSto (X:=X) (ps:=ps) (pd:=pd) (D:=D) (G:=G) (own:=some o) 7 b Z;exact ⟨_,.inr ⟨a,c,Z,Z⟩,H4.pick 2 [1,0] Z⟩
theorem LD(ps pd:Nat)(D:Dsk)(G:StG)(g:Bb)(k m:Nat)(h:Fine D G m)(hm:m<=1000000000):
  An 46 [V ps] [stoA ps pd D G (some (g,k))] (λv X=>∃(r:Dsk) (s:StG),Fine r s (m+2)/\r.n=D.n/\(s.M=ED G.M (some (g,k))/\∀n,(g n).isSome=true->(ov s.rs n).isSome=true)/\(s.x=G.x\/s.x=En G.x G.a G.q)/\v=Aa 0/\X=[stoA ps pd r s none]):=by
 intro z R w H;obtain ⟨X,d,H⟩:=H.sto;obtain ⟨a6,a4⟩:=d.own _ Z;have h1:=h.gen;have h2:=h.epoch;have h3:=h.q;have hL:=d.l;have hc:=NR G.x G.a G.q;refine Ret.mono (Cn.at (Ry ps pd X.pt X.pl X.md X.mm G.x X.sL X.nu X.hq g k D G.B G.rs G.ptl G.a G.q G.u G.b G.sure d.inv d.l d.ok d.nu U (λi=>by have:=h.ver i;omega) a4 a6) H 7 [0,1,2,3,4,6,5] Z Z) ?_;rintro v w' ⟨Γ',(⟨h4,rfl,rfl⟩|⟨h4,y,r,x2,B2,p,a2,u2,f,hs,a3,⟨a5,t⟩,a0,a1,j,rfl,rfl⟩|⟨_,c,y,r,x2,B2,p,a7,a2,q2,u2,b2,f,a9,hw,_⟩),H'⟩
 ·subst h4
  have hg:∀n,g n=none:=H.sy 6 (λq=>by obtain ⟨es,clk,h1,h2,_⟩:=q;exact h1.nil_iff.1 h2);exact ⟨_,⟨D,G,h.le U,Z,⟨by funext n;show _=(g n).getD _;rw[hg];rfl,λn hn=>by rw[hg] at hn;cases hn⟩,.inl Z,Z,Z⟩,H'.toSto (X:=X) 6 ⟨d.inv,d.l,d.ok,d.nu,λo e=>(by cases e)⟩ Z⟩
 ·have a8:x2.start=G.x.start/\x2.len=G.x.len/\x2.epoch=G.x.epoch/\x2.gen<=G.x.gen+1/\G.x.gen<=x2.gen:=by
   rcases a0 with rfl|rfl
   ·exact ⟨Z,Z,Z,by omega,by omega⟩
   exact ⟨Z,Z,Z,by omega,by omega⟩
  refine ⟨_,⟨r,⟨x2,B2,p,[],a2,G.q+1,u2,false,f⟩,⟨a1 h.clean,Z,λi=>by have:=j.2 i;have:=h.ver i;omega,by show x2.gen<=_;omega,by show x2.epoch<=_;omega,by show G.q+1<=_;omega⟩,j.1,⟨?_,t⟩,a0,Z,Z⟩,H'.toSto (X:=⟨X.pl,X.pt,X.md,X.mm,X.sL,X.nu,y⟩) 6 ⟨a3,by show X.sL.start=x2.start/\X.sL.len=x2.len/\X.sL.epoch=x2.epoch;omega,by rw[j.1];exact d.ok,d.nu,λo e=>(by cases e)⟩ Z⟩;show pgMap (ov p) B2=_;rw[a5,Iu];rfl
 rcases hw with g|g
 ·exact absurd h.clean g
 omega
theorem sync_s(ps pd:Nat)(D:Dsk)(G:StG)(m:Nat)(a:Fine D G m):An 28 [V ps] [stoA ps pd D G none] (λv X=>v=Aa 0/\Fine D.fl {G with sure:=G.rs.length} m/\X=[stoA ps pd D.fl {G with sure:=G.rs.length} none]):=by
 intro z R w H;obtain ⟨X,c,H⟩:=H.sto;refine Ret.mono (Cn.at (Uc ps pd X.pt X.md G.x _ _ D) H 6 [0,3,1,2,4,5] Z Z) ?_;rintro v w' ⟨Γ',(⟨f,_⟩|⟨_,rfl,rfl⟩),d⟩
 ·exact absurd f a.clean.flb
 have H3:=d.pick 6 [0,2,3,1,4,5] Z;exact ⟨_,⟨Z,⟨a.clean.fl,a.b,λi=>Ye _,a.gen,a.epoch,a.q⟩,Z⟩,H3.toSto (X:=X) 6 ⟨c.inv.flush,c.l,c.ok,c.nu,λo e=>(by cases e)⟩ Z⟩
end
section
theorem HD{a b:UInt32}(h:∀i,i<32->a.toBitVec.getLsbD i=b.toBitVec.getLsbD i):a=b:=UInt32.toBitVec_inj.1 (Aag h)
theorem bit1(a:UInt32):a&&&1=0\/a&&&1=1:=by
 have h:(a&&&1).toNat=a.toNat%2:=by rw[AaO];exact Nat.and_one_is_mod _
 rcases Nat.mod_two_eq_zero_or_one a.toNat with q|q
 ·exact .inl (Zv.1 (by rw[h,q];rfl))
 exact .inr (Zv.1 (by rw[h,q];rfl))
theorem Ue(a b:UInt32):(a ^^^ b)>>>1=(a>>>1) ^^^ (b>>>1):=by
 apply HD;intro i c;simp
theorem Uf(a b:UInt32):(a ^^^ b)&&&1=(a&&&1) ^^^ (b&&&1):=by
 apply HD;intro i c;simp only[UInt32.toBitVec_and,AaA,Aae,Aaf,Bool.and_xor_distrib_right]
theorem RD(K a b:UInt32):((a ^^^ b)>>>1) ^^^ (((a ^^^ b)&&&(1:UInt32))*K)=((a>>>1) ^^^ ((a&&&(1:UInt32))*K)) ^^^ ((b>>>1) ^^^ ((b&&&(1:UInt32))*K)):=by
 rw[Ue,Uf];generalize a>>>1=p;generalize b>>>1=q;have o:(1:UInt32)*K=K:=UInt32.one_mul K;have z:(0:UInt32)*K=0:=UInt32.zero_mul;have e:(1:UInt32) ^^^ 1=0:=AaY;rcases bit1 a with x|x<;>rcases bit1 b with y|y<;>rw[x,y]<;>simp only[UInt32.xor_zero,AaZ,e,o,z]
 ·rw[ZH]
 ·rw[ZH,ZH,UInt32.xor_comm q K]
 rw[ZH,UInt32.xor_comm q K,<-ZH K K,AaY,AaZ]
theorem Mi(a b:UInt32):CM (a ^^^ b)=CM a ^^^ CM b:=RD _ a b
theorem NX{a:UInt32}(h:a&&&1=0):CM a=a>>>1:=by
 unfold CM;rw[h,UInt32.zero_mul,UInt32.xor_zero]
theorem Gk(n:Nat)(c:UInt32):Cg (n+1) c=CM (Cg n c):=by rw[Cg]
theorem ET(c:UInt32):Cg 0 c=c:=by rw[Cg]
theorem HE(n:Nat):∀c:UInt32,Cg (n+1) c=Cg n (CM c):=by
 induction n with
 | zero=>intro c;rw[Gk,ET,ET]
 | succ n ih=>intro c;rw[Gk,ih,<-Gk]
attribute [local irreducible] CM Cg
theorem Po(n:Nat):∀a b:UInt32,Cg n (a ^^^ b)=Cg n a ^^^ Cg n b:=by
 induction n with
 | zero=>intro a b;rw[ET,ET,ET]
 | succ n ih=>intro a b;rw[HE,HE,HE,Mi,ih]
theorem MV(a:UInt32)(i:Nat):(a>>>1).toBitVec.getLsbD i=a.toBitVec.getLsbD (1+i):=by simp
theorem Ug{a:UInt32}(h:a.toBitVec.getLsbD 0=false):a&&&1=0:=by
 rcases bit1 a with x|x
 ·exact x
 have e:=congrArg (λu:UInt32=>u.toBitVec.getLsbD 0) x;simp only[UInt32.toBitVec_and,Aae,h,Bool.false_and] at e;exact absurd e (by decide)
theorem crcIt_hi(n:Nat):∀a:UInt32,(∀i,i<n->a.toBitVec.getLsbD i=false)->n<=32->∀j,j<32->(Cg n a).toBitVec.getLsbD j=a.toBitVec.getLsbD (n+j):=by
 induction n with
 | zero=>intro a _ _ j b;rw[ET,Y8]
 | succ n ih=>
  intro a h c j b;have hs:=NX (Ug (h 0 U));rw[HE,hs,ih _ (λi d=>by rw[MV];exact h _ U) U j b,MV];congr 1;omega
theorem RE(c:UInt32)(b:UInt8):Cg 8 (c ^^^ b.toUInt32)=(c>>>8) ^^^ Cg 8 ((c.toUInt8 ^^^ b).toUInt32):=by
 have a:∀i,((c>>>8) <<< 8).toBitVec.getLsbD i=(!decide (i<8)&&c.toBitVec.getLsbD i&&decide (i<32)):=λi=>by
  simp only[UInt32.toBitVec_shiftLeft,AaI];simp;by_cases h:i<8
  ·simp[h]
  simp[h,show 8+(i-8)=i by omega,Bool.and_comm]
 have g:∀i,((c.toUInt8 ^^^ b).toUInt32).toBitVec.getLsbD i=(decide (i<8)&&(c.toBitVec.getLsbD i ^^ b.toBitVec.getLsbD i)):=λi=>by
  simp only[UInt8.toBitVec_toUInt32,UInt8.toBitVec_xor,UInt32.toBitVec_toUInt8,BitVec.getLsbD_setWidth,Aaf];by_cases h:i<8
  ·simp[h,show i<32 by omega]
  rw[Aax b.toBitVec i U];simp[h]
 have f:∀i,(b.toUInt32).toBitVec.getLsbD i=(decide (i<8)&&b.toBitVec.getLsbD i):=λi=>by
  simp only[UInt8.toBitVec_toUInt32,BitVec.getLsbD_setWidth];by_cases h:i<8
  ·simp[h,show i<32 by omega]
  rw[Aax b.toBitVec i U];simp
 have e:c ^^^ b.toUInt32=((c>>>8) <<< 8) ^^^ (c.toUInt8 ^^^ b).toUInt32:=by
  apply HD;intro i d;rw[AaA,AaA,Aaf,Aaf,a,g,f];by_cases h:i<8<;>simp[h,d]
 rw[e,Po];congr 1;apply HD;intro j k;rw[crcIt_hi 8 _ (λi d=>by rw[a];simp[d]) U j k,a];simp only[AaI];simp;by_cases h:8+j<32
 ·simp[h]
 rw[Aax c.toBitVec (8+j) U];simp
theorem RF(c:UInt32)(b:UInt8):Cg 8 (c ^^^ b.toUInt32)=C6 c b:=by
 rw[RE];unfold C6;have d:=(c.toUInt8 ^^^ b).toNat_lt;rw[GH U,AaT];congr 2;apply Zv.1;have a:=(c.toUInt8 ^^^ b).toNat_lt;generalize c.toUInt8 ^^^ b=u at a;simp[Dr];omega
theorem RG(c:UInt32):(c&&&1).toNat=c.toNat%2:=by rw[AaO];exact Nat.and_one_is_mod _
theorem HV{c:UInt32}(h:c&&&1=1):CM c=(c>>>1) ^^^ 2197175160:=by unfold CM;rw[h,UInt32.one_mul]
section
variable{P:Program}{C:World->Prop}{o:Oper}{n:Nat}{ds:List Deferred}{L:List (Nat×Value)}{x y:Operand}{xt yt:TypeId}
theorem VK{p:UInt32}(b:o.op=.binOp .rem xt x y yt)(a:ev L x=some (u32 p))(c:ev L y=some (.int .u32 2)):Ao P C n ds L o (u32 (p&&&1)):=by
 have:=KD (P:=P) (C:=C) (n:=n) (ds:=ds) (L:=L) b a c U;have e:((p.toNat:Int).tmod 2)=((p&&&1).toNat:Int):=by rw[RG,AaG U];rfl
 rwa[e] at this
theorem VL{p:UInt32}(a:o.op=.binOp .quo xt x y yt)(b:ev L x=some (u32 p))(d:ev L y=some (.int .u32 2)):Ao P C n ds L o (u32 (p>>>1)):=by
 have:=SG (P:=P) (C:=C) (n:=n) (ds:=ds) (L:=L) a b d U;have hp:=p.toNat_lt;have e:IntKind.u32.wrap ((p.toNat:Int).tdiv 2)=((p>>>1).toNat:Int):=by
  have c:(p>>>1).toNat=p.toNat/2:=by rw[UInt32.toNat_shiftRight];exact Y7 _ _
  rw[c,AaF U];simp only[IntKind.wrap,IntKind.bits,IntKind.signed];simp only[Bool.false_and,YS,if_false];omega
 rwa[e] at this
end

theorem Pp{xs:List UInt8}(h:xs.length<=252):xs++List.replicate (252-xs.length) 0=(AX xs).take 252:=by
 unfold AX;rw[ZV,XZ h,List.take_replicate];congr 2;omega
theorem RH{xs:List UInt8}(h:xs.length<=252):(AX xs).take 252++CX (Au ((AX xs).take 252))=sect xs:=by
 unfold sect Ke Bp;have a:=A6 (l:=xs) U;rw[Yj (by simp[CX,a]),YG]

structure RRow where
 dv:Value
 vv:Value
 pvs:List Value
def RRow.cells(r:RRow):List Value:=[r.dv,r.vv]
def Cb(rs:List RRow):List Value:=rs.flatMap RRow.cells
theorem Uh(es:List RRow):(Cb es).length=es.length*2:=by
 induction es with
 | nil=>rfl
 | cons e es ih=>simp only[Cb,YI,XX] at ih ⊢;rw[ih];simp[RRow.cells];omega
theorem Eo:∀{es:List RRow} {j:Nat} {e:RRow},es[j]?=some e->∀k u,(RRow.cells e)[k]?=some u->(Cb es)[j*2+k]?=some u
 | x::es,0,e,h,k,u,hk=>by
  simp at h;subst h;have hl:=(XU.1 hk).1;simp only[Cb,YI];rw[Yb U];simpa using hk
 | x::es,j+1,e,h,k,u,hk=>by
  have:=Eo (es:=es) (j:=j) (by simpa using h) k u hk;simp only[Cb,YI] at this ⊢;rw[Ya (by simp[RRow.cells];omega)];rw[show (j+1)*2+k-(RRow.cells x).length=j*2+k from by simp[RRow.cells];omega];exact this
theorem JM(a b:List RRow):Cb (a++b)=Cb a++Cb b:=by simp[Cb]
def RRow.asn(r:RRow):Ai:=grow 38 1 r.vv r.pvs.length r.pvs
def RRow.last(r:RRow):Value:=r.pvs.getLast?.getD r.dv
structure RRow.Ok(hq:Hp)(f:List UInt8)(r:RRow):Prop where
 len:f.length=256
 d:∃ao c,r.dv=.slice ao 256 c
 l:rdH 1 r.last 256 (f.map u8) hq
theorem RRow.Ok.le{hq a:Hp}{f:List UInt8}{r:RRow}(h:r.Ok hq f)(s:BC hq a):r.Ok a f:=⟨h.len,h.d,h.l.le s⟩
structure RdX where
 lv:Value
 rows:List RRow
 hq:Hp
def RdP(n:Nat)(F:Nat->List UInt8)(m:Nat)(rows:List RRow)(hq:Hp):Prop:=rows.length=n/\(1<=n/\n<=4096)/\∀(i:Nat) (r:RRow),rows[i]?=some r->r.Ok hq (F i)/\r.pvs.length<=m
def S6(pr n:Nat)(lv:Value)(rows:List RRow)(hq:Hp):List Ai:=
 [blk pr [lv,.int .i64 0,.int .i64 0,.int .i64 0,.int .i64 0,.int .i64 (-1)] 133,grow 135 2 lv n (Cb rows),poolA hq,seps (rows.map RRow.asn)]
def rdkA(pr n:Nat)(F:Nat->List UInt8)(m:Nat):Ai:=λh=>∃X:RdX,RdP n F m X.rows X.hq/\seps (S6 pr n X.lv X.rows X.hq) h
theorem Sep.rk{z w:World}{Γ:List Ai}{a n m:Nat}{F:Nat->List UInt8}(H:Sep z (rdkA a n F m::Γ) w):∃(c:Value) (rows:List RRow) (hq:Hp),RdP n F m rows hq/\Sep z (S6 a n c rows hq++Γ) w:=by
 obtain ⟨X,b,H⟩:=H.into (p:=λX:RdX=>RdP n F m X.rows X.hq) (As:=λX=>S6 a n X.lv X.rows X.hq) (λ_ q=>q);exact ⟨_,_,_,b,H⟩
theorem Sep.toRk{z w:World}{Γ:List Ai}{b n m:Nat}{F:Nat->List UInt8}{c:Value}{rows:List RRow}{hq:Hp}(H:Sep z (S6 b n c rows hq++Γ) w)(d:RdP n F m rows hq):Sep z (rdkA b n F m::Γ) w:=
 H.shut.mono 0 Z (λh a=>⟨⟨c,rows,hq⟩,d,a⟩)
theorem LE{rows:List RRow}{i:Nat}{r:RRow}(b:rows[i]?=some r){h:Hp}(hs:seps (rows.map RRow.asn) h):rdH 1 r.vv r.pvs.length r.pvs h:=by
 obtain ⟨h',c,a⟩:=D7 hs (i:=i) (A:=r.asn) (by rw[X9,b];rfl);exact (grow.rd c).le a
theorem RI{A:Ai}{E:List Ai}{h:Hp}(hs:seps (A::E) h):seps [A,seps E] h:=Cp (As:=[seps E]) (Bs:=[A]) (GW (As:=E) (Γ:=[A]) (G4 hs))
theorem Kr{A:Ai}{E:List Ai}{h:Hp}(hs:seps [A,seps E] h):seps (A::E) h:=Cp (As:=E) (Bs:=[A]) (FP (Cp (As:=[A]) (Bs:=[seps E]) hs))
theorem LF{z w:World}{Γ:List Ai}{rows:List RRow}{i:Nat}{r:RRow}(a:rows[i]?=some r)(H:Sep z (seps (rows.map RRow.asn)::Γ) w):Sep z (r.asn::seps ((rows.map RRow.asn).eraseIdx i)::Γ) w:=by
 have H1:Sep z (seps [r.asn,seps ((rows.map RRow.asn).eraseIdx i)]::Γ) w:=H.mono 0 Z (λh hs=>RI (GF hs i (by rw[X9,a];rfl)));exact H1.opened
theorem Iv{z w:World}{Γ:List Ai}{rows:List RRow}{i:Nat}(r:RRow)(a:i<rows.length)(H:Sep z (r.asn::seps ((rows.map RRow.asn).eraseIdx i)::Γ) w):Sep z (seps ((rows.set i r).map RRow.asn)::Γ) w:=by
 have H1:Sep z (seps [r.asn,seps ((rows.map RRow.asn).eraseIdx i)]::Γ) w:=Sep.shut (As:=[r.asn,seps ((rows.map RRow.asn).eraseIdx i)]) H;refine H1.mono 0 Z (λh hs=>?_);rw[AaQ];exact Kc i (by rw[X8];exact a) (Kr hs)
theorem Pq{z w:World}{Γ:List Ai}{rows:List RRow}(r:RRow)(H:Sep z (r.asn::seps (rows.map RRow.asn)::Γ) w):Sep z (seps ((rows++[r]).map RRow.asn)::Γ) w:=by
 have H1:Sep z (seps [r.asn,seps (rows.map RRow.asn)]::Γ) w:=Sep.shut (As:=[r.asn,seps (rows.map RRow.asn)]) H;refine H1.mono 0 Z (λh hs=>?_);rw[Yi];exact G4 (Kr hs)

def E6(F:Nat->List UInt8)(a:Nat)(bs:List UInt8)(j:Nat):Nat->List UInt8:=λi=>if a<=i/\i<a+j then (bs.drop (256*(i-a))).take 256 else F i
theorem VM(F:Nat->List UInt8)(a:Nat)(bs:List UInt8):E6 F a bs 0=F:=by
 funext i;unfold E6;rw[if_neg U]
theorem NY(F:Nat->List UInt8)(a:Nat)(bs:List UInt8)(j:Nat):E6 F a bs (j+1)=By (E6 F a bs j) (a+j) ((bs.drop (256*j)).take 256):=by
 funext i;unfold By E6;by_cases h:i=a+j
 ·subst h;rw[if_pos U,if_pos Z,Y3]
 rw[if_neg h];by_cases q:a<=i/\i<a+j
 ·rw[if_pos U,if_pos q]
 rw[if_neg U,if_neg q]
theorem RJ(F:Nat->List UInt8)(a:Nat){bs:List UInt8}(h:bs.length=256):E6 F a bs 1=By F a bs:=by
 rw[NY,VM,Aav,Yl,XZ U,Aar]
theorem RdP.set{n m b:Nat}{F:Nat->List UInt8}{rows:List RRow}{hq:Hp}(h:RdP n F m rows hq){i:Nat}{p:List UInt8}{r:RRow}(f:r.Ok hq p)(g:m<=b)(c:r.pvs.length<=b):RdP n (By F i p) b (rows.set i r) hq:=by
 refine ⟨by rw[List.length_set];exact h.1,h.2.1,λj q a=>?_⟩;by_cases e:j=i
 ·subst e
  have d:=(XU.1 a).1;rw[List.length_set] at d;rw[Y5 d] at a;simp only[X0] at a;subst a;rw[CW];exact ⟨f,c⟩
 rw[Aas (ZB e)] at a;rw[upf_other F p e];exact ⟨(h.2.2 j q a).1,AaU (h.2.2 j q a).2 g⟩
theorem RdP.le{n m:Nat}{F:Nat->List UInt8}{rows:List RRow}{hq a:Hp}(h:RdP n F m rows hq)(s:BC hq a):RdP n F m rows a:=⟨h.1,h.2.1,λi r b=>⟨(h.2.2 i r b).1.le s,(h.2.2 i r b).2⟩⟩
end
def BI:List ImE->ImE->List ImE
 | [],x=>[x]
 | y::l,x=>if y.1.num<x.1.num then y::BI l x else if y.1.num=x.1.num then x::l else x::y::l
theorem JN(x:ImE):∀{es:List ImE} {i:Nat},(∀(j:Nat) (y:ImE),j<i->es[j]?=some y->y.1.num<x.1.num)->i<=es.length->(∀y,es[i]?=some y->x.1.num<y.1.num)->BI es x=es.take i++[x]++es.drop i
 | [],0,_,_,_=>rfl
 | y::l,0,_,_,h3=>by
  have:=h3 y Z;simp only[BI];rw[if_neg U,if_neg U];rfl
 | y::l,i+1,h1,h2,h3=>by
  have:=h1 0 y U Z;simp only[BI];rw[if_pos this,JN x (es:=l) (i:=i) (λj z b a=>h1 (j+1) z U (by simpa using a)) (by simpa using h2) (λz a=>h3 z (by simpa using a))];rfl
theorem MW(x:ImE):∀{es:List ImE} {i:Nat} {z:ImE},(∀(j:Nat) (y:ImE),j<i->es[j]?=some y->y.1.num<x.1.num)->es[i]?=some z->z.1.num=x.1.num->BI es x=es.take i++[x]++es.drop (i+1)
 | [],_,_,_,h,_=>by simp at h
 | y::l,0,z,_,h2,h3=>by
  simp at h2;subst h2;simp only[BI];rw[if_neg U,if_pos h3];rfl
 | y::l,i+1,z,h1,h2,h3=>by
  have:=h1 0 y U Z;simp only[BI];rw[if_pos this,MW x (es:=l) (i:=i) (λj z b a=>h1 (j+1) z U (by simpa using a)) (by simpa using h2) h3];rfl
theorem putI_mem{x e:ImE}:∀{es:List ImE},e∈BI es x->e=x\/e∈es
 | [],h=>by simp[BI] at h;exact .inl h
 | y::l,h=>by
  simp only[BI] at h;split at h
  ·rcases YL.1 h with q|q
   ·exact .inr (by simp[q])
   rcases putI_mem q with r|r
   ·exact .inl r
   exact .inr (Zo _ r)
  split at h
  ·rcases YL.1 h with q|q
   ·exact .inl q
   exact .inr (Zo _ q)
  rcases YL.1 h with q|q
  ·exact .inl q
  exact .inr q
theorem putI_len(x:ImE):∀es:List ImE,(BI es x).length<=es.length+1
 | []=>by simp[BI]
 | y::l=>by
  have:=putI_len x l;simp only[BI];split
  ·simp only[XY];omega
  split<;>simp
def imeOk(hq:Hp)(e:ImE):Prop:=e.1.Ok/\rdH 1 e.2 240 (e.1.body.map u8) hq
theorem imeOk.le{hq a:Hp}{e:ImE}(h:imeOk hq e)(s:BC hq a):imeOk a e:=⟨h.1,h.2.le s⟩
theorem imesOk.of{hq:Hp}{es:List ImE}(h:∀e∈es,imeOk hq e):imesOk es hq:=λe a=>by rw[(h e a).1.2.2];exact (h e a).2

def Hf(F:Nat->List UInt8)(a:Nat)(ss:List (List UInt8)):Nat->List UInt8:=λi=>if a<=i then (ss[i-a]?).getD (F i) else F i
theorem MX{F:Nat->List UInt8}{a:Nat}{b:List (List UInt8)}{j:Nat}{s:List UInt8}(h:b[j]?=some s):Hf F a b (a+j)=s:=by
 unfold Hf;rw[if_pos U,Y3,h];rfl
theorem Iw{F:Nat->List UInt8}{a:Nat}{b:List (List UInt8)}{i:Nat}(h:i<a\/a+b.length<=i):Hf F a b i=F i:=by
 unfold Hf;rcases h with h|h
 ·rw[if_neg U]
 split
 ·rw[Yp U];rfl
 rfl
theorem Ui{F:Nat->List UInt8}{a:Nat}{bs:List UInt8}{b:List (List UInt8)}(h:bs=b.flatten)(hs:∀s∈b,s.length=256):E6 F a bs b.length=Hf F a b:=by
 have c:∀(b:List (List UInt8)) (j:Nat) (s:List UInt8),(∀s∈b,s.length=256)->b[j]?=some s->(b.flatten.drop (256*j)).take 256=s:=by
  intro b
  induction b with
  | nil=>intro j s _ h;simp at h
  | cons t b ih=>
   intro j s hs h;have d:=hs t O
   cases j with
   | zero=>simp at h;subst h;simp only[Zs,Aav,Yl];rw[YJ d]
   | succ j=>
    simp only[Zs];rw[Yy,Yj U,Ym,d,show 256*(j+1)-256=256*j by omega];exact ih j s (λs h=>hs s (by simp[h])) (by simpa using h)
 subst h;funext i;unfold E6 Hf;by_cases q:a<=i
 ·rw[if_pos q]
  by_cases r:i<a+b.length
  ·rw[if_pos ⟨q,r⟩]
   have e:b[i-a]?=some (b[i-a]'U):=XV U;rw[e,c b (i-a) _ hs e];rfl
  rw[if_neg U,Yp U];rfl
 rw[if_neg q,if_neg U]
section
def Ks(v:Value)(k:Nat)(xs:List Value):Ai:=λh=>∃b,v=.slice (some ⟨b,0,none⟩) k k/\rdH 1 v k xs h
section
variable{P:Program}{o:Oper}{n:Nat}{ds:List Deferred}{L:List (Nat×Value)}{x y:Operand}{z w:World}{Γ:List Ai}
theorem RK{w:World}{t e:TypeId}{C:Array Value}{b n c:Nat}(f:w.heap[b]?=some (.cells C e (0,0)))(d:P.underlying t=some (.slice e))(g:P.underlying e=some (.int .u8)):
  (convert t t (.slice (some ⟨b,0,none⟩) n c)).run P w=.ok (.slice (some ⟨b,0,none⟩) n c) (w.freeze ⟨b,C.size,none⟩ 1):=by
 have a:w.shape? b=some (e,C.size):=by unfold World.shape?;rw[f]
 simp[convert,run_underlying d,run_underlying g,markStringish,a]
theorem LG(i:Nat){t e:TypeId}{b k:Nat}{cs:List Value}(H:Sep z Γ w)(d:Γ[i]?=some (blk b cs e))(p:o.op=.convert t t x)(l:P.underlying t=some (.slice e))(v:P.underlying e=some (.int .u8))
  (hx:ev L x=some (.slice (some ⟨b,0,none⟩) k k))(m:k=cs.length/\k<=9223372036854775807):BJ P n ds L o w (λv' w'=>v'=.slice (some ⟨b,0,none⟩) k k/\Sep z (Γ.set i (Ks (.slice (some ⟨b,0,none⟩) k k) k cs)) w'):=λa y=>by
 have g:=H.bk i d;have r:=RK (P:=P) (w:=w) (n:=k) (c:=k) g l v;have hm:(w.freeze ⟨b,cs.toArray.size,none⟩ 1).heap[b]?=some (.cells cs.toArray e (cs.toArray.size,cs.toArray.size+1)):=by
  unfold World.freeze;rw[if_neg (by decide)];simp[Zm,g]
 have f:∀q,q≠b->(w.freeze ⟨b,cs.toArray.size,none⟩ 1).heap[q]?=w.heap[q]? :=λq hq=>by
  unfold World.freeze;rw[if_neg (by decide)];simp[Zm,ZB hq]
 refine ⟨.slice (some ⟨b,0,none⟩) k k,w.freeze ⟨b,cs.toArray.size,none⟩ 1,?_,Z,?_⟩
 ·simp only[execOp,p,y.ev hx]
  simp[Yc,r,go_sem]
 have H2:=H.write i d (o':=.cells cs.toArray e (cs.toArray.size,cs.toArray.size+1)) (w':=w.freeze ⟨b,cs.toArray.size,none⟩ 1) Z Z Z hm f;have s:(Γ.set i (bk b (.cells cs.toArray e (cs.toArray.size,cs.toArray.size+1))))[i]?=some (bk b (.cells cs.toArray e (cs.toArray.size,cs.toArray.size+1))):=Y5 (XU.1 d).1;have H3:=H2.mono i (B:=Ks (.slice (some ⟨b,0,none⟩) k k) k cs) s (λh q=>⟨b,Z,_,_,Z,Yo _,m.2,by omega,λj u hj=>⟨b,0,Z,?_⟩⟩)
 ·rwa[AaV] at H3
 exact ⟨cs.toArray,e,_,q,by simpa using hj⟩
def bsA(e:TypeId)(v:Value)(xs:List UInt8):Ai:=λh=>Ks v xs.length (xs.map u8) h\/grow e 1 v xs.length (xs.map u8) h
def pmA(e:TypeId)(xs ys:List UInt8)(u:Value)(j:Nat):Ai:=λh=>(j=0/\bsA e u xs h)\/(0<j/\grow e 1 u (xs.length+j) ((xs++ys.take j).map u8) h)
theorem Pr{t e:TypeId}{zv:Value}{by_ k:Nat}{u s:Value}{xs:List UInt8}{b:UInt8}(H:Sep z (grow e 1 u k (xs.map u8)::Γ) w)(h:o.op=.call {callee:=.builtin .append,args:= #[x,y],argTypes:= #[t,t]})
  (g:P.underlying t=some (.slice e))(i:Elt P e zv 1 by_)(p:ev L x=some u)(l:ev L y=some s)(c:Rd 1 s 1 [u8 b] w)(d:(k+1)*by_<=140737488355328):
  BJ P n ds L o w (λf w'=>Sep z (grow e 1 f (k+1) ((xs++[b]).map u8)::Γ) w'):=λa m=>by
 obtain ⟨f,w',j,H2⟩:=AJ 0 H Z h g i p l c (by simp[u8,Value.oneCell']) d a m;refine ⟨f,w',j,?_⟩;rw[Yi];exact H2
theorem Ps{t e:TypeId}{zv:Value}{by_ j:Nat}{u s:Value}{xs ys:List UInt8}{b:UInt8}(H:Sep z (pmA e xs ys u j::Γ) w)(p:o.op=.call {callee:=.builtin .append,args:= #[x,y],argTypes:= #[t,t]})
  (m:P.underlying t=some (.slice e))(v:Elt P e zv 1 by_)(hx:ev L x=some u)(hy:ev L y=some s)(d:Rd 1 s 1 [u8 b] w)(hb:ys[j]?=some b)(f:(xs.length+(j+1))*by_<=140737488355328):
  BJ P n ds L o w (λl w'=>Sep z (grow e 1 l (xs.length+(j+1)) ((xs++ys.take (j+1)).map u8)::Γ) w'):=by
 have k:xs++ys.take j++[b]=xs++ys.take (j+1):=by rw[Yd,hb];simp
 obtain ⟨c,H1⟩:=H.ex 0 (σ:=Bool) (B:=λc=>match c with
  | true=>λh=>j=0/\Ks u xs.length (xs.map u8) h
  | false=>grow e 1 u (xs.length+j) ((xs++ys.take j).map u8)) Z (λh q=>by
   rcases q with ⟨i,q|q⟩|⟨_,q⟩
   ·exact ⟨true,i,q⟩
   ·subst i;exact ⟨false,by simpa using q⟩
   exact ⟨false,q⟩)
 cases c with
 | true=>
  have i:j=0:=H1.sy 0 (·.1);subst i;have H3:Sep z (Ks u xs.length (xs.map u8)::Γ) w:=H1.mono 0 Z (λh q=>q.2);obtain ⟨g,rfl⟩:∃g,u=.slice (some ⟨g,0,none⟩) xs.length xs.length:=H3.sy 0 (λq=>by obtain ⟨g,e0,_⟩:=q;exact ⟨g,e0⟩);intro a hF;obtain ⟨l,w',hr,H2⟩:=Kg H3 p m v hx hy (H3.rv 0 (λq=>by obtain ⟨_,_,r⟩:=q;exact r)) d U (by simp[u8,Value.oneCell']) (by simpa using f) a hF;refine ⟨l,w',hr,?_⟩;rw[Aa3,YG] at k;rw[<-k,Yi];exact H2.pick 2 [0] Z
 | false=>
  have H3:Sep z (grow e 1 u (xs.length+j) ((xs++ys.take j).map u8)::Γ) w:=H1;have:=Pr (n:=n) (ds:=ds) H3 p m v hx hy d (by simpa [Zt] using f);rw[k] at this;exact this
theorem RL{e:TypeId}{xs ys:List UInt8}{u:Value}(H:Sep z (bsA e u xs::Γ) w):Sep z (pmA e xs ys u 0::Γ) w:=H.mono 0 Z (λh q=>.inl ⟨Z,q⟩)
theorem Uj{e:TypeId}{xs ys:List UInt8}{u:Value}{j:Nat}(H:Sep z (grow e 1 u (xs.length+(j+1)) ((xs++ys.take (j+1)).map u8)::Γ) w):Sep z (pmA e xs ys u (j+1)::Γ) w:=H.mono 0 Z (λh q=>.inr ⟨by omega,q⟩)
theorem VN{e:TypeId}{xs ys:List UInt8}{u:Value}{j:Nat}(b:0<j)(a:j=ys.length)(H:Sep z (pmA e xs ys u j::Γ) w):Sep z (grow e 1 u (xs++ys).length ((xs++ys).map u8)::Γ) w:=H.mono 0 Z (λh q=>by
 rcases q with q|q
 ·exact absurd q.1 U
 have:=q.2;rw[XZ U] at this;rw[XX,<-a];exact this)
def pgA(e:TypeId)(v:Value)(xs:List UInt8)(i:Nat):Ai:=λh=>(i=0/\bsA e v xs h)\/(0<i/\grow e 1 v xs.length (xs.map u8) h)
theorem pgA.bs{e:TypeId}{v:Value}{xs:List UInt8}{i:Nat}{h:Hp}(q:pgA e v xs i h):bsA e v xs h:=by
 rcases q with q|q
 ·exact q.2
 exact .inr q.2
theorem pgA.gr{e:TypeId}{v:Value}{xs:List UInt8}{i:Nat}{h:Hp}(a:0<i)(q:pgA e v xs i h):grow e 1 v xs.length (xs.map u8) h:=by
 rcases q with q|q
 ·exact absurd q.1 U
 exact q.2
end
end
set_option linter.unusedSimpArgs false
def bw(F:Nat->Bool)(k:Nat):BitVec 64:=(BitVec.ofBoolListLE ((List.range 64).map λj=>F (64*k+j))).cast O
theorem C9(F:Nat->Bool)(k j:Nat)(h:j<64):(bw F k).getLsbD j=F (64*k+j):=by
 unfold bw;rw[BitVec.getLsbD_cast,BitVec.getLsbD_ofBoolListLE];simp[List.getD,h]
theorem Jf{F:Nat->Bool}{k:Nat}{x:BitVec 64}(h:∀j,j<64->x.getLsbD j=F (64*k+j)):x=bw F k:=
 Aag λj a=>by rw[h j a,C9 _ _ _ a]
theorem WT(F G:Nat->Bool)(k:Nat):bw F k|||bw G k=bw (λp=>F p||G p) k:=Jf λj a=>by
 rw[BitVec.getLsbD_or,C9 _ _ _ a,C9 _ _ _ a]
def Dt(m:Nat):BitVec 64:=BitVec.twoPow 64 m
theorem VO(F:Nat->Bool)(p k:Nat):(if p/64=k then bw F k|||Dt (p%64) else bw F k)=bw (λq=>F q||decide (q=p)) k:=by
 refine Jf λj a=>?_;split
 ·rename_i e
  rw[BitVec.getLsbD_or,C9 _ _ _ a,Dt,Aan];congr 1;rw[Yf];simp;omega
 rename_i e;rw[C9 _ _ _ a];have:¬(64*k+j=p):=by omega
 simp[this]
theorem VP(F:Nat->Bool)(p k:Nat):(if p/64=k then bw F k&&& ~~~(Dt (p%64)) else bw F k)=bw (λq=>F q && !decide (q=p)) k:=by
 refine Jf λj a=>?_;split
 ·rename_i e
  rw[Aae,C9 _ _ _ a,BitVec.getLsbD_not,Dt,Aan];congr 1;rw[Yf];simp;omega
 rename_i e;rw[C9 _ _ _ a];have:¬(64*k+j=p):=by omega
 simp[this]
theorem VQ(F:Nat->Bool)(p:Nat):(bw F (p/64))>>>(p%64)&&&1#64=if F p then 1#64 else 0#64:=by
 refine Aag λj b=>?_;rw[Aae,BitVec.getLsbD_ushiftRight];have a:∀j,(1#64).getLsbD j=decide (j=0):=λj=>by
  rw[show (1#64)=BitVec.twoPow 64 0 from Z,Aan,Yf];simp;omega
 by_cases h:j=0
 ·subst h
  rw[C9 _ _ _ U,a,show 64*(p/64)+(p%64+0)=p by omega];cases F p<;>simp
 rw[a];have:(if F p then 1#64 else 0#64).getLsbD j=false:=by
  split
  ·rw[a];simp[h]
  simp
 rw[this];simp[h]
theorem bw_zero{F:Nat->Bool}{k:Nat}:bw F k=0#64↔∀j,j<64->F (64*k+j)=false:=by
 constructor
 ·intro h j a;rw[<-C9 F k j a,h];simp
 intro h;exact (Jf λj a=>by rw[h j a];simp).symm

def cnt(F:Nat->Bool)(a:Nat):Nat->Nat
 | 0=>0
 | n+1=>cnt F a n+(F (a+n)).toNat
theorem Gl(F:Nat->Bool)(a m n:Nat):cnt F a (m+n)=cnt F a m+cnt F (a+m) n:=by
 induction n with
 | zero=>rfl
 | succ n ih=>rw[<-Zt];simp only[cnt];rw[ih,show a+(m+n)=a+m+n by omega];omega
def BY(w:Nat):List Nat->Nat
 | []=>0
 | d::l=>d+2^w*BY w l
def evN:List Nat->List Nat
 | a::_::l=>a::evN l
 | _=>[]
def FD:List Nat->List Nat
 | _::b::l=>b::FD l
 | _=>[]
theorem Pu(k x y a b:Nat)(d:a<2^k)(c:b<2^k):(a+2^k*x)&&&(b+2^k*y)=(a&&&b)+2^k*(x&&&y):=by
 have f:((a+2^k*x)&&&(b+2^k*y))%2^k=a&&&b:=by
  rw[Nat.and_mod_two_pow,Z9,Z9,YX d,YX c]
 have hp:0<2^k:=Aaa k;have e:((a+2^k*x)&&&(b+2^k*y))/2^k=x&&&y:=by
  rw[Nat.and_div_two_pow,ZX _ _ hp,ZX _ _ hp,Aam d,Aam c,Y8,Y8]
 have:=Nat.mod_add_div ((a+2^k*x)&&&(b+2^k*y)) (2^k);rw[f,e] at this;exact this.symm
theorem Jg(w:Nat):∀l:List Nat,l.length%2=0->(∀d∈l,d<2^w)->BY w l&&&BY (2*w) (List.replicate (l.length/2) (2^w-1))=BY (2*w) (evN l)
 | [],_,_=>by simp[BY,evN]
 | [_],h,_=>by simp at h
 | a::b::l,h,hd=>by
  have ih:=Jg w l (by simp at h;omega) (λd j=>hd d (by simp[j]));have g:=hd a O;have f:=hd b O;have c:(2:Nat)^(2*w)=2^w*2^w:=by rw[<-Nat.pow_add];congr 1;omega
  have hp:0<2^w:=Aaa w;simp only[BY,evN];rw[show (a::b::l).length/2=l.length/2+1 by simp;omega,List.replicate_succ];simp only[BY];have e:a+2^w*b<2^(2*w):=by
   rw[c];have:2^w*(b+1)<=2^w*2^w:=ZI _ f;rw[ZG] at this;omega
  have i:(2^w-1)<2^(2*w):=by
   rw[c];have:2^w*1<=2^w*2^w:=ZI _ hp;omega
  have k:a+2^w*(b+2^w*BY w l)=(a+2^w*b)+2^(2*w)*BY w l:=by
   rw[c,ZG,Nat.mul_assoc];omega
  rw[k,Pu _ _ _ _ _ e i,ih,Aay,Z9,YX g]
theorem LH(w:Nat):∀(l:List Nat) (d:Nat),BY w (l++[d])=BY w l+2^(w*l.length)*d
 | [],d=>by simp[BY]
 | a::l,d=>by
  simp only[Zw,BY,LH w l d,XY];rw[ZG,<-Nat.mul_assoc,<-Nat.pow_add,show w+w*l.length=w*(l.length+1) by rw[ZG];omega];omega
theorem MY(w a:Nat)(l:List Nat)(h:a<2^w):BY w (a::l)/2^w=BY w l:=by
 simp only[BY];rw[ZX _ _ (Aaa w),Aam h,Y8]
theorem LI(w:Nat)(l:List Nat):BY w (l++[0])=BY w l:=by rw[LH];simp
theorem JO(w:Nat):∀(l m:List Nat),l.length=m.length->BY w l+BY w m=BY w (List.zipWith (·+·) l m)
 | [],[],_=>rfl
 | a::l,b::m,h=>by
  simp only[List.zipWith,BY];rw[<-JO w l m (by simpa using h),ZG];omega
 | [],_::_,h=>by simp at h
 | _::_,[],h=>by simp at h
theorem JP:∀l:List Nat,(evN l).length=l.length/2
 | []=>rfl
 | [_]=>by simp[evN]
 | a::b::l=>by simp only[evN,XY,JP l];omega
theorem JQ:∀l:List Nat,(FD l).length=l.length/2
 | []=>rfl
 | [_]=>by simp[FD]
 | a::b::l=>by simp only[FD,XY,JQ l];omega
theorem Ix:∀(a:Nat) (l:List Nat),(a::l).length%2=0->evN (l++[0])=FD (a::l)
 | a,[],h=>by simp at h
 | a,[b],_=>by simp[evN,FD]
 | a,b::c::l,h=>by
  simp only[Zw,evN,FD];rw[Ix c l (by simp at h ⊢;omega)]
theorem evN_mem:∀(l:List Nat),∀d∈evN l,d∈l
 | [],d,h=>by simp[evN] at h
 | [_],d,h=>by simp[evN] at h
 | a::b::l,d,h=>by
  simp only[evN,YL] at h;rcases h with rfl|h
  ·simp
  simp[evN_mem l d h]
theorem odN_mem:∀(l:List Nat),∀d∈FD l,d∈l
 | [],d,h=>by simp[FD] at h
 | [_],d,h=>by simp[FD] at h
 | a::b::l,d,h=>by
  simp only[FD,YL] at h;rcases h with rfl|h
  ·simp
  simp[odN_mem l d h]
def psm(l:List Nat):List Nat:=List.zipWith (·+·) (evN l) (FD l)
theorem JR(l:List Nat):(psm l).length=l.length/2:=by simp[psm,JP,JQ]
theorem HF:∀l:List Nat,l.length%2=0->(psm l).sum=l.sum
 | [],_=>rfl
 | [_],h=>by simp at h
 | a::b::l,h=>by
  have:=HF l (by simp at h;omega);simp only[psm,evN,FD,List.zipWith,List.sum_cons] at this ⊢;omega
theorem LJ{c d:Nat}:∀(l m:List Nat),(∀x∈l,x<=c)->(∀x∈m,x<=d)->∀x∈List.zipWith (·+·) l m,x<=c+d
 | [],_,_,_,x,h=>by simp at h
 | _::_,[],_,_,x,h=>by simp at h
 | a::l,b::m,h1,h2,x,h=>by
  simp only[List.zipWith,YL] at h;rcases h with rfl|h
  ·have:=h1 a O;have:=h2 b O;omega
  exact LJ l m (λx e=>h1 x (by simp[e])) (λx e=>h2 x (by simp[e])) x h
theorem LK(l:List Nat)(c:Nat)(h:∀d∈l,d<=c):∀d∈psm l,d<=c+c:=
 LJ _ _ (λx a=>h x (evN_mem l x a)) (λx a=>h x (odN_mem l x a))
def MZ(w n:Nat):Nat:=BY (2*w) (List.replicate n (2^w-1))
theorem VR(w:Nat)(l:List Nat)(h:l.length%2=0)(c:∀d∈l,d<2^w):BY w l/2^w&&&MZ w (l.length/2)=BY (2*w) (FD l):=by
 cases l with
 | nil=>simp[BY,FD]
 | cons a l=>
  rw[MY _ _ _ (c a O),<-LI,<-Ix a l h];have:=Jg w (l++[0]) (by simp at h ⊢;omega) (λd b=>by
   simp only[Yr,YD] at b;rcases b with b|rfl
   ·exact c d (by simp[b])
   exact Aaa w)
  have e:(l++[0]).length=(a::l).length:=by simp
  rw[e] at this;exact this
theorem LL(w:Nat)(l:List Nat)(h:l.length%2=0)(a:∀d∈l,d<2^w):(BY w l/2^w&&&MZ w (l.length/2))+(BY w l&&&MZ w (l.length/2))=BY (2*w) (psm l):=by
 rw[VR w l h a,show BY w l&&&MZ w (l.length/2)=BY (2*w) (evN l) from Jg w l h a,ZS,JO _ _ _ (by rw[JP,JQ])];rfl
theorem Jh(w:Nat):∀(l:List Nat),(∀d∈l,d<2^w)->BY w l<2^(w*l.length)
 | [],_=>by simp[BY]
 | a::l,h=>by
  have:=Jh w l (λd b=>h d (by simp[b]));have c:=h a O;simp only[BY,XY];rw[show w*(l.length+1)=w+w*l.length by rw[ZG];omega,Nat.pow_add];have:2^w*(BY w l+1)<=2^w*2^(w*l.length):=ZI _ this;rw[ZG] at this;omega
def JS(x:BitVec 64):BitVec 64:=
 let a:=(x>>>1&&&6148914691236517205#64)+(x&&&6148914691236517205#64);let b:=(a>>>2&&&3689348814741910323#64)+(a&&&3689348814741910323#64);let c:=(b>>>4+b)&&&1085102592571150095#64;let d:=c+c>>>8;let e:=d+d>>>16
 e+e>>>32
theorem VS(b:BitVec 64)(m:List Nat)(j:m.length=16)(k:∀d∈m,d<=4)(p:b.toNat=BY 4 m):((b>>>4+b)&&&1085102592571150095#64).toNat=BY 8 (psm m):=by
 rw[Zy,ZY,Zp,p,Y7]
 cases m with
 | nil=>simp at j
 | cons a m=>
  have q:=k a O;rw[MY _ _ _ U,<-LI,JO _ _ _ O];have e:∀d∈List.zipWith (·+·) (m++[0]) (a::m),d<2^4:=λd h=>by
   have:=LJ (c:=4) (d:=4) _ _ (λx i=>by
    simp only[Yr,YD] at i;rcases i with i|rfl
    ·exact k x (by simp[i])
    omega) k d h
   omega
  have f:(List.zipWith (·+·) (m++[0]) (a::m)).length=16:=by simp at j ⊢;omega
  have g:=Jh 4 _ e;rw[f] at g;rw[YX g];have n:=Jg 4 _ (by rw[f]) e;rw[f,show BY (2*4) (List.replicate (16/2) (2^4-1))=1085102592571150095 by decide+kernel] at n;rw[show (1085102592571150095#64).toNat=1085102592571150095 from Z,n];have o:∀(l l':List Nat),evN (List.zipWith (·+·) l l')=List.zipWith (·+·) (evN l) (evN l'):=λl=>by
   induction l using evN.induct with
   | case1 a b l ih=>
    intro l'
    match l' with
    | []=>simp[evN]
    | [_]=>simp[evN]
    | x::y::l'=>simp only[List.zipWith,evN,ih l']
   | case2 l h=>
    intro l'
    match l,l' with
    | [],_=>simp[evN]
    | [_],[]=>simp[evN]
    | [_],_::_=>simp[evN]
    | a::b::l,_=>exact absurd Z (h a b l)
  rw[o,Ix a m (by rw[j]),psm];congr 1;exact List.zipWith_comm_of_comm (λx y=>ZS x y)
theorem JT(c:BitVec 64)(k p x lo a b:Nat)(hp:2^k=p)(i:c.toNat=x)(g:x=lo+p*a)(d:lo<p)(j:x<=b)(e:a<=b)(f:b<9223372036854775808):(c+c>>>k).toNat=x+a:=by
 subst hp;have h:x/2^k=a:=by rw[g,ZX _ _ (Aaa k),Aam d,Y8]
 rw[ZY,Zp,Y7,i,h];exact YX U
theorem VT(x y t K:Nat)(e:x=y)(h:y=t+256*K)(a:t<=64)(b:K<=20000000000000000):x<9223372036854775808/\x%128=t:=by omega
theorem VU(l h g f e d b a:Nat)(o:l<=8)(r:h<=8)(t:g<=8)(p:f<=8)(u:e<=8)(q:d<=8)(n:b<=8)(s:a<=8)(c:BitVec 64)(k:c.toNat=l+256*h+65536*g+16777216*f+4294967296*e+1099511627776*d+281474976710656*b+72057594037927936*a):
  ((c+c>>>8)+(c+c>>>8)>>>16+((c+c>>>8)+(c+c>>>8)>>>16)>>>32).toNat<9223372036854775808/\((c+c>>>8)+(c+c>>>8)>>>16+((c+c>>>8)+(c+c>>>8)>>>16)>>>32).toNat%128=l+h+g+f+e+d+b+a:=by
 have j:=JT c 8 256 _ l (h+256*g+65536*f+16777216*e+4294967296*d+1099511627776*b+281474976710656*a) 1000000000000000000 Z k U U U U (by decide);have i:=JT (c+c>>>8) 16 65536 _ (l+h+256*(h+g)) (g+f+256*(f+e)+65536*(e+d)+16777216*(d+b)+4294967296*(b+a)+1099511627776*a) 2000000000000000000 (by decide) j U U U U (by decide);have m:=JT (c+c>>>8+(c+c>>>8)>>>16) 32 4294967296 _ (l+h+g+f+256*(h+g+f+e)+65536*(g+f+e+d)+16777216*(f+e+d+b)) (e+d+b+a+256*(d+b+a)+65536*(b+a)+16777216*a) 4000000000000000000 O i (by clear j i k;omega) (by clear j i k;omega) (by clear j i k;omega) (by clear j i k;omega) (by decide);refine VT _ _ (l+h+g+f+e+d+b+a) ((h+g+f+e+d+b+a)+256*((g+f+e+d+b+a)+256*((f+e+d+b+a)+256*((e+d+b+a)+256*((d+b+a)+256*((b+a)+256*a)))))) m ?_ ?_ ?_
 ·clear j i m k;omega
 ·clear j i m k;omega
 clear j i m k;omega
theorem VV(c:BitVec 64)(m:List Nat)(b:m.length=8)(a:∀d∈m,d<=8)(e:c.toNat=BY 8 m):((c+c>>>8)+(c+c>>>8)>>>16+((c+c>>>8)+(c+c>>>8)>>>16)>>>32).toNat<9223372036854775808/\((c+c>>>8)+(c+c>>>8)>>>16+((c+c>>>8)+(c+c>>>8)>>>16)>>>32).toNat%128=m.sum:=by
 match m,b with
 | [m0,m1,m2,m3,m4,m5,m6,m7],_=>
  have:=VU m0 m1 m2 m3 m4 m5 m6 m7 (a m0 O) (a m1 O) (a m2 O) (a m3 O) (a m4 O) (a m5 O) (a m6 O) (a m7 O) c (by rw[e];simp only[BY];omega);refine ⟨this.1,this.2.trans ?_⟩;simp only[List.sum_cons,List.sum_nil];omega
theorem Uk(l:List Nat)(k:l.length=64)(m:∀d∈l,d<=1)(x:BitVec 64)(v:x.toNat=BY 1 l):(JS x).toNat<9223372036854775808/\(JS x).toNat%128=l.sum:=by
 have r:∀d∈l,d<2^1:=λd h=>by have:=m d h;omega
 have e:(psm l).length=32:=by rw[JR,k]
 have b:(psm (psm l)).length=16:=by rw[JR,e]
 have s:(psm (psm (psm l))).length=8:=by rw[JR,b]
 have c:=LK l 1 m;have f:=LK _ _ c;have t:=LK _ _ f;have w:=HF l U;have p:=HF (psm l) U;have q:=HF (psm (psm l)) U;have i:=LL 1 l U r;have g:=LL 2 (psm l) U (λd h=>by have:=c d h;omega);rw[k,show MZ 1 (64/2)=6148914691236517205 by decide+kernel] at i;rw[e,show MZ 2 (32/2)=3689348814741910323 by decide+kernel] at g;have n:=Jh 2 (psm l) (λd h=>by have:=c d h;omega);have j:=Jh 4 (psm (psm l)) (λd h=>by have:=f d h;omega);rw[e] at n;rw[b] at j;have z:((x>>>1&&&6148914691236517205#64)+(x&&&6148914691236517205#64)).toNat=BY 2 (psm l):=by
  rw[ZY,Zy,Zy,Zp,v,Y7];rw[show (6148914691236517205#64).toNat=6148914691236517205 from Z,i];exact YX n
 have u:∀a:BitVec 64,a.toNat=BY 2 (psm l)->((a>>>2&&&3689348814741910323#64)+(a&&&3689348814741910323#64)).toNat=BY 4 (psm (psm l)):=λa o=>by
  rw[ZY,Zy,Zy,Zp,o,Y7];rw[show (3689348814741910323#64).toNat=3689348814741910323 from Z,g];exact YX j
 have y:=VS _ _ b f (u _ z);have:=VV _ _ s t y;rw[<-w,<-p,<-q];exact this
theorem HW:∀l:List Bool,(BitVec.ofBoolListLE l).toNat=BY 1 (l.map Bool.toNat)
 | []=>rfl
 | b::l=>by
  have ih:=HW l;simp only[BitVec.ofBoolListLE,Yn,BY];rw[BitVec.toNat_concat,ih];omega
theorem M1(F:Nat->Bool)(a:Nat):∀n,((List.range n).map λj=>(F (a+j)).toNat).sum=cnt F a n
 | 0=>rfl
 | n+1=>by rw[ZN,Yi,List.sum_append,M1 F a n];simp[cnt]
theorem JU(F:Nat->Bool)(k:Nat):(JS (bw F k)).toNat<9223372036854775808/\(JS (bw F k)).toNat%128=cnt F (64*k) 64:=by
 have:=Uk ((List.range 64).map λj=>(F (64*k+j)).toNat) O (λd h=>by
  simp only[X5] at h;obtain ⟨j,_,rfl⟩:=h;cases F (64*k+j)<;>simp) (bw F k) (by
   unfold bw;rw[BitVec.toNat_cast,HW,Zi];rfl)
 rw[M1] at this;exact this
section
def u64(b:BitVec 64):Value:=.int .u64 b.toNat
theorem Pv(n:Nat)(h:n<18446744073709551616):IntKind.u64.wrap (n:Int)=n:=by
 simp[IntKind.wrap,IntKind.bits,IntKind.signed];omega
theorem NZ(b:BitVec 64):IntKind.u64.wrap (b.toNat:Int)=b.toNat:=Pv _ b.isLt
theorem Fm(p:BitVec 64):BitVec.ofInt 64 (p.toNat:Int)=p:=by rw[Aau];simp
section
variable{P:Program}{C:World->Prop}{o:Oper}{a:Act}{w z:World}{Γ:List Ai}{n:Nat}{ds:List Deferred}{L:List (Nat×Value)}{v:Value}{x y:Operand}{xt yt:TypeId}
theorem XK(p q:BitVec 64):Op.intBits .or .u64 (p.toNat:Int) (q.toNat:Int)=pure (u64 (p|||q)):=by
 have e:Op.intBits .or .u64 (p.toNat:Int) (q.toNat:Int)=pure (.int .u64 (IntKind.u64.wrap ((BitVec.ofInt 64 (p.toNat:Int)|||BitVec.ofInt 64 (q.toNat:Int)).toNat:Int))):=rfl;rw[Fm,Fm,NZ] at e;exact e
theorem WU(p q:BitVec 64):Op.intBits .and .u64 (p.toNat:Int) (q.toNat:Int)=pure (u64 (p&&&q)):=by
 have e:Op.intBits .and .u64 (p.toNat:Int) (q.toNat:Int)=pure (.int .u64 (IntKind.u64.wrap ((BitVec.ofInt 64 (p.toNat:Int)&&&BitVec.ofInt 64 (q.toNat:Int)).toNat:Int))):=rfl;rw[Fm,Fm,NZ] at e;exact e
theorem VW(p q:BitVec 64):Op.intBits .andNot .u64 (p.toNat:Int) (q.toNat:Int)=pure (u64 (p&&& ~~~q)):=by
 have e:Op.intBits .andNot .u64 (p.toNat:Int) (q.toNat:Int)=pure (.int .u64 (IntKind.u64.wrap ((BitVec.ofInt 64 (p.toNat:Int)&&& ~~~(BitVec.ofInt 64 (q.toNat:Int))).toNat:Int))):=rfl;rw[Fm,Fm,NZ] at e;exact e
theorem LM{p q:BitVec 64}(c:o.op=.binOp .or xt x y yt)(d:ev L x=some (u64 p))(f:ev L y=some (u64 q)):Ao P C n ds L o (u64 (p|||q)):=λa b w _=>by
 have e:=XK p q;simp only[execOp,c,b.ev d,b.ev f,u64];simp only[binOp,go_sem,e];rfl
theorem Ep{p q:BitVec 64}(c:o.op=.binOp .and xt x y yt)(d:ev L x=some (u64 p))(f:ev L y=some (u64 q)):Ao P C n ds L o (u64 (p&&&q)):=λa b w _=>by
 have e:=WU p q;simp only[execOp,c,b.ev d,b.ev f,u64];simp only[binOp,go_sem,e];rfl
theorem RM{p q:BitVec 64}(c:o.op=.binOp .andNot xt x y yt)(d:ev L x=some (u64 p))(f:ev L y=some (u64 q)):Ao P C n ds L o (u64 (p&&& ~~~q)):=λa b w _=>by
 have e:=VW p q;simp only[execOp,c,b.ev d,b.ev f,u64];simp only[binOp,go_sem,e];rfl
theorem Gm{p q:BitVec 64}(c:o.op=.binOp .add xt x y yt)(d:ev L x=some (u64 p))(f:ev L y=some (u64 q)):Ao P C n ds L o (u64 (p+q)):=λa b w _=>by
 simp only[execOp,c,b.ev d,b.ev f,u64];have e:IntKind.u64.wrap ((p.toNat:Int)+(q.toNat:Int))=((p+q).toNat:Int):=by
  rw[ZY];simp[IntKind.wrap,IntKind.bits,IntKind.signed]
 simp[go_sem,e]
theorem VX{p q:BitVec 64}(c:o.op=.binOp .mul xt x y yt)(d:ev L x=some (u64 p))(f:ev L y=some (u64 q)):Ao P C n ds L o (u64 (p*q)):=λa b w _=>by
 simp only[execOp,c,b.ev d,b.ev f,u64];have e:IntKind.u64.wrap ((p.toNat:Int)*(q.toNat:Int))=((p*q).toNat:Int):=by
  rw[BitVec.toNat_mul];simp[IntKind.wrap,IntKind.bits,IntKind.signed]
 simp[go_sem,e]
theorem VY{p:BitVec 64}(a:o.op=.unOp .neg xt x)(b:ev L x=some (u64 p)):Ao P C n ds L o (u64 (-p)):=by
 have:=SL (P:=P) (C:=C) (n:=n) (ds:=ds) (L:=L) a b;have e:IntKind.u64.wrap (0-(p.toNat:Int))=((-p).toNat:Int):=by
  have:=p.isLt;rw[BitVec.toNat_neg];simp[IntKind.wrap,IntKind.bits,IntKind.signed];omega
 rw[e] at this;exact this
theorem EE{p:BitVec 64}{k:IntKind}{q:Int}{m:Nat}(d:o.op=.binOp .shr xt x y yt)(f:ev L x=some (u64 p))(g:ev L y=some (.int k q))(hq:q=m)(h:m<64):Ao P C n ds L o (u64 (p>>>m)):=λa c w _=>by
 subst hq;simp only[execOp,d,c.ev f,c.ev g,u64];have e:¬((m:Int)<0):=by omega
 have b:min m 64=m:=by omega
 simp[go_sem,Op.shift,IntKind.bits,e,b,AaL]
theorem LN{k:IntKind}{q:Int}{m:Nat}(g:o.op=.binOp .shl xt x y yt)(i:ev L x=some (.int .u64 1))(j:ev L y=some (.int k q))(hq:q=m)(d:m<64):Ao P C n ds L o (u64 (Dt m)):=λa c w _=>by
 subst hq;have h:¬((m:Int)<0):=by omega
 have b:min m 64=m:=by omega
 have e:Op.shift .shl .u64 1 k (m:Int)=pure (u64 (Dt m)):=by
  have f:(Dt m).toNat=2^m:=by unfold Dt;rw[BitVec.toNat_twoPow];exact YX (Nat.pow_lt_pow_right U d)
  unfold Op.shift u64;rw[if_neg h,f];simp only[IntKind.bits,Yw,b];rw[Int.one_mul,<-Pv (2^m) (Nat.pow_lt_pow_right (m:=m) (n:=64) (a:=2) U d)];simp
 simp only[execOp,g,c.ev i,c.ev j];simp only[binOp,go_sem,e];rfl
theorem LO{p q:BitVec 64}(f:o.op=.binOp .eql xt x y yt){k:IntKind}(c:CZ P xt xt=some k)(g:ev L x=some (u64 p))(i:ev L y=some (u64 q)):Ao P C n ds L o (.bool (decide (p=q))):=λa b w _=>by
 obtain ⟨d,j,e⟩:=D4 c;simp only[execOp,f,b.ev g,b.ev i,u64];simp[e,go_sem];rw[Yf];simp;exact ⟨λh=>Aao U,λh=>by rw[h]⟩
theorem Pw{p q:BitVec 64}(g:o.op=.binOp .neq xt x y yt){k:IntKind}(c:CZ P xt xt=some k)(i:ev L x=some (u64 p))(j:ev L y=some (u64 q)):Ao P C n ds L o (.bool (decide (p≠q))):=λa b w _=>by
 obtain ⟨d,l,f⟩:=D4 c;simp only[execOp,g,b.ev i,b.ev j,u64];simp[f,go_sem];rw[Yf];simp;exact ⟨λh e=>h (by rw[e]),λh e=>h (Aao U)⟩
theorem WV{a:TypeId}{p:BitVec 64}(d:o.op=.convert xt a x)(c:CZ P xt a=some .i64)(b:ev L x=some (u64 p))(hp:p.toNat<9223372036854775808):Ao P C n ds L o (Aa p.toNat):=by
 have:=GV (P:=P) (C:=C) (n:=n) (ds:=ds) (L:=L) d c b;rwa[Y1 _ U] at this
theorem Px{t:TypeId}{r s:Operand}{b c n' q z:Nat}{k2 k3:IntKind}{m p:Int}(ho:o.op=.slice t x none (some r) (some s))(v:Gs P t=some (n',z))
  (hx:ev L x=some (.pointer (some ⟨b,c,none⟩)))(d:ev L r=some (.int k2 m))(i:ev L s=some (.int k3 p))(e2:m=(q:Int))(e3:p=(q:Int))(hq:0<q)(l:q<=n'):Ao P C n ds L o (.slice (some ⟨b,c,none⟩) q q):=λa g w _=>by
 obtain ⟨e,i0,h,f,u⟩:=Gt v;subst e2;subst e3;have y:(0:Int)<=(q:Int)/\(q:Int)<=(n':Int):=by omega
 have g3:(0:Int)<=(q:Int)/\(q:Int)<=(q:Int):=by omega
 have k:¬q=0:=by omega
 have j:0<=q:=by omega
 simp only[execOp,ho,Ys,YT,g.ev hx,g.ev d,g.ev i];simp[Instr.sliceAt,Instr.slice,run_underlying h,Instr.sureAddr,Instr.sliceBounds,Instr.sliceBound,asIntOf,y,g3,sizeOf,typeInfo,f,u,j,l,k,go_sem]<;>(try simp_all)
theorem RN{t:TypeId}{lo:Operand}{b a l c p z o' l' c':Nat}{k:IntKind}{i:Int}(j:o.op=.slice t x (some lo) none none)(g:CE P t=some z)
  (w:ev L x=some (.slice (some ⟨b,a,none⟩) l c))(m:ev L lo=some (.int k i))(u:i=(p:Int))(d:p<=l)(f:l<=c)
  (s:(if c=p then a else a+p*z)=o')(r:l-p=l')(v:c-p=c'):Ao P C n ds L o (.slice (some ⟨b,o',none⟩) l' c'):=by
 have:=Jv (P:=P) (C:=C) (n:=n) (ds:=ds) (L:=L) (p:=p) (q:=l) j g w (.inr ⟨lo,k,i,Z,m,u⟩) (.inl ⟨Z,Z⟩) d f;rw[r,v] at this;have e:(if c=p then (some ⟨b,a,none⟩:Option Addr) else (some ⟨b,a,none⟩:Option Addr).map (·.add (p*z)))=some ⟨b,o',none⟩:=by
  subst s;split
  ·rfl
  simp only[Ys,X0];unfold Addr.add;split
  ·rename_i h;simp[h]
  rfl
 rwa[e] at this
theorem Ul{p:Int}(f:o.op=.binOp .and xt x y yt)(g:ev L x=some (Aa p))(h:ev L y=some (Aa 127))(hp:0<=p/\p<9223372036854775808):Ao P C n ds L o (Aa (p%128)):=λa c w _=>by
 obtain ⟨q,rfl⟩:=ZK hp.1;have e:Op.intBits .and .i64 (q:Int) 127=pure (Aa (IntKind.i64.wrap ((BitVec.ofInt 64 (q:Int)&&&BitVec.ofInt 64 127).toNat:Int))):=rfl;have d:(BitVec.ofInt 64 (q:Int)&&&BitVec.ofInt 64 127).toNat=q%128:=by
  rw[Zy,show (BitVec.ofInt 64 127).toNat=2^7-1 from Z,Aay,Aau,BitVec.toNat_ofNat,YX (a:=q) (b:=2^64) U]
 rw[d,Y1 _ U,show ((q%128:Nat):Int)=(q:Int)%128 from by omega] at e;simp only[execOp,f,c.ev g,c.ev h];simp only[binOp,go_sem,e];rfl
end
end
def BN(F:Nat->Bool):List Value:=(List.range 16).map λk=>u64 (bw F k)
theorem BE(F:Nat->Bool):(BN F).length=16:=by simp[BN]
theorem wsV_at(F:Nat->Bool){k:Nat}(a:k<16):(BN F)[k]?=some (u64 (bw F k)):=by simp[BN,a]
theorem wsV_one(F:Nat->Bool):∀u∈BN F,u.oneCell'=true:=λu h=>by
 simp only[BN,X5] at h;obtain ⟨k,_,rfl⟩:=h;rfl
def Ch(n:Nat)(F D S:Nat->Bool):List Value:=.int .i64 n::(BN F++(BN D++(BN S++BN λ_=>false)))
abbrev alB(pa n:Nat)(F D S:Nat->Bool):Ai:=blk pa (Ch n F D S) 150
def BX:Nat->Bool:=λ_=>false
theorem WW(n:Nat)(F D S:Nat->Bool):(Ch n F D S)[0]?=some (Aa n):=rfl
theorem KL(n:Nat)(F D S:Nat->Bool){k:Nat}(a:k<16):(Ch n F D S)[1+k]?=some (u64 (bw F k)):=by
 unfold Ch;rw[ZS,Yq,Yb (by rw[BE];exact a),wsV_at _ a]
theorem S7(n:Nat)(F D S:Nat->Bool){k:Nat}(a:k<16):(Ch n F D S)[17+k]?=some (u64 (bw D k)):=by
 unfold Ch;rw[show 17+k=(16+k)+1 by omega,Yq,Ya (by rw[BE];omega),BE,show 16+k-16=k by omega,Yb (by rw[BE];exact a),wsV_at _ a]
theorem Py{F c:Nat->Bool}{k:Nat}{x:BitVec 64}(d:k<16)(h:∀j,j<16->(if k=j then x else bw F j)=bw c j):(BN F).take k++[u64 x]++(BN F).drop (k+1)=BN c:=by
 have f:=BE F;have e:=Zj (l:=BN F) (i:=k) (a:=u64 x);rw[if_pos U] at e;rw[X1,ZU,<-e];refine YY λj=>?_;rw[YV];rcases Yg j 16 with b|b
 ·rw[wsV_at c b,<-h j b]
  split
  ·rw[if_pos U]
  rw[wsV_at F b]
 rw[if_neg U,Yp U,Yp (by rw[BE];omega)]
theorem LP(a:Value)(l:List Value)(k:Nat)(u:Value):(a::l).take (1+k)++[u]++(a::l).drop (1+k+1)=a::(l.take k++[u]++l.drop (k+1)):=by
 rw[ZS 1 k];simp
theorem LQ(l m:List Value)(k:Nat)(u:Value)(a:k<l.length):(l++m).take k++[u]++(l++m).drop (k+1)=(l.take k++[u]++l.drop (k+1))++m:=by
 rw[X7 U,Yz U];simp
theorem RO(l m:List Value)(k:Nat)(u:Value):(l++m).take (l.length+k)++[u]++(l++m).drop (l.length+k+1)=l++(m.take k++[u]++m.drop (k+1)):=by
 rw[ZV,Yy,XZ U,Yj U];rw[show l.length+k-l.length=k by omega,show l.length+k+1-l.length=k+1 by omega];simp
theorem Iy(n:Nat){F b:Nat->Bool}(D S:Nat->Bool){k:Nat}{x:BitVec 64}(a:k<16)(h:∀j,j<16->(if k=j then x else bw F j)=bw b j):(Ch n F D S).take (1+k)++[u64 x]++(Ch n F D S).drop (1+k+1)=Ch n b D S:=by
 unfold Ch;rw[LP,LQ _ _ _ _ (by rw[BE];exact a),Py a h]
theorem LR(n:Nat)(F:Nat->Bool){D D':Nat->Bool}(S:Nat->Bool){k:Nat}{x:BitVec 64}(a:k<16)(h:∀j,j<16->(if k=j then x else bw D j)=bw D' j):(Ch n F D S).take (17+k)++[u64 x]++(Ch n F D S).drop (17+k+1)=Ch n F D' S:=by
 have e:=RO (BN F) (BN D++(BN S++BN λ_=>false)) k (u64 x);rw[BE] at e;unfold Ch;rw[show 17+k=1+(16+k) by omega,LP,e,LQ _ _ _ _ (by rw[BE];exact a),Py a h]
theorem Eq(n:Nat)(F D S:Nat->Bool):(Ch n F D S).length=65:=by simp[Ch,BE]
theorem M2(n:Nat)(F D S:Nat->Bool):BN F++BN D=((Ch n F D S).drop 1).take 32:=by
 have a:=BE F;have b:=BE D;unfold Ch;rw[List.drop_one,List.tail_cons,<-X1,YJ (by simp[a,b])]
theorem Ji(n:Nat)(F S:Nat->Bool):(Ch n F BX S).take 33++(BN F++BN BX)++(Ch n F BX S).drop (33+(BN F++BN BX).length)=Ch n F BX F:=by
 have a:=BE F;have b:=BE BX;have e:(Ch n F BX S).drop (33+(BN F++BN BX).length)=[]:=Yj (by simp[Eq,a,b]);rw[e,YG];unfold Ch;rw[show (33:Nat)=32+1 from Z,Zg,<-X1 (BN F) (BN BX) (BN S++_),YJ (by simp[BE])];simp only[Zw,X1];rfl
theorem LS(l:List Value)(F:Nat->Bool)(h:∀u∈l,u.oneCell'=true):∀u∈l++BN F,u.oneCell'=true:=λu a=>by
 rcases Yr.1 a with q|q
 ·exact h u q
 exact wsV_one F u q
theorem bit_of(F:Nat->Bool)(p:Nat):(decide ((bw F (p/64))>>>(p%64)&&&1#64=1#64))=F p:=by
 rw[VQ];cases F p<;>simp
theorem VZ{z w:World}{Γ:List Ai}(i:Nat)(H:Sep z Γ w){A:Ai}(a:Γ[i]?=some A){b o:Nat}{v:Value}(h:∀h,A h->celH h b o v):EI b o v w:=H.cell i a h
def Fb(F:Nat->Bool)(p:Nat):Nat->Bool:=λq=>F q||decide (q=p)
def CA(F:Nat->Bool)(p:Nat):Nat->Bool:=λq=>F q && !decide (q=p)
theorem Um(F:Nat->Bool)(p j:Nat):(if p/64=j then bw F (p/64)&&& ~~~Dt (p%64) else bw F j)=bw (CA F p) j:=by
 rw[show CA F p=λq=>F q && !decide (q=p) from Z,<-VP];split
 ·rename_i e;rw[e]
 rfl
theorem M3(F:Nat->Bool)(p j:Nat):(if p/64=j then bw F (p/64)|||Dt (p%64) else bw F j)=bw (Fb F p) j:=by
 rw[show Fb F p=λq=>F q||decide (q=p) from rfl,<-VO];split
 ·rename_i e;rw[e]
 rfl
def Ct(F G:Nat->Bool):Nat->Bool:=λq=>F q||G q
def DL(F G:Nat->Bool)(k:Nat):Nat->Bool:=λq=>if q<64*k then G q else F q
theorem HG(F G:Nat->Bool)(k j:Nat):bw (DL F G k) j=if j<k then bw G j else bw F j:=by
 symm;refine Jf λi a=>?_;unfold DL;split
 ·rw[if_pos U,C9 _ _ _ a]
 rw[if_neg U,C9 _ _ _ a]
theorem M4(F G:Nat->Bool)(k:Nat):∀j,j<16->(if k=j then bw G k else bw (DL F G k) j)=bw (DL F G (k+1)) j:=λj _=>by
 rw[HG,HG];split
 ·rename_i e;subst e;rw[if_pos U]
 by_cases h:j<k
 ·rw[if_pos h,if_pos U]
 rw[if_neg h,if_neg U]
theorem M5(F G:Nat->Bool):DL F G 0=F:=by funext q;simp[DL]
theorem V0(n:Nat)(F G D D' S:Nat->Bool):Ch n (DL F G 16) (DL D D' 16) S=Ch n G D' S:=by
 have h:∀F G:Nat->Bool,BN (DL F G 16)=BN G:=λF G=>by
  refine YY λj=>?_;rcases Yg j 16 with a|a
  ·rw[wsV_at _ a,wsV_at _ a,HG,if_pos a]
  rw[Yp (by rw[BE];omega),Yp (by rw[BE];omega)]
 unfold Ch;rw[h,h]
theorem LT(n:Nat)(F D S:Nat->Bool):BN F=((Ch n F D S).drop 1).take 16:=by
 unfold Ch;rw[List.drop_one,List.tail_cons,YJ (BE F)]
theorem V1(n:Nat)(F D S:Nat->Bool):BN D=((Ch n F D S).drop 17).take 16:=by
 unfold Ch;rw[show (17:Nat)=16+1 from Z,Zh,Aat (BE F),YJ (BE D)]
theorem WX(F D:Nat->Bool)(k:Nat):bw (DL F (Ct F D) k) k|||bw D k=bw (Ct F D) k:=by
 rw[HG,if_neg U,WT];rfl
theorem V2(F D:Nat->Bool)(k:Nat):∀j,j<16->(if k=j then bw (DL F (Ct F D) k) k|||bw D k else bw (DL F (Ct F D) k) j)=bw (DL F (Ct F D) (k+1)) j:=λj a=>by
 rw[WX];exact M4 F _ k j a
theorem V3(D:Nat->Bool)(k:Nat):∀j,j<16->(if k=j then 0#64 else bw (DL D BX k) j)=bw (DL D BX (k+1)) j:=λj a=>by
 have e:(0#64)=bw BX k:=(bw_zero.2 λ_ _=>rfl).symm;rw[e];exact M4 D BX k j a
def CY(n:Nat):Nat->Bool:=λq=>decide (q<n)
theorem Un(k:Nat):Fb (CY k) k=CY (k+1):=by
 funext q;unfold Fb CY;rw[Yf];simp;omega
theorem RP(k:Nat):∀j,j<16->(if k/64=j then bw (CY k) (k/64)|||Dt (k%64) else bw (CY k) j)=bw (CY (k+1)) j:=λj _=>by
 rw[<-Un];exact M3 _ _ _
theorem RQ(F:Nat->Bool)(k:Nat):(cnt F 0 (64*k):Int)+(cnt F (64*k) 64:Int)=(cnt F 0 (64*(k+1)):Int):=by
 have:=Gl F 0 (64*k) 64;rw[show 64*(k+1)=64*k+64 by omega,this,Y8];omega
theorem Pz(F:Nat->Bool)(a:Nat):∀n,cnt F a n<=n
 | 0=>Yo _
 | n+1=>by
  have:=Pz F a n;have:(F (a+n)).toNat<=1:=by cases F (a+n)<;>simp
  simp only[cnt];omega
def PA(j:Nat):UInt8:=UInt8.ofNat (Go.Lib.deBruijn64tab.getD j 0)
def F2(A:Ai):Prop:=∀h,A h->∀j,j<64->celH h 0 j (u8 (PA j))
theorem V4(x:BitVec 64)(i:Nat)(r:i<64)(f:x.getLsbD i=true)(o:∀j,j<i->x.getLsbD j=false):(((x&&& -x)*285870213051353865#64)>>>58).toNat<64/\((PA (((x&&& -x)*285870213051353865#64)>>>58).toNat).toNat:Int)=i:=by
 have b:x.toNat≠0:=λe=>by
  have:x=0#64:=Aao (by simpa using e);rw[this] at f;simp at f
 have d:=x.isLt;obtain ⟨m,k,p⟩:=Go.Lib.ctzFrom_spec 64 x.toNat U d;have s:Go.Lib.ctzFrom 64 x.toNat=i:=by
  generalize Go.Lib.ctzFrom 64 x.toNat=c at k p;have g:∀j,x.getLsbD j=(decide (j>=c)&&(2*m+1).testBit (j-c)):=λj=>by
   show x.toNat.testBit j=_;rw[k,Nat.testBit_two_pow_mul]
  rcases Zq i c with h|h|h
  ·have:=g i;rw[f] at this;simp at this;omega
  ·exact h.symm
  have:=g c;rw[o c h] at this;simp at this
 obtain ⟨a,_⟩:=Go.Lib.lowest_bit 64 x.toNat b d;have l:Go.Lib.ctz 64 x.toNat=i:=by unfold Go.Lib.ctz;rw[if_neg b,s]
 rw[l] at a;have q:(x&&& -x).toNat=2^i:=by
  rw[Zy,BitVec.toNat_neg,YX U];exact a
 have n:(((x&&& -x)*285870213051353865#64)>>>58).toNat=2^i*285870213051353865%18446744073709551616/288230376151711744:=by
  rw[Zp,BitVec.toNat_mul,q,Y7];rfl
 obtain ⟨a1,a2⟩:=Go.Lib.deBruijn64_at i r;rw[n];refine ⟨a1,?_⟩;unfold PA;rw[a2];simp;omega
theorem LU(a n:Nat)(F D S:Nat->Bool)(p:Nat):An 109 [V a,Aa (p:Int)] [alB a n F D S] (λv G=>v=.bool (decide (p<n))/\G=[alB a n F D S]):=by
 intro z R w H;refine Af func109 Z ntmps109 Z (Z0 10 [0] Z (Am 7 Z (λb=>?_) (λb=>?_)))
 ·refine Z0 4 [0] Z (Ae Z (AY Z Z J (AB (H.cel 0 Z 0 (WW _ _ _ _)))) (Z0 6 [0] Z (Zr Z ?_)));exact ⟨_,⟨congrArg Value.bool (by first|(rw[Yf];simp<;>omega)|(simp<;>omega)),Z⟩,H⟩
 refine Zc 11 Z (Zr Z ?_);exact ⟨_,⟨congrArg Value.bool (by first|(rw[Yf];simp<;>omega)|(simp<;>omega)),Z⟩,H⟩
theorem LV(a n:Nat)(F D S:Nat->Bool)(p:Nat)(hp:p<n)(c:n<=1024):An 110 [V a,Aa (p:Int)] [alB a n F D S] (λv G=>v=.bool (F p)/\G=[alB a n F D S]):=by
 intro z R w H;refine Af func110 Z ntmps110 Z (Zc 9 Z (Ah Z (call109 _) (LU _ _ _ _ _ _) H ?_));intro w H;refine Zc 1 Z (Am 8 Z (λb=>?_) (λb=>?_))
 ·refine Z1 7 [1,1,16,1,(p/64),1+(p/64)] [(p:Int)/64] Z U (Ae Z (AY Z Z J (AB (H.cel 0 Z (1+(p/64)) (KL _ _ _ _ U)))) (Z1 2 [] [(p:Int)%64] Z U (Ae Z (EE Z Z Z (m:=(p%64)) U U) (Ae Z (Ep (q:=1#64) Z Z Z) (Ae Z (LO (p:=((bw F (p/64))>>>(p%64))&&&(1#64)) (q:=1#64) (k:=.u64) Z J Z Z) (k_updA 21 (v:=.bool (F p)) Z (congrArg Value.bool (bit_of F p)) (Zc 5 Z (Zr Z ?_))))))));exact ⟨_,⟨Z,Z⟩,H⟩
 exact absurd hp b
theorem PB(a n:Nat)(F D S:Nat->Bool)(p:Nat)(hp:p<n)(d:n<=1024)(c:F p=true):An 82 [V a,Aa (p:Int)] [alB a n F D S] (λv G=>v=.bool true/\G=[alB a n (CA F p) D S]):=by
 intro z R w H;refine Af func82 Z ntmps82 Z (Zc 10 Z (Ah Z (call110 _) (LV _ _ _ _ _ _ U U) H ?_));intro w H;refine k_updA 7 (v:=.bool true) Z (congrArg Value.bool c) (Zc 7 Z (Bo 16 J J (A8 H λw b=>?_)));have H:=b.l1;refine CC 7 [1,1,16,1,(p/64),1+(p/64)] [(p:Int)/64] H Z J U (B3 Z Z Z (AY Z Z J (AB (H.cel 0 Z (1+(p/64)) (KL _ _ _ _ U)))) (CC 2 [] [(p:Int)%64] H Z J U (B3 Z Z Z (LN Z Z Z (m:=(p%64)) U U) (B3 Z Z Z (RM Z Z Z) (CC 4 [1,1,16,1,(p/64),1+(p/64)] [] H Z J U (Ce (gw (A0 Z Z (AE 0 H Z Z Z Z (vs:=[u64 ((bw F (p/64))&&& ~~~(Dt (p%64)))]) Z (Al Z AK) J (by simp only[Eq,XY,X3];omega) (out:=(Ch n (CA F p) D S)) (Iy _ _ _ U (λj _=>Um F p j))) ?_))))))));rintro w H;refine Zc 8 Z (Zr Z ?_);exact ⟨_,⟨Z,Z⟩,H⟩
theorem Uo(a n:Nat)(F D S:Nat->Bool)(p:Nat)(hp:p<n)(e:n<=1024)(d:F p=false)(b:D p=false):An 52 [V a,Aa (p:Int)] [alB a n F D S] (λv G=>v=.bool true/\G=[alB a n F (Fb D p) S]):=by
 intro z R w H;refine Af func52 Z ntmps52 Z (Zc 10 Z (Ah Z (call109 _) (LU _ _ _ _ _ _) H ?_));intro w H;refine k_updA 7 (v:=.bool true) Z (congrArg Value.bool (decide_eq_true hp)) (Zc 4 Z (Ah Z (call110 _) (LV _ _ _ _ _ _ U U) H ?_));intro w H;refine k_updA 12 (v:=.bool false) Z (congrArg Value.bool d) (Z1 9 [1,17,16,1,(p/64),17+(p/64)] [(p:Int)/64] Z U (Ae Z (AY Z Z J (AB (H.cel 0 Z (17+(p/64)) (S7 _ _ _ _ U)))) (Z1 2 [] [(p:Int)%64] Z U (Ae Z (EE Z Z Z (m:=(p%64)) U U) (Ae Z (Ep (q:=1#64) Z Z Z) (Ae Z (LO (p:=((bw D (p/64))>>>(p%64))&&&(1#64)) (q:=1#64) (k:=.u64) Z J Z Z) (k_updA 27 (v:=.bool false) Z (congrArg Value.bool ((bit_of D p).trans b)) (Zc 7 Z (Bo 16 J J (A8 H λw c=>?_))))))))));have H:=c.l1;refine CC 7 [1,17,16,1,(p/64),17+(p/64)] [(p:Int)/64] H Z J U (B3 Z Z Z (AY Z Z J (AB (H.cel 0 Z (17+(p/64)) (S7 _ _ _ _ U)))) (CC 2 [] [(p:Int)%64] H Z J U (B3 Z Z Z (LN Z Z Z (m:=(p%64)) U U) (B3 Z Z Z (LM Z Z Z) (CC 4 [1,17,16,1,(p/64),17+(p/64)] [] H Z J U (Ce (gw (A0 Z Z (AE 0 H Z Z Z Z (vs:=[u64 ((bw D (p/64))|||(Dt (p%64)))]) Z (Al Z AK) J (by simp only[Eq,XY,X3];omega) (out:=(Ch n F (Fb D p) S)) (LR _ _ _ U (λj _=>M3 D p j))) ?_))))))));rintro w H;refine Zc 8 Z (Zr Z ?_);exact ⟨_,⟨Z,Z⟩,H⟩
abbrev pB_(F:Nat->Bool)(k:Nat):BitVec 64:=((bw F k)>>>1)&&&(6148914691236517205#64)
abbrev pC_ (F:Nat->Bool) (k:Nat):BitVec 64:=(bw F k)&&&(6148914691236517205#64)
abbrev M6 (F:Nat->Bool) (k:Nat):BitVec 64:=(((bw F k)>>>1)&&&(6148914691236517205#64))+((bw F k)&&&(6148914691236517205#64))
abbrev pD_ (F:Nat->Bool) (k:Nat):BitVec 64:=(((M6 F k)>>>2)&&&(3689348814741910323#64))
abbrev pE_ (F:Nat->Bool) (k:Nat):BitVec 64:=((M6 F k)&&&(3689348814741910323#64))
abbrev pF_ (F:Nat->Bool) (k:Nat):BitVec 64:=(pD_ F k)+(pE_ F k)
theorem Up(F:Nat->Bool)(k:Nat):An 99 [u64 (bw F k)] [] (λv G=>v=Aa ((cnt F (64*k) 64:Nat):Int)/\G=[]):=by
 intro z R w H;refine Af func99 Z ntmps99 Z (Zc 8 Z (Ae Z (EE Z Z Z (m:=1) Z (by decide)) (Ae Z (Ep (q:=6148914691236517205#64) Z Z Z) (Zc 1 Z (Ae Z (Ep (q:=6148914691236517205#64) Z Z Z) (Ae Z (Gm (p:=((bw F k)>>>1)&&&(6148914691236517205#64)) (q:=(bw F k)&&&(6148914691236517205#64)) Z Z Z) (Zc 6 Z (Ae Z (EE Z Z Z (m:=2) Z (by decide)) (Ae Z (Ep (p:=(M6 F k)>>>2) (q:=3689348814741910323#64) Z Z Z) (Zc 1 Z (Ae Z (Ep (p:=(pB_ F k)+(pC_ F k)) (q:=3689348814741910323#64) Z Z Z) (Ae Z (Gm (p:=((M6 F k)>>>2)&&&(3689348814741910323#64)) (q:=(M6 F k)&&&(3689348814741910323#64)) Z Z Z) (Zc 6 Z ?_)))))))))))));refine Ae Z (EE Z Z Z (m:=4) Z (by decide)) (Zc 1 Z (Ae Z (Gm (p:=(pF_ F k)>>>4) (q:=(pD_ F k)+(pE_ F k)) Z Z Z) (Ae Z (Ep (p:=((pF_ F k)>>>4)+(pF_ F k)) (q:=1085102592571150095#64) Z Z Z) (Zc 7 Z (Ae Z (EE Z Z Z (m:=8) Z (by decide)) (Ae Z (Gm (p:=(((pF_ F k)>>>4)+(pF_ F k))&&&(1085102592571150095#64)) (q:=((((pF_ F k)>>>4)+(pF_ F k))&&&(1085102592571150095#64))>>>8) Z Z Z) (Zc 7 Z (Ae Z (EE Z Z Z (m:=16) Z (by decide)) (Ae Z (Gm (p:=((((pF_ F k)>>>4)+(pF_ F k))&&&(1085102592571150095#64))+(((((pF_ F k)>>>4)+(pF_ F k))&&&(1085102592571150095#64))>>>8)) (q:=(((((pF_ F k)>>>4)+(pF_ F k))&&&(1085102592571150095#64))+(((((pF_ F k)>>>4)+(pF_ F k))&&&(1085102592571150095#64))>>>8))>>>16) Z Z Z) (Zc 7 Z (Ae Z (EE Z Z Z (m:=32) Z (by decide)) (Ae Z (Gm (p:=(((((pF_ F k)>>>4)+(pF_ F k))&&&(1085102592571150095#64))+(((((pF_ F k)>>>4)+(pF_ F k))&&&(1085102592571150095#64))>>>8))+((((((pF_ F k)>>>4)+(pF_ F k))&&&(1085102592571150095#64))+(((((pF_ F k)>>>4)+(pF_ F k))&&&(1085102592571150095#64))>>>8))>>>16)) (q:=((((((pF_ F k)>>>4)+(pF_ F k))&&&(1085102592571150095#64))+(((((pF_ F k)>>>4)+(pF_ F k))&&&(1085102592571150095#64))>>>8))+((((((pF_ F k)>>>4)+(pF_ F k))&&&(1085102592571150095#64))+(((((pF_ F k)>>>4)+(pF_ F k))&&&(1085102592571150095#64))>>>8))>>>16))>>>32) Z Z Z) (Zc 6 Z ?_)))))))))))));refine Ae Z (WV Z J Z (JU F k).1) (Ae Z (Ul Z Z Z (by have:=(JU F k).1;exact ⟨Int.natCast_nonneg _,by unfold JS at this;dsimp only[M6,pB_,pC_,pD_,pE_,pF_] at this ⊢;omega⟩)) (k_updA 34 (u:=Aa (((JS (bw F k)).toNat:Int)%128)) (v:=Aa ((cnt F (64*k) 64:Nat):Int)) Z (congrArg Aa (by have:=(JU F k).2;omega)) (Zc 4 Z (gr (FN Z [Aa ((cnt F (64*k) 64:Nat):Int)] ⟨Z,trivial⟩ (v:=Aa ((cnt F (64*k) 64:Nat):Int)) Z ?_)))));exact ⟨_,⟨Z,Z⟩,H⟩
theorem Uq(a n:Nat)(F D S:Nat->Bool):An 38 [V a] [alB a n F D S] (λv G=>v=Aa (cnt F 0 1024:Int)/\G=[alB a n F D S]):=by
 intro z R w H;refine Af func38 Z ntmps38 Z (Z0 17 [1,1] Z (Ae Z (Bz Z Z (vs:=BN F) J (AB ((H.blk 0 Z).part 1 16 _ (LT _ _ _ _)))) (Zc 4 Z ?_)));refine Aq (σ:=Nat) (λk=>[(11,Aa (k:Int)),(3,Aa (cnt F 0 (64*k):Int)),(2,Aa 0),(10,.agg (BN F).toArray)])
   (λk w=>Sep z (alB a n F D S::R) w/\(k<=16)) (λk=>16-k) 0
   (λ_ b=>(b.co Z (by go_num) b.cz)) ⟨H,by omega⟩ ?_
 clear H;rintro k w ⟨g,d⟩;have H:=g.l1;have c:=d;clear d;have f:=Pz F 0 (64*(k+1));refine Z0 6 [0] Z (Ag Z (λe=>?_) (λe=>?_))
 ·refine Zc 6 Z (Ae Z (Eb (m:=16) Z J Z Z Z (j:=k) Z (u:=u64 (bw F k)) (wsV_at F U)) (Zc 6 Z (Ah Z (call99 _) (Up _ _) H ?_)));intro w H;refine Ae Z (Cm Z Z Z (r:=(cnt F 0 (64*(k+1)):Int)) (RQ F k) U) (Z1 8 [] [(k:Int)+1] Z U (gf ?_));intro _ b;refine ⟨(k+1),b.cz,⟨H,?_⟩,?_⟩
  ·omega
  omega
 obtain rfl:k=16:=by omega
 refine Zc 2 Z (gx (Zc 9 Z (Zr Z ?_)));exact ⟨_,⟨Z,Z⟩,H⟩
theorem Kt(a n:Nat)(F D S:Nat->Bool):An 49 [V a] [alB a n F D S] (λv G=>v=.tuple #[]/\G=[alB a n (Ct F D) BX (Ct F D)]):=by
 intro z R w H;refine Af func49 Z ntmps49 Z (Z0 7 [1,17] Z (Ae Z (Bz Z Z (vs:=BN D) J (AB ((H.blk 0 Z).part 17 16 _ (V1 _ _ _ _)))) (Zc 4 Z ?_)));refine Aq (σ:=Nat) (λk=>[(9,Aa (k:Int)),(0,V a),(8,.agg (BN D).toArray)])
   (λk w=>Sep z (alB a n (DL F (Ct F D) k) (DL D BX k) S::R) w/\(k<=16)) (λk=>16-k) 0
   fr_z ⟨(by rw[M5,M5];exact H),by omega⟩ ?_
 clear H;rintro k w ⟨b,d⟩;have H:=b.l1;have c:=d;clear d;refine Z0 6 [0] Z (Ag Z (λf=>?_) (λf=>?_))
 ·refine Zc 7 Z (Ae Z (Eb (m:=16) Z J Z Z Z (j:=k) Z (u:=u64 (bw D k)) (wsV_at D U)) (Zc 5 Z (Bo 13 J J (A8 H λw b=>?_))))
  have H:=b.l1;refine CC 6 [1,1,16,1,k,1+k] [] H Z J U (B3 Z Z Z (AY Z Z J (AB (H.cel 0 Z (1+k) (KL _ _ _ _ U)))) (SP 1 [] Z J (B3 Z Z Z (LM Z Z Z) (CC 4 [1,1,16,1,k,1+k] [] H Z J U (Ce (gw (A0 Z Z (AE 0 H Z Z Z Z (vs:=[u64 ((bw (DL F (Ct F D) k) k)|||(bw D k))]) Z (Al Z AK) J (by simp only[Eq,XY,X3];omega) (out:=(Ch n (DL F (Ct F D) (k+1)) (DL D BX k) S)) (Iy _ _ _ U (V2 F D k))) ?_)))))));rintro w H;refine Z1 9 [1,17,16,1,k,17+k] [] Z U (A0 Z Z (AE 0 H Z Z Z Z (vs:=[u64 (0#64)]) Z (Al Z AK) J (by simp only[Eq,XY,X3];omega) (out:=(Ch n (DL F (Ct F D) (k+1)) (DL D BX (k+1)) S)) (LR _ _ _ U (V3 D k))) ?_);rintro w H;refine Z1 7 [] [(k:Int)+1] Z U (gf ?_);intro _ e;refine ⟨(k+1),e.cz,⟨H,?_⟩,?_⟩
  ·omega
  omega
 obtain rfl:k=16:=by omega
 refine Zc 2 Z (gx (Zc 2 Z ?_));dsimp only[alB] at H;rw[V0] at H;refine Z0 5 [1] Z (Ae Z (Bz Z Z (vs:=BN (Ct F D)++BN BX) J (AB ((H.blk 0 Z).part 1 32 _ (M2 _ _ _ _)))) (Z0 2 [33] Z (A0 Z Z (AE 0 H Z Z Z Z (vs:=BN (Ct F D)++BN BX) Z (LS _ _ (wsV_one _)) J (by simp only[Eq,XX,BE];omega) (out:=(Ch n (Ct F D) BX (Ct F D))) (Ji _ _ _)) ?_)));rintro w H;refine Zc 1 Z (Zf Z ?_);exact ⟨_,⟨Z,Z⟩,H⟩
theorem V5(n:Nat)(j:1<=n/\n<=1024):An 80 [Aa (n:Int)] [] (λv G=>(∃c,v=V c/\G=[alB c n (CY n) BX (CY n)])):=by
 intro z R w H;refine Af func80 Z ntmps80 Z (Z0 11 [0] Z (Am 7 Z (λf=>U) (λf=>?_)));refine Z0 5 [0] Z (Ag Z (λh=>U) (λh=>?_));refine Zc 5 Z (Ae Z (AR Z Z (out:=(Ch n (CY 0) BX BX)) J) (AC Z (Ff H Z Z (cs:=(Ch n (CY 0) BX BX)) Z) ?_));rintro _ w ⟨b,rfl,H⟩;refine Zc 11 Z ?_;refine Aq (σ:=Nat) (λk=>[(15,Aa (k:Int)),(2,.pointer none),(3,V b),(14,Aa (n:Int))])
   (λk w=>Sep z (alB b n (CY k) BX BX::R) w/\(k<=n)) (λk=>n-k) 0
   fr_z ⟨H,by omega⟩ ?_
 clear H;rintro k w ⟨a,d⟩;have H:=a.l1;have i:=d;clear d;refine Z0 6 [0] Z (Ag Z (λg=>?_) (λg=>?_))
 ·refine Zc 10 Z (Bo 16 J J (A8 H λw a=>?_))
  have H:=a.l1;refine CC 7 [1,1,16,1,(k/64),1+(k/64)] [(k:Int)/64] H Z J U (B3 Z Z Z (AY Z Z J (AB (H.cel 0 Z (1+(k/64)) (KL _ _ _ _ U)))) (CC 2 [] [(k:Int)%64] H Z J U (B3 Z Z Z (LN Z Z Z (m:=(k%64)) U U) (B3 Z Z Z (LM Z Z Z) (CC 4 [1,1,16,1,(k/64),1+(k/64)] [] H Z J U (Ce (gw (A0 Z Z (AE 0 H Z Z Z Z (vs:=[u64 ((bw (CY k) (k/64))|||(Dt (k%64)))]) Z (Al Z AK) J (by simp only[Eq,XY,X3];omega) (out:=(Ch n (CY (k+1)) BX BX)) (Iy _ _ _ U (RP k))) ?_))))))));rintro w H;refine Z1 7 [] [(k:Int)+1] Z U (gf ?_);intro _ e;refine ⟨(k+1),e.cz,⟨H,?_⟩,?_⟩
  ·omega
  omega
 obtain rfl:k=n:=by omega
 refine Zc 2 Z (gx (Z0 8 [1] Z (Ae Z (Bz Z Z (vs:=BN (CY k)++BN BX) J (AB ((H.blk 0 Z).part 1 32 _ (M2 _ _ _ _)))) (Z0 2 [33] Z (A0 Z Z (AE 0 H Z Z Z Z (vs:=BN (CY k)++BN BX) Z (LS _ _ (wsV_one _)) J (by simp only[Eq,XX,BE];omega) (out:=(Ch k (CY k) BX (CY k))) (Ji _ _ _)) ?_)))));rintro w H;refine Zc 9 Z (Zr Z ?_);exact ⟨_,⟨b,Z,Z⟩,H⟩
theorem XL(x:BitVec 64)(i:Nat)(f:i<64)(a:x.getLsbD i=true)(b:∀j,j<i->x.getLsbD j=false)(A:Ai)(e:F2 A):An 100 [u64 x] [A] (λv G=>v=Aa ((i:Nat):Int)/\G=[A]):=by
 intro z R w H;obtain ⟨d,g⟩:=V4 x i f a b;refine Af func100 Z ntmps100 Z (Zc 9 Z (Ae Z (LO (q:=0#64) (k:=.u64) Z J Z Z) (Zc 2 Z (Ag Z (λc=>?_) (λc=>?_)))))
 ·(exfalso;rw[c] at a;simp at a)
 refine Zc 6 Z (Ae Z (VY Z Z) (Ae Z (Ep Z Z Z) (Ae Z (VX (q:=285870213051353865#64) Z Z Z) (Ae Z (EE Z Z Z (m:=58) Z (by decide)) (Ae Z (Ib (l:=64) Z (z:=1) (j:=(((x&&& -x)*285870213051353865#64)>>>58).toNat) (r:=(((x&&& -x)*285870213051353865#64)>>>58).toNat) J Z Z Z d U) (Ae Z (AY Z Z J (AB (VZ 0 H Z (λh q=>e h q _ d)))) (Ae Z (KG Z J Z) (k_updA 13 (v:=Aa ((i:Nat):Int)) Z (congrArg Aa g) (Zc 4 Z (Zr Z ?_))))))))));exact ⟨_,⟨Z,Z⟩,H⟩
theorem V6(c n:Nat)(F D S:Nat->Bool)(p:Nat)(hp:p<n)(i:n<=1024)(a:F p=true)(d:∀q,q<p->F q=false)(A:Ai)(t:F2 A):An 40 [V c] [alB c n F D S,A] (λv G=>v=.tuple #[Aa (p:Int),.bool true]/\G=[alB c n (CA F p) D S,A]):=by
 intro z R w H;refine Af func40 Z ntmps40 Z (Z0 13 [1,1] Z (Ae Z (Bz Z Z (vs:=BN F) J (AB ((H.blk 0 Z).part 1 16 _ (LT _ _ _ _)))) (Zc 4 Z ?_)));refine Aq (σ:=Nat) (λk=>[(12,Aa (k:Int)),(0,V c),(11,.agg (BN F).toArray)])
   (λk w=>Sep z (alB c n F D S::A::R) w/\(k<=p/64)) (λk=>16-k) 0
   fr_z ⟨H,by omega⟩ ?_
 clear H;rintro k w ⟨o,h⟩;have H:=o.l2;have l:=h;clear h;refine Z0 6 [0] Z (Ag Z (λs=>?_) (λs=>?_))
 ·refine Zc 7 Z (Ae Z (Eb (m:=16) Z J Z Z Z (j:=k) Z (u:=u64 (bw F k)) (wsV_at F U)) (Zc 7 Z (Ae Z (Pw (q:=0#64) (k:=.u64) Z J Z Z) (Zc 2 Z (Ag Z (λf=>?_) (λf=>?_))))))
  ·have b:k=p/64:=by
     rcases Yg k (p/64) with q|q
     · exact absurd (bw_zero.2 λj x=>d _ U) f
     · omega
   have g:F (64*k+p%64)=true:=by rw[show 64*k+p%64=p by omega];exact a
   refine Z1 5 [] [64*(k:Int)] Z U (Ah Z (call100 _) (XL _ (p%64) U (by rw[C9 _ _ _ U];exact g) (λj x=>by rw[C9 _ _ _ U];exact d _ U) _ t) H.f1 ?_);intro w H;refine Z1 9 [] [(p:Int)] Z U (Ah Z (call82 _) (PB _ _ _ _ _ _ hp i a) H.f1 ?_);intro w H;refine Zc 5 Z (Zr Z ?_);exact ⟨_,⟨Z,Z⟩,H⟩
  have b:k≠p/64:=λe=>by
    have:=bw_zero.1 (AaK.1 f) (p%64) U;rw[show 64*k+p%64=p by omega,a] at this;cases this
  refine Z1 7 [] [(k:Int)+1] Z U (gf ?_);intro _ r;refine ⟨(k+1),r.cz,⟨H,?_⟩,?_⟩
  ·omega
  omega
 (exfalso;omega)
theorem Ur(a n:Nat)(F D S:Nat->Bool)(b:∀q,q<1024->F q=false):An 40 [V a] [alB a n F D S] (λv G=>v=.tuple #[Aa 0,.bool false]/\G=[alB a n F D S]):=by
 intro z R w H;refine Af func40 Z ntmps40 Z (Z0 13 [1,1] Z (Ae Z (Bz Z Z (vs:=BN F) J (AB ((H.blk 0 Z).part 1 16 _ (LT _ _ _ _)))) (Zc 4 Z ?_)));refine Aq (σ:=Nat) (λk=>[(12,Aa (k:Int)),(0,V a),(11,.agg (BN F).toArray)])
   (λk w=>Sep z (alB a n F D S::R) w/\(k<=16)) (λk=>16-k) 0
   fr_z ⟨H,by omega⟩ ?_
 clear H;rintro k w ⟨f,c⟩;have H:=f.l1;have e:=c;clear c;refine Z0 6 [0] Z (Ag Z (λh=>?_) (λh=>?_))
 ·refine Zc 7 Z (Ae Z (Eb (m:=16) Z J Z Z Z (j:=k) Z (u:=u64 (bw F k)) (wsV_at F U)) (Zc 7 Z (Ae Z (Pw (q:=0#64) (k:=.u64) Z J Z Z) (Zc 2 Z (Ag Z (λd=>?_) (λd=>?_))))))
  ·exact absurd (bw_zero.2 λj i=>b _ U) d
  refine Z1 7 [] [(k:Int)+1] Z U (gf ?_);intro _ g;refine ⟨(k+1),g.cz,⟨H,?_⟩,?_⟩
  ·omega
  omega
 refine Zc 2 Z (gx (Zc 9 Z (Zr Z ?_)));exact ⟨_,⟨Z,Z⟩,H⟩
section
section late
variable{P:Program}{ops:Array Oper}{Q:Exit->Act->World->Prop}{S:World->Prop}{E:List Nat}
end late
section late2
variable{P:Program}{ops:List Oper}{N R:Act->World->Prop}{X:Nat->Act->World->Prop}{S:World->Prop}{E:List Nat}{a:Act}{w:World}{fuel:Nat}{listed:Array Bool}{n d i:Nat}{ds:List Deferred}{L:List (Nat×Value)}{v:Value}{o:Oper}
end late2
section
variable{P:Program}{o:Oper}{w z:World}{Γ:List Ai}{n:Nat}{ds:List Deferred}{L:List (Nat×Value)}{x:Operand}
def N0(P:Program)(t:TypeId):Bool:=match P.underlying t with
 | some (.slice e)=>(match P.info? e with|some i=>(match i.zero with|some (.int .i64 0)=>true|_=>false)|none=>false)
 | _=>false
theorem RR{t:TypeId}(h:N0 P t=true):∃e i,P.underlying t=some (.slice e)/\P.info? e=some i/\i.zero=some (Aa 0):=by
 unfold N0 at h;split at h
 ·rename_i e a
  split at h
  ·rename_i i c
   split at h
   ·rename_i b;exact ⟨e,i,a,c,b⟩
   cases h
  cases h
 cases h
theorem RS(i:Nat){t:TypeId}{b d k c:Nat}{h:TypeId}{cs:List Value}(H:Sep z Γ w)(r:Γ[i]?=some (blk b cs h))(u:o.op=.call {callee:=.builtin .clear,args:= #[x],argTypes:= #[t]})(hd:N0 P t=true)(hx:ev L x=some (.slice (some ⟨b,d,none⟩) k c))(hk:0<k)(y:d+k<=cs.length):
  BJ P n ds L o w (λv w'=>v=.tuple #[]/\Sep z (Γ.set i (blk b (cs.take d++List.replicate k (Aa 0)++cs.drop (d+k)) h)) w'):=λa hF=>by
 obtain ⟨e,i0,h1,h2,h3⟩:=RR hd;have p:=H.blk i r;have f:=run_storeCells_at P b d h (List.replicate k (Aa 0)) 0 cs.toArray w p (by simpa using y) (λc hc=>by rw[List.mem_replicate.1 hc |>.2];rfl);simp only[X4,Aar,Ze] at f;have s:(zeroValue e).run P w=.ok (Aa 0) w:=by simp[zeroValue,typeInfo,h2,h3,go_sem]
 have l:(Builtin.zeroCells (Value.cells (Aa 0)) k).toList=List.replicate k (Aa 0):=by
  refine Aak (by simp[Builtin.zeroCells,Value.cells]) λj g1 g2=>?_;simp[Builtin.zeroCells,Value.cells,Nat.mod_one]
 have g:(Builtin.clear_ #[t] o.type #[.slice (some ⟨b,d,none⟩) k c]).run P w=.ok (.tuple #[]) (w.setRow b (cs.take d++List.replicate k (Aa 0)++cs.drop (d+k)).toArray):=by
  obtain ⟨m,rfl⟩:∃m,k=m+1:=⟨k-1,by omega⟩;simp only[Builtin.clear_,YK,YP,Yc,run_underlying h1,X6,s,l,f,Yh]
 refine ⟨.tuple #[],w.setRow b (cs.take d++List.replicate k (Aa 0)++cs.drop (d+k)).toArray,?_,Z,H.write i r Z Z Z (setRow_heap w b _ _ h (0,0) p) (λq hq=>setRow_other w b q _ hq)⟩;simp only[execOp,u,resolve,invoke,builtin,Yc,Yh,X6,Yt,Yn,YW,hF.ev hx,g]
end
end
theorem Aj(k:Nat)(ns:List Int):(ns.flatMap (Ad k)).length=k*ns.length:=by
 induction ns with
 | nil=>rfl
 | cons x ns ih=>simp only[YI,XX,Ac,ih,XY];rw[ZG];omega
theorem N1{k:Nat}{ns:List Int}{i:Nat}{x:Int}(h:ns[i]?=some x):(ns.take i).flatMap (Ad k)++Ad k x=(ns.take (i+1)).flatMap (Ad k):=by
 rw[Yd,h];simp
theorem PC(k:Nat)(ns:List Int):∀{j:Nat} {x:Int},ns[j]?=some x->((ns.flatMap (Ad k)).drop (k*j)).take k=Ad k x:=by
 induction ns with
 | nil=>intro j x h;simp at h
 | cons y ys ih=>
  intro j x h
  cases j with
  | zero=>simp at h;subst h;rw[YI,Aav,Yl,YJ (Ac k y)]
  | succ j=>
   rw[YI,show k*(j+1)=(Ad k y).length+k*j by rw[Ac,ZG];omega,Yy,Yj U,Ym,show (Ad k y).length+k*j-(Ad k y).length=k*j by omega];exact ih (by simpa using h)
abbrev EF(ns:List Int):List UInt8:=ns.flatMap (Ad 2)
theorem Gn{ns:List Int}(h:ns.length=120):(EF ns).length=240:=by rw[Aj,h]
theorem RT{L:List UInt8}(h:L.length=240):((AX L).drop 0).take 240=L:=by
 unfold AX;rw[Yl,YJ h]
theorem PD{ns:List Int}(hs:∀x∈ns,0<=x/\x<=1000){j:Nat}{x:Int}(h:ns[j]?=some x):AZ (((EF ns).drop (2*j)).take 2)=x:=by
 rw[PC 2 ns h];have:=hs x (XW h);exact CD this.1 U U
theorem PE{ns:List Int}{i:Nat}{x:Int}(h:ns[i]?=some x):(ns.take i).map Aa++[Aa x]=(ns.take (i+1)).map Aa:=by
 rw[Yd,h];simp
theorem E7(b a k a2:Nat)(x:Int)(bs:List UInt8)(c:bs.length=256)(e:a+k<=256/\k<=8)(d:a+k=a2):
  An 144 [V b,Aa x,Aa (k:Int)] [blk b (AW bs (a:Int)) 204] (λv G=>∃bs':List UInt8,bs'.length=256/\v=.tuple #[]/\G=[blk b (AW bs' (a2:Int)) 204]):=by
 subst d;refine Cn.mono (Ds b a k x bs c e) ?_;rintro v Γ ⟨f,g⟩;exact ⟨_,(Dg (by rw[Ac];omega)).trans c,f,g⟩
def FU:List Value:=List.replicate 48 (.int .i64 0)
theorem Jj{i:Nat}(h:i<8)(k:Nat)(u:Value)(a:([Aa 0,Aa 0,Aa 0,Aa 0,Aa 0,Aa 0]:List Value)[k]?=some u):FU[i*6+k]?=some u:=by
 have b:k<6:=by simpa using (XU.1 a).1
 have:u=Aa 0:=by
  rcases (show k=0\/k=1\/k=2\/k=3\/k=4\/k=5 by omega) with rfl|rfl|rfl|rfl|rfl|rfl<;>simp at a<;>exact a.symm
 subst this;unfold FU;rw[List.getElem?_replicate,if_pos U]
theorem M7(b:Nat)(a:Int)(bs:List UInt8)(c:bs.length=256):An 146 [V b] [blk b (AW bs a) 204] (λv G=>v=.slice (some ⟨b,0,none⟩) 240 240/\G=[blk b (AW bs a) 204]):=by
 intro z R w H;refine Af func146 Z ntmps146 Z (Z0 10 [0] Z (Ae Z (Px (n':=256) (z:=1) Z J Z Z Z (q:=240) Z Z (by decide) (by decide)) (Zc 4 Z (Zr Z ?_))));exact ⟨_,⟨Z,Z⟩,H⟩
theorem Mj(e:Value)(ns:List Int)(l:ns.length=120)(c:∀x∈ns,0<=x/\x<=1000)(A:Ai)(g:∀h,A h->rdH 1 e 120 (ns.map Aa) h):An 103 [e] [A] (λv G=>∃k,v=.tuple #[.slice (some ⟨k,0,none⟩) 240 240,Aa 0]/\G=[blk k (AW (AX (EF ns)) ((2*120:Nat):Int)) 204,A]):=by
 intro z R w H;obtain ⟨ao,m,rfl⟩:=H.sy 0 (λq=>(g _ q).slc);refine Af func103 Z ntmps103 Z (Z0 19 [4] Z (AC Z (BL (P:=prog) H Z (zs:=(AW (AX []) 0)) J) ?_));rintro _ w ⟨a,rfl,H⟩;refine Zc 11 Z ?_;refine Aq (σ:=Nat) (λi=>[(12,Aa (i:Int)),(4,V a),(10,.slice ao 120 m),(11,Aa 120)])
   (λi w=>Sep z (blk a (AW (AX ((ns.take i).flatMap (Ad 2))) ((2*i:Nat):Int)) 204::A::R) w/\(i<=120)) (λi=>120-i) 0
   fr_z ⟨(by simpa using H),by omega⟩ ?_
 clear H;rintro i w ⟨p,f⟩;have H:=p.l2;have o:=f;clear f;refine Z0 6 [0] Z (Ag Z (λy=>?_) (λy=>?_))
 ·obtain ⟨x,d⟩:∃x,ns[i]?=some x:=⟨_,XV U⟩;have n:=c x (XW d)
  refine Zc 6 Z ?_;have b:=(H.rd 1 Z g).at (j:=i) (u:=Aa x) (by simp[d]);refine Ae Z (Az Z (z:=1) (j:=i) (r:=i) J Z Z Z U b U) (Ae Z (AS Z Z J (AB b)) (Zc 7 Z (Ah Z (call122 _) (CJ _ _) H ?_)));intro w H;refine Ae Z (AL Z Z) (Zc 2 Z (Ag Z (λs=>U) (λs=>?_)));refine Zc 4 Z (Ah Z (call144 _) (Ds _ (2*i) 2 x _ (A6 (by first|omega|(simp[Ac,Aj,-List.length_flatMap]<;>omega))) U) H ?_);intro w H;rw[show ((2*i+2:Nat):Int)=(((2*(i+1):Nat):Int):Int) from by omega] at H;rw[show Bp (AX ((ns.take i).flatMap (Ad 2))) (Ad 2 x) (2*i)=AX ((ns.take i).flatMap (Ad 2)++Ad 2 x) from B4 (by first|omega|(simp[Ac,Aj,-List.length_flatMap]<;>omega)) (by first|omega|(simp[Ac,Aj,-List.length_flatMap]<;>omega))] at H;have H:Sep z (blk a (AW (AX ((ns.take i).flatMap (Ad 2)++Ad 2 x)) ((2*(i+1):Nat):Int)) 204::A::R) w:=H;refine Z1 7 [] [(i:Int)+1] Z U (gf ?_);intro _ t;refine ⟨(i+1),t.cz,⟨(by rw[<-N1 d];exact H),?_⟩,?_⟩
  ·omega
  omega
 obtain rfl:i=120:=by omega
 refine Zc 2 Z (gx (Zc 3 Z ?_));rw[XZ U] at H;have H:Sep z (blk a (AW (AX (EF ns)) ((2*120:Nat):Int)) 204::A::R) w:=H;refine Zc 1 Z (Ah Z (call146 _) (M7 _ _ _ (A6 (by first|omega|(simp[Ac,Aj,-List.length_flatMap]<;>omega)))) H ?_);intro w H;refine Zc 5 Z (Zr Z ?_);exact ⟨_,⟨a,Z,Z⟩,H.perm 2 [0,1] Z Z⟩
theorem V7(k:Nat)(d b o n c:Nat)(xs:List UInt8)(A:Ai)(f:∀h,A h->rdH 1 (.slice (some ⟨b,o,none⟩) n c) n (xs.map u8) h)(hn:n<=c)(hk:k<=n)(a1:0<k)(ys:List UInt8)(hy:xs.take k=ys)(t s r:Nat)(i:(if c=k then o else o+k)=t)(g:n-k=s)(e:c-k=r):An 121 [V d,Aa (k:Int)] [blk d [.slice (some ⟨b,o,none⟩) n c] 162,A] (λv G=>v=Aa (AZ ys)/\G=[blk d [.slice (some ⟨b,t,none⟩) s r] 162,A]):=by
 intro z R w H;subst hy i g e;have a0:=H.sy 1 (λq=>(f _ q).len);have y:=H.sy 1 (λq=>(f _ q).cap);refine Af func121 Z ntmps121 Z (Z2 18 [0,0,0] H Z (Ae Z (A9 Z (z:=1) (p:=0) (q:=k) (o':=o) (l':=k) (c':=c) J Z (.inl ⟨Z,Z⟩) (.inr ⟨_,_,_,Z,Z,Z⟩) U U U U U U) (Zc 5 Z ?_)));refine Aq (σ:=Nat) (λj=>[(15,Aa (j:Int)),(5,Aa (AZ (xs.take j))),(0,V d),(1,Aa (k:Int)),(4,Aa 0),(13,.slice (some ⟨b,o,none⟩) k c),(14,Aa (k:Int))])
   (λj w=>Sep z (blk d [.slice (some ⟨b,o,none⟩) n c] 162::A::R) w/\(j<=k)) (λj=>k-j) 0
   (λ_ a=>(a.co Z (by go_num) a.cz)) ⟨H,by omega⟩ ?_
 clear H;rintro j w ⟨H',l⟩;have H:=H'.l2;have a2:=l;clear l;refine Z0 6 [0] Z (Ag Z (λh1=>?_) (λh1=>?_))
 ·obtain ⟨x,u⟩:∃x,xs[j]?=some x:=⟨_,XV U⟩;refine Z1 7 [1,j,o+j] [] Z U (Ae Z (AY Z Z J (AB (H.cell 1 Z (λh q=>(f h q).at u)))) (Zc 5 Z (Ae Z (OR Z Z Z (m:=8) Z (by decide)) (Zc 1 Z (Ae Z (KG Z J Z) (Ae Z (SX Z Z Z (K2 _) ⟨by omega,by have:=x.toNat_lt;omega⟩) (Z1 8 [] [(j:Int)+1] Z U (gf ?_))))))));intro _ a;refine ⟨(j+1),(a.co Z (by go_num) (a.co Z (congrArg Aa (G7 u)) (a.all Z))),⟨H,?_⟩,?_⟩
  ·omega
  omega
 obtain rfl:j=k:=by omega
 refine Zc 2 Z (gx (Z2 10 [0,0,0] H Z (Ae Z (RN Z (z:=1) J Z Z (p:=j) Z U U (o':=if c=j then o else o+j) (l':=n-j) (c':=c-j) (by rw[YR]) Z Z) (Z4 12 [0,0] H Z ?_))));intro w H;refine Zr Z ?_;exact ⟨_,⟨Z,Z⟩,H⟩
theorem Mk(b o c:Nat)(bd:List UInt8)(A:Ai)(k:∀h,A h->rdH 1 (.slice (some ⟨b,o,none⟩) 240 c) 240 (bd.map u8) h)(ns:List Int)(a1:ns.length=120)(a:∀x∈ns,0<=x/\x<=1000)(s:bd=EF ns):An 136 [.slice (some ⟨b,o,none⟩) 240 c] [A] (λv G=>∃u,v=.tuple #[u,.bool true]/\G=[grow 3 1 u 120 (ns.map Aa),A]):=by
 intro z R w H;have a3:=H.sy 0 (λq=>(k _ q).cap);refine Af func136 Z ntmps136 Z (Za 21 [4] H Z ?_);intro l w H;refine Z4 10 [0] H Z ?_;intro w H;replace H:=(H.nilg 3 1).l3;refine Zc 5 Z ?_;refine Aq (σ:=Nat×Value×Nat) (λ⟨i,v,x⟩=>[(12,Aa (i:Int)),(5,v),(4,V l)])
   (λ⟨i,v,x⟩ w=>Sep z (grow 3 1 v i ((ns.take i).map Aa)::blk l [.slice (some ⟨b,x,none⟩) (240-2*i) (c-2*i)] 162::A::R) w/\(i<=120/\(i<120->x=o+2*i))) (λ⟨i,v,x⟩=>120-i) ⟨0,.slice none 0 0,o⟩
   (λ_ f=>(f.co Z (by go_num) f.cz)) ⟨H,⟨by omega,λ_=>rfl⟩⟩ ?_
 clear H;rintro ⟨i,v,x⟩ w ⟨e,hI⟩;dsimp only at hI e ⊢;have H:=e.l3;have sv:=H.sy 0 (·.slc);obtain ⟨a5,t⟩:=hI;refine Z0 6 [0] Z (Ag Z (λh1=>?_) (λh1=>?_))
 ·have j:i<120:=by omega
  have g:=t j;obtain ⟨y,r⟩:∃y,ns[i]?=some y:=⟨_,XV U⟩;have a2:=a y (XW r);have n:AZ ((bd.drop (2*i)).take 2)=y:=by rw[s];exact PD a r
  refine Zc 6 Z (Ah Z (call121 _) (V7 2 _ b x (240-2*i) (c-2*i) ((bd.drop (2*i)).take (240-2*i)) _ (λh q=>by have:=(k h q).cut (lo:=2*i) (m:=240-2*i) (c':=c-2*i) U U U;rw[g];exact this) U U U ((bd.drop (2*i)).take 2) (by rw[YA,YC U]) (if c-2*i=2 then x else x+2) (240-2*(i+1)) (c-2*(i+1)) Z U U) H.f2.f2 ?_);intro w H;refine k_updA 14 (v:=Aa y) Z (congrArg Aa n) (Zc 7 Z (Ah Z (call122 _) (CJ _ _) H ?_));intro w H;refine Ae Z (AL Z Z) (Zc 2 Z (Ag Z (λh2=>U) (λh2=>?_)));refine Zc 5 Z (AC Z (AI H Z J BW Z (by decide) (by decide) (out:=[Aa y]) J) ?_);rintro _ w ⟨b2,rfl,H⟩;refine AC Z (AJ 3 H Z Z J BW Z Z (H.rv 0 (·.rd U U O Z)) (by simp[Value.oneCell']) U) ?_;rintro v3 w e;have e:Sep z (blk b2 [Aa y] 3::blk l [.slice (some ⟨b,(if c-2*i=2 then x else x+2),none⟩) (240-2*(i+1)) (c-2*(i+1))] 162::A::grow 3 1 v3 (i+1) ((ns.take i).map Aa++[Aa y])::R) w:=e;have p:((ns.take i).map Aa++[Aa y]:List Value)=(ns.take (i+1)).map Aa:=(PE r);rw[p] at e;have H:=e.l4;refine Z1 8 [] [(i:Int)+1] Z U ?_;replace H:=H.d.f1.f1.f2;refine gf ?_;intro _ f;refine ⟨⟨i+1,v3,if c-2*i=2 then x else x+2⟩,f.cz,⟨H,?_⟩,?_⟩
  ·refine ⟨by dsimp only;omega,λq=>?_⟩;dsimp only at q ⊢;rw[if_neg U];omega
  omega
 obtain rfl:i=120:=by omega
 refine Zc 2 Z (gx (Zc 10 Z (Zr Z ?_)));rw[XZ U] at H;exact ⟨_,⟨v,Z,Z⟩,H.perm 3 [0,2] Z Z⟩
theorem RU:An 145 [.agg #[Aa 0,Aa 0,Aa 0,Aa 0,Aa 0,Aa 0]] [] (λv G=>v=.bool true/\G=[]):=by
 intro z R w H;refine Af func145 Z ntmps145 Z (Za 2 [] H Z ?_);intro f w H;refine Z2 7 [0,0,0] H Z (Ah Z (call122 _) (CJ _ _) H ?_);intro w H;refine Zc 1 Z (Am 6 Z (λc=>?_) (λc=>?_))
 ·refine Z2 2 [1,0,0] H Z (Ah Z (call122 _) (CJ _ _) H ?_);intro w H;refine Zc 2 Z (Am 11 Z (λe=>?_) (λe=>?_))
  ·refine Z2 2 [2,0,0] H Z (Ah Z (call122 _) (CJ _ _) H ?_);intro w H;refine Zc 2 Z (Am 16 Z (λd=>?_) (λd=>?_))
   ·refine Z2 2 [3,0,0] H Z (Ah Z (call122 _) (CJ _ _) H ?_);intro w H;refine Zc 2 Z (Am 21 Z (λb=>?_) (λb=>?_))
    ·refine Z2 2 [4,0,0] H Z (Ah Z (call122 _) (CJ _ _) H ?_);intro w H;refine Zc 2 Z (Am 26 Z (λa=>?_) (λa=>?_))
     ·refine Z2 2 [5,0,0] H Z (Ah Z (call122 _) (CJ _ _) H ?_);intro w H;refine Zc 5 Z (Zr Z ?_);exact ⟨_,⟨congrArg Value.bool (by first|rfl|decide),Z⟩,H.perm 1 [] Z Z⟩
     (exfalso;omega)
    (exfalso;omega)
   (exfalso;omega)
  (exfalso;omega)
 (exfalso;omega)
theorem RV(vv:Value)(A:Ai)(s:∀h,A h->rdH 6 vv 8 FU h):An 87 [.agg #[Aa 1,vv,.slice none 0 0]] [A] (λv G=>∃(pw:Nat) (bs:List UInt8),bs.length=256/\v=.tuple #[.slice (some ⟨pw,0,none⟩) 240 240,Aa 0]/\G=[blk pw (AW bs ((21+19*8:Nat):Int)) 204,A]):=by
 intro z R w H;replace H:=H.l1;obtain ⟨x,t,rfl⟩:=H.sy 0 (λq=>(s _ q).slc);refine Af func87 Z ntmps87 Z (Za 2 [] H Z ?_);intro b1 w H;refine Z2 9 [0,0,0] H Z (Ah Z (call122 _) (CJ _ _) H ?_);intro w H;replace H:=H.l2;refine Ae Z (AL Z Z) (Zc 1 Z (Am 13 Z (λh1=>U) (λh1=>?_)));refine Z2 18 [2,0,0,4,1,0,0,4] H Z (AC Z (BL (P:=prog) H Z (zs:=(AW (AX []) 0)) J) ?_);rintro _ w ⟨p,rfl,H⟩;replace H:=H.l3;refine Zc 3 Z ?_;have H:Sep z (blk p (AW (AX []) ((0:Nat):Int)) 204::blk b1 [Aa 1,.slice x 8 t,.slice none 0 0] 139::A::R) w:=H;refine Z2 3 [0,1,0] H Z (AA Z (call144 _) (E7 _ 0 4 4 1 _ (A6 (by decide)) U U) H ?_);rintro _ w _ ⟨a3,l,rfl,rfl⟩ H;refine Z2 7 [2,1,0] H Z (AA Z (call144 _) (E7 _ 4 1 5 0 _ l U U) H ?_);rintro _ w _ ⟨o,a,rfl,rfl⟩ H;refine Z2 12 [2,1,0] H Z (Iq 1 (El (Z0 9 [4] Z (gx (Z0 5 [256] Z (A0 Z Z (AE 0 H Z Z Z Z (vs:=[Aa 21]) Z (Al Z AK) J (by rw[Ej _ a];simp) (out:=(AW o 21)) (Hs _ _ a)) ?_))))));rintro w H;replace H:=H.l3;refine Z2 12 [1,1,0] H Z ?_;refine Aq (σ:=Nat×List UInt8) (λ⟨i,bs⟩=>[(49,Aa (i:Int)),(4,V p),(47,.slice x 8 t),(48,Aa 8)])
   (λ⟨i,bs⟩ w=>Sep z (blk p (AW bs ((21+19*i:Nat):Int)) 204::blk b1 [Aa 1,.slice x 8 t,.slice none 0 0] 139::A::R) w/\(i<=8/\bs.length=256)) (λ⟨i,bs⟩=>8-i) ⟨0,o⟩
   fr_z ⟨H,⟨by omega,a⟩⟩ ?_
 clear H;rintro ⟨i,bs⟩ w ⟨H',hI⟩;dsimp only at hI H' ⊢;have H:=H'.l3;obtain ⟨a4,c⟩:=hI;refine Z0 6 [0] Z (Ag Z (λh2=>?_) (λh2=>?_))
 ·refine Zc 6 Z ?_;have y:=(H.rd 2 Z s).at (Jj (i:=i) U 0 _ Z)
  refine Ae Z (Az Z (z:=6) (j:=i) (r:=i*6) J Z Z Z U y U) (Ae Z (B7 Z Z (vs:=[Aa 0,Aa 0,Aa 0,Aa 0,Aa 0,Aa 0]) J O (AB (λk u hk=>(H.rd 2 Z s).at (Jj (i:=i) U k u hk)))) (Za 0 [] H Z ?_));intro b5 w H;refine Z4 7 [0,0,6] H Z ?_;intro w H;refine Ah Z (call145 _) (RU) H ?_;intro w H;refine Z2 10 [0,0,0] H Z (AA Z (call144 _) (E7 _ (21+19*i) 4 (21+19*i+4) 0 _ c U U) H.f1 ?_);rintro _ w _ ⟨a7,n,rfl,rfl⟩ H;refine Z2 6 [1,1,0] H Z (AA Z (call144 _) (E7 _ (21+19*i+4) 1 (21+19*i+5) 0 _ n U U) H ?_);rintro _ w _ ⟨a5,m,rfl,rfl⟩ H;refine Z2 6 [2,1,0] H Z (AA Z (call144 _) (E7 _ (21+19*i+5) 4 (21+19*i+9) 0 _ m U U) H ?_);rintro _ w _ ⟨a6,e,rfl,rfl⟩ H;refine Z2 6 [3,1,0] H Z (AA Z (call144 _) (E7 _ (21+19*i+9) 4 (21+19*i+13) 0 _ e U U) H ?_);rintro _ w _ ⟨a2,f,rfl,rfl⟩ H;refine Z2 6 [4,1,0] H Z (AA Z (call144 _) (E7 _ (21+19*i+13) 2 (21+19*i+15) 0 _ f U U) H ?_);rintro _ w _ ⟨a1,b,rfl,rfl⟩ H;refine Z2 5 [5,1,0] H Z (AA Z (call144 _) (E7 _ (21+19*i+15) 4 (21+19*(i+1)) 0 _ b U U) H ?_);rintro _ w _ ⟨g,a0,rfl,rfl⟩ H;refine Z1 7 [] [(i:Int)+1] Z U ?_;replace H:=H.f1.d;refine gf ?_;intro _ hF;refine ⟨⟨i+1,g⟩,hF.cz,⟨H,?_⟩,?_⟩
  ·dsimp only;exact ⟨by omega,by assumption⟩
  omega
 obtain rfl:i=8:=by omega
 refine Zc 2 Z (gx (Zc 4 Z (Ah Z (call146 _) (M7 _ _ _ c) H ?_)));intro w H;refine Zc 5 Z (Zr Z ?_);exact ⟨_,⟨p,bs,c,Z,Z⟩,H.perm 3 [0,2] Z Z⟩
def cnL(C:Nat->Nat)(n:Nat):List Value:=(List.range n).map λk=>.int .i64 (C k:Int)
abbrev AV(bn:Nat)(C:Nat->Nat)(n:Nat):Ai:=blk bn (cnL C n) 3
abbrev coB(pc bn n m:Nat):Ai:=blk pc [.slice (some ⟨bn,0,none⟩) n n,.map (some m)] 154
def updN(C:Nat->Nat)(p x:Nat):Nat->Nat:=λq=>if q=p then x else C q
theorem Cc(C:Nat->Nat)(n:Nat):(cnL C n).length=n:=by simp[cnL]
theorem cnL_at(C:Nat->Nat){n k:Nat}(h:k<n):(cnL C n)[k]?=some (Aa (C k:Int)):=by simp[cnL,h]
theorem EU(C:Nat->Nat){n k x:Nat}{y:Int}(h:k<n)(d:y=(x:Int)):(cnL C n).take k++[Aa y]++(cnL C n).drop (k+1)=cnL (updN C k x) n:=by
 subst d;have e:=Zj (l:=cnL C n) (i:=k) (a:=Aa (x:Int));rw[if_pos (by rw[Cc];exact h)] at e;rw[X1,ZU,<-e];refine YY λj=>?_;rw[YV];rcases Yg j n with c|c
 ·rw[cnL_at (updN C k x) c]
  split
  ·rename_i b;subst b;rw[if_pos (by rw[Cc];exact h)];simp[updN]
  rename_i b;rw[cnL_at C c];simp[updN,ZB b]
 rw[Yp (by rw[Cc];exact c),Yp (by rw[Cc];exact c)];split
 ·rename_i b;subst b;rw[if_neg (by rw[Cc];omega)]
 rfl
structure WasOk(C C0:Nat->Nat)(n:Nat)(l:List IE)(clk:Nat):Prop where
 clk:∀p∈l,p.2.2<clk
 born:(l.map λp:IE=>p.2.2).Nodup
 keys:(l.map λp:IE=>p.1).Nodup
 ent:∀p∈l,∃k:Nat,p.1=(k:Int)/\k<n/\p.2.1=.int .i64 (C0 k:Int)
 rest:∀k,k<n->(∀p∈l,p.1≠(k:Int))->C k=C0 k
theorem WasOk.nil(C:Nat->Nat)(n clk:Nat):WasOk C C n [] clk:=⟨by simp,by simp,by simp,by simp,λ_ _ _=>rfl⟩
theorem Ku:∀{l:List IE} {k:Int},Ck l k=none->∀p∈l,p.1≠k
 | [],_,_,p,h=>by simp at h
 | q::l,k,h,p,hp=>by
  simp only[Ck] at h;split at h
  ·cases h
  rename_i hne;rcases YL.1 hp with rfl|hp
  ·exact λe=>hne e.symm
  exact Ku h p hp
theorem Kv:∀{l:List IE} {k:Int} {v:Value},Ck l k=some v->∃p∈l,p.1=k/\p.2.1=v
 | [],_,_,h=>by simp[Ck] at h
 | q::l,k,v,h=>by
  simp only[Ck] at h;split at h
  ·rename_i e;simp at h;exact ⟨q,by simp,e.symm,h⟩
  obtain ⟨p,hp,h1,h2⟩:=Kv h;exact ⟨p,by simp[hp],h1,h2⟩
theorem WasOk.has{C C0:Nat->Nat}{n clk p:Nat}{l:List IE}(W:WasOk C C0 n l clk)(h:Cd l (p:Int)=true)(x:Nat):WasOk (updN C p x) C0 n l clk:=by
 refine ⟨W.clk,W.born,W.keys,W.ent,λk b a=>?_⟩;unfold updN;split
 ·rename_i e;subst e
  obtain ⟨v,d⟩:=YE.1 h;obtain ⟨q,hq,c,_⟩:=Kv d;exact absurd c (a q hq)
 exact W.rest k b a
theorem WasOk.put{C C0:Nat->Nat}{n clk p:Nat}{l:List IE}(W:WasOk C C0 n l clk)(hp:p<n)(h:Cd l (p:Int)=false)(x:Nat):
  WasOk (updN C p x) C0 n (D6 l (p:Int) (Aa (C p:Int)) clk) (putC l (p:Int) clk):=by
 have c:∀q∈l,q.1≠(p:Int):=Ku (by unfold Cd at h;simpa using h);have j:D6 l (p:Int) (Aa (C p:Int)) clk=l++[((p:Int),Aa (C p:Int),clk)]:=by unfold D6;rw[h];rfl
 have i:putC l (p:Int) clk=clk+1:=by unfold putC;rw[h];rfl
 have o:C p=C0 p:=W.rest p hp c;rw[j,i];refine ⟨λq hq=>?_,?_,?_,λq hq=>?_,λk m f=>?_⟩
 ·rcases Yr.1 hq with hq|hq
  ·have:=W.clk q hq;omega
  simp at hq;subst hq;simp
 ·rw[Yi,Y6]
  refine ⟨W.born,by simp,λa g b d=>?_⟩;simp at d;subst d;obtain ⟨q,hq,rfl⟩:=X5.1 g;have:=W.clk q hq;omega
 ·rw[Yi,Y6]
  refine ⟨W.keys,by simp,λa g b d=>?_⟩;simp at d;subst d;obtain ⟨q,hq,rfl⟩:=X5.1 g;exact c q hq
 ·rcases Yr.1 hq with hq|hq
  ·exact W.ent q hq
  simp at hq;subst hq;exact ⟨p,Z,hp,by rw[o]⟩
 unfold updN;split
 ·rename_i e;subst e
  exact absurd Z (f ((k:Int),Aa (C k:Int),clk) O)
 exact W.rest k m (λq hq=>f q (by simp[hq]))
theorem WasOk.len{C C0:Nat->Nat}{n clk:Nat}{l:List IE}(W:WasOk C C0 n l clk):l.length<=n:=by
 have h:=Hz (s:=l.map λp:IE=>p.1) (l:=(List.range n).map λk:Nat=>(k:Int)) W.keys (λx b=>by
  obtain ⟨p,hp,rfl⟩:=X5.1 b;obtain ⟨k,a,c,_⟩:=W.ent p hp;rw[a];exact X5.2 ⟨k,Y2.2 c,Z⟩)
 simpa using h
def manyN(n:Nat):Nat:=(n+119)/120
def B8(C:Nat->Nat)(n i:Nat):List Int:=(List.range 120).map λk=>if 120*i+k<n then (C (120*i+k):Int) else 0
theorem Db(C:Nat->Nat)(n i:Nat):(B8 C n i).length=120:=by simp[B8]
theorem Jk{C:Nat->Nat}(h:∀k,C k<=1000)(n i:Nat):∀x∈B8 C n i,0<=x/\x<=1000:=λx a=>by
 simp only[B8,X5] at a;obtain ⟨k,_,rfl⟩:=a;split
 ·have:=h (120*i+k);omega
 omega
theorem RX(C:Nat->Nat)(n i:Nat)(d:120*i<n):(List.replicate 120 (Aa 0)).take 0++((cnL C n).drop (120*i)).take (min (n-120*i) 120)++(List.replicate 120 (Aa 0)).drop (0+min (n-120*i) 120)=(B8 C n i).map Aa:=by
 rw[Aa3,Ym,Y8];refine YY λj=>?_;have b:(((cnL C n).drop (120*i)).take (min (n-120*i) 120)).length=min (n-120*i) 120:=by rw[X2,Yv,Cc];omega
 rcases Yg j 120 with a|a
 ·have c:((B8 C n i).map Aa)[j]?=some (Aa (if 120*i+j<n then (C (120*i+j):Int) else 0)):=by simp[B8,a]
  rw[c];rcases Yg j (min (n-120*i) 120) with h|h
  ·rw[Yb U,YB,if_pos h,YQ,cnL_at C U,if_pos U]
  rw[Ya U,b,YQ,List.getElem?_replicate,if_pos U,if_neg U]
 rw[Yp (by rw[XX,b,Yv,X4];omega),Yp (by simp[B8];omega)]
theorem Us(C:Nat->Nat)(n:Nat):∀c∈cnL C n,c.oneCell'=true:=λc a=>by
 simp only[cnL,X5] at a;obtain ⟨k,_,rfl⟩:=a;rfl
def DB(C:Nat->Nat)(i:Nat)(ns:List Int)(j:Nat):Nat->Nat:=λp=>if p/120=i/\p%120<j then (ns.getD (p%120) 0).toNat else C p
theorem Iz(C:Nat->Nat)(i:Nat)(ns:List Int):DB C i ns 0=C:=by funext p;simp[DB]
theorem IA(C:Nat->Nat){i j:Nat}{ns:List Int}{x:Int}(c:j<120)(a:ns[j]?=some x)(b:0<=x):updN (DB C i ns j) (120*i+j) x.toNat=DB C i ns (j+1):=by
 funext p;unfold updN DB;split
 ·rename_i e;subst e
  rw[if_pos ⟨by omega,by omega⟩,show (120*i+j)%120=j by omega];simp[List.getD,a]
 rename_i e;by_cases h:p/120=i/\p%120<j
 ·rw[if_pos h,if_pos ⟨h.1,by omega⟩]
 rw[if_neg h,if_neg (λq=>h ⟨q.1,by omega⟩)]
theorem RY(C:Nat->Nat){n i j:Nat}{ns:List Int}(h:n<=120*i+j)(a:j<120):cnL (DB C i ns j) n=cnL (DB C i ns (j+1)) n:=by
 refine YY λp=>?_;rcases Yg p n with hp|hp
 ·rw[cnL_at _ hp,cnL_at _ hp]
  unfold DB;by_cases q:p/120=i/\p%120<j
  ·rw[if_pos q,if_pos ⟨q.1,by omega⟩]
  rw[if_neg q,if_neg (λr=>q ⟨r.1,by omega⟩)]
 rw[Yp (by rw[Cc];exact hp),Yp (by rw[Cc];exact hp)]
theorem RZ{L:List Int}{rest:List Value}{k:Nat}{x:Int}(b:k<L.length):(L.map Aa++rest).take k++[Aa x]++(L.map Aa++rest).drop (k+1)=(L.set k x).map Aa++rest:=by
 rw[X7 (by simp;omega),Yz (by simp;omega)];have e:=Zj (l:=L) (i:=k) (a:=x);rw[if_pos b] at e;rw[e];simp[ZM,List.map_drop]
theorem FE{L:List Int}{rest:List Value}{k:Nat}{x:Int}(a:L[k]?=some x):(L.map Aa++rest)[k]?=some (Aa x):=by
 rw[Yb (by simpa using (XU.1 a).1),X9,a];rfl
structure CpI(ys:List Int)(n k0 k j:Nat)(L:List Int):Prop where
 k0k:k0<=k
 kj:k+1<=k0+j
 j1:1<=j
 jn:k0+j<=n
 len:L.length=n
 same:∀i,k0+j<=i+1->L[i]?=ys[i]?
 mem:∀x,x∈L.take k↔x∈ys.take (k0+j)
theorem DZ{l:List Int}{k:Nat}{x:Int}(h:l[k]?=some x)(z:Int):z∈l.take (k+1)↔z∈l.take k\/z=x:=by
 rw[Yd,h];simp
theorem CpI.start{ys:List Int}{n k:Nat}{x:Int}(c:ys.length=n)(f:1<=k)(d:k<n)(b:ys[k]?=some x)(a:ys[k-1]?=some x):CpI ys n k k 1 ys:=by
 refine ⟨Yo _,Yo _,Yo _,by omega,c,λ_ _=>rfl,λz=>?_⟩;rw[DZ b];refine ⟨.inl,λh=>h.elim id λe=>?_⟩;subst e;exact AaN.2 ⟨k-1,by have:=(XU.1 a).1;omega,(XU.1 a).2⟩
theorem CpI.skip{ys L:List Int}{n a k j:Nat}{x:Int}(I_:CpI ys n a k j L)(b:ys[a+j]?=some x)(c:ys[a+(j-1)]?=some x):CpI ys n a k (j+1) L:=by
 have l:=I_.j1;have d:=(XU.1 b).1;refine ⟨I_.k0k,by have:=I_.kj;omega,by omega,?_,I_.len,λi g=>I_.same i U,λz=>?_⟩
 ·have hs:=I_.same (a+j) U
  rw[b] at hs;have:=(XU.1 hs).1;have:=I_.len;omega
 rw[<-Zt,DZ b,I_.mem z];refine ⟨.inl,λh=>h.elim id λe=>?_⟩;subst e;exact AaN.2 ⟨a+(j-1),by have:=(XU.1 c).1;omega,(XU.1 c).2⟩
theorem CpI.put{ys L:List Int}{n a k j:Nat}{x:Int}(I_:CpI ys n a k j L)(b:ys[a+j]?=some x):CpI ys n a (k+1) (j+1) (L.set k x):=by
 have h:=I_.j1;have f:=I_.kj;have c:=I_.len;have hs:=I_.same (a+j) U;rw[b] at hs;have d:=(XU.1 hs).1;have e:(L.set k x)[k]?=some x:=by rw[YV];simp;omega
 refine ⟨by have:=I_.k0k;omega,by omega,by omega,by omega,by simpa using I_.len,λi g=>?_,λz=>?_⟩
 ·rw[YV,if_neg U];exact I_.same i U
 rw[DZ e,<-Zt,DZ b,<-I_.mem z,List.take_set_of_le (Yo _)]
def Er(C C0:Nat->Nat)(s:List IE):List Int:=(s.filter λp=>decide (C0 p.1.toNat≠C p.1.toNat)).map λp=>p.1/120
theorem M8{C C0:Nat->Nat}{s:List IE}{p:IE}{k:Nat}(a:p.1=(k:Int))(h:(C0 k:Int)≠(C k:Int)):Er C C0 (s++[p])=Er C C0 s++[(k:Int)/120]:=by
 unfold Er;have:decide (C0 k≠C k)=true:=decide_eq_true (λe=>h (by rw[e]));rw[List.filter_append,Yi];congr 1;simp only[List.filter,a,Yw,this];simp[a]
theorem R0{C C0:Nat->Nat}{s:List IE}{p:IE}{k:Nat}(a:p.1=(k:Int))(h:(C0 k:Int)=(C k:Int)):Er C C0 (s++[p])=Er C C0 s:=by
 unfold Er;have:decide (C0 k≠C k)=false:=decide_eq_false (λe=>e U);rw[List.filter_append,Yi];simp only[List.filter,a,Yw,this];simp
theorem V8(C C0:Nat->Nat)(s:List IE):(Er C C0 s).length<=s.length:=by unfold Er;rw[X8];exact List.length_filter_le _ _
theorem Ut{C C0:Nat->Nat}{n clk:Nat}{l s:List IE}(W:WasOk C C0 n l clk)(hs:s.Perm l)(x:Int):x∈Er C C0 s↔∃k:Nat,k<n/\C k≠C0 k/\x=((k/120:Nat):Int):=by
 unfold Er;simp only[X5,Aa0,decide_eq_true_eq];constructor
 ·rintro ⟨p,⟨hp,a⟩,rfl⟩
  obtain ⟨k,b,f,_⟩:=W.ent p (hs.mem_iff.1 hp);rw[b,Yw] at a;exact ⟨k,f,λe=>a e.symm,by rw[b];omega⟩
 rintro ⟨k,d,a,rfl⟩;have:∃p∈l,p.1=(k:Int):=by
  refine Aab λc=>a (W.rest k d λp hp e=>c ⟨p,hp,e⟩)
 obtain ⟨p,hp,b⟩:=this;exact ⟨p,⟨hs.mem_iff.2 hp,by rw[b,Yw];exact λe=>a e.symm⟩,by rw[b];omega⟩
theorem S8(n:Int):An 108 [Aa n] [] (λv G=>v=.bool (decide (16<=n/\n<=1024))/\G=[]):=by
 intro z R w H;refine Af func108 Z ntmps108 Z (Z0 10 [0] Z (Am 5 Z (λa=>?_) (λa=>?_)))
 ·refine Z0 7 [0] Z (Zr Z ?_);exact ⟨_,⟨congrArg Value.bool (by first|(rw[Yf];simp<;>omega)|(simp<;>omega)),Z⟩,H⟩
 refine Zc 7 Z (Zr Z ?_);exact ⟨_,⟨congrArg Value.bool (by first|(rw[Yf];simp<;>omega)|(simp<;>omega)),Z⟩,H⟩
theorem FF(n:Nat)(b:16<=n/\n<=1024):An 51 [Aa (n:Int)] [] (λv G=>v=Aa (manyN n:Int)/\G=[]):=by
 intro z R w H;refine Af func51 Z ntmps51 Z (Zc 9 Z (Ah Z (call108 _) (S8 _) H ?_));intro w H;refine Ae Z (AL Z Z) (Zc 2 Z (Ag Z (λa=>U) (λa=>?_)));refine Z1 12 [] [(n:Int)+120,((n:Int)+120)-1,(((n:Int)+120)-1)/120] Z U (Zr Z ?_);exact ⟨_,⟨congrArg Aa (by unfold manyN;omega),Z⟩,H⟩
theorem PF(n:Nat)(h:16<=n/\n<=1024):An 79 [Aa (n:Int)] [] (λv G=>∃a b m:Nat,v=.tuple #[V a,Aa 0]/\G=[coB a b n m,AV b (λ_=>0) n,AG m [] 0]):=by
 intro z R w H;refine Af func79 Z ntmps79 Z (Zc 10 Z (Ah Z (call108 _) (S8 _) H ?_));intro w H;refine Ae Z (AL Z Z) (Zc 2 Z (Ag Z (λc=>U) (λc=>?_)));refine Zc 5 Z (AC Z (C5 (k:=n) H Z J BW Z Z Z U) ?_);rintro _ w ⟨g,rfl,H⟩;refine AC Z (E2 H Z) ?_;rintro _ w ⟨d,rfl,H⟩;refine Za 1 [] H Z ?_;intro f w H;refine Zc 5 Z (Zr Z ?_);have e:List.replicate n (Aa 0)=cnL (λ_=>0) n:=by
   unfold cnL;rw[Aa1,Aah];rfl
 rw[e] at H;exact ⟨_,⟨f,g,d,Z,Z⟩,H.perm 3 [0,2,1] Z Z⟩
theorem EG(b a m n:Nat)(C:Nat->Nat)(p:Nat)(hp:p<n)(e:16<=n/\n<=1024):An 50 [V b,Aa (p:Int)] [coB b a n m,AV a C n] (λv G=>v=Aa (C p:Int)/\G=[coB b a n m,AV a C n]):=by
 intro z R w H;refine Af func50 Z ntmps50 Z (Z0 11 [0] Z (Am 7 Z (λc=>U) (λc=>?_)));refine Z2 10 [0,0,0,0] H Z (Ag Z (λd=>U) (λd=>?_));refine Z3 10 [0,0,0,1,p,p] [] H Z U (Ae Z (AY Z Z J (AB (H.cel 1 Z p (cnL_at _ U)))) (Zc 4 Z (Zr Z ?_)));exact ⟨_,⟨Z,Z⟩,H⟩
theorem Hg(c b m n:Nat)(C:Nat->Nat)(C0:Nat->Nat)(l:List IE)(clk p x:Nat)(y:Int)(hp:p<n)(t:16<=n/\n<=1024)(hx:(C p:Int)+y=x)(i:x<=1000)(u:C p<=1000)(W:WasOk C C0 n l clk):An 43 [V c,Aa (p:Int),Aa y] [coB c b n m,AV b C n,AG m l clk] (λv G=>∃(f:List IE) (a:Nat),WasOk (updN C p x) C0 n f a/\v=Aa 0/\G=[coB c b n m,AV b (updN C p x) n,AG m f a]):=by
 intro z R w H;replace H:=H.l3;refine Af func43 Z ntmps43 Z (Z0 11 [0] Z (Am 11 Z (λq=>U) (λq=>?_)));refine Z2 10 [0,0,0,0] H Z (Ag Z (λk=>U) (λk=>?_));refine Z3 12 [0,0,0,1,p,p] [] H Z U (Ae Z (AY Z Z J (AB (H.cel 1 Z p (cnL_at _ U)))) (Z1 3 [0] [1000-(C p:Int)] Z U (Am 30 Z (λs=>U) (λs=>?_))));refine Z3 7 [0,0,0,1,p,p] [] H Z U (Ae Z (AY Z Z J (AB (H.cel 1 Z p (cnL_at _ U)))) (Ae Z (Mu Z Z (r:= -(C p:Int)) U U) (Z0 4 [0] Z (Ag Z (λh=>U) (λh=>?_)))));refine Z2 10 [1,0,0] H Z (Ae Z (CR (e:=3) (zv:=Aa 0) Z J J Z Z (AB (H.bk 2 Z))) (Zc 13 Z (Fy Z (λd=>?_) (λd=>?_))))
 ·have o:Cd l (p:Int)=false:=by simpa using d
  refine Bo 12 J J (A8 H λw j=>?_);have H:=j.l3;refine CC 11 [1,0,0,0,0,0,1,p,p] [] H Z J U (B3 Z Z Z (AY Z Z J (AB (H.cel 1 Z p (cnL_at _ U)))) (Ce (gw (A0 Z Z (CV 2 (e:=3) H Z Z J Z Z Z) ?_))));rintro w H;replace H:=H.l3;refine Z3 10 [0,0,0,1,p,p] [] H Z U (Ae Z (AY Z Z J (AB (H.cel 1 Z p (cnL_at _ U)))) (Z1 3 [1,p,p] [(x:Int)] Z U (A0 Z Z (AE 1 H Z Z Z Z (vs:=[Aa (x:Int)]) Z (Al Z AK) J (by simp only[Cc,XY,X3];omega) (out:=cnL (updN C p x) n) (EU _ U Z)) ?_)));rintro w H;replace H:=H.l3;refine Zc 8 Z (Zr Z ?_);exact ⟨_,⟨_,_,W.put hp o x,Z,Z⟩,H⟩
 have g:Cd l (p:Int)=true:=by simpa using d
 refine Z3 10 [0,0,0,1,p,p] [] H Z U (Ae Z (AY Z Z J (AB (H.cel 1 Z p (cnL_at _ U)))) (Z1 3 [1,p,p] [(x:Int)] Z U (A0 Z Z (AE 1 H Z Z Z Z (vs:=[Aa (x:Int)]) Z (Al Z AK) J (by simp only[Cc,XY,X3];omega) (out:=cnL (updN C p x) n) (EU _ U Z)) ?_)));rintro w H;replace H:=H.l3;refine Zc 8 Z (Zr Z ?_);exact ⟨_,⟨_,_,W.has g x,Z,Z⟩,H⟩
theorem PG(a b m n:Nat)(l:List IE)(clk:Nat):An 48 [V a] [coB a b n m,AG m l clk] (λv G=>v=.tuple #[]/\G=[coB a b n m,AG m [] clk]):=by
 intro z R w H;refine Af func48 Z ntmps48 Z (Z2 5 [1,0,0] H Z (IW Z Z (JH 1 (e:=3) H Z Z J Z) ?_));rintro _ w ⟨rfl,H⟩;refine Zc 1 Z (Zf Z ?_);exact ⟨_,⟨Z,Z⟩,H⟩
theorem M9(d a m n:Nat)(C:Nat->Nat)(i:Nat)(l:i<manyN n)(r:16<=n/\n<=1024)(f:∀k,C k<=1000):An 45 [V d,Aa (i:Int)] [coB d a n m,AV a C n] (λv G=>∃b:Nat,v=.slice (some ⟨b,0,none⟩) 240 240/\G=[blk b (AW (AX (EF (B8 C n i))) ((2*120:Nat):Int)) 204,coB d a n m,AV a C n]):=by
 intro z R w H;have e:120*i<n:=by unfold manyN at l;omega
 refine Af func45 Z ntmps45 Z (Z0 11 [0] Z (Am 10 Z (λj=>U) (λj=>?_)));refine Z2 6 [0,0,0] H Z (Ah Z (call51 _) (FF _ U) H ?_);intro w H;refine Z0 4 [0] Z (Ag Z (λg=>U) (λg=>?_));refine Zc 4 Z (AC Z (C5 (k:=120) H Z J BW Z Z Z U) ?_);rintro _ w ⟨s,rfl,H⟩;refine Z3 12 [0,1,0] [(i:Int)*120] H Z U (Ae Z (A9 Z (z:=1) (p:=(120*i)) (q:=n) (o':=120*i) (l':=(n-120*i)) (c':=(n-120*i)) J Z (.inr ⟨_,_,_,Z,Z,U⟩) (.inl ⟨Z,Z⟩) U U U U U U) (AC Z (Tu 0 H Z Z J Z Z (m:=(n-120*i)) (news:=((cnL C n).drop (120*i))) (.inl (H.rv 2 (·.rd U U (by rw[Cc];omega) (by rw[YR];exact XZ (by rw[Yv,Cc];omega))))) (λc o=>Us C n c (ZF o)) (by rw[X4];omega) (k:=(min (n-120*i) 120)) Z (out:=((B8 C n i).map Aa)) (RX C n i e)) ?_));rintro _ w ⟨rfl,H⟩;refine Zc 5 Z (AA Z (call103 _) (Mj _ (B8 C n i) (Db _ _ _) (Jk f _ _) _ (λh q=>q.rd U U (by simp[B8]) (by rw[Yl];exact XZ (by simp[B8])))) H ?_);rintro _ w _ ⟨b,rfl,rfl⟩ H;refine Zc 14 Z (Zr Z ?_);exact ⟨_,⟨b,Z,Z⟩,H.perm 4 [0,2,3] Z Z⟩
theorem Uu(p l m n:Nat)(C:Nat->Nat)(clk i:Nat)(hi:i<manyN n)(hn:16<=n/\n<=1024)(b o c:Nat)(bd:List UInt8)(A:Ai)(hA:∀h,A h->rdH 1 (.slice (some ⟨b,o,none⟩) 240 c) 240 (bd.map u8) h)(ns:List Int)(a0:ns.length=120)(g:∀x∈ns,0<=x/\x<=1000)(a2:bd=EF ns)(hz:∀(k:Nat) (x:Int),ns[k]?=some x->n<=120*i+k->x=0):An 81 [V p,Aa (i:Int),.slice (some ⟨b,o,none⟩) 240 c] [coB p l n m,AV l C n,AG m ([]) clk,A] (λv G=>v=Aa 0/\G=[coB p l n m,AV l (DB C i ns 120) n,AG m [] clk,A]):=by
 intro z R w H;replace H:=H.l4;have a4:120*i<n:=by unfold manyN at hi;omega
 refine Af func81 Z ntmps81 Z (Z0 11 [0] Z (Am 16 Z (λh1=>U) (λh1=>?_)));refine Z2 6 [0,0,0] H Z (Ah Z (call51 _) (FF _ U) H ?_);intro w H;refine Z0 4 [0] Z (Ag Z (λh2=>U) (λh2=>?_));refine Zc 5 Z (AA Z (call136 _) (Mk _ _ _ bd _ hA ns a0 g a2) H.f3 ?_);rintro _ w _ ⟨v1,rfl,rfl⟩ H;refine Zc 19 Z ?_;have a1:=H.sy 0 (·.slc);obtain ⟨a,f,rfl⟩:=a1;refine Zc 7 Z ?_;refine Aq (σ:=Nat) (λj=>[(35,Aa (j:Int)),(0,V p),(1,Aa (i:Int)),(7,.slice a 120 f),(33,.slice a 120 f),(34,Aa 120)])
   (λj w=>Sep z (grow 3 1 (.slice a 120 f) 120 (ns.map Aa)::A::coB p l n m::AV l C n::AG m ([]) clk::R) w/\(j<=120)) (λj=>120-j) 0
   fr_z ⟨H,by omega⟩ ?_
 clear H;rintro j w ⟨H',y⟩;have H:=H'.l5;have hj:=y;clear y;refine Z0 6 [0] Z (Ag Z (λh3=>?_) (λh3=>?_))
 ·obtain ⟨x,s⟩:∃x,ns[j]?=some x:=⟨_,XV U⟩;have t:=g x (XW s)
  refine Zc 7 Z ?_;have d:=(H.rv 0 (·.rd)).at (j:=j) (u:=Aa x) (by simp[s]);refine Ae Z (Az Z (z:=1) (j:=j) (r:=j) J Z Z Z U d U) (Ae Z (AS Z Z J (AB d)) (Z0 9 [0] Z (Am 42 Z (λh4=>U) (λh4=>?_))));refine Z0 3 [0] Z (Am 45 Z (λh5=>?_) (λh5=>?_))
  ·refine Z3 14 [0,2,0,0] [(i:Int)*120,((i:Int)*120)+(j:Int)] H Z U (Ag Z (λh6=>?_) (λh6=>?_))
   ·(exfalso;have:=hz j x s;omega)
   refine Z1 7 [] [(j:Int)+1] Z U (gf ?_);intro _ q;refine ⟨(j+1),q.cz,⟨H,?_⟩,?_⟩
   ·omega
   omega
  refine Z1 22 [] [(j:Int)+1] Z U (gf ?_);intro _ q;refine ⟨(j+1),q.cz,⟨H,?_⟩,?_⟩
  ·omega
  omega
 obtain rfl:j=120:=by omega
 refine Zc 2 Z (gx (Zc 11 Z ?_));refine Aq (σ:=Nat) (λj=>[(61,Aa (j:Int)),(0,V p),(1,Aa (i:Int)),(59,.slice a 120 f),(60,Aa 120)])
   (λj w=>Sep z (grow 3 1 (.slice a 120 f) 120 (ns.map Aa)::A::coB p l n m::AV l (DB C i ns j) n::AG m ([]) clk::R) w/\(j<=120)) (λj=>120-j) 0
   fr_z ⟨(by rw[Iz];exact H),by omega⟩ ?_
 clear H;rintro j w ⟨H',y⟩;have H:=H'.l5;have hj:=y;clear y;refine Z0 6 [0] Z (Ag Z (λh7=>?_) (λh7=>?_))
 ·obtain ⟨x,s⟩:∃x,ns[j]?=some x:=⟨_,XV U⟩;have t:=g x (XW s)
  refine Zc 7 Z ?_;have d:=(H.rv 0 (·.rd)).at (j:=j) (u:=Aa x) (by simp[s]);refine Ae Z (Az Z (z:=1) (j:=j) (r:=j) J Z Z Z U d U) (Ae Z (AS Z Z J (AB d)) (Z3 24 [0,2,0,0] [(i:Int)*120,((i:Int)*120)+(j:Int)] H Z U (Ag Z (λh8=>?_) (λh8=>?_))))
  ·refine Z3 9 [0,2,0,1,(120*i+j),120*i+j] [] H Z U (A0 Z Z (AE 3 H Z Z Z Z (vs:=[Aa x]) Z (Al Z AK) J (by simp only[Cc,XY,X3];omega) (out:=cnL (DB C i ns (j+1)) n) ((EU (x:=x.toNat) _ U U).trans (by rw[IA C U s t.1]))) ?_);rintro w H;replace H:=H.l5;refine Z2 8 [1,2,0] H Z (IW Z Z (KY 4 (e:=3) H Z Z J Z Z) ?_);rintro _ w ⟨rfl,H⟩;replace H:=H.l5;refine Z1 7 [] [(j:Int)+1] Z U (gf ?_);intro _ q;refine ⟨(j+1),q.cz,⟨H,?_⟩,?_⟩
   ·omega
   omega
  refine Z1 7 [] [(j:Int)+1] Z U (gf ?_);intro _ q;refine ⟨(j+1),q.cz,⟨(by dsimp only[AV];rw[<-RY C U U];exact H),?_⟩,?_⟩
  ·omega
  omega
 obtain rfl:j=120:=by omega
 refine Zc 2 Z (gx (Zc 8 Z (Zr Z ?_)));exact ⟨_,⟨Z,Z⟩,H.perm 5 [2,3,4,1] Z Z⟩
theorem compS_c(b:Value)(ys:List Int)(e:ys.length<2):An 102 [b] [grow 3 1 b ys.length (ys.map Aa)] (λv G=>∃(c:Value) (zs:List Int) (B:Ai),(zs.length<=ys.length/\(∀x,x∈zs↔x∈ys)/\∀h,B h->rdH 1 c zs.length (zs.map Aa) h)/\v=c/\G=[B]):=by
 intro z R w H;have a:=H.sy 0 (·.slc);refine Af func102 Z ntmps102 Z (Zc 9 Z (Ae Z (IY Z (sz:=1) J Z a) (Z0 3 [0] Z (Ag Z (λd=>?_) (λd=>?_)))))
 ·refine Zc 7 Z (Zr Z ?_);exact ⟨_,⟨b,ys,_,⟨Yo _,λ_=>Iff.rfl,λh q=>q.rd⟩,Z,Z⟩,H⟩
 (exfalso;omega)
theorem compact_c(u:Value)(ys:List Int)(n:Nat)(hl:ys.length=n)(hn:2<=n/\n<=1073741824):An 102 [u] [grow 3 1 u n (ys.map Aa)] (λv G=>∃(v1:Value) (zs:List Int) (B:Ai),(zs.length<=ys.length/\(∀x,x∈zs↔x∈ys)/\∀h,B h->rdH 1 v1 zs.length (zs.map Aa) h)/\v=v1/\G=[B]):=by
 intro z R w H;obtain ⟨g,c,rest,rfl,c1,c2,c3,H⟩:=H.ungrow 0 Z U;refine Af func102 Z ntmps102 Z (Z0 13 [0] Z (Ag Z (λh1=>U) (λh1=>?_)));refine Zc 9 Z ?_;refine Aq (σ:=Nat) (λa=>[(3,Aa (a:Int)),(0,.slice (some ⟨g,0,none⟩) n c)])
   (λa w=>Sep z (blk g (ys.map Aa++rest) 3::R) w/\(1<=a/\a<=n)) (λa=>n-a) 1
   fr_z ⟨H,by omega⟩ ?_
 clear H;rintro a w ⟨l,r⟩;have H:=l.l1;have hk:=r;clear r;refine Z0 9 [0] Z (Ag Z (λh2=>?_) (λh2=>?_))
 ·obtain ⟨x,d⟩:∃x,ys[a]?=some x:=⟨_,XV U⟩;obtain ⟨y,e⟩:∃y,ys[a-1]?=some y:=⟨_,XV U⟩;refine Zc 5 Z (A4 (Sep z _) J J H.drew (F9 3 [1,a,a] [] Z J U (Bd Z Z Z (AY Z Z J (λ_ o=>o.cel 0 Z a (FE d))) (F9 4 [1,(a-1),(a-1)] [(a:Int)-1] Z J U (Bd Z Z Z (AY Z Z J (λ_ o=>o.cel 0 Z (a-1) (FE e))) (B9 1 [] Z J (Bn (λw l=>?_))))))));have H:=l.l1;refine gn (Zc 1 Z (Ag Z (λh3=>?_) (λh3=>?_)))
  ·have m:x=y:=h3
   refine Zc 4 Z (Ae Z (A9 Z (z:=1) (p:=a) (q:=n) (o':=a) (l':=n-a) (c':=c-a) J Z (.inr ⟨_,_,_,Z,Z,Z⟩) (.inl ⟨Z,Z⟩) U U U U U U) (Zc 10 Z ?_));refine Aq (σ:=Nat×Nat×List Int) (λ⟨k,j,L⟩=>[(3,Aa (k:Int)),(5,Aa (j:Int)),(0,.slice (some ⟨g,0,none⟩) n c),(4,.slice (some ⟨g,a,none⟩) (n-a) (c-a)),(10,Aa (a:Int)),(11,.slice (some ⟨g,0,none⟩) n c),(12,Aa (n:Int)),(13,.bool (decide ((a:Int)<(n:Int)))),(16,.slice (some ⟨g,0,none⟩) n c),(17,Aa (a:Int)),(18,.pointer (some ⟨g,a,none⟩)),(19,Aa x),(20,.slice (some ⟨g,0,none⟩) n c),(21,Aa (a:Int)),(22,Aa ((a:Int)-1)),(23,.pointer (some ⟨g,(a-1),none⟩)),(24,Aa y),(25,.bool (decide ((x:Int)=y))),(26,.slice (some ⟨g,0,none⟩) n c),(27,Aa (a:Int)),(28,.slice (some ⟨g,a,none⟩) (n-a) (c-a))])
     (λ⟨k,j,L⟩ w=>Sep z (blk g (L.map Aa++rest) 3::R) w/\(CpI ys n a k j L)) (λ⟨k,j,L⟩=>n-j) ⟨a,1,ys⟩
     (λ_ f=>(f.co Z Z f.cz)) ⟨H,CpI.start hl U U d (by rw[m];exact e)⟩ ?_
   clear H;rintro ⟨k,j,L⟩ w ⟨l,r⟩;dsimp only at r l ⊢;have H:=l.l1;have b:=r;clear r;have a3:=b.kj;have a4:=b.j1;have a5:=b.jn;have a6:=b.len;refine Z0 9 [0] Z (Ag Z (λh4=>?_) (λh4=>?_))
   ·obtain ⟨x,d⟩:∃x,ys[a+j]?=some x:=⟨_,XV U⟩;obtain ⟨y,e⟩:∃y,ys[a+(j-1)]?=some y:=⟨_,XV (by have:=b.j1;omega)⟩;have i:L[a+j]?=some x:=(b.same _ U).trans d
    have s:L[a+(j-1)]?=some y:=(b.same _ (by have:=b.j1;omega)).trans e;refine Zc 5 Z (A4 (Sep z _) J J H.drew (F9 3 [1,j,a+j] [] Z J U (Bd Z Z Z (AY Z Z J (λ_ o=>o.cel 0 Z (a+j) (FE i))) (F9 4 [1,(j-1),a+(j-1)] [(j:Int)-1] Z J U (Bd Z Z Z (AY Z Z J (λ_ o=>o.cel 0 Z (a+(j-1)) (FE s))) (B9 1 [] Z J (Bn (λw l=>?_))))))));have H:=l.l1;refine gn (Zc 1 Z (Ag Z (λh5=>?_) (λh5=>?_)))
    ·refine Z1 7 [1,j,a+j] [] Z U (Ae Z (AY Z Z J (AB (H.cel 0 Z (a+j) (FE i)))) (Z1 1 [1,k,k] [] Z U (A0 Z Z (AE 0 H Z Z Z Z (vs:=[Aa x]) Z (by simp[u8,u32,Value.oneCell']) J (by simp only[XX,X8,XY,X3];have:=b.len;omega) (out:=((L.set k x).map Aa++rest)) (RZ (by have:=b.len;have:=b.kj;have:=b.jn;omega))) ?_)));rintro w H;refine Z1 14 [] [(k:Int)+1,(j:Int)+1] Z U (gf ?_);intro _ f;refine ⟨⟨k+1,j+1,L.set k x⟩,(f.co Z (by go_num) f.cz),⟨H,?_⟩,?_⟩
     ·exact b.put d
     (dsimp only;omega)
    have m:x=y:=AaK.1 h5;refine Z1 8 [] [(j:Int)+1] Z U (gf ?_);intro _ f;refine ⟨⟨k,j+1,L⟩,(f.co Z Z f.cz),⟨H,?_⟩,?_⟩
    ·exact b.skip d (by rw[m];exact e)
    (dsimp only;omega)
   have a1:a+j=n:=by omega
   refine Zc 2 Z (gx (Zc 6 Z (Ae Z (A9 Z (z:=1) (p:=k) (q:=n) (o':=k) (l':=n-k) (c':=c-k) J Z (.inr ⟨_,_,_,Z,Z,Z⟩) (.inl ⟨Z,Z⟩) U U U U U U) (IW Z Z (RS 0 H Z Z J Z (by have:=b.kj;have:=b.jn;omega) (by simp;have:=b.len;have:=b.kj;have:=b.jn;omega)) ?_))));rintro _ w ⟨rfl,H⟩;refine Zc 6 Z (Ae Z (A9 Z (z:=1) (p:=0) (q:=k) (o':=0) (l':=k) (c':=c) J Z (.inl ⟨Z,Z⟩) (.inr ⟨_,_,_,Z,Z,Z⟩) U U U U U U) (Zc 4 Z (Zr Z ?_)));have t:(L.take k).length=k:=by rw[X2];have:=b.len;have:=b.kj;have:=b.jn;omega
   exact ⟨_,⟨_,L.take k,_,⟨by have:=b.kj;have:=b.jn;omega,λz=>(b.mem z).trans (by rw[XZ U]),λh q=>by rw[t];exact q.rd (by have:=b.kj;have:=b.jn;omega) U (by simp;have:=b.len;have:=b.kj;have:=b.jn;omega) (by rw[Yl,YR,X1,YJ (by rw[X2];simp;have:=b.len;have:=b.kj;have:=b.jn;omega),X7 (by simp;have:=b.len;have:=b.kj;have:=b.jn;omega),ZM])⟩,Z,Z⟩,H.perm 1 [0] Z Z⟩
  refine Z1 8 [] [(a:Int)+1] Z U (gf ?_);intro _ f;refine ⟨(a+1),f.cz,⟨H,?_⟩,?_⟩
  ·omega
  omega
 refine Zc 2 Z (gx (Zc 9 Z (Zr Z ?_)));exact ⟨_,⟨_,ys,_,⟨by omega,λ_=>Iff.rfl,λh q=>by rw[hl];exact q.rd U U (by simp;omega) (by rw[Yl,YJ (by simp;omega)])⟩,Z,Z⟩,H.perm 1 [0] Z Z⟩
theorem V9(a:Value)(ys:List Int)(c:ys.length<=1073741824):An 102 [a] [grow 3 1 a ys.length (ys.map Aa)] (λv G=>∃(b:Value) (zs:List Int) (B:Ai),(zs.length<=ys.length/\(∀x,x∈zs↔x∈ys)/\∀h,B h->rdH 1 b zs.length (zs.map Aa) h)/\v=b/\G=[B]):=by
 rcases Yg ys.length 2 with h|h
 ·exact compS_c a ys h
 exact compact_c a ys _ Z ⟨h,c⟩
theorem PH(o i m n:Nat)(C:Nat->Nat)(C0:Nat->Nat)(l:List IE)(clk:Nat)(hn:16<=n/\n<=1024)(W:WasOk C C0 n l clk):An 44 [V o] [coB o i n m,AV i C n,AG m l clk] (λv G=>∃(c:Value) (zs:List Int) (B:Ai),(zs.length<=n/\(∀x:Int,x∈zs↔∃k:Nat,k<n/\C k≠C0 k/\x=((k/120:Nat):Int))/\∀h,B h->rdH 1 c zs.length (zs.map Aa) h)/\v=c/\G=[B,coB o i n m,AV i C n,AG m l clk]):=by
 intro z R w H;replace H:=H.l3;have b2:=W.len;refine Af func44 Z ntmps44 Z (Z2 17 [1,0,0] H Z (AC Z (Hv 2 (e:=3) H Z Z J Z) ?_));rintro _ w ⟨rr,rfl,H⟩;replace H:=H.l4;refine Zc 1 Z ?_;replace H:=(H.nilg 3 1).l5;refine Zc 2 Z ?_;refine Aq (σ:=List IE×Value) (λ⟨s,c⟩=>[(3,c),(0,V o),(2,.slice none 0 0),(10,V rr)])
   (λ⟨s,c⟩ w=>Sep z (grow 3 1 c ((Er C C0 s).length) ((Er C C0 s).map Aa)::Ge rr m clk (s.map λp:IE=>p.2.2)::coB o i n m::AV i C n::AG m l clk::R) w/\((∀p∈s,p∈l)/\(s.map λp:IE=>p.2.2).Nodup)) (λ⟨s,c⟩=>(BR l (s.map λp:IE=>p.2.2)).length) ⟨[],.slice none 0 0⟩
   fr_z ⟨H,⟨by simp,by simp⟩⟩ ?_
 clear H;rintro ⟨s,c⟩ w ⟨j,u⟩;dsimp only at u j ⊢;have H:=j.l5;have g:=u;clear u;have a5:=Jc g;have a8:=V8 C C0 s;refine Zc 2 Z (AC Z (I9 1 4 H Z Z Z Z W.clk) ?_);rintro _ w ⟨qx,rfl,a,H⟩;replace H:=H.l5;refine Ae Z (KK Z Z) (Zc 3 Z (Fy Z (λh1=>?_) (λh1=>?_)))
 ·obtain ⟨b,rfl⟩:=YE.1 h1;obtain ⟨k,f,a7,a4⟩:=W.ent b (Di a).1;refine Zc 5 Z (Ae Z (Hw (p:=b) Z Z (AB ⟨H.bk 1 Z,H.bk 4 Z⟩) (Di a).1 W.born) (Zc 2 Z (k_updA 14 (v:=Aa (k:Int)) Z (congrArg Aa f) (k_updA 15 (v:=Aa (C0 k:Int)) Z a4 (Z3 13 [0,2,0,1,k,k] [] H Z U (Ae Z (AY Z Z J (AB (H.cel 3 Z k (cnL_at _ U)))) (Z0 3 [0] Z (Ag Z (λh2=>?_) (λh2=>?_)))))))))
  ·have r:(C0 k:Int)≠(C k:Int):=h2
   refine Z1 4 [] [(k:Int)/120] Z U (AC Z (AI H Z J BW Z (by decide) (by decide) (out:=[Aa ((k:Int)/120)]) J) ?_);rintro _ w ⟨b1,rfl,H⟩;replace H:=H.l6;refine AC Z (AJ 1 H Z Z J BW Z Z (H.rv 0 (·.rd U U O Z)) (by simp[Value.oneCell']) U) ?_;rintro v2 w j;have j:Sep z (blk b1 [Aa ((k:Int)/120)] 3::grow 3 1 v2 ((Er C C0 s).length+1) ((Er C C0 s).map Aa++[Aa ((k:Int)/120)])::Ge rr m clk (HT (s.map λp:IE=>p.2.2) (some b))::coB o i n m::AV i C n::AG m l clk::R) w:=j;have a0:((Er C C0 s).map Aa++[Aa ((k:Int)/120)]:List Value)=(Er C C0 (s++[b])).map Aa:=(by rw[M8 f r];simp);rw[a0] at j;rw[show ((Er C C0 s).length+1:Nat)=(Er C C0 (s++[b])).length from (by rw[M8 f r];simp)] at j;have H:=j.l6;refine Zc 3 Z ?_;replace H:=H.d;refine gf ?_;intro _ hF;refine ⟨⟨s++[b],v2⟩,(hF.all Z),⟨(by dsimp only;rw[Yi];exact H),?_⟩,?_⟩
   ·exact F1 g a
   (have:=EA a;rwa[show (s++[b]).map (λp:IE=>p.2.2)=(s.map λp:IE=>p.2.2)++[b.2.2] from by simp])
  have a2:(C0 k:Int)=(C k:Int):=AaK.1 h2;refine Zc 2 Z (gf ?_);intro _ hF;refine ⟨⟨s++[b],c⟩,(hF.all Z),⟨(by dsimp only;rw[Yi,R0 f a2];exact H),?_⟩,?_⟩
  ·exact F1 g a
  (have:=EA a;rwa[show (s++[b]).map (λp:IE=>p.2.2)=(s.map λp:IE=>p.2.2)++[b.2.2] from by simp])
 obtain rfl:qx=none:=by simpa using h1
 have q:Rj l s:=a;refine Zc 2 Z (gx (Zc 5 Z (AA Z (call101 _) (Pe _ _ U) H ?_)));rintro _ w _ ⟨rfl,ys,rfl,rfl⟩ H;refine Zc 5 Z ?_;have a9:((Er C C0 s).mergeSort (λx y=>decide (x<=y))).length=(Er C C0 s).length:=List.length_mergeSort _;refine AA Z (call102 _) (V9 _ _ U) H ?_;rintro v2 w _ ⟨v3,zs,B,⟨b0,a3,a1⟩,rfl,rfl⟩ H;replace H:=H.l5;refine Zc 4 Z (Zr Z ?_);have t:=λx=>(a3 x).trans (List.mem_mergeSort.trans (Ut W (HU W.born g q) x));exact ⟨_,⟨_,zs,B,⟨by omega,t,a1⟩,Z,Z⟩,H.perm 5 [0,2,3,4] Z Z⟩
abbrev plB(pp ps pc pa n:Nat)(un:Bool):Ai:=blk pp [.pointer (some ⟨ps,0,none⟩),.pointer (some ⟨pc,0,none⟩),.pointer (some ⟨pa,0,none⟩),.int .i64 (n:Int),.bool un] 63
theorem R1(pp ps pd b c m a n:Nat)(D:Dsk)(G:StG):An 11 [V pp] [plB pp ps b a n false,stoA ps pd D G none] (λv X=>v=Aa 0/\X=[plB pp ps b a n true,stoA ps pd D G (some (CP,0))]):=by
 intro z R w H;refine Af func11 Z ntmps11 Z (Z2 12 [0,0,0,0] H Z (Ah Z (call39 _) (MU _ _ _ _) H.f1 ?_));intro w H;refine Z4 26 [4,1,0,3,4,1] H Z ?_;intro w H;refine Zr Z ?_;exact ⟨_,⟨Z,Z⟩,H.perm 2 [1,0] Z Z⟩
theorem R2(pp ps a b m c n:Nat)(d:Bool)(C:Nat->Nat)(p:Nat)(hp:p<n)(e:16<=n/\n<=1024):An 18 [V pp,Aa (p:Int)] [plB pp ps a c n d,coB a b n m,AV b C n] (λv G=>v=Aa (C p:Int)/\G=[plB pp ps a c n d,coB a b n m,AV b C n]):=by
 intro z R w H;refine Af func18 Z ntmps18 Z (Z2 12 [1,0,0] H Z (Ah Z (call50 _) (EG _ _ _ _ _ _ U U) H.f2.f2 ?_));intro w H;refine Zc 4 Z (Zr Z ?_);exact ⟨_,⟨Z,Z⟩,H.perm 3 [2,0,1] Z Z⟩
theorem Uv(pp ps c a n:Nat)(d:Bool)(F b S:Nat->Bool):An 10 [V pp] [plB pp ps c a n d,alB a n F b S] (λv G=>v=Aa (cnt F 0 1024:Int)/\G=[plB pp ps c a n d,alB a n F b S]):=by
 intro z R w H;refine Af func10 Z ntmps10 Z (Z2 11 [2,0,0] H Z (Ah Z (call38 _) (Uq _ _ _ _ _) H.f1 ?_));intro w H;refine Zc 4 Z (Zr Z ?_);exact ⟨_,⟨Z,Z⟩,H.perm 2 [1,0] Z Z⟩
theorem R3(pp ps pd d e m f n:Nat)(D:Dsk)(G:StG)(g:Bb)(k:Nat)(C C0:Nat->Nat)(l:List IE)(clk:Nat)(F s S:Nat->Bool)(W:WasOk C C0 n l clk)(hn:16<=n/\n<=1024)(hG:G.x.pages=n)(p:Nat)(x:Pg)(hx:x.Ok)(r:Value)(B:Ai)(t:∀h,B h->rdH 1 r 240 (x.body.map u8) h)(y:¬(g p=none/\40<=k))(hp:p<n)(i:F p=true)(o:∀q,q<p->F q=false)(hC:C p=0)(A:Ai)(u:F2 A):An 12 [V pp,.agg #[Aa x.kind,r]] [stoA ps pd D G (some (g,k)),plB pp ps d f n true,coB d e n m,AV e C n,AG m l clk,alB f n F s S,A,B] (λv X=>∃(c:List IE) (a:Nat),WasOk (updN C p 1) C0 n c a/\v=.tuple #[Aa (p:Int),Aa 0]/\X=[stoA ps pd D G (some (pgSet g p x,k+(if (g p).isSome then 0 else 1))),plB pp ps d f n true,coB d e n m,AV e (updN C p 1) n,AG m c a,alB f n (CA F p) s S,A,B]):=by
 intro z R w H;obtain ⟨bo,bc,rfl⟩:=H.sy 7 (λq=>(t _ q).slc);refine Af func12 Z ntmps12 Z (Za 2 [] H Z ?_);intro b1 w H;refine Z2 23 [4,2,0,2,2,0] H Z (Ah Z (call40 _) (V6 _ _ _ _ _ p U U i o _ u) H.f7.f7 ?_);intro w H;refine Zc 19 Z (Bo 7 J J (A8 H λw j=>?_));have H:=j.l9;refine Xp 7 [0,0,4,0,2,2] [] H Z J (Ce (gw (AA Z (call41 _) (HC _ _ _ _ _ _ p U _ hx _ _ t) H.f8.f4 ?_)));rintro _ w _ (⟨b,rfl,rfl⟩|⟨_,rfl,rfl⟩) j
 ·exact absurd b y
 have H:=j.l9;refine Z2 19 [4,1,5,0] H Z (AA Z (call43 _) (Hg _ _ _ _ _ C0 _ _ p 1 _ U U U U U W) H.f8.f8.f8 ?_);rintro _ w _ ⟨c,a,W2,rfl,rfl⟩ H;refine Zc 10 Z (Zr Z ?_);exact ⟨_,⟨c,a,W2,Z,Z⟩,H.perm 9 [3,8,0,1,2,5,6,4] Z Z⟩
theorem PI(pp ps c a n:Nat)(x:Pg)(k:x.Ok)(d:Value)(B:Ai)(f:∀h,B h->rdH 1 d 240 (x.body.map u8) h)(F e S:Nat->Bool)(b:∀q,q<1024->F q=false):An 12 [V pp,.agg #[Aa x.kind,d]] [plB pp ps c a n true,alB a n F e S,B] (λv G=>v=.tuple #[Aa 0,Aa 20]/\G=[plB pp ps c a n true,alB a n F e S,B]):=by
 intro z R w H;obtain ⟨j,i,rfl⟩:=H.sy 2 (λq=>(f _ q).slc);refine Af func12 Z ntmps12 Z (Za 2 [] H Z ?_);intro g w H;refine Z2 23 [4,1,0,2,1,0] H Z (Ah Z (call40 _) (Ur _ _ _ _ _ b) H.f2 ?_);intro w H;refine Zc 22 Z (Zr Z ?_);exact ⟨_,⟨Z,Z⟩,H.perm 4 [2,0,3] Z Z⟩
theorem Wa(pp ps c d m e n:Nat)(C C0:Nat->Nat)(l:List IE)(clk:Nat)(W:WasOk C C0 n l clk)(h:16<=n/\n<=1024)(p:Nat)(hp:manyN n<p/\p<n)(i:1<=C p/\C p<1000):An 17 [V pp,Aa (p:Int)] [plB pp ps c e n true,coB c d n m,AV d C n,AG m l clk] (λv G=>∃(b:List IE) (a:Nat),WasOk (updN C p (C p+1)) C0 n b a/\v=Aa 0/\G=[plB pp ps c e n true,coB c d n m,AV d (updN C p (C p+1)) n,AG m b a]):=by
 intro z R w H;replace H:=H.l4;refine Af func17 Z ntmps17 Z (Z2 25 [4,0,0,1,0,0] H Z (Ah Z (call50 _) (EG _ _ _ _ _ _ U U) H.f2.f2 ?_));intro w H;replace H:=H.l4;refine Z0 2 [0] Z (Am 19 Z (λg=>U) (λg=>?_));refine Z2 5 [3,2,0] H Z (Ah Z (call51 _) (FF _ U) H ?_);intro w H;replace H:=H.l4;refine Z0 5 [0] Z (Ag Z (λf=>U) (λf=>?_));refine Z2 10 [1,2,0] H Z (AA Z (call43 _) (Hg _ _ _ _ _ C0 _ _ p (C p+1) _ U U U U U W) H.f3.f2.f2 ?_);rintro _ w _ ⟨b,a,W2,rfl,rfl⟩ H;replace H:=H.l4;refine Zc 4 Z (Zr Z ?_);exact ⟨_,⟨b,a,W2,Z,Z⟩,H.perm 4 [3,0,1,2] Z Z⟩
theorem R4(pp ps c d m e n:Nat)(C C0:Nat->Nat)(l:List IE)(clk:Nat)(W:WasOk C C0 n l clk)(i:16<=n/\n<=1024)(p:Nat)(hp:manyN n<p/\p<n)(j:2<=C p/\C p<=1000):An 15 [V pp,Aa (p:Int)] [plB pp ps c e n true,coB c d n m,AV d C n,AG m l clk] (λv G=>∃(b:List IE) (a:Nat),WasOk (updN C p (C p-1)) C0 n b a/\v=Aa 0/\G=[plB pp ps c e n true,coB c d n m,AV d (updN C p (C p-1)) n,AG m b a]):=by
 intro z R w H;replace H:=H.l4;refine Af func15 Z ntmps15 Z (Z2 25 [4,0,0,1,0,0] H Z (Ah Z (call50 _) (EG _ _ _ _ _ _ U U) H.f2.f2 ?_));intro w H;replace H:=H.l4;refine Z0 2 [0] Z (Am 20 Z (λg=>U) (λg=>?_));refine Z2 5 [3,2,0] H Z (Ah Z (call51 _) (FF _ U) H ?_);intro w H;replace H:=H.l4;refine Z0 5 [0] Z (Ag Z (λf=>U) (λf=>?_));refine Z2 11 [1,2,0] H Z (AA Z (call43 _) (Hg _ _ _ _ _ C0 _ _ p (C p-1) _ U U U U U W) H.f3.f2.f2 ?_);rintro _ w _ ⟨b,a,W2,rfl,rfl⟩ H;replace H:=H.l4;refine Z2 20 [4,1,3,0] H Z (Ah Z (call50 _) (EG _ _ _ _ _ _ U U) H ?_);intro w H;replace H:=H.l4;refine k_updA 43 (v:=Aa ((C p-1:Nat):Int)) Z (congrArg Aa (by simp[updN])) (Z0 3 [0] Z (Ag Z (λh=>U) (λh=>?_)));refine Zc 8 Z (Zr Z ?_);exact ⟨_,⟨b,a,W2,Z,Z⟩,H.perm 4 [3,0,1,2] Z Z⟩
theorem Uw(pp ps c d m e n:Nat)(C C0:Nat->Nat)(l:List IE)(clk:Nat)(W:WasOk C C0 n l clk)(k:16<=n/\n<=1024)(p:Nat)(hp:manyN n<p/\p<n)(F f S:Nat->Bool)(o:C p=1)(h:F p=false)(g:f p=false):An 15 [V pp,Aa (p:Int)] [plB pp ps c e n true,coB c d n m,AV d C n,AG m l clk,alB e n F f S] (λv G=>∃(b:List IE) (a:Nat),WasOk (updN C p (0)) C0 n b a/\v=Aa 0/\G=[plB pp ps c e n true,coB c d n m,AV d (updN C p (0)) n,AG m b a,alB e n F (Fb f p) S]):=by
 intro z R w H;replace H:=H.l5;refine Af func15 Z ntmps15 Z (Z2 25 [4,0,0,1,0,0] H Z (Ah Z (call50 _) (EG _ _ _ _ _ _ U U) H.f2.f2 ?_));intro w H;replace H:=H.l5;refine Z0 2 [0] Z (Am 20 Z (λi=>U) (λi=>?_));refine Z2 5 [3,2,0] H Z (Ah Z (call51 _) (FF _ U) H ?_);intro w H;replace H:=H.l5;refine Z0 5 [0] Z (Ag Z (λj=>U) (λj=>?_));refine Z2 11 [1,2,0] H Z (AA Z (call43 _) (Hg _ _ _ _ _ C0 _ _ p 0 _ U U U U U W) H.f3.f2.f2 ?_);rintro _ w _ ⟨b,a,W2,rfl,rfl⟩ H;replace H:=H.l5;refine Z2 20 [4,1,3,0] H Z (Ah Z (call50 _) (EG _ _ _ _ _ _ U U) H ?_);intro w H;replace H:=H.l5;refine k_updA 43 (v:=Aa 0) Z (congrArg Aa (by simp[updN])) (Z2 10 [3,2,3,0] H Z (Ah Z (call52 _) (Uo _ _ _ _ _ _ U U h g) H.f4 ?_));intro w H;replace H:=H.l5;refine Zc 8 Z (Zr Z ?_);exact ⟨_,⟨b,a,W2,Z,Z⟩,H.perm 5 [4,1,2,3,0] Z Z⟩
def CK(C:Nat->Nat)(n i:Nat):Pg:=⟨2,EF (B8 C n i)⟩
theorem Ed(C:Nat->Nat)(n i:Nat):(CK C n i).Ok:=⟨⟨by show (1:Int)<=2;omega,by show (2:Int)<=5;omega⟩,Gn (Db _ _ _)⟩
theorem Ux(F:Nat->Bool)(a:Nat){i n:Nat}(c:i<n)(h:F (a+i)=true):1<=cnt F a n:=by
 have e:=Gl F a i (n-i);rw[show i+(n-i)=n by omega] at e;obtain ⟨m,b⟩:∃m,n-i=1+m:=⟨n-i-1,by omega⟩;rw[b,Gl] at e;have:cnt F (a+i) 1=1:=by simp[cnt,h]
 omega
theorem FG{F G:Nat->Bool}{a:Nat}:∀{n:Nat},(∀i,i<n->F (a+i)=G (a+i))->cnt F a n=cnt G a n
 | 0,_=>rfl
 | n+1,h=>by simp only[cnt];rw[FG (λi hi=>h i U),h n U]
theorem LW{F G:Nat->Bool}{n i:Nat}(p:i<n)(h:F i=true)(f:G i=false)(hs:∀j,j≠i->F j=G j):cnt G 0 n+1=cnt F 0 n:=by
 have e:=λF=>Gl F 0 i (1+(n-i-1));have d:=λF=>Gl F (0+i) 1 (n-i-1);have c:=λF=>(e F).trans (by rw[d F]);rw[show i+(1+(n-i-1))=n by omega] at c;have m:cnt F 0 i=cnt G 0 i:=FG (λj g=>hs _ U);have l:cnt F (0+i+1) (n-i-1)=cnt G (0+i+1) (n-i-1):=FG (λj g=>hs _ U);have o:cnt F (0+i) 1=1:=by simp[cnt,h]
 have k:cnt G (0+i) 1=0:=by simp[cnt,f]
 have a:=c F;have b:=c G;omega
structure CmI(n:Nat)(C:Nat->Nat)(zs:List Int)(g0:Bb)(k0 j:Nat)(g:Bb)(k:Nat):Prop where
 jl:j<=zs.length
 old:∀p,(p=0\/manyN n<p)->g p=g0 p
 rm:k+cnt (λi=>(g (1+i)).isNone) 0 (manyN n)<=k0+manyN n
 set:∀i,i<manyN n->g (1+i)=none\/g (1+i)=some (CK C n i)
 dn:∀j',j'<j->∀i:Nat,zs[j']?=some (i:Int)->g (1+i)=some (CK C n i)
theorem Na(F:Nat->Bool)(a:Nat):∀n,cnt F a n<=n
 | 0=>Yo _
 | n+1=>by
  have:=Na F a n;have:(F (a+n)).toNat<=1:=by cases F (a+n)<;>simp
  simp only[cnt];omega
theorem CmI.start{n:Nat}{C:Nat->Nat}{zs:List Int}{a:Bb}{b:Nat}(h:∀i,i<manyN n->a (1+i)=none):CmI n C zs a b 0 a b:=
 ⟨Ye _,λ_ _=>rfl,by have:=Na (λi=>(a (1+i)).isNone) 0 (manyN n);omega,λi c=>.inl (h i c),λd e=>by omega⟩
theorem CmI.room{n:Nat}{C:Nat->Nat}{zs:List Int}{d g:Bb}{a j k i:Nat}(I_:CmI n C zs d a j g k)(c:i<manyN n)(e:a+manyN n<=40):¬(g (1+i)=none/\40<=k):=λ⟨b,f⟩=>by
 have:=Ux (λi=>(g (1+i)).isNone) 0 c (by simp[b]);have:=I_.rm;omega
theorem CmI.put{n:Nat}{C:Nat->Nat}{zs:List Int}{l g:Bb}{d j k i:Nat}(I_:CmI n C zs l d j g k)(r:i<manyN n)(c:zs[j]?=some (i:Int)):CmI n C zs l d (j+1) (pgSet g (1+i) (CK C n i)) (k+(if (g (1+i)).isSome then 0 else 1)):=by
 have b:=(XU.1 c).1;refine ⟨b,λp hp=>?_,?_,λq hq=>?_,λa s q hq=>?_⟩
 ·unfold pgSet;rw[if_neg U];exact I_.old p hp
 ·have m:=I_.rm
  split
  ·rename_i f
   rw[<-FG (F:=λi=>(g (1+i)).isNone)]
   ·exact m
   intro q _;unfold pgSet;split
   ·rename_i e;rw[show 0+q=i by omega];cases e2:g (1+i)<;>simp_all
   rfl
  rename_i f;have o:g (1+i)=none:=by simpa using f
  have:=LW (F:=λi=>(g (1+i)).isNone) (G:=λq=>(pgSet g (1+i) (CK C n i) (1+q)).isNone) r (by simp[o]) (by simp[pgSet]) (λq hq=>by unfold pgSet;rw[if_neg U]);omega
 ·unfold pgSet;split
  ·rename_i e;obtain rfl:q=i:=by omega
   exact .inr Z
  exact I_.set q hq
 unfold pgSet;split
 ·rename_i e;obtain rfl:q=i:=by omega
  rfl
 rcases Yg a j with h|h
 ·exact I_.dn a h q hq
 obtain rfl:a=j:=by omega
 rw[c] at hq;simp at hq;omega
theorem CmI.done{n:Nat}{C C0:Nat->Nat}{zs:List Int}{p g:Bb}{l k:Nat}(I_:CmI n C zs p l zs.length g k)(f:∀x:Int,x∈zs↔∃k:Nat,k<n/\C k≠C0 k/\x=((k/120:Nat):Int)){i:Nat}(o:i<manyN n):g (1+i)=some (CK C n i)\/g (1+i)=none/\CK C0 n i=CK C n i:=by
 rcases I_.set i o with h|h
 ·refine .inr ⟨h,?_⟩
  have b:(i:Int)∉zs:=λm=>by
   obtain ⟨j,d⟩:=Yx m;have:=I_.dn j (XU.1 d).1 i d;rw[h] at this;cases this
  have:B8 C0 n i=B8 C n i:=by
   unfold B8;refine Zu λq hq=>?_;split
   ·rename_i a
    have:=Y2.1 hq;refine congrArg Int.ofNat (Aab λc=>b ((f _).2 ⟨120*i+q,a,λe=>c e.symm,by rw[show (120*i+q)/120=i by omega]⟩))
   rfl
  unfold CK;rw[this]
 exact .inl h
theorem Uy{n k:Nat}(h:k<n):k/120<manyN n:=by unfold manyN;omega
theorem LX{L:List UInt8}{x:Int}(h:L.length=240):0+240*1<=(AW (AX L) x).length:=by
 have hp:=A6 (l:=L) U;unfold AW;rw[XX,X8];omega
theorem Nb{L:List UInt8}{x:Int}(h:L.length=240):((AW (AX L) x).drop 0).take (240*1)=L.map u8:=by
 unfold AW;rw[Yl,YR];have hp:=A6 (l:=L) U;rw[X7 (by rw[X8];omega),<-ZM];have:=RT h;rw[Yl] at this;rw[this]
theorem PJ(pp ps pd e p m f n:Nat)(D:Dsk)(G:StG)(mb:Nat)(g0:Bb)(k0:Nat)(C C0:Nat->Nat)(l:List IE)(clk:Nat)(F Dd S:Nat->Bool)(W:WasOk C C0 n l clk)(hn:16<=n/\n<=1024)(hG:G.x.pages=n)(hg:∀i,i<manyN n->g0 (1+i)=none)(hk:k0+manyN n<=40)(a7:∀k,C k<=1000)(hF:Fine D G mb)(hm:mb<=1000000000):An 14 [V pp] [stoA ps pd D G (some (g0,k0)),plB pp ps e f n true,coB e p n m,AV p C n,AG m l clk,alB f n F Dd S] (λv X=>∃(t:Dsk) (b:StG) (g:Bb) (k:Nat) (zs:List Int),CmI n C zs g0 k0 zs.length g k/\(∀x:Int,x∈zs↔∃k:Nat,k<n/\C k≠C0 k/\x=((k/120:Nat):Int))/\Fine t b (mb+2)/\t.n=D.n/\b.M=ED G.M (some (g,k))/\(b.x=G.x\/b.x=En G.x G.a G.q)/\v=Aa 0/\X=[stoA ps pd t b none,plB pp ps e f n false,coB e p n m,AV p C n,AG m ([]) clk,alB f n (Ct F Dd) BX (Ct F Dd)]):=by
 intro z R w H;refine Af func14 Z ntmps14 Z (Z2 25 [4,1,0,1,1,0] H Z (AA Z (call44 _) (PH _ _ _ _ _ C0 _ _ U W) H.f4.f4.f4 ?_));rintro v1 w _ ⟨v2,zs,Z_,⟨b4,a2,a1⟩,rfl,rfl⟩ H;obtain ⟨za,zc,rfl⟩:=H.sy 0 (λq=>(a1 _ q).slc);refine Zc 5 Z ?_;refine Aq (σ:=Nat×Bb×Nat) (λ⟨j,g,k⟩=>[(18,Aa (j:Int)),(0,V pp),(16,.slice za zs.length zc),(17,Aa (zs.length:Int))])
   (λ⟨j,g,k⟩ w=>Sep z (Z_::coB e p n m::AV p C n::AG m l clk::stoA ps pd D G (some (g,k))::plB pp ps e f n true::alB f n F Dd S::R) w/\(CmI n C zs g0 k0 j g k)) (λ⟨j,g,k⟩=>zs.length-j) ⟨0,g0,k0⟩
   fr_z ⟨H,CmI.start hg⟩ ?_
 clear H;rintro ⟨j,g,k⟩ w ⟨o,hI⟩;dsimp only at hI o ⊢;have H:=o.l7;have hC:=hI;clear hI;have b2:=hC.jl;refine Z0 6 [0] Z (Ag Z (λh1=>?_) (λh1=>?_))
 ·obtain ⟨z_,c⟩:∃z_,zs[j]?=some z_:=⟨_,XV U⟩;obtain ⟨q_,a5,b3,a0⟩:=(a2 z_).1 (XW c);obtain ⟨i,s⟩:∃i,i=q_/120:=⟨_,Z⟩;rw[<-s] at a0;subst a0;have hi:i<manyN n:=s▸Uy a5
  have b1:manyN n<n:=by unfold manyN;omega
  refine Zc 6 Z ?_;have y:=(H.rd 0 Z a1).at (j:=j) (u:=Aa (i:Int)) (by simp[c]);refine Ae Z (Az Z (z:=1) (j:=j) (r:=j) J Z Z Z U y U) (Ae Z (AS Z Z J (AB y)) (Zc 4 Z ?_));replace H:=H.f5;refine BO (Sep z (plB pp ps e f n true::R)) 16 Z J (A8 H λw o=>?_);have H:=o.l7;refine OE [0,1,2,3,4,5,6,7,8,9,10,11] [0,0,0,0,1,0,0] [((1+i:Nat):Int)] (by exact H.pick 7 [0] Z) Z J U Z (Cf [12] J O (Ay (BF Z Z Z Z Z Z (λw=>call45 _ w) (M9 _ _ _ _ _ i hi U a7) H.f3.f3 Z ?_)));rintro _ w _ ⟨pw,rfl,rfl⟩ H;refine B0 (H.pick 8 [3] Z) (CB [13] [] [] (by exact H.pick 8 [3] Z) Z J Z (Cf [14] J O (Ay (BF Z Z Z Z Z Z (λw=>call41 _ w) (HC _ _ _ _ _ _ (1+i) U (CK C n i) (Ed _ _ _) _ _ (λh q=>q.rd U U (LX (Ed _ _ _).2) (Nb (Ed _ _ _).2))) H.f6 Z ?_))));rintro _ w _ (⟨a3,rfl,rfl⟩|⟨_,rfl,rfl⟩) o
  ·exact absurd a3 (hC.room hi hk)
  have H:=o.l8;refine B0 (H.pick 8 [4] Z) (CB [15] [] [] (by exact H.pick 8 [4] Z) Z J Z (a_done J (gn (Z1 15 [4] [(j:Int)+1] Z U ?_))));replace H:=H.f1.d.f6.f4.f2.f6.f5.f5.f6;refine gf ?_;intro _ hF;refine ⟨⟨j+1,pgSet g (1+i) (CK C n i),k+(if (g (1+i)).isSome then 0 else 1)⟩,hF.cz,⟨H,?_⟩,?_⟩
  ·exact hC.put hi c
  (dsimp only;omega)
 obtain rfl:j=zs.length:=by omega
 refine Zc 2 Z (gx (Z2 10 [0,0,5,0] H Z (AA Z (call46 _) (LD _ _ _ _ _ _ mb hF hm) H.f4 ?_)));rintro _ w _ ⟨t,b,a4,a6,⟨a8,b0⟩,a9,rfl,rfl⟩ H;refine Z4 26 [4,4,5,1,5,0] H Z ?_;intro w H;refine Ah Z (call48 _) (PG _ _ _ _ _ _) H.f4.f3 ?_;intro w H;refine Z2 8 [2,5,0] H Z (Ah Z (call49 _) (Kt _ _ _ _ _) H.f6 ?_);intro w H;refine Zc 8 Z (Zr Z ?_);exact ⟨_,⟨t,b,g,k,zs,hC,a2,a4,a6,a8,a9,Z,Z⟩,H.perm 7 [3,6,1,5,2,0] Z Z⟩
section
section
variable{P:Program}{o:Oper}{w z:World}{Γ:List Ai}{n:Nat}{ds:List Deferred}{L:List (Nat×Value)}{x y:Operand}
theorem Nc{t e:TypeId}{k sz:Nat}(H:Sep z Γ w)(p:o.op=.makeSlice t x y)(l:P.underlying t=some (.slice e)){zv:Value}{by_:Nat}(q:Elt P e zv sz by_)(hx:ev L x=some (Aa k))(u:ev L y=some (Aa k))(hk:by_*k<=140737488355328){out:List Value}(c:madeCells zv.cells (k*sz)=out.toArray):
  BJ P n ds L o w (λv w'=>∃b,v=.slice (some ⟨b,0,none⟩) k k/\Sep z (blk b out e::Γ) w'):=λa h=>by
 obtain ⟨i,hi,j,hs,hb,s,r,d⟩:=q;have f:(i.bytes:Int)*(k:Int)<=281474976710656:=by
  rw[hb,<-Int.natCast_mul];omega
 have g:=run_make (P:=P) (w:=w) t e i zv l hi j .i64 .i64 (k:Int) (k:Int) U (Int.le_refl _) f (by
  have:1*k<=by_*k:=ZD _ d;omega)
 have m:madeCells zv.cells (((k:Int)).toNat*i.size)=out.toArray:=by
  rw[Yw,hs];exact c
 rw[m] at g;refine ⟨_,_,?_,w.heap.size,Z,H.new (CG w (.cells out.toArray e)) (Yo _) (by show (w.heap.push _)[w.heap.size]?=_;simp)⟩;simp only[execOp,p,h.ev hx,h.ev u,Yc,g,X6,Yh,Yw];rfl
end
theorem R5{bs:List UInt8}{a:Int}(h:bs.length=256):0+240*1<=(AW bs a).length:=by unfold AW;rw[XX,X8];omega
theorem Uz{bs:List UInt8}{a:Int}(h:bs.length=256):((AW bs a).drop 0).take (240*1)=(bs.take 240).map u8:=by
 unfold AW;rw[Yl,YR,X7 (by rw[X8];omega),ZM]
def C1(i:Nat):Nat->Nat:=λp=>if p<i then 1 else 0
theorem JV(i:Nat):updN (C1 i) i 1=C1 (i+1):=by
 funext p;unfold updN C1;split
 ·rw[if_pos U]
 by_cases h:p<i
 ·rw[if_pos h,if_pos U]
 rw[if_neg h,if_neg U]
theorem JW:C1 0=λ_=>0:=by funext p;simp[C1]
theorem Jl(i k:Nat):C1 i k<=1000:=by unfold C1;split<;>omega
def gF(n:Nat)(cb:List UInt8)(i:Nat):Bb:=λp=>if p=0 then some ⟨1,cb⟩ else if p<=i then some (CK (C1 (manyN n+1)) n (p-1)) else none
theorem UA(n:Nat)(cb:List UInt8)(i:Nat):(some (pgSet (gF n cb i) (1+i) (CK (C1 (manyN n+1)) n i),1+i+(if (gF n cb i (1+i)).isSome then 0 else 1)):GU)=some (gF n cb (i+1),1+(i+1)):=by
 have e:gF n cb i (1+i)=none:=by unfold gF;rw[if_neg U,if_neg U]
 rw[e];have:pgSet (gF n cb i) (1+i) (CK (C1 (manyN n+1)) n i)=gF n cb (i+1):=by
  funext p;unfold pgSet gF;split
  ·rename_i h;subst h;rw[if_neg U,if_pos U,show 1+i-1=i by omega]
  by_cases h0:p=0
  ·rw[if_pos h0,if_pos h0]
  rw[if_neg h0,if_neg h0];by_cases h1:p<=i
  ·rw[if_pos h1,if_pos U]
  rw[if_neg h1,if_neg U]
 rw[this];simp;omega
theorem UB(n:Nat)(cb:List UInt8):(some (pgSet CP 0 ⟨1,cb⟩,0+(if (CP 0).isSome then 0 else 1)):GU)=some (gF n cb 0,1+0):=by
 have:pgSet CP 0 ⟨1,cb⟩=gF n cb 0:=by
  funext p;unfold pgSet gF CP;split
  ·rfl
  rw[if_neg U]
 rw[this];rfl
theorem Ee{n:Nat}(h:n<=1024):manyN n<=9:=by unfold manyN;omega
theorem GO{n:Nat}(h:16<=n):1<=manyN n/\manyN n+1<n:=by unfold manyN;omega
theorem Sep.flDisk{z w:World}{Γ:List Ai}{ps pd:Nat}{D:Dsk}{G:StG}(H:Sep z (stoA ps pd D.fl {G with sure:=G.rs.length} none::Γ) w)(hq:G.q<=1099511627776):OInv D.fl G.x G.B (λd=>d=G.rs)/\Sep z (diskA pd D.fl::Γ) w:=by
 obtain ⟨X,g,H⟩:=H.sto;have h:=g.inv.crashed (D':=D.fl) hq ⟨Z,λ_=>rfl,λ_=>.inl Z⟩;have e:(λd:List Rc=>G.rs.length<=d.length/\d.length<=G.rs.length/\d=G.rs.take d.length)=λd=>d=G.rs:=funext λd=>propext ⟨λ⟨a,b,c⟩=>by rw[c];exact XZ U,λe=>by subst e;simp⟩;refine ⟨?_,H.pick 6 [3] Z⟩;have f:OInv D.fl G.x G.B (λd:List Rc=>G.rs.length<=d.length/\d.length<=G.rs.length/\d=G.rs.take d.length):=h;rw[e] at f;exact f
set_option maxHeartbeats 2000000 in
theorem PK (pd dn n:Nat) (s l:Int) (hn:16<=n/\n<=1024) (p:(Bk n s l 2).Ok (dn:Int)):An 35 [V pd,Aa (n:Int),Aa s,Aa l] [diskA pd (BT dn)] (λv G=>∃(j:Dsk) (f:StG) (bs:List UInt8),bs.length=256/\OInv j f.x f.B (λgot=>got=f.rs)/\Clean j/\(f.x.gen<=((5:Nat):Int)/\f.x.epoch<=((5:Nat):Int))/\j.n=dn/\f.x.pages=n/\f.M=ED (λ_=>DM) (some (gF n (bs.take 240) (manyN n),1+manyN n))/\v=Aa 0/\G=[diskA pd j]):=by
 intro z R w H;have b0:=GO hn.1;have a9:=Ee hn.2;refine Af func35 Z ntmps35 Z (Zc 12 Z (Ah Z (call86 _) (RC _ dn _ _ _ p) H ?_));intro w H;refine Z0 15 [4] Z (AA Z (call30 _) (Pn _ _ _ _ _ _ (Ua p) (Rz _ _ _ _) (show (2:Int)<=(2:Nat)/\(1:Int)<=(2:Nat) by omega) U) H ?_);rintro _ w _ ⟨ps,D0,a7,u,a1,a4,rfl,rfl⟩ H;subst u;have a:Sep z (stoA ps pd D0 (MT (Bk n s l 2) (λ_=>DM)) none::R) w:=H;clear H;have H:=a.l1;refine Z0 21 [4] Z (Ah Z (call39 _) (MU _ _ _ _) H ?_);intro w H;refine Z0 14 [4] Z (AC Z (Nc (k:=8) (out:=FU) H Z J EB Z Z U J) ?_);rintro _ w ⟨b1,rfl,H⟩;refine Zc 1 Z (AA Z (call87 _) (RV _ _ (λh q=>q.rd U U (by simp[FU]) (by simp[FU]))) H ?_);rintro _ w _ ⟨pw,bs,g,rfl,rfl⟩ H;refine Z0 23 [4] Z (AA Z (call41 _) (HC _ _ _ _ _ _ 0 (by show (0:Int)<(n:Int);omega) ⟨1,bs.take 240⟩ ⟨by show (1:Int)<=1/\(1:Int)<=5;omega,by show (bs.take 240).length=240;rw[X2];omega⟩ _ _ (λh q=>q.rd U U (R5 g) (Uz g))) H.f2 ?_);rintro _ w _ (⟨b,rfl,rfl⟩|⟨_,rfl,rfl⟩) a
 ·(exfalso;have:=b.2;omega)
 have H:=a.l3;rw[UB n] at H;refine Z0 15 [4] Z (AA Z (call79 _) (PF _ U) H ?_);rintro _ w _ ⟨pc,bn,m,rfl,rfl⟩ H;refine Z0 20 [4] Z (Ah Z (call51 _) (FF _ U) H ?_);intro w H;refine Z1 12 [] [(manyN n:Int)+1] Z U ?_;refine Aq (σ:=Nat×List IE×Nat) (λ⟨i,o,clk⟩=>[(70,Aa (i:Int)),(8,Aa 0),(10,V ps),(15,V pc),(16,Aa (manyN n:Int)),(69,Aa ((manyN n:Int)+1))])
   (λ⟨i,o,clk⟩ w=>Sep z (coB pc bn n m::AV bn (C1 i) n::AG m o clk::stoA ps pd D0 (MT (Bk n s l 2) (λ_=>DM)) (some (gF n (bs.take 240) 0,1+0))::blk pw (AW bs ((21+19*8:Nat):Int)) 204::blk b1 FU 207::R) w/\(i<=manyN n+1/\WasOk (C1 i) (λ_=>0) n o clk)) (λ⟨i,o,clk⟩=>manyN n+1-i) ⟨0,[],0⟩
   fr_z ⟨(by rw[JW];exact H),⟨by omega,by rw[JW];exact WasOk.nil _ _ _⟩⟩ ?_
 clear H;rintro ⟨i,o,clk⟩ w ⟨a,r⟩;dsimp only at r a ⊢;have H:=a.l6;obtain ⟨a0,W⟩:=r;have y:C1 i i=0:=by simp[C1]
 refine Z0 6 [0] Z (Ag Z (λh1=>?_) (λh1=>?_))
 ·refine Zc 13 Z (AA Z (call43 _) (Hg _ _ _ _ _ (λ_=>0) _ _ i 1 _ U U (by rw[y];rfl) U (by rw[y];omega) W) H ?_);rintro _ w _ ⟨l2,t,W2,rfl,rfl⟩ H;refine Z1 7 [] [(i:Int)+1] Z U (gf ?_);intro _ hF;refine ⟨⟨i+1,l2,t⟩,hF.cz,⟨(by rw[<-JV];exact H),?_⟩,?_⟩
  ·dsimp only;exact ⟨by omega,by rw[<-JV];exact W2⟩
  (dsimp only;omega)
 obtain rfl:i=manyN n+1:=by omega
 refine Zc 2 Z (gx (Zc 10 Z ?_));refine Aq (σ:=Nat) (λi=>[(78,Aa (i:Int)),(10,V ps),(15,V pc),(77,Aa (manyN n:Int))])
   (λi w=>Sep z (coB pc bn n m::AV bn (C1 (manyN n+1)) n::AG m o clk::stoA ps pd D0 (MT (Bk n s l 2) (λ_=>DM)) (some (gF n (bs.take 240) i,1+i))::blk pw (AW bs ((21+19*8:Nat):Int)) 204::blk b1 FU 207::R) w/\(i<=manyN n)) (λi=>manyN n-i) 0
   fr_z ⟨H,by omega⟩ ?_
 clear H;rintro i w ⟨a,r⟩;have H:=a.l6;have a0:=r;clear r;refine Z0 6 [0] Z (Ag Z (λh2=>?_) (λh2=>?_))
 ·refine Z1 17 [] [((1+i:Nat):Int)] Z U (AA Z (call45 _) (M9 _ _ _ _ _ i U U (Jl _)) H ?_);rintro _ w _ ⟨pq,rfl,rfl⟩ H;refine Zc 1 Z (AA Z (call41 _) (HC _ _ _ _ _ _ (1+i) (by show ((1+i:Nat):Int)<(n:Int);omega) (CK (C1 (manyN n+1)) n i) (Ed _ _ _) _ _ (λh q=>q.rd U U (LX (Ed _ _ _).2) (Nb (Ed _ _ _).2))) H.f4 ?_);rintro _ w _ (⟨b,rfl,rfl⟩|⟨_,rfl,rfl⟩) a
  ·(exfalso;have:=b.2;omega)
  have H:=a.l7;rw[UA] at H;refine Z1 17 [4] [(i:Int)+1] Z U ?_;replace H:=H.f1.d.f5.f5.f2.f5.f5.f5;refine gf ?_;intro _ hF;refine ⟨(i+1),hF.cz,⟨H,?_⟩,?_⟩
  ·omega
  omega
 obtain rfl:i=manyN n:=by omega
 refine Zc 2 Z (gx (Zc 6 Z (AA Z (call46 _) (LD _ _ _ _ _ _ 3 a1 U) H.f3 ?_)));rintro _ w _ ⟨j,f,c,a2,⟨a3,a8⟩,a6,rfl,rfl⟩ H;refine Z0 15 [4] Z (AA Z (call28 _) (sync_s _ _ _ _ 5 c) H ?_);rintro _ w _ ⟨rfl,a5,rfl⟩ H;refine Zc 4 Z (Zr Z ?_);have H2:=H.pick 6 [0] Z;obtain ⟨hO,a⟩:=H2.flDisk (by have:=c.q;omega);exact ⟨_,⟨j.fl,f,bs,g,hO,a5.clean,⟨c.gen,c.epoch⟩,a2.trans (a4.trans (RA _ _ _ _)),(a6.elim (λe=>by rw[e];rfl) (λe=>by rw[e];rfl)),a3,Z,Z⟩,a⟩
end
section
section
variable{P:Program}{C:World->Prop}{o:Oper}{n:Nat}{ds:List Deferred}{L:List (Nat×Value)}{x y:Operand}{xt yt:TypeId}
def Kw(P:Program)(t:TypeId)(f:Nat)(cs:Array Value):Option Value:=match P.underlying t with
 | some (.struct fs)=>match fs[f]? with
  | some fd=>bif Fq P fd.type then cs[fd.offset]? else none
  | none=>none
 | _=>none
theorem R6{t:TypeId}{f:Nat}{cs:Array Value}{v:Value}(e:o.op=.field t x f)(h:ev L x=some (.agg cs))(b:Kw P t f cs=some v):Ao P C n ds L o v:=λa c w _=>by
 unfold Kw at b;split at b
 ·rename_i j d
  split at b
  ·rename_i g i
   cases hb:Fq P g.type with
   | false=>rw[hb] at b;cases b
   | true=>
    rw[hb] at b;simp only[cond_true] at b;simp only[execOp,e,c.ev h,Instr.field,Yc,run_underlying d,X6,i];simp[asAgg,part,Fs hb,b,go_sem]
  cases b
 cases b
end
end
def B5(n:Nat)(C:Nat->Nat):Nat->Bool:=λp=>decide (p<n/\C p=0)
def LC(C:Nat->Nat)(i:Nat):Nat->Nat:=λp=>if p/120+1<i then C p else 0
theorem Nd(C:Nat->Nat):LC C 0=λ_=>0:=by funext p;simp[LC]
theorem PL(C:Nat->Nat):LC C 1=LC C 0:=by funext p;simp[LC]
theorem PM(C:Nat->Nat)(n i:Nat){k:Nat}(h:k<120):(B8 C n i).getD k 0=if 120*i+k<n then (C (120*i+k):Int) else 0:=by
 simp[B8,List.getD,h]
theorem Nf(C:Nat->Nat)(n j:Nat):cnL (DB (LC C (1+j)) j (B8 C n j) 120) n=cnL (LC C (1+j+1)) n:=by
 unfold cnL;refine Zu λp hp=>?_;have hp:=Y2.1 hp;unfold DB LC;by_cases h:p/120=j
 ·rw[if_pos ⟨h,by omega⟩,if_pos U,PM _ _ _ U,if_pos U,show 120*j+p%120=p by omega];rfl
 rw[if_neg (λq=>h q.1)];by_cases h2:p/120+1<1+j
 ·rw[if_pos h2,if_pos U]
 rw[if_neg h2,if_neg U]
theorem PN(C:Nat->Nat)(n:Nat):cnL (LC C (manyN n+1)) n=cnL C n:=by
 unfold cnL;refine Zu λp hp=>?_;have hp:=Y2.1 hp;unfold LC;rw[if_pos (by unfold manyN;omega)]
theorem PO{C:Nat->Nat}{n i:Nat}:∀(k:Nat) (x:Int),(B8 C n i)[k]?=some x->n<=120*i+k->x=0:=λk x h b=>by
 have a:=(XU.1 h).1;rw[Db] at a;have:=PM C n i a;rw[List.getD,h,if_neg U] at this;simpa using this
def Gp(C:Nat->Nat)(n i:Nat):Nat->Bool:=λp=>decide (p<n) && !(decide (p<i)&&decide (0<C p))
theorem R7(C:Nat->Nat)(n:Nat):Gp C n 0=CY n:=by funext p;simp[Gp,CY]
theorem UC(C:Nat->Nat)(n:Nat):Gp C n n=B5 n C:=by
 funext p;unfold Gp B5;rw[Yf];simp;omega
theorem R8{C:Nat->Nat}{n i:Nat}(h:0<C i):CA (Gp C n i) i=Gp C n (i+1):=by
 funext p;unfold CA Gp;rw[Yf];simp;by_cases e:p=i
 ·subst e;simp;omega
 simp[e];omega
theorem R9{C:Nat->Nat}{n i:Nat}(h:¬0<C i):Gp C n i=Gp C n (i+1):=by
 funext p;unfold Gp;by_cases e:p=i
 ·subst e;have:decide (0<C p)=false:=decide_eq_false h
  rw[this];simp
 have a:decide (p<i)=decide (p<i+1):=decide_eq_decide.2 U;rw[a]
theorem Ng(F:Nat->Bool):Ct F BX=F:=by funext p;simp[Ct,BX]
theorem Wb{C:Nat->Nat}{n i:Nat}(h:i<n):Gp C n i i=true:=by unfold Gp;simp[h]
theorem UD(ps pd:Nat)(D:Dsk)(G:StG)(mb n:Nat)(C:Nat->Nat)(g:Fine D G mb)(hn:16<=n/\n<=1024)(hG:G.x.pages=n)(cb:List UInt8)(f:G.M 0=⟨1,cb⟩)(o:∀i,i<manyN n->G.M (1+i)=CK C n i)(hC:∀k,C k<=1000)(y:∀p,p<=manyN n->C p=1):An 31 [V ps] [stoA ps pd D G none] (λv X=>∃pp a b m c:Nat,v=.tuple #[V pp,Aa 0]/\X=[stoA ps pd D G none,plB pp ps a c n false,coB a b n m,AV b C n,AG m ([]) 0,alB c n (B5 n C) BX (B5 n C)]):=by
 intro z R w H;have a8:=GO hn.1;refine Af func31 Z ntmps31 Z (Zc 21 Z (Ah Z (call78 _) (Ud _ _ _ _ _) H ?_));intro w H;refine Ae Z (R6 (v:=Aa G.x.pages) Z Z J) (k_updA 18 (v:=Aa (n:Int)) Z (congrArg Aa hG) (Ae Z (AR Z Z (out:=[V ps,.pointer none,.pointer none,Aa (n:Int),.bool false]) J) (Za 0 [] H Z ?_)));intro l w H;refine Z2 10 [3,0,0] H Z (AA Z (call79 _) (PF _ U) H ?_);rintro _ w _ ⟨a,b,m,rfl,rfl⟩ H;refine Z4 15 [1,3,3,3,0] H Z ?_;intro w H;refine AA Z (call80 _) (V5 _ U) H ?_;rintro _ w _ ⟨c,rfl,rfl⟩ H;refine Z4 11 [2,4,3,4,0] H Z ?_;intro w H;refine Ah Z (call51 _) (FF _ U) H ?_;intro w H;refine Z1 17 [] [(manyN n:Int)+1] Z U ?_;refine Aq (σ:=Nat) (λi=>[(47,Aa (i:Int)),(6,.bool false),(0,V ps),(4,V l),(5,Aa (manyN n:Int)),(46,Aa ((manyN n:Int)+1))])
   (λi w=>Sep z (alB c n (CY n) BX (CY n)::coB a b n m::AV b (LC C i) n::AG m ([]) 0::plB l ps a c n false::stoA ps pd D G none::R) w/\(i<=manyN n+1)) (λi=>manyN n+1-i) 0
   fr_z ⟨(by rw[Nd];exact H),by omega⟩ ?_
 clear H;rintro i w ⟨e,r⟩;have H:=e.l6;have a3:=r;clear r;refine Z0 6 [0] Z (Ag Z (λs=>?_) (λs=>?_))
 ·have a2:G.M i≠DM:=λq=>by
    rcases Aad i with h0|h0
    · subst h0;rw[f] at q;cases q
    · have s:=o (i-1) U;rw[show 1+(i-1)=i by omega,q] at s;cases s
  refine Zc 14 Z (AA Z (call21 _) (VJ ps pd D G none i U g.clean.f1 (G.M i) Z) H.f5 ?_);rintro _ w _ (⟨a4,rfl,rfl⟩|⟨a7,rv,rfl,rfl⟩) e
  ·exact absurd a4 a2
  have H:=e.l7;obtain ⟨gb,a5,rest,rfl,c1,c2,c3,H⟩:=H.ungrow 0 Z U;refine Za 3 [] H Z ?_;intro b2 w H;refine Z4 20 [0,4,0] H Z ?_;intro w H;refine Ag Z (λh2=>?_) (λh2=>?_)
  ·obtain rfl:i=0:=by omega
   refine Z2 5 [0,0,0] H Z (k_updA 84 (v:=Aa 1) Z (congrArg Aa (by rw[f])) (Z1 11 [4] [(0:Int)+1] Z U ?_));replace H:=H.f1.d.d.f5.f5.f5.f5.f5;refine gf ?_;intro _ g;refine ⟨(0+1),g.cz,⟨(by rw[PL];exact H),?_⟩,?_⟩
   ·omega
   omega
  obtain ⟨j,rfl⟩:∃j,i=1+j:=⟨i-1,by omega⟩;have a0:=o j U;have u:(G.M (1+j)).body.length=240:=by rw[a0];exact (Ed _ _ _).2
  have a6:(G.M (1+j)).body=EF (B8 C n j):=by rw[a0];rfl
  refine Bo 15 J J (A8 H λw e=>?_);have H:=e.l8;refine Vi 4 [0,0] (A3 (H.blk 0 Z) AU) Z J Z (k_updA 59 (v:=Aa 2) Z (congrArg Aa (by rw[o j U];rfl)) (CC 11 [4,1,7,0,1,0,0] [(j:Int)] H Z J U (Ce (gw (Ah Z (call81 _) (Uu _ _ _ _ _ _ j U U _ _ _ _ _ (λh q=>q.rd U U (by rw[XX,X8,u];omega) (by rw[Yl,YR,YJ (by rw[X8,u])])) (B8 C n j) (Db _ _ _) (Jk hC _ _) a6 PO) H.f1.f6.f6.f6 ?_)))));intro w H;dsimp only[AV] at H;rw[Nf] at H;have e:Sep z (coB a b n m::AV b (LC C (1+j+1)) n::AG m ([]) 0::blk gb ((G.M (1+j)).body.map u8++rest) 5::blk b2 [Aa ((G.M (1+j)).kind),.slice (some ⟨gb,0,none⟩) 240 a5] 40::stoA ps pd D G none::alB c n (CY n) BX (CY n)::plB l ps a c n false::R) w:=H;clear H;have H:=e.l8;refine Z1 11 [4] [((1+j):Int)+1] Z U ?_;replace H:=H.f4.d.f3.d.f3.f5.f4.f4.f4.f5;refine gf ?_;intro _ g;refine ⟨(1+j+1),g.cz,⟨H,?_⟩,?_⟩
  ·omega
  omega
 obtain rfl:i=manyN n+1:=by omega
 refine Zc 2 Z (gx (Zc 4 Z ?_));dsimp only[AV] at H;rw[PN] at H;have e:Sep z (alB c n (CY n) BX (CY n)::coB a b n m::AV b C n::AG m ([]) 0::plB l ps a c n false::stoA ps pd D G none::R) w:=H;clear H;have H:=e.l6;refine Z1 7 [] [(manyN n:Int)+1] Z U ?_;refine Aq (σ:=Nat) (λi=>[(90,Aa (i:Int)),(6,.bool false),(4,V l),(89,Aa ((manyN n:Int)+1))])
   (λi w=>Sep z (alB c n (CY n) BX (CY n)::coB a b n m::AV b C n::AG m ([]) 0::plB l ps a c n false::stoA ps pd D G none::R) w/\(i<=manyN n+1)) (λi=>manyN n+1-i) 0
   fr_z ⟨H,by omega⟩ ?_
 clear H;rintro i w ⟨e,r⟩;have H:=e.l6;have a3:=r;clear r;refine Z0 6 [0] Z (Ag Z (λh3=>?_) (λh3=>?_))
 ·have a2:G.M i≠DM:=λq=>by
    rcases Aad i with h0|h0
    · subst h0;rw[f] at q;cases q
    · have s:=o (i-1) U;rw[show 1+(i-1)=i by omega,q] at s;cases s
  refine Z2 18 [1,4,0] H Z (Ah Z (call50 _) (EG _ _ _ _ _ _ U U) H.f2.f2 ?_);intro w H;refine k_updA 100 (v:=Aa 1) Z (congrArg Aa (by rw[y i U];rfl)) (Z1 10 [4] [(i:Int)+1] Z U ?_);replace H:=H.f5.f5.f5.f4.f4.f5;refine gf ?_;intro _ g;refine ⟨(i+1),g.cz,⟨H,?_⟩,?_⟩
  ·omega
  omega
 obtain rfl:i=manyN n+1:=by omega
 refine Zc 2 Z (gx (Z2 22 [3,4,0] H Z ?_));refine Aq (σ:=Nat) (λi=>[(109,Aa (i:Int)),(4,V l),(108,Aa (n:Int))])
   (λi w=>Sep z (alB c n (Gp C n i) BX (CY n)::coB a b n m::AV b C n::AG m ([]) 0::plB l ps a c n false::stoA ps pd D G none::R) w/\(i<=n)) (λi=>n-i) 0
   fr_z ⟨(by rw[R7];exact H),by omega⟩ ?_
 clear H;rintro i w ⟨e,r⟩;have H:=e.l6;have a9:=r;clear r;refine Z0 6 [0] Z (Ag Z (λh4=>?_) (λh4=>?_))
 ·refine Z2 17 [1,4,0] H Z (Ah Z (call50 _) (EG _ _ _ _ _ _ U U) H.f2.f2 ?_);intro w H;refine Z0 3 [0] Z (Ag Z (λh5=>?_) (λh5=>?_))
  ·have a1:0<C i:=by omega
   refine Z2 6 [2,4,0] H Z (Ah Z (call82 _) (PB _ _ _ _ _ i U U (Wb U)) H.f2 ?_);intro w H;rw[R8 a1] at H;refine Z1 7 [] [(i:Int)+1] Z U (gf ?_);intro _ g;refine ⟨(i+1),g.cz,⟨H,?_⟩,?_⟩
   ·omega
   omega
  have t:¬0<C i:=by omega
  refine Z1 7 [] [(i:Int)+1] Z U ?_;replace H:=H.f5.f5.f5.f4.f4.f5;refine gf ?_;intro _ g;refine ⟨(i+1),g.cz,⟨(by rw[<-R9 t];exact H),?_⟩,?_⟩
  ·omega
  omega
 obtain rfl:n=i:=by omega
 refine Zc 2 Z (gx (Zc 3 Z ?_));rw[UC] at H;refine Z2 5 [2,4,0] H Z (Ah Z (call49 _) (Kt _ _ _ _ _) H ?_);intro w H;rw[Ng] at H;refine Zc 10 Z (Zr Z ?_);exact ⟨_,⟨l,a,b,m,c,Z,Z⟩,H.perm 6 [5,4,1,2,3,0] Z Z⟩
section
variable{Tb:Ai}
def Be{α:Type}(f:Nat->α)(a:Nat)(x:α):Nat->α:=λi=>if i=a then x else f i
theorem CS{α:Type}(f:Nat->α)(a:Nat)(x:α):Be f a x a=x:=by simp[Be]
theorem Jm{α:Type}(f:Nat->α){a b:Nat}(x:α)(h:b≠a):Be f a x b=f b:=by simp[Be,h]
structure PoX where
 ps:Nat
 pd:Nat
 pc:Nat
 bn:Nat
 mm:Nat
 pa:Nat
 D:Dsk
 G:StG
 g:Bb
 l:List IE
 clk:Nat
 Dd:Nat->Bool
 A:Ai
structure PoT where
 M:Nat->Pg
 C:Nat->Nat
 F:Nat->Bool
 k:Nat
def poC(C0:Nat->Nat):Option PoT->Nat->Nat
 | none=>C0
 | some T=>T.C
def Nh(n:Nat)(C0:Nat->Nat):Option PoT->Nat->Bool
 | none=>B5 n C0
 | some T=>T.F
def XT(g:Bb):Option PoT->GU
 | none=>none
 | some T=>some (g,T.k)
def S9(pp n:Nat)(C0:Nat->Nat)(t:Option PoT)(X:PoX):List Ai:=
 [plB pp X.ps X.pc X.pa n t.isSome,stoA X.ps X.pd X.D X.G (XT X.g t),coB X.pc X.bn n X.mm,AV X.bn (poC C0 t) n,AG X.mm X.l X.clk,alB X.pa n (Nh n C0 t) X.Dd (B5 n C0),X.A]
structure PoQ(n:Nat)(C0:Nat->Nat)(T:PoT)(X:PoX):Prop where
 m:∀p,(p=0\/manyN n<p)->T.M p=ED X.G.M (some (X.g,T.k)) p
 gn:∀i,i<manyN n->X.g (1+i)=none
 W:WasOk T.C C0 n X.l X.clk
 c:∀k,T.C k<=1000
 df:Ct T.F X.Dd=B5 n T.C
 dj:∀p,X.Dd p=true->T.F p=false
 one:∀p,p<=manyN n->T.C p=1
structure PoP(Tb:Ai)(mb n:Nat)(M0:Nat->Pg)(C0:Nat->Nat)(t:Option PoT)(X:PoX):Prop where
 hn:16<=n/\n<=1024
 fine:Fine X.D X.G mb
 pg:X.G.x.pages=n
 tab:F2 X.A/\X.A=Tb
 m0:∀p,(p=0\/manyN n<p)->M0 p=X.G.M p
 cp:∀i,i<manyN n->X.G.M (1+i)=CK C0 n i
 c0:∀k,C0 k<=1000
 one:∀p,p<=manyN n->C0 p=1
 idle:t=none->X.l=[]/\X.Dd=BX
 tx:∀T,t=some T->PoQ n C0 T X
def poA(Tb:Ai)(pp mb n:Nat)(M0:Nat->Pg)(C0:Nat->Nat)(t:Option PoT):Ai:=λh=>∃X,PoP Tb mb n M0 C0 t X/\seps (S9 pp n C0 t X) h
variable{z w:World}{Γ:List Ai}{pp mb n:Nat}{M0:Nat->Pg}{C0:Nat->Nat}{t:Option PoT}{T:PoT}
theorem Sep.po(H:Sep z (poA Tb pp mb n M0 C0 t::Γ) w):∃X,PoP Tb mb n M0 C0 t X/\Sep z (S9 pp n C0 t X++Γ) w:=
 H.into (p:=λX=>PoP Tb mb n M0 C0 t X) (As:=λX=>S9 pp n C0 t X) (λ_ q=>q)
theorem Sep.toPo{X:PoX}(H:Sep z Γ w)(b:PoP Tb mb n M0 C0 t X)(a:Γ.take 7=S9 pp n C0 t X):Sep z (poA Tb pp mb n M0 C0 t::Γ.drop 7) w:=
 H.made 7 (λh q=>⟨X,b,by rwa[a] at q⟩)
structure PoK(n:Nat)(T:PoT):Prop where
 c:∀k,T.C k<=1000
 free:∀p,T.F p=true->p<n/\T.C p=0/\manyN n<p
 one:∀p,p<=manyN n->T.C p=1
theorem PoQ.k{X:PoX}(Q:PoQ n C0 T X)(b:16<=n):PoK n T:=by
 refine ⟨Q.c,λp hp=>?_,Q.one⟩;have a:B5 n T.C p=true:=by rw[<-Q.df];simp[Ct,hp]
 simp[B5] at a;refine ⟨a.1,a.2,?_⟩;rcases Yg (manyN n) p with h|h
 ·exact h
 have:=Q.one p h;omega
def Wc(n:Nat)(M0:Nat->Pg)(C0:Nat->Nat):PoT:=⟨M0,C0,B5 n C0,0⟩
theorem HH(pp mb n:Nat)(M0:Nat->Pg)(C0:Nat->Nat):An 11 [V pp] [poA Tb pp mb n M0 C0 none] (λv G=>v=Aa 0/\G=[poA Tb pp mb n M0 C0 (some (Wc n M0 C0))]):=by
 intro z R w H;obtain ⟨X,a,H⟩:=H.po;obtain ⟨b,c⟩:=a.idle Z;refine Ret.mono (Cn.at (R1 pp X.ps X.pd X.pc X.bn X.mm X.pa n X.D X.G) H 7 [0,1,2,3,4,5,6] Z Z) ?_;rintro v w' ⟨Γ',⟨rfl,rfl⟩,d⟩;refine ⟨_,⟨Z,Z⟩,d.toPo (X:= {X with g:=CP}) ⟨a.hn,a.fine,a.pg,a.tab,a.m0,a.cp,a.c0,a.one,λe=>(by cases e),λT e=>?_⟩ Z⟩;cases e;refine ⟨λp hp=>a.m0 p hp,λ_ _=>rfl,?_,a.c0,?_,λp hp=>?_,a.one⟩
 ·show WasOk C0 C0 n X.l X.clk
  rw[b];exact WasOk.nil _ _ _
 ·show Ct (B5 n C0) X.Dd=B5 n C0
  rw[c];exact Ng _
 have:X.Dd p=true:=hp;rw[c] at this;cases this
theorem GP(pp mb n:Nat)(M0:Nat->Pg)(C0:Nat->Nat)(T:PoT)(r:T.k+manyN n<=40)(q:mb<=1000000000):An 14 [V pp] [poA Tb pp mb n M0 C0 (some T)] (λv G=>v=Aa 0/\G=[poA Tb pp (mb+2) n T.M T.C none]):=by
 intro z R w H;obtain ⟨X,a,H⟩:=H.po;have Q:=a.tx T Z;refine Ret.mono (Cn.at (PJ pp X.ps X.pd X.pc X.bn X.mm X.pa n X.D X.G mb X.g T.k T.C C0 X.l X.clk T.F X.Dd (B5 n C0) Q.W a.hn a.pg Q.gn r Q.c a.fine q) H 7 [1,0,2,3,4,5,6] Z Z) ?_;rintro v w' ⟨Γ',⟨D2,G2,g,k,zs,d,j,o,_,b,t,rfl,rfl⟩,s⟩;have H3:=s.pick 7 [1,0,2,3,4,5,6] Z;rw[Q.df] at H3;refine ⟨_,⟨Z,Z⟩,H3.toPo (X:= {X with l:=[],Dd:=BX,D:=D2,G:=G2}) ⟨a.hn,o,?_,a.tab,λp hp=>?_,λi f=>?_,Q.c,Q.one,λ_=>⟨Z,Z⟩,λT e=>(by cases e)⟩ Z⟩
 ·have:=a.pg
  rcases t with e|e
  ·show G2.x.pages=_;rw[e];exact this
  show G2.x.pages=_;rw[e];exact this
 ·rw[Q.m p hp]
  show _=G2.M p;rw[b];simp only[ED];rw[d.old p hp]
 show G2.M (1+i)=_;rw[b];simp only[ED];rcases d.done j f with h|⟨h,e⟩
 ·rw[h];rfl
 rw[h,<-e];exact a.cp i f
theorem JX(pp mb n:Nat)(M0:Nat->Pg)(C0:Nat->Nat)(t:Option PoT)(p:Nat)(hp:p<n):An 18 [V pp,Aa (p:Int)] [poA Tb pp mb n M0 C0 t] (λv G=>v=Aa (poC C0 t p:Int)/\G=[poA Tb pp mb n M0 C0 t]):=by
 intro z R w H;obtain ⟨X,a,H⟩:=H.po;refine Ret.mono (Cn.at (R2 pp X.ps X.pc X.bn X.mm X.pa n t.isSome (poC C0 t) p hp a.hn) H 7 [0,2,3,1,4,5,6] Z Z) ?_;rintro v w' ⟨Γ',⟨rfl,rfl⟩,b⟩;exact ⟨_,⟨Z,Z⟩,(b.pick 7 [0,3,1,2,4,5,6] Z).toPo a Z⟩
theorem LY(pp mb n:Nat)(M0:Nat->Pg)(C0:Nat->Nat)(t:Option PoT):An 10 [V pp] [poA Tb pp mb n M0 C0 t] (λv G=>v=Aa (cnt (Nh n C0 t) 0 1024:Int)/\G=[poA Tb pp mb n M0 C0 t]):=by
 intro z R w H;obtain ⟨X,a,H⟩:=H.po;refine Ret.mono (Cn.at (Uv pp X.ps X.pc X.pa n t.isSome (Nh n C0 t) X.Dd (B5 n C0)) H 7 [0,5,1,2,3,4,6] Z Z) ?_;rintro v w' ⟨Γ',⟨rfl,rfl⟩,b⟩;exact ⟨_,⟨Z,Z⟩,(b.pick 7 [0,2,3,4,5,1,6] Z).toPo a Z⟩
theorem PoQ.put{X:PoX}{p:Nat}{x:Pg}(Q:PoQ n C0 T X)(hp:p=0\/manyN n<p)(a:Nat):PoQ n C0 {T with M:=Be T.M p x,k:=a} {X with g:=pgSet X.g p x} :=by
 refine ⟨λq hq=>?_,λi b=>?_,Q.W,Q.c,Q.df,Q.dj,Q.one⟩
 ·simp only[Be,ED,pgSet]
  split
  ·rfl
  exact Q.m q hq
 show pgSet X.g p x (1+i)=none;unfold pgSet;rw[if_neg U];exact Q.gn i b
theorem WY(pp mb n:Nat)(M0:Nat->Pg)(C0:Nat->Nat)(T:PoT)(p:Nat)(hp:manyN n<p/\p<n)(f:1<=T.C p/\T.C p<1000):
  An 17 [V pp,Aa (p:Int)] [poA Tb pp mb n M0 C0 (some T)] (λv G=>v=Aa 0/\G=[poA Tb pp mb n M0 C0 (some {T with C:=Be T.C p (T.C p+1)})]):=by
 intro z R w H;obtain ⟨X,a,H⟩:=H.po;have Q:=a.tx T Z;refine Ret.mono (Cn.at (Wa pp X.ps X.pc X.bn X.mm X.pa n T.C C0 X.l X.clk Q.W a.hn p hp f) H 7 [0,2,3,4,1,5,6] Z Z) ?_;rintro v w' ⟨Γ',⟨d,b,W2,rfl,rfl⟩,g⟩;refine ⟨_,⟨Z,Z⟩,((g.pick 7 [0,4,1,2,3,5,6] Z).toPo (X:= {X with l:=d,clk:=b}) (t:=some {T with C:=Be T.C p (T.C p+1)}) ⟨a.hn,a.fine,a.pg,a.tab,a.m0,a.cp,a.c0,a.one,λe=>(by cases e),λT' e=>?_⟩ Z)⟩;cases e;refine ⟨Q.m,Q.gn,W2,λk=>?_,?_,Q.dj,λq hq=>?_⟩
 ·show Be T.C p (T.C p+1) k<=1000
  unfold Be;split
  ·omega
  exact Q.c k
 ·show Ct T.F X.Dd=B5 n (Be T.C p (T.C p+1))
  rw[Q.df];funext q;unfold B5 Be;split
  ·rename_i e;subst e;simp;omega
  rfl
 show Be T.C p (T.C p+1) q=1;rw[Jm _ _ U];exact Q.one q hq
theorem UE(pp mb n:Nat)(M0:Nat->Pg)(C0:Nat->Nat)(T:PoT)(p:Nat)(hp:manyN n<p/\p<n)(f:2<=T.C p):
  An 15 [V pp,Aa (p:Int)] [poA Tb pp mb n M0 C0 (some T)] (λv G=>v=Aa 0/\G=[poA Tb pp mb n M0 C0 (some {T with C:=Be T.C p (T.C p-1)})]):=by
 intro z R w H;obtain ⟨X,a,H⟩:=H.po;have Q:=a.tx T Z;refine Ret.mono (Cn.at (R4 pp X.ps X.pc X.bn X.mm X.pa n T.C C0 X.l X.clk Q.W a.hn p hp ⟨f,Q.c p⟩) H 7 [0,2,3,4,1,5,6] Z Z) ?_;rintro v w' ⟨Γ',⟨d,b,W2,rfl,rfl⟩,g⟩;refine ⟨_,⟨Z,Z⟩,((g.pick 7 [0,4,1,2,3,5,6] Z).toPo (X:= {X with l:=d,clk:=b}) (t:=some {T with C:=Be T.C p (T.C p-1)}) ⟨a.hn,a.fine,a.pg,a.tab,a.m0,a.cp,a.c0,a.one,λe=>(by cases e),λT' e=>?_⟩ Z)⟩;cases e;refine ⟨Q.m,Q.gn,W2,λk=>?_,?_,Q.dj,λq hq=>?_⟩
 ·show Be T.C p (T.C p-1) k<=1000
  have:=Q.c p;unfold Be;split
  ·omega
  exact Q.c k
 ·show Ct T.F X.Dd=B5 n (Be T.C p (T.C p-1))
  rw[Q.df];funext q;unfold B5 Be;split
  ·rename_i e;subst e;exact decide_eq_decide.2 U
  rfl
 show Be T.C p (T.C p-1) q=1;rw[Jm _ _ U];exact Q.one q hq
theorem PP(pp mb n:Nat)(M0:Nat->Pg)(C0:Nat->Nat)(T:PoT)(p:Nat)(hp:manyN n<p/\p<n)(h:T.C p=1):
  An 15 [V pp,Aa (p:Int)] [poA Tb pp mb n M0 C0 (some T)] (λv G=>v=Aa 0/\G=[poA Tb pp mb n M0 C0 (some {T with C:=Be T.C p 0})]):=by
 intro z R w H;obtain ⟨X,a,H⟩:=H.po;have Q:=a.tx T Z;have f:(T.F p||X.Dd p)=false:=by
  have:Ct T.F X.Dd p=B5 n T.C p:=by rw[Q.df]
  unfold Ct B5 at this;rw[this];simp;omega
 simp at f;refine Ret.mono (Cn.at (Uw pp X.ps X.pc X.bn X.mm X.pa n T.C C0 X.l X.clk Q.W a.hn p hp T.F X.Dd (B5 n C0) h f.1 f.2) H 7 [0,2,3,4,5,1,6] Z Z) ?_;rintro v w' ⟨Γ',⟨g,d,W2,rfl,rfl⟩,i⟩;refine ⟨_,⟨Z,Z⟩,((i.pick 7 [0,5,1,2,3,4,6] Z).toPo (X:= {X with l:=g,clk:=d,Dd:=Fb X.Dd p}) (t:=some {T with C:=Be T.C p 0}) ⟨a.hn,a.fine,a.pg,a.tab,a.m0,a.cp,a.c0,a.one,λe=>(by cases e),λT' e=>?_⟩ Z)⟩;cases e;refine ⟨Q.m,Q.gn,W2,λk=>?_,?_,λq hq=>?_,λq hq=>?_⟩
 ·show Be T.C p 0 k<=1000
  unfold Be;split
  ·omega
  exact Q.c k
 ·show Ct T.F (Fb X.Dd p)=B5 n (Be T.C p 0)
  funext q;have:Ct T.F X.Dd q=B5 n T.C q:=by rw[Q.df]
  unfold Ct B5 at this;unfold Ct Fb B5 Be;rw[<-Bool.or_assoc,this];by_cases e:q=p
  ·subst e;simp[hp.2]
  simp[e]
 ·have b:Fb X.Dd p q=true:=hq
  unfold Fb at b;by_cases e:q=p
  ·subst e;exact f.1
  simp[e] at b;exact Q.dj q b
 show Be T.C p 0 q=1;rw[Jm _ _ U];exact Q.one q hq
end
section
variable{Tb:Ai}
variable{z w:World}{Γ:List Ai}{pp mb n:Nat}{M0:Nat->Pg}{C0:Nat->Nat}{t:Option PoT}{T:PoT}
theorem UF(pp mb n:Nat)(M0:Nat->Pg)(C0:Nat->Nat)(T:PoT)(x:Pg)(hx:x.Ok)(o:Value)(B:Ai)(hB:∀h,B h->rdH 1 o 240 (x.body.map u8) h)(hk:T.k<40):
  An 12 [V pp,.agg #[Aa x.kind,o]] [poA Tb pp mb n M0 C0 (some T),B] (λv G=>(cnt T.F 0 1024=0/\v=.tuple #[Aa 0,Aa 20]/\G=[poA Tb pp mb n M0 C0 (some T),B])\/
   ∃p f:Nat,((T.F p=true/\∀q,q<p->T.F q=false)/\f<=T.k+1/\cnt (CA T.F p) 0 1024+1=cnt T.F 0 1024)/\v=.tuple #[Aa (p:Int),Aa 0]/\G=[poA Tb pp mb n M0 C0 (some ⟨Be T.M p x,Be T.C p 1,CA T.F p,f⟩),B]):=by
 intro z R w H;obtain ⟨X,a,H⟩:=H.po;have Q:=a.tx T Z;have K:=Q.k a.hn.1;have hn:=a.hn;by_cases hno:∀q,q<1024->T.F q=false
 ·refine Ret.mono (Cn.at (PI pp X.ps X.pc X.pa n x hx o B hB T.F X.Dd (B5 n C0) hno) H 8 [0,5,7,1,2,3,4,6] Z Z) ?_
  rintro v w' ⟨Γ',⟨rfl,rfl⟩,s⟩;refine ⟨_,.inl ⟨?_,Z,Z⟩,(s.pick 8 [0,3,4,5,6,1,7,2] Z).toPo a Z⟩;rw[FG (F:=T.F) (G:=BX) (λi hi=>by rw[hno _ U];rfl)];have:∀m,cnt BX 0 m=0:=λm=>by
   induction m with
   | zero=>rfl
   | succ m ih=>simp only[cnt,ih,BX];rfl
  exact this _
 have y:∃p,T.F p=true/\∀q,q<p->T.F q=false:=by
  have b:∃q,T.F q=true:=Aab λh=>hno (λq _=>by
   cases e:T.F q with
   | false=>rfl
   | true=>exact absurd ⟨q,e⟩ h)
  obtain ⟨q,hq⟩:=b;have:∀m q,q<=m->T.F q=true->∃p,T.F p=true/\∀q,q<p->T.F q=false:=λm=>by
   induction m with
   | zero=>intro q b u;exact ⟨q,u,λr hr=>by omega⟩
   | succ m ih=>
    intro q b u;by_cases h3:∃r,r<q/\T.F r=true
    ·obtain ⟨r,h4,h5⟩:=h3
     exact ih r U h5
    refine ⟨q,u,λr hr=>?_⟩
    cases e:T.F r with
    | false=>rfl
    | true=>exact absurd ⟨r,hr,e⟩ h3
  exact this q q (Yo _) hq
 obtain ⟨p,b,h0⟩:=y;obtain ⟨k1,f,k3⟩:=K.free p b;have hd:X.Dd p=false:=by
  cases e:X.Dd p with
  | false=>rfl
  | true=>have:=Q.dj p e;rw[b] at this;cases this
 refine Ret.mono (Cn.at (R3 pp X.ps X.pd X.pc X.bn X.mm X.pa n X.D X.G X.g T.k T.C C0 X.l X.clk T.F X.Dd (B5 n C0) Q.W a.hn a.pg p x hx o B hB (λq=>by omega) k1 b h0 f X.A a.tab.1) H 8 [1,0,2,3,4,5,6,7] Z Z) ?_;rintro v w' ⟨Γ',⟨l2,d,W2,rfl,rfl⟩,s⟩;refine ⟨_,.inr ⟨p,_,⟨⟨b,h0⟩,?_,?_⟩,Z,Z⟩,((s.pick 8 [1,0,2,3,4,5,6,7] Z).toPo (X:= {X with g:=pgSet X.g p x,l:=l2,clk:=d}) (t:=some ⟨Be T.M p x,Be T.C p 1,CA T.F p,T.k+(if (X.g p).isSome then 0 else 1)⟩) ⟨a.hn,a.fine,a.pg,a.tab,a.m0,a.cp,a.c0,a.one,λe=>(by cases e),λT' e=>?_⟩ Z)⟩
 ·split<;>omega
 ·exact LW (F:=T.F) (G:=CA T.F p) (i:=p) U b (by simp[CA]) (λj hj=>by simp[CA,hj])
 cases e
 have Q2:=Q.put (x:=x) (.inr k3) 0;refine ⟨Q2.m,Q2.gn,W2,λk=>?_,?_,λq hq=>?_,λq hq=>?_⟩
 ·show Be T.C p 1 k<=1000
  unfold Be;split
  ·omega
  exact Q.c k
 ·show Ct (CA T.F p) X.Dd=B5 n (Be T.C p 1)
  funext q;have:Ct T.F X.Dd q=B5 n T.C q:=by rw[Q.df]
  unfold Ct B5 at this;unfold Ct CA B5 Be;by_cases e:q=p
  ·subst e;simp[hd]
  simp only[e,decide_false,Bool.not_false,Bool.and_true,if_false];exact this
 ·have:=Q.dj q hq
  show CA T.F p q=false;unfold CA;rw[this];rfl
 show Be T.C p 1 q=1;rw[Jm _ _ U];exact Q.one q hq
end
attribute [local irreducible] CM Cg
theorem Sa{xs:List UInt8}{j:Nat}{b:UInt8}(h:xs[j]?=some b):IntKind.i64.wrap (IntKind.i64.wrap (256*AZ (xs.take j))+(b.toNat:Int))=AZ (xs.take (j+1)):=by
 rw[Int.mul_comm];exact G7 h
theorem Sb{s:UInt32}{i:Nat}(h:i<4):(CX s)[i]?=some (s>>>UInt32.ofNat (8*i)).toUInt8:=by
 match i,h with
 | 0,_=>
  have e:s>>>UInt32.ofNat (8*0)=s:=UInt32.shiftRight_zero;rw[e];rfl
 | 1,_=>rfl
 | 2,_=>rfl
 | 3,_=>rfl
theorem IB{xs bs:List UInt8}{i:Nat}(h:xs.take i=bs.take i)(a:xs.length<=i)(b:bs.length<=i):xs=bs:=by
 rwa[XZ a,XZ b] at h
theorem UG(c:UInt32)(v:Value)(bs:List UInt8)(A:Ai)(l:∀h,A h->rdH 1 v bs.length (bs.map u8) h):An 242 [u32 c,v] [A] (λv G=>v=u32 (C7 c bs)/\G=[A]):=by
 intro z R w H;obtain ⟨e,g,rfl⟩:=H.sy 0 (λq=>(l _ q).slc);have n:=H.sy 0 (λq=>(l _ q).small);refine Af func242 Z ntmps242 Z (Zc 8 Z (Ae Z (Hn Z Z) (Zc 10 Z ?_)));refine Aq (σ:=Nat) (λi=>[(6,Aa (i:Int)),(5,u32 ((bs.take i).foldl C6 (4294967295 ^^^ c))),(1,.slice e bs.length g),(4,u32 0)])
   (λi w=>Sep z (A::R) w/\(i<=bs.length)) (λi=>bs.length-i) 0
   (λ_ a=>(a.co Z (by go_num) a.cz)) ⟨H,Ye _⟩ ?_
 clear H;rintro i w ⟨m,d⟩;have H:=m.l1;have y:=d;clear d;refine Z0 9 [0] Z (Ag Z (λs=>?_) (λs=>?_))
 ·obtain ⟨b,o⟩:∃b,bs[i]?=some b:=⟨_,XV U⟩;refine Zc 5 Z ?_;have f:=(H.rd 0 Z l).at (j:=i) (u:=u8 b) (by simp[o])
  refine Zc 4 Z (Ae Z (Az Z (z:=1) (j:=i) (r:=i) J Z Z Z U f U) (Ae Z (AS Z Z J (AB f)) (Ae Z (To Z J Z) (Ae Z (Hm Z Z Z) (Zc 9 Z ?_)))));refine Aq (σ:=Nat) (λk=>[(7,Aa (k:Int)),(5,u32 (Cg k (((bs.take i).foldl C6 (4294967295 ^^^ c)) ^^^ b.toUInt32))),(1,.slice e bs.length g),(4,u32 0),(6,Aa (i:Int)),(11,Aa (i:Int)),(12,.slice e bs.length g),(13,Aa (bs.length:Int)),(14,.bool (decide ((i:Int)<(bs.length:Int)))),(17,u32 ((bs.take i).foldl C6 (4294967295 ^^^ c))),(18,.slice e bs.length g),(19,Aa (i:Int)),(20,Fu e i),(21,u8 b),(22,u32 b.toUInt32),(23,u32 (((bs.take i).foldl C6 (4294967295 ^^^ c)) ^^^ b.toUInt32))])
    (λk w=>Sep z (A::R) w/\(k<=8)) (λk=>8-k) 0
    (λ_ a=>(a.co Z (by go_num) (a.co Z (congrArg u32 (ET _).symm) (a.all Z)))) ⟨H,Ye _⟩ ?_
  clear H;rintro k w ⟨m,d⟩;have H:=m.l1;have x:=d;clear d;refine Z0 7 [0] Z (Ag Z (λp=>?_) (λp=>?_))
  ·refine Zc 7 Z (Ae Z (VK Z Z Z) (Zc 6 Z (Ae Z (VL Z Z Z) (Zc 6 Z (Ae Z (Tl (q:=1) (k:=.u32) Z J Z Z) (Zc 2 Z (Ag Z (λt=>?_) (λt=>?_))))))))
   ·refine Zc 2 Z (Ae Z (Hm (q:=2197175160) Z Z Z) (Z1 9 [] [(k:Int)+1] Z U (gf ?_)));intro _ a;refine ⟨(k+1),(a.co Z (by go_num) (a.co Z (congrArg u32 (by rw[Gk];first|rw[HV (by assumption)]|rw[NX ((bit1 _).resolve_right (by assumption))])) (a.all Z))),⟨H,?_⟩,?_⟩
    ·omega
    omega
   refine Z1 8 [] [(k:Int)+1] Z U (gf ?_);intro _ a;refine ⟨(k+1),(a.co Z (by go_num) (a.co Z (congrArg u32 (by rw[Gk];first|rw[HV (by assumption)]|rw[NX ((bit1 _).resolve_right (by assumption))])) (a.all Z))),⟨H,?_⟩,?_⟩
   ·omega
   omega
  obtain rfl:k=8:=by omega
  refine Zc 2 Z (gx (Z1 8 [] [(i:Int)+1] Z U (gf ?_)));intro _ a;refine ⟨(i+1),(a.co Z (by go_num) (a.co Z (congrArg u32 (by rw[Yd,o,RF];simp)) (a.all Z))),⟨H,?_⟩,?_⟩
  ·omega
  omega
 refine Zc 2 Z (gx (Zc 5 Z (Ae Z (Hn Z Z) (Zc 4 Z (Zr Z ?_)))));obtain rfl:i=bs.length:=by omega
 exact ⟨_,⟨congrArg u32 (by simp[C7]),Z⟩,H⟩
theorem LZ(v:Value)(bs:List UInt8)(A:Ai)(a:∀h,A h->rdH 1 v bs.length (bs.map u8) h):An 222 [v] [A] (λv G=>v=u32 (Au bs)/\G=[A]):=by
 intro z R w H;refine Af func222 Z ntmps222 Z (Zc 8 Z (Ah Z (call242 _) (UG 0 _ bs A a) H ?_));intro w H;refine Zc 4 Z (Zr Z ?_);exact ⟨_,⟨Z,Z⟩,H⟩
theorem B6(v:Value)(xs:List UInt8)(x:Int)(k:Nat)(h:1<=k/\k<=8)(e:xs.length<=1048576):An 157 [v,Aa x,Aa (k:Int)] [bsA 5 v xs] (λv G=>∃a:Value,v=a/\G=[grow 5 1 a (xs++Ad k x).length ((xs++Ad k x).map u8)]):=by
 intro z R w H;refine Af func157 Z ntmps157 Z (Z1 14 [] [(k:Int)-1] Z U ?_);refine Aq (σ:=Nat×Value) (λ⟨j,u⟩=>[(7,Aa ((k:Int)-1-(j:Int))),(0,u),(1,Aa x),(6,.slice none 0 0)])
   (λ⟨j,u⟩ w=>Sep z (pmA 5 xs (Ad k x) u j::R) w/\(j<=k)) (λ⟨j,u⟩=>k-j) ⟨0,v⟩
   fr_z ⟨(RL H),Ye _⟩ ?_
 clear H;rintro ⟨j,u⟩ w ⟨c,b⟩;dsimp only at b c ⊢;have H:=c.l1;have l:=b;clear b;refine Z0 7 [0] Z (Ag Z (λg=>?_) (λg=>?_))
 ·refine Z1 9 [] [((8*(k-1-j):Nat):Int)] Z U (Ae Z (OQ Z Z Z (m:=8*(k-1-j)) Z U) (Ae Z (KF Z J Z) (AC Z (AI H Z J A2 Z (by decide) (by decide) (out:=[u8 (EJ (x/2^(8*(k-1-j))))]) J) ?_)));rintro _ w ⟨i,rfl,H⟩;replace H:=H.f1;refine AC Z (Ps H Z J A2 Z Z (H.rv 1 (·.rd U U O Z)) (beN_get x U) U) ?_;rintro a w H;refine Zc 2 Z ?_;replace H:=(Uj H).l2
  refine Z1 7 [] [(k:Int)-1-((j+1:Nat):Int)] Z U ?_;replace H:=H.f1.d;refine gf ?_;intro _ f;refine ⟨⟨j+1,a⟩,f.cz,⟨H,?_⟩,?_⟩
  ·show j+1<=k;omega
  (dsimp only;omega)
 refine Zc 2 Z (gx (Zc 3 Z ?_));obtain rfl:j=k:=by omega
 replace H:=(VN U (Ac _ _).symm H).l1;refine Zc 6 Z (Zr Z ?_);exact ⟨_,⟨_,Z,Z⟩,H⟩
theorem B1(v:Value)(bs:List UInt8)(A:Ai)(e:∀h,A h->rdH 1 v bs.length (bs.map u8) h)(a k:Nat)(s:a+k<=bs.length/\k<=8):An 142 [v,Aa (a:Int),Aa (k:Int)] [A] (λv G=>v=Aa (AZ ((bs.drop a).take k))/\G=[A]):=by
 intro z R w H;obtain ⟨o,p,rfl⟩:=H.sy 0 (λq=>(e _ q).slc);have f:=H.sy 0 (λq=>(e _ q).small);refine Af func142 Z ntmps142 Z (Zc 18 Z ?_);refine Aq (σ:=Nat) (λj=>[(8,Aa ((a+j:Nat):Int)),(7,Aa (AZ ((bs.drop a).take j))),(0,.slice o bs.length p),(1,Aa (a:Int)),(2,Aa (k:Int)),(6,Aa 0)])
   (λj w=>Sep z (A::R) w/\(j<=k)) (λj=>k-j) 0
   (λ_ c=>(c.co Z (by go_num) c.cz)) ⟨H,Ye _⟩ ?_
 clear H;rintro j w ⟨l,g⟩;have H:=l.l1;have t:=g;clear g;refine Z1 10 [0] [((a+k:Nat):Int)] Z U (Ag Z (λn=>?_) (λn=>?_))
 ·obtain ⟨b,i⟩:∃b,bs[a+j]?=some b:=⟨_,XV U⟩;refine Z0 18 [0] Z (Ag Z (λm=>?_) (λm=>?_))
  ·have d:=(H.rd 0 Z e).at (j:=a+j) (u:=u8 b) (by simp[i])
   refine Zc 3 Z (Ae Z (Az Z (z:=1) (j:=(a+j)) (r:=(a+j)) J Z Z Z U d U) (Ae Z (AS Z Z J (AB d)) (Ae Z (KG Z J Z) (Zc 5 Z (Ae Z (SF Z Z Z) (Zc 1 Z (Ae Z (SE Z Z Z) (Z1 9 [] [((a+(j+1):Nat):Int)] Z U (gf ?_)))))))));intro _ c;refine ⟨(j+1),(c.co Z Z (c.co Z (congrArg Aa (Sa (by rw[YQ];exact i))) (c.all Z))),⟨H,?_⟩,?_⟩
   ·omega
   omega
  (exfalso;omega)
 refine Zc 2 Z (gx (Zc 9 Z (Zr Z ?_)));obtain rfl:j=k:=by omega
 exact ⟨_,⟨Z,Z⟩,H⟩
theorem Fo(v:Value)(xs:List UInt8)(m:Nat)(l:xs.length<=m/\m<=1048576):An 141 [v,Aa (m:Int)] [grow 5 1 v xs.length (xs.map u8)] (λv G=>∃b:Value,v=b/\G=[grow 5 1 b (xs++List.replicate (m-xs.length) 0).length ((xs++List.replicate (m-xs.length) 0).map u8)]):=by
 intro z R w H;refine Af func141 Z ntmps141 Z (Zc 7 Z ?_);refine Aq (σ:=Nat×Value) (λ⟨j,u⟩=>[(0,u),(1,Aa (m:Int)),(4,.slice none 0 0)])
   (λ⟨j,u⟩ w=>Sep z (grow 5 1 u (xs.length+j) ((xs++List.replicate j 0).map u8)::R) w/\(xs.length+j<=m)) (λ⟨j,u⟩=>m-j) ⟨0,v⟩
   (λ_ e=>(e.all Z)) ⟨(by simpa using H),l.1⟩ ?_
 clear H;rintro ⟨j,u⟩ w ⟨a,c⟩;dsimp only at c a ⊢;have H:=a.l1;have h:=H.sy 0 (·.slc);have n:=c;clear c;refine Zc 4 Z (Ae Z (IY Z (sz:=1) J Z h) (Z0 4 [0] Z (Ag Z (λk=>?_) (λk=>?_))))
 ·refine Zc 5 Z (AC Z (AI H Z J A2 Z (by decide) (by decide) (out:=[u8 0]) J) ?_);rintro _ w ⟨i,rfl,H⟩;refine AC Z (AJ 1 H Z Z J A2 Z Z (H.rv 0 (·.rd U U O Z)) (by simp[u8,Value.oneCell']) U) ?_;rintro b w a;have a:Sep z (blk i [u8 0] 5::grow 5 1 b ((xs.length+j)+1) ((xs++List.replicate j 0).map u8++[u8 0])::R) w:=a
  have f:((xs++List.replicate j 0).map u8++[u8 0]:List Value)=(xs++List.replicate (j+1) 0).map u8:=(by rw[List.replicate_succ'];simp[u8]);rw[f] at a;rw[show ((xs.length+j)+1:Nat)=(xs.length+(j+1)) from by omega] at a;have H:=a.l2;have g:=H.sy 1 (·.slc);refine Zc 3 Z ?_;replace H:=H.d;refine gf ?_;intro _ e;refine ⟨⟨j+1,b⟩,(e.all Z),⟨H,?_⟩,?_⟩
  ·show xs.length+(j+1)<=m;omega
  (dsimp only;omega)
 refine Zc 2 Z (gx (Zc 9 Z (Zr Z ?_)));obtain rfl:j=m-xs.length:=by omega
 rw[show xs.length+(m-xs.length)=(xs++List.replicate (m-xs.length) (0:UInt8)).length from by simp] at H;exact ⟨_,⟨_,Z,Z⟩,H⟩
theorem PQ(v:Value)(xs:List UInt8)(n:xs.length<=1048576):An 219 [v,v] [grow 5 1 v xs.length (xs.map u8)] (λv G=>∃b:Value,v=b/\G=[grow 5 1 b (xs++CX (Au xs)).length ((xs++CX (Au xs)).map u8)]):=by
 intro z R w H;refine Af func219 Z ntmps219 Z (Zc 8 Z (Ah Z (call222 _) (LZ _ xs _ (λh q=>q.rd)) H ?_));intro w H;refine Zc 10 Z ?_;refine Aq (σ:=Nat×Value) (λ⟨j,u⟩=>[(6,Aa (j:Int)),(0,u),(4,.slice none 0 0),(5,u32 (Au xs))])
   (λ⟨j,u⟩ w=>Sep z (grow 5 1 u (xs.length+j) ((xs++(CX (Au xs)).take j).map u8)::R) w/\(j<=4)) (λ⟨j,u⟩=>4-j) ⟨0,v⟩
   fr_z ⟨(by simpa using H),Ye _⟩ ?_
 clear H;rintro ⟨j,u⟩ w ⟨a,c⟩;dsimp only at c a ⊢;have H:=a.l1;have l:=H.sy 0 (·.slc);have m:=c;clear c;refine Z0 7 [0] Z (Ag Z (λk=>?_) (λk=>?_))
 ·refine Z1 9 [] [((8*j:Nat):Int)] Z U (Ae Z (Fj Z Z Z (n':=UInt32.ofNat (8*j)) ⟨by omega,by omega,Z⟩) (Ae Z (Fk Z J Z) (AC Z (AI H Z J A2 Z (by decide) (by decide) (out:=[u8 ((Au xs>>>UInt32.ofNat (8*j)).toUInt8)]) J) ?_)));rintro _ w ⟨g,rfl,H⟩;refine AC Z (AJ 1 H Z Z J A2 Z Z (H.rv 0 (·.rd U U O Z)) (by simp[u8,Value.oneCell']) U) ?_;rintro b w a;have a:Sep z (blk g [u8 ((Au xs>>>UInt32.ofNat (8*j)).toUInt8)] 5::grow 5 1 b ((xs.length+j)+1) ((xs++(CX (Au xs)).take j).map u8++[u8 ((Au xs>>>UInt32.ofNat (8*j)).toUInt8)])::R) w:=a
  have e:((xs++(CX (Au xs)).take j).map u8++[u8 ((Au xs>>>UInt32.ofNat (8*j)).toUInt8)]:List Value)=(xs++(CX (Au xs)).take (j+1)).map u8:=(by rw[Yd,Sb U];simp);rw[e] at a;rw[show ((xs.length+j)+1:Nat)=(xs.length+(j+1)) from by omega] at a;have H:=a.l2;have f:=H.sy 1 (·.slc);refine Z1 9 [] [(j:Int)+1] Z U ?_;replace H:=H.d;refine gf ?_;intro _ i;refine ⟨⟨j+1,b⟩,i.cz,⟨H,?_⟩,?_⟩
  ·show j+1<=4;omega
  (dsimp only;omega)
 refine Zc 2 Z (gx (Zc 9 Z (Zr Z ?_)));obtain rfl:j=4:=by omega
 rw[XZ (by simp[CX]),show xs.length+4=(xs++CX (Au xs)).length from by simp[CX]] at H;exact ⟨_,⟨_,Z,Z⟩,H⟩
theorem FV(v:Value)(xs:List UInt8)(b:xs.length<=252):An 183 [v] [grow 5 1 v xs.length (xs.map u8)] (λv G=>∃a:Value,v=a/\G=[grow 5 1 a (sect xs).length ((sect xs).map u8)]):=by
 intro z R w H;refine Af func183 Z ntmps183 Z (Zc 8 Z (AA Z (call141 _) (Fo _ xs 252 ⟨by first|omega|(simp only[XX,XY,X3,X4,X2,Ac,Aj,Ak]<;>omega)|(simp[Ac,Aj,Ak,Sup.list,sect_len]<;>omega)|simp[Ac,Aj,Ak,Sup.list,sect_len],by omega⟩) H ?_));rintro e w _ ⟨_,rfl,rfl⟩ H;have c:=H.sy 0 (·.slc);refine Zc 7 Z (AA Z (call219 _) (PQ _ (xs++List.replicate (252-xs.length) (0:UInt8)) (by first|omega|(simp only[XX,XY,X3,X4,X2,Ac,Aj,Ak]<;>omega)|(simp[Ac,Aj,Ak,Sup.list,sect_len]<;>omega)|simp[Ac,Aj,Ak,Sup.list,sect_len])) H ?_);rintro f w _ ⟨_,rfl,rfl⟩ H;have d:=H.sy 0 (·.slc);refine Zc 4 Z (Zr Z ?_);rw[Pp b,RH b] at H;exact ⟨_,⟨_,Z,Z⟩,H⟩
theorem CT(x m:Int):An 156 [Aa x,Aa m] [] (λv G=>v=.bool (decide (0<=x/\x<=m))/\G=[]):=by
 intro z R w H;refine Af func156 Z ntmps156 Z (Z0 10 [0] Z (Am 7 Z (λa=>?_) (λa=>?_)))
 ·refine Z0 8 [0] Z (Zr Z ?_);exact ⟨_,⟨congrArg Value.bool (by rw[Yf];simp<;>omega),Z⟩,H⟩
 refine Zc 8 Z (Zr Z ?_);exact ⟨_,⟨congrArg Value.bool (by rw[Yf];simp<;>omega),Z⟩,H⟩
theorem EV(s t:Value)(xs bs:List UInt8)(A B:Ai)(e:∀h,A h->rdH 1 s xs.length (xs.map u8) h)(f:∀h,B h->rdH 1 t bs.length (bs.map u8) h):An 140 [s,t] [A,B] (λv G=>v=.bool (decide (xs=bs))/\G=[A,B]):=by
 intro z R w H;obtain ⟨ao,oc,rfl⟩:=H.sy 0 (λq=>(e _ q).slc);have o:=H.sy 0 (λq=>(e _ q).small);obtain ⟨y,bc,rfl⟩:=H.sy 1 (λq=>(f _ q).slc);have g:=H.sy 1 (λq=>(f _ q).small);refine Af func140 Z ntmps140 Z (Z0 15 [0] Z (Ag Z (λh1=>?_) (λh1=>?_)))
 ·refine Zc 6 Z (Zr Z ?_);exact ⟨_,⟨congrArg Value.bool (by first|exact (decide_eq_true (IB a U U)).symm|exact (decide_eq_false (λq=>by subst q;first|omega|simp_all)).symm),Z⟩,H⟩
 refine Zc 9 Z ?_;refine Aq (σ:=Nat) (λi=>[(5,Aa (i:Int)),(0,.slice ao xs.length oc),(1,.slice y bs.length bc)])
   (λi w=>Sep z (A::B::R) w/\(i<=xs.length/\xs.take i=bs.take i)) (λi=>xs.length-i) 0
   fr_z ⟨H,⟨Ye _,Z⟩⟩ ?_
 clear H;rintro i w ⟨n,x⟩;have H:=n.l2;obtain ⟨hi,a⟩:=x;refine Z0 9 [0] Z (Ag Z (λh2=>?_) (λh2=>?_))
 ·obtain ⟨b,l⟩:∃b,xs[i]?=some b:=⟨_,XV U⟩;obtain ⟨c,p⟩:∃c,bs[i]?=some c:=⟨_,XV U⟩;refine Zc 5 Z ?_;have m:=(H.rd 0 Z e).at (j:=i) (u:=u8 b) (by simp[l])
  have d:=(H.rd 1 Z f).at (j:=i) (u:=u8 c) (by simp[p]);refine A4 (Sep z _) J J H.drew (B9 2 [] Z J (Bd Z Z Z (Az Z (z:=1) (j:=i) (r:=i) J Z Z Z U m U) (Bd Z Z Z (AS Z Z J (λ_ hs=>(hs.rd 0 Z e).at (j:=i) (u:=u8 b) (by simp[l]))) (B9 2 [] Z J (Bd Z Z Z (Az Z (z:=1) (j:=i) (r:=i) J Z Z Z U d U) (Bd Z Z Z (AS Z Z J (λ_ hs=>(hs.rd 1 Z f).at (j:=i) (u:=u8 c) (by simp[p]))) (Bd Z Z Z (Vg (k:=.u8) Z J Z Z) (Bn (λw n=>?_)))))))));have H:=n.l2;refine gn (Zc 1 Z (Ag Z (λh3=>?_) (λh3=>?_)))
  ·refine Zc 6 Z (Zr Z ?_);exact ⟨_,⟨congrArg Value.bool (by first|exact (decide_eq_true (IB a U U)).symm|exact (decide_eq_false (λq=>by subst q;first|omega|simp_all)).symm),Z⟩,H⟩
  refine Z1 8 [] [(i:Int)+1] Z U (gf ?_);intro _ hF;refine ⟨(i+1),hF.cz,⟨H,?_⟩,?_⟩
  ·exact ⟨by omega,by rw[Yd,Yd,a,l,p];simp_all⟩
  omega
 refine Zc 2 Z (gx (Zc 8 Z (Zr Z ?_)));exact ⟨_,⟨congrArg Value.bool (by first|exact (decide_eq_true (IB a U U)).symm|exact (decide_eq_false (λq=>by subst q;first|omega|simp_all)).symm),Z⟩,H⟩
def DU(m:Img):List UInt8:=Dh m.num.toNat (EP m)
theorem Wd{m:Img}(h:m.Ok):sect (([80,80,65,71]:List UInt8)++Ad 1 m.kind++Ad 4 m.num++List.replicate (12-(([80,80,65,71]:List UInt8)++Ad 1 m.kind++Ad 4 m.num).length) (0:UInt8)++m.body)=DU m:=by
 obtain ⟨a,b,c⟩:=h;unfold DU Dh Gb EP;congr 1;have e:((m.num.toNat:Nat):Int)=m.num:=by omega
 simp[Ac,e]
theorem N2(s:Sup):An 220 [.agg #[Aa s.gen,Aa s.epoch,Aa s.pages,Aa s.start,Aa s.len,Aa s.head,Aa s.seq]] [] (λv G=>∃a:Value,v=a/\G=[grow 3 1 a 7 (s.list.map Aa)]):=by
 intro z R w H;refine Af func220 Z ntmps220 Z (Za 2 [] H Z ?_);intro c w H;refine Z2 19 [0,0,0,1,0,0,2,0,0,3,0,0,4,0,0,5,0,0,6,0,0] H Z (AC Z (AI H Z J BW Z (by decide) (by decide) (out:=[Aa s.gen,Aa s.epoch,Aa s.pages,Aa s.start,Aa s.len,Aa s.head,Aa s.seq]) J) ?_);rintro _ w ⟨b,rfl,H⟩;refine Zc 4 Z (Zr Z ?_);exact ⟨_,⟨_,Z,Z⟩,(H.pick 2 [0] Z).mono 0 Z (λh q=>q.grow U U O Z)⟩
theorem F3(s:Sup)(hs:∀x∈s.list,0<=x/\x<=1099511627776):An 184 [.agg #[Aa s.gen,Aa s.epoch,Aa s.pages,Aa s.start,Aa s.len,Aa s.head,Aa s.seq]] [] (λv G=>∃l:Value,v=.tuple #[l,Aa 0]/\G=[grow 5 1 l (Br s).length ((Br s).map u8)]):=by
 intro z R w H;refine Af func184 Z ntmps184 Z (Za 2 [] H Z ?_);intro m w H;refine Zc 6 Z (AC Z (AI H Z J A2 Z (by decide) (by decide) (out:=[u8 80,u8 83,u8 85,u8 80]) J) ?_);rintro _ w ⟨e,rfl,H⟩;refine AC Z (LG 0 H Z Z J J Z ⟨Z,by omega⟩) ?_;rintro _ w ⟨rfl,b⟩;have b:Sep z (Ks (.slice (some ⟨e,0,none⟩) 4 4) ([80,83,85,80]:List UInt8).length (([80,83,85,80]:List UInt8).map u8)::blk m [Aa s.gen,Aa s.epoch,Aa s.pages,Aa s.start,Aa s.len,Aa s.head,Aa s.seq] 92::R) w:=b;have H:=b.l2;refine Z2 6 [1,7] H Z (AA Z (call220 _) (N2 s) H ?_);rintro nv w _ ⟨_,rfl,rfl⟩ H;have g:=H.sy 0 (·.slc);obtain ⟨k,o,rfl⟩:=g;refine Zc 5 Z ?_;replace H:=(H.mono 1 (B:=bsA 5 (.slice (some ⟨e,0,none⟩) 4 4) ([80,83,85,80]:List UInt8)) Z (λh q=>.inl q)).l3;replace H:=(H.mono 1 (B:=pgA 5 (.slice (some ⟨e,0,none⟩) 4 4) (([80,83,85,80]:List UInt8)++(s.list.take 0).flatMap (Ad 8)) 0) Z (λh q=>.inl ⟨Z,q⟩)).l3;refine Zc 5 Z ?_;refine Aq (σ:=Nat×Value) (λ⟨i,u⟩=>[(6,Aa (i:Int)),(4,u),(5,.slice k 7 o)])
   (λ⟨i,u⟩ w=>Sep z (grow 3 1 (.slice k 7 o) 7 (s.list.map Aa)::pgA 5 u (([80,83,85,80]:List UInt8)++(s.list.take i).flatMap (Ad 8)) i::blk m [Aa s.gen,Aa s.epoch,Aa s.pages,Aa s.start,Aa s.len,Aa s.head,Aa s.seq] 92::R) w/\(i<=7)) (λ⟨i,u⟩=>7-i) ⟨0,.slice (some ⟨e,0,none⟩) 4 4⟩
   (λ_ d=>(d.co Z (by go_num) d.cz)) ⟨H,Ye _⟩ ?_
 clear H;rintro ⟨i,u⟩ w ⟨b,f⟩;dsimp only at f b ⊢;have H:=b.l3;have hi:=f;clear f;refine Z0 9 [0] Z (Ag Z (λh1=>?_) (λh1=>?_))
 ·refine Zc 6 Z ?_;obtain ⟨y,c⟩:∃y,s.list[i]?=some y:=⟨_,XV (by show i<7;omega)⟩;have p:=hs y (XW c)
  have a:=(H.rv 0 (·.rd)).at (j:=i) (u:=Aa y) (by rw[X9,c];rfl);refine Zc 3 Z (Ae Z (Az Z (z:=1) (j:=i) (r:=i) J Z Z Z U a U) (Ae Z (AS Z Z J (AB a)) (Ah Z (call156 _) (CT _ _) H ?_)));intro w H;refine Ae Z (AL Z Z) (Zc 2 Z (Ag Z (λt=>U) (λt=>?_)));refine Zc 2 Z ?_;have a:=(H.rv 0 (·.rd)).at (j:=i) (u:=Aa y) (by rw[X9,c];rfl);refine Zc 4 Z (Ae Z (Az Z (z:=1) (j:=i) (r:=i) J Z Z Z U a U) (Ae Z (AS Z Z J (AB a)) ?_));replace H:=(H.mono 1 (B:=bsA 5 u (([80,83,85,80]:List UInt8)++(s.list.take i).flatMap (Ad 8))) Z (λh q=>q.bs)).l3;refine AA Z (call157 _) (B6 _ (([80,83,85,80]:List UInt8)++(s.list.take i).flatMap (Ad 8)) y 8 U (by first|omega|(simp only[XX,XY,X3,X4,X2,Ac,Aj,Ak]<;>omega)|(simp[Ac,Aj,Ak,Sup.list,sect_len]<;>omega)|simp[Ac,Aj,Ak,Sup.list,sect_len])) H.f1 ?_;rintro n w _ ⟨_,rfl,rfl⟩ H;have a0:=H.sy 0 (·.slc);refine Zc 2 Z ?_;rw[show (([80,83,85,80]:List UInt8)++(s.list.take i).flatMap (Ad 8)++Ad 8 y)=([80,83,85,80]:List UInt8)++(s.list.take (i+1)).flatMap (Ad 8) from (by rw[Yd,c];simp)] at H;replace H:=(H.mono 0 (B:=pgA 5 n (([80,83,85,80]:List UInt8)++(s.list.take (i+1)).flatMap (Ad 8)) (i+1)) Z (λh q=>.inr ⟨Nat.succ_pos _,q⟩)).l3;refine Z1 7 [] [(i:Int)+1] Z U ?_;replace H:=H.f2.f1.f2;refine gf ?_;intro _ d;refine ⟨⟨i+1,n⟩,d.cz,⟨H,?_⟩,?_⟩
  ·show i+1<=7;omega
  (dsimp only;omega)
 refine Zc 2 Z (gx (Zc 3 Z ?_));obtain rfl:i=7:=by omega
 replace H:=(H.mono 1 (B:=grow 5 1 u (([80,83,85,80]:List UInt8)++(s.list.take 7).flatMap (Ad 8)).length ((([80,83,85,80]:List UInt8)++(s.list.take 7).flatMap (Ad 8)).map u8)) Z (λh q=>q.gr U)).l3;rw[show ([80,83,85,80]:List UInt8)++(s.list.take 7).flatMap (Ad 8)=GM s from Z] at H;have su:=H.sy 1 (·.slc);refine Zc 2 Z (AA Z (call183 _) (FV _ (GM s) (by first|omega|(simp only[XX,XY,X3,X4,X2,Ac,Aj,Ak]<;>omega)|(simp[Ac,Aj,Ak,Sup.list,sect_len]<;>omega)|simp[Ac,Aj,Ak,Sup.list,sect_len])) H.f1 ?_);rintro u4 w _ ⟨_,rfl,rfl⟩ H;have a1:=H.sy 0 (·.slc);refine Zc 5 Z (Zr Z ?_);exact ⟨_,⟨_,Z,Z⟩,H.pick 3 [0] Z⟩
theorem Ml(v:Value)(sec:List UInt8)(A:Ai)(d:∀h,A h->rdH 1 v sec.length (sec.map u8) h)(s:Sup)(hs:∀x∈s.list,0<=x/\x<=1099511627776)(a:sec=Br s):An 185 [v] [A] (λv G=>v=.tuple #[.agg #[Aa s.gen,Aa s.epoch,Aa s.pages,Aa s.start,Aa s.len,Aa s.head,Aa s.seq],.bool true]/\G=[A]):=by
 intro z R w H;have f:sec.length=256:=by rw[a];exact Dl s
 obtain ⟨b,o,c,rfl⟩:=H.sy 0 (λq=>(d _ q).sl (by rw[X8];omega));have e:=H.sy 0 (λq=>(d _ q).cap);refine Af func185 Z ntmps185 Z (Za 2 [] H Z ?_);intro i w H;refine Zc 6 Z (Ah Z (call142 _) (B1 _ sec _ d 4 8 (by first|omega|simp_all)) H.f1 ?_);intro w H;refine k_updA 8 (v:=Aa s.gen) Z (congrArg Aa (by rw[a];exact Em hs (k:=0) Z)) (Zc 1 Z (Ah Z (call142 _) (B1 _ sec _ d 12 8 (by first|omega|simp_all)) H ?_));intro w H;refine k_updA 10 (v:=Aa s.epoch) Z (congrArg Aa (by rw[a];exact Em hs (k:=1) Z)) (Zc 1 Z (Ah Z (call142 _) (B1 _ sec _ d 20 8 (by first|omega|simp_all)) H ?_));intro w H;refine k_updA 12 (v:=Aa s.pages) Z (congrArg Aa (by rw[a];exact Em hs (k:=2) Z)) (Zc 1 Z (Ah Z (call142 _) (B1 _ sec _ d 28 8 (by first|omega|simp_all)) H ?_));intro w H;refine k_updA 14 (v:=Aa s.start) Z (congrArg Aa (by rw[a];exact Em hs (k:=3) Z)) (Zc 1 Z (Ah Z (call142 _) (B1 _ sec _ d 36 8 (by first|omega|simp_all)) H ?_));intro w H;refine k_updA 16 (v:=Aa s.len) Z (congrArg Aa (by rw[a];exact Em hs (k:=4) Z)) (Zc 1 Z (Ah Z (call142 _) (B1 _ sec _ d 44 8 (by first|omega|simp_all)) H ?_));intro w H;refine k_updA 18 (v:=Aa s.head) Z (congrArg Aa (by rw[a];exact Em hs (k:=5) Z)) (Zc 1 Z (Ah Z (call142 _) (B1 _ sec _ d 52 8 (by first|omega|simp_all)) H ?_));intro w H;refine k_updA 20 (v:=Aa s.seq) Z (congrArg Aa (by rw[a];exact Em hs (k:=6) Z)) (Ae Z (AR Z Z (out:=[Aa s.gen,Aa s.epoch,Aa s.pages,Aa s.start,Aa s.len,Aa s.head,Aa s.seq]) J) (Za 0 [] H Z ?_));intro l w H;refine Z4 6 [0,0,7] H Z ?_;intro w H;refine AA Z (call184 _) (F3 _ hs) H ?_;rintro _ w _ ⟨j,rfl,rfl⟩ H;have g:=H.sy 0 (·.slc);refine Z0 15 [4] Z (Ah Z (call140 _) (EV _ _ (Br s) sec _ _ (λh q=>q.rd) d) H.f2.f1 ?_);intro w H;refine k_updA 32 (v:=.bool true) Z (congrArg Value.bool (decide_eq_true a.symm)) (Z4 15 [2,7,3] H Z ?_);intro w H;refine Zl [3,7] H Z ?_;exact ⟨_,⟨Z,Z⟩,H.pick 4 [1] Z⟩
theorem Fh(m:Img)(k:m.Ok)(i:Value)(A:Ai)(g:∀h,A h->rdH 1 i 240 (m.body.map u8) h):An 143 [.agg #[Aa m.num,Aa m.kind,i]] [A] (λv G=>∃j:Value,v=.tuple #[j,Aa 0]/\G=[grow 5 1 j (DU m).length ((DU m).map u8),A]):=by
 intro z R w H;obtain ⟨e,f,rfl⟩:=H.sy 0 (λq=>(g _ q).slc);obtain ⟨t,n,b⟩:=id k;refine Af func143 Z ntmps143 Z (Za 2 [] H Z ?_);intro c w H;refine Z2 12 [1,1,0,0,0] H Z (Am 9 Z (λu=>U) (λu=>?_));refine Z2 6 [1,1,0,0,0] H Z (Am 15 Z (λp=>U) (λp=>?_));refine Z2 2 [0,0,0] H Z (Ah Z (call156 _) (CT _ _) H ?_);intro w H;refine Ae Z (AL Z Z) (Zc 2 Z (Am 21 Z (λy=>U) (λy=>?_)));refine Z2 12 [1,2,0,0,4] H Z (A1 (Sep z (blk c [Aa m.num,Aa m.kind,.slice e 240 f] 118::R)) 10 Z J (A8 H λw a=>?_));have H:=a.l2;refine BA [2,3,4,6,7] [1,1,0,0,0] J (λ_ hx=>(A3 (hx.blk 0 Z) AU)) (by exact H.pick 2 [0] Z) Z J Z Z (Ax [0] J O (Ay (Cj Z Z Z Z (AI H Z J A2 Z (by decide) (by decide) (out:=[u8 80,u8 80,u8 65,u8 71]) J) ?_)));rintro _ w ⟨l,rfl,H⟩;refine Aw (λ_=>(H.pick 3 [1] Z)) (Ax [1] J O (Ay (Cj Z Z Z Z (LG 0 H Z Z J J Z ⟨Z,by omega⟩) ?_)));rintro _ w ⟨rfl,a⟩;have a:Sep z (Ks (.slice (some ⟨l,0,none⟩) 4 4) ([80,80,65,71]:List UInt8).length (([80,80,65,71]:List UInt8).map u8)::blk c [Aa m.num,Aa m.kind,.slice e 240 f] 118::A::R) w:=a;have H:=a.l3;refine Aw (λ_=>(H.pick 3 [1] Z)) (Ax [5] J O (Ay ?_));replace H:=(H.mono 0 (B:=bsA 5 (.slice (some ⟨l,0,none⟩) 4 4) ([80,80,65,71]:List UInt8)) Z (λh q=>.inl q)).l3;refine BF Z Z Z Z Z Z (λw=>call157 _ w) (B6 _ ([80,80,65,71]:List UInt8) m.kind 1 U (by first|omega|(simp only[XX,XY,X3,X4,X2,Ac,Aj,Ak]<;>omega)|(simp[Ac,Aj,Ak,Sup.list,sect_len]<;>omega)|simp[Ac,Aj,Ak,Sup.list,sect_len])) H Z ?_;rintro x w _ ⟨_,rfl,rfl⟩ H;have a1:=H.sy 0 (·.slc);refine Aw (λ_=>(H.pick 3 [1] Z)) (Ax [8] J O (Ay ?_));replace H:=(H.mono 0 (B:=bsA 5 x (([80,80,65,71]:List UInt8)++Ad 1 m.kind)) Z (λh q=>.inr q)).l3;refine BF Z Z Z Z Z Z (λw=>call157 _ w) (B6 _ (([80,80,65,71]:List UInt8)++Ad 1 m.kind) m.num 4 U (by first|omega|(simp only[XX,XY,X3,X4,X2,Ac,Aj,Ak]<;>omega)|(simp[Ac,Aj,Ak,Sup.list,sect_len]<;>omega)|simp[Ac,Aj,Ak,Sup.list,sect_len])) H Z ?_;rintro u4 w _ ⟨_,rfl,rfl⟩ H;have a0:=H.sy 0 (·.slc);refine Aw (λ_=>(H.pick 3 [1] Z)) (Ax [9] J O (Ay (Dp Z Z Z Z (Bq Z Z) (Aw (λh=>absurd Z h) (Bi J (gn (Zc 4 Z (AA Z (call141 _) (Fo _ ((([80,80,65,71]:List UInt8)++Ad 1 m.kind)++Ad 4 m.num) 12 ⟨by first|omega|(simp only[XX,XY,X3,X4,X2,Ac,Aj,Ak]<;>omega)|(simp[Ac,Aj,Ak,Sup.list,sect_len]<;>omega)|simp[Ac,Aj,Ak,Sup.list,sect_len],by omega⟩) H ?_))))))));rintro u5 w _ ⟨_,rfl,rfl⟩ H;have r:=H.sy 0 (·.slc);refine Z2 9 [1,2,1,0] H Z (AC Z (AJ 0 H Z Z J A2 Z Z (H.rd 2 Z g) (by simp[u8,Value.oneCell']) (by simp[Ac])) ?_);rintro v6 w a;have a:Sep z (grow 5 1 v6 ((((([80,80,65,71]:List UInt8)++Ad 1 m.kind)++Ad 4 m.num)++List.replicate (12-((([80,80,65,71]:List UInt8)++Ad 1 m.kind)++Ad 4 m.num).length) (0:UInt8)).length+240) ((((([80,80,65,71]:List UInt8)++Ad 1 m.kind)++Ad 4 m.num)++List.replicate (12-((([80,80,65,71]:List UInt8)++Ad 1 m.kind)++Ad 4 m.num).length) (0:UInt8)).map u8++m.body.map u8)::blk c [Aa m.num,Aa m.kind,.slice e 240 f] 118::A::R) w:=a;have d:((((([80,80,65,71]:List UInt8)++Ad 1 m.kind)++Ad 4 m.num)++List.replicate (12-((([80,80,65,71]:List UInt8)++Ad 1 m.kind)++Ad 4 m.num).length) (0:UInt8)).map u8++m.body.map u8:List Value)=(([80,80,65,71]:List UInt8)++Ad 1 m.kind++Ad 4 m.num++List.replicate (12-(([80,80,65,71]:List UInt8)++Ad 1 m.kind++Ad 4 m.num).length) (0:UInt8)++m.body).map u8:=O;rw[d] at a;rw[show ((((([80,80,65,71]:List UInt8)++Ad 1 m.kind)++Ad 4 m.num)++List.replicate (12-((([80,80,65,71]:List UInt8)++Ad 1 m.kind)++Ad 4 m.num).length) (0:UInt8)).length+240:Nat)=(([80,80,65,71]:List UInt8)++Ad 1 m.kind++Ad 4 m.num++List.replicate (12-(([80,80,65,71]:List UInt8)++Ad 1 m.kind++Ad 4 m.num).length) (0:UInt8)++m.body).length from (by simp[Ac,b])] at a;have H:=a.l3;have o:=H.sy 0 (·.slc);refine Zc 6 Z (AA Z (call183 _) (FV _ (([80,80,65,71]:List UInt8)++Ad 1 m.kind++Ad 4 m.num++List.replicate (12-(([80,80,65,71]:List UInt8)++Ad 1 m.kind++Ad 4 m.num).length) (0:UInt8)++m.body) (by first|omega|(simp only[XX,XY,X3,X4,X2,Ac,Aj,Ak]<;>omega)|(simp[Ac,Aj,Ak,Sup.list,sect_len]<;>omega)|simp[Ac,Aj,Ak,Sup.list,sect_len])) H ?_);rintro u7 w _ ⟨_,rfl,rfl⟩ H;have s:=H.sy 0 (·.slc);refine Zc 5 Z (Zr Z ?_);rw[Wd k] at H;exact ⟨_,⟨_,Z,Z⟩,H.pick 3 [0,2] Z⟩
theorem Wy(v:Value)(sec:List UInt8)(A:Ai)(a:∀h,A h->rdH 1 v sec.length (sec.map u8) h)(p:Int)(d:sec=List.replicate 256 0):An 85 [v,Aa p] [A] (λv G=>v=.tuple #[.agg #[Aa 0,.slice none 0 0],.bool true]/\G=[A]):=by
 intro z R w H;have g:sec.length=256:=by rw[d];simp
 obtain ⟨b,o,c,rfl⟩:=H.sy 0 (λq=>(a _ q).sl (by rw[X8];omega));have e:=H.sy 0 (λq=>(a _ q).cap);refine Af func85 Z ntmps85 Z (Za 2 [] H Z ?_);intro j w H;refine Zc 7 Z ?_;replace H:=(H.nilg 5 1).l3;refine AA Z (call141 _) (Fo _ ([]:List UInt8) 256 ⟨by first|omega|(simp only[XX,XY,X3,X4,X2,Ac,Aj,Ak]<;>omega)|(simp[Ac,Aj,Ak,Sup.list,sect_len]<;>omega)|simp[Ac,Aj,Ak,Sup.list,sect_len],by omega⟩) H ?_;rintro i w _ ⟨_,rfl,rfl⟩ H;have f:=H.sy 0 (·.slc);refine Ah Z (call140 _) (EV _ _ sec (([]:List UInt8)++List.replicate (256-([]:List UInt8).length) (0:UInt8)) _ _ a (λh q=>q.rd)) H.f2 ?_;intro w H;refine k_updA 11 (v:=.bool true) Z (congrArg Value.bool (decide_eq_true (by rw[d];rfl))) (Z4 11 [2] H Z ?_);intro w H;refine Zl [2,2] H Z ?_;exact ⟨_,⟨Z,Z⟩,H.pick 3 [0] Z⟩
theorem N3(v:Value)(sec:List UInt8)(A:Ai)(g:∀h,A h->rdH 1 v sec.length (sec.map u8) h)(m:Img)(i:m.Ok)(a:sec=DU m):An 85 [v,Aa m.num] [A] (λv G=>∃r:Value,v=.tuple #[.agg #[Aa m.kind,r],.bool true]/\G=[grow 5 1 r 240 (m.body.map u8),A]):=by
 intro z R w H;replace H:=H.l1;have x:sec.length=256:=by rw[a];exact C8 (EQ i)
 have d:(sec.drop 12).take 240=m.body:=by rw[a];exact MQ (EQ i)
 obtain ⟨b,o,c,rfl⟩:=H.sy 0 (λq=>(g _ q).sl (by rw[X8];omega));have s:=H.sy 0 (λq=>(g _ q).cap);refine Af func85 Z ntmps85 Z (Za 2 [] H Z ?_);intro b1 w H;refine Zc 7 Z ?_;replace H:=(H.nilg 5 1).l3;refine AA Z (call141 _) (Fo _ ([]:List UInt8) 256 ⟨by first|omega|(simp only[XX,XY,X3,X4,X2,Ac,Aj,Ak]<;>omega)|(simp[Ac,Aj,Ak,Sup.list,sect_len]<;>omega)|simp[Ac,Aj,Ak,Sup.list,sect_len],by omega⟩) H ?_;rintro u2 w _ ⟨_,rfl,rfl⟩ H;replace H:=H.l3;have y:=H.sy 0 (·.slc);refine Ah Z (call140 _) (EV _ _ sec (([]:List UInt8)++List.replicate (256-([]:List UInt8).length) (0:UInt8)) _ _ g (λh q=>q.rd)) H.f2 ?_;intro w H;replace H:=H.l3;refine k_updA 11 (v:=.bool false) Z (congrArg Value.bool (decide_eq_false (by rw[a];exact λe=>HS (EQ i) (e.trans Z)))) (Z0 13 [0] Z (Ag Z (λu=>U) (λu=>?_)));refine Zc 6 Z (Ah Z (call142 _) (B1 _ sec _ g 4 1 (by first|omega|simp_all)) H ?_);intro w H;replace H:=H.l3;refine k_updA 19 (v:=Aa m.kind) Z (congrArg Aa (by rw[a];exact MP (EQ i))) (Za 2 [] H Z ?_);intro b3 w H;refine Z4 4 [0] H Z ?_;intro w H;refine A1 (Sep z (blk b3 [Aa m.num,Aa m.kind,.slice none 0 0] 118::A::R)) 9 Z J (A8 H λw j=>?_);have H:=j.l4;refine BA [0,1,2,3] [1,2,0] J (λ_ hx=>(A3 (hx.blk 0 Z) AU)) (by exact H.pick 4 [0,1] Z) Z J Z Z (Bg 4 J Z Z J J J Z Z Z (A9 Z (z:=1) (p:=12) (q:=252) (o':=o+12) (l':=240) (c':=c-12) J Z (.inr ⟨_,_,_,Z,Z,Z⟩) (.inr ⟨_,_,_,Z,Z,Z⟩) U U U U U U) (H.pick 4 [0,1] Z) (Ax [5] J O (Ay ?_)));replace H:=(H.nilg 5 1).l5;refine Cj Z Z Z Z (AJ 0 H Z Z J A2 Z Z (H.rv 2 (λq=>(g _ q).cut (lo:=12) (m:=240) U U U)) (by intro c9 l;obtain ⟨b9,_,rfl⟩:=X5.1 l;rfl) U) ?_;rintro n w j;have k:([]++((sec.drop 12).take 240).map u8:List Value)=m.body.map u8:=(by rw[Ym,d]);rw[k] at j;have H:=j.l5;have f:=H.sy 0 (·.slc);refine Aw (λ_=>(H.pick 5 [1,2] Z)) (BA [6,7] [1,2] J (λ_ _=>AU) (by exact H.pick 5 [1,2] Z) Z J Z Z (Ax [8] J O (Ay (Cy Z Z Z (Jw 1 H Z Z Z Z f.cells f.one J) ?_))));rintro w H;replace H:=H.l5;refine Aw (λh=>absurd Z h) (Bi J (gn (Z2 4 [1,3] H Z (AA Z (call143 _) (Fh m i _ _ (λh q=>q.rd)) H ?_))));rintro _ w _ ⟨u5,rfl,rfl⟩ H;replace H:=H.l6;have t:=H.sy 0 (·.slc);refine Z0 15 [4] Z (Ah Z (call140 _) (EV _ _ (DU m) sec _ _ (λh q=>q.rd) g) H.f3.f1 ?_);intro w H;replace H:=H.l6;refine k_updA 40 (v:=.bool true) Z (congrArg Value.bool (decide_eq_true a.symm)) (Z2 11 [1,3,2] H Z (A0 Z Z (AE 5 H Z Z Z Z (vs:=[Aa m.kind,n]) Z (Al Z (Al f.one AK)) J O (out:=[Aa m.kind,n]) Z) ?_));rintro w H;replace H:=H.l6;refine Zc 4 Z (Zl [5,2] H Z ?_);exact ⟨_,⟨_,Z,Z⟩,H.pick 6 [2,1] Z⟩
theorem HX(e q:Int)(he:0<=e/\e<4294967296)(hq:0<=q/\q<1099511627776)(m:Img)(j:m.Ok)(g:Value)(A:Ai)(b:∀h,A h->rdH 1 g 240 (m.body.map u8) h):An 224 [Aa e,Aa q,.agg #[Aa m.num,Aa m.kind,g]] [A] (λv G=>∃l:Value,v=.tuple #[l,Aa 0]/\G=[grow 5 1 l (sect (A5 e q m)).length ((sect (A5 e q m)).map u8),A]):=by
 intro z R w H;obtain ⟨n,k,rfl⟩:=H.sy 0 (λq=>(b _ q).slc);obtain ⟨a1,p,f⟩:=id j;refine Af func224 Z ntmps224 Z (Za 2 [] H Z ?_);intro i w H;refine Z2 7 [0,3] H Z (AA Z (call143 _) (Fh m j _ _ b) H.f1 ?_);rintro _ w _ ⟨r,rfl,rfl⟩ H;have a0:=H.sy 0 (·.slc);refine Z0 14 [4] Z (Ah Z (call156 _) (CT _ _) H ?_);intro w H;refine Ae Z (AL Z Z) (Zc 2 Z (Am 23 Z (λt=>U) (λt=>?_)));refine Zc 1 Z (Ah Z (call156 _) (CT _ _) H ?_);intro w H;refine Ae Z (AL Z Z) (Zc 3 Z (Ag Z (λh2=>U) (λh2=>?_)));refine Zc 3 Z ?_;replace H:=H.f2;refine A1 (Sep z (blk i [Aa m.num,Aa m.kind,.slice n 240 k] 118::R)) 8 Z J (A8 H λw a=>?_);have H:=a.l3;refine BA [0,1,2,4,5] [1,1,0,0,0] J (λ_ hx=>(A3 (hx.blk 0 Z) AU)) (by exact H.pick 3 [0] Z) Z J Z Z (Ax [3] J O (Ay ?_));replace H:=(H.nilg 5 1).l4;replace H:=(H.mono 0 (B:=bsA 5 (.slice none 0 0) ([]:List UInt8)) Z (λh q=>.inr q)).l4;refine BF Z Z Z Z Z Z (λw=>call157 _ w) (B6 _ ([]:List UInt8) m.kind 1 U (by first|omega|(simp only[XX,XY,X3,X4,X2,Ac,Aj,Ak]<;>omega)|(simp[Ac,Aj,Ak,Sup.list,sect_len]<;>omega)|simp[Ac,Aj,Ak,Sup.list,sect_len])) H Z ?_;rintro u w _ ⟨_,rfl,rfl⟩ H;have x:=H.sy 0 (·.slc);refine Aw (λ_=>(H.pick 4 [1] Z)) (Ax [6] J O (Ay ?_));replace H:=(H.mono 0 (B:=bsA 5 u (([]:List UInt8)++Ad 1 m.kind)) Z (λh q=>.inr q)).l4;refine BF Z Z Z Z Z Z (λw=>call157 _ w) (B6 _ (([]:List UInt8)++Ad 1 m.kind) m.num 2 U (by first|omega|(simp only[XX,XY,X3,X4,X2,Ac,Aj,Ak]<;>omega)|(simp[Ac,Aj,Ak,Sup.list,sect_len]<;>omega)|simp[Ac,Aj,Ak,Sup.list,sect_len])) H Z ?_;rintro u4 w _ ⟨_,rfl,rfl⟩ H;have a4:=H.sy 0 (·.slc);refine Aw (λ_=>(H.pick 4 [1] Z)) (Ax [7] J O (Ay (Dp Z Z Z Z (Bq Z Z) (Aw (λh=>absurd Z h) (Bi J (gn (Zc 5 Z ?_)))))));replace H:=(H.mono 0 (B:=bsA 5 u4 ((([]:List UInt8)++Ad 1 m.kind)++Ad 2 m.num)) Z (λh q=>.inr q)).l4;refine AA Z (call157 _) (B6 _ ((([]:List UInt8)++Ad 1 m.kind)++Ad 2 m.num) e 4 U (by first|omega|(simp only[XX,XY,X3,X4,X2,Ac,Aj,Ak]<;>omega)|(simp[Ac,Aj,Ak,Sup.list,sect_len]<;>omega)|simp[Ac,Aj,Ak,Sup.list,sect_len])) H ?_;rintro y w _ ⟨_,rfl,rfl⟩ H;have s:=H.sy 0 (·.slc);refine Zc 1 Z ?_;replace H:=(H.mono 0 (B:=bsA 5 y (((([]:List UInt8)++Ad 1 m.kind)++Ad 2 m.num)++Ad 4 e)) Z (λh q=>.inr q)).l4;refine AA Z (call157 _) (B6 _ (((([]:List UInt8)++Ad 1 m.kind)++Ad 2 m.num)++Ad 4 e) q 5 U (by first|omega|(simp only[XX,XY,X3,X4,X2,Ac,Aj,Ak]<;>omega)|(simp[Ac,Aj,Ak,Sup.list,sect_len]<;>omega)|simp[Ac,Aj,Ak,Sup.list,sect_len])) H ?_;rintro u6 w _ ⟨_,rfl,rfl⟩ H;have a3:=H.sy 0 (·.slc);refine Z2 9 [1,2,1,0] H Z (AC Z (AJ 0 H Z Z J A2 Z Z (H.rd 3 Z b) (by intro c9 d;obtain ⟨b9,_,rfl⟩:=X5.1 d;rfl) (by simp[Ac])) ?_);rintro v7 w a;have a:Sep z (grow 5 1 v7 (((((([]:List UInt8)++Ad 1 m.kind)++Ad 2 m.num)++Ad 4 e)++Ad 5 q).length+240) (((((([]:List UInt8)++Ad 1 m.kind)++Ad 2 m.num)++Ad 4 e)++Ad 5 q).map u8++m.body.map u8)::blk i [Aa m.num,Aa m.kind,.slice n 240 k] 118::grow 5 1 r ((DU m).length) ((DU m).map u8)::A::R) w:=a;have c:(((((([]:List UInt8)++Ad 1 m.kind)++Ad 2 m.num)++Ad 4 e)++Ad 5 q).map u8++m.body.map u8:List Value)=(([]:List UInt8)++Ad 1 m.kind++Ad 2 m.num++Ad 4 e++Ad 5 q++m.body).map u8:=O;rw[c] at a;rw[show (((((([]:List UInt8)++Ad 1 m.kind)++Ad 2 m.num)++Ad 4 e)++Ad 5 q).length+240:Nat)=(([]:List UInt8)++Ad 1 m.kind++Ad 2 m.num++Ad 4 e++Ad 5 q++m.body).length from (by simp[Ac,f])] at a;have H:=a.l4;have a2:=H.sy 0 (·.slc);refine Zc 6 Z (AA Z (call183 _) (FV _ (([]:List UInt8)++Ad 1 m.kind++Ad 2 m.num++Ad 4 e++Ad 5 q++m.body) (by first|omega|(simp only[XX,XY,X3,X4,X2,Ac,Aj,Ak]<;>omega)|(simp[Ac,Aj,Ak,Sup.list,sect_len]<;>omega)|simp[Ac,Aj,Ak,Sup.list,sect_len])) H ?_);rintro u8 w _ ⟨_,rfl,rfl⟩ H;have o:=H.sy 0 (·.slc);refine Zc 5 Z (Zr Z ?_);exact ⟨_,⟨_,Z,Z⟩,H.pick 4 [0,3] Z⟩
theorem Mn(v:Value)(sec:List UInt8)(A:Ai)(f:∀h,A h->rdH 1 v sec.length (sec.map u8) h)(e q:Int)(y:0<=e/\e<4294967296)(hq:0<=q/\q<1099511627776)(m:Img)(l:m.Ok)(a:sec=sect (A5 e q m)):An 223 [v] [A] (λv G=>∃t:Value,v=.tuple #[Aa e,Aa q,.agg #[Aa m.num,Aa m.kind,t],.bool true]/\G=[grow 5 1 t 240 (m.body.map u8),A]):=by
 intro z R w H;replace H:=H.l1;have a0:sec.length=256:=by rw[a];exact sect_len (YU (CI l.2.2))
 have d:=I3 l y hq;have i:(sec.drop 12).take 240=m.body:=by rw[a];exact congrArg Img.body d.2.2.2
 obtain ⟨b,o,c,rfl⟩:=H.sy 0 (λq=>(f _ q).sl (by rw[X8];omega));have u:=H.sy 0 (λq=>(f _ q).cap);refine Af func223 Z ntmps223 Z (Za 4 [] H Z ?_);intro b1 w H;refine Z0 11 [0] Z (Ag Z (λh1=>U) (λh1=>?_));refine Zc 5 Z (Ah Z (call142 _) (B1 _ sec _ f 1 2 (by first|omega|simp_all)) H.f1 ?_);intro w H;replace H:=H.l2;refine k_updA 16 (v:=Aa m.num) Z (congrArg Aa (by rw[a];exact congrArg Img.num d.2.2.2)) (Zc 1 Z (Ah Z (call142 _) (B1 _ sec _ f 0 1 (by first|omega|simp_all)) H ?_));intro w H;replace H:=H.l2;refine k_updA 18 (v:=Aa m.kind) Z (congrArg Aa (by rw[a];exact congrArg Img.kind d.2.2.2)) (Za 2 [] H Z ?_);intro x w H;refine Z4 4 [0] H Z ?_;intro w H;refine A1 (Sep z (blk x [Aa m.num,Aa m.kind,.slice none 0 0] 118::A::R)) 9 Z J (A8 H λw j=>?_);have H:=j.l3;refine BA [0,1,2,3] [1,2,0] J (λ_ s=>(A3 (s.blk 0 Z) AU)) (by exact H.pick 3 [0,1] Z) Z J Z Z (Bg 4 J Z Z J J J Z Z Z (A9 Z (z:=1) (p:=12) (q:=252) (o':=o+12) (l':=240) (c':=c-12) J Z (.inr ⟨_,_,_,Z,Z,Z⟩) (.inr ⟨_,_,_,Z,Z,Z⟩) U U U U U U) (H.pick 3 [0,1] Z) (Ax [5] J O (Ay ?_)));replace H:=(H.nilg 5 1).l4;refine Cj Z Z Z Z (AJ 0 H Z Z J A2 Z Z (H.rv 2 (λq=>(f _ q).cut (lo:=12) (m:=240) U U U)) (by intro c9 r;obtain ⟨b9,_,rfl⟩:=X5.1 r;rfl) U) ?_;rintro k w j;have n:([]++((sec.drop 12).take 240).map u8:List Value)=m.body.map u8:=(by rw[Ym,i]);rw[n] at j;have H:=j.l4;have g:=H.sy 0 (·.slc);refine Aw (λ_=>(H.pick 4 [1,2] Z)) (BA [6,7] [1,2] J (λ_ _=>AU) (by exact H.pick 4 [1,2] Z) Z J Z Z (Ax [8] J O (Ay (Cy Z Z Z (Jw 1 H Z Z Z Z g.cells g.one J) ?_))));rintro w H;replace H:=H.l4;refine Aw (λh=>absurd Z h) (Bi J (gn (Zc 4 Z (Ah Z (call142 _) (B1 _ sec _ f 3 4 (by first|omega|simp_all)) H.f2 ?_))));intro w H;replace H:=H.l4;refine k_updA 30 (v:=Aa e) Z (congrArg Aa (by rw[a];exact d.2.1)) (Zc 6 Z (Ah Z (call142 _) (B1 _ sec _ f 7 5 (by first|omega|simp_all)) H ?_));intro w H;replace H:=H.l4;refine k_updA 32 (v:=Aa q) Z (congrArg Aa (by rw[a];exact d.2.2.1)) (Z2 8 [2,3] H Z (AA Z (call224 _) (HX e q U U m l _ _ (λh q=>q.rd)) H.f1 ?_));rintro _ w _ ⟨u4,rfl,rfl⟩ H;replace H:=H.l5;have a1:=H.sy 0 (·.slc);refine Z0 15 [4] Z (Ah Z (call140 _) (EV _ _ (sect (A5 e q m)) sec _ _ (λh q=>q.rd) f) H.f2.f1 ?_);intro w H;replace H:=H.l5;refine k_updA 45 (v:=.bool true) Z (congrArg Value.bool (decide_eq_true a.symm)) (Zc 8 Z ?_);replace H:=H.f3;refine A1 (Sep z (blk x [Aa m.num,Aa m.kind,k] 118::R)) 7 Z J (A8 H λw j=>?_);have H:=j.l5;refine BA [0,1] [] J (λ_ _=>AU) (by exact H.pick 5 [0] Z) Z J Z Z (Bg 2 J Z Z J J J Z Z Z (Bz Z Z (vs:=[Aa m.num,Aa m.kind,k]) J (λ_ s=>(s.blk 0 Z).part 0 3 _ Z)) (H.pick 5 [0] Z) (BA [3,4] [] J (λ_ _=>AU) (by exact H.pick 5 [0] Z) Z J Z Z (Ax [5] J O (Ay (Cy Z Z Z (AE 4 H Z Z Z Z (vs:=[Aa m.num,Aa m.kind,k]) Z (Al Z (Al Z (Al g.one AK))) J O (out:=[Aa m.num,Aa m.kind,k]) Z) ?_)))));rintro w H;replace H:=H.l5;refine Aw (λ_=>(H.pick 5 [0] Z)) (Ax [6] J O (Ay (Dp Z Z Z Z (Bq Z Z) (Aw (λh=>absurd Z h) (Bi J (gn (Zc 2 Z (Zl [4,3] H Z ?_))))))));exact ⟨_,⟨_,Z,Z⟩,H.pick 5 [3,2] Z⟩
theorem hdL_le{e q:Int}{ims:List Img}(h:ims.length<=40):(Bt e q ims).length<=252:=by
 unfold Bt;simp only[XX,Ac,BD,X8,XY,X3];omega
set_option maxHeartbeats 2000000 in
theorem Jn (e q:Int) (a:UInt32) (ns:List Int) (p:Value) (A:Ai) (o:∀h,A h->rdH 1 p ns.length (ns.map Aa) h) (he:0<=e/\e<=1099511627776) (hq:0<=q/\q<=1099511627776) (hn:1<=ns.length/\ns.length<=40) (m:∀y∈ns,0<=y/\y<=1023):An 221 [.agg #[Aa e,Aa q,p,u32 a]] [A] (λv G=>∃s:Value,v=.tuple #[s,Aa 0]/\G=[grow 5 1 s (sect (([80,76,79,71]:List UInt8)++Ad 8 e++Ad 8 q++Ad 4 (a.toNat:Int)++Ad 2 (ns.length:Int)++(ns).flatMap (Ad 4))).length ((sect (([80,76,79,71]:List UInt8)++Ad 8 e++Ad 8 q++Ad 4 (a.toNat:Int)++Ad 2 (ns.length:Int)++(ns).flatMap (Ad 4))).map u8),A]):=by
 intro z R w H;obtain ⟨l,g,rfl⟩:=H.sy 0 (λq=>(o _ q).slc);refine Af func221 Z ntmps221 Z (Za 2 [] H Z ?_);intro d w H;refine Z2 9 [0,0,0] H Z (Ah Z (call156 _) (CT _ _) H ?_);intro w H;refine Ae Z (AL Z Z) (Zc 1 Z (Am 10 Z (λh1=>U) (λh1=>?_)));refine Z2 2 [1,0,0] H Z (Ah Z (call156 _) (CT _ _) H ?_);intro w H;refine Ae Z (AL Z Z) (Zc 2 Z (Am 16 Z (λh2=>U) (λh2=>?_)));refine Z2 6 [2,0,0,0] H Z (Am 22 Z (λh3=>U) (λh3=>?_));refine Z2 7 [2,0,0,0] H Z (Ag Z (λh4=>U) (λh4=>?_));refine Zc 3 Z (A1 (Sep z (blk d [Aa e,Aa q,.slice l ns.length g,u32 a] 233::R)) 9 Z J (A8 H λw c=>?_));have H:=c.l2;refine BA [2,3,5,6] [0,0,1,0] J (λ_ f=>(A3 (f.blk 0 Z) AU)) (by exact H.pick 2 [0] Z) Z J Z Z (Ax [0] J O (Ay (Cj Z Z Z Z (AI H Z J A2 Z (by decide) (by decide) (out:=[u8 80,u8 76,u8 79,u8 71]) J) ?_)));rintro _ w ⟨t,rfl,H⟩;refine Aw (λ_=>(H.pick 3 [1] Z)) (Ax [1] J O (Ay (Cj Z Z Z Z (LG 0 H Z Z J J Z ⟨Z,by omega⟩) ?_)));rintro _ w ⟨rfl,c⟩;have c:Sep z (Ks (.slice (some ⟨t,0,none⟩) 4 4) ([80,76,79,71]:List UInt8).length (([80,76,79,71]:List UInt8).map u8)::blk d [Aa e,Aa q,.slice l ns.length g,u32 a] 233::A::R) w:=c;have H:=c.l3;refine Aw (λ_=>(H.pick 3 [1] Z)) (Ax [4] J O (Ay ?_));replace H:=(H.mono 0 (B:=bsA 5 (.slice (some ⟨t,0,none⟩) 4 4) ([80,76,79,71]:List UInt8)) Z (λh q=>.inl q)).l3;refine BF Z Z Z Z Z Z (λw=>call157 _ w) (B6 _ ([80,76,79,71]:List UInt8) e 8 U (by first|omega|(simp only[XX,XY,X3,X4,X2,Ac,Aj,Ak]<;>omega)|(simp[Ac,Aj,Ak,Sup.list,sect_len]<;>omega)|simp[Ac,Aj,Ak,Sup.list,sect_len])) H Z ?_;rintro u3 w _ ⟨_,rfl,rfl⟩ H;have a2:=H.sy 0 (·.slc);refine Aw (λ_=>(H.pick 3 [1] Z)) (Ax [7] J O (Ay ?_));replace H:=(H.mono 0 (B:=bsA 5 u3 (([80,76,79,71]:List UInt8)++Ad 8 e)) Z (λh q=>.inr q)).l3;refine BF Z Z Z Z Z Z (λw=>call157 _ w) (B6 _ (([80,76,79,71]:List UInt8)++Ad 8 e) q 8 U (by first|omega|(simp only[XX,XY,X3,X4,X2,Ac,Aj,Ak]<;>omega)|(simp[Ac,Aj,Ak,Sup.list,sect_len]<;>omega)|simp[Ac,Aj,Ak,Sup.list,sect_len])) H Z ?_;rintro u4 w _ ⟨_,rfl,rfl⟩ H;have a4:=H.sy 0 (·.slc);refine Aw (λ_=>(H.pick 3 [1] Z)) (Ax [8] J O (Ay (Dp Z Z Z Z (Bq Z Z) (Aw (λh=>absurd Z h) (Bi J (gn (Zc 2 Z ?_)))))));replace H:=H.f1;refine A1 (Sep z (blk d [Aa e,Aa q,.slice l ns.length g,u32 a] 233::R)) 10 Z J (A8 H λw c=>?_);have H:=c.l3;refine BA [0,1,2] [3,0] J (λ_ f=>(A3 (f.blk 0 Z) AU)) (by exact H.pick 3 [0] Z) Z J Z Z (Bg 3 J Z Z J J J Z Z Z (Ov Z J Z) (H.pick 3 [0] Z) (BA [5,6] [2,0] J (λ_ f=>(A3 (f.blk 0 Z) AU)) (by exact H.pick 3 [0] Z) Z J Z Z (Bg 7 J Z Z J J J Z Z Z (DX Z (z:=1) J Z) (H.pick 3 [0] Z) (Ax [4] J O (Ay ?_)))));replace H:=(H.mono 1 (B:=bsA 5 u4 ((([80,76,79,71]:List UInt8)++Ad 8 e)++Ad 8 q)) Z (λh q=>.inr q)).l3;refine BF Z Z Z Z Z Z (λw=>call157 _ w) (B6 _ ((([80,76,79,71]:List UInt8)++Ad 8 e)++Ad 8 q) (a.toNat:Int) 4 U (by first|omega|(simp only[XX,XY,X3,X4,X2,Ac,Aj,Ak]<;>omega)|(simp[Ac,Aj,Ak,Sup.list,sect_len]<;>omega)|simp[Ac,Aj,Ak,Sup.list,sect_len])) H.f1 Z ?_;rintro u5 w _ ⟨_,rfl,rfl⟩ H;have a0:=H.sy 0 (·.slc);refine Aw (λ_=>(H.pick 3 [1] Z)) (Ax [8] J O (Ay ?_));replace H:=(H.mono 0 (B:=bsA 5 u5 (((([80,76,79,71]:List UInt8)++Ad 8 e)++Ad 8 q)++Ad 4 (a.toNat:Int))) Z (λh q=>.inr q)).l3;refine BF Z Z Z Z Z Z (λw=>call157 _ w) (B6 _ (((([80,76,79,71]:List UInt8)++Ad 8 e)++Ad 8 q)++Ad 4 (a.toNat:Int)) (ns.length:Int) 2 U (by first|omega|(simp only[XX,XY,X3,X4,X2,Ac,Aj,Ak]<;>omega)|(simp[Ac,Aj,Ak,Sup.list,sect_len]<;>omega)|simp[Ac,Aj,Ak,Sup.list,sect_len])) H Z ?_;rintro u6 w _ ⟨_,rfl,rfl⟩ H;have a5:=H.sy 0 (·.slc);refine Aw (λ_=>(H.pick 3 [1] Z)) (Ax [9] J O (Ay (Dp Z Z Z Z (Bq Z Z) (Aw (λh=>absurd Z h) (Bi J (gn (Zc 3 Z ?_)))))));rw[show ((((([80,76,79,71]:List UInt8)++Ad 8 e)++Ad 8 q)++Ad 4 (a.toNat:Int))++Ad 2 (ns.length:Int))=([80,76,79,71]:List UInt8)++Ad 8 e++Ad 8 q++Ad 4 (a.toNat:Int)++Ad 2 (ns.length:Int)++(ns.take 0).flatMap (Ad 4) from by simp] at H;refine Zc 5 Z ?_;refine Aq (σ:=Nat×Value) (λ⟨i,u⟩=>[(5,Aa (i:Int)),(4,u),(1,V d)])
   (λ⟨i,u⟩ w=>Sep z (grow 5 1 u ((([80,76,79,71]:List UInt8)++Ad 8 e++Ad 8 q++Ad 4 (a.toNat:Int)++Ad 2 (ns.length:Int)++(ns.take i).flatMap (Ad 4)).length) ((([80,76,79,71]:List UInt8)++Ad 8 e++Ad 8 q++Ad 4 (a.toNat:Int)++Ad 2 (ns.length:Int)++(ns.take i).flatMap (Ad 4)).map u8)::blk d [Aa e,Aa q,.slice l ns.length g,u32 a] 233::A::R) w/\(i<=ns.length)) (λ⟨i,u⟩=>ns.length-i) ⟨0,u6⟩
   fr_z ⟨H,Ye _⟩ ?_
 clear H;rintro ⟨i,u⟩ w ⟨c,n⟩;dsimp only at n c ⊢;have H:=c.l3;have su:=H.sy 0 (·.slc);have hi:=n;clear n;refine Z2 10 [2,1,0,0] H Z (Ag Z (λh5=>?_) (λh5=>?_))
 ·refine Zc 6 Z ?_;obtain ⟨y,k⟩:∃y,ns[i]?=some y:=⟨_,XV U⟩;have a3:=m y (XW k)
  have b:=(H.rd 2 Z o).at (j:=i) (u:=Aa y) (by rw[X9,k];rfl);refine Z2 4 [2,1,0] H Z (Ae Z (Az Z (z:=1) (j:=i) (r:=i) J Z Z Z U b U) (Ae Z (AS Z Z J (AB b)) (Ah Z (call156 _) (CT _ _) H ?_)));intro w H;refine Ae Z (AL Z Z) (Zc 2 Z (Ag Z (λh6=>U) (λh6=>?_)));refine Zc 2 Z ?_;have b:=(H.rd 2 Z o).at (j:=i) (u:=Aa y) (by rw[X9,k];rfl);refine Z2 5 [2,1,0] H Z (Ae Z (Az Z (z:=1) (j:=i) (r:=i) J Z Z Z U b U) (Ae Z (AS Z Z J (AB b)) ?_));replace H:=(H.mono 0 (B:=bsA 5 u (([80,76,79,71]:List UInt8)++Ad 8 e++Ad 8 q++Ad 4 (a.toNat:Int)++Ad 2 (ns.length:Int)++(ns.take i).flatMap (Ad 4))) Z (λh q=>.inr q)).l3;refine AA Z (call157 _) (B6 _ (([80,76,79,71]:List UInt8)++Ad 8 e++Ad 8 q++Ad 4 (a.toNat:Int)++Ad 2 (ns.length:Int)++(ns.take i).flatMap (Ad 4)) y 4 U (by first|omega|(simp only[XX,XY,X3,X4,X2,Ac,Aj,Ak]<;>omega)|(simp[Ac,Aj,Ak,Sup.list,sect_len]<;>omega)|simp[Ac,Aj,Ak,Sup.list,sect_len])) H ?_;rintro u7 w _ ⟨_,rfl,rfl⟩ H;have a1:=H.sy 0 (·.slc);refine Zc 2 Z ?_;rw[show ((([80,76,79,71]:List UInt8)++Ad 8 e++Ad 8 q++Ad 4 (a.toNat:Int)++Ad 2 (ns.length:Int)++(ns.take i).flatMap (Ad 4))++Ad 4 y)=([80,76,79,71]:List UInt8)++Ad 8 e++Ad 8 q++Ad 4 (a.toNat:Int)++Ad 2 (ns.length:Int)++(ns.take (i+1)).flatMap (Ad 4) from (by rw[Yd,k];simp)] at H;refine Z1 7 [] [(i:Int)+1] Z U (gf ?_);intro _ hF;refine ⟨⟨i+1,u7⟩,hF.cz,⟨H,?_⟩,?_⟩
  ·show i+1<=ns.length;omega
  (dsimp only;omega)
 refine Zc 2 Z (gx (Zc 3 Z ?_));rw[show ns.take i=ns from XZ U] at H;refine Zc 2 Z (AA Z (call183 _) (FV _ (([80,76,79,71]:List UInt8)++Ad 8 e++Ad 8 q++Ad 4 (a.toNat:Int)++Ad 2 (ns.length:Int)++(ns).flatMap (Ad 4)) (by first|omega|(simp only[XX,XY,X3,X4,X2,Ac,Aj,Ak]<;>omega)|(simp[Ac,Aj,Ak,Sup.list,sect_len]<;>omega)|simp[Ac,Aj,Ak,Sup.list,sect_len])) H ?_);rintro u8 w _ ⟨_,rfl,rfl⟩ H;have x:=H.sy 0 (·.slc);refine Zc 5 Z (Zr Z ?_);exact ⟨_,⟨_,Z,Z⟩,H.pick 3 [0,2] Z⟩
theorem Mp(e q:Int)(a:UInt32)(d:0<=e/\e<=1099511627776)(hq:0<=q/\q<=1099511627776):An 221 [.agg #[Aa e,Aa q,.slice none 0 0,u32 a]] [] (λv G=>v=.tuple #[.slice none 0 0,Aa 1]/\G=[]):=by
 intro z R w H;refine Af func221 Z ntmps221 Z (Za 2 [] H Z ?_);intro f w H;refine Z2 9 [0,0,0] H Z (Ah Z (call156 _) (CT _ _) H ?_);intro w H;refine Ae Z (AL Z Z) (Zc 1 Z (Am 10 Z (λb=>U) (λb=>?_)));refine Z2 2 [1,0,0] H Z (Ah Z (call156 _) (CT _ _) H ?_);intro w H;refine Ae Z (AL Z Z) (Zc 2 Z (Am 16 Z (λc=>U) (λc=>?_)));refine Z2 21 [2,0,0,3] H Z (Zr Z ?_);exact ⟨_,⟨Z,Z⟩,H.pick 1 [] Z⟩
theorem Mq(v:Value)(sec:List UInt8)(A:Ai)(a:∀h,A h->rdH 1 v sec.length (sec.map u8) h)(d:sec=List.replicate 256 0):An 187 [v] [A] (λv G=>v=.tuple #[.agg #[Aa 0,Aa 0,.slice none 0 0,.int .u32 0],.bool false]/\G=[A]):=by
 intro z R w H;have l:sec.length=256:=by rw[d];simp
 obtain ⟨b,o,c,rfl⟩:=H.sy 0 (λq=>(a _ q).sl (by rw[X8];omega));have f:=H.sy 0 (λq=>(a _ q).cap);refine Af func187 Z ntmps187 Z (Zc 2 Z (AC Z (BL (P:=prog) H Z (zs:=[Aa 0,Aa 0,.slice none 0 0,u32 0]) J) ?_));rintro _ w ⟨e,rfl,H⟩;refine Zc 6 Z (Ah Z (call142 _) (B1 _ sec _ a 4 8 (by first|omega|simp_all)) H.f1 ?_);intro w H;refine k_updA 10 (v:=Aa 0) Z (congrArg Aa (by rw[d];rfl)) (Zc 1 Z (Ah Z (call142 _) (B1 _ sec _ a 12 8 (by first|omega|simp_all)) H ?_));intro w H;refine k_updA 12 (v:=Aa 0) Z (congrArg Aa (by rw[d];rfl)) (Zc 1 Z (Ah Z (call142 _) (B1 _ sec _ a 20 4 (by first|omega|simp_all)) H ?_));intro w H;refine k_updA 14 (v:=Aa 0) Z (congrArg Aa (by rw[d];rfl)) (Ae Z (GX Z J Z) (Ae Z (AR Z Z (out:=[Aa 0,Aa 0,.slice none 0 0,u32 (Dr 0)]) J) (AC Z (BL (P:=prog) H Z (zs:=[Aa 0,Aa 0,.slice none 0 0,u32 0]) J) ?_)));rintro _ w ⟨g,rfl,H⟩;refine Z4 6 [0] H Z ?_;intro w H;refine Ah Z (call142 _) (B1 _ sec _ a 24 2 (by first|omega|simp_all)) H.f1 ?_;intro w H;refine k_updA 18 (v:=Aa 0) Z (congrArg Aa (by rw[d];rfl)) (Zc 10 Z ?_);refine Aq (σ:=Nat) (λi=>[(6,Aa (i:Int)),(0,.slice (some ⟨b,o,none⟩) sec.length c),(2,V e),(3,.bool false),(4,V g),(5,Aa 0)])
   (λi w=>Sep z (A::blk g [Aa 0,Aa 0,.slice none 0 0,u32 (Dr 0)] 233::blk e [Aa 0,Aa 0,.slice none 0 0,u32 0] 233::R) w/\(True)) (λi=>0) 0
   fr_z ⟨H,trivial⟩ ?_
 clear H;rintro i w ⟨j,m⟩;have H:=j.l3;refine Z0 7 [0] Z (Am 22 Z (λk=>U) (λk=>?_));refine Zc 8 Z (gx (Z2 5 [1,4] H Z (Ah Z (call221 _) (Mp _ _ _ U U) H ?_)));intro w H;refine Z0 23 [3] Z (Ae Z (AR Z Z (out:=[Aa 0,Aa 0,.slice none 0 0,u32 0]) J) (Z4 5 [2] H Z ?_));intro w H;refine Zl [2,4] H Z ?_;exact ⟨_,⟨Z,Z⟩,H.pick 3 [0] Z⟩
set_option maxHeartbeats 2000000 in
theorem N4 (v:Value) (sec:List UInt8) (A:Ai) (g:∀h,A h->rdH 1 v sec.length (sec.map u8) h) (e q:Int) (he:0<=e/\e<=1099511627776) (hq:0<=q/\q<=1099511627776) (ims:List Img) (k:1<=ims.length/\ims.length<=40) (l:∀m∈ims,m.Ok) (a:sec=sect (Bt e q ims)):An 187 [v] [A] (λv G=>∃v2:Value,v=.tuple #[.agg #[Aa e,Aa q,v2,u32 (Au (AD e q ims))],.bool true]/\G=[grow 3 1 v2 ims.length ((ims.map Img.num).map Aa),A]):=by
 intro z R w H;replace H:=H.l1;have a3:sec.length=256:=by rw[a];exact sect_len (hdL_le k.2)
 obtain ⟨b,o,c,rfl⟩:=H.sy 0 (λq=>(g _ q).sl (by rw[X8];omega));have a1:=H.sy 0 (λq=>(g _ q).cap);refine Af func187 Z ntmps187 Z (Zc 2 Z (AC Z (BL (P:=prog) H Z (zs:=[Aa 0,Aa 0,.slice none 0 0,u32 0]) J) ?_));rintro _ w ⟨t,rfl,H⟩;replace H:=H.l2;refine Zc 6 Z (Ah Z (call142 _) (B1 _ sec _ g 4 8 (by first|omega|simp_all)) H.f1 ?_);intro w H;replace H:=H.l2;refine k_updA 10 (v:=Aa e) Z (congrArg Aa (by rw[a];exact NE k.2 he)) (Zc 1 Z (Ah Z (call142 _) (B1 _ sec _ g 12 8 (by first|omega|simp_all)) H ?_));intro w H;replace H:=H.l2;refine k_updA 12 (v:=Aa q) Z (congrArg Aa (by rw[a];exact NF k.2 hq)) (Zc 1 Z (Ah Z (call142 _) (B1 _ sec _ g 20 4 (by first|omega|simp_all)) H ?_));intro w H;replace H:=H.l2;refine Ae Z (GX Z J Z) (k_updA 15 (v:=u32 (Au (AD e q ims))) Z (congrArg u32 (by rw[a];exact Vu k.2)) (Ae Z (AR Z Z (out:=[Aa e,Aa q,.slice none 0 0,u32 (Au (AD e q ims))]) J) (AC Z (BL (P:=prog) H Z (zs:=[Aa 0,Aa 0,.slice none 0 0,u32 0]) J) ?_)));rintro _ w ⟨p,rfl,H⟩;replace H:=H.l3;refine Z4 6 [0] H Z ?_;intro w H;refine Ah Z (call142 _) (B1 _ sec _ g 24 2 (by first|omega|simp_all)) H.f1 ?_;intro w H;replace H:=H.l3;refine k_updA 18 (v:=Aa (ims.length:Int)) Z (congrArg Aa (by obtain ⟨m9,x,h2⟩:=OP (sec:=sec);rw[x,<-h2,a,K6 k.2])) (Zc 5 Z ?_);replace H:=(H.nilg 3 1).l4;refine Zc 5 Z ?_;refine Aq (σ:=Nat×Value) (λ⟨i,u⟩=>[(6,Aa (i:Int)),(0,.slice (some ⟨b,o,none⟩) sec.length c),(2,V t),(3,.bool false),(4,V p),(5,Aa (ims.length:Int))])
   (λ⟨i,u⟩ w=>Sep z (grow 3 1 u i (((ims.take i).map Img.num).map Aa)::A::blk p [Aa e,Aa q,u,u32 (Au (AD e q ims))] 233::blk t [Aa 0,Aa 0,.slice none 0 0,u32 0] 233::R) w/\(i<=ims.length)) (λ⟨i,u⟩=>ims.length-i) ⟨0,.slice none 0 0⟩
   fr_z ⟨(by simpa using H),Ye _⟩ ?_
 clear H;rintro ⟨i,u⟩ w ⟨f,s⟩;dsimp only at s f ⊢;have H:=f.l4;have su:=H.sy 0 (·.slc);have hi:=s;clear s;refine Z0 7 [0] Z (Am 22 Z (λx=>?_) (λx=>?_))
 ·refine Z0 5 [0] Z (Ag Z (λh2=>?_) (λh2=>?_))
  ·refine Zc 4 Z ?_;obtain ⟨m,j⟩:∃m,ims[i]?=some m:=⟨_,XV U⟩;replace H:=H.f1.f2;refine A1 (Sep z (blk p [Aa e,Aa q,u,u32 (Au (AD e q ims))] 233::A::R)) 11 Z J (A8 H λw f=>?_)
   have H:=f.l4;refine BA [0,1,2,3] [2,0] J (λ_ hx=>(A3 (hx.blk 0 Z) AU)) (by exact H.pick 4 [0,1] Z) Z J Z Z (Bg 4 J Z Z J J J Z Z Z (Jt Z Z Z (r:=((4*i:Nat):Int)) U U) (H.pick 4 [0,1] Z) (Bg 5 J Z Z J J J Z Z Z (Cm Z Z Z (r:=((26+4*i:Nat):Int)) U U) (H.pick 4 [0,1] Z) (Ax [6] J O (Ay (BF Z Z Z Z Z Z (λw=>call142 _ w) (B1 _ sec _ g (26+4*i) 4 (by first|omega|simp_all)) H.f1 Z ?_)))));rintro _ w _ ⟨rfl,rfl⟩ H;replace H:=H.l4;refine k_updA 34 (v:=Aa m.num) Z (congrArg Aa (by rw[a];exact QV k.2 j (l m (XW j)))) (Aw (λ_=>(H.pick 4 [1,0] Z)) (Ax [7] J O (Ay (Cj Z Z Z Z (AI H Z J BW Z (by decide) (by decide) (out:=[Aa m.num]) J) ?_))));rintro _ w ⟨b3,rfl,H⟩;replace H:=H.l5;refine Aw (λ_=>(H.pick 5 [2,1] Z)) (Ax [8] J O (Ay (Cj Z Z Z Z (AJ 3 H Z Z J BW Z Z (H.rv 0 (·.rd U U O Z)) (by simp[Value.oneCell']) U) ?_)));rintro v4 w f;have f:Sep z (blk b3 [Aa m.num] 3::A::blk p [Aa e,Aa q,u,u32 (Au (AD e q ims))] 233::grow 3 1 v4 (i+1) (((ims.take i).map Img.num).map Aa++[Aa m.num])::blk t [Aa 0,Aa 0,.slice none 0 0,u32 0] 233::R) w:=f;have a0:(((ims.take i).map Img.num).map Aa++[Aa m.num]:List Value)=((ims.take (i+1)).map Img.num).map Aa:=(by rw[Yd,j];simp);rw[a0] at f;have H:=f.l5;have n:=H.sy 3 (·.slc);refine Aw (λ_=>(H.pick 5 [2,1] Z)) (BA [9] [2] J (λ_ _=>AU) (by exact H.pick 5 [2,1] Z) Z J Z Z (Ax [10] J O (Ay (Cy Z Z Z (Jw 2 H Z Z Z Z n.cells n.one J) ?_))));rintro w H;replace H:=H.l5;refine Aw (λh=>absurd Z h) (Bi J (gn (Z1 7 [] [(i:Int)+1] Z U ?_)));replace H:=H.d.f3.f2.f2.f3;refine gf ?_;intro _ hF;refine ⟨⟨i+1,v4⟩,hF.cz,⟨H,?_⟩,?_⟩
   ·show i+1<=ims.length;omega
   (dsimp only;omega)
  (exfalso;omega)
 refine Zc 8 Z (gx (Zc 3 Z ?_));obtain rfl:i=ims.length:=by omega
 rw[YN] at H;refine Z2 2 [2,4] H Z (AA Z (call221 _) (Jn e q _ (ims.map Img.num) _ _ (λh q=>by have e9:(ims.map Img.num).length=ims.length:=X8 ..;rw[e9];exact q.rd) U U (by rw[X8];omega) (λy hy=>by obtain ⟨m9,h9,rfl⟩:=X5.1 hy;exact (l m9 h9).1)) H ?_);rintro _ w _ ⟨u5,rfl,rfl⟩ H;replace H:=H.l5;have a2:=H.sy 0 (·.slc);refine Z0 15 [4] Z (Ah Z (call140 _) (EV _ _ (sect (Bt e q ims)) sec _ _ (λh q=>q.rd) g) H.f2.f1 ?_);intro w H;replace H:=H.l5;refine k_updA 48 (v:=.bool true) Z (congrArg Value.bool (decide_eq_true a.symm)) (Z2 10 [3,4] H Z (A0 Z Z (AE 4 H Z Z Z Z (vs:=[Aa e,Aa q,u,u32 (Au (AD e q ims))]) Z (Al Z (Al Z (Al su.one (Al Z AK)))) J O (out:=[Aa e,Aa q,u,u32 (Au (AD e q ims))]) Z) ?_));rintro w H;replace H:=H.l5;refine Zc 4 Z (Zl [4,4] H Z ?_);exact ⟨_,⟨_,Z,Z⟩,H.pick 5 [2,1] Z⟩
end Go.Proofs.YthbbejpbkglmlaaGreatDoor
