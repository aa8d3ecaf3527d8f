/-
  Steps to: No page that is in use is taken, none twice No condition.
-/
import Derived.Test.YthbbejpbkglmlaaGreatDoorPart2
set_option maxRecDepth 100000
set_option linter.unusedSimpArgs false
set_option linter.unusedVariables false
open Go.Proofs.Tryz
namespace Go.Proofs.YthbbejpbkglmlaaGreatDoor
open Go.RowKit
set_option maxHeartbeats 2000000 in
theorem TZ (ps pd pt md f:Nat) (x:Sup) (r:Value) (g:A0) (k:Nat) (hq:Hp) (n:Nat) (hn:(n:Int)<x.pages) (p:Pg) (hp:p.Ok) (bv:Value) (A:Ah) (hA:∀h,A h->rdH 1 bv 240 (p.body.map u8) h):Aj 41 [V ps,Aa (n:Int),.agg #[Aa p.kind,bv]] [stB ps pd pt x r md true (.map (some f)),DN f g k hq,poolA hq,A] (λv G=>((g n=none/\40<=k)/\v=Aa 16/\G=[stB ps pd pt x r md true (.map (some f)),DN f g k hq,poolA hq,A])\/(¬(g n=none/\40<=k)/\∃a,BA hq a/\v=Aa 0/\G=[stB ps pd pt x r md true (.map (some f)),DN f (pgSet g n p) (k+(if (g n).isSome then 0 else 1)) a,poolA a,A])):=by
 intro z R w H;replace H:=H.l4;obtain ⟨t,o,c,d,H⟩:=H.pgsc 1 Z;replace H:=H.l4;obtain ⟨bb,oo,cc,rfl⟩:=H.sy 3 (λq=>(hA _ q).sl (by simp[hp.2]));have a6:=hp.1;have a7:(t.map PgE.ie).length=k:=by simp[d]
 refine Ac func41 Z ntmps41 Z (Za 2 [] H Z ?_);intro b1 w H;refine Z2 10 [12,1,0] H Z ?_;rcases c.get n with ⟨m,y⟩|⟨po,l,m,a0,a3,y⟩
 ·refine Ad Z (CI (e:=40) (zv:=.agg #[Aa 0,.slice none 0 0]) Z J J Z Z (AB (H.bk 2 Z))) (k_updA 15 (v:=.tuple #[.agg #[Aa 0,.slice none 0 0],.bool false]) Z (by simp[Cq,y]) (Za 3 [] H Z ?_));intro b2 w H;refine Z4 22 [0,11,2,0,0] H Z ?_;intro w H;refine Ak 27 Z (λh1=>U) (λh1=>?_)
  refine Z2 11 [2,4,2,0,0] H Z (Ag Z (λh2=>U) (λh2=>?_));refine Z2 6 [0,1,0,0] H Z (Ak 40 Z (λh3=>U) (λh3=>?_));refine Z2 5 [0,1,0,0] H Z (Ak 45 Z (λh4=>U) (λh4=>?_));refine Z2 18 [1,1,0,4,12,2,0] H Z (Ad Z (ME (e:=40) Z J Z (AB (H.bk 3 Z))) (Z0 5 [0] Z (Ag Z (λh5=>?_) (λh5=>?_))))
  ·refine Zc 6 Z (Zr Z ?_);replace H:=(H.toPgsc 3 Z c d).l6
   exact ⟨_,.inl ⟨⟨m,by omega⟩,Z,Z⟩,H.perm 6 [2,3,4,5] Z Z⟩
  refine Zc 4 Z ?_;replace H:=H.f1.f2;refine BV (Sep z (stB ps pd pt x r md true (.map (some f))::blk b1 [Aa p.kind,.slice (some ⟨bb,oo,none⟩) 240 cc] 40::R)) 8 Z J (A4 H λw H'=>?_);have H:=H'.l6;refine CG [0,1,2,3,4,5] [12,0,0,1,2] [] (by exact H.pick 6 [0,1] Z) Z J Z (Cs [6] J O (Ar (Ba Z Z Z Z Z Z (λw=>call64 _ w) (Gp p _ _ hA hp) H.f5 Z ?_)));rintro _ w _ ⟨v1,rfl,rfl⟩ H;replace H:=H.l7;refine BZ (H.pick 7 [2,3] Z) (Cs [7] J O (Ar (B6 Z Z Z (Dn 5 (e:=40) H Z Z J Z Z Z) ?_)));rintro w H;replace H:=H.l7;refine BZ (H.pick 7 [2,3] Z) (a_done J (gn (Zc 7 Z (Zr Z ?_))));replace H:=H.f6;obtain ⟨a,⟨b,j⟩,H⟩:=BG H (λh q=>q.rd);replace H:=H.l6;obtain ⟨u,s,i,a1⟩:=(c.le b).put (k:=n) (p:=p) hp j;rw[s] at H;have H:Sep z (poolA a::A::stB ps pd pt x r md true (.map (some f))::blk b1 [Aa p.kind,.slice (some ⟨bb,oo,none⟩) 240 cc] 40::blk b2 [Aa 0,.slice none 0 0] 40::AE f (u.map PgE.ie) (putC (t.map PgE.ie) (n:Int) o)::R) w:=H;replace H:=(H.toPgsc 5 Z i (by rw[a1,d])).l6;exact ⟨_,.inr ⟨λq=>by first|(rw[m] at q;cases q.1;done)|omega,a,b,rfl,rfl⟩,H.perm 6 [2,5,0,1] rfl rfl⟩
 have a2:Slc l 240:=a3.slc;refine Ad Z (CI (e:=40) (zv:=.agg #[Aa 0,.slice none 0 0]) Z J J Z Z (AB (H.bk 2 Z))) (k_updA 15 (v:=.tuple #[.agg #[Aa po.kind,l],.bool true]) Z (by simp[Cq,y]) (Za 3 [] H Z ?_));intro b3 w H;refine A9 Z Z (AD 0 H Z Z Z Z (vs:=[Aa po.kind,l]) Z (Aq Z (Aq a2.one AN)) J O (out:=[Aa po.kind,l]) Z) ?_;rintro w H;replace H:=H.l6;refine Z2 21 [11,2,0,0] H Z (Ak 27 Z (λh6=>U) (λh6=>?_));refine Z2 11 [2,4,2,0,0] H Z (Ag Z (λh7=>U) (λh7=>?_));refine Z2 6 [0,1,0,0] H Z (Ak 40 Z (λh8=>U) (λh8=>?_));refine Z2 5 [0,1,0,0] H Z (Ak 45 Z (λh9=>U) (λh9=>?_));refine Z2 29 [1,1,0,4] H Z ?_;replace H:=H.f1.f2;refine BV (Sep z (stB ps pd pt x r md true (.map (some f))::blk b1 [Aa p.kind,.slice (some ⟨bb,oo,none⟩) 240 cc] 40::R)) 8 Z J (A4 H λw H'=>?_);have H:=H'.l6;refine CG [0,1,2,3,4,5] [12,0,0,1,2] [] (by exact H.pick 6 [0,1] Z) Z J Z (Cs [6] J O (Ar (Ba Z Z Z Z Z Z (λw=>call64 _ w) (Gp p _ _ hA hp) H.f5 Z ?_)));rintro _ w _ ⟨v1,rfl,rfl⟩ H;replace H:=H.l7;refine BZ (H.pick 7 [2,3] Z) (Cs [7] J O (Ar (B6 Z Z Z (Dn 5 (e:=40) H Z Z J Z Z Z) ?_)));rintro w H;replace H:=H.l7;refine BZ (H.pick 7 [2,3] Z) (a_done J (gn (Zc 7 Z (Zr Z ?_))));replace H:=H.f6;obtain ⟨a,⟨b,j⟩,H⟩:=BG H (λh q=>q.rd);replace H:=H.l6;obtain ⟨u,s,i,a1⟩:=(c.le b).put (k:=n) (p:=p) hp j;rw[s] at H;have H:Sep z (poolA a::A::stB ps pd pt x r md true (.map (some f))::blk b1 [Aa p.kind,.slice (some ⟨bb,oo,none⟩) 240 cc] 40::blk b3 [Aa po.kind,l] 40::AE f (u.map PgE.ie) (putC (t.map PgE.ie) (n:Int) o)::R) w:=H;replace H:=(H.toPgsc 5 Z i (by rw[a1,d])).l6;exact ⟨_,.inr ⟨λq=>by first|(rw[m] at q;cases q.1;done)|omega,a,b,rfl,rfl⟩,H.perm 6 [2,5,0,1] rfl rfl⟩
section
theorem IK{s:Sup}(hs:SOk s)(x:Int):s.start<=(ringAt s x:Int)/\(ringAt s x:Int)<s.start+s.len:=by
 have c:=hs.start;have b:=hs.head;have d:=Adg x (by omega:s.len≠0);have a:=AcU x (by omega:0<s.len);unfold ringAt;omega
def MN(s:Sup)(D D':Dsk):Prop:=∀i:Nat,s.start<=(i:Int)->(i:Int)<s.start+s.len->D'.dur i=D.dur i/\D'.ver i=D.ver i
def SameOut(s:Sup)(D D':Dsk):Prop:=∀i:Nat,¬(s.start<=(i:Int)/\(i:Int)<s.start+s.len)->D'.dur i=D.dur i/\D'.ver i=D.ver i
theorem PInv.out{D D':Dsk}{s:Sup}{rs:List Rc}{pt:List (List UInt8)}{a q u:Int}{b:Bool}{sure:Nat}(h:PInv D s rs pt a q u b sure)(hs:SOk s)(g:MN s D D'):PInv D' s rs pt a q u b sure:=by
 have d:∀x:Int,D'.dur (ringAt s x)=D.dur (ringAt s x)/\D'.ver (ringAt s x)=D.ver (ringAt s x):=λx=>g _ (IK hs x).1 (IK hs x).2;refine ⟨h.fa,h.fq,h.fu,h.ul,h.pb,h.part,h.recs,λi f c e=>h.old i f c ?_,λi c e=>?_,λi c e=>?_,h.sure⟩
 ·unfold CQ at e ⊢;rwa[(d _).1,(d _).2] at e
 ·have:=h.last i c e
  unfold Dsk.cont at this ⊢;rw[(d _).1,(d _).2];exact this
 rw[(d _).1,(d _).2];exact h.dura i c e
theorem PM{f:A0}{ims:List Img}{n:Nat}(h:(f n).isSome=true):(Ek f ims n).isSome=true:=by rw[Or,h];rfl
theorem FR(a:List Rc):∀(rs:List Rc) {n:Nat},(ov rs n).isSome=true->(ov (rs++a) n).isSome=true:=by
 induction a with
 | nil=>intro rs n h;rwa[Acw]
 | cons r a ih=>
  intro rs n h;rw[show rs++r::a=(rs++[r])++a from by simp];exact ih _ (by rw[ID];exact PM h)
theorem G4{rs:List Rc}{k n:Nat}(h:(ov (rs.take k) n).isSome=true):(ov rs n).isSome=true:=by
 have:=FR (rs.drop k) _ h;rwa[AcC] at this
structure Clean(D:Dsk):Prop where
 f1:D.f1=0
 f2:D.f2=0
 f3:D.f3=0
 cut:D.cut=false
theorem Clean.bad{D:Dsk}(h:Clean D):¬D.bad:=by
 rintro (g|⟨g,_⟩)
 ·rw[h.f2] at g;cases g
 rw[h.cut] at g;cases g
theorem Clean.flb{D:Dsk}(h:Clean D):¬D.flb:=by
 rintro (g|⟨g,_⟩)
 ·rw[h.f3] at g;cases g
 rw[h.cut] at g;cases g
theorem Clean.wr1{D:Dsk}(h:Clean D)(b:Bool)(x:Nat)(p:List UInt8):Clean (wr1 D b x p):=by
 have a:=Dsk.ws_f b [p] {D with f2:=AZ D.f2} x;refine ⟨a.1.trans h.f1,a.2.1.trans ?_,a.2.2.1.trans h.f3,a.2.2.2.1.trans h.cut⟩;show AZ D.f2=0;rw[h.f2];rfl
theorem Clean.wr{D:Dsk}(h:Clean D)(x:Nat)(ps:List (List UInt8)):Clean (D.wr x ps):=by
 have a:=Dsk.ws_f false ps {D with f2:=AZ D.f2} x;refine ⟨a.1.trans h.f1,a.2.1.trans ?_,a.2.2.1.trans h.f3,a.2.2.2.1.trans h.cut⟩;show AZ D.f2=0;rw[h.f2];rfl
theorem Clean.hw(l:List (Nat×Pg)):∀{D:Dsk},Clean D->Clean (hwD D l):=by
 induction l with
 | nil=>intro D h;exact h
 | cons x l ih=>intro D h;rw[hwD_cons];exact ih (h.wr _ _)
theorem Clean.fl{D:Dsk}(h:Clean D):Clean D.fl:=⟨h.f1,h.f2,by show AZ D.f3=0;rw[h.f3];rfl,h.cut⟩
theorem Clean.sv{D:Dsk}(h:Clean D)(x:Sup):Clean (EV D x):=h.wr1 true _ _
theorem Clean.setF{D:Dsk}(h:Clean D){l:List (Nat×Pg)}{c:Int}{a:Dsk}:¬KE D l c a:=by
 rintro (⟨j,g,_⟩|⟨g,_⟩|⟨g,_⟩)
 ·exact (h.hw _).bad g
 ·exact (h.hw _).flb g
 exact (h.hw _).fl.bad g

structure SInv(D:Dsk)(x:Sup)(B:Nat->Pg)(rs:List Rc)(ptl:List (List UInt8))(a q u:Int)(b:Bool)(sure:Nat):Prop where
 ok:x.Ok (D.n:Int)
 p:PInv D x rs ptl a q u b sure
 s:SOk x
 gen:1<=x.gen
 num:∀r∈rs,∀m∈r.ims,m.num<x.pages
 home:∀i:Nat,(i:Int)<x.pages->∀c,CQ D (2+i) c->HomeP c i (B i)\/((ov (rs.take sure) i).isSome=true/\∃p,HomeP c i p)
 sup:D.dur (x.gen%2).toNat=BC x/\D.ver (x.gen%2).toNat=[]
 oth:∃y:Sup,y.Ok (D.n:Int)/\y.gen=x.gen-1/\D.dur ((x.gen+1)%2).toNat=BC y/\D.ver ((x.gen+1)%2).toNat=[]
 rest:∀i:Nat,2+x.pages<=(i:Int)->¬(x.start<=(i:Int)/\(i:Int)<x.start+x.len)->∀c,CQ D i c->∀e q,Tg c e q->e<=x.epoch
variable{D D':Dsk}{x:Sup}{B:Nat->Pg}{rs:List Rc}{ptl:List (List UInt8)}{a q u:Int}{b:Bool}{sure:Nat}
theorem SInv.cur(h:SInv D x B rs ptl a q u b sure){i:Nat}(d:(i:Int)<x.pages)(c:ov rs i=none):HomeP (D.cont (2+i)) i (B i):=by
 rcases h.home i d _ (cont_has D _) with g|⟨g,_⟩
 ·exact g
 have:=G4 g;rw[c] at this;cases this
theorem SInv.ovb(h:SInv D x B rs ptl a q u b sure){n:Nat}(e:(ov rs n).isSome=true):(n:Int)<x.pages:=by
 obtain ⟨p,hp⟩:=Acp.1 e;obtain ⟨r,c,m,d,i,_⟩:=J0 _ rs Z hp;have g:=h.num r c m d;have f:=h.ok.2;omega
theorem SInv.ovok(h:SInv D x B rs ptl a q u b sure){n:Nat}{p:Pg}(f:ov rs n=some p):p.Ok:=by
 obtain ⟨r,c,m,e,_,rfl⟩:=J0 _ rs Z f;obtain ⟨j,d⟩:=Ack c;exact Fs ((h.p.recs j r d).2.2 m e)
theorem SInv.f(h:SInv D x B rs ptl a q u b sure)(l:D'.n=D.n)(g:D'.dur=D.dur)(e:D'.ver=D.ver):SInv D' x B rs ptl a q u b sure:=
 ⟨by rw[l];exact h.ok,h.p.f g e,h.s,h.gen,h.num,λi k c j=>h.home i k c (by unfold CQ at j ⊢;rwa[g,e] at j),by rw[g,e];exact h.sup,by
  obtain ⟨y,a,b,c,d⟩:=h.oth;exact ⟨y,by rw[l];exact a,b,by rw[g];exact c,by rw[e];exact d⟩,λi k m c j=>h.rest i k m c (by unfold CQ at j ⊢;rwa[g,e] at j)⟩
theorem SInv.log(h:SInv D x B rs ptl a q u b sure)(v:D'.n=D.n)(t:SameOut x D D'){e:List Rc}{f:List (List UInt8)}{a' z p:Int}{w:Bool}(hp:PInv D' x e f a' z p w sure)(l:e.take sure=rs.take sure)(k:∀r∈e,∀m∈r.ims,m.num<x.pages):SInv D' x B e f a' z p w sure:=by
 have hk:=h.ok.2;have hg:=h.gen;have g:∀i:Nat,(i:Int)<x.start->D'.dur i=D.dur i/\D'.ver i=D.ver i:=λi o=>t i U;refine ⟨by rw[v];exact h.ok,hp,h.s,hg,k,λi o c j=>?_,?_,?_,λi o l c j=>h.rest i o l c (by have:=t i l;unfold CQ at j ⊢;rwa[this.1,this.2] at j)⟩
 ·have:=g (2+i) U
  unfold CQ at j;rw[this.1,this.2] at j;rw[l];exact h.home i o c j
 ·have:=g (x.gen%2).toNat U
  rw[this.1,this.2];exact h.sup
 obtain ⟨y,a,b,c,d⟩:=h.oth;have:=g ((x.gen+1)%2).toNat U;exact ⟨y,by rw[v];exact a,b,by rw[this.1];exact c,by rw[this.2];exact d⟩
theorem Eh{D:Dsk}{i:Nat}(h:D.ver i=[]):D.cont i=D.dur i:=Jb h
theorem SInv.flush(h:SInv D x B rs ptl a q u b sure):SInv D.fl x B rs ptl a q u b rs.length:=by
 refine ⟨h.ok,h.p.flush,h.s,h.gen,h.num,λi e c f=>?_,?_,?_,λi e j c f=>h.rest i e j c (fl_has f)⟩
 ·rw[AcB]
  rcases h.home i e c (fl_has f) with g|⟨k,l⟩
  ·exact .inl g
  exact .inr ⟨G4 k,l⟩
 ·exact ⟨(Eh h.sup.2).trans h.sup.1,Z⟩
 obtain ⟨y,a,b,c,d⟩:=h.oth;exact ⟨y,a,b,(Eh d).trans c,Z⟩
theorem Xl(a:x.Ok (D.n:Int)){l:List (Nat×Pg)}(c:∀y∈l,(y.1:Int)<x.pages):MN x D (hwD D l):=λi f _=>by
 have d:=a.2;refine ⟨by rw[J1],J2 l D i λy b e=>?_⟩;have:=c y b;omega
theorem SInv.hw(h:SInv D x B rs ptl a q u b rs.length){l:List (Nat×Pg)}(o:∀y∈l,ov rs y.1=some y.2):SInv (hwD D l) x B rs ptl a q u b rs.length:=by
 have v:=h.gen;have m:∀y∈l,(y.1:Int)<x.pages:=λy j=>h.ovb (by rw[o y j];rfl);have f:∀i:Nat,i<2->(hwD D l).ver i=D.ver i:=λi n=>J2 l D i λy _ e=>by omega
 refine ⟨by rw[EL];exact h.ok,h.p.out h.s (Xl h.ok m),h.s,v,h.num,λi n c k=>?_,?_,?_,λi n r c k=>?_⟩
 ·rcases hw_has l D _ c k with g|⟨y,j,t,k⟩
  ·exact h.home i n c g
  refine .inr ⟨?_,y.2,.inr ⟨h.ovok (o y j),?_⟩⟩
  ·rw[AcB,show i=y.1 from by omega,o y j];rfl
  rw[k,show i=y.1 from by omega]
 ·rw[J1,f _ U];exact h.sup
 ·obtain ⟨y,a,b,c,d⟩:=h.oth
  exact ⟨y,by rw[EL];exact a,b,by rw[J1];exact c,by rw[f _ U];exact d⟩
 rcases hw_has l D _ c k with g|⟨y,j,t,_⟩
 ·exact h.rest i n r c g
 have:=m y j;omega
theorem SInv.setF(h:SInv D x B rs ptl a q u b rs.length){e:List Int}(g:EN (ov rs) e){c:Int}{k:Dsk}(n:KE D (pgLst (ov rs) e) c k):SInv k x B rs ptl a q u b rs.length:=by
 have i:∀l:List (Nat×Pg),(∀y∈l,y∈pgLst (ov rs) e)->SInv (hwD D l) x B rs ptl a q u b rs.length:=λl m=>h.hw λy d=>(D6 g y.1 y.2).1 (m y d);rcases n with ⟨j,_,_,rfl⟩|⟨_,_,rfl⟩|⟨_,_,rfl⟩
 ·exact (i _ λy d=>Acr d).f Z Z Z
 ·exact (i _ λy d=>d).f Z Z Z
 exact (i _ λy d=>d).flush.f Z Z Z
theorem SInv.settled(h:SInv D x B rs ptl a q u b rs.length){f:List Int}(j:EN (ov rs) f)(hq:q<=1099511627776){y:Sup}(hy:y.Ok (D.n:Int))(h1:y.start=x.start)(o:y.len=x.len)(w:y.epoch=x.epoch)(h4:y.head=a)(h5:y.seq=q)(h6:y.pages=x.pages)(h7:y.gen=x.gen+1):
  SInv (EV (hwD D (pgLst (ov rs) f)).fl y) y (pgMap (ov rs) B) [] [] a q 0 false 0:=by
 have hk:=h.ok.2;have hg:=h.gen;have l:SInv (hwD D (pgLst (ov rs) f)) x B rs ptl a q u b rs.length:=h.hw λz hz=>(D6 j z.1 z.2).1 hz;have k:=l.flush;have m:=h.p.at_ok h.s;have a6:=Sup.get hy;have v:=h.p.fq;have a3:0<=q:=by split at v<;>omega
 have a4:SOk y:=⟨by rw[h1];exact h.s.start,by rw[h4,o];exact m,by rw[w];exact h.s.epoch,by rw[h5];exact a3⟩;have a0:MN x (hwD D (pgLst (ov rs) f)).fl (EV (hwD D (pgLst (ov rs) f)).fl y):=λi hi _=>by
  have:=Eu (hwD D (pgLst (ov rs) f)).fl y i U;exact this
 have a1:=k.p.out h.s a0;have a2:=a1.drop h.s hq h1 o w h4 h5 U (by rw[h4,o];exact m);refine ⟨by show y.Ok ((hwD D _).n:Int);rw[EL];exact hy,a2,a4,by omega,λr t=>(by cases t),λi hi c g=>.inl ?_,GV _ y,?_,λi hi t c g e q' ht=>?_⟩
 ·have d:=Eu (hwD D (pgLst (ov rs) f)).fl y (2+i) U
  unfold CQ at g;rw[d.1,d.2] at g;rcases g with rfl|g
  ·show HomeP ((hwD D (pgLst (ov rs) f)).cont (2+i)) i _
   unfold pgMap
   cases ho:ov rs i with
   | some p=>
    have hm:(i,p)∈pgLst (ov rs) f:=(D6 j i p).2 ho;rw[V2 _ D (Ev j) (i,p) hm];exact .inr ⟨h.ovok ho,Z⟩
   | none=>
    rw[hw_cont_out _ D _ (λz hz e=>by
     have:=(D6 j z.1 z.2).1 hz;rw[show z.1=i from by omega,ho] at this;cases this)]
    exact h.cur U ho
  cases g
 ·refine ⟨x,by show x.Ok ((hwD D _).n:Int);rw[EL];exact h.ok,by omega,?_⟩
  have d:=Eu (hwD D (pgLst (ov rs) f)).fl y ((y.gen+1)%2).toNat U;rw[d.1,d.2,show (y.gen+1)%2=x.gen%2 from by omega];exact k.sup
 have d:=Eu (hwD D (pgLst (ov rs) f)).fl y i U;unfold CQ at g;rw[d.1,d.2] at g;rw[w];exact k.rest i U (by rwa[h1,o] at t) c g e q' ht
theorem SInv.tags(h:SInv D x B rs ptl a q u b sure)(hq:q<=1099511627776){i:Nat}(d:2+x.pages<=(i:Int)){c:List UInt8}(g:CQ D i c){e f:Int}(k:Tg c e f):e<=x.epoch:=by
 by_cases hr:x.start<=(i:Int)/\(i:Int)<x.start+x.len
 ·have n:0<x.len:=by have:=h.s.head;omega
  obtain ⟨j,l,m⟩:=Ms n x.head ((i:Int)-x.start);have d:ringAt x ((i:Int)-x.start)=i:=by
   unfold ringAt;rw[AcG U U];omega
  have:=h.p.tags h.s hq l (c:=c) (by rw[<-m,d];exact g) k;omega
 exact h.rest i d hr c g e f k
theorem PInv.fresh{D:Dsk}{s:Sup}(hs:SOk s)(h:∀i:Nat,s.start<=(i:Int)->(i:Int)<s.start+s.len->∀c,CQ D i c->∀e q,Tg c e q->e<s.epoch):PInv D s [] [] s.head s.seq 0 false 0:=by
 refine ⟨?_,by simp,by simp[secs],by have:=hs.head;omega,λ_=>rfl,.inl Z,λj r h=>by simp at h,λi d c b=>.inl λe q a=>.inl ?_,λi c h=>by simp[secs] at h,λi c h=>by simp[secs] at h,Ab9 _⟩
 ·rw[AeF,AcG hs.head.1 hs.head.2]
 have:=IK hs (s.head+i);exact h _ this.1 this.2 c b e q a
end
def V8(c:Int)(ims:List Img)(room:Prop):Prop:=(c=16/\ims.length > 40)\/(c=1/\ims.length<=40/\(ims=[]\/¬Ee ims))\/(c=15/\(1<=ims.length/\ims.length<=40)/\Ee ims/\¬room)
structure OpM where
 k0:Int
 kd:Int
 fl:Int
 k4:Int
 k5:Int
 ns:List Int
abbrev OpE:=OpM×Value×Value
def OpE.cells(e:OpE):List Value:=[.int .i64 e.1.k0,e.2.1,.int .i64 e.1.kd,.int .i64 e.1.fl,.int .i64 e.1.k4,.int .i64 e.1.k5,e.2.2]
theorem SameOut.one{s:Sup}{D:Dsk}{x:Nat}{ps:List (List UInt8)}(c:s.start<=x)(a:(x:Int)+ps.length<=s.start+s.len):SameOut s D (D.wr x ps):=λi b=>⟨by rw[Re],F7 _ _ _ _ U⟩
theorem SameOut.trans{s:Sup}{D c d:Dsk}(e:SameOut s D c)(b:SameOut s c d):SameOut s D d:=λi a=>⟨(b i a).1.trans (e i a).1,(b i a).2.trans (e i a).2⟩
theorem Lp(z pd pt:Nat)(d x:Sup)(y:Bool)(v:Value)(ims:List Img)(A:Ah)(hA:∀h,A h->imgsH v ims h)(D:Dsk){B:Nat->Pg}{rs:List Rc}{ptl:List (List UInt8)}{a q u:Int}{b:Bool}{sure:Nat}(j:SInv D x B rs ptl a q u b sure)(a4:∀m∈ims,m.num<x.pages)(h1:d.start=x.start)(h2:d.len=x.len)(h3:d.epoch=x.epoch)(a8:d.Ok (D.n:Int))(a9:y=decide (d.epoch<4294967296))(hq:0<=q/\q<=1099511627776)(a1:∀i,(D.ver i).length<=1000000000000):
  Aj 167 [V z,v] [blk z [V pd,V pt,Aa d.gen,Aa d.epoch,Aa d.pages,Aa d.start,Aa d.len,Aa d.head,Aa d.seq,Aa a,Aa q,Aa u,.bool b,.bool y] 191,tblA pt,diskA pd D,A] (λv G=>
   (∃(Da:Dsk) (a2 q2 u2:Int),(1<=ims.length/\ims.length<=40)/\Ee ims/\SInv Da x B (rs++[⟨q,ims⟩]) [] a2 q2 u2 b sure/\b=false/\(Clean D->Clean Da)/\(Da.n=D.n/\∀i,(Da.ver i).length<=(D.ver i).length+2)/\q2=q+1/\u2=u+(1+(ims.length:Int))/\v=Aa 0/\G=[blk z [V pd,V pt,Aa d.gen,Aa d.epoch,Aa d.pages,Aa d.start,Aa d.len,Aa d.head,Aa d.seq,Aa a2,Aa q2,Aa u2,.bool b,.bool y] 191,tblA pt,diskA pd Da,A])\/
   (∃c:Int,V8 c ims (1+(ims.length:Int)<=(if b then 0 else x.len-u)/\y=true/\q<1099511627776)/\v=Aa c/\G=[blk z [V pd,V pt,Aa d.gen,Aa d.epoch,Aa d.pages,Aa d.start,Aa d.len,Aa d.head,Aa d.seq,Aa a,Aa q,Aa u,.bool b,.bool y] 191,tblA pt,diskA pd D,A])\/
   (∃(Df:Dsk) (a3:List (List UInt8)),¬Clean D/\SInv Df x B rs a3 a (q+1) u true sure/\(Df.n=D.n/\∀i,(Df.ver i).length<=(D.ver i).length+2)/\v=Aa 11/\G=[blk z [V pd,V pt,Aa d.gen,Aa d.epoch,Aa d.pages,Aa d.start,Aa d.len,Aa d.head,Aa d.seq,Aa a,Aa (q+1),Aa u,.bool true,.bool y] 191,tblA pt,diskA pd Df,A])):=by
 have w:=j.p;have hs:=j.s;have b3:=w.at_ok hs;have b2:=hs.head;have b1:=hs.start;have b4:=w.fu;have b0:=w.ul;refine Cn.mono (TM z pd pt d a q u b y v ims A hA D a8 a9 U U U a1) ?_;rintro v Γ (⟨g,rfl,rfl⟩|⟨g,o,rfl,rfl⟩|⟨g,o,g3,rfl,rfl⟩|⟨g,o,g3,k,hk,g4⟩)
 ·exact .inr (.inl ⟨16,.inl ⟨Z,g⟩,Z,Z⟩)
 ·exact .inr (.inl ⟨1,.inr (.inl ⟨Z,g,o⟩),Z,Z⟩)
 ·exact .inr (.inl ⟨15,.inr (.inr ⟨Z,g,o,by rw[<-h2];exact g3⟩),Z,Z⟩)
 have a5:=g3.1
 cases b with
 | true=>rw[if_pos Z] at a5;omega
 | false=>
  rw[if_neg (by decide)] at a5;have l:1+(ims.length:Int)<=x.len-u:=by omega
  have a7:(k:Int)=min (1+(ims.length:Int)) (x.len-a):=by rw[<-h2];exact hk
  have a6:=Fp x.epoch q ims;rw[h1,h3] at g4;have l1:=λi=>Dsk.wr_len D (x.start+a).toNat ((Bo x.epoch q ims).take k) i;have l2:=λi=>Dsk.wr_len (D.wr (x.start+a).toNat ((Bo x.epoch q ims).take k)) x.start.toNat ((Bo x.epoch q ims).drop k) i;have o1:SameOut x D (D.wr (x.start+a).toNat ((Bo x.epoch q ims).take k)):=SameOut.one U (by rw[AbM,a6];omega);have o2:SameOut x (D.wr (x.start+a).toNat ((Bo x.epoch q ims).take k)) ((D.wr (x.start+a).toNat ((Bo x.epoch q ims).take k)).wr x.start.toNat ((Bo x.epoch q ims).drop k)):=SameOut.one U (by rw[Acc,a6];omega);have e:=w.app hs g o.1 l a7;have a0:(rs++[(⟨q,ims⟩:Rc)]).take sure=rs.take sure:=AbR w.sure;have f:∀r∈rs++[(⟨q,ims⟩:Rc)],∀m∈r.ims,m.num<x.pages:=λr l m hm=>by
   rcases Acd.1 l with l|l
   ·exact j.num r l m hm
   rw[Acu.1 l] at hm;exact a4 m hm
  rcases g4 with ⟨_,g5,rfl,rfl⟩|⟨_,g5,_,rfl,rfl⟩|⟨g5,rfl,rfl⟩|⟨_,g6,g5,rfl,rfl⟩
  ·unfold EJ at e
   rw[if_neg U] at e;exact .inl ⟨_,(a+(1+(ims.length:Int)))%x.len,q+1,u+(1+(ims.length:Int)),g,o,j.log (Dsk.wr_n _ _ _) o1 e a0 f,Z,λt=>t.wr _ _,⟨Dsk.wr_n _ _ _,λi=>by have:=l1 i;omega⟩,Z,Z,Z,by simp only[lgB,h1,h2,h3]⟩
  ·unfold EJ at e
   rw[if_pos U] at e;exact .inl ⟨_,(a+(1+(ims.length:Int)))%x.len,q+1,u+(1+(ims.length:Int)),g,o,j.log (by rw[Dsk.wr_n,Dsk.wr_n]) (o1.trans o2) e a0 f,Z,λt=>(t.wr _ _).wr _ _,⟨by rw[Dsk.wr_n,Dsk.wr_n],λi=>by have:=l1 i;have:=l2 i;omega⟩,Z,Z,Z,by simp only[lgB,h1,h2,h3]⟩
  ·exact .inr (.inr ⟨D.wf,_,λt=>t.bad g5,SInv.log (D':=D.wf) j Z (λ_ _=>⟨Z,Z⟩) w.fail0 Z j.num,⟨Z,λi=>by show (D.ver i).length<=_;omega⟩,Z,by simp only[lgB,h1,h3]⟩)
  exact .inr (.inr ⟨Dsk.wf (D.wr (x.start+a).toNat ((Bo x.epoch q ims).take k)),_,λt=>(t.wr _ _).bad g5,SInv.log (D':=Dsk.wf (D.wr (x.start+a).toNat ((Bo x.epoch q ims).take k))) j (Dsk.wr_n _ _ _) o1 (w.fail1 hs g o.1 l a7 g6) Z j.num,⟨Dsk.wr_n _ _ _,λi=>by have:=l1 i;show ((D.wr (x.start+a).toNat ((Bo x.epoch q ims).take k)).ver i).length<=_;omega⟩,Z,by simp only[lgB,h1,h3]⟩)
def Ew(x:Sup)(a q:Int):Sup:= {x with gen:=x.gen+1,head:=a,seq:=q}
theorem PN(x:Sup)(a q:Int):(Ew x a q).gen=x.gen+1/\(Ew x a q).epoch=x.epoch/\(Ew x a q).pages=x.pages/\(Ew x a q).start=x.start/\(Ew x a q).len=x.len/\(Ew x a q).head=a/\(Ew x a q).seq=q:=⟨Z,Z,Z,Z,Z,Z,Z⟩
theorem Sup.ok_mk{s:Sup}{n:Int}(i:0<=s.gen/\s.gen<=1099511627776)(d:0<=s.epoch/\s.epoch<=1099511627776)(g:16<=s.pages/\s.pages<=1024)(h:2+s.pages<=s.start/\s.start<=1099511627776)(e:64<=s.len/\s.len<=1099511627776)(b:0<=s.head/\s.head<s.len)(f:0<=s.seq/\s.seq<=1099511627776)(c:s.start<=n-s.len/\s.len<=n):s.Ok n:=by
 refine ⟨λy a=>?_,by omega,by omega,by omega,by omega,by omega,by omega,by omega⟩;simp only[Sup.list,Acb,List.not_mem_nil,or_false] at a;omega
theorem Ih(ps pd pt md:Nat)(x:Sup)(j k:Value)(g:Bool)(f:A0)(hq:Hp)(y:Sup)(D:Dsk)(o:∀n,(f n).isSome=true->n<1024)(m:∀n,(f n).isSome=true->2+n<D.n)(b:y.Ok (D.n:Int))(d:∀i,(D.ver i).length<=1000000000000):
  Aj 76 [V ps,.agg #[Aa y.gen,Aa y.epoch,Aa y.pages,Aa y.start,Aa y.len,Aa y.head,Aa y.seq]] [stB ps pd pt x j md g k,tblA pt,diskA pd D,pgsA md f hq,poolA hq] (λv G=>(∃a:List Int,EN f a/\v=Aa 0/\G=[stB ps pd pt y j md g k,tblA pt,diskA pd (EV (hwD D (pgLst f a)).fl y),pgsA md CD hq,poolA hq])\/(∃(a:List Int) (c:Int) (h:Dsk),EN f a/\c≠0/\KE D (pgLst f a) c h/\v=Aa c/\G=[stB ps pd pt x j md g k,tblA pt,diskA pd h,pgsA md f hq,poolA hq])):=by
 refine Cn.mono (TV ps pd pt md x j k g f hq y D o m b d) ?_;rintro v Γ ⟨a,e,⟨p,l⟩|⟨c,h,p,l,q,r⟩⟩
 ·exact .inl ⟨a,e,p,l⟩
 exact .inr ⟨a,c,h,e,p,l,q,r⟩
theorem Rz{D a:Dsk}{l:List (Nat×Pg)}{c:Int}(h:KE D l c a):a.n=D.n:=by
 rcases h with ⟨j,_,_,rfl⟩|⟨_,_,rfl⟩|⟨_,_,rfl⟩
 ·exact EL _ _
 ·exact EL _ _
 exact EL _ _
theorem MO{D b:Dsk}{l:List (Nat×Pg)}{c:Int}(a:(l.map Prod.fst).Nodup)(h:KE D l c b)(i:Nat):(b.ver i).length<=(D.ver i).length+1:=by
 rcases h with ⟨j,_,_,rfl⟩|⟨_,_,rfl⟩|⟨_,_,rfl⟩
 ·exact Mu _ D i (a.sublist ((List.take_sublist _ _).map _))
 ·exact Mu _ D i a
 show ([]:List (List UInt8)).length<=_;simp
theorem G5{D:Dsk}(h:∀i,D.ver i=[])(x:Sup)(i:Nat):(EV D x).ver i=[]:=by
 by_cases e:i=(x.gen%2).toNat
 ·rw[e];exact (GV D x).2
 rw[(Eu D x i e).2];exact h i
theorem MP{b:Bool}{l u:Int}(h:(0:Int)<(if b then 0 else l-u)):b=false/\u<l:=by
 cases b with
 | true=>rw[if_pos Z] at h;omega
 | false=>rw[if_neg (by decide)] at h;exact ⟨Z,by omega⟩
theorem PgsIn.nil_iff{f:A0}{es:List PgE}{clk:Nat}{hq:Hp}(h:PgsIn f es clk hq):es.length=0↔∀n,f n=Option.none:=by
 constructor
 ·intro e n
  obtain rfl:=Adl.1 e
  cases a:f n with
  | none=>rfl
  | some p=>obtain ⟨e,b,_⟩:=h.all n p a;cases b
 intro a
 cases es with
 | nil=>rfl
 | cons e es=>
  have:=(h.ent e O).1;rw[a] at this;cases this
set_option maxHeartbeats 2000000 in
theorem MQ (ps pd pt pl md:Nat) (x sL:Sup) (mo:Value) (un nu:Bool) (hq:Hp) (D:Dsk) (B:Nat->Pg) (rs:List Rc) (ptl:List (List UInt8)) (a q u:Int) (b:Bool) (sure:Nat) (o:SInv D x B rs ptl a q u b sure) (hL:sL.start=x.start/\sL.len=x.len/\sL.epoch=x.epoch) (b6:q<=1099511627776) (a7:∀i,(D.ver i).length<=1000000000000):Aj 168 [V ps] [stB ps pd pt x (V pl) md un mo,lgB pl pd pt sL a q u b nu,tblA pt,diskA pd D,pgsA md (ov rs) hq,poolA hq] (λv G=>((∀n,ov rs n=none)/\b=false/\u<x.len/\v=Aa 0/\G=[stB ps pd pt x (V pl) md un mo,lgB pl pd pt sL a q u b nu,tblA pt,diskA pd D,pgsA md (ov rs) hq,poolA hq])\/(∃r:Dsk,¬((∀n,ov rs n=none)/\b=false/\u<x.len)/\SInv r (Ew x a q) (pgMap (ov rs) B) [] [] a q 0 false 0/\(Clean D->Clean r)/\r.n=D.n/\(∀i,r.ver i=[])/\v=Aa 0/\G=[stB ps pd pt (Ew x a q) (V pl) md un mo,lgB pl pd pt sL a q 0 false nu,tblA pt,diskA pd r,pgsA md CD hq,poolA hq])\/(∃(c:Int) (r:Dsk) (a0:Nat),c≠0/\(¬Clean D\/1099511627776<x.gen+1)/\(SInv r x B rs ptl a q u b a0/\sure<=a0)/\r.n=D.n/\(∀i,(r.ver i).length<=(D.ver i).length+1)/\v=Aa c/\G=[stB ps pd pt x (V pl) md un mo,lgB pl pd pt sL a q u b nu,tblA pt,diskA pd r,pgsA md (ov rs) hq,poolA hq])):=by
 intro z R w H;replace H:=H.l6;have a3:=o.ok;have b3:=Sup.get a3;have b8:=a3.2;have hP:=o.p;have b4:=hP.at_ok o.s;have b0:=hP.ul;have b9:=hP.fu;have a6:=o.gen;have a5:=hP.fq;have c1:0<=q:=by split at a5<;>omega
 have a1:∀n,(ov rs n).isSome=true->n<1024:=λn h=>by have:=o.ovb h;omega
 have a2:∀n,(ov rs n).isSome=true->2+n<D.n:=λn h=>by have:=o.ovb h;omega
 have b5:=PN x a q;obtain ⟨es,clk,d,H⟩:=H.pgs 4 Z;replace H:=H.l6;refine Ac func168 Z ntmps168 Z (Z2 12 [10,0,0] H Z (Ad Z (ME (e:=40) Z J Z (AB (H.bk 4 Z))) (Z0 2 [0] Z (Ak 12 Z (λh1=>?_) (λh1=>?_)))))
 ·refine Z2 4 [9,0,0] H Z (Ai Z (call209 _) (Rt _ _ _ _ _ _ _ _ _ U) H.f1 ?_);intro w H;refine Z0 4 [0] Z (Ag Z (λh2=>?_) (λh2=>?_))
  ·refine Zc 6 Z (Zr Z ?_);replace H:=(H.toPgs 4 Z d).l6
   have a4:=d.nil_iff.1 (by simpa using h1);exact ⟨_,.inl ⟨a4,(MP h2).1,by have:=(MP h2).2;omega,Z,Z⟩,H.perm 6 [1,0,2,3,4,5] Z Z⟩
  refine Za 8 [2,1,7] H Z ?_;intro b1 w H;refine Z5 18 [0,0,0,0,0,0,9,2,0] [x.gen+1] H Z U ?_;intro w H;refine Ai Z (call210 _) (Ru _ _ _ _ _ _ _ _ _) H.f1 ?_;intro w H;refine Z4 17 [5,1,6,1,0,1,0,0] H Z ?_;intro w H;refine Ag Z (λh3=>?_) (λh3=>?_)
  ·refine Zc 6 Z (Zr Z ?_);replace H:=(H.toPgs 5 Z d).l7
   exact ⟨_,.inr (.inr ⟨_,D,sure,by decide,.inr U,⟨o,Ab9 _⟩,Z,λi=>by omega,Z,Z⟩),H.perm 7 [2,0,3,4,5,6] Z Z⟩
  refine Zc 4 Z ?_;have l:(Ew x a q).Ok (D.n:Int):=Sup.ok_mk U U U U U U U U;refine Z2 5 [0,2,0] H Z (AA Z (call70 _) (G0 _ _) H.f4 ?_);rintro _ w _ (⟨m,rfl,rfl⟩|⟨m,rfl,rfl⟩) t
  ·have H:=t.l7;refine Z0 17 [3] Z (Zr Z ?_);replace H:=(H.toPgs 5 Z d).l7
   exact ⟨_,.inr (.inr ⟨_,_,sure,by decide,.inl (λy=>y.flb m),⟨SInv.f (D':= {D with f3:=AZ D.f3}) o Z Z Z,Ab9 _⟩,Z,λi=>by show (D.ver i).length<=_;omega,Z,Z⟩),H.perm 7 [3,1,4,0,5,6] Z Z⟩
  have H:=t.l7;refine Z0 14 [4] Z ?_;replace H:=(H.toPgs 5 Z d).l7;refine Z2 3 [2,7] H Z (AA Z (call76 _) (Ih _ _ _ _ _ _ _ _ (ov rs) _ (Ew x a q) D.fl a1 a2 l (λi=>by show ([]:List (List UInt8)).length<=_;simp)) H.f6.f6.f2.f6.f6 ?_);rintro _ w _ (⟨ks,j,rfl,rfl⟩|⟨ks,c,r,j,k,g,rfl,rfl⟩) t
  ·have H:=t.l7;refine Z2 18 [4,9,0,0] H Z (Ai Z (call211 _) (Rv _ _ _ _ _ _ _ _ _) H.f5 ?_);intro w H;refine Zc 8 Z (Zr Z ?_);exact ⟨_,.inr (.inl ⟨_,(λe=>by first|exact h1 (by have:=d.nil_iff.2 e.1;simpa using this)|exact h2 (by rw[e.2.1];simp;omega)),o.flush.settled j U l Z Z Z Z Z Z Z,λy=>((y.fl.hw _).fl).sv _,by show (hwD _ _).n=_;exact EL _ _,G5 (λ_=>rfl) _,Z,Z⟩),H.perm 7 [1,0,2,3,4,5] Z Z⟩
  have H:=t.l7;refine Z0 9 [0] Z (Ag Z (λh4=>?_) (λh4=>?_))
  ·refine Zc 7 Z (Zr Z ?_);exact ⟨_,.inr (.inr ⟨_,r,rs.length,k,.inl (λy=>y.fl.setF g),⟨o.flush.setF j g,hP.sure⟩,Rz (D:=D.fl) g,λi=>by have:=MO (Ev j) g i;have h0:(D.fl.ver i).length=0:=rfl;omega,Z,Z⟩),H.perm 7 [0,5,1,2,3,4] Z Z⟩
  exact absurd k h4
 refine Za 18 [2,0,7] H Z ?_;intro b2 w H;refine Z5 18 [0,0,0,0,0,0,9,1,0] [x.gen+1] H Z U ?_;intro w H;refine Ai Z (call210 _) (Ru _ _ _ _ _ _ _ _ _) H.f2 ?_;intro w H;refine Z4 17 [5,1,6,1,0,1,0,0] H Z ?_;intro w H;refine Ag Z (λh5=>?_) (λh5=>?_)
 ·refine Zc 6 Z (Zr Z ?_);replace H:=(H.toPgs 5 Z d).l7
  exact ⟨_,.inr (.inr ⟨_,D,sure,by decide,.inr U,⟨o,Ab9 _⟩,Z,λi=>by omega,Z,Z⟩),H.perm 7 [2,0,3,4,5,6] Z Z⟩
 refine Zc 4 Z ?_;have l:(Ew x a q).Ok (D.n:Int):=Sup.ok_mk U U U U U U U U;refine Z2 5 [0,2,0] H Z (AA Z (call70 _) (G0 _ _) H.f4 ?_);rintro _ w _ (⟨m,rfl,rfl⟩|⟨m,rfl,rfl⟩) t
 ·have H:=t.l7;refine Z0 17 [3] Z (Zr Z ?_);replace H:=(H.toPgs 5 Z d).l7
  exact ⟨_,.inr (.inr ⟨_,_,sure,by decide,.inl (λy=>y.flb m),⟨SInv.f (D':= {D with f3:=AZ D.f3}) o Z Z Z,Ab9 _⟩,Z,λi=>by show (D.ver i).length<=_;omega,Z,Z⟩),H.perm 7 [3,1,4,0,5,6] Z Z⟩
 have H:=t.l7;refine Z0 14 [4] Z ?_;replace H:=(H.toPgs 5 Z d).l7;refine Z2 3 [2,7] H Z (AA Z (call76 _) (Ih _ _ _ _ _ _ _ _ (ov rs) _ (Ew x a q) D.fl a1 a2 l (λi=>by show ([]:List (List UInt8)).length<=_;simp)) H.f6.f6.f2.f6.f6 ?_);rintro _ w _ (⟨ks,j,rfl,rfl⟩|⟨ks,c,r,j,k,g,rfl,rfl⟩) t
 ·have H:=t.l7;refine Z2 18 [4,9,0,0] H Z (Ai Z (call211 _) (Rv _ _ _ _ _ _ _ _ _) H.f5 ?_);intro w H;refine Zc 8 Z (Zr Z ?_);exact ⟨_,.inr (.inl ⟨_,(λe=>by first|exact h1 (by have:=d.nil_iff.2 e.1;simpa using this)|exact h2 (by rw[e.2.1];simp;omega)),o.flush.settled j U l Z Z Z Z Z Z Z,λy=>((y.fl.hw _).fl).sv _,by show (hwD _ _).n=_;exact EL _ _,G5 (λ_=>rfl) _,Z,Z⟩),H.perm 7 [1,0,2,3,4,5] Z Z⟩
 have H:=t.l7;refine Z0 9 [0] Z (Ag Z (λh6=>?_) (λh6=>?_))
 ·refine Zc 7 Z (Zr Z ?_);exact ⟨_,.inr (.inr ⟨_,r,rs.length,k,.inl (λy=>y.fl.setF g),⟨o.flush.setF j g,hP.sure⟩,Rz (D:=D.fl) g,λi=>by have:=MO (Ev j) g i;have h0:(D.fl.ver i).length=0:=rfl;omega,Z,Z⟩),H.perm 7 [0,5,1,2,3,4] Z Z⟩
 exact absurd k h6
def Ca(g:A0)(ks:List Int):List Img:=ks.map λk=>⟨k,((g k.toNat).getD C5).kind,((g k.toNat).getD C5).body⟩
theorem PO(g:A0)(a:List Int):(Ca g a).length=a.length:=by simp[Ca]
theorem NW{g:A0}{a:List Int}{j n:Nat}{p:Pg}(b:a[j]?=some (n:Int))(c:g n=some p):(Ca g a).take j++[(⟨(n:Int),p.kind,p.body⟩:Img)]=(Ca g a).take (j+1):=by
 rw[AbZ];congr 1;unfold Ca;rw[AbY,b];simp[c]
theorem PgsIn.okp{f:A0}{es:List PgE}{clk:Nat}{hq:Hp}(h:PgsIn f es clk hq){n:Nat}{p:Pg}(hp:f n=some p):p.Ok:=by
 obtain ⟨e,d,c⟩:=h.all n p hp;obtain ⟨a,b,_⟩:=h.ent e d;rw[c,hp] at a;cases a;exact b
theorem Lq{g:A0}{b:List Int}(h:EN g b)(l:∀n p,g n=some p->p.Ok)(f:∀n,(g n).isSome=true->n<1024):Ee (Ca g b):=by
 have a:∀k∈b,∃p,g k.toNat=some p/\0<=k/\k<1024:=λk c=>by
  obtain ⟨e,d⟩:=(h.2 k).1 c;obtain ⟨p,hp⟩:=Acp.1 d;have:=f _ d;exact ⟨p,hp,e,by omega⟩
 refine ⟨λm i=>?_,?_⟩
 ·obtain ⟨k,c,rfl⟩:=AbP.1 i
  obtain ⟨p,hp,e,d⟩:=a k c;have:=l _ p hp;simp only[hp,AeG];exact ⟨⟨e,by dsimp only;omega⟩,this.1,this.2⟩
 unfold Ca;rw[Ac7];refine AcR.2 (h.1.imp λj=>?_);simp only[AdR];omega
theorem PP{g:A0}{a:List Int}{b:Int}(h:EN g a)(d:∀n,(g n).isSome=true->(n:Int)<b):∀m∈Ca g a,m.num<b:=λm f=>by
 obtain ⟨k,c,rfl⟩:=AbP.1 f;obtain ⟨i,e⟩:=(h.2 k).1 c;have:=d _ e;dsimp only;omega
theorem RA{c:Int}{ims:List Img}{a:Prop}(h:V8 c ims a)(d:1<=ims.length/\ims.length<=40)(b:Ee ims):c=15/\¬a:=by
 rcases h with ⟨_,h⟩|⟨_,_,rfl|h⟩|⟨rfl,_,_,h⟩
 ·omega
 ·simp at d
 ·exact absurd b h
 exact ⟨Z,h⟩
theorem Xm(ims:List Img):∀(f:A0) (n:Nat),(ims.map Img.num).Nodup->(∀m∈ims,0<=m.num)->Ek f ims n=((ims.find? λm=>decide (m.num=(n:Int))).map DB).or (f n):=by
 induction ims with
 | nil=>intro f n _ _;rfl
 | cons m ims ih=>
  intro f n a hp;simp only[Aca,AcZ] at a;have:Ek f (m::ims)=Ek (pgSet f m.num.toNat (DB m)) ims:=rfl;rw[this,ih _ _ a.2 (λd h=>hp d (by simp[h])),List.find?_cons];have g:=hp m O;by_cases e:m.num=(n:Int)
  ·have b:(ims.find? λm=>decide (m.num=(n:Int)))=none:=by
    rw[Aen];intro d c i;exact a.1 (AbP.2 ⟨d,c,by simp at i;omega⟩)
   rw[b];simp[e,pgSet]
  have:¬n=m.num.toNat:=by omega
  simp[e,pgSet,this]
theorem PQ{f g:A0}{a:List Int}(h:EN g a)(i:Ee (Ca g a)):Ek f (Ca g a)=GM f g:=by
 funext n;rw[Xm _ _ _ i.2 (λm d=>(i.1 m d).1.1)];unfold GM;congr 1
 cases hg:g n with
 | some p=>
  have l:(n:Int)∈a:=(h.2 _).2 ⟨by omega,by rw[Acg,hg];rfl⟩
  cases b:(Ca g a).find? λm=>decide (m.num=(n:Int)) with
  | none=>
   rw[Aen] at b;exact absurd O (b _ (AbP.2 ⟨(n:Int),l,Z⟩))
  | some m=>
   have j:=List.find?_some b;obtain ⟨k,c,rfl⟩:=AbP.1 (List.mem_of_find?_eq_some b);simp only[decide_eq_true_eq] at j;subst j;simp[hg,DB]
 | none=>
  have b:((Ca g a).find? λm=>decide (m.num=(n:Int)))=none:=by
   rw[Aen];intro m d e;obtain ⟨k,c,rfl⟩:=AbP.1 d;simp only[decide_eq_true_eq] at e;subst e;have:=((h.2 _).1 c).2;rw[Acg,hg] at this;cases this
  rw[b];rfl
theorem Xn{rs:List Rc}(h:∀n,ov rs n=none)(b:∀(j:Nat) (r:Rc),rs[j]?=some r->1<=r.ims.length):rs=[]:=by
 cases rs with
 | nil=>rfl
 | cons r rs=>
  exfalso;have d:=b 0 r Z;have c:(ov [r] ((r.ims[0]'U).num.toNat)).isSome=true:=by
   show (Ek CD r.ims _).isSome=true;rw[Or];simp only[CD,Option.isSome_none,Bool.false_or,AeA];exact ⟨r.ims[0]'U,Ac1 _,by simp⟩
  have a:=FR rs [r] c;rw[show [r]++rs=r::rs from Z,h] at a;cases a
set_option maxHeartbeats 4000000 in
theorem RB (ps pd pt pl md mo:Nat) (x sL:Sup) (un nu:Bool) (hq:Hp) (g:A0) (k:Nat) (D:Dsk) (B:Nat->Pg) (rs:List Rc) (ptl:List (List UInt8)) (a q u:Int) (b:Bool) (sure:Nat) (hS:SInv D x B rs ptl a q u b sure) (hL:sL.start=x.start/\sL.len=x.len/\sL.epoch=x.epoch) (c9:sL.Ok (D.n:Int)) (d7:nu=decide (sL.epoch<4294967296)) (j5:q<1099511627775) (c6:∀i,(D.ver i).length<=1000000000000) (e7:∀n,(g n).isSome=true->(n:Int)<x.pages) (hk:1<=k/\k<=40):Aj 104 [V ps] [stB ps pd pt x (V pl) md un (.map (some mo)),lgB pl pd pt sL a q u b nu,tblA pt,diskA pd D,pgsA md (ov rs) hq,DN mo g k hq,poolA hq] (λv G=>(∃(o:List Int) (l:Hp) (D2:Dsk) (x2:Sup) (B2:Nat->Pg) (d8:List Rc) (a2 u2:Int) (t:Nat),EN g o/\BA hq l/\SInv D2 x2 B2 (d8++[⟨q,Ca g o⟩]) [] a2 (q+1) u2 false t/\pgMap (ov d8) B2=pgMap (ov rs) B/\(x2=x\/x2=Ew x a q)/\(Clean D->Clean D2)/\(D2.n=D.n/\∀i,(D2.ver i).length<=(D.ver i).length+2)/\v=Aa 0/\G=[stB ps pd pt x2 (V pl) md un (.map (some mo)),lgB pl pd pt sL a2 (q+1) u2 false nu,tblA pt,diskA pd D2,pgsA md (ov d8) l,DN mo g k l,poolA l])\/(∃(c:Int) (l:Hp) (D2:Dsk) (x2:Sup) (B2:Nat->Pg) (d2:List Rc) (a4:List (List UInt8)) (a2 q2 u2:Int) (b2:Bool) (t:Nat),c≠0/\(¬Clean D\/1099511627776<x.gen+1)/\BA hq l/\SInv D2 x2 B2 d2 a4 a2 q2 u2 b2 t/\pgMap (ov d2) B2=pgMap (ov rs) B/\(x2=x\/x2=Ew x a q)/\(D2.n=D.n/\∀i,(D2.ver i).length<=(D.ver i).length+2)/\(q<=q2/\q2<=q+1)/\v=Aa c/\G=[stB ps pd pt x2 (V pl) md un (.map (some mo)),lgB pl pd pt sL a2 q2 u2 b2 nu,tblA pt,diskA pd D2,pgsA md (ov d2) l,DN mo g k l,poolA l])):=by
 intro z R w H;replace H:=H.l7;have e5:=hS.ok;have i9:=Sup.get e5;have j6:=e5.2;have hP:=hS.p;have j4:=hP.ul;have g7:=hP.fu;have h8:=hP.fq;have e3:0<=q:=by split at h8<;>omega
 have h9:∀n,(ov rs n).isSome=true->n<1024:=λn h=>by have:=hS.ovb h;omega
 have i3:∀n,(ov rs n).isSome=true->2+n<D.n:=λn h=>by have:=hS.ovb h;omega
 have i8:=H.sy 3 (λq=>(diskA.ok q).n2);have g4:=PN x a q;obtain ⟨a5,a8,m,a0,H⟩:=H.pgsc 5 Z;replace H:=H.l7;have g5:a5.length<=1099511627776:=by omega
 refine Ac func104 Z ntmps104 Z (Z2 17 [12,0,0] H Z (AA Z (call166 _) (OC _) H ?_));rintro _ w _ ⟨bb,rfl,rfl⟩ H;replace H:=H.l8;have g2:∀h:IE->Nat,(a5.map PgE.ie).map h=a5.map λe=>h e.ie:=λh=>by simp
 refine AA Z (call125 _) (Lo _ _ _ _ (λp hp=>by obtain ⟨e,he,rfl⟩:=AbP.1 hp;exact m.clk e he) (by rw[g2];exact m.born) (by simp;exact g5)) H.f6.f1 ?_;rintro v2 w _ ⟨s,hs,rfl⟩ H;replace H:=H.l9;have a9:EN g ((s.map λp:IE=>p.1).mergeSort (λx y=>decide (x<=y))):=m.keys hs;have h0:((s.map λp:IE=>p.1).mergeSort (λx y=>decide (x<=y))).length=k:=by simp[hs.length_eq,a0]
 obtain ⟨o,e1⟩:∃o:List Int,((s.map λp:IE=>p.1).mergeSort (λx y=>decide (x<=y)))=o:=⟨_,Z⟩;rw[e1] at H a9 h0;clear e1 hs;have H:Sep z (grow 3 1 v2 o.length (o.map Aa)::blk bb [.map (some mo)] 95::AE mo (a5.map PgE.ie) a8::stB ps pd pt x (V pl) md un (.map (some mo))::lgB pl pd pt sL a q u b nu::tblA pt::diskA pd D::pgsA md (ov rs) hq::poolA hq::R) w:=H;have e2:=H.sy 0 (·.slc);obtain ⟨b8,c3,rfl⟩:=e2;have H:Sep z (grow 3 1 (.slice b8 o.length c3) o.length (o.map Aa)::blk bb [.map (some mo)] 95::AE mo (a5.map PgE.ie) a8::stB ps pd pt x (V pl) md un (.map (some mo))::lgB pl pd pt sL a q u b nu::tblA pt::diskA pd D::pgsA md (ov rs) hq::poolA hq::R) w:=H;replace H:=(H.nilg 118 3).l10;have g1:=PO g o;have g0:∀n p,g n=some p->p.Ok:=λn p h=>m.okp h;have e0:∀n,(g n).isSome=true->n<1024:=λn h=>by have:=e7 n h;omega
 have c1:Ee (Ca g o):=Lq a9 g0 e0;have b3:=PP a9 e7;have e4:1<=(Ca g o).length/\(Ca g o).length<=40:=by omega
 refine Zc 5 Z ?_;refine Ay (σ:=Nat×Value×List ImE) (λ⟨j,v1,ie⟩=>[(15,Aa (j:Int)),(3,v1),(0,V ps),(2,Aa 0),(13,.slice b8 o.length c3),(14,Aa (o.length:Int))])
   (λ⟨j,v1,ie⟩ w=>Sep z (grow 118 3 v1 j (Bq ie)::grow 3 1 (.slice b8 o.length c3) o.length (o.map Aa)::blk bb [.map (some mo)] 95::AE mo (a5.map PgE.ie) a8::stB ps pd pt x (V pl) md un (.map (some mo))::lgB pl pd pt sL a q u b nu::tblA pt::diskA pd D::pgsA md (ov rs) hq::poolA hq::R) w/\(j<=o.length/\ie.map Prod.fst=(Ca g o).take j/\imesOk ie hq)) (λ⟨j,v1,ie⟩=>o.length-j) ⟨0,.slice none 0 0,[]⟩
   (λ_ hF=>(hF.co Z (by go_num) hF.cz)) ⟨H,by omega,Z,λe he=>absurd he O⟩ ?_
 clear H;rintro ⟨j,v1,ie⟩ w ⟨H',hI⟩;dsimp only at hI H' ⊢;have H:=H'.l10;have j2:=H.sy 0 (·.slc);obtain ⟨j9,d0,c4⟩:=hI;refine Z0 6 [0] Z (Ag Z (λh1=>?_) (λh1=>?_))
 ·have i5:j<o.length:=by omega
  refine Zc 6 Z ?_;obtain ⟨x,hx⟩:∃x,o[j]?=some x:=⟨_,AbF U⟩;obtain ⟨j7,d6⟩:=(a9.2 x).1 (AbG hx);obtain ⟨n,rfl⟩:∃n:Nat,x=(n:Int):=⟨x.toNat,by omega⟩;rw[Acg] at d6;obtain ⟨p,pv,h4,e6,e8,h5⟩:∃(p:Pg) (v:Value),g n=some p/\p.Ok/\rdH 1 v 240 (p.body.map u8) hq/\Cw (a5.map PgE.ie) (n:Int)=some (.agg #[Aa p.kind,v]):=by
    rcases m.get n with ⟨q,_⟩|q
    · rw[q] at d6;cases d6
    · exact q
  have g6:Slc pv 240:=e8.slc;have c7:=(H.rv 1 (·.rd)).at (j:=j) (u:=Aa (n:Int)) (by simp[hx]);refine Ad Z (Az Z (z:=1) (j:=j) (r:=j) J Z Z Z U c7 U) (Ad Z (AM Z Z J (AB c7)) (Z2 11 [12,4,0] H Z (Ad Z (Fo (e:=40) (zv:=.agg #[Aa 0,.slice none 0 0]) Z J J Z Z (AB (H.bk 3 Z))) (k_updA 26 (v:=.agg #[Aa p.kind,pv]) Z (by rw[h5];rfl) (Ad Z (AX Z Z (out:=[Aa (n:Int),Aa p.kind,pv]) J) (AG Z (AL H Z J A5 Z (by decide) (by decide) (out:=[Aa (n:Int),Aa p.kind,pv]) J) ?_))))));rintro _ w ⟨b1,rfl,H⟩;replace H:=H.l11;refine AG Z (AO 1 H Z Z J A5 Z Z (H.rv 0 (·.rd U U O Z)) (Aq Z (Aq Z (Aq g6.one AN))) U) ?_;rintro v2 w H';have H':Sep z (blk b1 [Aa (n:Int),Aa p.kind,pv] 118::grow 118 3 v2 (j+1) (Bq ie++[Aa (n:Int),Aa p.kind,pv])::grow 3 1 (.slice b8 o.length c3) o.length (o.map Aa)::blk bb [.map (some mo)] 95::AE mo (a5.map PgE.ie) a8::stB ps pd pt x (V pl) md un (.map (some mo))::lgB pl pd pt sL a q u b nu::tblA pt::diskA pd D::pgsA md (ov rs) hq::poolA hq::R) w:=H';have g8:(Bq ie++[Aa (n:Int),Aa p.kind,pv]:List Value)=Bq (ie++[(⟨(n:Int),p.kind,p.body⟩,pv)]):=Jf ie (⟨(n:Int),p.kind,p.body⟩,pv);rw[g8] at H';have H:=H'.l11;refine Z1 8 [] [(j:Int)+1] Z U ?_;replace H:=H.d;refine gf ?_;intro _ hF;refine ⟨⟨j+1,v2,ie++[(⟨(n:Int),p.kind,p.body⟩,pv)]⟩,hF.cz,⟨H,?_⟩,?_⟩
  ·dsimp only
   refine ⟨by omega,by rw[Ab7,d0,<-NW hx h4];rfl,λe he=>?_⟩;rcases Acd.1 he with q|q
   ·exact c4 e q
   rw[Acu.1 q];show rdH 1 pv p.body.length _ _;rw[e6.2];exact e8
  (dsimp only;omega)
 obtain rfl:j=o.length:=by omega
 refine Zc 2 Z (gx (Zc 3 Z ?_));replace H:=H.f9;obtain ⟨l,⟨f,f2⟩,H⟩:=BG H (λh q=>q.rd);replace H:=H.l9;have d5:ie.map Prod.fst=Ca g o:=by rw[d0];exact AbJ U
 have f0:imgsH v1 (Ca g o) l:=⟨ie,d5,by rw[g1];exact f2,c4.le f⟩;replace H:=(H.mono 8 (B:=pgsA md (ov rs) l) Z (pgsA.le f)).l9;have c8:nu=true:=by rw[d7];have:=hS.s.epoch;simp;omega
 refine Z2 6 [9,4,0] H Z (AA Z (call167 _) (Lp _ _ _ sL x _ _ (Ca g o) _ (λh q=>f0.le q) D hS b3 hL.1 hL.2.1 hL.2.2 c9 d7 ⟨e3,by omega⟩ c6) H.f7.f7.f7 ?_);rintro _ w _ (⟨Da,a3,q3,u3,g3,h6,a6,b6,b0,b7,d9,d3,rfl,rfl⟩|⟨cq,a7,hv,rfl⟩|⟨Df,a4,b5,a6,b9,rfl,rfl⟩) H'
 ·have H:=H'.l9;subst d9;subst d3;refine Z0 18 [3] Z (Zr Z ?_);replace H:=(H.toPgsc 6 Z (m.le f) a0).l9
  subst b6;exact ⟨_,.inl ⟨o,l,Da,x,B,rs,a3,_,sure,a9,f,a6,Z,.inl Z,b0,b7,Z,Z⟩,H.perm 9 [7,0,1,2,8,6,3] Z Z⟩
 ·have H:=H'.l9;obtain ⟨e9,h7⟩:=RA a7 e4 c1;subst e9;subst hv;refine Z0 16 [4] Z (AA Z (call168 _) (MQ _ _ _ _ _ _ _ _ _ _ _ _ _ _ _ _ _ _ _ _ hS hL U c6) H.f3.f8.f4.f4.f4.f8 ?_);rintro _ w _ (⟨g9,b6,i0,rfl,rfl⟩|⟨D2,i6,c0,c2,a1,d4,rfl,rfl⟩|⟨j0,D2,t,b4,c5,⟨c0,i4⟩,a1,d1,rfl,rfl⟩) H'
  ·(obtain rfl:=Xn g9 (λj r h=>(hP.recs j r h).2.1.1);exact absurd ⟨by rw[b6,if_neg (by decide)];have k0:u=0:=g7;omega,c8,by omega⟩ h7)
  ·have H:=H'.l9;refine Z2 23 [3,9,0,0] H Z (AA Z (call167 _) (Lp _ _ _ sL (Ew x a q) _ _ (Ca g o) _ (λh q=>f0.le q) D2 c0 b3 hL.1 hL.2.1 hL.2.2 (by rw[a1];exact c9) d7 ⟨e3,by omega⟩ (λi=>by rw[d4];simp)) H.f5.f4.f4.f4 ?_);rintro _ w _ (⟨Da,a3,q3,u3,g3,h6,a6,b6,b0,b7,d9,d3,rfl,rfl⟩|⟨cq,a7,hv,rfl⟩|⟨Df,a4,b5,a6,b9,rfl,rfl⟩) H'
   ·have H:=H'.l9;subst d9;subst d3;refine Zc 4 Z (Zr Z ?_);replace H:=(H.toPgsc 8 Z (m.le f) a0).l9
    exact ⟨_,.inl ⟨o,l,Da,_,_,[],a3,_,0,a9,f,a6,Z,.inr Z,λhc=>b0 (c2 hc),⟨b7.1.trans a1,λi=>by have h1:=b7.2 i;rw[d4] at h1;simp at h1;omega⟩,Z,Z⟩,H.perm 9 [4,0,1,2,5,8,3] Z Z⟩
   ·exact absurd ⟨by rw[if_neg (by decide)];have:=g4.2.2.2.2.1;omega,c8,by omega⟩ (RA a7 e4 c1).2
   have H:=H'.l9;refine Zc 4 Z (Zr Z ?_);replace H:=(H.toPgsc 8 Z (m.le f) a0).l9;exact ⟨_,.inr ⟨_,l,Df,_,_,[],a4,a,q+1,0,true,0,by decide,.inl (λhc=>b5 (c2 hc)),f,a6,Z,.inr Z,⟨b9.1.trans a1,λi=>by have h1:=b9.2 i;rw[d4] at h1;simp at h1;omega⟩,by omega,Z,Z⟩,H.perm 9 [4,0,1,2,5,8,3] Z Z⟩
  have H:=H'.l9;refine Z0 15 [0] Z (Ag Z (λh2=>?_) (λh2=>?_))
  ·exact absurd h2 b4
  refine Z0 6 [0] Z (Ag Z (λh3=>?_) (λh3=>?_))
  ·refine Zc 6 Z (Zr Z ?_);replace H:=(H.toPgsc 8 Z (m.le f) a0).l9
   exact ⟨_,.inr ⟨_,l,D2,x,B,rs,ptl,a,q,u,b,t,by first|decide|exact b4,c5,f,c0,rfl,.inl rfl,⟨a1,λi=>by have:=d1 i;omega⟩,by omega,Z,Z⟩,H.perm 9 [0,1,2,3,4,8,5] Z Z⟩
  refine Zc 7 Z (Zr Z ?_);replace H:=(H.toPgsc 8 Z (m.le f) a0).l9;exact ⟨_,.inr ⟨_,l,D2,x,B,rs,ptl,a,q,u,b,t,by first|decide|exact b4,c5,f,c0,rfl,.inl rfl,⟨a1,λi=>by have:=d1 i;omega⟩,by omega,Z,Z⟩,H.perm 9 [0,1,2,3,4,8,5] Z Z⟩
 have H:=H'.l9;refine Z0 18 [3] Z (Zr Z ?_);replace H:=(H.toPgsc 6 Z (m.le f) a0).l9;exact ⟨_,.inr ⟨_,l,Df,x,B,rs,a4,a,q+1,u,true,sure,by decide,.inl b5,f,a6,Z,.inl Z,b9,by omega,Z,Z⟩,H.perm 9 [7,0,1,2,8,6,3] Z Z⟩
def Ii(f g:A0)(S:List IE):A0:=λi=>if (i:Int)∈S.map (λp:IE=>p.1) then g i else f i
theorem T0(f g:A0):Ii f g []=f:=by funext i;simp[Ii]
theorem RC{f g:A0}{S:List IE}{n:Nat}{p:Pg}{q:IE}(hq:q.1=(n:Int))(a:g n=some p):Ii f g (S++[q])=pgSet (Ii f g S) n p:=by
 funext i;unfold Ii pgSet;simp only[Ab7,Aca,AcP,Acd,Acu,hq];by_cases h:i=n
 ·subst h;simp[a]
 have:¬((i:Int)=(n:Int)):=by omega
 simp only[this,or_false,h,if_false]
theorem T1{f g:A0}{es:List PgE}{clk:Nat}{hq:Hp}{S:List IE}(h:PgsIn g es clk hq)(m:B1 (es.map PgE.ie) (S.map λp:IE=>p.2.2)=[])(l:∀p∈S,p∈es.map PgE.ie):Ii f g S=GM f g:=by
 funext i;unfold Ii GM;by_cases hi:(i:Int)∈S.map (λp:IE=>p.1)
 ·rw[if_pos hi]
  obtain ⟨p,hp,e⟩:=AbP.1 hi;obtain ⟨b,a,rfl⟩:=AbP.1 (l p hp);have d:=(h.ent b a).1;have:b.n=i:=by have:(b.n:Int)=i:=e;omega
  rw[this] at d;rw[d];rfl
 rw[if_neg hi]
 cases hg:g i with
 | none=>rfl
 | some p=>
  exfalso;obtain ⟨b,a,s⟩:=h.all i p hg;have r:b.ie∈es.map PgE.ie:=Acz a;by_cases q:b.born∈S.map λp:IE=>p.2.2
  ·obtain ⟨p',c,o⟩:=AbP.1 q
   obtain ⟨v,k,rfl⟩:=AbP.1 (l p' c);obtain ⟨u,d⟩:=Ack a;obtain ⟨t,j⟩:=Ack k;have:=FJ h.born d j o.symm;subst this;rw[d] at j;cases j;exact hi (AbP.2 ⟨_,c,by show (b.n:Int)=i;omega⟩)
  have:b.ie∈B1 (es.map PgE.ie) (S.map λp:IE=>p.2.2):=by
   simp only[B1,Aei];exact ⟨r,by simpa [PgE.ie] using q⟩
  rw[m] at this;cases this
theorem Jn(f g:A0)(B:Nat->Pg):pgMap (GM f g) B=λi=>(g i).getD (pgMap f B i):=by
 funext i;unfold pgMap GM;cases g i<;>rfl
theorem Xo(md m:Nat)(f g:A0)(k:Nat)(hq:Hp):Aj 105 [.map (some md),.map (some m)] [pgsA md f hq,DN m g k hq] (λv G=>v=.tuple #[]/\G=[pgsA md (GM f g) hq,DN m g k hq]):=by
 intro z R w H;replace H:=H.l2;obtain ⟨es,clk,a7,H⟩:=H.pgs 0 Z;replace H:=H.l2;obtain ⟨c,a,b,a5,H⟩:=H.pgsc 1 Z;replace H:=H.l2;have a0:∀p∈c.map PgE.ie,p.2.2<a:=λp hp=>by obtain ⟨e,he,rfl⟩:=AbP.1 hp;exact b.clk e he
 have hn:((c.map PgE.ie).map λp:IE=>p.2.2).Nodup:=by rw[Ac7];exact b.born
 refine Ac func105 Z ntmps105 Z (Zc 3 Z (AG Z (GW 1 (e:=40) H Z Z J Z) ?_));rintro _ w ⟨rr,rfl,H⟩;replace H:=H.l3;refine Zc 3 Z ?_;refine Ay (σ:=List IE×List PgE×Nat) (λ⟨S,o,l⟩=>[(0,.map (some md)),(7,V rr)])
   (λ⟨S,o,l⟩ w=>Sep z (Gl rr m a (S.map λp:IE=>p.2.2)::AE md (o.map PgE.ie) l::AE m (c.map PgE.ie) a::R) w/\((∀p∈S,p∈c.map PgE.ie)/\PgsIn (Ii f g S) o l hq)) (λ⟨S,o,l⟩=>(B1 (c.map PgE.ie) (S.map λp:IE=>p.2.2)).length) ⟨[],es,clk⟩
   (λ_ hF=>(hF.all Z)) ⟨H,λp hp=>absurd hp O,by rw[T0];exact a7⟩ ?_
 clear H;rintro ⟨S,o,l⟩ w ⟨H',hI⟩;dsimp only at hI H' ⊢;have H:=H'.l3;obtain ⟨hS,a4⟩:=hI;refine Zc 2 Z (AG Z (Ie 0 2 H Z Z Z Z a0) ?_);rintro _ w ⟨qx,rfl,x,H⟩;replace H:=H.l3;refine Ad Z (J4 Z Z) (Zc 3 Z (DP Z (λh1=>?_) (λh1=>?_)))
 ·obtain ⟨p1,rfl⟩:=Acp.1 h1;refine Zc 5 Z ?_;obtain ⟨⟨j,i,h,u⟩,t,rfl⟩:=AbP.1 (CH x).1;obtain ⟨y,a3,s⟩:=b.ent _ t;dsimp only at y a3 s
  have a8:Slc h 240:=s.slc;obtain ⟨a1,a6,a2,_⟩:=a4.put (k:=j) (p:=i) (v:=h) a3 s;refine Ad Z (GX (p:=(PgE.ie ⟨j,i,h,u⟩)) Z Z (AB ⟨H.bk 0 Z,H.bk 2 Z⟩) (Acz t) hn) (Za 2 [] H Z ?_);intro b1 w H;refine Zc 1 Z (A9 Z Z (AD 0 H Z Z Z Z (vs:=[Aa i.kind,h]) Z (Aq Z (Aq a8.one AN)) J O (out:=[Aa i.kind,h]) Z) ?_);rintro w H;replace H:=H.l4;refine Z2 6 [0,2] H Z (A9 Z Z (Dn 2 (e:=40) H Z Z J Z Z Z) ?_);rintro w H;replace H:=H.l4;refine Zc 1 Z ?_;have H':=H;have H:Sep z (blk b1 [Aa i.kind,h] 40::Gl rr m a (I0 (S.map λp:IE=>p.2.2) (some (PgE.ie ⟨j,i,h,u⟩)))::AE md (EI (o.map PgE.ie) (j:Int) (.agg #[Aa i.kind,h]) l) (putC (o.map PgE.ie) (j:Int) l)::AE m (c.map PgE.ie) a::R) w:=H';clear H';rw[a6] at H;have H:Sep z (blk b1 [Aa i.kind,h] 40::Gl rr m a (I0 (S.map λp:IE=>p.2.2) (some (PgE.ie ⟨j,i,h,u⟩)))::AE md (a1.map PgE.ie) (putC (o.map PgE.ie) (j:Int) l)::AE m (c.map PgE.ie) a::R) w:=H;refine Zc 1 Z ?_;replace H:=H.d;refine gf ?_;intro _ hF;refine ⟨⟨S++[(PgE.ie ⟨j,i,h,u⟩)],a1,putC (o.map PgE.ie) (j:Int) l⟩,(hF.all Z),⟨(by dsimp only;rw[Ab7];exact H),?_⟩,?_⟩
  ·refine ⟨λp hp=>?_,?_⟩
   ·rcases Acd.1 hp with hp|hp
    ·exact hS p hp
    simp at hp;subst hp;exact Acz t
   dsimp only;rw[RC (n:=j) (p:=i) (q:=(PgE.ie ⟨j,i,h,u⟩)) Z y];exact a2
  (dsimp only;have:=Ef x;rwa[show (S++[(PgE.ie ⟨j,i,h,u⟩)]).map (λp:IE=>p.2.2)=(S.map λp:IE=>p.2.2)++[u] from by simp[PgE.ie]])
 obtain rfl:qx=none:=by simpa using h1
 refine Zc 2 Z (gx (Zc 1 Z (Zf Z ?_)));have r:=a4;rw[T1 b x hS] at r;replace H:=(H.toPgs 1 Z r).l3;replace H:=(H.toPgsc 2 Z b a5).l3;exact ⟨_,⟨Z,Z⟩,H.perm 3 [1,2] Z Z⟩
theorem KF(ps pd pt md:Nat)(x:Sup)(b d:Value)(c:Bool):V4 prog 63 [V ps] [stB ps pd pt x b md c d] (λv G=>v=.tuple #[]/\G=[stB ps pd pt x b md false (.map none)]):=by
 intro z R u w a;have H:=a.l1;refine MD func63 Z 8 ntmps63 Z (AI (Lb 4 [11] Z J (FC Z Z (Pp 0 H Z Z Z Z Z Z J) ?_)));rintro w a;have H:=a.l1;refine Lb 2 [12] Z J (FC Z Z (AaI 0 H Z Z Z Z Z Z J) ?_);rintro w a;have H:=a.l1;refine AP (YR Z ?_);exact ⟨[stB ps pd pt x b md false (.map none)],⟨Z,Z⟩,H⟩
set_option maxHeartbeats 4000000 in
theorem T3 (ps pd pt o md mo:Nat) (x r:Sup) (nu:Bool) (hq:Hp) (g:A0) (k:Nat) (D:Dsk) (B:Nat->Pg) (rs:List Rc) (ptl:List (List UInt8)) (a q u:Int) (b:Bool) (sure:Nat) (hS:SInv D x B rs ptl a q u b sure) (hL:r.start=x.start/\r.len=x.len/\r.epoch=x.epoch) (b5:r.Ok (D.n:Int)) (c2:nu=decide (r.epoch<4294967296)) (c3:q<1099511627775) (b7:∀i,(D.ver i).length<=1000000000000) (b1:∀n,(g n).isSome=true->(n:Int)<x.pages) (hk:k<=40):Aj 46 [V ps] [stB ps pd pt x (V o) md true (.map (some mo)),lgB o pd pt r a q u b nu,tblA pt,diskA pd D,pgsA md (ov rs) hq,DN mo g k hq,poolA hq] (λv G=>(k=0/\v=Aa 0/\G=[stB ps pd pt x (V o) md false (.map none),lgB o pd pt r a q u b nu,tblA pt,diskA pd D,pgsA md (ov rs) hq,poolA hq])\/(1<=k/\∃(d:Hp) (m:Dsk) (x2:Sup) (B2:Nat->Pg) (j:List Rc) (a2 s:Int) (f:Nat),BA hq d/\SInv m x2 B2 j [] a2 (q+1) s false f/\(pgMap (ov j) B2=pgMap (GM (ov rs) g) B/\∀n,(g n).isSome=true->(ov j n).isSome=true)/\(x2=x\/x2=Ew x a q)/\(Clean D->Clean m)/\(m.n=D.n/\∀i,(m.ver i).length<=(D.ver i).length+2)/\v=Aa 0/\G=[stB ps pd pt x2 (V o) md false (.map none),lgB o pd pt r a2 (q+1) s false nu,tblA pt,diskA pd m,pgsA md (ov j) d,poolA d])\/(1<=k/\∃(c:Int) (d:Hp) (m:Dsk) (x2:Sup) (B2:Nat->Pg) (j:List Rc) (y:List (List UInt8)) (a2 q2 s:Int) (b2:Bool) (f:Nat),c≠0/\(¬Clean D\/1099511627776<x.gen+1)/\BA hq d/\SInv m x2 B2 j y a2 q2 s b2 f/\pgMap (ov j) B2=pgMap (ov rs) B/\(x2=x\/x2=Ew x a q)/\(m.n=D.n/\∀i,(m.ver i).length<=(D.ver i).length+2)/\(q<=q2/\q2<=q+1)/\v=Aa c/\G=[stB ps pd pt x2 (V o) md false (.map none),lgB o pd pt r a2 q2 s b2 nu,tblA pt,diskA pd m,pgsA md (ov j) d,poolA d])):=by
 intro z R w l;have H:=l.l7;have c8:=hS.ok.2;have b0:∀n,(g n).isSome=true->n<1024:=λn h=>by have:=b1 n h;omega
 obtain ⟨c5,c7,a1,a4,l⟩:=H.pgsc 5 Z;clear H;have H:=l.l7;have b8:∀n p,g n=some p->p.Ok:=λn p h=>a1.okp h;have c9:(c5.map PgE.ie).length=k:=by simp[a4]
 refine Rk func46 Z 30 ntmps46 Z (AV (AI (BQ 1 Z Z (AP (AV (AV (AI (Gk 5 [11,0] (AQ (H.blk 0 Z) AJ) Z J Z (AP (EP Z (Dw (AV (AI ?_)))))))))))));refine BQ 1 Z Z (KC Z Z Z Z (AP (AV (AV (AI (Gk 4 [12,0] (AQ (H.blk 0 Z) AJ) Z J Z (s_do Z Z Z (ME (e:=40) Z J Z (AB (H.bk 5 Z))) (BQ 1 Z Z (AP (FY Z (λh1=>?_) (λh1=>?_)))))))))))
 ·refine AV (AI (BQ 1 Z Z (AP (EA ?_))));intro a_ hF;unfold IH;rw[hF.defers];refine Gm (λw=>call63 _ w) (KF _ _ _ _ _ _ _ _) H 7 [0,1,2,3,4,5,6] Z Z ?_;rintro _ w _ ⟨rfl,rfl⟩ l;clear H;have H:=l.l7;refine PE hF (rs:=[.tmp 2]) Z [Aa 0] ⟨Z,trivial⟩ (v:=Aa 0) Z ?_;exact ⟨[stB ps pd pt x (V o) md false (.map none),lgB o pd pt r a q u b nu,tblA pt,diskA pd D,pgsA md (ov rs) hq,poolA hq],.inl ⟨by omega,Z,Z⟩,H.perm 7 [0,1,2,3,4,6] Z Z⟩
 refine Dw (AV (AV ?_));have b9:1<=k:=by omega
 have l:=H.toPgsc 5 Z a1 a4;have H:=l.l7;refine AI (BQ 1 Z Z (Fj Z Z Z Z Z (λw=>call104 _ w) (RB _ _ _ _ _ _ _ _ _ _ _ _ _ _ _ _ _ _ _ _ _ _ hS hL b5 c2 c3 b7 b1 U) H Z ?_));rintro _ w _ (⟨ks,d,m,x2,B2,a0,a2,s,f,c1,t,a7,a6,a8,b3,a9,rfl,rfl⟩|⟨c4,d,m,x2,B2,j,y,a2,q2,s,c0,f,a3,b6,t,a7,a6,a8,a9,b4,rfl,rfl⟩) l
 ·have H:=l.l7;refine BQ 1 Z Z (AP (AV (AI (BQ 2 Z Z (Pk 19 Z Z (AP (EP Z (Dw (AV (BV (Sep z (stB ps pd pt x2 (V o) md true (.map (some mo))::R)) 9 Z J (A4 H λw l=>?_)))))))))))
  have H:=l.l7;refine a_L [0,1,2,3,4,5,6,7] [10,0,12,0] (λ_ hx=>(AQ (hx.blk 0 Z) AJ)) (by exact H.pick 7 [0] Z) Z J Z Z (Cs [8] J O (Ar (Ba Z Z Z Z Z Z (λw=>call105 _ w) (Xo _ _ _ _ _ _) H.f5.f5 Z ?_)));rintro _ w _ ⟨rfl,rfl⟩ l;have H:=l.l7;refine BZ (H.pick 7 [2] Z) (a_done J (AV (AI (BQ 1 Z Z (AP (EA ?_))))));intro a_ hF;unfold IH;rw[hF.defers];refine Gm (λw=>call63 _ w) (KF _ _ _ _ _ _ _ _) H 7 [2,0,1,3,4,5,6] Z Z ?_;rintro _ w _ ⟨rfl,rfl⟩ l;clear H;have H:=l.l7;refine PE hF (rs:=[.tmp 2]) Z [Aa 0] ⟨Z,trivial⟩ (v:=Aa 0) Z ?_;have a5:GM (ov a0) g=ov (a0++[⟨q,Ca g ks⟩]):=by rw[ID,PQ c1 (Lq c1 b8 b0)]
  rw[a5] at H;have H:Sep z (stB ps pd pt x2 (V o) md false (.map none)::pgsA md (ov (a0++[⟨q,Ca g ks⟩])) d::DN mo g k d::lgB o pd pt r a2 (q+1) s false nu::tblA pt::diskA pd m::poolA d::R) w:=H;exact ⟨[stB ps pd pt x2 (V o) md false (.map none),lgB o pd pt r a2 (q+1) s false nu,tblA pt,diskA pd m,pgsA md (ov (a0++[⟨q,Ca g ks⟩])) d,poolA d],.inr (.inl ⟨b9,d,m,x2,B2,_,a2,s,f,t,a7,⟨by rw[<-a5,Jn,Jn,a6],λn hn=>by rw[<-a5];obtain ⟨p_,c6⟩:=Acp.1 hn;simp[GM,c6]⟩,a8,b3,a9,Z,Z⟩),H.perm 7 [0,3,4,5,1,6] Z Z⟩
 have H:=l.l7;refine BQ 1 Z Z (AP (AV (AI (BQ 2 Z Z (AP (FY Z (λh2=>?_) (λh2=>?_)))))))
 ·refine AV (AI (BQ 2 Z Z (AP (EA ?_))));intro a_ hF;unfold IH;rw[hF.defers];refine Gm (λw=>call63 _ w) (KF _ _ _ _ _ _ _ _) H 7 [0,1,2,3,4,5,6] Z Z ?_;rintro _ w _ ⟨rfl,rfl⟩ l;clear H;have H:=l.l7;refine PE hF (rs:=[.tmp 2]) Z [Aa c4] ⟨Z,trivial⟩ (v:=Aa c4) Z ?_;exact ⟨[stB ps pd pt x2 (V o) md false (.map none),lgB o pd pt r a2 q2 s c0 nu,tblA pt,diskA pd m,pgsA md (ov j) d,poolA d],.inr (.inr ⟨b9,_,d,m,x2,B2,j,y,a2,q2,s,c0,f,a3,b6,t,a7,a6,a8,a9,b4,Z,Z⟩),H.perm 7 [0,1,2,3,4,6] Z Z⟩
 exact absurd a3 h2
section
def BF(x:Sup):Sup:= {x with gen:=x.gen+1,epoch:=x.epoch+1,head:=0,seq:=1}
theorem V9(x:Sup):(BF x).gen=x.gen+1/\(BF x).epoch=x.epoch+1/\(BF x).pages=x.pages/\(BF x).start=x.start/\(BF x).len=x.len/\(BF x).head=0/\(BF x).seq=1:=⟨Z,Z,Z,Z,Z,Z,Z⟩
def AaR(D:Dsk)(s:Sup)(a q u:Int):Prop:=s.len<=u\/∀ims,¬nextP (CM D s a) s.epoch q (s.len-u) ims
structure OInv(D:Dsk)(x:Sup)(B:Nat->Pg)(Gd:List Rc->Prop):Prop where
 ok:x.Ok (D.n:Int)
 s:SOk x
 gen:1<=x.gen
 ver:∀i,D.ver i=[]
 sup:D.dur (x.gen%2).toNat=BC x
 oth:∃y:Sup,y.Ok (D.n:Int)/\y.gen=x.gen-1/\D.dur ((x.gen+1)%2).toNat=BC y
 tags:∀i:Nat,2+x.pages<=(i:Int)->∀e q,Tg (D.dur i) e q->e<=x.epoch
 read:∀(got:List Rc) (a q u:Int),Runs D x x.head x.seq 0 got a q u->AaR D x a q u->Gd got
 recs:∀got,Gd got->∀r∈got,(1<=r.ims.length/\r.ims.length<=40)/\∀m∈r.ims,m.Ok/\m.num<x.pages
 gd:∀got,Gd got->∀i:Nat,(i:Int)<x.pages->ov got i=none->HomeP (D.dur (2+i)) i (B i)
theorem PR{rs:List Rc}{k m n:Nat}(a:k<=m)(h:(ov (rs.take k) n).isSome=true):(ov (rs.take m) n).isSome=true:=by
 have:=FR ((rs.take m).drop k) _ (show (ov ((rs.take m).take k) n).isSome=true by rw[Acq,Acm a];exact h);rwa[AcC] at this
theorem SInv.crashed{D D':Dsk}{x:Sup}{B:Nat->Pg}{rs:List Rc}{ptl:List (List UInt8)}{a q u:Int}{b:Bool}{sure:Nat}(h:SInv D x B rs ptl a q u b sure)(hq:q<=1099511627776)(l:Crashed D D'):OInv D' x B (λf=>sure<=f.length/\f.length<=rs.length/\f=rs.take f.length):=by
 have hg:=h.gen;refine ⟨by rw[l.n];exact h.ok,h.s,hg,l.ver,?_,?_,λi v e q' ht=>h.tags hq v (l.dur i) ht,λf a' q' u' t w=>h.p.read h.s l hq t w,λf k r t=>?_,λf k i v ho=>?_⟩
 ·rcases l.dur (x.gen%2).toNat with g|g
  ·rw[g];exact h.sup.1
  rw[h.sup.2] at g;cases g
 ·obtain ⟨y,a,b,c,d⟩:=h.oth
  refine ⟨y,by rw[l.n];exact a,b,?_⟩;rcases l.dur ((x.gen+1)%2).toNat with g|g
  ·rw[g];exact c
  rw[d] at g;cases g
 ·rw[k.2.2] at t
  have o:=Acr t;obtain ⟨j,hj⟩:=Ack o;obtain ⟨_,h2,h3⟩:=h.p.recs j r hj;exact ⟨h2,λm z=>⟨h3 m z,h.num r o m z⟩⟩
 rcases h.home i v _ (l.dur _) with g|⟨g,_⟩
 ·exact g
 have:=PR k.1 g;rw[<-k.2.2,ho] at this;cases this
variable{D:Dsk}{x:Sup}{B:Nat->Pg}{Gd:List Rc->Prop}
theorem OInv.ovb(h:OInv D x B Gd){a:List Rc}(e:Gd a){n:Nat}(d:(ov a n).isSome=true):(n:Int)<x.pages:=by
 obtain ⟨p,hp⟩:=Acp.1 d;obtain ⟨r,b,m,c,i,_⟩:=J0 _ a Z hp;have g:=((h.recs a e r b).2 m c).2;have f:=h.ok.2;omega
theorem OInv.ovok(h:OInv D x B Gd){a:List Rc}(e:Gd a){n:Nat}{p:Pg}(d:ov a n=some p):p.Ok:=by
 obtain ⟨r,b,m,c,_,rfl⟩:=J0 _ a Z d;exact Fs ((h.recs a e r b).2 m c).1
theorem OInv.opened(h:OInv D x B Gd){a:List Rc}(hg:Gd a){d:List Int}(k:EN (ov a) d)(l:(BF x).Ok (D.n:Int))(he:x.epoch+1<4294967296):
  SInv (EV (hwD D (pgLst (ov a) d)).fl (BF x)) (BF x) (pgMap (ov a) B) [] [] 0 1 0 false 0:=by
 have hk:=h.ok.2;have a0:=h.gen;have v:=V9 x;have o:=h.s;have t:SOk (BF x):=⟨by rw[v.2.2.2.1];exact o.start,by have:=o.head;omega,by have:=o.epoch;omega,by omega⟩;have q:∀y∈pgLst (ov a) d,(y.1:Int)<x.pages:=λy l=>h.ovb hg (by rw[(D6 k y.1 y.2).1 l];rfl);have f:∀i c,CQ (EV (hwD D (pgLst (ov a) d)).fl (BF x)) i c->i≠((BF x).gen%2).toNat->c=(hwD D (pgLst (ov a) d)).cont i:=λi c b m=>by
  have g:=Eu (hwD D (pgLst (ov a) d)).fl (BF x) i m;unfold CQ at b;rw[g.1,g.2] at b;rcases b with b|b
  ·exact b
  cases b
 have u:∀i:Nat,i<2->(hwD D (pgLst (ov a) d)).cont i=D.dur i:=λi m=>by
  rw[hw_cont_out _ D i (λy _ e=>by omega)];exact Eh (h.ver i)
 refine ⟨by show (BF x).Ok ((hwD D _).n:Int);rw[EL];exact l,?_,t,by omega,λr hr=>(by cases hr),λi m c b=>.inl ?_,GV _ _,?_,λi m hr c b e w ht=>?_⟩
 ·have:=PInv.fresh (D:=EV (hwD D (pgLst (ov a) d)).fl (BF x)) t (λi h1 h2 c b e w ht=>?_)
  ·rw[v.2.2.2.2.2.1,v.2.2.2.2.2.2] at this;exact this
  have m:=f i c b U;rw[hw_cont_out _ D i (λy l e=>by have:=q y l;omega),Eh (h.ver i)] at m;subst m;have:=h.tags i U e w ht;omega
 ·have j:=f (2+i) c b U
  subst j;unfold pgMap
  cases g:ov a i with
  | some p=>
   have hm:(i,p)∈pgLst (ov a) d:=(D6 k i p).2 g;rw[V2 _ D (Ev k) (i,p) hm];exact .inr ⟨h.ovok hg g,Z⟩
  | none=>
   rw[hw_cont_out _ D _ (λz hz e=>by
    have:=(D6 k z.1 z.2).1 hz;rw[show z.1=i from by omega,g] at this;cases this),Eh (h.ver _)]
   exact h.gd a hg i U g
 ·refine ⟨x,by show x.Ok ((hwD D _).n:Int);rw[EL];exact h.ok,by omega,?_⟩
  have g:=Eu (hwD D (pgLst (ov a) d)).fl (BF x) (((BF x).gen+1)%2).toNat U;refine ⟨?_,by rw[g.2];rfl⟩;rw[g.1];show (hwD D (pgLst (ov a) d)).cont _=_;rw[u _ U,show ((BF x).gen+1)%2=x.gen%2 from by omega];exact h.sup
 have j:=f i c b U;rw[hw_cont_out _ D i (λy l e=>by have:=q y l;omega),Eh (h.ver i)] at j;subst j;have:=h.tags i U e w ht;omega

def Ex(D:Dsk):Nat->Dsk
 | 0=>D
 | k+1=>(Ex D k).wr (2+k) [List.replicate 256 0]
theorem MR(D:Dsk):∀k,(Ex D k).n=D.n
 | 0=>rfl
 | k+1=>by show ((Ex D k).wr _ _).n=_;rw[Dsk.wr_n];exact MR D k
theorem Xp(n k i:Nat):(Ex (Cd n) k).cont i=List.replicate 256 0:=by
 induction k with
 | zero=>rfl
 | succ k ih=>
  show ((Ex (Cd n) k).wr _ _).cont i=_;rw[wr_cont,ih];by_cases h:2+k<=i
  ·rw[if_pos h]
   rcases Ads (i-(2+k)) with e|e
   ·rw[e];rfl
   rw[Ab5 (by simp;omega)];rfl
  rw[if_neg h];rfl
theorem Ft{D:Dsk}(h:Clean D):∀k,Clean (Ex D k)
 | 0=>h
 | k+1=>(Ft h k).wr _ _
theorem RD(n:Nat)(i:Nat):∀k,((Ex (Cd n) k).ver i).length<=k
 | 0=>by simp[Ex,Cd]
 | k+1=>by
  have h1:=Dsk.wr_len (Ex (Cd n) k) (2+k) [List.replicate 256 0] i;have a:=RD n i k;show (((Ex (Cd n) k).wr _ _).ver i).length<=_;omega
def Bw(p s l g:Int):Sup:=⟨g,1,p,s,l,0,1⟩
def Lr(n:Nat)(p s l:Int):Dsk:=EV (EV (Ex (Cd n) p.toNat).fl (Bw p s l 1)) (Bw p s l 2)
theorem Fe(n:Nat):Clean (Cd n):=⟨Z,Z,Z,Z⟩
theorem T4(n:Nat)(p s l:Int):Clean (Lr n p s l):=((Ft (Fe n) _).fl.sv _).sv _
theorem T5(n:Nat)(p s l:Int):(Lr n p s l).n=n:=MR _ _
theorem RE(n:Nat)(p s l:Int)(i:Nat):(Lr n p s l).ver i=[]:=G5 (G5 (λ_=>rfl) _) _ i
theorem MS(n:Nat)(p s l:Int)(i:Nat)(c:2<=i):(Lr n p s l).dur i=List.replicate 256 0:=by
 have b:=Eu (EV (Ex (Cd n) p.toNat).fl (Bw p s l 1)) (Bw p s l 2) i (by show i≠((2:Int)%2).toNat;simp;omega);have a:=Eu (Ex (Cd n) p.toNat).fl (Bw p s l 1) i (by show i≠((1:Int)%2).toNat;simp;omega);exact (b.1.trans a.1).trans (Xp n _ i)
theorem Xq{n:Nat}{p s l:Int}(c:(Bw p s l 2).Ok (n:Int)):OInv (Lr n p s l) (Bw p s l 2) (λ_=>C5) (λb=>b=[]):=by
 have v:(Bw p s l 2).gen=2/\(Bw p s l 2).epoch=1/\(Bw p s l 2).pages=p/\(Bw p s l 2).start=s/\(Bw p s l 2).len=l/\(Bw p s l 2).head=0/\(Bw p s l 2).seq=1:=⟨Z,Z,Z,Z,Z,Z,Z⟩;have x:=Sup.get c;have w:=c.2;have f:SOk (Bw p s l 2):=⟨by omega,by omega,by omega,by omega⟩;have d:∀z:Int,(Lr n p s l).cont (ringAt (Bw p s l 2) z)=List.replicate 256 0:=λz=>by
  have:=IK f z;rw[Eh (RE _ _ _ _ _)];exact MS _ _ _ _ _ U
 refine ⟨by rw[T5];exact c,f,by omega,RE _ _ _ _,(GV _ _).1,⟨Bw p s l 1,?_,Z,?_⟩,λi j e q m=>?_,λb a q u g o=>?_,λb h r g=>?_,λb _ i t _=>?_⟩
 ·rw[T5]
  exact Sup.ok_mk (by show 0<=(1:Int)/\(1:Int)<=1099511627776;omega) (by show 0<=(1:Int)/\(1:Int)<=1099511627776;omega) (by show 16<=p/\p<=1024;omega) (by show 2+p<=s/\s<=1099511627776;omega) (by show 64<=l/\l<=1099511627776;omega) (by show 0<=(0:Int)/\(0:Int)<l;omega) (by show 0<=(1:Int)/\(1:Int)<=1099511627776;omega) (by show s<=n-l/\l<=n;omega)
 ·have j:=Eu (EV (Ex (Cd n) p.toNat).fl (Bw p s l 1)) (Bw p s l 2) 1 (by show 1≠((2:Int)%2).toNat;decide)
  exact j.1.trans (GV (Ex (Cd n) p.toNat).fl (Bw p s l 1)).1
 ·rw[MS _ _ _ _ _ U] at m
  exact (Ty _ _ m).elim
 ·cases g with
  | nil=>rfl
  | snoc r hlt hn=>
   exfalso;have k:=hn.1;have e:∀z,CM (Lr n p s l) (Bw p s l 2) z 0=List.replicate 256 0:=λz=>d (z+((0:Nat):Int));rw[e] at k;exact Lk k
 ·subst h;cases g
 rw[MS _ _ _ _ _ U];exact .inl ⟨Z,Z⟩
end
theorem OInv.two{D:Dsk}{x:Sup}{B:Nat->Pg}{Gd:List Rc->Prop}(h:OInv D x B Gd):∃b a:Sup,b.Ok (D.n:Int)/\a.Ok (D.n:Int)/\b.gen%2=0/\a.gen%2=1/\D.cont 0=BC b/\D.cont 1=BC a/\x=if b.gen<a.gen then a else b:=by
 obtain ⟨y,f,i,c⟩:=h.oth;have hs:=h.sup;have j:=h.gen;have g:=Eh (h.ver 0);have d:=Eh (h.ver 1);rcases (show x.gen%2=0\/x.gen%2=1 by omega) with e|e
 ·rw[show (x.gen%2).toNat=0 by omega] at hs
  rw[show ((x.gen+1)%2).toNat=1 by omega] at c;exact ⟨x,y,h.ok,f,e,by omega,g.trans hs,d.trans c,by rw[if_neg U]⟩
 rw[show (x.gen%2).toNat=1 by omega] at hs;rw[show ((x.gen+1)%2).toNat=0 by omega] at c;exact ⟨y,x,f,h.ok,by omega,e,g.trans c,d.trans hs,by rw[if_pos U]⟩
theorem Zv{x:Sup}{n:Int}(h:x.Ok n)(e:1<=x.gen)(c:x.gen+1<=1099511627776)(b:x.epoch+1<=1099511627776):(BF x).Ok n:=by
 have hs:=Sup.get h;have a:=h.2;have d:=V9 x;exact Sup.ok_mk U U U U U U U U
theorem MT{rs:List Rc}{k:Nat}{r:Rc}(h:rs[k]?=some r):Ek (ov (rs.take k)) r.ims=ov (rs.take (k+1)):=by
 rw[AbZ,h];exact (ID _ _).symm
theorem LQ{f:A0}{ims:List Img}{k:Nat}{m:Img}(h:ims[k]?=some m):pgSet (Ek f (ims.take k)) m.num.toNat (DB m)=Ek f (ims.take (k+1)):=by
 rw[AbZ,h];exact (TA _ _ _).symm
set_option maxHeartbeats 4000000 in
theorem sopen_c (pd:Nat) (D:Dsk) (x:Sup) (B:Nat->Pg) (Gd:List Rc->Prop) (hO:OInv D x B Gd) (a8:Clean D) (h5:x.gen+1<=1099511627776) (f9:x.epoch+1<4294967296):Aj 30 [V pd] [diskA pd D] (λv G=>∃(ps pl pt md:Nat) (hq:Hp) (D2:Dsk) (d4:List Rc),Gd d4/\SInv D2 (BF x) (pgMap (ov d4) B) [] [] 0 1 0 false 0/\Clean D2/\D2.n=D.n/\(∀i,D2.ver i=[])/\v=.tuple #[V ps,Aa 0]/\G=[stB ps pd pt (BF x) (V pl) md false (.map none),lgB pl pd pt (BF x) 0 1 0 false (decide ((BF x).epoch<4294967296)),tblA pt,diskA pd D2,pgsA md CD hq,poolA hq]):=by
 intro z R w H;obtain ⟨y0,y1,g0,e7,e4,e5,g2,f0,e6⟩:=hO.two;have a7:=hO.ok;have g9:=Sup.get a7;have h7:=a7.2;have d0:=hO.gen;have a4:(BF x).Ok (D.n:Int):=Zv a7 d0 U U;refine Ac func30 Z ntmps30 Z (Zc 19 Z (AA Z (call73 _) (MG) H ?_));rintro _ w _ ⟨pt,rfl,rfl⟩ H;refine AG Z (FI H Z) ?_;rintro _ w ⟨y,rfl,H⟩;refine Ad Z (AX Z Z (out:=[V pd,V pt,Aa 0,Aa 0,Aa 0,Aa 0,Aa 0,Aa 0,Aa 0,.pointer none,.map (some y),.bool false,.map none]) J) (Za 0 [] H Z ?_);intro b2 w H;refine Z2 10 [1,0,0] H Z (Ai Z (call74 _) (Zu _ _ _ a8.f1 x y0 y1 g0 e7 e4 e5 g2 f0 e6) H.f2.f3 ?_);intro w H;refine Za 3 [] H Z ?_;intro b3 w H;refine Z4 24 [0,4,0,7,2,3] H Z ?_;intro w H;replace H:=H.f3;refine BV (Sep z (stB b2 pd pt x (.pointer none) y false (.map none)::blk b3 [Aa x.gen,Aa x.epoch,Aa x.pages,Aa x.start,Aa x.len,Aa x.head,Aa x.seq] 92::R)) 14 Z J (A4 H λw o=>?_);have H:=o.l5;refine CG [0,1,2,3,4,5] [1,0,0,1,7] [] (by exact H.pick 5 [0,1] Z) Z J Z (Cs [6] J O (Ar (Ba Z Z Z Z Z Z (λw=>call75 _ w) (Zp _ _ x _ a7 a8.f1) H.f2.f3 Z ?_)));rintro _ w _ ⟨a9,a,a5,q5,u5,v5,s,rfl,b1,b6,m,rfl⟩ H;obtain ⟨c4,c2,rfl⟩:=m.slc;obtain ⟨c7,c0,a2,c6⟩:=m;have g7:c7.length=a.length:=by rw[<-c0];simp
 have a1:=hO.read a a5 q5 u5 b1 b6;have g1:=hO.recs a a1;have g4:=a2.small;have c5:∀n,(ov a n).isSome=true->n<1024:=λn h=>by have:=hO.ovb a1 h;omega
 have d3:∀n,(ov a n).isSome=true->2+n<D.n:=λn h=>by have:=hO.ovb a1 h;omega
 have H:Sep z (poolA s::lgB a9 pd pt x a5 q5 u5 false (decide (x.epoch<4294967296))::tblA pt::diskA pd D::stB b2 pd pt x (.pointer none) y false (.map none)::blk b3 [Aa x.gen,Aa x.epoch,Aa x.pages,Aa x.start,Aa x.len,Aa x.head,Aa x.seq] 92::AE y ([]) 0::R) w:=H;refine BZ (H.pick 7 [4,5] Z) (CG [7,8,9,10,11,12,13] [] [] (by exact H.pick 7 [4,5] Z) Z J Z (a_done J (gn (Z5 36 [4,0,5,0,0,5,1,5,0,1,5,0,5,0,0] [x.gen+1,x.epoch+1] H Z U ?_))));intro w H;refine Ak 62 Z (λh1=>U) (λh1=>?_);refine Z2 6 [1,5,0,0] H Z (Ag Z (λh2=>U) (λh2=>?_));refine Zc 11 Z ?_;refine Ay (σ:=Nat×List PgE×Nat) (λ⟨k,es,cl⟩=>[(69,Aa (k:Int)),(0,V pd),(2,.pointer none),(3,Aa 0),(4,V b2),(5,V b3),(67,.slice c4 a.length c2),(68,Aa (a.length:Int))])
   (λ⟨k,es,cl⟩ w=>Sep z (poolA s::lgB a9 pd pt x a5 q5 u5 false (decide (x.epoch<4294967296))::tblA pt::diskA pd D::stB b2 pd pt x (.pointer none) y false (.map none)::blk b3 [Aa (x.gen+1),Aa (x.epoch+1),Aa x.pages,Aa x.start,Aa x.len,Aa x.head,Aa x.seq] 92::AE y (es.map PgE.ie) cl::R) w/\(k<=a.length/\PgsIn (ov (a.take k)) es cl s)) (λ⟨k,es,cl⟩=>a.length-k) ⟨0,[],0⟩
   fr_z ⟨H,by omega,PgsIn.none _ _⟩ ?_
 clear H;rintro ⟨k,es,cl⟩ w ⟨o,hI⟩;dsimp only at hI o ⊢;have H:=o.l7;obtain ⟨h6,b8⟩:=hI;refine Z0 6 [0] Z (Ag Z (λh3=>?_) (λh3=>?_))
 ·refine Zc 6 Z ?_;obtain ⟨⟨f,w1⟩,b0⟩:∃e:RcE,c7[k]?=some e:=⟨_,AbF U⟩;have e1:a[k]?=some f:=by rw[<-c0];simp[b0]
  obtain ⟨c9,c1,b,e0⟩:=c6 _ (AbG b0);dsimp only at c1 b;obtain ⟨a6,c3,rfl⟩:=b.slc;have g3:c9.length=f.ims.length:=by rw[<-c1];simp
  have g5:=b.small;have d2:=g1 _ (AbG e1);have d6:=(H.rv 0 (λq=>a2.le q)).at (Ec b0 0 _ Z);refine Ad Z (Az Z (z:=2) (j:=k) (r:=k*2) J Z Z Z U d6 U) (Ad Z (BU Z Z (vs:=[Aa f.seq,.slice a6 f.ims.length c3]) J O (AB (λk u hk=>(H.rv 0 (λq=>a2.le q)).at (Ec b0 k u hk)))) (Za 0 [] H Z ?_));intro b4 w H;refine Z4 12 [0,1,0,0] H Z ?_;intro w H;refine Ay (σ:=Nat×List PgE×Nat) (λ⟨j,ei,ci⟩=>[(76,Aa (j:Int)),(0,V pd),(2,.pointer none),(3,Aa 0),(4,V b2),(5,V b3),(10,V b4),(67,.slice c4 a.length c2),(68,Aa (a.length:Int)),(69,Aa (k:Int)),(70,.bool (decide ((k:Int)<(a.length:Int)))),(71,FQ c4 (k*2)),(72,.agg #[Aa f.seq,.slice a6 f.ims.length c3]),(73,.pointer (some ⟨b4,1,none⟩)),(74,.slice a6 f.ims.length c3),(75,Aa (f.ims.length:Int))])
    (λ⟨j,ei,ci⟩ w=>Sep z (blk b4 [Aa f.seq,.slice a6 f.ims.length c3] 116::poolA s::lgB a9 pd pt x a5 q5 u5 false (decide (x.epoch<4294967296))::tblA pt::diskA pd D::stB b2 pd pt x (.pointer none) y false (.map none)::blk b3 [Aa (x.gen+1),Aa (x.epoch+1),Aa x.pages,Aa x.start,Aa x.len,Aa x.head,Aa x.seq] 92::AE y (ei.map PgE.ie) ci::R) w/\(j<=f.ims.length/\PgsIn (Ek (ov (a.take k)) (f.ims.take j)) ei ci s)) (λ⟨j,ei,ci⟩=>f.ims.length-j) ⟨0,es,cl⟩
    fr_z ⟨H,by omega,b8⟩ ?_
  clear H;rintro ⟨j,ei,ci⟩ w ⟨o,hI⟩;dsimp only at hI o ⊢;have H:=o.l8;obtain ⟨h0,t⟩:=hI;refine Z0 6 [0] Z (Ag Z (λh4=>?_) (λh4=>?_))
  ·refine Zc 6 Z ?_;obtain ⟨⟨⟨a0,g,e3⟩,u1⟩,l⟩:∃e:ImE,c9[j]?=some e:=⟨_,AbF U⟩;have d5:f.ims[j]?=some ⟨a0,g,e3⟩:=by rw[<-c1];simp[l]
   obtain ⟨⟨d9,c8⟩,b9,a3⟩:=(d2.2 _ (AbG d5)).1;dsimp only at d9 c8 b9 a3;obtain ⟨n,rfl⟩:∃n:Nat,a0=(n:Int):=⟨a0.toNat,by omega⟩;have b7:=e0 _ (AbG l);dsimp only at b7;rw[a3] at b7;have e8:=b7.slc;have d8:=(H.rv 1 (λq=>b.le q)).at (A7 l 0 _ Z);obtain ⟨d1,e9,d7,_⟩:=t.put (k:=n) (p:=⟨g,e3⟩) (v:=u1) ⟨b9,a3⟩ b7;refine Ad Z (Az Z (z:=3) (j:=j) (r:=j*3) J Z Z Z U d8 U) (Ad Z (BU Z Z (vs:=[Aa (n:Int),Aa g,u1]) J O (AB (λk u hk=>(H.rv 1 (λq=>b.le q)).at (A7 l k u hk)))) (Za 0 [] H Z ?_));intro b5 w H;refine A9 Z Z (AD 0 H Z Z Z Z (vs:=[Aa (n:Int),Aa g,u1]) Z (Aq Z (Aq Z (Aq e8.one AN))) J O (out:=[Aa (n:Int),Aa g,u1]) Z) ?_;rintro w H;refine Zc 2 Z ?_;replace H:=H.f6;refine BV (Sep z (stB b2 pd pt x (.pointer none) y false (.map none)::blk b5 [Aa (n:Int),Aa g,u1] 118::R)) 9 Z J (A4 H λw o=>?_);have H:=o.l9;refine CG [0,1,2,3,4,5,6,7] [10,0,0,0,1,0,1,1,2] [] (by exact H.pick 9 [0,1] Z) Z J Z (Cs [8] J O (Ar (B6 Z Z Z (Dn 8 (e:=40) H Z Z J Z Z Z) ?_)));rintro w H;refine BZ (H.pick 9 [0,1] Z) (a_done J (gn ?_));rw[e9] at H;have H:Sep z (stB b2 pd pt x (.pointer none) y false (.map none)::blk b5 [Aa (n:Int),Aa g,u1] 118::blk b4 [Aa f.seq,.slice a6 f.ims.length c3] 116::poolA s::lgB a9 pd pt x a5 q5 u5 false (decide (x.epoch<4294967296))::tblA pt::diskA pd D::blk b3 [Aa (x.gen+1),Aa (x.epoch+1),Aa x.pages,Aa x.start,Aa x.len,Aa x.head,Aa x.seq] 92::AE y (d1.map PgE.ie) (putC (ei.map PgE.ie) (n:Int) ci)::R) w:=H;refine Z1 6 [] [(j:Int)+1] Z U ?_;replace H:=H.f1.d.f7.f7.f2.f7.f7.f7.f7.f7;refine gf ?_;intro _ hF;refine ⟨⟨j+1,d1,putC (ei.map PgE.ie) (n:Int) ci⟩,hF.cz,⟨H,?_⟩,?_⟩
   ·dsimp only
    exact ⟨by omega,(LQ d5)▸d7⟩
   (dsimp only;omega)
  obtain rfl:j=f.ims.length:=by omega
  refine Zc 2 Z (gx (Z1 7 [] [(k:Int)+1] Z U ?_));replace H:=H.d;refine gf ?_;intro _ hF;refine ⟨⟨k+1,ei,ci⟩,hF.cz,⟨H,?_⟩,?_⟩
  ·dsimp only
   rw[AbJ (Ab9 _),MT e1] at t;exact ⟨by omega,t⟩
  (dsimp only;omega)
 obtain rfl:k=a.length:=by omega
 have t:=b8;rw[AbJ (Ab9 _)] at t;refine Zc 2 Z (gx (Z4 15 [5,5,6,5,5,7] H Z ?_));intro w H;replace H:=(H.toPgs 6 Z t).l7;refine AA Z (call76 _) (Ih _ _ _ _ _ _ _ _ (ov a) _ (BF x) D c5 d3 a4 (λi=>by rw[hO.ver];simp)) H.f6.f4.f4.f5 ?_;rintro _ w _ (⟨ks,e2,rfl,rfl⟩|⟨ks,c,D2,e2,g6,f8,rfl,rfl⟩) o
 ·have H:=o.l7;refine Z0 13 [4] Z ?_;replace H:=H.f6.f1;refine AK (Sep z (stB b2 pd pt (BF x) (.pointer none) y false (.map none)::blk b3 [Aa (x.gen+1),Aa (x.epoch+1),Aa x.pages,Aa x.start,Aa x.len,Aa 0,Aa 1] 92::R)) 11 Z J (A4 H λw o=>?_)
  have H:=o.l7;refine A6 [0,1,2,3,4,5] [1,0] J (λ_ hx=>(AQ (hx.blk 0 Z) AJ)) (by exact H.pick 7 [0,1] Z) Z J Z Z (AR 6 J Z Z J J J Z Z Z (Bt Z Z (vs:=[Aa (x.gen+1),Aa (x.epoch+1),Aa x.pages,Aa x.start,Aa x.len,Aa 0,Aa 1]) J (λ_ hx=>(hx.blk 1 Z).part 0 7 _ Z)) (H.pick 7 [0,1] Z) (An [7] J O (Ar (Ba Z Z Z Z Z Z (λw=>call77 _ w) (Oy _ _ _ (BF x) (by show (BF x).Ok ((hwD D _).n:Int);rw[EL];exact a4)) H.f3 Z ?_))));rintro _ w _ ⟨pl,rfl,rfl⟩ H;refine Am (λ_=>(H.pick 8 [2,3] Z)) (A6 [8,9] [9] J (λ_ _=>AJ) (by exact H.pick 8 [2,3] Z) Z J Z Z (An [10] J O (Ar (B6 Z Z Z (Ma 2 H Z Z Z Z Z Z J) ?_))));rintro w H;refine Am (λh=>absurd Z h) (AT J (gn (Zc 9 Z (Zr Z ?_))));exact ⟨_,⟨b2,pl,_,y,_,_,a,a1,hO.opened a1 e2 a4 f9,(((a8.hw _).fl).sv _),by show (hwD _ _).n=_;exact EL _ _,G5 (λ_=>rfl) _,Z,Z⟩,H.perm 8 [2,0,4,1,5,6] Z Z⟩
 exact absurd f8 a8.setF
theorem Xr(n k:Nat):wr1 (Ex (Cd n) k) false ((2:Int)+(k:Int)).toNat (List.replicate 256 0)=Ex (Cd n) (k+1):=by
 rw[show ((2:Int)+(k:Int)).toNat=2+k from by omega];rfl
theorem MU{n:Nat}{p s l:Int}(h:(Bw p s l 2).Ok (n:Int)):(Bw p s l 1).Ok (n:Int):=by
 have a:=h.2;have hs:=Sup.get h;have b:(Bw p s l 2).pages=p/\(Bw p s l 2).start=s/\(Bw p s l 2).len=l/\(Bw p s l 2).head=0:=⟨Z,Z,Z,Z⟩;exact Sup.ok_mk (by show 0<=(1:Int)/\(1:Int)<=1099511627776;omega) (by show 0<=(1:Int)/\(1:Int)<=1099511627776;omega) (by show 16<=p/\p<=1024;omega) (by show 2+p<=s/\s<=1099511627776;omega) (by show 64<=l/\l<=1099511627776;omega) (by show 0<=(0:Int)/\(0:Int)<l;omega) (by show 0<=(1:Int)/\(1:Int)<=1099511627776;omega) (by show s<=n-l/\l<=n;omega)
theorem T6{n:Nat}{p s l:Int}(h:(Bw p s l 2).Ok (n:Int)):(16<=p/\p<=1024)/\2+p<=s/\s+l<=n/\0<=l:=by
 have a:=h.2;have b:(Bw p s l 2).pages=p/\(Bw p s l 2).start=s/\(Bw p s l 2).len=l/\(Bw p s l 2).head=0:=⟨Z,Z,Z,Z⟩;omega
set_option maxHeartbeats 2000000 in
theorem T7 (pd n:Nat) (p s l:Int) (c:(Bw p s l 2).Ok (n:Int)):Aj 86 [V pd,Aa p,Aa s,Aa l] [diskA pd (Cd n)] (λv G=>v=Aa 0/\G=[diskA pd (Lr n p s l)]):=by
 intro z R w a;have H:Sep z (diskA pd (Cd n)::R) w:=a;clear a;have b:(Bw p s l 1).Ok (n:Int):=MU c;have a2:(16<=p/\p<=1024)/\2+p<=s/\s+l<=n/\0<=l:=T6 c;have m:=H.sy 0 (λq=>(diskA.ok q).n2);refine enter func86 Z 57 ntmps86 Z (AV (AI (BQ 1 Z Z (AP (AV (AV (AI (BQ 1 Z Z (s_do Z Z Z (L7 Z J Z Z) (AP (EP Z (Dw (AV ?_)))))))))))));refine AI (BQ 3 Z Z (s_do Z Z Z (AX Z Z (out:=[Aa 1,Aa 1,Aa p,Aa s,Aa l,Aa 0,Aa 1]) J) (EF Z Z Z (Bz (P:=prog) H Z (zs:=[Aa 0,Aa 0,Aa 0,Aa 0,Aa 0,Aa 0,Aa 0]) J) ?_)));rintro _ w ⟨x,rfl,a⟩;have H:=a.l2;refine FC Z Z (AD 0 H Z Z Z Z (vs:=[Aa 1,Aa 1,Aa p,Aa s,Aa l,Aa 0,Aa 1]) Z (by simp[u8,u32,Value.oneCell']) J O (out:=[Aa 1,Aa 1,Aa p,Aa s,Aa l,Aa 0,Aa 1]) Z) ?_;rintro w a;have H:=a.l2;refine AP (AV (AV (Bd (Sep z _) J J H.drew (Bn Z Z Z (Bt Z Z (vs:=[Aa 1,Aa 1,Aa p,Aa s,Aa l,Aa 0,Aa 1]) J (λ_ hx=>(hx.blk 0 Z).part 0 7 _ Z)) (Cm 1 [] Z J (Dh Z Z Z Z Z (λw=>call127 _ w) (v:=Aa ((Cd n).n:Int)) (cq (G3 _ _) (by rintro _ _ ⟨rfl,rfl⟩;exact ⟨Z,Z⟩) 2 [1,0] [1,0] Z Z Z Z) (Dh Z Z Z Z Z (λw=>call129 _ w) (v:=Aa (if (Sup.mk 1 1 p s l 0 1).Ok ((Cd n).n:Int) then 0 else 1)) (cq (GY (Sup.mk 1 1 p s l 0 1) _ U) (by rintro _ _ ⟨rfl,rfl⟩;exact ⟨Z,Z⟩) 0 [] [] Z Z Z Z) (Cm 1 [] Z J (Bu (λw a=>?_))))))))));have H:=a.l2;refine FY Z (λt=>?_) (λt=>?_)
 ·exact (t (if_pos b)).elim
 refine Dw (AV (AV (AI (BQ 2 Z Z (AP (Fm ?_))))));refine Qz (σ:=Nat) (λk=>[(27,Aa (k:Int)),(0,V pd),(9,V x),(26,Aa p)])
   (λk w=>Sep z (blk x [Aa 1,Aa 1,Aa p,Aa s,Aa l,Aa 0,Aa 1] 92::diskA pd (Ex (Cd n) k)::R) w/\(k<=p.toNat)) (λk=>p.toNat-k) 0
   fr_z ⟨H,by omega⟩ ?_
 clear H;rintro k w ⟨a,o⟩;have H:=a.l2;have a0:=o;clear o;refine AV (AI (BQ 1 Z Z (AP (AV (FY Z (λy=>?_) (λy=>?_))))))
 ·refine Dw (AV (Fm (AV (AI (BQ 2 Z Z (AP (AV (AI (BQ 2 Z Z (s_do Z Z Z (CA Z Z Z (r:=(2:Int)+(k:Int)) U U) (EF Z Z Z (Dx (k:=256) H Z J (Elt.mk (P:=prog) (e:=5) (z:=u8 0) (sz:=1) (by_:=1) J Z U U) Z Z Z U) ?_)))))))))));rintro _ w ⟨b2,rfl,a⟩;have H:=a.l3;refine Fj Z Z Z Z Z (λw=>call134 _ w) (Jm _ _ _ _ _ _ _ (List.replicate 256 0) _ O (λh q=>by rw[Adr];exact q.rd U U O Z) (λi=>by have:=RD n i k;omega) (by rw[MR];show 0<=(2:Int)+(k:Int)/\(2:Int)+(k:Int)+1<=(n:Int);omega)) H.f2 Z ?_;rintro _ w _ (⟨g,rfl,rfl⟩|⟨_,rfl,rfl⟩) a
  ·exact absurd g (Ft (Fe n) k).bad
  have H:=a.l3;refine BQ 1 Z Z (AP (AV (AI (BQ 2 Z Z (k_updA 36 (u:=.bool (decide ((0:Int)≠0))) (v:=.bool false) Z (congrArg Value.bool (by decide)) (AP (EP Z (Dw (AI (s_do Z Z Z (CA Z Z Z (r:=(k:Int)+1) U U) (BQ 1 Z Z (AP ?_))))))))))));replace H:=H.f1.d.f1;intro _ hF;refine ⟨(k+1),hF.cz,⟨(by rw[<-Xr];exact H),?_⟩,?_⟩
  ·omega
  omega
 obtain rfl:k=p.toNat:=by omega
 refine Qw (HP (AV (AV (AI (BQ 1 Z Z (Fj Z Z Z Z Z (λw=>call70 _ w) (G0 _ _) H.f1 Z ?_))))));rintro _ w _ (⟨j,rfl,rfl⟩|⟨_,rfl,rfl⟩) a
 ·exact absurd j (Ft (Fe n) p.toNat).flb
 have H:=a.l2;refine BQ 1 Z Z (AP (AV (AI (BQ 2 Z Z (k_updA 42 (u:=.bool (decide ((0:Int)≠0))) (v:=.bool false) Z (congrArg Value.bool (by decide)) (AP (EP Z (Dw (AV (AI (Fj Z Z Z Z Z (λw=>call73 _ w) (MG) H Z ?_)))))))))));rintro _ w _ ⟨pt,rfl,rfl⟩ a;have H:=a.l3;refine BQ 1 Z Z (AP (AV (AV (AI (BQ 2 Z Z (s_do Z Z Z (Bt Z Z (vs:=[Aa 1,Aa 1,Aa p,Aa s,Aa l,Aa 0,Aa 1]) J (AB ((H.blk 2 Z).part 0 7 _ Z))) (Fj Z Z Z Z Z (λw=>call135 _ w) (ML _ _ _ (Bw p s l 1) (by show (Bw p s l 1).Ok ((Ex (Cd n) p.toNat).n:Int);rw[MR];exact b) (λi=>by show ([]:List (List UInt8)).length<=_;simp)) H.f1 Z ?_)))))));rintro _ w _ (⟨f,rfl,rfl⟩|⟨_,rfl,rfl⟩) a
 ·exact absurd f ((Ft (Fe n) p.toNat).fl).bad
 have H:=a.l3;refine BQ 1 Z Z (AP (AV (AI (BQ 2 Z Z (k_updA 50 (u:=.bool (decide ((0:Int)≠0))) (v:=.bool false) Z (congrArg Value.bool (by decide)) (AP (EP Z (Dw (AV (AI (Lb 1 [0] Z J (FC Z Z (AD 2 H Z Z Z Z (vs:=[Aa 2]) Z (by simp[u8,u32,Value.oneCell']) J O (out:=[Aa 2,Aa 1,Aa p,Aa s,Aa l,Aa 0,Aa 1]) Z) ?_))))))))))));rintro w a;have H:=a.l3;refine AP (AV (AI (BQ 2 Z Z (s_do Z Z Z (Bt Z Z (vs:=[Aa 2,Aa 1,Aa p,Aa s,Aa l,Aa 0,Aa 1]) J (AB ((H.blk 2 Z).part 0 7 _ Z))) (Fj Z Z Z Z Z (λw=>call135 _ w) (ML _ _ _ (Bw p s l 2) (by show (Bw p s l 2).Ok ((Ex (Cd n) p.toNat).n:Int);rw[MR];exact c) (λi=>by rw[G5 (λ_=>rfl)];simp)) H Z ?_)))));rintro _ w _ (⟨f,rfl,rfl⟩|⟨_,rfl,rfl⟩) a
 ·exact absurd f (((Ft (Fe n) p.toNat).fl.sv _)).bad
 have H:=a.l3;refine BQ 1 Z Z (AP (EA (GA Z [Aa 0] ⟨Z,trivial⟩ (v:=Aa 0) Z ?_)));exact ⟨[diskA pd (EV (EV ((Ex (Cd n) p.toNat).fl) (Bw p s l 1)) (Bw p s l 2))],⟨Z,Z⟩,H.perm 3 [0] Z Z⟩
theorem Xs(ps pd pt md:Nat)(x:Sup)(c b:Value)(D:Dsk):Aj 28 [V ps] [stB ps pd pt x c md false b,diskA pd D] (λv G=>(D.flb/\v=Aa 12/\G=[stB ps pd pt x c md false b,diskA pd {D with f3:=AZ D.f3}])\/(¬D.flb/\v=Aa 0/\G=[stB ps pd pt x c md false b,diskA pd D.fl])):=by
 intro z R w d;have H:Sep z (stB ps pd pt x c md false b::diskA pd D::R) w:=d;clear d;refine enter func28 Z 12 ntmps28 Z (AV (AI (BQ 1 Z Z (AP (AV (AV (AI (Gk 4 [11,0] (AQ (H.blk 0 Z) AJ) Z J Z (AP (EP Z (Dw (AV (AI ?_)))))))))))));refine Gk 4 [0,0] (AQ (H.blk 0 Z) AJ) Z J Z (Fj Z Z Z Z Z (λw=>call70 _ w) (G0 _ _) H.f1 Z ?_);rintro _ w _ (⟨a,rfl,rfl⟩|⟨a,rfl,rfl⟩) d
 ·have H:=d.l2;refine BQ 1 Z Z (AP (EA (GA Z [Aa 12] ⟨Z,trivial⟩ (v:=Aa 12) Z ?_)));exact ⟨[stB ps pd pt x c md false b,diskA pd ({D with f3:=AZ D.f3})],.inl ⟨a,Z,Z⟩,H.perm 2 [1,0] Z Z⟩
 have H:=d.l2;refine BQ 1 Z Z (AP (EA (GA Z [Aa 0] ⟨Z,trivial⟩ (v:=Aa 0) Z ?_)));exact ⟨[stB ps pd pt x c md false b,diskA pd D.fl],.inr ⟨a,Z,Z⟩,H.perm 2 [1,0] Z Z⟩
section
structure StG where
 x:Sup
 B:Nat->Pg
 rs:List Rc
 ptl:List (List UInt8)
 a:Int
 q:Int
 u:Int
 b:Bool
 sure:Nat
def StG.M(G:StG):Nat->Pg:=pgMap (ov G.rs) G.B
def StG.home(G:StG):Prop:=∀n,ov G.rs n=none
structure StX where
 pl:Nat
 pt:Nat
 md:Nat
 mm:Nat
 sL:Sup
 nu:Bool
 hq:Hp
abbrev C7:=Option (A0×Nat)
def Zw(mm:Nat):C7->Value
 | none=>.map none
 | some _=>.map (some mm)
def Abu(mm:Nat)(hq:Hp):C7->List Ah
 | none=>[]
 | some o=>[DN mm o.1 o.2 hq]
abbrev Zx(ps pd pt md:Nat)(x:Sup)(lp:Value)(un:Bool)(mo:Value):Ah:=blk ps [.pointer (some ⟨pd,0,none⟩),.pointer (some ⟨pt,0,none⟩),.int .i64 x.gen,.int .i64 x.epoch,.int .i64 x.pages,.int .i64 x.start,.int .i64 x.len,.int .i64 x.head,.int .i64 x.seq,lp,.map (some md),.bool un,mo] 97
abbrev Zy(pl pd pt:Nat)(sL:Sup)(a q u:Int)(b nu:Bool):Ah:=blk pl [.pointer (some ⟨pd,0,none⟩),.pointer (some ⟨pt,0,none⟩),.int .i64 sL.gen,.int .i64 sL.epoch,.int .i64 sL.pages,.int .i64 sL.start,.int .i64 sL.len,.int .i64 sL.head,.int .i64 sL.seq,.int .i64 a,.int .i64 q,.int .i64 u,.bool b,.bool nu] 191
def PS(ps pd:Nat)(D:Dsk)(G:StG)(own:C7)(X:StX):List Ah:=
 [Zx ps pd X.pt X.md G.x (.pointer (some ⟨X.pl,0,none⟩)) own.isSome (Zw X.mm own),Zy X.pl pd X.pt X.sL G.a G.q G.u G.b X.nu,tblA X.pt,diskA pd D,pgsA X.md (ov G.rs) X.hq,poolA X.hq]++Abu X.mm X.hq own
structure StP(D:Dsk)(G:StG)(own:C7)(X:StX):Prop where
 inv:SInv D G.x G.B G.rs G.ptl G.a G.q G.u G.b G.sure
 l:X.sL.start=G.x.start/\X.sL.len=G.x.len/\X.sL.epoch=G.x.epoch
 ok:X.sL.Ok (D.n:Int)
 nu:X.nu=decide (X.sL.epoch<4294967296)
 own:∀o,own=some o->o.2<=40/\∀n,(o.1 n).isSome=true->(n:Int)<G.x.pages
def stoA(ps pd:Nat)(D:Dsk)(G:StG)(own:C7):Ah:=λh=>∃X,StP D G own X/\seps (PS ps pd D G own X) h
structure Fine(D:Dsk)(G:StG)(m:Nat):Prop where
 clean:Clean D
 b:G.b=false
 ver:∀i,(D.ver i).length<=m
 gen:G.x.gen<=m
 epoch:G.x.epoch<=m
 q:G.q<=m
theorem Fine.le{D:Dsk}{G:StG}{m a:Nat}(h:Fine D G m)(e:m<=a):Fine D G a:=
 ⟨h.clean,h.b,λi=>AdZ (h.ver i) e,by have:=h.gen;omega,by have:=h.epoch;omega,by have:=h.q;omega⟩
variable{z w:World}{Γ:List Ah}{ps pd:Nat}{D:Dsk}{G:StG}{own:C7}
theorem Sep.sto(H:Sep z (stoA ps pd D G own::Γ) w):∃X,StP D G own X/\Sep z (PS ps pd D G own X++Γ) w:=
 H.into (p:=λX=>StP D G own X) (As:=λX=>PS ps pd D G own X) (λ_ q=>q)
theorem Sep.toSto{X:StX}(n:Nat)(H:Sep z Γ w)(b:StP D G own X)(a:Γ.take n=PS ps pd D G own X):Sep z (stoA ps pd D G own::Γ.drop n) w:=
 H.made n (λh q=>⟨X,b,by rwa[a] at q⟩)
def Cb(M:Nat->Pg):C7->Nat->Pg
 | none,n=>M n
 | some o,n=>(o.1 n).getD (M n)
def MV(x:Sup)(B:Nat->Pg):StG:=⟨BF x,B,[],[],0,1,0,false,0⟩
theorem MW(pd:Nat)(D:Dsk)(x:Sup)(B:Nat->Pg)(Gd:List Rc->Prop)(m:Nat)(p:OInv D x B Gd)(c:Clean D)(r:x.gen<=m/\x.epoch<=m)(q:m<=1000000000):
  Aj 30 [V pd] [diskA pd D] (λv G=>∃(ps:Nat) (b:Dsk) (a:List Rc),Gd a/\Fine b (MV x (pgMap (ov a) B)) (m+1)/\b.n=D.n/\v=.tuple #[V ps,Aa 0]/\G=[stoA ps pd b (MV x (pgMap (ov a) B)) none]):=by
 intro z R w H;refine Ret.mono (sopen_c pd D x B Gd p c U U z R w H) ?_;rintro v w' ⟨Γ',⟨ps,l,pt,md,hq,b,a,k,d,g,j,h,rfl,rfl⟩,f⟩;refine ⟨_,⟨ps,b,a,k,⟨g,Z,λi=>by rw[h];simp,?_,?_,?_⟩,j,Z,Z⟩,f.toSto (X:=⟨l,pt,md,0,BF x,decide ((BF x).epoch<4294967296),hq⟩) 6 ⟨d,⟨Z,Z,Z⟩,d.ok,Z,λo e=>(by cases e)⟩ Z⟩
 ·show x.gen+1<=_;omega
 ·show x.epoch+1<=_;omega
 show (1:Int)<=_;omega
theorem OE(ps pd:Nat)(D:Dsk)(G:StG):Aj 39 [V ps] [stoA ps pd D G none] (λv X=>v=Aa 0/\X=[stoA ps pd D G (some (CD,0))]):=by
 intro z R w H;obtain ⟨X,a,H⟩:=H.sto;refine Ret.mono (Cn.at (Xk ps pd X.pt X.md G.x _ _) H 6 [0,1,2,3,4,5] Z Z) ?_;rintro v w' ⟨Γ',⟨rfl,m,rfl⟩,b⟩;have H2:=b.mono 1 (B:=DN m CD 0 X.hq) Z (λh q=>⟨[],0,PgsIn.none _ _,Z,q⟩);have H3:=H2.pick 7 [0,2,3,4,5,6,1] Z;exact ⟨_,⟨Z,Z⟩,H3.toSto (X:=⟨X.pl,X.pt,X.md,m,X.sL,X.nu,X.hq⟩) 7 ⟨a.inv,a.l,a.ok,a.nu,λo e=>by cases e;exact ⟨by omega,λn h=>(by cases h)⟩⟩ Z⟩
theorem Xt(ps pd:Nat)(D:Dsk)(G:StG)(own:C7):Aj 63 [V ps] [stoA ps pd D G own] (λv X=>v=.tuple #[]/\X=[stoA ps pd D G none]):=by
 intro z R w H;obtain ⟨X,c,H⟩:=H.sto;have H2:Sep z (Zx ps pd X.pt X.md G.x (.pointer (some ⟨X.pl,0,none⟩)) own.isSome (Zw X.mm own)::Zy X.pl pd X.pt X.sL G.a G.q G.u G.b X.nu::tblA X.pt::diskA pd D::pgsA X.md (ov G.rs) X.hq::poolA X.hq::R) w:=by
  cases own with
  | none=>exact H
  | some o=>exact H.pick 7 [0,1,2,3,4,5] Z
 refine Ret.mono (Cn.at (Xj ps pd X.pt X.md G.x _ _ _) H2 6 [0,1,2,3,4,5] Z Z) ?_;rintro v w' ⟨Γ',⟨rfl,rfl⟩,d⟩;exact ⟨_,⟨Z,Z⟩,d.toSto (X:=X) 6 ⟨c.inv,c.l,c.ok,c.nu,λo e=>(by cases e)⟩ Z⟩
theorem Xu(ps pd:Nat)(D:Dsk)(G:StG)(own:C7):Aj 78 [V ps] [stoA ps pd D G own] (λv X=>v=.agg #[Aa G.x.gen,Aa G.x.epoch,Aa G.x.pages,Aa G.x.start,Aa G.x.len,Aa G.x.head,Aa G.x.seq]/\X=[stoA ps pd D G own]):=by
 intro z R w H;obtain ⟨X,b,H⟩:=H.sto
 cases own with
 | none=>
  refine Ret.mono (Cn.at (OD ps pd X.pt X.md G.x _ _ _) H 6 [0,1,2,3,4,5] Z Z) ?_;rintro v w' ⟨Γ',⟨rfl,rfl⟩,a⟩;exact ⟨_,⟨Z,Z⟩,a.toSto (X:=X) 6 b Z⟩
 | some o=>
  refine Ret.mono (Cn.at (OD ps pd X.pt X.md G.x _ _ _) H 7 [0,1,2,3,4,5,6] Z Z) ?_;rintro v w' ⟨Γ',⟨rfl,rfl⟩,a⟩;exact ⟨_,⟨Z,Z⟩,a.toSto (X:=X) 7 b Z⟩
theorem Fu(ps pd:Nat)(D:Dsk)(G:StG)(g:A0)(k:Nat)(n:Nat)(t:(n:Int)<G.x.pages)(p:Pg)(hp:p.Ok)(m:Value)(A:Ah)(hA:∀h,A h->rdH 1 m 240 (p.body.map u8) h):
  Aj 41 [V ps,Aa (n:Int),.agg #[Aa p.kind,m]] [stoA ps pd D G (some (g,k)),A] (λv X=>((g n=none/\40<=k)/\v=Aa 16/\X=[stoA ps pd D G (some (g,k)),A])\/(¬(g n=none/\40<=k)/\v=Aa 0/\X=[stoA ps pd D G (some (pgSet g n p,k+(if (g n).isSome then 0 else 1))),A])):=by
 intro z R w H;obtain ⟨X,b,H⟩:=H.sto;obtain ⟨s,f⟩:=b.own _ Z;refine Ret.mono (Cn.at (TZ ps pd X.pt X.md X.mm G.x _ g k X.hq n t p hp m A hA) H 8 [0,6,5,7,1,2,3,4] Z Z) ?_;rintro v w' ⟨Γ',(⟨d,rfl,rfl⟩|⟨d,c,hs,rfl,rfl⟩),u⟩
 ·have H3:=u.pick 8 [0,4,5,6,7,2,1,3] Z
  exact ⟨_,.inl ⟨d,Z,Z⟩,H3.toSto (X:=X) (ps:=ps) (pd:=pd) (D:=D) (G:=G) (own:=some (g,k)) 7 b Z⟩
 have H3:=(u.pick 8 [0,4,5,6,7,2,1,3] Z).mono 4 (B:=pgsA X.md (ov G.rs) c) Z (λh q=>pgsA.le hs h q);refine ⟨_,.inr ⟨d,Z,Z⟩,H3.toSto (X:=⟨X.pl,X.pt,X.md,X.mm,X.sL,X.nu,c⟩) (ps:=ps) (pd:=pd) (D:=D) (G:=G) (own:=some (pgSet g n p,k+(if (g n).isSome then 0 else 1))) 7 ⟨b.inv,b.l,b.ok,b.nu,λo e=>?_⟩ Z⟩;cases e;refine ⟨?_,λi y=>?_⟩
 ·show k+(if (g n).isSome then 0 else 1)<=40
  split
  ·exact s
  rename_i j;have r:g n=none:=by simpa using j
  have:¬40<=k:=λe=>d ⟨r,e⟩;omega
 have a:(pgSet g n p i).isSome=true:=y;unfold pgSet at a;split at a
 ·rename_i e;subst e;exact t
 exact f i a
theorem RF(ps pd:Nat)(D:Dsk)(G:StG)(own:C7)(n:Nat)(g:(n:Int)<G.x.pages)(d:D.f1=0)(q:Pg)(hq:q=Cb G.M own n):
  Aj 21 [V ps,Aa (n:Int)] [stoA ps pd D G own] (λv X=>(q=C5/\v=.tuple #[.agg #[Aa 0,.slice none 0 0],Aa 0]/\X=[stoA ps pd D G own])\/(q.Ok/\∃c,v=.tuple #[.agg #[Aa q.kind,c],Aa 0]/\X=[grow 5 1 c 240 (q.body.map u8),stoA ps pd D G own])):=by
 intro z R w H;obtain ⟨X,b,H⟩:=H.sto
 cases own with
 | none=>
  refine Ret.mono (Cn.at (TX ps pd X.pt X.md G.x _ _ (ov G.rs) X.hq D n g d b.inv.ok q (G.B n) hq (λe=>b.inv.cur g e)) H 6 [0,2,3,4,5,1] Z Z) ?_;rintro v w' ⟨Γ',(⟨a,rfl,rfl⟩|⟨a,c,rfl,rfl⟩),f⟩
  ·have H3:=f.pick 6 [0,5,1,2,3,4] Z
   exact ⟨_,.inl ⟨a,Z,Z⟩,H3.toSto (X:=X) (ps:=ps) (pd:=pd) (D:=D) (G:=G) (own:=none) 6 b Z⟩
  have H3:=f.pick 7 [1,6,2,3,4,5,0] Z;have H4:=H3.toSto (X:=X) (ps:=ps) (pd:=pd) (D:=D) (G:=G) (own:=none) 6 b Z;exact ⟨_,.inr ⟨a,c,Z,Z⟩,H4.pick 2 [1,0] Z⟩
 | some o=>
  refine Ret.mono (Cn.at (TY ps pd X.pt X.md X.mm G.x _ _ (ov G.rs) o.1 o.2 X.hq D n g d b.inv.ok q (G.B n) (by rw[hq];show (o.1 n).getD ((ov G.rs n).getD (G.B n))=_;cases o.1 n<;>rfl) (λe=>b.inv.cur g (by cases a:o.1 n with|none=>rw[a] at e;exact e|some y=>rw[a] at e;cases e))) H 7 [0,2,3,4,6,5,1] Z Z) ?_;rintro v w' ⟨Γ',(⟨a,rfl,rfl⟩|⟨a,c,rfl,rfl⟩),f⟩
  ·have H3:=f.pick 7 [0,6,1,2,3,5,4] Z
   exact ⟨_,.inl ⟨a,Z,Z⟩,H3.toSto (X:=X) (ps:=ps) (pd:=pd) (D:=D) (G:=G) (own:=some o) 7 b Z⟩
  have H3:=f.pick 8 [1,7,2,3,4,6,5,0] Z;have H4:=H3.toSto (X:=X) (ps:=ps) (pd:=pd) (D:=D) (G:=G) (own:=some o) 7 b Z;exact ⟨_,.inr ⟨a,c,Z,Z⟩,H4.pick 2 [1,0] Z⟩
theorem Jo(ps pd:Nat)(D:Dsk)(G:StG)(g:A0)(k m:Nat)(h:Fine D G m)(hm:m<=1000000000):
  Aj 46 [V ps] [stoA ps pd D G (some (g,k))] (λv X=>∃(r:Dsk) (s:StG),Fine r s (m+2)/\r.n=D.n/\(s.M=Cb G.M (some (g,k))/\∀n,(g n).isSome=true->(ov s.rs n).isSome=true)/\(s.x=G.x\/s.x=Ew G.x G.a G.q)/\v=Aa 0/\X=[stoA ps pd r s none]):=by
 intro z R w H;obtain ⟨X,d,H⟩:=H.sto;obtain ⟨a6,a3⟩:=d.own _ Z;have h1:=h.gen;have h2:=h.epoch;have h3:=h.q;have hL:=d.l;have hc:=PN G.x G.a G.q;refine Ret.mono (Cn.at (T3 ps pd X.pt X.pl X.md X.mm G.x X.sL X.nu X.hq g k D G.B G.rs G.ptl G.a G.q G.u G.b G.sure d.inv d.l d.ok d.nu U (λi=>by have:=h.ver i;omega) a3 a6) H 7 [0,1,2,3,4,6,5] Z Z) ?_;rintro v w' ⟨Γ',(⟨h4,rfl,rfl⟩|⟨h4,t,r,x2,B2,p,a2,u2,f,hs,a5,⟨a4,a1⟩,y,a0,j,rfl,rfl⟩|⟨_,c,t,r,x2,B2,p,a7,a2,q2,u2,b2,f,a8,hw,_⟩),H'⟩
 ·subst h4
  have hg:∀n,g n=none:=H.sy 6 (λq=>by obtain ⟨es,clk,h1,h2,_⟩:=q;exact h1.nil_iff.1 h2);exact ⟨_,⟨D,G,h.le U,Z,⟨by funext n;show _=(g n).getD _;rw[hg];rfl,λn hn=>by rw[hg] at hn;cases hn⟩,.inl Z,Z,Z⟩,H'.toSto (X:=X) 6 ⟨d.inv,d.l,d.ok,d.nu,λo e=>(by cases e)⟩ Z⟩
 ·have a9:x2.start=G.x.start/\x2.len=G.x.len/\x2.epoch=G.x.epoch/\x2.gen<=G.x.gen+1/\G.x.gen<=x2.gen:=by
   rcases y with rfl|rfl
   ·exact ⟨Z,Z,Z,by omega,by omega⟩
   exact ⟨Z,Z,Z,by omega,by omega⟩
  refine ⟨_,⟨r,⟨x2,B2,p,[],a2,G.q+1,u2,false,f⟩,⟨a0 h.clean,Z,λi=>by have:=j.2 i;have:=h.ver i;omega,by show x2.gen<=_;omega,by show x2.epoch<=_;omega,by show G.q+1<=_;omega⟩,j.1,⟨?_,a1⟩,y,Z,Z⟩,H'.toSto (X:=⟨X.pl,X.pt,X.md,X.mm,X.sL,X.nu,t⟩) 6 ⟨a5,by show X.sL.start=x2.start/\X.sL.len=x2.len/\X.sL.epoch=x2.epoch;omega,by rw[j.1];exact d.ok,d.nu,λo e=>(by cases e)⟩ Z⟩;show pgMap (ov p) B2=_;rw[a4,Jn];rfl
 rcases hw with g|g
 ·exact absurd h.clean g
 omega
theorem sync_s(ps pd:Nat)(D:Dsk)(G:StG)(m:Nat)(a:Fine D G m):Aj 28 [V ps] [stoA ps pd D G none] (λv X=>v=Aa 0/\Fine D.fl {G with sure:=G.rs.length} m/\X=[stoA ps pd D.fl {G with sure:=G.rs.length} none]):=by
 intro z R w H;obtain ⟨X,c,H⟩:=H.sto;refine Ret.mono (Cn.at (Xs ps pd X.pt X.md G.x _ _ D) H 6 [0,3,1,2,4,5] Z Z) ?_;rintro v w' ⟨Γ',(⟨f,_⟩|⟨_,rfl,rfl⟩),d⟩
 ·exact absurd f a.clean.flb
 have H3:=d.pick 6 [0,2,3,1,4,5] Z;exact ⟨_,⟨Z,⟨a.clean.fl,a.b,λi=>AbV _,a.gen,a.epoch,a.q⟩,Z⟩,H3.toSto (X:=X) 6 ⟨c.inv.flush,c.l,c.ok,c.nu,λo e=>(by cases e)⟩ Z⟩
end
section
theorem IL{a b:UInt32}(h:∀i,i<32->a.toBitVec.getLsbD i=b.toBitVec.getLsbD i):a=b:=UInt32.toBitVec_inj.1 (Ad5 h)
theorem bit1(a:UInt32):a&&&1=0\/a&&&1=1:=by
 have h:(a&&&1).toNat=a.toNat%2:=by rw[AeB];exact Nat.and_one_is_mod _
 rcases Nat.mod_two_eq_zero_or_one a.toNat with q|q
 ·exact .inl (Adn.1 (by rw[h,q];rfl))
 exact .inr (Adn.1 (by rw[h,q];rfl))
theorem Xv(a b:UInt32):(a ^^^ b)>>>1=(a>>>1) ^^^ (b>>>1):=by
 apply IL;intro i c;simp
theorem Xw(a b:UInt32):(a ^^^ b)&&&1=(a&&&1) ^^^ (b&&&1):=by
 apply IL;intro i c;simp only[UInt32.toBitVec_and,Aem,Ad0,Ad1,Bool.and_xor_distrib_right]
theorem T8(K a b:UInt32):((a ^^^ b)>>>1) ^^^ (((a ^^^ b)&&&(1:UInt32))*K)=((a>>>1) ^^^ ((a&&&(1:UInt32))*K)) ^^^ ((b>>>1) ^^^ ((b&&&(1:UInt32))*K)):=by
 rw[Xv,Xw];generalize a>>>1=p;generalize b>>>1=q;have o:(1:UInt32)*K=K:=UInt32.one_mul K;have z:(0:UInt32)*K=0:=UInt32.zero_mul;have e:(1:UInt32) ^^^ 1=0:=AeJ;rcases bit1 a with x|x<;>rcases bit1 b with y|y<;>rw[x,y]<;>simp only[UInt32.xor_zero,AeK,e,o,z]
 ·rw[Adx]
 ·rw[Adx,Adx,UInt32.xor_comm q K]
 rw[Adx,UInt32.xor_comm q K,<-Adx K K,AeJ,AeK]
theorem NX(a b:UInt32):De (a ^^^ b)=De a ^^^ De b:=T8 _ a b
theorem PT{a:UInt32}(h:a&&&1=0):De a=a>>>1:=by
 unfold De;rw[h,UInt32.zero_mul,UInt32.xor_zero]
theorem G6(n:Nat)(c:UInt32):Cy (n+1) c=De (Cy n c):=by rw[Cy]
theorem Fv(c:UInt32):Cy 0 c=c:=by rw[Cy]
theorem IM(n:Nat):∀c:UInt32,Cy (n+1) c=Cy n (De c):=by
 induction n with
 | zero=>intro c;rw[G6,Fv,Fv]
 | succ n ih=>intro c;rw[G6,ih,<-G6]
attribute [local irreducible] De Cy
theorem RG(n:Nat):∀a b:UInt32,Cy n (a ^^^ b)=Cy n a ^^^ Cy n b:=by
 induction n with
 | zero=>intro a b;rw[Fv,Fv,Fv]
 | succ n ih=>intro a b;rw[IM,IM,IM,NX,ih]
theorem OF(a:UInt32)(i:Nat):(a>>>1).toBitVec.getLsbD i=a.toBitVec.getLsbD (1+i):=by simp
theorem Xx{a:UInt32}(h:a.toBitVec.getLsbD 0=false):a&&&1=0:=by
 rcases bit1 a with x|x
 ·exact x
 have e:=congrArg (λu:UInt32=>u.toBitVec.getLsbD 0) x;simp only[UInt32.toBitVec_and,Ad0,h,Bool.false_and] at e;exact absurd e (by decide)
theorem crcIt_hi(n:Nat):∀a:UInt32,(∀i,i<n->a.toBitVec.getLsbD i=false)->n<=32->∀j,j<32->(Cy n a).toBitVec.getLsbD j=a.toBitVec.getLsbD (n+j):=by
 induction n with
 | zero=>intro a _ _ j b;rw[Fv,AcW]
 | succ n ih=>
  intro a h c j b;have hs:=PT (Xx (h 0 U));rw[IM,hs,ih _ (λi d=>by rw[OF];exact h _ U) U j b,OF];congr 1;omega
theorem T9(c:UInt32)(b:UInt8):Cy 8 (c ^^^ b.toUInt32)=(c>>>8) ^^^ Cy 8 ((c.toUInt8 ^^^ b).toUInt32):=by
 have a:∀i,((c>>>8) <<< 8).toBitVec.getLsbD i=(!decide (i<8)&&c.toBitVec.getLsbD i&&decide (i<32)):=λi=>by
  simp only[UInt32.toBitVec_shiftLeft,Aev];simp;by_cases h:i<8
  ·simp[h]
  simp[h,show 8+(i-8)=i by omega,Bool.and_comm]
 have k:∀i,((c.toUInt8 ^^^ b).toUInt32).toBitVec.getLsbD i=(decide (i<8)&&(c.toBitVec.getLsbD i ^^ b.toBitVec.getLsbD i)):=λi=>by
  simp only[UInt8.toBitVec_toUInt32,UInt8.toBitVec_xor,UInt32.toBitVec_toUInt8,BitVec.getLsbD_setWidth,Ad1];by_cases h:i<8
  ·simp[h,show i<32 by omega]
  rw[Aej b.toBitVec i U];simp[h]
 have g:∀i,(b.toUInt32).toBitVec.getLsbD i=(decide (i<8)&&b.toBitVec.getLsbD i):=λi=>by
  simp only[UInt8.toBitVec_toUInt32,BitVec.getLsbD_setWidth];by_cases h:i<8
  ·simp[h,show i<32 by omega]
  rw[Aej b.toBitVec i U];simp
 have e:c ^^^ b.toUInt32=((c>>>8) <<< 8) ^^^ (c.toUInt8 ^^^ b).toUInt32:=by
  apply IL;intro i d;rw[Aem,Aem,Ad1,Ad1,a,k,g];by_cases h:i<8<;>simp[h,d]
 rw[e,RG];congr 1;apply IL;intro j f;rw[crcIt_hi 8 _ (λi d=>by rw[a];simp[d]) U j f,a];simp only[Aev];simp;by_cases h:8+j<32
 ·simp[h]
 rw[Aej c.toBitVec (8+j) U];simp
theorem Ua(c:UInt32)(b:UInt8):Cy 8 (c ^^^ b.toUInt32)=Dy c b:=by
 rw[T9];unfold Dy;have d:=(c.toUInt8 ^^^ b).toNat_lt;rw[Ht U,AeG];congr 2;apply Adn.1;have a:=(c.toUInt8 ^^^ b).toNat_lt;generalize c.toUInt8 ^^^ b=u at a;simp[DS];omega
theorem Ub(c:UInt32):(c&&&1).toNat=c.toNat%2:=by rw[AeB];exact Nat.and_one_is_mod _
theorem I1{c:UInt32}(h:c&&&1=1):De c=(c>>>1) ^^^ 2197175160:=by unfold De;rw[h,UInt32.one_mul]
section
variable{P:Program}{C:World->Prop}{o:Oper}{n:Nat}{ds:List Deferred}{L:List (Nat×Value)}{x y:Operand}{xt yt:TypeId}
theorem Zz{p:UInt32}(b:o.op=.binOp .rem xt x y yt)(a:ev L x=some (u32 p))(c:ev L y=some (.int .u32 2)):Ax P C n ds L o (u32 (p&&&1)):=by
 have:=JJ (P:=P) (C:=C) (n:=n) (ds:=ds) (L:=L) b a c U;have e:((p.toNat:Int).tmod 2)=((p&&&1).toNat:Int):=by rw[Ub,AdQ U];rfl
 rwa[e] at this
theorem ZA{p:UInt32}(b:o.op=.binOp .quo xt x y yt)(a:ev L x=some (u32 p))(c:ev L y=some (.int .u32 2)):Ax P C n ds L o (u32 (p>>>1)):=by
 have:=VK (P:=P) (C:=C) (n:=n) (ds:=ds) (L:=L) b a c U;have hp:=p.toNat_lt;have e:IntKind.u32.wrap ((p.toNat:Int).tdiv 2)=((p>>>1).toNat:Int):=by
  have d:(p>>>1).toNat=p.toNat/2:=by rw[UInt32.toNat_shiftRight];exact Ac0 _ _
  rw[d,Aes U];simp only[IntKind.wrap,IntKind.bits,IntKind.signed];simp only[Bool.false_and,AcI,if_false];omega
 rwa[e] at this
end

theorem RH{xs:List UInt8}(h:xs.length<=252):xs++List.replicate (252-xs.length) 0=(Bc xs).take 252:=by
 unfold Bc;rw[AdK,AbJ h,List.take_replicate];congr 2;omega
theorem Uc{xs:List UInt8}(h:xs.length<=252):(Bc xs).take 252++Dp (AC ((Bc xs).take 252))=sect xs:=by
 unfold sect Lg BD;have a:=Bl (l:=xs) U;rw[Ab6 (by simp[Dp,a]),Acw]

structure RRow where
 dv:Value
 vv:Value
 pvs:List Value
def RRow.cells(r:RRow):List Value:=[r.dv,r.vv]
def Cv(rs:List RRow):List Value:=rs.flatMap RRow.cells
theorem Xy(es:List RRow):(Cv es).length=es.length*2:=by
 induction es with
 | nil=>rfl
 | cons e es ih=>simp only[Cv,Acl,AbH] at ih ⊢;rw[ih];simp[RRow.cells];omega
theorem EY:∀{es:List RRow} {j:Nat} {e:RRow},es[j]?=some e->∀k u,(RRow.cells e)[k]?=some u->(Cv es)[j*2+k]?=some u
 | x::es,0,e,h,k,u,hk=>by
  simp at h;subst h;have hl:=(AbE.1 hk).1;simp only[Cv,Acl];rw[AbU U];simpa using hk
 | x::es,j+1,e,h,k,u,hk=>by
  have:=EY (es:=es) (j:=j) (by simpa using h) k u hk;simp only[Cv,Acl] at this ⊢;rw[AbT (by simp[RRow.cells];omega)];rw[show (j+1)*2+k-(RRow.cells x).length=j*2+k from by simp[RRow.cells];omega];exact this
theorem KG(a b:List RRow):Cv (a++b)=Cv a++Cv b:=by simp[Cv]
def RRow.asn(r:RRow):Ah:=grow 38 1 r.vv r.pvs.length r.pvs
def RRow.last(r:RRow):Value:=r.pvs.getLast?.getD r.dv
structure RRow.Ok(hq:Hp)(f:List UInt8)(r:RRow):Prop where
 len:f.length=256
 d:∃ao c,r.dv=.slice ao 256 c
 l:rdH 1 r.last 256 (f.map u8) hq
theorem RRow.Ok.le{hq a:Hp}{f:List UInt8}{r:RRow}(h:r.Ok hq f)(s:BA hq a):r.Ok a f:=⟨h.len,h.d,h.l.le s⟩
structure RdX where
 lv:Value
 rows:List RRow
 hq:Hp
def RdP(n:Nat)(F:Nat->List UInt8)(m:Nat)(rows:List RRow)(hq:Hp):Prop:=rows.length=n/\(1<=n/\n<=4096)/\∀(i:Nat) (r:RRow),rows[i]?=some r->r.Ok hq (F i)/\r.pvs.length<=m
def Wa(pr n:Nat)(lv:Value)(rows:List RRow)(hq:Hp):List Ah:=
 [blk pr [lv,.int .i64 0,.int .i64 0,.int .i64 0,.int .i64 0,.int .i64 (-1)] 133,grow 135 2 lv n (Cv rows),poolA hq,seps (rows.map RRow.asn)]
def rdkA(pr n:Nat)(F:Nat->List UInt8)(m:Nat):Ah:=λh=>∃X:RdX,RdP n F m X.rows X.hq/\seps (Wa pr n X.lv X.rows X.hq) h
theorem Sep.rk{z w:World}{Γ:List Ah}{a n m:Nat}{F:Nat->List UInt8}(H:Sep z (rdkA a n F m::Γ) w):∃(b:Value) (rows:List RRow) (hq:Hp),RdP n F m rows hq/\Sep z (Wa a n b rows hq++Γ) w:=by
 obtain ⟨X,c,H⟩:=H.into (p:=λX:RdX=>RdP n F m X.rows X.hq) (As:=λX=>Wa a n X.lv X.rows X.hq) (λ_ q=>q);exact ⟨_,_,_,c,H⟩
theorem Sep.toRk{z w:World}{Γ:List Ah}{c n m:Nat}{F:Nat->List UInt8}{b:Value}{rows:List RRow}{hq:Hp}(H:Sep z (Wa c n b rows hq++Γ) w)(d:RdP n F m rows hq):Sep z (rdkA c n F m::Γ) w:=
 H.shut.mono 0 Z (λh a=>⟨⟨b,rows,hq⟩,d,a⟩)
theorem MX{rows:List RRow}{i:Nat}{r:RRow}(b:rows[i]?=some r){h:Hp}(hs:seps (rows.map RRow.asn) h):rdH 1 r.vv r.pvs.length r.pvs h:=by
 obtain ⟨h',c,a⟩:=DZ hs (i:=i) (A:=r.asn) (by rw[AbY,b];rfl);exact (grow.rd c).le a
theorem Ud{A:Ah}{E:List Ah}{h:Hp}(hs:seps (A::E) h):seps [A,seps E] h:=CF (As:=[seps E]) (Bs:=[A]) (HR (As:=E) (Γ:=[A]) (HW hs))
theorem Ls{A:Ah}{E:List Ah}{h:Hp}(hs:seps [A,seps E] h):seps (A::E) h:=CF (As:=E) (Bs:=[A]) (GC (CF (As:=[A]) (Bs:=[seps E]) hs))
theorem MY{z w:World}{Γ:List Ah}{rows:List RRow}{i:Nat}{r:RRow}(a:rows[i]?=some r)(H:Sep z (seps (rows.map RRow.asn)::Γ) w):Sep z (r.asn::seps ((rows.map RRow.asn).eraseIdx i)::Γ) w:=by
 have H1:Sep z (seps [r.asn,seps ((rows.map RRow.asn).eraseIdx i)]::Γ) w:=H.mono 0 Z (λh hs=>Ud (Hr hs i (by rw[AbY,a];rfl)));exact H1.opened
theorem Jp{z w:World}{Γ:List Ah}{rows:List RRow}{i:Nat}(r:RRow)(a:i<rows.length)(H:Sep z (r.asn::seps ((rows.map RRow.asn).eraseIdx i)::Γ) w):Sep z (seps ((rows.set i r).map RRow.asn)::Γ) w:=by
 have H1:Sep z (seps [r.asn,seps ((rows.map RRow.asn).eraseIdx i)]::Γ) w:=Sep.shut (As:=[r.asn,seps ((rows.map RRow.asn).eraseIdx i)]) H;refine H1.mono 0 Z (λh hs=>?_);rw[AeD];exact Lf i (by rw[AbN];exact a) (Ls hs)
theorem RI{z w:World}{Γ:List Ah}{rows:List RRow}(r:RRow)(H:Sep z (r.asn::seps (rows.map RRow.asn)::Γ) w):Sep z (seps ((rows++[r]).map RRow.asn)::Γ) w:=by
 have H1:Sep z (seps [r.asn,seps (rows.map RRow.asn)]::Γ) w:=Sep.shut (As:=[r.asn,seps (rows.map RRow.asn)]) H;refine H1.mono 0 Z (λh hs=>?_);rw[Ab7];exact HW (Ls hs)

def Ey(F:Nat->List UInt8)(a:Nat)(bs:List UInt8)(j:Nat):Nat->List UInt8:=λi=>if a<=i/\i<a+j then (bs.drop (256*(i-a))).take 256 else F i
theorem ZB(F:Nat->List UInt8)(a:Nat)(bs:List UInt8):Ey F a bs 0=F:=by
 funext i;unfold Ey;rw[if_neg U]
theorem PU(F:Nat->List UInt8)(a:Nat)(bs:List UInt8)(j:Nat):Ey F a bs (j+1)=BE (Ey F a bs j) (a+j) ((bs.drop (256*j)).take 256):=by
 funext i;unfold BE Ey;by_cases h:i=a+j
 ·subst h;rw[if_pos U,if_pos Z,AcV]
 rw[if_neg h];by_cases q:a<=i/\i<a+j
 ·rw[if_pos U,if_pos q]
 rw[if_neg U,if_neg q]
theorem Ue(F:Nat->List UInt8)(a:Nat){bs:List UInt8}(h:bs.length=256):Ey F a bs 1=BE F a bs:=by
 rw[PU,ZB,Aeh,Ab1,AbJ U,Aee]
theorem RdP.set{n m c:Nat}{F:Nat->List UInt8}{rows:List RRow}{hq:Hp}(h:RdP n F m rows hq){i:Nat}{p:List UInt8}{r:RRow}(f:r.Ok hq p)(g:m<=c)(b:r.pvs.length<=c):RdP n (BE F i p) c (rows.set i r) hq:=by
 refine ⟨by rw[List.length_set];exact h.1,h.2.1,λj q a=>?_⟩;by_cases e:j=i
 ·subst e
  have d:=(AbE.1 a).1;rw[List.length_set] at d;rw[AcJ d] at a;simp only[AbL] at a;subst a;rw[Do];exact ⟨f,b⟩
 rw[Aef (Ada e)] at a;rw[upf_other F p e];exact ⟨(h.2.2 j q a).1,AdZ (h.2.2 j q a).2 g⟩
theorem RdP.le{n m:Nat}{F:Nat->List UInt8}{rows:List RRow}{hq a:Hp}(h:RdP n F m rows hq)(s:BA hq a):RdP n F m rows a:=⟨h.1,h.2.1,λi r b=>⟨(h.2.2 i r b).1.le s,(h.2.2 i r b).2⟩⟩
end
def putI:List ImE->ImE->List ImE
 | [],x=>[x]
 | y::l,x=>if y.1.num<x.1.num then y::putI l x else if y.1.num=x.1.num then x::l else x::y::l
theorem KH(x:ImE):∀{es:List ImE} {i:Nat},(∀(j:Nat) (y:ImE),j<i->es[j]?=some y->y.1.num<x.1.num)->i<=es.length->(∀y,es[i]?=some y->x.1.num<y.1.num)->putI es x=es.take i++[x]++es.drop i
 | [],0,_,_,_=>rfl
 | y::l,0,_,_,h3=>by
  have:=h3 y Z;simp only[putI];rw[if_neg U,if_neg U];rfl
 | y::l,i+1,h1,h2,h3=>by
  have:=h1 0 y U Z;simp only[putI];rw[if_pos this,KH x (es:=l) (i:=i) (λj z b a=>h1 (j+1) z U (by simpa using a)) (by simpa using h2) (λz a=>h3 z (by simpa using a))];rfl
theorem OG(x:ImE):∀{es:List ImE} {i:Nat} {z:ImE},(∀(j:Nat) (y:ImE),j<i->es[j]?=some y->y.1.num<x.1.num)->es[i]?=some z->z.1.num=x.1.num->putI es x=es.take i++[x]++es.drop (i+1)
 | [],_,_,_,h,_=>by simp at h
 | y::l,0,z,_,h2,h3=>by
  simp at h2;subst h2;simp only[putI];rw[if_neg U,if_pos h3];rfl
 | y::l,i+1,z,h1,h2,h3=>by
  have:=h1 0 y U Z;simp only[putI];rw[if_pos this,OG x (es:=l) (i:=i) (λj z b a=>h1 (j+1) z U (by simpa using a)) (by simpa using h2) h3];rfl
theorem putI_mem{x e:ImE}:∀{es:List ImE},e∈putI es x->e=x\/e∈es
 | [],h=>by simp[putI] at h;exact .inl h
 | y::l,h=>by
  simp only[putI] at h;split at h
  ·rcases Acb.1 h with q|q
   ·exact .inr (by simp[q])
   rcases putI_mem q with r|r
   ·exact .inl r
   exact .inr (Adh _ r)
  split at h
  ·rcases Acb.1 h with q|q
   ·exact .inl q
   exact .inr (Adh _ q)
  rcases Acb.1 h with q|q
  ·exact .inl q
  exact .inr q
theorem putI_len(x:ImE):∀es:List ImE,(putI es x).length<=es.length+1
 | []=>by simp[putI]
 | y::l=>by
  have:=putI_len x l;simp only[putI];split
  ·simp only[AbI];omega
  split<;>simp
def imeOk(hq:Hp)(e:ImE):Prop:=e.1.Ok/\rdH 1 e.2 240 (e.1.body.map u8) hq
theorem imeOk.le{hq a:Hp}{e:ImE}(h:imeOk hq e)(s:BA hq a):imeOk a e:=⟨h.1,h.2.le s⟩
theorem imesOk.of{hq:Hp}{es:List ImE}(h:∀e∈es,imeOk hq e):imesOk es hq:=λe a=>by rw[(h e a).1.2.2];exact (h e a).2

def Ij(F:Nat->List UInt8)(a:Nat)(ss:List (List UInt8)):Nat->List UInt8:=λi=>if a<=i then (ss[i-a]?).getD (F i) else F i
theorem OH{F:Nat->List UInt8}{a:Nat}{b:List (List UInt8)}{j:Nat}{s:List UInt8}(h:b[j]?=some s):Ij F a b (a+j)=s:=by
 unfold Ij;rw[if_pos U,AcV,h];rfl
theorem HB{F:Nat->List UInt8}{a:Nat}{b:List (List UInt8)}{i:Nat}(h:i<a\/a+b.length<=i):Ij F a b i=F i:=by
 unfold Ij;rcases h with h|h
 ·rw[if_neg U]
 split
 ·rw[Ab5 U];rfl
 rfl
theorem Xz{F:Nat->List UInt8}{a:Nat}{bs:List UInt8}{b:List (List UInt8)}(h:bs=b.flatten)(hs:∀s∈b,s.length=256):Ey F a bs b.length=Ij F a b:=by
 have c:∀(b:List (List UInt8)) (j:Nat) (s:List UInt8),(∀s∈b,s.length=256)->b[j]?=some s->(b.flatten.drop (256*j)).take 256=s:=by
  intro b
  induction b with
  | nil=>intro j s _ h;simp at h
  | cons t b ih=>
   intro j s hs h;have d:=hs t O
   cases j with
   | zero=>simp at h;subst h;simp only[Adk,Aeh,Ab1];rw[Acs d]
   | succ j=>
    simp only[Adk];rw[Aco,Ab6 U,Ab3,d,show 256*(j+1)-256=256*j by omega];exact ih j s (λs h=>hs s (by simp[h])) (by simpa using h)
 subst h;funext i;unfold Ey Ij;by_cases q:a<=i
 ·rw[if_pos q]
  by_cases r:i<a+b.length
  ·rw[if_pos ⟨q,r⟩]
   have e:b[i-a]?=some (b[i-a]'U):=AbF U;rw[e,c b (i-a) _ hs e];rfl
  rw[if_neg U,Ab5 U];rfl
 rw[if_neg q,if_neg U]
section
def Lt(v:Value)(k:Nat)(xs:List Value):Ah:=λh=>∃b,v=.slice (some ⟨b,0,none⟩) k k/\rdH 1 v k xs h
section
variable{P:Program}{o:Oper}{n:Nat}{ds:List Deferred}{L:List (Nat×Value)}{x y:Operand}{z w:World}{Γ:List Ah}
theorem Uf{w:World}{t e:TypeId}{C:Array Value}{b n c:Nat}(d:w.heap[b]?=some (.cells C e (0,0)))(g:P.underlying t=some (.slice e))(f:P.underlying e=some (.int .u8)):
  (convert t t (.slice (some ⟨b,0,none⟩) n c)).run P w=.ok (.slice (some ⟨b,0,none⟩) n c) (w.freeze ⟨b,C.size,none⟩ 1):=by
 have a:w.shape? b=some (e,C.size):=by unfold World.shape?;rw[d]
 simp[convert,run_underlying g,run_underlying f,markStringish,a]
theorem MZ(i:Nat){t e:TypeId}{b k:Nat}{cs:List Value}(H:Sep z Γ w)(f:Γ[i]?=some (blk b cs e))(p:o.op=.convert t t x)(ht:P.underlying t=some (.slice e))(r:P.underlying e=some (.int .u8))
  (v:ev L x=some (.slice (some ⟨b,0,none⟩) k k))(y:k=cs.length/\k<=9223372036854775807):BX P n ds L o w (λv' w'=>v'=.slice (some ⟨b,0,none⟩) k k/\Sep z (Γ.set i (Lt (.slice (some ⟨b,0,none⟩) k k) k cs)) w'):=λa hF=>by
 have g:=H.bk i f;have l:=Uf (P:=P) (w:=w) (n:=k) (c:=k) g ht r;have hm:(w.freeze ⟨b,cs.toArray.size,none⟩ 1).heap[b]?=some (.cells cs.toArray e (cs.toArray.size,cs.toArray.size+1)):=by
  unfold World.freeze;rw[if_neg (by decide)];simp[Adb,g]
 have d:∀q,q≠b->(w.freeze ⟨b,cs.toArray.size,none⟩ 1).heap[q]?=w.heap[q]? :=λq hq=>by
  unfold World.freeze;rw[if_neg (by decide)];simp[Adb,Ada hq]
 refine ⟨.slice (some ⟨b,0,none⟩) k k,w.freeze ⟨b,cs.toArray.size,none⟩ 1,?_,Z,?_⟩
 ·simp only[execOp,p,hF.ev v]
  simp[AbW,l,go_sem]
 have H2:=H.write i f (o':=.cells cs.toArray e (cs.toArray.size,cs.toArray.size+1)) (w':=w.freeze ⟨b,cs.toArray.size,none⟩ 1) Z Z Z hm d;have m:(Γ.set i (bk b (.cells cs.toArray e (cs.toArray.size,cs.toArray.size+1))))[i]?=some (bk b (.cells cs.toArray e (cs.toArray.size,cs.toArray.size+1))):=AcJ (AbE.1 f).1;have H3:=H2.mono i (B:=Lt (.slice (some ⟨b,0,none⟩) k k) k cs) m (λh q=>⟨b,Z,_,_,Z,Ab9 _,y.2,by omega,λj u s=>⟨b,0,Z,?_⟩⟩)
 ·rwa[Ad2] at H3
 exact ⟨cs.toArray,e,_,q,by simpa using s⟩
def bsA(e:TypeId)(v:Value)(xs:List UInt8):Ah:=λh=>Lt v xs.length (xs.map u8) h\/grow e 1 v xs.length (xs.map u8) h
def pmA(e:TypeId)(xs ys:List UInt8)(u:Value)(j:Nat):Ah:=λh=>(j=0/\bsA e u xs h)\/(0<j/\grow e 1 u (xs.length+j) ((xs++ys.take j).map u8) h)
theorem RJ{t e:TypeId}{zv:Value}{by_ k:Nat}{u s:Value}{xs:List UInt8}{b:UInt8}(H:Sep z (grow e 1 u k (xs.map u8)::Γ) w)(h:o.op=.call {callee:=.builtin .append,args:= #[x,y],argTypes:= #[t,t]})
  (m:P.underlying t=some (.slice e))(i:Elt P e zv 1 by_)(j:ev L x=some u)(p:ev L y=some s)(c:Rd 1 s 1 [u8 b] w)(f:(k+1)*by_<=140737488355328):
  BX P n ds L o w (λd w'=>Sep z (grow e 1 d (k+1) ((xs++[b]).map u8)::Γ) w'):=λa l=>by
 obtain ⟨d,w',g,H2⟩:=AO 0 H Z h m i j p c (by simp[u8,Value.oneCell']) f a l;refine ⟨d,w',g,?_⟩;rw[Ab7];exact H2
theorem RK{t e:TypeId}{zv:Value}{by_ j:Nat}{u s:Value}{xs ys:List UInt8}{b:UInt8}(H:Sep z (pmA e xs ys u j::Γ) w)(p:o.op=.call {callee:=.builtin .append,args:= #[x,y],argTypes:= #[t,t]})
  (ht:P.underlying t=some (.slice e))(v:Elt P e zv 1 by_)(hx:ev L x=some u)(m:ev L y=some s)(d:Rd 1 s 1 [u8 b] w)(hb:ys[j]?=some b)(f:(xs.length+(j+1))*by_<=140737488355328):
  BX P n ds L o w (λk w'=>Sep z (grow e 1 k (xs.length+(j+1)) ((xs++ys.take (j+1)).map u8)::Γ) w'):=by
 have l:xs++ys.take j++[b]=xs++ys.take (j+1):=by rw[AbZ,hb];simp
 obtain ⟨c,H1⟩:=H.ex 0 (σ:=Bool) (B:=λc=>match c with
  | true=>λh=>j=0/\Lt u xs.length (xs.map u8) h
  | false=>grow e 1 u (xs.length+j) ((xs++ys.take j).map u8)) Z (λh q=>by
   rcases q with ⟨g,q|q⟩|⟨_,q⟩
   ·exact ⟨true,g,q⟩
   ·subst g;exact ⟨false,by simpa using q⟩
   exact ⟨false,q⟩)
 cases c with
 | true=>
  have g:j=0:=H1.sy 0 (·.1);subst g;have H3:Sep z (Lt u xs.length (xs.map u8)::Γ) w:=H1.mono 0 Z (λh q=>q.2);obtain ⟨i,rfl⟩:∃i,u=.slice (some ⟨i,0,none⟩) xs.length xs.length:=H3.sy 0 (λq=>by obtain ⟨i,e0,_⟩:=q;exact ⟨i,e0⟩);intro a hF;obtain ⟨k,w',hr,H2⟩:=Li H3 p ht v hx m (H3.rv 0 (λq=>by obtain ⟨_,_,r⟩:=q;exact r)) d U (by simp[u8,Value.oneCell']) (by simpa using f) a hF;refine ⟨k,w',hr,?_⟩;rw[Ac3,Acw] at l;rw[<-l,Ab7];exact H2.pick 2 [0] Z
 | false=>
  have H3:Sep z (grow e 1 u (xs.length+j) ((xs++ys.take j).map u8)::Γ) w:=H1;have:=RJ (n:=n) (ds:=ds) H3 p ht v hx m d (by simpa [Ac8] using f);rw[l] at this;exact this
theorem Ug{e:TypeId}{xs ys:List UInt8}{u:Value}(H:Sep z (bsA e u xs::Γ) w):Sep z (pmA e xs ys u 0::Γ) w:=H.mono 0 Z (λh q=>.inl ⟨Z,q⟩)
theorem XA{e:TypeId}{xs ys:List UInt8}{u:Value}{j:Nat}(H:Sep z (grow e 1 u (xs.length+(j+1)) ((xs++ys.take (j+1)).map u8)::Γ) w):Sep z (pmA e xs ys u (j+1)::Γ) w:=H.mono 0 Z (λh q=>.inr ⟨by omega,q⟩)
theorem ZC{e:TypeId}{xs ys:List UInt8}{u:Value}{j:Nat}(b:0<j)(a:j=ys.length)(H:Sep z (pmA e xs ys u j::Γ) w):Sep z (grow e 1 u (xs++ys).length ((xs++ys).map u8)::Γ) w:=H.mono 0 Z (λh q=>by
 rcases q with q|q
 ·exact absurd q.1 U
 have:=q.2;rw[AbJ U] at this;rw[AbH,<-a];exact this)
def pgA(e:TypeId)(v:Value)(xs:List UInt8)(i:Nat):Ah:=λh=>(i=0/\bsA e v xs h)\/(0<i/\grow e 1 v xs.length (xs.map u8) h)
theorem pgA.bs{e:TypeId}{v:Value}{xs:List UInt8}{i:Nat}{h:Hp}(q:pgA e v xs i h):bsA e v xs h:=by
 rcases q with q|q
 ·exact q.2
 exact .inr q.2
theorem pgA.gr{e:TypeId}{v:Value}{xs:List UInt8}{i:Nat}{h:Hp}(a:0<i)(q:pgA e v xs i h):grow e 1 v xs.length (xs.map u8) h:=by
 rcases q with q|q
 ·exact absurd q.1 U
 exact q.2
end
end
set_option linter.unusedSimpArgs false
def bw(F:Nat->Bool)(k:Nat):BitVec 64:=(BitVec.ofBoolListLE ((List.range 64).map λj=>F (64*k+j))).cast O
theorem DC(F:Nat->Bool)(k j:Nat)(h:j<64):(bw F k).getLsbD j=F (64*k+j):=by
 unfold bw;rw[BitVec.getLsbD_cast,BitVec.getLsbD_ofBoolListLE];simp[List.getD,h]
theorem Ka{F:Nat->Bool}{k:Nat}{x:BitVec 64}(h:∀j,j<64->x.getLsbD j=F (64*k+j)):x=bw F k:=
 Ad5 λj a=>by rw[h j a,DC _ _ _ a]
theorem AaS(F G:Nat->Bool)(k:Nat):bw F k|||bw G k=bw (λp=>F p||G p) k:=Ka λj a=>by
 rw[BitVec.getLsbD_or,DC _ _ _ a,DC _ _ _ a]
def DU(m:Nat):BitVec 64:=BitVec.twoPow 64 m
theorem ZD(F:Nat->Bool)(p k:Nat):(if p/64=k then bw F k|||DU (p%64) else bw F k)=bw (λq=>F q||decide (q=p)) k:=by
 refine Ka λj a=>?_;split
 ·rename_i e
  rw[BitVec.getLsbD_or,DC _ _ _ a,DU,Aeb];congr 1;rw[Ab0];simp;omega
 rename_i e;rw[DC _ _ _ a];have:¬(64*k+j=p):=by omega
 simp[this]
theorem ZE(F:Nat->Bool)(p k:Nat):(if p/64=k then bw F k&&& ~~~(DU (p%64)) else bw F k)=bw (λq=>F q && !decide (q=p)) k:=by
 refine Ka λj a=>?_;split
 ·rename_i e
  rw[Ad0,DC _ _ _ a,BitVec.getLsbD_not,DU,Aeb];congr 1;rw[Ab0];simp;omega
 rename_i e;rw[DC _ _ _ a];have:¬(64*k+j=p):=by omega
 simp[this]
theorem ZF(F:Nat->Bool)(p:Nat):(bw F (p/64))>>>(p%64)&&&1#64=if F p then 1#64 else 0#64:=by
 refine Ad5 λj b=>?_;rw[Ad0,BitVec.getLsbD_ushiftRight];have a:∀j,(1#64).getLsbD j=decide (j=0):=λj=>by
  rw[show (1#64)=BitVec.twoPow 64 0 from Z,Aeb,Ab0];simp;omega
 by_cases h:j=0
 ·subst h
  rw[DC _ _ _ U,a,show 64*(p/64)+(p%64+0)=p by omega];cases F p<;>simp
 rw[a];have:(if F p then 1#64 else 0#64).getLsbD j=false:=by
  split
  ·rw[a];simp[h]
  simp
 rw[this];simp[h]
theorem bw_zero{F:Nat->Bool}{k:Nat}:bw F k=0#64↔∀j,j<64->F (64*k+j)=false:=by
 constructor
 ·intro h j a;rw[<-DC F k j a,h];simp
 intro h;exact (Ka λj a=>by rw[h j a];simp).symm

def cnt(F:Nat->Bool)(a:Nat):Nat->Nat
 | 0=>0
 | n+1=>cnt F a n+(F (a+n)).toNat
theorem G7(F:Nat->Bool)(a m n:Nat):cnt F a (m+n)=cnt F a m+cnt F (a+m) n:=by
 induction n with
 | zero=>rfl
 | succ n ih=>rw[<-Ac8];simp only[cnt];rw[ih,show a+(m+n)=a+m+n by omega];omega
def Ch(w:Nat):List Nat->Nat
 | []=>0
 | d::l=>d+2^w*Ch w l
def evN:List Nat->List Nat
 | a::_::l=>a::evN l
 | _=>[]
def Gq:List Nat->List Nat
 | _::b::l=>b::Gq l
 | _=>[]
theorem RL(k x y a b:Nat)(d:a<2^k)(c:b<2^k):(a+2^k*x)&&&(b+2^k*y)=(a&&&b)+2^k*(x&&&y):=by
 have f:((a+2^k*x)&&&(b+2^k*y))%2^k=a&&&b:=by
  rw[Nat.and_mod_two_pow,AdW,AdW,AcN d,AcN c]
 have hp:0<2^k:=AdX k;have e:((a+2^k*x)&&&(b+2^k*y))/2^k=x&&&y:=by
  rw[Nat.and_div_two_pow,AdN _ _ hp,AdN _ _ hp,AdO d,AdO c,AcW,AcW]
 have:=Nat.mod_add_div ((a+2^k*x)&&&(b+2^k*y)) (2^k);rw[f,e] at this;exact this.symm
theorem Kb(w:Nat):∀l:List Nat,l.length%2=0->(∀d∈l,d<2^w)->Ch w l&&&Ch (2*w) (List.replicate (l.length/2) (2^w-1))=Ch (2*w) (evN l)
 | [],_,_=>by simp[Ch,evN]
 | [_],h,_=>by simp at h
 | a::b::l,h,hd=>by
  have ih:=Kb w l (by simp at h;omega) (λd g=>hd d (by simp[g]));have j:=hd a O;have f:=hd b O;have e:(2:Nat)^(2*w)=2^w*2^w:=by rw[<-Nat.pow_add];congr 1;omega
  have hp:0<2^w:=AdX w;simp only[Ch,evN];rw[show (a::b::l).length/2=l.length/2+1 by simp;omega,List.replicate_succ];simp only[Ch];have c:a+2^w*b<2^(2*w):=by
   rw[e];have:2^w*(b+1)<=2^w*2^w:=AdA _ f;rw[Adw] at this;omega
  have k:(2^w-1)<2^(2*w):=by
   rw[e];have:2^w*1<=2^w*2^w:=AdA _ hp;omega
  have i:a+2^w*(b+2^w*Ch w l)=(a+2^w*b)+2^(2*w)*Ch w l:=by
   rw[e,Adw,Nat.mul_assoc];omega
  rw[i,RL _ _ _ _ _ c k,ih,Aek,AdW,AcN j]
theorem M1(w:Nat):∀(l:List Nat) (d:Nat),Ch w (l++[d])=Ch w l+2^(w*l.length)*d
 | [],d=>by simp[Ch]
 | a::l,d=>by
  simp only[Ac9,Ch,M1 w l d,AbI];rw[Adw,<-Nat.mul_assoc,<-Nat.pow_add,show w+w*l.length=w*(l.length+1) by rw[Adw];omega];omega
theorem OI(w a:Nat)(l:List Nat)(h:a<2^w):Ch w (a::l)/2^w=Ch w l:=by
 simp only[Ch];rw[AdN _ _ (AdX w),AdO h,AcW]
theorem M3(w:Nat)(l:List Nat):Ch w (l++[0])=Ch w l:=by rw[M1];simp
theorem KI(w:Nat):∀(l m:List Nat),l.length=m.length->Ch w l+Ch w m=Ch w (List.zipWith (·+·) l m)
 | [],[],_=>rfl
 | a::l,b::m,h=>by
  simp only[List.zipWith,Ch];rw[<-KI w l m (by simpa using h),Adw];omega
 | [],_::_,h=>by simp at h
 | _::_,[],h=>by simp at h
theorem KJ:∀l:List Nat,(evN l).length=l.length/2
 | []=>rfl
 | [_]=>by simp[evN]
 | a::b::l=>by simp only[evN,AbI,KJ l];omega
theorem KK:∀l:List Nat,(Gq l).length=l.length/2
 | []=>rfl
 | [_]=>by simp[Gq]
 | a::b::l=>by simp only[Gq,AbI,KK l];omega
theorem Jq:∀(a:Nat) (l:List Nat),(a::l).length%2=0->evN (l++[0])=Gq (a::l)
 | a,[],h=>by simp at h
 | a,[b],_=>by simp[evN,Gq]
 | a,b::c::l,h=>by
  simp only[Ac9,evN,Gq];rw[Jq c l (by simp at h ⊢;omega)]
theorem evN_mem:∀(l:List Nat),∀d∈evN l,d∈l
 | [],d,h=>by simp[evN] at h
 | [_],d,h=>by simp[evN] at h
 | a::b::l,d,h=>by
  simp only[evN,Acb] at h;rcases h with rfl|h
  ·simp
  simp[evN_mem l d h]
theorem odN_mem:∀(l:List Nat),∀d∈Gq l,d∈l
 | [],d,h=>by simp[Gq] at h
 | [_],d,h=>by simp[Gq] at h
 | a::b::l,d,h=>by
  simp only[Gq,Acb] at h;rcases h with rfl|h
  ·simp
  simp[odN_mem l d h]
def psm(l:List Nat):List Nat:=List.zipWith (·+·) (evN l) (Gq l)
theorem KL(l:List Nat):(psm l).length=l.length/2:=by simp[psm,KJ,KK]
theorem IN:∀l:List Nat,l.length%2=0->(psm l).sum=l.sum
 | [],_=>rfl
 | [_],h=>by simp at h
 | a::b::l,h=>by
  have:=IN l (by simp at h;omega);simp only[psm,evN,Gq,List.zipWith,List.sum_cons] at this ⊢;omega
theorem M4{c d:Nat}:∀(l m:List Nat),(∀x∈l,x<=c)->(∀x∈m,x<=d)->∀x∈List.zipWith (·+·) l m,x<=c+d
 | [],_,_,_,x,h=>by simp at h
 | _::_,[],_,_,x,h=>by simp at h
 | a::l,b::m,h1,h2,x,h=>by
  simp only[List.zipWith,Acb] at h;rcases h with rfl|h
  ·have:=h1 a O;have:=h2 b O;omega
  exact M4 l m (λx e=>h1 x (by simp[e])) (λx e=>h2 x (by simp[e])) x h
theorem M5(l:List Nat)(c:Nat)(h:∀d∈l,d<=c):∀d∈psm l,d<=c+c:=
 M4 _ _ (λx a=>h x (evN_mem l x a)) (λx a=>h x (odN_mem l x a))
def OJ(w n:Nat):Nat:=Ch (2*w) (List.replicate n (2^w-1))
theorem ZG(w:Nat)(l:List Nat)(h:l.length%2=0)(c:∀d∈l,d<2^w):Ch w l/2^w&&&OJ w (l.length/2)=Ch (2*w) (Gq l):=by
 cases l with
 | nil=>simp[Ch,Gq]
 | cons a l=>
  rw[OI _ _ _ (c a O),<-M3,<-Jq a l h];have:=Kb w (l++[0]) (by simp at h ⊢;omega) (λd b=>by
   simp only[Acd,Acu] at b;rcases b with b|rfl
   ·exact c d (by simp[b])
   exact AdX w)
  have e:(l++[0]).length=(a::l).length:=by simp
  rw[e] at this;exact this
theorem M6(w:Nat)(l:List Nat)(h:l.length%2=0)(a:∀d∈l,d<2^w):(Ch w l/2^w&&&OJ w (l.length/2))+(Ch w l&&&OJ w (l.length/2))=Ch (2*w) (psm l):=by
 rw[ZG w l h a,show Ch w l&&&OJ w (l.length/2)=Ch (2*w) (evN l) from Kb w l h a,Ady,KI _ _ _ (by rw[KJ,KK])];rfl
theorem Kc(w:Nat):∀(l:List Nat),(∀d∈l,d<2^w)->Ch w l<2^(w*l.length)
 | [],_=>by simp[Ch]
 | a::l,h=>by
  have:=Kc w l (λd b=>h d (by simp[b]));have c:=h a O;simp only[Ch,AbI];rw[show w*(l.length+1)=w+w*l.length by rw[Adw];omega,Nat.pow_add];have:2^w*(Ch w l+1)<=2^w*2^(w*l.length):=AdA _ this;rw[Adw] at this;omega
def KM(x:BitVec 64):BitVec 64:=
 let a:=(x>>>1&&&6148914691236517205#64)+(x&&&6148914691236517205#64);let b:=(a>>>2&&&3689348814741910323#64)+(a&&&3689348814741910323#64);let c:=(b>>>4+b)&&&1085102592571150095#64;let d:=c+c>>>8;let e:=d+d>>>16
 e+e>>>32
theorem ZH(b:BitVec 64)(m:List Nat)(k:m.length=16)(j:∀d∈m,d<=4)(p:b.toNat=Ch 4 m):((b>>>4+b)&&&1085102592571150095#64).toNat=Ch 8 (psm m):=by
 rw[Ado,AdP,Adi,p,Ac0]
 cases m with
 | nil=>simp at k
 | cons a m=>
  have q:=j a O;rw[OI _ _ _ U,<-M3,KI _ _ _ O];have e:∀d∈List.zipWith (·+·) (m++[0]) (a::m),d<2^4:=λd h=>by
   have:=M4 (c:=4) (d:=4) _ _ (λx i=>by
    simp only[Acd,Acu] at i;rcases i with i|rfl
    ·exact j x (by simp[i])
    omega) j d h
   omega
  have f:(List.zipWith (·+·) (m++[0]) (a::m)).length=16:=by simp at k ⊢;omega
  have g:=Kc 4 _ e;rw[f] at g;rw[AcN g];have n:=Kb 4 _ (by rw[f]) e;rw[f,show Ch (2*4) (List.replicate (16/2) (2^4-1))=1085102592571150095 by decide+kernel] at n;rw[show (1085102592571150095#64).toNat=1085102592571150095 from Z,n];have o:∀(l l':List Nat),evN (List.zipWith (·+·) l l')=List.zipWith (·+·) (evN l) (evN l'):=λl=>by
   induction l using evN.induct with
   | case1 a b l ih=>
    intro l'
    match l' with
    | []=>simp[evN]
    | [_]=>simp[evN]
    | x::y::l'=>simp only[List.zipWith,evN,ih l']
   | case2 l h=>
    intro l'
    match l,l' with
    | [],_=>simp[evN]
    | [_],[]=>simp[evN]
    | [_],_::_=>simp[evN]
    | a::b::l,_=>exact absurd Z (h a b l)
  rw[o,Jq a m (by rw[k]),psm];congr 1;exact List.zipWith_comm_of_comm (λx y=>Ady x y)
theorem KN(c:BitVec 64)(k p x lo a b:Nat)(hp:2^k=p)(i:c.toNat=x)(f:x=lo+p*a)(d:lo<p)(j:x<=b)(g:a<=b)(e:b<9223372036854775808):(c+c>>>k).toNat=x+a:=by
 subst hp;have h:x/2^k=a:=by rw[f,AdN _ _ (AdX k),AdO d,AcW]
 rw[AdP,Adi,Ac0,i,h];exact AcN U
theorem ZI(x y t K:Nat)(e:x=y)(h:y=t+256*K)(b:t<=64)(a:K<=20000000000000000):x<9223372036854775808/\x%128=t:=by omega
theorem ZJ(l h g f e d b a:Nat)(r:l<=8)(t:h<=8)(n:g<=8)(o:f<=8)(u:e<=8)(p:d<=8)(s:b<=8)(q:a<=8)(c:BitVec 64)(k:c.toNat=l+256*h+65536*g+16777216*f+4294967296*e+1099511627776*d+281474976710656*b+72057594037927936*a):
  ((c+c>>>8)+(c+c>>>8)>>>16+((c+c>>>8)+(c+c>>>8)>>>16)>>>32).toNat<9223372036854775808/\((c+c>>>8)+(c+c>>>8)>>>16+((c+c>>>8)+(c+c>>>8)>>>16)>>>32).toNat%128=l+h+g+f+e+d+b+a:=by
 have j:=KN c 8 256 _ l (h+256*g+65536*f+16777216*e+4294967296*d+1099511627776*b+281474976710656*a) 1000000000000000000 Z k U U U U (by decide);have i:=KN (c+c>>>8) 16 65536 _ (l+h+256*(h+g)) (g+f+256*(f+e)+65536*(e+d)+16777216*(d+b)+4294967296*(b+a)+1099511627776*a) 2000000000000000000 (by decide) j U U U U (by decide);have m:=KN (c+c>>>8+(c+c>>>8)>>>16) 32 4294967296 _ (l+h+g+f+256*(h+g+f+e)+65536*(g+f+e+d)+16777216*(f+e+d+b)) (e+d+b+a+256*(d+b+a)+65536*(b+a)+16777216*a) 4000000000000000000 O i (by clear j i k;omega) (by clear j i k;omega) (by clear j i k;omega) (by clear j i k;omega) (by decide);refine ZI _ _ (l+h+g+f+e+d+b+a) ((h+g+f+e+d+b+a)+256*((g+f+e+d+b+a)+256*((f+e+d+b+a)+256*((e+d+b+a)+256*((d+b+a)+256*((b+a)+256*a)))))) m ?_ ?_ ?_
 ·clear j i m k;omega
 ·clear j i m k;omega
 clear j i m k;omega
theorem ZK(c:BitVec 64)(m:List Nat)(e:m.length=8)(a:∀d∈m,d<=8)(b:c.toNat=Ch 8 m):((c+c>>>8)+(c+c>>>8)>>>16+((c+c>>>8)+(c+c>>>8)>>>16)>>>32).toNat<9223372036854775808/\((c+c>>>8)+(c+c>>>8)>>>16+((c+c>>>8)+(c+c>>>8)>>>16)>>>32).toNat%128=m.sum:=by
 match m,e with
 | [m0,m1,m2,m3,m4,m5,m6,m7],_=>
  have:=ZJ m0 m1 m2 m3 m4 m5 m6 m7 (a m0 O) (a m1 O) (a m2 O) (a m3 O) (a m4 O) (a m5 O) (a m6 O) (a m7 O) c (by rw[b];simp only[Ch];omega);refine ⟨this.1,this.2.trans ?_⟩;simp only[List.sum_cons,List.sum_nil];omega
theorem XB(l:List Nat)(g:l.length=64)(j:∀d∈l,d<=1)(x:BitVec 64)(t:x.toNat=Ch 1 l):(KM x).toNat<9223372036854775808/\(KM x).toNat%128=l.sum:=by
 have q:∀d∈l,d<2^1:=λd h=>by have:=j d h;omega
 have e:(psm l).length=32:=by rw[KL,g]
 have c:(psm (psm l)).length=16:=by rw[KL,e]
 have s:(psm (psm (psm l))).length=8:=by rw[KL,c]
 have f:=M5 l 1 j;have b:=M5 _ _ f;have o:=M5 _ _ b;have z:=IN l U;have y:=IN (psm l) U;have r:=IN (psm (psm l)) U;have n:=M6 1 l U q;have k:=M6 2 (psm l) U (λd h=>by have:=f d h;omega);rw[g,show OJ 1 (64/2)=6148914691236517205 by decide+kernel] at n;rw[e,show OJ 2 (32/2)=3689348814741910323 by decide+kernel] at k;have m:=Kc 2 (psm l) (λd h=>by have:=f d h;omega);have i:=Kc 4 (psm (psm l)) (λd h=>by have:=b d h;omega);rw[e] at m;rw[c] at i;have w:((x>>>1&&&6148914691236517205#64)+(x&&&6148914691236517205#64)).toNat=Ch 2 (psm l):=by
  rw[AdP,Ado,Ado,Adi,t,Ac0];rw[show (6148914691236517205#64).toNat=6148914691236517205 from Z,n];exact AcN m
 have u:∀a:BitVec 64,a.toNat=Ch 2 (psm l)->((a>>>2&&&3689348814741910323#64)+(a&&&3689348814741910323#64)).toNat=Ch 4 (psm (psm l)):=λa v=>by
  rw[AdP,Ado,Ado,Adi,v,Ac0];rw[show (3689348814741910323#64).toNat=3689348814741910323 from Z,k];exact AcN i
 have p:=ZH _ _ c b (u _ w);have:=ZK _ _ s o p;rw[<-z,<-y,<-r];exact this
theorem I2:∀l:List Bool,(BitVec.ofBoolListLE l).toNat=Ch 1 (l.map Bool.toNat)
 | []=>rfl
 | b::l=>by
  have ih:=I2 l;simp only[BitVec.ofBoolListLE,Aca,Ch];rw[BitVec.toNat_concat,ih];omega
theorem OK(F:Nat->Bool)(a:Nat):∀n,((List.range n).map λj=>(F (a+j)).toNat).sum=cnt F a n
 | 0=>rfl
 | n+1=>by rw[Ac5,Ab7,List.sum_append,OK F a n];simp[cnt]
theorem KO(F:Nat->Bool)(k:Nat):(KM (bw F k)).toNat<9223372036854775808/\(KM (bw F k)).toNat%128=cnt F (64*k) 64:=by
 have:=XB ((List.range 64).map λj=>(F (64*k+j)).toNat) O (λd h=>by
  simp only[AbP] at h;obtain ⟨j,_,rfl⟩:=h;cases F (64*k+j)<;>simp) (bw F k) (by
   unfold bw;rw[BitVec.toNat_cast,I2,Ac7];rfl)
 rw[OK] at this;exact this
section
def u64(b:BitVec 64):Value:=.int .u64 b.toNat
theorem RM(n:Nat)(h:n<18446744073709551616):IntKind.u64.wrap (n:Int)=n:=by
 simp[IntKind.wrap,IntKind.bits,IntKind.signed];omega
theorem PV(b:BitVec 64):IntKind.u64.wrap (b.toNat:Int)=b.toNat:=RM _ b.isLt
theorem F9(p:BitVec 64):BitVec.ofInt 64 (p.toNat:Int)=p:=by rw[Aeg];simp
section
variable{P:Program}{C:World->Prop}{o:Oper}{a:Act}{w z:World}{Γ:List Ah}{n:Nat}{ds:List Deferred}{L:List (Nat×Value)}{v:Value}{x y:Operand}{xt yt:TypeId}
theorem Abv(p q:BitVec 64):Op.intBits .or .u64 (p.toNat:Int) (q.toNat:Int)=pure (u64 (p|||q)):=by
 have e:Op.intBits .or .u64 (p.toNat:Int) (q.toNat:Int)=pure (.int .u64 (IntKind.u64.wrap ((BitVec.ofInt 64 (p.toNat:Int)|||BitVec.ofInt 64 (q.toNat:Int)).toNat:Int))):=rfl;rw[F9,F9,PV] at e;exact e
theorem AaT(p q:BitVec 64):Op.intBits .and .u64 (p.toNat:Int) (q.toNat:Int)=pure (u64 (p&&&q)):=by
 have e:Op.intBits .and .u64 (p.toNat:Int) (q.toNat:Int)=pure (.int .u64 (IntKind.u64.wrap ((BitVec.ofInt 64 (p.toNat:Int)&&&BitVec.ofInt 64 (q.toNat:Int)).toNat:Int))):=rfl;rw[F9,F9,PV] at e;exact e
theorem ZL(p q:BitVec 64):Op.intBits .andNot .u64 (p.toNat:Int) (q.toNat:Int)=pure (u64 (p&&& ~~~q)):=by
 have e:Op.intBits .andNot .u64 (p.toNat:Int) (q.toNat:Int)=pure (.int .u64 (IntKind.u64.wrap ((BitVec.ofInt 64 (p.toNat:Int)&&& ~~~(BitVec.ofInt 64 (q.toNat:Int))).toNat:Int))):=rfl;rw[F9,F9,PV] at e;exact e
theorem M7{p q:BitVec 64}(f:o.op=.binOp .or xt x y yt)(c:ev L x=some (u64 p))(d:ev L y=some (u64 q)):Ax P C n ds L o (u64 (p|||q)):=λa b w _=>by
 have e:=Abv p q;simp only[execOp,f,b.ev c,b.ev d,u64];simp only[binOp,go_sem,e];rfl
theorem EZ{p q:BitVec 64}(f:o.op=.binOp .and xt x y yt)(c:ev L x=some (u64 p))(d:ev L y=some (u64 q)):Ax P C n ds L o (u64 (p&&&q)):=λa b w _=>by
 have e:=AaT p q;simp only[execOp,f,b.ev c,b.ev d,u64];simp only[binOp,go_sem,e];rfl
theorem Uh{p q:BitVec 64}(f:o.op=.binOp .andNot xt x y yt)(c:ev L x=some (u64 p))(d:ev L y=some (u64 q)):Ax P C n ds L o (u64 (p&&& ~~~q)):=λa b w _=>by
 have e:=ZL p q;simp only[execOp,f,b.ev c,b.ev d,u64];simp only[binOp,go_sem,e];rfl
theorem G8{p q:BitVec 64}(f:o.op=.binOp .add xt x y yt)(c:ev L x=some (u64 p))(d:ev L y=some (u64 q)):Ax P C n ds L o (u64 (p+q)):=λa b w _=>by
 simp only[execOp,f,b.ev c,b.ev d,u64];have e:IntKind.u64.wrap ((p.toNat:Int)+(q.toNat:Int))=((p+q).toNat:Int):=by
  rw[AdP];simp[IntKind.wrap,IntKind.bits,IntKind.signed]
 simp[go_sem,e]
theorem ZM{p q:BitVec 64}(f:o.op=.binOp .mul xt x y yt)(c:ev L x=some (u64 p))(d:ev L y=some (u64 q)):Ax P C n ds L o (u64 (p*q)):=λa b w _=>by
 simp only[execOp,f,b.ev c,b.ev d,u64];have e:IntKind.u64.wrap ((p.toNat:Int)*(q.toNat:Int))=((p*q).toNat:Int):=by
  rw[BitVec.toNat_mul];simp[IntKind.wrap,IntKind.bits,IntKind.signed]
 simp[go_sem,e]
theorem ZN{p:BitVec 64}(a:o.op=.unOp .neg xt x)(b:ev L x=some (u64 p)):Ax P C n ds L o (u64 (-p)):=by
 have:=VP (P:=P) (C:=C) (n:=n) (ds:=ds) (L:=L) a b;have e:IntKind.u64.wrap (0-(p.toNat:Int))=((-p).toNat:Int):=by
  have:=p.isLt;rw[BitVec.toNat_neg];simp[IntKind.wrap,IntKind.bits,IntKind.signed];omega
 rw[e] at this;exact this
theorem Ff{p:BitVec 64}{k:IntKind}{q:Int}{m:Nat}(f:o.op=.binOp .shr xt x y yt)(e:ev L x=some (u64 p))(g:ev L y=some (.int k q))(hq:q=m)(h:m<64):Ax P C n ds L o (u64 (p>>>m)):=λa c w _=>by
 subst hq;simp only[execOp,f,c.ev e,c.ev g,u64];have d:¬((m:Int)<0):=by omega
 have b:min m 64=m:=by omega
 simp[go_sem,Op.shift,IntKind.bits,d,b,Aex]
theorem M8{k:IntKind}{q:Int}{m:Nat}(i:o.op=.binOp .shl xt x y yt)(g:ev L x=some (.int .u64 1))(h:ev L y=some (.int k q))(hq:q=m)(c:m<64):Ax P C n ds L o (u64 (DU m)):=λa d w _=>by
 subst hq;have f:¬((m:Int)<0):=by omega
 have b:min m 64=m:=by omega
 have e:Op.shift .shl .u64 1 k (m:Int)=pure (u64 (DU m)):=by
  have j:(DU m).toNat=2^m:=by unfold DU;rw[BitVec.toNat_twoPow];exact AcN (Nat.pow_lt_pow_right U c)
  unfold Op.shift u64;rw[if_neg f,j];simp only[IntKind.bits,Acg,b];rw[Int.one_mul,<-RM (2^m) (Nat.pow_lt_pow_right (m:=m) (n:=64) (a:=2) U c)];simp
 simp only[execOp,i,d.ev g,d.ev h];simp only[binOp,go_sem,e];rfl
theorem Na{p q:BitVec 64}(e:o.op=.binOp .eql xt x y yt){k:IntKind}(f:Du P xt xt=some k)(c:ev L x=some (u64 p))(g:ev L y=some (u64 q)):Ax P C n ds L o (.bool (decide (p=q))):=λa b w _=>by
 obtain ⟨d,j,i⟩:=EG f;simp only[execOp,e,b.ev c,b.ev g,u64];simp[i,go_sem];rw[Ab0];simp;exact ⟨λh=>Aec U,λh=>by rw[h]⟩
theorem RN{p q:BitVec 64}(g:o.op=.binOp .neq xt x y yt){k:IntKind}(i:Du P xt xt=some k)(c:ev L x=some (u64 p))(f:ev L y=some (u64 q)):Ax P C n ds L o (.bool (decide (p≠q))):=λa b w _=>by
 obtain ⟨d,l,j⟩:=EG i;simp only[execOp,g,b.ev c,b.ev f,u64];simp[j,go_sem];rw[Ab0];simp;exact ⟨λh e=>h (by rw[e]),λh e=>h (Aec U)⟩
theorem AaU{a:TypeId}{p:BitVec 64}(c:o.op=.convert xt a x)(d:Du P xt a=some .i64)(b:ev L x=some (u64 p))(hp:p.toNat<9223372036854775808):Ax P C n ds L o (Aa p.toNat):=by
 have:=HQ (P:=P) (C:=C) (n:=n) (ds:=ds) (L:=L) c d b;rwa[AcT _ U] at this
theorem RO{t:TypeId}{p r:Operand}{b off n' q z:Nat}{y s:IntKind}{l m:Int}(ho:o.op=.slice t x none (some p) (some r))(v:Hf P t=some (n',z))
  (hx:ev L x=some (.pointer (some ⟨b,off,none⟩)))(c:ev L p=some (.int y l))(j:ev L r=some (.int s m))(e2:l=(q:Int))(u:m=(q:Int))(hq:0<q)(g:q<=n'):Ax P C n ds L o (.slice (some ⟨b,off,none⟩) q q):=λa f w _=>by
 obtain ⟨e,i0,i,k,hz⟩:=Hg v;subst e2;subst u;have g2:(0:Int)<=(q:Int)/\(q:Int)<=(n':Int):=by omega
 have g3:(0:Int)<=(q:Int)/\(q:Int)<=(q:Int):=by omega
 have d:¬q=0:=by omega
 have h:0<=q:=by omega
 simp only[execOp,ho,Acf,AcM,f.ev hx,f.ev c,f.ev j];simp[Instr.sliceAt,Instr.slice,run_underlying i,Instr.sureAddr,Instr.sliceBounds,Instr.sliceBound,asIntOf,g2,g3,sizeOf,typeInfo,k,hz,h,g,d,go_sem]<;>(try simp_all)
theorem Ui{t:TypeId}{lo:Operand}{b off l c p z o' l' c':Nat}{k:IntKind}{i:Int}(j:o.op=.slice t x (some lo) none none)(v:CY P t=some z)
  (u:ev L x=some (.slice (some ⟨b,off,none⟩) l c))(f:ev L lo=some (.int k i))(h:i=(p:Int))(a:p<=l)(d:l<=c)
  (s:(if c=p then off else off+p*z)=o')(g:l-p=l')(m:c-p=c'):Ax P C n ds L o (.slice (some ⟨b,o',none⟩) l' c'):=by
 have:=Ko (P:=P) (C:=C) (n:=n) (ds:=ds) (L:=L) (p:=p) (q:=l) j v u (.inr ⟨lo,k,i,Z,f,h⟩) (.inl ⟨Z,Z⟩) a d;rw[g,m] at this;have e:(if c=p then (some ⟨b,off,none⟩:Option Addr) else (some ⟨b,off,none⟩:Option Addr).map (·.add (p*z)))=some ⟨b,o',none⟩:=by
  subst s;split
  ·rfl
  simp only[Acf,AbL];unfold Addr.add;split
  ·rename_i r;simp[r]
  rfl
 rwa[e] at this
theorem XC{p:Int}(g:o.op=.binOp .and xt x y yt)(d:ev L x=some (Aa p))(f:ev L y=some (Aa 127))(hp:0<=p/\p<9223372036854775808):Ax P C n ds L o (Aa (p%128)):=λa c w _=>by
 obtain ⟨q,rfl⟩:=AdC hp.1;have e:Op.intBits .and .i64 (q:Int) 127=pure (Aa (IntKind.i64.wrap ((BitVec.ofInt 64 (q:Int)&&&BitVec.ofInt 64 127).toNat:Int))):=rfl;have h:(BitVec.ofInt 64 (q:Int)&&&BitVec.ofInt 64 127).toNat=q%128:=by
  rw[Ado,show (BitVec.ofInt 64 127).toNat=2^7-1 from Z,Aek,Aeg,BitVec.toNat_ofNat,AcN (a:=q) (b:=2^64) U]
 rw[h,AcT _ U,show ((q%128:Nat):Int)=(q:Int)%128 from by omega] at e;simp only[execOp,g,c.ev d,c.ev f];simp only[binOp,go_sem,e];rfl
end
end
def Bx(F:Nat->Bool):List Value:=(List.range 16).map λk=>u64 (bw F k)
theorem Bm(F:Nat->Bool):(Bx F).length=16:=by simp[Bx]
theorem wsV_at(F:Nat->Bool){k:Nat}(a:k<16):(Bx F)[k]?=some (u64 (bw F k)):=by simp[Bx,a]
theorem wsV_one(F:Nat->Bool):∀u∈Bx F,u.oneCell'=true:=λu h=>by
 simp only[Bx,AbP] at h;obtain ⟨k,_,rfl⟩:=h;rfl
def Ci(n:Nat)(F D S:Nat->Bool):List Value:=.int .i64 n::(Bx F++(Bx D++(Bx S++Bx λ_=>false)))
abbrev alB(pa n:Nat)(F D S:Nat->Bool):Ah:=blk pa (Ci n F D S) 150
def By:Nat->Bool:=λ_=>false
theorem AaV(n:Nat)(F D S:Nat->Bool):(Ci n F D S)[0]?=some (Aa n):=rfl
theorem LX(n:Nat)(F D S:Nat->Bool){k:Nat}(a:k<16):(Ci n F D S)[1+k]?=some (u64 (bw F k)):=by
 unfold Ci;rw[Ady,Ab4,AbU (by rw[Bm];exact a),wsV_at _ a]
theorem Wb(n:Nat)(F D S:Nat->Bool){k:Nat}(a:k<16):(Ci n F D S)[17+k]?=some (u64 (bw D k)):=by
 unfold Ci;rw[show 17+k=(16+k)+1 by omega,Ab4,AbT (by rw[Bm];omega),Bm,show 16+k-16=k by omega,AbU (by rw[Bm];exact a),wsV_at _ a]
theorem RP{F c:Nat->Bool}{k:Nat}{x:BitVec 64}(d:k<16)(h:∀j,j<16->(if k=j then x else bw F j)=bw c j):(Bx F).take k++[u64 x]++(Bx F).drop (k+1)=Bx c:=by
 have f:=Bm F;have e:=AcK (l:=Bx F) (i:=k) (a:=u64 x);rw[if_pos U] at e;rw[AbK,Adc,<-e];refine AcF λj=>?_;rw[AcE];rcases AbX j 16 with b|b
 ·rw[wsV_at c b,<-h j b]
  split
  ·rw[if_pos U]
  rw[wsV_at F b]
 rw[if_neg U,Ab5 U,Ab5 (by rw[Bm];omega)]
theorem Nb(a:Value)(l:List Value)(k:Nat)(u:Value):(a::l).take (1+k)++[u]++(a::l).drop (1+k+1)=a::(l.take k++[u]++l.drop (k+1)):=by
 rw[Ady 1 k];simp
theorem Nc(l m:List Value)(k:Nat)(u:Value)(a:k<l.length):(l++m).take k++[u]++(l++m).drop (k+1)=(l.take k++[u]++l.drop (k+1))++m:=by
 rw[AbR U,Ace U];simp
theorem Uj(l m:List Value)(k:Nat)(u:Value):(l++m).take (l.length+k)++[u]++(l++m).drop (l.length+k+1)=l++(m.take k++[u]++m.drop (k+1)):=by
 rw[AdK,Aco,AbJ U,Ab6 U];rw[show l.length+k-l.length=k by omega,show l.length+k+1-l.length=k+1 by omega];simp
theorem Jr(n:Nat){F b:Nat->Bool}(D S:Nat->Bool){k:Nat}{x:BitVec 64}(a:k<16)(h:∀j,j<16->(if k=j then x else bw F j)=bw b j):(Ci n F D S).take (1+k)++[u64 x]++(Ci n F D S).drop (1+k+1)=Ci n b D S:=by
 unfold Ci;rw[Nb,Nc _ _ _ _ (by rw[Bm];exact a),RP a h]
theorem Nd(n:Nat)(F:Nat->Bool){D D':Nat->Bool}(S:Nat->Bool){k:Nat}{x:BitVec 64}(a:k<16)(h:∀j,j<16->(if k=j then x else bw D j)=bw D' j):(Ci n F D S).take (17+k)++[u64 x]++(Ci n F D S).drop (17+k+1)=Ci n F D' S:=by
 have e:=Uj (Bx F) (Bx D++(Bx S++Bx λ_=>false)) k (u64 x);rw[Bm] at e;unfold Ci;rw[show 17+k=1+(16+k) by omega,Nb,e,Nc _ _ _ _ (by rw[Bm];exact a),RP a h]
theorem Ei(n:Nat)(F D S:Nat->Bool):(Ci n F D S).length=65:=by simp[Ci,Bm]
theorem OL(n:Nat)(F D S:Nat->Bool):Bx F++Bx D=((Ci n F D S).drop 1).take 32:=by
 have b:=Bm F;have a:=Bm D;unfold Ci;rw[List.drop_one,List.tail_cons,<-AbK,Acs (by simp[b,a])]
theorem XD(n:Nat)(F D S:Nat->Bool):Bx S++Bx By=((Ci n F D S).drop 33).take 32:=by
 have b:=Bm F;have a:=Bm D;unfold Ci;rw[show (33:Nat)=32+1 from Z,Acx,<-AbK (Bx F),AdE (by simp[b,a]),AbJ (by simp[Bm])];rfl
theorem Ke(n:Nat)(F S:Nat->Bool):(Ci n F By S).take 33++(Bx F++Bx By)++(Ci n F By S).drop (33+(Bx F++Bx By).length)=Ci n F By F:=by
 have b:=Bm F;have a:=Bm By;have e:(Ci n F By S).drop (33+(Bx F++Bx By).length)=[]:=Ab6 (by simp[Ei,b,a]);rw[e,Acw];unfold Ci;rw[show (33:Nat)=32+1 from Z,Acy,<-AbK (Bx F) (Bx By) (Bx S++_),Acs (by simp[Bm])];simp only[Ac9,AbK];rfl
theorem Uk(n:Nat)(F D S:Nat->Bool):(Ci n F D S).take 1++(Bx S++Bx By)++(Ci n F D S).drop (1+(Bx S++Bx By).length)=Ci n S By S:=by
 have d:=Bm F;have a:=Bm D;have b:=Bm S;have c:=Bm By;rw[show 1+(Bx S++Bx By).length=32+1 by simp[b,c]];unfold Ci;rw[Acx,<-AbK (Bx F) (Bx D),AdE (by simp[d,a])];simp only[Acy,Ac3,Ac9,Ab3,AbK]
theorem Js(l:List Value)(F:Nat->Bool)(h:∀u∈l,u.oneCell'=true):∀u∈l++Bx F,u.oneCell'=true:=λu a=>by
 rcases Acd.1 a with q|q
 ·exact h u q
 exact wsV_one F u q
theorem bit_of(F:Nat->Bool)(p:Nat):(decide ((bw F (p/64))>>>(p%64)&&&1#64=1#64))=F p:=by
 rw[ZF];cases F p<;>simp
theorem ZO{z w:World}{Γ:List Ah}(i:Nat)(H:Sep z Γ w){A:Ah}(a:Γ[i]?=some A){b o:Nat}{v:Value}(h:∀h,A h->celH h b o v):E6 b o v w:=H.cell i a h
def insP(F:Nat->Bool)(p:Nat):Nat->Bool:=λq=>F q||decide (q=p)
def BI(F:Nat->Bool)(p:Nat):Nat->Bool:=λq=>F q && !decide (q=p)
theorem XE(F:Nat->Bool)(p j:Nat):(if p/64=j then bw F (p/64)&&& ~~~DU (p%64) else bw F j)=bw (BI F p) j:=by
 rw[show BI F p=λq=>F q && !decide (q=p) from Z,<-ZE];split
 ·rename_i e;rw[e]
 rfl
theorem OM(F:Nat->Bool)(p j:Nat):(if p/64=j then bw F (p/64)|||DU (p%64) else bw F j)=bw (insP F p) j:=by
 rw[show insP F p=λq=>F q||decide (q=p) from rfl,<-ZD];split
 ·rename_i e;rw[e]
 rfl
def Cu(F G:Nat->Bool):Nat->Bool:=λq=>F q||G q
def El(F G:Nat->Bool)(k:Nat):Nat->Bool:=λq=>if q<64*k then G q else F q
theorem IP(F G:Nat->Bool)(k j:Nat):bw (El F G k) j=if j<k then bw G j else bw F j:=by
 symm;refine Ka λi a=>?_;unfold El;split
 ·rw[if_pos U,DC _ _ _ a]
 rw[if_neg U,DC _ _ _ a]
theorem ON(F G:Nat->Bool)(k:Nat):∀j,j<16->(if k=j then bw G k else bw (El F G k) j)=bw (El F G (k+1)) j:=λj _=>by
 rw[IP,IP];split
 ·rename_i e;subst e;rw[if_pos U]
 by_cases h:j<k
 ·rw[if_pos h,if_pos U]
 rw[if_neg h,if_neg U]
theorem OO(F G:Nat->Bool):El F G 0=F:=by funext q;simp[El]
theorem ZP(n:Nat)(F G D D' S:Nat->Bool):Ci n (El F G 16) (El D D' 16) S=Ci n G D' S:=by
 have h:∀F G:Nat->Bool,Bx (El F G 16)=Bx G:=λF G=>by
  refine AcF λj=>?_;rcases AbX j 16 with a|a
  ·rw[wsV_at _ a,wsV_at _ a,IP,if_pos a]
  rw[Ab5 (by rw[Bm];omega),Ab5 (by rw[Bm];omega)]
 unfold Ci;rw[h,h]
theorem Nf(n:Nat)(F D S:Nat->Bool):Bx F=((Ci n F D S).drop 1).take 16:=by
 unfold Ci;rw[List.drop_one,List.tail_cons,Acs (Bm F)]
theorem ZQ(n:Nat)(F D S:Nat->Bool):Bx D=((Ci n F D S).drop 17).take 16:=by
 unfold Ci;rw[show (17:Nat)=16+1 from Z,Acx,AdE (Bm F),Acs (Bm D)]
theorem AaW(F D:Nat->Bool)(k:Nat):bw (El F (Cu F D) k) k|||bw D k=bw (Cu F D) k:=by
 rw[IP,if_neg U,AaS];rfl
theorem ZR(F D:Nat->Bool)(k:Nat):∀j,j<16->(if k=j then bw (El F (Cu F D) k) k|||bw D k else bw (El F (Cu F D) k) j)=bw (El F (Cu F D) (k+1)) j:=λj a=>by
 rw[AaW];exact ON F _ k j a
theorem ZS(D:Nat->Bool)(k:Nat):∀j,j<16->(if k=j then 0#64 else bw (El D By k) j)=bw (El D By (k+1)) j:=λj a=>by
 have e:(0#64)=bw By k:=(bw_zero.2 λ_ _=>rfl).symm;rw[e];exact ON D By k j a
def Dr(n:Nat):Nat->Bool:=λq=>decide (q<n)
theorem XF(k:Nat):insP (Dr k) k=Dr (k+1):=by
 funext q;unfold insP Dr;rw[Ab0];simp;omega
theorem Ul(k:Nat):∀j,j<16->(if k/64=j then bw (Dr k) (k/64)|||DU (k%64) else bw (Dr k) j)=bw (Dr (k+1)) j:=λj _=>by
 rw[<-XF];exact OM _ _ _
theorem Um(F:Nat->Bool)(k:Nat):(cnt F 0 (64*k):Int)+(cnt F (64*k) 64:Int)=(cnt F 0 (64*(k+1)):Int):=by
 have:=G7 F 0 (64*k) 64;rw[show 64*(k+1)=64*k+64 by omega,this,AcW];omega
theorem RQ(F:Nat->Bool)(a:Nat):∀n,cnt F a n<=n
 | 0=>Ab9 _
 | n+1=>by
  have:=RQ F a n;have:(F (a+n)).toNat<=1:=by cases F (a+n)<;>simp
  simp only[cnt];omega
def RR(j:Nat):UInt8:=UInt8.ofNat (Go.Lib.deBruijn64tab.getD j 0)
def Fw(A:Ah):Prop:=∀h,A h->∀j,j<64->celH h 0 j (u8 (RR j))
theorem ZT(x:BitVec 64)(i:Nat)(l:i<64)(f:x.getLsbD i=true)(p:∀j,j<i->x.getLsbD j=false):(((x&&& -x)*285870213051353865#64)>>>58).toNat<64/\((RR (((x&&& -x)*285870213051353865#64)>>>58).toNat).toNat:Int)=i:=by
 have b:x.toNat≠0:=λe=>by
  have:x=0#64:=Aec (by simpa using e);rw[this] at f;simp at f
 have d:=x.isLt;obtain ⟨m,k,q⟩:=Go.Lib.ctzFrom_spec 64 x.toNat U d;have o:Go.Lib.ctzFrom 64 x.toNat=i:=by
  generalize Go.Lib.ctzFrom 64 x.toNat=c at k q;have g:∀j,x.getLsbD j=(decide (j>=c)&&(2*m+1).testBit (j-c)):=λj=>by
   show x.toNat.testBit j=_;rw[k,Nat.testBit_two_pow_mul]
  rcases Adj i c with h|h|h
  ·have:=g i;rw[f] at this;simp at this;omega
  ·exact h.symm
  have:=g c;rw[p c h] at this;simp at this
 obtain ⟨a,_⟩:=Go.Lib.lowest_bit 64 x.toNat b d;have r:Go.Lib.ctz 64 x.toNat=i:=by unfold Go.Lib.ctz;rw[if_neg b,o]
 rw[r] at a;have s:(x&&& -x).toNat=2^i:=by
  rw[Ado,BitVec.toNat_neg,AcN U];exact a
 have n:(((x&&& -x)*285870213051353865#64)>>>58).toNat=2^i*285870213051353865%18446744073709551616/288230376151711744:=by
  rw[Adi,BitVec.toNat_mul,s,Ac0];rfl
 obtain ⟨a1,a2⟩:=Go.Lib.deBruijn64_at i l;rw[n];refine ⟨a1,?_⟩;unfold RR;rw[a2];simp;omega
theorem Ng(a n:Nat)(F D S:Nat->Bool)(p:Nat):Aj 109 [V a,Aa (p:Int)] [alB a n F D S] (λv G=>v=.bool (decide (p<n))/\G=[alB a n F D S]):=by
 intro z R w H;refine Ac func109 Z ntmps109 Z (Z0 10 [0] Z (Ak 7 Z (λb=>?_) (λb=>?_)))
 ·refine Z0 4 [0] Z (Ad Z (AY Z Z J (AB (H.cel 0 Z 0 (AaV _ _ _ _)))) (Z0 6 [0] Z (Zr Z ?_)));exact ⟨_,⟨congrArg Value.bool (by first|(rw[Ab0];simp<;>omega)|(simp<;>omega)),Z⟩,H⟩
 refine Zc 11 Z (Zr Z ?_);exact ⟨_,⟨congrArg Value.bool (by first|(rw[Ab0];simp<;>omega)|(simp<;>omega)),Z⟩,H⟩
theorem Nh(a n:Nat)(F D S:Nat->Bool)(p:Nat)(hp:p<n)(c:n<=1024):Aj 110 [V a,Aa (p:Int)] [alB a n F D S] (λv G=>v=.bool (F p)/\G=[alB a n F D S]):=by
 intro z R w H;refine Ac func110 Z ntmps110 Z (Zc 9 Z (Ai Z (call109 _) (Ng _ _ _ _ _ _) H ?_));intro w H;refine Zc 1 Z (Ak 8 Z (λb=>?_) (λb=>?_))
 ·refine Z1 7 [1,1,16,1,(p/64),1+(p/64)] [(p:Int)/64] Z U (Ad Z (AY Z Z J (AB (H.cel 0 Z (1+(p/64)) (LX _ _ _ _ U)))) (Z1 2 [] [(p:Int)%64] Z U (Ad Z (Ff Z Z Z (m:=(p%64)) U U) (Ad Z (EZ (q:=1#64) Z Z Z) (Ad Z (Na (p:=((bw F (p/64))>>>(p%64))&&&(1#64)) (q:=1#64) (k:=.u64) Z J Z Z) (k_updA 21 (v:=.bool (F p)) Z (congrArg Value.bool (bit_of F p)) (Zc 5 Z (Zr Z ?_))))))));exact ⟨_,⟨Z,Z⟩,H⟩
 exact absurd hp b
theorem RS(a n:Nat)(F D S:Nat->Bool)(p:Nat)(hp:p<n)(d:n<=1024)(c:F p=true):Aj 82 [V a,Aa (p:Int)] [alB a n F D S] (λv G=>v=.bool true/\G=[alB a n (BI F p) D S]):=by
 intro z R w H;refine Ac func82 Z ntmps82 Z (Zc 10 Z (Ai Z (call110 _) (Nh _ _ _ _ _ _ U U) H ?_));intro w H;refine k_updA 7 (v:=.bool true) Z (congrArg Value.bool c) (Zc 7 Z (Bh 16 J J (A4 H λw b=>?_)));have H:=b.l1;refine CL 7 [1,1,16,1,(p/64),1+(p/64)] [(p:Int)/64] H Z J U (Cj Z Z Z (AY Z Z J (AB (H.cel 0 Z (1+(p/64)) (LX _ _ _ _ U)))) (CL 2 [] [(p:Int)%64] H Z J U (Cj Z Z Z (M8 Z Z Z (m:=(p%64)) U U) (Cj Z Z Z (Uh Z Z Z) (CL 4 [1,1,16,1,(p/64),1+(p/64)] [] H Z J U (BY (gw (A9 Z Z (AD 0 H Z Z Z Z (vs:=[u64 ((bw F (p/64))&&& ~~~(DU (p%64)))]) Z (Aq Z AN) J (by simp only[Ei,AbI,AbO];omega) (out:=(Ci n (BI F p) D S)) (Jr _ _ _ U (λj _=>XE F p j))) ?_))))))));rintro w H;refine Zc 8 Z (Zr Z ?_);exact ⟨_,⟨Z,Z⟩,H⟩
theorem OP(a n:Nat)(F D S:Nat->Bool)(p:Nat)(hp:p<n)(e:n<=1024)(d:F p=false)(c:D p=false):Aj 52 [V a,Aa (p:Int)] [alB a n F D S] (λv G=>v=.bool true/\G=[alB a n F (insP D p) S]):=by
 intro z R w H;refine Ac func52 Z ntmps52 Z (Zc 10 Z (Ai Z (call109 _) (Ng _ _ _ _ _ _) H ?_));intro w H;refine k_updA 7 (v:=.bool true) Z (congrArg Value.bool (decide_eq_true hp)) (Zc 4 Z (Ai Z (call110 _) (Nh _ _ _ _ _ _ U U) H ?_));intro w H;refine k_updA 12 (v:=.bool false) Z (congrArg Value.bool d) (Z1 9 [1,17,16,1,(p/64),17+(p/64)] [(p:Int)/64] Z U (Ad Z (AY Z Z J (AB (H.cel 0 Z (17+(p/64)) (Wb _ _ _ _ U)))) (Z1 2 [] [(p:Int)%64] Z U (Ad Z (Ff Z Z Z (m:=(p%64)) U U) (Ad Z (EZ (q:=1#64) Z Z Z) (Ad Z (Na (p:=((bw D (p/64))>>>(p%64))&&&(1#64)) (q:=1#64) (k:=.u64) Z J Z Z) (k_updA 27 (v:=.bool false) Z (congrArg Value.bool ((bit_of D p).trans c)) (Zc 7 Z (Bh 16 J J (A4 H λw b=>?_))))))))));have H:=b.l1;refine CL 7 [1,17,16,1,(p/64),17+(p/64)] [(p:Int)/64] H Z J U (Cj Z Z Z (AY Z Z J (AB (H.cel 0 Z (17+(p/64)) (Wb _ _ _ _ U)))) (CL 2 [] [(p:Int)%64] H Z J U (Cj Z Z Z (M8 Z Z Z (m:=(p%64)) U U) (Cj Z Z Z (M7 Z Z Z) (CL 4 [1,17,16,1,(p/64),17+(p/64)] [] H Z J U (BY (gw (A9 Z Z (AD 0 H Z Z Z Z (vs:=[u64 ((bw D (p/64))|||(DU (p%64)))]) Z (Aq Z AN) J (by simp only[Ei,AbI,AbO];omega) (out:=(Ci n F (insP D p) S)) (Nd _ _ _ U (λj _=>OM D p j))) ?_))))))));rintro w H;refine Zc 8 Z (Zr Z ?_);exact ⟨_,⟨Z,Z⟩,H⟩
abbrev pB_(F:Nat->Bool)(k:Nat):BitVec 64:=((bw F k)>>>1)&&&(6148914691236517205#64)
abbrev pC_ (F:Nat->Bool) (k:Nat):BitVec 64:=(bw F k)&&&(6148914691236517205#64)
abbrev OQ (F:Nat->Bool) (k:Nat):BitVec 64:=(((bw F k)>>>1)&&&(6148914691236517205#64))+((bw F k)&&&(6148914691236517205#64))
abbrev pD_ (F:Nat->Bool) (k:Nat):BitVec 64:=(((OQ F k)>>>2)&&&(3689348814741910323#64))
abbrev pE_ (F:Nat->Bool) (k:Nat):BitVec 64:=((OQ F k)&&&(3689348814741910323#64))
abbrev pF_ (F:Nat->Bool) (k:Nat):BitVec 64:=(pD_ F k)+(pE_ F k)
theorem XG(F:Nat->Bool)(k:Nat):Aj 99 [u64 (bw F k)] [] (λv G=>v=Aa ((cnt F (64*k) 64:Nat):Int)/\G=[]):=by
 intro z R w H;refine Ac func99 Z ntmps99 Z (Zc 8 Z (Ad Z (Ff Z Z Z (m:=1) Z (by decide)) (Ad Z (EZ (q:=6148914691236517205#64) Z Z Z) (Zc 1 Z (Ad Z (EZ (q:=6148914691236517205#64) Z Z Z) (Ad Z (G8 (p:=((bw F k)>>>1)&&&(6148914691236517205#64)) (q:=(bw F k)&&&(6148914691236517205#64)) Z Z Z) (Zc 6 Z (Ad Z (Ff Z Z Z (m:=2) Z (by decide)) (Ad Z (EZ (p:=(OQ F k)>>>2) (q:=3689348814741910323#64) Z Z Z) (Zc 1 Z (Ad Z (EZ (p:=(pB_ F k)+(pC_ F k)) (q:=3689348814741910323#64) Z Z Z) (Ad Z (G8 (p:=((OQ F k)>>>2)&&&(3689348814741910323#64)) (q:=(OQ F k)&&&(3689348814741910323#64)) Z Z Z) (Zc 6 Z ?_)))))))))))));refine Ad Z (Ff Z Z Z (m:=4) Z (by decide)) (Zc 1 Z (Ad Z (G8 (p:=(pF_ F k)>>>4) (q:=(pD_ F k)+(pE_ F k)) Z Z Z) (Ad Z (EZ (p:=((pF_ F k)>>>4)+(pF_ F k)) (q:=1085102592571150095#64) Z Z Z) (Zc 7 Z (Ad Z (Ff Z Z Z (m:=8) Z (by decide)) (Ad Z (G8 (p:=(((pF_ F k)>>>4)+(pF_ F k))&&&(1085102592571150095#64)) (q:=((((pF_ F k)>>>4)+(pF_ F k))&&&(1085102592571150095#64))>>>8) Z Z Z) (Zc 7 Z (Ad Z (Ff Z Z Z (m:=16) Z (by decide)) (Ad Z (G8 (p:=((((pF_ F k)>>>4)+(pF_ F k))&&&(1085102592571150095#64))+(((((pF_ F k)>>>4)+(pF_ F k))&&&(1085102592571150095#64))>>>8)) (q:=(((((pF_ F k)>>>4)+(pF_ F k))&&&(1085102592571150095#64))+(((((pF_ F k)>>>4)+(pF_ F k))&&&(1085102592571150095#64))>>>8))>>>16) Z Z Z) (Zc 7 Z (Ad Z (Ff Z Z Z (m:=32) Z (by decide)) (Ad Z (G8 (p:=(((((pF_ F k)>>>4)+(pF_ F k))&&&(1085102592571150095#64))+(((((pF_ F k)>>>4)+(pF_ F k))&&&(1085102592571150095#64))>>>8))+((((((pF_ F k)>>>4)+(pF_ F k))&&&(1085102592571150095#64))+(((((pF_ F k)>>>4)+(pF_ F k))&&&(1085102592571150095#64))>>>8))>>>16)) (q:=((((((pF_ F k)>>>4)+(pF_ F k))&&&(1085102592571150095#64))+(((((pF_ F k)>>>4)+(pF_ F k))&&&(1085102592571150095#64))>>>8))+((((((pF_ F k)>>>4)+(pF_ F k))&&&(1085102592571150095#64))+(((((pF_ F k)>>>4)+(pF_ F k))&&&(1085102592571150095#64))>>>8))>>>16))>>>32) Z Z Z) (Zc 6 Z ?_)))))))))))));refine Ad Z (AaU Z J Z (KO F k).1) (Ad Z (XC Z Z Z (by have:=(KO F k).1;exact ⟨Int.natCast_nonneg _,by unfold KM at this;dsimp only[OQ,pB_,pC_,pD_,pE_,pF_] at this ⊢;omega⟩)) (k_updA 34 (u:=Aa (((KM (bw F k)).toNat:Int)%128)) (v:=Aa ((cnt F (64*k) 64:Nat):Int)) Z (congrArg Aa (by have:=(KO F k).2;omega)) (Zc 4 Z (gr (GA Z [Aa ((cnt F (64*k) 64:Nat):Int)] ⟨Z,trivial⟩ (v:=Aa ((cnt F (64*k) 64:Nat):Int)) Z ?_)))));exact ⟨_,⟨Z,Z⟩,H⟩
theorem XH(a n:Nat)(F D S:Nat->Bool):Aj 38 [V a] [alB a n F D S] (λv G=>v=Aa (cnt F 0 1024:Int)/\G=[alB a n F D S]):=by
 intro z R w H;refine Ac func38 Z ntmps38 Z (Z0 17 [1,1] Z (Ad Z (Bt Z Z (vs:=Bx F) J (AB ((H.blk 0 Z).part 1 16 _ (Nf _ _ _ _)))) (Zc 4 Z ?_)));refine Ay (σ:=Nat) (λk=>[(11,Aa (k:Int)),(3,Aa (cnt F 0 (64*k):Int)),(2,Aa 0),(10,.agg (Bx F).toArray)])
   (λk w=>Sep z (alB a n F D S::R) w/\(k<=16)) (λk=>16-k) 0
   (λ_ b=>(b.co Z (by go_num) b.cz)) ⟨H,by omega⟩ ?_
 clear H;rintro k w ⟨e,c⟩;have H:=e.l1;have d:=c;clear c;have f:=RQ F 0 (64*(k+1));refine Z0 6 [0] Z (Ag Z (λg=>?_) (λg=>?_))
 ·refine Zc 6 Z (Ad Z (EM (m:=16) Z J Z Z Z (j:=k) Z (u:=u64 (bw F k)) (wsV_at F U)) (Zc 6 Z (Ai Z (call99 _) (XG _ _) H ?_)));intro w H;refine Ad Z (CA Z Z Z (r:=(cnt F 0 (64*(k+1)):Int)) (Um F k) U) (Z1 8 [] [(k:Int)+1] Z U (gf ?_));intro _ b;refine ⟨(k+1),b.cz,⟨H,?_⟩,?_⟩
  ·omega
  omega
 obtain rfl:k=16:=by omega
 refine Zc 2 Z (gx (Zc 9 Z (Zr Z ?_)));exact ⟨_,⟨Z,Z⟩,H⟩
theorem Ik(a n:Nat)(F D S:Nat->Bool):Aj 49 [V a] [alB a n F D S] (λv G=>v=.tuple #[]/\G=[alB a n (Cu F D) By (Cu F D)]):=by
 intro z R w H;refine Ac func49 Z ntmps49 Z (Z0 7 [1,17] Z (Ad Z (Bt Z Z (vs:=Bx D) J (AB ((H.blk 0 Z).part 17 16 _ (ZQ _ _ _ _)))) (Zc 4 Z ?_)));refine Ay (σ:=Nat) (λk=>[(9,Aa (k:Int)),(0,V a),(8,.agg (Bx D).toArray)])
   (λk w=>Sep z (alB a n (El F (Cu F D) k) (El D By k) S::R) w/\(k<=16)) (λk=>16-k) 0
   fr_z ⟨(by rw[OO,OO];exact H),by omega⟩ ?_
 clear H;rintro k w ⟨b,c⟩;have H:=b.l1;have d:=c;clear c;refine Z0 6 [0] Z (Ag Z (λf=>?_) (λf=>?_))
 ·refine Zc 7 Z (Ad Z (EM (m:=16) Z J Z Z Z (j:=k) Z (u:=u64 (bw D k)) (wsV_at D U)) (Zc 5 Z (Bh 13 J J (A4 H λw b=>?_))))
  have H:=b.l1;refine CL 6 [1,1,16,1,k,1+k] [] H Z J U (Cj Z Z Z (AY Z Z J (AB (H.cel 0 Z (1+k) (LX _ _ _ _ U)))) (VT 1 [] Z J (Cj Z Z Z (M7 Z Z Z) (CL 4 [1,1,16,1,k,1+k] [] H Z J U (BY (gw (A9 Z Z (AD 0 H Z Z Z Z (vs:=[u64 ((bw (El F (Cu F D) k) k)|||(bw D k))]) Z (Aq Z AN) J (by simp only[Ei,AbI,AbO];omega) (out:=(Ci n (El F (Cu F D) (k+1)) (El D By k) S)) (Jr _ _ _ U (ZR F D k))) ?_)))))));rintro w H;refine Z1 9 [1,17,16,1,k,17+k] [] Z U (A9 Z Z (AD 0 H Z Z Z Z (vs:=[u64 (0#64)]) Z (Aq Z AN) J (by simp only[Ei,AbI,AbO];omega) (out:=(Ci n (El F (Cu F D) (k+1)) (El D By (k+1)) S)) (Nd _ _ _ U (ZS D k))) ?_);rintro w H;refine Z1 7 [] [(k:Int)+1] Z U (gf ?_);intro _ e;refine ⟨(k+1),e.cz,⟨H,?_⟩,?_⟩
  ·omega
  omega
 obtain rfl:k=16:=by omega
 refine Zc 2 Z (gx (Zc 2 Z ?_));dsimp only[alB] at H;rw[ZP] at H;refine Z0 5 [1] Z (Ad Z (Bt Z Z (vs:=Bx (Cu F D)++Bx By) J (AB ((H.blk 0 Z).part 1 32 _ (OL _ _ _ _)))) (Z0 2 [33] Z (A9 Z Z (AD 0 H Z Z Z Z (vs:=Bx (Cu F D)++Bx By) Z (Js _ _ (wsV_one _)) J (by simp only[Ei,AbH,Bm];omega) (out:=(Ci n (Cu F D) By (Cu F D))) (Ke _ _ _)) ?_)));rintro w H;refine Zc 1 Z (Zf Z ?_);exact ⟨_,⟨Z,Z⟩,H⟩
theorem XI(a n:Nat)(F D S:Nat->Bool):Aj 107 [V a] [alB a n F D S] (λv G=>v=.tuple #[]/\G=[alB a n S By S]):=by
 intro z R w H;refine Ac func107 Z ntmps107 Z (Z0 5 [33] Z (Ad Z (Bt Z Z (vs:=Bx S++Bx By) J (AB ((H.blk 0 Z).part 33 32 _ (XD _ _ _ _)))) (Z0 2 [1] Z (A9 Z Z (AD 0 H Z Z Z Z (vs:=Bx S++Bx By) Z (Js _ _ (wsV_one _)) J (by simp only[Ei,AbH,Bm];omega) (out:=(Ci n S By S)) (Uk _ _ _ _)) ?_))));rintro w H;refine Zc 1 Z (Zf Z ?_);exact ⟨_,⟨Z,Z⟩,H⟩
theorem ZU(n:Nat)(j:1<=n/\n<=1024):Aj 80 [Aa (n:Int)] [] (λv G=>(∃c,v=V c/\G=[alB c n (Dr n) By (Dr n)])):=by
 intro z R w H;refine Ac func80 Z ntmps80 Z (Z0 11 [0] Z (Ak 7 Z (λi=>U) (λi=>?_)));refine Z0 5 [0] Z (Ag Z (λe=>U) (λe=>?_));refine Zc 5 Z (Ad Z (AX Z Z (out:=(Ci n (Dr 0) By By)) J) (AG Z (FE H Z Z (cs:=(Ci n (Dr 0) By By)) Z) ?_));rintro _ w ⟨b,rfl,H⟩;refine Zc 11 Z ?_;refine Ay (σ:=Nat) (λk=>[(15,Aa (k:Int)),(2,.pointer none),(3,V b),(14,Aa (n:Int))])
   (λk w=>Sep z (alB b n (Dr k) By By::R) w/\(k<=n)) (λk=>n-k) 0
   fr_z ⟨H,by omega⟩ ?_
 clear H;rintro k w ⟨a,d⟩;have H:=a.l1;have f:=d;clear d;refine Z0 6 [0] Z (Ag Z (λh=>?_) (λh=>?_))
 ·refine Zc 10 Z (Bh 16 J J (A4 H λw a=>?_))
  have H:=a.l1;refine CL 7 [1,1,16,1,(k/64),1+(k/64)] [(k:Int)/64] H Z J U (Cj Z Z Z (AY Z Z J (AB (H.cel 0 Z (1+(k/64)) (LX _ _ _ _ U)))) (CL 2 [] [(k:Int)%64] H Z J U (Cj Z Z Z (M8 Z Z Z (m:=(k%64)) U U) (Cj Z Z Z (M7 Z Z Z) (CL 4 [1,1,16,1,(k/64),1+(k/64)] [] H Z J U (BY (gw (A9 Z Z (AD 0 H Z Z Z Z (vs:=[u64 ((bw (Dr k) (k/64))|||(DU (k%64)))]) Z (Aq Z AN) J (by simp only[Ei,AbI,AbO];omega) (out:=(Ci n (Dr (k+1)) By By)) (Jr _ _ _ U (Ul k))) ?_))))))));rintro w H;refine Z1 7 [] [(k:Int)+1] Z U (gf ?_);intro _ g;refine ⟨(k+1),g.cz,⟨H,?_⟩,?_⟩
  ·omega
  omega
 obtain rfl:k=n:=by omega
 refine Zc 2 Z (gx (Z0 8 [1] Z (Ad Z (Bt Z Z (vs:=Bx (Dr k)++Bx By) J (AB ((H.blk 0 Z).part 1 32 _ (OL _ _ _ _)))) (Z0 2 [33] Z (A9 Z Z (AD 0 H Z Z Z Z (vs:=Bx (Dr k)++Bx By) Z (Js _ _ (wsV_one _)) J (by simp only[Ei,AbH,Bm];omega) (out:=(Ci k (Dr k) By (Dr k))) (Ke _ _ _)) ?_)))));rintro w H;refine Zc 9 Z (Zr Z ?_);exact ⟨_,⟨b,Z,Z⟩,H⟩
theorem Abw(x:BitVec 64)(i:Nat)(f:i<64)(a:x.getLsbD i=true)(b:∀j,j<i->x.getLsbD j=false)(A:Ah)(e:Fw A):Aj 100 [u64 x] [A] (λv G=>v=Aa ((i:Nat):Int)/\G=[A]):=by
 intro z R w H;obtain ⟨c,g⟩:=ZT x i f a b;refine Ac func100 Z ntmps100 Z (Zc 9 Z (Ad Z (Na (q:=0#64) (k:=.u64) Z J Z Z) (Zc 2 Z (Ag Z (λd=>?_) (λd=>?_)))))
 ·(exfalso;rw[d] at a;simp at a)
 refine Zc 6 Z (Ad Z (ZN Z Z) (Ad Z (EZ Z Z Z) (Ad Z (ZM (q:=285870213051353865#64) Z Z Z) (Ad Z (Ff Z Z Z (m:=58) Z (by decide)) (Ad Z (I5 (l:=64) Z (z:=1) (j:=(((x&&& -x)*285870213051353865#64)>>>58).toNat) (r:=(((x&&& -x)*285870213051353865#64)>>>58).toNat) J Z Z Z c U) (Ad Z (AY Z Z J (AB (ZO 0 H Z (λh q=>e h q _ c)))) (Ad Z (LT Z J Z) (k_updA 13 (v:=Aa ((i:Nat):Int)) Z (congrArg Aa g) (Zc 4 Z (Zr Z ?_))))))))));exact ⟨_,⟨Z,Z⟩,H⟩
theorem RT(b n:Nat)(F D S:Nat->Bool)(p:Nat)(hp:p<n)(i:n<=1024)(a:F p=true)(c:∀q,q<p->F q=false)(A:Ah)(l:Fw A):Aj 40 [V b] [alB b n F D S,A] (λv G=>v=.tuple #[Aa (p:Int),.bool true]/\G=[alB b n (BI F p) D S,A]):=by
 intro z R w H;refine Ac func40 Z ntmps40 Z (Z0 13 [1,1] Z (Ad Z (Bt Z Z (vs:=Bx F) J (AB ((H.blk 0 Z).part 1 16 _ (Nf _ _ _ _)))) (Zc 4 Z ?_)));refine Ay (σ:=Nat) (λk=>[(12,Aa (k:Int)),(0,V b),(11,.agg (Bx F).toArray)])
   (λk w=>Sep z (alB b n F D S::A::R) w/\(k<=p/64)) (λk=>16-k) 0
   fr_z ⟨H,by omega⟩ ?_
 clear H;rintro k w ⟨r,h⟩;have H:=r.l2;have o:=h;clear h;refine Z0 6 [0] Z (Ag Z (λs=>?_) (λs=>?_))
 ·refine Zc 7 Z (Ad Z (EM (m:=16) Z J Z Z Z (j:=k) Z (u:=u64 (bw F k)) (wsV_at F U)) (Zc 7 Z (Ad Z (RN (q:=0#64) (k:=.u64) Z J Z Z) (Zc 2 Z (Ag Z (λf=>?_) (λf=>?_))))))
  ·have d:k=p/64:=by
     rcases AbX k (p/64) with q|q
     · exact absurd (bw_zero.2 λj t=>c _ U) f
     · omega
   have g:F (64*k+p%64)=true:=by rw[show 64*k+p%64=p by omega];exact a
   refine Z1 5 [] [64*(k:Int)] Z U (Ai Z (call100 _) (Abw _ (p%64) U (by rw[DC _ _ _ U];exact g) (λj t=>by rw[DC _ _ _ U];exact c _ U) _ l) H.f1 ?_);intro w H;refine Z1 9 [] [(p:Int)] Z U (Ai Z (call82 _) (RS _ _ _ _ _ _ hp i a) H.f1 ?_);intro w H;refine Zc 5 Z (Zr Z ?_);exact ⟨_,⟨Z,Z⟩,H⟩
  have d:k≠p/64:=λe=>by
    have:=bw_zero.1 (Ad7.1 f) (p%64) U;rw[show 64*k+p%64=p by omega,a] at this;cases this
  refine Z1 7 [] [(k:Int)+1] Z U (gf ?_);intro _ x;refine ⟨(k+1),x.cz,⟨H,?_⟩,?_⟩
  ·omega
  omega
 (exfalso;omega)
theorem OR(a n:Nat)(F D S:Nat->Bool)(b:∀q,q<1024->F q=false):Aj 40 [V a] [alB a n F D S] (λv G=>v=.tuple #[Aa 0,.bool false]/\G=[alB a n F D S]):=by
 intro z R w H;refine Ac func40 Z ntmps40 Z (Z0 13 [1,1] Z (Ad Z (Bt Z Z (vs:=Bx F) J (AB ((H.blk 0 Z).part 1 16 _ (Nf _ _ _ _)))) (Zc 4 Z ?_)));refine Ay (σ:=Nat) (λk=>[(12,Aa (k:Int)),(0,V a),(11,.agg (Bx F).toArray)])
   (λk w=>Sep z (alB a n F D S::R) w/\(k<=16)) (λk=>16-k) 0
   fr_z ⟨H,by omega⟩ ?_
 clear H;rintro k w ⟨f,d⟩;have H:=f.l1;have e:=d;clear d;refine Z0 6 [0] Z (Ag Z (λg=>?_) (λg=>?_))
 ·refine Zc 7 Z (Ad Z (EM (m:=16) Z J Z Z Z (j:=k) Z (u:=u64 (bw F k)) (wsV_at F U)) (Zc 7 Z (Ad Z (RN (q:=0#64) (k:=.u64) Z J Z Z) (Zc 2 Z (Ag Z (λc=>?_) (λc=>?_))))))
  ·exact absurd (bw_zero.2 λj i=>b _ U) c
  refine Z1 7 [] [(k:Int)+1] Z U (gf ?_);intro _ h;refine ⟨(k+1),h.cz,⟨H,?_⟩,?_⟩
  ·omega
  omega
 refine Zc 2 Z (gx (Zc 9 Z (Zr Z ?_)));exact ⟨_,⟨Z,Z⟩,H⟩
section
section late
variable{P:Program}{ops:Array Oper}{Q:Exit->Act->World->Prop}{S:World->Prop}{E:List Nat}
end late
section late2
variable{P:Program}{ops:List Oper}{N R:Act->World->Prop}{X:Nat->Act->World->Prop}{S:World->Prop}{E:List Nat}{a:Act}{w:World}{fuel:Nat}{listed:Array Bool}{n d i:Nat}{ds:List Deferred}{L:List (Nat×Value)}{v:Value}{o:Oper}
end late2
section
variable{P:Program}{o:Oper}{w z:World}{Γ:List Ah}{n:Nat}{ds:List Deferred}{L:List (Nat×Value)}{x:Operand}
def PW(P:Program)(t:TypeId):Bool:=match P.underlying t with
 | some (.slice e)=>(match P.info? e with|some i=>(match i.zero with|some (.int .i64 0)=>true|_=>false)|none=>false)
 | _=>false
theorem Un{t:TypeId}(h:PW P t=true):∃e i,P.underlying t=some (.slice e)/\P.info? e=some i/\i.zero=some (Aa 0):=by
 unfold PW at h;split at h
 ·rename_i e c
  split at h
  ·rename_i i a
   split at h
   ·rename_i b;exact ⟨e,i,c,a,b⟩
   cases h
  cases h
 cases h
theorem Uo(i:Nat){t:TypeId}{b off k c:Nat}{g:TypeId}{cs:List Value}(H:Sep z Γ w)(l:Γ[i]?=some (blk b cs g))(y:o.op=.call {callee:=.builtin .clear,args:= #[x],argTypes:= #[t]})(hd:PW P t=true)(hx:ev L x=some (.slice (some ⟨b,off,none⟩) k c))(hk:0<k)(u:off+k<=cs.length):
  BX P n ds L o w (λv w'=>v=.tuple #[]/\Sep z (Γ.set i (blk b (cs.take off++List.replicate k (Aa 0)++cs.drop (off+k)) g)) w'):=λa hF=>by
 obtain ⟨e,i0,h1,r,h3⟩:=Un hd;have p:=H.blk i l;have f:=run_storeCells_at P b off g (List.replicate k (Aa 0)) 0 cs.toArray w p (by simpa using u) (λc hc=>by rw[List.mem_replicate.1 hc |>.2];rfl);simp only[AbQ,Aee,Ac6] at f;have s:(zeroValue e).run P w=.ok (Aa 0) w:=by simp[zeroValue,typeInfo,r,h3,go_sem]
 have h:(Builtin.zeroCells (Value.cells (Aa 0)) k).toList=List.replicate k (Aa 0):=by
  refine Aea (by simp[Builtin.zeroCells,Value.cells]) λj g1 g2=>?_;simp[Builtin.zeroCells,Value.cells,Nat.mod_one]
 have d:(Builtin.clear_ #[t] o.type #[.slice (some ⟨b,off,none⟩) k c]).run P w=.ok (.tuple #[]) (w.setRow b (cs.take off++List.replicate k (Aa 0)++cs.drop (off+k)).toArray):=by
  obtain ⟨m,rfl⟩:∃m,k=m+1:=⟨k-1,by omega⟩;simp only[Builtin.clear_,AcA,Aci,AbW,run_underlying h1,AbS,s,h,f,Ab2]
 refine ⟨.tuple #[],w.setRow b (cs.take off++List.replicate k (Aa 0)++cs.drop (off+k)).toArray,?_,Z,H.write i l Z Z Z (setRow_heap w b _ _ g (0,0) p) (λq hq=>setRow_other w b q _ hq)⟩;simp only[execOp,y,resolve,invoke,builtin,AbW,Ab2,AbS,Ach,Aca,AcP,hF.ev hx,d]
end
end
theorem Al(k:Nat)(ns:List Int):(ns.flatMap (Af k)).length=k*ns.length:=by
 induction ns with
 | nil=>rfl
 | cons x ns ih=>simp only[Acl,AbH,Ae,ih,AbI];rw[Adw];omega
theorem PZ{k:Nat}{ns:List Int}{i:Nat}{x:Int}(h:ns[i]?=some x):(ns.take i).flatMap (Af k)++Af k x=(ns.take (i+1)).flatMap (Af k):=by
 rw[AbZ,h];simp
theorem RU(k:Nat)(ns:List Int):∀{j:Nat} {x:Int},ns[j]?=some x->((ns.flatMap (Af k)).drop (k*j)).take k=Af k x:=by
 induction ns with
 | nil=>intro j x h;simp at h
 | cons y ys ih=>
  intro j x h
  cases j with
  | zero=>simp at h;subst h;rw[Acl,Aeh,Ab1,Acs (Ae k y)]
  | succ j=>
   rw[Acl,show k*(j+1)=(Af k y).length+k*j by rw[Ae,Adw];omega,Aco,Ab6 U,Ab3,show (Af k y).length+k*j-(Af k y).length=k*j by omega];exact ih (by simpa using h)
abbrev DG(ns:List Int):List UInt8:=ns.flatMap (Af 2)
theorem Fx{ns:List Int}(h:ns.length=120):(DG ns).length=240:=by rw[Al,h]
theorem Up{L:List UInt8}(h:L.length=240):((Bc L).drop 0).take 240=L:=by
 unfold Bc;rw[Ab1,Acs h]
theorem RV{ns:List Int}(hs:∀x∈ns,0<=x/\x<=1000){j:Nat}{x:Int}(h:ns[j]?=some x):Be (((DG ns).drop (2*j)).take 2)=x:=by
 rw[RU 2 ns h];have:=hs x (AbG h);exact CT this.1 U U
theorem RX{ns:List Int}{i:Nat}{x:Int}(h:ns[i]?=some x):(ns.take i).map Aa++[Aa x]=(ns.take (i+1)).map Aa:=by
 rw[AbZ,h];simp
theorem FM(b a k a2:Nat)(x:Int)(bs:List UInt8)(c:bs.length=256)(d:a+k<=256/\k<=8)(f:a+k=a2):
  Aj 144 [V b,Aa x,Aa (k:Int)] [blk b (Bb bs (a:Int)) 204] (λv G=>∃bs':List UInt8,bs'.length=256/\v=.tuple #[]/\G=[blk b (Bb bs' (a2:Int)) 204]):=by
 subst f;refine Cn.mono (DT b a k x bs c d) ?_;rintro v Γ ⟨g,e⟩;exact ⟨_,(DE (by rw[Ae];omega)).trans c,g,e⟩
def GG:List Value:=List.replicate 48 (.int .i64 0)
theorem Kf{i:Nat}(h:i<8)(k:Nat)(u:Value)(a:([Aa 0,Aa 0,Aa 0,Aa 0,Aa 0,Aa 0]:List Value)[k]?=some u):GG[i*6+k]?=some u:=by
 have b:k<6:=by simpa using (AbE.1 a).1
 have:u=Aa 0:=by
  rcases (show k=0\/k=1\/k=2\/k=3\/k=4\/k=5 by omega) with rfl|rfl|rfl|rfl|rfl|rfl<;>simp at a<;>exact a.symm
 subst this;unfold GG;rw[List.getElem?_replicate,if_pos U]
theorem OS(b:Nat)(a:Int)(bs:List UInt8)(c:bs.length=256):Aj 146 [V b] [blk b (Bb bs a) 204] (λv G=>v=.slice (some ⟨b,0,none⟩) 240 240/\G=[blk b (Bb bs a) 204]):=by
 intro z R w H;refine Ac func146 Z ntmps146 Z (Z0 10 [0] Z (Ad Z (RO (n':=256) (z:=1) Z J Z Z Z (q:=240) Z Z (by decide) (by decide)) (Zc 4 Z (Zr Z ?_))));exact ⟨_,⟨Z,Z⟩,H⟩
theorem NY(f:Value)(ns:List Int)(a0:ns.length=120)(a:∀x∈ns,0<=x/\x<=1000)(A:Ah)(k:∀h,A h->rdH 1 f 120 (ns.map Aa) h):Aj 103 [f] [A] (λv G=>∃e,v=.tuple #[.slice (some ⟨e,0,none⟩) 240 240,Aa 0]/\G=[blk e (Bb (Bc (DG ns)) ((2*120:Nat):Int)) 204,A]):=by
 intro z R w H;obtain ⟨l,s,rfl⟩:=H.sy 0 (λq=>(k _ q).slc);refine Ac func103 Z ntmps103 Z (Z0 19 [4] Z (AG Z (Bz (P:=prog) H Z (zs:=(Bb (Bc []) 0)) J) ?_));rintro _ w ⟨c,rfl,H⟩;refine Zc 11 Z ?_;refine Ay (σ:=Nat) (λi=>[(12,Aa (i:Int)),(4,V c),(10,.slice l 120 s),(11,Aa 120)])
   (λi w=>Sep z (blk c (Bb (Bc ((ns.take i).flatMap (Af 2))) ((2*i:Nat):Int)) 204::A::R) w/\(i<=120)) (λi=>120-i) 0
   fr_z ⟨(by simpa using H),by omega⟩ ?_
 clear H;rintro i w ⟨p,g⟩;have H:=p.l2;have m:=g;clear g;refine Z0 6 [0] Z (Ag Z (λt=>?_) (λt=>?_))
 ·obtain ⟨x,d⟩:∃x,ns[i]?=some x:=⟨_,AbF U⟩;have o:=a x (AbG d)
  refine Zc 6 Z ?_;have b:=(H.rd 1 Z k).at (j:=i) (u:=Aa x) (by simp[d]);refine Ad Z (Az Z (z:=1) (j:=i) (r:=i) J Z Z Z U b U) (Ad Z (AM Z Z J (AB b)) (Zc 7 Z (Ai Z (call122 _) (C6 _ _) H ?_)));intro w H;refine Ad Z (AW Z Z) (Zc 2 Z (Ag Z (λn=>U) (λn=>?_)));refine Zc 4 Z (Ai Z (call144 _) (DT _ (2*i) 2 x _ (Bl (by first|omega|(simp[Ae,Al,-List.length_flatMap]<;>omega))) U) H ?_);intro w H;rw[show ((2*i+2:Nat):Int)=(((2*(i+1):Nat):Int):Int) from by omega] at H;rw[show BD (Bc ((ns.take i).flatMap (Af 2))) (Af 2 x) (2*i)=Bc ((ns.take i).flatMap (Af 2)++Af 2 x) from Cp (by first|omega|(simp[Ae,Al,-List.length_flatMap]<;>omega)) (by first|omega|(simp[Ae,Al,-List.length_flatMap]<;>omega))] at H;have H:Sep z (blk c (Bb (Bc ((ns.take i).flatMap (Af 2)++Af 2 x)) ((2*(i+1):Nat):Int)) 204::A::R) w:=H;refine Z1 7 [] [(i:Int)+1] Z U (gf ?_);intro _ y;refine ⟨(i+1),y.cz,⟨(by rw[<-PZ d];exact H),?_⟩,?_⟩
  ·omega
  omega
 obtain rfl:i=120:=by omega
 refine Zc 2 Z (gx (Zc 3 Z ?_));rw[AbJ U] at H;have H:Sep z (blk c (Bb (Bc (DG ns)) ((2*120:Nat):Int)) 204::A::R) w:=H;refine Zc 1 Z (Ai Z (call146 _) (OS _ _ _ (Bl (by first|omega|(simp[Ae,Al,-List.length_flatMap]<;>omega)))) H ?_);intro w H;refine Zc 5 Z (Zr Z ?_);exact ⟨_,⟨c,Z,Z⟩,H.perm 2 [0,1] Z Z⟩
theorem ZV(k:Nat)(d b o n c:Nat)(xs:List UInt8)(A:Ah)(i:∀h,A h->rdH 1 (.slice (some ⟨b,o,none⟩) n c) n (xs.map u8) h)(hn:n<=c)(hk:k<=n)(a1:0<k)(ys:List UInt8)(hy:xs.take k=ys)(s l u:Nat)(e:(if c=k then o else o+k)=s)(f:n-k=l)(g:c-k=u):Aj 121 [V d,Aa (k:Int)] [blk d [.slice (some ⟨b,o,none⟩) n c] 162,A] (λv G=>v=Aa (Be ys)/\G=[blk d [.slice (some ⟨b,s,none⟩) l u] 162,A]):=by
 intro z R w H;subst hy e f g;have a0:=H.sy 1 (λq=>(i _ q).len);have a2:=H.sy 1 (λq=>(i _ q).cap);refine Ac func121 Z ntmps121 Z (Z2 18 [0,0,0] H Z (Ad Z (Bj Z (z:=1) (p:=0) (q:=k) (o':=o) (l':=k) (c':=c) J Z (.inl ⟨Z,Z⟩) (.inr ⟨_,_,_,Z,Z,Z⟩) U U U U U U) (Zc 5 Z ?_)));refine Ay (σ:=Nat) (λj=>[(15,Aa (j:Int)),(5,Aa (Be (xs.take j))),(0,V d),(1,Aa (k:Int)),(4,Aa 0),(13,.slice (some ⟨b,o,none⟩) k c),(14,Aa (k:Int))])
   (λj w=>Sep z (blk d [.slice (some ⟨b,o,none⟩) n c] 162::A::R) w/\(j<=k)) (λj=>k-j) 0
   (λ_ a=>(a.co Z (by go_num) a.cz)) ⟨H,by omega⟩ ?_
 clear H;rintro j w ⟨y,r⟩;have H:=y.l2;have a3:=r;clear r;refine Z0 6 [0] Z (Ag Z (λh1=>?_) (λh1=>?_))
 ·obtain ⟨x,t⟩:∃x,xs[j]?=some x:=⟨_,AbF U⟩;refine Z1 7 [1,j,o+j] [] Z U (Ad Z (AY Z Z J (AB (H.cell 1 Z (λh q=>(i h q).at t)))) (Zc 5 Z (Ad Z (Q7 Z Z Z (m:=8) Z (by decide)) (Zc 1 Z (Ad Z (LT Z J Z) (Ad Z (V1 Z Z Z (Mj _) ⟨by omega,by have:=x.toNat_lt;omega⟩) (Z1 8 [] [(j:Int)+1] Z U (gf ?_))))))));intro _ a;refine ⟨(j+1),(a.co Z (by go_num) (a.co Z (congrArg Aa (HZ t)) (a.all Z))),⟨H,?_⟩,?_⟩
  ·omega
  omega
 obtain rfl:j=k:=by omega
 refine Zc 2 Z (gx (Z2 10 [0,0,0] H Z (Ad Z (Ui Z (z:=1) J Z Z (p:=j) Z U U (o':=if c=j then o else o+j) (l':=n-j) (c':=c-j) (by rw[AcD]) Z Z) (Z4 12 [0,0] H Z ?_))));intro w H;refine Zr Z ?_;exact ⟨_,⟨Z,Z⟩,H⟩
theorem NZ(b o c:Nat)(bd:List UInt8)(A:Ah)(j:∀h,A h->rdH 1 (.slice (some ⟨b,o,none⟩) 240 c) 240 (bd.map u8) h)(ns:List Int)(a5:ns.length=120)(a:∀x∈ns,0<=x/\x<=1000)(g:bd=DG ns):Aj 136 [.slice (some ⟨b,o,none⟩) 240 c] [A] (λv G=>∃v1,v=.tuple #[v1,.bool true]/\G=[grow 3 1 v1 120 (ns.map Aa),A]):=by
 intro z R w H;have a4:=H.sy 0 (λq=>(j _ q).cap);refine Ac func136 Z ntmps136 Z (Za 21 [4] H Z ?_);intro t w H;refine Z4 10 [0] H Z ?_;intro w H;replace H:=(H.nilg 3 1).l3;refine Zc 5 Z ?_;refine Ay (σ:=Nat×Value×Nat) (λ⟨i,v,x⟩=>[(12,Aa (i:Int)),(5,v),(4,V t)])
   (λ⟨i,v,x⟩ w=>Sep z (grow 3 1 v i ((ns.take i).map Aa)::blk t [.slice (some ⟨b,x,none⟩) (240-2*i) (c-2*i)] 162::A::R) w/\(i<=120/\(i<120->x=o+2*i))) (λ⟨i,v,x⟩=>120-i) ⟨0,.slice none 0 0,o⟩
   (λ_ f=>(f.co Z (by go_num) f.cz)) ⟨H,⟨by omega,λ_=>rfl⟩⟩ ?_
 clear H;rintro ⟨i,v,x⟩ w ⟨e,u⟩;dsimp only at u e ⊢;have H:=e.l3;have sv:=H.sy 0 (·.slc);obtain ⟨a1,l⟩:=u;refine Z0 6 [0] Z (Ag Z (λh1=>?_) (λh1=>?_))
 ·have r:i<120:=by omega
  have n:=l r;obtain ⟨y,k⟩:∃y,ns[i]?=some y:=⟨_,AbF U⟩;have a3:=a y (AbG k);have p:Be ((bd.drop (2*i)).take 2)=y:=by rw[g];exact RV a k
  refine Zc 6 Z (Ai Z (call121 _) (ZV 2 _ b x (240-2*i) (c-2*i) ((bd.drop (2*i)).take (240-2*i)) _ (λh q=>by have:=(j h q).cut (lo:=2*i) (m:=240-2*i) (c':=c-2*i) U U U;rw[n];exact this) U U U ((bd.drop (2*i)).take 2) (by rw[Acq,Acm U]) (if c-2*i=2 then x else x+2) (240-2*(i+1)) (c-2*(i+1)) Z U U) H.f2.f2 ?_);intro w H;refine k_updA 14 (v:=Aa y) Z (congrArg Aa p) (Zc 7 Z (Ai Z (call122 _) (C6 _ _) H ?_));intro w H;refine Ad Z (AW Z Z) (Zc 2 Z (Ag Z (λh2=>U) (λh2=>?_)));refine Zc 5 Z (AG Z (AL H Z J BP Z (by decide) (by decide) (out:=[Aa y]) J) ?_);rintro _ w ⟨b2,rfl,H⟩;refine AG Z (AO 3 H Z Z J BP Z Z (H.rv 0 (·.rd U U O Z)) (by simp[Value.oneCell']) U) ?_;rintro v3 w e;have e:Sep z (blk b2 [Aa y] 3::blk t [.slice (some ⟨b,(if c-2*i=2 then x else x+2),none⟩) (240-2*(i+1)) (c-2*(i+1))] 162::A::grow 3 1 v3 (i+1) ((ns.take i).map Aa++[Aa y])::R) w:=e;have s:((ns.take i).map Aa++[Aa y]:List Value)=(ns.take (i+1)).map Aa:=(RX k);rw[s] at e;have H:=e.l4;refine Z1 8 [] [(i:Int)+1] Z U ?_;replace H:=H.d.f1.f1.f2;refine gf ?_;intro _ f;refine ⟨⟨i+1,v3,if c-2*i=2 then x else x+2⟩,f.cz,⟨H,?_⟩,?_⟩
  ·refine ⟨by dsimp only;omega,λq=>?_⟩;dsimp only at q ⊢;rw[if_neg U];omega
  omega
 obtain rfl:i=120:=by omega
 refine Zc 2 Z (gx (Zc 10 Z (Zr Z ?_)));rw[AbJ U] at H;exact ⟨_,⟨v,Z,Z⟩,H.perm 3 [0,2] Z Z⟩
theorem Uq:Aj 145 [.agg #[Aa 0,Aa 0,Aa 0,Aa 0,Aa 0,Aa 0]] [] (λv G=>v=.bool true/\G=[]):=by
 intro z R w H;refine Ac func145 Z ntmps145 Z (Za 2 [] H Z ?_);intro f w H;refine Z2 7 [0,0,0] H Z (Ai Z (call122 _) (C6 _ _) H ?_);intro w H;refine Zc 1 Z (Ak 6 Z (λe=>?_) (λe=>?_))
 ·refine Z2 2 [1,0,0] H Z (Ai Z (call122 _) (C6 _ _) H ?_);intro w H;refine Zc 2 Z (Ak 11 Z (λa=>?_) (λa=>?_))
  ·refine Z2 2 [2,0,0] H Z (Ai Z (call122 _) (C6 _ _) H ?_);intro w H;refine Zc 2 Z (Ak 16 Z (λd=>?_) (λd=>?_))
   ·refine Z2 2 [3,0,0] H Z (Ai Z (call122 _) (C6 _ _) H ?_);intro w H;refine Zc 2 Z (Ak 21 Z (λc=>?_) (λc=>?_))
    ·refine Z2 2 [4,0,0] H Z (Ai Z (call122 _) (C6 _ _) H ?_);intro w H;refine Zc 2 Z (Ak 26 Z (λb=>?_) (λb=>?_))
     ·refine Z2 2 [5,0,0] H Z (Ai Z (call122 _) (C6 _ _) H ?_);intro w H;refine Zc 5 Z (Zr Z ?_);exact ⟨_,⟨congrArg Value.bool (by first|rfl|decide),Z⟩,H.perm 1 [] Z Z⟩
     (exfalso;omega)
    (exfalso;omega)
   (exfalso;omega)
  (exfalso;omega)
 (exfalso;omega)
theorem Ur(vv:Value)(A:Ah)(s:∀h,A h->rdH 6 vv 8 GG h):Aj 87 [.agg #[Aa 1,vv,.slice none 0 0]] [A] (λv G=>∃(pw:Nat) (bs:List UInt8),bs.length=256/\v=.tuple #[.slice (some ⟨pw,0,none⟩) 240 240,Aa 0]/\G=[blk pw (Bb bs ((21+19*8:Nat):Int)) 204,A]):=by
 intro z R w H;replace H:=H.l1;obtain ⟨va,x,rfl⟩:=H.sy 0 (λq=>(s _ q).slc);refine Ac func87 Z ntmps87 Z (Za 2 [] H Z ?_);intro b1 w H;refine Z2 9 [0,0,0] H Z (Ai Z (call122 _) (C6 _ _) H ?_);intro w H;replace H:=H.l2;refine Ad Z (AW Z Z) (Zc 1 Z (Ak 13 Z (λh1=>U) (λh1=>?_)));refine Z2 18 [2,0,0,4,1,0,0,4] H Z (AG Z (Bz (P:=prog) H Z (zs:=(Bb (Bc []) 0)) J) ?_);rintro _ w ⟨p,rfl,H⟩;replace H:=H.l3;refine Zc 3 Z ?_;have H:Sep z (blk p (Bb (Bc []) ((0:Nat):Int)) 204::blk b1 [Aa 1,.slice va 8 x,.slice none 0 0] 139::A::R) w:=H;refine Z2 3 [0,1,0] H Z (AA Z (call144 _) (FM _ 0 4 4 1 _ (Bl (by decide)) U U) H ?_);rintro _ w _ ⟨a3,e,rfl,rfl⟩ H;refine Z2 7 [2,1,0] H Z (AA Z (call144 _) (FM _ 4 1 5 0 _ e U U) H ?_);rintro _ w _ ⟨g,a,rfl,rfl⟩ H;refine Z2 12 [2,1,0] H Z (Jk 1 (EW (Z0 9 [4] Z (gx (Z0 5 [256] Z (A9 Z Z (AD 0 H Z Z Z Z (vs:=[Aa 21]) Z (Aq Z AN) J (by rw[EU _ a];simp) (out:=(Bb g 21)) (IC _ _ a)) ?_))))));rintro w H;replace H:=H.l3;refine Z2 12 [1,1,0] H Z ?_;refine Ay (σ:=Nat×List UInt8) (λ⟨i,bs⟩=>[(49,Aa (i:Int)),(4,V p),(47,.slice va 8 x),(48,Aa 8)])
   (λ⟨i,bs⟩ w=>Sep z (blk p (Bb bs ((21+19*i:Nat):Int)) 204::blk b1 [Aa 1,.slice va 8 x,.slice none 0 0] 139::A::R) w/\(i<=8/\bs.length=256)) (λ⟨i,bs⟩=>8-i) ⟨0,g⟩
   fr_z ⟨H,⟨by omega,a⟩⟩ ?_
 clear H;rintro ⟨i,bs⟩ w ⟨H',hI⟩;dsimp only at hI H' ⊢;have H:=H'.l3;obtain ⟨a5,c⟩:=hI;refine Z0 6 [0] Z (Ag Z (λh2=>?_) (λh2=>?_))
 ·refine Zc 6 Z ?_;have y:=(H.rd 2 Z s).at (Kf (i:=i) U 0 _ Z)
  refine Ad Z (Az Z (z:=6) (j:=i) (r:=i*6) J Z Z Z U y U) (Ad Z (BU Z Z (vs:=[Aa 0,Aa 0,Aa 0,Aa 0,Aa 0,Aa 0]) J O (AB (λk u hk=>(H.rd 2 Z s).at (Kf (i:=i) U k u hk)))) (Za 0 [] H Z ?_));intro b5 w H;refine Z4 7 [0,0,6] H Z ?_;intro w H;refine Ai Z (call145 _) (Uq) H ?_;intro w H;refine Z2 10 [0,0,0] H Z (AA Z (call144 _) (FM _ (21+19*i) 4 (21+19*i+4) 0 _ c U U) H.f1 ?_);rintro _ w _ ⟨a4,f,rfl,rfl⟩ H;refine Z2 6 [1,1,0] H Z (AA Z (call144 _) (FM _ (21+19*i+4) 1 (21+19*i+5) 0 _ f U U) H ?_);rintro _ w _ ⟨a2,o,rfl,rfl⟩ H;refine Z2 6 [2,1,0] H Z (AA Z (call144 _) (FM _ (21+19*i+5) 4 (21+19*i+9) 0 _ o U U) H ?_);rintro _ w _ ⟨a6,n,rfl,rfl⟩ H;refine Z2 6 [3,1,0] H Z (AA Z (call144 _) (FM _ (21+19*i+9) 4 (21+19*i+13) 0 _ n U U) H ?_);rintro _ w _ ⟨a1,l,rfl,rfl⟩ H;refine Z2 6 [4,1,0] H Z (AA Z (call144 _) (FM _ (21+19*i+13) 2 (21+19*i+15) 0 _ l U U) H ?_);rintro _ w _ ⟨a0,b,rfl,rfl⟩ H;refine Z2 5 [5,1,0] H Z (AA Z (call144 _) (FM _ (21+19*i+15) 4 (21+19*(i+1)) 0 _ b U U) H ?_);rintro _ w _ ⟨m,t,rfl,rfl⟩ H;refine Z1 7 [] [(i:Int)+1] Z U ?_;replace H:=H.f1.d;refine gf ?_;intro _ hF;refine ⟨⟨i+1,m⟩,hF.cz,⟨H,?_⟩,?_⟩
  ·dsimp only;exact ⟨by omega,by assumption⟩
  omega
 obtain rfl:i=8:=by omega
 refine Zc 2 Z (gx (Zc 4 Z (Ai Z (call146 _) (OS _ _ _ c) H ?_)));intro w H;refine Zc 5 Z (Zr Z ?_);exact ⟨_,⟨p,bs,c,Z,Z⟩,H.perm 3 [0,2] Z Z⟩
def cnL(C:Nat->Nat)(n:Nat):List Value:=(List.range n).map λk=>.int .i64 (C k:Int)
abbrev Aw(bn:Nat)(C:Nat->Nat)(n:Nat):Ah:=blk bn (cnL C n) 3
abbrev coB(pc bn n m:Nat):Ah:=blk pc [.slice (some ⟨bn,0,none⟩) n n,.map (some m)] 154
def updN(C:Nat->Nat)(p x:Nat):Nat->Nat:=λq=>if q=p then x else C q
theorem B3(C:Nat->Nat)(n:Nat):(cnL C n).length=n:=by simp[cnL]
theorem cnL_at(C:Nat->Nat){n k:Nat}(h:k<n):(cnL C n)[k]?=some (Aa (C k:Int)):=by simp[cnL,h]
theorem Ej(C:Nat->Nat){n k x:Nat}{y:Int}(h:k<n)(d:y=(x:Int)):(cnL C n).take k++[Aa y]++(cnL C n).drop (k+1)=cnL (updN C k x) n:=by
 subst d;have e:=AcK (l:=cnL C n) (i:=k) (a:=Aa (x:Int));rw[if_pos (by rw[B3];exact h)] at e;rw[AbK,Adc,<-e];refine AcF λj=>?_;rw[AcE];rcases AbX j n with b|b
 ·rw[cnL_at (updN C k x) b]
  split
  ·rename_i c;subst c;rw[if_pos (by rw[B3];exact h)];simp[updN]
  rename_i c;rw[cnL_at C b];simp[updN,Ada c]
 rw[Ab5 (by rw[B3];exact b),Ab5 (by rw[B3];exact b)];split
 ·rename_i c;subst c;rw[if_neg (by rw[B3];omega)]
 rfl
structure WasOk(C C0:Nat->Nat)(n:Nat)(l:List IE)(clk:Nat):Prop where
 clk:∀p∈l,p.2.2<clk
 born:(l.map λp:IE=>p.2.2).Nodup
 keys:(l.map λp:IE=>p.1).Nodup
 ent:∀p∈l,∃k:Nat,p.1=(k:Int)/\k<n/\p.2.1=.int .i64 (C0 k:Int)
 rest:∀k,k<n->(∀p∈l,p.1≠(k:Int))->C k=C0 k
theorem WasOk.nil(C:Nat->Nat)(n clk:Nat):WasOk C C n [] clk:=⟨by simp,by simp,by simp,by simp,λ_ _ _=>rfl⟩
theorem Lu:∀{l:List IE} {k:Int},Cw l k=none->∀p∈l,p.1≠k
 | [],_,_,p,h=>by simp at h
 | q::l,k,h,p,hp=>by
  simp only[Cw] at h;split at h
  ·cases h
  rename_i hne;rcases Acb.1 hp with rfl|hp
  ·exact λe=>hne e.symm
  exact Lu h p hp
theorem Lw:∀{l:List IE} {k:Int} {v:Value},Cw l k=some v->∃p∈l,p.1=k/\p.2.1=v
 | [],_,_,h=>by simp[Cw] at h
 | q::l,k,v,h=>by
  simp only[Cw] at h;split at h
  ·rename_i e;simp at h;exact ⟨q,by simp,e.symm,h⟩
  obtain ⟨p,hp,h1,h2⟩:=Lw h;exact ⟨p,by simp[hp],h1,h2⟩
theorem Ni:∀{l:List IE} {p:IE},(l.map λp:IE=>p.1).Nodup->p∈l->Cw l p.1=some p.2.1
 | [],p,_,h=>by simp at h
 | q::l,p,hn,h=>by
  simp only[Aca,AcZ] at hn;simp only[Cw];rcases Acb.1 h with rfl|h
  ·simp
  rw[if_neg (λe=>hn.1 (by rw[<-e];exact AbP.2 ⟨p,h,Z⟩))];exact Ni hn.2 h
theorem WasOk.has{C C0:Nat->Nat}{n clk p:Nat}{l:List IE}(W:WasOk C C0 n l clk)(h:Cq l (p:Int)=true)(x:Nat):WasOk (updN C p x) C0 n l clk:=by
 refine ⟨W.clk,W.born,W.keys,W.ent,λk d a=>?_⟩;unfold updN;split
 ·rename_i e;subst e
  obtain ⟨v,b⟩:=Acp.1 h;obtain ⟨q,hq,c,_⟩:=Lw b;exact absurd c (a q hq)
 exact W.rest k d a
theorem WasOk.put{C C0:Nat->Nat}{n clk p:Nat}{l:List IE}(W:WasOk C C0 n l clk)(hp:p<n)(h:Cq l (p:Int)=false)(x:Nat):
  WasOk (updN C p x) C0 n (EI l (p:Int) (Aa (C p:Int)) clk) (putC l (p:Int) clk):=by
 have f:∀q∈l,q.1≠(p:Int):=Lu (by unfold Cq at h;simpa using h);have o:EI l (p:Int) (Aa (C p:Int)) clk=l++[((p:Int),Aa (C p:Int),clk)]:=by unfold EI;rw[h];rfl
 have j:putC l (p:Int) clk=clk+1:=by unfold putC;rw[h];rfl
 have m:C p=C0 p:=W.rest p hp f;rw[o,j];refine ⟨λq hq=>?_,?_,?_,λq hq=>?_,λk i c=>?_⟩
 ·rcases Acd.1 hq with hq|hq
  ·have:=W.clk q hq;omega
  simp at hq;subst hq;simp
 ·rw[Ab7,AcY]
  refine ⟨W.born,by simp,λa g b d=>?_⟩;simp at d;subst d;obtain ⟨q,hq,rfl⟩:=AbP.1 g;have:=W.clk q hq;omega
 ·rw[Ab7,AcY]
  refine ⟨W.keys,by simp,λa g b d=>?_⟩;simp at d;subst d;obtain ⟨q,hq,rfl⟩:=AbP.1 g;exact f q hq
 ·rcases Acd.1 hq with hq|hq
  ·exact W.ent q hq
  simp at hq;subst hq;exact ⟨p,Z,hp,by rw[m]⟩
 unfold updN;split
 ·rename_i e;subst e
  exact absurd Z (c ((k:Int),Aa (C k:Int),clk) O)
 exact W.rest k i (λq hq=>c q (by simp[hq]))
theorem WasOk.len{C C0:Nat->Nat}{n clk:Nat}{l:List IE}(W:WasOk C C0 n l clk):l.length<=n:=by
 have h:=GZ (s:=l.map λp:IE=>p.1) (l:=(List.range n).map λk:Nat=>(k:Int)) W.keys (λx a=>by
  obtain ⟨p,hp,rfl⟩:=AbP.1 a;obtain ⟨k,c,b,_⟩:=W.ent p hp;rw[c];exact AbP.2 ⟨k,AcL.2 b,Z⟩)
 simpa using h
def manyN(n:Nat):Nat:=(n+119)/120
def Cc(C:Nat->Nat)(n i:Nat):List Int:=(List.range 120).map λk=>if 120*i+k<n then (C (120*i+k):Int) else 0
theorem CU(C:Nat->Nat)(n i:Nat):(Cc C n i).length=120:=by simp[Cc]
theorem Kg{C:Nat->Nat}(h:∀k,C k<=1000)(n i:Nat):∀x∈Cc C n i,0<=x/\x<=1000:=λx a=>by
 simp only[Cc,AbP] at a;obtain ⟨k,_,rfl⟩:=a;split
 ·have:=h (120*i+k);omega
 omega
theorem Us(C:Nat->Nat)(n i:Nat)(d:120*i<n):(List.replicate 120 (Aa 0)).take 0++((cnL C n).drop (120*i)).take (min (n-120*i) 120)++(List.replicate 120 (Aa 0)).drop (0+min (n-120*i) 120)=(Cc C n i).map Aa:=by
 rw[Ac3,Ab3,AcW];refine AcF λj=>?_;have b:(((cnL C n).drop (120*i)).take (min (n-120*i) 120)).length=min (n-120*i) 120:=by rw[AbM,Acc,B3];omega
 rcases AbX j 120 with a|a
 ·have c:((Cc C n i).map Aa)[j]?=some (Aa (if 120*i+j<n then (C (120*i+j):Int) else 0)):=by simp[Cc,a]
  rw[c];rcases AbX j (min (n-120*i) 120) with h|h
  ·rw[AbU U,Acn,if_pos h,AcH,cnL_at C U,if_pos U]
  rw[AbT U,b,AcH,List.getElem?_replicate,if_pos U,if_neg U]
 rw[Ab5 (by rw[AbH,b,Acc,AbQ];omega),Ab5 (by simp[Cc];omega)]
theorem XJ(C:Nat->Nat)(n:Nat):∀c∈cnL C n,c.oneCell'=true:=λc a=>by
 simp only[cnL,AbP] at a;obtain ⟨k,_,rfl⟩:=a;rfl
def D7(C:Nat->Nat)(i:Nat)(ns:List Int)(j:Nat):Nat->Nat:=λp=>if p/120=i/\p%120<j then (ns.getD (p%120) 0).toNat else C p
theorem Jt(C:Nat->Nat)(i:Nat)(ns:List Int):D7 C i ns 0=C:=by funext p;simp[D7]
theorem Ju(C:Nat->Nat){i j:Nat}{ns:List Int}{x:Int}(b:j<120)(a:ns[j]?=some x)(c:0<=x):updN (D7 C i ns j) (120*i+j) x.toNat=D7 C i ns (j+1):=by
 funext p;unfold updN D7;split
 ·rename_i e;subst e
  rw[if_pos ⟨by omega,by omega⟩,show (120*i+j)%120=j by omega];simp[List.getD,a]
 rename_i e;by_cases h:p/120=i/\p%120<j
 ·rw[if_pos h,if_pos ⟨h.1,by omega⟩]
 rw[if_neg h,if_neg (λq=>h ⟨q.1,by omega⟩)]
theorem Ut(C:Nat->Nat){n i j:Nat}{ns:List Int}(h:n<=120*i+j)(a:j<120):cnL (D7 C i ns j) n=cnL (D7 C i ns (j+1)) n:=by
 refine AcF λp=>?_;rcases AbX p n with hp|hp
 ·rw[cnL_at _ hp,cnL_at _ hp]
  unfold D7;by_cases q:p/120=i/\p%120<j
  ·rw[if_pos q,if_pos ⟨q.1,by omega⟩]
  rw[if_neg q,if_neg (λr=>q ⟨r.1,by omega⟩)]
 rw[Ab5 (by rw[B3];exact hp),Ab5 (by rw[B3];exact hp)]
def GH(C C0:Nat->Nat)(s:List IE):Nat->Nat:=λk=>if s.any (λp=>decide (p.1=(k:Int))) then C0 k else C k
theorem XK(C C0:Nat->Nat):GH C C0 []=C:=by funext k;simp[GH]
theorem Uu(C C0:Nat->Nat){s:List IE}{p:IE}{k:Nat}(a:p.1=(k:Int)):updN (GH C C0 s) k (C0 k)=GH C C0 (s++[p]):=by
 funext q;unfold updN GH;rw[List.any_append];have b:([p]:List IE).any (λp=>decide (p.1=(q:Int)))=decide (k=q):=by
  simp[a];omega
 rw[b];split
 ·rename_i e;subst e;simp
 rename_i e;have:decide (k=q)=false:=decide_eq_false (λh=>e h.symm);rw[this,Bool.or_false]
theorem XL{C C0:Nat->Nat}{n clk:Nat}{l s:List IE}(W:WasOk C C0 n l clk)(hs:s.Perm l):cnL (GH C C0 s) n=cnL C0 n:=by
 refine AcF λk=>?_;rcases AbX k n with a|a
 ·rw[cnL_at _ a,cnL_at _ a]
  unfold GH;split
  ·rfl
  rename_i h;rw[W.rest k a (λp hp e=>h (by
   rw[AeA];exact ⟨p,hs.mem_iff.2 hp,by simpa using e⟩))]
 rw[Ab5 (by rw[B3];exact a),Ab5 (by rw[B3];exact a)]
def unA(b1 pc bn m n:Nat)(C C0:Nat->Nat)(l s:List IE):Ah:=λh=>((∀p∈s,p∈l)/\(s.map λp:IE=>p.2.2).Nodup)/\seps [blk b1 [.pointer (some ⟨pc,0,none⟩)] 60,blk pc [.slice (some ⟨bn,0,none⟩) n n,.map (some m)] 154,blk bn (cnL (GH C C0 s) n) 3] h
theorem Sep.un{z w:World}{Γ:List Ah}{c a b m n:Nat}{C C0:Nat->Nat}{l s:List IE}(H:Sep z (unA c a b m n C C0 l s::Γ) w):((∀p∈s,p∈l)/\(s.map λp:IE=>p.2.2).Nodup)/\Sep z (YthbbejpbkglmlaaGreatDoor.blk c [V a] 60::YthbbejpbkglmlaaGreatDoor.blk a [.slice (some ⟨b,0,none⟩) n n,.map (some m)] 154::YthbbejpbkglmlaaGreatDoor.blk b (cnL (GH C C0 s) n) 3::Γ) w:=by
 obtain ⟨_,hp,d⟩:=H.into (σ:=Unit) (p:=λ_=>(∀p∈s,p∈l)/\(s.map λp:IE=>p.2.2).Nodup) (As:=λ_=>[YthbbejpbkglmlaaGreatDoor.blk c [V a] 60,YthbbejpbkglmlaaGreatDoor.blk a [.slice (some ⟨b,0,none⟩) n n,.map (some m)] 154,YthbbejpbkglmlaaGreatDoor.blk b (cnL (GH C C0 s) n) 3]) (λh q=>⟨(),q.1,q.2⟩);exact ⟨hp,d⟩
theorem Sep.toUn{z w:World}{Γ:List Ah}{c a b m n:Nat}{C C0:Nat->Nat}{l s:List IE}(H:Sep z (YthbbejpbkglmlaaGreatDoor.blk c [V a] 60::YthbbejpbkglmlaaGreatDoor.blk a [.slice (some ⟨b,0,none⟩) n n,.map (some m)] 154::YthbbejpbkglmlaaGreatDoor.blk b (cnL (GH C C0 s) n) 3::Γ) w)(d:(∀p∈s,p∈l)/\(s.map λp:IE=>p.2.2).Nodup):Sep z (unA c a b m n C C0 l s::Γ) w:=
 H.made 3 (A:=unA c a b m n C C0 l s) (λh q=>⟨d,q⟩)
theorem Sep.permut{z w:World}{Γ Γ':List Ah}(p:Γ.Perm Γ'):∀Δ:List Ah,Sep z (Δ++Γ) w->Sep z (Δ++Γ') w:=by
 induction p with
 | nil=>exact λ_ H=>H
 | cons a _ ih=>
  intro Δ H;have:=ih (Δ++[a]) (by rw[AbK];exact H);rw[AbK] at this;exact this
 | swap a b l=>
  intro Δ H;have d:Sep z (b::a::(l++Δ)) w:=H.swap;have c:Sep z ((a::b::l)++Δ) w:=d.pick 2 [1,0] Z;exact c.swap
 | trans _ _ ih1 ih2=>exact λΔ H=>ih2 Δ (ih1 Δ H)
theorem Uv{z w:World}{A B C:Ah}{R:List Ah}(H:Sep z (A::B::C::R) w):Sep z ((A::R)++[B,C]) w:=
 Sep.permut (AeN A (List.perm_append_comm (l₁:=[B,C]) (l₂:=R))) [] H
theorem XM{z w:World}{c b a B C:Ah}{R F:List Ah}(H:Sep z (c::b::a::(R++([B,C]++F))) w):Sep z (c::b::a::B::C::(R++F)) w:=
 Sep.permut (Aeo R [B,C] F) [c,b,a] H
theorem XN{z w:World}{A B C:Ah}{R F:List Ah}(H:Sep z (A::B::C::(R++F)) w):Sep z ((A::R)++([B,C]++F)) w:=
 Sep.permut (Aeo [B,C] R F) [A] H
theorem ZW{z w:World}{D A B C:Ah}{R:List Ah}(H:Sep z (D::((A::R)++[B,C])) w):Sep z (A::D::B::C::R) w:=
 Sep.permut ((List.Perm.swap A D _).trans (AeN A (AeN D (List.perm_append_comm (l₁:=R) (l₂:=[B,C]))))) [] H
theorem Uw{L:List Int}{rest:List Value}{k:Nat}{x:Int}(b:k<L.length):(L.map Aa++rest).take k++[Aa x]++(L.map Aa++rest).drop (k+1)=(L.set k x).map Aa++rest:=by
 rw[AbR (by simp;omega),Ace (by simp;omega)];have e:=AcK (l:=L) (i:=k) (a:=x);rw[if_pos b] at e;rw[e];simp[Adt,Aeu]
theorem Gr{L:List Int}{rest:List Value}{k:Nat}{x:Int}(a:L[k]?=some x):(L.map Aa++rest)[k]?=some (Aa x):=by
 rw[AbU (by simpa using (AbE.1 a).1),AbY,a];rfl
structure CpI(ys:List Int)(n k0 k j:Nat)(L:List Int):Prop where
 k0k:k0<=k
 kj:k+1<=k0+j
 j1:1<=j
 jn:k0+j<=n
 len:L.length=n
 same:∀i,k0+j<=i+1->L[i]?=ys[i]?
 mem:∀x,x∈L.take k↔x∈ys.take (k0+j)
theorem EE{l:List Int}{k:Nat}{x:Int}(h:l[k]?=some x)(z:Int):z∈l.take (k+1)↔z∈l.take k\/z=x:=by
 rw[AbZ,h];simp
theorem CpI.start{ys:List Int}{n k:Nat}{x:Int}(d:ys.length=n)(f:1<=k)(c:k<n)(b:ys[k]?=some x)(a:ys[k-1]?=some x):CpI ys n k k 1 ys:=by
 refine ⟨Ab9 _,Ab9 _,Ab9 _,by omega,d,λ_ _=>rfl,λz=>?_⟩;rw[EE b];refine ⟨.inl,λh=>h.elim id λe=>?_⟩;subst e;exact Aez.2 ⟨k-1,by have:=(AbE.1 a).1;omega,(AbE.1 a).2⟩
theorem CpI.skip{ys L:List Int}{n a k j:Nat}{x:Int}(I_:CpI ys n a k j L)(b:ys[a+j]?=some x)(c:ys[a+(j-1)]?=some x):CpI ys n a k (j+1) L:=by
 have l:=I_.j1;have d:=(AbE.1 b).1;refine ⟨I_.k0k,by have:=I_.kj;omega,by omega,?_,I_.len,λi g=>I_.same i U,λz=>?_⟩
 ·have hs:=I_.same (a+j) U
  rw[b] at hs;have:=(AbE.1 hs).1;have:=I_.len;omega
 rw[<-Ac8,EE b,I_.mem z];refine ⟨.inl,λh=>h.elim id λe=>?_⟩;subst e;exact Aez.2 ⟨a+(j-1),by have:=(AbE.1 c).1;omega,(AbE.1 c).2⟩
theorem CpI.put{ys L:List Int}{n a k j:Nat}{x:Int}(I_:CpI ys n a k j L)(c:ys[a+j]?=some x):CpI ys n a (k+1) (j+1) (L.set k x):=by
 have g:=I_.j1;have f:=I_.kj;have b:=I_.len;have hs:=I_.same (a+j) U;rw[c] at hs;have d:=(AbE.1 hs).1;have e:(L.set k x)[k]?=some x:=by rw[AcE];simp;omega
 refine ⟨by have:=I_.k0k;omega,by omega,by omega,by omega,by simpa using I_.len,λi h=>?_,λz=>?_⟩
 ·rw[AcE,if_neg U];exact I_.same i U
 rw[EE e,<-Ac8,EE c,<-I_.mem z,List.take_set_of_le (Ab9 _)]
def E0(C C0:Nat->Nat)(s:List IE):List Int:=(s.filter λp=>decide (C0 p.1.toNat≠C p.1.toNat)).map λp=>p.1/120
theorem OT{C C0:Nat->Nat}{s:List IE}{p:IE}{k:Nat}(a:p.1=(k:Int))(h:(C0 k:Int)≠(C k:Int)):E0 C C0 (s++[p])=E0 C C0 s++[(k:Int)/120]:=by
 unfold E0;have:decide (C0 k≠C k)=true:=decide_eq_true (λe=>h (by rw[e]));rw[Ad3,Ab7];congr 1;simp only[List.filter,a,Acg,this];simp[a]
theorem Ux{C C0:Nat->Nat}{s:List IE}{p:IE}{k:Nat}(a:p.1=(k:Int))(h:(C0 k:Int)=(C k:Int)):E0 C C0 (s++[p])=E0 C C0 s:=by
 unfold E0;have:decide (C0 k≠C k)=false:=decide_eq_false (λe=>e U);rw[Ad3,Ab7];simp only[List.filter,a,Acg,this];simp
theorem ZX(C C0:Nat->Nat)(s:List IE):(E0 C C0 s).length<=s.length:=by unfold E0;rw[AbN];exact List.length_filter_le _ _
theorem XO{C C0:Nat->Nat}{n clk:Nat}{l s:List IE}(W:WasOk C C0 n l clk)(hs:s.Perm l)(x:Int):x∈E0 C C0 s↔∃k:Nat,k<n/\C k≠C0 k/\x=((k/120:Nat):Int):=by
 unfold E0;simp only[AbP,Aei,decide_eq_true_eq];constructor
 ·rintro ⟨p,⟨hp,a⟩,rfl⟩
  obtain ⟨k,b,d,_⟩:=W.ent p (hs.mem_iff.1 hp);rw[b,Acg] at a;exact ⟨k,d,λe=>a e.symm,by rw[b];omega⟩
 rintro ⟨k,f,a,rfl⟩;have:∃p∈l,p.1=(k:Int):=by
  refine AcQ λc=>a (W.rest k f λp hp e=>c ⟨p,hp,e⟩)
 obtain ⟨p,hp,b⟩:=this;exact ⟨p,⟨hs.mem_iff.2 hp,by rw[b,Acg];exact λe=>a e.symm⟩,by rw[b];omega⟩
theorem Wc(n:Int):Aj 108 [Aa n] [] (λv G=>v=.bool (decide (16<=n/\n<=1024))/\G=[]):=by
 intro z R w H;refine Ac func108 Z ntmps108 Z (Z0 10 [0] Z (Ak 5 Z (λa=>?_) (λa=>?_)))
 ·refine Z0 7 [0] Z (Zr Z ?_);exact ⟨_,⟨congrArg Value.bool (by first|(rw[Ab0];simp<;>omega)|(simp<;>omega)),Z⟩,H⟩
 refine Zc 7 Z (Zr Z ?_);exact ⟨_,⟨congrArg Value.bool (by first|(rw[Ab0];simp<;>omega)|(simp<;>omega)),Z⟩,H⟩
theorem DR(n:Nat)(b:16<=n/\n<=1024):Aj 51 [Aa (n:Int)] [] (λv G=>v=Aa (manyN n:Int)/\G=[]):=by
 intro z R w H;refine Ac func51 Z ntmps51 Z (Zc 9 Z (Ai Z (call108 _) (Wc _) H ?_));intro w H;refine Ad Z (AW Z Z) (Zc 2 Z (Ag Z (λa=>U) (λa=>?_)));refine Z1 12 [] [(n:Int)+120,((n:Int)+120)-1,(((n:Int)+120)-1)/120] Z U (Zr Z ?_);exact ⟨_,⟨congrArg Aa (by unfold manyN;omega),Z⟩,H⟩
theorem RY(n:Nat)(h:16<=n/\n<=1024):Aj 79 [Aa (n:Int)] [] (λv G=>∃a b m:Nat,v=.tuple #[V a,Aa 0]/\G=[coB a b n m,Aw b (λ_=>0) n,AE m [] 0]):=by
 intro z R w H;refine Ac func79 Z ntmps79 Z (Zc 10 Z (Ai Z (call108 _) (Wc _) H ?_));intro w H;refine Ad Z (AW Z Z) (Zc 2 Z (Ag Z (λg=>U) (λg=>?_)));refine Zc 5 Z (AG Z (Dx (k:=n) H Z J BP Z Z Z U) ?_);rintro _ w ⟨f,rfl,H⟩;refine AG Z (FI H Z) ?_;rintro _ w ⟨d,rfl,H⟩;refine Za 1 [] H Z ?_;intro c w H;refine Zc 5 Z (Zr Z ?_);have e:List.replicate n (Aa 0)=cnL (λ_=>0) n:=by
   unfold cnL;rw[AeL,AdH];rfl
 rw[e] at H;exact ⟨_,⟨c,f,d,Z,Z⟩,H.perm 3 [0,2,1] Z Z⟩
theorem Ez(b a m n:Nat)(C:Nat->Nat)(p:Nat)(hp:p<n)(e:16<=n/\n<=1024):Aj 50 [V b,Aa (p:Int)] [coB b a n m,Aw a C n] (λv G=>v=Aa (C p:Int)/\G=[coB b a n m,Aw a C n]):=by
 intro z R w H;refine Ac func50 Z ntmps50 Z (Z0 11 [0] Z (Ak 7 Z (λd=>U) (λd=>?_)));refine Z2 10 [0,0,0,0] H Z (Ag Z (λc=>U) (λc=>?_));refine Z3 10 [0,0,0,1,p,p] [] H Z U (Ad Z (AY Z Z J (AB (H.cel 1 Z p (cnL_at _ U)))) (Zc 4 Z (Zr Z ?_)));exact ⟨_,⟨Z,Z⟩,H⟩
theorem XP(b a m n:Nat)(C:Nat->Nat)(p:Int)(hp:p<0\/(n:Int)<=p)(e:16<=n/\n<=1024):Aj 50 [V b,Aa p] [coB b a n m,Aw a C n] (λv G=>v=Aa 0/\G=[coB b a n m,Aw a C n]):=by
 intro z R w H;refine Ac func50 Z ntmps50 Z (Z0 11 [0] Z (Ak 7 Z (λd=>?_) (λd=>?_)))
 ·refine Zc 17 Z (Zr Z ?_);exact ⟨_,⟨Z,Z⟩,H⟩
 refine Z2 10 [0,0,0,0] H Z (Ag Z (λc=>?_) (λc=>?_))
 ·refine Zc 6 Z (Zr Z ?_);exact ⟨_,⟨Z,Z⟩,H⟩
 (exfalso;omega)
theorem Il(c b m n:Nat)(C:Nat->Nat)(C0:Nat->Nat)(l:List IE)(clk p x:Nat)(y:Int)(hp:p<n)(t:16<=n/\n<=1024)(u:(C p:Int)+y=x)(h:x<=1000)(hC:C p<=1000)(W:WasOk C C0 n l clk):Aj 43 [V c,Aa (p:Int),Aa y] [coB c b n m,Aw b C n,AE m l clk] (λv G=>∃(f:List IE) (a:Nat),WasOk (updN C p x) C0 n f a/\v=Aa 0/\G=[coB c b n m,Aw b (updN C p x) n,AE m f a]):=by
 intro z R w H;replace H:=H.l3;refine Ac func43 Z ntmps43 Z (Z0 11 [0] Z (Ak 11 Z (λq=>U) (λq=>?_)));refine Z2 10 [0,0,0,0] H Z (Ag Z (λg=>U) (λg=>?_));refine Z3 12 [0,0,0,1,p,p] [] H Z U (Ad Z (AY Z Z J (AB (H.cel 1 Z p (cnL_at _ U)))) (Z1 3 [0] [1000-(C p:Int)] Z U (Ak 30 Z (λj=>U) (λj=>?_))));refine Z3 7 [0,0,0,1,p,p] [] H Z U (Ad Z (AY Z Z J (AB (H.cel 1 Z p (cnL_at _ U)))) (Ad Z (Od Z Z (r:= -(C p:Int)) U U) (Z0 4 [0] Z (Ag Z (λk=>U) (λk=>?_)))));refine Z2 10 [1,0,0] H Z (Ad Z (CI (e:=3) (zv:=Aa 0) Z J J Z Z (AB (H.bk 2 Z))) (Zc 13 Z (DP Z (λd=>?_) (λd=>?_))))
 ·have o:Cq l (p:Int)=false:=by simpa using d
  refine Bh 12 J J (A4 H λw i=>?_);have H:=i.l3;refine CL 11 [1,0,0,0,0,0,1,p,p] [] H Z J U (Cj Z Z Z (AY Z Z J (AB (H.cel 1 Z p (cnL_at _ U)))) (BY (gw (A9 Z Z (Dn 2 (e:=3) H Z Z J Z Z Z) ?_))));rintro w H;replace H:=H.l3;refine Z3 10 [0,0,0,1,p,p] [] H Z U (Ad Z (AY Z Z J (AB (H.cel 1 Z p (cnL_at _ U)))) (Z1 3 [1,p,p] [(x:Int)] Z U (A9 Z Z (AD 1 H Z Z Z Z (vs:=[Aa (x:Int)]) Z (Aq Z AN) J (by simp only[B3,AbI,AbO];omega) (out:=cnL (updN C p x) n) (Ej _ U Z)) ?_)));rintro w H;replace H:=H.l3;refine Zc 8 Z (Zr Z ?_);exact ⟨_,⟨_,_,W.put hp o x,Z,Z⟩,H⟩
 have s:Cq l (p:Int)=true:=by simpa using d
 refine Z3 10 [0,0,0,1,p,p] [] H Z U (Ad Z (AY Z Z J (AB (H.cel 1 Z p (cnL_at _ U)))) (Z1 3 [1,p,p] [(x:Int)] Z U (A9 Z Z (AD 1 H Z Z Z Z (vs:=[Aa (x:Int)]) Z (Aq Z AN) J (by simp only[B3,AbI,AbO];omega) (out:=cnL (updN C p x) n) (Ej _ U Z)) ?_)));rintro w H;replace H:=H.l3;refine Zc 8 Z (Zr Z ?_);exact ⟨_,⟨_,_,W.has s x,Z,Z⟩,H⟩
theorem Lx(a b m n:Nat)(l:List IE)(clk:Nat):Aj 48 [V a] [coB a b n m,AE m l clk] (λv G=>v=.tuple #[]/\G=[coB a b n m,AE m [] clk]):=by
 intro z R w H;refine Ac func48 Z ntmps48 Z (Z2 5 [1,0,0] H Z (JR Z Z (IG 1 (e:=3) H Z Z J Z) ?_));rintro _ w ⟨rfl,H⟩;refine Zc 1 Z (Zf Z ?_);exact ⟨_,⟨Z,Z⟩,H⟩
theorem KP(e b m n:Nat)(C:Nat->Nat)(i:Nat)(g:i<manyN n)(r:16<=n/\n<=1024)(l:∀k,C k<=1000):Aj 45 [V e,Aa (i:Int)] [coB e b n m,Aw b C n] (λv G=>∃a:Nat,v=.slice (some ⟨a,0,none⟩) 240 240/\G=[blk a (Bb (Bc (DG (Cc C n i))) ((2*120:Nat):Int)) 204,coB e b n m,Aw b C n]):=by
 intro z R w H;have d:120*i<n:=by unfold manyN at g;omega
 refine Ac func45 Z ntmps45 Z (Z0 11 [0] Z (Ak 10 Z (λj=>U) (λj=>?_)));refine Z2 6 [0,0,0] H Z (Ai Z (call51 _) (DR _ U) H ?_);intro w H;refine Z0 4 [0] Z (Ag Z (λf=>U) (λf=>?_));refine Zc 4 Z (AG Z (Dx (k:=120) H Z J BP Z Z Z U) ?_);rintro _ w ⟨s,rfl,H⟩;refine Z3 12 [0,1,0] [(i:Int)*120] H Z U (Ad Z (Bj Z (z:=1) (p:=(120*i)) (q:=n) (o':=120*i) (l':=(n-120*i)) (c':=(n-120*i)) J Z (.inr ⟨_,_,_,Z,Z,U⟩) (.inl ⟨Z,Z⟩) U U U U U U) (AG Z (WH 0 H Z Z J Z Z (m:=(n-120*i)) (news:=((cnL C n).drop (120*i))) (.inl (H.rv 2 (·.rd U U (by rw[B3];omega) (by rw[AcD];exact AbJ (by rw[Acc,B3];omega))))) (λc o=>XJ C n c (Adu o)) (by rw[AbQ];omega) (k:=(min (n-120*i) 120)) Z (out:=((Cc C n i).map Aa)) (Us C n i d)) ?_));rintro _ w ⟨rfl,H⟩;refine Zc 5 Z (AA Z (call103 _) (NY _ (Cc C n i) (CU _ _ _) (Kg l _ _) _ (λh q=>q.rd U U (by simp[Cc]) (by rw[Ab1];exact AbJ (by simp[Cc])))) H ?_);rintro _ w _ ⟨a,rfl,rfl⟩ H;refine Zc 14 Z (Zr Z ?_);exact ⟨_,⟨a,Z,Z⟩,H.perm 4 [0,2,3] Z Z⟩
theorem XQ(q l m n:Nat)(C:Nat->Nat)(clk i:Nat)(hi:i<manyN n)(hn:16<=n/\n<=1024)(b o c:Nat)(bd:List UInt8)(A:Ah)(hA:∀h,A h->rdH 1 (.slice (some ⟨b,o,none⟩) 240 c) 240 (bd.map u8) h)(ns:List Int)(a2:ns.length=120)(d:∀x∈ns,0<=x/\x<=1000)(a0:bd=DG ns)(hz:∀(k:Nat) (x:Int),ns[k]?=some x->n<=120*i+k->x=0):Aj 81 [V q,Aa (i:Int),.slice (some ⟨b,o,none⟩) 240 c] [coB q l n m,Aw l C n,AE m ([]) clk,A] (λv G=>v=Aa 0/\G=[coB q l n m,Aw l (D7 C i ns 120) n,AE m [] clk,A]):=by
 intro z R w H;replace H:=H.l4;have a4:120*i<n:=by unfold manyN at hi;omega
 refine Ac func81 Z ntmps81 Z (Z0 11 [0] Z (Ak 16 Z (λh1=>U) (λh1=>?_)));refine Z2 6 [0,0,0] H Z (Ai Z (call51 _) (DR _ U) H ?_);intro w H;refine Z0 4 [0] Z (Ag Z (λh2=>U) (λh2=>?_));refine Zc 5 Z (AA Z (call136 _) (NZ _ _ _ bd _ hA ns a2 d a0) H.f3 ?_);rintro _ w _ ⟨v1,rfl,rfl⟩ H;refine Zc 19 Z ?_;have a1:=H.sy 0 (·.slc);obtain ⟨a,g,rfl⟩:=a1;refine Zc 7 Z ?_;refine Ay (σ:=Nat) (λj=>[(35,Aa (j:Int)),(0,V q),(1,Aa (i:Int)),(7,.slice a 120 g),(33,.slice a 120 g),(34,Aa 120)])
   (λj w=>Sep z (grow 3 1 (.slice a 120 g) 120 (ns.map Aa)::A::coB q l n m::Aw l C n::AE m ([]) clk::R) w/\(j<=120)) (λj=>120-j) 0
   fr_z ⟨H,by omega⟩ ?_
 clear H;rintro j w ⟨H',t⟩;have H:=H'.l5;have hj:=t;clear t;refine Z0 6 [0] Z (Ag Z (λh3=>?_) (λh3=>?_))
 ·obtain ⟨x,s⟩:∃x,ns[j]?=some x:=⟨_,AbF U⟩;have y:=d x (AbG s)
  refine Zc 7 Z ?_;have f:=(H.rv 0 (·.rd)).at (j:=j) (u:=Aa x) (by simp[s]);refine Ad Z (Az Z (z:=1) (j:=j) (r:=j) J Z Z Z U f U) (Ad Z (AM Z Z J (AB f)) (Z0 9 [0] Z (Ak 42 Z (λh4=>U) (λh4=>?_))));refine Z0 3 [0] Z (Ak 45 Z (λh5=>?_) (λh5=>?_))
  ·refine Z3 14 [0,2,0,0] [(i:Int)*120,((i:Int)*120)+(j:Int)] H Z U (Ag Z (λh6=>?_) (λh6=>?_))
   ·(exfalso;have:=hz j x s;omega)
   refine Z1 7 [] [(j:Int)+1] Z U (gf ?_);intro _ p;refine ⟨(j+1),p.cz,⟨H,?_⟩,?_⟩
   ·omega
   omega
  refine Z1 22 [] [(j:Int)+1] Z U (gf ?_);intro _ p;refine ⟨(j+1),p.cz,⟨H,?_⟩,?_⟩
  ·omega
  omega
 obtain rfl:j=120:=by omega
 refine Zc 2 Z (gx (Zc 11 Z ?_));refine Ay (σ:=Nat) (λj=>[(61,Aa (j:Int)),(0,V q),(1,Aa (i:Int)),(59,.slice a 120 g),(60,Aa 120)])
   (λj w=>Sep z (grow 3 1 (.slice a 120 g) 120 (ns.map Aa)::A::coB q l n m::Aw l (D7 C i ns j) n::AE m ([]) clk::R) w/\(j<=120)) (λj=>120-j) 0
   fr_z ⟨(by rw[Jt];exact H),by omega⟩ ?_
 clear H;rintro j w ⟨H',t⟩;have H:=H'.l5;have hj:=t;clear t;refine Z0 6 [0] Z (Ag Z (λh7=>?_) (λh7=>?_))
 ·obtain ⟨x,s⟩:∃x,ns[j]?=some x:=⟨_,AbF U⟩;have y:=d x (AbG s)
  refine Zc 7 Z ?_;have f:=(H.rv 0 (·.rd)).at (j:=j) (u:=Aa x) (by simp[s]);refine Ad Z (Az Z (z:=1) (j:=j) (r:=j) J Z Z Z U f U) (Ad Z (AM Z Z J (AB f)) (Z3 24 [0,2,0,0] [(i:Int)*120,((i:Int)*120)+(j:Int)] H Z U (Ag Z (λh8=>?_) (λh8=>?_))))
  ·refine Z3 9 [0,2,0,1,(120*i+j),120*i+j] [] H Z U (A9 Z Z (AD 3 H Z Z Z Z (vs:=[Aa x]) Z (Aq Z AN) J (by simp only[B3,AbI,AbO];omega) (out:=cnL (D7 C i ns (j+1)) n) ((Ej (x:=x.toNat) _ U U).trans (by rw[Ju C U s y.1]))) ?_);rintro w H;replace H:=H.l5;refine Z2 8 [1,2,0] H Z (JR Z Z (Mf 4 (e:=3) H Z Z J Z Z) ?_);rintro _ w ⟨rfl,H⟩;replace H:=H.l5;refine Z1 7 [] [(j:Int)+1] Z U (gf ?_);intro _ p;refine ⟨(j+1),p.cz,⟨H,?_⟩,?_⟩
   ·omega
   omega
  refine Z1 7 [] [(j:Int)+1] Z U (gf ?_);intro _ p;refine ⟨(j+1),p.cz,⟨(by dsimp only[Aw];rw[<-Ut C U U];exact H),?_⟩,?_⟩
  ·omega
  omega
 obtain rfl:j=120:=by omega
 refine Zc 2 Z (gx (Zc 8 Z (Zr Z ?_)));exact ⟨_,⟨Z,Z⟩,H.perm 5 [2,3,4,1] Z Z⟩
theorem Uy(g m clk:Nat)(l:List IE)(f:∀p∈l,p.2.2<clk)(n:(l.map λp:IE=>p.2.2).Nodup):V3 prog 212 [V g] [blk g [.map (some m)] 152,AE m l clk] (Zq l) [] (PH l):=by
 intro z k J_ o w a;have H:=a.l2;refine Jj (args:=[.func (.yield k) #[] #[],V g]) func212 Z Z 14 ntmps212 Z ?_;refine Cz ?_;refine BR ?_;refine s_do Z Z Z (AY Z Z J (AB (H.cel 0 Z 0 Z))) ?_;refine EF Z Z Z (GW 1 (e:=3) H Z Z J Z) ?_;rintro _ w ⟨i,rfl,a⟩;have H:=a.l3;refine AP ?_;refine DM ?_;refine Kz (σ:=List IE) (λs=>[(0,.func (.yield k) #[] #[]),(5,V i)])
  (λs w=>Sep z (Gl i m clk (s.map λp:IE=>p.2.2)::blk g [.map (some m)] 152::AE m l clk::J_ s) w/\(True)) (λs=>(B1 l (s.map λp:IE=>p.2.2)).length) ([])
  (λ_ d=>(d.all Z)) ⟨H,trivial⟩ ?_
 clear H;rintro s w ⟨a,q⟩;have H:=a.l3;refine Cz ?_;refine BR ?_;refine EF Z Z Z (Ie 0 2 H Z Z Z Z f) ?_;rintro _ w ⟨j,rfl,b,a⟩;have H:=a.l3;refine s_do Z Z Z (J4 Z Z) ?_;refine AP ?_;refine Cz ?_;refine IF Z (λh=>?_) (λh=>?_)
 ·-- yes:j.isSome
  obtain ⟨c,rfl⟩:=Acp.1 h;refine F8 ?_;refine DM ?_;refine Cz ?_;refine BR ?_;refine s_do Z Z Z (GX (p:=c) Z Z (AB ⟨H.bk 0 Z,H.bk 2 Z⟩) (CH b).1 n) ?_;refine s_do Z Z Z (ER Z Z Z) ?_;refine s_do Z Z Z (AS Z Z) ?_;refine AP ?_;refine Cz ?_;refine Ji ?_;refine D5 Z Z Z (CX Z Z) ?_;refine D5 Z Z Z (CX Z Z) ?_;replace H:=H.f2.f2;refine KB Z Z Z Z Z Z (o s _ (s++[c]) [Gl i m clk ((s.map λp:IE=>p.2.2)++[c.2.2])] ⟨c,b,Z,Z⟩ _ H) ?_;rintro _ w ⟨rfl,a⟩;refine ⟨_,Z,?_⟩;have H:=a.l3;refine D5 Z Z Z (JL Z Z) ?_;refine PB ?_;refine Hz Z ?_;refine F8 ?_;replace H:=H.f1.f1.f2;intro _ d;refine ⟨(s++[c]),(d.all Z),⟨(by rw[Ab7];exact H),?_⟩,?_⟩
  ·trivial
  (have:=Ef b;rwa[show (s++[c]).map (λp:IE=>p.2.2)=(s.map λp:IE=>p.2.2)++[c.2.2] from by simp])
 -- no:j.isSome
 obtain rfl:j=none:=by simpa using h
 refine Ky ?_;refine HP ?_;exact λ_ d=>⟨d.defers,s,b,H.perm 3 [1,2] Z Z⟩
theorem XR(m:Nat):Aj 169 [.map (some m)] [] (λv G=>∃a:Nat,v=.func (.func 212) #[] #[V a]/\G=[blk a [.map (some m)] 152]):=by
 intro z R w H;refine Ac func169 Z ntmps169 Z (Za 2 [] H Z ?_);intro b w H;refine Zc 5 Z (Ad Z (FZ Z Z Z) (Zc 4 Z (Zr Z ?_)));exact ⟨_,⟨b,Z,Z⟩,H⟩
theorem XS(c d m n:Nat)(C:Nat->Nat)(C0:Nat->Nat)(l:List IE)(clk:Nat)(W:WasOk C C0 n l clk):Aj 106 [V c] [coB c d n m,Aw d C n,AE m l clk] (λv G=>v=.tuple #[]/\G=[coB c d n m,Aw d C0 n,AE m [] clk]):=by
 intro z R w b;have H:=b.l3;refine Mx func106 Z 25 ntmps106 Z (AV (AI (EF Z Z Z (FE H Z Z (cs:=[V c]) Z) ?_)));rintro _ w ⟨q,rfl,b⟩;have H:=b.l4;refine AP (AV (AV (AI (Gk 4 [0,1,1] (AQ (H.blk 0 Z) (AQ (H.blk 1 Z) AJ)) Z J Z (Fj Z Z Z Z Z (λw=>call169 _ w) (XR _) H Z ?_)))));rintro _ w _ ⟨t,rfl,rfl⟩ b;have H:=b.l5;refine AP (Fm ?_);replace H:=H.f4.f1.f4.f4.f4;dsimp only[Aw] at H;rw[show cnL C n=cnL (GH C C0 []) n by rw[XK]] at H;have b:=H.toUn (l:=l) (s:=[]) O;clear H;have H:=Uv b;clear b;refine MA (λs=>(unA q c d m n C C0 l s::R)) Z (λu w=>call212 u w) Z (Uy t m clk l W.clk W.born) H ?_ ?_
 ·rintro ro s v s2 ⟨p,hp,rfl,rfl⟩ w;obtain ⟨k,g,o,a0⟩:=W.ent p (CH hp).1;refine BR (BQ 1 Z Z (AP ?_));refine λa hF=>⟨Z,λF w b=>?_⟩
  revert a hF;have H:Sep z (unA q c d m n C C0 l s::(R++([blk t [.map (some m)] 152,AE m l clk]++F))) w:=b;clear b;obtain ⟨f,b⟩:=H.un;clear H;have H:=XM b;clear b;have H:Sep z (blk q [V c] 60::coB c d n m::Aw d (GH C C0 s) n::blk t [.map (some m)] 152::AE m l clk::(R++F)) w:=H;refine DM ?_;replace H:=H.f4.f2.f2;refine Id (Sep z (blk q [V c] 60::coB c d n m::AE m l clk::(R++F))) 13 Z J (A4 H λw b=>?_);have H:=b.l5;refine A6 [0,1,2,3,4,5,6,7,8,9] [0,0,1,0,1,1] J (λ_ y=>(AQ (y.blk 0 Z) (AQ (y.blk 1 Z) AJ))) (by exact H.pick 5 [0,1,2] Z) Z J Z Z (AR 10 J Z Z J J J Z Z Z (Fo (e:=3) (zv:=Aa 0) Z J J Z Z (λ_ y=>y.bk 2 Z)) (H.pick 5 [0,1,2] Z) (k_updA 19 (v:=Aa (C0 k:Int)) Z (by rw[Ni W.keys (CH hp).1,a0];rfl) (AR 11 J Z Z J J J Z Z Z (Oe Z (z:=1) (j:=k) (r:=k) J Z Z g o U) (H.pick 5 [0,1,2] Z) (An [12] J O (Ar (B6 Z Z Z (AD 3 H Z Z Z Z (vs:=[Aa (C0 k:Int)]) Z (Aq Z AN) J (by simp only[B3,AbI,AbO];omega) (out:=cnL (GH C C0 (s++[p])) n) ((Ej (x:=C0 k) _ o Z).trans (by rw[Uu C C0 g]))) ?_))))));rintro w b;have H:=b.l5;refine Am (λh=>absurd Z h) (AT J ?_);replace H:=H.f2.f4.f4.f4.f4;exact λ_ _=>XN (H.toUn (FG f hp))
 rintro D0 w s i b;have H:=ZW b;clear b;obtain ⟨f,b⟩:=H.un;clear H;rw[XL W (GN W.born f i)] at b;have H:Sep z (blk q [V c] 60::coB c d n m::Aw d C0 n::bk D0 (.deferred (some []))::blk t [.map (some m)] 152::AE m l clk::R) w:=b;clear b;refine AI (Gk 4 [0,1,1] (AQ (H.blk 0 Z) (AQ (H.blk 1 Z) AJ)) Z J Z (VS Z Z (IG 5 (e:=3) H Z Z J Z) ?_));rintro _ w ⟨rfl,b⟩;have H:=b.l6;refine AP ?_;replace H:=H.f3;refine Mz H (rs:=[]) Z [] (λ_=>trivial) (v:=.tuple #[]) Z (λw b=>?_);clear H;have H:=b.l5;exact ⟨[coB c d n m,Aw d C0 n,AE m ([]) clk],⟨Z,Z⟩,H.perm 5 [1,2,4] Z Z⟩
theorem compS_c(a:Value)(ys:List Int)(e:ys.length<2):Aj 102 [a] [grow 3 1 a ys.length (ys.map Aa)] (λv G=>∃(c:Value) (zs:List Int) (B:Ah),(zs.length<=ys.length/\(∀x,x∈zs↔x∈ys)/\∀h,B h->rdH 1 c zs.length (zs.map Aa) h)/\v=c/\G=[B]):=by
 intro z R w H;have b:=H.sy 0 (·.slc);refine Ac func102 Z ntmps102 Z (Zc 9 Z (Ad Z (JT Z (sz:=1) J Z b) (Z0 3 [0] Z (Ag Z (λd=>?_) (λd=>?_)))))
 ·refine Zc 7 Z (Zr Z ?_);exact ⟨_,⟨a,ys,_,⟨Ab9 _,λ_=>Iff.rfl,λh q=>q.rd⟩,Z,Z⟩,H⟩
 (exfalso;omega)
theorem compact_c(v0:Value)(ys:List Int)(n:Nat)(hl:ys.length=n)(hn:2<=n/\n<=1073741824):Aj 102 [v0] [grow 3 1 v0 n (ys.map Aa)] (λv G=>∃(v1:Value) (zs:List Int) (B:Ah),(zs.length<=ys.length/\(∀x,x∈zs↔x∈ys)/\∀h,B h->rdH 1 v1 zs.length (zs.map Aa) h)/\v=v1/\G=[B]):=by
 intro z R w H;obtain ⟨g,c,rest,rfl,c1,c2,c3,H⟩:=H.ungrow 0 Z U;refine Ac func102 Z ntmps102 Z (Z0 13 [0] Z (Ag Z (λh1=>U) (λh1=>?_)));refine Zc 9 Z ?_;refine Ay (σ:=Nat) (λa=>[(3,Aa (a:Int)),(0,.slice (some ⟨g,0,none⟩) n c)])
   (λa w=>Sep z (blk g (ys.map Aa++rest) 3::R) w/\(1<=a/\a<=n)) (λa=>n-a) 1
   fr_z ⟨H,by omega⟩ ?_
 clear H;rintro a w ⟨i,r⟩;have H:=i.l1;have hk:=r;clear r;refine Z0 9 [0] Z (Ag Z (λh2=>?_) (λh2=>?_))
 ·obtain ⟨x,d⟩:∃x,ys[a]?=some x:=⟨_,AbF U⟩;obtain ⟨y,e⟩:∃y,ys[a-1]?=some y:=⟨_,AbF U⟩;refine Zc 5 Z (Bd (Sep z _) J J H.drew (FT 3 [1,a,a] [] Z J U (Bn Z Z Z (AY Z Z J (λ_ m=>m.cel 0 Z a (Gr d))) (FT 4 [1,(a-1),(a-1)] [(a:Int)-1] Z J U (Bn Z Z Z (AY Z Z J (λ_ m=>m.cel 0 Z (a-1) (Gr e))) (Cm 1 [] Z J (Bu (λw i=>?_))))))));have H:=i.l1;refine gn (Zc 1 Z (Ag Z (λu=>?_) (λu=>?_)))
  ·have o:x=y:=u
   refine Zc 4 Z (Ad Z (Bj Z (z:=1) (p:=a) (q:=n) (o':=a) (l':=n-a) (c':=c-a) J Z (.inr ⟨_,_,_,Z,Z,Z⟩) (.inl ⟨Z,Z⟩) U U U U U U) (Zc 10 Z ?_));refine Ay (σ:=Nat×Nat×List Int) (λ⟨k,j,L⟩=>[(3,Aa (k:Int)),(5,Aa (j:Int)),(0,.slice (some ⟨g,0,none⟩) n c),(4,.slice (some ⟨g,a,none⟩) (n-a) (c-a)),(10,Aa (a:Int)),(11,.slice (some ⟨g,0,none⟩) n c),(12,Aa (n:Int)),(13,.bool (decide ((a:Int)<(n:Int)))),(16,.slice (some ⟨g,0,none⟩) n c),(17,Aa (a:Int)),(18,.pointer (some ⟨g,a,none⟩)),(19,Aa x),(20,.slice (some ⟨g,0,none⟩) n c),(21,Aa (a:Int)),(22,Aa ((a:Int)-1)),(23,.pointer (some ⟨g,(a-1),none⟩)),(24,Aa y),(25,.bool (decide ((x:Int)=y))),(26,.slice (some ⟨g,0,none⟩) n c),(27,Aa (a:Int)),(28,.slice (some ⟨g,a,none⟩) (n-a) (c-a))])
     (λ⟨k,j,L⟩ w=>Sep z (blk g (L.map Aa++rest) 3::R) w/\(CpI ys n a k j L)) (λ⟨k,j,L⟩=>n-j) ⟨a,1,ys⟩
     (λ_ f=>(f.co Z Z f.cz)) ⟨H,CpI.start hl U U d (by rw[o];exact e)⟩ ?_
   clear H;rintro ⟨k,j,L⟩ w ⟨i,r⟩;dsimp only at r i ⊢;have H:=i.l1;have b:=r;clear r;have a4:=b.kj;have a3:=b.j1;have a5:=b.jn;have a2:=b.len;refine Z0 9 [0] Z (Ag Z (λh4=>?_) (λh4=>?_))
   ·obtain ⟨x,d⟩:∃x,ys[a+j]?=some x:=⟨_,AbF U⟩;obtain ⟨y,e⟩:∃y,ys[a+(j-1)]?=some y:=⟨_,AbF (by have:=b.j1;omega)⟩;have l:L[a+j]?=some x:=(b.same _ U).trans d
    have s:L[a+(j-1)]?=some y:=(b.same _ (by have:=b.j1;omega)).trans e;refine Zc 5 Z (Bd (Sep z _) J J H.drew (FT 3 [1,j,a+j] [] Z J U (Bn Z Z Z (AY Z Z J (λ_ m=>m.cel 0 Z (a+j) (Gr l))) (FT 4 [1,(j-1),a+(j-1)] [(j:Int)-1] Z J U (Bn Z Z Z (AY Z Z J (λ_ m=>m.cel 0 Z (a+(j-1)) (Gr s))) (Cm 1 [] Z J (Bu (λw i=>?_))))))));have H:=i.l1;refine gn (Zc 1 Z (Ag Z (λh5=>?_) (λh5=>?_)))
    ·refine Z1 7 [1,j,a+j] [] Z U (Ad Z (AY Z Z J (AB (H.cel 0 Z (a+j) (Gr l)))) (Z1 1 [1,k,k] [] Z U (A9 Z Z (AD 0 H Z Z Z Z (vs:=[Aa x]) Z (by simp[u8,u32,Value.oneCell']) J (by simp only[AbH,AbN,AbI,AbO];have:=b.len;omega) (out:=((L.set k x).map Aa++rest)) (Uw (by have:=b.len;have:=b.kj;have:=b.jn;omega))) ?_)));rintro w H;refine Z1 14 [] [(k:Int)+1,(j:Int)+1] Z U (gf ?_);intro _ f;refine ⟨⟨k+1,j+1,L.set k x⟩,(f.co Z (by go_num) f.cz),⟨H,?_⟩,?_⟩
     ·exact b.put d
     (dsimp only;omega)
    have o:x=y:=Ad7.1 h5;refine Z1 8 [] [(j:Int)+1] Z U (gf ?_);intro _ f;refine ⟨⟨k,j+1,L⟩,(f.co Z Z f.cz),⟨H,?_⟩,?_⟩
    ·exact b.skip d (by rw[o];exact e)
    (dsimp only;omega)
   have a1:a+j=n:=by omega
   refine Zc 2 Z (gx (Zc 6 Z (Ad Z (Bj Z (z:=1) (p:=k) (q:=n) (o':=k) (l':=n-k) (c':=c-k) J Z (.inr ⟨_,_,_,Z,Z,Z⟩) (.inl ⟨Z,Z⟩) U U U U U U) (JR Z Z (Uo 0 H Z Z J Z (by have:=b.kj;have:=b.jn;omega) (by simp;have:=b.len;have:=b.kj;have:=b.jn;omega)) ?_))));rintro _ w ⟨rfl,H⟩;refine Zc 6 Z (Ad Z (Bj Z (z:=1) (p:=0) (q:=k) (o':=0) (l':=k) (c':=c) J Z (.inl ⟨Z,Z⟩) (.inr ⟨_,_,_,Z,Z,Z⟩) U U U U U U) (Zc 4 Z (Zr Z ?_)));have t:(L.take k).length=k:=by rw[AbM];have:=b.len;have:=b.kj;have:=b.jn;omega
   exact ⟨_,⟨_,L.take k,_,⟨by have:=b.kj;have:=b.jn;omega,λz=>(b.mem z).trans (by rw[AbJ U]),λh q=>by rw[t];exact q.rd (by have:=b.kj;have:=b.jn;omega) U (by simp;have:=b.len;have:=b.kj;have:=b.jn;omega) (by rw[Ab1,AcD,AbK,Acs (by rw[AbM];simp;have:=b.len;have:=b.kj;have:=b.jn;omega),AbR (by simp;have:=b.len;have:=b.kj;have:=b.jn;omega),Adt])⟩,Z,Z⟩,H.perm 1 [0] Z Z⟩
  refine Z1 8 [] [(a:Int)+1] Z U (gf ?_);intro _ f;refine ⟨(a+1),f.cz,⟨H,?_⟩,?_⟩
  ·omega
  omega
 refine Zc 2 Z (gx (Zc 9 Z (Zr Z ?_)));exact ⟨_,⟨_,ys,_,⟨by omega,λ_=>Iff.rfl,λh q=>by rw[hl];exact q.rd U U (by simp;omega) (by rw[Ab1,Acs (by simp;omega)])⟩,Z,Z⟩,H.perm 1 [0] Z Z⟩
theorem ZY(a:Value)(ys:List Int)(c:ys.length<=1073741824):Aj 102 [a] [grow 3 1 a ys.length (ys.map Aa)] (λv G=>∃(b:Value) (zs:List Int) (B:Ah),(zs.length<=ys.length/\(∀x,x∈zs↔x∈ys)/\∀h,B h->rdH 1 b zs.length (zs.map Aa) h)/\v=b/\G=[B]):=by
 rcases AbX ys.length 2 with h|h
 ·exact compS_c a ys h
 exact compact_c a ys _ Z ⟨h,c⟩
theorem Ly(o j m n:Nat)(C:Nat->Nat)(C0:Nat->Nat)(l:List IE)(clk:Nat)(hn:16<=n/\n<=1024)(W:WasOk C C0 n l clk):Aj 44 [V o] [coB o j n m,Aw j C n,AE m l clk] (λv G=>∃(g:Value) (zs:List Int) (B:Ah),(zs.length<=n/\(∀x:Int,x∈zs↔∃k:Nat,k<n/\C k≠C0 k/\x=((k/120:Nat):Int))/\∀h,B h->rdH 1 g zs.length (zs.map Aa) h)/\v=g/\G=[B,coB o j n m,Aw j C n,AE m l clk]):=by
 intro z R w H;replace H:=H.l3;have a9:=W.len;refine Ac func44 Z ntmps44 Z (Z2 17 [1,0,0] H Z (AG Z (GW 2 (e:=3) H Z Z J Z) ?_));rintro _ w ⟨rr,rfl,H⟩;replace H:=H.l4;refine Zc 1 Z ?_;replace H:=(H.nilg 3 1).l5;refine Zc 2 Z ?_;refine Ay (σ:=List IE×Value) (λ⟨s,g⟩=>[(3,g),(0,V o),(2,.slice none 0 0),(10,V rr)])
   (λ⟨s,g⟩ w=>Sep z (grow 3 1 g ((E0 C C0 s).length) ((E0 C C0 s).map Aa)::Gl rr m clk (s.map λp:IE=>p.2.2)::coB o j n m::Aw j C n::AE m l clk::R) w/\((∀p∈s,p∈l)/\(s.map λp:IE=>p.2.2).Nodup)) (λ⟨s,g⟩=>(B1 l (s.map λp:IE=>p.2.2)).length) ⟨[],.slice none 0 0⟩
   fr_z ⟨H,⟨by simp,by simp⟩⟩ ?_
 clear H;rintro ⟨s,g⟩ w ⟨i,hI⟩;dsimp only at hI i ⊢;have H:=i.l5;have f:=hI;clear hI;have a4:=J7 f;have b0:=ZX C C0 s;refine Zc 2 Z (AG Z (Ie 1 4 H Z Z Z Z W.clk) ?_);rintro _ w ⟨qx,rfl,a,H⟩;replace H:=H.l5;refine Ad Z (J4 Z Z) (Zc 3 Z (DP Z (λh1=>?_) (λh1=>?_)))
 ·obtain ⟨b,rfl⟩:=Acp.1 h1;obtain ⟨k,c,a7,a2⟩:=W.ent b (CH a).1;refine Zc 5 Z (Ad Z (GX (p:=b) Z Z (AB ⟨H.bk 1 Z,H.bk 4 Z⟩) (CH a).1 W.born) (Zc 2 Z (k_updA 14 (v:=Aa (k:Int)) Z (congrArg Aa c) (k_updA 15 (v:=Aa (C0 k:Int)) Z a2 (Z3 13 [0,2,0,1,k,k] [] H Z U (Ad Z (AY Z Z J (AB (H.cel 3 Z k (cnL_at _ U)))) (Z0 3 [0] Z (Ag Z (λh2=>?_) (λh2=>?_)))))))))
  ·have q:(C0 k:Int)≠(C k:Int):=h2
   refine Z1 4 [] [(k:Int)/120] Z U (AG Z (AL H Z J BP Z (by decide) (by decide) (out:=[Aa ((k:Int)/120)]) J) ?_);rintro _ w ⟨b1,rfl,H⟩;replace H:=H.l6;refine AG Z (AO 1 H Z Z J BP Z Z (H.rv 0 (·.rd U U O Z)) (by simp[Value.oneCell']) U) ?_;rintro v2 w i;have i:Sep z (blk b1 [Aa ((k:Int)/120)] 3::grow 3 1 v2 ((E0 C C0 s).length+1) ((E0 C C0 s).map Aa++[Aa ((k:Int)/120)])::Gl rr m clk (I0 (s.map λp:IE=>p.2.2) (some b))::coB o j n m::Aw j C n::AE m l clk::R) w:=i;have a0:((E0 C C0 s).map Aa++[Aa ((k:Int)/120)]:List Value)=(E0 C C0 (s++[b])).map Aa:=(by rw[OT c q];simp);rw[a0] at i;rw[show ((E0 C C0 s).length+1:Nat)=(E0 C C0 (s++[b])).length from (by rw[OT c q];simp)] at i;have H:=i.l6;refine Zc 3 Z ?_;replace H:=H.d;refine gf ?_;intro _ hF;refine ⟨⟨s++[b],v2⟩,(hF.all Z),⟨(by dsimp only;rw[Ab7];exact H),?_⟩,?_⟩
   ·exact FG f a
   (have:=Ef a;rwa[show (s++[b]).map (λp:IE=>p.2.2)=(s.map λp:IE=>p.2.2)++[b.2.2] from by simp])
  have u:(C0 k:Int)=(C k:Int):=Ad7.1 h2;refine Zc 2 Z (gf ?_);intro _ hF;refine ⟨⟨s++[b],g⟩,(hF.all Z),⟨(by dsimp only;rw[Ab7,Ux c u];exact H),?_⟩,?_⟩
  ·exact FG f a
  (have:=Ef a;rwa[show (s++[b]).map (λp:IE=>p.2.2)=(s.map λp:IE=>p.2.2)++[b.2.2] from by simp])
 obtain rfl:qx=none:=by simpa using h1
 have r:PH l s:=a;refine Zc 2 Z (gx (Zc 5 Z (AA Z (call101 _) (Rx _ _ U) H ?_)));rintro _ w _ ⟨rfl,ys,rfl,rfl⟩ H;refine Zc 5 Z ?_;have a6:((E0 C C0 s).mergeSort (λx y=>decide (x<=y))).length=(E0 C C0 s).length:=List.length_mergeSort _;refine AA Z (call102 _) (ZY _ _ U) H ?_;rintro v2 w _ ⟨v3,zs,B,⟨a8,a3,a1⟩,rfl,rfl⟩ H;replace H:=H.l5;refine Zc 4 Z (Zr Z ?_);have t:=λx=>(a3 x).trans (List.mem_mergeSort.trans (XO W (GN W.born f r) x));exact ⟨_,⟨_,zs,B,⟨by omega,t,a1⟩,Z,Z⟩,H.perm 5 [0,2,3,4] Z Z⟩
abbrev plB(pp ps pc pa n:Nat)(un:Bool):Ah:=blk pp [.pointer (some ⟨ps,0,none⟩),.pointer (some ⟨pc,0,none⟩),.pointer (some ⟨pa,0,none⟩),.int .i64 (n:Int),.bool un] 63
theorem Uz(pp ps pd b c m a n:Nat)(D:Dsk)(G:StG):Aj 11 [V pp] [plB pp ps b a n false,stoA ps pd D G none] (λv X=>v=Aa 0/\X=[plB pp ps b a n true,stoA ps pd D G (some (CD,0))]):=by
 intro z R w H;refine Ac func11 Z ntmps11 Z (Z2 12 [0,0,0,0] H Z (Ai Z (call39 _) (OE _ _ _ _) H.f1 ?_));intro w H;refine Z4 26 [4,1,0,3,4,1] H Z ?_;intro w H;refine Zr Z ?_;exact ⟨_,⟨Z,Z⟩,H.perm 2 [1,0] Z Z⟩
theorem XT(pp ps b c m a n:Nat)(C C0:Nat->Nat)(l:List IE)(clk:Nat)(F d S:Nat->Bool)(W:WasOk C C0 n l clk):Aj 47 [V pp] [plB pp ps b a n true,coB b c n m,Aw c C n,AE m l clk,alB a n F d S] (λv G=>v=.tuple #[]/\G=[plB pp ps b a n false,coB b c n m,Aw c C0 n,AE m ([]) clk,alB a n S By S]):=by
 intro z R w H;refine Ac func47 Z ntmps47 Z (Z4 14 [4,0,1,0,0] H Z ?_);intro w H;refine Ai Z (call106 _) (XS _ _ _ _ _ _ _ _ W) H.f3.f3.f3 ?_;intro w H;refine Z2 7 [2,3,0] H Z (Ai Z (call107 _) (XI _ _ _ _ _) H.f4 ?_);intro w H;refine Zc 1 Z (Zf Z ?_);exact ⟨_,⟨Z,Z⟩,H.perm 5 [4,1,2,3,0] Z Z⟩
theorem Nj(pp ps pd b c m a n:Nat)(D:Dsk)(G:StG)(g:A0)(k:Nat)(C C0:Nat->Nat)(l:List IE)(clk:Nat)(F d S:Nat->Bool)(W:WasOk C C0 n l clk):Aj 20 [V pp] [stoA ps pd D G (some (g,k)),plB pp ps b a n true,coB b c n m,Aw c C n,AE m l clk,alB a n F d S] (λv X=>v=.tuple #[]/\X=[stoA ps pd D G none,plB pp ps b a n false,coB b c n m,Aw c C0 n,AE m ([]) clk,alB a n S By S]):=by
 intro z R w H;refine Ac func20 Z ntmps20 Z (Z2 16 [4,1,0,0,0,1,0] H Z (Ai Z (call63 _) (Xt _ _ _ _ _) H ?_));intro w H;refine Zc 4 Z (Ai Z (call47 _) (XT _ _ _ _ _ _ _ _ _ _ _ _ _ _ W) H.f5.f5.f5.f5.f5 ?_);intro w H;refine Zc 1 Z (Zf Z ?_);exact ⟨_,⟨Z,Z⟩,H.perm 6 [5,0,1,2,3,4] Z Z⟩
theorem RZ(pp ps b a n:Nat):Aj 20 [V pp] [plB pp ps b a n false] (λv G=>v=.tuple #[]/\G=[plB pp ps b a n false]):=by
 intro z R w H;refine Ac func20 Z ntmps20 Z (Z2 10 [4,0,0] H Z (Zf Z ?_));exact ⟨_,⟨Z,Z⟩,H⟩
theorem UA(pp ps a b m d n:Nat)(c:Bool)(C:Nat->Nat)(p:Nat)(hp:p<n)(e:16<=n/\n<=1024):Aj 18 [V pp,Aa (p:Int)] [plB pp ps a d n c,coB a b n m,Aw b C n] (λv G=>v=Aa (C p:Int)/\G=[plB pp ps a d n c,coB a b n m,Aw b C n]):=by
 intro z R w H;refine Ac func18 Z ntmps18 Z (Z2 12 [1,0,0] H Z (Ai Z (call50 _) (Ez _ _ _ _ _ _ U U) H.f2.f2 ?_));intro w H;refine Zc 4 Z (Zr Z ?_);exact ⟨_,⟨Z,Z⟩,H.perm 3 [2,0,1] Z Z⟩
theorem XU(pp ps d a n:Nat)(c:Bool)(F b S:Nat->Bool):Aj 10 [V pp] [plB pp ps d a n c,alB a n F b S] (λv G=>v=Aa (cnt F 0 1024:Int)/\G=[plB pp ps d a n c,alB a n F b S]):=by
 intro z R w H;refine Ac func10 Z ntmps10 Z (Z2 11 [2,0,0] H Z (Ai Z (call38 _) (XH _ _ _ _ _) H.f1 ?_));intro w H;refine Zc 4 Z (Zr Z ?_);exact ⟨_,⟨Z,Z⟩,H.perm 2 [1,0] Z Z⟩
theorem UB(pp ps c b n:Nat)(a:Bool):Aj 27 [V pp] [plB pp ps c b n a] (λv G=>v=V ps/\G=[plB pp ps c b n a]):=by
 intro z R w H;refine Ac func27 Z ntmps27 Z (Z2 16 [0,0,0,0] H Z (Zr Z ?_));exact ⟨_,⟨Z,Z⟩,H⟩
theorem Nk(pp ps pd e f m d n:Nat)(D:Dsk)(G:StG)(g:A0)(k:Nat)(C C0:Nat->Nat)(l:List IE)(clk:Nat)(F r S:Nat->Bool)(W:WasOk C C0 n l clk)(hn:16<=n/\n<=1024)(hG:G.x.pages=n)(p:Nat)(x:Pg)(hx:x.Ok)(s:Value)(B:Ah)(t:∀h,B h->rdH 1 s 240 (x.body.map u8) h)(u:¬(g p=none/\40<=k))(hp:p<n)(o:F p=true)(j:∀q,q<p->F q=false)(hC:C p=0)(A:Ah)(y:Fw A):Aj 12 [V pp,.agg #[Aa x.kind,s]] [stoA ps pd D G (some (g,k)),plB pp ps e d n true,coB e f n m,Aw f C n,AE m l clk,alB d n F r S,A,B] (λv X=>∃(c:List IE) (a:Nat),WasOk (updN C p 1) C0 n c a/\v=.tuple #[Aa (p:Int),Aa 0]/\X=[stoA ps pd D G (some (pgSet g p x,k+(if (g p).isSome then 0 else 1))),plB pp ps e d n true,coB e f n m,Aw f (updN C p 1) n,AE m c a,alB d n (BI F p) r S,A,B]):=by
 intro z R w H;obtain ⟨bo,bc,rfl⟩:=H.sy 7 (λq=>(t _ q).slc);refine Ac func12 Z ntmps12 Z (Za 2 [] H Z ?_);intro b1 w H;refine Z2 23 [4,2,0,2,2,0] H Z (Ai Z (call40 _) (RT _ _ _ _ _ p U U o j _ y) H.f7.f7 ?_);intro w H;refine Zc 19 Z (Bh 7 J J (A4 H λw i=>?_));have H:=i.l9;refine Ld 7 [0,0,4,0,2,2] [] H Z J (BY (gw (AA Z (call41 _) (Fu _ _ _ _ _ _ p U _ hx _ _ t) H.f8.f4 ?_)));rintro _ w _ (⟨b,rfl,rfl⟩|⟨_,rfl,rfl⟩) i
 ·exact absurd b u
 have H:=i.l9;refine Z2 19 [4,1,5,0] H Z (AA Z (call43 _) (Il _ _ _ _ _ C0 _ _ p 1 _ U U U U U W) H.f8.f8.f8 ?_);rintro _ w _ ⟨c,a,W2,rfl,rfl⟩ H;refine Zc 10 Z (Zr Z ?_);exact ⟨_,⟨c,a,W2,Z,Z⟩,H.perm 9 [3,8,0,1,2,5,6,4] Z Z⟩
theorem Lz(pp ps d a n:Nat)(x:Pg)(i:x.Ok)(c:Value)(B:Ah)(f:∀h,B h->rdH 1 c 240 (x.body.map u8) h)(F e S:Nat->Bool)(b:∀q,q<1024->F q=false):Aj 12 [V pp,.agg #[Aa x.kind,c]] [plB pp ps d a n true,alB a n F e S,B] (λv G=>v=.tuple #[Aa 0,Aa 20]/\G=[plB pp ps d a n true,alB a n F e S,B]):=by
 intro z R w H;obtain ⟨g,j,rfl⟩:=H.sy 2 (λq=>(f _ q).slc);refine Ac func12 Z ntmps12 Z (Za 2 [] H Z ?_);intro k w H;refine Z2 23 [4,1,0,2,1,0] H Z (Ai Z (call40 _) (OR _ _ _ _ _ b) H.f2 ?_);intro w H;refine Zc 22 Z (Zr Z ?_);exact ⟨_,⟨Z,Z⟩,H.perm 4 [2,0,3] Z Z⟩
theorem ZZ(pp ps b d m e n:Nat)(C C0:Nat->Nat)(l:List IE)(clk:Nat)(W:WasOk C C0 n l clk)(h:16<=n/\n<=1024)(p:Nat)(hp:manyN n<p/\p<n)(i:1<=C p/\C p<1000):Aj 17 [V pp,Aa (p:Int)] [plB pp ps b e n true,coB b d n m,Aw d C n,AE m l clk] (λv G=>∃(c:List IE) (a:Nat),WasOk (updN C p (C p+1)) C0 n c a/\v=Aa 0/\G=[plB pp ps b e n true,coB b d n m,Aw d (updN C p (C p+1)) n,AE m c a]):=by
 intro z R w H;replace H:=H.l4;refine Ac func17 Z ntmps17 Z (Z2 25 [4,0,0,1,0,0] H Z (Ai Z (call50 _) (Ez _ _ _ _ _ _ U U) H.f2.f2 ?_));intro w H;replace H:=H.l4;refine Z0 2 [0] Z (Ak 19 Z (λg=>U) (λg=>?_));refine Z2 5 [3,2,0] H Z (Ai Z (call51 _) (DR _ U) H ?_);intro w H;replace H:=H.l4;refine Z0 5 [0] Z (Ag Z (λf=>U) (λf=>?_));refine Z2 10 [1,2,0] H Z (AA Z (call43 _) (Il _ _ _ _ _ C0 _ _ p (C p+1) _ U U U U U W) H.f3.f2.f2 ?_);rintro _ w _ ⟨c,a,W2,rfl,rfl⟩ H;replace H:=H.l4;refine Zc 4 Z (Zr Z ?_);exact ⟨_,⟨c,a,W2,Z,Z⟩,H.perm 4 [3,0,1,2] Z Z⟩
theorem UC(pp ps b d m e n:Nat)(C C0:Nat->Nat)(l:List IE)(clk:Nat)(W:WasOk C C0 n l clk)(i:16<=n/\n<=1024)(p:Nat)(hp:manyN n<p/\p<n)(j:2<=C p/\C p<=1000):Aj 15 [V pp,Aa (p:Int)] [plB pp ps b e n true,coB b d n m,Aw d C n,AE m l clk] (λv G=>∃(c:List IE) (a:Nat),WasOk (updN C p (C p-1)) C0 n c a/\v=Aa 0/\G=[plB pp ps b e n true,coB b d n m,Aw d (updN C p (C p-1)) n,AE m c a]):=by
 intro z R w H;replace H:=H.l4;refine Ac func15 Z ntmps15 Z (Z2 25 [4,0,0,1,0,0] H Z (Ai Z (call50 _) (Ez _ _ _ _ _ _ U U) H.f2.f2 ?_));intro w H;replace H:=H.l4;refine Z0 2 [0] Z (Ak 20 Z (λh=>U) (λh=>?_));refine Z2 5 [3,2,0] H Z (Ai Z (call51 _) (DR _ U) H ?_);intro w H;replace H:=H.l4;refine Z0 5 [0] Z (Ag Z (λf=>U) (λf=>?_));refine Z2 11 [1,2,0] H Z (AA Z (call43 _) (Il _ _ _ _ _ C0 _ _ p (C p-1) _ U U U U U W) H.f3.f2.f2 ?_);rintro _ w _ ⟨c,a,W2,rfl,rfl⟩ H;replace H:=H.l4;refine Z2 20 [4,1,3,0] H Z (Ai Z (call50 _) (Ez _ _ _ _ _ _ U U) H ?_);intro w H;replace H:=H.l4;refine k_updA 43 (v:=Aa ((C p-1:Nat):Int)) Z (congrArg Aa (by simp[updN])) (Z0 3 [0] Z (Ag Z (λg=>U) (λg=>?_)));refine Zc 8 Z (Zr Z ?_);exact ⟨_,⟨c,a,W2,Z,Z⟩,H.perm 4 [3,0,1,2] Z Z⟩
theorem XV(pp ps d e m c n:Nat)(C C0:Nat->Nat)(l:List IE)(clk:Nat)(W:WasOk C C0 n l clk)(k:16<=n/\n<=1024)(p:Nat)(hp:manyN n<p/\p<n)(F f S:Nat->Bool)(o:C p=1)(h:F p=false)(j:f p=false):Aj 15 [V pp,Aa (p:Int)] [plB pp ps d c n true,coB d e n m,Aw e C n,AE m l clk,alB c n F f S] (λv G=>∃(b:List IE) (a:Nat),WasOk (updN C p (0)) C0 n b a/\v=Aa 0/\G=[plB pp ps d c n true,coB d e n m,Aw e (updN C p (0)) n,AE m b a,alB c n F (insP f p) S]):=by
 intro z R w H;replace H:=H.l5;refine Ac func15 Z ntmps15 Z (Z2 25 [4,0,0,1,0,0] H Z (Ai Z (call50 _) (Ez _ _ _ _ _ _ U U) H.f2.f2 ?_));intro w H;replace H:=H.l5;refine Z0 2 [0] Z (Ak 20 Z (λi=>U) (λi=>?_));refine Z2 5 [3,2,0] H Z (Ai Z (call51 _) (DR _ U) H ?_);intro w H;replace H:=H.l5;refine Z0 5 [0] Z (Ag Z (λg=>U) (λg=>?_));refine Z2 11 [1,2,0] H Z (AA Z (call43 _) (Il _ _ _ _ _ C0 _ _ p 0 _ U U U U U W) H.f3.f2.f2 ?_);rintro _ w _ ⟨b,a,W2,rfl,rfl⟩ H;replace H:=H.l5;refine Z2 20 [4,1,3,0] H Z (Ai Z (call50 _) (Ez _ _ _ _ _ _ U U) H ?_);intro w H;replace H:=H.l5;refine k_updA 43 (v:=Aa 0) Z (congrArg Aa (by simp[updN])) (Z2 10 [3,2,3,0] H Z (Ai Z (call52 _) (OP _ _ _ _ _ _ U U h j) H.f4 ?_));intro w H;replace H:=H.l5;refine Zc 8 Z (Zr Z ?_);exact ⟨_,⟨b,a,W2,Z,Z⟩,H.perm 5 [4,1,2,3,0] Z Z⟩
def CO(C:Nat->Nat)(n i:Nat):Pg:=⟨2,DG (Cc C n i)⟩
theorem Dq(C:Nat->Nat)(n i:Nat):(CO C n i).Ok:=⟨⟨by show (1:Int)<=2;omega,by show (2:Int)<=5;omega⟩,Fx (CU _ _ _)⟩
theorem XW(F:Nat->Bool)(a:Nat){i n:Nat}(c:i<n)(h:F (a+i)=true):1<=cnt F a n:=by
 have e:=G7 F a i (n-i);rw[show i+(n-i)=n by omega] at e;obtain ⟨m,b⟩:∃m,n-i=1+m:=⟨n-i-1,by omega⟩;rw[b,G7] at e;have:cnt F (a+i) 1=1:=by simp[cnt,h]
 omega
theorem Gs{F G:Nat->Bool}{a:Nat}:∀{n:Nat},(∀i,i<n->F (a+i)=G (a+i))->cnt F a n=cnt G a n
 | 0,_=>rfl
 | n+1,h=>by simp only[cnt];rw[Gs (λi hi=>h i U),h n U]
theorem Nl{F G:Nat->Bool}{n i:Nat}(l:i<n)(h:F i=true)(g:G i=false)(hs:∀j,j≠i->F j=G j):cnt G 0 n+1=cnt F 0 n:=by
 have e:=λF=>G7 F 0 i (1+(n-i-1));have f:=λF=>G7 F (0+i) 1 (n-i-1);have c:=λF=>(e F).trans (by rw[f F]);rw[show i+(1+(n-i-1))=n by omega] at c;have p:cnt F 0 i=cnt G 0 i:=Gs (λj d=>hs _ U);have k:cnt F (0+i+1) (n-i-1)=cnt G (0+i+1) (n-i-1):=Gs (λj d=>hs _ U);have m:cnt F (0+i) 1=1:=by simp[cnt,h]
 have o:cnt G (0+i) 1=0:=by simp[cnt,g]
 have a:=c F;have b:=c G;omega
structure CmI(n:Nat)(C:Nat->Nat)(zs:List Int)(g0:A0)(k0 j:Nat)(g:A0)(k:Nat):Prop where
 jl:j<=zs.length
 old:∀p,(p=0\/manyN n<p)->g p=g0 p
 rm:k+cnt (λi=>(g (1+i)).isNone) 0 (manyN n)<=k0+manyN n
 set:∀i,i<manyN n->g (1+i)=none\/g (1+i)=some (CO C n i)
 dn:∀j',j'<j->∀i:Nat,zs[j']?=some (i:Int)->g (1+i)=some (CO C n i)
theorem OU(F:Nat->Bool)(a:Nat):∀n,cnt F a n<=n
 | 0=>Ab9 _
 | n+1=>by
  have:=OU F a n;have:(F (a+n)).toNat<=1:=by cases F (a+n)<;>simp
  simp only[cnt];omega
theorem CmI.start{n:Nat}{C:Nat->Nat}{zs:List Int}{a:A0}{b:Nat}(h:∀i,i<manyN n->a (1+i)=none):CmI n C zs a b 0 a b:=
 ⟨AbV _,λ_ _=>rfl,by have:=OU (λi=>(a (1+i)).isNone) 0 (manyN n);omega,λi c=>.inl (h i c),λe d=>by omega⟩
theorem CmI.room{n:Nat}{C:Nat->Nat}{zs:List Int}{b g:A0}{a j k i:Nat}(I_:CmI n C zs b a j g k)(c:i<manyN n)(e:a+manyN n<=40):¬(g (1+i)=none/\40<=k):=λ⟨d,f⟩=>by
 have:=XW (λi=>(g (1+i)).isNone) 0 c (by simp[d]);have:=I_.rm;omega
theorem CmI.put{n:Nat}{C:Nat->Nat}{zs:List Int}{c g:A0}{l j k i:Nat}(I_:CmI n C zs c l j g k)(r:i<manyN n)(d:zs[j]?=some (i:Int)):CmI n C zs c l (j+1) (pgSet g (1+i) (CO C n i)) (k+(if (g (1+i)).isSome then 0 else 1)):=by
 have b:=(AbE.1 d).1;refine ⟨b,λp hp=>?_,?_,λq hq=>?_,λa s q hq=>?_⟩
 ·unfold pgSet;rw[if_neg U];exact I_.old p hp
 ·have m:=I_.rm
  split
  ·rename_i f
   rw[<-Gs (F:=λi=>(g (1+i)).isNone)]
   ·exact m
   intro q _;unfold pgSet;split
   ·rename_i e;rw[show 0+q=i by omega];cases e2:g (1+i)<;>simp_all
   rfl
  rename_i f;have o:g (1+i)=none:=by simpa using f
  have:=Nl (F:=λi=>(g (1+i)).isNone) (G:=λq=>(pgSet g (1+i) (CO C n i) (1+q)).isNone) r (by simp[o]) (by simp[pgSet]) (λq hq=>by unfold pgSet;rw[if_neg U]);omega
 ·unfold pgSet;split
  ·rename_i e;obtain rfl:q=i:=by omega
   exact .inr Z
  exact I_.set q hq
 unfold pgSet;split
 ·rename_i e;obtain rfl:q=i:=by omega
  rfl
 rcases AbX a j with h|h
 ·exact I_.dn a h q hq
 obtain rfl:a=j:=by omega
 rw[d] at hq;simp at hq;omega
theorem CmI.done{n:Nat}{C C0:Nat->Nat}{zs:List Int}{f g:A0}{p k:Nat}(I_:CmI n C zs f p zs.length g k)(l:∀x:Int,x∈zs↔∃k:Nat,k<n/\C k≠C0 k/\x=((k/120:Nat):Int)){i:Nat}(m:i<manyN n):g (1+i)=some (CO C n i)\/g (1+i)=none/\CO C0 n i=CO C n i:=by
 rcases I_.set i m with h|h
 ·refine .inr ⟨h,?_⟩
  have c:(i:Int)∉zs:=λo=>by
   obtain ⟨j,d⟩:=Ack o;have:=I_.dn j (AbE.1 d).1 i d;rw[h] at this;cases this
  have:Cc C0 n i=Cc C n i:=by
   unfold Cc;refine Adm λq hq=>?_;split
   ·rename_i b
    have:=AcL.1 hq;refine congrArg Int.ofNat (AcQ λa=>c ((l _).2 ⟨120*i+q,b,λe=>a e.symm,by rw[show (120*i+q)/120=i by omega]⟩))
   rfl
  unfold CO;rw[this]
 exact .inl h
theorem OV{n k:Nat}(h:k<n):k/120<manyN n:=by unfold manyN;omega
theorem Jv{L:List UInt8}{x:Int}(h:L.length=240):0+240*1<=(Bb (Bc L) x).length:=by
 have hp:=Bl (l:=L) U;unfold Bb;rw[AbH,AbN];omega
theorem KQ{L:List UInt8}{x:Int}(h:L.length=240):((Bb (Bc L) x).drop 0).take (240*1)=L.map u8:=by
 unfold Bb;rw[Ab1,AcD];have hp:=Bl (l:=L) U;rw[AbR (by rw[AbN];omega),<-Adt];have:=Up h;rw[Ab1] at this;rw[this]
theorem R0(pp ps pd c p m e n:Nat)(D:Dsk)(G:StG)(mb:Nat)(s:A0)(k0:Nat)(C C0:Nat->Nat)(l:List IE)(clk:Nat)(F Dd S:Nat->Bool)(W:WasOk C C0 n l clk)(hn:16<=n/\n<=1024)(hG:G.x.pages=n)(hg:∀i,i<manyN n->s (1+i)=none)(hk:k0+manyN n<=40)(a5:∀k,C k<=1000)(hF:Fine D G mb)(hm:mb<=1000000000):Aj 14 [V pp] [stoA ps pd D G (some (s,k0)),plB pp ps c e n true,coB c p n m,Aw p C n,AE m l clk,alB e n F Dd S] (λv X=>∃(t:Dsk) (f:StG) (g:A0) (k:Nat) (zs:List Int),CmI n C zs s k0 zs.length g k/\(∀x:Int,x∈zs↔∃k:Nat,k<n/\C k≠C0 k/\x=((k/120:Nat):Int))/\Fine t f (mb+2)/\t.n=D.n/\f.M=Cb G.M (some (g,k))/\(f.x=G.x\/f.x=Ew G.x G.a G.q)/\v=Aa 0/\X=[stoA ps pd t f none,plB pp ps c e n false,coB c p n m,Aw p C n,AE m ([]) clk,alB e n (Cu F Dd) By (Cu F Dd)]):=by
 intro z R w H;refine Ac func14 Z ntmps14 Z (Z2 25 [4,1,0,1,1,0] H Z (AA Z (call44 _) (Ly _ _ _ _ _ C0 _ _ U W) H.f4.f4.f4 ?_));rintro v1 w _ ⟨v2,zs,Z_,⟨b3,a4,y⟩,rfl,rfl⟩ H;obtain ⟨za,zc,rfl⟩:=H.sy 0 (λq=>(y _ q).slc);refine Zc 5 Z ?_;refine Ay (σ:=Nat×A0×Nat) (λ⟨j,g,k⟩=>[(18,Aa (j:Int)),(0,V pp),(16,.slice za zs.length zc),(17,Aa (zs.length:Int))])
   (λ⟨j,g,k⟩ w=>Sep z (Z_::coB c p n m::Aw p C n::AE m l clk::stoA ps pd D G (some (g,k))::plB pp ps c e n true::alB e n F Dd S::R) w/\(CmI n C zs s k0 j g k)) (λ⟨j,g,k⟩=>zs.length-j) ⟨0,s,k0⟩
   fr_z ⟨H,CmI.start hg⟩ ?_
 clear H;rintro ⟨j,g,k⟩ w ⟨o,hI⟩;dsimp only at hI o ⊢;have H:=o.l7;have hC:=hI;clear hI;have b5:=hC.jl;refine Z0 6 [0] Z (Ag Z (λh1=>?_) (λh1=>?_))
 ·obtain ⟨z_,b⟩:∃z_,zs[j]?=some z_:=⟨_,AbF U⟩;obtain ⟨q_,a9,b4,a0⟩:=(a4 z_).1 (AbG b);obtain ⟨i,a1⟩:∃i,i=q_/120:=⟨_,Z⟩;rw[<-a1] at a0;subst a0;have hi:i<manyN n:=a1▸OV a9
  have b2:manyN n<n:=by unfold manyN;omega
  refine Zc 6 Z ?_;have a2:=(H.rd 0 Z y).at (j:=j) (u:=Aa (i:Int)) (by simp[b]);refine Ad Z (Az Z (z:=1) (j:=j) (r:=j) J Z Z Z U a2 U) (Ad Z (AM Z Z J (AB a2)) (Zc 4 Z ?_));replace H:=H.f5;refine BV (Sep z (plB pp ps c e n true::R)) 16 Z J (A4 H λw o=>?_);have H:=o.l7;refine Oj [0,1,2,3,4,5,6,7,8,9,10,11] [0,0,0,0,1,0,0] [((1+i:Nat):Int)] (by exact H.pick 7 [0] Z) Z J U Z (Cs [12] J O (Ar (Ba Z Z Z Z Z Z (λw=>call45 _ w) (KP _ _ _ _ _ i hi U a5) H.f3.f3 Z ?_)));rintro _ w _ ⟨pw,rfl,rfl⟩ H;refine BZ (H.pick 8 [3] Z) (CG [13] [] [] (by exact H.pick 8 [3] Z) Z J Z (Cs [14] J O (Ar (Ba Z Z Z Z Z Z (λw=>call41 _ w) (Fu _ _ _ _ _ _ (1+i) U (CO C n i) (Dq _ _ _) _ _ (λh q=>q.rd U U (Jv (Dq _ _ _).2) (KQ (Dq _ _ _).2))) H.f6 Z ?_))));rintro _ w _ (⟨a3,rfl,rfl⟩|⟨_,rfl,rfl⟩) o
  ·exact absurd a3 (hC.room hi hk)
  have H:=o.l8;refine BZ (H.pick 8 [4] Z) (CG [15] [] [] (by exact H.pick 8 [4] Z) Z J Z (a_done J (gn (Z1 15 [4] [(j:Int)+1] Z U ?_))));replace H:=H.f1.d.f6.f4.f2.f6.f5.f5.f6;refine gf ?_;intro _ hF;refine ⟨⟨j+1,pgSet g (1+i) (CO C n i),k+(if (g (1+i)).isSome then 0 else 1)⟩,hF.cz,⟨H,?_⟩,?_⟩
  ·exact hC.put hi b
  (dsimp only;omega)
 obtain rfl:j=zs.length:=by omega
 refine Zc 2 Z (gx (Z2 10 [0,0,5,0] H Z (AA Z (call46 _) (Jo _ _ _ _ _ _ mb hF hm) H.f4 ?_)));rintro _ w _ ⟨t,f,b0,a6,⟨a7,b1⟩,a8,rfl,rfl⟩ H;refine Z4 26 [4,4,5,1,5,0] H Z ?_;intro w H;refine Ai Z (call48 _) (Lx _ _ _ _ _ _) H.f4.f3 ?_;intro w H;refine Z2 8 [2,5,0] H Z (Ai Z (call49 _) (Ik _ _ _ _ _) H.f6 ?_);intro w H;refine Zc 8 Z (Zr Z ?_);exact ⟨_,⟨t,f,g,k,zs,hC,a4,b0,a6,a7,a8,Z,Z⟩,H.perm 7 [3,6,1,5,2,0] Z Z⟩
section
section
variable{P:Program}{o:Oper}{w z:World}{Γ:List Ah}{n:Nat}{ds:List Deferred}{L:List (Nat×Value)}{x y:Operand}
theorem OW{t e:TypeId}{k sz:Nat}(H:Sep z Γ w)(m:o.op=.makeSlice t x y)(ht:P.underlying t=some (.slice e)){zv:Value}{by_:Nat}(p:Elt P e zv sz by_)(r:ev L x=some (Aa k))(hy:ev L y=some (Aa k))(hk:by_*k<=140737488355328){out:List Value}(c:madeCells zv.cells (k*sz)=out.toArray):
  BX P n ds L o w (λv w'=>∃b,v=.slice (some ⟨b,0,none⟩) k k/\Sep z (blk b out e::Γ) w'):=λa h=>by
 obtain ⟨i,l,j,hs,s,u,q,d⟩:=p;have f:(i.bytes:Int)*(k:Int)<=281474976710656:=by
  rw[s,<-Int.natCast_mul];omega
 have g:=run_make (P:=P) (w:=w) t e i zv ht l j .i64 .i64 (k:Int) (k:Int) U (Int.le_refl _) f (by
  have:1*k<=by_*k:=Ade _ d;omega)
 have e1:madeCells zv.cells (((k:Int)).toNat*i.size)=out.toArray:=by
  rw[Acg,hs];exact c
 rw[e1] at g;refine ⟨_,_,?_,w.heap.size,Z,H.new (CZ w (.cells out.toArray e)) (Ab9 _) (by show (w.heap.push _)[w.heap.size]?=_;simp)⟩;simp only[execOp,m,h.ev r,h.ev hy,AbW,g,AbS,Ab2,Acg];rfl
end
theorem UD{bs:List UInt8}{a:Int}(h:bs.length=256):0+240*1<=(Bb bs a).length:=by unfold Bb;rw[AbH,AbN];omega
theorem XX{bs:List UInt8}{a:Int}(h:bs.length=256):((Bb bs a).drop 0).take (240*1)=(bs.take 240).map u8:=by
 unfold Bb;rw[Ab1,AcD,AbR (by rw[AbN];omega),Adt]
def C1(i:Nat):Nat->Nat:=λp=>if p<i then 1 else 0
theorem KR(i:Nat):updN (C1 i) i 1=C1 (i+1):=by
 funext p;unfold updN C1;split
 ·rw[if_pos U]
 by_cases h:p<i
 ·rw[if_pos h,if_pos U]
 rw[if_neg h,if_neg U]
theorem KS:C1 0=λ_=>0:=by funext p;simp[C1]
theorem F1(i k:Nat):C1 i k<=1000:=by unfold C1;split<;>omega
def gF(n:Nat)(cb:List UInt8)(i:Nat):A0:=λp=>if p=0 then some ⟨1,cb⟩ else if p<=i then some (CO (C1 (manyN n+1)) n (p-1)) else none
theorem XY(n:Nat)(cb:List UInt8)(i:Nat):(some (pgSet (gF n cb i) (1+i) (CO (C1 (manyN n+1)) n i),1+i+(if (gF n cb i (1+i)).isSome then 0 else 1)):C7)=some (gF n cb (i+1),1+(i+1)):=by
 have e:gF n cb i (1+i)=none:=by unfold gF;rw[if_neg U,if_neg U]
 rw[e];have:pgSet (gF n cb i) (1+i) (CO (C1 (manyN n+1)) n i)=gF n cb (i+1):=by
  funext p;unfold pgSet gF;split
  ·rename_i h;subst h;rw[if_neg U,if_pos U,show 1+i-1=i by omega]
  by_cases h0:p=0
  ·rw[if_pos h0,if_pos h0]
  rw[if_neg h0,if_neg h0];by_cases h1:p<=i
  ·rw[if_pos h1,if_pos U]
  rw[if_neg h1,if_neg U]
 rw[this];simp;omega
theorem XZ(n:Nat)(cb:List UInt8):(some (pgSet CD 0 ⟨1,cb⟩,0+(if (CD 0).isSome then 0 else 1)):C7)=some (gF n cb 0,1+0):=by
 have:pgSet CD 0 ⟨1,cb⟩=gF n cb 0:=by
  funext p;unfold pgSet gF CD;split
  ·rfl
  rw[if_neg U]
 rw[this];rfl
theorem DO{n:Nat}(h:n<=1024):manyN n<=9:=by unfold manyN;omega
theorem HC{n:Nat}(h:16<=n):1<=manyN n/\manyN n+1<n:=by unfold manyN;omega
theorem Sep.flDisk{z w:World}{Γ:List Ah}{ps pd:Nat}{D:Dsk}{G:StG}(H:Sep z (stoA ps pd D.fl {G with sure:=G.rs.length} none::Γ) w)(hq:G.q<=1099511627776):OInv D.fl G.x G.B (λd=>d=G.rs)/\Sep z (diskA pd D.fl::Γ) w:=by
 obtain ⟨X,g,H⟩:=H.sto;have h:=g.inv.crashed (D':=D.fl) hq ⟨Z,λ_=>rfl,λ_=>.inl Z⟩;have e:(λd:List Rc=>G.rs.length<=d.length/\d.length<=G.rs.length/\d=G.rs.take d.length)=λd=>d=G.rs:=funext λd=>propext ⟨λ⟨a,b,c⟩=>by rw[c];exact AbJ U,λe=>by subst e;simp⟩;refine ⟨?_,H.pick 6 [3] Z⟩;have f:OInv D.fl G.x G.B (λd:List Rc=>G.rs.length<=d.length/\d.length<=G.rs.length/\d=G.rs.take d.length):=h;rw[e] at f;exact f
set_option maxHeartbeats 2000000 in
theorem LA (pd dn n:Nat) (s l:Int) (hn:16<=n/\n<=1024) (y:(Bw n s l 2).Ok (dn:Int)):Aj 35 [V pd,Aa (n:Int),Aa s,Aa l] [diskA pd (Cd dn)] (λv G=>∃(j:Dsk) (c:StG) (bs:List UInt8),bs.length=256/\OInv j c.x c.B (λgot=>got=c.rs)/\Clean j/\(c.x.gen<=((5:Nat):Int)/\c.x.epoch<=((5:Nat):Int))/\j.n=dn/\c.x.pages=n/\c.M=Cb (λ_=>C5) (some (gF n (bs.take 240) (manyN n),1+manyN n))/\v=Aa 0/\G=[diskA pd j]):=by
 intro z R w H;have a9:=HC hn.1;have b0:=DO hn.2;refine Ac func35 Z ntmps35 Z (Zc 12 Z (Ai Z (call86 _) (T7 _ dn _ _ _ y) H ?_));intro w H;refine Z0 15 [4] Z (AA Z (call30 _) (MW _ _ _ _ _ _ (Xq y) (T4 _ _ _ _) (show (2:Int)<=(2:Nat)/\(1:Int)<=(2:Nat) by omega) U) H ?_);rintro _ w _ ⟨ps,D0,a8,t,a2,a4,rfl,rfl⟩ H;subst t;have a:Sep z (stoA ps pd D0 (MV (Bw n s l 2) (λ_=>C5)) none::R) w:=H;clear H;have H:=a.l1;refine Z0 21 [4] Z (Ai Z (call39 _) (OE _ _ _ _) H ?_);intro w H;refine Z0 14 [4] Z (AG Z (OW (k:=8) (out:=GG) H Z J Fd Z Z U J) ?_);rintro _ w ⟨b1,rfl,H⟩;refine Zc 1 Z (AA Z (call87 _) (Ur _ _ (λh q=>q.rd U U (by simp[GG]) (by simp[GG]))) H ?_);rintro _ w _ ⟨pw,bs,g,rfl,rfl⟩ H;refine Z0 23 [4] Z (AA Z (call41 _) (Fu _ _ _ _ _ _ 0 (by show (0:Int)<(n:Int);omega) ⟨1,bs.take 240⟩ ⟨by show (1:Int)<=1/\(1:Int)<=5;omega,by show (bs.take 240).length=240;rw[AbM];omega⟩ _ _ (λh q=>q.rd U U (UD g) (XX g))) H.f2 ?_);rintro _ w _ (⟨b,rfl,rfl⟩|⟨_,rfl,rfl⟩) a
 ·(exfalso;have:=b.2;omega)
 have H:=a.l3;rw[XZ n] at H;refine Z0 15 [4] Z (AA Z (call79 _) (RY _ U) H ?_);rintro _ w _ ⟨pc,bn,m,rfl,rfl⟩ H;refine Z0 20 [4] Z (Ai Z (call51 _) (DR _ U) H ?_);intro w H;refine Z1 12 [] [(manyN n:Int)+1] Z U ?_;refine Ay (σ:=Nat×List IE×Nat) (λ⟨i,o,clk⟩=>[(70,Aa (i:Int)),(8,Aa 0),(10,V ps),(15,V pc),(16,Aa (manyN n:Int)),(69,Aa ((manyN n:Int)+1))])
   (λ⟨i,o,clk⟩ w=>Sep z (coB pc bn n m::Aw bn (C1 i) n::AE m o clk::stoA ps pd D0 (MV (Bw n s l 2) (λ_=>C5)) (some (gF n (bs.take 240) 0,1+0))::blk pw (Bb bs ((21+19*8:Nat):Int)) 204::blk b1 GG 207::R) w/\(i<=manyN n+1/\WasOk (C1 i) (λ_=>0) n o clk)) (λ⟨i,o,clk⟩=>manyN n+1-i) ⟨0,[],0⟩
   fr_z ⟨(by rw[KS];exact H),⟨by omega,by rw[KS];exact WasOk.nil _ _ _⟩⟩ ?_
 clear H;rintro ⟨i,o,clk⟩ w ⟨a,p⟩;dsimp only at p a ⊢;have H:=a.l6;obtain ⟨a0,W⟩:=p;have u:C1 i i=0:=by simp[C1]
 refine Z0 6 [0] Z (Ag Z (λh1=>?_) (λh1=>?_))
 ·refine Zc 13 Z (AA Z (call43 _) (Il _ _ _ _ _ (λ_=>0) _ _ i 1 _ U U (by rw[u];rfl) U (by rw[u];omega) W) H ?_);rintro _ w _ ⟨l2,r,W2,rfl,rfl⟩ H;refine Z1 7 [] [(i:Int)+1] Z U (gf ?_);intro _ hF;refine ⟨⟨i+1,l2,r⟩,hF.cz,⟨(by rw[<-KR];exact H),?_⟩,?_⟩
  ·dsimp only;exact ⟨by omega,by rw[<-KR];exact W2⟩
  (dsimp only;omega)
 obtain rfl:i=manyN n+1:=by omega
 refine Zc 2 Z (gx (Zc 10 Z ?_));refine Ay (σ:=Nat) (λi=>[(78,Aa (i:Int)),(10,V ps),(15,V pc),(77,Aa (manyN n:Int))])
   (λi w=>Sep z (coB pc bn n m::Aw bn (C1 (manyN n+1)) n::AE m o clk::stoA ps pd D0 (MV (Bw n s l 2) (λ_=>C5)) (some (gF n (bs.take 240) i,1+i))::blk pw (Bb bs ((21+19*8:Nat):Int)) 204::blk b1 GG 207::R) w/\(i<=manyN n)) (λi=>manyN n-i) 0
   fr_z ⟨H,by omega⟩ ?_
 clear H;rintro i w ⟨a,p⟩;have H:=a.l6;have a0:=p;clear p;refine Z0 6 [0] Z (Ag Z (λh2=>?_) (λh2=>?_))
 ·refine Z1 17 [] [((1+i:Nat):Int)] Z U (AA Z (call45 _) (KP _ _ _ _ _ i U U (F1 _)) H ?_);rintro _ w _ ⟨pq,rfl,rfl⟩ H;refine Zc 1 Z (AA Z (call41 _) (Fu _ _ _ _ _ _ (1+i) (by show ((1+i:Nat):Int)<(n:Int);omega) (CO (C1 (manyN n+1)) n i) (Dq _ _ _) _ _ (λh q=>q.rd U U (Jv (Dq _ _ _).2) (KQ (Dq _ _ _).2))) H.f4 ?_);rintro _ w _ (⟨b,rfl,rfl⟩|⟨_,rfl,rfl⟩) a
  ·(exfalso;have:=b.2;omega)
  have H:=a.l7;rw[XY] at H;refine Z1 17 [4] [(i:Int)+1] Z U ?_;replace H:=H.f1.d.f5.f5.f2.f5.f5.f5;refine gf ?_;intro _ hF;refine ⟨(i+1),hF.cz,⟨H,?_⟩,?_⟩
  ·omega
  omega
 obtain rfl:i=manyN n:=by omega
 refine Zc 2 Z (gx (Zc 6 Z (AA Z (call46 _) (Jo _ _ _ _ _ _ 3 a2 U) H.f3 ?_)));rintro _ w _ ⟨j,c,f,a3,⟨a5,a7⟩,a1,rfl,rfl⟩ H;refine Z0 15 [4] Z (AA Z (call28 _) (sync_s _ _ _ _ 5 f) H ?_);rintro _ w _ ⟨rfl,a6,rfl⟩ H;refine Zc 4 Z (Zr Z ?_);have H2:=H.pick 6 [0] Z;obtain ⟨hO,a⟩:=H2.flDisk (by have:=f.q;omega);exact ⟨_,⟨j.fl,c,bs,g,hO,a6.clean,⟨f.gen,f.epoch⟩,a3.trans (a4.trans (T5 _ _ _ _)),(a1.elim (λe=>by rw[e];rfl) (λe=>by rw[e];rfl)),a5,Z,Z⟩,a⟩
end
section
section
variable{P:Program}{C:World->Prop}{o:Oper}{n:Nat}{ds:List Deferred}{L:List (Nat×Value)}{x y:Operand}{xt yt:TypeId}
def LB(P:Program)(t:TypeId)(f:Nat)(cs:Array Value):Option Value:=match P.underlying t with
 | some (.struct fs)=>match fs[f]? with
  | some fd=>bif Ge P fd.type then cs[fd.offset]? else none
  | none=>none
 | _=>none
theorem UE{t:TypeId}{f:Nat}{cs:Array Value}{v:Value}(h:o.op=.field t x f)(c:ev L x=some (.agg cs))(b:LB P t f cs=some v):Ax P C n ds L o v:=λa g w _=>by
 unfold LB at b;split at b
 ·rename_i j i
  split at b
  ·rename_i e d
   cases hb:Ge P e.type with
   | false=>rw[hb] at b;cases b
   | true=>
    rw[hb] at b;simp only[cond_true] at b;simp only[execOp,h,g.ev c,Instr.field,AbW,run_underlying i,AbS,d];simp[asAgg,part,Gf hb,b,go_sem]
  cases b
 cases b
end
end
def frC(n:Nat)(C:Nat->Nat):Nat->Bool:=λp=>decide (p<n/\C p=0)
def LC(C:Nat->Nat)(i:Nat):Nat->Nat:=λp=>if p/120+1<i then C p else 0
theorem OX(C:Nat->Nat):LC C 0=λ_=>0:=by funext p;simp[LC]
theorem R1(C:Nat->Nat):LC C 1=LC C 0:=by funext p;simp[LC]
theorem R2(C:Nat->Nat)(n i:Nat){k:Nat}(h:k<120):(Cc C n i).getD k 0=if 120*i+k<n then (C (120*i+k):Int) else 0:=by
 simp[Cc,List.getD,h]
theorem OY(C:Nat->Nat)(n j:Nat):cnL (D7 (LC C (1+j)) j (Cc C n j) 120) n=cnL (LC C (1+j+1)) n:=by
 unfold cnL;refine Adm λp hp=>?_;have hp:=AcL.1 hp;unfold D7 LC;by_cases h:p/120=j
 ·rw[if_pos ⟨h,by omega⟩,if_pos U,R2 _ _ _ U,if_pos U,show 120*j+p%120=p by omega];rfl
 rw[if_neg (λq=>h q.1)];by_cases h2:p/120+1<1+j
 ·rw[if_pos h2,if_pos U]
 rw[if_neg h2,if_neg U]
theorem R3(C:Nat->Nat)(n:Nat):cnL (LC C (manyN n+1)) n=cnL C n:=by
 unfold cnL;refine Adm λp hp=>?_;have hp:=AcL.1 hp;unfold LC;rw[if_pos (by unfold manyN;omega)]
theorem R4{C:Nat->Nat}{n i:Nat}:∀(k:Nat) (x:Int),(Cc C n i)[k]?=some x->n<=120*i+k->x=0:=λk x h b=>by
 have a:=(AbE.1 h).1;rw[CU] at a;have:=R2 C n i a;rw[List.getD,h,if_neg U] at this;simpa using this
def Ha(C:Nat->Nat)(n i:Nat):Nat->Bool:=λp=>decide (p<n) && !(decide (p<i)&&decide (0<C p))
theorem UF(C:Nat->Nat)(n:Nat):Ha C n 0=Dr n:=by funext p;simp[Ha,Dr]
theorem X0(C:Nat->Nat)(n:Nat):Ha C n n=frC n C:=by
 funext p;unfold Ha frC;rw[Ab0];simp;omega
theorem UG{C:Nat->Nat}{n i:Nat}(h:0<C i):BI (Ha C n i) i=Ha C n (i+1):=by
 funext p;unfold BI Ha;rw[Ab0];simp;by_cases e:p=i
 ·subst e;simp;omega
 simp[e];omega
theorem UH{C:Nat->Nat}{n i:Nat}(h:¬0<C i):Ha C n i=Ha C n (i+1):=by
 funext p;unfold Ha;by_cases e:p=i
 ·subst e;have:decide (0<C p)=false:=decide_eq_false h
  rw[this];simp
 have a:decide (p<i)=decide (p<i+1):=decide_eq_decide.2 U;rw[a]
theorem OZ(F:Nat->Bool):Cu F By=F:=by funext p;simp[Cu,By]
theorem Z6{C:Nat->Nat}{n i:Nat}(h:i<n):Ha C n i i=true:=by unfold Ha;simp[h]
theorem O0(ps pd:Nat)(D:Dsk)(G:StG)(mb n:Nat)(C:Nat->Nat)(f:Fine D G mb)(hn:16<=n/\n<=1024)(hG:G.x.pages=n)(cb:List UInt8)(g:G.M 0=⟨1,cb⟩)(l:∀i,i<manyN n->G.M (1+i)=CO C n i)(hC:∀k,C k<=1000)(a2:∀p,p<=manyN n->C p=1):Aj 31 [V ps] [stoA ps pd D G none] (λv X=>∃pp b c m a:Nat,v=.tuple #[V pp,Aa 0]/\X=[stoA ps pd D G none,plB pp ps b a n false,coB b c n m,Aw c C n,AE m ([]) 0,alB a n (frC n C) By (frC n C)]):=by
 intro z R w H;have a8:=HC hn.1;refine Ac func31 Z ntmps31 Z (Zc 21 Z (Ai Z (call78 _) (Xu _ _ _ _ _) H ?_));intro w H;refine Ad Z (UE (v:=Aa G.x.pages) Z Z J) (k_updA 18 (v:=Aa (n:Int)) Z (congrArg Aa hG) (Ad Z (AX Z Z (out:=[V ps,.pointer none,.pointer none,Aa (n:Int),.bool false]) J) (Za 0 [] H Z ?_)));intro o w H;refine Z2 10 [3,0,0] H Z (AA Z (call79 _) (RY _ U) H ?_);rintro _ w _ ⟨b,c,m,rfl,rfl⟩ H;refine Z4 15 [1,3,3,3,0] H Z ?_;intro w H;refine AA Z (call80 _) (ZU _ U) H ?_;rintro _ w _ ⟨a,rfl,rfl⟩ H;refine Z4 11 [2,4,3,4,0] H Z ?_;intro w H;refine Ai Z (call51 _) (DR _ U) H ?_;intro w H;refine Z1 17 [] [(manyN n:Int)+1] Z U ?_;refine Ay (σ:=Nat) (λi=>[(47,Aa (i:Int)),(6,.bool false),(0,V ps),(4,V o),(5,Aa (manyN n:Int)),(46,Aa ((manyN n:Int)+1))])
   (λi w=>Sep z (alB a n (Dr n) By (Dr n)::coB b c n m::Aw c (LC C i) n::AE m ([]) 0::plB o ps b a n false::stoA ps pd D G none::R) w/\(i<=manyN n+1)) (λi=>manyN n+1-i) 0
   fr_z ⟨(by rw[OX];exact H),by omega⟩ ?_
 clear H;rintro i w ⟨e,r⟩;have H:=e.l6;have a3:=r;clear r;refine Z0 6 [0] Z (Ag Z (λs=>?_) (λs=>?_))
 ·have u:G.M i≠C5:=λq=>by
    rcases Ads i with h0|h0
    · subst h0;rw[g] at q;cases q
    · have s:=l (i-1) U;rw[show 1+(i-1)=i by omega,q] at s;cases s
  refine Zc 14 Z (AA Z (call21 _) (RF ps pd D G none i U f.clean.f1 (G.M i) Z) H.f5 ?_);rintro _ w _ (⟨a5,rfl,rfl⟩|⟨a7,rv,rfl,rfl⟩) e
  ·exact absurd a5 u
  have H:=e.l7;obtain ⟨gb,a6,rest,rfl,c1,c2,c3,H⟩:=H.ungrow 0 Z U;refine Za 3 [] H Z ?_;intro b2 w H;refine Z4 20 [0,4,0] H Z ?_;intro w H;refine Ag Z (λh2=>?_) (λh2=>?_)
  ·obtain rfl:i=0:=by omega
   refine Z2 5 [0,0,0] H Z (k_updA 84 (v:=Aa 1) Z (congrArg Aa (by rw[g])) (Z1 11 [4] [(0:Int)+1] Z U ?_));replace H:=H.f1.d.d.f5.f5.f5.f5.f5;refine gf ?_;intro _ f;refine ⟨(0+1),f.cz,⟨(by rw[R1];exact H),?_⟩,?_⟩
   ·omega
   omega
  obtain ⟨j,rfl⟩:∃j,i=1+j:=⟨i-1,by omega⟩;have y:=l j U;have a0:(G.M (1+j)).body.length=240:=by rw[y];exact (Dq _ _ _).2
  have a4:(G.M (1+j)).body=DG (Cc C n j):=by rw[y];rfl
  refine Bh 15 J J (A4 H λw e=>?_);have H:=e.l8;refine Y0 4 [0,0] (AQ (H.blk 0 Z) AJ) Z J Z (k_updA 59 (v:=Aa 2) Z (congrArg Aa (by rw[l j U];rfl)) (CL 11 [4,1,7,0,1,0,0] [(j:Int)] H Z J U (BY (gw (Ai Z (call81 _) (XQ _ _ _ _ _ _ j U U _ _ _ _ _ (λh q=>q.rd U U (by rw[AbH,AbN,a0];omega) (by rw[Ab1,AcD,Acs (by rw[AbN,a0])])) (Cc C n j) (CU _ _ _) (Kg hC _ _) a4 R4) H.f1.f6.f6.f6 ?_)))));intro w H;dsimp only[Aw] at H;rw[OY] at H;have e:Sep z (coB b c n m::Aw c (LC C (1+j+1)) n::AE m ([]) 0::blk gb ((G.M (1+j)).body.map u8++rest) 5::blk b2 [Aa ((G.M (1+j)).kind),.slice (some ⟨gb,0,none⟩) 240 a6] 40::stoA ps pd D G none::alB a n (Dr n) By (Dr n)::plB o ps b a n false::R) w:=H;clear H;have H:=e.l8;refine Z1 11 [4] [((1+j):Int)+1] Z U ?_;replace H:=H.f4.d.f3.d.f3.f5.f4.f4.f4.f5;refine gf ?_;intro _ f;refine ⟨(1+j+1),f.cz,⟨H,?_⟩,?_⟩
  ·omega
  omega
 obtain rfl:i=manyN n+1:=by omega
 refine Zc 2 Z (gx (Zc 4 Z ?_));dsimp only[Aw] at H;rw[R3] at H;have e:Sep z (alB a n (Dr n) By (Dr n)::coB b c n m::Aw c C n::AE m ([]) 0::plB o ps b a n false::stoA ps pd D G none::R) w:=H;clear H;have H:=e.l6;refine Z1 7 [] [(manyN n:Int)+1] Z U ?_;refine Ay (σ:=Nat) (λi=>[(90,Aa (i:Int)),(6,.bool false),(4,V o),(89,Aa ((manyN n:Int)+1))])
   (λi w=>Sep z (alB a n (Dr n) By (Dr n)::coB b c n m::Aw c C n::AE m ([]) 0::plB o ps b a n false::stoA ps pd D G none::R) w/\(i<=manyN n+1)) (λi=>manyN n+1-i) 0
   fr_z ⟨H,by omega⟩ ?_
 clear H;rintro i w ⟨e,r⟩;have H:=e.l6;have a3:=r;clear r;refine Z0 6 [0] Z (Ag Z (λh3=>?_) (λh3=>?_))
 ·have u:G.M i≠C5:=λq=>by
    rcases Ads i with h0|h0
    · subst h0;rw[g] at q;cases q
    · have s:=l (i-1) U;rw[show 1+(i-1)=i by omega,q] at s;cases s
  refine Z2 18 [1,4,0] H Z (Ai Z (call50 _) (Ez _ _ _ _ _ _ U U) H.f2.f2 ?_);intro w H;refine k_updA 100 (v:=Aa 1) Z (congrArg Aa (by rw[a2 i U];rfl)) (Z1 10 [4] [(i:Int)+1] Z U ?_);replace H:=H.f5.f5.f5.f4.f4.f5;refine gf ?_;intro _ f;refine ⟨(i+1),f.cz,⟨H,?_⟩,?_⟩
  ·omega
  omega
 obtain rfl:i=manyN n+1:=by omega
 refine Zc 2 Z (gx (Z2 22 [3,4,0] H Z ?_));refine Ay (σ:=Nat) (λi=>[(109,Aa (i:Int)),(4,V o),(108,Aa (n:Int))])
   (λi w=>Sep z (alB a n (Ha C n i) By (Dr n)::coB b c n m::Aw c C n::AE m ([]) 0::plB o ps b a n false::stoA ps pd D G none::R) w/\(i<=n)) (λi=>n-i) 0
   fr_z ⟨(by rw[UF];exact H),by omega⟩ ?_
 clear H;rintro i w ⟨e,r⟩;have H:=e.l6;have a9:=r;clear r;refine Z0 6 [0] Z (Ag Z (λh4=>?_) (λh4=>?_))
 ·refine Z2 17 [1,4,0] H Z (Ai Z (call50 _) (Ez _ _ _ _ _ _ U U) H.f2.f2 ?_);intro w H;refine Z0 3 [0] Z (Ag Z (λh5=>?_) (λh5=>?_))
  ·have a1:0<C i:=by omega
   refine Z2 6 [2,4,0] H Z (Ai Z (call82 _) (RS _ _ _ _ _ i U U (Z6 U)) H.f2 ?_);intro w H;rw[UG a1] at H;refine Z1 7 [] [(i:Int)+1] Z U (gf ?_);intro _ f;refine ⟨(i+1),f.cz,⟨H,?_⟩,?_⟩
   ·omega
   omega
  have t:¬0<C i:=by omega
  refine Z1 7 [] [(i:Int)+1] Z U ?_;replace H:=H.f5.f5.f5.f4.f4.f5;refine gf ?_;intro _ f;refine ⟨(i+1),f.cz,⟨(by rw[<-UH t];exact H),?_⟩,?_⟩
  ·omega
  omega
 obtain rfl:n=i:=by omega
 refine Zc 2 Z (gx (Zc 3 Z ?_));rw[X0] at H;refine Z2 5 [2,4,0] H Z (Ai Z (call49 _) (Ik _ _ _ _ _) H ?_);intro w H;rw[OZ] at H;refine Zc 10 Z (Zr Z ?_);exact ⟨_,⟨o,b,c,m,a,Z,Z⟩,H.perm 6 [5,4,1,2,3,0] Z Z⟩
section
variable{Tb:Ah}
def BS{α:Type}(f:Nat->α)(a:Nat)(x:α):Nat->α:=λi=>if i=a then x else f i
theorem Z7{α:Type}(f:Nat->α)(a:Nat)(x:α):BS f a x a=x:=by simp[BS]
theorem Im{α:Type}(f:Nat->α){a b:Nat}(x:α)(h:b≠a):BS f a x b=f b:=by simp[BS,h]
structure PoX where
 ps:Nat
 pd:Nat
 pc:Nat
 bn:Nat
 mm:Nat
 pa:Nat
 D:Dsk
 G:StG
 g:A0
 l:List IE
 clk:Nat
 Dd:Nat->Bool
 A:Ah
structure PoT where
 M:Nat->Pg
 C:Nat->Nat
 F:Nat->Bool
 k:Nat
def poC(C0:Nat->Nat):Option PoT->Nat->Nat
 | none=>C0
 | some T=>T.C
def O1(n:Nat)(C0:Nat->Nat):Option PoT->Nat->Bool
 | none=>frC n C0
 | some T=>T.F
def Gt(g:A0):Option PoT->C7
 | none=>none
 | some T=>some (g,T.k)
def Wd(pp n:Nat)(C0:Nat->Nat)(t:Option PoT)(X:PoX):List Ah:=
 [plB pp X.ps X.pc X.pa n t.isSome,stoA X.ps X.pd X.D X.G (Gt X.g t),coB X.pc X.bn n X.mm,Aw X.bn (poC C0 t) n,AE X.mm X.l X.clk,alB X.pa n (O1 n C0 t) X.Dd (frC n C0),X.A]
structure PoQ(n:Nat)(C0:Nat->Nat)(T:PoT)(X:PoX):Prop where
 m:∀p,(p=0\/manyN n<p)->T.M p=Cb X.G.M (some (X.g,T.k)) p
 gn:∀i,i<manyN n->X.g (1+i)=none
 W:WasOk T.C C0 n X.l X.clk
 c:∀k,T.C k<=1000
 df:Cu T.F X.Dd=frC n T.C
 dj:∀p,X.Dd p=true->T.F p=false
 one:∀p,p<=manyN n->T.C p=1
structure PoP(Tb:Ah)(mb n:Nat)(M0:Nat->Pg)(C0:Nat->Nat)(t:Option PoT)(X:PoX):Prop where
 hn:16<=n/\n<=1024
 fine:Fine X.D X.G mb
 pg:X.G.x.pages=n
 tab:Fw X.A/\X.A=Tb
 m0:∀p,(p=0\/manyN n<p)->M0 p=X.G.M p
 cp:∀i,i<manyN n->X.G.M (1+i)=CO C0 n i
 c0:∀k,C0 k<=1000
 one:∀p,p<=manyN n->C0 p=1
 idle:t=none->X.l=[]/\X.Dd=By
 tx:∀T,t=some T->PoQ n C0 T X
def poA(Tb:Ah)(pp mb n:Nat)(M0:Nat->Pg)(C0:Nat->Nat)(t:Option PoT):Ah:=λh=>∃X,PoP Tb mb n M0 C0 t X/\seps (Wd pp n C0 t X) h
variable{z w:World}{Γ:List Ah}{pp mb n:Nat}{M0:Nat->Pg}{C0:Nat->Nat}{t:Option PoT}{T:PoT}
theorem Sep.po(H:Sep z (poA Tb pp mb n M0 C0 t::Γ) w):∃X,PoP Tb mb n M0 C0 t X/\Sep z (Wd pp n C0 t X++Γ) w:=
 H.into (p:=λX=>PoP Tb mb n M0 C0 t X) (As:=λX=>Wd pp n C0 t X) (λ_ q=>q)
theorem Sep.toPo{X:PoX}(H:Sep z Γ w)(b:PoP Tb mb n M0 C0 t X)(a:Γ.take 7=Wd pp n C0 t X):Sep z (poA Tb pp mb n M0 C0 t::Γ.drop 7) w:=
 H.made 7 (λh q=>⟨X,b,by rwa[a] at q⟩)
structure PoK(n:Nat)(T:PoT):Prop where
 c:∀k,T.C k<=1000
 free:∀p,T.F p=true->p<n/\T.C p=0/\manyN n<p
 one:∀p,p<=manyN n->T.C p=1
theorem PoQ.k{X:PoX}(Q:PoQ n C0 T X)(b:16<=n):PoK n T:=by
 refine ⟨Q.c,λp hp=>?_,Q.one⟩;have a:frC n T.C p=true:=by rw[<-Q.df];simp[Cu,hp]
 simp[frC] at a;refine ⟨a.1,a.2,?_⟩;rcases AbX (manyN n) p with h|h
 ·exact h
 have:=Q.one p h;omega
theorem poA.k{h:Hp}(a:poA Tb pp mb n M0 C0 (some T) h):PoK n T:=by
 obtain ⟨X,b,_⟩:=a;exact (b.tx T Z).k b.hn.1
def po0(n:Nat)(M0:Nat->Pg)(C0:Nat->Nat):PoT:=⟨M0,C0,frC n C0,0⟩
theorem KT(pp mb n:Nat)(M0:Nat->Pg)(C0:Nat->Nat):Aj 11 [V pp] [poA Tb pp mb n M0 C0 none] (λv G=>v=Aa 0/\G=[poA Tb pp mb n M0 C0 (some (po0 n M0 C0))]):=by
 intro z R w H;obtain ⟨X,a,H⟩:=H.po;obtain ⟨b,c⟩:=a.idle Z;refine Ret.mono (Cn.at (Uz pp X.ps X.pd X.pc X.bn X.mm X.pa n X.D X.G) H 7 [0,1,2,3,4,5,6] Z Z) ?_;rintro v w' ⟨Γ',⟨rfl,rfl⟩,d⟩;refine ⟨_,⟨Z,Z⟩,d.toPo (X:= {X with g:=CD}) ⟨a.hn,a.fine,a.pg,a.tab,a.m0,a.cp,a.c0,a.one,λe=>(by cases e),λT e=>?_⟩ Z⟩;cases e;refine ⟨λp hp=>a.m0 p hp,λ_ _=>rfl,?_,a.c0,?_,λp hp=>?_,a.one⟩
 ·show WasOk C0 C0 n X.l X.clk
  rw[b];exact WasOk.nil _ _ _
 ·show Cu (frC n C0) X.Dd=frC n C0
  rw[c];exact OZ _
 have:X.Dd p=true:=hp;rw[c] at this;cases this
theorem X1(pp mb n:Nat)(M0:Nat->Pg)(C0:Nat->Nat)(T:PoT):Aj 20 [V pp] [poA Tb pp mb n M0 C0 (some T)] (λv G=>v=.tuple #[]/\G=[poA Tb pp mb n M0 C0 none]):=by
 intro z R w H;obtain ⟨X,a,H⟩:=H.po;have Q:=a.tx T Z;refine Ret.mono (Cn.at (Nj pp X.ps X.pd X.pc X.bn X.mm X.pa n X.D X.G X.g T.k T.C C0 X.l X.clk T.F X.Dd (frC n C0) Q.W) H 7 [1,0,2,3,4,5,6] Z Z) ?_;rintro v w' ⟨Γ',⟨rfl,rfl⟩,b⟩;have H3:=b.pick 7 [1,0,2,3,4,5,6] Z;exact ⟨_,⟨Z,Z⟩,H3.toPo (X:= {X with l:=[],Dd:=By}) ⟨a.hn,a.fine,a.pg,a.tab,a.m0,a.cp,a.c0,a.one,λ_=>⟨Z,Z⟩,λT e=>(by cases e)⟩ Z⟩
theorem UI(pp mb n:Nat)(M0:Nat->Pg)(C0:Nat->Nat):Aj 20 [V pp] [poA Tb pp mb n M0 C0 none] (λv G=>v=.tuple #[]/\G=[poA Tb pp mb n M0 C0 none]):=by
 intro z R w H;obtain ⟨X,b,H⟩:=H.po;refine Ret.mono (Cn.at (RZ pp X.ps X.pc X.pa n) H 7 [0,1,2,3,4,5,6] Z Z) ?_;rintro v w' ⟨Γ',⟨rfl,rfl⟩,a⟩;exact ⟨_,⟨Z,Z⟩,a.toPo b Z⟩
theorem UJ(pp mb n:Nat)(M0:Nat->Pg)(C0:Nat->Nat)(T:PoT)(o:T.k+manyN n<=40)(q:mb<=1000000000):Aj 14 [V pp] [poA Tb pp mb n M0 C0 (some T)] (λv G=>v=Aa 0/\G=[poA Tb pp (mb+2) n T.M T.C none]):=by
 intro z R w H;obtain ⟨X,a,H⟩:=H.po;have Q:=a.tx T Z;refine Ret.mono (Cn.at (R0 pp X.ps X.pd X.pc X.bn X.mm X.pa n X.D X.G mb X.g T.k T.C C0 X.l X.clk T.F X.Dd (frC n C0) Q.W a.hn a.pg Q.gn o Q.c a.fine q) H 7 [1,0,2,3,4,5,6] Z Z) ?_;rintro v w' ⟨Γ',⟨D2,G2,g,k,zs,f,r,s,_,b,t,rfl,rfl⟩,j⟩;have H3:=j.pick 7 [1,0,2,3,4,5,6] Z;rw[Q.df] at H3;refine ⟨_,⟨Z,Z⟩,H3.toPo (X:= {X with l:=[],Dd:=By,D:=D2,G:=G2}) ⟨a.hn,s,?_,a.tab,λp hp=>?_,λi d=>?_,Q.c,Q.one,λ_=>⟨Z,Z⟩,λT e=>(by cases e)⟩ Z⟩
 ·have:=a.pg
  rcases t with e|e
  ·show G2.x.pages=_;rw[e];exact this
  show G2.x.pages=_;rw[e];exact this
 ·rw[Q.m p hp]
  show _=G2.M p;rw[b];simp only[Cb];rw[f.old p hp]
 show G2.M (1+i)=_;rw[b];simp only[Cb];rcases f.done r d with h|⟨h,e⟩
 ·rw[h];rfl
 rw[h,<-e];exact a.cp i d
theorem O2(pp mb n:Nat)(M0:Nat->Pg)(C0:Nat->Nat)(t:Option PoT)(p:Nat)(hp:p<n):Aj 18 [V pp,Aa (p:Int)] [poA Tb pp mb n M0 C0 t] (λv G=>v=Aa (poC C0 t p:Int)/\G=[poA Tb pp mb n M0 C0 t]):=by
 intro z R w H;obtain ⟨X,a,H⟩:=H.po;refine Ret.mono (Cn.at (UA pp X.ps X.pc X.bn X.mm X.pa n t.isSome (poC C0 t) p hp a.hn) H 7 [0,2,3,1,4,5,6] Z Z) ?_;rintro v w' ⟨Γ',⟨rfl,rfl⟩,b⟩;exact ⟨_,⟨Z,Z⟩,(b.pick 7 [0,3,1,2,4,5,6] Z).toPo a Z⟩
theorem Z8(pp mb n:Nat)(M0:Nat->Pg)(C0:Nat->Nat)(t:Option PoT):Aj 10 [V pp] [poA Tb pp mb n M0 C0 t] (λv G=>v=Aa (cnt (O1 n C0 t) 0 1024:Int)/\G=[poA Tb pp mb n M0 C0 t]):=by
 intro z R w H;obtain ⟨X,b,H⟩:=H.po;refine Ret.mono (Cn.at (XU pp X.ps X.pc X.pa n t.isSome (O1 n C0 t) X.Dd (frC n C0)) H 7 [0,5,1,2,3,4,6] Z Z) ?_;rintro v w' ⟨Γ',⟨rfl,rfl⟩,a⟩;exact ⟨_,⟨Z,Z⟩,(a.pick 7 [0,2,3,4,5,1,6] Z).toPo b Z⟩
theorem PoQ.put{X:PoX}{p:Nat}{x:Pg}(Q:PoQ n C0 T X)(hp:p=0\/manyN n<p)(b:Nat):PoQ n C0 {T with M:=BS T.M p x,k:=b} {X with g:=pgSet X.g p x} :=by
 refine ⟨λq hq=>?_,λi a=>?_,Q.W,Q.c,Q.df,Q.dj,Q.one⟩
 ·simp only[BS,Cb,pgSet]
  split
  ·rfl
  exact Q.m q hq
 show pgSet X.g p x (1+i)=none;unfold pgSet;rw[if_neg U];exact Q.gn i a
theorem AaX(pp mb n:Nat)(M0:Nat->Pg)(C0:Nat->Nat)(T:PoT)(p:Nat)(hp:manyN n<p/\p<n)(g:1<=T.C p/\T.C p<1000):
  Aj 17 [V pp,Aa (p:Int)] [poA Tb pp mb n M0 C0 (some T)] (λv G=>v=Aa 0/\G=[poA Tb pp mb n M0 C0 (some {T with C:=BS T.C p (T.C p+1)})]):=by
 intro z R w H;obtain ⟨X,a,H⟩:=H.po;have Q:=a.tx T Z;refine Ret.mono (Cn.at (ZZ pp X.ps X.pc X.bn X.mm X.pa n T.C C0 X.l X.clk Q.W a.hn p hp g) H 7 [0,2,3,4,1,5,6] Z Z) ?_;rintro v w' ⟨Γ',⟨f,b,W2,rfl,rfl⟩,d⟩;refine ⟨_,⟨Z,Z⟩,((d.pick 7 [0,4,1,2,3,5,6] Z).toPo (X:= {X with l:=f,clk:=b}) (t:=some {T with C:=BS T.C p (T.C p+1)}) ⟨a.hn,a.fine,a.pg,a.tab,a.m0,a.cp,a.c0,a.one,λe=>(by cases e),λT' e=>?_⟩ Z)⟩;cases e;refine ⟨Q.m,Q.gn,W2,λk=>?_,?_,Q.dj,λq hq=>?_⟩
 ·show BS T.C p (T.C p+1) k<=1000
  unfold BS;split
  ·omega
  exact Q.c k
 ·show Cu T.F X.Dd=frC n (BS T.C p (T.C p+1))
  rw[Q.df];funext q;unfold frC BS;split
  ·rename_i e;subst e;simp;omega
  rfl
 show BS T.C p (T.C p+1) q=1;rw[Im _ _ U];exact Q.one q hq
theorem X2(pp mb n:Nat)(M0:Nat->Pg)(C0:Nat->Nat)(T:PoT)(p:Nat)(hp:manyN n<p/\p<n)(g:2<=T.C p):
  Aj 15 [V pp,Aa (p:Int)] [poA Tb pp mb n M0 C0 (some T)] (λv G=>v=Aa 0/\G=[poA Tb pp mb n M0 C0 (some {T with C:=BS T.C p (T.C p-1)})]):=by
 intro z R w H;obtain ⟨X,a,H⟩:=H.po;have Q:=a.tx T Z;refine Ret.mono (Cn.at (UC pp X.ps X.pc X.bn X.mm X.pa n T.C C0 X.l X.clk Q.W a.hn p hp ⟨g,Q.c p⟩) H 7 [0,2,3,4,1,5,6] Z Z) ?_;rintro v w' ⟨Γ',⟨f,b,W2,rfl,rfl⟩,d⟩;refine ⟨_,⟨Z,Z⟩,((d.pick 7 [0,4,1,2,3,5,6] Z).toPo (X:= {X with l:=f,clk:=b}) (t:=some {T with C:=BS T.C p (T.C p-1)}) ⟨a.hn,a.fine,a.pg,a.tab,a.m0,a.cp,a.c0,a.one,λe=>(by cases e),λT' e=>?_⟩ Z)⟩;cases e;refine ⟨Q.m,Q.gn,W2,λk=>?_,?_,Q.dj,λq hq=>?_⟩
 ·show BS T.C p (T.C p-1) k<=1000
  have:=Q.c p;unfold BS;split
  ·omega
  exact Q.c k
 ·show Cu T.F X.Dd=frC n (BS T.C p (T.C p-1))
  rw[Q.df];funext q;unfold frC BS;split
  ·rename_i e;subst e;exact decide_eq_decide.2 U
  rfl
 show BS T.C p (T.C p-1) q=1;rw[Im _ _ U];exact Q.one q hq
theorem drop_p(pp mb n:Nat)(M0:Nat->Pg)(C0:Nat->Nat)(T:PoT)(p:Nat)(hp:manyN n<p/\p<n)(i:T.C p=1):
  Aj 15 [V pp,Aa (p:Int)] [poA Tb pp mb n M0 C0 (some T)] (λv G=>v=Aa 0/\G=[poA Tb pp mb n M0 C0 (some {T with C:=BS T.C p 0})]):=by
 intro z R w H;obtain ⟨X,a,H⟩:=H.po;have Q:=a.tx T Z;have f:(T.F p||X.Dd p)=false:=by
  have:Cu T.F X.Dd p=frC n T.C p:=by rw[Q.df]
  unfold Cu frC at this;rw[this];simp;omega
 simp at f;refine Ret.mono (Cn.at (XV pp X.ps X.pc X.bn X.mm X.pa n T.C C0 X.l X.clk Q.W a.hn p hp T.F X.Dd (frC n C0) i f.1 f.2) H 7 [0,2,3,4,5,1,6] Z Z) ?_;rintro v w' ⟨Γ',⟨h,d,W2,rfl,rfl⟩,g⟩;refine ⟨_,⟨Z,Z⟩,((g.pick 7 [0,5,1,2,3,4,6] Z).toPo (X:= {X with l:=h,clk:=d,Dd:=insP X.Dd p}) (t:=some {T with C:=BS T.C p 0}) ⟨a.hn,a.fine,a.pg,a.tab,a.m0,a.cp,a.c0,a.one,λe=>(by cases e),λT' e=>?_⟩ Z)⟩;cases e;refine ⟨Q.m,Q.gn,W2,λk=>?_,?_,λq hq=>?_,λq hq=>?_⟩
 ·show BS T.C p 0 k<=1000
  unfold BS;split
  ·omega
  exact Q.c k
 ·show Cu T.F (insP X.Dd p)=frC n (BS T.C p 0)
  funext q;have:Cu T.F X.Dd q=frC n T.C q:=by rw[Q.df]
  unfold Cu frC at this;unfold Cu insP frC BS;rw[<-Bool.or_assoc,this];by_cases e:q=p
  ·subst e;simp[hp.2]
  simp[e]
 ·have b:insP X.Dd p q=true:=hq
  unfold insP at b;by_cases e:q=p
  ·subst e;exact f.1
  simp[e] at b;exact Q.dj q b
 show BS T.C p 0 q=1;rw[Im _ _ U];exact Q.one q hq
end
section
variable{Tb:Ah}
variable{z w:World}{Γ:List Ah}{pp mb n:Nat}{M0:Nat->Pg}{C0:Nat->Nat}{t:Option PoT}{T:PoT}
theorem X3(pp mb n:Nat)(M0:Nat->Pg)(C0:Nat->Nat)(T:PoT)(x:Pg)(hx:x.Ok)(o:Value)(B:Ah)(hB:∀h,B h->rdH 1 o 240 (x.body.map u8) h)(hk:T.k<40):
  Aj 12 [V pp,.agg #[Aa x.kind,o]] [poA Tb pp mb n M0 C0 (some T),B] (λv G=>(cnt T.F 0 1024=0/\v=.tuple #[Aa 0,Aa 20]/\G=[poA Tb pp mb n M0 C0 (some T),B])\/
   ∃p f:Nat,((T.F p=true/\∀q,q<p->T.F q=false)/\f<=T.k+1/\cnt (BI T.F p) 0 1024+1=cnt T.F 0 1024)/\v=.tuple #[Aa (p:Int),Aa 0]/\G=[poA Tb pp mb n M0 C0 (some ⟨BS T.M p x,BS T.C p 1,BI T.F p,f⟩),B]):=by
 intro z R w H;obtain ⟨X,a,H⟩:=H.po;have Q:=a.tx T Z;have K:=Q.k a.hn.1;have hn:=a.hn;by_cases hno:∀q,q<1024->T.F q=false
 ·refine Ret.mono (Cn.at (Lz pp X.ps X.pc X.pa n x hx o B hB T.F X.Dd (frC n C0) hno) H 8 [0,5,7,1,2,3,4,6] Z Z) ?_
  rintro v w' ⟨Γ',⟨rfl,rfl⟩,u⟩;refine ⟨_,.inl ⟨?_,Z,Z⟩,(u.pick 8 [0,3,4,5,6,1,7,2] Z).toPo a Z⟩;rw[Gs (F:=T.F) (G:=By) (λi hi=>by rw[hno _ U];rfl)];have:∀m,cnt By 0 m=0:=λm=>by
   induction m with
   | zero=>rfl
   | succ m ih=>simp only[cnt,ih,By];rfl
  exact this _
 have y:∃p,T.F p=true/\∀q,q<p->T.F q=false:=by
  have b:∃q,T.F q=true:=AcQ λh=>hno (λq _=>by
   cases e:T.F q with
   | false=>rfl
   | true=>exact absurd ⟨q,e⟩ h)
  obtain ⟨q,hq⟩:=b;have:∀m q,q<=m->T.F q=true->∃p,T.F p=true/\∀q,q<p->T.F q=false:=λm=>by
   induction m with
   | zero=>intro q b s;exact ⟨q,s,λr hr=>by omega⟩
   | succ m ih=>
    intro q b s;by_cases h3:∃r,r<q/\T.F r=true
    ·obtain ⟨r,h4,h5⟩:=h3
     exact ih r U h5
    refine ⟨q,s,λr hr=>?_⟩
    cases e:T.F r with
    | false=>rfl
    | true=>exact absurd ⟨r,hr,e⟩ h3
  exact this q q (Ab9 _) hq
 obtain ⟨p,b,h0⟩:=y;obtain ⟨k1,f,k3⟩:=K.free p b;have hd:X.Dd p=false:=by
  cases e:X.Dd p with
  | false=>rfl
  | true=>have:=Q.dj p e;rw[b] at this;cases this
 refine Ret.mono (Cn.at (Nk pp X.ps X.pd X.pc X.bn X.mm X.pa n X.D X.G X.g T.k T.C C0 X.l X.clk T.F X.Dd (frC n C0) Q.W a.hn a.pg p x hx o B hB (λq=>by omega) k1 b h0 f X.A a.tab.1) H 8 [1,0,2,3,4,5,6,7] Z Z) ?_;rintro v w' ⟨Γ',⟨l2,d,W2,rfl,rfl⟩,u⟩;refine ⟨_,.inr ⟨p,_,⟨⟨b,h0⟩,?_,?_⟩,Z,Z⟩,((u.pick 8 [1,0,2,3,4,5,6,7] Z).toPo (X:= {X with g:=pgSet X.g p x,l:=l2,clk:=d}) (t:=some ⟨BS T.M p x,BS T.C p 1,BI T.F p,T.k+(if (X.g p).isSome then 0 else 1)⟩) ⟨a.hn,a.fine,a.pg,a.tab,a.m0,a.cp,a.c0,a.one,λe=>(by cases e),λT' e=>?_⟩ Z)⟩
 ·split<;>omega
 ·exact Nl (F:=T.F) (G:=BI T.F p) (i:=p) U b (by simp[BI]) (λj hj=>by simp[BI,hj])
 cases e
 have Q2:=Q.put (x:=x) (.inr k3) 0;refine ⟨Q2.m,Q2.gn,W2,λk=>?_,?_,λq hq=>?_,λq hq=>?_⟩
 ·show BS T.C p 1 k<=1000
  unfold BS;split
  ·omega
  exact Q.c k
 ·show Cu (BI T.F p) X.Dd=frC n (BS T.C p 1)
  funext q;have:Cu T.F X.Dd q=frC n T.C q:=by rw[Q.df]
  unfold Cu frC at this;unfold Cu BI frC BS;by_cases e:q=p
  ·subst e;simp[hd]
  simp only[e,decide_false,Bool.not_false,Bool.and_true,if_false];exact this
 ·have:=Q.dj q hq
  show BI T.F p q=false;unfold BI;rw[this];rfl
 show BS T.C p 1 q=1;rw[Im _ _ U];exact Q.one q hq
end
attribute [local irreducible] De Cy
theorem UK{xs:List UInt8}{j:Nat}{b:UInt8}(h:xs[j]?=some b):IntKind.i64.wrap (IntKind.i64.wrap (256*Be (xs.take j))+(b.toNat:Int))=Be (xs.take (j+1)):=by
 rw[Int.mul_comm];exact HZ h
theorem UL{s:UInt32}{i:Nat}(h:i<4):(Dp s)[i]?=some (s>>>UInt32.ofNat (8*i)).toUInt8:=by
 match i,h with
 | 0,_=>
  have e:s>>>UInt32.ofNat (8*0)=s:=UInt32.shiftRight_zero;rw[e];rfl
 | 1,_=>rfl
 | 2,_=>rfl
 | 3,_=>rfl
theorem Jw{xs bs:List UInt8}{i:Nat}(h:xs.take i=bs.take i)(b:xs.length<=i)(a:bs.length<=i):xs=bs:=by
 rwa[AbJ b,AbJ a] at h
theorem X4(c:UInt32)(v:Value)(bs:List UInt8)(A:Ah)(n:∀h,A h->rdH 1 v bs.length (bs.map u8) h):Aj 242 [u32 c,v] [A] (λv G=>v=u32 (Dz c bs)/\G=[A]):=by
 intro z R w H;obtain ⟨f,g,rfl⟩:=H.sy 0 (λq=>(n _ q).slc);have m:=H.sy 0 (λq=>(n _ q).small);refine Ac func242 Z ntmps242 Z (Zc 8 Z (Ad Z (Iy Z Z) (Zc 10 Z ?_)));refine Ay (σ:=Nat) (λi=>[(6,Aa (i:Int)),(5,u32 ((bs.take i).foldl Dy (4294967295 ^^^ c))),(1,.slice f bs.length g),(4,u32 0)])
   (λi w=>Sep z (A::R) w/\(i<=bs.length)) (λi=>bs.length-i) 0
   (λ_ a=>(a.co Z (by go_num) a.cz)) ⟨H,AbV _⟩ ?_
 clear H;rintro i w ⟨l,e⟩;have H:=l.l1;have y:=e;clear e;refine Z0 9 [0] Z (Ag Z (λx=>?_) (λx=>?_))
 ·obtain ⟨b,o⟩:∃b,bs[i]?=some b:=⟨_,AbF U⟩;refine Zc 5 Z ?_;have d:=(H.rd 0 Z n).at (j:=i) (u:=u8 b) (by simp[o])
  refine Zc 4 Z (Ad Z (Az Z (z:=1) (j:=i) (r:=i) J Z Z Z U d U) (Ad Z (AM Z Z J (AB d)) (Ad Z (WB Z J Z) (Ad Z (Ix Z Z Z) (Zc 9 Z ?_)))));refine Ay (σ:=Nat) (λk=>[(7,Aa (k:Int)),(5,u32 (Cy k (((bs.take i).foldl Dy (4294967295 ^^^ c)) ^^^ b.toUInt32))),(1,.slice f bs.length g),(4,u32 0),(6,Aa (i:Int)),(11,Aa (i:Int)),(12,.slice f bs.length g),(13,Aa (bs.length:Int)),(14,.bool (decide ((i:Int)<(bs.length:Int)))),(17,u32 ((bs.take i).foldl Dy (4294967295 ^^^ c))),(18,.slice f bs.length g),(19,Aa (i:Int)),(20,FQ f i),(21,u8 b),(22,u32 b.toUInt32),(23,u32 (((bs.take i).foldl Dy (4294967295 ^^^ c)) ^^^ b.toUInt32))])
    (λk w=>Sep z (A::R) w/\(k<=8)) (λk=>8-k) 0
    (λ_ a=>(a.co Z (by go_num) (a.co Z (congrArg u32 (Fv _).symm) (a.all Z)))) ⟨H,AbV _⟩ ?_
  clear H;rintro k w ⟨l,e⟩;have H:=l.l1;have s:=e;clear e;refine Z0 7 [0] Z (Ag Z (λp=>?_) (λp=>?_))
  ·refine Zc 7 Z (Ad Z (Zz Z Z Z) (Zc 6 Z (Ad Z (ZA Z Z Z) (Zc 6 Z (Ad Z (Wy (q:=1) (k:=.u32) Z J Z Z) (Zc 2 Z (Ag Z (λt=>?_) (λt=>?_))))))))
   ·refine Zc 2 Z (Ad Z (Ix (q:=2197175160) Z Z Z) (Z1 9 [] [(k:Int)+1] Z U (gf ?_)));intro _ a;refine ⟨(k+1),(a.co Z (by go_num) (a.co Z (congrArg u32 (by rw[G6];first|rw[I1 (by assumption)]|rw[PT ((bit1 _).resolve_right (by assumption))])) (a.all Z))),⟨H,?_⟩,?_⟩
    ·omega
    omega
   refine Z1 8 [] [(k:Int)+1] Z U (gf ?_);intro _ a;refine ⟨(k+1),(a.co Z (by go_num) (a.co Z (congrArg u32 (by rw[G6];first|rw[I1 (by assumption)]|rw[PT ((bit1 _).resolve_right (by assumption))])) (a.all Z))),⟨H,?_⟩,?_⟩
   ·omega
   omega
  obtain rfl:k=8:=by omega
  refine Zc 2 Z (gx (Z1 8 [] [(i:Int)+1] Z U (gf ?_)));intro _ a;refine ⟨(i+1),(a.co Z (by go_num) (a.co Z (congrArg u32 (by rw[AbZ,o,Ua];simp)) (a.all Z))),⟨H,?_⟩,?_⟩
  ·omega
  omega
 refine Zc 2 Z (gx (Zc 5 Z (Ad Z (Iy Z Z) (Zc 4 Z (Zr Z ?_)))));obtain rfl:i=bs.length:=by omega
 exact ⟨_,⟨congrArg u32 (by simp[Dz]),Z⟩,H⟩
theorem Nm(v:Value)(bs:List UInt8)(A:Ah)(a:∀h,A h->rdH 1 v bs.length (bs.map u8) h):Aj 222 [v] [A] (λv G=>v=u32 (AC bs)/\G=[A]):=by
 intro z R w H;refine Ac func222 Z ntmps222 Z (Zc 8 Z (Ai Z (call242 _) (X4 0 _ bs A a) H ?_));intro w H;refine Zc 4 Z (Zr Z ?_);exact ⟨_,⟨Z,Z⟩,H⟩
theorem Cr(v:Value)(xs:List UInt8)(x:Int)(k:Nat)(i:1<=k/\k<=8)(g:xs.length<=1048576):Aj 157 [v,Aa x,Aa (k:Int)] [bsA 5 v xs] (λv G=>∃a:Value,v=a/\G=[grow 5 1 a (xs++Af k x).length ((xs++Af k x).map u8)]):=by
 intro z R w H;refine Ac func157 Z ntmps157 Z (Z1 14 [] [(k:Int)-1] Z U ?_);refine Ay (σ:=Nat×Value) (λ⟨j,u⟩=>[(7,Aa ((k:Int)-1-(j:Int))),(0,u),(1,Aa x),(6,.slice none 0 0)])
   (λ⟨j,u⟩ w=>Sep z (pmA 5 xs (Af k x) u j::R) w/\(j<=k)) (λ⟨j,u⟩=>k-j) ⟨0,v⟩
   fr_z ⟨(Ug H),AbV _⟩ ?_
 clear H;rintro ⟨j,u⟩ w ⟨c,b⟩;dsimp only at b c ⊢;have H:=c.l1;have h:=b;clear b;refine Z0 7 [0] Z (Ag Z (λe=>?_) (λe=>?_))
 ·refine Z1 9 [] [((8*(k-1-j):Nat):Int)] Z U (Ad Z (Q6 Z Z Z (m:=8*(k-1-j)) Z U) (Ad Z (LS Z J Z) (AG Z (AL H Z J Bf Z (by decide) (by decide) (out:=[u8 (Fi (x/2^(8*(k-1-j))))]) J) ?_)));rintro _ w ⟨l,rfl,H⟩;replace H:=H.f1;refine AG Z (RK H Z J Bf Z Z (H.rv 1 (·.rd U U O Z)) (beN_get x U) U) ?_;rintro a w H;refine Zc 2 Z ?_;replace H:=(XA H).l2
  refine Z1 7 [] [(k:Int)-1-((j+1:Nat):Int)] Z U ?_;replace H:=H.f1.d;refine gf ?_;intro _ f;refine ⟨⟨j+1,a⟩,f.cz,⟨H,?_⟩,?_⟩
  ·show j+1<=k;omega
  (dsimp only;omega)
 refine Zc 2 Z (gx (Zc 3 Z ?_));obtain rfl:j=k:=by omega
 replace H:=(ZC U (Ae _ _).symm H).l1;refine Zc 6 Z (Zr Z ?_);exact ⟨_,⟨_,Z,Z⟩,H⟩
theorem Co(v:Value)(bs:List UInt8)(A:Ah)(f:∀h,A h->rdH 1 v bs.length (bs.map u8) h)(a k:Nat)(t:a+k<=bs.length/\k<=8):Aj 142 [v,Aa (a:Int),Aa (k:Int)] [A] (λv G=>v=Aa (Be ((bs.drop a).take k))/\G=[A]):=by
 intro z R w H;obtain ⟨p,n,rfl⟩:=H.sy 0 (λq=>(f _ q).slc);have e:=H.sy 0 (λq=>(f _ q).small);refine Ac func142 Z ntmps142 Z (Zc 18 Z ?_);refine Ay (σ:=Nat) (λj=>[(8,Aa ((a+j:Nat):Int)),(7,Aa (Be ((bs.drop a).take j))),(0,.slice p bs.length n),(1,Aa (a:Int)),(2,Aa (k:Int)),(6,Aa 0)])
   (λj w=>Sep z (A::R) w/\(j<=k)) (λj=>k-j) 0
   (λ_ c=>(c.co Z (by go_num) c.cz)) ⟨H,AbV _⟩ ?_
 clear H;rintro j w ⟨m,g⟩;have H:=m.l1;have s:=g;clear g;refine Z1 10 [0] [((a+k:Nat):Int)] Z U (Ag Z (λo=>?_) (λo=>?_))
 ·obtain ⟨b,i⟩:∃b,bs[a+j]?=some b:=⟨_,AbF U⟩;refine Z0 18 [0] Z (Ag Z (λl=>?_) (λl=>?_))
  ·have d:=(H.rd 0 Z f).at (j:=a+j) (u:=u8 b) (by simp[i])
   refine Zc 3 Z (Ad Z (Az Z (z:=1) (j:=(a+j)) (r:=(a+j)) J Z Z Z U d U) (Ad Z (AM Z Z J (AB d)) (Ad Z (LT Z J Z) (Zc 5 Z (Ad Z (VJ Z Z Z) (Zc 1 Z (Ad Z (VI Z Z Z) (Z1 9 [] [((a+(j+1):Nat):Int)] Z U (gf ?_)))))))));intro _ c;refine ⟨(j+1),(c.co Z Z (c.co Z (congrArg Aa (UK (by rw[AcH];exact i))) (c.all Z))),⟨H,?_⟩,?_⟩
   ·omega
   omega
  (exfalso;omega)
 refine Zc 2 Z (gx (Zc 9 Z (Zr Z ?_)));obtain rfl:j=k:=by omega
 exact ⟨_,⟨Z,Z⟩,H⟩
theorem Ga(v:Value)(xs:List UInt8)(m:Nat)(i:xs.length<=m/\m<=1048576):Aj 141 [v,Aa (m:Int)] [grow 5 1 v xs.length (xs.map u8)] (λv G=>∃b:Value,v=b/\G=[grow 5 1 b (xs++List.replicate (m-xs.length) 0).length ((xs++List.replicate (m-xs.length) 0).map u8)]):=by
 intro z R w H;refine Ac func141 Z ntmps141 Z (Zc 7 Z ?_);refine Ay (σ:=Nat×Value) (λ⟨j,u⟩=>[(0,u),(1,Aa (m:Int)),(4,.slice none 0 0)])
   (λ⟨j,u⟩ w=>Sep z (grow 5 1 u (xs.length+j) ((xs++List.replicate j 0).map u8)::R) w/\(xs.length+j<=m)) (λ⟨j,u⟩=>m-j) ⟨0,v⟩
   (λ_ f=>(f.all Z)) ⟨(by simpa using H),i.1⟩ ?_
 clear H;rintro ⟨j,u⟩ w ⟨a,c⟩;dsimp only at c a ⊢;have H:=a.l1;have l:=H.sy 0 (·.slc);have n:=c;clear c;refine Zc 4 Z (Ad Z (JT Z (sz:=1) J Z l) (Z0 4 [0] Z (Ag Z (λh=>?_) (λh=>?_))))
 ·refine Zc 5 Z (AG Z (AL H Z J Bf Z (by decide) (by decide) (out:=[u8 0]) J) ?_);rintro _ w ⟨k,rfl,H⟩;refine AG Z (AO 1 H Z Z J Bf Z Z (H.rv 0 (·.rd U U O Z)) (by simp[u8,Value.oneCell']) U) ?_;rintro b w a;have a:Sep z (blk k [u8 0] 5::grow 5 1 b ((xs.length+j)+1) ((xs++List.replicate j 0).map u8++[u8 0])::R) w:=a
  have e:((xs++List.replicate j 0).map u8++[u8 0]:List Value)=(xs++List.replicate (j+1) 0).map u8:=(by rw[List.replicate_succ'];simp[u8]);rw[e] at a;rw[show ((xs.length+j)+1:Nat)=(xs.length+(j+1)) from by omega] at a;have H:=a.l2;have g:=H.sy 1 (·.slc);refine Zc 3 Z ?_;replace H:=H.d;refine gf ?_;intro _ f;refine ⟨⟨j+1,b⟩,(f.all Z),⟨H,?_⟩,?_⟩
  ·show xs.length+(j+1)<=m;omega
  (dsimp only;omega)
 refine Zc 2 Z (gx (Zc 9 Z (Zr Z ?_)));obtain rfl:j=m-xs.length:=by omega
 rw[show xs.length+(m-xs.length)=(xs++List.replicate (m-xs.length) (0:UInt8)).length from by simp] at H;exact ⟨_,⟨_,Z,Z⟩,H⟩
theorem R5(v:Value)(xs:List UInt8)(m:xs.length<=1048576):Aj 219 [v,v] [grow 5 1 v xs.length (xs.map u8)] (λv G=>∃b:Value,v=b/\G=[grow 5 1 b (xs++Dp (AC xs)).length ((xs++Dp (AC xs)).map u8)]):=by
 intro z R w H;refine Ac func219 Z ntmps219 Z (Zc 8 Z (Ai Z (call222 _) (Nm _ xs _ (λh q=>q.rd)) H ?_));intro w H;refine Zc 10 Z ?_;refine Ay (σ:=Nat×Value) (λ⟨j,u⟩=>[(6,Aa (j:Int)),(0,u),(4,.slice none 0 0),(5,u32 (AC xs))])
   (λ⟨j,u⟩ w=>Sep z (grow 5 1 u (xs.length+j) ((xs++(Dp (AC xs)).take j).map u8)::R) w/\(j<=4)) (λ⟨j,u⟩=>4-j) ⟨0,v⟩
   fr_z ⟨(by simpa using H),AbV _⟩ ?_
 clear H;rintro ⟨j,u⟩ w ⟨a,c⟩;dsimp only at c a ⊢;have H:=a.l1;have n:=H.sy 0 (·.slc);have l:=c;clear c;refine Z0 7 [0] Z (Ag Z (λg=>?_) (λg=>?_))
 ·refine Z1 9 [] [((8*j:Nat):Int)] Z U (Ad Z (F5 Z Z Z (n':=UInt32.ofNat (8*j)) ⟨by omega,by omega,Z⟩) (Ad Z (F6 Z J Z) (AG Z (AL H Z J Bf Z (by decide) (by decide) (out:=[u8 ((AC xs>>>UInt32.ofNat (8*j)).toUInt8)]) J) ?_)));rintro _ w ⟨k,rfl,H⟩;refine AG Z (AO 1 H Z Z J Bf Z Z (H.rv 0 (·.rd U U O Z)) (by simp[u8,Value.oneCell']) U) ?_;rintro b w a;have a:Sep z (blk k [u8 ((AC xs>>>UInt32.ofNat (8*j)).toUInt8)] 5::grow 5 1 b ((xs.length+j)+1) ((xs++(Dp (AC xs)).take j).map u8++[u8 ((AC xs>>>UInt32.ofNat (8*j)).toUInt8)])::R) w:=a
  have e:((xs++(Dp (AC xs)).take j).map u8++[u8 ((AC xs>>>UInt32.ofNat (8*j)).toUInt8)]:List Value)=(xs++(Dp (AC xs)).take (j+1)).map u8:=(by rw[AbZ,UL U];simp);rw[e] at a;rw[show ((xs.length+j)+1:Nat)=(xs.length+(j+1)) from by omega] at a;have H:=a.l2;have f:=H.sy 1 (·.slc);refine Z1 9 [] [(j:Int)+1] Z U ?_;replace H:=H.d;refine gf ?_;intro _ i;refine ⟨⟨j+1,b⟩,i.cz,⟨H,?_⟩,?_⟩
  ·show j+1<=4;omega
  (dsimp only;omega)
 refine Zc 2 Z (gx (Zc 9 Z (Zr Z ?_)));obtain rfl:j=4:=by omega
 rw[AbJ (by simp[Dp]),show xs.length+4=(xs++Dp (AC xs)).length from by simp[Dp]] at H;exact ⟨_,⟨_,Z,Z⟩,H⟩
theorem GI(v:Value)(xs:List UInt8)(a:xs.length<=252):Aj 183 [v] [grow 5 1 v xs.length (xs.map u8)] (λv G=>∃b:Value,v=b/\G=[grow 5 1 b (sect xs).length ((sect xs).map u8)]):=by
 intro z R w H;refine Ac func183 Z ntmps183 Z (Zc 8 Z (AA Z (call141 _) (Ga _ xs 252 ⟨by first|omega|(simp only[AbH,AbI,AbO,AbQ,AbM,Ae,Al,Ao]<;>omega)|(simp[Ae,Al,Ao,Sup.list,sect_len]<;>omega)|simp[Ae,Al,Ao,Sup.list,sect_len],by omega⟩) H ?_));rintro e w _ ⟨_,rfl,rfl⟩ H;have c:=H.sy 0 (·.slc);refine Zc 7 Z (AA Z (call219 _) (R5 _ (xs++List.replicate (252-xs.length) (0:UInt8)) (by first|omega|(simp only[AbH,AbI,AbO,AbQ,AbM,Ae,Al,Ao]<;>omega)|(simp[Ae,Al,Ao,Sup.list,sect_len]<;>omega)|simp[Ae,Al,Ao,Sup.list,sect_len])) H ?_);rintro f w _ ⟨_,rfl,rfl⟩ H;have d:=H.sy 0 (·.slc);refine Zc 4 Z (Zr Z ?_);rw[RH a,Uc a] at H;exact ⟨_,⟨_,Z,Z⟩,H⟩
theorem Dj(x m:Int):Aj 156 [Aa x,Aa m] [] (λv G=>v=.bool (decide (0<=x/\x<=m))/\G=[]):=by
 intro z R w H;refine Ac func156 Z ntmps156 Z (Z0 10 [0] Z (Ak 7 Z (λa=>?_) (λa=>?_)))
 ·refine Z0 8 [0] Z (Zr Z ?_);exact ⟨_,⟨congrArg Value.bool (by rw[Ab0];simp<;>omega),Z⟩,H⟩
 refine Zc 8 Z (Zr Z ?_);exact ⟨_,⟨congrArg Value.bool (by rw[Ab0];simp<;>omega),Z⟩,H⟩
theorem Fy(t s:Value)(xs bs:List UInt8)(A B:Ah)(f:∀h,A h->rdH 1 t xs.length (xs.map u8) h)(e:∀h,B h->rdH 1 s bs.length (bs.map u8) h):Aj 140 [t,s] [A,B] (λv G=>v=.bool (decide (xs=bs))/\G=[A,B]):=by
 intro z R w H;obtain ⟨ao,oc,rfl⟩:=H.sy 0 (λq=>(f _ q).slc);have m:=H.sy 0 (λq=>(f _ q).small);obtain ⟨bo,bc,rfl⟩:=H.sy 1 (λq=>(e _ q).slc);have g:=H.sy 1 (λq=>(e _ q).small);refine Ac func140 Z ntmps140 Z (Z0 15 [0] Z (Ag Z (λh1=>?_) (λh1=>?_)))
 ·refine Zc 6 Z (Zr Z ?_);exact ⟨_,⟨congrArg Value.bool (by first|exact (decide_eq_true (Jw a U U)).symm|exact (decide_eq_false (λq=>by subst q;first|omega|simp_all)).symm),Z⟩,H⟩
 refine Zc 9 Z ?_;refine Ay (σ:=Nat) (λi=>[(5,Aa (i:Int)),(0,.slice ao xs.length oc),(1,.slice bo bs.length bc)])
   (λi w=>Sep z (A::B::R) w/\(i<=xs.length/\xs.take i=bs.take i)) (λi=>xs.length-i) 0
   fr_z ⟨H,⟨AbV _,Z⟩⟩ ?_
 clear H;rintro i w ⟨l,y⟩;have H:=l.l2;obtain ⟨hi,a⟩:=y;refine Z0 9 [0] Z (Ag Z (λx=>?_) (λx=>?_))
 ·obtain ⟨b,p⟩:∃b,xs[i]?=some b:=⟨_,AbF U⟩;obtain ⟨c,n⟩:∃c,bs[i]?=some c:=⟨_,AbF U⟩;refine Zc 5 Z ?_;have o:=(H.rd 0 Z f).at (j:=i) (u:=u8 b) (by simp[p])
  have d:=(H.rd 1 Z e).at (j:=i) (u:=u8 c) (by simp[n]);refine Bd (Sep z _) J J H.drew (Cm 2 [] Z J (Bn Z Z Z (Az Z (z:=1) (j:=i) (r:=i) J Z Z Z U o U) (Bn Z Z Z (AM Z Z J (λ_ hs=>(hs.rd 0 Z f).at (j:=i) (u:=u8 b) (by simp[p]))) (Cm 2 [] Z J (Bn Z Z Z (Az Z (z:=1) (j:=i) (r:=i) J Z Z Z U d U) (Bn Z Z Z (AM Z Z J (λ_ hs=>(hs.rd 1 Z e).at (j:=i) (u:=u8 c) (by simp[n]))) (Bn Z Z Z (YY (k:=.u8) Z J Z Z) (Bu (λw l=>?_)))))))));have H:=l.l2;refine gn (Zc 1 Z (Ag Z (λh3=>?_) (λh3=>?_)))
  ·refine Zc 6 Z (Zr Z ?_);exact ⟨_,⟨congrArg Value.bool (by first|exact (decide_eq_true (Jw a U U)).symm|exact (decide_eq_false (λq=>by subst q;first|omega|simp_all)).symm),Z⟩,H⟩
  refine Z1 8 [] [(i:Int)+1] Z U (gf ?_);intro _ hF;refine ⟨(i+1),hF.cz,⟨H,?_⟩,?_⟩
  ·exact ⟨by omega,by rw[AbZ,AbZ,a,p,n];simp_all⟩
  omega
 refine Zc 2 Z (gx (Zc 8 Z (Zr Z ?_)));exact ⟨_,⟨congrArg Value.bool (by first|exact (decide_eq_true (Jw a U U)).symm|exact (decide_eq_false (λq=>by subst q;first|omega|simp_all)).symm),Z⟩,H⟩
def Em(m:Img):List UInt8:=DF m.num.toNat (DB m)
theorem Z9{m:Img}(h:m.Ok):sect (([80,80,65,71]:List UInt8)++Af 1 m.kind++Af 4 m.num++List.replicate (12-(([80,80,65,71]:List UInt8)++Af 1 m.kind++Af 4 m.num).length) (0:UInt8)++m.body)=Em m:=by
 obtain ⟨c,a,b⟩:=h;unfold Em DF GU DB;congr 1;have e:((m.num.toNat:Nat):Int)=m.num:=by omega
 simp[Ae,e]
theorem P0(s:Sup):Aj 220 [.agg #[Aa s.gen,Aa s.epoch,Aa s.pages,Aa s.start,Aa s.len,Aa s.head,Aa s.seq]] [] (λv G=>∃a:Value,v=a/\G=[grow 3 1 a 7 (s.list.map Aa)]):=by
 intro z R w H;refine Ac func220 Z ntmps220 Z (Za 2 [] H Z ?_);intro c w H;refine Z2 19 [0,0,0,1,0,0,2,0,0,3,0,0,4,0,0,5,0,0,6,0,0] H Z (AG Z (AL H Z J BP Z (by decide) (by decide) (out:=[Aa s.gen,Aa s.epoch,Aa s.pages,Aa s.start,Aa s.len,Aa s.head,Aa s.seq]) J) ?_);rintro _ w ⟨b,rfl,H⟩;refine Zc 4 Z (Zr Z ?_);exact ⟨_,⟨_,Z,Z⟩,(H.pick 2 [0] Z).mono 0 Z (λh q=>q.grow U U O Z)⟩
theorem GO(s:Sup)(hs:∀x∈s.list,0<=x/\x<=1099511627776):Aj 184 [.agg #[Aa s.gen,Aa s.epoch,Aa s.pages,Aa s.start,Aa s.len,Aa s.head,Aa s.seq]] [] (λv G=>∃m:Value,v=.tuple #[m,Aa 0]/\G=[grow 5 1 m (BC s).length ((BC s).map u8)]):=by
 intro z R w H;refine Ac func184 Z ntmps184 Z (Za 2 [] H Z ?_);intro o w H;refine Zc 6 Z (AG Z (AL H Z J Bf Z (by decide) (by decide) (out:=[u8 80,u8 83,u8 85,u8 80]) J) ?_);rintro _ w ⟨c,rfl,H⟩;refine AG Z (MZ 0 H Z Z J J Z ⟨Z,by omega⟩) ?_;rintro _ w ⟨rfl,b⟩;have b:Sep z (Lt (.slice (some ⟨c,0,none⟩) 4 4) ([80,83,85,80]:List UInt8).length (([80,83,85,80]:List UInt8).map u8)::blk o [Aa s.gen,Aa s.epoch,Aa s.pages,Aa s.start,Aa s.len,Aa s.head,Aa s.seq] 92::R) w:=b;have H:=b.l2;refine Z2 6 [1,7] H Z (AA Z (call220 _) (P0 s) H ?_);rintro nv w _ ⟨_,rfl,rfl⟩ H;have g:=H.sy 0 (·.slc);obtain ⟨l,k,rfl⟩:=g;refine Zc 5 Z ?_;replace H:=(H.mono 1 (B:=bsA 5 (.slice (some ⟨c,0,none⟩) 4 4) ([80,83,85,80]:List UInt8)) Z (λh q=>.inl q)).l3;replace H:=(H.mono 1 (B:=pgA 5 (.slice (some ⟨c,0,none⟩) 4 4) (([80,83,85,80]:List UInt8)++(s.list.take 0).flatMap (Af 8)) 0) Z (λh q=>.inl ⟨Z,q⟩)).l3;refine Zc 5 Z ?_;refine Ay (σ:=Nat×Value) (λ⟨i,u⟩=>[(6,Aa (i:Int)),(4,u),(5,.slice l 7 k)])
   (λ⟨i,u⟩ w=>Sep z (grow 3 1 (.slice l 7 k) 7 (s.list.map Aa)::pgA 5 u (([80,83,85,80]:List UInt8)++(s.list.take i).flatMap (Af 8)) i::blk o [Aa s.gen,Aa s.epoch,Aa s.pages,Aa s.start,Aa s.len,Aa s.head,Aa s.seq] 92::R) w/\(i<=7)) (λ⟨i,u⟩=>7-i) ⟨0,.slice (some ⟨c,0,none⟩) 4 4⟩
   (λ_ d=>(d.co Z (by go_num) d.cz)) ⟨H,AbV _⟩ ?_
 clear H;rintro ⟨i,u⟩ w ⟨b,f⟩;dsimp only at f b ⊢;have H:=b.l3;have hi:=f;clear f;refine Z0 9 [0] Z (Ag Z (λh1=>?_) (λh1=>?_))
 ·refine Zc 6 Z ?_;obtain ⟨y,e⟩:∃y,s.list[i]?=some y:=⟨_,AbF (by show i<7;omega)⟩;have t:=hs y (AbG e)
  have a:=(H.rv 0 (·.rd)).at (j:=i) (u:=Aa y) (by rw[AbY,e];rfl);refine Zc 3 Z (Ad Z (Az Z (z:=1) (j:=i) (r:=i) J Z Z Z U a U) (Ad Z (AM Z Z J (AB a)) (Ai Z (call156 _) (Dj _ _) H ?_)));intro w H;refine Ad Z (AW Z Z) (Zc 2 Z (Ag Z (λp=>U) (λp=>?_)));refine Zc 2 Z ?_;have a:=(H.rv 0 (·.rd)).at (j:=i) (u:=Aa y) (by rw[AbY,e];rfl);refine Zc 4 Z (Ad Z (Az Z (z:=1) (j:=i) (r:=i) J Z Z Z U a U) (Ad Z (AM Z Z J (AB a)) ?_));replace H:=(H.mono 1 (B:=bsA 5 u (([80,83,85,80]:List UInt8)++(s.list.take i).flatMap (Af 8))) Z (λh q=>q.bs)).l3;refine AA Z (call157 _) (Cr _ (([80,83,85,80]:List UInt8)++(s.list.take i).flatMap (Af 8)) y 8 U (by first|omega|(simp only[AbH,AbI,AbO,AbQ,AbM,Ae,Al,Ao]<;>omega)|(simp[Ae,Al,Ao,Sup.list,sect_len]<;>omega)|simp[Ae,Al,Ao,Sup.list,sect_len])) H.f1 ?_;rintro n w _ ⟨_,rfl,rfl⟩ H;have a1:=H.sy 0 (·.slc);refine Zc 2 Z ?_;rw[show (([80,83,85,80]:List UInt8)++(s.list.take i).flatMap (Af 8)++Af 8 y)=([80,83,85,80]:List UInt8)++(s.list.take (i+1)).flatMap (Af 8) from (by rw[AbZ,e];simp)] at H;replace H:=(H.mono 0 (B:=pgA 5 n (([80,83,85,80]:List UInt8)++(s.list.take (i+1)).flatMap (Af 8)) (i+1)) Z (λh q=>.inr ⟨Nat.succ_pos _,q⟩)).l3;refine Z1 7 [] [(i:Int)+1] Z U ?_;replace H:=H.f2.f1.f2;refine gf ?_;intro _ d;refine ⟨⟨i+1,n⟩,d.cz,⟨H,?_⟩,?_⟩
  ·show i+1<=7;omega
  (dsimp only;omega)
 refine Zc 2 Z (gx (Zc 3 Z ?_));obtain rfl:i=7:=by omega
 replace H:=(H.mono 1 (B:=grow 5 1 u (([80,83,85,80]:List UInt8)++(s.list.take 7).flatMap (Af 8)).length ((([80,83,85,80]:List UInt8)++(s.list.take 7).flatMap (Af 8)).map u8)) Z (λh q=>q.gr U)).l3;rw[show ([80,83,85,80]:List UInt8)++(s.list.take 7).flatMap (Af 8)=Hy s from Z] at H;have su:=H.sy 1 (·.slc);refine Zc 2 Z (AA Z (call183 _) (GI _ (Hy s) (by first|omega|(simp only[AbH,AbI,AbO,AbQ,AbM,Ae,Al,Ao]<;>omega)|(simp[Ae,Al,Ao,Sup.list,sect_len]<;>omega)|simp[Ae,Al,Ao,Sup.list,sect_len])) H.f1 ?_);rintro u4 w _ ⟨_,rfl,rfl⟩ H;have a0:=H.sy 0 (·.slc);refine Zc 5 Z (Zr Z ?_);exact ⟨_,⟨_,Z,Z⟩,H.pick 3 [0] Z⟩
theorem N0(v:Value)(sec:List UInt8)(A:Ah)(d:∀h,A h->rdH 1 v sec.length (sec.map u8) h)(s:Sup)(hs:∀x∈s.list,0<=x/\x<=1099511627776)(a:sec=BC s):Aj 185 [v] [A] (λv G=>v=.tuple #[.agg #[Aa s.gen,Aa s.epoch,Aa s.pages,Aa s.start,Aa s.len,Aa s.head,Aa s.seq],.bool true]/\G=[A]):=by
 intro z R w H;have f:sec.length=256:=by rw[a];exact DL s
 obtain ⟨b,o,c,rfl⟩:=H.sy 0 (λq=>(d _ q).sl (by rw[AbN];omega));have e:=H.sy 0 (λq=>(d _ q).cap);refine Ac func185 Z ntmps185 Z (Za 2 [] H Z ?_);intro l w H;refine Zc 6 Z (Ai Z (call142 _) (Co _ sec _ d 4 8 (by first|omega|simp_all)) H.f1 ?_);intro w H;refine k_updA 8 (v:=Aa s.gen) Z (congrArg Aa (by rw[a];exact EX hs (k:=0) Z)) (Zc 1 Z (Ai Z (call142 _) (Co _ sec _ d 12 8 (by first|omega|simp_all)) H ?_));intro w H;refine k_updA 10 (v:=Aa s.epoch) Z (congrArg Aa (by rw[a];exact EX hs (k:=1) Z)) (Zc 1 Z (Ai Z (call142 _) (Co _ sec _ d 20 8 (by first|omega|simp_all)) H ?_));intro w H;refine k_updA 12 (v:=Aa s.pages) Z (congrArg Aa (by rw[a];exact EX hs (k:=2) Z)) (Zc 1 Z (Ai Z (call142 _) (Co _ sec _ d 28 8 (by first|omega|simp_all)) H ?_));intro w H;refine k_updA 14 (v:=Aa s.start) Z (congrArg Aa (by rw[a];exact EX hs (k:=3) Z)) (Zc 1 Z (Ai Z (call142 _) (Co _ sec _ d 36 8 (by first|omega|simp_all)) H ?_));intro w H;refine k_updA 16 (v:=Aa s.len) Z (congrArg Aa (by rw[a];exact EX hs (k:=4) Z)) (Zc 1 Z (Ai Z (call142 _) (Co _ sec _ d 44 8 (by first|omega|simp_all)) H ?_));intro w H;refine k_updA 18 (v:=Aa s.head) Z (congrArg Aa (by rw[a];exact EX hs (k:=5) Z)) (Zc 1 Z (Ai Z (call142 _) (Co _ sec _ d 52 8 (by first|omega|simp_all)) H ?_));intro w H;refine k_updA 20 (v:=Aa s.seq) Z (congrArg Aa (by rw[a];exact EX hs (k:=6) Z)) (Ad Z (AX Z Z (out:=[Aa s.gen,Aa s.epoch,Aa s.pages,Aa s.start,Aa s.len,Aa s.head,Aa s.seq]) J) (Za 0 [] H Z ?_));intro i w H;refine Z4 6 [0,0,7] H Z ?_;intro w H;refine AA Z (call184 _) (GO _ hs) H ?_;rintro _ w _ ⟨j,rfl,rfl⟩ H;have g:=H.sy 0 (·.slc);refine Z0 15 [4] Z (Ai Z (call140 _) (Fy _ _ (BC s) sec _ _ (λh q=>q.rd) d) H.f2.f1 ?_);intro w H;refine k_updA 32 (v:=.bool true) Z (congrArg Value.bool (decide_eq_true a.symm)) (Z4 15 [2,7,3] H Z ?_);intro w H;refine Zl [3,7] H Z ?_;exact ⟨_,⟨Z,Z⟩,H.pick 4 [1] Z⟩
theorem F3(m:Img)(k:m.Ok)(j:Value)(A:Ah)(l:∀h,A h->rdH 1 j 240 (m.body.map u8) h):Aj 143 [.agg #[Aa m.num,Aa m.kind,j]] [A] (λv G=>∃i:Value,v=.tuple #[i,Aa 0]/\G=[grow 5 1 i (Em m).length ((Em m).map u8),A]):=by
 intro z R w H;obtain ⟨c,d,rfl⟩:=H.sy 0 (λq=>(l _ q).slc);obtain ⟨n,a3,b⟩:=id k;refine Ac func143 Z ntmps143 Z (Za 2 [] H Z ?_);intro f w H;refine Z2 12 [1,1,0,0,0] H Z (Ak 9 Z (λu=>U) (λu=>?_));refine Z2 6 [1,1,0,0,0] H Z (Ak 15 Z (λo=>U) (λo=>?_));refine Z2 2 [0,0,0] H Z (Ai Z (call156 _) (Dj _ _) H ?_);intro w H;refine Ad Z (AW Z Z) (Zc 2 Z (Ak 21 Z (λs=>U) (λs=>?_)));refine Z2 12 [1,2,0,0,4] H Z (AK (Sep z (blk f [Aa m.num,Aa m.kind,.slice c 240 d] 118::R)) 10 Z J (A4 H λw a=>?_));have H:=a.l2;refine A6 [2,3,4,6,7] [1,1,0,0,0] J (λ_ y=>(AQ (y.blk 0 Z) AJ)) (by exact H.pick 2 [0] Z) Z J Z Z (An [0] J O (Ar (Ck Z Z Z Z (AL H Z J Bf Z (by decide) (by decide) (out:=[u8 80,u8 80,u8 65,u8 71]) J) ?_)));rintro _ w ⟨g,rfl,H⟩;refine Am (λ_=>(H.pick 3 [1] Z)) (An [1] J O (Ar (Ck Z Z Z Z (MZ 0 H Z Z J J Z ⟨Z,by omega⟩) ?_)));rintro _ w ⟨rfl,a⟩;have a:Sep z (Lt (.slice (some ⟨g,0,none⟩) 4 4) ([80,80,65,71]:List UInt8).length (([80,80,65,71]:List UInt8).map u8)::blk f [Aa m.num,Aa m.kind,.slice c 240 d] 118::A::R) w:=a;have H:=a.l3;refine Am (λ_=>(H.pick 3 [1] Z)) (An [5] J O (Ar ?_));replace H:=(H.mono 0 (B:=bsA 5 (.slice (some ⟨g,0,none⟩) 4 4) ([80,80,65,71]:List UInt8)) Z (λh q=>.inl q)).l3;refine Ba Z Z Z Z Z Z (λw=>call157 _ w) (Cr _ ([80,80,65,71]:List UInt8) m.kind 1 U (by first|omega|(simp only[AbH,AbI,AbO,AbQ,AbM,Ae,Al,Ao]<;>omega)|(simp[Ae,Al,Ao,Sup.list,sect_len]<;>omega)|simp[Ae,Al,Ao,Sup.list,sect_len])) H Z ?_;rintro t w _ ⟨_,rfl,rfl⟩ H;have x:=H.sy 0 (·.slc);refine Am (λ_=>(H.pick 3 [1] Z)) (An [8] J O (Ar ?_));replace H:=(H.mono 0 (B:=bsA 5 t (([80,80,65,71]:List UInt8)++Af 1 m.kind)) Z (λh q=>.inr q)).l3;refine Ba Z Z Z Z Z Z (λw=>call157 _ w) (Cr _ (([80,80,65,71]:List UInt8)++Af 1 m.kind) m.num 4 U (by first|omega|(simp only[AbH,AbI,AbO,AbQ,AbM,Ae,Al,Ao]<;>omega)|(simp[Ae,Al,Ao,Sup.list,sect_len]<;>omega)|simp[Ae,Al,Ao,Sup.list,sect_len])) H Z ?_;rintro u4 w _ ⟨_,rfl,rfl⟩ H;have r:=H.sy 0 (·.slc);refine Am (λ_=>(H.pick 3 [1] Z)) (An [9] J O (Ar (B5 Z Z Z Z (AS Z Z) (Am (λh=>absurd Z h) (AT J (gn (Zc 4 Z (AA Z (call141 _) (Ga _ ((([80,80,65,71]:List UInt8)++Af 1 m.kind)++Af 4 m.num) 12 ⟨by first|omega|(simp only[AbH,AbI,AbO,AbQ,AbM,Ae,Al,Ao]<;>omega)|(simp[Ae,Al,Ao,Sup.list,sect_len]<;>omega)|simp[Ae,Al,Ao,Sup.list,sect_len],by omega⟩) H ?_))))))));rintro u5 w _ ⟨_,rfl,rfl⟩ H;have a1:=H.sy 0 (·.slc);refine Z2 9 [1,2,1,0] H Z (AG Z (AO 0 H Z Z J Bf Z Z (H.rd 2 Z l) (by simp[u8,Value.oneCell']) (by simp[Ae])) ?_);rintro p w a;have a:Sep z (grow 5 1 p ((((([80,80,65,71]:List UInt8)++Af 1 m.kind)++Af 4 m.num)++List.replicate (12-((([80,80,65,71]:List UInt8)++Af 1 m.kind)++Af 4 m.num).length) (0:UInt8)).length+240) ((((([80,80,65,71]:List UInt8)++Af 1 m.kind)++Af 4 m.num)++List.replicate (12-((([80,80,65,71]:List UInt8)++Af 1 m.kind)++Af 4 m.num).length) (0:UInt8)).map u8++m.body.map u8)::blk f [Aa m.num,Aa m.kind,.slice c 240 d] 118::A::R) w:=a;have e:((((([80,80,65,71]:List UInt8)++Af 1 m.kind)++Af 4 m.num)++List.replicate (12-((([80,80,65,71]:List UInt8)++Af 1 m.kind)++Af 4 m.num).length) (0:UInt8)).map u8++m.body.map u8:List Value)=(([80,80,65,71]:List UInt8)++Af 1 m.kind++Af 4 m.num++List.replicate (12-(([80,80,65,71]:List UInt8)++Af 1 m.kind++Af 4 m.num).length) (0:UInt8)++m.body).map u8:=O;rw[e] at a;rw[show ((((([80,80,65,71]:List UInt8)++Af 1 m.kind)++Af 4 m.num)++List.replicate (12-((([80,80,65,71]:List UInt8)++Af 1 m.kind)++Af 4 m.num).length) (0:UInt8)).length+240:Nat)=(([80,80,65,71]:List UInt8)++Af 1 m.kind++Af 4 m.num++List.replicate (12-(([80,80,65,71]:List UInt8)++Af 1 m.kind++Af 4 m.num).length) (0:UInt8)++m.body).length from (by simp[Ae,b])] at a;have H:=a.l3;have a0:=H.sy 0 (·.slc);refine Zc 6 Z (AA Z (call183 _) (GI _ (([80,80,65,71]:List UInt8)++Af 1 m.kind++Af 4 m.num++List.replicate (12-(([80,80,65,71]:List UInt8)++Af 1 m.kind++Af 4 m.num).length) (0:UInt8)++m.body) (by first|omega|(simp only[AbH,AbI,AbO,AbQ,AbM,Ae,Al,Ao]<;>omega)|(simp[Ae,Al,Ao,Sup.list,sect_len]<;>omega)|simp[Ae,Al,Ao,Sup.list,sect_len])) H ?_);rintro u7 w _ ⟨_,rfl,rfl⟩ H;have a2:=H.sy 0 (·.slc);refine Zc 5 Z (Zr Z ?_);rw[Z9 k] at H;exact ⟨_,⟨_,Z,Z⟩,H.pick 3 [0,2] Z⟩
theorem N1(v:Value)(sec:List UInt8)(A:Ah)(a:∀h,A h->rdH 1 v sec.length (sec.map u8) h)(p:Int)(d:sec=List.replicate 256 0):Aj 85 [v,Aa p] [A] (λv G=>v=.tuple #[.agg #[Aa 0,.slice none 0 0],.bool true]/\G=[A]):=by
 intro z R w H;have f:sec.length=256:=by rw[d];simp
 obtain ⟨b,o,c,rfl⟩:=H.sy 0 (λq=>(a _ q).sl (by rw[AbN];omega));have e:=H.sy 0 (λq=>(a _ q).cap);refine Ac func85 Z ntmps85 Z (Za 2 [] H Z ?_);intro j w H;refine Zc 7 Z ?_;replace H:=(H.nilg 5 1).l3;refine AA Z (call141 _) (Ga _ ([]:List UInt8) 256 ⟨by first|omega|(simp only[AbH,AbI,AbO,AbQ,AbM,Ae,Al,Ao]<;>omega)|(simp[Ae,Al,Ao,Sup.list,sect_len]<;>omega)|simp[Ae,Al,Ao,Sup.list,sect_len],by omega⟩) H ?_;rintro i w _ ⟨_,rfl,rfl⟩ H;have g:=H.sy 0 (·.slc);refine Ai Z (call140 _) (Fy _ _ sec (([]:List UInt8)++List.replicate (256-([]:List UInt8).length) (0:UInt8)) _ _ a (λh q=>q.rd)) H.f2 ?_;intro w H;refine k_updA 11 (v:=.bool true) Z (congrArg Value.bool (decide_eq_true (by rw[d];rfl))) (Z4 11 [2] H Z ?_);intro w H;refine Zl [2,2] H Z ?_;exact ⟨_,⟨Z,Z⟩,H.pick 3 [0] Z⟩
theorem P1(v:Value)(sec:List UInt8)(A:Ah)(g:∀h,A h->rdH 1 v sec.length (sec.map u8) h)(m:Img)(i:m.Ok)(a:sec=Em m):Aj 85 [v,Aa m.num] [A] (λv G=>∃r:Value,v=.tuple #[.agg #[Aa m.kind,r],.bool true]/\G=[grow 5 1 r 240 (m.body.map u8),A]):=by
 intro z R w H;replace H:=H.l1;have t:sec.length=256:=by rw[a];exact DA (Fs i)
 have f:(sec.drop 12).take 240=m.body:=by rw[a];exact OB (Fs i)
 obtain ⟨b,o,c,rfl⟩:=H.sy 0 (λq=>(g _ q).sl (by rw[AbN];omega));have s:=H.sy 0 (λq=>(g _ q).cap);refine Ac func85 Z ntmps85 Z (Za 2 [] H Z ?_);intro b1 w H;refine Zc 7 Z ?_;replace H:=(H.nilg 5 1).l3;refine AA Z (call141 _) (Ga _ ([]:List UInt8) 256 ⟨by first|omega|(simp only[AbH,AbI,AbO,AbQ,AbM,Ae,Al,Ao]<;>omega)|(simp[Ae,Al,Ao,Sup.list,sect_len]<;>omega)|simp[Ae,Al,Ao,Sup.list,sect_len],by omega⟩) H ?_;rintro u2 w _ ⟨_,rfl,rfl⟩ H;replace H:=H.l3;have u:=H.sy 0 (·.slc);refine Ai Z (call140 _) (Fy _ _ sec (([]:List UInt8)++List.replicate (256-([]:List UInt8).length) (0:UInt8)) _ _ g (λh q=>q.rd)) H.f2 ?_;intro w H;replace H:=H.l3;refine k_updA 11 (v:=.bool false) Z (congrArg Value.bool (decide_eq_false (by rw[a];exact λe=>IZ (Fs i) (e.trans Z)))) (Z0 13 [0] Z (Ag Z (λy=>U) (λy=>?_)));refine Zc 6 Z (Ai Z (call142 _) (Co _ sec _ g 4 1 (by first|omega|simp_all)) H ?_);intro w H;replace H:=H.l3;refine k_updA 19 (v:=Aa m.kind) Z (congrArg Aa (by rw[a];exact OA (Fs i))) (Za 2 [] H Z ?_);intro x w H;refine Z4 4 [0] H Z ?_;intro w H;refine AK (Sep z (blk x [Aa m.num,Aa m.kind,.slice none 0 0] 118::A::R)) 9 Z J (A4 H λw j=>?_);have H:=j.l4;refine A6 [0,1,2,3] [1,2,0] J (λ_ hx=>(AQ (hx.blk 0 Z) AJ)) (by exact H.pick 4 [0,1] Z) Z J Z Z (AR 4 J Z Z J J J Z Z Z (Bj Z (z:=1) (p:=12) (q:=252) (o':=o+12) (l':=240) (c':=c-12) J Z (.inr ⟨_,_,_,Z,Z,Z⟩) (.inr ⟨_,_,_,Z,Z,Z⟩) U U U U U U) (H.pick 4 [0,1] Z) (An [5] J O (Ar ?_)));replace H:=(H.nilg 5 1).l5;refine Ck Z Z Z Z (AO 0 H Z Z J Bf Z Z (H.rv 2 (λq=>(g _ q).cut (lo:=12) (m:=240) U U U)) (by intro c9 k;obtain ⟨b9,_,rfl⟩:=AbP.1 k;rfl) U) ?_;rintro n w j;have l:([]++((sec.drop 12).take 240).map u8:List Value)=m.body.map u8:=(by rw[Ab3,f]);rw[l] at j;have H:=j.l5;have d:=H.sy 0 (·.slc);refine Am (λ_=>(H.pick 5 [1,2] Z)) (A6 [6,7] [1,2] J (λ_ _=>AJ) (by exact H.pick 5 [1,2] Z) Z J Z Z (An [8] J O (Ar (B6 Z Z Z (Kp 1 H Z Z Z Z d.cells d.one J) ?_))));rintro w H;replace H:=H.l5;refine Am (λh=>absurd Z h) (AT J (gn (Z2 4 [1,3] H Z (AA Z (call143 _) (F3 m i _ _ (λh q=>q.rd)) H ?_))));rintro _ w _ ⟨u5,rfl,rfl⟩ H;replace H:=H.l6;have a0:=H.sy 0 (·.slc);refine Z0 15 [4] Z (Ai Z (call140 _) (Fy _ _ (Em m) sec _ _ (λh q=>q.rd) g) H.f3.f1 ?_);intro w H;replace H:=H.l6;refine k_updA 40 (v:=.bool true) Z (congrArg Value.bool (decide_eq_true a.symm)) (Z2 11 [1,3,2] H Z (A9 Z Z (AD 5 H Z Z Z Z (vs:=[Aa m.kind,n]) Z (Aq Z (Aq d.one AN)) J O (out:=[Aa m.kind,n]) Z) ?_));rintro w H;replace H:=H.l6;refine Zc 4 Z (Zl [5,2] H Z ?_);exact ⟨_,⟨_,Z,Z⟩,H.pick 6 [2,1] Z⟩
theorem I3(e q:Int)(he:0<=e/\e<4294967296)(hq:0<=q/\q<1099511627776)(m:Img)(g:m.Ok)(k:Value)(A:Ah)(f:∀h,A h->rdH 1 k 240 (m.body.map u8) h):Aj 224 [Aa e,Aa q,.agg #[Aa m.num,Aa m.kind,k]] [A] (λv G=>∃j:Value,v=.tuple #[j,Aa 0]/\G=[grow 5 1 j (sect (Bk e q m)).length ((sect (Bk e q m)).map u8),A]):=by
 intro z R w H;obtain ⟨i,l,rfl⟩:=H.sy 0 (λq=>(f _ q).slc);obtain ⟨o,a0,c⟩:=id g;refine Ac func224 Z ntmps224 Z (Za 2 [] H Z ?_);intro n w H;refine Z2 7 [0,3] H Z (AA Z (call143 _) (F3 m g _ _ f) H.f1 ?_);rintro _ w _ ⟨u2,rfl,rfl⟩ H;have t:=H.sy 0 (·.slc);refine Z0 14 [4] Z (Ai Z (call156 _) (Dj _ _) H ?_);intro w H;refine Ad Z (AW Z Z) (Zc 2 Z (Ak 23 Z (λh1=>U) (λh1=>?_)));refine Zc 1 Z (Ai Z (call156 _) (Dj _ _) H ?_);intro w H;refine Ad Z (AW Z Z) (Zc 3 Z (Ag Z (λp=>U) (λp=>?_)));refine Zc 3 Z ?_;replace H:=H.f2;refine AK (Sep z (blk n [Aa m.num,Aa m.kind,.slice i 240 l] 118::R)) 8 Z J (A4 H λw a=>?_);have H:=a.l3;refine A6 [0,1,2,4,5] [1,1,0,0,0] J (λ_ hx=>(AQ (hx.blk 0 Z) AJ)) (by exact H.pick 3 [0] Z) Z J Z Z (An [3] J O (Ar ?_));replace H:=(H.nilg 5 1).l4;replace H:=(H.mono 0 (B:=bsA 5 (.slice none 0 0) ([]:List UInt8)) Z (λh q=>.inr q)).l4;refine Ba Z Z Z Z Z Z (λw=>call157 _ w) (Cr _ ([]:List UInt8) m.kind 1 U (by first|omega|(simp only[AbH,AbI,AbO,AbQ,AbM,Ae,Al,Ao]<;>omega)|(simp[Ae,Al,Ao,Sup.list,sect_len]<;>omega)|simp[Ae,Al,Ao,Sup.list,sect_len])) H Z ?_;rintro u3 w _ ⟨_,rfl,rfl⟩ H;have u:=H.sy 0 (·.slc);refine Am (λ_=>(H.pick 4 [1] Z)) (An [6] J O (Ar ?_));replace H:=(H.mono 0 (B:=bsA 5 u3 (([]:List UInt8)++Af 1 m.kind)) Z (λh q=>.inr q)).l4;refine Ba Z Z Z Z Z Z (λw=>call157 _ w) (Cr _ (([]:List UInt8)++Af 1 m.kind) m.num 2 U (by first|omega|(simp only[AbH,AbI,AbO,AbQ,AbM,Ae,Al,Ao]<;>omega)|(simp[Ae,Al,Ao,Sup.list,sect_len]<;>omega)|simp[Ae,Al,Ao,Sup.list,sect_len])) H Z ?_;rintro u4 w _ ⟨_,rfl,rfl⟩ H;have a2:=H.sy 0 (·.slc);refine Am (λ_=>(H.pick 4 [1] Z)) (An [7] J O (Ar (B5 Z Z Z Z (AS Z Z) (Am (λh=>absurd Z h) (AT J (gn (Zc 5 Z ?_)))))));replace H:=(H.mono 0 (B:=bsA 5 u4 ((([]:List UInt8)++Af 1 m.kind)++Af 2 m.num)) Z (λh q=>.inr q)).l4;refine AA Z (call157 _) (Cr _ ((([]:List UInt8)++Af 1 m.kind)++Af 2 m.num) e 4 U (by first|omega|(simp only[AbH,AbI,AbO,AbQ,AbM,Ae,Al,Ao]<;>omega)|(simp[Ae,Al,Ao,Sup.list,sect_len]<;>omega)|simp[Ae,Al,Ao,Sup.list,sect_len])) H ?_;rintro s w _ ⟨_,rfl,rfl⟩ H;have a3:=H.sy 0 (·.slc);refine Zc 1 Z ?_;replace H:=(H.mono 0 (B:=bsA 5 s (((([]:List UInt8)++Af 1 m.kind)++Af 2 m.num)++Af 4 e)) Z (λh q=>.inr q)).l4;refine AA Z (call157 _) (Cr _ (((([]:List UInt8)++Af 1 m.kind)++Af 2 m.num)++Af 4 e) q 5 U (by first|omega|(simp only[AbH,AbI,AbO,AbQ,AbM,Ae,Al,Ao]<;>omega)|(simp[Ae,Al,Ao,Sup.list,sect_len]<;>omega)|simp[Ae,Al,Ao,Sup.list,sect_len])) H ?_;rintro u6 w _ ⟨_,rfl,rfl⟩ H;have a1:=H.sy 0 (·.slc);refine Z2 9 [1,2,1,0] H Z (AG Z (AO 0 H Z Z J Bf Z Z (H.rd 3 Z f) (by intro c9 d;obtain ⟨b9,_,rfl⟩:=AbP.1 d;rfl) (by simp[Ae])) ?_);rintro y w a;have a:Sep z (grow 5 1 y (((((([]:List UInt8)++Af 1 m.kind)++Af 2 m.num)++Af 4 e)++Af 5 q).length+240) (((((([]:List UInt8)++Af 1 m.kind)++Af 2 m.num)++Af 4 e)++Af 5 q).map u8++m.body.map u8)::blk n [Aa m.num,Aa m.kind,.slice i 240 l] 118::grow 5 1 u2 ((Em m).length) ((Em m).map u8)::A::R) w:=a;have b:(((((([]:List UInt8)++Af 1 m.kind)++Af 2 m.num)++Af 4 e)++Af 5 q).map u8++m.body.map u8:List Value)=(([]:List UInt8)++Af 1 m.kind++Af 2 m.num++Af 4 e++Af 5 q++m.body).map u8:=O;rw[b] at a;rw[show (((((([]:List UInt8)++Af 1 m.kind)++Af 2 m.num)++Af 4 e)++Af 5 q).length+240:Nat)=(([]:List UInt8)++Af 1 m.kind++Af 2 m.num++Af 4 e++Af 5 q++m.body).length from (by simp[Ae,c])] at a;have H:=a.l4;have r:=H.sy 0 (·.slc);refine Zc 6 Z (AA Z (call183 _) (GI _ (([]:List UInt8)++Af 1 m.kind++Af 2 m.num++Af 4 e++Af 5 q++m.body) (by first|omega|(simp only[AbH,AbI,AbO,AbQ,AbM,Ae,Al,Ao]<;>omega)|(simp[Ae,Al,Ao,Sup.list,sect_len]<;>omega)|simp[Ae,Al,Ao,Sup.list,sect_len])) H ?_);rintro u8 w _ ⟨_,rfl,rfl⟩ H;have x:=H.sy 0 (·.slc);refine Zc 5 Z (Zr Z ?_);exact ⟨_,⟨_,Z,Z⟩,H.pick 4 [0,3] Z⟩
theorem N2(v:Value)(sec:List UInt8)(A:Ah)(f:∀h,A h->rdH 1 v sec.length (sec.map u8) h)(e q:Int)(he:0<=e/\e<4294967296)(hq:0<=q/\q<1099511627776)(m:Img)(l:m.Ok)(a:sec=sect (Bk e q m)):Aj 223 [v] [A] (λv G=>∃u:Value,v=.tuple #[Aa e,Aa q,.agg #[Aa m.num,Aa m.kind,u],.bool true]/\G=[grow 5 1 u 240 (m.body.map u8),A]):=by
 intro z R w H;replace H:=H.l1;have y:sec.length=256:=by rw[a];exact sect_len (AcO (C4 l.2.2))
 have d:=JY l he hq;have i:(sec.drop 12).take 240=m.body:=by rw[a];exact congrArg Img.body d.2.2.2
 obtain ⟨b,o,c,rfl⟩:=H.sy 0 (λq=>(f _ q).sl (by rw[AbN];omega));have x:=H.sy 0 (λq=>(f _ q).cap);refine Ac func223 Z ntmps223 Z (Za 4 [] H Z ?_);intro b1 w H;refine Z0 11 [0] Z (Ag Z (λh1=>U) (λh1=>?_));refine Zc 5 Z (Ai Z (call142 _) (Co _ sec _ f 1 2 (by first|omega|simp_all)) H.f1 ?_);intro w H;replace H:=H.l2;refine k_updA 16 (v:=Aa m.num) Z (congrArg Aa (by rw[a];exact congrArg Img.num d.2.2.2)) (Zc 1 Z (Ai Z (call142 _) (Co _ sec _ f 0 1 (by first|omega|simp_all)) H ?_));intro w H;replace H:=H.l2;refine k_updA 18 (v:=Aa m.kind) Z (congrArg Aa (by rw[a];exact congrArg Img.kind d.2.2.2)) (Za 2 [] H Z ?_);intro t w H;refine Z4 4 [0] H Z ?_;intro w H;refine AK (Sep z (blk t [Aa m.num,Aa m.kind,.slice none 0 0] 118::A::R)) 9 Z J (A4 H λw j=>?_);have H:=j.l3;refine A6 [0,1,2,3] [1,2,0] J (λ_ r=>(AQ (r.blk 0 Z) AJ)) (by exact H.pick 3 [0,1] Z) Z J Z Z (AR 4 J Z Z J J J Z Z Z (Bj Z (z:=1) (p:=12) (q:=252) (o':=o+12) (l':=240) (c':=c-12) J Z (.inr ⟨_,_,_,Z,Z,Z⟩) (.inr ⟨_,_,_,Z,Z,Z⟩) U U U U U U) (H.pick 3 [0,1] Z) (An [5] J O (Ar ?_)));replace H:=(H.nilg 5 1).l4;refine Ck Z Z Z Z (AO 0 H Z Z J Bf Z Z (H.rv 2 (λq=>(f _ q).cut (lo:=12) (m:=240) U U U)) (by intro c9 n;obtain ⟨b9,_,rfl⟩:=AbP.1 n;rfl) U) ?_;rintro k w j;have s:([]++((sec.drop 12).take 240).map u8:List Value)=m.body.map u8:=(by rw[Ab3,i]);rw[s] at j;have H:=j.l4;have g:=H.sy 0 (·.slc);refine Am (λ_=>(H.pick 4 [1,2] Z)) (A6 [6,7] [1,2] J (λ_ _=>AJ) (by exact H.pick 4 [1,2] Z) Z J Z Z (An [8] J O (Ar (B6 Z Z Z (Kp 1 H Z Z Z Z g.cells g.one J) ?_))));rintro w H;replace H:=H.l4;refine Am (λh=>absurd Z h) (AT J (gn (Zc 4 Z (Ai Z (call142 _) (Co _ sec _ f 3 4 (by first|omega|simp_all)) H.f2 ?_))));intro w H;replace H:=H.l4;refine k_updA 30 (v:=Aa e) Z (congrArg Aa (by rw[a];exact d.2.1)) (Zc 6 Z (Ai Z (call142 _) (Co _ sec _ f 7 5 (by first|omega|simp_all)) H ?_));intro w H;replace H:=H.l4;refine k_updA 32 (v:=Aa q) Z (congrArg Aa (by rw[a];exact d.2.2.1)) (Z2 8 [2,3] H Z (AA Z (call224 _) (I3 e q U U m l _ _ (λh q=>q.rd)) H.f1 ?_));rintro _ w _ ⟨u4,rfl,rfl⟩ H;replace H:=H.l5;have a0:=H.sy 0 (·.slc);refine Z0 15 [4] Z (Ai Z (call140 _) (Fy _ _ (sect (Bk e q m)) sec _ _ (λh q=>q.rd) f) H.f2.f1 ?_);intro w H;replace H:=H.l5;refine k_updA 45 (v:=.bool true) Z (congrArg Value.bool (decide_eq_true a.symm)) (Zc 8 Z ?_);replace H:=H.f3;refine AK (Sep z (blk t [Aa m.num,Aa m.kind,k] 118::R)) 7 Z J (A4 H λw j=>?_);have H:=j.l5;refine A6 [0,1] [] J (λ_ _=>AJ) (by exact H.pick 5 [0] Z) Z J Z Z (AR 2 J Z Z J J J Z Z Z (Bt Z Z (vs:=[Aa m.num,Aa m.kind,k]) J (λ_ r=>(r.blk 0 Z).part 0 3 _ Z)) (H.pick 5 [0] Z) (A6 [3,4] [] J (λ_ _=>AJ) (by exact H.pick 5 [0] Z) Z J Z Z (An [5] J O (Ar (B6 Z Z Z (AD 4 H Z Z Z Z (vs:=[Aa m.num,Aa m.kind,k]) Z (Aq Z (Aq Z (Aq g.one AN))) J O (out:=[Aa m.num,Aa m.kind,k]) Z) ?_)))));rintro w H;replace H:=H.l5;refine Am (λ_=>(H.pick 5 [0] Z)) (An [6] J O (Ar (B5 Z Z Z Z (AS Z Z) (Am (λh=>absurd Z h) (AT J (gn (Zc 2 Z (Zl [4,3] H Z ?_))))))));exact ⟨_,⟨_,Z,Z⟩,H.pick 5 [3,2] Z⟩
end Go.Proofs.YthbbejpbkglmlaaGreatDoor
