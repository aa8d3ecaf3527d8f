/-
  VolumesRefused No condition.
-/
import Derived.Test.YtkblhjdljaoghaaGreatDoorSome5
set_option maxRecDepth 100000
set_option linter.unusedSimpArgs false
set_option linter.unusedVariables false
open Go.Proofs.Tryz
namespace Go.Proofs.YtkblhjdljaoghaaGreatDoor
open Go.RowKit
variable{n m i j e g r:Nat}{t s p q:Int}{V:List Value}{B S:List UInt8}{T:TypeId}{L:List (Nat×Value)}{v u y:Value}{z:World}{l:List Int}{R:List Nat}{N:Act->World->Prop}{b c:Bool}{x:Operand}{o:List Oper}{K:Value->World->Prop}{C:Nat->Nat}{P:Program}{F:Nat->Bool}{a:Act}
variable{Γ:List Ai}{h:Hp}{A:Ai}
variable{D:Dsk}
variable{X:List E}
variable{W:List Wv}
section
variable{n:Nat}{o:TB}{nx:Int}{P:List Pl}{W W2:List Wv}{A A2:Ai}
theorem VRel.core{N:Hm}(h:VRel N P W)(d:W2.map Wv.core=W.map Wv.core):VRel N P W2:=by
 refine ⟨d▸h.p,?_⟩;have c:(W.map Wv.core).Pairwise λa b=>a.1<b.1:=by rw[AfM];exact h.s
 rw[<-d,AfM] at c;exact c
theorem LvI.copy(h:LvI n o nx P W A)(b:W2.map Wv.core=W.map Wv.core)(a:∀x∈W2,InB A2 x.u x.V):LvI n o nx P W2 A2:=⟨h.inv,h.rel.core b,h.nxe,a,h.d,h.k⟩
theorem LvI.free(h:LvI n o nx P W A)(hi:(P.map Prod.fst)[i]?=some v0):P[i]?=some pl0:=by
 rw[Aer] at hi
 cases e:P[i]? with
 | none=>rw[e] at hi;cases hi
 | some p=>
  rw[e] at hi;have hp:p.1=v0:=by simpa using hi
  rcases h.inv.all p (Aeg e) with rfl|q
  ·rfl
  have:=q.id;rw[hp] at this;have:(1:Int)<=0:=this.1;omega
theorem LvI.pl_at(_:LvI n o nx P W A){e:Vl}(hi:(P.map Prod.fst)[i]?=some e):∃L,P[i]?=some (e,L):=by
 rw[Aer] at hi
 cases q:P[i]? with
 | none=>rw[q] at hi;cases hi
 | some p=>rw[q] at hi;obtain ⟨a,b⟩:=p;simp only[AeV,Aeo] at hi;exact ⟨b,by rw[<-hi]⟩
theorem LvI.full(h:LvI n o nx P W A)(b:∀e∈P.map Prod.fst,e≠v0):∀e∈P.map Prod.fst,e.st≠0:=λe a=>by
 obtain ⟨p,hp,rfl⟩:=Aen.1 a;rcases h.inv.all p hp with rfl|q
 ·exact absurd Z (b _ a)
 have:=q.st;omega
theorem LvI.less(h:LvI n o nx P W A)(hi:P[i]?=some pl0):W.length<8:=by
 have a:=h.rel.p.length_eq;simp only[DA,Aei] at a;have b:(P.filter Dz).length<P.length:=by
  refine Nat.lt_of_le_of_ne (AfW _ _) λq=>?_;have:=(List.length_filter_eq_length_iff.1 q) pl0 (Aeg hi);simp[Dz,pl0,v0] at this
 have:=h.inv.len;omega
theorem LvI.fresh(h:LvI n o nx P W A):∀q∈P,q.1.id≠nx:=λq hq=>by
 rcases h.inv.all q hq with rfl|p
 ·have:=h.inv.nb;show (0:Int)≠nx;omega
 have:=p.id;omega
theorem LvI.ltn(h:LvI n o nx P W A):∀x∈W,x.id<nx:=λx a=>(h.w a).2.2.2.2.2
theorem LvI.rfree(h:LvI n o nx P W A)(hi:P[i]?=some pl0):o.R.Perm (C3 (P.eraseIdx i)):=by
 have:=h.inv.r.trans (Jc hi);exact this
theorem LvI.new(h:LvI n o nx P W A){i:Nat}(hi:P[i]?=some pl0){e:Vl}{L:List E}(a:e.id=nx)(b:e.st=1)(hp:PlOk o.N (nx+1) (e,L)){C2:Nat->Nat}{u:Value}{V:List Bk}(j:V=A7 o.N L)(k:Ink A A2)(g:InB A2 u V)(K:TrK n ⟨o.N,C2,Ba e.r.toNat++o.R⟩ none):LvI n ⟨o.N,C2,Ba e.r.toNat++o.R⟩ (nx+1) (P.set i (e,L)) (W++[⟨nx,e.sz,e.q,u,V⟩]) A2:=by
 have l:=h.nx9;refine ⟨h.inv.upd hi ⟨by omega,by omega⟩ (λc _ M q=>q) hp (.inr λq hq=>by show q.1.id≠e.id;rw[a];exact h.fresh q hq) ((h.rfree hi).append_left _),h.rel.new hi (show (0:Int)≠1 by omega) b ?_ (λx f=>h.ltn x f) (λ_ _ _=>rfl),?_,λx f=>?_,h.d,K⟩
 ·simp only[Wv.core,CI,a,j]
 ·have:=Pm (p2:=(e,L)) hi (show e.st≠0 by omega)
  have m:=h.nxe;have:(if pl0.1.st=0 then (1:Int) else 0)=1:=if_pos Z;omega
 rcases Aes.1 f with q|q
 ·exact k _ _ (h.bag x q)
 simp at q;subst q;exact g
theorem LvI.create(h:LvI n o nx P W A)(hi:(P.map Prod.fst)[i]?=some v0)(hs:1<=t/\t<=1048576)(hq:0<=s/\s<=1048576){C2:Nat->Nat}(a:Ink A A2)(b:InB A2 u [])(K:TrK n ⟨o.N,C2,o.R⟩ none):
  LvI n ⟨o.N,C2,o.R⟩ (nx+1) (P.set i (⟨nx,1,t,s,0,0⟩,[])) (W++[⟨nx,t,s,u,[]⟩]) A2:=by
 have c:=h.nx9;exact h.new (h.free hi) (e:=⟨nx,1,t,s,0,0⟩) (L:=[]) Z Z ⟨⟨by show 1<=nx;omega,by show nx<nx+1;omega⟩,.inl Z,hs,hq,⟨by show (0:Int)<=0;omega,by show (0:Int)<=1023;omega⟩,.inl ⟨Z,Z⟩,by simp[vals],Z,λ_ q=>by cases q⟩ Z a b K
theorem LvI.snap(h:LvI n o nx P W A){k:Nat}(hi:(P.map Prod.fst)[i]?=some v0){e:Vl}{L:List E}(b:P[j]?=some (e,L))(hs:e.st=1){x:Wv}(d:W[k]?=some x)(a:x.id=e.id){C2:Nat->Nat}(l:Ink A A2)(c:InB A2 u x.V)(K:TrK n ⟨o.N,C2,Ba e.r.toNat++o.R⟩ none):
  LvI n ⟨o.N,C2,Ba e.r.toNat++o.R⟩ (nx+1) (P.set i ({e with id:=nx,st:=1},L)) (W++[⟨nx,x.sz,x.q,u,x.V⟩]) A2:=by
 have p:=h.nx9;have q:=h.ok b hs;obtain ⟨m,f,g⟩:=h.both b hs d a;have:=h.new (h.free hi) (e:= {e with id:=nx,st:=1}) (L:=L) (C2:=C2) (u:=u) (V:=x.V) Z Z ⟨⟨by show 1<=nx;omega,by show nx<nx+1;omega⟩,.inl Z,q.sz,q.q,q.r,q.root,q.nd,q.mp,q.key⟩ g l c K;rw[m,f];exact this
theorem LvI.del(h:LvI n o nx P W A){i j:Nat}{e:Vl}{L:List E}(hi:P[i]?=some (e,L))(hs:e.st=1){x:Wv}(b:W[j]?=some x)(a:x.id=e.id){C2:Nat->Nat}(K:TrK n ⟨o.N,C2,o.R⟩ none):
  LvI n ⟨o.N,C2,o.R⟩ nx (P.set i ({e with st:=2},L)) (W.take j++W.drop (j+1)) A:=by
 have q:=h.ok hi hs;have hq:=q.id;dsimp only at hq;refine ⟨h.inv.upd hi ⟨Afo _,h.inv.nb.2⟩ (λc _ M q=>q) ⟨q.id,.inr Z,q.sz,q.q,q.r,q.root,q.nd,q.mp,q.key⟩ (.inl Z) (by have g:=h.inv.r.trans (Jc hi);exact g),h.rel.del h.inv hi b (show e.id≠0 by omega) (show (2:Int)≠1 by omega) a (λ_ _ _=>rfl),?_,λy f=>h.bag y ?_,h.d,K⟩
 ·have:=Jf (p2:=({e with st:=2},L)) hi hs (show (2:Int)≠0 by omega)
  have k:=h.nxe;omega
 rcases Aes.1 f with q|q
 ·exact Afi q
 exact Afw q
theorem LvI.last(h:LvI n o nx P W A){e:Vl}{L:List E}(hi:P[i]?=some (e,L))(hs:e.st=1)(d:Int):Ie (A7 o.N L) d↔Bx d 1048576 L≠[]:=by
 have q:=h.ok hi hs;have r:=q.root.srt;have l:Srt L:=r.1;constructor
 ·rintro ⟨b,u,x⟩
  have w:=Aeg u;obtain ⟨y,g,rfl⟩:=Aen.1 w;have hk:=r.2 y g;intro t;have:y∈Bx d 1048576 L:=Afe.2 ⟨g,by simp only[decide_eq_true_eq];dsimp only at x;omega⟩;rw[t] at this;cases this
 intro m;obtain ⟨y,g⟩:=List.exists_mem_of_ne_nil _ m;obtain ⟨s,v⟩:=Afe.1 g;simp only[decide_eq_true_eq] at v;obtain ⟨a,p⟩:=Ae1.1 s;have j:a<L.length:=(Aee.1 p).1;have f:L[L.length-1]?=some L[L.length-1]:=Aef U;refine ⟨(L[L.length-1].1,_),by unfold A7;rw[Aer,Aei,f];rfl,?_⟩;show d<=L[L.length-1].1;rcases Aeu a (L.length-1) with c|c
 ·have z:=(Afx.1 l) a (L.length-1) j (show L.length-1<L.length by omega) c
  have k:=(Aee.1 p).2;rw[k] at z;omega
 have:a=L.length-1:=by omega
 subst this;have k:=(Aee.1 p).2;rw[k];omega
theorem LvI.resize(h:LvI n o nx P W A){e:Vl}{L:List E}(hi:P[i]?=some (e,L))(hs:e.st=1){x:Wv}(b:W[j]?=some x)(a:x.id=e.id)(f:1<=t/\t<=1048576)(l:Bx t 1048576 L=[]){C2:Nat->Nat}(K:TrK n ⟨o.N,C2,o.R⟩ none):
  LvI n ⟨o.N,C2,o.R⟩ nx (P.set i ({e with sz:=t},L)) (W.set j {x with sz:=t}) A:=by
 have q:=h.ok hi hs;have hq:=q.id;dsimp only at hq;obtain ⟨w,m,p⟩:=h.both hi hs b a;have k:=q.root.srt;refine ⟨h.inv.upd hi ⟨Afo _,h.inv.nb.2⟩ (λc _ M q=>q) ⟨q.id,q.st,f,q.q,q.r,q.root,q.nd,q.mp,λy g=>?_⟩ (.inl Z) (by have s:=h.inv.r.trans (Jc hi);exact s),h.rel.upd h.inv hi b (show e.id≠0 by omega) hs hs a ?_ Z (λ_ _ _ _=>rfl),?_,Q6 h.bag (Ink.refl _) (h.bag x (Aeg b)),h.d,K⟩
 ·have v:=k.2 y g
  rcases Int.lt_or_le y.1 t with c|c
  ·exact c
  have:y∈Bx t 1048576 L:=Afe.2 ⟨g,by simp only[decide_eq_true_eq];omega⟩;rw[l] at this;cases this
 ·simp only[Wv.core,CI,AfG];exact ⟨a,trivial,m,p⟩
 have:=Jf (p2:=({e with sz:=t},L)) hi hs (show e.st≠0 by omega);have u:=h.nxe;omega
theorem Pq(a:W2.map Wv.core=W.map Wv.core){x:Wv}(c:x∈W2):∃y∈W,y.core=x.core:=by
 have:x.core∈W.map Wv.core:=a▸Aen.2 ⟨x,c,Z⟩;obtain ⟨y,b,e⟩:=Aen.1 this;exact ⟨y,b,e⟩
structure DoE(n:Nat)(o o2:TB)(nx nx2:Int)(W W2:List Wv)(kd ci ca cc cs cq:Int)(od:Bool):Prop where
 cr:pkI kd 10=0->((1<=cs/\cs<=1048576)/\0<=cq/\cq<=1048576)->nx<=8->nx2=nx+1/\W2.map Wv.core=W.map Wv.core++[(nx,cs,cq,[])]/\o2.N=o.N/\o2.R=o.R
 wr:pkI kd 10=1->(0<=ci/\ci<100)->0<W.length->∃x∈W,nx2=nx/\WrE W W2 x.id ca (mV cc od) (cnt (AR n o.C) 0 1024)
 sn:pkI kd 10=4->(0<=ci/\ci<100)->0<W.length->nx<=8->∃x∈W,W2.map Wv.core=W.map Wv.core++[(nx,x.sz,x.q,x.V)]
section
variable{o2:TB}{nx2 kd ci ca cc cs cq id:Int}{od:Bool}{Wc:List Wv}
theorem DoE.ot(b:pkI kd 10≠0)(a:pkI kd 10≠1)(c:pkI kd 10≠4):DoE n o o2 nx nx2 W W2 kd ci ca cc cs cq od:=⟨λq=>absurd q b,λq=>absurd q a,λq=>absurd q c⟩
theorem DoE.c0(h:pkI kd 10=0)(a:((1<=cs/\cs<=1048576)/\0<=cq/\cq<=1048576)->nx<=8->nx2=nx+1/\W2.map Wv.core=W.map Wv.core++[(nx,cs,cq,[])]/\o2.N=o.N/\o2.R=o.R):DoE n o o2 nx nx2 W W2 kd ci ca cc cs cq od:=⟨λ_=>a,λq=>by omega,λq=>by omega⟩
theorem DoE.w1(h:pkI kd 10=1)(c:0<W.length/\0<=ci/\ci<100->∃x∈W,x.id=id)(b:nx2=nx/\WrE W W2 id ca (mV cc od) (cnt (AR n o.C) 0 1024)):DoE n o o2 nx nx2 W W2 kd ci ca cc cs cq od:=⟨λq=>by omega,λ_ a f=>by obtain ⟨x,d,e⟩:=c ⟨f,a⟩;exact ⟨x,d,by rw[e];exact b⟩,λq=>by omega⟩
theorem DoE.s4(h:pkI kd 10=4)(b:0<W.length/\0<=ci/\ci<100->nx<=8->∃x∈W,W2.map Wv.core=W.map Wv.core++[(nx,x.sz,x.q,x.V)]):DoE n o o2 nx nx2 W W2 kd ci ca cc cs cq od:=⟨λq=>by omega,λq=>by omega,λ_ a c=>b ⟨c,a⟩⟩
theorem DoE.s4n(h:pkI kd 10=4)(a:Wc.map Wv.core=W.map Wv.core)(b:0<W.length/\0<=ci/\ci<100->∃x∈W,x.id=id)(c:∀x∈Wc,x.id≠id):DoE n o o2 nx nx2 W W2 kd ci ca cc cs cq od:=DoE.s4 h λq _=>by
 obtain ⟨x,d,e⟩:=b q;obtain ⟨y,f,e2⟩:=Pq a.symm d;exact absurd ((congrArg Prod.fst e2).trans e) (c y f)
theorem DoE.s4y(h:pkI kd 10=4)(a:Wc.map Wv.core=W.map Wv.core){x:Wv}(c:x∈Wc)(u:Value):DoE n o o2 nx nx2 W (Wc++[⟨nx,x.sz,x.q,u,x.V⟩]) kd ci ca cc cs cq od:=DoE.s4 h λ_ _=>by
 obtain ⟨y,b,e⟩:=Pq a c;simp only[Wv.core,AfG] at e;exact ⟨y,b,by rw[AeK,a,e.2.1,e.2.2.1,e.2.2.2];rfl⟩
end
theorem LvI.xo(h:LvI n o nx P W A):∀e∈P.map Prod.fst,e.r.toNat≠0->(manyN n<e.r.toNat/\e.r.toNat<n)/\1<=o.C e.r.toNat:=λe g d=>by
 obtain ⟨p,hp,rfl⟩:=Aen.1 g;have b:=h.inv.r.mem_iff.2 (Mn hp d);have a:=h.k.i.rin _ b;have c:=h.k.i.cnt _ a.1 a.2;have f:=Agy.2 b;exact ⟨⟨by omega,a.2⟩,by show 1<=curC o none p.1.r.toNat;rw[c];exact Agu f (Nat.le_add_right _ _)⟩
end
theorem WS:Ak 84 [Y m] [plB m i j e n b] (λv G=>v=Y i/\G=[plB m i j e n b]):=by
 intro z R w H;refine Ae func84 Z ntmps84 Z (Z2 16 [0,0,0,0] H Z (Zr Z ?_));exact ⟨_,⟨Z,Z⟩,H.pick 1 [0] Z⟩
section
variable{Tb:Ai}
set_option maxHeartbeats 16000000 in
theorem Ms {pd pv pw pp mb:Nat} (n:Nat) (P:List Pl) (o:TB) (W:List Wv) (hL:LvI n o s P W A) (e2:mb+20<=1000000000) (kd ci ca cc cf cs cq:Int) (sy od:Bool) (c8: -9223372036854775808<=ca/\ca<=9223372036854775807) (c9: -9223372036854775808<=cc/\cc<=9223372036854775807) (g5: -9223372036854775808<=cf/\cf<=9223372036854775807) (e8: -9223372036854775808<=kd/\kd<=9223372036854775807):Ak 42 [Y g,.agg #[I kd,I ci,I ca,I cc,I cf,I cs,I cq,.bool sy,.bool od]] [blk g [Y pd,Y pv,Y pw] 35,voA pv pp s ([]) (P.map Prod.fst),trA Tb pp mb n o none,wdA pw s W,A] (λv G=>∃(p2:Nat) (nx2:Int) (P2:List Pl) (e5:List Vl) (o2:TB) (W2:List Wv) (A2:Ai) (m2:Nat),(LvI n o2 nx2 P2 W2 A2/\e5=P2.map Prod.fst/\m2<=mb+16/\DoE n o o2 s nx2 W W2 kd ci ca cc cs cq od/\KpE W W2 (Q5 W ci) kd/\Ink A A2)/\v=.bool true/\G=[blk g [Y pd,Y pv,Y p2] 35,voA pv pp nx2 [] e5,trA Tb pp m2 n o2 none,wdA p2 nx2 W2,A2]):=by
 intro z R w H;replace H:=H.l5;have d7:W.length<=64:=by have:=hL.w8;omega
 have g4:=λx c=>(hL.w (x:=x) c).1;have d5:∀x∈W,x.V.length<=1048576:=λx c=>by have:=(hL.w c).2.2.1;omega
 have f9:=hL.bag;have hv:=hL.hv;refine Ae func42 Z ntmps42 Z (Za 2 [] H Z ?_);intro b1 w H;refine Z2 9 [1,1,0] H Z (z_E_ Z (call7 _) (FZ) H.f2 ?_);intro w H;replace H:=H.l6;refine z_E_ Z (call8 _) (I8 none) H.f3 ?_;intro w H;refine Z2 7 [2,9] H Z (Au Z (call6 _) (XG d7) H.f4.f4 ?_);rintro _ w _ ⟨id,⟨d4,c5⟩,rfl,rfl⟩ H;refine Z2 9 [2,0,0] H Z (Au Z (call74 _) (Aao d7 A f9 d5) H.f5.f2 ?_);rintro _ w _ ⟨p2,Wc,Ac,⟨a9,a0,d2⟩,rfl,rfl⟩ H;replace H:=H.l7;have f:=hL.copy a9 d2;have a5:=hL.ink a0;have c6:Wc.length<=64:=by have:=f.w8;omega
 have e0:∀x∈Wc,x.V.length<=1048576:=λx c=>by have:=(f.w c).2.2.1;omega
 have g9:=hL.nx9;have b8:=hL.inv.fit hL.k;have b7:=Ki hL.k.hn.2;have c7:o.R.length+n<1000:=by have:=hL.inv.r.length_eq;have:=Ml P;have:=hL.inv.len;have:=hL.inv.n;omega
 refine Z2 8 [0,6,0] H Z (z_E_ Z (call5 _) (JN 10 e8 U) H ?_);intro w H;refine Z0 9 [0] Z (Af Z (λh1=>?_) (λh1=>?_))
 ·refine Z2 7 [5,6,0,6,6,0] H Z (Au Z (call75 _) (Ug U c6 cs cq) H.f2.f2 ?_);rintro _ w _ (⟨b2,rfl,rfl⟩|⟨d3,(⟨h8,rfl,rfl⟩|⟨c3,rfl,rfl⟩|⟨h7,u2,A3,⟨b6,d8⟩,rfl,rfl⟩)⟩) a
  ·have H:=a.l7;refine Zc 8 Z ?_;replace H:=H.f6.f4;refine Bf (Sep z (blk g [Y pd,Y pv,Y pw] 35::blk b1 [I kd,I ci,I ca,I cc,I cf,I cs,I cq,.bool sy,.bool od] 28::R)) 14 Z J (A4 H λw a=>?_)
   have H:=a.l7;refine Bo [0,1,2,3,4,5,6,7] [1,0,5,1,6,1] J (λ_ c=>(AN (c.blk 0 Z) (AN (c.blk 1 Z) AH))) (by exact H.pick 7 [0,1] Z) Z J Z Z (Ay [8] J O (Al (Br Z Z Z Z Z Z (λw=>call10 _ w) (Hn hv U b8 b7 U cs cq c7) H.f5.f6 Z ?_)));rintro _ w _ (⟨a2,rfl,rfl⟩|⟨c1,(⟨d,rfl,rfl⟩|⟨c3,rfl,rfl⟩|⟨i,C2,b5,rfl,rfl⟩)⟩) a
   ·have H:=a.l7;refine Ar (λ_=>(H.pick 7 [2,3] Z)) (Bo [9,10,11,12] [] J (λ_ _=>AH) (by exact H.pick 7 [2,3] Z) Z J Z Z (Ay [13] J O (Al (BV Z Z Z Z (AQ Z Z) (Ar (λh=>absurd Z h) (AV J (gn (Zc 10 Z (Au Z (call76 _) (Fp (by first|exact hv|(rw[AeX];exact hv))) H.f2 ?_)))))))));rintro _ w _ (⟨a7,rfl,rfl⟩|⟨b4,bv,a4,rfl,rfl⟩) a
    ·exact absurd a7 U
    have H:=a.l7;obtain rfl:bv=true:=by first|exact a4 ⟨rfl,.inl rfl⟩|exact a4 ⟨rfl,.inr ⟨rfl,.inr ⟨rfl,hL.full d⟩⟩⟩
    refine Zc 4 rfl (Zr rfl ?_);exact ⟨_,⟨_,_,P,_,o,_,_,mb,⟨a5,rfl,by omega,DoE.c0 U (λq _=>absurd q b2),.eq rfl,a0⟩,rfl,rfl⟩,H.pick 7 [0,1,2,6,5] rfl⟩
   ·exact absurd c1 b2
   ·exact absurd c1 b2
   exact absurd c1 b2
  ·have H:=a.l7;refine Zc 8 Z ?_;replace H:=H.f6.f4;refine Bf (Sep z (blk g [Y pd,Y pv,Y pw] 35::blk b1 [I kd,I ci,I ca,I cc,I cf,I cs,I cq,.bool sy,.bool od] 28::R)) 14 Z J (A4 H λw a=>?_)
   have H:=a.l7;refine Bo [0,1,2,3,4,5,6,7] [1,0,5,1,6,1] J (λ_ c=>(AN (c.blk 0 Z) (AN (c.blk 1 Z) AH))) (by exact H.pick 7 [0,1] Z) Z J Z Z (Ay [8] J O (Al (Br Z Z Z Z Z Z (λw=>call10 _ w) (Hn hv U b8 b7 U cs cq c7) H.f5.f6 Z ?_)));rintro _ w _ (⟨a2,rfl,rfl⟩|⟨c1,(⟨d,rfl,rfl⟩|⟨c3,rfl,rfl⟩|⟨i,C2,b5,rfl,rfl⟩)⟩) a
   ·exact absurd d3 a2
   ·have H:=a.l7;refine Ar (λ_=>(H.pick 7 [2,3] Z)) (Bo [9,10,11,12] [] J (λ_ _=>AH) (by exact H.pick 7 [2,3] Z) Z J Z Z (Ay [13] J O (Al (BV Z Z Z Z (AQ Z Z) (Ar (λh=>absurd Z h) (AV J (gn (Zc 10 Z (Au Z (call76 _) (Fp (by first|exact hv|(rw[AeX];exact hv))) H.f2 ?_)))))))));rintro _ w _ (⟨a7,rfl,rfl⟩|⟨b4,bv,a4,rfl,rfl⟩) a
    ·exact absurd a7 U
    have H:=a.l7;obtain rfl:bv=true:=by first|exact a4 ⟨rfl,.inl rfl⟩|exact a4 ⟨rfl,.inr ⟨rfl,.inr ⟨rfl,hL.full d⟩⟩⟩
    refine Zc 4 rfl (Zr rfl ?_);exact ⟨_,⟨_,_,P,_,o,_,_,mb,⟨a5,rfl,by omega,DoE.c0 U (λ_ q=>absurd d (hL.left q)),.eq rfl,a0⟩,rfl,rfl⟩,H.pick 7 [0,1,2,6,5] rfl⟩
   ·(exfalso;omega)
   (exfalso;have:=f.less (hL.free b5.1);omega)
  ·(exfalso;omega)
  have H:=a.l7;refine Zc 8 Z ?_;replace H:=H.f6.f4;refine Bf (Sep z (blk g [Y pd,Y pv,Y pw] 35::blk b1 [I kd,I ci,I ca,I cc,I cf,I cs,I cq,.bool sy,.bool od] 28::R)) 14 Z J (A4 H λw a=>?_);have H:=a.l7;refine Bo [0,1,2,3,4,5,6,7] [1,0,5,1,6,1] J (λ_ c=>(AN (c.blk 0 Z) (AN (c.blk 1 Z) AH))) (by exact H.pick 7 [0,1] Z) Z J Z Z (Ay [8] J O (Al (Br Z Z Z Z Z Z (λw=>call10 _ w) (Hn hv U b8 b7 U cs cq c7) H.f5.f6 Z ?_)));rintro _ w _ (⟨a2,rfl,rfl⟩|⟨c1,(⟨d,rfl,rfl⟩|⟨c3,rfl,rfl⟩|⟨i,C2,b5,rfl,rfl⟩)⟩) a
  ·exact absurd d3 a2
  ·have H:=a.l7;refine Ar (λ_=>(H.pick 7 [2,3] Z)) (Bo [9,10,11,12] [] J (λ_ _=>AH) (by exact H.pick 7 [2,3] Z) Z J Z Z (Ay [13] J O (Al (BV Z Z Z Z (AQ Z Z) (Ar (λh=>absurd Z h) (AV J (gn (Zc 10 Z (Au Z (call76 _) (Fp (by first|exact hv|(rw[AeX];exact hv))) H.f2 ?_)))))))));rintro _ w _ (⟨a7,rfl,rfl⟩|⟨b4,bv,a4,rfl,rfl⟩) a
   ·exact absurd a7 U
   have H:=a.l7;obtain rfl:bv=true:=by first|exact a4 ⟨rfl,.inl rfl⟩|exact a4 ⟨rfl,.inr ⟨rfl,.inr ⟨rfl,hL.full d⟩⟩⟩
   refine Zc 4 rfl (Zr rfl ?_);exact ⟨_,⟨_,_,P,_,o,_,_,mb,⟨(a5.ink b6),rfl,by omega,DoE.c0 U (λ_ q=>absurd d (hL.left q)),.eq rfl,a0.trans b6⟩,rfl,rfl⟩,H.pick 7 [0,1,2,6,5] rfl⟩
  ·(exfalso;omega)
  have H:=a.l7;refine Ar (λ_=>(H.pick 7 [2,3] Z)) (Bo [9,10,11,12] [] J (λ_ _=>AH) (by exact H.pick 7 [2,3] Z) Z J Z Z (Ay [13] J O (Al (BV Z Z Z Z (AQ Z Z) (Ar (λh=>absurd Z h) (AV J (gn (Zc 10 Z (Au Z (call76 _) (Fp (by first|exact hv|(rw[AeX];exact hv))) H.f2 ?_)))))))));rintro _ w _ (⟨a7,rfl,rfl⟩|⟨b4,bv,a4,rfl,rfl⟩) a
  ·have H:=a.l7;refine Zc 4 Z (Zr Z ?_);have K9:=H.says 2 Z (λh q=>trA.k q)
   exact ⟨_,⟨_,_,_,_,_,_,_,mb+2,⟨f.create b5.1 d3.1 d3.2 b6 d8 K9,(Cx _ _ _ _).symm,by omega,DoE.c0 U (λ_ _=>⟨Z,by rw[AeK,a9];rfl,Z,Z⟩),⟨.app a9,λq=>by omega⟩,a0.trans b6⟩,congrArg Value.bool (decide_eq_true ⟨Z,Z⟩),Z⟩,H.pick 7 [0,1,2,4,5] Z⟩
  exact absurd Z b4
 refine Z0 6 [0] Z (Af Z (λh2=>?_) (λh2=>?_))
 ·refine Z2 6 [6,9] H Z (Au Z (call77 _) (Uk P o W Ac a5 e2 id c8 c9 g5 Z) H.f2.f1.f4.f5.f5 ?_);rintro _ w _ ⟨p9,g6,P9,f8,o9,W9,A9,m9,⟨b0,d1,f0,e3,e1,d9,d6⟩,rfl,rfl⟩ H;refine Zc 4 Z (Zr Z ?_);exact ⟨_,⟨_,_,P9,_,o9,_,A9,m9,⟨b0,d1,by omega,DoE.w1 U d4 ⟨e3,e1⟩,⟨by rw[<-c5];exact d9,λq=>by omega⟩,a0.trans d6⟩,Z,Z⟩,H.pick 7 [0,1,2,3,4] Z⟩
 refine Z0 6 [0] Z (Af Z (λh3=>?_) (λh3=>?_))
 ·refine Zc 1 Z ?_;replace H:=H.f6.f4;refine Bf (Sep z (blk g [Y pd,Y pv,Y pw] 35::blk b1 [I kd,I ci,I ca,I cc,I cf,I cs,I cq,.bool sy,.bool od] 28::R)) 15 Z J (A4 H λw a=>?_)
  have H:=a.l7;refine Bo [0,1,2,3,4,5,6,7,8] [2,0,2,1,3,1] J (λ_ c=>(AN (c.blk 0 Z) (AN (c.blk 1 Z) AH))) (by exact H.pick 7 [0,1] Z) Z J Z Z (Ay [9] J O (Al (Br Z Z Z Z Z Z (λw=>call78 _ w) (Aaq id ca cc d7 Ac a5.bag d5 g4 (λx c=>(hL.w c).2.2.2.1) c8 c9) H.f4.f3 Z ?_)));rintro _ w _ (⟨a8,rfl,rfl⟩|⟨j,x,⟨c,b⟩,(⟨c2,rfl,rfl⟩|⟨c2,rfl,rfl⟩)⟩) a
  ·have H:=a.l7;refine Ar (λ_=>(H.pick 7 [2,3] Z)) (Bo [10,11,12,13] [] J (λ_ _=>AH) (by exact H.pick 7 [2,3] Z) Z J Z Z (Ay [14] J O (Al (BV Z Z Z Z (AQ Z Z) (Ar (λh=>absurd Z h) (AV J (gn (Zc 2 Z ?_))))))));replace H:=H.f3.f3;refine Bf (Sep z (blk g [Y pd,Y pv,Y pw] 35::blk b1 [I kd,I ci,I ca,I cc,I cf,I cs,I cq,.bool sy,.bool od] 28::R)) 15 Z J (A4 H λw a=>?_)
   have H:=a.l7;refine Bo [0,1,2,3,4,5,6,7,8] [1,0,2,1,3,1] J (λ_ c=>(AN (c.blk 0 Z) (AN (c.blk 1 Z) AH))) (by exact H.pick 7 [0,1] Z) Z J Z Z (Ay [9] J O (Al (Br Z Z Z Z Z Z (λw=>call13 _ w) (F1 P Z hL.inv U id ca cc c8 c9) H.f5.f6 Z ?_)));rintro _ w _ (⟨a3,rfl,rfl⟩|⟨i,e,L,⟨hi,hs,y⟩,(⟨hE,rfl,rfl⟩|⟨hE,ru,rfl,rfl⟩)⟩) a
   ·have H:=a.l7;refine Ar (λ_=>(H.pick 7 [2,3] Z)) (Bo [10,11,12,13] [] J (λ_ _=>AH) (by exact H.pick 7 [2,3] Z) Z J Z Z (Ay [14] J O (Al (BV Z Z Z Z (AQ Z Z) (Ar (λh=>absurd Z h) (AV J (gn (Zc 4 Z (Ad Z (Cq (l:=[]) Z J J Z (λw _=>Rd.nil 1 w)) (Zc 1 Z (Ad Z (IN (l:=[]) (m:=[]) Z J Z Z) (Zc 1 Z (An 111 Z (λh4=>?_) (λh4=>?_))))))))))))))
    ·refine Z0 8 [3] Z (Zr Z ?_);exact ⟨_,⟨_,_,P,_,o,_,_,mb,⟨a5,Z,by omega,DoE.ot U U U,.eq Z,a0⟩,Z,Z⟩,H.pick 7 [2,0,1,4,5] Z⟩
    exact absurd Z h4
   ·exact (by obtain ⟨j9,x9,q1,q2⟩:=hL.at hi hs y;exact absurd q2 (a8 x9 (Aeg q1)))
   exact (by obtain ⟨j9,x9,q1,q2⟩:=hL.at hi hs y;exact absurd q2 (a8 x9 (Aeg q1)))
  ·have H:=a.l7;refine Ar (λ_=>(H.pick 7 [2,3] Z)) (Bo [10,11,12,13] [] J (λ_ _=>AH) (by exact H.pick 7 [2,3] Z) Z J Z Z (Ay [14] J O (Al (BV Z Z Z Z (AQ Z Z) (Ar (λh=>absurd Z h) (AV J (gn (Zc 2 Z ?_))))))));replace H:=H.f3.f3;refine Bf (Sep z (blk g [Y pd,Y pv,Y pw] 35::blk b1 [I kd,I ci,I ca,I cc,I cf,I cs,I cq,.bool sy,.bool od] 28::R)) 15 Z J (A4 H λw a=>?_)
   have H:=a.l7;refine Bo [0,1,2,3,4,5,6,7,8] [1,0,2,1,3,1] J (λ_ c=>(AN (c.blk 0 Z) (AN (c.blk 1 Z) AH))) (by exact H.pick 7 [0,1] Z) Z J Z Z (Ay [9] J O (Al (Br Z Z Z Z Z Z (λw=>call13 _ w) (F1 P Z hL.inv U id ca cc c8 c9) H.f5.f6 Z ?_)));rintro _ w _ (⟨a3,rfl,rfl⟩|⟨i,e,L,⟨hi,hs,y⟩,(⟨hE,rfl,rfl⟩|⟨hE,ru,rfl,rfl⟩)⟩) a
   ·exact (by obtain ⟨e9,a6,q1,q2⟩:=hL.back c b;exact absurd ⟨q1,q2⟩ (a3 e9 a6))
   ·have H:=a.l7;have b3:=hL.both hi hs c (b.trans y.symm)
    refine Ar (λ_=>(H.pick 7 [2,3] Z)) (Bo [10,11,12,13] [] J (λ_ _=>AH) (by exact H.pick 7 [2,3] Z) Z J Z Z (Ay [14] J O (Al (BV Z Z Z Z (AQ Z Z) (Ar (λh=>absurd Z h) (AV J (gn (Zc 2 Z (AD 13 (v:=I (Bp e.sz true ca cc)) Z (congrArg I (by rw[b3.1])) (Zc 2 Z (Ad Z (Cq (l:=[]) Z J J Z (λw _=>Rd.nil 1 w)) (Zc 1 Z (Ad Z (IN (l:=[]) (m:=[]) Z J Z Z) ?_)))))))))))));refine Zc 1 Z (An 111 Z (λh5=>?_) (λh5=>?_))
    ·refine Z0 8 [0] Z (Zr Z ?_);exact ⟨_,⟨_,_,P,_,o,_,_,mb,⟨a5,Z,by omega,DoE.ot U U U,.eq Z,a0⟩,congrArg Value.bool (decide_eq_true U),Z⟩,H.pick 7 [2,0,1,4,5] Z⟩
    exact absurd Z h5
   exact (by have b3:=hL.both hi hs c (b.trans y.symm);rw[b3.1] at c2;first|exact absurd hE c2|exact absurd c2 hE)
  have H:=a.l7;refine Ar (λ_=>(H.pick 7 [2,3] Z)) (Bo [10,11,12,13] [] J (λ_ _=>AH) (by exact H.pick 7 [2,3] Z) Z J Z Z (Ay [14] J O (Al (BV Z Z Z Z (AQ Z Z) (Ar (λh=>absurd Z h) (AV J (gn (Zc 2 Z ?_))))))));replace H:=H.f3.f3;refine Bf (Sep z (blk g [Y pd,Y pv,Y pw] 35::blk b1 [I kd,I ci,I ca,I cc,I cf,I cs,I cq,.bool sy,.bool od] 28::R)) 15 Z J (A4 H λw a=>?_);have H:=a.l7;refine Bo [0,1,2,3,4,5,6,7,8] [1,0,2,1,3,1] J (λ_ c=>(AN (c.blk 0 Z) (AN (c.blk 1 Z) AH))) (by exact H.pick 7 [0,1] Z) Z J Z Z (Ay [9] J O (Al (Br Z Z Z Z Z Z (λw=>call13 _ w) (F1 P Z hL.inv U id ca cc c8 c9) H.f5.f6 Z ?_)));rintro _ w _ (⟨a3,rfl,rfl⟩|⟨i,e,L,⟨hi,hs,y⟩,(⟨hE,rfl,rfl⟩|⟨hE,ru,rfl,rfl⟩)⟩) a
  ·exact (by obtain ⟨e9,a6,q1,q2⟩:=hL.back c b;exact absurd ⟨q1,q2⟩ (a3 e9 a6))
  ·exact (by have b3:=hL.both hi hs c (b.trans y.symm);rw[b3.1] at c2;first|exact absurd hE c2|exact absurd c2 hE)
  have H:=a.l8;have b3:=hL.both hi hs c (b.trans y.symm);refine Ar (λ_=>(H.pick 8 [3,4] Z)) (Bo [10,11,12,13] [] J (λ_ _=>AH) (by exact H.pick 8 [3,4] Z) Z J Z Z (Ay [14] J O (Al (BV Z Z Z Z (AQ Z Z) (Ar (λh=>absurd Z h) (AV J (gn (Zc 2 Z (AD 12 (v:=Cl (rdB (A7 o.N L) ca cc.toNat)) Z (by rw[b3.2.2]) (Zc 2 Z (Ad Z (Cq (l:=rdB (A7 o.N L) ca cc.toNat) Z J J Z (AB (H.rv 0 (·.rd)))) (Zc 1 Z (Ad Z (IN (l:=rdB (A7 o.N L) ca cc.toNat) (m:=rdB (A7 o.N L) ca cc.toNat) Z J Z Z) ?_)))))))))))));refine Zc 1 Z (An 111 Z (λh6=>?_) (λh6=>?_))
  ·refine Z0 8 [3] Z (Zr Z ?_);exact ⟨_,⟨_,_,P,_,o,_,_,mb,⟨a5,Z,by omega,DoE.ot U U U,.eq Z,a0⟩,Z,Z⟩,H.pick 8 [3,1,2,5,6] Z⟩
  exact absurd Z h6
 refine Z0 6 [0] Z (Af Z (λh7=>?_) (λh7=>?_))
 ·refine Z2 6 [6,9] H Z (Au Z (call79 _) (Ul P o W Ac a5 e2 id c8 c9 Z) H.f2.f1.f4.f5.f5 ?_);rintro _ w _ ⟨p9,g6,P9,f8,o9,V9,A9,m9,⟨b0,d1,f0,d9,d6⟩,rfl,rfl⟩ H;refine Zc 4 Z (Zr Z ?_);exact ⟨_,⟨_,_,P9,_,o9,_,A9,m9,⟨b0,d1,by omega,DoE.ot U U U,⟨by rw[<-c5];exact d9,λq=>by omega⟩,a0.trans d6⟩,Z,Z⟩,H.pick 7 [0,1,2,3,4] Z⟩
 refine Z0 6 [0] Z (Af Z (λh8=>?_) (λh8=>?_))
 ·refine Zc 4 Z (Au Z (call80 _) (Aap U id c6 d2 e0) H.f2.f2 ?_);rintro _ w _ (⟨a8,rfl,rfl⟩|⟨k,x,⟨c,b⟩,(⟨h8,rfl,rfl⟩|⟨c3,rfl,rfl⟩|⟨h7,u2,A3,⟨b6,d8⟩,rfl,rfl⟩)⟩) a
  ·have H:=a.l7;refine Z2 14 [1,3,0] H Z (Au Z (call15 _) (JM hv U b8 b7 U id hL.xo c7) H.f4.f5 ?_);rintro _ w _ (⟨a3,rfl,rfl⟩|⟨j,e,⟨he,a1,y⟩,(⟨d,rfl,rfl⟩|⟨c3,rfl,rfl⟩|⟨i,C2,b5,rfl,rfl⟩)⟩) a
   ·have H:=a.l7;refine Zc 16 Z (Au Z (call76 _) (Fp (by first|exact hv|(rw[AeX];exact hv))) H.f5 ?_);rintro _ w _ (⟨a7,rfl,rfl⟩|⟨b4,bv,a4,rfl,rfl⟩) a
    ·exact absurd a7 U
    have H:=a.l7;obtain rfl:bv=true:=by first|exact a4 ⟨rfl,.inl rfl⟩|exact a4 ⟨rfl,.inr ⟨rfl,.inr ⟨rfl,hL.full d⟩⟩⟩
    refine Zc 4 rfl (Zr rfl ?_);exact ⟨_,⟨_,_,P,_,o,_,_,mb,⟨a5,rfl,by omega,DoE.s4n U a9 d4 a8,.eq rfl,a0⟩,rfl,rfl⟩,H.pick 7 [0,1,2,5,4] rfl⟩
   ·exact (by obtain ⟨L9,b0⟩:=hL.pl_at he;obtain ⟨j9,x9,q1,q2⟩:=f.at b0 a1 y;exact absurd q2 (a8 x9 (Aeg q1)))
   ·exact (by obtain ⟨L9,b0⟩:=hL.pl_at he;obtain ⟨j9,x9,q1,q2⟩:=f.at b0 a1 y;exact absurd q2 (a8 x9 (Aeg q1)))
   exact (by obtain ⟨L9,b0⟩:=hL.pl_at he;obtain ⟨j9,x9,q1,q2⟩:=f.at b0 a1 y;exact absurd q2 (a8 x9 (Aeg q1)))
  ·have H:=a.l7;refine Z2 14 [1,3,0] H Z (Au Z (call15 _) (JM hv U b8 b7 U id hL.xo c7) H.f4.f5 ?_);rintro _ w _ (⟨a3,rfl,rfl⟩|⟨j,e,⟨he,a1,y⟩,(⟨d,rfl,rfl⟩|⟨c3,rfl,rfl⟩|⟨i,C2,b5,rfl,rfl⟩)⟩) a
   ·exact (by obtain ⟨e9,a6,q1,q2⟩:=f.back c b;exact absurd ⟨q1,q2⟩ (a3 e9 a6))
   ·have H:=a.l7;refine Zc 16 Z (Au Z (call76 _) (Fp (by first|exact hv|(rw[AeX];exact hv))) H.f5 ?_);rintro _ w _ (⟨a7,rfl,rfl⟩|⟨b4,bv,a4,rfl,rfl⟩) a
    ·exact absurd a7 U
    have H:=a.l7;obtain rfl:bv=true:=by first|exact a4 ⟨rfl,.inl rfl⟩|exact a4 ⟨rfl,.inr ⟨rfl,.inr ⟨rfl,hL.full d⟩⟩⟩
    refine Zc 4 rfl (Zr rfl ?_);exact ⟨_,⟨_,_,P,_,o,_,_,mb,⟨a5,rfl,by omega,DoE.s4 U (λ_ q=>absurd d (hL.left q)),.eq rfl,a0⟩,rfl,rfl⟩,H.pick 7 [0,1,2,5,4] rfl⟩
   ·(exfalso;omega)
   (exfalso;have:=f.less (hL.free b5.1);omega)
  ·(exfalso;omega)
  have H:=a.l7;refine Z2 14 [1,3,0] H Z (Au Z (call15 _) (JM hv U b8 b7 U id hL.xo c7) H.f4.f5 ?_);rintro _ w _ (⟨a3,rfl,rfl⟩|⟨j,e,⟨he,a1,y⟩,(⟨d,rfl,rfl⟩|⟨c3,rfl,rfl⟩|⟨i,C2,b5,rfl,rfl⟩)⟩) a
  ·exact (by obtain ⟨e9,a6,q1,q2⟩:=f.back c b;exact absurd ⟨q1,q2⟩ (a3 e9 a6))
  ·have H:=a.l7;refine Zc 16 Z (Au Z (call76 _) (Fp (by first|exact hv|(rw[AeX];exact hv))) H.f5 ?_);rintro _ w _ (⟨a7,rfl,rfl⟩|⟨b4,bv,a4,rfl,rfl⟩) a
   ·exact absurd a7 U
   have H:=a.l7;obtain rfl:bv=true:=by first|exact a4 ⟨rfl,.inl rfl⟩|exact a4 ⟨rfl,.inr ⟨rfl,.inr ⟨rfl,hL.full d⟩⟩⟩
   refine Zc 4 rfl (Zr rfl ?_);exact ⟨_,⟨_,_,P,_,o,_,_,mb,⟨(a5.ink b6),rfl,by omega,DoE.s4 U (λ_ q=>absurd d (hL.left q)),.eq rfl,a0.trans b6⟩,rfl,rfl⟩,H.pick 7 [0,1,2,5,4] rfl⟩
  ·(exfalso;omega)
  have H:=a.l7;obtain ⟨L,g3⟩:=hL.pl_at he;refine Zc 16 Z (Au Z (call76 _) (Fp (by first|exact hv|(rw[AeX];exact hv))) H.f5 ?_);rintro _ w _ (⟨a7,rfl,rfl⟩|⟨b4,bv,a4,rfl,rfl⟩) a
  ·have H:=a.l7;refine Zc 4 Z (Zr Z ?_);have K9:=H.says 2 Z (λh q=>trA.k q)
   exact ⟨_,⟨_,_,_,_,_,_,_,mb+2,⟨f.snap b5.1 g3 a1 c (b.trans y.symm) b6 d8 K9,(Cx _ _ _ _).symm,by omega,DoE.s4y U a9 (Aeg c) _,⟨.app a9,λq=>by omega⟩,a0.trans b6⟩,congrArg Value.bool (decide_eq_true ⟨Z,Z⟩),Z⟩,H.pick 7 [0,1,2,3,4] Z⟩
  exact absurd Z b4
 refine Z0 6 [0] Z (Af Z (λh9=>?_) (λh9=>?_))
 ·refine Zc 4 Z ?_;have g8:∀x∈Wc,x.u.oneCell'=true:=λx c=>(H.sy 2 (λq=>((d2 x c) _ q).slc)).one
  refine Au Z (call81 _) (AcB id c6 g8) H.f1 ?_;rintro _ w _ (⟨a8,rfl,rfl⟩|⟨j,x,⟨c,b⟩,rfl,rfl⟩) a
  ·have H:=a.l7;refine Z2 10 [1,3,0] H Z (Au Z (call16 _) (Jd hv U b8 b7 U id) H.f4.f5 ?_);rintro _ w _ (⟨a3,rfl,rfl⟩|⟨i,e,C2,⟨he,a1,y⟩,rfl,rfl⟩) a
   ·have H:=a.l7;refine Z4 21 [2,5,3] H Z ?_;intro w H;refine Zr Z ?_;exact ⟨_,⟨_,_,P,_,o,_,_,mb,⟨f,Z,by omega,DoE.ot U U U,.eq a9,a0⟩,Z,Z⟩,H.pick 7 [5,0,1,2,4] Z⟩
   exact (by obtain ⟨L9,b0⟩:=hL.pl_at he;obtain ⟨j9,x9,q1,q2⟩:=f.at b0 a1 y;exact absurd q2 (a8 x9 (Aeg q1)))
  have H:=a.l7;refine Z2 10 [1,3,0] H Z (Au Z (call16 _) (Jd hv U b8 b7 U id) H.f4.f5 ?_);rintro _ w _ (⟨a3,rfl,rfl⟩|⟨i,e,C2,⟨he,a1,y⟩,rfl,rfl⟩) a
  ·exact (by obtain ⟨e9,a6,q1,q2⟩:=f.back c b;exact absurd ⟨q1,q2⟩ (a3 e9 a6))
  have H:=a.l7;obtain ⟨L,hi⟩:=hL.pl_at he;refine Z4 21 [2,5,3] H Z ?_;intro w H;refine Zr Z ?_;have K9:=H.says 1 Z (λh q=>trA.k q);exact ⟨_,⟨_,_,_,_,_,_,_,mb+2,⟨f.del hi a1 c (b.trans y.symm) K9,(Cx _ _ _ _).symm,by omega,DoE.ot U U U,⟨by rw[<-c5];exact .tr a9 (.del c b),λq=>by omega⟩,a0⟩,Z,Z⟩,H.pick 7 [5,0,1,2,4] Z⟩
 refine Z0 6 [0] Z (Af Z (λf7=>?_) (λf7=>?_))
 ·refine Z2 6 [5,6,0] H Z (Au Z (call82 _) (Uh id cs c6 d2 e0) H.f2.f2 ?_);rintro _ w _ (⟨a8,rfl,rfl⟩|⟨j,x,⟨c,b⟩,(⟨b2,rfl,rfl⟩|⟨e7,rfl,rfl⟩|⟨e4,rfl,rfl⟩)⟩) a
  ·have H:=a.l7;refine Zc 4 Z ?_;replace H:=H.f6.f4;refine Bf (Sep z (blk g [Y pd,Y pv,Y pw] 35::blk b1 [I kd,I ci,I ca,I cc,I cf,I cs,I cq,.bool sy,.bool od] 28::R)) 9 Z J (A4 H λw a=>?_)
   have H:=a.l7;refine Bo [0,1,2,3,4,5,6] [1,0,5,1] J (λ_ c=>(AN (c.blk 0 Z) (AN (c.blk 1 Z) AH))) (by exact H.pick 7 [0,1] Z) Z J Z Z (Ay [7] J O (Al (Br Z Z Z Z Z Z (λw=>call17 _ w) (Gg P Z hL.inv U id cs) H.f5.f6 Z ?_)));rintro _ w _ (⟨a3,rfl,rfl⟩|⟨i,e,L,⟨hi,a1,y⟩,(⟨a2,rfl,rfl⟩|⟨b9,rfl,rfl⟩|⟨c4,C2,rfl,rfl⟩)⟩) a
   ·have H:=a.l7;refine Ar (λ_=>(H.pick 7 [2,3] Z)) (Ay [8] J O (Al (BV Z Z Z Z (AQ Z Z) (Ar (λh=>absurd Z h) (AV J (gn (Z4 19 [2,2,3] H Z ?_)))))));intro w H;refine Zr Z ?_;exact ⟨_,⟨_,_,P,_,o,_,_,mb,⟨f,Z,by omega,DoE.ot U U U,.eq a9,a0⟩,Z,Z⟩,H.pick 7 [2,0,1,4,5] Z⟩
   ·exact (by obtain ⟨j9,x9,q1,q2⟩:=f.at hi a1 y;exact absurd q2 (a8 x9 (Aeg q1)))
   ·exact (by obtain ⟨j9,x9,q1,q2⟩:=f.at hi a1 y;exact absurd q2 (a8 x9 (Aeg q1)))
   exact (by obtain ⟨j9,x9,q1,q2⟩:=f.at hi a1 y;exact absurd q2 (a8 x9 (Aeg q1)))
  ·have H:=a.l7;refine Zc 4 Z ?_;replace H:=H.f6.f4;refine Bf (Sep z (blk g [Y pd,Y pv,Y pw] 35::blk b1 [I kd,I ci,I ca,I cc,I cf,I cs,I cq,.bool sy,.bool od] 28::R)) 9 Z J (A4 H λw a=>?_)
   have H:=a.l7;refine Bo [0,1,2,3,4,5,6] [1,0,5,1] J (λ_ c=>(AN (c.blk 0 Z) (AN (c.blk 1 Z) AH))) (by exact H.pick 7 [0,1] Z) Z J Z Z (Ay [7] J O (Al (Br Z Z Z Z Z Z (λw=>call17 _ w) (Gg P Z hL.inv U id cs) H.f5.f6 Z ?_)));rintro _ w _ (⟨a3,rfl,rfl⟩|⟨i,e,L,⟨hi,a1,y⟩,(⟨a2,rfl,rfl⟩|⟨b9,rfl,rfl⟩|⟨c4,C2,rfl,rfl⟩)⟩) a
   ·exact (by obtain ⟨e9,a6,q1,q2⟩:=f.back c b;exact absurd ⟨q1,q2⟩ (a3 e9 a6))
   ·have H:=a.l7;refine Ar (λ_=>(H.pick 7 [2,3] Z)) (Ay [8] J O (Al (BV Z Z Z Z (AQ Z Z) (Ar (λh=>absurd Z h) (AV J (gn (Z4 19 [2,2,3] H Z ?_)))))));intro w H;refine Zr Z ?_;exact ⟨_,⟨_,_,P,_,o,_,_,mb,⟨f,Z,by omega,DoE.ot U U U,.eq a9,a0⟩,Z,Z⟩,H.pick 7 [2,0,1,4,5] Z⟩
   ·exact absurd b9.1 b2
   exact absurd c4.1 b2
  ·have H:=a.l7;refine Zc 4 Z ?_;replace H:=H.f6.f4;refine Bf (Sep z (blk g [Y pd,Y pv,Y pw] 35::blk b1 [I kd,I ci,I ca,I cc,I cf,I cs,I cq,.bool sy,.bool od] 28::R)) 9 Z J (A4 H λw a=>?_)
   have H:=a.l7;refine Bo [0,1,2,3,4,5,6] [1,0,5,1] J (λ_ c=>(AN (c.blk 0 Z) (AN (c.blk 1 Z) AH))) (by exact H.pick 7 [0,1] Z) Z J Z Z (Ay [7] J O (Al (Br Z Z Z Z Z Z (λw=>call17 _ w) (Gg P Z hL.inv U id cs) H.f5.f6 Z ?_)));rintro _ w _ (⟨a3,rfl,rfl⟩|⟨i,e,L,⟨hi,a1,y⟩,(⟨a2,rfl,rfl⟩|⟨b9,rfl,rfl⟩|⟨c4,C2,rfl,rfl⟩)⟩) a
   ·exact (by obtain ⟨e9,a6,q1,q2⟩:=f.back c b;exact absurd ⟨q1,q2⟩ (a3 e9 a6))
   ·exact absurd e7.1 a2
   ·have H:=a.l7;refine Ar (λ_=>(H.pick 7 [2,3] Z)) (Ay [8] J O (Al (BV Z Z Z Z (AQ Z Z) (Ar (λh=>absurd Z h) (AV J (gn (Z4 19 [2,2,3] H Z ?_)))))));intro w H;refine Zr Z ?_;exact ⟨_,⟨_,_,P,_,o,_,_,mb,⟨f,Z,by omega,DoE.ot U U U,.eq a9,a0⟩,Z,Z⟩,H.pick 7 [2,0,1,4,5] Z⟩
   exact (by have b3:=(f.both hi a1 c (b.trans y.symm)).2.2;have d0:=f.last hi a1 cs;rw[<-b3] at d0;exact absurd c4.2 (d0.1 e7.2))
  have H:=a.l7;refine Zc 4 Z ?_;replace H:=H.f6.f4;refine Bf (Sep z (blk g [Y pd,Y pv,Y pw] 35::blk b1 [I kd,I ci,I ca,I cc,I cf,I cs,I cq,.bool sy,.bool od] 28::R)) 9 Z J (A4 H λw a=>?_);have H:=a.l7;refine Bo [0,1,2,3,4,5,6] [1,0,5,1] J (λ_ c=>(AN (c.blk 0 Z) (AN (c.blk 1 Z) AH))) (by exact H.pick 7 [0,1] Z) Z J Z Z (Ay [7] J O (Al (Br Z Z Z Z Z Z (λw=>call17 _ w) (Gg P Z hL.inv U id cs) H.f5.f6 Z ?_)));rintro _ w _ (⟨a3,rfl,rfl⟩|⟨i,e,L,⟨hi,a1,y⟩,(⟨a2,rfl,rfl⟩|⟨b9,rfl,rfl⟩|⟨c4,C2,rfl,rfl⟩)⟩) a
  ·exact (by obtain ⟨e9,a6,q1,q2⟩:=f.back c b;exact absurd ⟨q1,q2⟩ (a3 e9 a6))
  ·exact absurd e4.1 a2
  ·exact (by have b3:=(f.both hi a1 c (b.trans y.symm)).2.2;have d0:=f.last hi a1 cs;rw[<-b3] at d0;exact absurd (d0.2 b9.2) e4.2)
  have H:=a.l7;refine Ar (λ_=>(H.pick 7 [2,3] Z)) (Ay [8] J O (Al (BV Z Z Z Z (AQ Z Z) (Ar (λh=>absurd Z h) (AV J (gn (Z4 19 [2,2,3] H Z ?_)))))));intro w H;refine Zr Z ?_;have K9:=H.says 1 Z (λh q=>trA.k q);exact ⟨_,⟨_,_,_,_,_,_,_,mb+2,⟨f.resize hi a1 c (b.trans y.symm) c4.1 c4.2 K9,(Cx _ _ _ _).symm,by omega,DoE.ot U U U,⟨by rw[<-c5];exact .tr a9 (.set c b),λq=>by omega⟩,a0⟩,Z,Z⟩,H.pick 7 [2,0,1,4,5] Z⟩
 refine Z0 6 [0] Z (Af Z (λg1=>?_) (λg1=>?_))
 ·refine Zc 3 Z (z_E_ Z (call83 _) (WR P o W Ac a5) H.f2.f1.f5.f4 ?_);intro w H;refine Zc 4 Z (Zr Z ?_);exact ⟨_,⟨_,_,P,_,o,_,_,mb,⟨a5,Z,by omega,DoE.ot U U U,.eq Z,a0⟩,Z,Z⟩,H.pick 7 [0,1,5,2,3] Z⟩
 refine Z0 6 [0] Z (Af Z (λg2=>?_) (λg2=>?_))
 ·refine Z2 6 [1,3,0] H Z (z_E_ Z (call33 _) (Ib) H.f4.f5 ?_);intro w H;refine Z0 5 [3] Z (Zr Z ?_);exact ⟨_,⟨_,_,P,_,o,_,_,mb,⟨a5,Z,by omega,DoE.ot U U U,.eq Z,a0⟩,Z,Z⟩,H.pick 7 [5,0,1,2,4] Z⟩
 refine Z2 9 [1,3,0] H Z (z_E_ Z (call7 _) (FZ) H.f5 ?_);intro w H;replace H:=H.l7;replace H:=H.f5;obtain ⟨M0,hr,a⟩:=H.tr0;clear H;obtain ⟨X,hX,H⟩:=a.po;clear a;have a:=H;clear H;have H:Sep z (plB pp X.ps X.pc X.pa n false::stoA X.ps X.pd X.D X.G none::coB X.pc X.bn n X.mm::Ch X.bn o.C n::AJ X.mm X.l X.clk::alB X.pa n (AR n o.C) X.Dd (AR n o.C)::X.A::voA pv pp s ([]) (P.map Prod.fst)::wdA pw s W::wdA p2 s Wc::Ac::blk g [Y pd,Y pv,Y pw] 35::blk b1 [I kd,I ci,I ca,I cc,I cf,I cs,I cq,.bool sy,.bool od] 28::R) w:=a;clear a;refine z_E_ Z (call84 _) (WS) H ?_;intro w H;replace H:=H.l13;refine Au Z (call85 _) (OH mb hX.fine U) H.f1 ?_;rintro _ w _ ⟨D2,G2,g7,h0,e6,i1,g0,rfl,rfl⟩ H;refine Z0 5 [3] Z (Zr Z ?_);have H8:=(H.pick 13 [1,0,2,3,4,5,6,11,7,8,10] Z).toPo (X:= {X with D:=D2,G:=G2}) (mb:=mb+1) (n:=n) (M0:=M0) (C0:=o.C) (t:=none) ⟨hX.hn,g7,(by show G2.x.pages=(n:Int);rcases g0 with q|q<;>rw[q.2]<;>exact hX.pg),hX.tab,λp hp=>(by show M0 p=G2.M p;rw[e6];exact hX.m0 p hp),λi hi=>(by show G2.M (1+i)=_;rw[e6];exact hX.cp i hi),hX.c0,hX.one,hX.idle,λT e=>(by cases e)⟩ Z;have H9:=Sep.toTr0 (o:=o) H8 hr;exact ⟨_,⟨_,_,P,_,o,W,Ac,mb+1,⟨a5,Z,by omega,DoE.ot U U U,.eq Z,a0⟩,Z,Z⟩,H9.pick 5 [1,2,0,3,4] Z⟩
end
section
variable{Tb:Ai}
theorem AcE(c:16<=n/\n<=639)(K:TrK n (FF n) none)(A:Ai):LvI n (FF n) 1 (List.replicate 8 pl0) [] A:=by
 refine ⟨⟨c.2,Z,by omega,λp hp=>.inl (Af5.1 hp).2,?_,by exact Ahg _⟩,⟨Ahg _,List.Pairwise.nil⟩,Z,λx d=>(by cases d),λp b h=>(by cases h),K⟩;rw[Afx];intro a b f e _ _;rw[List.getElem_replicate];rfl
theorem AcF:cnt (AR 64 (FF 64).C) 0 1024=62:=by decide+kernel
theorem AcG{o:TB}(K:TrK 64 o none)(hN:o.N=(FF 64).N)(a:o.R=[]):cnt (AR 64 o.C) 0 1024=62:=by
 rw[<-AcF];congr 1;funext p;unfold AR;have e:p<64->o.C p=(FF 64).C p:=λhp=>by
  show o.C p=C1 (manyN 64+1) p;unfold C1;by_cases h:p<manyN 64+1
  ·rw[if_pos h];exact K.one p U
  rw[if_neg h];have:=K.i.cnt p U hp;simpa [curC,CV,Dm,a,hN,FF,I9] using this
 by_cases hp:p<64
 ·simp[hp,e hp]
 simp[hp]
theorem Aau{k:Int}{V:List Bk}(h:∀b∈V,b.1≠k):Bz k V=V:=Agw.2 λb a=>by simpa using h b a
theorem Q7{k:Int}{V:List Bk}(h:∀b∈V,b.1<k):PutAt k B V (V++[(k,B)]):=by
 have e:=Aau (k:=k) (V:=V) λb a=>by have:=h b a;omega
 refine ⟨V.length,λj b _ a=>?_,λb a=>?_,?_⟩
 ·rw[e] at a;exact h b (Aeg a)
 ·rw[e,AeL (Ael _)] at a;cases a
 rw[e,Afa,List.drop_length]
theorem WT{c:O8}(h:W.map Wv.core=[c]):∃x:Wv,W=[x]/\x.core=c:=by
 match W,h with
 | [x],h=>exact ⟨x,Z,by simpa using h⟩
theorem PL{m o2 o3:TB}{o:Int}{W2 e:List Wv}(D1:DoE 64 (FF 64) m 1 s [] W 0 0 0 0 10 10 false)(K:TrK 64 m none)(D2:DoE 64 m o2 s p W W2 1 0 3 2 0 0 false)(D3:DoE 64 o2 o3 p o W2 e 4 0 0 0 0 0 false):e.length=2/\∃x,e[1]?=some x/\x.V.length=2:=by
 obtain ⟨e1,c1,n1,r1⟩:=D1.cr Z U U;obtain ⟨x,rfl,cx⟩:=WT c1;simp only[Wv.core,AfG] at cx;obtain ⟨x1,x2,x3,r⟩:=cx;obtain ⟨y,w,e2,wr⟩:=D2.wr Z U O;simp at w;subst w;have hm:mV 2 false=128:=by decide
 rw[hm,AcG K n1 (r1.trans Z)] at wr;obtain ⟨j,k,u2,V2,bs,hj,⟨vf,a,u,hv⟩,f,hc⟩:=wr y O Z (by rw[x2];decide);have b:0<k->vf 1=[(3,DN bs 0)]:=λh=>by
  have d:=(hv 0 h).2 (vf 0++[(3+((0:Nat):Int),DN bs 0)]) (Q7 (by rw[a,r];simp));rw[a,r] at d;exact d.symm
 have g:1<k->vf 2=[(3,DN bs 0),(4,DN bs 1)]:=λh=>by
  have d:=(hv 1 h).2 (vf 1++[(3+((1:Nat):Int),DN bs 1)]) (Q7 (by rw[b U];simp));rw[b U] at d;exact d.symm
 have hk:k=2:=by
  rcases hc with h|⟨h,q|q⟩
  ·exact h
  ·exfalso
   have i:k=0\/k=1:=by omega
   have:=q.2;rw[x3,<-u] at this;rcases i with rfl|rfl
   ·rw[a,r] at this;simp at this
   rw[b U] at this;simp at this
  omega
 subst hk;have hV:V2.length=2:=by rw[<-u,g U];rfl
 have n:j=0:=by
  have:=(Aee.1 hj).1;simpa using this
 subst n;have hW:W2=[⟨y.id,y.sz,y.q,u2,V2⟩]:=f;subst hW;obtain ⟨t,z,v⟩:=D3.sn Z U O U;simp at z;subst z;have hl:=congrArg List.length v;simp at hl;refine ⟨hl,?_⟩;have c:=congrArg (λl=>l[1]?) v;simp only[Aer] at c
 cases hq:e[1]? with
 | none=>rw[hq] at c;simp at c
 | some x3'=>
  rw[hq] at c;refine ⟨x3',Z,?_⟩;simp[Wv.core] at c;rw[c.2.2.2];exact hV
set_option maxHeartbeats 4000000 in
theorem WU (Tb:Ai) (hT:Ht Tb):Ak 19 [] [Tb] (λv G=>v=.bool true/\G=[Tb]):=by
 intro z R w H;replace H:=H.l1;refine Ae func19 Z ntmps19 Z (Zc 7 Z (Au Z (call4 _) (Pi 64 U Tb hT) H ?_));rintro _ w _ ⟨pb,pd,m,pp,pw,rfl,rfl⟩ H;refine Zc 18 Z ?_;have H9:=H.nilg 146 2;clear H;have f:=H9.pick 5 [1,2,3,4,0] Z;clear H9;have H:Sep z (blk pb [Y pd,Y m,Y pw] 35::voA m pp 1 ([]) ((List.replicate 8 pl0).map Prod.fst)::trA Tb pp 6 64 (FF 64) none::wdA pw 1 ([])::grow 146 2 (.slice none 0 0) 0 []::R) w:=f;clear f;have g:=AcE (n:=64) U (H.says 2 Z (λh q=>trA.k q)) (grow 146 2 (.slice none 0 0) 0 []);refine Zc 2 Z (Ad Z (Be Z Z (out:=[I 0,I 0,I 0,I 0,I 0,I 10,I 10,.bool false,.bool false]) J) (Au Z (call42 _) (Ms 64 (List.replicate 8 pl0) (FF 64) [] g U 0 0 0 0 0 10 10 false false U U U U) H ?_));rintro _ w _ ⟨p1,a3,P1,a5,o1,W1,A1,m1,⟨e,rfl,a8,i,_⟩,rfl,rfl⟩ H;refine Zc 6 Z (Ad Z (Be Z Z (out:=[I 1,I 0,I 3,I 2,I 5,I 0,I 0,.bool true,.bool false]) J) (Au Z (call42 _) (Ms 64 P1 o1 W1 e U 1 0 3 2 5 0 0 true false U U U U) H ?_));rintro _ w _ ⟨p2,nx2,P2,a1,o2,W2,A2,m2,⟨u,rfl,a4,p,_⟩,rfl,rfl⟩ H;refine Zc 6 Z (Ad Z (Be Z Z (out:=[I 4,I 0,I 0,I 0,I 0,I 0,I 0,.bool false,.bool false]) J) (Au Z (call42 _) (Ms 64 P2 o2 W2 u U 4 0 0 0 0 0 0 false false U U U U) H ?_));rintro _ w _ ⟨p3,a2,P3,a9,o3,W3,A3,m3,⟨d,rfl,a0,y,_⟩,rfl,rfl⟩ H;refine Zc 4 Z (Bf (Sep z (blk pb [Y pd,Y m,Y p3] 35::R)) 10 Z J (A4 H λw f=>?_));have H:=f.l5;refine Bo [0,1,2,3,4,5,6,7] [1,0,2,0] J (λ_ c=>(AN (c.blk 0 Z) AH)) (by exact H.pick 5 [0] Z) Z J Z Z (Ay [8] J O (Al (Br Z Z Z Z Z Z (λw=>call43 _ w) (Adr P3 o3 W3 A3 d U) H.f4.f4.f4.f4 Z ?_)));rintro _ w _ ⟨rfl,rfl⟩ H;replace H:=H.l5;refine Ar (λ_=>(H.pick 5 [4] Z)) (Ay [9] J O (Al (BV Z Z Z Z (AQ Z Z) (Ar (λh=>absurd Z h) (AV J (gn (Zc 2 Z ?_)))))));have K1:=e.k;obtain ⟨a7,x,c,s⟩:=PL i K1 p y;replace H:=H.f2;obtain ⟨uw,H⟩:=H.wd;replace H:=H.l6;have o:=H.sy 1 (·.slc);obtain ⟨aw,cw,rfl⟩:=o;have a:=(H.rv 1 (·.rd)).at (BL c 0 _ Z);obtain ⟨xi,xs,xq,xu,xV⟩:=x;dsimp only at s;have t:InB A3 xu xV:=d.bag _ (Aeg c);have l:=H.sy 4 (λq=>(t _ q).slc);obtain ⟨ax,cx,rfl⟩:=l;have b:=(H.rv 1 (·.rd)).at (BL c 3 _ Z);refine Z2 23 [2,5,0,0,0,0,0] H Z (An 52 Z (λh1=>?_) (λh1=>?_))
 ·refine Z2 7 [2,5,0,0,0,0] H Z (Ad Z (Aj Z (z:=4) (j:=1) (r:=4) J Z Z Z U a U) (Ad Z (Bi Z (k:=3) (r:=7) J Z a Z) (Ad Z (Ax Z Z J (AB b)) (Z0 7 [0] Z (Zr Z ?_)))));exact ⟨_,⟨congrArg Value.bool (decide_eq_true U),Z⟩,((H.pick 6 [3] Z).trTab).2⟩
 (exfalso;omega)
end
section
variable{Tb:Ai}
structure ClE where
 kd:Int
 ci:Int
 ca:Int
 cc:Int
 cf:Int
 cs:Int
 cq:Int
 sy:Bool
 od:Bool
def ClE.cells(e:ClE):List Value:=[.int .i64 e.kd,.int .i64 e.ci,.int .i64 e.ca,.int .i64 e.cc,.int .i64 e.cf,.int .i64 e.cs,.int .i64 e.cq,.bool e.sy,.bool e.od]
def Ig(es:List ClE):List Value:=es.flatMap ClE.cells
theorem Aav(es:List ClE):(Ig es).length=es.length*9:=by
 induction es with
 | nil=>rfl
 | cons e es ih=>simp only[Ig,AeJ,Aeh] at ih ⊢;rw[ih];simp[ClE.cells];omega
theorem Mt:∀{es:List ClE} {j:Nat} {e:ClE},es[j]?=some e->∀k u,(ClE.cells e)[k]?=some u->(Ig es)[j*9+k]?=some u
 | x::es,0,e,h,k,u,hk=>by
  simp at h;subst h;have hl:=(Aee.1 hk).1;simp only[Ig,AeJ];rw[Aep U];simpa using hk
 | x::es,j+1,e,h,k,u,hk=>by
  have:=Mt (es:=es) (j:=j) (by simpa using h) k u hk;simp only[Ig,AeJ] at this ⊢;rw[Aev (by simp[ClE.cells];omega)];rw[show (j+1)*9+k-(ClE.cells x).length=j*9+k from by simp[ClE.cells];omega];exact this
def ClE.In(e:ClE):Prop:=(-9223372036854775808<=e.kd/\e.kd<=9223372036854775807)/\(-9223372036854775808<=e.ca/\e.ca<=9223372036854775807)/\(-9223372036854775808<=e.cc/\e.cc<=9223372036854775807)/\(-9223372036854775808<=e.cf/\e.cf<=9223372036854775807)
def ClP(v:Value)(es:List ClE)(A:Ai):Prop:=∀h,A h->rdH 9 v es.length (Ig es) h/\∀e∈es,e.In
end
section
variable{Tb:Ai}
def Um:Ai:=λ_=>False
variable{n j k:Nat}{o o2:TB}{nx xi xs xq:Int}{P:List Pl}{W W2:List Wv}{A:Ai}{u:Value}{V:List Bk}
end
section
variable{Tb:Ai}
def RefI(n:Nat)(o:TB)(nx:Int)(P:List Pl):Prop:=∃W,LvI n o nx P W Um
variable{n:Nat}{o o2:TB}{nx:Int}{P:List Pl}{C2:Nat->Nat}{e e2:Vl}{L L2:List E}{i j k:Nat}
theorem RefI.create(h:RefI n o nx P)(hi:(P.map Prod.fst)[i]?=some v0){b a:Int}(hs:1<=b/\b<=1048576)(hq:0<=a/\a<=1048576)(K:TrK n ⟨o.N,C2,o.R⟩ none):RefI n ⟨o.N,C2,o.R⟩ (nx+1) (P.set i (⟨nx,1,b,a,0,0⟩,[])):=by
 obtain ⟨W,h⟩:=h;exact ⟨_,h.create (u:=.slice none 0 0) (A2:=Um) hi hs hq (Ink.refl _) (λ_ q=>q.elim) K⟩
theorem RefI.snap(h:RefI n o nx P)(hi:(P.map Prod.fst)[i]?=some v0)(b:P[j]?=some (e,L))(hs:e.st=1)(K:TrK n ⟨o.N,C2,Ba e.r.toNat++o.R⟩ none):RefI n ⟨o.N,C2,Ba e.r.toNat++o.R⟩ (nx+1) (P.set i ({e with id:=nx,st:=1},L)):=by
 obtain ⟨W,h⟩:=h;obtain ⟨k,x,c,a⟩:=h.at b hs Z;exact ⟨_,h.snap (u:=.slice none 0 0) (A2:=Um) hi b hs c a (Ink.refl _) (λ_ q=>q.elim) K⟩
theorem RefI.del(h:RefI n o nx P)(hi:P[i]?=some (e,L))(hs:e.st=1)(K:TrK n ⟨o.N,C2,o.R⟩ none):RefI n ⟨o.N,C2,o.R⟩ nx (P.set i ({e with st:=2},L)):=by
 obtain ⟨W,h⟩:=h;obtain ⟨k,x,b,a⟩:=h.at hi hs Z;exact ⟨_,h.del hi hs b a K⟩
theorem RefI.resize(h:RefI n o nx P)(hi:P[i]?=some (e,L))(hs:e.st=1){a:Int}(c:1<=a/\a<=1048576)(f:Bx a 1048576 L=[])(K:TrK n ⟨o.N,C2,o.R⟩ none):RefI n ⟨o.N,C2,o.R⟩ nx (P.set i ({e with sz:=a},L)):=by
 obtain ⟨W,h⟩:=h;obtain ⟨k,x,d,b⟩:=h.at hi hs Z;exact ⟨_,h.resize hi hs d b c f K⟩
theorem RefI.ea(h:RefI n o nx P)(hi:P[i]?=some (e,L))(hs:e.st=1)(c:EaJ n ⟨o.N,o.C,Ba e.r.toNat++C3 (P.eraseIdx i)⟩ nx e (C3 (P.eraseIdx i)) k o2 e2 L2)(f:∀p b,o2.N p=some (.dt b)->b.length=240)(K:TrK n o2 none):RefI n o2 nx (P.set i (e2,L2)):=by
 obtain ⟨W,h⟩:=h;obtain ⟨j,x,d,a⟩:=h.at hi hs Z;exact ⟨_,h.ea (u2:=.slice none 0 0) (A2:=Um) hi hs d a c (Ink.refl _) (λ_ q=>q.elim) f K⟩
theorem Na{P:List Pl}{i:Nat}{e:Vl}{L:List E}(h:P[i]?=some (e,L)){L2:List E}:(P.set i (e,L2)).map Prod.fst=P.map Prod.fst:=by
 rw[Cx];have a:(P.map Prod.fst)[i]?=some e:=by rw[Aer,h];rfl
 obtain ⟨b,c⟩:=Aee.1 a;rw[<-c];exact Af8 b
set_option maxHeartbeats 16000000 in
theorem Kw (c:Int) (hc: -9223372036854775808<=c/\c<=9223372036854775807) (A Tb:Ai) (hT:Ht Tb) (es:List ClE) (k4:es.length<=1048576) (hA:ClP v es A):Ak 3 [I c,v] [A,Tb] (λv G=>v=.bool true/\G=[A,Tb]):=by
 intro z R w H;replace H:=H.l2;obtain ⟨ao,oc,rfl⟩:=H.sy 0 (λq=>(hA _ q).1.slc);obtain ⟨n,k3⟩:∃n:Nat,n=24+pkI c 200:=⟨_,Z⟩;have j8:=OY c (N:=200) U;refine Ae func3 Z ntmps3 Z (Zc 8 Z (z_E_ Z (call5 _) (JN 200 hc U) H ?_));intro w H;refine Z1 1 [] [24+(pkI c 200:Int)] Z U (AD 19 (v:=I (n:Int)) Z (congrArg I U) (Au Z (call4 _) (Pi n U Tb hT) H.f1 ?_));rintro _ w _ ⟨p,pd,pv,pp,pw,rfl,rfl⟩ H;refine Zc 19 Z ?_;have b:=H.pick 5 [0,1,2,3,4] Z;clear H;have H:Sep z (blk p [Y pd,Y pv,Y pw] 35::voA pv pp 1 ([]) ((List.replicate 8 pl0).map Prod.fst)::trA Tb pp 6 n (FF n) none::wdA pw 1 ([])::A::R) w:=b;clear b;have g6:RefI n (FF n) 1 (List.replicate 8 pl0):=⟨[],AcE (n:=n) U (H.says 2 Z (λh q=>trA.k q)) Um⟩;refine Zc 5 Z ?_;refine AF (σ:=Nat×Int×List Pl×TB×List Wv×Nat) (λ⟨i,o,PG,s,WG,mG⟩=>[(7,I (i:Int)),(1,.slice ao es.length oc),(5,Y p)])
   (λ⟨i,o,PG,s,WG,mG⟩ w=>Sep z (blk p [Y pd,Y pv,Y pw] 35::voA pv pp o ([]) (PG.map Prod.fst)::trA Tb pp mG n s none::wdA pw 1 WG::A::R) w/\(i<=es.length/\mG<=6+16*i/\RefI n s o PG/\WG.length<=8)) (λ⟨i,o,PG,s,WG,mG⟩=>es.length-i) ⟨0,1,List.replicate 8 pl0,FF n,[],6⟩
   fr_z ⟨H,⟨AeR _,by omega,g6,by simp⟩⟩ ?_
 clear H;rintro ⟨i,o,PG,s,WG,mG⟩ w ⟨b,hI⟩;dsimp only at hI b ⊢;have H:=b.l5;obtain ⟨k5,j2,l,j5⟩:=hI;obtain ⟨W0,a3⟩:=id l;have c6:=a3.hv;have j1:=a3.nx9;have d8:=a3.inv.fit a3.k;have d3:=Ki a3.k.hn.2;have e2:s.R.length+n<1000:=by have:=a3.inv.r.length_eq;have:=Ml PG;have:=a3.inv.len;have:=a3.inv.n;omega
 refine Z0 9 [0] Z (Af Z (λh1=>?_) (λh1=>?_))
 ·refine Zc 5 Z ?_;obtain ⟨e,he⟩:∃e,es[i]?=some e:=⟨_,Aef U⟩;have a9:=H.sy 4 (λq=>(hA _ q).2 e (Aeg he))
  have i4:=(H.rv 4 (λq=>(hA _ q).1)).at (Mt he 0 _ Z);refine Zc 3 Z (Ad Z (Aj Z (z:=9) (j:=i) (r:=i*9) J Z Z Z U i4 U) (Ad Z (Bt Z Z (vs:=ClE.cells e) J (by simp[ClE.cells]) (AB (λk u hk=>(H.rv 4 (λq=>(hA _ q).1)).at (Mt he k u hk)))) (Za 0 [] H Z ?_)));intro b1 w H;refine Z4 7 [0,0,9] H Z ?_;intro w H;refine Au Z (call6 _) (XG U) H.f4.f2 ?_;rintro _ w _ ⟨a7,_,rfl,rfl⟩ H;refine Z2 9 [1,0,0] H Z (z_E_ Z (call7 _) (FZ) H.f3 ?_);intro w H;replace H:=H.l6;refine z_E_ Z (call8 _) (I8 none) H.f4 ?_;intro w H;replace H:=H.l6;refine AD 43 (v:=I (cnt (AR n s.C) 0 1024:Int)) Z Z (Z2 9 [1,2,0] H Z (Au Z (call9 _) (Ic c6 O) H.f1 ?_));rintro _ w _ ⟨b9,y,rfl,rfl⟩ H;replace H:=H.l8;have c9:=H.sy 0 (·.slc);have f0:=H.sy 1 (·.1.slc);refine Za 0 [] H Z ?_;intro b2 w H;refine AC Z Z (Am 0 H Z Z Z Z (vs:=[I o,b9,y]) Z (Ab Z (Ab c9.one (Ab f0.one Aw))) J O (out:=[I o,b9,y]) Z) ?_;rintro w H;replace H:=H.l9;refine Zc 12 Z (Ro (λa w=>∃(P2:List Pl) (n2:Int) (o2:TB) (m2:Nat) (dn:Int) (eN:Int),Fr 259 [] [(12,I dn),(13,I eN),(1,.slice ao es.length oc),(5,Y p),(7,I (i:Int)),(8,Y b1),(9,I a7),(10,I (cnt (AR n s.C) 0 1024:Int)),(11,Y b2),(25,I (i:Int)),(26,.slice ao es.length oc),(27,I (es.length:Int)),(28,.bool (decide ((i:Int)<(es.length:Int)))),(31,.slice ao es.length oc),(32,I (i:Int)),(33,GG ao (i*9)),(34,.agg #[I e.kd,I e.ci,I e.ca,I e.cc,I e.cf,I e.cs,I e.cq,.bool e.sy,.bool e.od]),(35,Y p),(36,.agg #[I e.kd,I e.ci,I e.ca,I e.cc,I e.cf,I e.cs,I e.cq,.bool e.sy,.bool e.od]),(37,I a7),(38,Y p),(39,Y p),(40,.pointer (some ⟨p,1,none⟩)),(41,Y pv),(42,Y pp),(43,I (cnt (AR n s.C) 0 1024:Int)),(44,Y p),(45,Y p),(46,.pointer (some ⟨p,1,none⟩)),(47,Y pv),(48,.agg #[I o,b9,y])] a/\Sep z (blk b2 [I o,b9,y] 41::grow 59 6 b9 ((PG.map Prod.fst).length) (AY (PG.map Prod.fst))::B4 y ([])::voA pv pp n2 ([]) (P2.map Prod.fst)::trA Tb pp m2 n o2 none::blk p [Y pd,Y pv,Y pw] 35::wdA pw 1 WG::blk b1 [I e.kd,I e.ci,I e.ca,I e.cc,I e.cf,I e.cs,I e.cq,.bool e.sy,.bool e.od] 28::A::R) w/\(RefI n o2 n2 P2/\m2<=22+16*i/\(eN≠0/\dn=0->P2.map Prod.fst=PG.map Prod.fst/\n2=o/\cnt (AR n o2.C) 0 1024=cnt (AR n s.C) 0 1024))) ?_ ?_)
  ·refine Z2 4 [0,7,0] H Z (z_E_ Z (call5 _) (JN 7 a9.1 U) H ?_);intro w H;refine Z0 9 [0] Z (Af Z (λh2=>?_) (λh2=>?_))
   ·replace H:=H.f7.f6;refine Bf (Sep z (blk p [Y pd,Y pv,Y pw] 35::blk b1 [I e.kd,I e.ci,I e.ca,I e.cc,I e.cf,I e.cs,I e.cq,.bool e.sy,.bool e.od] 28::R)) 13 Z J (A4 H λw b=>?_)
    have H:=b.l9;refine Bo [0,1,2,3,4,5,6,7] [1,0,5,1,6,1] J (λ_ hx=>(AN (hx.blk 0 Z) (AN (hx.blk 1 Z) AH))) (by exact H.pick 9 [0,1] Z) Z J Z Z (Ay [8] J O (Al (Br Z Z Z Z Z Z (λw=>call10 _ w) (Hn c6 U d8 d3 U e.cs e.cq e2) H.f6.f6 Z ?_)));rintro _ w _ (⟨d4,rfl,rfl⟩|⟨d0,(⟨d9,rfl,rfl⟩|⟨d5,rfl,rfl⟩|⟨i9,C9,a4,rfl,rfl⟩)⟩) b
    ·have H:=b.l9;refine Ar (λ_=>(H.pick 9 [2,3] Z)) (Bo [9,10,11] [] J (λ_ _=>AH) (by exact H.pick 9 [2,3] Z) Z J Z Z (Ay [12] J O (Al (BV Z Z Z Z (AQ Z Z) (Ar (λh=>absurd Z h) (AV J (gn (Zc 1 Z ?_))))))));replace H:=H.f8.f4.f8.f5.f5.f5.f8.f8.f8;exact gf λ_ g=>⟨PG,o,s,mG,0,1,(g.all Z),H,⟨l,by omega,λ_=>⟨Z,Z,Z⟩⟩⟩
    ·have H:=b.l9;refine Ar (λ_=>(H.pick 9 [2,3] Z)) (Bo [9,10,11] [] J (λ_ _=>AH) (by exact H.pick 9 [2,3] Z) Z J Z Z (Ay [12] J O (Al (BV Z Z Z Z (AQ Z Z) (Ar (λh=>absurd Z h) (AV J (gn (Zc 1 Z ?_))))))));replace H:=H.f8.f4.f8.f5.f5.f5.f8.f8.f8;exact gf λ_ g=>⟨PG,o,s,mG,0,32,(g.all Z),H,⟨l,by omega,λ_=>⟨Z,Z,Z⟩⟩⟩
    ·(exfalso;omega)
    have H:=b.l9;rw[<-Cx PG i9 _ []] at H;have K9:=H.says 1 Z (λh q=>trA.k q);have a6:=l.create a4.1 d0.1 d0.2 K9;refine Ar (λ_=>(H.pick 9 [2,3] Z)) (Bo [9,10,11] [] J (λ_ _=>AH) (by exact H.pick 9 [2,3] Z) Z J Z Z (Ay [12] J O (Al (BV Z Z Z Z (AQ Z Z) (Ar (λh=>absurd Z h) (AV J (gn (Zc 1 Z ?_))))))));replace H:=H.f8.f4.f8.f5.f5.f5.f8.f8.f8;exact gf λ_ g=>⟨(PG.set i9 (⟨o,1,e.cs,e.cq,0,0⟩,[])),(o+1),⟨s.N,C9,s.R⟩,(mG+2),0,0,(g.all Z),H,⟨a6,by omega,λq9=>absurd Z q9.1⟩⟩
   refine Z0 6 [0] Z (Af Z (λh3=>?_) (λh3=>?_))
   ·replace H:=H.f7.f6;refine Bf (Sep z (blk p [Y pd,Y pv,Y pw] 35::blk b1 [I e.kd,I e.ci,I e.ca,I e.cc,I e.cf,I e.cs,I e.cq,.bool e.sy,.bool e.od] 28::R)) 17 Z J (A4 H λw b=>?_)
    have H:=b.l9;refine Bo [0,1,2,3,4,5,6] [1,0,2,1] J (λ_ hx=>(AN (hx.blk 0 Z) (AN (hx.blk 1 Z) AH))) (by exact H.pick 9 [0,1] Z) Z J Z Z (By 7 J Z Z J J J Z Z Z (BW Z Z (vs:=[I e.kd,I e.ci,I e.ca,I e.cc,I e.cf,I e.cs,I e.cq,.bool e.sy,.bool e.od]) J (λ_ hx=>(hx.blk 1 Z).part 0 9 _ Z)) (H.pick 9 [0,1] Z) (Bo [9,10] [7,0] J (λ_ hx=>(AN (hx.blk 1 Z) AH)) (by exact H.pick 9 [0,1] Z) Z J Z Z (Ay [8] J O (Al (Br Z Z Z Z Z Z (λw=>call12 _ w) (Pj a9.2.2.2 a9.2.2.1) H Z ?_)))));rintro _ w _ ⟨db,bs,j7,rfl,rfl⟩ H;replace H:=H.l10;have k0:=Sa e.cc e.od;refine Ar (λ_=>(H.pick 10 [1,2] Z)) (Ay [11] J O (Al (Br Z Z Z Z Z Z (λw=>call11 _ w) (Ku PG Z a3.inv U a7 e.ca a9.2.1 db bs U e.sy) H.f7.f7 Z ?_)));rintro _ w _ (⟨b5,rfl,rfl⟩|⟨i9,e9,L9,⟨a4,a8,c0⟩,(⟨hE,rfl,rfl⟩|⟨hE,k9,o9,e8,L8,m9,er,⟨⟨c3,_⟩,i2,g4⟩,rfl,rfl⟩)⟩) b
    ·have H:=b.l10;refine Ar (λ_=>(H.pick 10 [3,4] Z)) (Bo [12,13,14,15] [] J (λ_ _=>AH) (by exact H.pick 10 [3,4] Z) Z J Z Z (Ay [16] J O (Al (BV Z Z Z Z (AQ Z Z) (Ar (λh=>absurd Z h) (AV J (gn (Zc 1 Z ?_))))))));replace H:=H.f2.d.f8.f4.f8.f5.f5.f5.f8.f8.f8;exact gf λ_ g=>⟨PG,o,s,mG,0,31,(g.all Z),H,⟨l,by omega,λ_=>⟨Z,Z,Z⟩⟩⟩
    ·have H:=b.l10;refine Ar (λ_=>(H.pick 10 [3,4] Z)) (Bo [12,13,14,15] [] J (λ_ _=>AH) (by exact H.pick 10 [3,4] Z) Z J Z Z (Ay [16] J O (Al (BV Z Z Z Z (AQ Z Z) (Ar (λh=>absurd Z h) (AV J (gn (Zc 1 Z ?_))))))));replace H:=H.f2.d.f8.f4.f8.f5.f5.f5.f8.f8.f8;exact gf λ_ g=>⟨PG,o,s,mG,0,(Bp e9.sz (decide (((bs.length%64:Nat):Int)=0)) e.ca ((bs.length/64:Nat):Int)),(g.all Z),H,⟨l,by omega,λ_=>⟨Z,Z,Z⟩⟩⟩
    have H:=b.l10;rw[<-Cx PG i9 e8 L8] at H;have K9:=H.says 1 Z (λh q=>trA.k q);have d2:=H.says 1 Z (λh q=>trA.d64 q);have a6:=l.ea a4 a8 c3 d2 K9;refine Ar (λ_=>(H.pick 10 [3,4] Z)) (Bo [12,13,14,15] [] J (λ_ _=>AH) (by exact H.pick 10 [3,4] Z) Z J Z Z (Ay [16] J O (Al (BV Z Z Z Z (AQ Z Z) (Ar (λh=>absurd Z h) (AV J (gn (Zc 1 Z ?_))))))));replace H:=H.f2.d.f8.f4.f8.f5.f5.f5.f8.f8.f8;exact gf λ_ g=>⟨(PG.set i9 (e8,L8)),o,o9,m9,(k9:Int),er,(g.all Z),H,⟨a6,by omega,λq9=>by obtain ⟨z1,z2⟩:=c3.z (by have:=q9.2;omega);subst z1;rw[z2];exact ⟨Na a4,Z,Z⟩⟩⟩
   refine Z0 6 [0] Z (Af Z (λh4=>?_) (λh4=>?_))
   ·refine Zc 1 Z ?_;replace H:=H.f7.f6;refine Bf (Sep z (blk p [Y pd,Y pv,Y pw] 35::blk b1 [I e.kd,I e.ci,I e.ca,I e.cc,I e.cf,I e.cs,I e.cq,.bool e.sy,.bool e.od] 28::R)) 14 Z J (A4 H λw b=>?_)
    have H:=b.l9;refine Bo [0,1,2,3,4,5,6,7,8] [1,0,2,1,3,1] J (λ_ hx=>(AN (hx.blk 0 Z) (AN (hx.blk 1 Z) AH))) (by exact H.pick 9 [0,1] Z) Z J Z Z (Ay [9] J O (Al (Br Z Z Z Z Z Z (λw=>call13 _ w) (F1 PG Z a3.inv U a7 e.ca e.cc a9.2.1 a9.2.2.1) H.f6.f6 Z ?_)));rintro _ w _ (⟨b5,rfl,rfl⟩|⟨i9,e9,L9,⟨a4,a8,c0⟩,(⟨hE,rfl,rfl⟩|⟨hE,ru,rfl,rfl⟩)⟩) b
    ·have H:=b.l9;refine Ar (λ_=>(H.pick 9 [2,3] Z)) (Bo [10,11,12] [] J (λ_ _=>AH) (by exact H.pick 9 [2,3] Z) Z J Z Z (Ay [13] J O (Al (BV Z Z Z Z (AQ Z Z) (Ar (λh=>absurd Z h) (AV J (gn (Z0 20 [4] Z ?_))))))));replace H:=H.f8.f4.f8.f5.f5.f5.f8.f8.f8;exact gf λ_ g=>⟨PG,o,s,mG,0,31,(g.all Z),H,⟨l,by omega,λ_=>⟨Z,Z,Z⟩⟩⟩
    ·have H:=b.l9;refine Ar (λ_=>(H.pick 9 [2,3] Z)) (Bo [10,11,12] [] J (λ_ _=>AH) (by exact H.pick 9 [2,3] Z) Z J Z Z (Ay [13] J O (Al (BV Z Z Z Z (AQ Z Z) (Ar (λh=>absurd Z h) (AV J (gn (Z0 6 [0] Z (An 100 Z (λh5=>?_) (λh5=>?_))))))))))
     ·refine Z2 4 [1,2,0] H Z (z_E_ Z (call7 _) (FZ) H ?_);intro w H;replace H:=H.l9;refine z_E_ Z (call8 _) (I8 none) H.f1 ?_;intro w H;replace H:=H.l9;refine AD 106 (v:=I (cnt (AR n s.C) 0 1024:Int)) Z Z (Z0 5 [0] Z (Af Z (λh6=>?_) (λh6=>?_)))
      ·exact absurd Z h6
      refine Zc 2 Z ?_;replace H:=H.f8.f4.f8.f5.f4.f5.f8.f8.f8;exact gf λ_ g=>⟨PG,o,s,mG,0,(Bp e9.sz true e.ca e.cc),(g.all Z),H,⟨l,by omega,λ_=>⟨Z,Z,Z⟩⟩⟩
     refine Zc 14 Z ?_;replace H:=H.f8.f4.f8.f5.f5.f5.f8.f8.f8;exact gf λ_ g=>⟨PG,o,s,mG,0,(Bp e9.sz true e.ca e.cc),(g.all Z),H,⟨l,by omega,λ_=>⟨Z,Z,Z⟩⟩⟩
    have H:=b.l10;have j3:=H.sy 0 (·.slc);refine Ar (λ_=>(H.pick 10 [3,4] Z)) (Bo [10,11,12] [] J (λ_ _=>AH) (by exact H.pick 10 [3,4] Z) Z J Z Z (Ay [13] J O (Al (BV Z Z Z Z (AQ Z Z) (Ar (λh=>absurd Z h) (AV J (gn (Z2 10 [3,1,3,0] H Z (z_E_ Z (call7 _) (FZ) H.f1 ?_)))))))));intro w H;replace H:=H.l10;refine z_E_ Z (call8 _) (I8 none) H.f2 ?_;intro w H;replace H:=H.l10;refine AD 106 (v:=I (cnt (AR n s.C) 0 1024:Int)) Z Z (Z0 5 [0] Z (Af Z (λh7=>?_) (λh7=>?_)))
    ·exact absurd Z h7
    refine Zc 2 Z ?_;replace H:=H.f2.d.f8.f4.f8.f5.f4.f5.f8.f8.f8;exact gf λ_ g=>⟨PG,o,s,mG,0,0,(g.all Z),H,⟨l,by omega,λ_=>⟨Z,Z,Z⟩⟩⟩
   refine Z0 6 [0] Z (Af Z (λh8=>?_) (λh8=>?_))
   ·replace H:=H.f7.f6;refine Bf (Sep z (blk p [Y pd,Y pv,Y pw] 35::blk b1 [I e.kd,I e.ci,I e.ca,I e.cc,I e.cf,I e.cs,I e.cq,.bool e.sy,.bool e.od] 28::R)) 15 Z J (A4 H λw b=>?_)
    have H:=b.l9;refine Bo [0,1,2,3,4,5,6,7,8] [1,0,2,1,3,1] J (λ_ hx=>(AN (hx.blk 0 Z) (AN (hx.blk 1 Z) AH))) (by exact H.pick 9 [0,1] Z) Z J Z Z (Ay [9] J O (Al (Br Z Z Z Z Z Z (λw=>call14 _ w) (Kv PG Z a3.inv U a7 e.ca e.cc a9.2.1 a9.2.2.1) H.f6.f6 Z ?_)));rintro _ w _ (⟨b5,rfl,rfl⟩|⟨i9,e9,L9,⟨a4,a8,c0⟩,(⟨hE,rfl,rfl⟩|⟨hE,k9,o9,e8,L8,m9,er,⟨⟨c3,_⟩,i2,g4⟩,rfl,rfl⟩)⟩) b
    ·have H:=b.l9;refine Ar (λ_=>(H.pick 9 [2,3] Z)) (Bo [10,11,12,13] [] J (λ_ _=>AH) (by exact H.pick 9 [2,3] Z) Z J Z Z (Ay [14] J O (Al (BV Z Z Z Z (AQ Z Z) (Ar (λh=>absurd Z h) (AV J (gn (Zc 1 Z ?_))))))));replace H:=H.f8.f4.f8.f5.f5.f5.f8.f8.f8;exact gf λ_ g=>⟨PG,o,s,mG,0,31,(g.all Z),H,⟨l,by omega,λ_=>⟨Z,Z,Z⟩⟩⟩
    ·have H:=b.l9;refine Ar (λ_=>(H.pick 9 [2,3] Z)) (Bo [10,11,12,13] [] J (λ_ _=>AH) (by exact H.pick 9 [2,3] Z) Z J Z Z (Ay [14] J O (Al (BV Z Z Z Z (AQ Z Z) (Ar (λh=>absurd Z h) (AV J (gn (Zc 1 Z ?_))))))));replace H:=H.f8.f4.f8.f5.f5.f5.f8.f8.f8;exact gf λ_ g=>⟨PG,o,s,mG,0,(Bp e9.sz (true) e.ca e.cc),(g.all Z),H,⟨l,by omega,λ_=>⟨Z,Z,Z⟩⟩⟩
    have H:=b.l9;rw[<-Cx PG i9 e8 L8] at H;have K9:=H.says 1 Z (λh q=>trA.k q);have d2:=H.says 1 Z (λh q=>trA.d64 q);have a6:=l.ea a4 a8 c3 d2 K9;refine Ar (λ_=>(H.pick 9 [2,3] Z)) (Bo [10,11,12,13] [] J (λ_ _=>AH) (by exact H.pick 9 [2,3] Z) Z J Z Z (Ay [14] J O (Al (BV Z Z Z Z (AQ Z Z) (Ar (λh=>absurd Z h) (AV J (gn (Zc 1 Z ?_))))))));replace H:=H.f8.f4.f8.f5.f5.f5.f8.f8.f8;exact gf λ_ g=>⟨(PG.set i9 (e8,L8)),o,o9,m9,(k9:Int),er,(g.all Z),H,⟨a6,by omega,λq9=>by obtain ⟨z1,z2⟩:=c3.z (by have:=q9.2;omega);subst z1;rw[z2];exact ⟨Na a4,Z,Z⟩⟩⟩
   refine Z0 6 [0] Z (Af Z (λh9=>?_) (λh9=>?_))
   ·refine Z2 6 [1,5,0] H Z (Au Z (call15 _) (JM c6 U d8 d3 U a7 a3.xo e2) H.f4.f4 ?_);rintro _ w _ (⟨b5,rfl,rfl⟩|⟨j9,e9,⟨e0,a8,c0⟩,(⟨d9,rfl,rfl⟩|⟨d5,rfl,rfl⟩|⟨i9,C9,a4,rfl,rfl⟩)⟩) b
    ·have H:=b.l9;refine Zc 6 Z ?_;replace H:=H.f8.f8.f8.f8.f5.f5.f8.f8.f8;exact gf λ_ g=>⟨PG,o,s,mG,0,31,(g.all Z),H,⟨l,by omega,λ_=>⟨Z,Z,Z⟩⟩⟩
    ·have H:=b.l9;refine Zc 6 Z ?_;replace H:=H.f8.f8.f8.f8.f5.f5.f8.f8.f8;exact gf λ_ g=>⟨PG,o,s,mG,0,32,(g.all Z),H,⟨l,by omega,λ_=>⟨Z,Z,Z⟩⟩⟩
    ·(exfalso;omega)
    have H:=b.l9;obtain ⟨L9,d7⟩:=a3.pl_at e0;rw[<-Cx PG i9 _ L9] at H;have K9:=H.says 1 Z (λh q=>trA.k q);have a6:=l.snap a4.1 d7 a8 K9;refine Zc 6 Z ?_;replace H:=H.f8.f8.f8.f8.f5.f5.f8.f8.f8;exact gf λ_ g=>⟨(PG.set i9 ({e9 with id:=o,st:=1},L9)),(o+1),⟨s.N,C9,Ba e9.r.toNat++s.R⟩,(mG+2),0,0,(g.all Z),H,⟨a6,by omega,λq9=>absurd Z q9.1⟩⟩
   refine Z0 6 [0] Z (Af Z (λg5=>?_) (λg5=>?_))
   ·refine Z2 6 [1,5,0] H Z (Au Z (call16 _) (Jd c6 U d8 d3 U a7) H.f4.f4 ?_);rintro _ w _ (⟨b5,rfl,rfl⟩|⟨i9,e9,C9,⟨e0,a8,c0⟩,rfl,rfl⟩) b
    ·have H:=b.l9;refine Zc 3 Z ?_;replace H:=H.f8.f8.f8.f8.f5.f5.f8.f8.f8;exact gf λ_ g=>⟨PG,o,s,mG,0,31,(g.all Z),H,⟨l,by omega,λ_=>⟨Z,Z,Z⟩⟩⟩
    have H:=b.l9;obtain ⟨L9,d7⟩:=a3.pl_at e0;rw[<-Cx PG i9 _ L9] at H;have K9:=H.says 1 Z (λh q=>trA.k q);have a6:=l.del d7 a8 K9;refine Zc 3 Z ?_;replace H:=H.f8.f8.f8.f8.f5.f5.f8.f8.f8;exact gf λ_ g=>⟨(PG.set i9 ({e9 with st:=2},L9)),o,⟨s.N,C9,s.R⟩,(mG+2),0,0,(g.all Z),H,⟨a6,by omega,λq9=>absurd Z q9.1⟩⟩
   refine Z0 6 [0] Z (Af Z (λg9=>?_) (λg9=>?_))
   ·replace H:=H.f7.f6;refine Bf (Sep z (blk p [Y pd,Y pv,Y pw] 35::blk b1 [I e.kd,I e.ci,I e.ca,I e.cc,I e.cf,I e.cs,I e.cq,.bool e.sy,.bool e.od] 28::R)) 9 Z J (A4 H λw b=>?_)
    have H:=b.l9;refine Bo [0,1,2,3,4,5,6] [1,0,5,1] J (λ_ hx=>(AN (hx.blk 0 Z) (AN (hx.blk 1 Z) AH))) (by exact H.pick 9 [0,1] Z) Z J Z Z (Ay [7] J O (Al (Br Z Z Z Z Z Z (λw=>call17 _ w) (Gg PG Z a3.inv U a7 e.cs) H.f6.f6 Z ?_)));rintro _ w _ (⟨b5,rfl,rfl⟩|⟨i9,e9,L9,⟨a4,a8,c0⟩,(⟨d4,rfl,rfl⟩|⟨j0,rfl,rfl⟩|⟨g0,C9,rfl,rfl⟩)⟩) b
    ·have H:=b.l9;refine Ar (λ_=>(H.pick 9 [2,3] Z)) (Ay [8] J O (Al (BV Z Z Z Z (AQ Z Z) (Ar (λh=>absurd Z h) (AV J (gn (Zc 1 Z ?_)))))));replace H:=H.f8.f4.f8.f5.f5.f5.f8.f8.f8;exact gf λ_ g=>⟨PG,o,s,mG,0,31,(g.all Z),H,⟨l,by omega,λ_=>⟨Z,Z,Z⟩⟩⟩
    ·have H:=b.l9;refine Ar (λ_=>(H.pick 9 [2,3] Z)) (Ay [8] J O (Al (BV Z Z Z Z (AQ Z Z) (Ar (λh=>absurd Z h) (AV J (gn (Zc 1 Z ?_)))))));replace H:=H.f8.f4.f8.f5.f5.f5.f8.f8.f8;exact gf λ_ g=>⟨PG,o,s,mG,0,1,(g.all Z),H,⟨l,by omega,λ_=>⟨Z,Z,Z⟩⟩⟩
    ·have H:=b.l9;refine Ar (λ_=>(H.pick 9 [2,3] Z)) (Ay [8] J O (Al (BV Z Z Z Z (AQ Z Z) (Ar (λh=>absurd Z h) (AV J (gn (Zc 1 Z ?_)))))));replace H:=H.f8.f4.f8.f5.f5.f5.f8.f8.f8;exact gf λ_ g=>⟨PG,o,s,mG,0,33,(g.all Z),H,⟨l,by omega,λ_=>⟨Z,Z,Z⟩⟩⟩
    have H:=b.l9;rw[<-Cx PG i9 _ L9] at H;have K9:=H.says 1 Z (λh q=>trA.k q);have a6:=l.resize a4 a8 g0.1 g0.2 K9;refine Ar (λ_=>(H.pick 9 [2,3] Z)) (Ay [8] J O (Al (BV Z Z Z Z (AQ Z Z) (Ar (λh=>absurd Z h) (AV J (gn (Zc 1 Z ?_)))))));replace H:=H.f8.f4.f8.f5.f5.f5.f8.f8.f8;exact gf λ_ g=>⟨(PG.set i9 ({e9 with sz:=e.cs},L9)),o,⟨s.N,C9,s.R⟩,(mG+2),0,0,(g.all Z),H,⟨a6,by omega,λq9=>absurd Z q9.1⟩⟩
   refine Zc 2 Z ?_;exact gf λ_ g=>⟨PG,o,s,mG,0,0,(g.all Z),H,⟨l,by omega,λ_=>⟨Z,Z,Z⟩⟩⟩
  rintro a w ⟨P2,n2,o2,m2,dn,eN,g,H,hI⟩;revert a;obtain ⟨c5,k1,b0⟩:=hI;refine Zc 1 Z ?_;have g2:(P2.map Prod.fst).length=8:=by obtain ⟨_,q⟩:=c5;exact q.hv
  refine Z2 5 [1,5,0] H Z (Au Z (call9 _) (Ic g2 O) H.f3 ?_);rintro _ w _ ⟨e3,t,rfl,rfl⟩ H;replace H:=H.l11;have d1:=H.sy 0 (·.slc);have e4:=H.sy 1 (·.1.slc);refine Za 0 [] H Z ?_;intro b3 w H;refine AC Z Z (Am 0 H Z Z Z Z (vs:=[I n2,e3,t]) Z (Ab Z (Ab d1.one (Ab e4.one Aw))) J O (out:=[I n2,e3,t]) Z) ?_;rintro w H;replace H:=H.l12;refine Zc 4 Z ?_;obtain ⟨a1,c1,rfl⟩:=c9;obtain ⟨a2,c2,rfl⟩:=d1;refine Z2 10 [1,0,0,1,4,0,0] H Z (Af Z (λh0=>U) (λh0=>?_));refine Zc 3 Z ?_;replace H:=H.f9;obtain ⟨uw,H⟩:=H.wd;replace H:=H.l13;have i7:=H.sy 1 (·.slc);obtain ⟨aw,cw,rfl⟩:=i7;have j4:=H.sy 1 (·.rd.slcapZ);refine Z4 12 [2,10,0,0,0] H Z ?_;intro w H;have H9:=H.pick 13 [0,2,3,4,5,6,7,8,9,10,11,12] Z;clear H;have b:=H9.nilg 62 4;clear H9;have H:Sep z (grow 62 4 (.slice none 0 0) 0 []::blk pw [.slice none 0 0,I 1] 57::blk b3 [I n2,.slice a2 ((P2.map Prod.fst).length) c2,t] 41::grow 59 6 (.slice a2 ((P2.map Prod.fst).length) c2) ((P2.map Prod.fst).length) (AY (P2.map Prod.fst))::B4 t ([])::voA pv pp n2 ([]) (P2.map Prod.fst)::blk b2 [I o,.slice a1 ((PG.map Prod.fst).length) c1,y] 41::grow 59 6 (.slice a1 ((PG.map Prod.fst).length) c1) ((PG.map Prod.fst).length) (AY (PG.map Prod.fst))::B4 y ([])::trA Tb pp m2 n o2 none::blk p [Y pd,Y pv,Y pw] 35::blk b1 [I e.kd,I e.ci,I e.ca,I e.cc,I e.cf,I e.cs,I e.cq,.bool e.sy,.bool e.od] 28::A::R) w:=b;clear b;refine Zc 5 Z ?_;refine AF (σ:=Nat×Value×List Wv) (λ⟨k,u3,W3⟩=>[(15,I (k:Int)),(1,.slice ao es.length oc),(5,Y p),(7,I (i:Int)),(8,Y b1),(9,I a7),(10,I (cnt (AR n s.C) 0 1024:Int)),(11,Y b2),(12,I dn),(13,I eN),(14,Y b3),(25,I (i:Int)),(26,.slice ao es.length oc),(27,I (es.length:Int)),(28,.bool (decide ((i:Int)<(es.length:Int)))),(31,.slice ao es.length oc),(32,I (i:Int)),(33,GG ao (i*9)),(34,.agg #[I e.kd,I e.ci,I e.ca,I e.cc,I e.cf,I e.cs,I e.cq,.bool e.sy,.bool e.od]),(35,Y p),(36,.agg #[I e.kd,I e.ci,I e.ca,I e.cc,I e.cf,I e.cs,I e.cq,.bool e.sy,.bool e.od]),(37,I a7),(38,Y p),(39,Y p),(40,.pointer (some ⟨p,1,none⟩)),(41,Y pv),(42,Y pp),(43,I (cnt (AR n s.C) 0 1024:Int)),(44,Y p),(45,Y p),(46,.pointer (some ⟨p,1,none⟩)),(47,Y pv),(48,.agg #[I o,.slice a1 ((PG.map Prod.fst).length) c1,y]),(154,Y p),(155,Y p),(156,.pointer (some ⟨p,1,none⟩)),(157,Y pv),(158,.agg #[I n2,.slice a2 ((P2.map Prod.fst).length) c2,t]),(159,.pointer (some ⟨b3,1,none⟩)),(160,.slice a2 ((P2.map Prod.fst).length) c2),(161,I (((P2.map Prod.fst).length:Nat):Int)),(162,.pointer (some ⟨b2,1,none⟩)),(163,.slice a1 ((PG.map Prod.fst).length) c1),(164,I (((PG.map Prod.fst).length:Nat):Int)),(165,.bool (decide ((((P2.map Prod.fst).length:Nat):Int)≠(((PG.map Prod.fst).length:Nat):Int)))),(166,Y p),(167,Y p),(168,.pointer (some ⟨p,2,none⟩)),(169,Y pw),(170,Y pw),(171,Y pw)])
    (λ⟨k,u3,W3⟩ w=>Sep z (grow 62 4 u3 W3.length (Bq W3)::blk pw [u3,I 1] 57::blk b3 [I n2,.slice a2 ((P2.map Prod.fst).length) c2,t] 41::grow 59 6 (.slice a2 ((P2.map Prod.fst).length) c2) ((P2.map Prod.fst).length) (AY (P2.map Prod.fst))::B4 t ([])::voA pv pp n2 ([]) (P2.map Prod.fst)::blk b2 [I o,.slice a1 ((PG.map Prod.fst).length) c1,y] 41::grow 59 6 (.slice a1 ((PG.map Prod.fst).length) c1) ((PG.map Prod.fst).length) (AY (PG.map Prod.fst))::B4 y ([])::trA Tb pp m2 n o2 none::blk p [Y pd,Y pv,Y pw] 35::blk b1 [I e.kd,I e.ci,I e.ca,I e.cc,I e.cf,I e.cs,I e.cq,.bool e.sy,.bool e.od] 28::A::R) w/\(k<=8/\W3.length<=k)) (λ⟨k,u3,W3⟩=>8-k) ⟨0,.slice none 0 0,[]⟩
    fr_z ⟨(by simpa [Bq] using H),⟨AeR _,Ael _⟩⟩ ?_
  clear H;rintro ⟨k,u3,W3⟩ w ⟨b,hI⟩;dsimp only at hI b ⊢;have H:=b.l13;have k2:=H.sy 0 (·.slc);obtain ⟨j6,k6⟩:=hI;refine Z2 10 [1,2,0,0] H Z (Af Z (λi6=>?_) (λi6=>?_))
  ·refine Zc 6 Z ?_;obtain ⟨x1,b7⟩:∃x,(PG.map Prod.fst)[k]?=some x:=⟨_,Aef U⟩;have d6:=(H.rv 7 (·.rd)).at (AI b7 0 _ Z)
   obtain ⟨x2,a0⟩:∃x,(P2.map Prod.fst)[k]?=some x:=⟨_,Aef U⟩;have f:=(H.rv 3 (·.rd)).at (AI a0 0 _ Z);refine Bu (Sep z _) J J H.drew (BS 3 [] Z J (B8 181 Z (λi1=>?_) (λi1=>?_)))
   ·refine BS 4 [] Z J (B8 185 Z (λd5=>?_) (λd5=>?_))
    ·refine DS 3 [1,0] (λ_ hx=>(AN (hx.blk 2 Z) AH)) Z J Z (AM Z Z Z (Aj Z (z:=6) (j:=k) (r:=k*6) J Z Z Z U f U) (AM Z Z Z (Bt Z Z (vs:=x2.cells) J (by simp[Vl.cells]) (λ_ hs k9 u9 e1=>(hs.rv 3 (·.rd)).at (AI a0 k9 u9 e1))) (DS 3 [1,0] (λ_ hx=>(AN (hx.blk 6 Z) AH)) Z J Z (AM Z Z Z (Aj Z (z:=6) (j:=k) (r:=k*6) J Z Z Z U d6 U) (AM Z Z Z (Bt Z Z (vs:=x1.cells) J (by simp[Vl.cells]) (λ_ hs k9 u9 e1=>(hs.rv 7 (·.rd)).at (AI b7 k9 u9 e1))) (AM Z Z Z (Acn (cs:=[x2.id,x2.st,x2.sz,x2.q,x2.r,x2.mp]) (es:=[x1.id,x1.st,x1.sz,x1.q,x1.r,x1.mp]) (m:=6) Z J Z Z J J Z Z) (BS 1 [] Z J (BB (λw b=>?_)))))))));have H:=b.l13;refine gn (Zc 1 Z (Af Z (λc4=>?_) (λc4=>?_)))
     ·(exfalso;obtain ⟨q1,q2,q3⟩:=b0 ⟨by assumption,by assumption⟩;first|exact absurd q2 c4|exact absurd (congrArg Nat.cast q3) c4|(rw[q1,b7] at a0;cases a0;exact absurd Z c4)|omega)
     refine Zc 3 Z ?_;have f:=(H.rv 3 (·.rd)).at (AI a0 0 _ Z);have a5:=(H.rv 3 (·.rd)).at (AI a0 1 _ Z);refine Z2 4 [1,2,0] H Z (Ad Z (Aj Z (z:=6) (j:=k) (r:=k*6) J Z Z Z U f U) (Ad Z (Bi Z (k:=1) (r:=k*6+1) J Z f Z) (Ad Z (Ax Z Z J (AB a5)) (Z0 3 [0] Z (Af Z (λg7=>?_) (λg7=>?_))))))
     ·replace H:=H.f3.f3.f3.f10;refine Bf (Sep z (blk p [Y pd,Y pv,Y pw] 35::blk pw [u3,I 1] 57::blk b3 [I n2,.slice a2 ((P2.map Prod.fst).length) c2,t] 41::grow 59 6 (.slice a2 ((P2.map Prod.fst).length) c2) ((P2.map Prod.fst).length) (AY (P2.map Prod.fst))::R)) 23 Z J (A4 H λw b=>?_)
      have H:=b.l13;refine Bo [0,1,2,3,4,5,6,7,8,9,10,11,12,13] [2,0,2,0,0,1,1,2] J (λ_ hx=>(AN (hx.blk 0 Z) (AN (hx.blk 1 Z) (AN (hx.blk 2 Z) AH)))) (by exact H.pick 13 [0,1,2,3] Z) Z J Z Z (By 14 J Z Z J J J Z Z Z (Aj Z (z:=6) (j:=k) (r:=k*6) J Z Z Z U f U) (H.pick 13 [0,1,2,3] Z) (By 15 J Z Z J J J Z Z Z (Bi Z (k:=0) (r:=k*6) J Z f Z) (H.pick 13 [0,1,2,3] Z) (By 16 J Z Z J J J Z Z Z (Ax Z Z J (λ_ hs=>(hs.rv 3 (·.rd)).at (AI a0 0 _ Z))) (H.pick 13 [0,1,2,3] Z) (By 17 J Z Z J J J Z Z Z (Be Z Z (out:=[I x2.id,I 0,I 0,.slice none 0 0]) J) (H.pick 13 [0,1,2,3] Z) (Ay [18] J O (Al (BU Z Z Z Z (AP H Z J A0 Z (by decide) (by decide) (out:=[I x2.id,I 0,I 0,.slice none 0 0]) J) ?_)))))));rintro _ w ⟨b4,rfl,H⟩;replace H:=H.l14;refine Ar (λ_=>(H.pick 14 [1,2,3,4] Z)) (Ay [19] J O (Al (BU Z Z Z Z (AX 5 H Z Z J A0 Z Z (H.rv 0 (·.rd U U O Z)) (Ab Z (Ab Z (Ab Z (Ab Z Aw)))) U) ?_)));rintro v5 w b;have b:Sep z (blk b4 [I x2.id,I 0,I 0,.slice none 0 0] 62::blk p [Y pd,Y pv,Y pw] 35::blk pw [u3,I 1] 57::blk b3 [I n2,.slice a2 ((P2.map Prod.fst).length) c2,t] 41::grow 59 6 (.slice a2 ((P2.map Prod.fst).length) c2) ((P2.map Prod.fst).length) (AY (P2.map Prod.fst))::grow 62 4 v5 (W3.length+1) (Bq W3++[I x2.id,I 0,I 0,.slice none 0 0])::B4 t ([])::voA pv pp n2 ([]) (P2.map Prod.fst)::blk b2 [I o,.slice a1 ((PG.map Prod.fst).length) c1,y] 41::grow 59 6 (.slice a1 ((PG.map Prod.fst).length) c1) ((PG.map Prod.fst).length) (AY (PG.map Prod.fst))::B4 y ([])::trA Tb pp m2 n o2 none::blk b1 [I e.kd,I e.ci,I e.ca,I e.cc,I e.cf,I e.cs,I e.cq,.bool e.sy,.bool e.od] 28::A::R) w:=b;have i3:(Bq W3++[I x2.id,I 0,I 0,.slice none 0 0]:List Value)=Bq (W3++[(⟨x2.id,0,0,.slice none 0 0,[]⟩:Wv)]):=(by rw[Fo];rfl);rw[i3] at b;rw[show (W3.length+1:Nat)=(W3++[(⟨x2.id,0,0,.slice none 0 0,[]⟩:Wv)]).length from by simp] at b;have H:=b.l14;have e6:=H.sy 5 (·.slc);refine Ar (λ_=>(H.pick 14 [1,2,3,4] Z)) (Bo [20,21] [0] J (λ_ _=>AH) (by exact H.pick 14 [1,2,3,4] Z) Z J Z Z (Ay [22] J O (Al (Bl Z Z Z (Ip 2 H Z Z Z Z e6.cells e6.one J) ?_))));rintro w H;replace H:=H.l14;refine Ar (λh=>absurd Z h) (AV J (gn (Z1 7 [] [(k:Int)+1] Z U ?_)));replace H:=H.d.f12.f12.f2.f12.f12.f12.f12.f12.f12.f11.f11.f11.f12;refine gf ?_;intro _ g;refine ⟨⟨k+1,v5,(W3++[(⟨x2.id,0,0,.slice none 0 0,[]⟩:Wv)])⟩,g.cz,⟨H,?_⟩,?_⟩
      ·exact ⟨by show k+1<=8;omega,by simp;omega⟩
      (dsimp only;omega)
     refine Z1 8 [] [(k:Int)+1] Z U (gf ?_);intro _ g;refine ⟨⟨k+1,u3,W3⟩,g.cz,⟨H,?_⟩,?_⟩
     ·exact ⟨by show k+1<=8;omega,by dsimp only;omega⟩
     (dsimp only;omega)
    refine BS 12 [] Z J (BB (λw b=>?_));have H:=b.l13;refine gn (Zc 5 Z ?_);have f:=(H.rv 3 (·.rd)).at (AI a0 0 _ Z);have a5:=(H.rv 3 (·.rd)).at (AI a0 1 _ Z);refine Z2 4 [1,2,0] H Z (Ad Z (Aj Z (z:=6) (j:=k) (r:=k*6) J Z Z Z U f U) (Ad Z (Bi Z (k:=1) (r:=k*6+1) J Z f Z) (Ad Z (Ax Z Z J (AB a5)) (Z0 3 [0] Z (Af Z (λi5=>?_) (λi5=>?_))))))
    ·replace H:=H.f3.f3.f3.f10;refine Bf (Sep z (blk p [Y pd,Y pv,Y pw] 35::blk pw [u3,I 1] 57::blk b3 [I n2,.slice a2 ((P2.map Prod.fst).length) c2,t] 41::grow 59 6 (.slice a2 ((P2.map Prod.fst).length) c2) ((P2.map Prod.fst).length) (AY (P2.map Prod.fst))::R)) 23 Z J (A4 H λw b=>?_)
     have H:=b.l13;refine Bo [0,1,2,3,4,5,6,7,8,9,10,11,12,13] [2,0,2,0,0,1,1,2] J (λ_ hx=>(AN (hx.blk 0 Z) (AN (hx.blk 1 Z) (AN (hx.blk 2 Z) AH)))) (by exact H.pick 13 [0,1,2,3] Z) Z J Z Z (By 14 J Z Z J J J Z Z Z (Aj Z (z:=6) (j:=k) (r:=k*6) J Z Z Z U f U) (H.pick 13 [0,1,2,3] Z) (By 15 J Z Z J J J Z Z Z (Bi Z (k:=0) (r:=k*6) J Z f Z) (H.pick 13 [0,1,2,3] Z) (By 16 J Z Z J J J Z Z Z (Ax Z Z J (λ_ hs=>(hs.rv 3 (·.rd)).at (AI a0 0 _ Z))) (H.pick 13 [0,1,2,3] Z) (By 17 J Z Z J J J Z Z Z (Be Z Z (out:=[I x2.id,I 0,I 0,.slice none 0 0]) J) (H.pick 13 [0,1,2,3] Z) (Ay [18] J O (Al (BU Z Z Z Z (AP H Z J A0 Z (by decide) (by decide) (out:=[I x2.id,I 0,I 0,.slice none 0 0]) J) ?_)))))));rintro _ w ⟨b6,rfl,H⟩;replace H:=H.l14;refine Ar (λ_=>(H.pick 14 [1,2,3,4] Z)) (Ay [19] J O (Al (BU Z Z Z Z (AX 5 H Z Z J A0 Z Z (H.rv 0 (·.rd U U O Z)) (Ab Z (Ab Z (Ab Z (Ab Z Aw)))) U) ?_)));rintro v7 w b;have b:Sep z (blk b6 [I x2.id,I 0,I 0,.slice none 0 0] 62::blk p [Y pd,Y pv,Y pw] 35::blk pw [u3,I 1] 57::blk b3 [I n2,.slice a2 ((P2.map Prod.fst).length) c2,t] 41::grow 59 6 (.slice a2 ((P2.map Prod.fst).length) c2) ((P2.map Prod.fst).length) (AY (P2.map Prod.fst))::grow 62 4 v7 (W3.length+1) (Bq W3++[I x2.id,I 0,I 0,.slice none 0 0])::B4 t ([])::voA pv pp n2 ([]) (P2.map Prod.fst)::blk b2 [I o,.slice a1 ((PG.map Prod.fst).length) c1,y] 41::grow 59 6 (.slice a1 ((PG.map Prod.fst).length) c1) ((PG.map Prod.fst).length) (AY (PG.map Prod.fst))::B4 y ([])::trA Tb pp m2 n o2 none::blk b1 [I e.kd,I e.ci,I e.ca,I e.cc,I e.cf,I e.cs,I e.cq,.bool e.sy,.bool e.od] 28::A::R) w:=b;have g1:(Bq W3++[I x2.id,I 0,I 0,.slice none 0 0]:List Value)=Bq (W3++[(⟨x2.id,0,0,.slice none 0 0,[]⟩:Wv)]):=(by rw[Fo];rfl);rw[g1] at b;rw[show (W3.length+1:Nat)=(W3++[(⟨x2.id,0,0,.slice none 0 0,[]⟩:Wv)]).length from by simp] at b;have H:=b.l14;have e5:=H.sy 5 (·.slc);refine Ar (λ_=>(H.pick 14 [1,2,3,4] Z)) (Bo [20,21] [0] J (λ_ _=>AH) (by exact H.pick 14 [1,2,3,4] Z) Z J Z Z (Ay [22] J O (Al (Bl Z Z Z (Ip 2 H Z Z Z Z e5.cells e5.one J) ?_))));rintro w H;replace H:=H.l14;refine Ar (λh=>absurd Z h) (AV J (gn (Z1 7 [] [(k:Int)+1] Z U ?_)));replace H:=H.d.f12.f12.f2.f12.f12.f12.f12.f12.f12.f11.f11.f11.f12;refine gf ?_;intro _ g;refine ⟨⟨k+1,v7,(W3++[(⟨x2.id,0,0,.slice none 0 0,[]⟩:Wv)])⟩,g.cz,⟨H,?_⟩,?_⟩
     ·exact ⟨by show k+1<=8;omega,by simp;omega⟩
     (dsimp only;omega)
    refine Z1 8 [] [(k:Int)+1] Z U (gf ?_);intro _ g;refine ⟨⟨k+1,u3,W3⟩,g.cz,⟨H,?_⟩,?_⟩
    ·exact ⟨by show k+1<=8;omega,by dsimp only;omega⟩
    (dsimp only;omega)
   refine BS 16 [] Z J (BB (λw b=>?_));have H:=b.l13;refine gn (Zc 5 Z ?_);have f:=(H.rv 3 (·.rd)).at (AI a0 0 _ Z);have a5:=(H.rv 3 (·.rd)).at (AI a0 1 _ Z);refine Z2 4 [1,2,0] H Z (Ad Z (Aj Z (z:=6) (j:=k) (r:=k*6) J Z Z Z U f U) (Ad Z (Bi Z (k:=1) (r:=k*6+1) J Z f Z) (Ad Z (Ax Z Z J (AB a5)) (Z0 3 [0] Z (Af Z (λi8=>?_) (λi8=>?_))))))
   ·replace H:=H.f3.f3.f3.f10;refine Bf (Sep z (blk p [Y pd,Y pv,Y pw] 35::blk pw [u3,I 1] 57::blk b3 [I n2,.slice a2 ((P2.map Prod.fst).length) c2,t] 41::grow 59 6 (.slice a2 ((P2.map Prod.fst).length) c2) ((P2.map Prod.fst).length) (AY (P2.map Prod.fst))::R)) 23 Z J (A4 H λw b=>?_)
    have H:=b.l13;refine Bo [0,1,2,3,4,5,6,7,8,9,10,11,12,13] [2,0,2,0,0,1,1,2] J (λ_ hx=>(AN (hx.blk 0 Z) (AN (hx.blk 1 Z) (AN (hx.blk 2 Z) AH)))) (by exact H.pick 13 [0,1,2,3] Z) Z J Z Z (By 14 J Z Z J J J Z Z Z (Aj Z (z:=6) (j:=k) (r:=k*6) J Z Z Z U f U) (H.pick 13 [0,1,2,3] Z) (By 15 J Z Z J J J Z Z Z (Bi Z (k:=0) (r:=k*6) J Z f Z) (H.pick 13 [0,1,2,3] Z) (By 16 J Z Z J J J Z Z Z (Ax Z Z J (λ_ hs=>(hs.rv 3 (·.rd)).at (AI a0 0 _ Z))) (H.pick 13 [0,1,2,3] Z) (By 17 J Z Z J J J Z Z Z (Be Z Z (out:=[I x2.id,I 0,I 0,.slice none 0 0]) J) (H.pick 13 [0,1,2,3] Z) (Ay [18] J O (Al (BU Z Z Z Z (AP H Z J A0 Z (by decide) (by decide) (out:=[I x2.id,I 0,I 0,.slice none 0 0]) J) ?_)))))));rintro _ w ⟨b8,rfl,H⟩;replace H:=H.l14;refine Ar (λ_=>(H.pick 14 [1,2,3,4] Z)) (Ay [19] J O (Al (BU Z Z Z Z (AX 5 H Z Z J A0 Z Z (H.rv 0 (·.rd U U O Z)) (Ab Z (Ab Z (Ab Z (Ab Z Aw)))) U) ?_)));rintro v9 w b;have b:Sep z (blk b8 [I x2.id,I 0,I 0,.slice none 0 0] 62::blk p [Y pd,Y pv,Y pw] 35::blk pw [u3,I 1] 57::blk b3 [I n2,.slice a2 ((P2.map Prod.fst).length) c2,t] 41::grow 59 6 (.slice a2 ((P2.map Prod.fst).length) c2) ((P2.map Prod.fst).length) (AY (P2.map Prod.fst))::grow 62 4 v9 (W3.length+1) (Bq W3++[I x2.id,I 0,I 0,.slice none 0 0])::B4 t ([])::voA pv pp n2 ([]) (P2.map Prod.fst)::blk b2 [I o,.slice a1 ((PG.map Prod.fst).length) c1,y] 41::grow 59 6 (.slice a1 ((PG.map Prod.fst).length) c1) ((PG.map Prod.fst).length) (AY (PG.map Prod.fst))::B4 y ([])::trA Tb pp m2 n o2 none::blk b1 [I e.kd,I e.ci,I e.ca,I e.cc,I e.cf,I e.cs,I e.cq,.bool e.sy,.bool e.od] 28::A::R) w:=b;have g3:(Bq W3++[I x2.id,I 0,I 0,.slice none 0 0]:List Value)=Bq (W3++[(⟨x2.id,0,0,.slice none 0 0,[]⟩:Wv)]):=(by rw[Fo];rfl);rw[g3] at b;rw[show (W3.length+1:Nat)=(W3++[(⟨x2.id,0,0,.slice none 0 0,[]⟩:Wv)]).length from by simp] at b;have H:=b.l14;have e7:=H.sy 5 (·.slc);refine Ar (λ_=>(H.pick 14 [1,2,3,4] Z)) (Bo [20,21] [0] J (λ_ _=>AH) (by exact H.pick 14 [1,2,3,4] Z) Z J Z Z (Ay [22] J O (Al (Bl Z Z Z (Ip 2 H Z Z Z Z e7.cells e7.one J) ?_))));rintro w H;replace H:=H.l14;refine Ar (λh=>absurd Z h) (AV J (gn (Z1 7 [] [(k:Int)+1] Z U ?_)));replace H:=H.d.f12.f12.f2.f12.f12.f12.f12.f12.f12.f11.f11.f11.f12;refine gf ?_;intro _ g;refine ⟨⟨k+1,v9,(W3++[(⟨x2.id,0,0,.slice none 0 0,[]⟩:Wv)])⟩,g.cz,⟨H,?_⟩,?_⟩
    ·exact ⟨by show k+1<=8;omega,by simp;omega⟩
    (dsimp only;omega)
   refine Z1 8 [] [(k:Int)+1] Z U (gf ?_);intro _ g;refine ⟨⟨k+1,u3,W3⟩,g.cz,⟨H,?_⟩,?_⟩
   ·exact ⟨by show k+1<=8;omega,by dsimp only;omega⟩
   (dsimp only;omega)
  refine Zc 2 Z (gx (Zc 3 Z ?_));have b:=(H.pick 13 [1,0,2,3,4,5,6,7,8,9,10,11,12] Z).toWd;clear H;have H:Sep z (wdA pw 1 W3::blk b3 [I n2,.slice a2 ((P2.map Prod.fst).length) c2,t] 41::grow 59 6 (.slice a2 ((P2.map Prod.fst).length) c2) ((P2.map Prod.fst).length) (AY (P2.map Prod.fst))::B4 t ([])::voA pv pp n2 ([]) (P2.map Prod.fst)::blk b2 [I o,.slice a1 ((PG.map Prod.fst).length) c1,y] 41::grow 59 6 (.slice a1 ((PG.map Prod.fst).length) c1) ((PG.map Prod.fst).length) (AY (PG.map Prod.fst))::B4 y ([])::trA Tb pp m2 n o2 none::blk p [Y pd,Y pv,Y pw] 35::blk b1 [I e.kd,I e.ci,I e.ca,I e.cc,I e.cf,I e.cs,I e.cq,.bool e.sy,.bool e.od] 28::A::R) w:=b;clear b;refine Z0 4 [0] Z (An 229 Z (λi0=>?_) (λi0=>?_))
  ·refine Z0 4 [0] Z (An 233 Z (λg8=>?_) (λg8=>?_))
   ·refine Z2 4 [1,9,0] H Z (z_E_ Z (call7 _) (FZ) H.f4 ?_);intro w H;replace H:=H.l12;refine z_E_ Z (call8 _) (I8 none) H.f8 ?_;intro w H;replace H:=H.l12;refine AD 239 (v:=I (cnt (AR n o2.C) 0 1024:Int)) Z Z (Z0 3 [0] Z (An 242 Z (λc8=>?_) (λc8=>?_)))
    ·(exfalso;obtain ⟨q1,q2,q3⟩:=b0 ⟨by assumption,by assumption⟩;first|exact absurd q2 c8|exact absurd (congrArg Nat.cast q3) c8|(rw[q1,b7] at a0;cases a0;exact absurd Z c8)|omega)
    refine Z2 7 [0,3,0,0,6,0,0] H Z (An 249 Z (λc7=>?_) (λc7=>?_))
    ·(exfalso;obtain ⟨q1,q2,q3⟩:=b0 ⟨by assumption,by assumption⟩;first|exact absurd q2 c7|exact absurd (congrArg Nat.cast q3) c7|(rw[q1,b7] at a0;cases a0;exact absurd Z c7)|omega)
    refine Z2 4 [1,9,0] H Z (z_E_ Z (call7 _) (FZ) H.f1 ?_);intro w H;replace H:=H.l12;refine z_E_ Z (call18 _) (GB _ _ _ _ none) H.f1 ?_;intro w H;refine Z1 13 [] [(i:Int)+1] Z U ?_;replace H:=H.f10.d.f8.d.f7.d.f6.d.f5.d.f4.d.f3.d.f4.f3.f2.f3.f4;refine gf ?_;intro _ g;refine ⟨⟨i+1,n2,P2,o2,W3,m2⟩,g.cz,⟨H,?_⟩,?_⟩
    ·exact ⟨by show i+1<=es.length;omega,by show m2<=6+16*(i+1);omega,c5,by dsimp only;omega⟩
    (dsimp only;omega)
   refine Z1 35 [] [(i:Int)+1] Z U ?_;replace H:=H.f10.d.f7.d.f6.d.f5.d.f3.d.f2.d.f1.d.f4.f1.f3.f3.f4;refine gf ?_;intro _ g;refine ⟨⟨i+1,n2,P2,o2,W3,m2⟩,g.cz,⟨H,?_⟩,?_⟩
   ·exact ⟨by show i+1<=es.length;omega,by show m2<=6+16*(i+1);omega,c5,by dsimp only;omega⟩
   (dsimp only;omega)
  refine Z1 39 [] [(i:Int)+1] Z U ?_;replace H:=H.f10.d.f7.d.f6.d.f5.d.f3.d.f2.d.f1.d.f4.f1.f3.f3.f4;refine gf ?_;intro _ g;refine ⟨⟨i+1,n2,P2,o2,W3,m2⟩,g.cz,⟨H,?_⟩,?_⟩
  ·exact ⟨by show i+1<=es.length;omega,by show m2<=6+16*(i+1);omega,c5,by dsimp only;omega⟩
  (dsimp only;omega)
 refine Zc 2 Z (gx (Zc 3 Z ?_));replace H:=(((H.pick 5 [2,4] Z).trTab).2).l2;refine Zc 1 Z (z_E_ Z (call19 _) (WU Tb hT) H ?_);intro w H;refine Zc 4 Z (Zr Z ?_);exact ⟨_,⟨Z,Z⟩,H.pick 2 [1,0] Z⟩
end
section
open Go.ChangeShapes Go.WideShapes Go.ChangeAt Go.RowKit Go.Joins
theorem own:ownKnob prog.godebug=none:=by kernel_rfl
theorem Aaw:laidOutB prog=true:=by kernel_rfl
theorem DO:prog.cellsOf 3=1:=by kernel_rfl
def Nq:DataW Unit->List Value
 | .lit (.int k n)=>[.int k n]
 | .agg parts=>flatWs parts
 | _=>[]
where flatWs:List (DataW Unit)->List Value
 | []=>[]
 | d::ds=>Nq d++flatWs ds
def WV:Obj->Obj
 | .cells c t frozen=>.cells (if c.size=32 then (Nq Rows.laid_unicode_utf8_acceptRanges).toArray else if c.size=64 then (Nq Rows.laid_math_bits_deBruijn64tab).toArray else (Nq Rows.laid_unicode_utf8_first).toArray) t frozen
 | o=>o
noncomputable def Jh(os:Os):World:=
 {World.holding prog os ⟨#[],#[],[]⟩ with heap:=(((World.holding prog os ⟨#[],#[],[]⟩).heap.modify 0 WV).modify 1 WV).modify 2 WV}
theorem JT{α:Type}(P:Nat->α->Prop):∀n,(∀i,i<n->∃a,P i a)->∃l:List α,l.length=n/\∀i a,l[i]?=some a->P i a
 | 0,_=>⟨[],Z,λi a h=>by simp at h⟩
 | n+1,h=>by
  obtain ⟨l,hl,hp⟩:=JT P n (λi hi=>h i U);obtain ⟨a,d⟩:=h n U;refine ⟨l++[a],by simp[hl],λi b c=>?_⟩;rcases Aeu i n with q|q
  ·rw[Aep U] at c;exact hp i b c
  rw[Aev U] at c;obtain rfl:i=n:=by have:=(Aee.1 c).1;simp at this;omega
  simp[hl] at c;subst c;exact d
abbrev Ads(x:Int):Prop:= -9223372036854775808<=x/\x<=9223372036854775807
theorem Ls(h:(Lit.int .i64 t).wf=true):Ads t:=by
 simp only[Lit.wf,AeF,decide_eq_true_eq] at h;have a:IntKind.i64.min= -9223372036854775808:=by decide
 have b:IntKind.i64.max=9223372036854775807:=by decide
 rw[a,b] at h;exact h
theorem WW{H:Type}(d:DataW H):1<=Rows.uptoBulk d:=by
 cases d with
 | lit l=>cases l<;>simp[Rows.uptoBulk]
 | nil=>simp[Rows.uptoBulk]
 | ptr d=>simp[Rows.uptoBulk]
 | slice elems spare=>simp[Rows.uptoBulk]
 | agg parts=>simp[Rows.uptoBulk]
 | iface t d=>simp[Rows.uptoBulk]
 | map entries=>simp[Rows.uptoBulk]
 | held h=>simp[Rows.uptoBulk]
theorem WX{H:Type}(l:List (DataW H)):l.length<=Rows.uptoBulkAll l:=by
 induction l with
 | nil=>simp
 | cons x r ih=>have:=WW x;simp only[Rows.uptoBulkAll,Aej];omega
theorem Pr:prog.cellsOf 28=9:=by kernel_rfl
theorem Aax{H:Type}{enc:TypeId×Value->H}{d:DataW H}{p:List MemPlace}(h:DataW.trod enc prog z 0 (λ_=>true) true m 28 V=some (d,p)):
  ∃e:ClE,V=ClE.cells e/\e.In:=by
 obtain ⟨xs,n,rfl,hx,hl,o,a⟩:=DataW.trod_struct underlying28 h;rw[Pr] at hl
 match V,hl with
 | [c0,c1,c2,c3,c4,c5,c6,c7,c8],_=>
  have f0:=a 0 _ Z;have c:=a 1 _ Z;have j:=a 2 _ Z;have r:=a 3 _ Z;have k:=a 4 _ Z;have f:=a 5 _ Z;have i:=a 6 _ Z;have g:=a 7 _ Z;have q:=a 8 _ Z
  match xs,o with
  | [y0,y1,y2,y3,y4,y5,y6,y7,y8],_=>
   have b:prog.cellsOf 4=1:=by kernel_rfl
   try dsimp only at f0
   try simp only[DO,b,Aey,Ae6,Ae8,AfH,AeU,AeB] at f0
   try dsimp only at c
   try simp only[DO,b,Aey,Ae6,Ae8,AfH,AeU,AeB] at c
   try dsimp only at j
   try simp only[DO,b,Aey,Ae6,Ae8,AfH,AeU,AeB] at j
   try dsimp only at r
   try simp only[DO,b,Aey,Ae6,Ae8,AfH,AeU,AeB] at r
   try dsimp only at k
   try simp only[DO,b,Aey,Ae6,Ae8,AfH,AeU,AeB] at k
   try dsimp only at f
   try simp only[DO,b,Aey,Ae6,Ae8,AfH,AeU,AeB] at f
   try dsimp only at i
   try simp only[DO,b,Aey,Ae6,Ae8,AfH,AeU,AeB] at i
   try dsimp only at g
   try simp only[DO,b,Aey,Ae6,Ae8,AfH,AeU,AeB] at g
   try dsimp only at q
   try simp only[DO,b,Aey,Ae6,Ae8,AfH,AeU,AeB] at q
   obtain ⟨z0,e0,_,w0⟩:=Ags underlying3 f0;obtain ⟨z1,e1,_,w1⟩:=Ags underlying3 c;obtain ⟨z2,e2,_,w2⟩:=Ags underlying3 j;obtain ⟨z3,e3,_,w3⟩:=Ags underlying3 r;obtain ⟨z4,e4,_,w4⟩:=Ags underlying3 k;obtain ⟨z5,e5,_,w5⟩:=Ags underlying3 f;obtain ⟨z6,e6,_,w6⟩:=Ags underlying3 i;obtain ⟨z7,e7,_⟩:=DataW.trod_bool underlying4 g;obtain ⟨z8,e8,_⟩:=DataW.trod_bool underlying4 q;have x:=congrArg (λl=>l.headD .nilFunc) e0
   try simp at x
   subst x;have t:=congrArg (λl=>l.headD .nilFunc) e1
   try simp at t
   subst t;have w:=congrArg (λl=>l.headD .nilFunc) e2
   try simp at w
   subst w;have v:=congrArg (λl=>l.headD .nilFunc) e3
   try simp at v
   subst v;have g4:=congrArg (λl=>l.headD .nilFunc) e4
   try simp at g4
   subst g4;have g5:=congrArg (λl=>l.headD .nilFunc) e5
   try simp at g5
   subst g5;have s:=congrArg (λl=>l.headD .nilFunc) e6
   try simp at s
   subst s;have u:=congrArg (λl=>l.headD .nilFunc) e7
   try simp at u
   subst u;have y:=congrArg (λl=>l.headD .nilFunc) e8
   try simp at y
   subst y;exact ⟨⟨z0,z1,z2,z3,z4,z5,z6,z7,z8⟩,Z,Ls w0,Ls w2,Ls w3,Ls w4⟩
theorem Q8:∀(es:List ClE) (k:Nat) (u:Value),(Ig es)[k]?=some u->∃e,es[k/9]?=some e/\(ClE.cells e)[k%9]?=some u
 | [],k,u,h=>by simp[Ig] at h
 | x::es,k,u,h=>by
  have hl:(ClE.cells x).length=9:=rfl;simp only[Ig,AeJ] at h;rcases Aeu k 9 with q|q
  ·rw[Aep U] at h
   exact ⟨x,by rw[AgJ q];rfl,by rw[AfC q];exact h⟩
  rw[Aev U,hl] at h;obtain ⟨e,a,b⟩:=Q8 es (k-9) u h;refine ⟨e,?_,?_⟩
  ·rw[show k/9=(k-9)/9+1 from by omega];simpa using a
  rw[show k%9=(k-9)%9 from by omega];exact b
theorem WY{H:Type}{enc:TypeId×Value->H}{d:DataW H}{p:List MemPlace}(h:DataW.trod enc prog z 0 (λ_=>true) true m 22 [v]=some (d,p)):
  ∃es:List ClE,Rd 9 v es.length (Ig es) z/\(∀e∈es,e.In)/\es.length<=Rows.uptoBulk d:=by
 rcases DataW.trod_slice underlying22 h with ⟨f,_⟩|⟨a,a3,a0,c,rest,n,rfl,f,hx,_,a5,a2,a4,hg,_,_⟩
 ·simp only[Ag5,and_true] at f;subst f
  exact ⟨[],by simpa [Ig] using Rd.nil 9 z,λe he=>absurd he O,by simp⟩
 simp only[Ag5,and_true] at f;subst f;have hd:d=.slice (c.map (·.1)) (rest.map (·.1)):=by have:=congrArg Prod.fst hx;simpa using this
 obtain ⟨es,q,w⟩:=JT (λi (e:ClE)=>(∀j,j<9->z.cell? ((a.add (i*9)).add j)=(ClE.cells e)[j]?)/\e.In) a3 (λi hi=>by
  have hb:=hg i hi;rw[Pr] at hb;obtain ⟨y,hy⟩:∃y,c[i]?=some y:=⟨_,Aef U⟩;rw[hy,Option.bind_eq_some_iff] at hb;obtain ⟨cs,t,ht⟩:=hb;obtain ⟨e,rfl,s⟩:=Aax (d:=y.1) (p:=y.2) ht;exact ⟨e,(World.cells?_some t).2.2,s⟩)
 refine ⟨es,⟨some a,a0,by rw[q],by omega,(by unfold maxLen at a2;omega),by rw[Aav],λk u hk=>?_⟩,λe he=>?_,?_⟩
 ·obtain ⟨e,s,h2⟩:=Q8 _ k u hk
  have t:=(w _ e s).1 (k%9) (Nat.mod_lt _ U);rw[h2] at t;obtain ⟨b,g,l⟩:=a;have o:l=none:=by
   have a6:=(Aee.1 s).1;obtain ⟨r,x⟩:∃r,es[0]?=some r:=⟨_,Aef U⟩;have a1:=(w _ r x).1 0 U;have h0:z.cell? ⟨b,g,l⟩=some (.int .i64 r.kd):=by simpa [Addr.add,ClE.cells] using a1
   exact World.cell?_spot h0
  subst o;refine ⟨b,g,Z,?_⟩;unfold FG;have e2:((Addr.add ⟨b,g,none⟩ (k/9*9)).add (k%9))=⟨b,g+k,none⟩:=by
   rw[Go.WideShapes.add_plain,Go.WideShapes.add_plain];congr 1;omega
  rw[<-e2];exact t
 ·obtain ⟨i,hi⟩:=Ae5 he
  exact (w i e hi).2
 rw[q,hd];have:=WX (c.map (·.1));simp only[Rows.uptoBulk,Aei] at this ⊢;omega

theorem AcH:prog.globalNamed "math/bits.deBruijn64tab"=some 0:=by kernel_rfl
theorem WZ:(prog.globals[0]?).map (·.type)=some 297:=by kernel_rfl
theorem Aay:prog.cellsOf 297=64:=by kernel_rfl
theorem Aaz:prog.cellsOf 5=1:=by kernel_rfl
def tzL:List Int:=Lib.deBruijn64tab.map Int.ofNat
theorem Sb(h:laidMetH prog Rows.volumesRefusedUptoRow.laid z):Lib.TabIs prog z "math/bits.deBruijn64tab" .u8 tzL:=
 Lib.tabIs_of_head (rest:=[("unicode/utf8.acceptRanges",Rows.laid_unicode_utf8_acceptRanges),("unicode/utf8.first",Rows.laid_unicode_utf8_first)]) AcH WZ underlying297 underlying5 Aaz Aay h
theorem Mu{W:World}(h:Lib.TabIs prog W "math/bits.deBruijn64tab" .u8 tzL):∃t a,W.heap[0]?=some (.cells (tzL.map λz=>Value.int .u8 z).toArray t a):=by
 unfold Lib.TabIs World.var? at h;rw[AcH] at h;simp only[AgY] at h
 cases e:W.heap[0]? with
 | none=>rw[e] at h;cases h
 | some o=>
  rw[e] at h;cases o<;>simp at h;subst h;exact ⟨_,_,Z⟩
def JO(W:World):Ai:=λh=>∀k,k<W.heap.size->k≠0->h k=W.heap[k]?
def Ps(W:World):Ai:=λh=>h 0=W.heap[0]?
theorem AcI:(List.range 64).all (λj=>tzL[j]? == some ((SX j).toNat:Int))=true:=by decide+kernel
theorem Adt(d:Lib.TabIs prog z "math/bits.deBruijn64tab" .u8 tzL):Ht (Ps z):=λh c j f=>by
 obtain ⟨t,b,e⟩:=Mu d;have:=Af4.1 AcI j (AfT.2 f);have a:tzL[j]?=some ((SX j).toNat:Int):=by simpa using this
 exact ⟨_,t,b,(show h 0=_ from c).trans e,by simp[a,u8]⟩
theorem AaA(a:Lib.TabIs prog z "math/bits.deBruijn64tab" .u8 tzL):0<z.heap.size:=by
 obtain ⟨t,b,e⟩:=Mu a;rcases AgV z.heap.size with q|q
 ·rw[Ae3 U] at e;cases e
 exact q
theorem Un{W:World}(g:Lib.TabIs prog W "math/bits.deBruijn64tab" .u8 tzL)(a:FG n m v W)(f:∀x,v≠ .int .u8 x):∀h,JO W h->celH h n m v:=λh j=>by
 have b:n≠0:=λe=>by
  subst e;obtain ⟨t,d,e⟩:=Mu g;unfold FG World.cell? at a;rw[e] at a;simp at a;obtain ⟨z,_,i⟩:=a;exact f _ i.symm
 unfold FG World.cell? at a
 cases hh:W.heap[n]? with
 | none=>rw[hh] at a;simp at a
 | some o'=>
  rw[hh] at a
  cases o' with
  | cells cs ty d=>
   simp at a;have c:n<W.heap.size:=by
    rcases Aeu n W.heap.size with q|q
    ·exact q
    rw[Ae3 q] at hh;cases hh
   exact ⟨cs,ty,d,(j n c b).trans hh,a⟩
  | _=>simp at a
theorem W4(f:Lib.TabIs prog z "math/bits.deBruijn64tab" .u8 tzL)(r:Rd m v n V z)(k:∀u∈V,∀x,u≠ .int .u8 x):∀h,JO z h->rdH m v n V h:=λh g=>by
 obtain ⟨t,c,e,d,i,s,l⟩:=r;exact ⟨t,c,e,d,i,s,λj u a=>by
  obtain ⟨b,p,o,q⟩:=l j u a;exact ⟨b,p,o,Un f q (k u (Aeg a)) h g⟩⟩
theorem Adu{es:List ClE}:∀u∈Ig es,∀x,u≠ .int .u8 x:=λu a x=>by
 simp only[Ig,Agj] at a;obtain ⟨e,_,b⟩:=a;simp[ClE.cells] at b;rcases b with rfl|rfl|rfl|rfl|rfl|rfl|rfl|rfl|rfl<;>simp
theorem Q9{o:Obj}(e:h.part C i n=some o):h n=some o:=by
 unfold Hp.part at e;split at e
 ·exact e
 cases e
theorem Cn.run2{P:Program}{f:FuncId}{args:List Value}{W:World}(n:0<W.heap.size)(h:Cn P f args [JO W,Ps W] (λv G=>v=u/\G=[JO W,Ps W])):Calls P f args.toArray W (Ret λv W'=>v=u/\Ext No W W'):=by
 have l:Sep W [JO W,Ps W] W:=⟨Z,Z,Z,λq=>if q=0 then 1 else 0,λi A a=>by
  match i,a with
  | 0,a=>cases a;intro k c e;simp[Hp.part,hp,e]
  | 1,a=>cases a;show Hp.part _ _ _ 0=_;simp[Hp.part,hp]⟩
 refine Ret.mono (h W [] W l) ?_;rintro v W' ⟨Γ,⟨rfl,rfl⟩,H⟩;obtain ⟨own,b⟩:=H.own;have j:=b 0 _ Z;have m:=b 1 _ Z;have d:∀k,k<W.heap.size->hp W' k=W.heap[k]? :=λk c=>by
  obtain ⟨o,g⟩:∃o,W.heap[k]?=some o:=⟨_,AgQ c⟩;rw[g];by_cases q:k=0
  ·subst q;exact Q9 ((show _=_ from m).trans g)
  exact Q9 ((j k c q).trans g)
 have H2:Sep W [base W] W':=⟨H.os,H.tape,H.output,λk=>if k<W.heap.size then 0 else 1,λi A a=>by
  match i,a with
  | 0,a=>cases a;intro k c;unfold Hp.part;rw[if_pos (by simp[c])];exact d k c⟩
 exact ⟨Z,Sep.done 0 H2 Z⟩
section
variable{H:Type}{enc:TypeId×Value->H}{P:Program}{w:World}{base:Nat}{spare:Nat->Bool}{held:Bool}
end
section
variable{H:Type}{enc:TypeId×Value->H}{P:Program}{w:World}{base:Nat}{spare:Nat->Bool}{held:Bool}
theorem Adv{t1:TypeId}{args:Array Value}{ds:List (DataW H)}{ps:List MemPlace}(h:DataW.TrodAll enc P w base spare held [T,t1] args.toList ds ps):
  ∃v0 b a d1 c d,args= #[v0,b]/\ds=[a,d1]/\ps=c++d/\DataW.Trod enc P w base spare held T v0 a c/\DataW.Trod enc P w base spare held t1 b d1 d:=by
 obtain ⟨v0,k,a,m,c,o,f,rfl,rfl,e,j⟩:=trodAll_cons h;obtain ⟨b,l,d1,n,d,p,rfl,rfl,rfl,i,g⟩:=trodAll_cons j;obtain ⟨rfl,rfl,rfl⟩:=trodAll_nil g;exact ⟨v0,b,a,d1,c,d,by cases args;simp_all,Z,by simp,e,i⟩
theorem AaB{t1:TypeId}{c d1:DataW H}{a b:List MemPlace}(e:DataW.Trod enc P w base spare held T v c a)(d:DataW.Trod enc P w base spare held t1 u d1 b):DataW.TrodAll enc P w base spare held [T,t1] [v,u] [c,d1] (a++b):=
 ⟨a,_,e,(trodAll_mk1 d),Z⟩
end
section
variable{H:Type}{enc:TypeId×Value->H}{P:Program}{w:World}{base:Nat}{spare:Nat->Bool}{held:Bool}
end
end
open Go.ChangeShapes Go.WideShapes Go.ChangeAt Go.RowKit Go.Joins
theorem AaC(a:Os):laidMet prog Rows.volumesRefusedUptoRow.laid ((Jh a).forCall (λ_ _=>0) ⟨#[],#[.int .i64 0,.slice none 0 0],[]⟩).memory:=
 laidMet_of_run' 8 J J
theorem Uo(b:Os){H:Type}(enc:TypeId×Value->H):∃a,DataW.whole enc prog ((Jh b).forCall (λ_ _=>0) ⟨#[],#[.int .i64 0,.slice none 0 0],[]⟩).memory f3.params.toList Rows.volumesRefusedSpec.vars false #[Value.int .i64 0,.slice none 0 0].toList 8=some ([.lit (.int .i64 0),.nil],[],a):=
 ⟨[],by kernel_rfl⟩
theorem vre_contract(H:Type)(enc:TypeId×Value->H)(W:World)(base:Nat)(args:Array Value)(ds s:List (DataW H))(b:List MemPlace)
  (a:∀(j:Nat) t v,f3.params[j]?=some t->args[j]?=some v->Value.okWide prog W .any base t v)
  (o:DataW.Whole enc prog f3.params.toList Rows.volumesRefusedSpec.vars false W args.toList ds s b)(r:Rows.uptoSmall H (ds++s)=true)(n:laidMetH prog Rows.volumesRefusedUptoRow.laid W):
  Calls prog 3 args W λe W'=>∃v,e=.returned v/\Rows.volumesRefusedSpec.post enc prog f3 false true false false W args v W':=by
 have c:=o;obtain ⟨p,q,i,hV,rfl,_,_⟩:=o;have z:DataW.TrodAll enc prog W 0 (λ_=>true) true f3.params.toList args.toList ds p:=i;rw[params3] at z a;obtain ⟨v0,v1,d0,d1,p0,p1,rfl,rfl,rfl,h0,w⟩:=Adv z;obtain ⟨rfl,rfl⟩:=trodVars_none hV;simp only[AeY] at c r;have t1:∀x∈p1,x.block<W.heap.size:=λx hx=>by have:=c.lt x (by simp[hx]);simpa using this
 have hb:Rows.uptoBulkAll [d0,d1]<=1048576:=of_decide_eq_true r;simp only[Rows.uptoBulkAll] at hb;obtain ⟨i0,rfl,rfl,rfl,f⟩:=open_int underlying3 (a 0 3 v0 Z Z) h0;obtain ⟨a0,l1,c1,rfl⟩:=okWide_slice underlying22 (a 1 22 v1 Z Z);obtain ⟨m,g⟩:=id w;obtain ⟨es1,k,d,l⟩:=WY (h:=g);refine (Cn.run2 (AaA (Sb n)) (Kw i0 (Ls f) (JO W) (Ps W) (Adt (Sb n)) es1 U (λh hh=>⟨W4 (Sb n) k (Adu) h hh,d⟩))).mono λe W' y=>?_;obtain ⟨u,rfl,rfl,x⟩:∃u,e=Ending.returned u/\u=.bool true/\Ext No W W':=by cases e<;>first|exact ⟨_,rfl,y⟩|exact y.elim
 exact ⟨_,rfl,_,_,_,[],_,[],c,trodAll_mk1 (shut_bool underlying4 true),AaB (shut_int underlying3 f) (Below.trod Aaw J (of_decide_eq_true J) w x.below t1),rfl,x.below.frame _,λh=>by cases h⟩
theorem Sc(e:Os)(a:e.Started)(H:Type)(enc:TypeId×Value->H)(F:Stop.Interp):
  ReturnsInHanded {} checked e 3 .any ((Rows.OpenSpec.upto Rows.volumesRefusedSpec).preRow enc prog f3 Rows.volumesRefusedUptoRow.domain false Rows.volumesRefusedUptoRow.laid) (((Rows.OpenSpec.upto Rows.volumesRefusedSpec).at F).post enc prog f3 false true false false):=by
 obtain ⟨f,h⟩:=Uo e enc;refine returnsInHanded_of_row (C:=checked) (s:=Rows.OpenSpec.upto Rows.volumesRefusedSpec) own a J func3
  (witness_row_at (enc:=enc) (C:=checked) false (Jh e) #[.int .i64 0,.slice none 0 0] Z J J J
   (OpenSpec.preRow_of_cond 8 h J (λk i=>by cases i;kernel_rfl) J (AaC e))) ?_
 intro W base args ds l b d g _ c _ j _ _;exact vre_contract H enc W base args ds l b d g (c _ Z) j
theorem vre_j1:(Rows.volumesRefusedUptoRow.inPlace==Tryz.pinned.checked.prog.inPlace 3)=true:=by kernel_rfl
theorem AcJ:(Rows.volumesRefusedUptoRow.unfollowed==Tryz.pinned.checked.prog.unfollowed 3)=true:=by kernel_rfl
theorem AcK:(Rows.volumesRefusedUptoRow.recurses==Tryz.pinned.checked.prog.recurses 3)=true:=by kernel_rfl
theorem AcL:(Rows.volumesRefusedUptoRow.named==Tryz.pinned.checked.prog.varsNamed 3)=true:=by kernel_rfl
theorem AcM:joinedFacts Tryz.pinned.checked.prog 3 f3 (Rows.OpenSpec.upto Rows.volumesRefusedSpec).bare Rows.volumesRefusedUptoRow=true:=by
 unfold joinedFacts;rw[vre_j1,AcJ,AcK,AcL]
 kernel_rfl
theorem W5:Rows.VolumesRefusedUptoSaid:=
 OpenClaim.holds_of_cond 3 f3 Z Z Z Z Z Z Z ⟨Z,Z,Z,Z,Z⟩ Z Z Z Z Z J func3 AcM
  (of_decide_eq_true J) (by unfold Func.isWrapper;first|(rw[if_pos (by decide+kernel)];kernel_rfl)|(rw[if_neg (by decide+kernel)];exact ⟨rfl,rfl⟩))
  (λb a H enc _ F=>by rw[OpenClaim.pre_eq_preRow];exact Sc b a H enc F)
theorem Up(f:FuncId)(b:Func)(e:Tryz.pinned.checked.prog.funcNamed "polder/polderlaw15.VolumesRefused"=some f)(a:Tryz.pinned.checked.prog.funcs[f]?=some b):
  false=Tryz.pinned.checked.prog.looks []/\∀(j:Nat) t,b.params[j]?=some t->Tryz.pinned.checked.prog.wantsStandIn t=false:=by
 obtain rfl:f=3:=Age ((show prog.funcNamed "polder/polderlaw15.VolumesRefused"=some 3 by kernel_rfl).symm.trans e) |>.symm;obtain rfl:b=f3:=(Age (func3.symm.trans a)).symm;refine ⟨by kernel_rfl,λj t d=>?_⟩;rw[params3] at d;have c:=Array.mem_of_getElem? d;simp at c;rcases c with rfl|rfl<;>first|exact (show prog.wantsStandIn 3=false by kernel_rfl)|exact (show prog.wantsStandIn 22=false by kernel_rfl)
theorem volumesRefused_holds:Rows.VolumesRefusedUptoCardSaid:=
 Claim7.holds_tied_plain_at .later [] _ _ _ _ W5 (λ_ h=>by cases h) J (λ_ h=>by cases h) volumesRefusedUpto_row_tie Z ⟨Z,Z⟩ J Z Up J
end Go.Proofs.YtkblhjdljaoghaaGreatDoor
