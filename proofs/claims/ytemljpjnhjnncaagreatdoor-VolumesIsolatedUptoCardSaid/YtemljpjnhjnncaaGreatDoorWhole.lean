/-
  Law VolumesIsolated: what is written to one volume is read in no other one. No condition.
-/
import Derived.Test.YtemljpjnhjnncaaGreatDoorPart5
set_option maxRecDepth 100000
set_option linter.unusedSimpArgs false
set_option linter.unusedVariables false
open Go.Proofs.Tryz
namespace Go.Proofs.YtemljpjnhjnncaaGreatDoor
open Go.RowKit
variable{n m i j e g r:Nat}{t s p q:Int}{V:List Value}{B S:List UInt8}{T:TypeId}{L:List (Nat×Value)}{v u y:Value}{z:World}{l:List Int}{R:List Nat}{N:Act->World->Prop}{b c:Bool}{x:Operand}{o:List Oper}{K:Value->World->Prop}{C:Nat->Nat}{P:Program}{F:Nat->Bool}{a:Act}
variable{Γ:List Ai}{h:Hp}{A:Ai}
variable{D:Dsk}
variable{X:List E}
variable{W:List Wv}
section
variable{n:Nat}{o:TB}{nx:Int}{P:List Pl}{W W2:List Wv}{A A2:Ai}
theorem VRel.core{N:Hm}(h:VRel N P W)(c:W2.map Wv.core=W.map Wv.core):VRel N P W2:=by
 refine ⟨c▸h.p,?_⟩;have d:(W.map Wv.core).Pairwise λa b=>a.1<b.1:=by rw[AfJ];exact h.s
 rw[<-c,AfJ] at d;exact d
theorem LvI.copy(h:LvI n o nx P W A)(b:W2.map Wv.core=W.map Wv.core)(a:∀x∈W2,InB A2 x.u x.V):LvI n o nx P W2 A2:=⟨h.inv,h.rel.core b,h.nxe,a,h.d,h.k⟩
theorem LvI.free(h:LvI n o nx P W A)(hi:(P.map Prod.fst)[i]?=some v0):P[i]?=some pl0:=by
 rw[Aeo] at hi
 cases e:P[i]? with
 | none=>rw[e] at hi;cases hi
 | some p=>
  rw[e] at hi;have hp:p.1=v0:=by simpa using hi
  rcases h.inv.all p (Aec e) with rfl|q
  ·rfl
  have:=q.id;rw[hp] at this;have:(1:Int)<=0:=this.1;omega
theorem LvI.pl_at(_:LvI n o nx P W A){e:Vl}(hi:(P.map Prod.fst)[i]?=some e):∃L,P[i]?=some (e,L):=by
 rw[Aeo] at hi
 cases q:P[i]? with
 | none=>rw[q] at hi;cases hi
 | some p=>rw[q] at hi;obtain ⟨a,b⟩:=p;simp only[AeR,Ael] at hi;exact ⟨b,by rw[<-hi]⟩
theorem LvI.full(h:LvI n o nx P W A)(b:∀e∈P.map Prod.fst,e≠v0):∀e∈P.map Prod.fst,e.st≠0:=λe a=>by
 obtain ⟨p,hp,rfl⟩:=Aek.1 a;rcases h.inv.all p hp with rfl|q
 ·exact absurd Z (b _ a)
 have:=q.st;omega
theorem LvI.less(h:LvI n o nx P W A)(hi:P[i]?=some pl0):W.length<8:=by
 have a:=h.rel.p.length_eq;simp only[Dz,Aef] at a;have b:(P.filter Dy).length<P.length:=by
  refine Nat.lt_of_le_of_ne (AfT _ _) λq=>?_;have:=(List.length_filter_eq_length_iff.1 q) pl0 (Aec hi);simp[Dy,pl0,v0] at this
 have:=h.inv.len;omega
theorem LvI.fresh(h:LvI n o nx P W A):∀q∈P,q.1.id≠nx:=λq hq=>by
 rcases h.inv.all q hq with rfl|p
 ·have:=h.inv.nb;show (0:Int)≠nx;omega
 have:=p.id;omega
theorem LvI.ltn(h:LvI n o nx P W A):∀x∈W,x.id<nx:=λx a=>(h.w a).2.2.2.2.2
theorem LvI.rfree(h:LvI n o nx P W A)(hi:P[i]?=some pl0):o.R.Perm (CZ (P.eraseIdx i)):=by
 have:=h.inv.r.trans (I7 hi);exact this
theorem LvI.new(h:LvI n o nx P W A){i:Nat}(hi:P[i]?=some pl0){e:Vl}{L:List E}(a:e.id=nx)(f:e.st=1)(hp:PlOk o.N (nx+1) (e,L)){C2:Nat->Nat}{u:Value}{V:List Bk}(j:V=AW o.N L)(k:Ink A A2)(l:InB A2 u V)(K:TrK n ⟨o.N,C2,A8 e.r.toNat++o.R⟩ none):LvI n ⟨o.N,C2,A8 e.r.toNat++o.R⟩ (nx+1) (P.set i (e,L)) (W++[⟨nx,e.sz,e.q,u,V⟩]) A2:=by
 have g:=h.nx9;refine ⟨h.inv.upd hi ⟨by omega,by omega⟩ (λc _ M q=>q) hp (.inr λq hq=>by show q.1.id≠e.id;rw[a];exact h.fresh q hq) ((h.rfree hi).append_left _),h.rel.new hi (show (0:Int)≠1 by omega) f ?_ (λx b=>h.ltn x b) (λ_ _ _=>rfl),?_,λx b=>?_,h.d,K⟩
 ·simp only[Wv.core,CH,a,j]
 ·have:=Pi (p2:=(e,L)) hi (show e.st≠0 by omega)
  have m:=h.nxe;have:(if pl0.1.st=0 then (1:Int) else 0)=1:=if_pos Z;omega
 rcases Aep.1 b with q|q
 ·exact k _ _ (h.bag x q)
 simp at q;subst q;exact l
theorem LvI.create(h:LvI n o nx P W A)(hi:(P.map Prod.fst)[i]?=some v0)(hs:1<=t/\t<=1048576)(hq:0<=s/\s<=1048576){C2:Nat->Nat}(a:Ink A A2)(b:InB A2 u [])(K:TrK n ⟨o.N,C2,o.R⟩ none):
  LvI n ⟨o.N,C2,o.R⟩ (nx+1) (P.set i (⟨nx,1,t,s,0,0⟩,[])) (W++[⟨nx,t,s,u,[]⟩]) A2:=by
 have c:=h.nx9;exact h.new (h.free hi) (e:=⟨nx,1,t,s,0,0⟩) (L:=[]) Z Z ⟨⟨by show 1<=nx;omega,by show nx<nx+1;omega⟩,.inl Z,hs,hq,⟨by show (0:Int)<=0;omega,by show (0:Int)<=1023;omega⟩,.inl ⟨Z,Z⟩,by simp[vals],Z,λ_ q=>by cases q⟩ Z a b K
theorem LvI.snap(h:LvI n o nx P W A){k:Nat}(hi:(P.map Prod.fst)[i]?=some v0){e:Vl}{L:List E}(b:P[j]?=some (e,L))(hs:e.st=1){x:Wv}(d:W[k]?=some x)(a:x.id=e.id){C2:Nat->Nat}(l:Ink A A2)(m:InB A2 u x.V)(K:TrK n ⟨o.N,C2,A8 e.r.toNat++o.R⟩ none):
  LvI n ⟨o.N,C2,A8 e.r.toNat++o.R⟩ (nx+1) (P.set i ({e with id:=nx,st:=1},L)) (W++[⟨nx,x.sz,x.q,u,x.V⟩]) A2:=by
 have p:=h.nx9;have q:=h.ok b hs;obtain ⟨g,c,f⟩:=h.both b hs d a;have:=h.new (h.free hi) (e:= {e with id:=nx,st:=1}) (L:=L) (C2:=C2) (u:=u) (V:=x.V) Z Z ⟨⟨by show 1<=nx;omega,by show nx<nx+1;omega⟩,.inl Z,q.sz,q.q,q.r,q.root,q.nd,q.mp,q.key⟩ f l m K;rw[g,c];exact this
theorem LvI.del(h:LvI n o nx P W A){i j:Nat}{e:Vl}{L:List E}(hi:P[i]?=some (e,L))(hs:e.st=1){x:Wv}(g:W[j]?=some x)(a:x.id=e.id){C2:Nat->Nat}(K:TrK n ⟨o.N,C2,o.R⟩ none):
  LvI n ⟨o.N,C2,o.R⟩ nx (P.set i ({e with st:=2},L)) (W.take j++W.drop (j+1)) A:=by
 have q:=h.ok hi hs;have hq:=q.id;dsimp only at hq;refine ⟨h.inv.upd hi ⟨Afm _,h.inv.nb.2⟩ (λc _ M q=>q) ⟨q.id,.inr Z,q.sz,q.q,q.r,q.root,q.nd,q.mp,q.key⟩ (.inl Z) (by have b:=h.inv.r.trans (I7 hi);exact b),h.rel.del h.inv hi g (show e.id≠0 by omega) (show (2:Int)≠1 by omega) a (λ_ _ _=>rfl),?_,λy f=>h.bag y ?_,h.d,K⟩
 ·have:=Ja (p2:=({e with st:=2},L)) hi hs (show (2:Int)≠0 by omega)
  have k:=h.nxe;omega
 rcases Aep.1 f with q|q
 ·exact Afg q
 exact Afu q
theorem LvI.last(h:LvI n o nx P W A){e:Vl}{L:List E}(hi:P[i]?=some (e,L))(hs:e.st=1)(d:Int):HZ (AW o.N L) d↔Bw d 1048576 L≠[]:=by
 have q:=h.ok hi hs;have r:=q.root.srt;have k:Srt L:=r.1;constructor
 ·rintro ⟨b,x,v⟩
  have u:=Aec x;obtain ⟨y,g,rfl⟩:=Aek.1 u;have hk:=r.2 y g;intro w;have:y∈Bw d 1048576 L:=Afb.2 ⟨g,by simp only[decide_eq_true_eq];dsimp only at v;omega⟩;rw[w] at this;cases this
 intro j;obtain ⟨y,g⟩:=List.exists_mem_of_ne_nil _ j;obtain ⟨s,t⟩:=Afb.1 g;simp only[decide_eq_true_eq] at t;obtain ⟨a,l⟩:=AeY.1 s;have p:a<L.length:=(Aeb.1 l).1;have f:L[L.length-1]?=some L[L.length-1]:=Aed U;refine ⟨(L[L.length-1].1,_),by unfold AW;rw[Aeo,Aef,f];rfl,?_⟩;show d<=L[L.length-1].1;rcases Aeq a (L.length-1) with c|c
 ·have z:=(Afv.1 k) a (L.length-1) p (show L.length-1<L.length by omega) c
  have m:=(Aeb.1 l).2;rw[m] at z;omega
 have:a=L.length-1:=by omega
 subst this;have m:=(Aeb.1 l).2;rw[m];omega
theorem LvI.resize(h:LvI n o nx P W A){e:Vl}{L:List E}(hi:P[i]?=some (e,L))(hs:e.st=1){x:Wv}(f:W[j]?=some x)(a:x.id=e.id)(b:1<=t/\t<=1048576)(s:Bw t 1048576 L=[]){C2:Nat->Nat}(K:TrK n ⟨o.N,C2,o.R⟩ none):
  LvI n ⟨o.N,C2,o.R⟩ nx (P.set i ({e with sz:=t},L)) (W.set j {x with sz:=t}) A:=by
 have q:=h.ok hi hs;have hq:=q.id;dsimp only at hq;obtain ⟨v,l,p⟩:=h.both hi hs f a;have m:=q.root.srt;refine ⟨h.inv.upd hi ⟨Afm _,h.inv.nb.2⟩ (λc _ M q=>q) ⟨q.id,q.st,b,q.q,q.r,q.root,q.nd,q.mp,λy g=>?_⟩ (.inl Z) (by have k:=h.inv.r.trans (I7 hi);exact k),h.rel.upd h.inv hi f (show e.id≠0 by omega) hs hs a ?_ Z (λ_ _ _ _=>rfl),?_,Ra h.bag (Ink.refl _) (h.bag x (Aec f)),h.d,K⟩
 ·have w:=m.2 y g
  rcases Int.lt_or_le y.1 t with c|c
  ·exact c
  have:y∈Bw t 1048576 L:=Afb.2 ⟨g,by simp only[decide_eq_true_eq];omega⟩;rw[s] at this;cases this
 ·simp only[Wv.core,CH,Afx];exact ⟨a,trivial,l,p⟩
 have:=Ja (p2:=({e with sz:=t},L)) hi hs (show e.st≠0 by omega);have u:=h.nxe;omega
theorem Pn(a:W2.map Wv.core=W.map Wv.core){x:Wv}(b:x∈W2):∃y∈W,y.core=x.core:=by
 have:x.core∈W.map Wv.core:=a▸Aek.2 ⟨x,b,Z⟩;obtain ⟨y,c,e⟩:=Aek.1 this;exact ⟨y,c,e⟩
structure DoE(n:Nat)(o o2:TB)(nx nx2:Int)(W W2:List Wv)(kd ci ca cc cs cq:Int)(od:Bool):Prop where
 cr:pkI kd 10=0->((1<=cs/\cs<=1048576)/\0<=cq/\cq<=1048576)->nx<=8->nx2=nx+1/\W2.map Wv.core=W.map Wv.core++[(nx,cs,cq,[])]/\o2.N=o.N/\o2.R=o.R
 wr:pkI kd 10=1->(0<=ci/\ci<100)->0<W.length->∃x∈W,nx2=nx/\WrE W W2 x.id ca (mV cc od) (cnt (AV n o.C) 0 1024)
 sn:pkI kd 10=4->(0<=ci/\ci<100)->0<W.length->nx<=8->∃x∈W,W2.map Wv.core=W.map Wv.core++[(nx,x.sz,x.q,x.V)]
section
variable{o2:TB}{nx2 kd ci ca cc cs cq id:Int}{od:Bool}{Wc:List Wv}
theorem DoE.ot(c:pkI kd 10≠0)(b:pkI kd 10≠1)(a:pkI kd 10≠4):DoE n o o2 nx nx2 W W2 kd ci ca cc cs cq od:=⟨λq=>absurd q c,λq=>absurd q b,λq=>absurd q a⟩
theorem DoE.c0(h:pkI kd 10=0)(a:((1<=cs/\cs<=1048576)/\0<=cq/\cq<=1048576)->nx<=8->nx2=nx+1/\W2.map Wv.core=W.map Wv.core++[(nx,cs,cq,[])]/\o2.N=o.N/\o2.R=o.R):DoE n o o2 nx nx2 W W2 kd ci ca cc cs cq od:=⟨λ_=>a,λq=>by omega,λq=>by omega⟩
theorem DoE.w1(h:pkI kd 10=1)(b:0<W.length/\0<=ci/\ci<100->∃x∈W,x.id=id)(a:nx2=nx/\WrE W W2 id ca (mV cc od) (cnt (AV n o.C) 0 1024)):DoE n o o2 nx nx2 W W2 kd ci ca cc cs cq od:=⟨λq=>by omega,λ_ f c=>by obtain ⟨x,d,e⟩:=b ⟨c,f⟩;exact ⟨x,d,by rw[e];exact a⟩,λq=>by omega⟩
theorem DoE.s4(h:pkI kd 10=4)(a:0<W.length/\0<=ci/\ci<100->nx<=8->∃x∈W,W2.map Wv.core=W.map Wv.core++[(nx,x.sz,x.q,x.V)]):DoE n o o2 nx nx2 W W2 kd ci ca cc cs cq od:=⟨λq=>by omega,λq=>by omega,λ_ c b=>a ⟨b,c⟩⟩
theorem DoE.s4n(h:pkI kd 10=4)(a:Wc.map Wv.core=W.map Wv.core)(b:0<W.length/\0<=ci/\ci<100->∃x∈W,x.id=id)(c:∀x∈Wc,x.id≠id):DoE n o o2 nx nx2 W W2 kd ci ca cc cs cq od:=DoE.s4 h λq _=>by
 obtain ⟨x,d,e⟩:=b q;obtain ⟨y,f,e2⟩:=Pn a.symm d;exact absurd ((congrArg Prod.fst e2).trans e) (c y f)
theorem DoE.s4y(h:pkI kd 10=4)(a:Wc.map Wv.core=W.map Wv.core){x:Wv}(b:x∈Wc)(u:Value):DoE n o o2 nx nx2 W (Wc++[⟨nx,x.sz,x.q,u,x.V⟩]) kd ci ca cc cs cq od:=DoE.s4 h λ_ _=>by
 obtain ⟨y,c,e⟩:=Pn a b;simp only[Wv.core,Afx] at e;exact ⟨y,c,by rw[AeH,a,e.2.1,e.2.2.1,e.2.2.2];rfl⟩
end
theorem LvI.xo(h:LvI n o nx P W A):∀e∈P.map Prod.fst,e.r.toNat≠0->(manyN n<e.r.toNat/\e.r.toNat<n)/\1<=o.C e.r.toNat:=λe c g=>by
 obtain ⟨p,hp,rfl⟩:=Aek.1 c;have b:=h.inv.r.mem_iff.2 (Mf hp g);have a:=h.k.i.rin _ b;have d:=h.k.i.cnt _ a.1 a.2;have f:=Agv.2 b;exact ⟨⟨by omega,a.2⟩,by show 1<=curC o none p.1.r.toNat;rw[d];exact Agr f (Nat.le_add_right _ _)⟩
end
theorem WT:Cn prog 36 [Y m] [plB m i j e n b] (λv Γ=>v=Y i/\Γ=[plB m i j e n b]):=by
 intro z R w H;refine Ae func36 Z ntmps36 Z (Z2 16 [0,0,0,0] H Z (Zr Z ?_));exact ⟨_,⟨Z,Z⟩,H.pick 1 [0] Z⟩
section
variable{Tb:Ai}
set_option maxHeartbeats 16000000 in
theorem JI {pd pv pw pp mb:Nat} (n:Nat) (P:List Pl) (o:TB) (W:List Wv) (hL:LvI n o s P W A) (e2:mb+20<=1000000000) (kd ci ca cc cf cs cq:Int) (sy od:Bool) (c8: -9223372036854775808<=ca/\ca<=9223372036854775807) (c9: -9223372036854775808<=cc/\cc<=9223372036854775807) (g6: -9223372036854775808<=cf/\cf<=9223372036854775807) (g3: -9223372036854775808<=kd/\kd<=9223372036854775807):Cn prog 6 [Y g,.agg #[I kd,I ci,I ca,I cc,I cf,I cs,I cq,.bool sy,.bool od]] [blk g [Y pd,Y pv,Y pw] 36,voA pv pp s ([]) (P.map Prod.fst),trA Tb pp mb n o none,wdA pw s W,A] (λv Γ=>∃(p2:Nat) (nx2:Int) (P2:List Pl) (e3:List Vl) (o2:TB) (W2:List Wv) (A2:Ai) (m2:Nat),(LvI n o2 nx2 P2 W2 A2/\e3=P2.map Prod.fst/\m2<=mb+16/\DoE n o o2 s nx2 W W2 kd ci ca cc cs cq od/\KpE W W2 (Q9 W ci) kd/\Ink A A2)/\v=.bool true/\Γ=[blk g [Y pd,Y pv,Y p2] 36,voA pv pp nx2 [] e3,trA Tb pp m2 n o2 none,wdA p2 nx2 W2,A2]):=by
 intro z R w H;replace H:=H.l5;have d6:W.length<=64:=by have:=hL.w8;omega
 have g2:=λx c=>(hL.w (x:=x) c).1;have d5:∀x∈W,x.V.length<=1048576:=λx c=>by have:=(hL.w c).2.2.1;omega
 have f8:=hL.bag;have hv:=hL.hv;refine Ae func6 Z ntmps6 Z (Za 2 [] H Z ?_);intro b1 w H;refine Z2 9 [1,1,0] H Z (z_E_ Z (call22 _) (QY) H.f2 ?_);intro w H;replace H:=H.l6;refine z_E_ Z (call23 _) (AbR none) H.f3 ?_;intro w H;refine Z2 7 [2,9] H Z (Aq Z (call17 _) (Ado d6) H.f4.f4 ?_);rintro _ w _ ⟨id,⟨d4,c6⟩,rfl,rfl⟩ H;refine Z2 9 [2,0,0] H Z (Aq Z (call9 _) (Q6 d6 A f8 d5) H.f5.f2 ?_);rintro _ w _ ⟨p2,Wc,Ac,⟨a9,a0,d3⟩,rfl,rfl⟩ H;replace H:=H.l7;have f:=hL.copy a9 d3;have a5:=hL.ink a0;have c5:Wc.length<=64:=by have:=f.w8;omega
 have e1:∀x∈Wc,x.V.length<=1048576:=λx c=>by have:=(f.w c).2.2.1;omega
 have g9:=hL.nx9;have b9:=hL.inv.fit hL.k;have b8:=OF hL.k.hn.2;have c7:o.R.length+n<1000:=by have:=hL.inv.r.length_eq;have:=QW P;have:=hL.inv.len;have:=hL.inv.n;omega
 refine Z2 8 [0,6,0] H Z (z_E_ Z (call8 _) (Mj 10 g3 U) H ?_);intro w H;refine Z0 9 [0] Z (Af Z (λh1=>?_) (λh1=>?_))
 ·refine Z2 7 [5,6,0,6,6,0] H Z (Aq Z (call24 _) (Uh U c5 cs cq) H.f2.f2 ?_);rintro _ w _ (⟨b3,rfl,rfl⟩|⟨d2,(⟨h8,rfl,rfl⟩|⟨c2,rfl,rfl⟩|⟨h7,u2,A3,⟨b5,d7⟩,rfl,rfl⟩)⟩) a
  ·have H:=a.l7;refine Zc 8 Z ?_;replace H:=H.f6.f4;refine Bh (Sep z (blk g [Y pd,Y pv,Y pw] 36::blk b1 [I kd,I ci,I ca,I cc,I cf,I cs,I cq,.bool sy,.bool od] 28::R)) 14 Z J (AZ H λw a=>?_)
   have H:=a.l7;refine Bu [0,1,2,3,4,5,6,7] [1,0,5,1,6,1] J (λ_ c=>(AO (c.blk 0 Z) (AO (c.blk 1 Z) AM))) (by exact H.pick 7 [0,1] Z) Z J Z Z (AE [8] J O (Am (Bo Z Z Z Z Z Z (λw=>call25 _ w) (I8 hv U b9 b8 U cs cq c7) H.f5.f6 Z ?_)));rintro _ w _ (⟨a2,rfl,rfl⟩|⟨c1,(⟨d,rfl,rfl⟩|⟨c2,rfl,rfl⟩|⟨i,C2,b4,rfl,rfl⟩)⟩) a
   ·have H:=a.l7;refine Ar (λ_=>(H.pick 7 [2,3] Z)) (Bu [9,10,11,12] [] J (λ_ _=>AM) (by exact H.pick 7 [2,3] Z) Z J Z Z (AE [13] J O (Am (CD Z Z Z Z (Bl Z Z) (Ar (λh=>absurd Z h) (Bj J (gn (Zc 10 Z (Aq Z (call26 _) (Fm (by first|exact hv|(rw[AeU];exact hv))) H.f2 ?_)))))))));rintro _ w _ (⟨a8,rfl,rfl⟩|⟨b6,bv,a4,rfl,rfl⟩) a
    ·exact absurd a8 U
    have H:=a.l7;obtain rfl:bv=true:=by first|exact a4 ⟨rfl,.inl rfl⟩|exact a4 ⟨rfl,.inr ⟨rfl,.inr ⟨rfl,hL.full d⟩⟩⟩
    refine Zc 4 rfl (Zr rfl ?_);exact ⟨_,⟨_,_,P,_,o,_,_,mb,⟨a5,rfl,by omega,DoE.c0 U (λq _=>absurd q b3),.eq rfl,a0⟩,rfl,rfl⟩,H.pick 7 [0,1,2,6,5] rfl⟩
   ·exact absurd c1 b3
   ·exact absurd c1 b3
   exact absurd c1 b3
  ·have H:=a.l7;refine Zc 8 Z ?_;replace H:=H.f6.f4;refine Bh (Sep z (blk g [Y pd,Y pv,Y pw] 36::blk b1 [I kd,I ci,I ca,I cc,I cf,I cs,I cq,.bool sy,.bool od] 28::R)) 14 Z J (AZ H λw a=>?_)
   have H:=a.l7;refine Bu [0,1,2,3,4,5,6,7] [1,0,5,1,6,1] J (λ_ c=>(AO (c.blk 0 Z) (AO (c.blk 1 Z) AM))) (by exact H.pick 7 [0,1] Z) Z J Z Z (AE [8] J O (Am (Bo Z Z Z Z Z Z (λw=>call25 _ w) (I8 hv U b9 b8 U cs cq c7) H.f5.f6 Z ?_)));rintro _ w _ (⟨a2,rfl,rfl⟩|⟨c1,(⟨d,rfl,rfl⟩|⟨c2,rfl,rfl⟩|⟨i,C2,b4,rfl,rfl⟩)⟩) a
   ·exact absurd d2 a2
   ·have H:=a.l7;refine Ar (λ_=>(H.pick 7 [2,3] Z)) (Bu [9,10,11,12] [] J (λ_ _=>AM) (by exact H.pick 7 [2,3] Z) Z J Z Z (AE [13] J O (Am (CD Z Z Z Z (Bl Z Z) (Ar (λh=>absurd Z h) (Bj J (gn (Zc 10 Z (Aq Z (call26 _) (Fm (by first|exact hv|(rw[AeU];exact hv))) H.f2 ?_)))))))));rintro _ w _ (⟨a8,rfl,rfl⟩|⟨b6,bv,a4,rfl,rfl⟩) a
    ·exact absurd a8 U
    have H:=a.l7;obtain rfl:bv=true:=by first|exact a4 ⟨rfl,.inl rfl⟩|exact a4 ⟨rfl,.inr ⟨rfl,.inr ⟨rfl,hL.full d⟩⟩⟩
    refine Zc 4 rfl (Zr rfl ?_);exact ⟨_,⟨_,_,P,_,o,_,_,mb,⟨a5,rfl,by omega,DoE.c0 U (λ_ q=>absurd d (hL.left q)),.eq rfl,a0⟩,rfl,rfl⟩,H.pick 7 [0,1,2,6,5] rfl⟩
   ·(exfalso;omega)
   (exfalso;have:=f.less (hL.free b4.1);omega)
  ·(exfalso;omega)
  have H:=a.l7;refine Zc 8 Z ?_;replace H:=H.f6.f4;refine Bh (Sep z (blk g [Y pd,Y pv,Y pw] 36::blk b1 [I kd,I ci,I ca,I cc,I cf,I cs,I cq,.bool sy,.bool od] 28::R)) 14 Z J (AZ H λw a=>?_);have H:=a.l7;refine Bu [0,1,2,3,4,5,6,7] [1,0,5,1,6,1] J (λ_ c=>(AO (c.blk 0 Z) (AO (c.blk 1 Z) AM))) (by exact H.pick 7 [0,1] Z) Z J Z Z (AE [8] J O (Am (Bo Z Z Z Z Z Z (λw=>call25 _ w) (I8 hv U b9 b8 U cs cq c7) H.f5.f6 Z ?_)));rintro _ w _ (⟨a2,rfl,rfl⟩|⟨c1,(⟨d,rfl,rfl⟩|⟨c2,rfl,rfl⟩|⟨i,C2,b4,rfl,rfl⟩)⟩) a
  ·exact absurd d2 a2
  ·have H:=a.l7;refine Ar (λ_=>(H.pick 7 [2,3] Z)) (Bu [9,10,11,12] [] J (λ_ _=>AM) (by exact H.pick 7 [2,3] Z) Z J Z Z (AE [13] J O (Am (CD Z Z Z Z (Bl Z Z) (Ar (λh=>absurd Z h) (Bj J (gn (Zc 10 Z (Aq Z (call26 _) (Fm (by first|exact hv|(rw[AeU];exact hv))) H.f2 ?_)))))))));rintro _ w _ (⟨a8,rfl,rfl⟩|⟨b6,bv,a4,rfl,rfl⟩) a
   ·exact absurd a8 U
   have H:=a.l7;obtain rfl:bv=true:=by first|exact a4 ⟨rfl,.inl rfl⟩|exact a4 ⟨rfl,.inr ⟨rfl,.inr ⟨rfl,hL.full d⟩⟩⟩
   refine Zc 4 rfl (Zr rfl ?_);exact ⟨_,⟨_,_,P,_,o,_,_,mb,⟨(a5.ink b5),rfl,by omega,DoE.c0 U (λ_ q=>absurd d (hL.left q)),.eq rfl,a0.trans b5⟩,rfl,rfl⟩,H.pick 7 [0,1,2,6,5] rfl⟩
  ·(exfalso;omega)
  have H:=a.l7;refine Ar (λ_=>(H.pick 7 [2,3] Z)) (Bu [9,10,11,12] [] J (λ_ _=>AM) (by exact H.pick 7 [2,3] Z) Z J Z Z (AE [13] J O (Am (CD Z Z Z Z (Bl Z Z) (Ar (λh=>absurd Z h) (Bj J (gn (Zc 10 Z (Aq Z (call26 _) (Fm (by first|exact hv|(rw[AeU];exact hv))) H.f2 ?_)))))))));rintro _ w _ (⟨a8,rfl,rfl⟩|⟨b6,bv,a4,rfl,rfl⟩) a
  ·have H:=a.l7;refine Zc 4 Z (Zr Z ?_);have K9:=H.says 2 Z (λh q=>trA.k q)
   exact ⟨_,⟨_,_,_,_,_,_,_,mb+2,⟨f.create b4.1 d2.1 d2.2 b5 d7 K9,(Dl _ _ _ _).symm,by omega,DoE.c0 U (λ_ _=>⟨Z,by rw[AeH,a9];rfl,Z,Z⟩),⟨.app a9,λq=>by omega⟩,a0.trans b5⟩,congrArg Value.bool (decide_eq_true ⟨Z,Z⟩),Z⟩,H.pick 7 [0,1,2,4,5] Z⟩
  exact absurd Z b6
 refine Z0 6 [0] Z (Af Z (λh2=>?_) (λh2=>?_))
 ·refine Z2 6 [6,9] H Z (Aq Z (call27 _) (Ul P o W Ac a5 e2 id c8 c9 g6 Z) H.f2.f1.f4.f5.f5 ?_);rintro _ w _ ⟨p9,f0,P9,g4,o9,W9,A9,m9,⟨b0,d1,g0,e5,e0,d9,d8⟩,rfl,rfl⟩ H;refine Zc 4 Z (Zr Z ?_);exact ⟨_,⟨_,_,P9,_,o9,_,A9,m9,⟨b0,d1,by omega,DoE.w1 U d4 ⟨e5,e0⟩,⟨by rw[<-c6];exact d9,λq=>by omega⟩,a0.trans d8⟩,Z,Z⟩,H.pick 7 [0,1,2,3,4] Z⟩
 refine Z0 6 [0] Z (Af Z (λh3=>?_) (λh3=>?_))
 ·refine Zc 1 Z ?_;replace H:=H.f6.f4;refine Bh (Sep z (blk g [Y pd,Y pv,Y pw] 36::blk b1 [I kd,I ci,I ca,I cc,I cf,I cs,I cq,.bool sy,.bool od] 28::R)) 15 Z J (AZ H λw a=>?_)
  have H:=a.l7;refine Bu [0,1,2,3,4,5,6,7,8] [2,0,2,1,3,1] J (λ_ c=>(AO (c.blk 0 Z) (AO (c.blk 1 Z) AM))) (by exact H.pick 7 [0,1] Z) Z J Z Z (AE [9] J O (Am (Bo Z Z Z Z Z Z (λw=>call28 _ w) (Aan id ca cc d6 Ac a5.bag d5 g2 (λx c=>(hL.w c).2.2.2.1) c8 c9) H.f4.f3 Z ?_)));rintro _ w _ (⟨a7,rfl,rfl⟩|⟨j,x,⟨c,b⟩,(⟨c3,rfl,rfl⟩|⟨c3,rfl,rfl⟩)⟩) a
  ·have H:=a.l7;refine Ar (λ_=>(H.pick 7 [2,3] Z)) (Bu [10,11,12,13] [] J (λ_ _=>AM) (by exact H.pick 7 [2,3] Z) Z J Z Z (AE [14] J O (Am (CD Z Z Z Z (Bl Z Z) (Ar (λh=>absurd Z h) (Bj J (gn (Zc 2 Z ?_))))))));replace H:=H.f3.f3;refine Bh (Sep z (blk g [Y pd,Y pv,Y pw] 36::blk b1 [I kd,I ci,I ca,I cc,I cf,I cs,I cq,.bool sy,.bool od] 28::R)) 15 Z J (AZ H λw a=>?_)
   have H:=a.l7;refine Bu [0,1,2,3,4,5,6,7,8] [1,0,2,1,3,1] J (λ_ c=>(AO (c.blk 0 Z) (AO (c.blk 1 Z) AM))) (by exact H.pick 7 [0,1] Z) Z J Z Z (AE [9] J O (Am (Bo Z Z Z Z Z Z (λw=>call13 _ w) (FZ P Z hL.inv U id ca cc c8 c9) H.f5.f6 Z ?_)));rintro _ w _ (⟨a3,rfl,rfl⟩|⟨i,e,L,⟨hi,hs,y⟩,(⟨hE,rfl,rfl⟩|⟨hE,ru,rfl,rfl⟩)⟩) a
   ·have H:=a.l7;refine Ar (λ_=>(H.pick 7 [2,3] Z)) (Bu [10,11,12,13] [] J (λ_ _=>AM) (by exact H.pick 7 [2,3] Z) Z J Z Z (AE [14] J O (Am (CD Z Z Z Z (Bl Z Z) (Ar (λh=>absurd Z h) (Bj J (gn (Zc 4 Z (Ab Z (Cg (l:=[]) Z J J Z (λw _=>Rd.nil 1 w)) (Zc 1 Z (Ab Z (II (l:=[]) (m:=[]) Z J Z Z) (Zc 1 Z (Al 111 Z (λh4=>?_) (λh4=>?_))))))))))))))
    ·refine Z0 8 [3] Z (Zr Z ?_);exact ⟨_,⟨_,_,P,_,o,_,_,mb,⟨a5,Z,by omega,DoE.ot U U U,.eq Z,a0⟩,Z,Z⟩,H.pick 7 [2,0,1,4,5] Z⟩
    exact absurd Z h4
   ·exact (by obtain ⟨j9,x9,q1,q2⟩:=hL.at hi hs y;exact absurd q2 (a7 x9 (Aec q1)))
   exact (by obtain ⟨j9,x9,q1,q2⟩:=hL.at hi hs y;exact absurd q2 (a7 x9 (Aec q1)))
  ·have H:=a.l7;refine Ar (λ_=>(H.pick 7 [2,3] Z)) (Bu [10,11,12,13] [] J (λ_ _=>AM) (by exact H.pick 7 [2,3] Z) Z J Z Z (AE [14] J O (Am (CD Z Z Z Z (Bl Z Z) (Ar (λh=>absurd Z h) (Bj J (gn (Zc 2 Z ?_))))))));replace H:=H.f3.f3;refine Bh (Sep z (blk g [Y pd,Y pv,Y pw] 36::blk b1 [I kd,I ci,I ca,I cc,I cf,I cs,I cq,.bool sy,.bool od] 28::R)) 15 Z J (AZ H λw a=>?_)
   have H:=a.l7;refine Bu [0,1,2,3,4,5,6,7,8] [1,0,2,1,3,1] J (λ_ c=>(AO (c.blk 0 Z) (AO (c.blk 1 Z) AM))) (by exact H.pick 7 [0,1] Z) Z J Z Z (AE [9] J O (Am (Bo Z Z Z Z Z Z (λw=>call13 _ w) (FZ P Z hL.inv U id ca cc c8 c9) H.f5.f6 Z ?_)));rintro _ w _ (⟨a3,rfl,rfl⟩|⟨i,e,L,⟨hi,hs,y⟩,(⟨hE,rfl,rfl⟩|⟨hE,ru,rfl,rfl⟩)⟩) a
   ·exact (by obtain ⟨e9,a6,q1,q2⟩:=hL.back c b;exact absurd ⟨q1,q2⟩ (a3 e9 a6))
   ·have H:=a.l7;have b2:=hL.both hi hs c (b.trans y.symm)
    refine Ar (λ_=>(H.pick 7 [2,3] Z)) (Bu [10,11,12,13] [] J (λ_ _=>AM) (by exact H.pick 7 [2,3] Z) Z J Z Z (AE [14] J O (Am (CD Z Z Z Z (Bl Z Z) (Ar (λh=>absurd Z h) (Bj J (gn (Zc 2 Z (AD 13 (v:=I (Bn e.sz true ca cc)) Z (congrArg I (by rw[b2.1])) (Zc 2 Z (Ab Z (Cg (l:=[]) Z J J Z (λw _=>Rd.nil 1 w)) (Zc 1 Z (Ab Z (II (l:=[]) (m:=[]) Z J Z Z) ?_)))))))))))));refine Zc 1 Z (Al 111 Z (λh5=>?_) (λh5=>?_))
    ·refine Z0 8 [0] Z (Zr Z ?_);exact ⟨_,⟨_,_,P,_,o,_,_,mb,⟨a5,Z,by omega,DoE.ot U U U,.eq Z,a0⟩,congrArg Value.bool (decide_eq_true U),Z⟩,H.pick 7 [2,0,1,4,5] Z⟩
    exact absurd Z h5
   exact (by have b2:=hL.both hi hs c (b.trans y.symm);rw[b2.1] at c3;first|exact absurd hE c3|exact absurd c3 hE)
  have H:=a.l7;refine Ar (λ_=>(H.pick 7 [2,3] Z)) (Bu [10,11,12,13] [] J (λ_ _=>AM) (by exact H.pick 7 [2,3] Z) Z J Z Z (AE [14] J O (Am (CD Z Z Z Z (Bl Z Z) (Ar (λh=>absurd Z h) (Bj J (gn (Zc 2 Z ?_))))))));replace H:=H.f3.f3;refine Bh (Sep z (blk g [Y pd,Y pv,Y pw] 36::blk b1 [I kd,I ci,I ca,I cc,I cf,I cs,I cq,.bool sy,.bool od] 28::R)) 15 Z J (AZ H λw a=>?_);have H:=a.l7;refine Bu [0,1,2,3,4,5,6,7,8] [1,0,2,1,3,1] J (λ_ c=>(AO (c.blk 0 Z) (AO (c.blk 1 Z) AM))) (by exact H.pick 7 [0,1] Z) Z J Z Z (AE [9] J O (Am (Bo Z Z Z Z Z Z (λw=>call13 _ w) (FZ P Z hL.inv U id ca cc c8 c9) H.f5.f6 Z ?_)));rintro _ w _ (⟨a3,rfl,rfl⟩|⟨i,e,L,⟨hi,hs,y⟩,(⟨hE,rfl,rfl⟩|⟨hE,ru,rfl,rfl⟩)⟩) a
  ·exact (by obtain ⟨e9,a6,q1,q2⟩:=hL.back c b;exact absurd ⟨q1,q2⟩ (a3 e9 a6))
  ·exact (by have b2:=hL.both hi hs c (b.trans y.symm);rw[b2.1] at c3;first|exact absurd hE c3|exact absurd c3 hE)
  have H:=a.l8;have b2:=hL.both hi hs c (b.trans y.symm);refine Ar (λ_=>(H.pick 8 [3,4] Z)) (Bu [10,11,12,13] [] J (λ_ _=>AM) (by exact H.pick 8 [3,4] Z) Z J Z Z (AE [14] J O (Am (CD Z Z Z Z (Bl Z Z) (Ar (λh=>absurd Z h) (Bj J (gn (Zc 2 Z (AD 12 (v:=Ck (rdB (AW o.N L) ca cc.toNat)) Z (by rw[b2.2.2]) (Zc 2 Z (Ab Z (Cg (l:=rdB (AW o.N L) ca cc.toNat) Z J J Z (Ay (H.rv 0 (·.rd)))) (Zc 1 Z (Ab Z (II (l:=rdB (AW o.N L) ca cc.toNat) (m:=rdB (AW o.N L) ca cc.toNat) Z J Z Z) ?_)))))))))))));refine Zc 1 Z (Al 111 Z (λh6=>?_) (λh6=>?_))
  ·refine Z0 8 [3] Z (Zr Z ?_);exact ⟨_,⟨_,_,P,_,o,_,_,mb,⟨a5,Z,by omega,DoE.ot U U U,.eq Z,a0⟩,Z,Z⟩,H.pick 8 [3,1,2,5,6] Z⟩
  exact absurd Z h6
 refine Z0 6 [0] Z (Af Z (λh7=>?_) (λh7=>?_))
 ·refine Z2 6 [6,9] H Z (Aq Z (call29 _) (Um P o W Ac a5 e2 id c8 c9 Z) H.f2.f1.f4.f5.f5 ?_);rintro _ w _ ⟨p9,f0,P9,g4,o9,V9,A9,m9,⟨b0,d1,g0,d9,d8⟩,rfl,rfl⟩ H;refine Zc 4 Z (Zr Z ?_);exact ⟨_,⟨_,_,P9,_,o9,_,A9,m9,⟨b0,d1,by omega,DoE.ot U U U,⟨by rw[<-c6];exact d9,λq=>by omega⟩,a0.trans d8⟩,Z,Z⟩,H.pick 7 [0,1,2,3,4] Z⟩
 refine Z0 6 [0] Z (Af Z (λh8=>?_) (λh8=>?_))
 ·refine Zc 4 Z (Aq Z (call16 _) (Aam U id c5 d3 e1) H.f2.f2 ?_);rintro _ w _ (⟨a7,rfl,rfl⟩|⟨k,x,⟨c,b⟩,(⟨h8,rfl,rfl⟩|⟨c2,rfl,rfl⟩|⟨h7,u2,A3,⟨b5,d7⟩,rfl,rfl⟩)⟩) a
  ·have H:=a.l7;refine Z2 14 [1,3,0] H Z (Aq Z (call15 _) (Mh hv U b9 b8 U id hL.xo c7) H.f4.f5 ?_);rintro _ w _ (⟨a3,rfl,rfl⟩|⟨j,e,⟨he,a1,y⟩,(⟨d,rfl,rfl⟩|⟨c2,rfl,rfl⟩|⟨i,C2,b4,rfl,rfl⟩)⟩) a
   ·have H:=a.l7;refine Zc 16 Z (Aq Z (call26 _) (Fm (by first|exact hv|(rw[AeU];exact hv))) H.f5 ?_);rintro _ w _ (⟨a8,rfl,rfl⟩|⟨b6,bv,a4,rfl,rfl⟩) a
    ·exact absurd a8 U
    have H:=a.l7;obtain rfl:bv=true:=by first|exact a4 ⟨rfl,.inl rfl⟩|exact a4 ⟨rfl,.inr ⟨rfl,.inr ⟨rfl,hL.full d⟩⟩⟩
    refine Zc 4 rfl (Zr rfl ?_);exact ⟨_,⟨_,_,P,_,o,_,_,mb,⟨a5,rfl,by omega,DoE.s4n U a9 d4 a7,.eq rfl,a0⟩,rfl,rfl⟩,H.pick 7 [0,1,2,5,4] rfl⟩
   ·exact (by obtain ⟨L9,b0⟩:=hL.pl_at he;obtain ⟨j9,x9,q1,q2⟩:=f.at b0 a1 y;exact absurd q2 (a7 x9 (Aec q1)))
   ·exact (by obtain ⟨L9,b0⟩:=hL.pl_at he;obtain ⟨j9,x9,q1,q2⟩:=f.at b0 a1 y;exact absurd q2 (a7 x9 (Aec q1)))
   exact (by obtain ⟨L9,b0⟩:=hL.pl_at he;obtain ⟨j9,x9,q1,q2⟩:=f.at b0 a1 y;exact absurd q2 (a7 x9 (Aec q1)))
  ·have H:=a.l7;refine Z2 14 [1,3,0] H Z (Aq Z (call15 _) (Mh hv U b9 b8 U id hL.xo c7) H.f4.f5 ?_);rintro _ w _ (⟨a3,rfl,rfl⟩|⟨j,e,⟨he,a1,y⟩,(⟨d,rfl,rfl⟩|⟨c2,rfl,rfl⟩|⟨i,C2,b4,rfl,rfl⟩)⟩) a
   ·exact (by obtain ⟨e9,a6,q1,q2⟩:=f.back c b;exact absurd ⟨q1,q2⟩ (a3 e9 a6))
   ·have H:=a.l7;refine Zc 16 Z (Aq Z (call26 _) (Fm (by first|exact hv|(rw[AeU];exact hv))) H.f5 ?_);rintro _ w _ (⟨a8,rfl,rfl⟩|⟨b6,bv,a4,rfl,rfl⟩) a
    ·exact absurd a8 U
    have H:=a.l7;obtain rfl:bv=true:=by first|exact a4 ⟨rfl,.inl rfl⟩|exact a4 ⟨rfl,.inr ⟨rfl,.inr ⟨rfl,hL.full d⟩⟩⟩
    refine Zc 4 rfl (Zr rfl ?_);exact ⟨_,⟨_,_,P,_,o,_,_,mb,⟨a5,rfl,by omega,DoE.s4 U (λ_ q=>absurd d (hL.left q)),.eq rfl,a0⟩,rfl,rfl⟩,H.pick 7 [0,1,2,5,4] rfl⟩
   ·(exfalso;omega)
   (exfalso;have:=f.less (hL.free b4.1);omega)
  ·(exfalso;omega)
  have H:=a.l7;refine Z2 14 [1,3,0] H Z (Aq Z (call15 _) (Mh hv U b9 b8 U id hL.xo c7) H.f4.f5 ?_);rintro _ w _ (⟨a3,rfl,rfl⟩|⟨j,e,⟨he,a1,y⟩,(⟨d,rfl,rfl⟩|⟨c2,rfl,rfl⟩|⟨i,C2,b4,rfl,rfl⟩)⟩) a
  ·exact (by obtain ⟨e9,a6,q1,q2⟩:=f.back c b;exact absurd ⟨q1,q2⟩ (a3 e9 a6))
  ·have H:=a.l7;refine Zc 16 Z (Aq Z (call26 _) (Fm (by first|exact hv|(rw[AeU];exact hv))) H.f5 ?_);rintro _ w _ (⟨a8,rfl,rfl⟩|⟨b6,bv,a4,rfl,rfl⟩) a
   ·exact absurd a8 U
   have H:=a.l7;obtain rfl:bv=true:=by first|exact a4 ⟨rfl,.inl rfl⟩|exact a4 ⟨rfl,.inr ⟨rfl,.inr ⟨rfl,hL.full d⟩⟩⟩
   refine Zc 4 rfl (Zr rfl ?_);exact ⟨_,⟨_,_,P,_,o,_,_,mb,⟨(a5.ink b5),rfl,by omega,DoE.s4 U (λ_ q=>absurd d (hL.left q)),.eq rfl,a0.trans b5⟩,rfl,rfl⟩,H.pick 7 [0,1,2,5,4] rfl⟩
  ·(exfalso;omega)
  have H:=a.l7;obtain ⟨L,g8⟩:=hL.pl_at he;refine Zc 16 Z (Aq Z (call26 _) (Fm (by first|exact hv|(rw[AeU];exact hv))) H.f5 ?_);rintro _ w _ (⟨a8,rfl,rfl⟩|⟨b6,bv,a4,rfl,rfl⟩) a
  ·have H:=a.l7;refine Zc 4 Z (Zr Z ?_);have K9:=H.says 2 Z (λh q=>trA.k q)
   exact ⟨_,⟨_,_,_,_,_,_,_,mb+2,⟨f.snap b4.1 g8 a1 c (b.trans y.symm) b5 d7 K9,(Dl _ _ _ _).symm,by omega,DoE.s4y U a9 (Aec c) _,⟨.app a9,λq=>by omega⟩,a0.trans b5⟩,congrArg Value.bool (decide_eq_true ⟨Z,Z⟩),Z⟩,H.pick 7 [0,1,2,3,4] Z⟩
  exact absurd Z b6
 refine Z0 6 [0] Z (Af Z (λh9=>?_) (λh9=>?_))
 ·refine Zc 4 Z ?_;have e8:∀x∈Wc,x.u.oneCell'=true:=λx c=>(H.sy 2 (λq=>((d3 x c) _ q).slc)).one
  refine Aq Z (call30 _) (Acx id c5 e8) H.f1 ?_;rintro _ w _ (⟨a7,rfl,rfl⟩|⟨j,x,⟨c,b⟩,rfl,rfl⟩) a
  ·have H:=a.l7;refine Z2 10 [1,3,0] H Z (Aq Z (call31 _) (MY hv U b9 b8 U id) H.f4.f5 ?_);rintro _ w _ (⟨a3,rfl,rfl⟩|⟨i,e,C2,⟨he,a1,y⟩,rfl,rfl⟩) a
   ·have H:=a.l7;refine Z4 21 [2,5,3] H Z ?_;intro w H;refine Zr Z ?_;exact ⟨_,⟨_,_,P,_,o,_,_,mb,⟨f,Z,by omega,DoE.ot U U U,.eq a9,a0⟩,Z,Z⟩,H.pick 7 [5,0,1,2,4] Z⟩
   exact (by obtain ⟨L9,b0⟩:=hL.pl_at he;obtain ⟨j9,x9,q1,q2⟩:=f.at b0 a1 y;exact absurd q2 (a7 x9 (Aec q1)))
  have H:=a.l7;refine Z2 10 [1,3,0] H Z (Aq Z (call31 _) (MY hv U b9 b8 U id) H.f4.f5 ?_);rintro _ w _ (⟨a3,rfl,rfl⟩|⟨i,e,C2,⟨he,a1,y⟩,rfl,rfl⟩) a
  ·exact (by obtain ⟨e9,a6,q1,q2⟩:=f.back c b;exact absurd ⟨q1,q2⟩ (a3 e9 a6))
  have H:=a.l7;obtain ⟨L,hi⟩:=hL.pl_at he;refine Z4 21 [2,5,3] H Z ?_;intro w H;refine Zr Z ?_;have K9:=H.says 1 Z (λh q=>trA.k q);exact ⟨_,⟨_,_,_,_,_,_,_,mb+2,⟨f.del hi a1 c (b.trans y.symm) K9,(Dl _ _ _ _).symm,by omega,DoE.ot U U U,⟨by rw[<-c6];exact .tr a9 (.del c b),λq=>by omega⟩,a0⟩,Z,Z⟩,H.pick 7 [5,0,1,2,4] Z⟩
 refine Z0 6 [0] Z (Af Z (λg1=>?_) (λg1=>?_))
 ·refine Z2 6 [5,6,0] H Z (Aq Z (call32 _) (Ui id cs c5 d3 e1) H.f2.f2 ?_);rintro _ w _ (⟨a7,rfl,rfl⟩|⟨j,x,⟨c,b⟩,(⟨b3,rfl,rfl⟩|⟨e6,rfl,rfl⟩|⟨e7,rfl,rfl⟩)⟩) a
  ·have H:=a.l7;refine Zc 4 Z ?_;replace H:=H.f6.f4;refine Bh (Sep z (blk g [Y pd,Y pv,Y pw] 36::blk b1 [I kd,I ci,I ca,I cc,I cf,I cs,I cq,.bool sy,.bool od] 28::R)) 9 Z J (AZ H λw a=>?_)
   have H:=a.l7;refine Bu [0,1,2,3,4,5,6] [1,0,5,1] J (λ_ c=>(AO (c.blk 0 Z) (AO (c.blk 1 Z) AM))) (by exact H.pick 7 [0,1] Z) Z J Z Z (AE [7] J O (Am (Bo Z Z Z Z Z Z (λw=>call33 _ w) (Hh P Z hL.inv U id cs) H.f5.f6 Z ?_)));rintro _ w _ (⟨a3,rfl,rfl⟩|⟨i,e,L,⟨hi,a1,y⟩,(⟨a2,rfl,rfl⟩|⟨b7,rfl,rfl⟩|⟨c4,C2,rfl,rfl⟩)⟩) a
   ·have H:=a.l7;refine Ar (λ_=>(H.pick 7 [2,3] Z)) (AE [8] J O (Am (CD Z Z Z Z (Bl Z Z) (Ar (λh=>absurd Z h) (Bj J (gn (Z4 19 [2,2,3] H Z ?_)))))));intro w H;refine Zr Z ?_;exact ⟨_,⟨_,_,P,_,o,_,_,mb,⟨f,Z,by omega,DoE.ot U U U,.eq a9,a0⟩,Z,Z⟩,H.pick 7 [2,0,1,4,5] Z⟩
   ·exact (by obtain ⟨j9,x9,q1,q2⟩:=f.at hi a1 y;exact absurd q2 (a7 x9 (Aec q1)))
   ·exact (by obtain ⟨j9,x9,q1,q2⟩:=f.at hi a1 y;exact absurd q2 (a7 x9 (Aec q1)))
   exact (by obtain ⟨j9,x9,q1,q2⟩:=f.at hi a1 y;exact absurd q2 (a7 x9 (Aec q1)))
  ·have H:=a.l7;refine Zc 4 Z ?_;replace H:=H.f6.f4;refine Bh (Sep z (blk g [Y pd,Y pv,Y pw] 36::blk b1 [I kd,I ci,I ca,I cc,I cf,I cs,I cq,.bool sy,.bool od] 28::R)) 9 Z J (AZ H λw a=>?_)
   have H:=a.l7;refine Bu [0,1,2,3,4,5,6] [1,0,5,1] J (λ_ c=>(AO (c.blk 0 Z) (AO (c.blk 1 Z) AM))) (by exact H.pick 7 [0,1] Z) Z J Z Z (AE [7] J O (Am (Bo Z Z Z Z Z Z (λw=>call33 _ w) (Hh P Z hL.inv U id cs) H.f5.f6 Z ?_)));rintro _ w _ (⟨a3,rfl,rfl⟩|⟨i,e,L,⟨hi,a1,y⟩,(⟨a2,rfl,rfl⟩|⟨b7,rfl,rfl⟩|⟨c4,C2,rfl,rfl⟩)⟩) a
   ·exact (by obtain ⟨e9,a6,q1,q2⟩:=f.back c b;exact absurd ⟨q1,q2⟩ (a3 e9 a6))
   ·have H:=a.l7;refine Ar (λ_=>(H.pick 7 [2,3] Z)) (AE [8] J O (Am (CD Z Z Z Z (Bl Z Z) (Ar (λh=>absurd Z h) (Bj J (gn (Z4 19 [2,2,3] H Z ?_)))))));intro w H;refine Zr Z ?_;exact ⟨_,⟨_,_,P,_,o,_,_,mb,⟨f,Z,by omega,DoE.ot U U U,.eq a9,a0⟩,Z,Z⟩,H.pick 7 [2,0,1,4,5] Z⟩
   ·exact absurd b7.1 b3
   exact absurd c4.1 b3
  ·have H:=a.l7;refine Zc 4 Z ?_;replace H:=H.f6.f4;refine Bh (Sep z (blk g [Y pd,Y pv,Y pw] 36::blk b1 [I kd,I ci,I ca,I cc,I cf,I cs,I cq,.bool sy,.bool od] 28::R)) 9 Z J (AZ H λw a=>?_)
   have H:=a.l7;refine Bu [0,1,2,3,4,5,6] [1,0,5,1] J (λ_ c=>(AO (c.blk 0 Z) (AO (c.blk 1 Z) AM))) (by exact H.pick 7 [0,1] Z) Z J Z Z (AE [7] J O (Am (Bo Z Z Z Z Z Z (λw=>call33 _ w) (Hh P Z hL.inv U id cs) H.f5.f6 Z ?_)));rintro _ w _ (⟨a3,rfl,rfl⟩|⟨i,e,L,⟨hi,a1,y⟩,(⟨a2,rfl,rfl⟩|⟨b7,rfl,rfl⟩|⟨c4,C2,rfl,rfl⟩)⟩) a
   ·exact (by obtain ⟨e9,a6,q1,q2⟩:=f.back c b;exact absurd ⟨q1,q2⟩ (a3 e9 a6))
   ·exact absurd e6.1 a2
   ·have H:=a.l7;refine Ar (λ_=>(H.pick 7 [2,3] Z)) (AE [8] J O (Am (CD Z Z Z Z (Bl Z Z) (Ar (λh=>absurd Z h) (Bj J (gn (Z4 19 [2,2,3] H Z ?_)))))));intro w H;refine Zr Z ?_;exact ⟨_,⟨_,_,P,_,o,_,_,mb,⟨f,Z,by omega,DoE.ot U U U,.eq a9,a0⟩,Z,Z⟩,H.pick 7 [2,0,1,4,5] Z⟩
   exact (by have b2:=(f.both hi a1 c (b.trans y.symm)).2.2;have d0:=f.last hi a1 cs;rw[<-b2] at d0;exact absurd c4.2 (d0.1 e6.2))
  have H:=a.l7;refine Zc 4 Z ?_;replace H:=H.f6.f4;refine Bh (Sep z (blk g [Y pd,Y pv,Y pw] 36::blk b1 [I kd,I ci,I ca,I cc,I cf,I cs,I cq,.bool sy,.bool od] 28::R)) 9 Z J (AZ H λw a=>?_);have H:=a.l7;refine Bu [0,1,2,3,4,5,6] [1,0,5,1] J (λ_ c=>(AO (c.blk 0 Z) (AO (c.blk 1 Z) AM))) (by exact H.pick 7 [0,1] Z) Z J Z Z (AE [7] J O (Am (Bo Z Z Z Z Z Z (λw=>call33 _ w) (Hh P Z hL.inv U id cs) H.f5.f6 Z ?_)));rintro _ w _ (⟨a3,rfl,rfl⟩|⟨i,e,L,⟨hi,a1,y⟩,(⟨a2,rfl,rfl⟩|⟨b7,rfl,rfl⟩|⟨c4,C2,rfl,rfl⟩)⟩) a
  ·exact (by obtain ⟨e9,a6,q1,q2⟩:=f.back c b;exact absurd ⟨q1,q2⟩ (a3 e9 a6))
  ·exact absurd e7.1 a2
  ·exact (by have b2:=(f.both hi a1 c (b.trans y.symm)).2.2;have d0:=f.last hi a1 cs;rw[<-b2] at d0;exact absurd (d0.2 b7.2) e7.2)
  have H:=a.l7;refine Ar (λ_=>(H.pick 7 [2,3] Z)) (AE [8] J O (Am (CD Z Z Z Z (Bl Z Z) (Ar (λh=>absurd Z h) (Bj J (gn (Z4 19 [2,2,3] H Z ?_)))))));intro w H;refine Zr Z ?_;have K9:=H.says 1 Z (λh q=>trA.k q);exact ⟨_,⟨_,_,_,_,_,_,_,mb+2,⟨f.resize hi a1 c (b.trans y.symm) c4.1 c4.2 K9,(Dl _ _ _ _).symm,by omega,DoE.ot U U U,⟨by rw[<-c6];exact .tr a9 (.set c b),λq=>by omega⟩,a0⟩,Z,Z⟩,H.pick 7 [2,0,1,4,5] Z⟩
 refine Z0 6 [0] Z (Af Z (λg7=>?_) (λg7=>?_))
 ·refine Zc 3 Z (z_E_ Z (call34 _) (WS P o W Ac a5) H.f2.f1.f5.f4 ?_);intro w H;refine Zc 4 Z (Zr Z ?_);exact ⟨_,⟨_,_,P,_,o,_,_,mb,⟨a5,Z,by omega,DoE.ot U U U,.eq Z,a0⟩,Z,Z⟩,H.pick 7 [0,1,5,2,3] Z⟩
 refine Z0 6 [0] Z (Af Z (λf9=>?_) (λf9=>?_))
 ·refine Z2 6 [1,3,0] H Z (z_E_ Z (call35 _) (HW) H.f4.f5 ?_);intro w H;refine Z0 5 [3] Z (Zr Z ?_);exact ⟨_,⟨_,_,P,_,o,_,_,mb,⟨a5,Z,by omega,DoE.ot U U U,.eq Z,a0⟩,Z,Z⟩,H.pick 7 [5,0,1,2,4] Z⟩
 refine Z2 9 [1,3,0] H Z (z_E_ Z (call22 _) (QY) H.f5 ?_);intro w H;replace H:=H.l7;replace H:=H.f5;obtain ⟨M0,hr,a⟩:=H.tr0;clear H;obtain ⟨X,hX,H⟩:=a.po;clear a;have a:=H;clear H;have H:Sep z (plB pp X.ps X.pc X.pa n false::stoA X.ps X.pd X.D X.G none::coB X.pc X.bn n X.mm::Cf X.bn o.C n::AH X.mm X.l X.clk::alB X.pa n (AV n o.C) X.Dd (AV n o.C)::X.A::voA pv pp s ([]) (P.map Prod.fst)::wdA pw s W::wdA p2 s Wc::Ac::blk g [Y pd,Y pv,Y pw] 36::blk b1 [I kd,I ci,I ca,I cc,I cf,I cs,I cq,.bool sy,.bool od] 28::R) w:=a;clear a;refine z_E_ Z (call36 _) (WT) H ?_;intro w H;replace H:=H.l13;refine Aq Z (call37 _) (OC mb hX.fine U) H.f1 ?_;rintro _ w _ ⟨D2,G2,f7,i0,e4,i1,g5,rfl,rfl⟩ H;refine Z0 5 [3] Z (Zr Z ?_);have H8:=(H.pick 13 [1,0,2,3,4,5,6,11,7,8,10] Z).toPo (X:= {X with D:=D2,G:=G2}) (mb:=mb+1) (n:=n) (M0:=M0) (C0:=o.C) (t:=none) ⟨hX.hn,f7,(by show G2.x.pages=(n:Int);rcases g5 with q|q<;>rw[q.2]<;>exact hX.pg),hX.tab,λp hp=>(by show M0 p=G2.M p;rw[e4];exact hX.m0 p hp),λi hi=>(by show G2.M (1+i)=_;rw[e4];exact hX.cp i hi),hX.c0,hX.one,hX.idle,λT e=>(by cases e)⟩ Z;have H9:=Sep.toTr0 (o:=o) H8 hr;exact ⟨_,⟨_,_,P,_,o,W,Ac,mb+1,⟨a5,Z,by omega,DoE.ot U U U,.eq Z,a0⟩,Z,Z⟩,H9.pick 5 [1,2,0,3,4] Z⟩
end
section
variable{Tb:Ai}
theorem AcA(c:16<=n/\n<=639)(K:TrK n (FI n) none)(A:Ai):LvI n (FI n) 1 (List.replicate 8 pl0) [] A:=by
 refine ⟨⟨c.2,Z,by omega,λp hp=>.inl (Af3.1 hp).2,?_,by exact Ahd _⟩,⟨Ahd _,List.Pairwise.nil⟩,Z,λx d=>(by cases d),λp b h=>(by cases h),K⟩;rw[Afv];intro a b e f _ _;rw[List.getElem_replicate];rfl
theorem AcB:cnt (AV 64 (FI 64).C) 0 1024=62:=by decide+kernel
theorem AcC{o:TB}(K:TrK 64 o none)(hN:o.N=(FI 64).N)(a:o.R=[]):cnt (AV 64 o.C) 0 1024=62:=by
 rw[<-AcB];congr 1;funext p;unfold AV;have e:p<64->o.C p=(FI 64).C p:=λhp=>by
  show o.C p=C1 (manyN 64+1) p;unfold C1;by_cases h:p<manyN 64+1
  ·rw[if_pos h];exact K.one p U
  rw[if_neg h];have:=K.i.cnt p U hp;simpa [curC,CU,Dk,a,hN,FI,I4] using this
 by_cases hp:p<64
 ·simp[hp,e hp]
 simp[hp]
theorem Aar{k:Int}{V:List Bk}(h:∀b∈V,b.1≠k):By k V=V:=Agt.2 λb a=>by simpa using h b a
theorem Rb{k:Int}{V:List Bk}(h:∀b∈V,b.1<k):PutAt k B V (V++[(k,B)]):=by
 have e:=Aar (k:=k) (V:=V) λb a=>by have:=h b a;omega
 refine ⟨V.length,λj b _ a=>?_,λb a=>?_,?_⟩
 ·rw[e] at a;exact h b (Aec a)
 ·rw[e,AeI (Aei _)] at a;cases a
 rw[e,Ae7,List.drop_length]
theorem WU{c:O5}(h:W.map Wv.core=[c]):∃x:Wv,W=[x]/\x.core=c:=by
 match W,h with
 | [x],h=>exact ⟨x,Z,by simpa using h⟩
theorem PL{g o2 o3:TB}{i:Int}{W2 e:List Wv}(D1:DoE 64 (FI 64) g 1 s [] W 0 0 0 0 10 10 false)(K:TrK 64 g none)(D2:DoE 64 g o2 s p W W2 1 0 3 2 0 0 false)(D3:DoE 64 o2 o3 p i W2 e 4 0 0 0 0 0 false):e.length=2/\∃x,e[1]?=some x/\x.V.length=2:=by
 obtain ⟨e1,c1,n1,r1⟩:=D1.cr Z U U;obtain ⟨x,rfl,v⟩:=WU c1;simp only[Wv.core,Afx] at v;obtain ⟨x1,x2,x3,o⟩:=v;obtain ⟨y,u,e2,wr⟩:=D2.wr Z U O;simp at u;subst u;have hm:mV 2 false=128:=by decide
 rw[hm,AcC K n1 (r1.trans Z)] at wr;obtain ⟨j,k,u2,V2,bs,hj,⟨vf,b,vk,hv⟩,m,hc⟩:=wr y O Z (by rw[x2];decide);have a:0<k->vf 1=[(3,DM bs 0)]:=λh=>by
  have d:=(hv 0 h).2 (vf 0++[(3+((0:Nat):Int),DM bs 0)]) (Rb (by rw[b,o];simp));rw[b,o] at d;exact d.symm
 have n:1<k->vf 2=[(3,DM bs 0),(4,DM bs 1)]:=λh=>by
  have d:=(hv 1 h).2 (vf 1++[(3+((1:Nat):Int),DM bs 1)]) (Rb (by rw[a U];simp));rw[a U] at d;exact d.symm
 have hk:k=2:=by
  rcases hc with h|⟨h,q|q⟩
  ·exact h
  ·exfalso
   have r:k=0\/k=1:=by omega
   have:=q.2;rw[x3,<-vk] at this;rcases r with rfl|rfl
   ·rw[b,o] at this;simp at this
   rw[a U] at this;simp at this
  omega
 subst hk;have hV:V2.length=2:=by rw[<-vk,n U];rfl
 have f:j=0:=by
  have:=(Aeb.1 hj).1;simpa using this
 subst f;have hW:W2=[⟨y.id,y.sz,y.q,u2,V2⟩]:=m;subst hW;obtain ⟨t,w,c3⟩:=D3.sn Z U O U;simp at w;subst w;have z:=congrArg List.length c3;simp at z;refine ⟨z,?_⟩;have c:=congrArg (λl=>l[1]?) c3;simp only[Aeo] at c
 cases hq:e[1]? with
 | none=>rw[hq] at c;simp at c
 | some x3'=>
  rw[hq] at c;refine ⟨x3',Z,?_⟩;simp[Wv.core] at c;rw[c.2.2.2];exact hV
set_option maxHeartbeats 4000000 in
theorem Po (Tb:Ai) (hT:Hl Tb):Cn prog 7 [] [Tb] (λv Γ=>v=.bool true/\Γ=[Tb]):=by
 intro z R w H;replace H:=H.l1;refine Ae func7 Z ntmps7 Z (Zc 7 Z (Aq Z (call5 _) (Pe 64 U Tb hT) H ?_));rintro _ w _ ⟨pb,pd,o,pp,pw,rfl,rfl⟩ H;refine Zc 18 Z ?_;have H9:=H.nilg 90 2;clear H;have f:=H9.pick 5 [1,2,3,4,0] Z;clear H9;have H:Sep z (blk pb [Y pd,Y o,Y pw] 36::voA o pp 1 ([]) ((List.replicate 8 pl0).map Prod.fst)::trA Tb pp 6 64 (FI 64) none::wdA pw 1 ([])::grow 90 2 (.slice none 0 0) 0 []::R) w:=f;clear f;have m:=AcA (n:=64) U (H.says 2 Z (λh q=>trA.k q)) (grow 90 2 (.slice none 0 0) 0 []);refine Zc 2 Z (Ab Z (Bc Z Z (out:=[I 0,I 0,I 0,I 0,I 0,I 10,I 10,.bool false,.bool false]) J) (Aq Z (call6 _) (JI 64 (List.replicate 8 pl0) (FI 64) [] m U 0 0 0 0 0 10 10 false false U U U U) H ?_));rintro _ w _ ⟨p1,a6,P1,a1,o1,W1,A1,m1,⟨e,rfl,a4,y,_⟩,rfl,rfl⟩ H;refine Zc 6 Z (Ab Z (Bc Z Z (out:=[I 1,I 0,I 3,I 2,I 5,I 0,I 0,.bool true,.bool false]) J) (Aq Z (call6 _) (JI 64 P1 o1 W1 e U 1 0 3 2 5 0 0 true false U U U U) H ?_));rintro _ w _ ⟨p2,nx2,P2,a7,o2,W2,A2,m2,⟨i,rfl,a9,s,_⟩,rfl,rfl⟩ H;refine Zc 6 Z (Ab Z (Bc Z Z (out:=[I 4,I 0,I 0,I 0,I 0,I 0,I 0,.bool false,.bool false]) J) (Aq Z (call6 _) (JI 64 P2 o2 W2 i U 4 0 0 0 0 0 0 false false U U U U) H ?_));rintro _ w _ ⟨p3,a2,P3,a8,o3,W3,A3,m3,⟨d,rfl,a0,p,_⟩,rfl,rfl⟩ H;refine Zc 4 Z (Bh (Sep z (blk pb [Y pd,Y o,Y p3] 36::R)) 10 Z J (AZ H λw f=>?_));have H:=f.l5;refine Bu [0,1,2,3,4,5,6,7] [1,0,2,0] J (λ_ c=>(AO (c.blk 0 Z) AM)) (by exact H.pick 5 [0] Z) Z J Z Z (AE [8] J O (Am (Bo Z Z Z Z Z Z (λw=>call38 _ w) (Adp P3 o3 W3 A3 d U) H.f4.f4.f4.f4 Z ?_)));rintro _ w _ ⟨rfl,rfl⟩ H;replace H:=H.l5;refine Ar (λ_=>(H.pick 5 [4] Z)) (AE [9] J O (Am (CD Z Z Z Z (Bl Z Z) (Ar (λh=>absurd Z h) (Bj J (gn (Zc 2 Z ?_)))))));have K1:=e.k;obtain ⟨a5,x,c,t⟩:=PL y K1 s p;replace H:=H.f2;obtain ⟨uw,H⟩:=H.wd;replace H:=H.l6;have g:=H.sy 1 (·.slc);obtain ⟨aw,cw,rfl⟩:=g;have a:=(H.rv 1 (·.rd)).at (Bx c 0 _ Z);obtain ⟨xi,xs,xq,xu,xV⟩:=x;dsimp only at t;have l:InB A3 xu xV:=d.bag _ (Aec c);have u:=H.sy 4 (λq=>(l _ q).slc);obtain ⟨ax,cx,rfl⟩:=u;have b:=(H.rv 1 (·.rd)).at (Bx c 3 _ Z);refine Z2 23 [2,5,0,0,0,0,0] H Z (Al 52 Z (λh1=>?_) (λh1=>?_))
 ·refine Z2 7 [2,5,0,0,0,0] H Z (Ab Z (Aj Z (z:=4) (j:=1) (r:=4) J Z Z Z U a U) (Ab Z (Bm Z (k:=3) (r:=7) J Z a Z) (Ab Z (Ax Z Z J (Ay b)) (Z0 7 [0] Z (Zr Z ?_)))));exact ⟨_,⟨congrArg Value.bool (decide_eq_true U),Z⟩,((H.pick 6 [3] Z).trTab).2⟩
 (exfalso;omega)
end
section
variable{Tb:Ai}
structure ClE where
 kd:Int
 ci:Int
 ca:Int
 cc:Int
 cf:Int
 cs:Int
 cq:Int
 sy:Bool
 od:Bool
def ClE.cells(e:ClE):List Value:=[.int .i64 e.kd,.int .i64 e.ci,.int .i64 e.ca,.int .i64 e.cc,.int .i64 e.cf,.int .i64 e.cs,.int .i64 e.cq,.bool e.sy,.bool e.od]
def Ib(es:List ClE):List Value:=es.flatMap ClE.cells
theorem Aas(es:List ClE):(Ib es).length=es.length*9:=by
 induction es with
 | nil=>rfl
 | cons e es ih=>simp only[Ib,AeG,Aee] at ih ⊢;rw[ih];simp[ClE.cells];omega
theorem Ic:∀{es:List ClE} {j:Nat} {e:ClE},es[j]?=some e->∀k u,(ClE.cells e)[k]?=some u->(Ib es)[j*9+k]?=some u
 | x::es,0,e,h,k,u,hk=>by
  simp at h;subst h;have hl:=(Aeb.1 hk).1;simp only[Ib,AeG];rw[Aem U];simpa using hk
 | x::es,j+1,e,h,k,u,hk=>by
  have:=Ic (es:=es) (j:=j) (by simpa using h) k u hk;simp only[Ib,AeG] at this ⊢;rw[Aes (by simp[ClE.cells];omega)];rw[show (j+1)*9+k-(ClE.cells x).length=j*9+k from by simp[ClE.cells];omega];exact this
def ClE.In(e:ClE):Prop:=(-9223372036854775808<=e.kd/\e.kd<=9223372036854775807)/\(-9223372036854775808<=e.ca/\e.ca<=9223372036854775807)/\(-9223372036854775808<=e.cc/\e.cc<=9223372036854775807)/\(-9223372036854775808<=e.cf/\e.cf<=9223372036854775807)
def ClP(v:Value)(es:List ClE)(A:Ai):Prop:=∀h,A h->rdH 9 v es.length (Ib es) h/\∀e∈es,e.In
end
section
variable{Tb:Ai}
def Re:Ai:=λ_=>False
variable{n j k:Nat}{o o2:TB}{nx xi xs xq:Int}{P:List Pl}{W W2:List Wv}{A:Ai}{u:Value}{V:List Bk}
theorem LvI.void(h:LvI n o nx P W A):LvI n o nx P W Re:=⟨h.inv,h.rel,h.nxe,λ_ _ _ q=>q.elim,h.d,h.k⟩
theorem LvI.iso0(h:LvI n o nx P W A)(c:W[j]?=some ⟨xi,xs,xq,u,V⟩):LvI n o nx P (W.set j ⟨xi,xs,xq,u,V⟩) Re:=by
 have e:W.set j ⟨xi,xs,xq,u,V⟩=W:=by obtain ⟨b,a⟩:=Aeb.1 c;rw[<-a];exact Af6 b
 rw[e];exact h.void
theorem LvI.isoE(h:LvI n o nx P (W.set j ⟨xi,xs,xq,u,V⟩) Re)(d:j<W.length){e e2:Vl}{L L2:List E}(hi:P[i]?=some (e,L))(hs:e.st=1)(a:e.id=xi)
  (c:EaJ n ⟨o.N,o.C,A8 e.r.toNat++CZ (P.eraseIdx i)⟩ nx e (CZ (P.eraseIdx i)) k o2 e2 L2)(f:∀p b,o2.N p=some (.dt b)->b.length=240)(K:TrK n o2 none):LvI n o2 nx (P.set i (e2,L2)) (W.set j ⟨xi,xs,xq,u,AW o2.N L2⟩) Re:=by
 have:=h.ea (x:=⟨xi,xs,xq,u,V⟩) (u2:=u) (A2:=Re) hi hs (Aff d) a.symm c (Ink.refl _) (λ_ q=>q.elim) f K;rw[AgE] at this;exact this
theorem AcD(e:W2.map Wv.core=W.map Wv.core){x d g:Wv}(l:W2[i]?=some x)(f:W[j]?=some d)(b:x.id≠d.id):∃u,(W.set j g)[i]?=some ⟨x.id,x.sz,x.q,u,x.V⟩:=by
 have a:(W2.map Wv.core)[i]?=some x.core:=by rw[Aeo,l];rfl
 rw[e,Aeo] at a
 cases hy:W[i]? with
 | none=>rw[hy] at a;cases a
 | some y=>
  rw[hy] at a;simp only[AeR,Ael,Wv.core,Afx] at a;obtain ⟨e1,e2,h,k⟩:=a;have c:j≠i:=λq=>by subst q;rw[f] at hy;cases hy;exact b e1.symm
  refine ⟨y.u,?_⟩;rw[AfV c,hy,<-e1,<-e2,<-h,<-k]
set_option maxHeartbeats 8000000 in
theorem JK (c:Int) (hc: -9223372036854775808<=c/\c<=9223372036854775807) (A Tb:Ai) (hT:Hl Tb) (es:List ClE) (g8:es.length<=1048576) (hA:ClP v es A) {v2:Value} (es2:List ClE) (g0:es2.length<=1048576) (b0:ClP v2 es2 A):Cn prog 3 [v,I c,v2] [A,Tb] (λv Γ=>v=.bool true/\Γ=[A,Tb]):=by
 intro z R w H;replace H:=H.l2;obtain ⟨ao,oc,rfl⟩:=H.sy 0 (λq=>(hA _ q).1.slc);obtain ⟨d2,c2,rfl⟩:=H.sy 0 (λq=>(b0 _ q).1.slc);refine Ae func3 Z ntmps3 Z (Zc 7 Z (Aq Z (call5 _) (Pe 500 U Tb hT) H.f1 ?_));rintro _ w _ ⟨pb,pd,pv,pp,pw,rfl,rfl⟩ H;refine Zc 19 Z ?_;have H9:=H.nilg 90 2;clear H;have a:=H9.pick 6 [1,2,3,4,0,5] Z;clear H9;have H:Sep z (blk pb [Y pd,Y pv,Y pw] 36::voA pv pp 1 ([]) ((List.replicate 8 pl0).map Prod.fst)::trA Tb pp 6 500 (FI 500) none::wdA pw 1 ([])::grow 90 2 (.slice none 0 0) 0 []::A::R) w:=a;clear a;have e5:=AcA (n:=500) U (H.says 2 Z (λh q=>trA.k q)) (grow 90 2 (.slice none 0 0) 0 []);refine Zc 5 Z ?_;refine AB (σ:=Nat×Nat×Int×List Pl×TB×List Wv×Ai×Nat) (λ⟨i,pG,p,PG,oG,WG,AG,mG⟩=>[(9,I (i:Int)),(0,.slice ao es.length oc),(1,I c),(2,.slice d2 es2.length c2),(7,Y pb)])
   (λ⟨i,pG,p,PG,oG,WG,AG,mG⟩ w=>Sep z (blk pb [Y pd,Y pv,Y pG] 36::voA pv pp p ([]) (PG.map Prod.fst)::trA Tb pp mG 500 oG none::wdA pG p WG::AG::A::R) w/\(i<=es.length/\mG<=6+16*i/\LvI 500 oG p PG WG AG)) (λ⟨i,pG,p,PG,oG,WG,AG,mG⟩=>es.length-i) ⟨0,pw,1,List.replicate 8 pl0,FI 500,[],grow 90 2 (.slice none 0 0) 0 [],6⟩
   fr_z ⟨H,⟨AeO _,by omega,e5⟩⟩ ?_
 clear H;rintro ⟨i,pG,p,PG,oG,WG,AG,mG⟩ w ⟨a,hI⟩;dsimp only at hI a ⊢;have H:=a.l6;obtain ⟨i0,g7,a7⟩:=hI;refine Z0 9 [0] Z (Af Z (λh1=>?_) (λh1=>?_))
 ·refine Zc 5 Z ?_;obtain ⟨e,he⟩:∃e,es[i]?=some e:=⟨_,Aed U⟩;have o:=H.sy 5 (λq=>(hA _ q).2 e (Aec he))
  have d7:=(H.rv 5 (λq=>(hA _ q).1)).at (Ic he 0 _ Z);refine Zc 4 Z (Ab Z (Aj Z (z:=9) (j:=i) (r:=i*9) J Z Z Z U d7 U) (Ab Z (Bp Z Z (vs:=ClE.cells e) J (by simp[ClE.cells]) (Ay (λk u hk=>(H.rv 5 (λq=>(hA _ q).1)).at (Ic he k u hk)))) (Aq Z (call6 _) (JI 500 PG oG WG a7 U _ _ _ _ _ _ _ _ _ o.2.1 o.2.2.1 o.2.2.2 o.1) H ?_)));rintro _ w _ ⟨p2,nx2,P2,g6,o2,W2,A2,m2,⟨d3,rfl,c5,_⟩,rfl,rfl⟩ H;refine Z1 18 [] [(i:Int)+1] Z U (gf ?_);intro _ hF;refine ⟨⟨i+1,p2,nx2,P2,o2,W2,A2,m2⟩,hF.cz,⟨H,?_⟩,?_⟩
  ·exact ⟨by show i+1<=es.length;omega,by show m2<=6+16*(i+1);omega,d3⟩
  (dsimp only;omega)
 refine Zc 2 Z (gx (Zc 4 Z ?_));replace H:=H.f3;obtain ⟨uw,H⟩:=H.wd;replace H:=H.l7;have e1:=H.sy 1 (·.slc);obtain ⟨aw,cw,rfl⟩:=e1;have h0:=H.sy 1 (·.rd.slcapZ);have f0:=a7.w8;refine Z2 12 [2,2,0,0,0,0,0] H Z (Af Z (λh2=>?_) (λh2=>?_))
 ·refine Zc 1 Z ?_;replace H:=(((H.pick 7 [4,6] Z).trTab).2).l2
  refine Zc 1 Z (z_E_ Z (call7 _) (Po Tb hT) H ?_);intro w H;refine Zc 4 Z (Zr Z ?_);exact ⟨_,⟨Z,Z⟩,H.pick 2 [1,0] Z⟩
 refine Zc 3 Z ?_;have e6:0<WG.length:=by omega
 obtain ⟨j,e3⟩:∃j,j=pkI c WG.length:=⟨_,Z⟩;have a5:j<WG.length:=e3▸OU c e6;obtain ⟨x,f⟩:∃x,WG[j]?=some x:=⟨_,Aed a5⟩;have a4:=(H.rv 1 (·.rd)).at (Bx f 0 _ Z);obtain ⟨xi,xs,xq,d0,xV⟩:=x;replace H:=H.f1.f1.f2;refine Bh (Sep z (blk pb [Y pd,Y pv,Y pG] 36::blk pG [.slice aw WG.length cw,I p] 31::grow 40 4 (.slice aw WG.length cw) WG.length (Bq WG)::R)) 21 Z J (AZ H λw a=>?_);have H:=a.l7;refine Bu [0,1,2,3,4,5,6,7,8,9,10,11,12,13,14] [2,0,0,1,2,0,0,1] J (λ_ f=>(AO (f.blk 0 Z) (AO (f.blk 1 Z) AM))) (by exact H.pick 7 [0,1,2] Z) Z J Z Z (BJ 15 J Z Z J J J Z Z Z (Fs Z (z:=4) J Z) (H.pick 7 [0,1,2] Z) (AE [16] J O (Am (Bo Z Z Z Z Z Z (λw=>call8 _ w) (Mj WG.length hc U) H Z ?_))));rintro _ w _ ⟨rfl,rfl⟩ H;replace H:=H.l7;refine Ar (λ_=>(H.pick 7 [0,1,2] Z)) (BJ 17 J Z Z J J J Z Z Z (Aj Z (z:=4) (j:=j) (r:=j*4) J Z Z U U a4 U) (H.pick 7 [0,1,2] Z) (BJ 18 J Z Z J J J Z Z Z (Bm Z (k:=0) (r:=j*4) J Z a4 Z) (H.pick 7 [0,1,2] Z) (BJ 19 J Z Z J J J Z Z Z (Ax Z Z J (λ_ hs=>(hs.rv 2 (·.rd)).at (Bx f 0 _ Z))) (H.pick 7 [0,1,2] Z) (AE [20] J O (Am (CD Z Z Z Z (Bl Z Z) (Ar (λh=>absurd Z h) (Bj J (gn (Zc 2 Z ?_))))))))));have a:=(H.pick 7 [1,2,0,3,4,5,6] Z).toWd;clear H;have H:Sep z (wdA pG p WG::blk pb [Y pd,Y pv,Y pG] 36::voA pv pp p ([]) (PG.map Prod.fst)::trA Tb pp mG 500 oG none::AG::A::R) w:=a;clear a;have d5:=a7.iso0 f;have c7:=a7.bag;have c3:∀x∈WG,x.V.length<=1048576:=λx f=>by have:=(a7.w f).2.2.1;omega
 refine Z2 5 [2,1,0] H Z (Aq Z (call9 _) (Q6 U AG c7 c3) H.f4.f1 ?_);rintro _ w _ ⟨p2,Wc,Ac,⟨c8,g4,e4⟩,rfl,rfl⟩ H;replace H:=H.l7;have e7:Wc.length=WG.length:=by simpa using congrArg List.length c8
 refine Zc 10 Z ?_;refine AB (σ:=Nat×List Pl×TB×List Bk×Nat) (λ⟨i,PM,oM,VM,mM⟩=>[(13,I (i:Int)),(2,.slice d2 es2.length c2),(7,Y pb),(11,I xi),(12,Y p2)])
   (λ⟨i,PM,oM,VM,mM⟩ w=>Sep z (wdA pG p WG::wdA p2 p Wc::Ac::blk pb [Y pd,Y pv,Y pG] 36::voA pv pp p ([]) (PM.map Prod.fst)::trA Tb pp mM 500 oM none::A::R) w/\(i<=es2.length/\mM<=mG+16*i/\LvI 500 oM p PM (WG.set j ⟨xi,xs,xq,d0,VM⟩) Re)) (λ⟨i,PM,oM,VM,mM⟩=>es2.length-i) ⟨0,PG,oG,xV,mG⟩
   fr_z ⟨H,⟨AeO _,by omega,d5⟩⟩ ?_
 clear H;rintro ⟨i,PM,oM,VM,mM⟩ w ⟨a,hI⟩;dsimp only at hI a ⊢;have H:=a.l7;obtain ⟨g2,g9,b⟩:=hI;refine Z0 9 [0] Z (Af Z (λh3=>?_) (λh3=>?_))
 ·refine Zc 5 Z ?_;obtain ⟨e,he⟩:∃e,es2[i]?=some e:=⟨_,Aed U⟩;have o:=H.sy 6 (λq=>(b0 _ q).2 e (Aec he))
  have c9:=(H.rv 6 (λq=>(b0 _ q).1)).at (Ic he 0 _ Z);refine Zc 3 Z (Ab Z (Aj Z (z:=9) (j:=i) (r:=i*9) J Z Z Z U c9 U) (Ab Z (Bp Z Z (vs:=ClE.cells e) J (by simp[ClE.cells]) (Ay (λk u hk=>(H.rv 6 (λq=>(b0 _ q).1)).at (Ic he k u hk)))) (Za 0 [] H Z ?_)));intro b1 w H;refine Z4 7 [0,0,0,0] H Z ?_;intro w H;refine Ab Z (Na Z Z Z (by decide)) (Z0 3 [0] Z (Af Z (λh4=>?_) (λh4=>?_)))
  ·replace H:=H.f4;refine Bh (Sep z (blk pb [Y pd,Y pv,Y pG] 36::blk b1 [I e.kd,I e.ci,I e.ca,I e.cc,I e.cf,I e.cs,I e.cq,.bool e.sy,.bool e.od] 28::R)) 12 Z J (AZ H λw a=>?_)
   have H:=a.l8;refine Bu [0,1,2,3,4,5,6] [1,0,2,1] J (λ_ f=>(AO (f.blk 0 Z) (AO (f.blk 1 Z) AM))) (by exact H.pick 8 [0,1] Z) Z J Z Z (BJ 7 J Z Z J J J Z Z Z (BU Z Z (vs:=[I e.kd,I e.ci,I e.ca,I e.cc,I e.cf,I e.cs,I e.cq,.bool e.sy,.bool e.od]) J (λ_ f=>(f.blk 1 Z).part 0 9 _ Z)) (H.pick 8 [0,1] Z) (Bu [9,10] [7,0] J (λ_ f=>(AO (f.blk 1 Z) AM)) (by exact H.pick 8 [0,1] Z) Z J Z Z (AE [8] J O (Am (Bo Z Z Z Z Z Z (λw=>call11 _ w) (Pf o.2.2.2 o.2.2.1) H Z ?_)))));rintro _ w _ ⟨db,bs,g1,rfl,rfl⟩ H;replace H:=H.l9;have g3:=Se e.cc e.od;refine Ar (λ_=>(H.pick 9 [1,2] Z)) (AE [11] J O (Am (Bo Z Z Z Z Z Z (λw=>call10 _ w) (Ko PM Z b.inv U xi e.ca o.2.1 db bs U e.sy) H.f7.f7 Z ?_)));rintro _ w _ (⟨a6,rfl,rfl⟩|⟨ix,ex,Lx,⟨b5,b7,a2⟩,(⟨hE,rfl,rfl⟩|⟨hE,k9,o2,e2,L2,m2,er,⟨⟨b9,_⟩,d8,c5⟩,rfl,rfl⟩)⟩) a
   ·exact (by obtain ⟨e9,a9,q1,q2⟩:=b.back (Aff a5) Z;exact absurd ⟨q1,q2⟩ (a6 e9 a9))
   ·have H:=a.l9;refine Ar (λh=>absurd Z h) (Bj J (gn (Z1 7 [] [(i:Int)+1] Z U ?_)));replace H:=H.f4.d.f2.d.f6.f2.f2.f3.f6.f6.f6;refine gf ?_;intro _ hF;refine ⟨⟨i+1,PM,oM,VM,mM⟩,hF.cz,⟨H,?_⟩,?_⟩
    ·first|exact ⟨by show i+1<=es2.length;omega,by show m2<=mG+16*(i+1);omega,a8⟩|exact ⟨by show i+1<=es2.length;omega,by show mM<=mG+16*(i+1);omega,b⟩
    (dsimp only;omega)
   have H:=a.l9;rw[<-Dl PM ix e2 L2] at H;have b8:=H.says 1 Z (λh q=>trA.d64 q);have K2:=H.says 1 Z (λh q=>trA.k q);have a8:=b.isoE a5 b5 b7 a2 b9 b8 K2;refine Ar (λh=>absurd Z h) (Bj J (gn (Z1 7 [] [(i:Int)+1] Z U ?_)));replace H:=H.f4.d.f2.d.f6.f2.f2.f3.f6.f6.f6;refine gf ?_;intro _ hF;refine ⟨⟨i+1,PM.set ix (e2,L2),o2,AW o2.N L2,m2⟩,hF.cz,⟨H,?_⟩,?_⟩
   ·first|exact ⟨by show i+1<=es2.length;omega,by show m2<=mG+16*(i+1);omega,a8⟩|exact ⟨by show i+1<=es2.length;omega,by show mM<=mG+16*(i+1);omega,b⟩
   (dsimp only;omega)
  replace H:=H.f4;refine Bh (Sep z (blk pb [Y pd,Y pv,Y pG] 36::blk b1 [I e.kd,I e.ci,I e.ca,I e.cc,I e.cf,I e.cs,I e.cq,.bool e.sy,.bool e.od] 28::R)) 10 Z J (AZ H λw a=>?_);have H:=a.l8;refine Bu [0,1,2,3,4,5,6,7,8] [1,0,2,1,3,1] J (λ_ f=>(AO (f.blk 0 Z) (AO (f.blk 1 Z) AM))) (by exact H.pick 8 [0,1] Z) Z J Z Z (AE [9] J O (Am (Bo Z Z Z Z Z Z (λw=>call12 _ w) (Kq PM Z b.inv U xi e.ca e.cc o.2.1 o.2.2.1) H.f6.f6 Z ?_)));rintro _ w _ (⟨a6,rfl,rfl⟩|⟨ix,ex,Lx,⟨b5,b7,a2⟩,(⟨hE,rfl,rfl⟩|⟨hE,k9,o2,e2,L2,m2,er,⟨⟨b9,_⟩,d8,c5⟩,rfl,rfl⟩)⟩) a
  ·exact (by obtain ⟨e9,a9,q1,q2⟩:=b.back (Aff a5) Z;exact absurd ⟨q1,q2⟩ (a6 e9 a9))
  ·have H:=a.l8;refine Ar (λh=>absurd Z h) (Bj J (gn (Z1 7 [] [(i:Int)+1] Z U ?_)));replace H:=H.f3.d.f6.f2.f2.f3.f6.f6.f6;refine gf ?_;intro _ hF;refine ⟨⟨i+1,PM,oM,VM,mM⟩,hF.cz,⟨H,?_⟩,?_⟩
   ·first|exact ⟨by show i+1<=es2.length;omega,by show m2<=mG+16*(i+1);omega,a8⟩|exact ⟨by show i+1<=es2.length;omega,by show mM<=mG+16*(i+1);omega,b⟩
   (dsimp only;omega)
  have H:=a.l8;rw[<-Dl PM ix e2 L2] at H;have b8:=H.says 1 Z (λh q=>trA.d64 q);have K2:=H.says 1 Z (λh q=>trA.k q);have a8:=b.isoE a5 b5 b7 a2 b9 b8 K2;refine Ar (λh=>absurd Z h) (Bj J (gn (Z1 7 [] [(i:Int)+1] Z U ?_)));replace H:=H.f3.d.f6.f2.f2.f3.f6.f6.f6;refine gf ?_;intro _ hF;refine ⟨⟨i+1,PM.set ix (e2,L2),o2,AW o2.N L2,m2⟩,hF.cz,⟨H,?_⟩,?_⟩
  ·first|exact ⟨by show i+1<=es2.length;omega,by show m2<=mG+16*(i+1);omega,a8⟩|exact ⟨by show i+1<=es2.length;omega,by show mM<=mG+16*(i+1);omega,b⟩
  (dsimp only;omega)
 refine Zc 2 Z (gx (Zc 4 Z ?_));replace H:=H.f1;obtain ⟨g5,H⟩:=H.wd;replace H:=H.l8;have c6:=H.sy 1 (·.slc);obtain ⟨a0,a1,rfl⟩:=c6;have f9:=H.sy 1 (·.rd.slcapZ);refine Zc 5 Z ?_;refine AB (σ:=Nat) (λs=>[(15,I (s:Int)),(7,Y pb),(11,I xi),(12,Y p2)])
   (λs w=>Sep z (blk p2 [.slice a0 Wc.length a1,I p] 31::grow 40 4 (.slice a0 Wc.length a1) Wc.length (Bq Wc)::wdA pG p WG::Ac::blk pb [Y pd,Y pv,Y pG] 36::voA pv pp p ([]) (PM.map Prod.fst)::trA Tb pp mM 500 oM none::A::R) w/\(s<=Wc.length)) (λs=>Wc.length-s) 0
   fr_z ⟨H,AeO _⟩ ?_
 clear H;rintro s w ⟨a,hI⟩;have H:=a.l8;have hs:=hI;clear hI;refine Z2 12 [0,0,0,0] H Z (Af Z (λh5=>?_) (λh5=>?_))
 ·refine Zc 5 Z ?_;obtain ⟨y,hy⟩:∃y,Wc[s]?=some y:=⟨_,Aed U⟩;have b6:=(H.rv 1 (·.rd)).at (Bx hy 0 _ Z)
  obtain ⟨yi,ys,yq,yu,yV⟩:=y;have c4:InB Ac yu yV:=e4 _ (Aec hy);have d9:=H.sy 3 (λq=>(c4 _ q).slc);obtain ⟨ay,cy,rfl⟩:=d9;refine Z2 6 [0,0,0] H Z (Ab Z (Aj Z (z:=4) (j:=s) (r:=s*4) J Z Z Z U b6 U) (Ab Z (Bp Z Z (vs:=[I yi,I ys,I yq,.slice ay yV.length cy]) J O (Ay (λk' u hk=>(H.rv 1 (·.rd)).at (Bx hy k' u hk)))) (Za 0 [] H Z ?_)));intro b2 w H;refine Z4 9 [0] H Z ?_;intro w H;refine AB (σ:=Nat) (λt=>[(17,I (t:Int)),(7,Y pb),(11,I xi),(12,Y p2),(15,I (s:Int)),(16,Y b2),(111,I (s:Int)),(112,Y p2),(113,Y p2),(114,Y p2),(115,.slice a0 Wc.length a1),(116,I (Wc.length:Int)),(117,.bool (decide ((s:Int)<(Wc.length:Int)))),(120,Y p2),(121,Y p2),(122,Y p2),(123,.slice a0 Wc.length a1),(124,I (s:Int)),(125,Hj a0 (s*4)),(126,.agg #[I yi,I ys,I yq,.slice ay yV.length cy])])
    (λt w=>Sep z (blk b2 [I yi,I ys,I yq,.slice ay yV.length cy] 40::blk p2 [.slice a0 Wc.length a1,I p] 31::grow 40 4 (.slice a0 Wc.length a1) Wc.length (Bq Wc)::wdA pG p WG::Ac::blk pb [Y pd,Y pv,Y pG] 36::voA pv pp p ([]) (PM.map Prod.fst)::trA Tb pp mM 500 oM none::A::R) w/\(t<=80)) (λt=>80-t) 0
    fr_z ⟨H,U⟩ ?_
  clear H;rintro t w ⟨a,hI⟩;have H:=a.l9;have ht:=hI;clear hI;refine Z2 8 [0,0,0,0] H Z (Al 131 Z (λh6=>?_) (λh6=>?_))
  ·refine Z2 6 [1,0,0,0] H Z (Al 137 Z (λh7=>?_) (λh7=>?_))
   ·refine Z0 5 [0] Z (Af Z (λh8=>?_) (λh8=>?_))
    ·refine Zc 5 Z ?_;obtain ⟨u9,a3⟩:=AcD (g:=⟨xi,xs,xq,d0,VM⟩) c8 hy f (by assumption);dsimp only at a3
     have d4:=b.w (Aec a3);dsimp only at d4;replace H:=H.f5;refine Bh (Sep z (blk pb [Y pd,Y pv,Y pG] 36::blk b2 [I yi,I ys,I yq,.slice ay yV.length cy] 40::R)) 13 Z J (AZ H λw a=>?_);have H:=a.l9;refine Bu [0,1,2,3,4,5,6] [1,0,0,1] J (λ_ f=>(AO (f.blk 0 Z) (AO (f.blk 1 Z) AM))) (by exact H.pick 9 [0,1] Z) Z J Z Z (AE [7] J O (Am (Bo Z Z Z Z Z Z (λw=>call13 _ w) (FZ PM Z b.inv U yi (t:Int) 1 U U) H.f7.f7 Z ?_)));rintro _ w _ (⟨a6,rfl,rfl⟩|⟨i9,e9,L9,⟨c1,d1,b4⟩,(⟨c0,rfl,rfl⟩|⟨c0,e0,rfl,rfl⟩)⟩) a
     ·exact (by obtain ⟨e9,a9,q1,q2⟩:=b.back a3 Z;exact absurd ⟨q1,q2⟩ (a6 e9 a9))
     ·exact (by have b3:=b.both c1 d1 a3 b4.symm;have d6:=b3.1;dsimp only at d6;exact absurd (by unfold Bn;rw[if_pos ⟨Z,by omega,by omega⟩,if_pos U]) c0)
     have H:=a.l10;have b3:=(b.both c1 d1 a3 b4.symm).2.2;dsimp only at b3;rw[<-b3,JH] at H;have e8:=H.sy 0 (·.slc);refine Ar (λ_=>(H.pick 10 [3,4] Z)) (Bu [8,9,10,11] [] J (λ_ _=>AM) (by exact H.pick 10 [3,4] Z) Z J Z Z (AE [12] J O (Am (CD Z Z Z Z (Bl Z Z) (Ar (λh=>absurd Z h) (Bj J (gn (Zc 2 Z ?_))))))));replace H:=H.f4;refine AN (Sep z (blk b2 [I yi,I ys,I yq,.slice ay yV.length cy] 40::grow 5 1 e0 ((BT (t:Int) yV).length) ((BT (t:Int) yV).map u8)::R)) 10 Z J (AZ H λw a=>?_);have H:=a.l10;refine AT [0,1,2,3] [4] [] (by exact H.pick 10 [0,1] Z) Z J Z (BN 4 Z J J J Z Z Z (Cg (l:=BT (t:Int) yV) Z J J Z (λ_ hs=>hs.rv 1 (·.rd))) (H.pick 10 [0,1] Z) (AT [5,6] [0,4] [] (by exact H.pick 10 [0,1] Z) Z J Z (AC [7] J O (Am (Bo Z Z Z Z Z Z (λw=>call14 _ w) (O0 c4) H.f8 Z ?_)))));rintro _ w _ ⟨rfl,rfl⟩ H;replace H:=H.l10;refine Av (H.pick 10 [1,2] Z) (BN 8 Z J J J Z Z Z (IJ (l:=BT (t:Int) yV) (m:=BT (t:Int) yV) Z J Z Z) (H.pick 10 [1,2] Z) (AT [9] [] [] (by exact H.pick 10 [1,2] Z) Z J Z (a_done J (gn (Zc 1 Z (Af Z (λh9=>?_) (λh9=>?_)))))))
     ·first|exact absurd rfl h9
     refine Z1 8 [] [(t:Int)+1] Z U ?_;replace H:=H.f2.d.f8.f4.f4.f5.f4.f8.f8.f8.f8;refine gf ?_;intro _ hF;refine ⟨(t+1),hF.cz,⟨H,?_⟩,?_⟩
     ·omega
     omega
    refine Zc 2 Z (gx (Z1 8 [] [(s:Int)+1] Z U ?_));replace H:=H.d;refine gf ?_;intro _ hF;refine ⟨(s+1),hF.cz,⟨H,?_⟩,?_⟩
    ·omega
    omega
   refine Zc 8 Z (gx (Z1 8 [] [(s:Int)+1] Z U ?_));replace H:=H.d;refine gf ?_;intro _ hF;refine ⟨(s+1),hF.cz,⟨H,?_⟩,?_⟩
   ·omega
   omega
  refine Zc 14 Z (gx (Z1 8 [] [(s:Int)+1] Z U ?_));replace H:=H.d;refine gf ?_;intro _ hF;refine ⟨(s+1),hF.cz,⟨H,?_⟩,?_⟩
  ·omega
  omega
 refine Zc 2 Z (gx (Zc 3 Z ?_));replace H:=(((H.pick 8 [6,7] Z).trTab).2).l2;refine Zc 1 Z (z_E_ Z (call7 _) (Po Tb hT) H ?_);intro w H;refine Zc 4 Z (Zr Z ?_);exact ⟨_,⟨Z,Z⟩,H.pick 2 [1,0] Z⟩
end
section
open Go.ChangeShapes Go.WideShapes Go.ChangeAt Go.RowKit Go.Joins
theorem own:ownKnob prog.godebug=none:=by kernel_rfl
theorem Rg:laidOutB prog=true:=by kernel_rfl
theorem DN:prog.cellsOf 3=1:=by kernel_rfl
def Nj:DataW Unit->List Value
 | .lit (.int k n)=>[.int k n]
 | .agg parts=>flatWs parts
 | _=>[]
where flatWs:List (DataW Unit)->List Value
 | []=>[]
 | d::ds=>Nj d++flatWs ds
def WV:Obj->Obj
 | .cells c t frozen=>.cells (if c.size=32 then (Nj Rows.laid_unicode_utf8_acceptRanges).toArray else if c.size=64 then (Nj Rows.laid_math_bits_deBruijn64tab).toArray else (Nj Rows.laid_unicode_utf8_first).toArray) t frozen
 | o=>o
noncomputable def Jc(os:Os):World:=
 {World.holding prog os ⟨#[],#[],[]⟩ with heap:=(((World.holding prog os ⟨#[],#[],[]⟩).heap.modify 0 WV).modify 1 WV).modify 2 WV}
theorem JP{α:Type}(P:Nat->α->Prop):∀n,(∀i,i<n->∃a,P i a)->∃l:List α,l.length=n/\∀i a,l[i]?=some a->P i a
 | 0,_=>⟨[],Z,λi a h=>by simp at h⟩
 | n+1,h=>by
  obtain ⟨l,hl,hp⟩:=JP P n (λi hi=>h i U);obtain ⟨a,d⟩:=h n U;refine ⟨l++[a],by simp[hl],λi b c=>?_⟩;rcases Aeq i n with q|q
  ·rw[Aem U] at c;exact hp i b c
  rw[Aes U] at c;obtain rfl:i=n:=by have:=(Aeb.1 c).1;simp at this;omega
  simp[hl] at c;subst c;exact d
abbrev Adq(x:Int):Prop:= -9223372036854775808<=x/\x<=9223372036854775807
theorem Lm(h:(Lit.int .i64 t).wf=true):Adq t:=by
 simp only[Lit.wf,AeC,decide_eq_true_eq] at h;have a:IntKind.i64.min= -9223372036854775808:=by decide
 have b:IntKind.i64.max=9223372036854775807:=by decide
 rw[a,b] at h;exact h
theorem WW{H:Type}(d:DataW H):1<=Rows.uptoBulk d:=by
 cases d with
 | lit l=>cases l<;>simp[Rows.uptoBulk]
 | nil=>simp[Rows.uptoBulk]
 | ptr d=>simp[Rows.uptoBulk]
 | slice elems spare=>simp[Rows.uptoBulk]
 | agg parts=>simp[Rows.uptoBulk]
 | iface t d=>simp[Rows.uptoBulk]
 | map entries=>simp[Rows.uptoBulk]
 | held h=>simp[Rows.uptoBulk]
theorem WX{H:Type}(l:List (DataW H)):l.length<=Rows.uptoBulkAll l:=by
 induction l with
 | nil=>simp
 | cons x r ih=>have:=WW x;simp only[Rows.uptoBulkAll,Aeg];omega
theorem Pp:prog.cellsOf 28=9:=by kernel_rfl
theorem Aat{H:Type}{enc:TypeId×Value->H}{d:DataW H}{p:List MemPlace}(h:DataW.trod enc prog z 0 (λ_=>true) true m 28 V=some (d,p)):
  ∃e:ClE,V=ClE.cells e/\e.In:=by
 obtain ⟨xs,n,rfl,hx,hl,q,a⟩:=DataW.trod_struct underlying28 h;rw[Pp] at hl
 match V,hl with
 | [c0,c1,c2,c3,c4,c5,c6,c7,c8],_=>
  have f0:=a 0 _ Z;have f:=a 1 _ Z;have o:=a 2 _ Z;have j:=a 3 _ Z;have i:=a 4 _ Z;have g:=a 5 _ Z;have c:=a 6 _ Z;have k:=a 7 _ Z;have r:=a 8 _ Z
  match xs,q with
  | [y0,y1,y2,y3,y4,y5,y6,y7,y8],_=>
   have b:prog.cellsOf 4=1:=by kernel_rfl
   try dsimp only at f0
   try simp only[DN,b,Aeu,Ae3,Ae5,AfE,AeS,Aey] at f0
   try dsimp only at f
   try simp only[DN,b,Aeu,Ae3,Ae5,AfE,AeS,Aey] at f
   try dsimp only at o
   try simp only[DN,b,Aeu,Ae3,Ae5,AfE,AeS,Aey] at o
   try dsimp only at j
   try simp only[DN,b,Aeu,Ae3,Ae5,AfE,AeS,Aey] at j
   try dsimp only at i
   try simp only[DN,b,Aeu,Ae3,Ae5,AfE,AeS,Aey] at i
   try dsimp only at g
   try simp only[DN,b,Aeu,Ae3,Ae5,AfE,AeS,Aey] at g
   try dsimp only at c
   try simp only[DN,b,Aeu,Ae3,Ae5,AfE,AeS,Aey] at c
   try dsimp only at k
   try simp only[DN,b,Aeu,Ae3,Ae5,AfE,AeS,Aey] at k
   try dsimp only at r
   try simp only[DN,b,Aeu,Ae3,Ae5,AfE,AeS,Aey] at r
   obtain ⟨z0,e0,_,w0⟩:=Agp underlying3 f0;obtain ⟨z1,e1,_,w1⟩:=Agp underlying3 f;obtain ⟨z2,e2,_,w2⟩:=Agp underlying3 o;obtain ⟨z3,e3,_,w3⟩:=Agp underlying3 j;obtain ⟨z4,e4,_,w4⟩:=Agp underlying3 i;obtain ⟨z5,e5,_,w5⟩:=Agp underlying3 g;obtain ⟨z6,e6,_,w6⟩:=Agp underlying3 c;obtain ⟨z7,e7,_⟩:=DataW.trod_bool underlying4 k;obtain ⟨z8,e8,_⟩:=DataW.trod_bool underlying4 r;have g0:=congrArg (λl=>l.headD .nilFunc) e0
   try simp at g0
   subst g0;have v:=congrArg (λl=>l.headD .nilFunc) e1
   try simp at v
   subst v;have y:=congrArg (λl=>l.headD .nilFunc) e2
   try simp at y
   subst y;have t:=congrArg (λl=>l.headD .nilFunc) e3
   try simp at t
   subst t;have w:=congrArg (λl=>l.headD .nilFunc) e4
   try simp at w
   subst w;have x:=congrArg (λl=>l.headD .nilFunc) e5
   try simp at x
   subst x;have u:=congrArg (λl=>l.headD .nilFunc) e6
   try simp at u
   subst u;have g7:=congrArg (λl=>l.headD .nilFunc) e7
   try simp at g7
   subst g7;have s:=congrArg (λl=>l.headD .nilFunc) e8
   try simp at s
   subst s;exact ⟨⟨z0,z1,z2,z3,z4,z5,z6,z7,z8⟩,Z,Lm w0,Lm w2,Lm w3,Lm w4⟩
theorem Rh:∀(es:List ClE) (k:Nat) (u:Value),(Ib es)[k]?=some u->∃e,es[k/9]?=some e/\(ClE.cells e)[k%9]?=some u
 | [],k,u,h=>by simp[Ib] at h
 | x::es,k,u,h=>by
  have hl:(ClE.cells x).length=9:=rfl;simp only[Ib,AeG] at h;rcases Aeq k 9 with q|q
  ·rw[Aem U] at h
   exact ⟨x,by rw[AgH q];rfl,by rw[AfA q];exact h⟩
  rw[Aes U,hl] at h;obtain ⟨e,b,a⟩:=Rh es (k-9) u h;refine ⟨e,?_,?_⟩
  ·rw[show k/9=(k-9)/9+1 from by omega];simpa using b
  rw[show k%9=(k-9)%9 from by omega];exact a
theorem Pq{H:Type}{enc:TypeId×Value->H}{d:DataW H}{p:List MemPlace}(h:DataW.trod enc prog z 0 (λ_=>true) true m 22 [v]=some (d,p)):
  ∃es:List ClE,Rd 9 v es.length (Ib es) z/\(∀e∈es,e.In)/\es.length<=Rows.uptoBulk d:=by
 rcases DataW.trod_slice underlying22 h with ⟨f,_⟩|⟨a,a2,a1,c,rest,n,rfl,f,hx,_,a5,w,a3,hg,_,_⟩
 ·simp only[Ag2,and_true] at f;subst f
  exact ⟨[],by simpa [Ib] using Rd.nil 9 z,λe he=>absurd he O,by simp⟩
 simp only[Ag2,and_true] at f;subst f;have hd:d=.slice (c.map (·.1)) (rest.map (·.1)):=by have:=congrArg Prod.fst hx;simpa using this
 obtain ⟨es,q,hP⟩:=JP (λi (e:ClE)=>(∀j,j<9->z.cell? ((a.add (i*9)).add j)=(ClE.cells e)[j]?)/\e.In) a2 (λi hi=>by
  have hb:=hg i hi;rw[Pp] at hb;obtain ⟨y,hy⟩:∃y,c[i]?=some y:=⟨_,Aed U⟩;rw[hy,Option.bind_eq_some_iff] at hb;obtain ⟨cs,s,ht⟩:=hb;obtain ⟨e,rfl,r⟩:=Aat (d:=y.1) (p:=y.2) ht;exact ⟨e,(World.cells?_some s).2.2,r⟩)
 refine ⟨es,⟨some a,a1,by rw[q],by omega,(by unfold maxLen at w;omega),by rw[Aas],λk u hk=>?_⟩,λe he=>?_,?_⟩
 ·obtain ⟨e,r,h2⟩:=Rh _ k u hk
  have s:=(hP _ e r).1 (k%9) (Nat.mod_lt _ U);rw[h2] at s;obtain ⟨b,g,l⟩:=a;have o:l=none:=by
   have a4:=(Aeb.1 r).1;obtain ⟨t,a0⟩:∃t,es[0]?=some t:=⟨_,Aed U⟩;have x:=(hP _ t a0).1 0 U;have h0:z.cell? ⟨b,g,l⟩=some (.int .i64 t.kd):=by simpa [Addr.add,ClE.cells] using x
   exact World.cell?_spot h0
  subst o;refine ⟨b,g,Z,?_⟩;unfold FE;have e2:((Addr.add ⟨b,g,none⟩ (k/9*9)).add (k%9))=⟨b,g+k,none⟩:=by
   rw[Go.WideShapes.add_plain,Go.WideShapes.add_plain];congr 1;omega
  rw[<-e2];exact s
 ·obtain ⟨i,hi⟩:=Ae2 he
  exact (hP i e hi).2
 rw[q,hd];have:=WX (c.map (·.1));simp only[Rows.uptoBulk,Aef] at this ⊢;omega

theorem AcE:prog.globalNamed "math/bits.deBruijn64tab"=some 0:=by kernel_rfl
theorem WY:(prog.globals[0]?).map (·.type)=some 306:=by kernel_rfl
theorem Aau:prog.cellsOf 306=64:=by kernel_rfl
theorem Aav:prog.cellsOf 5=1:=by kernel_rfl
def tzL:List Int:=Lib.deBruijn64tab.map Int.ofNat
theorem Nk(h:laidMetH prog Rows.volumesIsolatedUptoRow.laid z):Lib.TabIs prog z "math/bits.deBruijn64tab" .u8 tzL:=
 Lib.tabIs_of_head (rest:=[("unicode/utf8.acceptRanges",Rows.laid_unicode_utf8_acceptRanges),("unicode/utf8.first",Rows.laid_unicode_utf8_first)]) AcE WY underlying306 underlying5 Aav Aau h
theorem Mk{W:World}(h:Lib.TabIs prog W "math/bits.deBruijn64tab" .u8 tzL):∃t a,W.heap[0]?=some (.cells (tzL.map λz=>Value.int .u8 z).toArray t a):=by
 unfold Lib.TabIs World.var? at h;rw[AcE] at h;simp only[AgV] at h
 cases e:W.heap[0]? with
 | none=>rw[e] at h;cases h
 | some o=>
  rw[e] at h;cases o<;>simp at h;subst h;exact ⟨_,_,Z⟩
def JJ(W:World):Ai:=λh=>∀k,k<W.heap.size->k≠0->h k=W.heap[k]?
def Pr(W:World):Ai:=λh=>h 0=W.heap[0]?
theorem AcF:(List.range 64).all (λj=>tzL[j]? == some ((S0 j).toNat:Int))=true:=by decide+kernel
theorem Adr(f:Lib.TabIs prog z "math/bits.deBruijn64tab" .u8 tzL):Hl (Pr z):=λh b j c=>by
 obtain ⟨t,a,e⟩:=Mk f;have:=Af2.1 AcF j (AfQ.2 c);have d:tzL[j]?=some ((S0 j).toNat:Int):=by simpa using this
 exact ⟨_,t,a,(show h 0=_ from b).trans e,by simp[d,u8]⟩
theorem Aaw(a:Lib.TabIs prog z "math/bits.deBruijn64tab" .u8 tzL):0<z.heap.size:=by
 obtain ⟨t,b,e⟩:=Mk a;rcases AgT z.heap.size with q|q
 ·rw[Ae0 U] at e;cases e
 exact q
theorem Un{W:World}(i:Lib.TabIs prog W "math/bits.deBruijn64tab" .u8 tzL)(a:FE n m v W)(g:∀x,v≠ .int .u8 x):∀h,JJ W h->celH h n m v:=λh j=>by
 have b:n≠0:=λe=>by
  subst e;obtain ⟨t,d,e⟩:=Mk i;unfold FE World.cell? at a;rw[e] at a;simp at a;obtain ⟨z,_,f⟩:=a;exact g _ f.symm
 unfold FE World.cell? at a
 cases hh:W.heap[n]? with
 | none=>rw[hh] at a;simp at a
 | some o'=>
  rw[hh] at a
  cases o' with
  | cells cs ty d=>
   simp at a;have c:n<W.heap.size:=by
    rcases Aeq n W.heap.size with q|q
    ·exact q
    rw[Ae0 q] at hh;cases hh
   exact ⟨cs,ty,d,(j n c b).trans hh,a⟩
  | _=>simp at a
theorem Ps(i:Lib.TabIs prog z "math/bits.deBruijn64tab" .u8 tzL)(r:Rd m v n V z)(k:∀u∈V,∀x,u≠ .int .u8 x):∀h,JJ z h->rdH m v n V h:=λh o=>by
 obtain ⟨t,c,e,d,g,q,s⟩:=r;exact ⟨t,c,e,d,g,q,λj u a=>by
  obtain ⟨b,p,f,l⟩:=s j u a;exact ⟨b,p,f,Un i l (k u (Aec a)) h o⟩⟩
theorem XE{es:List ClE}:∀u∈Ib es,∀x,u≠ .int .u8 x:=λu b x=>by
 simp only[Ib,Agg] at b;obtain ⟨e,_,a⟩:=b;simp[ClE.cells] at a;rcases a with rfl|rfl|rfl|rfl|rfl|rfl|rfl|rfl|rfl<;>simp
theorem Ri{o:Obj}(e:h.part C i n=some o):h n=some o:=by
 unfold Hp.part at e;split at e
 ·exact e
 cases e
theorem Cn.run2{P:Program}{f:FuncId}{args:List Value}{W:World}(n:0<W.heap.size)(h:Cn P f args [JJ W,Pr W] (λv Γ=>v=u/\Γ=[JJ W,Pr W])):Calls P f args.toArray W (Ret λv W'=>v=u/\Ext No W W'):=by
 have l:Sep W [JJ W,Pr W] W:=⟨Z,Z,Z,λq=>if q=0 then 1 else 0,λi A a=>by
  match i,a with
  | 0,a=>cases a;intro k c e;simp[Hp.part,hp,e]
  | 1,a=>cases a;show Hp.part _ _ _ 0=_;simp[Hp.part,hp]⟩
 refine Ret.mono (h W [] W l) ?_;rintro v W' ⟨Γ,⟨rfl,rfl⟩,H⟩;obtain ⟨own,b⟩:=H.own;have m:=b 0 _ Z;have j:=b 1 _ Z;have d:∀k,k<W.heap.size->hp W' k=W.heap[k]? :=λk c=>by
  obtain ⟨o,g⟩:∃o,W.heap[k]?=some o:=⟨_,AgO c⟩;rw[g];by_cases q:k=0
  ·subst q;exact Ri ((show _=_ from j).trans g)
  exact Ri ((m k c q).trans g)
 have H2:Sep W [base W] W':=⟨H.os,H.tape,H.output,λk=>if k<W.heap.size then 0 else 1,λi A a=>by
  match i,a with
  | 0,a=>cases a;intro k c;unfold Hp.part;rw[if_pos (by simp[c])];exact d k c⟩
 exact ⟨Z,Sep.done 0 H2 Z⟩
section
variable{H:Type}{enc:TypeId×Value->H}{P:Program}{w:World}{base:Nat}{spare:Nat->Bool}{held:Bool}
end
section
variable{H:Type}{enc:TypeId×Value->H}{P:Program}{w:World}{base:Nat}{spare:Nat->Bool}{held:Bool}
end
section
variable{H:Type}{enc:TypeId×Value->H}{P:Program}{w:World}{base:Nat}{spare:Nat->Bool}{held:Bool}
theorem Ads{t1 t2:TypeId}{args:Array Value}{ds:List (DataW H)}{ps:List MemPlace}(h:DataW.TrodAll enc P w base spare held [T,t1,t2] args.toList ds ps):
  ∃v0 a c b d1 d2 d e p2,args= #[v0,a,c]/\ds=[b,d1,d2]/\ps=d++(e++p2)/\DataW.Trod enc P w base spare held T v0 b d/\DataW.Trod enc P w base spare held t1 a d1 e/\DataW.Trod enc P w base spare held t2 c d2 p2:=by
 obtain ⟨v0,q,b,n,d,t,l,rfl,rfl,j,k⟩:=trodAll_cons h;obtain ⟨a,r,d1,s,e,u,rfl,rfl,rfl,g,m⟩:=trodAll_cons k;obtain ⟨c,p,d2,o,p2,v,rfl,rfl,rfl,f,i⟩:=trodAll_cons m;obtain ⟨rfl,rfl,rfl⟩:=trodAll_nil i;exact ⟨v0,a,c,b,d1,d2,d,e,p2,by cases args;simp_all,Z,by simp,j,g,f⟩
theorem Aax{t1 t2:TypeId}{c d1 d2:DataW H}{a b p2:List MemPlace}(e:DataW.Trod enc P w base spare held T v c a)(d:DataW.Trod enc P w base spare held t1 u d1 b)(f:DataW.Trod enc P w base spare held t2 y d2 p2):DataW.TrodAll enc P w base spare held [T,t1,t2] [v,u,y] [c,d1,d2] (a++(b++p2)):=
 ⟨a,_,e,⟨b,_,d,(trodAll_mk1 f),Z⟩,Z⟩
end
end
open Go.ChangeShapes Go.WideShapes Go.ChangeAt Go.RowKit Go.Joins
theorem Aay(a:Os):laidMet prog Rows.volumesIsolatedUptoRow.laid ((Jc a).forCall (λ_ _=>0) ⟨#[],#[.slice none 0 0,.int .i64 0,.slice none 0 0],[]⟩).memory:=
 laidMet_of_run' 8 J J
theorem Uo(b:Os){H:Type}(enc:TypeId×Value->H):∃a,DataW.whole enc prog ((Jc b).forCall (λ_ _=>0) ⟨#[],#[.slice none 0 0,.int .i64 0,.slice none 0 0],[]⟩).memory f3.params.toList Rows.volumesIsolatedSpec.vars false #[Value.slice none 0 0,.int .i64 0,.slice none 0 0].toList 8=some ([.nil,.lit (.int .i64 0),.nil],[],a):=
 ⟨[],by kernel_rfl⟩
theorem vis_contract(H:Type)(enc:TypeId×Value->H)(W:World)(base:Nat)(args:Array Value)(ds gs:List (DataW H))(c:List MemPlace)
  (a:∀(j:Nat) t v,f3.params[j]?=some t->args[j]?=some v->Value.okWide prog W .any base t v)
  (hW:DataW.Whole enc prog f3.params.toList Rows.volumesIsolatedSpec.vars false W args.toList ds gs c)(hk:Rows.uptoSmall H (ds++gs)=true)(i:laidMetH prog Rows.volumesIsolatedUptoRow.laid W):
  Calls prog 3 args W λe W'=>∃v,e=.returned v/\Rows.volumesIsolatedSpec.post enc prog f3 false true false false W args v W':=by
 have b:=hW;obtain ⟨p,q,w,hV,rfl,_,_⟩:=hW;have hA:DataW.TrodAll enc prog W 0 (λ_=>true) true f3.params.toList args.toList ds p:=w;rw[params3] at hA a;obtain ⟨v0,v1,v2,d0,d1,d2,p0,p1,p2,rfl,rfl,rfl,h0,h1,h2⟩:=Ads hA;obtain ⟨rfl,rfl⟩:=trodVars_none hV;simp only[AeV] at b hk;have t0:∀x∈p0,x.block<W.heap.size:=λx k=>by have:=b.lt x (by simp[k]);simpa using this
 have t2:∀x∈p2,x.block<W.heap.size:=λx k=>by have:=b.lt x (by simp[k]);simpa using this
 have hb:Rows.uptoBulkAll [d0,d1,d2]<=1048576:=of_decide_eq_true hk;simp only[Rows.uptoBulkAll] at hb;obtain ⟨a1,l0,c0,rfl⟩:=okWide_slice underlying22 (a 0 22 v0 Z Z);obtain ⟨l,y⟩:=id h0;obtain ⟨s,z,g,n⟩:=Pq (h:=y);obtain ⟨i1,rfl,rfl,rfl,d⟩:=open_int underlying3 (a 1 3 v1 Z Z) h1;obtain ⟨a2,l2,c2,rfl⟩:=okWide_slice underlying22 (a 2 22 v2 Z Z);obtain ⟨o,a0⟩:=id h2;obtain ⟨es2,r,f,m⟩:=Pq (h:=a0);refine (Cn.run2 (Aaw (Nk i)) (JK i1 (Lm d) (JJ W) (Pr W) (Adr (Nk i)) s U (λh hh=>⟨Ps (Nk i) z (XE) h hh,g⟩) es2 U (λh hh=>⟨Ps (Nk i) r (XE) h hh,f⟩))).mono λe W' hR=>?_;obtain ⟨u,rfl,rfl,x⟩:∃u,e=Ending.returned u/\u=.bool true/\Ext No W W':=by cases e<;>first|exact ⟨_,rfl,hR⟩|exact hR.elim
 exact ⟨_,rfl,_,_,_,[],_,[],b,trodAll_mk1 (shut_bool underlying4 true),Aax (Below.trod Rg J (of_decide_eq_true J) h0 x.below t0) (shut_int underlying3 d) (Below.trod Rg J (of_decide_eq_true J) h2 x.below t2),rfl,x.below.frame _,λh=>by cases h⟩
theorem Sf(e:Os)(a:e.Started)(H:Type)(enc:TypeId×Value->H)(F:Stop.Interp):
  ReturnsInHanded {} checked e 3 .any ((Rows.OpenSpec.upto Rows.volumesIsolatedSpec).preRow enc prog f3 Rows.volumesIsolatedUptoRow.domain false Rows.volumesIsolatedUptoRow.laid) (((Rows.OpenSpec.upto Rows.volumesIsolatedSpec).at F).post enc prog f3 false true false false):=by
 obtain ⟨f,j⟩:=Uo e enc;refine returnsInHanded_of_row (C:=checked) (s:=Rows.OpenSpec.upto Rows.volumesIsolatedSpec) own a J func3
  (witness_row_at (enc:=enc) (C:=checked) false (Jc e) #[.slice none 0 0,.int .i64 0,.slice none 0 0] Z J J J
   (OpenSpec.preRow_of_cond 8 j J (λk l=>by cases l;kernel_rfl) J (Aay e))) ?_
 intro W base args ds i b d h _ c _ g _ _;exact vis_contract H enc W base args ds i b d h (c _ Z) g
theorem vis_j1:(Rows.volumesIsolatedUptoRow.inPlace==Tryz.pinned.checked.prog.inPlace 3)=true:=by kernel_rfl
theorem AcG:(Rows.volumesIsolatedUptoRow.unfollowed==Tryz.pinned.checked.prog.unfollowed 3)=true:=by kernel_rfl
theorem AcH:(Rows.volumesIsolatedUptoRow.recurses==Tryz.pinned.checked.prog.recurses 3)=true:=by kernel_rfl
theorem AcI:(Rows.volumesIsolatedUptoRow.named==Tryz.pinned.checked.prog.varsNamed 3)=true:=by kernel_rfl
theorem AcJ:joinedFacts Tryz.pinned.checked.prog 3 f3 (Rows.OpenSpec.upto Rows.volumesIsolatedSpec).bare Rows.volumesIsolatedUptoRow=true:=by
 unfold joinedFacts;rw[vis_j1,AcG,AcH,AcI]
 kernel_rfl
theorem WZ:Rows.VolumesIsolatedUptoSaid:=
 OpenClaim.holds_of_cond 3 f3 Z Z Z Z Z Z Z ⟨Z,Z,Z,Z,Z⟩ Z Z Z Z Z J func3 AcJ
  (of_decide_eq_true J) (by unfold Func.isWrapper;first|(rw[if_pos (by decide+kernel)];kernel_rfl)|(rw[if_neg (by decide+kernel)];exact ⟨rfl,rfl⟩))
  (λb a H enc _ F=>by rw[OpenClaim.pre_eq_preRow];exact Sf b a H enc F)
theorem Up(f:FuncId)(a:Func)(e:Tryz.pinned.checked.prog.funcNamed "polder/polderlaw15.VolumesIsolated"=some f)(b:Tryz.pinned.checked.prog.funcs[f]?=some a):
  false=Tryz.pinned.checked.prog.looks []/\∀(j:Nat) t,a.params[j]?=some t->Tryz.pinned.checked.prog.wantsStandIn t=false:=by
 obtain rfl:f=3:=Agb ((show prog.funcNamed "polder/polderlaw15.VolumesIsolated"=some 3 by kernel_rfl).symm.trans e) |>.symm;obtain rfl:a=f3:=(Agb (func3.symm.trans b)).symm;refine ⟨by kernel_rfl,λj t c=>?_⟩;rw[params3] at c;have d:=Array.mem_of_getElem? c;simp at d;rcases d with rfl|rfl|rfl<;>first|exact (show prog.wantsStandIn 22=false by kernel_rfl)|exact (show prog.wantsStandIn 3=false by kernel_rfl)
theorem volumesIsolated_holds:Rows.VolumesIsolatedUptoCardSaid:=
 Claim7.holds_tied_plain_at .later [] _ _ _ _ WZ (λ_ h=>by cases h) J (λ_ h=>by cases h) volumesIsolatedUpto_row_tie Z ⟨Z,Z⟩ J Z Up J
end Go.Proofs.YtemljpjnhjnncaaGreatDoor
