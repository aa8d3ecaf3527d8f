/-
  Law VolumesPast: snapshots keep the past. No condition.
-/
import Derived.Test.YtemljpjnhjnncaaGreatDoorPast5
set_option maxRecDepth 100000
set_option linter.unusedSimpArgs false
set_option linter.unusedVariables false
open Go.Proofs.Tryz
namespace Go.Proofs.YtemljpjnhjnncaaGreatDoor
open Go.RowKit
variable{n m i j e g r:Nat}{t s p q:Int}{V:List Value}{B S:List UInt8}{T:TypeId}{L:List (Nat×Value)}{v u y:Value}{z:World}{l:List Int}{R:List Nat}{N:Act->World->Prop}{b c:Bool}{x:Operand}{o:List Oper}{K:Value->World->Prop}{C:Nat->Nat}{P:Program}{F:Nat->Bool}{a:Act}
variable{Γ:List Ai}{h:Hp}{A:Ai}
variable{D:Dsk}
variable{X:List E}
variable{W:List Wv}
section
variable{n:Nat}{o:TB}{nx:Int}{P:List Pl}{W W2:List Wv}{A A2:Ai}
theorem VRel.core{N:Hm}(h:VRel N P W)(d:W2.map Wv.core=W.map Wv.core):VRel N P W2:=by
 refine ⟨d▸h.p,?_⟩;have c:(W.map Wv.core).Pairwise λa b=>a.1<b.1:=by rw[AfL];exact h.s
 rw[<-d,AfL] at c;exact c
theorem LvI.copy(h:LvI n o nx P W A)(b:W2.map Wv.core=W.map Wv.core)(a:∀x∈W2,InB A2 x.u x.V):LvI n o nx P W2 A2:=⟨h.inv,h.rel.core b,h.nxe,a,h.d,h.k⟩
theorem LvI.free(h:LvI n o nx P W A)(hi:(P.map Prod.fst)[i]?=some v0):P[i]?=some pl0:=by
 rw[Aeq] at hi
 cases e:P[i]? with
 | none=>rw[e] at hi;cases hi
 | some p=>
  rw[e] at hi;have hp:p.1=v0:=by simpa using hi
  rcases h.inv.all p (Aee e) with rfl|q
  ·rfl
  have:=q.id;rw[hp] at this;have:(1:Int)<=0:=this.1;omega
theorem LvI.pl_at(_:LvI n o nx P W A){e:Vl}(hi:(P.map Prod.fst)[i]?=some e):∃L,P[i]?=some (e,L):=by
 rw[Aeq] at hi
 cases q:P[i]? with
 | none=>rw[q] at hi;cases hi
 | some p=>rw[q] at hi;obtain ⟨a,b⟩:=p;simp only[AeU,Aen] at hi;exact ⟨b,by rw[<-hi]⟩
theorem LvI.full(h:LvI n o nx P W A)(b:∀e∈P.map Prod.fst,e≠v0):∀e∈P.map Prod.fst,e.st≠0:=λe a=>by
 obtain ⟨p,hp,rfl⟩:=Aem.1 a;rcases h.inv.all p hp with rfl|q
 ·exact absurd Z (b _ a)
 have:=q.st;omega
theorem LvI.less(h:LvI n o nx P W A)(hi:P[i]?=some pl0):W.length<8:=by
 have a:=h.rel.p.length_eq;simp only[DA,Aeh] at a;have b:(P.filter Dz).length<P.length:=by
  refine Nat.lt_of_le_of_ne (AfV _ _) λq=>?_;have:=(List.length_filter_eq_length_iff.1 q) pl0 (Aee hi);simp[Dz,pl0,v0] at this
 have:=h.inv.len;omega
theorem LvI.fresh(h:LvI n o nx P W A):∀q∈P,q.1.id≠nx:=λq hq=>by
 rcases h.inv.all q hq with rfl|p
 ·have:=h.inv.nb;show (0:Int)≠nx;omega
 have:=p.id;omega
theorem LvI.ltn(h:LvI n o nx P W A):∀x∈W,x.id<nx:=λx a=>(h.w a).2.2.2.2.2
theorem LvI.rfree(h:LvI n o nx P W A)(hi:P[i]?=some pl0):o.R.Perm (C8 (P.eraseIdx i)):=by
 have:=h.inv.r.trans (Je hi);exact this
theorem LvI.new(h:LvI n o nx P W A){i:Nat}(hi:P[i]?=some pl0){e:Vl}{L:List E}(a:e.id=nx)(f:e.st=1)(hp:PlOk o.N (nx+1) (e,L)){C2:Nat->Nat}{u:Value}{V:List Bk}(k:V=A5 o.N L)(g:Ink A A2)(j:InB A2 u V)(K:TrK n ⟨o.N,C2,AZ e.r.toNat++o.R⟩ none):LvI n ⟨o.N,C2,AZ e.r.toNat++o.R⟩ (nx+1) (P.set i (e,L)) (W++[⟨nx,e.sz,e.q,u,V⟩]) A2:=by
 have l:=h.nx9;refine ⟨h.inv.upd hi ⟨by omega,by omega⟩ (λc _ M q=>q) hp (.inr λq hq=>by show q.1.id≠e.id;rw[a];exact h.fresh q hq) ((h.rfree hi).append_left _),h.rel.new hi (show (0:Int)≠1 by omega) f ?_ (λx b=>h.ltn x b) (λ_ _ _=>rfl),?_,λx b=>?_,h.d,K⟩
 ·simp only[Wv.core,CI,a,k]
 ·have:=Pn (p2:=(e,L)) hi (show e.st≠0 by omega)
  have m:=h.nxe;have:(if pl0.1.st=0 then (1:Int) else 0)=1:=if_pos Z;omega
 rcases Aer.1 b with q|q
 ·exact g _ _ (h.bag x q)
 simp at q;subst q;exact j
theorem LvI.create(h:LvI n o nx P W A)(hi:(P.map Prod.fst)[i]?=some v0)(hs:1<=t/\t<=1048576)(hq:0<=s/\s<=1048576){C2:Nat->Nat}(a:Ink A A2)(b:InB A2 u [])(K:TrK n ⟨o.N,C2,o.R⟩ none):
  LvI n ⟨o.N,C2,o.R⟩ (nx+1) (P.set i (⟨nx,1,t,s,0,0⟩,[])) (W++[⟨nx,t,s,u,[]⟩]) A2:=by
 have c:=h.nx9;exact h.new (h.free hi) (e:=⟨nx,1,t,s,0,0⟩) (L:=[]) Z Z ⟨⟨by show 1<=nx;omega,by show nx<nx+1;omega⟩,.inl Z,hs,hq,⟨by show (0:Int)<=0;omega,by show (0:Int)<=1023;omega⟩,.inl ⟨Z,Z⟩,by simp[vals],Z,λ_ q=>by cases q⟩ Z a b K
theorem LvI.snap(h:LvI n o nx P W A){k:Nat}(hi:(P.map Prod.fst)[i]?=some v0){e:Vl}{L:List E}(b:P[j]?=some (e,L))(hs:e.st=1){x:Wv}(c:W[k]?=some x)(a:x.id=e.id){C2:Nat->Nat}(d:Ink A A2)(f:InB A2 u x.V)(K:TrK n ⟨o.N,C2,AZ e.r.toNat++o.R⟩ none):
  LvI n ⟨o.N,C2,AZ e.r.toNat++o.R⟩ (nx+1) (P.set i ({e with id:=nx,st:=1},L)) (W++[⟨nx,x.sz,x.q,u,x.V⟩]) A2:=by
 have p:=h.nx9;have q:=h.ok b hs;obtain ⟨m,g,l⟩:=h.both b hs c a;have:=h.new (h.free hi) (e:= {e with id:=nx,st:=1}) (L:=L) (C2:=C2) (u:=u) (V:=x.V) Z Z ⟨⟨by show 1<=nx;omega,by show nx<nx+1;omega⟩,.inl Z,q.sz,q.q,q.r,q.root,q.nd,q.mp,q.key⟩ l d f K;rw[m,g];exact this
theorem LvI.del(h:LvI n o nx P W A){i j:Nat}{e:Vl}{L:List E}(hi:P[i]?=some (e,L))(hs:e.st=1){x:Wv}(f:W[j]?=some x)(a:x.id=e.id){C2:Nat->Nat}(K:TrK n ⟨o.N,C2,o.R⟩ none):
  LvI n ⟨o.N,C2,o.R⟩ nx (P.set i ({e with st:=2},L)) (W.take j++W.drop (j+1)) A:=by
 have q:=h.ok hi hs;have hq:=q.id;dsimp only at hq;refine ⟨h.inv.upd hi ⟨Afo _,h.inv.nb.2⟩ (λc _ M q=>q) ⟨q.id,.inr Z,q.sz,q.q,q.r,q.root,q.nd,q.mp,q.key⟩ (.inl Z) (by have g:=h.inv.r.trans (Je hi);exact g),h.rel.del h.inv hi f (show e.id≠0 by omega) (show (2:Int)≠1 by omega) a (λ_ _ _=>rfl),?_,λy b=>h.bag y ?_,h.d,K⟩
 ·have:=Jh (p2:=({e with st:=2},L)) hi hs (show (2:Int)≠0 by omega)
  have k:=h.nxe;omega
 rcases Aer.1 b with q|q
 ·exact Afh q
 exact Afw q
theorem LvI.last(h:LvI n o nx P W A){e:Vl}{L:List E}(hi:P[i]?=some (e,L))(hs:e.st=1)(d:Int):If (A5 o.N L) d↔Bz d 1048576 L≠[]:=by
 have q:=h.ok hi hs;have r:=q.root.srt;have p:Srt L:=r.1;constructor
 ·rintro ⟨b,w,v⟩
  have t:=Aee w;obtain ⟨y,g,rfl⟩:=Aem.1 t;have hk:=r.2 y g;intro z;have:y∈Bz d 1048576 L:=Afd.2 ⟨g,by simp only[decide_eq_true_eq];dsimp only at v;omega⟩;rw[z] at this;cases this
 intro k;obtain ⟨y,g⟩:=List.exists_mem_of_ne_nil _ k;obtain ⟨s,x⟩:=Afd.1 g;simp only[decide_eq_true_eq] at x;obtain ⟨a,l⟩:=AeX.1 s;have j:a<L.length:=(Aed.1 l).1;have f:L[L.length-1]?=some L[L.length-1]:=Aef U;refine ⟨(L[L.length-1].1,_),by unfold A5;rw[Aeq,Aeh,f];rfl,?_⟩;show d<=L[L.length-1].1;rcases Aes a (L.length-1) with c|c
 ·have u:=(Afx.1 p) a (L.length-1) j (show L.length-1<L.length by omega) c
  have m:=(Aed.1 l).2;rw[m] at u;omega
 have:a=L.length-1:=by omega
 subst this;have m:=(Aed.1 l).2;rw[m];omega
theorem LvI.resize(h:LvI n o nx P W A){e:Vl}{L:List E}(hi:P[i]?=some (e,L))(hs:e.st=1){x:Wv}(b:W[j]?=some x)(a:x.id=e.id)(f:1<=t/\t<=1048576)(k:Bz t 1048576 L=[]){C2:Nat->Nat}(K:TrK n ⟨o.N,C2,o.R⟩ none):
  LvI n ⟨o.N,C2,o.R⟩ nx (P.set i ({e with sz:=t},L)) (W.set j {x with sz:=t}) A:=by
 have q:=h.ok hi hs;have hq:=q.id;dsimp only at hq;obtain ⟨w,p,s⟩:=h.both hi hs b a;have m:=q.root.srt;refine ⟨h.inv.upd hi ⟨Afo _,h.inv.nb.2⟩ (λc _ M q=>q) ⟨q.id,q.st,f,q.q,q.r,q.root,q.nd,q.mp,λy g=>?_⟩ (.inl Z) (by have l:=h.inv.r.trans (Je hi);exact l),h.rel.upd h.inv hi b (show e.id≠0 by omega) hs hs a ?_ Z (λ_ _ _ _=>rfl),?_,Q7 h.bag (Ink.refl _) (h.bag x (Aee b)),h.d,K⟩
 ·have v:=m.2 y g
  rcases Int.lt_or_le y.1 t with c|c
  ·exact c
  have:y∈Bz t 1048576 L:=Afd.2 ⟨g,by simp only[decide_eq_true_eq];omega⟩;rw[k] at this;cases this
 ·simp only[Wv.core,CI,Afv];exact ⟨a,trivial,p,s⟩
 have:=Jh (p2:=({e with sz:=t},L)) hi hs (show e.st≠0 by omega);have u:=h.nxe;omega
theorem G6(c:W2.map Wv.core=W.map Wv.core){x:Wv}(b:x∈W2):∃y∈W,y.core=x.core:=by
 have:x.core∈W.map Wv.core:=c▸Aem.2 ⟨x,b,Z⟩;obtain ⟨y,a,e⟩:=Aem.1 this;exact ⟨y,a,e⟩
structure DoE(n:Nat)(o o2:TB)(nx nx2:Int)(W W2:List Wv)(kd ci ca cc cs cq:Int)(od:Bool):Prop where
 cr:pkI kd 10=0->((1<=cs/\cs<=1048576)/\0<=cq/\cq<=1048576)->nx<=8->nx2=nx+1/\W2.map Wv.core=W.map Wv.core++[(nx,cs,cq,[])]/\o2.N=o.N/\o2.R=o.R
 wr:pkI kd 10=1->(0<=ci/\ci<100)->0<W.length->∃x∈W,nx2=nx/\WrE W W2 x.id ca (mV cc od) (cnt (AX n o.C) 0 1024)
 sn:pkI kd 10=4->(0<=ci/\ci<100)->0<W.length->nx<=8->∃x∈W,W2.map Wv.core=W.map Wv.core++[(nx,x.sz,x.q,x.V)]
section
variable{o2:TB}{nx2 kd ci ca cc cs cq id:Int}{od:Bool}{Wc:List Wv}
theorem DoE.ot(c:pkI kd 10≠0)(a:pkI kd 10≠1)(b:pkI kd 10≠4):DoE n o o2 nx nx2 W W2 kd ci ca cc cs cq od:=⟨λq=>absurd q c,λq=>absurd q a,λq=>absurd q b⟩
theorem DoE.c0(h:pkI kd 10=0)(a:((1<=cs/\cs<=1048576)/\0<=cq/\cq<=1048576)->nx<=8->nx2=nx+1/\W2.map Wv.core=W.map Wv.core++[(nx,cs,cq,[])]/\o2.N=o.N/\o2.R=o.R):DoE n o o2 nx nx2 W W2 kd ci ca cc cs cq od:=⟨λ_=>a,λq=>by omega,λq=>by omega⟩
theorem DoE.w1(h:pkI kd 10=1)(b:0<W.length/\0<=ci/\ci<100->∃x∈W,x.id=id)(f:nx2=nx/\WrE W W2 id ca (mV cc od) (cnt (AX n o.C) 0 1024)):DoE n o o2 nx nx2 W W2 kd ci ca cc cs cq od:=⟨λq=>by omega,λ_ a d=>by obtain ⟨x,c,e⟩:=b ⟨d,a⟩;exact ⟨x,c,by rw[e];exact f⟩,λq=>by omega⟩
theorem DoE.s4(h:pkI kd 10=4)(c:0<W.length/\0<=ci/\ci<100->nx<=8->∃x∈W,W2.map Wv.core=W.map Wv.core++[(nx,x.sz,x.q,x.V)]):DoE n o o2 nx nx2 W W2 kd ci ca cc cs cq od:=⟨λq=>by omega,λq=>by omega,λ_ b a=>c ⟨a,b⟩⟩
theorem DoE.s4n(h:pkI kd 10=4)(c:Wc.map Wv.core=W.map Wv.core)(b:0<W.length/\0<=ci/\ci<100->∃x∈W,x.id=id)(a:∀x∈Wc,x.id≠id):DoE n o o2 nx nx2 W W2 kd ci ca cc cs cq od:=DoE.s4 h λq _=>by
 obtain ⟨x,d,e⟩:=b q;obtain ⟨y,f,e2⟩:=G6 c.symm d;exact absurd ((congrArg Prod.fst e2).trans e) (a y f)
theorem DoE.s4y(h:pkI kd 10=4)(a:Wc.map Wv.core=W.map Wv.core){x:Wv}(c:x∈Wc)(u:Value):DoE n o o2 nx nx2 W (Wc++[⟨nx,x.sz,x.q,u,x.V⟩]) kd ci ca cc cs cq od:=DoE.s4 h λ_ _=>by
 obtain ⟨y,b,e⟩:=G6 a c;simp only[Wv.core,Afv] at e;exact ⟨y,b,by rw[AeH,a,e.2.1,e.2.2.1,e.2.2.2];rfl⟩
end
theorem LvI.xo(h:LvI n o nx P W A):∀e∈P.map Prod.fst,e.r.toNat≠0->(manyN n<e.r.toNat/\e.r.toNat<n)/\1<=o.C e.r.toNat:=λe c g=>by
 obtain ⟨p,hp,rfl⟩:=Aem.1 c;have b:=h.inv.r.mem_iff.2 (Mj hp g);have a:=h.k.i.rin _ b;have d:=h.k.i.cnt _ a.1 a.2;have f:=Agy.2 b;exact ⟨⟨by omega,a.2⟩,by show 1<=curC o none p.1.r.toNat;rw[d];exact Agu f (Nat.le_add_right _ _)⟩
end
theorem WR:Aj 36 [Y m] [plB m i j e n b] (λv G=>v=Y i/\G=[plB m i j e n b]):=by
 intro z R w H;refine Ae func36 Z ntmps36 Z (Z2 16 [0,0,0,0] H Z (Zr Z ?_));exact ⟨_,⟨Z,Z⟩,H.pick 1 [0] Z⟩
section
variable{Tb:Ai}
set_option maxHeartbeats 16000000 in
theorem F3 {pd pv pw pp mb:Nat} (n:Nat) (P:List Pl) (o:TB) (W:List Wv) (hL:LvI n o s P W A) (e7:mb+20<=1000000000) (kd ci ca cc cf cs cq:Int) (sy od:Bool) (c8: -9223372036854775808<=ca/\ca<=9223372036854775807) (c7: -9223372036854775808<=cc/\cc<=9223372036854775807) (g0: -9223372036854775808<=cf/\cf<=9223372036854775807) (f7: -9223372036854775808<=kd/\kd<=9223372036854775807):Aj 6 [Y g,.agg #[I kd,I ci,I ca,I cc,I cf,I cs,I cq,.bool sy,.bool od]] [blk g [Y pd,Y pv,Y pw] 36,voA pv pp s ([]) (P.map Prod.fst),trA Tb pp mb n o none,wdA pw s W,A] (λv G=>∃(p2:Nat) (nx2:Int) (P2:List Pl) (e6:List Vl) (o2:TB) (W2:List Wv) (A2:Ai) (m2:Nat),(LvI n o2 nx2 P2 W2 A2/\e6=P2.map Prod.fst/\m2<=mb+16/\DoE n o o2 s nx2 W W2 kd ci ca cc cs cq od/\KpE W W2 (Q6 W ci) kd/\Ink A A2)/\v=.bool true/\G=[blk g [Y pd,Y pv,Y p2] 36,voA pv pp nx2 [] e6,trA Tb pp m2 n o2 none,wdA p2 nx2 W2,A2]):=by
 intro z R w H;replace H:=H.l5;have d9:W.length<=64:=by have:=hL.w8;omega
 have g2:=λx c=>(hL.w (x:=x) c).1;have d4:∀x∈W,x.V.length<=1048576:=λx c=>by have:=(hL.w c).2.2.1;omega
 have g6:=hL.bag;have hv:=hL.hv;refine Ae func6 Z ntmps6 Z (Za 2 [] H Z ?_);intro b1 w H;refine Z2 9 [1,1,0] H Z (z_E_ Z (call22 _) (QW) H.f2 ?_);intro w H;replace H:=H.l6;refine z_E_ Z (call23 _) (AbU none) H.f3 ?_;intro w H;refine Z2 7 [2,9] H Z (Ar Z (call17 _) (Sb d9) H.f4.f4 ?_);rintro _ w _ ⟨id,⟨d5,c6⟩,rfl,rfl⟩ H;refine Z2 9 [2,0,0] H Z (Ar Z (call9 _) (Mn d9 A g6 d4) H.f5.f2 ?_);rintro _ w _ ⟨p2,Wc,Ac,⟨a9,a0,d2⟩,rfl,rfl⟩ H;replace H:=H.l7;have f:=hL.copy a9 d2;have a5:=hL.ink a0;have c5:Wc.length<=64:=by have:=f.w8;omega
 have e0:∀x∈Wc,x.V.length<=1048576:=λx c=>by have:=(f.w c).2.2.1;omega
 have h0:=hL.nx9;have c1:=hL.inv.fit hL.k;have b8:=IG hL.k.hn.2;have c9:o.R.length+n<1000:=by have:=hL.inv.r.length_eq;have:=JN P;have:=hL.inv.len;have:=hL.inv.n;omega
 refine Z2 8 [0,6,0] H Z (z_E_ Z (call8 _) (F2 10 f7 U) H ?_);intro w H;refine Z0 9 [0] Z (Af Z (λh1=>?_) (λh1=>?_))
 ·refine Z2 7 [5,6,0,6,6,0] H Z (Ar Z (call24 _) (Uf U c5 cs cq) H.f2.f2 ?_);rintro _ w _ (⟨b2,rfl,rfl⟩|⟨d3,(⟨h8,rfl,rfl⟩|⟨c3,rfl,rfl⟩|⟨h7,u2,A3,⟨b6,d8⟩,rfl,rfl⟩)⟩) a
  ·have H:=a.l7;refine Zc 8 Z ?_;replace H:=H.f6.f4;refine Bp (Sep z (blk g [Y pd,Y pv,Y pw] 36::blk b1 [I kd,I ci,I ca,I cc,I cf,I cs,I cq,.bool sy,.bool od] 28::R)) 14 Z J (A4 H λw a=>?_)
   have H:=a.l7;refine Bv [0,1,2,3,4,5,6,7] [1,0,5,1,6,1] J (λ_ c=>(AR (c.blk 0 Z) (AR (c.blk 1 Z) AN))) (by exact H.pick 7 [0,1] Z) Z J Z Z (AF [8] J O (Am (Bt Z Z Z Z Z Z (λw=>call25 _ w) (Jf hv U c1 b8 U cs cq c9) H.f5.f6 Z ?_)));rintro _ w _ (⟨a2,rfl,rfl⟩|⟨b9,(⟨d,rfl,rfl⟩|⟨c3,rfl,rfl⟩|⟨i,C2,b4,rfl,rfl⟩)⟩) a
   ·have H:=a.l7;refine Au (λ_=>(H.pick 7 [2,3] Z)) (Bv [9,10,11,12] [] J (λ_ _=>AN) (by exact H.pick 7 [2,3] Z) Z J Z Z (AF [13] J O (Am (Ct Z Z Z Z (Bf Z Z) (Au (λh=>absurd Z h) (Bo J (gn (Zc 10 Z (Ar Z (call26 _) (Fp (by first|exact hv|(rw[AeW];exact hv))) H.f2 ?_)))))))));rintro _ w _ (⟨a7,rfl,rfl⟩|⟨b5,bv,a4,rfl,rfl⟩) a
    ·exact absurd a7 U
    have H:=a.l7;obtain rfl:bv=true:=by first|exact a4 ⟨rfl,.inl rfl⟩|exact a4 ⟨rfl,.inr ⟨rfl,.inr ⟨rfl,hL.full d⟩⟩⟩
    refine Zc 4 rfl (Zr rfl ?_);exact ⟨_,⟨_,_,P,_,o,_,_,mb,⟨a5,rfl,by omega,DoE.c0 U (λq _=>absurd q b2),.eq rfl,a0⟩,rfl,rfl⟩,H.pick 7 [0,1,2,6,5] rfl⟩
   ·exact absurd b9 b2
   ·exact absurd b9 b2
   exact absurd b9 b2
  ·have H:=a.l7;refine Zc 8 Z ?_;replace H:=H.f6.f4;refine Bp (Sep z (blk g [Y pd,Y pv,Y pw] 36::blk b1 [I kd,I ci,I ca,I cc,I cf,I cs,I cq,.bool sy,.bool od] 28::R)) 14 Z J (A4 H λw a=>?_)
   have H:=a.l7;refine Bv [0,1,2,3,4,5,6,7] [1,0,5,1,6,1] J (λ_ c=>(AR (c.blk 0 Z) (AR (c.blk 1 Z) AN))) (by exact H.pick 7 [0,1] Z) Z J Z Z (AF [8] J O (Am (Bt Z Z Z Z Z Z (λw=>call25 _ w) (Jf hv U c1 b8 U cs cq c9) H.f5.f6 Z ?_)));rintro _ w _ (⟨a2,rfl,rfl⟩|⟨b9,(⟨d,rfl,rfl⟩|⟨c3,rfl,rfl⟩|⟨i,C2,b4,rfl,rfl⟩)⟩) a
   ·exact absurd d3 a2
   ·have H:=a.l7;refine Au (λ_=>(H.pick 7 [2,3] Z)) (Bv [9,10,11,12] [] J (λ_ _=>AN) (by exact H.pick 7 [2,3] Z) Z J Z Z (AF [13] J O (Am (Ct Z Z Z Z (Bf Z Z) (Au (λh=>absurd Z h) (Bo J (gn (Zc 10 Z (Ar Z (call26 _) (Fp (by first|exact hv|(rw[AeW];exact hv))) H.f2 ?_)))))))));rintro _ w _ (⟨a7,rfl,rfl⟩|⟨b5,bv,a4,rfl,rfl⟩) a
    ·exact absurd a7 U
    have H:=a.l7;obtain rfl:bv=true:=by first|exact a4 ⟨rfl,.inl rfl⟩|exact a4 ⟨rfl,.inr ⟨rfl,.inr ⟨rfl,hL.full d⟩⟩⟩
    refine Zc 4 rfl (Zr rfl ?_);exact ⟨_,⟨_,_,P,_,o,_,_,mb,⟨a5,rfl,by omega,DoE.c0 U (λ_ q=>absurd d (hL.left q)),.eq rfl,a0⟩,rfl,rfl⟩,H.pick 7 [0,1,2,6,5] rfl⟩
   ·(exfalso;omega)
   (exfalso;have:=f.less (hL.free b4.1);omega)
  ·(exfalso;omega)
  have H:=a.l7;refine Zc 8 Z ?_;replace H:=H.f6.f4;refine Bp (Sep z (blk g [Y pd,Y pv,Y pw] 36::blk b1 [I kd,I ci,I ca,I cc,I cf,I cs,I cq,.bool sy,.bool od] 28::R)) 14 Z J (A4 H λw a=>?_);have H:=a.l7;refine Bv [0,1,2,3,4,5,6,7] [1,0,5,1,6,1] J (λ_ c=>(AR (c.blk 0 Z) (AR (c.blk 1 Z) AN))) (by exact H.pick 7 [0,1] Z) Z J Z Z (AF [8] J O (Am (Bt Z Z Z Z Z Z (λw=>call25 _ w) (Jf hv U c1 b8 U cs cq c9) H.f5.f6 Z ?_)));rintro _ w _ (⟨a2,rfl,rfl⟩|⟨b9,(⟨d,rfl,rfl⟩|⟨c3,rfl,rfl⟩|⟨i,C2,b4,rfl,rfl⟩)⟩) a
  ·exact absurd d3 a2
  ·have H:=a.l7;refine Au (λ_=>(H.pick 7 [2,3] Z)) (Bv [9,10,11,12] [] J (λ_ _=>AN) (by exact H.pick 7 [2,3] Z) Z J Z Z (AF [13] J O (Am (Ct Z Z Z Z (Bf Z Z) (Au (λh=>absurd Z h) (Bo J (gn (Zc 10 Z (Ar Z (call26 _) (Fp (by first|exact hv|(rw[AeW];exact hv))) H.f2 ?_)))))))));rintro _ w _ (⟨a7,rfl,rfl⟩|⟨b5,bv,a4,rfl,rfl⟩) a
   ·exact absurd a7 U
   have H:=a.l7;obtain rfl:bv=true:=by first|exact a4 ⟨rfl,.inl rfl⟩|exact a4 ⟨rfl,.inr ⟨rfl,.inr ⟨rfl,hL.full d⟩⟩⟩
   refine Zc 4 rfl (Zr rfl ?_);exact ⟨_,⟨_,_,P,_,o,_,_,mb,⟨(a5.ink b6),rfl,by omega,DoE.c0 U (λ_ q=>absurd d (hL.left q)),.eq rfl,a0.trans b6⟩,rfl,rfl⟩,H.pick 7 [0,1,2,6,5] rfl⟩
  ·(exfalso;omega)
  have H:=a.l7;refine Au (λ_=>(H.pick 7 [2,3] Z)) (Bv [9,10,11,12] [] J (λ_ _=>AN) (by exact H.pick 7 [2,3] Z) Z J Z Z (AF [13] J O (Am (Ct Z Z Z Z (Bf Z Z) (Au (λh=>absurd Z h) (Bo J (gn (Zc 10 Z (Ar Z (call26 _) (Fp (by first|exact hv|(rw[AeW];exact hv))) H.f2 ?_)))))))));rintro _ w _ (⟨a7,rfl,rfl⟩|⟨b5,bv,a4,rfl,rfl⟩) a
  ·have H:=a.l7;refine Zc 4 Z (Zr Z ?_);have K9:=H.says 2 Z (λh q=>trA.k q)
   exact ⟨_,⟨_,_,_,_,_,_,_,mb+2,⟨f.create b4.1 d3.1 d3.2 b6 d8 K9,(Dm _ _ _ _).symm,by omega,DoE.c0 U (λ_ _=>⟨Z,by rw[AeH,a9];rfl,Z,Z⟩),⟨.app a9,λq=>by omega⟩,a0.trans b6⟩,congrArg Value.bool (decide_eq_true ⟨Z,Z⟩),Z⟩,H.pick 7 [0,1,2,4,5] Z⟩
  exact absurd Z b5
 refine Z0 6 [0] Z (Af Z (λh2=>?_) (λh2=>?_))
 ·refine Z2 6 [6,9] H Z (Ar Z (call27 _) (Uj P o W Ac a5 e7 id c8 c7 g0 Z) H.f2.f1.f4.f5.f5 ?_);rintro _ w _ ⟨p9,f0,P9,g3,o9,W9,A9,m9,⟨b0,d0,g4,e4,e1,d7,d6⟩,rfl,rfl⟩ H;refine Zc 4 Z (Zr Z ?_);exact ⟨_,⟨_,_,P9,_,o9,_,A9,m9,⟨b0,d0,by omega,DoE.w1 U d5 ⟨e4,e1⟩,⟨by rw[<-c6];exact d7,λq=>by omega⟩,a0.trans d6⟩,Z,Z⟩,H.pick 7 [0,1,2,3,4] Z⟩
 refine Z0 6 [0] Z (Af Z (λh3=>?_) (λh3=>?_))
 ·refine Zc 1 Z ?_;replace H:=H.f6.f4;refine Bp (Sep z (blk g [Y pd,Y pv,Y pw] 36::blk b1 [I kd,I ci,I ca,I cc,I cf,I cs,I cq,.bool sy,.bool od] 28::R)) 15 Z J (A4 H λw a=>?_)
  have H:=a.l7;refine Bv [0,1,2,3,4,5,6,7,8] [2,0,2,1,3,1] J (λ_ c=>(AR (c.blk 0 Z) (AR (c.blk 1 Z) AN))) (by exact H.pick 7 [0,1] Z) Z J Z Z (AF [9] J O (Am (Bt Z Z Z Z Z Z (λw=>call28 _ w) (Aap id ca cc d9 Ac a5.bag d4 g2 (λx c=>(hL.w c).2.2.2.1) c8 c7) H.f4.f3 Z ?_)));rintro _ w _ (⟨a8,rfl,rfl⟩|⟨j,x,⟨c,b⟩,(⟨c2,rfl,rfl⟩|⟨c2,rfl,rfl⟩)⟩) a
  ·have H:=a.l7;refine Au (λ_=>(H.pick 7 [2,3] Z)) (Bv [10,11,12,13] [] J (λ_ _=>AN) (by exact H.pick 7 [2,3] Z) Z J Z Z (AF [14] J O (Am (Ct Z Z Z Z (Bf Z Z) (Au (λh=>absurd Z h) (Bo J (gn (Zc 2 Z ?_))))))));replace H:=H.f3.f3;refine Bp (Sep z (blk g [Y pd,Y pv,Y pw] 36::blk b1 [I kd,I ci,I ca,I cc,I cf,I cs,I cq,.bool sy,.bool od] 28::R)) 15 Z J (A4 H λw a=>?_)
   have H:=a.l7;refine Bv [0,1,2,3,4,5,6,7,8] [1,0,2,1,3,1] J (λ_ c=>(AR (c.blk 0 Z) (AR (c.blk 1 Z) AN))) (by exact H.pick 7 [0,1] Z) Z J Z Z (AF [9] J O (Am (Bt Z Z Z Z Z Z (λw=>call13 _ w) (F0 P Z hL.inv U id ca cc c8 c7) H.f5.f6 Z ?_)));rintro _ w _ (⟨a3,rfl,rfl⟩|⟨i,e,L,⟨hi,hs,y⟩,(⟨hE,rfl,rfl⟩|⟨hE,ru,rfl,rfl⟩)⟩) a
   ·have H:=a.l7;refine Au (λ_=>(H.pick 7 [2,3] Z)) (Bv [10,11,12,13] [] J (λ_ _=>AN) (by exact H.pick 7 [2,3] Z) Z J Z Z (AF [14] J O (Am (Ct Z Z Z Z (Bf Z Z) (Au (λh=>absurd Z h) (Bo J (gn (Zc 4 Z (Ab Z (Ch (l:=[]) Z J J Z (λw _=>Rd.nil 1 w)) (Zc 1 Z (Ab Z (IQ (l:=[]) (m:=[]) Z J Z Z) (Zc 1 Z (An 111 Z (λh4=>?_) (λh4=>?_))))))))))))))
    ·refine Z0 8 [3] Z (Zr Z ?_);exact ⟨_,⟨_,_,P,_,o,_,_,mb,⟨a5,Z,by omega,DoE.ot U U U,.eq Z,a0⟩,Z,Z⟩,H.pick 7 [2,0,1,4,5] Z⟩
    exact absurd Z h4
   ·exact (by obtain ⟨j9,x9,q1,q2⟩:=hL.at hi hs y;exact absurd q2 (a8 x9 (Aee q1)))
   exact (by obtain ⟨j9,x9,q1,q2⟩:=hL.at hi hs y;exact absurd q2 (a8 x9 (Aee q1)))
  ·have H:=a.l7;refine Au (λ_=>(H.pick 7 [2,3] Z)) (Bv [10,11,12,13] [] J (λ_ _=>AN) (by exact H.pick 7 [2,3] Z) Z J Z Z (AF [14] J O (Am (Ct Z Z Z Z (Bf Z Z) (Au (λh=>absurd Z h) (Bo J (gn (Zc 2 Z ?_))))))));replace H:=H.f3.f3;refine Bp (Sep z (blk g [Y pd,Y pv,Y pw] 36::blk b1 [I kd,I ci,I ca,I cc,I cf,I cs,I cq,.bool sy,.bool od] 28::R)) 15 Z J (A4 H λw a=>?_)
   have H:=a.l7;refine Bv [0,1,2,3,4,5,6,7,8] [1,0,2,1,3,1] J (λ_ c=>(AR (c.blk 0 Z) (AR (c.blk 1 Z) AN))) (by exact H.pick 7 [0,1] Z) Z J Z Z (AF [9] J O (Am (Bt Z Z Z Z Z Z (λw=>call13 _ w) (F0 P Z hL.inv U id ca cc c8 c7) H.f5.f6 Z ?_)));rintro _ w _ (⟨a3,rfl,rfl⟩|⟨i,e,L,⟨hi,hs,y⟩,(⟨hE,rfl,rfl⟩|⟨hE,ru,rfl,rfl⟩)⟩) a
   ·exact (by obtain ⟨e9,a6,q1,q2⟩:=hL.back c b;exact absurd ⟨q1,q2⟩ (a3 e9 a6))
   ·have H:=a.l7;have b3:=hL.both hi hs c (b.trans y.symm)
    refine Au (λ_=>(H.pick 7 [2,3] Z)) (Bv [10,11,12,13] [] J (λ_ _=>AN) (by exact H.pick 7 [2,3] Z) Z J Z Z (AF [14] J O (Am (Ct Z Z Z Z (Bf Z Z) (Au (λh=>absurd Z h) (Bo J (gn (Zc 2 Z (AB 13 (v:=I (Br e.sz true ca cc)) Z (congrArg I (by rw[b3.1])) (Zc 2 Z (Ab Z (Ch (l:=[]) Z J J Z (λw _=>Rd.nil 1 w)) (Zc 1 Z (Ab Z (IQ (l:=[]) (m:=[]) Z J Z Z) ?_)))))))))))));refine Zc 1 Z (An 111 Z (λh5=>?_) (λh5=>?_))
    ·refine Z0 8 [0] Z (Zr Z ?_);exact ⟨_,⟨_,_,P,_,o,_,_,mb,⟨a5,Z,by omega,DoE.ot U U U,.eq Z,a0⟩,congrArg Value.bool (decide_eq_true U),Z⟩,H.pick 7 [2,0,1,4,5] Z⟩
    exact absurd Z h5
   exact (by have b3:=hL.both hi hs c (b.trans y.symm);rw[b3.1] at c2;first|exact absurd hE c2|exact absurd c2 hE)
  have H:=a.l7;refine Au (λ_=>(H.pick 7 [2,3] Z)) (Bv [10,11,12,13] [] J (λ_ _=>AN) (by exact H.pick 7 [2,3] Z) Z J Z Z (AF [14] J O (Am (Ct Z Z Z Z (Bf Z Z) (Au (λh=>absurd Z h) (Bo J (gn (Zc 2 Z ?_))))))));replace H:=H.f3.f3;refine Bp (Sep z (blk g [Y pd,Y pv,Y pw] 36::blk b1 [I kd,I ci,I ca,I cc,I cf,I cs,I cq,.bool sy,.bool od] 28::R)) 15 Z J (A4 H λw a=>?_);have H:=a.l7;refine Bv [0,1,2,3,4,5,6,7,8] [1,0,2,1,3,1] J (λ_ c=>(AR (c.blk 0 Z) (AR (c.blk 1 Z) AN))) (by exact H.pick 7 [0,1] Z) Z J Z Z (AF [9] J O (Am (Bt Z Z Z Z Z Z (λw=>call13 _ w) (F0 P Z hL.inv U id ca cc c8 c7) H.f5.f6 Z ?_)));rintro _ w _ (⟨a3,rfl,rfl⟩|⟨i,e,L,⟨hi,hs,y⟩,(⟨hE,rfl,rfl⟩|⟨hE,ru,rfl,rfl⟩)⟩) a
  ·exact (by obtain ⟨e9,a6,q1,q2⟩:=hL.back c b;exact absurd ⟨q1,q2⟩ (a3 e9 a6))
  ·exact (by have b3:=hL.both hi hs c (b.trans y.symm);rw[b3.1] at c2;first|exact absurd hE c2|exact absurd c2 hE)
  have H:=a.l8;have b3:=hL.both hi hs c (b.trans y.symm);refine Au (λ_=>(H.pick 8 [3,4] Z)) (Bv [10,11,12,13] [] J (λ_ _=>AN) (by exact H.pick 8 [3,4] Z) Z J Z Z (AF [14] J O (Am (Ct Z Z Z Z (Bf Z Z) (Au (λh=>absurd Z h) (Bo J (gn (Zc 2 Z (AB 12 (v:=Cl (rdB (A5 o.N L) ca cc.toNat)) Z (by rw[b3.2.2]) (Zc 2 Z (Ab Z (Ch (l:=rdB (A5 o.N L) ca cc.toNat) Z J J Z (Az (H.rv 0 (·.rd)))) (Zc 1 Z (Ab Z (IQ (l:=rdB (A5 o.N L) ca cc.toNat) (m:=rdB (A5 o.N L) ca cc.toNat) Z J Z Z) ?_)))))))))))));refine Zc 1 Z (An 111 Z (λh6=>?_) (λh6=>?_))
  ·refine Z0 8 [3] Z (Zr Z ?_);exact ⟨_,⟨_,_,P,_,o,_,_,mb,⟨a5,Z,by omega,DoE.ot U U U,.eq Z,a0⟩,Z,Z⟩,H.pick 8 [3,1,2,5,6] Z⟩
  exact absurd Z h6
 refine Z0 6 [0] Z (Af Z (λh7=>?_) (λh7=>?_))
 ·refine Z2 6 [6,9] H Z (Ar Z (call29 _) (Uk P o W Ac a5 e7 id c8 c7 Z) H.f2.f1.f4.f5.f5 ?_);rintro _ w _ ⟨p9,f0,P9,g3,o9,V9,A9,m9,⟨b0,d0,g4,d7,d6⟩,rfl,rfl⟩ H;refine Zc 4 Z (Zr Z ?_);exact ⟨_,⟨_,_,P9,_,o9,_,A9,m9,⟨b0,d0,by omega,DoE.ot U U U,⟨by rw[<-c6];exact d7,λq=>by omega⟩,a0.trans d6⟩,Z,Z⟩,H.pick 7 [0,1,2,3,4] Z⟩
 refine Z0 6 [0] Z (Af Z (λh8=>?_) (λh8=>?_))
 ·refine Zc 4 Z (Ar Z (call16 _) (Mp U id c5 d2 e0) H.f2.f2 ?_);rintro _ w _ (⟨a8,rfl,rfl⟩|⟨k,x,⟨c,b⟩,(⟨h8,rfl,rfl⟩|⟨c3,rfl,rfl⟩|⟨h7,u2,A3,⟨b6,d8⟩,rfl,rfl⟩)⟩) a
  ·have H:=a.l7;refine Z2 14 [1,3,0] H Z (Ar Z (call15 _) (Id hv U c1 b8 U id hL.xo c9) H.f4.f5 ?_);rintro _ w _ (⟨a3,rfl,rfl⟩|⟨j,e,⟨he,a1,y⟩,(⟨d,rfl,rfl⟩|⟨c3,rfl,rfl⟩|⟨i,C2,b4,rfl,rfl⟩)⟩) a
   ·have H:=a.l7;refine Zc 16 Z (Ar Z (call26 _) (Fp (by first|exact hv|(rw[AeW];exact hv))) H.f5 ?_);rintro _ w _ (⟨a7,rfl,rfl⟩|⟨b5,bv,a4,rfl,rfl⟩) a
    ·exact absurd a7 U
    have H:=a.l7;obtain rfl:bv=true:=by first|exact a4 ⟨rfl,.inl rfl⟩|exact a4 ⟨rfl,.inr ⟨rfl,.inr ⟨rfl,hL.full d⟩⟩⟩
    refine Zc 4 rfl (Zr rfl ?_);exact ⟨_,⟨_,_,P,_,o,_,_,mb,⟨a5,rfl,by omega,DoE.s4n U a9 d5 a8,.eq rfl,a0⟩,rfl,rfl⟩,H.pick 7 [0,1,2,5,4] rfl⟩
   ·exact (by obtain ⟨L9,b0⟩:=hL.pl_at he;obtain ⟨j9,x9,q1,q2⟩:=f.at b0 a1 y;exact absurd q2 (a8 x9 (Aee q1)))
   ·exact (by obtain ⟨L9,b0⟩:=hL.pl_at he;obtain ⟨j9,x9,q1,q2⟩:=f.at b0 a1 y;exact absurd q2 (a8 x9 (Aee q1)))
   exact (by obtain ⟨L9,b0⟩:=hL.pl_at he;obtain ⟨j9,x9,q1,q2⟩:=f.at b0 a1 y;exact absurd q2 (a8 x9 (Aee q1)))
  ·have H:=a.l7;refine Z2 14 [1,3,0] H Z (Ar Z (call15 _) (Id hv U c1 b8 U id hL.xo c9) H.f4.f5 ?_);rintro _ w _ (⟨a3,rfl,rfl⟩|⟨j,e,⟨he,a1,y⟩,(⟨d,rfl,rfl⟩|⟨c3,rfl,rfl⟩|⟨i,C2,b4,rfl,rfl⟩)⟩) a
   ·exact (by obtain ⟨e9,a6,q1,q2⟩:=f.back c b;exact absurd ⟨q1,q2⟩ (a3 e9 a6))
   ·have H:=a.l7;refine Zc 16 Z (Ar Z (call26 _) (Fp (by first|exact hv|(rw[AeW];exact hv))) H.f5 ?_);rintro _ w _ (⟨a7,rfl,rfl⟩|⟨b5,bv,a4,rfl,rfl⟩) a
    ·exact absurd a7 U
    have H:=a.l7;obtain rfl:bv=true:=by first|exact a4 ⟨rfl,.inl rfl⟩|exact a4 ⟨rfl,.inr ⟨rfl,.inr ⟨rfl,hL.full d⟩⟩⟩
    refine Zc 4 rfl (Zr rfl ?_);exact ⟨_,⟨_,_,P,_,o,_,_,mb,⟨a5,rfl,by omega,DoE.s4 U (λ_ q=>absurd d (hL.left q)),.eq rfl,a0⟩,rfl,rfl⟩,H.pick 7 [0,1,2,5,4] rfl⟩
   ·(exfalso;omega)
   (exfalso;have:=f.less (hL.free b4.1);omega)
  ·(exfalso;omega)
  have H:=a.l7;refine Z2 14 [1,3,0] H Z (Ar Z (call15 _) (Id hv U c1 b8 U id hL.xo c9) H.f4.f5 ?_);rintro _ w _ (⟨a3,rfl,rfl⟩|⟨j,e,⟨he,a1,y⟩,(⟨d,rfl,rfl⟩|⟨c3,rfl,rfl⟩|⟨i,C2,b4,rfl,rfl⟩)⟩) a
  ·exact (by obtain ⟨e9,a6,q1,q2⟩:=f.back c b;exact absurd ⟨q1,q2⟩ (a3 e9 a6))
  ·have H:=a.l7;refine Zc 16 Z (Ar Z (call26 _) (Fp (by first|exact hv|(rw[AeW];exact hv))) H.f5 ?_);rintro _ w _ (⟨a7,rfl,rfl⟩|⟨b5,bv,a4,rfl,rfl⟩) a
   ·exact absurd a7 U
   have H:=a.l7;obtain rfl:bv=true:=by first|exact a4 ⟨rfl,.inl rfl⟩|exact a4 ⟨rfl,.inr ⟨rfl,.inr ⟨rfl,hL.full d⟩⟩⟩
   refine Zc 4 rfl (Zr rfl ?_);exact ⟨_,⟨_,_,P,_,o,_,_,mb,⟨(a5.ink b6),rfl,by omega,DoE.s4 U (λ_ q=>absurd d (hL.left q)),.eq rfl,a0.trans b6⟩,rfl,rfl⟩,H.pick 7 [0,1,2,5,4] rfl⟩
  ·(exfalso;omega)
  have H:=a.l7;obtain ⟨L,g1⟩:=hL.pl_at he;refine Zc 16 Z (Ar Z (call26 _) (Fp (by first|exact hv|(rw[AeW];exact hv))) H.f5 ?_);rintro _ w _ (⟨a7,rfl,rfl⟩|⟨b5,bv,a4,rfl,rfl⟩) a
  ·have H:=a.l7;refine Zc 4 Z (Zr Z ?_);have K9:=H.says 2 Z (λh q=>trA.k q)
   exact ⟨_,⟨_,_,_,_,_,_,_,mb+2,⟨f.snap b4.1 g1 a1 c (b.trans y.symm) b6 d8 K9,(Dm _ _ _ _).symm,by omega,DoE.s4y U a9 (Aee c) _,⟨.app a9,λq=>by omega⟩,a0.trans b6⟩,congrArg Value.bool (decide_eq_true ⟨Z,Z⟩),Z⟩,H.pick 7 [0,1,2,3,4] Z⟩
  exact absurd Z b5
 refine Z0 6 [0] Z (Af Z (λh9=>?_) (λh9=>?_))
 ·refine Zc 4 Z ?_;have f8:∀x∈Wc,x.u.oneCell'=true:=λx c=>(H.sy 2 (λq=>((d2 x c) _ q).slc)).one
  refine Ar Z (call30 _) (AcA id c5 f8) H.f1 ?_;rintro _ w _ (⟨a8,rfl,rfl⟩|⟨j,x,⟨c,b⟩,rfl,rfl⟩) a
  ·have H:=a.l7;refine Z2 10 [1,3,0] H Z (Ar Z (call31 _) (M6 hv U c1 b8 U id) H.f4.f5 ?_);rintro _ w _ (⟨a3,rfl,rfl⟩|⟨i,e,C2,⟨he,a1,y⟩,rfl,rfl⟩) a
   ·have H:=a.l7;refine Z4 21 [2,5,3] H Z ?_;intro w H;refine Zr Z ?_;exact ⟨_,⟨_,_,P,_,o,_,_,mb,⟨f,Z,by omega,DoE.ot U U U,.eq a9,a0⟩,Z,Z⟩,H.pick 7 [5,0,1,2,4] Z⟩
   exact (by obtain ⟨L9,b0⟩:=hL.pl_at he;obtain ⟨j9,x9,q1,q2⟩:=f.at b0 a1 y;exact absurd q2 (a8 x9 (Aee q1)))
  have H:=a.l7;refine Z2 10 [1,3,0] H Z (Ar Z (call31 _) (M6 hv U c1 b8 U id) H.f4.f5 ?_);rintro _ w _ (⟨a3,rfl,rfl⟩|⟨i,e,C2,⟨he,a1,y⟩,rfl,rfl⟩) a
  ·exact (by obtain ⟨e9,a6,q1,q2⟩:=f.back c b;exact absurd ⟨q1,q2⟩ (a3 e9 a6))
  have H:=a.l7;obtain ⟨L,hi⟩:=hL.pl_at he;refine Z4 21 [2,5,3] H Z ?_;intro w H;refine Zr Z ?_;have K9:=H.says 1 Z (λh q=>trA.k q);exact ⟨_,⟨_,_,_,_,_,_,_,mb+2,⟨f.del hi a1 c (b.trans y.symm) K9,(Dm _ _ _ _).symm,by omega,DoE.ot U U U,⟨by rw[<-c6];exact .tr a9 (.del c b),λq=>by omega⟩,a0⟩,Z,Z⟩,H.pick 7 [5,0,1,2,4] Z⟩
 refine Z0 6 [0] Z (Af Z (λg8=>?_) (λg8=>?_))
 ·refine Z2 6 [5,6,0] H Z (Ar Z (call32 _) (Ug id cs c5 d2 e0) H.f2.f2 ?_);rintro _ w _ (⟨a8,rfl,rfl⟩|⟨j,x,⟨c,b⟩,(⟨b2,rfl,rfl⟩|⟨e2,rfl,rfl⟩|⟨e5,rfl,rfl⟩)⟩) a
  ·have H:=a.l7;refine Zc 4 Z ?_;replace H:=H.f6.f4;refine Bp (Sep z (blk g [Y pd,Y pv,Y pw] 36::blk b1 [I kd,I ci,I ca,I cc,I cf,I cs,I cq,.bool sy,.bool od] 28::R)) 9 Z J (A4 H λw a=>?_)
   have H:=a.l7;refine Bv [0,1,2,3,4,5,6] [1,0,5,1] J (λ_ c=>(AR (c.blk 0 Z) (AR (c.blk 1 Z) AN))) (by exact H.pick 7 [0,1] Z) Z J Z Z (AF [7] J O (Am (Bt Z Z Z Z Z Z (λw=>call33 _ w) (Hq P Z hL.inv U id cs) H.f5.f6 Z ?_)));rintro _ w _ (⟨a3,rfl,rfl⟩|⟨i,e,L,⟨hi,a1,y⟩,(⟨a2,rfl,rfl⟩|⟨b7,rfl,rfl⟩|⟨c4,C2,rfl,rfl⟩)⟩) a
   ·have H:=a.l7;refine Au (λ_=>(H.pick 7 [2,3] Z)) (AF [8] J O (Am (Ct Z Z Z Z (Bf Z Z) (Au (λh=>absurd Z h) (Bo J (gn (Z4 19 [2,2,3] H Z ?_)))))));intro w H;refine Zr Z ?_;exact ⟨_,⟨_,_,P,_,o,_,_,mb,⟨f,Z,by omega,DoE.ot U U U,.eq a9,a0⟩,Z,Z⟩,H.pick 7 [2,0,1,4,5] Z⟩
   ·exact (by obtain ⟨j9,x9,q1,q2⟩:=f.at hi a1 y;exact absurd q2 (a8 x9 (Aee q1)))
   ·exact (by obtain ⟨j9,x9,q1,q2⟩:=f.at hi a1 y;exact absurd q2 (a8 x9 (Aee q1)))
   exact (by obtain ⟨j9,x9,q1,q2⟩:=f.at hi a1 y;exact absurd q2 (a8 x9 (Aee q1)))
  ·have H:=a.l7;refine Zc 4 Z ?_;replace H:=H.f6.f4;refine Bp (Sep z (blk g [Y pd,Y pv,Y pw] 36::blk b1 [I kd,I ci,I ca,I cc,I cf,I cs,I cq,.bool sy,.bool od] 28::R)) 9 Z J (A4 H λw a=>?_)
   have H:=a.l7;refine Bv [0,1,2,3,4,5,6] [1,0,5,1] J (λ_ c=>(AR (c.blk 0 Z) (AR (c.blk 1 Z) AN))) (by exact H.pick 7 [0,1] Z) Z J Z Z (AF [7] J O (Am (Bt Z Z Z Z Z Z (λw=>call33 _ w) (Hq P Z hL.inv U id cs) H.f5.f6 Z ?_)));rintro _ w _ (⟨a3,rfl,rfl⟩|⟨i,e,L,⟨hi,a1,y⟩,(⟨a2,rfl,rfl⟩|⟨b7,rfl,rfl⟩|⟨c4,C2,rfl,rfl⟩)⟩) a
   ·exact (by obtain ⟨e9,a6,q1,q2⟩:=f.back c b;exact absurd ⟨q1,q2⟩ (a3 e9 a6))
   ·have H:=a.l7;refine Au (λ_=>(H.pick 7 [2,3] Z)) (AF [8] J O (Am (Ct Z Z Z Z (Bf Z Z) (Au (λh=>absurd Z h) (Bo J (gn (Z4 19 [2,2,3] H Z ?_)))))));intro w H;refine Zr Z ?_;exact ⟨_,⟨_,_,P,_,o,_,_,mb,⟨f,Z,by omega,DoE.ot U U U,.eq a9,a0⟩,Z,Z⟩,H.pick 7 [2,0,1,4,5] Z⟩
   ·exact absurd b7.1 b2
   exact absurd c4.1 b2
  ·have H:=a.l7;refine Zc 4 Z ?_;replace H:=H.f6.f4;refine Bp (Sep z (blk g [Y pd,Y pv,Y pw] 36::blk b1 [I kd,I ci,I ca,I cc,I cf,I cs,I cq,.bool sy,.bool od] 28::R)) 9 Z J (A4 H λw a=>?_)
   have H:=a.l7;refine Bv [0,1,2,3,4,5,6] [1,0,5,1] J (λ_ c=>(AR (c.blk 0 Z) (AR (c.blk 1 Z) AN))) (by exact H.pick 7 [0,1] Z) Z J Z Z (AF [7] J O (Am (Bt Z Z Z Z Z Z (λw=>call33 _ w) (Hq P Z hL.inv U id cs) H.f5.f6 Z ?_)));rintro _ w _ (⟨a3,rfl,rfl⟩|⟨i,e,L,⟨hi,a1,y⟩,(⟨a2,rfl,rfl⟩|⟨b7,rfl,rfl⟩|⟨c4,C2,rfl,rfl⟩)⟩) a
   ·exact (by obtain ⟨e9,a6,q1,q2⟩:=f.back c b;exact absurd ⟨q1,q2⟩ (a3 e9 a6))
   ·exact absurd e2.1 a2
   ·have H:=a.l7;refine Au (λ_=>(H.pick 7 [2,3] Z)) (AF [8] J O (Am (Ct Z Z Z Z (Bf Z Z) (Au (λh=>absurd Z h) (Bo J (gn (Z4 19 [2,2,3] H Z ?_)))))));intro w H;refine Zr Z ?_;exact ⟨_,⟨_,_,P,_,o,_,_,mb,⟨f,Z,by omega,DoE.ot U U U,.eq a9,a0⟩,Z,Z⟩,H.pick 7 [2,0,1,4,5] Z⟩
   exact (by have b3:=(f.both hi a1 c (b.trans y.symm)).2.2;have d1:=f.last hi a1 cs;rw[<-b3] at d1;exact absurd c4.2 (d1.1 e2.2))
  have H:=a.l7;refine Zc 4 Z ?_;replace H:=H.f6.f4;refine Bp (Sep z (blk g [Y pd,Y pv,Y pw] 36::blk b1 [I kd,I ci,I ca,I cc,I cf,I cs,I cq,.bool sy,.bool od] 28::R)) 9 Z J (A4 H λw a=>?_);have H:=a.l7;refine Bv [0,1,2,3,4,5,6] [1,0,5,1] J (λ_ c=>(AR (c.blk 0 Z) (AR (c.blk 1 Z) AN))) (by exact H.pick 7 [0,1] Z) Z J Z Z (AF [7] J O (Am (Bt Z Z Z Z Z Z (λw=>call33 _ w) (Hq P Z hL.inv U id cs) H.f5.f6 Z ?_)));rintro _ w _ (⟨a3,rfl,rfl⟩|⟨i,e,L,⟨hi,a1,y⟩,(⟨a2,rfl,rfl⟩|⟨b7,rfl,rfl⟩|⟨c4,C2,rfl,rfl⟩)⟩) a
  ·exact (by obtain ⟨e9,a6,q1,q2⟩:=f.back c b;exact absurd ⟨q1,q2⟩ (a3 e9 a6))
  ·exact absurd e5.1 a2
  ·exact (by have b3:=(f.both hi a1 c (b.trans y.symm)).2.2;have d1:=f.last hi a1 cs;rw[<-b3] at d1;exact absurd (d1.2 b7.2) e5.2)
  have H:=a.l7;refine Au (λ_=>(H.pick 7 [2,3] Z)) (AF [8] J O (Am (Ct Z Z Z Z (Bf Z Z) (Au (λh=>absurd Z h) (Bo J (gn (Z4 19 [2,2,3] H Z ?_)))))));intro w H;refine Zr Z ?_;have K9:=H.says 1 Z (λh q=>trA.k q);exact ⟨_,⟨_,_,_,_,_,_,_,mb+2,⟨f.resize hi a1 c (b.trans y.symm) c4.1 c4.2 K9,(Dm _ _ _ _).symm,by omega,DoE.ot U U U,⟨by rw[<-c6];exact .tr a9 (.set c b),λq=>by omega⟩,a0⟩,Z,Z⟩,H.pick 7 [2,0,1,4,5] Z⟩
 refine Z0 6 [0] Z (Af Z (λe8=>?_) (λe8=>?_))
 ·refine Zc 3 Z (z_E_ Z (call34 _) (WQ P o W Ac a5) H.f2.f1.f5.f4 ?_);intro w H;refine Zc 4 Z (Zr Z ?_);exact ⟨_,⟨_,_,P,_,o,_,_,mb,⟨a5,Z,by omega,DoE.ot U U U,.eq Z,a0⟩,Z,Z⟩,H.pick 7 [0,1,5,2,3] Z⟩
 refine Z0 6 [0] Z (Af Z (λg7=>?_) (λg7=>?_))
 ·refine Z2 6 [1,3,0] H Z (z_E_ Z (call35 _) (Ic) H.f4.f5 ?_);intro w H;refine Z0 5 [3] Z (Zr Z ?_);exact ⟨_,⟨_,_,P,_,o,_,_,mb,⟨a5,Z,by omega,DoE.ot U U U,.eq Z,a0⟩,Z,Z⟩,H.pick 7 [5,0,1,2,4] Z⟩
 refine Z2 9 [1,3,0] H Z (z_E_ Z (call22 _) (QW) H.f5 ?_);intro w H;replace H:=H.l7;replace H:=H.f5;obtain ⟨M0,hr,a⟩:=H.tr0;clear H;obtain ⟨X,hX,H⟩:=a.po;clear a;have a:=H;clear H;have H:Sep z (plB pp X.ps X.pc X.pa n false::stoA X.ps X.pd X.D X.G none::coB X.pc X.bn n X.mm::Cg X.bn o.C n::AI X.mm X.l X.clk::alB X.pa n (AX n o.C) X.Dd (AX n o.C)::X.A::voA pv pp s ([]) (P.map Prod.fst)::wdA pw s W::wdA p2 s Wc::Ac::blk g [Y pd,Y pv,Y pw] 36::blk b1 [I kd,I ci,I ca,I cc,I cf,I cs,I cq,.bool sy,.bool od] 28::R) w:=a;clear a;refine z_E_ Z (call36 _) (WR) H ?_;intro w H;replace H:=H.l13;refine Ar Z (call37 _) (OG mb hX.fine U) H.f1 ?_;rintro _ w _ ⟨D2,G2,f9,i1,e3,g9,g5,rfl,rfl⟩ H;refine Z0 5 [3] Z (Zr Z ?_);have H8:=(H.pick 13 [1,0,2,3,4,5,6,11,7,8,10] Z).toPo (X:= {X with D:=D2,G:=G2}) (mb:=mb+1) (n:=n) (M0:=M0) (C0:=o.C) (t:=none) ⟨hX.hn,f9,(by show G2.x.pages=(n:Int);rcases g5 with q|q<;>rw[q.2]<;>exact hX.pg),hX.tab,λp hp=>(by show M0 p=G2.M p;rw[e3];exact hX.m0 p hp),λi hi=>(by show G2.M (1+i)=_;rw[e3];exact hX.cp i hi),hX.c0,hX.one,hX.idle,λT e=>(by cases e)⟩ Z;have H9:=Sep.toTr0 (o:=o) H8 hr;exact ⟨_,⟨_,_,P,_,o,W,Ac,mb+1,⟨a5,Z,by omega,DoE.ot U U U,.eq Z,a0⟩,Z,Z⟩,H9.pick 5 [1,2,0,3,4] Z⟩
end
section
variable{Tb:Ai}
theorem AcD(c:16<=n/\n<=639)(K:TrK n (FG n) none)(A:Ai):LvI n (FG n) 1 (List.replicate 8 pl0) [] A:=by
 refine ⟨⟨c.2,Z,by omega,λp hp=>.inl (Af4.1 hp).2,?_,by exact Ahf _⟩,⟨Ahf _,List.Pairwise.nil⟩,Z,λx d=>(by cases d),λp b h=>(by cases h),K⟩;rw[Afx];intro a b f e _ _;rw[List.getElem_replicate];rfl
theorem AcE:cnt (AX 64 (FG 64).C) 0 1024=62:=by decide+kernel
theorem AcF{o:TB}(K:TrK 64 o none)(hN:o.N=(FG 64).N)(a:o.R=[]):cnt (AX 64 o.C) 0 1024=62:=by
 rw[<-AcE];congr 1;funext p;unfold AX;have e:p<64->o.C p=(FG 64).C p:=λhp=>by
  show o.C p=C1 (manyN 64+1) p;unfold C1;by_cases h:p<manyN 64+1
  ·rw[if_pos h];exact K.one p U
  rw[if_neg h];have:=K.i.cnt p U hp;simpa [curC,CV,Dl,a,hN,FG,Jb] using this
 by_cases hp:p<64
 ·simp[hp,e hp]
 simp[hp]
theorem Aat{k:Int}{V:List Bk}(h:∀b∈V,b.1≠k):BA k V=V:=Agw.2 λb a=>by simpa using h b a
theorem Q8{k:Int}{V:List Bk}(h:∀b∈V,b.1<k):PutAt k B V (V++[(k,B)]):=by
 have e:=Aat (k:=k) (V:=V) λb a=>by have:=h b a;omega
 refine ⟨V.length,λj b _ a=>?_,λb a=>?_,?_⟩
 ·rw[e] at a;exact h b (Aee a)
 ·rw[e,AeK (Aek _)] at a;cases a
 rw[e,Ae9,List.drop_length]
theorem WS{c:O8}(h:W.map Wv.core=[c]):∃x:Wv,W=[x]/\x.core=c:=by
 match W,h with
 | [x],h=>exact ⟨x,Z,by simpa using h⟩
theorem PL{m o2 o3:TB}{i:Int}{W2 e:List Wv}(D1:DoE 64 (FG 64) m 1 s [] W 0 0 0 0 10 10 false)(K:TrK 64 m none)(D2:DoE 64 m o2 s p W W2 1 0 3 2 0 0 false)(D3:DoE 64 o2 o3 p i W2 e 4 0 0 0 0 0 false):e.length=2/\∃x,e[1]?=some x/\x.V.length=2:=by
 obtain ⟨e1,c1,n1,r1⟩:=D1.cr Z U U;obtain ⟨x,rfl,cx⟩:=WS c1;simp only[Wv.core,Afv] at cx;obtain ⟨x1,x2,x3,n⟩:=cx;obtain ⟨y,hy,e2,wr⟩:=D2.wr Z U O;simp at hy;subst hy;have hm:mV 2 false=128:=by decide
 rw[hm,AcF K n1 (r1.trans Z)] at wr;obtain ⟨j,k,u2,V2,bs,hj,⟨vf,a,v,hv⟩,r,hc⟩:=wr y O Z (by rw[x2];decide);have b:0<k->vf 1=[(3,DN bs 0)]:=λh=>by
  have d:=(hv 0 h).2 (vf 0++[(3+((0:Nat):Int),DN bs 0)]) (Q8 (by rw[a,n];simp));rw[a,n] at d;exact d.symm
 have o:1<k->vf 2=[(3,DN bs 0),(4,DN bs 1)]:=λh=>by
  have d:=(hv 1 h).2 (vf 1++[(3+((1:Nat):Int),DN bs 1)]) (Q8 (by rw[b U];simp));rw[b U] at d;exact d.symm
 have hk:k=2:=by
  rcases hc with h|⟨h,q|q⟩
  ·exact h
  ·exfalso
   have g:k=0\/k=1:=by omega
   have:=q.2;rw[x3,<-v] at this;rcases g with rfl|rfl
   ·rw[a,n] at this;simp at this
   rw[b U] at this;simp at this
  omega
 subst hk;have hV:V2.length=2:=by rw[<-v,o U];rfl
 have f:j=0:=by
  have:=(Aed.1 hj).1;simpa using this
 subst f;have hW:W2=[⟨y.id,y.sz,y.q,u2,V2⟩]:=r;subst hW;obtain ⟨t,w,z⟩:=D3.sn Z U O U;simp at w;subst w;have u:=congrArg List.length z;simp at u;refine ⟨u,?_⟩;have c:=congrArg (λl=>l[1]?) z;simp only[Aeq] at c
 cases hq:e[1]? with
 | none=>rw[hq] at c;simp at c
 | some x3'=>
  rw[hq] at c;refine ⟨x3',Z,?_⟩;simp[Wv.core] at c;rw[c.2.2.2];exact hV
set_option maxHeartbeats 4000000 in
theorem WT (Tb:Ai) (hT:Ht Tb):Aj 7 [] [Tb] (λv G=>v=.bool true/\G=[Tb]):=by
 intro z R w H;replace H:=H.l1;refine Ae func7 Z ntmps7 Z (Zc 7 Z (Ar Z (call5 _) (Pk 64 U Tb hT) H ?_));rintro _ w _ ⟨pb,pd,y,pp,pw,rfl,rfl⟩ H;refine Zc 18 Z ?_;have H9:=H.nilg 90 2;clear H;have f:=H9.pick 5 [1,2,3,4,0] Z;clear H9;have H:Sep z (blk pb [Y pd,Y y,Y pw] 36::voA y pp 1 ([]) ((List.replicate 8 pl0).map Prod.fst)::trA Tb pp 6 64 (FG 64) none::wdA pw 1 ([])::grow 90 2 (.slice none 0 0) 0 []::R) w:=f;clear f;have p:=AcD (n:=64) U (H.says 2 Z (λh q=>trA.k q)) (grow 90 2 (.slice none 0 0) 0 []);refine Zc 2 Z (Ab Z (Bg Z Z (out:=[I 0,I 0,I 0,I 0,I 0,I 10,I 10,.bool false,.bool false]) J) (Ar Z (call6 _) (F3 64 (List.replicate 8 pl0) (FG 64) [] p U 0 0 0 0 0 10 10 false false U U U U) H ?_));rintro _ w _ ⟨p1,a3,P1,a6,o1,W1,A1,m1,⟨c,rfl,a8,m,_⟩,rfl,rfl⟩ H;refine Zc 6 Z (Ab Z (Bg Z Z (out:=[I 1,I 0,I 3,I 2,I 5,I 0,I 0,.bool true,.bool false]) J) (Ar Z (call6 _) (F3 64 P1 o1 W1 c U 1 0 3 2 5 0 0 true false U U U U) H ?_));rintro _ w _ ⟨p2,nx2,P2,a4,o2,W2,A2,m2,⟨s,rfl,a2,t,_⟩,rfl,rfl⟩ H;refine Zc 6 Z (Ab Z (Bg Z Z (out:=[I 4,I 0,I 0,I 0,I 0,I 0,I 0,.bool false,.bool false]) J) (Ar Z (call6 _) (F3 64 P2 o2 W2 s U 4 0 0 0 0 0 0 false false U U U U) H ?_));rintro _ w _ ⟨p3,a7,P3,a0,o3,W3,A3,m3,⟨e,rfl,a5,l,_⟩,rfl,rfl⟩ H;refine Zc 4 Z (Bp (Sep z (blk pb [Y pd,Y y,Y p3] 36::R)) 10 Z J (A4 H λw f=>?_));have H:=f.l5;refine Bv [0,1,2,3,4,5,6,7] [1,0,2,0] J (λ_ d=>(AR (d.blk 0 Z) AN)) (by exact H.pick 5 [0] Z) Z J Z Z (AF [8] J O (Am (Bt Z Z Z Z Z Z (λw=>call38 _ w) (Adq P3 o3 W3 A3 e U) H.f4.f4.f4.f4 Z ?_)));rintro _ w _ ⟨rfl,rfl⟩ H;replace H:=H.l5;refine Au (λ_=>(H.pick 5 [4] Z)) (AF [9] J O (Am (Ct Z Z Z Z (Bf Z Z) (Au (λh=>absurd Z h) (Bo J (gn (Zc 2 Z ?_)))))));have K1:=c.k;obtain ⟨a9,x,d,o⟩:=PL m K1 t l;replace H:=H.f2;obtain ⟨uw,H⟩:=H.wd;replace H:=H.l6;have u:=H.sy 1 (·.slc);obtain ⟨aw,cw,rfl⟩:=u;have a:=(H.rv 1 (·.rd)).at (Bu d 0 _ Z);obtain ⟨xi,xs,xq,xu,xV⟩:=x;dsimp only at o;have g:InB A3 xu xV:=e.bag _ (Aee d);have i:=H.sy 4 (λq=>(g _ q).slc);obtain ⟨ax,cx,rfl⟩:=i;have b:=(H.rv 1 (·.rd)).at (Bu d 3 _ Z);refine Z2 23 [2,5,0,0,0,0,0] H Z (An 52 Z (λh1=>?_) (λh1=>?_))
 ·refine Z2 7 [2,5,0,0,0,0] H Z (Ab Z (Ak Z (z:=4) (j:=1) (r:=4) J Z Z Z U a U) (Ab Z (Bh Z (k:=3) (r:=7) J Z a Z) (Ab Z (Ay Z Z J (Az b)) (Z0 7 [0] Z (Zr Z ?_)))));exact ⟨_,⟨congrArg Value.bool (decide_eq_true U),Z⟩,((H.pick 6 [3] Z).trTab).2⟩
 (exfalso;omega)
end
section
variable{Tb:Ai}
structure ClE where
 kd:Int
 ci:Int
 ca:Int
 cc:Int
 cf:Int
 cs:Int
 cq:Int
 sy:Bool
 od:Bool
def ClE.cells(e:ClE):List Value:=[.int .i64 e.kd,.int .i64 e.ci,.int .i64 e.ca,.int .i64 e.cc,.int .i64 e.cf,.int .i64 e.cs,.int .i64 e.cq,.bool e.sy,.bool e.od]
def Ih(es:List ClE):List Value:=es.flatMap ClE.cells
theorem Aau(es:List ClE):(Ih es).length=es.length*9:=by
 induction es with
 | nil=>rfl
 | cons e es ih=>simp only[Ih,AeJ,Aeg] at ih ⊢;rw[ih];simp[ClE.cells];omega
theorem Mq:∀{es:List ClE} {j:Nat} {e:ClE},es[j]?=some e->∀k u,(ClE.cells e)[k]?=some u->(Ih es)[j*9+k]?=some u
 | x::es,0,e,h,k,u,hk=>by
  simp at h;subst h;have hl:=(Aed.1 hk).1;simp only[Ih,AeJ];rw[Aeo U];simpa using hk
 | x::es,j+1,e,h,k,u,hk=>by
  have:=Mq (es:=es) (j:=j) (by simpa using h) k u hk;simp only[Ih,AeJ] at this ⊢;rw[Aeu (by simp[ClE.cells];omega)];rw[show (j+1)*9+k-(ClE.cells x).length=j*9+k from by simp[ClE.cells];omega];exact this
def ClE.In(e:ClE):Prop:=(-9223372036854775808<=e.kd/\e.kd<=9223372036854775807)/\(-9223372036854775808<=e.ca/\e.ca<=9223372036854775807)/\(-9223372036854775808<=e.cc/\e.cc<=9223372036854775807)/\(-9223372036854775808<=e.cf/\e.cf<=9223372036854775807)
def ClP(v:Value)(es:List ClE)(A:Ai):Prop:=∀h,A h->rdH 9 v es.length (Ih es) h/\∀e∈es,e.In
end
section
variable{Tb:Ai}
variable{n j k:Nat}{o o2:TB}{nx xi xs xq:Int}{P:List Pl}{W W2:List Wv}{A:Ai}{u:Value}{V:List Bk}
end
section
variable{Tb:Ai}
variable{n:Nat}{o:TB}{nx id kd:Int}{P:List Pl}{W Wc W2 Q:List Wv}{A Ac A2 A3:Ai}
def PstI(W:List Wv)(A:Ai)(Q:List Wv):Prop:=∀q∈Q,InB A q.u q.V/\q.core∈W.map Wv.core
theorem PstI.does(h:PstI W A Q)(b:KpE W W2 id kd)(i:Ink A A2)(hq:(∀q∈Q,q.id≠id)\/pkI kd 10=2):PstI W2 A2 Q:=λq a=>by
 obtain ⟨f,c⟩:=h q a;refine ⟨i _ _ f,?_⟩;rcases hq with r|r
 ·obtain ⟨y,g,e⟩:=Aem.1 c
  have d:y.id=q.id:=congrArg Prod.fst e;have:=b.1 y g (by rw[d];exact r q a);rwa[e] at this
 rw[b.2 r];exact c
theorem Q9(h:LvI n o nx P W A)(d:Wc.map Wv.core=W.map Wv.core){x x2:Wv}(g:W[j]?=some x)(c:Wc[m]?=some x2)(e:x2.id=x.id):x2.core=x.core:=by
 obtain ⟨y,f,a⟩:=G6 d (Aee c);have b:y.id=x2.id:=congrArg Prod.fst a;have:=h.eq g f (b.trans e);rw[<-this,a]
theorem PstI.snap(h:PstI W A Q)(d:Wc.map Wv.core=W.map Wv.core)(b:Ink A Ac)(a:Ink Ac A3){x x2:Wv}(i:InB A x.u x.V)(e:x2.core=x.core)(g:Value)(nx:Int):PstI (Wc++[⟨nx,x2.sz,x2.q,g,x2.V⟩]) A3 (Q++[⟨nx,x.sz,x.q,x.u,x.V⟩]):=λq hq=>by
 rw[AeH];rcases Aer.1 hq with r|r
 ·obtain ⟨c,j⟩:=h q r
  exact ⟨a _ _ (b _ _ c),Agb _ (d▸j)⟩
 rw[Afn] at r;subst r;simp only[Wv.core,Afv] at e;obtain ⟨_,e2,k,f⟩:=e;exact ⟨a _ _ (b _ _ i),Agm _ (by simp[Wv.core,e2,k,f])⟩
theorem PstI.at(h:PstI W A Q){k:Nat}{q:Wv}(hq:Q[k]?=some q):∃(j:Nat) (u:Value),W[j]?=some ⟨q.id,q.sz,q.q,u,q.V⟩:=by
 obtain ⟨y,b,e⟩:=Aem.1 (h q (Aee hq)).2;obtain ⟨j,a⟩:=AeX.1 b;simp only[Wv.core,Afv] at e;obtain ⟨e1,e2,d,c⟩:=e;exact ⟨j,y.u,by rw[a,<-e1,<-e2,<-d,<-c]⟩
def Gu(Q:List Wv)(id:Int)(k:Nat):Bool:=(Q.take k).all λq=>decide (q.id≠id)
theorem XG{q:Wv}(h:Gu Q id m=true)(hq:Q[m]?=some q):decide (q.id≠id)=Gu Q id (m+1):=by
 unfold Gu at h ⊢;rw[AeM,hq,List.all_append,h];simp
theorem XH(h:Gu Q id m=false):false=Gu Q id (m+1):=by
 unfold Gu at h ⊢;rw[AeM,List.all_append,h];rfl
theorem JQ{k:Nat}(h:Gu Q id k=true)(a:Q.length<=k):∀q∈Q,q.id≠id:=by
 unfold Gu at h;rw[Ael a] at h;simpa using h
set_option maxHeartbeats 16000000 in
theorem Nh (c:Int) (hc: -9223372036854775808<=c/\c<=9223372036854775807) (A Tb:Ai) (hT:Ht Tb) (es:List ClE) (j5:es.length<=1048576) (hA:ClP v es A):Aj 4 [v,I c] [A,Tb] (λv G=>v=.bool true/\G=[A,Tb]):=by
 intro z R w H;replace H:=H.l2;obtain ⟨ao,oc,rfl⟩:=H.sy 0 (λq=>(hA _ q).1.slc);refine Ae func4 Z ntmps4 Z (Zc 7 Z (Ar Z (call5 _) (Pk 600 U Tb hT) H.f1 ?_));rintro _ w _ ⟨pb,pd,pv,pp,pw,rfl,rfl⟩ H;refine Zc 18 Z ?_;have H9:=H.nilg 90 2;clear H;have f:=H9.pick 6 [1,2,3,4,0,5] Z;clear H9;have H:Sep z (blk pb [Y pd,Y pv,Y pw] 36::voA pv pp 1 ([]) ((List.replicate 8 pl0).map Prod.fst)::trA Tb pp 6 600 (FG 600) none::wdA pw 1 ([])::grow 90 2 (.slice none 0 0) 0 []::A::R) w:=f;clear f;have g6:=AcD (n:=600) U (H.says 2 Z (λh q=>trA.k q)) (grow 90 2 (.slice none 0 0) 0 []);refine Zc 6 Z ?_;have H9:=H.nilg 40 4;clear H;have f:=H9;clear H9;have H:Sep z (grow 40 4 (.slice none 0 0) 0 []::blk pb [Y pd,Y pv,Y pw] 36::voA pv pp 1 ([]) ((List.replicate 8 pl0).map Prod.fst)::trA Tb pp 6 600 (FG 600) none::wdA pw 1 ([])::grow 90 2 (.slice none 0 0) 0 []::A::R) w:=f;clear f;refine Zc 5 Z ?_;refine AD (σ:=Nat×Nat×Int×List Pl×TB×List Wv×Ai×Nat×Value×List Wv) (λ⟨i,pG,b,PG,oG,WG,AG,s,qv,Q⟩=>[(8,I (i:Int)),(7,qv),(0,.slice ao es.length oc),(1,I c),(5,Y pb)])
   (λ⟨i,pG,b,PG,oG,WG,AG,s,qv,Q⟩ w=>Sep z (grow 40 4 qv Q.length (Bl Q)::blk pb [Y pd,Y pv,Y pG] 36::voA pv pp b ([]) (PG.map Prod.fst)::trA Tb pp s 600 oG none::wdA pG b WG::AG::A::R) w/\(i<=es.length/\s<=6+16*i/\LvI 600 oG b PG WG AG/\Q.length<=i/\PstI WG AG Q)) (λ⟨i,pG,b,PG,oG,WG,AG,s,qv,Q⟩=>es.length-i) ⟨0,pw,1,List.replicate 8 pl0,FG 600,[],grow 90 2 (.slice none 0 0) 0 [],6,.slice none 0 0,[]⟩
   (λ_ p=>(p.co Z (by go_num) p.cz)) ⟨H,⟨AeN _,by omega,g6,Aek _,λq h=>nomatch h⟩⟩ ?_
 clear H;rintro ⟨i,pG,b,PG,oG,WG,AG,s,qv,Q⟩ w ⟨f,hI⟩;dsimp only at hI f ⊢;have H:=f.l7;have f8:=H.sy 0 (·.slc);obtain ⟨j7,j3,a,j6,g⟩:=hI;refine Zc 2 Z ?_;have f8:=H.sy 0 (·.slc);obtain ⟨ap,cp,rfl⟩:=f8;refine Z0 7 [0] Z (Af Z (λh1=>?_) (λh1=>?_))
 ·refine Zc 5 Z ?_;obtain ⟨e,he⟩:∃e,es[i]?=some e:=⟨_,Aef U⟩;have a0:=H.sy 6 (λq=>(hA _ q).2 e (Aee he))
  have g9:=(H.rv 6 (λq=>(hA _ q).1)).at (Mq he 0 _ Z);refine Zc 3 Z (Ab Z (Ak Z (z:=9) (j:=i) (r:=i*9) J Z Z Z U g9 U) (Ab Z (Bq Z Z (vs:=ClE.cells e) J (by simp[ClE.cells]) (Az (λk u hk=>(H.rv 6 (λq=>(hA _ q).1)).at (Mq he k u hk)))) (Za 0 [] H Z ?_)));intro b1 w H;refine Z4 5 [0] H Z ?_;intro w H;replace H:=H.f5;obtain ⟨uw,H⟩:=H.wd;replace H:=H.l9;have i7:=H.sy 1 (·.slc);obtain ⟨aw,cw,rfl⟩:=i7;have j1:=H.sy 1 (·.rd.slcapZ);have c2:=a.w8;refine Z2 3 [0,2,0] H Z (z_E_ Z (call8 _) (F2 10 a0.1 U) H ?_);intro w H;refine Z0 2 [0] Z (An 42 Z (λh2=>?_) (λh2=>?_))
  ·refine Z2 12 [2,4,0,0,0,0,0] H Z (Af Z (λh3=>?_) (λh3=>?_))
   ·refine Zc 1 Z ?_;have i2:0<WG.length:=by omega
    have c2:=a.w8;obtain ⟨j,g5⟩:∃j,j=pkI c WG.length:=⟨_,Z⟩;have g2:j<WG.length:=g5▸OX c i2;obtain ⟨x,hx⟩:∃x,WG[j]?=some x:=⟨_,Aef g2⟩;have c5:=(H.rv 1 (·.rd)).at (Bu hx 0 _ Z);obtain ⟨xi,xs,xq,xu,xV⟩:=x;have e0:InB AG xu xV:=a.bag _ (Aee hx);have i3:=H.sy 7 (λq=>(e0 _ q).slc);obtain ⟨ax,cx,rfl⟩:=i3;replace H:=H.f1.f1.f4;refine Bp (Sep z (blk pb [Y pd,Y pv,Y pG] 36::blk pG [.slice aw WG.length cw,I b] 31::grow 40 4 (.slice aw WG.length cw) WG.length (Bl WG)::R)) 21 Z J (A4 H λw f=>?_);have H:=f.l9;refine Bv [0,1,2,3,4,5,6,7,8,9,10,11,12,13,14] [2,0,0,1,2,0,0,1] J (λ_ hx=>(AR (hx.blk 0 Z) (AR (hx.blk 1 Z) AN))) (by exact H.pick 9 [0,1,2] Z) Z J Z Z (BG 15 J Z Z J J J Z Z Z (Fu Z (z:=4) J Z) (H.pick 9 [0,1,2] Z) (AF [16,19] J O (IP ?_ ?_)))
    ·refine Bt Z Z Z Z Z Z (λw=>call8 _ w) (F2 WG.length hc U) H Z ?_;rintro _ w _ ⟨rfl,rfl⟩ H;replace H:=H.l9;refine Au (λ_=>(H.pick 9 [0,1,2] Z)) (BG 17 J Z Z J J J Z Z Z (Ak Z (z:=4) (j:=j) (r:=j*4) J Z Z U U c5 U) (H.pick 9 [0,1,2] Z) (BG 18 J Z Z J J J Z Z Z (Bq Z Z (vs:=[I xi,I xs,I xq,.slice ax xV.length cx]) J O (λ_ hs k' u hk=>(hs.rv 2 (·.rd)).at (Bu hx k' u hk))) (H.pick 9 [0,1,2] Z) (AF [19] J O (Am (B6 Z Z Z Z (BZ (P:=prog) H Z (zs:=[I 0,I 0,I 0,.slice none 0 0]) J) ?_)))));rintro _ w ⟨b2,rfl,H⟩;replace H:=H.l10;refine Au (λ_=>(H.pick 10 [1,2,3] Z)) (AF [20] J O (Am (Bj Z Z Z (Al 0 H Z Z Z Z (vs:=[I xi,I xs,I xq,.slice ax xV.length cx]) Z (by simp[u8,u32,Value.oneCell']) J O (out:=[I xi,I xs,I xq,.slice ax xV.length cx]) Z) ?_)));rintro w H;replace H:=H.l10;refine Au (λh=>absurd Z h) (Bo J (gn (Zc 2 Z ?_)));have f:=(H.pick 10 [2,3,0,1,4,5,6,7,8,9] Z).toWd
     clear H;have H:Sep z (wdA pG b WG::blk b2 [I xi,I xs,I xq,.slice ax xV.length cx] 40::blk pb [Y pd,Y pv,Y pG] 36::blk b1 [I e.kd,I e.ci,I e.ca,I e.cc,I e.cf,I e.cs,I e.cq,.bool e.sy,.bool e.od] 28::grow 40 4 (.slice ap Q.length cp) Q.length (Bl Q)::voA pv pp b ([]) (PG.map Prod.fst)::trA Tb pp s 600 oG none::AG::A::R) w:=f;clear f;have c4:=a.bag;have c1:∀x∈WG,x.V.length<=1048576:=λx hx=>by have:=(a.w hx).2.2.1;omega
     have g7:=a.nx9;have e6:=a.inv.fit a.k;have e1:=IG a.k.hn.2;have d8:oG.R.length+600<1000:=by have:=a.inv.r.length_eq;have:=JN PG;have:=a.inv.len;have:=a.inv.n;omega
     replace H:=H.f1.f2;refine Bp (Sep z (blk pb [Y pd,Y pv,Y pG] 36::blk b2 [I xi,I xs,I xq,.slice ax xV.length cx] 40::R)) 12 Z J (A4 H λw f=>?_);have H:=f.l9;refine Bv [0,1,2,3,4,5] [1,0,0,1] J (λ_ hx=>(AR (hx.blk 0 Z) (AR (hx.blk 1 Z) AN))) (by exact H.pick 9 [0,1] Z) Z J Z Z (AF [6] J O (Am (Bt Z Z Z Z Z Z (λw=>call15 _ w) (Id a.hv U e6 e1 U xi a.xo d8) H.f6.f6 Z ?_)));rintro _ w _ (⟨b9,rfl,rfl⟩|⟨j9,e9,⟨c3,d1,d3⟩,(⟨e4,rfl,rfl⟩|⟨b7,rfl,rfl⟩|⟨i9,C2,a8,rfl,rfl⟩)⟩) f
     ·exact (by obtain ⟨e8,e2,q1,q2⟩:=a.back hx Z;exact absurd ⟨q1,q2⟩ (b9 e8 e2))
     ·have H:=f.l9;refine Au (λ_=>(H.pick 9 [2,3] Z)) (Bv [7,8,9,10] [] J (λ_ _=>AN) (by exact H.pick 9 [2,3] Z) Z J Z Z (AF [11] J O (Am (Ct Z Z Z Z (Bf Z Z) (Au (λh=>absurd Z h) (Bo J (gn (Z1 20 [4] [(i:Int)+1] Z U ?_))))))));replace H:=H.f5.d.f3.d.f6.f6.f5.f4.f4.f5.f6;refine gf ?_;intro _ p;refine ⟨⟨i+1,pG,b,PG,oG,WG,AG,s,.slice ap Q.length cp,Q⟩,(p.co Z (by go_num) p.cz),⟨(H.pick 7 [0,1,2,3,4,5,6] Z),?_⟩,?_⟩
      ·first|exact ⟨by show i+1<=es.length;omega,by show s+2<=6+16*(i+1);omega,a7,by simp;omega,a4⟩|exact ⟨by show i+1<=es.length;omega,by show m2<=6+16*(i+1);omega,a3,by show Q.length<=i+1;omega,a2⟩|exact ⟨by show i+1<=es.length;omega,by show s<=6+16*(i+1);omega,a,by show Q.length<=i+1;omega,g⟩
      (dsimp only;omega)
     ·(exfalso;omega)
     have H:=f.l9;obtain ⟨L9,d9⟩:=a.pl_at c3;rw[<-Dm PG i9 _ L9] at H;refine Au (λ_=>(H.pick 9 [2,3] Z)) (Bv [7,8,9,10] [] J (λ_ _=>AN) (by exact H.pick 9 [2,3] Z) Z J Z Z (AF [11] J O (Am (Ct Z Z Z Z (Bf Z Z) (Au (λh=>absurd Z h) (Bo J (gn (Z2 15 [3,2,2,0] H Z (Ar Z (call9 _) (Mn U AG c4 c1) H.f7.f5 ?_)))))))));rintro _ w _ ⟨p2,Wc,Ac,⟨a5,d6,c6⟩,rfl,rfl⟩ H;replace H:=H.l10;have b8:=a.copy a5 c6;have f0:Wc.length=WG.length:=by simpa using congrArg List.length a5
     have d4:∀x∈Wc,x.V.length<=1048576:=λx hx=>by have:=(b8.w hx).2.2.1;omega
     refine Z2 8 [0,6,0] H Z (Ar Z (call16 _) (Mp U xi U c6 d4) H.f2.f2 ?_);rintro _ w _ (⟨e3,rfl,rfl⟩|⟨k2,x2,⟨c7,a6⟩,(⟨h8,rfl,rfl⟩|⟨b7,rfl,rfl⟩|⟨h7,u2,A3,⟨c8,d7⟩,rfl,rfl⟩)⟩) f
     ·exact (by obtain ⟨y,hy,ey⟩:=G6 a5.symm (Aee hx);exact absurd (show y.id=xi from congrArg Prod.fst ey) (e3 y hy))
     ·(exfalso;have:=a.less (a.free a8.1);omega)
     ·(exfalso;omega)
     have H:=f.l10;have e7:=Q9 a a5 hx c7 a6;have a4:=g.snap a5 d6 c8 (x:=⟨xi,xs,xq,.slice ax xV.length cx,xV⟩) e0 e7 u2 b;have K9:=H.says 4 Z (λh q=>trA.k q);have a7:=b8.snap a8.1 d9 d1 c7 (a6.trans d3.symm) c8 d7 K9;refine Z4 18 [2,5,0,6] H Z ?_;intro w H;have f:=H.pick 10 [0,1,3,4,5,6,7,8,9] Z;clear H;have H:Sep z (wdA p2 (b+1) (Wc++[⟨b,x2.sz,x2.q,u2,x2.V⟩])::A3::voA pv pp (b+1) ([]) ((PG.set i9 ({e9 with id:=b,st:=1},L9)).map Prod.fst)::trA Tb pp (s+2) 600 ⟨oG.N,C2,AZ e9.r.toNat++oG.R⟩ none::blk pb [Y pd,Y pv,Y p2] 36::blk b2 [I b,I xs,I xq,.slice ax xV.length cx] 40::blk b1 [I e.kd,I e.ci,I e.ca,I e.cc,I e.cf,I e.cs,I e.cq,.bool e.sy,.bool e.od] 28::grow 40 4 (.slice ap Q.length cp) Q.length (Bl Q)::A::R) w:=f;clear f;refine Z2 3 [5,4] H Z (AP Z (AO H Z J Bm Z (by decide) (by decide) (out:=[I b,I xs,I xq,.slice ax xV.length cx]) J) ?_);rintro _ w ⟨b3,rfl,H⟩;replace H:=H.l10;refine AP Z (AW 8 H Z Z J Bm Z Z (H.rv 0 (·.rd U U O Z)) (Ad Z (Ad Z (Ad Z (Ad Z Aw)))) U) ?_;rintro v4 w f;have f:Sep z (blk b3 [I b,I xs,I xq,.slice ax xV.length cx] 40::wdA p2 (b+1) (Wc++[⟨b,x2.sz,x2.q,u2,x2.V⟩])::A3::voA pv pp (b+1) ([]) ((PG.set i9 ({e9 with id:=b,st:=1},L9)).map Prod.fst)::trA Tb pp (s+2) 600 ⟨oG.N,C2,AZ e9.r.toNat++oG.R⟩ none::blk pb [Y pd,Y pv,Y p2] 36::blk b2 [I b,I xs,I xq,.slice ax xV.length cx] 40::blk b1 [I e.kd,I e.ci,I e.ca,I e.cc,I e.cf,I e.cs,I e.cq,.bool e.sy,.bool e.od] 28::grow 40 4 v4 (Q.length+1) (Bl Q++[I b,I xs,I xq,.slice ax xV.length cx])::A::R) w:=f;have i5:(Bl Q++[I b,I xs,I xq,.slice ax xV.length cx]:List Value)=Bl (Q++[(⟨b,xs,xq,.slice ax xV.length cx,xV⟩:Wv)]):=(by rw[F1];rfl);rw[i5] at f;rw[show (Q.length+1:Nat)=(Q++[(⟨b,xs,xq,.slice ax xV.length cx,xV⟩:Wv)]).length from by simp] at f;have H:=f.l10;have j4:=H.sy 8 (·.slc);refine Z1 12 [] [(i:Int)+1] Z U (gf ?_);intro _ p;refine ⟨⟨i+1,p2,b+1,PG.set i9 ({e9 with id:=b,st:=1},L9),⟨oG.N,C2,AZ e9.r.toNat++oG.R⟩,Wc++[(⟨b,x2.sz,x2.q,u2,x2.V⟩:Wv)],A3,s+2,v4,Q++[(⟨b,xs,xq,.slice ax xV.length cx,xV⟩:Wv)]⟩,p.cz,⟨(H.pick 10 [8,5,3,4,1,2,9] Z),?_⟩,?_⟩
     ·first|exact ⟨by show i+1<=es.length;omega,by show s+2<=6+16*(i+1);omega,a7,by simp;omega,a4⟩|exact ⟨by show i+1<=es.length;omega,by show m2<=6+16*(i+1);omega,a3,by show Q.length<=i+1;omega,a2⟩|exact ⟨by show i+1<=es.length;omega,by show s<=6+16*(i+1);omega,a,by show Q.length<=i+1;omega,g⟩
     (dsimp only;omega)
    refine B6 Z Z Z Z (BZ (P:=prog) H Z (zs:=[I 0,I 0,I 0,.slice none 0 0]) J) ?_;rintro _ w ⟨b5,rfl,H⟩;replace H:=H.l10;refine Au (λ_=>(H.pick 10 [1,2,3] Z)) (AF [16] J O (Am (Bt Z Z Z Z Z Z (λw=>call8 _ w) (F2 WG.length hc U) H Z ?_)));rintro _ w _ ⟨rfl,rfl⟩ H;replace H:=H.l10;refine Au (λ_=>(H.pick 10 [1,2,3] Z)) (BG 17 J Z Z J J J Z Z Z (Ak Z (z:=4) (j:=j) (r:=j*4) J Z Z U U c5 U) (H.pick 10 [1,2,3] Z) (BG 18 J Z Z J J J Z Z Z (Bq Z Z (vs:=[I xi,I xs,I xq,.slice ax xV.length cx]) J O (λ_ hs k' u hk=>(hs.rv 2 (·.rd)).at (Bu hx k' u hk))) (H.pick 10 [1,2,3] Z) (AF [20] J O (Am (Bj Z Z Z (Al 0 H Z Z Z Z (vs:=[I xi,I xs,I xq,.slice ax xV.length cx]) Z (by simp[u8,u32,Value.oneCell']) J O (out:=[I xi,I xs,I xq,.slice ax xV.length cx]) Z) ?_)))));rintro w H;replace H:=H.l10;refine Au (λh=>absurd Z h) (Bo J (gn (Zc 2 Z ?_)));have f:=(H.pick 10 [2,3,0,1,4,5,6,7,8,9] Z).toWd;clear H;have H:Sep z (wdA pG b WG::blk b5 [I xi,I xs,I xq,.slice ax xV.length cx] 40::blk pb [Y pd,Y pv,Y pG] 36::blk b1 [I e.kd,I e.ci,I e.ca,I e.cc,I e.cf,I e.cs,I e.cq,.bool e.sy,.bool e.od] 28::grow 40 4 (.slice ap Q.length cp) Q.length (Bl Q)::voA pv pp b ([]) (PG.map Prod.fst)::trA Tb pp s 600 oG none::AG::A::R) w:=f;clear f;have c4:=a.bag;have c1:∀x∈WG,x.V.length<=1048576:=λx hx=>by have:=(a.w hx).2.2.1;omega
    have g7:=a.nx9;have e6:=a.inv.fit a.k;have e1:=IG a.k.hn.2;have d8:oG.R.length+600<1000:=by have:=a.inv.r.length_eq;have:=JN PG;have:=a.inv.len;have:=a.inv.n;omega
    replace H:=H.f1.f2;refine Bp (Sep z (blk pb [Y pd,Y pv,Y pG] 36::blk b5 [I xi,I xs,I xq,.slice ax xV.length cx] 40::R)) 12 Z J (A4 H λw f=>?_);have H:=f.l9;refine Bv [0,1,2,3,4,5] [1,0,0,1] J (λ_ hx=>(AR (hx.blk 0 Z) (AR (hx.blk 1 Z) AN))) (by exact H.pick 9 [0,1] Z) Z J Z Z (AF [6] J O (Am (Bt Z Z Z Z Z Z (λw=>call15 _ w) (Id a.hv U e6 e1 U xi a.xo d8) H.f6.f6 Z ?_)));rintro _ w _ (⟨b9,rfl,rfl⟩|⟨j9,e9,⟨c3,d1,d3⟩,(⟨e4,rfl,rfl⟩|⟨b7,rfl,rfl⟩|⟨i9,C2,a8,rfl,rfl⟩)⟩) f
    ·exact (by obtain ⟨e8,e2,q1,q2⟩:=a.back hx Z;exact absurd ⟨q1,q2⟩ (b9 e8 e2))
    ·have H:=f.l9;refine Au (λ_=>(H.pick 9 [2,3] Z)) (Bv [7,8,9,10] [] J (λ_ _=>AN) (by exact H.pick 9 [2,3] Z) Z J Z Z (AF [11] J O (Am (Ct Z Z Z Z (Bf Z Z) (Au (λh=>absurd Z h) (Bo J (gn (Z1 20 [4] [(i:Int)+1] Z U ?_))))))));replace H:=H.f5.d.f3.d.f6.f6.f5.f4.f4.f5.f6;refine gf ?_;intro _ p;refine ⟨⟨i+1,pG,b,PG,oG,WG,AG,s,.slice ap Q.length cp,Q⟩,(p.co Z (by go_num) p.cz),⟨(H.pick 7 [0,1,2,3,4,5,6] Z),?_⟩,?_⟩
     ·first|exact ⟨by show i+1<=es.length;omega,by show s+2<=6+16*(i+1);omega,a7,by simp;omega,a4⟩|exact ⟨by show i+1<=es.length;omega,by show m2<=6+16*(i+1);omega,a3,by show Q.length<=i+1;omega,a2⟩|exact ⟨by show i+1<=es.length;omega,by show s<=6+16*(i+1);omega,a,by show Q.length<=i+1;omega,g⟩
     (dsimp only;omega)
    ·(exfalso;omega)
    have H:=f.l9;obtain ⟨L9,d9⟩:=a.pl_at c3;rw[<-Dm PG i9 _ L9] at H;refine Au (λ_=>(H.pick 9 [2,3] Z)) (Bv [7,8,9,10] [] J (λ_ _=>AN) (by exact H.pick 9 [2,3] Z) Z J Z Z (AF [11] J O (Am (Ct Z Z Z Z (Bf Z Z) (Au (λh=>absurd Z h) (Bo J (gn (Z2 15 [3,2,2,0] H Z (Ar Z (call9 _) (Mn U AG c4 c1) H.f7.f5 ?_)))))))));rintro _ w _ ⟨p2,Wc,Ac,⟨a5,d6,c6⟩,rfl,rfl⟩ H;replace H:=H.l10;have b8:=a.copy a5 c6;have f0:Wc.length=WG.length:=by simpa using congrArg List.length a5
    have d4:∀x∈Wc,x.V.length<=1048576:=λx hx=>by have:=(b8.w hx).2.2.1;omega
    refine Z2 8 [0,6,0] H Z (Ar Z (call16 _) (Mp U xi U c6 d4) H.f2.f2 ?_);rintro _ w _ (⟨e3,rfl,rfl⟩|⟨k2,x2,⟨c7,a6⟩,(⟨h8,rfl,rfl⟩|⟨b7,rfl,rfl⟩|⟨h7,u2,A3,⟨c8,d7⟩,rfl,rfl⟩)⟩) f
    ·exact (by obtain ⟨y,hy,ey⟩:=G6 a5.symm (Aee hx);exact absurd (show y.id=xi from congrArg Prod.fst ey) (e3 y hy))
    ·(exfalso;have:=a.less (a.free a8.1);omega)
    ·(exfalso;omega)
    have H:=f.l10;have e7:=Q9 a a5 hx c7 a6;have a4:=g.snap a5 d6 c8 (x:=⟨xi,xs,xq,.slice ax xV.length cx,xV⟩) e0 e7 u2 b;have K9:=H.says 4 Z (λh q=>trA.k q);have a7:=b8.snap a8.1 d9 d1 c7 (a6.trans d3.symm) c8 d7 K9;refine Z4 18 [2,5,0,6] H Z ?_;intro w H;have f:=H.pick 10 [0,1,3,4,5,6,7,8,9] Z;clear H;have H:Sep z (wdA p2 (b+1) (Wc++[⟨b,x2.sz,x2.q,u2,x2.V⟩])::A3::voA pv pp (b+1) ([]) ((PG.set i9 ({e9 with id:=b,st:=1},L9)).map Prod.fst)::trA Tb pp (s+2) 600 ⟨oG.N,C2,AZ e9.r.toNat++oG.R⟩ none::blk pb [Y pd,Y pv,Y p2] 36::blk b5 [I b,I xs,I xq,.slice ax xV.length cx] 40::blk b1 [I e.kd,I e.ci,I e.ca,I e.cc,I e.cf,I e.cs,I e.cq,.bool e.sy,.bool e.od] 28::grow 40 4 (.slice ap Q.length cp) Q.length (Bl Q)::A::R) w:=f;clear f;refine Z2 3 [5,4] H Z (AP Z (AO H Z J Bm Z (by decide) (by decide) (out:=[I b,I xs,I xq,.slice ax xV.length cx]) J) ?_);rintro _ w ⟨b6,rfl,H⟩;replace H:=H.l10;refine AP Z (AW 8 H Z Z J Bm Z Z (H.rv 0 (·.rd U U O Z)) (Ad Z (Ad Z (Ad Z (Ad Z Aw)))) U) ?_;rintro v7 w f;have f:Sep z (blk b6 [I b,I xs,I xq,.slice ax xV.length cx] 40::wdA p2 (b+1) (Wc++[⟨b,x2.sz,x2.q,u2,x2.V⟩])::A3::voA pv pp (b+1) ([]) ((PG.set i9 ({e9 with id:=b,st:=1},L9)).map Prod.fst)::trA Tb pp (s+2) 600 ⟨oG.N,C2,AZ e9.r.toNat++oG.R⟩ none::blk pb [Y pd,Y pv,Y p2] 36::blk b5 [I b,I xs,I xq,.slice ax xV.length cx] 40::blk b1 [I e.kd,I e.ci,I e.ca,I e.cc,I e.cf,I e.cs,I e.cq,.bool e.sy,.bool e.od] 28::grow 40 4 v7 (Q.length+1) (Bl Q++[I b,I xs,I xq,.slice ax xV.length cx])::A::R) w:=f;have h0:(Bl Q++[I b,I xs,I xq,.slice ax xV.length cx]:List Value)=Bl (Q++[(⟨b,xs,xq,.slice ax xV.length cx,xV⟩:Wv)]):=(by rw[F1];rfl);rw[h0] at f;rw[show (Q.length+1:Nat)=(Q++[(⟨b,xs,xq,.slice ax xV.length cx,xV⟩:Wv)]).length from by simp] at f;have H:=f.l10;have j2:=H.sy 8 (·.slc);refine Z1 12 [] [(i:Int)+1] Z U (gf ?_);intro _ p;refine ⟨⟨i+1,p2,b+1,PG.set i9 ({e9 with id:=b,st:=1},L9),⟨oG.N,C2,AZ e9.r.toNat++oG.R⟩,Wc++[(⟨b,x2.sz,x2.q,u2,x2.V⟩:Wv)],A3,s+2,v7,Q++[(⟨b,xs,xq,.slice ax xV.length cx,xV⟩:Wv)]⟩,p.cz,⟨(H.pick 10 [8,5,3,4,1,2,9] Z),?_⟩,?_⟩
    ·first|exact ⟨by show i+1<=es.length;omega,by show s+2<=6+16*(i+1);omega,a7,by simp;omega,a4⟩|exact ⟨by show i+1<=es.length;omega,by show m2<=6+16*(i+1);omega,a3,by show Q.length<=i+1;omega,a2⟩|exact ⟨by show i+1<=es.length;omega,by show s<=6+16*(i+1);omega,a,by show Q.length<=i+1;omega,g⟩
    (dsimp only;omega)
   refine Zc 3 Z ?_;have c2:=a.w8;have f:=(H.pick 9 [0,1,2,3,4,5,6,7,8] Z).toWd;clear H;have H:Sep z (wdA pG b WG::blk b1 [I e.kd,I e.ci,I e.ca,I e.cc,I e.cf,I e.cs,I e.cq,.bool e.sy,.bool e.od] 28::grow 40 4 (.slice ap Q.length cp) Q.length (Bl Q)::blk pb [Y pd,Y pv,Y pG] 36::voA pv pp b ([]) (PG.map Prod.fst)::trA Tb pp s 600 oG none::AG::A::R) w:=f;clear f;refine Z2 3 [1,9] H Z (Ar Z (call17 _) (Sb U) H.f3 ?_);rintro _ w _ ⟨a1,⟨_,a9⟩,rfl,rfl⟩ H;refine Zc 10 Z (AB 15 (v:=.bool (Gu Q a1 0)) Z Z (Zc 5 Z ?_));refine AD (σ:=Nat) (λk=>[(16,I (k:Int)),(15,.bool (Gu Q a1 k)),(0,.slice ao es.length oc),(1,I c),(5,Y pb),(7,.slice ap Q.length cp),(8,I (i:Int)),(9,Y b1),(14,I a1),(28,I (i:Int)),(29,.slice ao es.length oc),(30,I (es.length:Int)),(31,.bool (decide ((i:Int)<(es.length:Int)))),(34,.slice ao es.length oc),(35,I (i:Int)),(36,GG ao (i*9)),(37,.agg #[I e.kd,I e.ci,I e.ca,I e.cc,I e.cf,I e.cs,I e.cq,.bool e.sy,.bool e.od]),(38,Y b1),(39,I e.kd),(40,I (pkI e.kd 10:Int)),(41,.bool (decide ((pkI e.kd 10:Int)=4))),(42,.bool true),(43,Y pb),(44,Y pb),(45,.pointer (some ⟨pb,2,none⟩)),(46,Y pG),(47,Y pG),(48,Y pG),(49,.slice aw WG.length cw),(50,I (WG.length:Int)),(51,.bool (decide ((0:Int)<(WG.length:Int)))),(52,.bool (decide ((0:Int)<(WG.length:Int)))),(103,Y pb),(104,.agg #[I e.kd,I e.ci,I e.ca,I e.cc,I e.cf,I e.cs,I e.cq,.bool e.sy,.bool e.od]),(105,I a1)])
     (λk w=>Sep z (blk pb [Y pd,Y pv,Y pG] 36::wdA pG b WG::blk b1 [I e.kd,I e.ci,I e.ca,I e.cc,I e.cf,I e.cs,I e.cq,.bool e.sy,.bool e.od] 28::grow 40 4 (.slice ap Q.length cp) Q.length (Bl Q)::voA pv pp b ([]) (PG.map Prod.fst)::trA Tb pp s 600 oG none::AG::A::R) w/\(k<=Q.length)) (λk=>Q.length-k) 0
     fr_z ⟨H,AeN _⟩ ?_
   clear H;rintro k w ⟨f,hI⟩;have H:=f.l8;have hk:=hI;clear hI;refine Z0 9 [0] Z (Af Z (λh4=>?_) (λh4=>?_))
   ·refine Zc 4 Z ?_;obtain ⟨y,hy⟩:∃y,Q[k]?=some y:=⟨_,Aef U⟩;have o:=(H.rv 3 (·.rd)).at (Bu hy 0 _ Z)
    refine Zc 3 Z (DR 113 Z (λh5=>?_) (λh5=>?_))
    ·refine Zc 2 Z (Ab Z (Ak Z (z:=4) (j:=k) (r:=k*4) J Z Z Z U o U) (Ab Z (Bh Z (k:=0) (r:=k*4) J Z o Z) (Ab Z (Ay Z Z J (Az o)) (Z0 5 [0] Z (AB 15 (v:=.bool (Gu Q a1 (k+1))) Z (congrArg Value.bool (XG (by assumption) hy)) (Z1 7 [] [(k:Int)+1] Z U (gf ?_)))))));intro _ p;refine ⟨(k+1),p.cz,⟨H,?_⟩,?_⟩
     ·omega
     omega
    refine Zc 10 Z (AB 15 (v:=.bool (Gu Q a1 (k+1))) Z (congrArg Value.bool (XH (by assumption))) (Z1 7 [] [(k:Int)+1] Z U (gf ?_)));intro _ p;refine ⟨(k+1),p.cz,⟨H,?_⟩,?_⟩
    ·omega
    omega
   refine Zc 2 Z (gx (Zc 8 Z (DR 124 Z (λh6=>?_) (λh6=>?_))))
   ·refine Z2 2 [0,2,0] H Z (z_E_ Z (call8 _) (F2 10 a0.1 U) H ?_);intro w H;refine Z0 4 [0] Z (Af Z (λh7=>?_) (λh7=>?_))
    ·refine Z1 9 [] [(i:Int)+1] Z U ?_;replace H:=H.f2.d.f6.f6.f3.f6.f6.f5.f6;refine gf ?_;intro _ p;refine ⟨⟨i+1,pG,b,PG,oG,WG,AG,s,.slice ap Q.length cp,Q⟩,(p.co Z (by go_num) p.cz),⟨(H.pick 7 [0,1,2,3,4,5,6] Z),?_⟩,?_⟩
     ·first|exact ⟨by show i+1<=es.length;omega,by show s+2<=6+16*(i+1);omega,a7,by simp;omega,a4⟩|exact ⟨by show i+1<=es.length;omega,by show m2<=6+16*(i+1);omega,a3,by show Q.length<=i+1;omega,a2⟩|exact ⟨by show i+1<=es.length;omega,by show s<=6+16*(i+1);omega,a,by show Q.length<=i+1;omega,g⟩
     (dsimp only;omega)
    refine Z2 6 [2,9] H Z (Ar Z (call6 _) (F3 600 PG oG WG a U _ _ _ _ _ _ _ _ _ a0.2.1 a0.2.2.1 a0.2.2.2 a0.1) H.f6.f2.f6.f6.f4 ?_);rintro _ w _ ⟨p2,nx2,P2,e5,o2,W2,A2,m2,⟨a3,rfl,d5,_,b4,b0⟩,rfl,rfl⟩ H;replace H:=H.l8;have a2:=g.does b4 b0 (by rw[<-a9];first|exact .inr U|exact .inl (JQ (k:=k) (by simp_all) U));refine Z1 18 [] [(i:Int)+1] Z U (gf ?_);intro _ p;refine ⟨⟨i+1,p2,nx2,P2,o2,W2,A2,m2,.slice ap Q.length cp,Q⟩,(p.co Z (by go_num) p.cz),⟨(H.pick 8 [6,0,1,2,3,4,7] Z),?_⟩,?_⟩
    ·first|exact ⟨by show i+1<=es.length;omega,by show s+2<=6+16*(i+1);omega,a7,by simp;omega,a4⟩|exact ⟨by show i+1<=es.length;omega,by show m2<=6+16*(i+1);omega,a3,by show Q.length<=i+1;omega,a2⟩|exact ⟨by show i+1<=es.length;omega,by show s<=6+16*(i+1);omega,a,by show Q.length<=i+1;omega,g⟩
    (dsimp only;omega)
   refine Z2 14 [2,9] H Z (Ar Z (call6 _) (F3 600 PG oG WG a U _ _ _ _ _ _ _ _ _ a0.2.1 a0.2.2.1 a0.2.2.2 a0.1) H.f6.f2.f6.f6.f4 ?_);rintro _ w _ ⟨p2,nx2,P2,e5,o2,W2,A2,m2,⟨a3,rfl,d5,_,b4,b0⟩,rfl,rfl⟩ H;replace H:=H.l8;have a2:=g.does b4 b0 (by rw[<-a9];first|exact .inr U|exact .inl (JQ (k:=k) (by simp_all) U));refine Z1 18 [] [(i:Int)+1] Z U (gf ?_);intro _ p;refine ⟨⟨i+1,p2,nx2,P2,o2,W2,A2,m2,.slice ap Q.length cp,Q⟩,(p.co Z (by go_num) p.cz),⟨(H.pick 8 [6,0,1,2,3,4,7] Z),?_⟩,?_⟩
   ·first|exact ⟨by show i+1<=es.length;omega,by show s+2<=6+16*(i+1);omega,a7,by simp;omega,a4⟩|exact ⟨by show i+1<=es.length;omega,by show m2<=6+16*(i+1);omega,a3,by show Q.length<=i+1;omega,a2⟩|exact ⟨by show i+1<=es.length;omega,by show s<=6+16*(i+1);omega,a,by show Q.length<=i+1;omega,g⟩
   (dsimp only;omega)
  refine Zc 16 Z ?_;have c2:=a.w8;have f:=(H.pick 9 [0,1,2,3,4,5,6,7,8] Z).toWd;clear H;have H:Sep z (wdA pG b WG::blk b1 [I e.kd,I e.ci,I e.ca,I e.cc,I e.cf,I e.cs,I e.cq,.bool e.sy,.bool e.od] 28::grow 40 4 (.slice ap Q.length cp) Q.length (Bl Q)::blk pb [Y pd,Y pv,Y pG] 36::voA pv pp b ([]) (PG.map Prod.fst)::trA Tb pp s 600 oG none::AG::A::R) w:=f;clear f;refine Z2 3 [1,9] H Z (Ar Z (call17 _) (Sb U) H.f3 ?_);rintro _ w _ ⟨a1,⟨_,a9⟩,rfl,rfl⟩ H;refine Zc 10 Z (AB 15 (v:=.bool (Gu Q a1 0)) Z Z (Zc 5 Z ?_));refine AD (σ:=Nat) (λk=>[(16,I (k:Int)),(15,.bool (Gu Q a1 k)),(0,.slice ao es.length oc),(1,I c),(5,Y pb),(7,.slice ap Q.length cp),(8,I (i:Int)),(9,Y b1),(14,I a1),(28,I (i:Int)),(29,.slice ao es.length oc),(30,I (es.length:Int)),(31,.bool (decide ((i:Int)<(es.length:Int)))),(34,.slice ao es.length oc),(35,I (i:Int)),(36,GG ao (i*9)),(37,.agg #[I e.kd,I e.ci,I e.ca,I e.cc,I e.cf,I e.cs,I e.cq,.bool e.sy,.bool e.od]),(38,Y b1),(39,I e.kd),(40,I (pkI e.kd 10:Int)),(41,.bool (decide ((pkI e.kd 10:Int)=4))),(42,.bool false),(52,.bool false),(103,Y pb),(104,.agg #[I e.kd,I e.ci,I e.ca,I e.cc,I e.cf,I e.cs,I e.cq,.bool e.sy,.bool e.od]),(105,I a1)])
    (λk w=>Sep z (blk pb [Y pd,Y pv,Y pG] 36::wdA pG b WG::blk b1 [I e.kd,I e.ci,I e.ca,I e.cc,I e.cf,I e.cs,I e.cq,.bool e.sy,.bool e.od] 28::grow 40 4 (.slice ap Q.length cp) Q.length (Bl Q)::voA pv pp b ([]) (PG.map Prod.fst)::trA Tb pp s 600 oG none::AG::A::R) w/\(k<=Q.length)) (λk=>Q.length-k) 0
    fr_z ⟨H,AeN _⟩ ?_
  clear H;rintro k w ⟨f,hI⟩;have H:=f.l8;have hk:=hI;clear hI;refine Z0 9 [0] Z (Af Z (λh8=>?_) (λh8=>?_))
  ·refine Zc 4 Z ?_;obtain ⟨y,hy⟩:∃y,Q[k]?=some y:=⟨_,Aef U⟩;have o:=(H.rv 3 (·.rd)).at (Bu hy 0 _ Z)
   refine Zc 3 Z (DR 113 Z (λh9=>?_) (λh9=>?_))
   ·refine Zc 2 Z (Ab Z (Ak Z (z:=4) (j:=k) (r:=k*4) J Z Z Z U o U) (Ab Z (Bh Z (k:=0) (r:=k*4) J Z o Z) (Ab Z (Ay Z Z J (Az o)) (Z0 5 [0] Z (AB 15 (v:=.bool (Gu Q a1 (k+1))) Z (congrArg Value.bool (XG (by assumption) hy)) (Z1 7 [] [(k:Int)+1] Z U (gf ?_)))))));intro _ p;refine ⟨(k+1),p.cz,⟨H,?_⟩,?_⟩
    ·omega
    omega
   refine Zc 10 Z (AB 15 (v:=.bool (Gu Q a1 (k+1))) Z (congrArg Value.bool (XH (by assumption))) (Z1 7 [] [(k:Int)+1] Z U (gf ?_)));intro _ p;refine ⟨(k+1),p.cz,⟨H,?_⟩,?_⟩
   ·omega
   omega
  refine Zc 2 Z (gx (Zc 8 Z (DR 124 Z (λi8=>?_) (λi8=>?_))))
  ·refine Z2 2 [0,2,0] H Z (z_E_ Z (call8 _) (F2 10 a0.1 U) H ?_);intro w H;refine Z0 4 [0] Z (Af Z (λg4=>?_) (λg4=>?_))
   ·refine Z1 9 [] [(i:Int)+1] Z U ?_;replace H:=H.f2.d.f6.f6.f3.f6.f6.f5.f6;refine gf ?_;intro _ p;refine ⟨⟨i+1,pG,b,PG,oG,WG,AG,s,.slice ap Q.length cp,Q⟩,(p.co Z (by go_num) p.cz),⟨(H.pick 7 [0,1,2,3,4,5,6] Z),?_⟩,?_⟩
    ·first|exact ⟨by show i+1<=es.length;omega,by show s+2<=6+16*(i+1);omega,a7,by simp;omega,a4⟩|exact ⟨by show i+1<=es.length;omega,by show m2<=6+16*(i+1);omega,a3,by show Q.length<=i+1;omega,a2⟩|exact ⟨by show i+1<=es.length;omega,by show s<=6+16*(i+1);omega,a,by show Q.length<=i+1;omega,g⟩
    (dsimp only;omega)
   refine Z2 6 [2,9] H Z (Ar Z (call6 _) (F3 600 PG oG WG a U _ _ _ _ _ _ _ _ _ a0.2.1 a0.2.2.1 a0.2.2.2 a0.1) H.f6.f2.f6.f6.f4 ?_);rintro _ w _ ⟨p2,nx2,P2,e5,o2,W2,A2,m2,⟨a3,rfl,d5,_,b4,b0⟩,rfl,rfl⟩ H;replace H:=H.l8;have a2:=g.does b4 b0 (by rw[<-a9];first|exact .inr U|exact .inl (JQ (k:=k) (by simp_all) U));refine Z1 18 [] [(i:Int)+1] Z U (gf ?_);intro _ p;refine ⟨⟨i+1,p2,nx2,P2,o2,W2,A2,m2,.slice ap Q.length cp,Q⟩,(p.co Z (by go_num) p.cz),⟨(H.pick 8 [6,0,1,2,3,4,7] Z),?_⟩,?_⟩
   ·first|exact ⟨by show i+1<=es.length;omega,by show s+2<=6+16*(i+1);omega,a7,by simp;omega,a4⟩|exact ⟨by show i+1<=es.length;omega,by show m2<=6+16*(i+1);omega,a3,by show Q.length<=i+1;omega,a2⟩|exact ⟨by show i+1<=es.length;omega,by show s<=6+16*(i+1);omega,a,by show Q.length<=i+1;omega,g⟩
   (dsimp only;omega)
  refine Z2 14 [2,9] H Z (Ar Z (call6 _) (F3 600 PG oG WG a U _ _ _ _ _ _ _ _ _ a0.2.1 a0.2.2.1 a0.2.2.2 a0.1) H.f6.f2.f6.f6.f4 ?_);rintro _ w _ ⟨p2,nx2,P2,e5,o2,W2,A2,m2,⟨a3,rfl,d5,_,b4,b0⟩,rfl,rfl⟩ H;replace H:=H.l8;have a2:=g.does b4 b0 (by rw[<-a9];first|exact .inr U|exact .inl (JQ (k:=k) (by simp_all) U));refine Z1 18 [] [(i:Int)+1] Z U (gf ?_);intro _ p;refine ⟨⟨i+1,p2,nx2,P2,o2,W2,A2,m2,.slice ap Q.length cp,Q⟩,(p.co Z (by go_num) p.cz),⟨(H.pick 8 [6,0,1,2,3,4,7] Z),?_⟩,?_⟩
  ·first|exact ⟨by show i+1<=es.length;omega,by show s+2<=6+16*(i+1);omega,a7,by simp;omega,a4⟩|exact ⟨by show i+1<=es.length;omega,by show m2<=6+16*(i+1);omega,a3,by show Q.length<=i+1;omega,a2⟩|exact ⟨by show i+1<=es.length;omega,by show s<=6+16*(i+1);omega,a,by show Q.length<=i+1;omega,g⟩
  (dsimp only;omega)
 refine Zc 2 Z (gx (Zc 9 Z ?_));refine AD (σ:=Nat) (λr=>[(18,I (r:Int)),(5,Y pb),(7,.slice ap Q.length cp)])
   (λr w=>Sep z (grow 40 4 (.slice ap Q.length cp) Q.length (Bl Q)::blk pb [Y pd,Y pv,Y pG] 36::voA pv pp b ([]) (PG.map Prod.fst)::trA Tb pp s 600 oG none::wdA pG b WG::AG::A::R) w/\(r<=Q.length)) (λr=>Q.length-r) 0
   fr_z ⟨H,AeN _⟩ ?_
 clear H;rintro r w ⟨f,hI⟩;have H:=f.l7;have hr:=hI;clear hI;refine Z0 9 [0] Z (Af Z (λi6=>?_) (λi6=>?_))
 ·refine Zc 5 Z ?_;obtain ⟨y,hy⟩:∃y,Q[r]?=some y:=⟨_,Aef U⟩;have o:=(H.rv 0 (·.rd)).at (Bu hy 0 _ Z)
  obtain ⟨j9,u9,c0⟩:=g.at hy;have d2:=(g _ (Aee hy)).1;obtain ⟨yi,ys,yq,yu,yV⟩:=y;dsimp only at c0 d2;have i0:=H.sy 5 (λq=>(d2 _ q).slc);obtain ⟨ay,cy,rfl⟩:=i0;have g8:=a.w (Aee c0);dsimp only at g8;refine Zc 5 Z ?_;refine AD (σ:=Nat) (λt=>[(19,I (t:Int)),(5,Y pb),(7,.slice ap Q.length cp),(18,I (r:Int)),(135,I (r:Int)),(136,.slice ap Q.length cp),(137,I (Q.length:Int)),(138,.bool (decide ((r:Int)<(Q.length:Int))))])
    (λt w=>Sep z (grow 40 4 (.slice ap Q.length cp) Q.length (Bl Q)::blk pb [Y pd,Y pv,Y pG] 36::voA pv pp b ([]) (PG.map Prod.fst)::trA Tb pp s 600 oG none::wdA pG b WG::AG::A::R) w/\(t<=70)) (λt=>70-t) 0
    fr_z ⟨H,U⟩ ?_
  clear H;rintro t w ⟨f,hI⟩;have H:=f.l7;have ht:=hI;clear hI;refine Zc 6 Z (Ab Z (Ak Z (z:=4) (j:=r) (r:=r*4) J Z Z Z U o U) (Ab Z (Bh Z (k:=1) (r:=r*4+1) J Z o Z) (Ab Z (Ay Z Z J (Az ((H.rv 0 (·.rd)).at (Bu hy 1 _ Z)))) (Z0 2 [0] Z (An 148 Z (λf9=>?_) (λf9=>?_))))))
  ·dsimp only at f9
   refine Z0 5 [0] Z (Af Z (λi4=>?_) (λi4=>?_))
   ·refine Zc 5 Z ?_;replace H:=H.f1;refine Bp (Sep z (blk pb [Y pd,Y pv,Y pG] 36::grow 40 4 (.slice ap Q.length cp) Q.length (Bl Q)::R)) 16 Z J (A4 H λw f=>?_)
    have H:=f.l7;refine Bv [0,1,2,3,4,5] [1,0] J (λ_ hx=>(AR (hx.blk 0 Z) AN)) (by exact H.pick 7 [0,1] Z) Z J Z Z (BG 6 J Z Z J J J Z Z Z (Ak Z (z:=4) (j:=r) (r:=r*4) J Z Z Z U o U) (H.pick 7 [0,1] Z) (BG 7 J Z Z J J J Z Z Z (Bh Z (k:=0) (r:=r*4) J Z o Z) (H.pick 7 [0,1] Z) (BG 8 J Z Z J J J Z Z Z (Ay Z Z J (λ_ hs=>(hs.rv 1 (·.rd)).at (Bu hy 0 _ Z))) (H.pick 7 [0,1] Z) (Bv [9] [] J (λ_ _=>AN) (by exact H.pick 7 [0,1] Z) Z J Z Z (AF [10] J O (Am (Bt Z Z Z Z Z Z (λw=>call13 _ w) (F0 PG Z a.inv U yi (t:Int) 1 U U) H.f3.f3 Z ?_)))))));rintro _ w _ (⟨b9,rfl,rfl⟩|⟨i9,e9,L9,⟨a8,g1,d0⟩,(⟨g0,rfl,rfl⟩|⟨g0,i1,rfl,rfl⟩)⟩) f
    ·exact (by obtain ⟨e9,c3,q1,q2⟩:=a.back c0 Z;exact absurd ⟨q1,q2⟩ (b9 e9 c3))
    ·exact (by have c9:=a.both a8 g1 c0 d0.symm;have g3:=c9.1;dsimp only at g3;exact absurd (by unfold Br;rw[if_pos ⟨Z,by omega,by omega⟩,if_pos U]) g0)
    have H:=f.l8;have c9:=(a.both a8 g1 c0 d0.symm).2.2;dsimp only at c9;rw[<-c9,JP] at H;have j0:=H.sy 0 (·.slc);refine Au (λ_=>(H.pick 8 [3,4] Z)) (Bv [11,12,13,14] [] J (λ_ _=>AN) (by exact H.pick 8 [3,4] Z) Z J Z Z (AF [15] J O (Am (Ct Z Z Z Z (Bf Z Z) (Au (λh=>absurd Z h) (Bo J (gn (Zc 2 Z ?_))))))));replace H:=H.f4;refine AQ (Sep z (grow 40 4 (.slice ap Q.length cp) Q.length (Bl Q)::grow 5 1 i1 ((BU (t:Int) yV).length) ((BU (t:Int) yV).map u8)::R)) 13 Z J (A4 H λw f=>?_);have H:=f.l8;refine AT [0,1,2,3] [4] [] (by exact H.pick 8 [0,1] Z) Z J Z (BM 4 Z J J J Z Z Z (Ch (l:=BU (t:Int) yV) Z J J Z (λ_ hs=>hs.rv 1 (·.rd))) (H.pick 8 [0,1] Z) (AT [5,6] [] [] (by exact H.pick 8 [0,1] Z) Z J Z (BM 7 Z J J J Z Z Z (Ak Z (z:=4) (j:=r) (r:=r*4) J Z Z Z U o U) (H.pick 8 [0,1] Z) (BM 8 Z J J J Z Z Z (Bq Z Z (vs:=[I yi,I ys,I yq,.slice ay yV.length cy]) J O (λ_ hs k' u hk=>(hs.rv 0 (·.rd)).at (Bu hy k' u hk))) (H.pick 8 [0,1] Z) (AT [9] [] [] (by exact H.pick 8 [0,1] Z) Z J Z (AE [10] J O (Am (Bt Z Z Z Z Z Z (λw=>call14 _ w) (O5 d2) H.f6 Z ?_))))))));rintro _ w _ ⟨rfl,rfl⟩ H;replace H:=H.l8;refine Ax (H.pick 8 [1,2] Z) (BM 11 Z J J J Z Z Z (IR (l:=BU (t:Int) yV) (m:=BU (t:Int) yV) Z J Z Z) (H.pick 8 [1,2] Z) (AT [12] [] [] (by exact H.pick 8 [1,2] Z) Z J Z (a_done J (gn (Zc 1 Z (Af Z (λb7=>?_) (λb7=>?_)))))))
    ·first|exact absurd rfl b7
    refine Z1 8 [] [(t:Int)+1] Z U ?_;replace H:=H.f2.d.f6.f1.f6.f5.f5.f6.f6;refine gf ?_;intro _ p;refine ⟨(t+1),p.cz,⟨H,?_⟩,?_⟩
    ·omega
    omega
   refine Zc 2 Z (gx (Z1 8 [] [(r:Int)+1] Z U (gf ?_)));intro _ p;refine ⟨(r+1),p.cz,⟨H,?_⟩,?_⟩
   ·omega
   omega
  refine Zc 8 Z (gx (Z1 8 [] [(r:Int)+1] Z U (gf ?_)));intro _ p;refine ⟨(r+1),p.cz,⟨H,?_⟩,?_⟩
  ·omega
  omega
 refine Zc 2 Z (gx (Zc 3 Z ?_));replace H:=(((H.pick 7 [3,6] Z).trTab).2).l2;refine Zc 1 Z (z_E_ Z (call7 _) (WT Tb hT) H ?_);intro w H;refine Zc 4 Z (Zr Z ?_);exact ⟨_,⟨Z,Z⟩,H.pick 2 [1,0] Z⟩
end
section
open Go.ChangeShapes Go.WideShapes Go.ChangeAt Go.RowKit Go.Joins
theorem own:ownKnob prog.godebug=none:=by kernel_rfl
theorem Aav:laidOutB prog=true:=by kernel_rfl
theorem DO:prog.cellsOf 3=1:=by kernel_rfl
def Np:DataW Unit->List Value
 | .lit (.int k n)=>[.int k n]
 | .agg parts=>flatWs parts
 | _=>[]
where flatWs:List (DataW Unit)->List Value
 | []=>[]
 | d::ds=>Np d++flatWs ds
def WU:Obj->Obj
 | .cells c t frozen=>.cells (if c.size=32 then (Np Rows.laid_unicode_utf8_acceptRanges).toArray else if c.size=64 then (Np Rows.laid_math_bits_deBruijn64tab).toArray else (Np Rows.laid_unicode_utf8_first).toArray) t frozen
 | o=>o
noncomputable def Jj(os:Os):World:=
 {World.holding prog os ⟨#[],#[],[]⟩ with heap:=(((World.holding prog os ⟨#[],#[],[]⟩).heap.modify 0 WU).modify 1 WU).modify 2 WU}
theorem JY{α:Type}(P:Nat->α->Prop):∀n,(∀i,i<n->∃a,P i a)->∃l:List α,l.length=n/\∀i a,l[i]?=some a->P i a
 | 0,_=>⟨[],Z,λi a h=>by simp at h⟩
 | n+1,h=>by
  obtain ⟨l,hl,hp⟩:=JY P n (λi hi=>h i U);obtain ⟨a,d⟩:=h n U;refine ⟨l++[a],by simp[hl],λi b c=>?_⟩;rcases Aes i n with q|q
  ·rw[Aeo U] at c;exact hp i b c
  rw[Aeu U] at c;obtain rfl:i=n:=by have:=(Aed.1 c).1;simp at this;omega
  simp[hl] at c;subst c;exact d
abbrev Adr(x:Int):Prop:= -9223372036854775808<=x/\x<=9223372036854775807
theorem Lq(h:(Lit.int .i64 t).wf=true):Adr t:=by
 simp only[Lit.wf,AeE,decide_eq_true_eq] at h;have a:IntKind.i64.min= -9223372036854775808:=by decide
 have b:IntKind.i64.max=9223372036854775807:=by decide
 rw[a,b] at h;exact h
theorem WV{H:Type}(d:DataW H):1<=Rows.uptoBulk d:=by
 cases d with
 | lit l=>cases l<;>simp[Rows.uptoBulk]
 | nil=>simp[Rows.uptoBulk]
 | ptr d=>simp[Rows.uptoBulk]
 | slice elems spare=>simp[Rows.uptoBulk]
 | agg parts=>simp[Rows.uptoBulk]
 | iface t d=>simp[Rows.uptoBulk]
 | map entries=>simp[Rows.uptoBulk]
 | held h=>simp[Rows.uptoBulk]
theorem WW{H:Type}(l:List (DataW H)):l.length<=Rows.uptoBulkAll l:=by
 induction l with
 | nil=>simp
 | cons x r ih=>have:=WV x;simp only[Rows.uptoBulkAll,Aei];omega
theorem Pr:prog.cellsOf 28=9:=by kernel_rfl
theorem Aaw{H:Type}{enc:TypeId×Value->H}{d:DataW H}{p:List MemPlace}(h:DataW.trod enc prog z 0 (λ_=>true) true m 28 V=some (d,p)):
  ∃e:ClE,V=ClE.cells e/\e.In:=by
 obtain ⟨xs,n,rfl,hx,t,o,b⟩:=DataW.trod_struct underlying28 h;rw[Pr] at t
 match V,t with
 | [c0,c1,c2,c3,c4,c5,c6,c7,c8],_=>
  have f0:=b 0 _ Z;have r:=b 1 _ Z;have c:=b 2 _ Z;have g:=b 3 _ Z;have i:=b 4 _ Z;have q:=b 5 _ Z;have f:=b 6 _ Z;have k:=b 7 _ Z;have j:=b 8 _ Z
  match xs,o with
  | [y0,y1,y2,y3,y4,y5,y6,y7,y8],_=>
   have a:prog.cellsOf 4=1:=by kernel_rfl
   try dsimp only at f0
   try simp only[DO,a,Aew,Ae5,Ae7,AfG,AeT,AeA] at f0
   try dsimp only at r
   try simp only[DO,a,Aew,Ae5,Ae7,AfG,AeT,AeA] at r
   try dsimp only at c
   try simp only[DO,a,Aew,Ae5,Ae7,AfG,AeT,AeA] at c
   try dsimp only at g
   try simp only[DO,a,Aew,Ae5,Ae7,AfG,AeT,AeA] at g
   try dsimp only at i
   try simp only[DO,a,Aew,Ae5,Ae7,AfG,AeT,AeA] at i
   try dsimp only at q
   try simp only[DO,a,Aew,Ae5,Ae7,AfG,AeT,AeA] at q
   try dsimp only at f
   try simp only[DO,a,Aew,Ae5,Ae7,AfG,AeT,AeA] at f
   try dsimp only at k
   try simp only[DO,a,Aew,Ae5,Ae7,AfG,AeT,AeA] at k
   try dsimp only at j
   try simp only[DO,a,Aew,Ae5,Ae7,AfG,AeT,AeA] at j
   obtain ⟨z0,e0,_,w0⟩:=Ags underlying3 f0;obtain ⟨z1,e1,_,w1⟩:=Ags underlying3 r;obtain ⟨z2,e2,_,w2⟩:=Ags underlying3 c;obtain ⟨z3,e3,_,w3⟩:=Ags underlying3 g;obtain ⟨z4,e4,_,w4⟩:=Ags underlying3 i;obtain ⟨z5,e5,_,w5⟩:=Ags underlying3 q;obtain ⟨z6,e6,_,w6⟩:=Ags underlying3 f;obtain ⟨z7,e7,_⟩:=DataW.trod_bool underlying4 k;obtain ⟨z8,e8,_⟩:=DataW.trod_bool underlying4 j;have g0:=congrArg (λl=>l.headD .nilFunc) e0
   try simp at g0
   subst g0;have g1:=congrArg (λl=>l.headD .nilFunc) e1
   try simp at g1
   subst g1;have s:=congrArg (λl=>l.headD .nilFunc) e2
   try simp at s
   subst s;have u:=congrArg (λl=>l.headD .nilFunc) e3
   try simp at u
   subst u;have v:=congrArg (λl=>l.headD .nilFunc) e4
   try simp at v
   subst v;have w:=congrArg (λl=>l.headD .nilFunc) e5
   try simp at w
   subst w;have y:=congrArg (λl=>l.headD .nilFunc) e6
   try simp at y
   subst y;have g7:=congrArg (λl=>l.headD .nilFunc) e7
   try simp at g7
   subst g7;have x:=congrArg (λl=>l.headD .nilFunc) e8
   try simp at x
   subst x;exact ⟨⟨z0,z1,z2,z3,z4,z5,z6,z7,z8⟩,Z,Lq w0,Lq w2,Lq w3,Lq w4⟩
theorem Ra:∀(es:List ClE) (k:Nat) (u:Value),(Ih es)[k]?=some u->∃e,es[k/9]?=some e/\(ClE.cells e)[k%9]?=some u
 | [],k,u,h=>by simp[Ih] at h
 | x::es,k,u,h=>by
  have hl:(ClE.cells x).length=9:=rfl;simp only[Ih,AeJ] at h;rcases Aes k 9 with q|q
  ·rw[Aeo U] at h
   exact ⟨x,by rw[AgI q];rfl,by rw[AfC q];exact h⟩
  rw[Aeu U,hl] at h;obtain ⟨e,a,b⟩:=Ra es (k-9) u h;refine ⟨e,?_,?_⟩
  ·rw[show k/9=(k-9)/9+1 from by omega];simpa using a
  rw[show k%9=(k-9)%9 from by omega];exact b
theorem WX{H:Type}{enc:TypeId×Value->H}{d:DataW H}{p:List MemPlace}(h:DataW.trod enc prog z 0 (λ_=>true) true m 22 [v]=some (d,p)):
  ∃es:List ClE,Rd 9 v es.length (Ih es) z/\(∀e∈es,e.In)/\es.length<=Rows.uptoBulk d:=by
 rcases DataW.trod_slice underlying22 h with ⟨f,_⟩|⟨a,a2,a1,c,rest,n,rfl,f,hx,_,a7,a3,a5,hg,_,_⟩
 ·simp only[Ag4,and_true] at f;subst f
  exact ⟨[],by simpa [Ih] using Rd.nil 9 z,λe w=>absurd w O,by simp⟩
 simp only[Ag4,and_true] at f;subst f;have hd:d=.slice (c.map (·.1)) (rest.map (·.1)):=by have:=congrArg Prod.fst hx;simpa using this
 obtain ⟨es,q,x⟩:=JY (λi (e:ClE)=>(∀j,j<9->z.cell? ((a.add (i*9)).add j)=(ClE.cells e)[j]?)/\e.In) a2 (λi hi=>by
  have hb:=hg i hi;rw[Pr] at hb;obtain ⟨y,hy⟩:∃y,c[i]?=some y:=⟨_,Aef U⟩;rw[hy,Option.bind_eq_some_iff] at hb;obtain ⟨cs,s,ht⟩:=hb;obtain ⟨e,rfl,r⟩:=Aaw (d:=y.1) (p:=y.2) ht;exact ⟨e,(World.cells?_some s).2.2,r⟩)
 refine ⟨es,⟨some a,a1,by rw[q],by omega,(by unfold maxLen at a3;omega),by rw[Aau],λk u hk=>?_⟩,λe w=>?_,?_⟩
 ·obtain ⟨e,r,h2⟩:=Ra _ k u hk
  have s:=(x _ e r).1 (k%9) (Nat.mod_lt _ U);rw[h2] at s;obtain ⟨b,g,l⟩:=a;have o:l=none:=by
   have a6:=(Aed.1 r).1;obtain ⟨t,a4⟩:∃t,es[0]?=some t:=⟨_,Aef U⟩;have a0:=(x _ t a4).1 0 U;have h0:z.cell? ⟨b,g,l⟩=some (.int .i64 t.kd):=by simpa [Addr.add,ClE.cells] using a0
   exact World.cell?_spot h0
  subst o;refine ⟨b,g,Z,?_⟩;unfold FH;have e2:((Addr.add ⟨b,g,none⟩ (k/9*9)).add (k%9))=⟨b,g+k,none⟩:=by
   rw[Go.WideShapes.add_plain,Go.WideShapes.add_plain];congr 1;omega
  rw[<-e2];exact s
 ·obtain ⟨i,hi⟩:=Ae4 w
  exact (x i e hi).2
 rw[q,hd];have:=WW (c.map (·.1));simp only[Rows.uptoBulk,Aeh] at this ⊢;omega

theorem AcG:prog.globalNamed "math/bits.deBruijn64tab"=some 0:=by kernel_rfl
theorem WY:(prog.globals[0]?).map (·.type)=some 306:=by kernel_rfl
theorem Aax:prog.cellsOf 306=64:=by kernel_rfl
theorem Aay:prog.cellsOf 5=1:=by kernel_rfl
def tzL:List Int:=Lib.deBruijn64tab.map Int.ofNat
theorem Sc(h:laidMetH prog Rows.volumesPastUptoRow.laid z):Lib.TabIs prog z "math/bits.deBruijn64tab" .u8 tzL:=
 Lib.tabIs_of_head (rest:=[("unicode/utf8.acceptRanges",Rows.laid_unicode_utf8_acceptRanges),("unicode/utf8.first",Rows.laid_unicode_utf8_first)]) AcG WY underlying306 underlying5 Aay Aax h
theorem Mr{W:World}(h:Lib.TabIs prog W "math/bits.deBruijn64tab" .u8 tzL):∃t a,W.heap[0]?=some (.cells (tzL.map λz=>Value.int .u8 z).toArray t a):=by
 unfold Lib.TabIs World.var? at h;rw[AcG] at h;simp only[AgX] at h
 cases e:W.heap[0]? with
 | none=>rw[e] at h;cases h
 | some o=>
  rw[e] at h;cases o<;>simp at h;subst h;exact ⟨_,_,Z⟩
def JR(W:World):Ai:=λh=>∀k,k<W.heap.size->k≠0->h k=W.heap[k]?
def Ps(W:World):Ai:=λh=>h 0=W.heap[0]?
theorem AcH:(List.range 64).all (λj=>tzL[j]? == some ((SY j).toNat:Int))=true:=by decide+kernel
theorem Ads(f:Lib.TabIs prog z "math/bits.deBruijn64tab" .u8 tzL):Ht (Ps z):=λh a j b=>by
 obtain ⟨t,c,e⟩:=Mr f;have:=Af3.1 AcH j (AfS.2 b);have d:tzL[j]?=some ((SY j).toNat:Int):=by simpa using this
 exact ⟨_,t,c,(show h 0=_ from a).trans e,by simp[d,u8]⟩
theorem Aaz(a:Lib.TabIs prog z "math/bits.deBruijn64tab" .u8 tzL):0<z.heap.size:=by
 obtain ⟨t,b,e⟩:=Mr a;rcases AgU z.heap.size with q|q
 ·rw[Ae2 U] at e;cases e
 exact q
theorem Ul{W:World}(i:Lib.TabIs prog W "math/bits.deBruijn64tab" .u8 tzL)(a:FH n m v W)(j:∀x,v≠ .int .u8 x):∀h,JR W h->celH h n m v:=λh f=>by
 have b:n≠0:=λe=>by
  subst e;obtain ⟨t,d,e⟩:=Mr i;unfold FH World.cell? at a;rw[e] at a;simp at a;obtain ⟨z,_,g⟩:=a;exact j _ g.symm
 unfold FH World.cell? at a
 cases hh:W.heap[n]? with
 | none=>rw[hh] at a;simp at a
 | some o'=>
  rw[hh] at a
  cases o' with
  | cells cs ty d=>
   simp at a;have c:n<W.heap.size:=by
    rcases Aes n W.heap.size with q|q
    ·exact q
    rw[Ae2 q] at hh;cases hh
   exact ⟨cs,ty,d,(f n c b).trans hh,a⟩
  | _=>simp at a
theorem WZ(t:Lib.TabIs prog z "math/bits.deBruijn64tab" .u8 tzL)(r:Rd m v n V z)(i:∀u∈V,∀x,u≠ .int .u8 x):∀h,JR z h->rdH m v n V h:=λh q=>by
 obtain ⟨f,c,e,d,s,k,o⟩:=r;exact ⟨f,c,e,d,s,k,λj u a=>by
  obtain ⟨b,p,l,g⟩:=o j u a;exact ⟨b,p,l,Ul t g (i u (Aee a)) h q⟩⟩
theorem Adt{es:List ClE}:∀u∈Ih es,∀x,u≠ .int .u8 x:=λu b x=>by
 simp only[Ih,Agi] at b;obtain ⟨e,_,a⟩:=b;simp[ClE.cells] at a;rcases a with rfl|rfl|rfl|rfl|rfl|rfl|rfl|rfl|rfl<;>simp
theorem Rb{o:Obj}(e:h.part C i n=some o):h n=some o:=by
 unfold Hp.part at e;split at e
 ·exact e
 cases e
theorem Cn.run2{P:Program}{f:FuncId}{args:List Value}{W:World}(n:0<W.heap.size)(h:Cn P f args [JR W,Ps W] (λv G=>v=u/\G=[JR W,Ps W])):Calls P f args.toArray W (Ret λv W'=>v=u/\Ext No W W'):=by
 have j:Sep W [JR W,Ps W] W:=⟨Z,Z,Z,λq=>if q=0 then 1 else 0,λi A a=>by
  match i,a with
  | 0,a=>cases a;intro k c e;simp[Hp.part,hp,e]
  | 1,a=>cases a;show Hp.part _ _ _ 0=_;simp[Hp.part,hp]⟩
 refine Ret.mono (h W [] W j) ?_;rintro v W' ⟨Γ,⟨rfl,rfl⟩,H⟩;obtain ⟨own,b⟩:=H.own;have l:=b 0 _ Z;have m:=b 1 _ Z;have d:∀k,k<W.heap.size->hp W' k=W.heap[k]? :=λk c=>by
  obtain ⟨o,g⟩:∃o,W.heap[k]?=some o:=⟨_,AgP c⟩;rw[g];by_cases q:k=0
  ·subst q;exact Rb ((show _=_ from m).trans g)
  exact Rb ((l k c q).trans g)
 have H2:Sep W [base W] W':=⟨H.os,H.tape,H.output,λk=>if k<W.heap.size then 0 else 1,λi A a=>by
  match i,a with
  | 0,a=>cases a;intro k c;unfold Hp.part;rw[if_pos (by simp[c])];exact d k c⟩
 exact ⟨Z,Sep.done 0 H2 Z⟩
section
variable{H:Type}{enc:TypeId×Value->H}{P:Program}{w:World}{base:Nat}{spare:Nat->Bool}{held:Bool}
end
section
variable{H:Type}{enc:TypeId×Value->H}{P:Program}{w:World}{base:Nat}{spare:Nat->Bool}{held:Bool}
theorem Adu{t1:TypeId}{args:Array Value}{ds:List (DataW H)}{ps:List MemPlace}(h:DataW.TrodAll enc P w base spare held [T,t1] args.toList ds ps):
  ∃v0 c a d1 b d,args= #[v0,c]/\ds=[a,d1]/\ps=b++d/\DataW.Trod enc P w base spare held T v0 a b/\DataW.Trod enc P w base spare held t1 c d1 d:=by
 obtain ⟨v0,k,a,n,b,o,g,rfl,rfl,j,e⟩:=trodAll_cons h;obtain ⟨c,m,d1,l,d,p,rfl,rfl,rfl,i,f⟩:=trodAll_cons e;obtain ⟨rfl,rfl,rfl⟩:=trodAll_nil f;exact ⟨v0,c,a,d1,b,d,by cases args;simp_all,Z,by simp,j,i⟩
theorem AaA{t1:TypeId}{b d1:DataW H}{a c:List MemPlace}(d:DataW.Trod enc P w base spare held T v b a)(e:DataW.Trod enc P w base spare held t1 u d1 c):DataW.TrodAll enc P w base spare held [T,t1] [v,u] [b,d1] (a++c):=
 ⟨a,_,d,(trodAll_mk1 e),Z⟩
end
section
variable{H:Type}{enc:TypeId×Value->H}{P:Program}{w:World}{base:Nat}{spare:Nat->Bool}{held:Bool}
end
end
open Go.ChangeShapes Go.WideShapes Go.ChangeAt Go.RowKit Go.Joins
theorem AaB(a:Os):laidMet prog Rows.volumesPastUptoRow.laid ((Jj a).forCall (λ_ _=>0) ⟨#[],#[.slice none 0 0,.int .i64 0],[]⟩).memory:=
 laidMet_of_run' 8 J J
theorem Um(b:Os){H:Type}(enc:TypeId×Value->H):∃a,DataW.whole enc prog ((Jj b).forCall (λ_ _=>0) ⟨#[],#[.slice none 0 0,.int .i64 0],[]⟩).memory f4.params.toList Rows.volumesPastSpec.vars false #[Value.slice none 0 0,.int .i64 0].toList 8=some ([.nil,.lit (.int .i64 0)],[],a):=
 ⟨[],by kernel_rfl⟩
theorem vpa_contract(H:Type)(enc:TypeId×Value->H)(W:World)(base:Nat)(args:Array Value)(ds w:List (DataW H))(b:List MemPlace)
  (a:∀(j:Nat) t v,f4.params[j]?=some t->args[j]?=some v->Value.okWide prog W .any base t v)
  (y:DataW.Whole enc prog f4.params.toList Rows.volumesPastSpec.vars false W args.toList ds w b)(hk:Rows.uptoSmall H (ds++w)=true)(l:laidMetH prog Rows.volumesPastUptoRow.laid W):
  Calls prog 4 args W λe W'=>∃v,e=.returned v/\Rows.volumesPastSpec.post enc prog f4 false true false false W args v W':=by
 have c:=y;obtain ⟨p,q,m,hV,rfl,_,_⟩:=y;have r:DataW.TrodAll enc prog W 0 (λ_=>true) true f4.params.toList args.toList ds p:=m;rw[params4] at r a;obtain ⟨v0,v1,d0,d1,p0,p1,rfl,rfl,rfl,z,h1⟩:=Adu r;obtain ⟨rfl,rfl⟩:=trodVars_none hV;simp only[AeY] at c hk;have t0:∀x∈p0,x.block<W.heap.size:=λx hx=>by have:=c.lt x (by simp[hx]);simpa using this
 have hb:Rows.uptoBulkAll [d0,d1]<=1048576:=of_decide_eq_true hk;simp only[Rows.uptoBulkAll] at hb;obtain ⟨a0,l0,c0,rfl⟩:=okWide_slice underlying22 (a 0 22 v0 Z Z);obtain ⟨o,k⟩:=id z;obtain ⟨n,i,d,g⟩:=WX (h:=k);obtain ⟨i1,rfl,rfl,rfl,f⟩:=open_int underlying3 (a 1 3 v1 Z Z) h1;refine (Cn.run2 (Aaz (Sc l)) (Nh i1 (Lq f) (JR W) (Ps W) (Ads (Sc l)) n U (λh hh=>⟨WZ (Sc l) i (Adt) h hh,d⟩))).mono λe W' s=>?_;obtain ⟨u,rfl,rfl,x⟩:∃u,e=Ending.returned u/\u=.bool true/\Ext No W W':=by cases e<;>first|exact ⟨_,rfl,s⟩|exact s.elim
 exact ⟨_,rfl,_,_,_,[],_,[],c,trodAll_mk1 (shut_bool underlying4 true),AaA (Below.trod Aav J (of_decide_eq_true J) z x.below t0) (shut_int underlying3 f),rfl,x.below.frame _,λh=>by cases h⟩
theorem Sd(d:Os)(a:d.Started)(H:Type)(enc:TypeId×Value->H)(F:Stop.Interp):
  ReturnsInHanded {} checked d 4 .any ((Rows.OpenSpec.upto Rows.volumesPastSpec).preRow enc prog f4 Rows.volumesPastUptoRow.domain false Rows.volumesPastUptoRow.laid) (((Rows.OpenSpec.upto Rows.volumesPastSpec).at F).post enc prog f4 false true false false):=by
 obtain ⟨f,i⟩:=Um d enc;refine returnsInHanded_of_row (C:=checked) (s:=Rows.OpenSpec.upto Rows.volumesPastSpec) own a J func4
  (witness_row_at (enc:=enc) (C:=checked) false (Jj d) #[.slice none 0 0,.int .i64 0] Z J J J
   (OpenSpec.preRow_of_cond 8 i J (λk j=>by cases j;kernel_rfl) J (AaB d))) ?_
 intro W base args ds l b e g _ c _ h _ _;exact vpa_contract H enc W base args ds l b e g (c _ Z) h
theorem vpa_j1:(Rows.volumesPastUptoRow.inPlace==Tryz.pinned.checked.prog.inPlace 4)=true:=by kernel_rfl
theorem AcI:(Rows.volumesPastUptoRow.unfollowed==Tryz.pinned.checked.prog.unfollowed 4)=true:=by kernel_rfl
theorem AcJ:(Rows.volumesPastUptoRow.recurses==Tryz.pinned.checked.prog.recurses 4)=true:=by kernel_rfl
theorem AcK:(Rows.volumesPastUptoRow.named==Tryz.pinned.checked.prog.varsNamed 4)=true:=by kernel_rfl
theorem AcL:joinedFacts Tryz.pinned.checked.prog 4 f4 (Rows.OpenSpec.upto Rows.volumesPastSpec).bare Rows.volumesPastUptoRow=true:=by
 unfold joinedFacts;rw[vpa_j1,AcI,AcJ,AcK]
 kernel_rfl
theorem W0:Rows.VolumesPastUptoSaid:=
 OpenClaim.holds_of_cond 4 f4 Z Z Z Z Z Z Z ⟨Z,Z,Z,Z,Z⟩ Z Z Z Z Z J func4 AcL
  (of_decide_eq_true J) (by unfold Func.isWrapper;first|(rw[if_pos (by decide+kernel)];kernel_rfl)|(rw[if_neg (by decide+kernel)];exact ⟨rfl,rfl⟩))
  (λb a H enc _ F=>by rw[OpenClaim.pre_eq_preRow];exact Sd b a H enc F)
theorem Un(f:FuncId)(b:Func)(e:Tryz.pinned.checked.prog.funcNamed "polder/polderlaw15.VolumesPast"=some f)(a:Tryz.pinned.checked.prog.funcs[f]?=some b):
  false=Tryz.pinned.checked.prog.looks []/\∀(j:Nat) t,b.params[j]?=some t->Tryz.pinned.checked.prog.wantsStandIn t=false:=by
 obtain rfl:f=4:=Agd ((show prog.funcNamed "polder/polderlaw15.VolumesPast"=some 4 by kernel_rfl).symm.trans e) |>.symm;obtain rfl:b=f4:=(Agd (func4.symm.trans a)).symm;refine ⟨by kernel_rfl,λj t d=>?_⟩;rw[params4] at d;have c:=Array.mem_of_getElem? d;simp at c;rcases c with rfl|rfl<;>first|exact (show prog.wantsStandIn 22=false by kernel_rfl)|exact (show prog.wantsStandIn 3=false by kernel_rfl)
theorem volumesPast_holds:Rows.VolumesPastUptoCardSaid:=
 Claim7.holds_tied_plain_at .later [] _ _ _ _ W0 (λ_ h=>by cases h) J (λ_ h=>by cases h) volumesPastUpto_row_tie Z ⟨Z,Z⟩ J Z Un J
end Go.Proofs.YtemljpjnhjnncaaGreatDoor
