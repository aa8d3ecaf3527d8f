/-
  Steps to: No page that is in use is taken, none twice No condition.
-/
import Derived.Test.YthbbejpbkglmlaaGreatDoorPart1
set_option maxRecDepth 100000
set_option linter.unusedSimpArgs false
set_option linter.unusedVariables false
open Go.Proofs.Tryz
namespace Go.Proofs.YthbbejpbkglmlaaGreatDoor
open Go.RowKit
section
def Tg(c:List UInt8)(e q:Int):Prop:=(Hv c/\B7 c=e/\B8 c=q)\/(Ib c/\Fa c=e/\Fb c=q)
theorem Tx:¬Ib (List.replicate 256 0):=λh=>by
 have:=h.2.1.1;revert this;decide
theorem Ty(e q:Int):¬Tg (List.replicate 256 0) e q:=by
 rintro (⟨h,_⟩|⟨h,_⟩)
 ·exact Lk h
 exact Tx h
theorem IY{c:List UInt8}(h:Hv c)(g:Ib c):False:=by
 have b:=h.1.2;have a:=g.2.1.2;have:c.take 1=[80]:=by
  have:=congrArg (List.take 1) b;rwa[Acq] at this
 rw[this] at a;revert a;decide
variable{e q:Int}{ims:List Img}
theorem rec_cases{p:Nat}{c:List UInt8}(hp:(Bo e q ims)[p]?=some c):(p=0/\c=sect (Bv e q ims))\/∃j m,p=j+1/\ims[j]?=some m/\c=sect (Bk e q m):=by
 cases p with
 | zero=>simp[Bo] at hp;exact .inl ⟨Z,hp.symm⟩
 | succ j=>
  simp only[Bo,Ab4,AbY,Adq] at hp;obtain ⟨m,b,a⟩:=hp;exact .inr ⟨j,m,Z,b,a.symm⟩
theorem Oq(k:1<=ims.length/\ims.length<=40)(g:∀m∈ims,m.Ok)(r:0<=e/\e<4294967296)(hq:0<=q/\q<1099511627776){p:Nat}{c:List UInt8}(hp:(Bo e q ims)[p]?=some c){l n:Int}(h:Tg c l n):l=e/\n=q:=by
 rcases rec_cases hp with ⟨rfl,rfl⟩|⟨j,m,rfl,s,rfl⟩
 ·have o:=Zh k (e:=e) (sq:=q) U U g
  rcases h with ⟨_,f,i⟩|⟨f,_⟩
  ·exact ⟨f.symm.trans (Py k.2 U),i.symm.trans (Pz k.2 U)⟩
  exact (IY o f).elim
 obtain ⟨a,b,d,_⟩:=JY (g m (AbG s)) r hq;rcases h with ⟨f,_⟩|⟨_,f,i⟩
 ·exact (IY f a).elim
 exact ⟨f.symm.trans b,i.symm.trans d⟩

def secs(e:Int)(rs:List Rc):List (List UInt8):=rs.flatMap λr=>Bo e r.seq r.ims
theorem EK(e:Int)(rs a:List Rc):secs e (rs++a)=secs e rs++secs e a:=by simp[secs]
theorem Jh(e:Int)(r:Rc):secs e [r]=Bo e r.seq r.ims:=by simp[secs]
theorem Fp(e q:Int)(ims:List Img):(Bo e q ims).length=1+ims.length:=by simp[Bo];omega
theorem JZ(e:Int){rs:List Rc}{j:Nat}{r:Rc}(h:rs[j]?=some r):secs e rs=secs e (rs.take j)++Bo e r.seq r.ims++secs e (rs.drop (j+1)):=by
 have a:=(AbE.1 h).1;have:rs=rs.take j++[r]++rs.drop (j+1):=by
  rw[<-(AbE.1 h).2,List.take_append_getElem a,AcC]
 conv=>lhs;rw[this]
 rw[EK,EK,Jh]
theorem Tz{e:Int}{rs:List Rc}{c:List UInt8}(h:c∈secs e rs):∃(j:Nat) (r:Rc) (p:Nat),rs[j]?=some r/\(Bo e r.seq r.ims)[p]?=some c:=by
 obtain ⟨r,a,d⟩:=AdL.1 h;obtain ⟨j,b⟩:=Ack a;obtain ⟨p,hp⟩:=Ack d;exact ⟨j,r,p,b,hp⟩

def CQ(D:Dsk)(n:Nat)(c:List UInt8):Prop:=c=D.dur n\/c∈D.ver n
def Abs(s:Sup)(c:List UInt8):Prop:=∀e q,Tg c e q->e<s.epoch\/(e=s.epoch/\q<s.seq)
structure PInv(D:Dsk)(s:Sup)(rs:List Rc)(pt:List (List UInt8))(a q u:Int)(b:Bool)(sure:Nat):Prop where
 fa:a=(s.head+u)%s.len
 fq:q=s.seq+rs.length+(if b then 1 else 0)
 fu:u=((secs s.epoch rs).length:Int)
 ul:u<=s.len
 pb:b=false->pt=[]
 part:pt=[]\/∃ims k,((1<=ims.length/\ims.length<=40)/\(∀m∈ims,m.Ok))/\pt=(Bo s.epoch (s.seq+rs.length) ims).take k/\k<1+ims.length/\u+(1+(ims.length:Int))<=s.len
 recs:∀(j:Nat) (r:Rc),rs[j]?=some r->r.seq=s.seq+j/\(1<=r.ims.length/\r.ims.length<=40)/\∀m∈r.ims,m.Ok
 old:∀i:Nat,(i:Int)<s.len->∀c,CQ D (ringAt s (s.head+i)) c->Abs s c\/(secs s.epoch rs++pt)[i]?=some c
 last:∀(i:Nat) (c:List UInt8),(secs s.epoch rs++pt)[i]?=some c->D.cont (ringAt s (s.head+i))=c
 dura:∀(i:Nat) (c:List UInt8),(secs s.epoch (rs.take sure))[i]?=some c->D.dur (ringAt s (s.head+i))=c/\D.ver (ringAt s (s.head+i))=[]
 sure:sure<=rs.length
structure SOk(s:Sup):Prop where
 start:0<=s.start
 head:0<=s.head/\s.head<s.len
 epoch:0<=s.epoch/\s.epoch<4294967296
 seq:0<=s.seq
theorem PInv.f{D D':Dsk}{s:Sup}{rs:List Rc}{pt:List (List UInt8)}{a q u:Int}{b:Bool}{sure:Nat}(h:PInv D s rs pt a q u b sure)(g:D'.dur=D.dur)(e:D'.ver=D.ver):PInv D' s rs pt a q u b sure:=
 ⟨h.fa,h.fq,h.fu,h.ul,h.pb,h.part,h.recs,λi j c d=>h.old i j c (by unfold CQ at d ⊢;rwa[g,e] at d),λi c d=>by have:=h.last i c d;unfold Dsk.cont at this ⊢;rw[g,e];exact this,
  λi c d=>by rw[g,e];exact h.dura i c d,h.sure⟩
theorem Ms{s:Sup}(a:0<s.len)(h x:Int):∃i:Nat,(i:Int)<s.len/\ringAt s x=ringAt s (h+i):=by
 have b:=Adg (x-h) (by omega:s.len≠0);have c:=AcU (x-h) a;refine ⟨((x-h)%s.len).toNat,by omega,?_⟩;unfold ringAt;rw[Int.toNat_of_nonneg b,Int.add_emod_emod];congr 3;omega
theorem PInv.tags{D:Dsk}{s:Sup}{rs:List Rc}{pt:List (List UInt8)}{a q u:Int}{b:Bool}{sure:Nat}(h:PInv D s rs pt a q u b sure)(hs:SOk s)(hq:q<=1099511627776){i:Nat}(v:(i:Int)<s.len){c:List UInt8}(x:CQ D (ringAt s (s.head+i)) c){f t:Int}(l:Tg c f t):f<s.epoch\/(f=s.epoch/\t<q):=by
 have d:=h.fq;have w:=hs.seq;rcases h.old i v c x with g|g
 ·rcases g _ _ l with g|⟨z,g2⟩
  ·exact .inl g
  refine .inr ⟨z,?_⟩;split at d<;>omega
 rcases Acd.1 (AbG g) with g|g
 ·obtain ⟨j,r,p,o,hp⟩:=Tz g
  obtain ⟨n,e,m⟩:=h.recs j r o;have y:=(AbE.1 o).1;have:=Oq e m hs.epoch (by split at d<;>omega) hp l;exact .inr ⟨this.1,by split at d<;>omega⟩
 rcases h.part with rfl|⟨ims,k,⟨n,e⟩,rfl,m,_⟩
 ·cases g
 cases b with
 | false=>have:=h.pb Z;rw[this] at g;cases g
 | true=>
  rw[if_pos Z] at d;obtain ⟨p,hp⟩:=Ack g;rw[Acn] at hp;split at hp
  ·have:=Oq n e hs.epoch U hp l
   exact .inr ⟨this.1,by omega⟩
  cases hp
theorem PInv.drop{D:Dsk}{s:Sup}{rs:List Rc}{pt:List (List UInt8)}{a q u:Int}{b:Bool}{sure:Nat}(h:PInv D s rs pt a q u b sure)(hs:SOk s)(hq:q<=1099511627776){d:Sup}(w:d.start=s.start)(n:d.len=s.len)(t:d.epoch=s.epoch)(v:d.head=a)(k:d.seq=q)(h0:0<=d.len)(l:0<=d.head/\d.head<d.len):PInv D d [] [] a q 0 false 0:=by
 have o:0<s.len:=by have:=hs.head;omega
 refine ⟨?_,by rw[k];simp,by simp[secs],by omega,λ_=>rfl,.inl Z,λj r h=>by simp at h,λi y c g=>.inl λe q x=>?_,λi c h=>by simp[secs] at h,λi c h=>by simp[secs] at h,Ab9 _⟩
 ·rw[AeF,<-v,AcG l.1 l.2]
 have m:ringAt d (d.head+i)=ringAt s (d.head+i):=by unfold ringAt;rw[w,n]
 rw[m] at g;obtain ⟨z,f,p⟩:=Ms o s.head (d.head+i);rw[p] at g;have:=h.tags hs hq f g x;rw[t,k];exact this
def Dsk.fl(D:Dsk):Dsk:= {D with dur:=D.cont,ver:=λ_=>[],f3:=AZ D.f3,left:=max 0 (D.left-1)}
theorem cont_has(D:Dsk)(n:Nat):CQ D n (D.cont n):=by
 unfold CQ Dsk.cont
 cases hl:(D.ver n).getLast? with
 | none=>exact .inl Z
 | some p=>exact .inr (List.mem_of_getLast? hl)
theorem fl_has{D:Dsk}{n:Nat}{c:List UInt8}(h:CQ D.fl n c):CQ D n c:=by
 rcases h with rfl|h
 ·exact cont_has D n
 cases h
theorem PInv.flush{D:Dsk}{s:Sup}{rs:List Rc}{pt:List (List UInt8)}{a q u:Int}{b:Bool}{sure:Nat}(h:PInv D s rs pt a q u b sure):PInv D.fl s rs pt a q u b rs.length:=
 ⟨h.fa,h.fq,h.fu,h.ul,h.pb,h.part,h.recs,λi e c d=>h.old i e c (fl_has d),λi c d=>h.last i c d,
  λi c d=>⟨h.last i c (by rw[AcB] at d;rw[AbU (AbE.1 d).1];exact d),Z⟩,Ab9 _⟩

theorem ws_dur(ps:List (List UInt8)):∀(D:Dsk) (x:Nat),(D.ws false x ps).dur=D.dur:=by
 induction ps with
 | nil=>intro D x;rfl
 | cons p ps ih=>intro D x;simp only[Dsk.ws];rw[ih];rfl
theorem ws_mem(ps:List (List UInt8)):∀(D:Dsk) (x i:Nat) (c:List UInt8),c∈(D.ws false x ps).ver i->c∈D.ver i\/(x<=i/\ps[i-x]?=some c):=by
 induction ps with
 | nil=>intro D x i c h;exact .inl h
 | cons p ps ih=>
  intro D x i c h;simp only[Dsk.ws] at h;rcases ih _ _ _ _ h with h|⟨b,a⟩
  ·have h:c∈(BE D.ver x (D.ver x++[p])) i:=h
   unfold BE at h;split at h
   ·rename_i e;subst e
    rcases Acd.1 h with h|h
    ·exact .inl h
    simp at h;subst h;exact .inr ⟨Ab9 _,by simp⟩
   exact .inl h
  exact .inr ⟨by omega,by rw[show i-x=(i-(x+1))+1 from by omega,Ab4];exact a⟩
theorem wr_has{D:Dsk}{x i:Nat}{ps:List (List UInt8)}{c:List UInt8}(h:CQ (D.wr x ps) i c):CQ D i c\/(x<=i/\ps[i-x]?=some c):=by
 rcases h with rfl|h
 ·exact .inl (.inl (congrFun (ws_dur ps {D with f2:=AZ D.f2} x) i))
 rcases ws_mem ps {D with f2:=AZ D.f2} x i c h with h|h
 ·exact .inl (.inr h)
 exact .inr h
theorem app_has{D:Dsk}{s:Sup}{a:Int}{k:Nat}{ps:List (List UInt8)}(hs:0<=s.start)(g:0<=a/\a<s.len)(i:(ps.length:Int)<=s.len)(l:(k:Int)=min (ps.length:Int) (s.len-a)){n:Nat}{c:List UInt8}(h:CQ (EJ D s a k ps) n c):CQ D n c\/∃j:Nat,ps[j]?=some c/\n=ringAt s (a+j):=by
 have d:∀{n:Nat} {c:List UInt8},CQ (D.wr (s.start+a).toNat (ps.take k)) n c->CQ D n c\/∃j:Nat,ps[j]?=some c/\n=ringAt s (a+j):=λ{n c} h=>by
  rcases wr_has h with h|⟨e,b⟩
  ·exact .inl h
  rw[Acn] at b;split at b
  ·exact .inr ⟨_,b,by rw[ring_low hs g.1 U];omega⟩
  cases b
 unfold EJ at h;split at h
 ·rcases wr_has h with h|⟨e,b⟩
  ·exact d h
  rw[AcH] at b;have f:=(AbE.1 b).1;exact .inr ⟨_,b,by rw[ring_high hs U U];omega⟩
 exact d h
theorem F7(D:Dsk)(x:Nat)(ps:List (List UInt8))(j:Nat)(h:j<x\/x+ps.length<=j):(D.wr x ps).ver j=D.ver j:=Dsk.ws_ver false ps {D with f2:=AZ D.f2} x j h
theorem NU{D:Dsk}{s:Sup}{a:Int}{k:Nat}{ps:List (List UInt8)}(hs:0<=s.start)(d:0<=a/\a<s.len)(f:(ps.length:Int)<=s.len)(e:(k:Int)=min (ps.length:Int) (s.len-a)){i:Nat}(b:∀j:Nat,j<ps.length->i≠ringAt s (a+j)):(EJ D s a k ps).ver i=D.ver i:=by
 have c:(D.wr (s.start+a).toNat (ps.take k)).ver i=D.ver i:=by
  refine F7 _ _ _ _ ?_;rw[AbM];rcases AbX i (s.start+a).toNat with g|g
  ·exact .inl g
  rcases AbX (i-(s.start+a).toNat) (min k ps.length) with q|q
  ·exact absurd (by rw[ring_low hs d.1 U];omega) (b (i-(s.start+a).toNat) U)
  exact .inr U
 unfold EJ;split
 ·refine (F7 _ _ _ _ ?_).trans c
  rw[Acc];rcases AbX i s.start.toNat with g|g
  ·exact .inl g
  rcases AbX (i-s.start.toNat) (ps.length-k) with q|q
  ·exact absurd (by rw[ring_high hs U U];omega) (b (k+(i-s.start.toNat)) U)
  exact .inr U
 exact c
theorem PInv.at_ok{D:Dsk}{s:Sup}{rs:List Rc}{pt:List (List UInt8)}{a q u:Int}{b:Bool}{sure:Nat}(h:PInv D s rs pt a q u b sure)(hs:SOk s):0<=a/\a<s.len:=by
 have:=hs.head;rw[h.fa];exact ⟨Adg _ U,AcU _ U⟩
theorem PInv.ring{D:Dsk}{s:Sup}{rs:List Rc}{pt:List (List UInt8)}{a q u:Int}{b:Bool}{sure:Nat}(h:PInv D s rs pt a q u b sure)(j:Nat):ringAt s (a+j)=ringAt s (s.head+(((secs s.epoch rs).length+j:Nat):Int)):=by
 have c:=h.fu;rw[h.fa,Jg];congr 1;omega
theorem PInv.app{D:Dsk}{s:Sup}{rs:List Rc}{pt:List (List UInt8)}{a q u:Int}{sure:Nat}(h:PInv D s rs pt a q u false sure)(hs:SOk s){k:Nat}(hl:1<=ims.length/\ims.length<=40)(x:∀m∈ims,m.Ok)(hr:1+(ims.length:Int)<=s.len-u)(hk:(k:Int)=min (1+(ims.length:Int)) (s.len-a)):
  PInv (EJ D s a k (Bo s.epoch q ims)) s (rs++[⟨q,ims⟩]) [] ((a+(1+(ims.length:Int)))%s.len) (q+1) (u+(1+(ims.length:Int))) false sure:=by
 obtain rfl:=h.pb Z;have t:=h.at_ok hs;have hu:=h.fu;have hq:=h.fq;rw[if_neg (by decide)] at hq;have p:=Fp s.epoch q ims;have l:(k:Int)=min ((Bo s.epoch q ims).length:Int) (s.len-a):=by rw[p];omega
 have n:(secs s.epoch (rs++[⟨q,ims⟩]))=secs s.epoch rs++Bo s.epoch q ims:=by rw[EK,Jh]
 have f:∀i:Nat,(i:Int)<s.len->i<(secs s.epoch rs).length->∀j:Nat,j<(Bo s.epoch q ims).length->ringAt s (s.head+i)≠ringAt s (a+j):=λi w a1 j d e=>by
  rw[h.ring] at e;have:=Hx hs.start hs.head w U e;omega
 refine ⟨?_,by simp;omega,by rw[n,AbH,p];omega,by omega,λ_=>rfl,.inl Z,λj r d=>?_,λi w c b=>?_,λi c b=>?_,λi c b=>?_,by have:=h.sure;simp;omega⟩
 ·rw[h.fa,Aew,Int.add_assoc]
 ·rcases AbX j rs.length with g|g
  ·rw[AbU g] at d;exact h.recs j r d
  rw[AbT g] at d;have:j=rs.length:=by have:=(AbE.1 d).1;simp at this;omega
  subst this;simp at d;subst d;exact ⟨by dsimp only;omega,hl,x⟩
 ·rw[Acw,n]
  rcases app_has hs.start t U l b with b|⟨j,d,v⟩
  ·rcases h.old i w c b with g|g
   ·exact .inl g
   rw[Acw] at g;exact .inr (by rw[AbU (AbE.1 g).1];exact g)
  have a0:=(AbE.1 d).1;rw[h.ring] at v;have:=Hx hs.start hs.head w U v;subst this;exact .inr (by rw[AbT U,AcV];exact d)
 ·rw[Acw,n] at b
  rcases AbX i (secs s.epoch rs).length with g|g
  ·rw[AbU g] at b
   rw[app_old hs.start t U l (f i U g)];exact h.last i c (by rw[Acw];exact b)
  rw[AbT g] at b;have:=WX (D:=D) hs.start t U l b;rw[h.ring,show (secs s.epoch rs).length+(i-(secs s.epoch rs).length)=i from by omega] at this;exact this
 rw[AbR h.sure] at b;have o:i<(secs s.epoch rs).length:=by
  have h1:=(AbE.1 b).1;have h2:(secs s.epoch rs).length=(secs s.epoch (rs.take sure)).length+(secs s.epoch (rs.drop sure)).length:=by
   rw[<-AbH,<-EK,AcC]
  omega
 obtain ⟨h1,h2⟩:=h.dura i c b;have a2:∀c',CQ (EJ D s a k (Bo s.epoch q ims)) (ringAt s (s.head+i)) c'->CQ D (ringAt s (s.head+i)) c':=λc' y=>by
  rcases app_has hs.start t U l y with g|⟨j,d,v⟩
  ·exact g
  exact (f i U o j (AbE.1 d).1 v).elim
 have hd:(EJ D s a k (Bo s.epoch q ims)).dur=D.dur:=by
  unfold EJ;split
  ·exact (ws_dur _ _ _).trans (ws_dur _ {D with f2:=AZ D.f2} _)
  exact ws_dur _ {D with f2:=AZ D.f2} _
 refine ⟨by rw[hd];exact h1,?_⟩;have z:=NU (D:=D) hs.start t U l (f i U o);rw[z];exact h2
end
section
variable{e q:Int}{ims:List Img}

theorem PInv.fail0{D:Dsk}{s:Sup}{rs:List Rc}{pt:List (List UInt8)}{a q u:Int}{sure:Nat}(h:PInv D s rs pt a q u false sure):PInv D.wf s rs [] a (q+1) u true sure:=by
 obtain rfl:=h.pb Z;have hq:=h.fq;rw[if_neg (by decide)] at hq;exact ⟨h.fa,by rw[if_pos Z];omega,h.fu,h.ul,λg=>(by cases g),.inl Z,h.recs,λi d c b=>h.old i d c b,λi c b=>h.last i c b,λi c b=>h.dura i c b,h.sure⟩
theorem PInv.fail1{D:Dsk}{s:Sup}{rs:List Rc}{pt:List (List UInt8)}{a q u:Int}{sure:Nat}(h:PInv D s rs pt a q u false sure)(hs:SOk s){k:Nat}(hl:1<=ims.length/\ims.length<=40)(z:∀m∈ims,m.Ok)(hr:1+(ims.length:Int)<=s.len-u)(hk:(k:Int)=min (1+(ims.length:Int)) (s.len-a))(a1:k<1+ims.length):
  PInv (Dsk.wf (D.wr (s.start+a).toNat ((Bo s.epoch q ims).take k))) s rs ((Bo s.epoch q ims).take k) a (q+1) u true sure:=by
 obtain rfl:=h.pb Z;have ha:=h.at_ok hs;have hu:=h.fu;have hq:=h.fq;rw[if_neg (by decide)] at hq;have a2:=Fp s.epoch q ims;have f:((Bo s.epoch q ims).take k).length=k:=by rw[AbM];omega
 have d:∀j:Nat,j<k->(s.start+a).toNat+j=ringAt s (s.head+(((secs s.epoch rs).length+j:Nat):Int)):=λj o=>by
  rw[<-h.ring,ring_low hs.start ha.1 U]
 have v:∀{n:Nat} {c:List UInt8},CQ (Dsk.wf (D.wr (s.start+a).toNat ((Bo s.epoch q ims).take k))) n c->CQ D n c\/∃j:Nat,((Bo s.epoch q ims).take k)[j]?=some c/\n=ringAt s (s.head+(((secs s.epoch rs).length+j:Nat):Int)):=λ{n c} g=>by
  rcases wr_has (D:=D) (x:=(s.start+a).toNat) (ps:=(Bo s.epoch q ims).take k) g with g|⟨g1,w⟩
  ·exact .inl g
  have o:=(AbE.1 w).1;rw[f] at o;exact .inr ⟨_,w,by rw[<-d _ o];omega⟩
 have p:∀i:Nat,i<(secs s.epoch rs).length->ringAt s (s.head+i)<(s.start+a).toNat\/(s.start+a).toNat+((Bo s.epoch q ims).take k).length<=ringAt s (s.head+i):=λi t=>by
  rw[f];rcases AbX (ringAt s (s.head+i)) (s.start+a).toNat with g|g
  ·exact .inl g
  rcases AbX (ringAt s (s.head+i)) ((s.start+a).toNat+k) with w|w
  ·have:=d (ringAt s (s.head+i)-(s.start+a).toNat) U
   have:=Hx (i:=i) (j:=(secs s.epoch rs).length+(ringAt s (s.head+i)-(s.start+a).toNat)) hs.start hs.head U U U;omega
  exact .inr w
 have r:∀i:Nat,i<(secs s.epoch rs).length->(Dsk.wf (D.wr (s.start+a).toNat ((Bo s.epoch q ims).take k))).ver (ringAt s (s.head+i))=D.ver (ringAt s (s.head+i)):=λi t=>F7 D _ _ _ (p i t);have l:(Dsk.wf (D.wr (s.start+a).toNat ((Bo s.epoch q ims).take k))).dur=D.dur:=ws_dur ((Bo s.epoch q ims).take k) {D with f2:=AZ D.f2} _;have a0:q=s.seq+rs.length:=by omega
 refine ⟨h.fa,by rw[if_pos Z];omega,h.fu,h.ul,λg=>(by cases g),.inr ⟨ims,k,⟨hl,z⟩,by rw[<-a0],a1,by omega⟩,h.recs,λi t c b=>?_,λi c b=>?_,λi c b=>?_,h.sure⟩
 ·rcases v b with b|⟨j,o,hn⟩
  ·rcases h.old i t c b with g|g
   ·exact .inl g
   rw[Acw] at g;exact .inr (by rw[AbU (AbE.1 g).1];exact g)
  have e:=(AbE.1 o).1;rw[f] at e;have:=Hx hs.start hs.head t U hn;subst this;exact .inr (by rw[AbT U,AcV];exact o)
 ·rcases AbX i (secs s.epoch rs).length with g|g
  ·rw[AbU g] at b
   have:=h.last i c (by rw[Acw];exact b);unfold Dsk.cont at this ⊢;rw[r i g,l];exact this
  rw[AbT g] at b;have e:=(AbE.1 b).1;rw[f] at e;have e1:=d (i-(secs s.epoch rs).length) e;rw[show (secs s.epoch rs).length+(i-(secs s.epoch rs).length)=i from by omega] at e1;rw[<-e1];show (D.wr _ _).cont _=c;rw[wr_cont,if_pos U,AcV,b];rfl
 have y:i<(secs s.epoch rs).length:=by
  have h1:=(AbE.1 b).1;have h2:(secs s.epoch rs).length=(secs s.epoch (rs.take sure)).length+(secs s.epoch (rs.drop sure)).length:=by
   rw[<-AbH,<-EK,AcC]
  omega
 obtain ⟨h1,h2⟩:=h.dura i c b;exact ⟨by rw[l];exact h1,by rw[r i y];exact h2⟩

structure Crashed(D D':Dsk):Prop where
 n:D'.n=D.n
 ver:∀i,D'.ver i=[]
 dur:∀i,CQ D i (D'.dur i)
theorem Crashed.cont{D D':Dsk}(h:Crashed D D')(n:Nat):D'.cont n=D'.dur n:=by unfold Dsk.cont;rw[h.ver];rfl
theorem PInv.reads{D D':Dsk}{s:Sup}{rs:List Rc}{pt:List (List UInt8)}{a q u:Int}{b:Bool}{sure:Nat}(h:PInv D s rs pt a q u b sure)(d:Crashed D D'){i:Nat}(e:(i:Int)<s.len){c:Int}(hq:s.seq<=c)(f:Tg (D'.cont (ringAt s (s.head+i))) s.epoch c):(secs s.epoch rs++pt)[i]?=some (D'.cont (ringAt s (s.head+i))):=by
 rcases h.old i e (D'.cont (ringAt s (s.head+i))) (by rw[d.cont];exact d.dur _) with g|g
 ·have:=g _ _ f
  omega
 exact g
theorem PInv.one{D D':Dsk}{s:Sup}{rs:List Rc}{pt:List (List UInt8)}{a q u:Int}{b:Bool}{sure:Nat}(h:PInv D s rs pt a q u b sure)(hs:SOk s)(hc:Crashed D D')(hq:q<=1099511627776){n:Nat}(hn:n<=rs.length){a' i l:Int}(hu:l=((secs s.epoch (rs.take n)).length:Int))(ha:a'=(s.head+l)%s.len)(a5:i=s.seq+n)
  (a0:nextP (CM D' s a') s.epoch i (s.len-l) ims):∃r,rs[n]?=some r/\r=⟨i,ims⟩:=by
 obtain ⟨x,n2,n3,n4,n5,n6,n7⟩:=a0;have hF:∀j:Nat,CM D' s a' j=D'.cont (ringAt s (s.head+(((secs s.epoch (rs.take n)).length+j:Nat):Int))):=λj=>by
  show D'.cont (ringAt s (a'+j))=_;rw[ha,Jg];congr 2;omega
 have a2:=x.2.2.2.1;have rd:∀j:Nat,j<=Bp (CM D' s a' 0)->Tg (CM D' s a' j) s.epoch i->(secs s.epoch rs++pt)[(secs s.epoch (rs.take n)).length+j]?=some (CM D' s a' j):=λj e ht=>by
  rw[hF] at ht ⊢;exact h.reads hc U U ht
 have c:=rd 0 U (.inl ⟨x,n2,n3⟩);have hi:∀j:Nat,j<Bp (CM D' s a' 0)->(secs s.epoch rs++pt)[(secs s.epoch (rs.take n)).length+(1+j)]?=some (CM D' s a' (1+j)):=λj e=>by
  obtain ⟨g1,g2,g3,_⟩:=n6 j e;exact rd (1+j) U (.inr ⟨g1,g2,g3⟩)
 have w:=h.fq;have a3:=hs.seq;rcases AbX n rs.length with a1|hge
 ·have t:rs[n]?=some rs[n]:=AbF a1
  obtain ⟨r1,r2,r3⟩:=h.recs n _ t;refine ⟨_,t,?_⟩;have z:=JZ s.epoch t;have hp:=Fp s.epoch rs[n].seq rs[n].ims;have g:∀j:Nat,j<1+rs[n].ims.length->(secs s.epoch rs++pt)[(secs s.epoch (rs.take n)).length+j]? =(Bo s.epoch rs[n].seq rs[n].ims)[j]? :=λj e=>by
   rw[z,AbK,AbK,AbT U,AcV,AbU U]
  have e0:=g 0 U;rw[c] at e0;have f:CM D' s a' 0=sect (Bv s.epoch rs[n].seq rs[n].ims):=by
   simp[Bo] at e0;exact e0
  have hC:Bp (CM D' s a' 0)=rs[n].ims.length:=by rw[f,Mp r2.2]
  have d:nextP (CM D' s a') s.epoch rs[n].seq (s.len-l) rs[n].ims:=by
   refine Mr r2 r3 hs.epoch (by split at w<;>omega) U λj p e=>?_;have a4:=(AbE.1 e).1
   cases j with
   | zero=>have:=g 0 U;rw[c,e] at this;exact AdV this
   | succ j=>
    have h1:=hi j U;rw[Ady 1 j] at h1;have:=g (j+1) U;rw[h1,e] at this;exact AdV this
  have m:nextP (CM D' s a') s.epoch i (s.len-l) ims:=⟨x,n2,n3,n4,n5,n6,n7⟩;have e1:rs[n].seq=i:=by omega
  rw[e1] at d;have e2:=Tw m d;rw[e2,<-e1]
 have v:n=rs.length:=by omega
 subst v;rw[AcB] at c hi;rw[AbT U,Aee,AeE] at c;rcases h.part with rfl|⟨o,k,⟨p1,p2⟩,rfl,p3,p4⟩
 ·simp at c
 have y:0<k:=by
  have:=(AbE.1 c).1;rw[AbM] at this;omega
 rw[Acn,if_pos y] at c;have f:CM D' s a' 0=sect (Bv s.epoch (s.seq+rs.length) o):=by
  simp[Bo] at c;exact c.symm
 have hC:Bp (CM D' s a' 0)=o.length:=by rw[f,Mp p1.2]
 have:=hi (k-1) U;rw[AbT U,show (secs s.epoch rs).length+(1+(k-1))-(secs s.epoch rs).length=k from by omega,Acn,if_neg U] at this;cases this
theorem PInv.begins{D D':Dsk}{s:Sup}{rs:List Rc}{pt:List (List UInt8)}{a q u:Int}{b:Bool}{sure:Nat}(h:PInv D s rs pt a q u b sure)(hs:SOk s)(o:Crashed D D')(hq:q<=1099511627776){c:List Rc}{a' j f:Int}(r:Runs D' s s.head s.seq 0 c a' j f):c.length<=rs.length/\c=rs.take c.length/\f=((secs s.epoch c).length:Int)/\a'=(s.head+f)%s.len/\j=s.seq+c.length:=by
 have d:=r.pos hs.head;refine (λ(g:c.length<=rs.length/\c=rs.take c.length/\f=((secs s.epoch c).length:Int))=>⟨g.1,g.2.1,g.2.2,d.1,d.2.1⟩) ?_;clear d
 induction r with
 | nil=>exact ⟨by simp,by simp,by simp[secs]⟩
 | @snoc a' j f c ims r hlt hn ih=>
  have d:=r.pos hs.head;obtain ⟨n,k,m⟩:=ih;obtain ⟨p,e,i⟩:=h.one hs o hq n (by rw[<-k];exact m) d.1 d.2.1 hn;have l:=(AbE.1 e).1;refine ⟨by simp;omega,?_,?_⟩
  ·rw[AbH,AdJ,AbZ,<-k,e,i];rfl
  rw[EK,AbH,Jh,Fp];dsimp only;omega
theorem PInv.read{D D':Dsk}{s:Sup}{rs:List Rc}{pt:List (List UInt8)}{a q u:Int}{b:Bool}{sure:Nat}(h:PInv D s rs pt a q u b sure)(hs:SOk s)(t:Crashed D D')(hq:q<=1099511627776){c:List Rc}{a' l k:Int}(r:Runs D' s s.head s.seq 0 c a' l k)(e:s.len<=k\/∀ims,¬nextP (CM D' s a') s.epoch l (s.len-k) ims):sure<=c.length/\c.length<=rs.length/\c=rs.take c.length:=by
 obtain ⟨g1,g2,g3,g4,g5⟩:=h.begins hs t hq r;refine ⟨?_,g1,g2⟩;rcases AbX c.length sure with w|hge
 ·exfalso
  have a3:=h.sure;have m:=h.fq;have a1:=hs.seq;obtain ⟨d,x⟩:∃d,rs[c.length]?=some d:=⟨_,AbF U⟩;obtain ⟨r1,r2,r3⟩:=h.recs _ _ x;have n:(rs.take sure)[c.length]?=some d:=by rw[Acn,if_pos w];exact x
  have i:=JZ s.epoch n;have hp:=Fp s.epoch d.seq d.ims;have f:(rs.take sure).take c.length=c:=by rw[Acq,Acm U];exact g2.symm
  have a4:(secs s.epoch (rs.take sure)).length<=(secs s.epoch rs).length:=by
   have h2:(secs s.epoch rs).length=(secs s.epoch (rs.take sure)).length+(secs s.epoch (rs.drop sure)).length:=by
    rw[<-AbH,<-EK,AcC]
   omega
  have z:(secs s.epoch c).length+(1+d.ims.length)<=(secs s.epoch (rs.take sure)).length:=by
   rw[i,f,AbH,AbH];omega
  have hu:=h.fu;have a0:=h.ul;have o:nextP (CM D' s a') s.epoch l (s.len-k) d.ims:=by
   have e1:l=d.seq:=by omega
   rw[e1];refine Mr r2 r3 hs.epoch (by split at m<;>omega) U λj p y=>?_;have a2:=(AbE.1 y).1;have v:(secs s.epoch (rs.take sure))[(secs s.epoch c).length+j]?=some p:=by
    rw[i,f,AbK,AbT U,AcV,AbU U];exact y
   obtain ⟨d1,d2⟩:=h.dura _ _ v;show D'.cont (ringAt s (a'+j))=p;rw[g4,Jg,show s.head+k+(j:Int)=s.head+(((secs s.epoch c).length+j:Nat):Int) from by omega,t.cont];rcases t.dur (ringAt s (s.head+(((secs s.epoch c).length+j:Nat):Int))) with g|g
   ·rw[g,d1]
   rw[d2] at g;cases g
  rcases e with g|g
  ·omega
  exact g _ o
 exact hge
end
structure Pg where
 kind:Int
 body:List UInt8
def Pg.Ok(p:Pg):Prop:=(1<=p.kind/\p.kind<=5)/\p.body.length=240
def C5:Pg:=⟨0,[]⟩
def GU(n:Nat)(p:Pg):List UInt8:=[80,80,65,71]++Af 1 p.kind++Af 4 (n:Int)++[0,0,0]++p.body
theorem Fq{n:Nat}{p:Pg}(h:p.Ok):(GU n p).length=252:=by simp[GU,Ae,h.2]
def DF(n:Nat)(p:Pg):List UInt8:=sect (GU n p)
theorem DA{n:Nat}{p:Pg}(h:p.Ok):(DF n p).length=256:=sect_len (AcO (Fq h))
def HomeP(c:List UInt8)(n:Nat)(p:Pg):Prop:=(c=List.replicate 256 0/\p=C5)\/(p.Ok/\c=DF n p)
theorem Mt{n:Nat}{p:Pg}(h:p.Ok):(DF n p).take 4=[80,80,65,71]:=by
 have a:=Fq (n:=n) h;have:=BM (l:=GU n p) U (p:=0) (k:=4) U;rw[Ab1,Ab1] at this;unfold DF;rw[this];rfl
theorem IZ{n:Nat}{p:Pg}(h:p.Ok):DF n p≠List.replicate 256 0:=λe=>by
 have:=Mt (n:=n) h;rw[e] at this;exact absurd this (by decide)
def Hy(x:Sup):List UInt8:=[80,83,85,80]++x.list.flatMap (Af 8)
theorem Ao(x:Sup):(Hy x).length=60:=by simp[Hy,Sup.list,Ae]
def BC(x:Sup):List UInt8:=sect (Hy x)
theorem DL(x:Sup):(BC x).length=256:=sect_len (by rw[Ao];omega)
def DB(m:Img):Pg:=⟨m.kind,m.body⟩
theorem Fs{m:Img}(h:m.Ok):(DB m).Ok:=⟨h.2.1,h.2.2⟩
abbrev A0:=Nat->Option Pg
def pgSet(f:A0)(n:Nat)(p:Pg):A0:=λi=>if i=n then some p else f i
def CD:A0:=λ_=>none
def GM(f g:A0):A0:=λi=>(g i).or (f i)
def Ek(f:A0)(ims:List Img):A0:=ims.foldl (λf m=>pgSet f m.num.toNat (DB m)) f
def ov(rs:List Rc):A0:=rs.foldl (λf r=>Ek f r.ims) CD
theorem ID(rs:List Rc)(r:Rc):ov (rs++[r])=Ek (ov rs) r.ims:=by simp[ov,Ac4]
def pgMap(f:A0)(B:Nat->Pg):Nat->Pg:=λi=>(f i).getD (B i)
theorem TA(f:A0)(ims:List Img)(m:Img):Ek f (ims++[m])=pgSet (Ek f ims) m.num.toNat (DB m):=by simp[Ek,Ac4]
theorem Or(ims:List Img):∀(f:A0) (n:Nat),(Ek f ims n).isSome=((f n).isSome||ims.any λm=>decide (m.num.toNat=n)):=by
 induction ims with
 | nil=>intro f n;simp[Ek]
 | cons m ims ih=>
  intro f n;have:Ek f (m::ims)=Ek (pgSet f m.num.toNat (DB m)) ims:=rfl;rw[this,ih];unfold pgSet;by_cases h:n=m.num.toNat
  ·subst h;simp
  have a:¬m.num.toNat=n:=λe=>h e.symm;simp[h,a]
theorem ovI_get{f:A0}{ims:List Img}{n:Nat}{p:Pg}(h:Ek f ims n=some p):f n=some p\/∃m∈ims,m.num.toNat=n/\p=DB m:=by
 induction ims generalizing f with
 | nil=>exact .inl h
 | cons m ims ih=>
  have e:Ek f (m::ims)=Ek (pgSet f m.num.toNat (DB m)) ims:=rfl;rw[e] at h;rcases ih h with g|⟨c,d,a,b⟩
  ·unfold pgSet at g
   split at g
   ·rename_i e;cases g;exact .inr ⟨m,by simp,e.symm,Z⟩
   exact .inl g
  exact .inr ⟨c,by simp[d],a,b⟩
theorem J0:∀(k:Nat) (rs:List Rc),rs.length=k->∀{n:Nat} {p:Pg},ov rs n=some p->∃r∈rs,∃m∈r.ims,m.num.toNat=n/\p=DB m:=by
 intro k
 induction k with
 | zero=>intro rs d n p h;obtain rfl:=Adl.1 d;cases h
 | succ k ih=>
  intro rs d n p h;obtain ⟨c,r,rfl⟩:∃c r,rs=c++[r]:=⟨rs.dropLast,rs.getLast (by intro e;subst e;simp at d),(List.dropLast_concat_getLast (by intro e;subst e;simp at d)).symm⟩;rw[ID] at h;rcases ovI_get h with g|⟨m,j,f,i⟩
  ·obtain ⟨l,a,b⟩:=ih c (by simpa using d) g;exact ⟨l,by simp[a],b⟩
  exact ⟨r,by simp,m,j,f,i⟩
def hwD(D:Dsk)(l:List (Nat×Pg)):Dsk:=l.foldl (λD x=>D.wr (2+x.1) [DF x.1 x.2]) D
theorem TB(D:Dsk)(l:List (Nat×Pg))(x:Nat×Pg):hwD D (l++[x])=(hwD D l).wr (2+x.1) [DF x.1 x.2]:=by simp[hwD,Ac4]
theorem hwD_cons(D:Dsk)(l:List (Nat×Pg))(x:Nat×Pg):hwD D (x::l)=hwD (D.wr (2+x.1) [DF x.1 x.2]) l:=rfl
theorem Re(D:Dsk)(x:Nat)(ps:List (List UInt8)):(D.wr x ps).dur=D.dur:=ws_dur ps {D with f2:=AZ D.f2} x
theorem EL(l:List (Nat×Pg)):∀D:Dsk,(hwD D l).n=D.n:=by
 induction l with
 | nil=>intro D;rfl
 | cons x l ih=>intro D;rw[hwD_cons,ih,Dsk.wr_n]
theorem J1(l:List (Nat×Pg)):∀D:Dsk,(hwD D l).dur=D.dur:=by
 induction l with
 | nil=>intro D;rfl
 | cons x l ih=>intro D;rw[hwD_cons,ih,Re]
theorem hw_has(l:List (Nat×Pg)):∀(D:Dsk) (i:Nat) (c:List UInt8),CQ (hwD D l) i c->CQ D i c\/∃x∈l,i=2+x.1/\c=DF x.1 x.2:=by
 induction l with
 | nil=>intro D i c h;exact .inl h
 | cons x l ih=>
  intro D i c h;rw[hwD_cons] at h;rcases ih _ _ _ h with g|⟨y,e,b,d⟩
  ·rcases wr_has g with g|⟨f,a⟩
   ·exact .inl g
   have:i-(2+x.1)=0:=by
    have:=(AbE.1 a).1;simp at this;omega
   rw[this] at a;simp at a;exact .inr ⟨x,by simp,by omega,a.symm⟩
  exact .inr ⟨y,by simp[e],b,d⟩
theorem J2(l:List (Nat×Pg)):∀(D:Dsk) (i:Nat),(∀x∈l,i≠2+x.1)->(hwD D l).ver i=D.ver i:=by
 induction l with
 | nil=>intro D i _;rfl
 | cons x l ih=>
  intro D i h;rw[hwD_cons,ih _ _ (λy a=>h y (by simp[a]))];refine F7 _ _ _ _ ?_;have:=h x O;simp only[AbI,AbO];omega
theorem hw_cont_out(l:List (Nat×Pg))(D:Dsk)(i:Nat)(h:∀x∈l,i≠2+x.1):(hwD D l).cont i=D.cont i:=by
 unfold Dsk.cont;rw[J2 l D i h,J1]
theorem V2(l:List (Nat×Pg)):∀(D:Dsk),(l.map Prod.fst).Nodup->∀x∈l,(hwD D l).cont (2+x.1)=DF x.1 x.2:=by
 induction l with
 | nil=>intro D _ x h;cases h
 | cons y l ih=>
  intro D b x a;rw[hwD_cons];simp only[Aca,AcZ] at b;rcases Acb.1 a with rfl|a
  ·rw[hw_cont_out]
   ·rw[wr_cont,if_pos (Ab9 _),AeE];rfl
   intro z c e;exact b.1 (AbP.2 ⟨z,c,by omega⟩)
  exact ih _ b.2 x a
theorem Mu(l:List (Nat×Pg)):∀(D:Dsk) (i:Nat),(l.map Prod.fst).Nodup->((hwD D l).ver i).length<=(D.ver i).length+1:=by
 induction l with
 | nil=>intro D i _;show (D.ver i).length<=_;omega
 | cons y l ih=>
  intro D i a;rw[hwD_cons];simp only[Aca,AcZ] at a;by_cases hi:i=2+y.1
  ·rw[J2]
   ·exact Dsk.wr_len _ _ _ _
   intro z c e;exact a.1 (AbP.2 ⟨z,c,by omega⟩)
  have b:=ih (D.wr (2+y.1) [DF y.1 y.2]) i a.2;rw[F7 D _ _ i (by simp only[AbI,AbO];omega)] at b;exact b

def EV(D:Dsk)(x:Sup):Dsk:= {Dsk.ws {D with f2:=AZ D.f2} true (x.gen%2).toNat [BC x] with left:=max 0 (D.left-1)}
theorem GV(D:Dsk)(x:Sup):(EV D x).dur (x.gen%2).toNat=BC x/\(EV D x).ver (x.gen%2).toNat=[]:=by
 constructor
 ·show (BE D.dur _ _) _=_;simp[BE]
 show (BE D.ver _ _) _=_;simp[BE]
theorem Eu(D:Dsk)(x:Sup)(i:Nat)(h:i≠(x.gen%2).toNat):(EV D x).dur i=D.dur i/\(EV D x).ver i=D.ver i:=by
 constructor
 ·show (BE D.dur _ _) _=_;unfold BE;rw[if_neg h]
 show (BE D.ver _ _) _=_;unfold BE;rw[if_neg h]
section
abbrev FX(ro:Option Nat):Fence:= {Fence.wide with round:=ro}
def RW(P:Program)(ro:Option Nat)(c:Code)(Q:Exit->Act->World->Prop)(a:Act)(w:World):Prop:=c.wpIn (FX ro) 0 P Q a w
section
variable{P:Program}{ro:Option Nat}{N R:Act->World->Prop}{X:Nat->Act->World->Prop}{a:Act}{w:World}{n:Nat}{ds:List Deferred}{L:List (Nat×Value)}
theorem Cz{x y:Code}(h:∀a,Fr n ds L a->RW P ro x (Qp (λa w=>RW P ro y (Qp N X R) a w) X R) a w):∀a,Fr n ds L a->RW P ro (Code.seq x y) (Qp N X R) a w:=λa b=>
 wpIn_seq (wpIn_mono (h a b) λe a w q=>by cases e<;>exact q)
theorem F8(h:∀a,Fr n ds L a->N a w):∀a,Fr n ds L a->RW P ro Code.skip (Qp N X R) a w:=λa b=>wpIn_skip (h a b)
theorem Ky{id:Nat}(h:∀a,Fr n ds L a->X id a w):∀a,Fr n ds L a->RW P ro (Code.exit id) (Qp N X R) a w:=λa b=>wpIn_exit (h a b)
theorem DM{id:Nat}{c:Code}(h:∀a,Fr n ds L a->RW P ro c (Qp N (upd X id N) R) a w):∀a,Fr n ds L a->RW P ro (Code.block id c) (Qp N X R) a w:=λa b=>
 wpIn_block (wpIn_mono (h a b) λe a w q=>by cases e<;>exact q)
theorem WY{c:Operand}{x y:Code}(d:ev L c=some (.bool true))(h:∀a,Fr n ds L a->RW P ro x (Qp N X R) a w):∀a,Fr n ds L a->RW P ro (Code.cond c x y) (Qp N X R) a w:=λa b=>wpIn_cond_true (b.ev d) (h a b)
theorem Hz{c:Operand}{x y:Code}(d:ev L c=some (.bool false))(h:∀a,Fr n ds L a->RW P ro y (Qp N X R) a w):∀a,Fr n ds L a->RW P ro (Code.cond c x y) (Qp N X R) a w:=λa b=>wpIn_cond_false (b.ev d) (h a b)
theorem IF{c:Operand}{x y:Code}{b:Bool}(d:ev L c=some (.bool b))(e:b=true->∀a,Fr n ds L a->RW P ro x (Qp N X R) a w)(f:b=false->∀a,Fr n ds L a->RW P ro y (Qp N X R) a w):∀a,Fr n ds L a->RW P ro (Code.cond c x y) (Qp N X R) a w:=by
 cases b with
 | true=>exact WY d (e Z)
 | false=>exact Hz d (f Z)
theorem Zi{c:Operand}{x y:Code}{p:Prop}[hp:Decidable p](e:ev L c=some (.bool (decide p)))(b:p->∀a,Fr n ds L a->RW P ro x (Qp N X R) a w)(d:¬p->∀a,Fr n ds L a->RW P ro y (Qp N X R) a w):∀a,Fr n ds L a->RW P ro (Code.cond c x y) (Qp N X R) a w:=
 IF e (λh=>b (of_decide_eq_true h)) (λh=>d (of_decide_eq_false h))
theorem Kz{c:Code}{σ:Type}(h:σ->List (Nat×Value))(G:σ->World->Prop)(m:σ->Nat)(r:σ)
  (h₀:∀a,Fr n ds L a->Fr n ds (h r) a)(g₀:G r w)
  (f:∀s w,G s w->∀a,Fr n ds (h s) a->RW P ro c (Qp (λa' w'=>∃v,Fr n ds (h v) a'/\G v w'/\m v<m s) X R) a w):∀a,Fr n ds L a->RW P ro (Code.loop c) (Qp N X R) a w:=by
 intro a hF b k cs u hb i;have y:∀n' s a w,m s=n'->Fr n ds (h s) a->G s w->
   ∃e a' w',Qp N X R e a' w'/\ArrivesIn (Machine.fenced P (FX ro)) P (lone (b.atR a (.code c:: .inLoop c::k)) cs w) b k cs e a' w':=by
  intro n'
  induction n' using Nat.strongRecOn with
  | _ n' ih=>
   intro s a w hn hI hG;obtain ⟨e,p,j,hq,d⟩:=f s w hG a hI b (.inLoop c::k) cs u hb i
   cases e with
   | normal=>
    obtain ⟨s₁,o,t,z⟩:=hq;obtain ⟨e₂,a₂,w₂,q,g⟩:=ih (m s₁) (hn▸z) s₁ p j Z o t;exact ⟨e₂,a₂,w₂,q,.of_steps (StepsIn.trans d (.one (fenced_calm hb i Z) stepR_inLoop)) g⟩
   | exit id=>exact ⟨.exit id,p,j,hq,.pass (x:=.inLoop c) Z (λ_ _=>.inl O) d⟩
   | ret=>exact ⟨.ret,p,j,hq,.pass (x:=.inLoop c) Z (λ_ _=>.inl O) d⟩
   | goto l=>exact hq.elim
   | panic ch=>exact hq.elim
   | outgrown=>exact hq.elim
 obtain ⟨e,a',w',hq,d⟩:=y _ r a w Z (h₀ a hF) g₀;exact ⟨e,a',w',hq,.of_steps (.one (fenced_calm hb i Z) stepR_loop) d⟩

def CN(o:Oper):Bool:=match o.op with| .defer _=>false|_=>true
theorem PA{o:Oper}(h:CN o=true):∀c,o.op≠ .defer c:=λc e=>by rw[CN,e] at h;cases h
theorem Mv(o:Oper)(h:CN o=true)(ρ:Operand->Value):Oper.semAt ro ρ o=execOp ρ o:=by
 cases ro with
 | none=>rfl
 | some l=>exact Oper.semAt_some l ρ o (PA h)
theorem TC{f:FuncId}{args:Array Value}{E:Ending->World->Prop}(h:Calls P f args w E)(k:Nat):CallsIn (FX ro) k P f args w E:=callsIn_wide.2 h
theorem WZ{a:String}{args:Array Value}{E:Value->World->Prop}(h:Rows P a args w E)(k:Nat):RowsIn (FX ro) k P a args w E:=λc cs _=>
 let ⟨v,w',r,s⟩:=h c cs;⟨v,w',r,stepsIn_wide.2 s⟩
theorem Ot{o:Oper}(b:CN o=true){K:Act->World->Prop}(h:o.wp P a w K (Qp N X R)):o.wpIn (FX ro) 0 P a w K (Qp N X R):=by
 refine ⟨λ_ _=>trivial,?_⟩;rw[show (FX ro).round=ro from Z,Mv o b];unfold Oper.wp at h
 cases hr:(execOp a.eval o).run P w with
 | ok x w'=>
  rw[hr] at h;cases x<;>simp only[Oper.upon,Oper.uponIn] at h ⊢ <;>first
   | exact h
   | exact h.elim
   | exact ⟨λq=>(by cases q),TC (Aed h λe c q=>by cases e<;>exact q) _⟩
   | exact ⟨λq=>(by cases q),WZ h _⟩
 | halt x w'=>
  rw[hr] at h;cases x<;>simp only[Oper.upon,Oper.uponIn] at h ⊢ <;>first
   | exact h
   | exact h.elim
theorem Rg{Q:Exit->Act->World->Prop}{N R:Act->World->Prop}{X:Nat->Act->World->Prop}(b:Q=Qp N X R):¬LetsOut Q:=by
 subst b;rintro ⟨a,w,h⟩;exact h
theorem KA{ops:Array Oper}:∀(l:List Oper) (a:Act) (w:World),l.all CN=true->wpList P ops (Qp N X R) l a w->wpListIn (FX ro) 0 P ops (Qp N X R) l a w
 | [],_,_,_,h=>h
 | o::rest,a,w,hd,h=>by
  simp only[List.all_cons,Ab8] at hd;unfold wpList at h;unfold wpListIn;split
  ·rename_i hw
   rw[if_pos hw] at h;rcases h with h|⟨_,h⟩
   ·exact Oper.wpIn_mono (λa w q=>KA rest a w hd.2 q) (Ot hd.1 h)
   exact absurd h (Rg Z)
  rename_i hw;rw[if_neg hw] at h;exact ⟨λ_ _=>trivial,KA rest _ _ hd.2 h⟩
theorem BR{id:Nat}{ops:List Oper}(h:∀a,Fr n ds L a->wpList P ops.toArray (Qp N X R) ops a w)(b:ops.all CN=true:=by rfl):∀a,Fr n ds L a->RW P ro (Code.region id ops.toArray false) (Qp N X R) a w:=λa c=>
 wpIn_region_lit (KA ops a w b (h a c))
theorem AaL{ops:Array Oper}(d:ops.toList.all CN=true){i:Nat}{K:Act->World->Prop}(h:wpOp P ops (Qp N X R) i K a w):wpOpIn (FX ro) 0 P ops (Qp N X R) i K a w:=by
 unfold wpOp at h;unfold wpOpIn;split
 ·rename_i e;rw[e] at h;exact h
 rename_i o e;rw[e] at h;simp only at h;have b:CN o=true:=Ad9.1 d o (by
  have:=Array.mem_of_getElem? e;simpa using this)
 split
 ·rename_i c
  rw[if_pos c] at h;rcases h with h|⟨_,h⟩
  ·exact Ot b h
  exact absurd h (Rg Z)
 rename_i c;rw[if_neg c] at h;exact ⟨λ_ _=>trivial,h⟩
theorem Mw{ops:Array Oper}(hd:ops.toList.all CN=true):∀(fuel:Nat) (listed:Array Bool) (a:Act) (w:World),wpAny P .any ops (Qp N X R) fuel listed a w->wpAnyIn (FX ro) 0 P .any ops (Qp N X R) fuel listed a w
 | 0,_,_,_,h=>h
 | fuel+1,_,_,_,h=>⟨h.1,λi hi=>wpOpIn_mono (λa w q=>Mw hd fuel _ a w q) (AaL hd (h.2 i hi))⟩
theorem Id{id:Nat}{ops:List Oper}(S:World->Prop)(k:Nat)(b:ops.length=k)(d:P.follows .mixedOrders=true)
  (h:∀w',Ext No w w'->w'.heap.size=w.heap.size->∀a,Fr n ds L a->Gi P ops (Qp N X R) S k (Array.replicate k false) a w')(c:ops.all CN=true:=by rfl):∀a,Fr n ds L a->RW P ro (Code.region id ops.toArray true) (Qp N X R) a w:=λa e=>
 wpIn_region_any d (Mw (by simpa using c) _ _ _ _ (Hj (S:=S) _ _ _ _ (by have:=h _ (Ext.drawn No w) Z a e (Dc.start _ _) (by simp[b]);simpa [b] using this)))
theorem Rh{id:Nat}{ops:List Oper}(C:World->Prop)(g:P.follows .mixedOrders=true)(d:Region.lexB .any ops.toArray=true)(f:C w.drew)
  (h:∀a,Fr n ds L a->wpQuiet P ops.toArray C (λa'=>∀w',C w'->N a' w') ops a)(e:ops.all CN=true:=by rfl):∀a,Fr n ds L a->RW P ro (Code.region id ops.toArray true) (Qp N X R) a w:=λa i=>by
 refine wpIn_region_any g (Mw (by simpa using e) _ _ _ _ ?_);have b:=d;simp only[Region.lexB,Ab8] at b;refine wpAny_of_quiet (C:=C) (Q:=λa'=>∀w',C w'->N a' w') (λ_ w' c h=>h w' c) _ _ _ _ f ?_;have:=wpAnyQ_lex (C:=C) (md:=.any) b.1 ops.toArray.toList 0 (Array.replicate ops.toArray.size false) a O (by simpa using b.2) (h a i);simpa using this

section steps
variable{ops:List Oper}{Q:Exit->Act->World->Prop}{rest:List Oper}{o:Oper}{d:Nat}{v:Value}
theorem Ji{id:Nat}(h:∀a,Fr n ds L a->wpListIn (FX ro) 0 P ops.toArray (Qp N X R) ops a w):∀a,Fr n ds L a->RW P ro (Code.region id ops.toArray false) (Qp N X R) a w:=λa b=>wpIn_region_lit (h a b)
theorem PB(h:∀a,Fr n ds L a->N a w):∀a,Fr n ds L a->wpListIn (FX ro) 0 P ops.toArray (Qp N X R) [] a w:=h
theorem D5(h:BJ ops L o.guard=true)(g:o.dst=some d)(b:Nat.blt d n=true)(f:Ax P (· =w) n ds L o v)(K:∀a',Fr n ds ((d,v)::L) a'->wpListIn (FX ro) 0 P ops.toArray Q rest a' w)(c:CN o=true:=by rfl):∀a,Fr n ds L a->wpListIn (FX ro) 0 P ops.toArray Q (o::rest) a w:=by
 intro a e;unfold wpListIn;rw[if_pos (wantL_ok e h)];refine ⟨λ_ _=>trivial,?_⟩;rw[show (FX ro).round=ro from Z,Mv o c,f a e w Z,Oper.uponIn_value,g];exact K _ (e.put d v b)
theorem KB{l:Nat}{x:Operand}{args:List Operand}{vs:List Value}{tys:Array TypeId}{E:Ending->World->Prop}(hw:BJ ops L o.guard=true)(u:o.dst=some d)(m:Nat.blt d n=true)
  (p:o.op=.call {callee:=.value x,args:=args.toArray,argTypes:=tys})(t:ev L x=some (.func (.yield l) #[] #[]))(g:evs L args=some vs)(i:YieldAt (FX none) 0 P l vs.toArray w E)
  (s:∀e w',E e w'->∃v,e=.returned v/\∀a',Fr n ds ((d,v)::L) a'->wpListIn (FX ro) 0 P ops.toArray Q rest a' w'):∀a,Fr n ds L a->wpListIn (FX ro) 0 P ops.toArray Q (o::rest) a w:=by
 intro a j;obtain ⟨r,f,b,c,i,hR⟩:=i;have k:CN o=true:=by rw[CN,p]
 unfold wpListIn;rw[if_pos (wantL_ok j hw)];refine ⟨λ_ _=>trivial,?_⟩;have e1:=j.evs g;have y:=j.ev t;have h:(execOp a.eval o).run P w=.ok (.round l r f b c) w:=by
  unfold execOp;simp only[p,resolve,y,Deferred.ofValue,invoke];simp only[go_sem,Ach,e1,Ab3,Acw,i];simpa using i
 rw[show (FX ro).round=ro from Z,Mv o k,h,Oper.uponIn_round];refine ⟨λq=>(by cases q),RoundIn.mono (show RoundIn (FX ro) 0 P l r f b c w E from hR) λe w' q=>?_⟩;obtain ⟨v,rfl,z⟩:=s e w' q;simp only[u];exact z _ (j.put d v m)
end steps
end

def It(P:Program)(gf:FuncId)(lb:List Value)(pre:List Ah)(vs:List (List Value)):Prop:=
 ∀(z:World) (l:Nat) (J_:Nat->List Ah),(∀i v,vs[i]?=some v->∀w,Sep z (pre++J_ i) w->YieldAt (FX none) 0 P l v.toArray w (λe w'=>e=.returned (.bool true)/\Sep z (pre++J_ (i+1)) w'))->
  ∀w,Sep z (pre++J_ 0) w->CallsIn (FX none) 0 P gf (#[Value.func (.yield l) #[] #[]]++lb.toArray) w (λe w'=>(∃v,e=.returned v)/\Sep z (pre++J_ vs.length) w')
theorem Jj{P:Program}{gf:FuncId}{d:Func}{c:Code}{args:List Value}{w:World}{T:World->Prop}(i:P.funcs[gf]?=some d)(j:d.body=some c)(f:d.results= #[])(n:Nat)(g:d.ntmps=n)(b:Nat.ble args.length n=true)
  (h:∀a,Fr n [] (first 0 args) a->RW P none c (Qp (λa w=>a.defers=[]/\T w) HL (λa w=>a.defers=[]/\T w)) a w):CallsIn (FX none) 0 P gf args.toArray w (λe w'=>(∃v,e=.returned v)/\T w'):=by
 refine callsIn_of_wp i j trivial (wpIn_mono (h _ (by rw[g];exact Fr.start args n (by simpa using b))) λe a w q=>?_) Z
 cases e with
 | normal=>exact ⟨q.1,.tuple #[],by simp[results,f,go_sem],⟨_,Z⟩,q.2⟩
 | ret=>exact ⟨q.1,.tuple #[],by simp[results,f,go_sem],⟨_,Z⟩,q.2⟩
 | exit id=>exact q.elim
 | goto l=>exact q.elim
 | panic ch=>exact q.elim
 | outgrown=>exact q.elim
def mark(D:Nat):Deferred:= {target:=.collected D,args:= #[]}
def BL(st:LoopState)(fn:FuncId)(tmps:Array Value)(t:Nat)(assign body:Code)(D:Nat):Obj:=.loop {state:=st,pending:=none,fn,tmps,params:= #[t],assign,body,defers:=D}
theorem Sep.setObj{z w:World}{Γ:List Ah}(i:Nat){b:Nat}{o:Obj}(o':Obj)(H:Sep z Γ w)(c:Γ[i]?=some (YthbbejpbkglmlaaGreatDoor.bk b o)):Sep z (Γ.set i (YthbbejpbkglmlaaGreatDoor.bk b o')) (w.putObj b o'):=by
 have e:=H.bk i c;have a:b<w.heap.size:=(Acv.1 e).1;exact H.write i c Z Z Z (World.putObj_heap_same a) (λk d=>World.putObj_heap_other d)
theorem W0{P:Program}{N R:Act->World->Prop}{X:Nat->Act->World->Prop}{z w:World}{n:Nat}{ds:List Deferred}{L:List (Nat×Value)}{g:Operand}{t:Nat}{assign body:Code}{gf:FuncId}{r:List Value}{pre:List Ah}{vs:List Value}
  (J_:Nat->List Ah)(hg:ev L g=some (.func (.func gf) #[] r.toArray))(eg:∀args w,(callFunc gf args).run P w=.ok (.enter gf args) w)(ht:Nat.blt t n=true)(y:It P gf r pre (vs.map λv=>[v]))(H:Sep z (J_ 0++pre) w)
  (c:∀(ro:Option Nat) (i:Nat) (v:Value),vs[i]?=some v->∀w a,Fr n [] ((t,v)::L) a->
   RW P ro assign (Qp (λa1 w1=>w1=w/\∀(F:List Ah) (w:World),Sep z (J_ i++(pre++F)) w->RW P ro body (Qp (λ_ s=>Sep z (J_ (i+1)++(pre++F)) s) HL (λ_ _=>False)) a1 w) HL (λ_ _=>False)) a w)
  (K:∀D w',Sep z (YthbbejpbkglmlaaGreatDoor.bk D (.deferred (some []))::(J_ vs.length++pre)) w'->∀a,Fr n (mark D::ds) L a->N a w'):
  ∀a,Fr n ds L a->(Code.rangeFunc g #[t] assign body).wp P (Qp N X R) a w:=by
 intro a p;refine (wpIn_wide (n:=0)).1 ?_;refine wpIn_rangeFunc ?_;intro fn _;have a4:Fence.wide.round=none:=rfl;rw[a4];obtain ⟨W1,j⟩:∃W1,(w.alloc (.deferred (some []))).alloc (BL .ready fn a.tmps t assign body w.heap.size)=W1:=⟨_,Z⟩;obtain ⟨D,hD⟩:∃D,D=w.heap.size:=⟨_,Z⟩;obtain ⟨T,hT⟩:∃T:List Ah,T=[YthbbejpbkglmlaaGreatDoor.bk D (.deferred (some [])),YthbbejpbkglmlaaGreatDoor.bk (D+1) (BL .ready fn a.tmps t assign body D)]:=⟨_,Z⟩;have H1:Sep z (pre++(T++J_ 0)) W1:=by
  have h1:=H.new (b:=w.heap.size) (o:=.deferred (some [])) (CZ w (.deferred (some []))) (Ab9 _) (by show (w.heap.push _)[w.heap.size]?=_;simp);have h2:=h1.new (b:=w.heap.size+1) (o:=BL .ready fn a.tmps t assign body w.heap.size) (CZ _ (BL .ready fn a.tmps t assign body w.heap.size)) O (by
   show ((w.heap.push _).push _)[w.heap.size+1]?=_;rw[Ael,if_pos O])
  have h3:Sep z (YthbbejpbkglmlaaGreatDoor.bk (w.heap.size+1) (BL .ready fn a.tmps t assign body w.heap.size)::YthbbejpbkglmlaaGreatDoor.bk w.heap.size (.deferred (some []))::(J_ 0++pre)) W1:=j▸h2;have h4:=(h3.pick 2 [1,0] Z);have h5:Sep z (T++(J_ 0++pre)) W1:=by rw[hT,hD];exact h4
  exact (Sep.swap (As:=T++J_ 0) (Bs:=pre) (by rw[AbK];exact h5))
 refine ⟨w.heap.size+1,[mark w.heap.size],W1,{target:=.fn (.func gf) r.toArray,args:= #[.func (.yield (w.heap.size+1)) #[] #[]]},W1,gf,#[.func (.yield (w.heap.size+1)) #[] #[]]++r.toArray,W1,?_,?_,λ_ _=>trivial,?_,λq=>(by cases q),?_⟩
 ·rw[<-j];exact run_enterLoop_outer _ _ _ _ _
 ·simp only[resolve,p.ev hg]
  simp[go_sem]
 ·simp[invoke,go_sem,eg]
 rw[<-hD] at j ⊢;have d:∀{i:Nat} {w:World},Sep z (pre++(T++J_ i)) w->Sep z (YthbbejpbkglmlaaGreatDoor.bk D (.deferred (some []))::YthbbejpbkglmlaaGreatDoor.bk (D+1) (BL .ready fn a.tmps t assign body D)::(J_ i++pre)) w:=λh=>by
  have:=h.swap;rw[AbK,hT] at this;exact this
 have f:∀(i:Nat) (w:World),Sep z (YthbbejpbkglmlaaGreatDoor.bk D (.deferred (some []))::YthbbejpbkglmlaaGreatDoor.bk (D+1) (BL .ready fn a.tmps t assign body D)::(J_ i++pre)) w->Sep z (pre++(T++J_ i)) w:=λi w h=>by
  have h':Sep z (T++(J_ i++pre)) w:=by rw[hT];exact h
  exact (Sep.swap (As:=T++J_ i) (Bs:=pre) (by rw[AbK];exact h'))
 have a0:=y z (D+1) (λi=>T++J_ i) ?_ W1 H1
 ·refine CallsIn.mono (show CallsIn Fence.wide 0 P gf _ W1 _ from a0) ?_
  rintro e w2 ⟨⟨v,rfl⟩,H2⟩;simp only[AbN] at H2;have H2:=d H2;refine ⟨none,_,run_endLoop (H2.bk 1 Z) O,?_⟩;refine K D _ ?_ _ ⟨p.size,by show [mark D]++a.defers=_;rw[p.defers];rfl,p.get⟩;have H3:=H2.setObj 1 (.loop {state:=.exhausted,pending:=none,fn,tmps:=a.tmps,params:= #[t],assign,body,defers:=D}) Z;exact H3.pick 2 [0] Z
 intro i v hv w2 H2;rw[AbY] at hv;obtain ⟨u,hu,rfl⟩:=Adq.1 hv;have H2:=d H2;have hy:=run_yield (P:=P) (args:=[u].toArray) (H2.bk 1 Z) O;refine ⟨fn,_,assign,body,hy,?_⟩;refine roundIn_of_wpIn (F:=FX none) trivial ?_;have a2:Fr n [] ((t,u)::L) {tmps:=(((#[t]:Array Tmp).zip [u].toArray).foldl (λtmps (x:Tmp×Value)=>tmps.setIfInBounds x.1 x.2) a.tmps),defers:=[]} :=by
  have h0:Fr n [] L {tmps:=a.tmps,defers:=[]} :=⟨p.size,Z,p.get⟩;have:=h0.put t u ht;simpa [Act.put] using this
 have hr:=c (some (D+1)) i u hu w2 _ a2;refine wpIn_mono (show assign.wpIn ((FX none).inRound (D+1)) 0 P _ _ w2 from hr) ?_;intro e a1 w1 q
 cases e with
 | normal=>
  obtain ⟨rfl,k⟩:=q;refine ⟨_,run_beginRound (H2.bk 1 Z) Z,?_⟩;have H3:=H2.setObj 1 (BL .busy fn a.tmps t assign body D) Z;have H4:Sep z ([YthbbejpbkglmlaaGreatDoor.bk D (.deferred (some [])),YthbbejpbkglmlaaGreatDoor.bk (D+1) (BL .busy fn a.tmps t assign body D)]++(J_ i++pre)) _:=H3;have H5:=H4.swap;rw[AbK] at H5;refine wpIn_mono (show body.wpIn ((FX none).inRound (D+1)) 0 P _ _ _ from k _ _ H5) ?_;intro e a3 s m
  cases e with
  | normal=>
   have H6:Sep z (J_ (i+1)++(pre++[YthbbejpbkglmlaaGreatDoor.bk D (.deferred (some [])),YthbbejpbkglmlaaGreatDoor.bk (D+1) (BL .busy fn a.tmps t assign body D)])) s:=m;rw[<-AbK] at H6;have H7:Sep z (YthbbejpbkglmlaaGreatDoor.bk D (.deferred (some []))::YthbbejpbkglmlaaGreatDoor.bk (D+1) (BL .busy fn a.tmps t assign body D)::(J_ (i+1)++pre)) s:=H6.swap;refine ⟨_,_,run_endRound none (H7.bk 1 Z),Z,f _ _ ?_⟩;exact H7.setObj 1 (BL .ready fn a.tmps t assign body D) Z
  | exit id=>exact m.elim
  | ret=>exact m.elim
  | goto l=>exact m.elim
  | panic ch=>exact m.elim
  | outgrown=>exact m.elim
 | exit id=>exact q.elim
 | ret=>exact q.elim
 | goto l=>exact q.elim
 | panic ch=>exact q.elim
 | outgrown=>exact q.elim

def J3(P:Program)(fn:Func)(R:Value->World->Prop)(a:Act)(w:World):Prop:=
 (a.defers=[]/\∃v,(results fn a.tmps).run P w=.ok v w/\R v w)\/∃D w',a.defers=[mark D]/\(Instr.takeDeferred D).run P w=.ok [] w'/\∃v,(results fn a.tmps).run P w'=.ok v w'/\R v w'
theorem Mx{P:Program}{f:FuncId}{b:Func}{c:Code}{args:List Value}{w:World}{R:Value->World->Prop}(m:P.funcs[f]?=some b)(o:b.body=some c)(n:Nat)(k:b.ntmps=n)(d:Nat.ble args.length n=true)
  (h:∀a,Fr n [] (first 0 args) a->c.wp P (Qp (J3 P b R) HL (J3 P b R)) a w):Calls P f args.toArray w (Ret R):=by
 refine (callsIn_wide (n:=0)).1 (callsIn_of_wp_marks m o trivial (wpIn_mono ((wpIn_wide (n:=0)).2 (h _ (by rw[k];exact Fr.start args n (by simpa using d)))) λe a w q=>?_) Z);have fin:J3 P b R a w->LeavesInM Fence.wide 0 P b a.tmps (Ret R) a.defers .returning w:=λq=>by
  rcases q with ⟨j,v,g,i⟩|⟨D,w',j,p,v,g,i⟩
  ·rw[j];exact ⟨v,g,i⟩
  rw[j];exact ⟨by simp,.inl ⟨D,w',Z,p,v,g,i⟩⟩
 cases e with
 | normal=>exact fin q
 | ret=>exact fin q
 | exit id=>exact q.elim
 | goto l=>exact q.elim
 | panic ch=>exact q.elim
 | outgrown=>exact q.elim
theorem My{P:Program}{b:Func}{R:Value->World->Prop}{n:Nat}{L:List (Nat×Value)}{w:World}{rs:List ResultVar}(c:b.results=rs.toArray)(vs:List Value)(e:Eq P L w rs vs){v:Value}(f:Gz vs=v)(h:R v w):∀a,Fr n [] L a->J3 P b R a w:=λa d=>.inl (GA c vs e f h a d)
theorem Mz{P:Program}{c:Func}{R:Value->World->Prop}{n D:Nat}{L:List (Nat×Value)}{z w:World}{Γ:List Ah}(H:Sep z (YthbbejpbkglmlaaGreatDoor.bk D (.deferred (some []))::Γ) w){rs:List ResultVar}(d:c.results=rs.toArray)(vs:List Value)(e:∀w,Eq P L w rs vs){v:Value}(f:Gz vs=v)(h:∀w,Sep z Γ w->R v w):∀a,Fr n [mark D] L a->J3 P c R a w:=λa b=>
 .inr ⟨D,w.putObj D (.deferred none),b.defers,run_takeDeferred (H.bk 0 Z),v,by rw[<-f];exact GK b d (e _),h _ ((H.setObj 0 (.deferred none) Z).pick 1 [] Z)⟩
end
section
def Gl(r m clk:Nat)(seen:List Nat):Ah:=bk r (.mapIter (some m) clk seen.toArray clk)
def B1(l:List IE)(seen:List Nat):List IE:=l.filter λp=> !seen.contains p.2.2
theorem CH{l:List IE}{seen:List Nat}{p:IE}(h:p∈B1 l seen):p∈l/\p.2.2∉seen:=by
 simpa [B1] using h
theorem Ri(l:List IE)(seen:List Nat):(l.map Cg).toArray.filter (λe=> !seen.toArray.contains e.born)=((B1 l seen).map Cg).toArray:=by
 simp[B1,List.filter_map,Function.comp_def];rfl
theorem Ef{l:List IE}{seen:List Nat}{p:IE}(h:p∈B1 l seen):(B1 l (seen++[p.2.2])).length<(B1 l seen).length:=by
 obtain ⟨c,b⟩:=CH h;unfold B1;refine filter_lt _ _ (λx a=>?_) p ?_ ?_ l c
 ·simp only[List.contains_eq_mem,Acd,Bool.not_eq_true',decide_eq_false_iff_not,not_or] at a ⊢;exact a.1
 ·simpa using b
 simp
def Rj:Option IE->Value
 | none=>.tuple #[.bool false]
 | some p=>.tuple #[.bool true,.int .i64 p.1,p.2.1]
def I0(seen:List Nat):Option IE->List Nat
 | none=>seen
 | some p=>seen++[p.2.2]
def nxP(l:List IE)(seen:List Nat):Option IE->Prop
 | none=>B1 l seen=[]
 | some p=>p∈B1 l seen
section
variable{P:Program}{C:World->Prop}{o:Oper}{w z:World}{Γ:List Ah}{n:Nat}{ds:List Deferred}{L:List (Nat×Value)}{x y:Operand}
theorem NV{r m clk:Nat}{seen:List Nat}{l:List IE}(n:w.heap[r]?=some (.mapIter (some m) clk seen.toArray clk))(hm:w.heap[m]?=some (.map (l.map Cg).toArray clk))(c:∀p∈l,p.2.2<clk)(ty:TypeId):
  ∃q:Option IE,nxP l seen q/\∃a:World,(a=w\/a=w.drew)/\(Instr.next (V r) false ty).run P w=.ok (Rj q) {a with heap:=a.heap.setIfInBounds r (.mapIter (some m) clk (I0 seen q).toArray clk)} :=by
 have a0:r<w.heap.size:=(Acv.1 n).1;have hE:∀x∈(l.map Cg).toArray.toList,x.born<clk:=λx d=>by
  simp only[AbP] at d;obtain ⟨p,hp,rfl⟩:=d;exact c p hp
 simp only[Instr.next,getObj,AbW,Sem.run,n,hm,Result.andThen,next_test_false seen.toArray _ clk clk hE (Ab9 _),AcI,if_false];rw[Ri];have b:∀p∈B1 l seen,p.2.2<clk:=λp hp=>c p (CH hp).1;generalize hG:B1 l seen=G at b;have e1:((G.map Cg).toArray).filter (λx=>decide (x.born<clk))=(G.map Cg).toArray:=Array.filter_eq_self.2 (λx d=>by
  simp only[List.mem_toArray,AbP] at d;obtain ⟨p,hp,rfl⟩:=d;exact decide_eq_true (b p hp))
 have e2:((G.map Cg).toArray).filter (λx=>decide (x.born>=clk))= #[]:=by
  rw[Array.filter_eq_empty_iff];intro x d;simp only[List.mem_toArray,AbP] at d;obtain ⟨p,hp,rfl⟩:=d;have:=b p hp;simp[Cg];omega
 simp only[e1,e2,Array.append_empty];have i:∀u:World,u.heap=w.heap->({u with heap:=u.heap.setIfInBounds r (.mapIter (some m) clk seen.toArray clk)} :World)=u:=λu hu=>by
  have:u.heap.setIfInBounds r (.mapIter (some m) clk seen.toArray clk)=u.heap:=by
   rw[hu];apply Array.ext_getElem?;intro k;rw[Array.getElem?_setIfInBounds];split
   ·rename_i e;subst e;exact n.symm
   rfl
  rw[this]
 cases G with
 | nil=>
  refine ⟨none,hG,w,.inl Z,?_⟩;show _=Result.ok _ ({w with heap:=w.heap.setIfInBounds r (.mapIter (some m) clk seen.toArray clk)} :World);rw[i w Z];simp[choose,Sem.run,Question.forced,Rj]
 | cons p0 G=>
  have o:((((p0::G).map Cg).toArray).isEmpty)=false:=by simp[Array.isEmpty]
  simp only[o,AcI,if_false,Array.empty_append,Array.size_map];generalize hK:(p0::G)=K at hG;have t:0<K.length:=by rw[<-hK];simp
  have v:∃(j:Nat) (a:World),j<K.length/\(a=w\/a=w.drew)/\(choose (Question.mapNext ((K.map Cg).toArray).size)).run P w=.ok j a:=by
   by_cases hf:((K.map Cg).toArray).size<=1
   ·exact ⟨0,w,by omega,.inl Z,by simp only[choose,Sem.run,Question.forced,hf,decide_true,if_true]⟩
   rw[List.size_toArray,AbN] at hf ⊢;exact ⟨(Question.mapNext K.length).cut (w.tape w.drawn (Question.mapNext K.length)),w.drew,Nat.mod_lt _ t,.inr Z,by
    simp only[choose,Sem.run,Question.forced,decide_eq_true_eq,hf,if_false,AcI];rfl⟩
  obtain ⟨j,a,z,g,f⟩:=v;have y:a.heap=w.heap:=by rcases g with rfl|rfl<;>rfl
  refine ⟨some K[j],by show K[j]∈B1 l seen;rw[hG];exact Ac1 z,a,g,?_⟩;have h:∀o':Obj,(setObj r o').run P a=.ok () {a with heap:=a.heap.setIfInBounds r o'} :=λo'=>by
   simp[setObj,Sem.run,y,n]
  have s:((K.map Cg).toArray)[j]?=some (Cg K[j]):=by simp[z]
  simp only[f,Array.getElem?_map,s,Acf,AbW,h,Result.andThen];simp[Rj,I0,Cg,Sem.run]
theorem GW(j:Nat){t e:TypeId}{m clk:Nat}{l:List IE}(H:Sep z Γ w)(f:Γ[j]?=some (AE m l clk))(c:o.op=.range t x)(i:Er P t=some e)(g:ev L x=some (.map (some m))):
  BX P n ds L o w (λv w'=>∃r,v=V r/\Sep z (Gl r m clk []::Γ) w'):=λa h=>by
 obtain ⟨b,p,d,k⟩:=DD i;refine ⟨_,_,?_,w.heap.size,Z,H.new (CZ w (.mapIter (some m) clk #[] clk)) (Ab9 _) (by show (w.heap.push _)[w.heap.size]?=_;simp)⟩;simp only[execOp,c,h.ev g,AbW,run_range_map w t b e m _ clk d (H.bk j f),AbS,Ab2];rfl
theorem Ie(i j:Nat){r m clk:Nat}{l:List IE}{seen:List Nat}(H:Sep z Γ w)(s:Γ[i]?=some (Gl r m clk seen))(y:Γ[j]?=some (AE m l clk))(t:o.op=.next x false)(hx:ev L x=some (V r))(d:∀p∈l,p.2.2<clk):
  BX P n ds L o w (λv w'=>∃q:Option IE,v=Rj q/\nxP l seen q/\Sep z (Γ.set i (Gl r m clk (I0 seen q))) w'):=λa hF=>by
 have h:=H.bk i s;obtain ⟨q,hq,b,g,c⟩:=NV (P:=P) h (H.bk j y) d o.type;have f:r<w.heap.size:=(Acv.1 h).1;have e:b.heap=w.heap/\b.os=w.os/\b.tape=w.tape/\b.output=w.output:=by rcases g with rfl|rfl<;>exact ⟨Z,Z,Z,Z⟩
 refine ⟨_,{b with heap:=b.heap.setIfInBounds r (.mapIter (some m) clk (I0 seen q).toArray clk)},?_,q,Z,hq,H.write i s e.2.1 e.2.2.1 e.2.2.2 (o':=.mapIter (some m) clk (I0 seen q).toArray clk) (by show (b.heap.setIfInBounds r _)[r]?=_;rw[e.1];simp[f]) (λk u=>by show (b.heap.setIfInBounds r _)[k]?=_;rw[e.1];rw[AcX (Ada u)])⟩;simp only[execOp,t,hF.ev hx,AbW,c,AbS,Ab2]
theorem J4{q:Option IE}(a:o.op=.extract x 0)(b:ev L x=some (Rj q)):Ax P C n ds L o (.bool q.isSome):=by
 cases q with
 | none=>exact ER a b Z
 | some p=>exact ER a b Z
theorem GX{r m clk:Nat}{l:List IE}{seen:List Nat}{p:IE}(d:o.op=.entry x)(g:ev L x=some (V r))(e:∀w,C w->w.heap[r]?=some (.mapIter (some m) clk (seen++[p.2.2]).toArray clk)/\w.heap[m]?=some (.map (l.map Cg).toArray clk))(hp:p∈l)(c:(l.map (·.2.2)).Nodup):
  Ax P C n ds L o (.tuple #[Aa p.1,p.2.1]):=λa i w j=>by
 obtain ⟨b,h⟩:=e w j;have f:((l.map Cg).toArray).find? (λx=>x.born==p.2.2)=some (Cg p):=by
  rw[<-Array.find?_toList];exact find_born (Cg p) _ (by simpa [Function.comp_def,Cg] using c) (Acz hp)
 simp only[execOp,d,i.ev g,Instr.entry,getObj,AbW,Sem.run,b,h,Result.andThen,<-List.push_toArray,Array.back?_push,bne_self_eq_false,AcI,if_false,f];rfl
theorem IG(i:Nat){t e:TypeId}{m clk:Nat}{l:List IE}(H:Sep z Γ w)(f:Γ[i]?=some (AE m l clk))(g:o.op=.call {callee:=.builtin .clear,args:= #[x],argTypes:= #[t]})(p:Er P t=some e)(j:ev L x=some (.map (some m))):
  BX P n ds L o w (λv w'=>v=.tuple #[]/\Sep z (Γ.set i (AE m [] clk)) w'):=λa k=>by
 obtain ⟨u,s,h,r⟩:=DD p;have c:w.heap[m]?=some (.map (l.map Cg).toArray clk):=H.bk i f;have d:m<w.heap.size:=(Acv.1 c).1;have b:(Builtin.clear_ #[t] o.type #[.map (some m)]).run P w=.ok (.tuple #[]) {w with heap:=w.heap.setIfInBounds m (.map #[] clk)} :=by
  simp[Builtin.clear_,run_underlying h,getObj,setObj,Sem.run,c]
 refine ⟨_,{w with heap:=w.heap.setIfInBounds m (.map #[] clk)},?_,Z,H.write i f Z Z Z (by show (w.heap.setIfInBounds m (.map #[] clk))[m]?=_;simp[d]) (λq hq=>by show (w.heap.setIfInBounds m _)[q]?=_;rw[AcX (Ada hq)])⟩;simp only[execOp,g,resolve,invoke,builtin,AbW,Ab2,AbS,Ach,Aca,AcP,k.ev j,b]
end
def V3(P:Program)(gf:FuncId)(lb:List Value)(pre:List Ah){σ:Type}(stp:σ->Value->σ->Prop)(s0:σ)(fin:σ->Prop):Prop:=
 ∀(z:World) (l:Nat) (J_:σ->List Ah),(∀s v s' F,stp s v s'->∀w,Sep z (pre++(F++J_ s)) w->YieldAt (FX none) 0 P l #[v] w (λe w'=>e=.returned (.bool true)/\Sep z (pre++(F++J_ s')) w'))->
  ∀w,Sep z (pre++J_ s0) w->CallsIn (FX none) 0 P gf (#[Value.func (.yield l) #[] #[]]++lb.toArray) w (λe w'=>(∃v,e=.returned v)/\∃s,fin s/\Sep z (pre++J_ s) w')
theorem MA{P:Program}{N R:Act->World->Prop}{X:Nat->Act->World->Prop}{z w:World}{n:Nat}{ds:List Deferred}{L:List (Nat×Value)}{g:Operand}{t:Nat}{assign body:Code}{gf:FuncId}{lb:List Value}{pre:List Ah}{σ:Type}{a0:σ->Value->σ->Prop}{y:σ}{fin:σ->Prop}
  (J_:σ->List Ah)(hg:ev L g=some (.func (.func gf) #[] lb.toArray))(eg:∀args w,(callFunc gf args).run P w=.ok (.enter gf args) w)(ht:Nat.blt t n=true)(a2:V3 P gf lb pre a0 y fin)(H:Sep z (J_ y++pre) w)
  (c:∀(ro:Option Nat) (i:σ) (v:Value) (f:σ),a0 i v f->∀w a,Fr n [] ((t,v)::L) a->
   RW P ro assign (Qp (λa1 w1=>w1=w/\∀(F:List Ah) (w:World),Sep z (J_ i++(pre++F)) w->RW P ro body (Qp (λ_ w3=>Sep z (J_ f++(pre++F)) w3) HL (λ_ _=>False)) a1 w) HL (λ_ _=>False)) a w)
  (K:∀D w' s,fin s->Sep z (YthbbejpbkglmlaaGreatDoor.bk D (.deferred (some []))::(J_ s++pre)) w'->∀a,Fr n (mark D::ds) L a->N a w'):
  ∀a,Fr n ds L a->(Code.rangeFunc g #[t] assign body).wp P (Qp N X R) a w:=by
 intro a r;refine (wpIn_wide (n:=0)).1 ?_;refine wpIn_rangeFunc ?_;intro fn _;have a6:Fence.wide.round=none:=rfl;rw[a6];obtain ⟨W1,k⟩:∃W1,(w.alloc (.deferred (some []))).alloc (BL .ready fn a.tmps t assign body w.heap.size)=W1:=⟨_,Z⟩;obtain ⟨D,hD⟩:∃D,D=w.heap.size:=⟨_,Z⟩;obtain ⟨T,hT⟩:∃T:List Ah,T=[YthbbejpbkglmlaaGreatDoor.bk D (.deferred (some [])),YthbbejpbkglmlaaGreatDoor.bk (D+1) (BL .ready fn a.tmps t assign body D)]:=⟨_,Z⟩;have H1:Sep z (pre++(T++J_ y)) W1:=by
  have h1:=H.new (b:=w.heap.size) (o:=.deferred (some [])) (CZ w (.deferred (some []))) (Ab9 _) (by show (w.heap.push _)[w.heap.size]?=_;simp);have h2:=h1.new (b:=w.heap.size+1) (o:=BL .ready fn a.tmps t assign body w.heap.size) (CZ _ (BL .ready fn a.tmps t assign body w.heap.size)) O (by
   show ((w.heap.push _).push _)[w.heap.size+1]?=_;rw[Ael,if_pos O])
  have h3:Sep z (YthbbejpbkglmlaaGreatDoor.bk (w.heap.size+1) (BL .ready fn a.tmps t assign body w.heap.size)::YthbbejpbkglmlaaGreatDoor.bk w.heap.size (.deferred (some []))::(J_ y++pre)) W1:=k▸h2;have h4:=(h3.pick 2 [1,0] Z);have h5:Sep z (T++(J_ y++pre)) W1:=by rw[hT,hD];exact h4
  exact (Sep.swap (As:=T++J_ y) (Bs:=pre) (by rw[AbK];exact h5))
 refine ⟨w.heap.size+1,[mark w.heap.size],W1,{target:=.fn (.func gf) lb.toArray,args:= #[.func (.yield (w.heap.size+1)) #[] #[]]},W1,gf,#[.func (.yield (w.heap.size+1)) #[] #[]]++lb.toArray,W1,?_,?_,λ_ _=>trivial,?_,λq=>(by cases q),?_⟩
 ·rw[<-k];exact run_enterLoop_outer _ _ _ _ _
 ·simp only[resolve,r.ev hg]
  simp[go_sem]
 ·simp[invoke,go_sem,eg]
 rw[<-hD] at k ⊢;have d:∀{G:List Ah} {i:σ} {w:World},Sep z (G++(T++J_ i)) w->Sep z (YthbbejpbkglmlaaGreatDoor.bk D (.deferred (some []))::YthbbejpbkglmlaaGreatDoor.bk (D+1) (BL .ready fn a.tmps t assign body D)::(J_ i++G)) w:=λh=>by
  have:=h.swap;rw[AbK,hT] at this;exact this
 have j:∀(G:List Ah) (i:σ) (w:World),Sep z (YthbbejpbkglmlaaGreatDoor.bk D (.deferred (some []))::YthbbejpbkglmlaaGreatDoor.bk (D+1) (BL .ready fn a.tmps t assign body D)::(J_ i++G)) w->Sep z (G++(T++J_ i)) w:=λG i w h=>by
  have h':Sep z (T++(J_ i++G)) w:=by rw[hT];exact h
  exact (Sep.swap (As:=T++J_ i) (Bs:=G) (by rw[AbK];exact h'))
 have a4:=a2 z (D+1) (λi=>T++J_ i) ?_ W1 H1
 ·refine CallsIn.mono (show CallsIn Fence.wide 0 P gf _ W1 _ from a4) ?_
  rintro e w2 ⟨⟨v,rfl⟩,s,hs,H2⟩;have H2:=d H2;refine ⟨none,_,run_endLoop (H2.bk 1 Z) O,?_⟩;refine K D _ s hs ?_ _ ⟨r.size,by show [mark D]++a.defers=_;rw[r.defers];rfl,r.get⟩;have H3:=H2.setObj 1 (.loop {state:=.exhausted,pending:=none,fn,tmps:=a.tmps,params:= #[t],assign,body,defers:=D}) Z;exact H3.pick 2 [0] Z
 intro i u f F hu w2 H2;rw[<-AbK] at H2;have H2:=d H2;have hy:=run_yield (P:=P) (args:=[u].toArray) (H2.bk 1 Z) O;refine ⟨fn,_,assign,body,hy,?_⟩;refine roundIn_of_wpIn (F:=FX none) trivial ?_;have a5:Fr n [] ((t,u)::L) {tmps:=(((#[t]:Array Tmp).zip [u].toArray).foldl (λtmps (x:Tmp×Value)=>tmps.setIfInBounds x.1 x.2) a.tmps),defers:=[]} :=by
  have h0:Fr n [] L {tmps:=a.tmps,defers:=[]} :=⟨r.size,Z,r.get⟩;have:=h0.put t u ht;simpa [Act.put] using this
 have hr:=c (some (D+1)) i u f hu w2 _ a5;refine wpIn_mono (show assign.wpIn ((FX none).inRound (D+1)) 0 P _ _ w2 from hr) ?_;intro e a1 w1 q
 cases e with
 | normal=>
  obtain ⟨rfl,m⟩:=q;refine ⟨_,run_beginRound (H2.bk 1 Z) Z,?_⟩;have H3:=H2.setObj 1 (BL .busy fn a.tmps t assign body D) Z;have H4:Sep z ([YthbbejpbkglmlaaGreatDoor.bk D (.deferred (some [])),YthbbejpbkglmlaaGreatDoor.bk (D+1) (BL .busy fn a.tmps t assign body D)]++(J_ i++(pre++F))) _:=H3;have H5:=H4.swap;rw[AbK,AbK] at H5;refine wpIn_mono (show body.wpIn ((FX none).inRound (D+1)) 0 P _ _ _ from m _ _ H5) ?_;intro e a3 w3 p
  cases e with
  | normal=>
   have H6:Sep z (J_ f++(pre++(F++[YthbbejpbkglmlaaGreatDoor.bk D (.deferred (some [])),YthbbejpbkglmlaaGreatDoor.bk (D+1) (BL .busy fn a.tmps t assign body D)]))) w3:=p;rw[<-AbK pre,<-AbK (J_ f)] at H6;have H7:Sep z (YthbbejpbkglmlaaGreatDoor.bk D (.deferred (some []))::YthbbejpbkglmlaaGreatDoor.bk (D+1) (BL .busy fn a.tmps t assign body D)::(J_ f++(pre++F))) w3:=H6.swap;refine ⟨_,_,run_endRound none (H7.bk 1 Z),Z,?_⟩;rw[<-AbK];refine j _ _ _ ?_;exact H7.setObj 1 (BL .ready fn a.tmps t assign body D) Z
  | exit id=>exact p.elim
  | ret=>exact p.elim
  | goto l=>exact p.elim
  | panic ch=>exact p.elim
  | outgrown=>exact p.elim
 | exit id=>exact q.elim
 | ret=>exact q.elim
 | goto l=>exact q.elim
 | panic ch=>exact q.elim
 | outgrown=>exact q.elim
theorem TD{P:Program}{N R:Act->World->Prop}{X:Nat->Act->World->Prop}{z w:World}{n:Nat}{ds:List Deferred}{L:List (Nat×Value)}{g:Operand}{t:Nat}{b f:Code}{gf:FuncId}{r:List Value}{pre:List Ah}{σ:Type}{j:σ->Value->σ->Prop}{p:σ}{fin:σ->Prop}
  (J_:σ->List Ah)(hg:ev L g=some (.func (.func gf) #[] r.toArray))(u:∀args w,(callFunc gf args).run P w=.ok (.enter gf args) w)(y:Nat.blt t n=true)(m:V3 P gf r pre j p fin)(H:Sep z (J_ p++pre) w)
  (d:∀(ro:Option Nat) (i:σ) (v:Value) (k:σ),j i v k->∀w a,Fr n [] ((t,v)::L) a->
   RW P ro b (Qp (λa1 o=>o=w/\∀(F:List Ah) (w:World),Sep z (J_ i++F) w->RW P ro f (Qp (λ_ w3=>Sep z (J_ k++F) w3) HL (λ_ _=>False)) a1 w) HL (λ_ _=>False)) a w)
  (K:∀D w' s,fin s->Sep z (YthbbejpbkglmlaaGreatDoor.bk D (.deferred (some []))::(J_ s++pre)) w'->∀a,Fr n (mark D::ds) L a->N a w'):
  ∀a,Fr n ds L a->(Code.rangeFunc g #[t] b f).wp P (Qp N X R) a w:=
 MA J_ hg u y m H (λro i v k h w a x=>by
  refine wpIn_mono (d ro i v k h w a x) ?_;intro e a1 o q
  cases e with
  | normal=>exact ⟨q.1,λF w hs=>q.2 _ w hs⟩
  | exit id=>exact q.elim
  | ret=>exact q.elim
  | goto l=>exact q.elim
  | panic c=>exact q.elim
  | outgrown=>exact q.elim) K
end
section
section
variable{P:Program}{C:World->Prop}{o:Oper}{a:Act}{w z:World}{Γ:List Ah}{n:Nat}{ds:List Deferred}{L:List (Nat×Value)}{v:Value}{x y:Operand}{xt yt:TypeId}{f:FuncId}{args:List Operand}{vs:List Value}{tys:Array TypeId}
theorem Ou{w':World}(g:Fr n ds L a)(d:o.op=.call {callee:=.value (.func f),args:=args.toArray,argTypes:=tys})(b:evs L args=some vs)(c:(callFunc f vs.toArray).run P w=.ok (.value v) w'):(execOp a.eval o).run P w=.ok (.value v) w':=by
 unfold execOp;have e:=g.evs b;simp only[d,resolve,Act.eval,Deferred.ofValue,invoke];simp only[go_sem,Ach,e,Ab3,Acw,c];simpa using c
theorem GF(d:o.op=.call {callee:=.value (.func f),args:=args.toArray,argTypes:=tys})(b:evs L args=some vs)(c:∀w,C w->(callFunc f vs.toArray).run P w=.ok (.value v) w):Ax P C n ds L o v:=λa g w e=>Ou g d b (c w e)
theorem PC(i:Nat){b p:Nat}{cs:List Value}{ty:TypeId}{u u0:Value}(H:Sep z Γ w)(h:Γ[i]?=some (blk b cs ty))(hp:cs[p]?=some u0)(k:o.op=.call {callee:=.value (.func f),args:=args.toArray,argTypes:=tys})(c:evs L args=some vs)(r:u.oneCell'=true)
  (j:w.cell? ⟨b,p,none⟩=some u0->w.frozen? ⟨b,p,none⟩=false->(callFunc f vs.toArray).run P w=.ok (.value v) (w.setCell ⟨b,p,none⟩ u)){out:List Value}(d:cs.set p u=out):BX P n ds L o w (λv' w'=>v'=v/\Sep z (Γ.set i (blk b out ty)) w'):=λa m=>by
 have e:=H.blk i h;refine ⟨v,_,Ou m k c (j (e.cel p hp) (e.free p)),Z,?_⟩;subst d;have g:w.heap[b]?=some (.cells cs.toArray ty (0,0)):=e;refine H.write i h Z Z Z ?_ (λq hq=>?_)
 ·simp only[World.setCell]
  rw[Adb,if_pos Z,g];simp
 simp[World.setCell,Adb,Ada hq]
def MB(P:Program)(s d:TypeId):Bool:=match P.underlying s,P.underlying d with
 | some (.pointer t),some .unsafePointer=>(match P.info? t with|some i=> !(decide (i.size=0))|none=>false)
 | _,_=>false
theorem MC{e:TypeId}{b p:Nat}{u:Value}(g:o.op=.convert xt e x)(c:MB P xt e=true)(h:ev L x=some (.pointer (some ⟨b,p,none⟩)))(m:∀w,C w->E6 b p u w):Ax P C n ds L o (.pointer (some ⟨b,p,none⟩)):=λa k w l=>by
 unfold MB at c;split at c
 ·rename_i t hs j
  split at c
  ·rename_i i f
   have d:(P.info? t).map (λi=>decide (i.size=0))=some false:=by rw[f];simpa using c
   have:=run_convert_to_unsafe (P:=P) hs j d (m w l);simp only[execOp,g,k.ev h,AbW,this,AbS,Ab2]
  cases c
 cases c
end

def V4(P:Program)(f:FuncId)(args:List Value)(pre:List Ah)(post:Value->List Ah->Prop):Prop:=
 ∀z R u w,Sep z (pre++R) w->CallsD P f args.toArray u w (λe u' w'=>u'=u/\Ret (λv w'=>∃Γ',post v Γ'/\Sep z (Γ'++R) w') e w')
theorem MD{P:Program}{f:FuncId}{d:Func}{c:Code}{args:List Value}{u:FrameMode}{w:World}{R:Value->World->Prop}(m:P.funcs[f]?=some d)(o:d.body=some c)(n:Nat)(k:d.ntmps=n)(b:Nat.ble args.length n=true)
  (h:∀a,Fr n [] (first 0 args) a->c.wp P (Qp (FP P d R) HL (FP P d R)) a w):CallsD P f args.toArray u w (λe u' w'=>u'=u/\Ret R e w'):=by
 refine callsD_of_wp m o (wp_mono (h _ (by rw[k];exact Fr.start args n (by simpa using b))) λe a w q=>?_)
 cases e with
 | normal=>obtain ⟨i,v,g,j⟩:=q;exact ⟨i,v,g,j⟩
 | ret=>obtain ⟨i,v,g,j⟩:=q;exact ⟨i,v,g,j⟩
 | exit id=>exact q.elim
 | goto l=>exact q.elim
 | panic ch=>exact q.elim
 | outgrown=>exact q.elim
def IH(P:Program)(fn:Func)(R:Value->World->Prop)(a:Act)(w:World):Prop:=Leaves P fn a.tmps (Ret R) a.defers .returning w
theorem Rk{P:Program}{f:FuncId}{d:Func}{c:Code}{args:List Value}{w:World}{R:Value->World->Prop}(i:P.funcs[f]?=some d)(j:d.body=some c)(n:Nat)(g:d.ntmps=n)(b:Nat.ble args.length n=true)
  (h:∀a,Fr n [] (first 0 args) a->c.wp P (Qp (IH P d R) HL (IH P d R)) a w):Calls P f args.toArray w (Ret R):=by
 refine calls_of_wp_defers i j (wp_mono (h _ (by rw[g];exact Fr.start args n (by simpa using b))) λe a w q=>?_)
 cases e with
 | normal=>exact q
 | ret=>exact q
 | exit id=>exact q.elim
 | goto l=>exact q.elim
 | panic ch=>exact q.elim
 | outgrown=>exact q.elim
def dfr(f:FuncId)(vs:List Value):Deferred:= {target:=.fn (.func f) #[],args:=vs.toArray}
theorem Gm{P:Program}{d:Func}{a:Array Value}{Rr:Ending->World->Prop}{ds:List Deferred}{z w:World}{Γ pre R':List Ah}{post:Value->List Ah->Prop}{f:FuncId}{vs:List Value}(g:∀w,(callFunc f vs.toArray).run P w=.ok (.enter f vs.toArray) w)
  (j:V4 P f vs pre post)(H:Sep z Γ w)(k:Nat)(c:List Nat)(b:Gh k c=true)(e:Dv Γ c++Γ.drop k=pre++R')(K:∀v w' Γ',post v Γ'->Sep z (Γ'++R') w'->Leaves P d a Rr ds .returning w'):Leaves P d a Rr (dfr f vs::ds) .returning w:=by
 refine leaves_cons (f:=f) (args:=vs.toArray) O (by simp[invoke,go_sem,g]) ?_;refine CallsD.mono (j z R' .returning w (H.perm k c b e)) λe l w' q=>?_;obtain ⟨rfl,q⟩:=q
 cases e with
 | returned v=>obtain ⟨Γ',i,h⟩:=q;exact K v w' Γ' i h
 | panicked ch=>exact q.elim
 | outgrown=>exact q.elim
theorem AaM{P:Program}{b:Func}{R:Value->World->Prop}{a:Array Value}{w:World}(c:b.results= #[])(h:R (.tuple #[]) w):Leaves P b a (Ret R) [] .returning w:=⟨.tuple #[],by simp[results,c,go_sem],h⟩
section
variable{P:Program}{ops:List Oper}{Q:Exit->Act->World->Prop}{w:World}{rest:List Oper}{o:Oper}{n:Nat}{ds:List Deferred}{L:List (Nat×Value)}{f:FuncId}{args:List Operand}{vs:List Value}{tys:Array TypeId}
theorem KC(i:BJ ops L o.guard=true)(g:o.dst=none)(h:o.op=.defer {callee:=.value (.func f),args:=args.toArray,argTypes:=tys})(b:evs L args=some vs)
  (K:∀a',Fr n (dfr f vs::ds) L a'->wpList P ops.toArray Q rest a' w):∀a,Fr n ds L a->wpList P ops.toArray Q (o::rest) a w:=by
 intro a c;unfold wpList;rw[if_pos (wantL_ok c i)];left;have e:=c.evs b;have d:(execOp a.eval o).run P w=.ok (.defer (dfr f vs)) w:=by
  unfold execOp;simp only[h,resolve,Act.eval,Deferred.ofValue,Ach,e];simp[go_sem,dfr]
 unfold Oper.wp;rw[d,Oper.upon_defer,g];exact K _ ⟨c.size,by show dfr f vs::a.defers=_;rw[c.defers],c.get⟩
theorem W3{z:World}{Γ pre R':List Ah}{post:Value->List Ah->Prop}{d:Nat}{x:Operand}{bs:List Value}(hw:BJ ops L o.guard=true)(y:o.dst=some d)(j:Nat.blt d n=true)(t:o.op=.call {callee:=.value x,args:=args.toArray,argTypes:=tys})(u:ev L x=some (.func (.func f) bs.toArray #[]))(b:evs L args=some vs)(m:∀w,(callFunc f (bs++vs).toArray).run P w=.ok (.enter f (bs++vs).toArray) w)
  (s:Cn P f (bs++vs) pre post)(H:Sep z Γ w)(k:Nat)(l:List Nat)(i:Gh k l=true)(e:Dv Γ l++Γ.drop k=pre++R')
  (K:∀v w' Γ',post v Γ'->Sep z (Γ'++R') w'->∀a',Fr n ds ((d,v)::L) a'->wpList P ops.toArray Q rest a' w'):∀a,Fr n ds L a->wpList P ops.toArray Q (o::rest) a w:=by
 intro a h;unfold wpList;rw[if_pos (wantL_ok h hw)];left;have r:=h.evs b;have e2:=h.ev u;have g:(execOp a.eval o).run P w=.ok (.enter f (bs++vs).toArray) w:=by
  unfold execOp;simp only[t,resolve,e2,Deferred.ofValue,invoke];simp only[go_sem,Ach,r,Acw];simpa using m w
 unfold Oper.wp;rw[g,AeH];exact Aed (s.at H k l i e) λe w' q=>by
  cases e with
  | returned v=>obtain ⟨Γ',q1,p⟩:=q;simp only[y];exact K v w' Γ' q1 p _ (h.put d v j)
  | panicked c=>exact q.elim
  | outgrown=>exact q.elim
end
end
section
section
variable{P:Program}{C:World->Prop}{o:Oper}{w z:World}{Γ:List Ah}{n:Nat}{ds:List Deferred}{L:List (Nat×Value)}{x y:Operand}
theorem CI{t e:TypeId}{m clk:Nat}{l:List IE}{k:Int}{zv:Value}(h:o.op=.lookup t x y true)(v:Er P t=some e)(c:(P.info? e).bind (·.zero)=some zv)(p:ev L x=some (.map (some m)))(z:ev L y=some (Aa k))
  (r:∀w,C w->w.heap[m]?=some (.map (l.map Cg).toArray clk)):Ax P C n ds L o (.tuple #[(Cw l k).getD zv,.bool (Cq l k)]):=λa g w s=>by
 obtain ⟨kt,ik,j,f⟩:=DD v;have d:(zeroValue e).run P w=.ok zv w:=by
  cases hi:P.info? e with
  | none=>rw[hi] at c;cases c
  | some i=>rw[hi] at c;simp[zeroValue,typeInfo,hi,show i.zero=some zv from c,go_sem]
 have u:(getObj m).run P w=.ok (.map (l.map Cg).toArray clk) w:=by simp[getObj,Sem.run,r w s]
 have b:=IA l k 0;simp only[execOp,h,g.ev p,g.ev z,Instr.lookup,AbW,run_underlying j,AbS,u,Ab2,DY f,Ac6,Es f]
 cases hf:fnd l k 0 with
 | none=>rw[hf] at b;simp[d,Cq,<-b,AbW,Ab2]
 | some q=>rw[hf] at b;simp[Cq,<-b,Ab2]
theorem PD{t e:TypeId}{k:Int}{zv:Value}(h:o.op=.lookup t x y true)(m:Er P t=some e)(c:(P.info? e).bind (·.zero)=some zv)(l:ev L x=some (.map none))(p:ev L y=some (Aa k)):Ax P C n ds L o (.tuple #[zv,.bool false]):=λa g w s=>by
 obtain ⟨r,q,j,f⟩:=DD m;have d:(zeroValue e).run P w=.ok zv w:=by
  cases hi:P.info? e with
  | none=>rw[hi] at c;cases c
  | some i=>rw[hi] at c;simp[zeroValue,typeInfo,hi,show i.zero=some zv from c,go_sem]
 have b:=Es (P:=P) f [] k w;simp only[AcP,fnd] at b;simp only[execOp,h,g.ev l,g.ev p,Instr.lookup,AbW,run_underlying j,AbS,Ab2,DY f,b];simp[d,AbW,Ab2]
theorem ME{t e:TypeId}{m clk:Nat}{l:List IE}(g:o.op=.call {callee:=.builtin .len,args:= #[x],argTypes:= #[t]})(i:Er P t=some e)(b:ev L x=some (.map (some m)))(d:∀w,C w->w.heap[m]?=some (.map (l.map Cg).toArray clk)):Ax P C n ds L o (Aa l.length):=λa f w h=>by
 obtain ⟨p,k,c,j⟩:=DD i;simp only[execOp,g,f.ev b,resolve,Ach,Aca,AcP];simp[invoke,builtin,Builtin.len_,run_underlying c,goInt,go_sem,getObj,Sem.run,d w h]
theorem EM{t:TypeId}{vs:List Value}{i:Int}{k:IntKind}{j m:Nat}{u:Value}(r:o.op=.index t x y)(d:IB P t=some m)(z:ev L x=some (.agg vs.toArray))(hm:vs.length=m)(l:ev L y=some (.int k i))(c:i=j)(g:vs[j]?=some u):Ax P C n ds L o u:=λa h w _=>by
 obtain ⟨e,i0,d,q,p,s⟩:=JS d;subst c;have hj:j<vs.length:=(AbE.1 g).1;have v:(0:Int)<=(j:Int)/\(j:Int)<(m:Int):=by omega
 have b:(part e vs.toArray (j*1)).run P w=.ok u w:=by
  simp only[part,AbW,Gf s,AbS,if_false,AcI,AcD,AcA,g,Ab2]
 have f:(sizeOf e).run P w=.ok 1 w:=by simp[sizeOf,typeInfo,q,p,go_sem]
 simp only[execOp,r,h.ev z,h.ev l,Instr.index,asIntOf,AbW,Ab2,AbS,run_underlying d,if_pos v,Acg,f,b]
theorem Jk{c:Code}{N R:Act->World->Prop}{X:Nat->Act->World->Prop}(m:Nat)(h:∀a,Fr n ds L a->Code.rounds P c (Qp N X R) m a w):∀a,Fr n ds L a->(Code.loop c).wp P (Qp N X R) a w:=λa b=>wp_loop_rounds m (h a b)
theorem W4{c:Code}{N R:Act->World->Prop}{X:Nat->Act->World->Prop}{m:Nat}(h:∀a,Fr n ds L a->c.wp P (Qp (λa w=>Code.rounds P c (Qp N X R) m a w) X R) a w):∀a,Fr n ds L a->Code.rounds P c (Qp N X R) (m+1) a w:=λa b=>by
 rw[rounds_succ];refine wp_mono (h a b) λe a w q=>?_;cases e<;>exact q
theorem EW{c:Code}{N R:Act->World->Prop}{X:Nat->Act->World->Prop}{m:Nat}(h:∀a,Fr n ds L a->BH P (λa w=>Code.rounds P c (Qp N X R) m a w) X R (.c c .fin) a w):∀a,Fr n ds L a->Code.rounds P c (Qp N X R) (m+1) a w:=W4 h
end
theorem PE{P:Program}{b:Func}{R:Value->World->Prop}{n:Nat}{ds:List Deferred}{L:List (Nat×Value)}{a:Act}{w:World}(f:Fr n ds L a){rs:List ResultVar}(c:b.results=rs.toArray)(vs:List Value)(d:Eq P L w rs vs){v:Value}(e:Gz vs=v)(h:R v w):Leaves P b a.tmps (Ret R) [] .returning w:=⟨v,by rw[<-e];exact GK f c d,h⟩
end
abbrev stB(ps pd pt:Nat)(x:Sup)(lp:Value)(md:Nat)(un:Bool)(mo:Value):Ah:=blk ps [.pointer (some ⟨pd,0,none⟩),.pointer (some ⟨pt,0,none⟩),.int .i64 x.gen,.int .i64 x.epoch,.int .i64 x.pages,.int .i64 x.start,.int .i64 x.len,.int .i64 x.head,.int .i64 x.seq,lp,.map (some md),.bool un,mo] 97
abbrev lgB(pl pd pt:Nat)(s:Sup)(a q u:Int)(b nu:Bool):Ah:=blk pl [.pointer (some ⟨pd,0,none⟩),.pointer (some ⟨pt,0,none⟩),.int .i64 s.gen,.int .i64 s.epoch,.int .i64 s.pages,.int .i64 s.start,.int .i64 s.len,.int .i64 s.head,.int .i64 s.seq,.int .i64 a,.int .i64 q,.int .i64 u,.bool b,.bool nu] 191
theorem BP:Elt prog 3 (Aa 0) 1 8:=Elt.mk J Z U U
theorem Bf:Elt prog 5 (u8 0) 1 1:=Elt.mk J Z U U
theorem Ov:Elt prog 4 (.bool false) 1 1:=Elt.mk J Z U U
theorem LP:Elt prog 43 (.agg #[Aa 0,Aa 0,Aa 0,Aa 0,Aa 0,.slice none 0 0]) 6 64:=Elt.mk J Z U U
theorem Rl:Elt prog 40 (.agg #[Aa 0,.slice none 0 0]) 2 32:=Elt.mk J Z U U
theorem F0:Elt prog 38 (.slice none 0 0) 1 24:=Elt.mk J Z U U
theorem CR:Elt prog 116 (.agg #[Aa 0,.slice none 0 0]) 2 32:=Elt.mk J Z U U
theorem A5:Elt prog 118 (.agg #[Aa 0,Aa 0,.slice none 0 0]) 3 40:=Elt.mk J Z U U
theorem DQ:Elt prog 135 (.agg #[.slice none 0 0,.slice none 0 0]) 2 48:=Elt.mk J Z U U
theorem Fd:Elt prog 207 (.agg #[Aa 0,Aa 0,Aa 0,Aa 0,Aa 0,Aa 0]) 6 48:=Elt.mk J Z U U
theorem C6(x m:Int):Aj 122 [Aa x,Aa m] [] (λv G=>v=.bool (decide (0<=x/\x<=m))/\G=[]):=by
 intro z R w H;refine Ac func122 Z ntmps122 Z (Z0 10 [0] Z (Ak 7 Z (λa=>?_) (λa=>?_)))
 ·refine Z0 8 [0] Z (Zr Z ?_);exact ⟨_,⟨congrArg Value.bool (by rw[Ab0];simp<;>omega),Z⟩,H⟩
 refine Zc 8 Z (Zr Z ?_);exact ⟨_,⟨congrArg Value.bool (by rw[Ab0];simp<;>omega),Z⟩,H⟩
theorem J5(pd bd m N:Nat)(f0 e d b c:Int)(a:Bool)(hN:N<=9223372036854775807):Aj 127 [V pd] [blk pd [.slice (some ⟨bd,0,none⟩) N N,.map (some m),Aa f0,Aa e,Aa d,Aa b,.bool a,Aa c] 106] (λv G=>v=Aa ((N:Int)/256)/\G=[blk pd [.slice (some ⟨bd,0,none⟩) N N,.map (some m),Aa f0,Aa e,Aa d,Aa b,.bool a,Aa c] 106]):=by
 intro z R w H;refine Ac func127 Z ntmps127 Z (Z3 17 [0,0,0] [(N:Int)/256] H Z U (Zr Z ?_));exact ⟨_,⟨Z,Z⟩,H⟩
theorem Ow(pd bd m N:Nat)(f0 e d b c:Int)(a:Bool)(x k:Int)(hN:N<=9223372036854775807):Aj 116 [V pd,Aa x,Aa k] [blk pd [.slice (some ⟨bd,0,none⟩) N N,.map (some m),Aa f0,Aa e,Aa d,Aa b,.bool a,Aa c] 106] (λv G=>v=.bool (decide (0<=x/\0<k/\x<(N:Int)/256/\k<=(N:Int)/256-x))/\G=[blk pd [.slice (some ⟨bd,0,none⟩) N N,.map (some m),Aa f0,Aa e,Aa d,Aa b,.bool a,Aa c] 106]):=by
 intro z R w H;refine Ac func116 Z ntmps116 Z (Z0 10 [0] Z (Ak 9 Z (λh=>?_) (λh=>?_)))
 ·refine Z0 4 [0] Z (Ak 13 Z (λf=>?_) (λf=>?_))
  ·refine Zc 2 Z (Ai Z (call127 _) (J5 _ _ _ _ _ _ _ _ _ _ U) H ?_);intro w H;refine Z0 3 [0] Z (Ak 19 Z (λg=>?_) (λg=>?_))
   ·refine Zc 2 Z (Ai Z (call127 _) (J5 _ _ _ _ _ _ _ _ _ _ U) H ?_);intro w H;refine Z1 8 [0] [((N:Int)/256)-x] Z U (Zr Z ?_);exact ⟨_,⟨congrArg Value.bool (by first|(rw[eq_comm,decide_eq_false_iff_not];omega)|(rw[Ab0];simp<;>omega)),Z⟩,H⟩
   refine Zc 11 Z (Zr Z ?_);exact ⟨_,⟨congrArg Value.bool (by first|(rw[eq_comm,decide_eq_false_iff_not];omega)|(rw[Ab0];simp<;>omega)),Z⟩,H⟩
  refine Zc 17 Z (Zr Z ?_);exact ⟨_,⟨congrArg Value.bool (by first|(rw[eq_comm,decide_eq_false_iff_not];omega)|(rw[Ab0];simp<;>omega)),Z⟩,H⟩
 refine Zc 21 Z (Zr Z ?_);exact ⟨_,⟨congrArg Value.bool (by first|(rw[eq_comm,decide_eq_false_iff_not];omega)|(rw[Ab0];simp<;>omega)),Z⟩,H⟩
theorem Rm(pd bd m N:Nat)(f0 e d c b:Int)(a:Bool):Aj 124 [V pd] [blk pd [.slice (some ⟨bd,0,none⟩) N N,.map (some m),Aa f0,Aa e,Aa d,Aa c,.bool a,Aa b] 106] (λv G=>v=.bool (a&&decide (b=0))/\G=[blk pd [.slice (some ⟨bd,0,none⟩) N N,.map (some m),Aa f0,Aa e,Aa d,Aa c,.bool a,Aa b] 106]):=by
 intro z R w H;refine Ac func124 Z ntmps124 Z (Z2 12 [6,0,0] H Z (Mc 7 Z (λf=>?_) (λf=>?_)))
 ·refine Z2 10 [7,0,0,0] H Z (Zr Z ?_);exact ⟨_,⟨congrArg Value.bool (by simp_all),Z⟩,H⟩
 refine Zc 10 Z (Zr Z ?_);exact ⟨_,⟨congrArg Value.bool (by simp_all),Z⟩,H⟩
theorem TE(pd bd m N:Nat)(f0 b e c d:Int)(a:Bool)(g:0<=b/\b<=9223372036854775807):Aj 117 [V pd,Aa 1] [blk pd [.slice (some ⟨bd,0,none⟩) N N,.map (some m),Aa f0,Aa b,Aa e,Aa c,.bool a,Aa d] 106] (λv G=>v=.bool (decide (b=1))/\G=[blk pd [.slice (some ⟨bd,0,none⟩) N N,.map (some m),Aa f0,Aa (if b=0 then 0 else b-1),Aa e,Aa c,.bool a,Aa d] 106]):=by
 intro z R w H;refine Ac func117 Z ntmps117 Z (Z3 17 [2,4,1,1,3,0,0,0] [] H Z U (Ag Z (λh=>?_) (λh=>?_)))
 ·refine Zc 6 Z (Zr Z ?_);exact ⟨[blk pd [.slice (some ⟨bd,0,none⟩) N N,.map (some m),Aa f0,Aa b,Aa e,Aa c,.bool a,Aa d] 106],⟨congrArg Value.bool (by first|(rw[Ab0];simp<;>omega)|(simp_all<;>omega)),by simp_all⟩,H⟩
 refine Zc 3 Z (Bh 10 J J (A4 H λw f=>?_));have H:=f.l1;refine CL 10 [2,4,1,1,3,0,0,2,4,1,1,3] [b-1] H Z J U (BY (gw (Z5 16 [0,2,4,1,1,3,0,0,0] [] H Z U ?_)));intro w H;refine Zr Z ?_;exact ⟨[blk pd [.slice (some ⟨bd,0,none⟩) N N,.map (some m),Aa f0,Aa (b-1),Aa e,Aa c,.bool a,Aa d] 106],⟨congrArg Value.bool (by first|(rw[Ab0];simp<;>omega)|(simp_all<;>omega)),by simp_all⟩,H⟩
theorem TF(pd bd m N:Nat)(f0 e b c d:Int)(a:Bool)(f:0<=b/\b<=9223372036854775807):Aj 117 [V pd,Aa 2] [blk pd [.slice (some ⟨bd,0,none⟩) N N,.map (some m),Aa f0,Aa e,Aa b,Aa c,.bool a,Aa d] 106] (λv G=>v=.bool (decide (b=1))/\G=[blk pd [.slice (some ⟨bd,0,none⟩) N N,.map (some m),Aa f0,Aa e,Aa (if b=0 then 0 else b-1),Aa c,.bool a,Aa d] 106]):=by
 intro z R w H;refine Ac func117 Z ntmps117 Z (Z3 17 [2,4,1,2,4,0,0,0] [] H Z U (Ag Z (λh=>?_) (λh=>?_)))
 ·refine Zc 6 Z (Zr Z ?_);exact ⟨[blk pd [.slice (some ⟨bd,0,none⟩) N N,.map (some m),Aa f0,Aa e,Aa b,Aa c,.bool a,Aa d] 106],⟨congrArg Value.bool (by first|(rw[Ab0];simp<;>omega)|(simp_all<;>omega)),by simp_all⟩,H⟩
 refine Zc 3 Z (Bh 10 J J (A4 H λw g=>?_));have H:=g.l1;refine CL 10 [2,4,1,2,4,0,0,2,4,1,2,4] [b-1] H Z J U (BY (gw (Z5 16 [0,2,4,1,2,4,0,0,0] [] H Z U ?_)));intro w H;refine Zr Z ?_;exact ⟨[blk pd [.slice (some ⟨bd,0,none⟩) N N,.map (some m),Aa f0,Aa e,Aa (b-1),Aa c,.bool a,Aa d] 106],⟨congrArg Value.bool (by first|(rw[Ab0];simp<;>omega)|(simp_all<;>omega)),by simp_all⟩,H⟩
theorem TG(pd bd m N:Nat)(f0 e d a c:Int)(b:Bool)(f:0<=a/\a<=9223372036854775807):Aj 117 [V pd,Aa 3] [blk pd [.slice (some ⟨bd,0,none⟩) N N,.map (some m),Aa f0,Aa e,Aa d,Aa a,.bool b,Aa c] 106] (λv G=>v=.bool (decide (a=1))/\G=[blk pd [.slice (some ⟨bd,0,none⟩) N N,.map (some m),Aa f0,Aa e,Aa d,Aa (if a=0 then 0 else a-1),.bool b,Aa c] 106]):=by
 intro z R w H;refine Ac func117 Z ntmps117 Z (Z3 17 [2,4,1,3,5,0,0,0] [] H Z U (Ag Z (λh=>?_) (λh=>?_)))
 ·refine Zc 6 Z (Zr Z ?_);exact ⟨[blk pd [.slice (some ⟨bd,0,none⟩) N N,.map (some m),Aa f0,Aa e,Aa d,Aa a,.bool b,Aa c] 106],⟨congrArg Value.bool (by first|(rw[Ab0];simp<;>omega)|(simp_all<;>omega)),by simp_all⟩,H⟩
 refine Zc 3 Z (Bh 10 J J (A4 H λw g=>?_));have H:=g.l1;refine CL 10 [2,4,1,3,5,0,0,2,4,1,3,5] [a-1] H Z J U (BY (gw (Z5 16 [0,2,4,1,3,5,0,0,0] [] H Z U ?_)));intro w H;refine Zr Z ?_;exact ⟨[blk pd [.slice (some ⟨bd,0,none⟩) N N,.map (some m),Aa f0,Aa e,Aa d,Aa (a-1),.bool b,Aa c] 106],⟨congrArg Value.bool (by first|(rw[Ab0];simp<;>omega)|(simp_all<;>omega)),by simp_all⟩,H⟩
theorem V5(pd bd m N:Nat)(f0 e d b c:Int)(a:Bool)(i:Nat)(hN:N<=9223372036854775807)(f:(i+1)*256<=N):Aj 72 [V pd,Aa (i:Int)] [blk pd [.slice (some ⟨bd,0,none⟩) N N,.map (some m),Aa f0,Aa e,Aa d,Aa b,.bool a,Aa c] 106] (λv G=>v=.slice (some ⟨bd,i*256,none⟩) 256 (N-i*256)/\G=[blk pd [.slice (some ⟨bd,0,none⟩) N N,.map (some m),Aa f0,Aa e,Aa d,Aa b,.bool a,Aa c] 106]):=by
 intro z R w H;refine Ac func72 Z ntmps72 Z (Z3 16 [0,0,0] [(i:Int)*256,(i:Int)+1,((i:Int)+1)*256] H Z U (Ad Z (Bj Z (z:=1) (p:=(i*256)) (q:=((i+1)*256)) (o':=i*256) (l':=256) (c':=N-i*256) J Z (.inr ⟨_,_,_,Z,Z,U⟩) (.inr ⟨_,_,_,Z,Z,U⟩) U U U U U U) (Zc 4 Z (Zr Z ?_))));exact ⟨_,⟨Z,Z⟩,H⟩
theorem W5(pt i:Nat)(a x2:Value):Aj 254 [.pointer (some ⟨pt,1,none⟩)] [blk pt (BB a (.int .i32 0) x2 i) 185] (λv G=>v=.tuple #[]/\G=[blk pt (BB a (.int .i32 1) x2 i) 185]):=by
 intro z R w H;refine Ac func254 Z ntmps254 Z (Zc 2 Z (Ad Z (GF (v:=.tuple #[]) (vs:=[]) Z Z (λw _=>run_call_mark0 func258 J J J .disable J w)) (Z0 8 [1] Z (AG Z (PC 0 (p:=1) (u0:=.int .i32 0) (u:=.int .i32 1) (v:=.bool true) H Z Z Z (vs:=[.pointer (some ⟨pt,1,none⟩),.int .i32 0,.int .i32 1]) Z Z (λc b=>run_call_cas_hit func259 J J J .i32 J c b) (out:=(BB a (.int .i32 1) x2 i)) Z) ?_))));rintro _ w ⟨rfl,H⟩;refine Zc 7 Z (Ad Z (GF (v:=.tuple #[]) (vs:=[]) Z Z (λw _=>run_call_mark0 func260 J J J .enable J w)) (Zc 4 Z (Ad Z (MC Z J Z (AB (H.cel 0 Z 1 Z))) (Ad Z (GF (v:=.tuple #[]) (vs:=[.pointer (some ⟨pt,1,none⟩)]) Z Z (λw _=>run_call_marked func261 J J J .acquire J _ w)) (Zc 3 Z (Zr Z ?_))))));exact ⟨_,⟨Z,Z⟩,H⟩
theorem Rn(pt i:Nat)(a x2:Value):Aj 255 [.pointer (some ⟨pt,1,none⟩)] [blk pt (BB a (.int .i32 1) x2 i) 185] (λv G=>v=.tuple #[]/\G=[blk pt (BB a (.int .i32 0) x2 i) 185]):=by
 intro z R w H;refine Ac func255 Z ntmps255 Z (Z2 13 [1,0,0] H Z (Ad Z (MC Z J Z (AB (H.cel 0 Z 1 Z))) (Ad Z (GF (v:=.tuple #[]) (vs:=[.pointer (some ⟨pt,1,none⟩)]) Z Z (λw _=>run_call_marked func263 J J J .releaseMerge J _ w)) (Zc 3 Z (Ad Z (GF (v:=.tuple #[]) (vs:=[]) Z Z (λw _=>run_call_mark0 func258 J J J .disable J w)) (Z0 7 [1] Z (AG Z (PC 0 (p:=1) (u0:=.int .i32 1) (u:=.int .i32 0) (v:=.int .i32 0) H Z Z Z (vs:=[.pointer (some ⟨pt,1,none⟩),.int .i32 (-1)]) Z Z (λc b=>run_call_add func264 J J J .i32 J (s:=0) c b (by simp[go_sem];rfl)) (out:=(BB a (.int .i32 0) x2 i)) Z) ?_)))))));rintro _ w ⟨rfl,H⟩;refine Z0 14 [4] Z (Ad Z (GF (v:=.tuple #[]) (vs:=[]) Z Z (λw _=>run_call_mark0 func260 J J J .enable J w)) (Zc 1 Z (Zf Z ?_)));exact ⟨_,⟨Z,Z⟩,H⟩
theorem Zj(pt i:Nat)(a x2:Value):Aj 249 [.pointer (some ⟨pt,1,none⟩)] [blk pt (BB a (.int .i32 0) x2 i) 185] (λv G=>v=.tuple #[]/\G=[blk pt (BB a (.int .i32 1) x2 i) 185]):=by
 intro z R w H;refine Ac func249 Z ntmps249 Z (Z0 4 [1] Z (Ai Z (call254 _) (W5 _ _ _ _) H ?_));intro w H;refine Zc 1 Z (Zf Z ?_);exact ⟨_,⟨Z,Z⟩,H⟩
theorem TH(pt i:Nat)(b x2:Value):V4 prog 250 [.pointer (some ⟨pt,1,none⟩)] [blk pt (BB b (.int .i32 1) x2 i) 185] (λv G=>v=.tuple #[]/\G=[blk pt (BB b (.int .i32 0) x2 i) 185]):=by
 intro z R u w a;have H:=a.l1;refine MD func250 Z 6 ntmps250 Z (AI (Lb 3 [1] Z J (Fj Z Z Z Z Z (λw=>call255 _ w) (Rn _ _ _ _) H Z ?_)));rintro _ w _ ⟨rfl,rfl⟩ a;have H:=a.l1;refine AP (YR Z ?_);exact ⟨[blk pt (BB b (.int .i32 0) x2 i) 185],⟨Z,Z⟩,H⟩
theorem AaN:Aj 257 [.bool true] [] (λv G=>v=.int .u32 1/\G=[]):=by
 intro z R w H;refine Ac func257 Z ntmps257 Z (Zc 18 Z (Zr Z ?_));exact ⟨_,⟨Z,Z⟩,H⟩
theorem MF(pt i:Nat)(a x2:Value):Aj 240 [V pt] [blk pt (BB (.int .u32 0) a x2 i) 185] (λv G=>v=.bool false/\G=[blk pt (BB (.int .u32 0) a x2 i) 185]):=by
 intro z R w H;refine Ac func240 Z ntmps240 Z (Z0 10 [0] Z (Ad Z (GF (v:=.int .u32 0) (vs:=[V pt]) Z Z (AB (run_call_load func248 J J J .u32 J (H.cel 0 Z 0 Z)))) (Z0 5 [4] Z (Zr Z ?_))));exact ⟨_,⟨Z,Z⟩,H⟩
theorem TI(pt i:Nat)(a x2:Value):Aj 240 [V pt] [blk pt (BB (.int .u32 1) a x2 i) 185] (λv G=>v=.bool true/\G=[blk pt (BB (.int .u32 1) a x2 i) 185]):=by
 intro z R w H;refine Ac func240 Z ntmps240 Z (Z0 10 [0] Z (Ad Z (GF (v:=.int .u32 1) (vs:=[V pt]) Z Z (AB (run_call_load func248 J J J .u32 J (H.cel 0 Z 0 Z)))) (Z0 5 [3] Z (Zr Z ?_))));exact ⟨_,⟨Z,Z⟩,H⟩
theorem TJ(pt i:Nat)(b x2:Value):V4 prog 251 [V pt,.bool true] [blk pt (BB (.int .u32 0) b x2 i) 185] (λv G=>v=.tuple #[]/\G=[blk pt (BB (.int .u32 1) b x2 i) 185]):=by
 intro z R u w a;have H:=a.l1;refine MD func251 Z 10 ntmps251 Z (AK (Sep z (blk pt (BB (.int .u32 0) b x2 i) 185::R)) 6 Z J (A4 H λw a=>?_));have H:=a.l1;refine A6 [0,1,2,3] [0] J (λ_ _=>AJ) (by exact H.pick 1 [0] Z) Z J Z Z (An [4] J O (Ar (Ba Z Z Z Z Z Z (λw=>call257 _ w) (AaN) H Z ?_)));rintro _ w _ ⟨rfl,rfl⟩ a;have H:=a.l1;refine Am (λ_=>(H.pick 1 [0] Z)) (An [5] J O (Ar (Ck Z Z Z Z (PC 0 (p:=0) (u0:=.int .u32 0) (u:=.int .u32 1) (v:=.tuple #[]) H Z Z Z (vs:=[V pt,.int .u32 1]) Z Z (λd c=>run_call_store func256 J J J J d c) (out:=(BB (.int .u32 1) b x2 i)) Z) ?_)));rintro _ w ⟨rfl,a⟩;have H:=a.l1;refine Am (λh=>absurd Z h) (AT J (YR Z ?_));exact ⟨[blk pt (BB (.int .u32 1) b x2 i) 185],⟨Z,Z⟩,H⟩
theorem Zk(pt:Nat)(b c x2:Value):Aj 217 [V pt] [blk pt (BB b c x2 0) 185] (λv G=>v=.tuple #[]/\G=[blk pt (BB b c x2 256) 185]):=by
 intro z R w H;refine Ac func217 Z ntmps217 Z (Zc 6 Z ?_);refine Ay (σ:=Nat) (λi=>[(4,Aa (i:Int)),(0,V pt)])
   (λi w=>Sep z (blk pt (BB b c x2 i) 185::R) w/\(i<=256)) (λi=>256-i) 0
   fr_z ⟨H,by omega⟩ ?_
 clear H;rintro i w ⟨e,d⟩;have H:=e.l1;have g:=d;clear d;refine Z0 6 [0] Z (Ag Z (λk=>?_) (λk=>?_))
 ·have f:i<256:=by omega
  refine Zc 13 Z (Ad Z (HS Z J Z) (Zc 10 Z ?_));refine Ay (σ:=Nat) (λj=>[(9,Aa (j:Int)),(3,u32 (Cy j (DS (i:Int)))),(0,V pt),(2,Aa (i:Int)),(4,Aa (i:Int)),(5,.bool (decide ((i:Int)<256))),(6,Aa (i:Int)),(7,Aa (i:Int)),(8,u32 (DS (i:Int)))])
    (λj w=>Sep z (blk pt (BB b c x2 i) 185::R) w/\(j<=8)) (λj=>8-j) 0
    (λ_ a=>(a.co Z (by go_num) a.cz)) ⟨H,by omega⟩ ?_
  clear H;rintro j w ⟨e,d⟩;have H:=e.l1;have l:=d;clear d;refine Z0 6 [0] Z (Ag Z (λh=>?_) (λh=>?_))
  ·refine Zc 6 Z (Ad Z (F5 Z Z (m:=1) (n':=1) Z (by decide)) (Zc 1 Z (Ad Z (Wz (q:=1) Z Z Z) (Ad Z (WA (q:=2197175160) Z Z Z) (Ad Z (Ix Z Z Z) (Z1 8 [] [(j:Int)+1] Z U (gf ?_)))))));intro _ a;refine ⟨(j+1),(a.co Z (by go_num) a.cz),⟨H,?_⟩,?_⟩
   ·omega
   omega
  obtain rfl:j=8:=by omega
  refine Zc 2 Z (gx (Z1 9 [3,256,1,i,3+i] [] Z U (A9 Z Z (AD 0 H Z Z Z Z (vs:=[u32 (Cy 8 (DS (i:Int)))]) Z (by simp[u32,Value.oneCell']) J (by rw[Ti _ _ _ U];simp;omega) (out:=BB b c x2 (i+1)) (by have:=Q0 b c x2 f;simpa using this)) ?_)));rintro w H;refine Z1 7 [] [(i:Int)+1] Z U (gf ?_);intro _ a;refine ⟨(i+1),a.cz,⟨H,?_⟩,?_⟩
  ·omega
  omega
 refine Zc 2 Z (gx (Zc 1 Z (Zf Z ?_)));obtain rfl:i=256:=by omega
 exact ⟨_,⟨Z,Z⟩,H⟩
theorem Zm(pt:Nat):Aj 241 [V pt,.func (.func 217) #[V pt] #[]] [blk pt (BB (.int .u32 0) (.int .i32 0) (.int .u32 0) 0) 185] (λv G=>v=.tuple #[]/\G=[blk pt (BB (.int .u32 1) (.int .i32 0) (.int .u32 0) 256) 185]):=by
 intro z R w b;have H:=b.l1;refine Rk func241 Z 21 ntmps241 Z (AV (AI (Lb 3 [1] Z J (Fj Z Z Z Z Z (λw=>call249 _ w) (Zj _ _ _ _) H Z ?_))));rintro _ w _ ⟨rfl,rfl⟩ b;have H:=b.l1;refine AP (AV (AI (Lb 3 [1] Z J (KC Z Z Z Z (AP (AV (AI (Lb 3 [0] Z J (Fj Z Z Z Z Z (λw=>call240 _ w) (MF _ _ _ _) H Z ?_)))))))));rintro _ w _ ⟨rfl,rfl⟩ b;have H:=b.l1;refine BQ 1 Z Z (AP (Qx Z (AV (AI (Lb 3 [0] Z J (KC Z Z Z Z (AP (AI (BQ 1 Z Z (W3 (bs:=[V pt]) (vs:=[]) Z Z Z Z Z Z (λw=>call217 _ w) (Zk pt (.int .u32 0) (.int .i32 1) (.int .u32 0)) H 1 [0] Z Z ?_))))))))));rintro _ w _ ⟨rfl,rfl⟩ b;have H:=b.l1;refine AP ?_;intro a c;unfold IH;rw[c.defers];refine Gm (λw=>call251 _ w) (TJ pt 256 (.int .i32 1) (.int .u32 0)) H 1 [0] Z Z ?_;rintro _ w _ ⟨rfl,rfl⟩ b;clear H;have H:Sep z (blk pt (BB (.int .u32 1) (.int .i32 1) (.int .u32 0) 256) 185::R) w:=b;refine Gm (λw=>call250 _ w) (TH pt 256 (.int .u32 1) (.int .u32 0)) H 1 [0] Z Z ?_;rintro _ w _ ⟨rfl,rfl⟩ b;exact AaM Z ⟨_,⟨Z,Z⟩,b⟩
theorem AaO(pt:Nat):Aj 216 [V pt,.func (.func 217) #[V pt] #[]] [blk pt (BB (.int .u32 0) (.int .i32 0) (.int .u32 0) 0) 185] (λv G=>v=.tuple #[]/\G=[blk pt (BB (.int .u32 1) (.int .i32 0) (.int .u32 0) 256) 185]):=by
 intro z R w H;refine Ac func216 Z ntmps216 Z (Z0 5 [0] Z (Ai Z (call240 _) (MF _ _ _ _) H ?_));intro w H;refine Zc 7 Z (Ai Z (call241 _) (Zm _) H ?_);intro w H;refine Zc 1 Z (Zf Z ?_);exact ⟨_,⟨Z,Z⟩,H⟩
theorem AaP(pt:Nat):Aj 216 [V pt,.func (.func 217) #[V pt] #[]] [blk pt (BB (.int .u32 1) (.int .i32 0) (.int .u32 0) 256) 185] (λv G=>v=.tuple #[]/\G=[blk pt (BB (.int .u32 1) (.int .i32 0) (.int .u32 0) 256) 185]):=by
 intro z R w H;refine Ac func216 Z ntmps216 Z (Z0 5 [0] Z (Ai Z (call240 _) (TI _ _ _ _) H ?_));intro w H;refine Zc 5 Z (Zf Z ?_);exact ⟨_,⟨Z,Z⟩,H⟩
theorem Abt(pt:Nat):Aj 216 [V pt,.func (.func 217) #[V pt] #[]] [tblA pt] (λv G=>v=.tuple #[]/\G=[blk pt (BB (.int .u32 1) (.int .i32 0) (.int .u32 0) 256) 185]):=Cn.or (AaO pt) (AaP pt)
theorem MG:Aj 73 [] [] (λv G=>(∃pt,v=V pt/\G=[tblA pt])):=by
 intro z R w H;refine Ac func73 Z ntmps73 Z (Zc 7 Z (Ad Z (AX Z Z (out:=(BB (.int .u32 0) (.int .i32 0) (.int .u32 0) 0)) J) (AG Z (FE H Z Z (cs:=(BB (.int .u32 0) (.int .i32 0) (.int .u32 0) 0)) Z) ?_)));rintro _ w ⟨a,rfl,H⟩;refine Zc 4 Z (Zr Z ?_);have H:=H.mono 0 (B:=tblA a) Z (λh q=>.inl q);exact ⟨_,⟨a,Z,Z⟩,H⟩
theorem Ro(pt:Nat)(a:UInt32)(v:Value)(bs:List UInt8)(A:Ah)(f:∀h,A h->rdH 1 v bs.length (bs.map u8) h):Aj 177 [V pt,u32 a,v] [tblA pt,A] (λv G=>v=u32 (Dz a bs)/\G=[tblA pt,A]):=by
 intro z R w H;obtain ⟨s,c,rfl⟩:=H.sy 1 (λq=>(f _ q).slc);have p:=H.sy 1 (λq=>(f _ q).small);refine Ac func177 Z ntmps177 Z (Z0 11 [0] Z (Ad Z (FZ Z Z Z) (Ai Z (call216 _) (Abt _) H ?_)));intro w H;refine Zc 5 Z (Ad Z (Iy Z Z) (Zc 12 Z ?_));refine Ay (σ:=Nat) (λk=>[(20,Aa (k:Int)),(7,u32 ((bs.take k).foldl Dy (4294967295 ^^^ a))),(0,V pt),(6,u32 0),(18,.slice s bs.length c),(19,Aa (bs.length:Int))])
   (λk w=>Sep z (blk pt (BB (.int .u32 1) (.int .i32 0) (.int .u32 0) 256) 185::A::R) w/\(k<=bs.length)) (λk=>bs.length-k) 0
   (λ_ d=>(d.co Z (by go_num) d.cz)) ⟨H,by omega⟩ ?_
 clear H;rintro k w ⟨n,g⟩;have H:=n.l2;have t:=g;clear g;refine Z0 6 [0] Z (Ag Z (λo=>?_) (λo=>?_))
 ·obtain ⟨b,i⟩:∃b,bs[k]?=some b:=⟨_,AbF U⟩;refine Zc 6 Z ?_;have e:=(H.rd 1 Z f).at (j:=k) (u:=u8 b) (by simp[i])
  refine Ad Z (Az Z (z:=1) (j:=k) (r:=k) J Z Z Z U e U) (Ad Z (AM Z Z J (AB e)) (Zc 5 Z (Ad Z (F5 Z Z (m:=8) (n':=8) Z (by decide)) (Zc 2 Z (Ad Z (F6 Z J Z) (Zc 1 Z (Ad Z (YX Z Z Z) (Z0 2 [3] Z (Ad Z (I5 (l:=256) Z (z:=1) (j:=((((bs.take k).foldl Dy (4294967295 ^^^ a)).toUInt8) ^^^ b).toNat) (r:=3+(((bs.take k).foldl Dy (4294967295 ^^^ a)).toUInt8 ^^^ b).toNat) J Z Z Z (UInt8.toNat_lt _) U) (Ad Z (AY Z Z J (AB (H.cel 0 Z _ (Q1 _ _ _ _)))) (Ad Z (Ix Z Z Z) (Z1 8 [] [(k:Int)+1] Z U (gf ?_)))))))))))));intro _ d;refine ⟨(k+1),(d.co Z (by go_num) (d.co Z (congrArg u32 (by rw[AbZ,i];simp[Dy])) (d.all Z))),⟨H,?_⟩,?_⟩
  ·omega
  omega
 refine Zc 2 Z (gx (Zc 5 Z (Ad Z (Iy Z Z) (Zc 4 Z (Zr Z ?_)))));obtain rfl:k=bs.length:=by omega
 have H:=H.mono 0 (B:=tblA pt) Z (λh q=>.inr q);exact ⟨_,⟨congrArg u32 (by simp[Dz]),Z⟩,H⟩
theorem W6(pt:Nat)(v:Value)(bs:List UInt8)(A:Ah)(a:∀h,A h->rdH 1 v bs.length (bs.map u8) h):Aj 177 [V pt,.int .u32 0,v] [tblA pt,A] (λv G=>v=u32 (AC bs)/\G=[tblA pt,A]):=by
 have h:=Ro pt 0 v bs A a;rw[show u32 0=Value.int .u32 0 from Z] at h;exact h
theorem V6(pt:Nat)(v:Value)(n:Nat)(bs:List UInt8)(a:bs.length=n)(A:Ah)(b:∀h,A h->rdH 1 v n (bs.map u8) h):Aj 213 [V pt,v] [tblA pt,A] (λv G=>v=u32 (AC bs)/\G=[tblA pt,A]):=by
 intro z R w H;subst a;refine Ac func213 Z ntmps213 Z (Zc 9 Z (Ai Z (call177 _) (W6 _ _ bs _ b) H ?_));intro w H;refine Zc 4 Z (Zr Z ?_);exact ⟨_,⟨Z,Z⟩,H⟩
theorem MH(pt:Nat)(v:Value)(n:Nat)(bs:List UInt8)(b:bs.length=n)(A:Ah)(a:∀h,A h->rdH 1 v n (bs.map u8) h):Aj 171 [V pt,v] [tblA pt,A] (λv G=>v=.agg #[u8 ((AC bs).toUInt8),u8 (((AC bs)>>>8).toUInt8),u8 (((AC bs)>>>16).toUInt8),u8 (((AC bs)>>>24).toUInt8)]/\G=[tblA pt,A]):=by
 intro z R w H;refine Ac func171 Z ntmps171 Z (Zc 2 Z (AG Z (Bz (P:=prog) H Z (zs:=[u8 0,u8 0,u8 0,u8 0]) J) ?_));rintro _ w ⟨c,rfl,H⟩;refine Zc 6 Z (Ai Z (call213 _) (V6 _ _ _ bs U _ a) H.f2.f2 ?_);intro w H;refine Zc 6 Z (Ad Z (F6 Z J Z) (Zc 1 Z (Ad Z (F5 Z Z (m:=8) (n':=8) Z (by decide)) (Ad Z (F6 Z J Z) (Zc 1 Z (Ad Z (F5 Z Z (m:=16) (n':=16) Z (by decide)) (Ad Z (F6 Z J Z) (Zc 1 Z (Ad Z (F5 Z Z (m:=24) (n':=24) Z (by decide)) (Ad Z (F6 Z J Z) (Ad Z (AX Z Z (out:=[u8 ((AC bs).toUInt8),u8 (((AC bs)>>>8).toUInt8),u8 (((AC bs)>>>16).toUInt8),u8 (((AC bs)>>>24).toUInt8)]) J) (Z4 4 [2] H Z ?_))))))))))));intro w H;refine Zl [2,4] H Z ?_;exact ⟨_,⟨Z,Z⟩,H.perm 3 [0,1] Z Z⟩
theorem DT(c a k:Nat)(x:Int)(bs:List UInt8)(g:bs.length=256)(o:a+k<=256/\k<=8):Aj 144 [V c,Aa x,Aa (k:Int)] [blk c (Bb bs (a:Int)) 204] (λv G=>v=.tuple #[]/\G=[blk c (Bb (BD bs (Af k x) a) ((a+k:Nat):Int)) 204]):=by
 intro z R w H;refine Ac func144 Z ntmps144 Z (Zc 8 Z ?_);refine Ay (σ:=Nat) (λi=>[(8,Aa (i:Int)),(0,V c),(1,Aa x),(2,Aa (k:Int)),(7,Aa (k:Int))])
   (λi w=>Sep z (blk c (Bb (FU bs (Af k x) a i) (a:Int)) 204::R) w/\(i<=k)) (λi=>k-i) 0
   fr_z ⟨(by rw[Tj];exact H),by omega⟩ ?_
 clear H;rintro i w ⟨e,f⟩;have H:=e.l1;have n:=f;clear f;have d:(FU bs (Af k x) a i).length=256:=by rw[WM U (by rw[Ae];omega)];exact g
 refine Z0 6 [0] Z (Ag Z (λj=>?_) (λj=>?_))
 ·have h:i<k:=by omega
  refine Zc 10 Z (Bh 18 J J (A4 H λw e=>?_));have H:=e.l1;refine VT 4 [256] Z J (Cj Z Z Z (AY Z Z J (AB (H.cel 0 Z 256 (Mh _ d)))) (CL 8 [] [((a+i:Nat):Int),(k:Int)-1,((k-1-i:Nat):Int),((8*(k-1-i):Nat):Int)] H Z J U (Cj Z Z Z (Q6 Z Z Z (m:=8*(k-1-i)) Z U) (Cj Z Z Z (LS Z J Z) (CL 3 [0,256,1,(a+i),a+i] [] H Z J U (BY (gw (A9 Z Z (AD 0 H Z Z Z Z (vs:=[u8 (Fi (x/2^(8*(k-1-i))))]) Z (by simp[u8,u32,Value.oneCell']) J (by rw[EU _ d];simp;omega) (out:=(Bb (FU bs (Af k x) a (i+1)) (a:Int))) (Tn _ (by rw[Ae];omega) (beN_get x h))) ?_))))))));rintro w H;refine Z1 7 [] [(i:Int)+1] Z U (gf ?_);intro _ l;refine ⟨(i+1),l.cz,⟨H,?_⟩,?_⟩
  ·omega
  omega
 obtain rfl:i=k:=by omega
 rw[WN bs (Af i x) a (by rw[Ae])] at H;have b:(BD bs (Af i x) a).length=256:=by rw[DE (by rw[Ae];omega)];exact g
 refine Zc 2 Z (gx (Z0 6 [256] Z (Ad Z (AY Z Z J (AB (H.cel 0 Z 256 (Mh _ b)))) (Z1 4 [256] [((a+i:Nat):Int)] Z U (A9 Z Z (AD 0 H Z Z Z Z (vs:=[Aa ((a+i:Nat):Int)]) Z (by simp[u8,u32,Value.oneCell']) J (by rw[EU _ b];simp) (out:=(Bb (BD bs (Af i x) a) ((a+i:Nat):Int))) (IC _ _ b)) ?_)))));rintro w H;refine Zc 1 Z (Zf Z ?_);exact ⟨_,⟨Z,Z⟩,H⟩
theorem If(b a:Nat)(s bs:List UInt8)(c:bs.length=256)(f:a+s.length<=256/\a<256):Aj 179 [V b,Fl s] [blk b (Bb bs (a:Int)) 204] (λv G=>v=.tuple #[]/\G=[blk b (Bb (BD bs s a) ((a+s.length:Nat):Int)) 204]):=by
 intro z R w H;refine Ac func179 Z ntmps179 Z (AK (Sep z (wrH b (a:Int)::R)) 18 Z J (A4 H λw e=>?_));have H:=e.l1;refine A6 [0,1,2] [256] J (λ_ _=>AJ) (by exact H.mono 0 (B:=wrH b (a:Int)) Z (λh q=>⟨_,c,q⟩)) Z J Z Z (AR 3 J Z Z J J J Z Z Z (AY Z Z J (λ_ d=>d.cell 0 Z (λh q=>wrH.at q))) (H.mono 0 (B:=wrH b (a:Int)) Z (λh q=>⟨_,c,q⟩)) (A6 [4,5,6,7,8,9] [0,256] J (λ_ _=>AJ) (by exact H.mono 0 (B:=wrH b (a:Int)) Z (λh q=>⟨_,c,q⟩)) Z J Z Z (AR 10 J Z Z J J J Z Z Z (AY Z Z J (λ_ d=>d.cell 0 Z (λh q=>wrH.at q))) (H.mono 0 (B:=wrH b (a:Int)) Z (λh q=>⟨_,c,q⟩)) (AR 11 J Z Z J J J Z Z Z (Gj Z (n':=256) (z:=1) (p:=a) (q:=256) (o':=a) (l':=256-a) (c':=256-a) J Z (.inr ⟨_,_,_,Z,Z,Z⟩) (.inl ⟨Z,Z⟩) U U U U U U) (H.mono 0 (B:=wrH b (a:Int)) Z (λh q=>⟨_,c,q⟩)) (A6 [12] [] J (λ_ _=>AJ) (by exact H.mono 0 (B:=wrH b (a:Int)) Z (λh q=>⟨_,c,q⟩)) Z J Z Z (An [13] J O (Ar (Ck Z Z Z Z (HU 0 H Z Z J Z Z (m:=s.length) (news:=(s.map u8)) (.inr ⟨s,Z,Z,Z⟩) (by simp[u8,Value.oneCell']) (by rw[EU _ c];omega) (k:=s.length) U (out:=(Bb (BD bs s a) (a:Int))) (Mi _ U Z)) ?_))))))));rintro _ w ⟨rfl,H⟩;refine Am (λ_=>(H.mono 0 (B:=wrH b (a:Int)) Z (λh q=>⟨_,((DE U).trans c),q⟩))) (AR 14 J Z Z J J J Z Z Z (CA Z Z Z (r:=((a+s.length:Nat):Int)) U U) (H.mono 0 (B:=wrH b (a:Int)) Z (λh q=>⟨_,((DE U).trans c),q⟩)) (A6 [15,16] [256] J (λ_ _=>AJ) (by exact H.mono 0 (B:=wrH b (a:Int)) Z (λh q=>⟨_,((DE U).trans c),q⟩)) Z J Z Z (An [17] J O (Ar (B6 Z Z Z (AD 0 H Z Z Z Z (vs:=[Aa ((a+s.length:Nat):Int)]) Z (by simp[u8,u32,Value.oneCell']) J (by rw[EU _ ((DE U).trans c)];simp) (out:=(Bb (BD bs s a) ((a+s.length:Nat):Int))) (IC _ _ ((DE U).trans c))) ?_)))));rintro w H;refine Am (λh=>absurd Z h) (AT J (gn (Zf Z ?_)));exact ⟨_,⟨Z,Z⟩,H⟩
theorem HA(b pt:Nat)(a:Int)(bs:List UInt8)(c:bs.length=256):Aj 180 [V b,V pt] [blk b (Bb bs (a:Int)) 204,tblA pt] (λv G=>v=.slice (some ⟨b,0,none⟩) 256 256/\G=[blk b (Bb (Lg bs) (a:Int)) 204,tblA pt]):=by
 intro z R w H;refine Ac func180 Z ntmps180 Z (Z0 11 [0] Z (Ad Z (Gj Z (n':=256) (z:=1) (p:=0) (q:=252) (o':=0) (l':=252) (c':=256) J Z (.inl ⟨Z,Z⟩) (.inr ⟨_,_,_,Z,Z,Z⟩) U U U U U U) (Ai Z (call171 _) (MH _ _ _ (bs.take 252) (by simp[c]) _ (λh q=>HY q c U U U O)) H.f1 ?_)));intro w H;refine AG Z (Bz (P:=prog) H Z (zs:=[u8 0,u8 0,u8 0,u8 0]) J) ?_;rintro _ w ⟨e,rfl,H⟩;refine Z4 4 [0] H Z ?_;intro w H;refine Bh 5 J J (A4 H λw d=>?_);have H:=d.l3;refine VT 3 [0] Z J (Cj Z Z Z (Gj Z (n':=256) (z:=1) (p:=252) (q:=256) (o':=252) (l':=4) (c':=4) J Z (.inr ⟨_,_,_,Z,Z,Z⟩) (.inl ⟨Z,Z⟩) U U U U U U) (Cj Z Z Z (Gj Z (n':=4) (z:=1) (p:=0) (q:=4) (o':=0) (l':=4) (c':=4) J Z (.inl ⟨Z,Z⟩) (.inl ⟨Z,Z⟩) U U U U U U) (BY (gw (AG Z (HU 2 H Z Z J Z Z (m:=4) (news:=((Dp (AC (bs.take 252))).map u8)) (.inl (H.rv 0 (·.rd U U O Z))) (by simp[Dp,u8,Value.oneCell']) (by rw[EU _ c];omega) (k:=4) U (out:=(Bb (Lg bs) (a:Int))) (Mi _ (by simp[Dp,c]) Z)) ?_)))));rintro _ w ⟨rfl,H⟩;refine Z0 7 [0] Z (Ad Z (Gj Z (n':=256) (z:=1) (p:=0) (q:=256) (o':=0) (l':=256) (c':=256) J Z (.inl ⟨Z,Z⟩) (.inl ⟨Z,Z⟩) U U U U U U) (Zc 4 Z (Zr Z ?_)));exact ⟨_,⟨Z,Z⟩,H.perm 3 [2,1] Z Z⟩
theorem Eg(k:Nat)(d b o n c:Nat)(xs:List UInt8)(A:Ah)(f:∀h,A h->rdH 1 (.slice (some ⟨b,o,none⟩) n c) n (xs.map u8) h)(hn:n<=c/\k<c)(hk:k<=n)(ys:List UInt8)(hy:xs.take k=ys)(l g s:Nat)(e:o+k=l)(t:n-k=g)(y:c-k=s):Aj 121 [V d,Aa (k:Int)] [blk d [.slice (some ⟨b,o,none⟩) n c] 162,A] (λv G=>v=Aa (Be ys)/\G=[blk d [.slice (some ⟨b,l,none⟩) g s] 162,A]):=by
 intro z R w H;subst hy e t y;have a1:=H.sy 1 (λq=>(f _ q).len);have a0:=H.sy 1 (λq=>(f _ q).cap);refine Ac func121 Z ntmps121 Z (Z2 18 [0,0,0] H Z (Ad Z (Bj Z (z:=1) (p:=0) (q:=k) (o':=o) (l':=k) (c':=c) J Z (.inl ⟨Z,Z⟩) (.inr ⟨_,_,_,Z,Z,Z⟩) U U U U U U) (Zc 5 Z ?_)));refine Ay (σ:=Nat) (λj=>[(15,Aa (j:Int)),(5,Aa (Be (xs.take j))),(0,V d),(1,Aa (k:Int)),(4,Aa 0),(13,.slice (some ⟨b,o,none⟩) k c),(14,Aa (k:Int))])
   (λj w=>Sep z (blk d [.slice (some ⟨b,o,none⟩) n c] 162::A::R) w/\(j<=k)) (λj=>k-j) 0
   (λ_ a=>(a.co Z (by go_num) a.cz)) ⟨H,by omega⟩ ?_
 clear H;rintro j w ⟨u,i⟩;have H:=u.l2;have a2:=i;clear i;refine Z0 6 [0] Z (Ag Z (λe=>?_) (λe=>?_))
 ·obtain ⟨x,r⟩:∃x,xs[j]?=some x:=⟨_,AbF U⟩;refine Z1 7 [1,j,o+j] [] Z U (Ad Z (AY Z Z J (AB (H.cell 1 Z (λh q=>(f h q).at r)))) (Zc 5 Z (Ad Z (Q7 Z Z Z (m:=8) Z (by decide)) (Zc 1 Z (Ad Z (LT Z J Z) (Ad Z (V1 Z Z Z (Mj _) ⟨by omega,by have:=x.toNat_lt;omega⟩) (Z1 8 [] [(j:Int)+1] Z U (gf ?_))))))));intro _ a;refine ⟨(j+1),(a.co Z (by go_num) (a.co Z (congrArg Aa (HZ r)) (a.all Z))),⟨H,?_⟩,?_⟩
  ·omega
  omega
 obtain rfl:j=k:=by omega
 refine Zc 2 Z (gx (Z2 10 [0,0,0] H Z (Ad Z (Bj Z (z:=1) (p:=j) (q:=n) (o':=o+j) (l':=n-j) (c':=c-j) J Z (.inr ⟨_,_,_,Z,Z,Z⟩) (.inl ⟨Z,Z⟩) U U U U U U) (Z4 12 [0,0] H Z ?_))));intro w H;refine Zr Z ?_;exact ⟨_,⟨Z,Z⟩,H⟩
theorem W7(b o n c:Nat)(xs:List UInt8)(A:Ah)(g:∀h,A h->rdH 1 (.slice (some ⟨b,o,none⟩) n c) n (xs.map u8) h)(hn:n<=c):Aj 234 [.slice (some ⟨b,o,none⟩) n c,u8 0] [A] (λv G=>v=.slice (some ⟨b,o,none⟩) (rz xs) c/\G=[A]):=by
 intro z R w H;have u:=H.sy 0 (λq=>(g _ q).len);have t:=H.sy 0 (λq=>(g _ q).cap);refine Ac func234 Z ntmps234 Z (Zc 7 Z ?_);refine Ay (σ:=Nat) (λm=>[(0,.slice (some ⟨b,o,none⟩) m c),(1,u8 0),(4,.slice none 0 0)])
   (λm w=>Sep z (A::R) w/\(m<=n/\∀(j:Nat) (y:UInt8),m<=j->xs[j]?=some y->y=0)) (λm=>m) n
   (λ_ f=>(f.all Z)) ⟨H,Ab9 _,λj y s h=>by have:=(AbE.1 h).1;omega⟩ ?_
 clear H;rintro m w ⟨l,i⟩;have H:=l.l1;obtain ⟨hm,e⟩:=i;refine Z0 7 [0] Z (Ak 8 Z (λr=>?_) (λr=>?_))
 ·obtain ⟨x,d⟩:∃x,xs[m-1]?=some x:=⟨_,AbF U⟩;refine Z1 5 [1,(m-1),o+(m-1)] [((m-1:Nat):Int)] Z U (Ad Z (AY Z Z J (AB (H.cell 0 Z (λh q=>(g h q).at d)))) (Zc 1 Z (Ad Z (QL (q:=0) (k:=.u8) Z J Z Z) (Zc 3 Z (Ag Z (λa=>?_) (λa=>?_))))))
  ·refine Z1 8 [] [((m-1:Nat):Int)] Z U (Ad Z (Bj Z (z:=1) (p:=0) (q:=(m-1)) (o':=o) (l':=(m-1)) (c':=c) J Z (.inl ⟨Z,Z⟩) (.inr ⟨_,_,_,Z,Z,Z⟩) U U U U U U) (Zc 3 Z (gf ?_)));intro _ f;refine ⟨(m-1),(f.all Z),⟨H,?_⟩,?_⟩
   ·refine ⟨by omega,λj y s h=>?_⟩;rcases AbX j m with q|q
    ·obtain rfl:j=m-1:=by omega
     rw[d] at h;cases h;exact a
    exact e j y q h
   omega
  refine Zc 2 Z (gx (Zc 9 Z (Zr Z ?_)));obtain rfl:m=rz xs:=rz_is U e (by first|exact .inl U|exact .inr ⟨x,d,a⟩);exact ⟨_,⟨Z,Z⟩,H⟩
 refine Zc 14 Z (gx (Zc 9 Z (Zr Z ?_)));obtain rfl:m=rz xs:=rz_is U e (by first|exact .inl U|exact .inr ⟨x,d,a⟩);exact ⟨_,⟨Z,Z⟩,H⟩
theorem W8(b o n c:Nat)(xs:List UInt8)(A:Ah)(f:∀h,A h->rdH 1 (.slice (some ⟨b,o,none⟩) n c) n (xs.map u8) h)(hn:n<c):Aj 233 [.slice (some ⟨b,o,none⟩) n c,u8 0] [A] (λv G=>v=(if lz xs=n then .slice none 0 0 else .slice (some ⟨b,o+lz xs,none⟩) (n-lz xs) (c-lz xs))/\G=[A]):=by
 intro z R w H;have u:=H.sy 0 (λq=>(f _ q).len);refine Ac func233 Z ntmps233 Z (Zc 7 Z ?_);refine Ay (σ:=Nat) (λp=>[(0,.slice (some ⟨b,(o+p),none⟩) (n-p) (c-p)),(1,u8 0),(4,.slice none 0 0)])
   (λp w=>Sep z (A::R) w/\(p<=n/\∀(j:Nat) (y:UInt8),j<p->xs[j]?=some y->y=0)) (λp=>n-p) 0
   fr_z ⟨H,by omega,λj y s h=>by omega⟩ ?_
 clear H;rintro p w ⟨i,g⟩;have H:=i.l1;obtain ⟨hp,e⟩:=g;refine Z0 7 [0] Z (Ak 8 Z (λr=>?_) (λr=>?_))
 ·obtain ⟨x,d⟩:∃x,xs[p]?=some x:=⟨_,AbF U⟩;refine Z1 2 [1,0,o+p] [] Z U (Ad Z (AY Z Z J (AB (H.cell 0 Z (λh q=>(f h q).at d)))) (Zc 1 Z (Ad Z (QL (q:=0) (k:=.u8) Z J Z Z) (Zc 3 Z (Ag Z (λa=>?_) (λa=>?_))))))
  ·refine Zc 5 Z (Ad Z (Bj Z (z:=1) (p:=1) (q:=(n-p)) (o':=o+(p+1)) (l':=(n-(p+1))) (c':=(c-(p+1))) J Z (.inr ⟨_,_,_,Z,Z,Z⟩) (.inl ⟨Z,Z⟩) U U U U U U) (Zc 3 Z (gf ?_)));intro _ hF;refine ⟨(p+1),(hF.all Z),⟨H,?_⟩,?_⟩
   ·refine ⟨by omega,λj y s h=>?_⟩;rcases AbX j p with q|q
    ·exact e j y q h
    obtain rfl:j=p:=by omega
    rw[d] at h;cases h;exact a
   omega
  refine Zc 2 Z (gx (Z0 10 [0] Z (Ag Z (λl=>?_) (λl=>?_))))
  ·refine Zc 6 Z (Zr Z ?_);obtain rfl:p=lz xs:=JV U e (by first|exact .inl U|exact .inr ⟨x,d,a⟩);exact ⟨_,⟨by first|(exfalso;omega)|rw[if_pos U]|rw[if_neg U],rfl⟩,H⟩
  refine Zc 9 Z (Zr Z ?_);obtain rfl:p=lz xs:=JV U e (by first|exact .inl U|exact .inr ⟨x,d,a⟩);exact ⟨_,⟨by first|(exfalso;omega)|rw[if_pos U]|rw[if_neg U],rfl⟩,H⟩
 refine Zc 11 Z (gx (Z0 10 [0] Z (Ag Z (λm=>?_) (λm=>?_))))
 ·refine Zc 6 Z (Zr Z ?_);obtain rfl:p=lz xs:=JV U e (by first|exact .inl U|exact .inr ⟨x,d,a⟩);exact ⟨_,⟨by first|(exfalso;omega)|rw[if_pos U]|rw[if_neg U],rfl⟩,H⟩
 refine Zc 9 Z (Zr Z ?_);obtain rfl:p=lz xs:=JV U e (by first|exact .inl U|exact .inr ⟨x,d,a⟩);exact ⟨_,⟨by first|(exfalso;omega)|rw[if_pos U]|rw[if_neg U],rfl⟩,H⟩
theorem Zn(b o n c:Nat)(xs:List UInt8)(A:Ah)(a:∀h,A h->rdH 1 (.slice (some ⟨b,o,none⟩) n c) n (xs.map u8) h)(s:n<c\/(n<=c/\rz xs=0/\0<c)):Aj 215 [.slice (some ⟨b,o,none⟩) n c,Fl [0]] [A] (λv G=>(rz xs=0/\v=.slice none 0 0/\G=[A])\/(rz xs≠0/\∃i d f,0<d/\v=.slice (some ⟨b,i,none⟩) d f/\G=[A])):=by
 intro z R w H;have r:=H.sy 0 (λq=>(a _ q).len);have p:=H.sy 0 (λq=>(a _ q).cap);have e:=Pw xs;refine Ac func215 Z ntmps215 Z (Z0 13 [0] Z (Ag Z (λk=>?_) (λk=>?_)))
 ·refine Zc 6 Z (Zr Z ?_);exact ⟨_,.inl ⟨by omega,Z,Z⟩,H⟩
 refine Zc 6 Z (Ad Z (Md (l:=[0]) (m:=[]) Z J Z Z) (k_updA 11 (v:=.bool false) Z (congrArg Value.bool (by decide)) (Zc 9 Z (Ad Z (Td (l:=[0]) Z J Z) (Z0 3 [3] Z (Ad Z (Jd (l:=[0]) (j:=0) (b:=0) Z J Z Z Z Z) (Z0 1 [0] Z (k_updA 19 (v:=.bool true) Z (congrArg Value.bool (by decide)) (Zc 5 Z (Bd (Sep z _) J J H.drew (Cm 2 [] Z J (Bn Z Z Z (Jd (l:=[0]) (j:=0) (b:=0) Z J Z Z Z Z) (Dh Z Z Z Z Z (λw=>call234 _ w) (v:=.slice (some ⟨b,o,none⟩) (rz xs) c) (cq (W7 _ _ _ _ xs _ a U) (by rintro _ _ ⟨rfl,rfl⟩;exact ⟨Z,Z⟩) 1 [0] [0] Z Z Z Z) ?_)))))))))))));refine Cm 1 [] Z J (Bn Z Z Z (Jd (l:=[0]) (j:=0) (b:=0) Z J Z Z Z Z) (Dh Z Z Z Z Z (λw=>call233 _ w) (v:=if lz ((xs.drop 0).take (rz xs))=(rz xs) then .slice none 0 0 else .slice (some ⟨b,o+lz ((xs.drop 0).take (rz xs)),none⟩) ((rz xs)-lz ((xs.drop 0).take (rz xs))) (c-lz ((xs.drop 0).take (rz xs)))) (cq (W8 _ _ _ _ ((xs.drop 0).take (rz xs)) _ (λh q=>(a h q).cut (lo:=0) (m:=rz xs) (c':=c) U U U) U) (by rintro _ _ ⟨rfl,rfl⟩;exact ⟨Z,Z⟩) 1 [0] [0] Z Z Z Z) (Cm 1 [] Z J (Bu (λw g=>?_)))));have H:=g.l1;refine gn (Zc 2 Z (Zr Z ?_));by_cases hz:rz xs=0
 ·exact ⟨[A],.inl ⟨hz,by rw[if_pos];simp[hz,lz],Z⟩,H⟩
 have:=AaK hz;exact ⟨_,.inr ⟨hz,_,rz xs-lz ((xs.drop 0).take (rz xs)),_,by simp;omega,by rw[if_neg (by simp;omega)],Z⟩,H⟩
theorem Rp(d b o n c:Nat)(xs:List UInt8)(A:Ah)(i:∀h,A h->rdH 1 (.slice (some ⟨b,o,none⟩) n c) n (xs.map u8) h)(g:n<c\/(n<=c/\rz xs=0/\0<c)):Aj 174 [V d] [blk d [.slice (some ⟨b,o,none⟩) n c] 162,A] (λv G=>v=.bool (decide (rz xs=0))/\G=[blk d [.slice (some ⟨b,o,none⟩) n c] 162,A]):=by
 intro z R w H;refine Ac func174 Z ntmps174 Z (Z2 11 [0,0,0] H Z (AA Z (call215 _) (Zn _ _ _ _ xs _ i g) H.f1 ?_));rintro _ w _ (⟨a,rfl,rfl⟩|⟨a,k,l,j,f,rfl,rfl⟩) e
 ·have H:=e.l2;refine Z0 6 [3] Z (Zr Z ?_);exact ⟨_,⟨congrArg Value.bool (by first|(simp[a];done)|(rw[Ab0];simp<;>omega)),Z⟩,H.perm 2 [1,0] Z Z⟩
 have H:=e.l2;refine Z0 6 [0] Z (Zr Z ?_);exact ⟨_,⟨congrArg Value.bool (by first|(simp[a];done)|(rw[Ab0];simp<;>omega)),Z⟩,H.perm 2 [1,0] Z Z⟩
theorem KD(pt b o c:Nat)(a sec:List UInt8)(A:Ah)(e:∀h,A h->rdH 1 (.slice (some ⟨b,o,none⟩) 256 c) 256 (sec.map u8) h):Aj 120 [V pt,.slice (some ⟨b,o,none⟩) 256 c,Fl a] [tblA pt,A] (λv G=>(Jc a sec/\v=.tuple #[.agg #[.slice (some ⟨b,o+4,none⟩) 248 (c-4)],.bool true]/\G=[tblA pt,A])\/(¬Jc a sec/\v=.tuple #[.agg #[.slice none 0 0],.bool false]/\G=[tblA pt,A])):=by
 intro z R w H;have d:=H.sy 1 (λq=>(e _ q).len);have r:=H.sy 1 (λq=>(e _ q).cap);obtain ⟨u,k,t,s,f⟩:=Mk d;refine Ac func120 Z ntmps120 Z (Za 2 [] H Z ?_);intro x w H;refine Zc 5 Z (Bd (Sep z _) J J H.drew (JP 9 [4] [] Z J (Bn Z Z Z (Bj Z (z:=1) (p:=252) (q:=256) (o':=o+252) (l':=4) (c':=c-252) J Z (.inr ⟨_,_,_,Z,Z,Z⟩) (.inl ⟨Z,Z⟩) U U U U U U) (Bn Z Z Z (Lj (m:=4) Z J Z U) (Bn Z Z Z (Bt Z Z (vs:=[u8 u,u8 k,u8 t,u8 s]) J (λ_ i=>i.cell4 2 Z e f)) (Cm 2 [] Z J (Bn Z Z Z (Bj Z (z:=1) (p:=0) (q:=252) (o':=o) (l':=252) (c':=c) J Z (.inl ⟨Z,Z⟩) (.inr ⟨_,_,_,Z,Z,Z⟩) U U U U U U) (Dh Z Z Z Z Z (λw=>call171 _ w) (v:=.agg #[u8 ((AC (sec.take 252)).toUInt8),u8 (((AC (sec.take 252))>>>8).toUInt8),u8 (((AC (sec.take 252))>>>16).toUInt8),u8 (((AC (sec.take 252))>>>24).toUInt8)]) (cq (MH _ _ _ (sec.take 252) (by simp[d]) _ (λh q=>(e h q).pre U U)) (by rintro _ _ ⟨rfl,rfl⟩;exact ⟨Z,Z⟩) 3 [1,2,0] [2,0,1] Z Z Z Z) (Bn Z Z Z (Oo Z J J Z Z) (Cm 2 [] Z J (CE 26 Z (λn=>?_) (λn=>?_))))))))))))
 ·refine Cm 6 [] Z J (Bu (λw g=>?_));have H:=g.l3;refine gn (Z4 10 [0] H Z ?_);intro w H;refine Zl [0,1] H Z ?_;exact ⟨_,.inr ⟨λhs=>by first|exact absurd (f▸hs.1) ‹_› |exact absurd hs.2 ‹_›,rfl,rfl⟩,H.perm 3 [1,2] rfl rfl⟩
 refine Cm 1 [] Z J (Bn Z Z Z (Bj Z (z:=1) (p:=0) (q:=4) (o':=o) (l':=4) (c':=c) J Z (.inl ⟨Z,Z⟩) (.inr ⟨_,_,_,Z,Z,Z⟩) U U U U U U) (Bn Z Z Z (DI (l:=sec.take 4) Z J J Z (λ_ i=>i.rd 2 Z (λh q=>by have:=(e h q).pre (m:=4) (c':=c) U U;rwa[show (sec.take 4).length=4 from by simp[d]]))) (Cm 1 [] Z J (Bn Z Z Z (Zb (l:=sec.take 4) (m:=a) Z J Z Z) (Cm 1 [] Z J (Bu (λw g=>?_)))))));have H:=g.l3;refine gn (Zc 1 Z (Ag Z (λj=>?_) (λj=>?_)))
 ·refine Z4 8 [0] H Z ?_;intro w H;refine Zl [0,1] H Z ?_;exact ⟨_,.inr ⟨λhs=>by first|exact absurd (f▸hs.1) ‹_› |exact absurd hs.2 ‹_›,rfl,rfl⟩,H.perm 3 [1,2] rfl rfl⟩
 refine Zc 5 Z (Ad Z (Bj Z (z:=1) (p:=4) (q:=252) (o':=o+4) (l':=248) (c':=c-4) J Z (.inr ⟨_,_,_,Z,Z,Z⟩) (.inr ⟨_,_,_,Z,Z,Z⟩) U U U U U U) (Z4 6 [0] H Z ?_));intro w H;refine Zl [0,1] H Z ?_;exact ⟨_,.inl ⟨⟨by rw[f];exact AdM ‹_›,AdM ‹_›⟩,Z,Z⟩,H.perm 3 [1,2] Z Z⟩
theorem PF(pt:Nat)(x y c a:Int)(j:Value)(b:List UInt8)(A:Ah)(k:∀h,A h->rdH 1 j b.length (b.map u8) h):Aj 231 [V pt,Aa x,Aa y,.agg #[Aa c,Aa a,j]] [tblA pt,A] (λv G=>(¬((0<=x/\x<=4294967295)/\(0<=y/\y<=1099511627775)/\(0<=c/\c<=1023)/\(1<=a/\a<=5)/\b.length=240)/\v=.tuple #[.slice none 0 0,Aa 1]/\G=[tblA pt,A])\/(((0<=x/\x<=4294967295)/\(0<=y/\y<=1099511627775)/\(0<=c/\c<=1023)/\(1<=a/\a<=5)/\b.length=240)/\∃i,v=.tuple #[.slice (some ⟨i,0,none⟩) 256 256,Aa 0]/\G=[blk i (Bb (sect (Af 1 a++Af 2 c++Af 4 x++Af 5 y++b)) 252) 204,tblA pt,A])):=by
 intro z R w H;obtain ⟨e,f,rfl⟩:=H.sy 1 (λq=>(k _ q).slc);refine Ac func231 Z ntmps231 Z (Za 2 [] H Z ?_);intro g w H;refine Zc 11 Z (Ai Z (call122 _) (C6 _ _) H ?_);intro w H;refine Ad Z (AW Z Z) (Zc 2 Z (Ak 18 Z (λs=>?_) (λs=>?_)))
 ·refine Zc 39 Z (Zr Z ?_);exact ⟨_,.inl ⟨by omega,Z,Z⟩,H.perm 3 [1,2] Z Z⟩
 refine Zc 1 Z (Ai Z (call122 _) (C6 _ _) H ?_);intro w H;refine Ad Z (AW Z Z) (Zc 2 Z (Ak 23 Z (λn=>?_) (λn=>?_)))
 ·refine Zc 34 Z (Zr Z ?_);exact ⟨_,.inl ⟨by omega,Z,Z⟩,H.perm 3 [1,2] Z Z⟩
 refine Z2 2 [0,0,0] H Z (Ai Z (call122 _) (C6 _ _) H ?_);intro w H;refine Ad Z (AW Z Z) (Zc 2 Z (Ak 29 Z (λo=>?_) (λo=>?_)))
 ·refine Zc 28 Z (Zr Z ?_);exact ⟨_,.inl ⟨by omega,Z,Z⟩,H.perm 3 [1,2] Z Z⟩
 refine Z2 6 [1,1,0,0,0] H Z (Ak 35 Z (λr=>?_) (λr=>?_))
 ·refine Zc 22 Z (Zr Z ?_);exact ⟨_,.inl ⟨by omega,Z,Z⟩,H.perm 3 [1,2] Z Z⟩
 refine Z2 6 [1,1,0,0,0] H Z (Ak 41 Z (λp=>?_) (λp=>?_))
 ·refine Zc 16 Z (Zr Z ?_);exact ⟨_,.inl ⟨by omega,Z,Z⟩,H.perm 3 [1,2] Z Z⟩
 refine Z2 8 [1,2,0,0,0] H Z (Ag Z (λm=>?_) (λm=>?_))
 ·refine Zc 7 Z (Zr Z ?_);exact ⟨_,.inl ⟨by omega,Z,Z⟩,H.perm 3 [1,2] Z Z⟩
 refine Zc 4 Z (AG Z (Bz (P:=prog) H Z (zs:=(Bb (Bc []) 0)) J) ?_);rintro _ w ⟨d,rfl,H⟩;refine Z2 7 [1,1,1,0] H Z (Ai Z (call144 _) (DT _ 0 1 a _ (Bl (by first|omega|(simp[Ae]<;>omega))) U) H ?_);intro w H;rw[show BD (Bc []) (Af 1 a) 0=Bc (Af 1 a) from Cp Z (by first|omega|(simp[Ae]<;>omega))] at H;have H:Sep z (blk d (Bb (Bc (Af 1 a)) 1) 204::blk g [Aa c,Aa a,.slice e b.length f] 118::tblA pt::A::R) w:=H;refine Z2 6 [0,1,0] H Z (Ai Z (call144 _) (DT _ 1 2 c _ (Bl (by first|omega|(simp[Ae]<;>omega))) U) H ?_);intro w H;rw[show BD (Bc (Af 1 a)) (Af 2 c) 1=Bc (Af 1 a++Af 2 c) from Cp (by first|omega|(simp[Ae]<;>omega)) (by first|omega|(simp[Ae]<;>omega))] at H;have H:Sep z (blk d (Bb (Bc (Af 1 a++Af 2 c)) 3) 204::blk g [Aa c,Aa a,.slice e b.length f] 118::tblA pt::A::R) w:=H;refine Zc 5 Z (Ai Z (call144 _) (DT _ 3 4 x _ (Bl (by first|omega|(simp[Ae]<;>omega))) U) H ?_);intro w H;rw[show BD (Bc (Af 1 a++Af 2 c)) (Af 4 x) 3=Bc (Af 1 a++Af 2 c++Af 4 x) from Cp (by first|omega|(simp[Ae]<;>omega)) (by first|omega|(simp[Ae]<;>omega))] at H;have H:Sep z (blk d (Bb (Bc (Af 1 a++Af 2 c++Af 4 x)) 7) 204::blk g [Aa c,Aa a,.slice e b.length f] 118::tblA pt::A::R) w:=H;refine Zc 5 Z (Ai Z (call144 _) (DT _ 7 5 y _ (Bl (by first|omega|(simp[Ae]<;>omega))) U) H ?_);intro w H;rw[show BD (Bc (Af 1 a++Af 2 c++Af 4 x)) (Af 5 y) 7=Bc (Af 1 a++Af 2 c++Af 4 x++Af 5 y) from Cp (by first|omega|(simp[Ae]<;>omega)) (by first|omega|(simp[Ae]<;>omega))] at H;have H:Sep z (blk d (Bb (Bc (Af 1 a++Af 2 c++Af 4 x++Af 5 y)) 12) 204::blk g [Aa c,Aa a,.slice e b.length f] 118::tblA pt::A::R) w:=H;refine Z2 7 [1,2,1,0] H Z (Ad Z (DI (l:=b) Z J J Z (AB (H.rd 3 Z k))) (Ai Z (call179 _) (If _ 12 b _ (Bl (by first|omega|(simp[Ae]<;>omega))) (by first|omega|(simp<;>omega))) H ?_));intro w H;rw[show ((12+b.length:Nat):Int)=(252:Int) from by omega] at H;rw[show BD (Bc (Af 1 a++Af 2 c++Af 4 x++Af 5 y)) b 12=Bc (Af 1 a++Af 2 c++Af 4 x++Af 5 y++b) from Cp (by first|omega|(simp[Ae]<;>omega)) (by first|omega|(simp[Ae]<;>omega))] at H;have H:Sep z (blk d (Bb (Bc (Af 1 a++Af 2 c++Af 4 x++Af 5 y++b)) 252) 204::blk g [Aa c,Aa a,.slice e b.length f] 118::tblA pt::A::R) w:=H;refine Zc 5 Z (Ai Z (call180 _) (HA _ _ _ _ (Bl (by first|omega|(simp[Ae]<;>omega)))) H.f2.f1 ?_);intro w H;refine Zc 5 Z (Zr Z ?_);exact ⟨_,.inr ⟨by omega,d,Z,Z⟩,H.perm 4 [0,1,3] Z Z⟩
theorem Ll(pt:Nat)(c a:Int)(j:Value)(b:List UInt8)(A:Ah)(k:∀h,A h->rdH 1 j b.length (b.map u8) h):Aj 133 [V pt,.agg #[Aa c,Aa a,j]] [tblA pt,A] (λv G=>(¬((0<=c/\c<=1023)/\(1<=a/\a<=5)/\b.length=240)/\v=.tuple #[.slice none 0 0,Aa 1]/\G=[tblA pt,A])\/(((0<=c/\c<=1023)/\(1<=a/\a<=5)/\b.length=240)/\∃i,v=.tuple #[.slice (some ⟨i,0,none⟩) 256 256,Aa 0]/\G=[blk i (Bb (sect ([80,80,65,71]++Af 1 a++Af 4 c++[0,0,0]++b)) 252) 204,tblA pt,A])):=by
 intro z R w H;replace H:=H.l2;obtain ⟨e,f,rfl⟩:=H.sy 1 (λq=>(k _ q).slc);refine Ac func133 Z ntmps133 Z (Za 2 [] H Z ?_);intro g w H;refine Z2 12 [0,0,0] H Z (Ai Z (call122 _) (C6 _ _) H ?_);intro w H;replace H:=H.l3;refine Ad Z (AW Z Z) (Zc 2 Z (Ak 15 Z (λp=>?_) (λp=>?_)))
 ·refine Zc 28 Z (Zr Z ?_);exact ⟨_,.inl ⟨by omega,Z,Z⟩,H.perm 3 [1,2] Z Z⟩
 refine Z2 6 [1,1,0,0,0] H Z (Ak 21 Z (λm=>?_) (λm=>?_))
 ·refine Zc 22 Z (Zr Z ?_);exact ⟨_,.inl ⟨by omega,Z,Z⟩,H.perm 3 [1,2] Z Z⟩
 refine Z2 6 [1,1,0,0,0] H Z (Ak 27 Z (λn=>?_) (λn=>?_))
 ·refine Zc 16 Z (Zr Z ?_);exact ⟨_,.inl ⟨by omega,Z,Z⟩,H.perm 3 [1,2] Z Z⟩
 refine Z2 8 [1,2,0,0,0] H Z (Ag Z (λo=>?_) (λo=>?_))
 ·refine Zc 7 Z (Zr Z ?_);exact ⟨_,.inl ⟨by omega,Z,Z⟩,H.perm 3 [1,2] Z Z⟩
 refine Zc 4 Z (AG Z (Bz (P:=prog) H Z (zs:=(Bb (Bc []) 0)) J) ?_);rintro _ w ⟨d,rfl,H⟩;replace H:=H.l4;refine Zc 4 Z (Ai Z (call179 _) (If _ 0 [80,80,65,71] _ (Bl (by first|omega|(simp[Ae]<;>omega))) (by first|omega|(simp<;>omega))) H ?_);intro w H;replace H:=H.l4;rw[show BD (Bc []) ([80,80,65,71]) 0=Bc ([80,80,65,71]) from Cp Z (by first|omega|(simp[Ae]<;>omega))] at H;have H:Sep z (blk d (Bb (Bc ([80,80,65,71])) 4) 204::blk g [Aa c,Aa a,.slice e b.length f] 118::tblA pt::A::R) w:=H;refine Z2 7 [1,1,1,0] H Z (Ai Z (call144 _) (DT _ 4 1 a _ (Bl (by first|omega|(simp[Ae]<;>omega))) U) H ?_);intro w H;replace H:=H.l4;rw[show BD (Bc ([80,80,65,71])) (Af 1 a) 4=Bc ([80,80,65,71]++Af 1 a) from Cp (by first|omega|(simp[Ae]<;>omega)) (by first|omega|(simp[Ae]<;>omega))] at H;have H:Sep z (blk d (Bb (Bc ([80,80,65,71]++Af 1 a)) 5) 204::blk g [Aa c,Aa a,.slice e b.length f] 118::tblA pt::A::R) w:=H;refine Z2 6 [0,1,0] H Z (Ai Z (call144 _) (DT _ 5 4 c _ (Bl (by first|omega|(simp[Ae]<;>omega))) U) H ?_);intro w H;replace H:=H.l4;rw[show BD (Bc ([80,80,65,71]++Af 1 a)) (Af 4 c) 5=Bc ([80,80,65,71]++Af 1 a++Af 4 c) from Cp (by first|omega|(simp[Ae]<;>omega)) (by first|omega|(simp[Ae]<;>omega))] at H;have H:Sep z (blk d (Bb (Bc ([80,80,65,71]++Af 1 a++Af 4 c)) 9) 204::blk g [Aa c,Aa a,.slice e b.length f] 118::tblA pt::A::R) w:=H;refine Z0 5 [256] Z (A9 Z Z (AD 0 H Z Z Z Z (vs:=[Aa 12]) Z (by simp[u8,u32,Value.oneCell']) J (by rw[EU _ (Bl (by first|omega|(simp[Ae]<;>omega)))];simp) (out:=(Bb (Bc ([80,80,65,71]++Af 1 a++Af 4 c)) 12)) (IC _ _ (Bl (by first|omega|(simp[Ae]<;>omega))))) ?_);rintro w H;replace H:=H.l4;refine Z2 7 [1,2,1,0] H Z (Ad Z (DI (l:=b) Z J J Z (AB (H.rd 3 Z k))) (Ai Z (call179 _) (If _ 12 b _ (Bl (by first|omega|(simp[Ae]<;>omega))) (by first|omega|(simp<;>omega))) H ?_));intro w H;replace H:=H.l4;rw[show ((12+b.length:Nat):Int)=(252:Int) from by omega] at H;rw[show BD (Bc ([80,80,65,71]++Af 1 a++Af 4 c)) b 12=Bc ([80,80,65,71]++Af 1 a++Af 4 c++[0,0,0]++b) from (To (by first|omega|(simp[Ae]<;>omega)) (by first|omega|(simp[Ae]<;>omega))).trans (by simp[Ae])] at H;have H:Sep z (blk d (Bb (Bc ([80,80,65,71]++Af 1 a++Af 4 c++[0,0,0]++b)) 252) 204::blk g [Aa c,Aa a,.slice e b.length f] 118::tblA pt::A::R) w:=H;refine Zc 5 Z (Ai Z (call180 _) (HA _ _ _ _ (Bl (by first|omega|(simp[Ae]<;>omega)))) H.f2.f1 ?_);intro w H;refine Zc 5 Z (Zr Z ?_);exact ⟨_,.inr ⟨by omega,d,Z,Z⟩,H.perm 4 [0,1,3] Z Z⟩
theorem Rq(pt:Nat)(e s:Int)(u:UInt32)(t:Value)(ns:List Int)(A:Ah)(hA:∀h,A h->rdH 1 t ns.length (ns.map Aa) h):Aj 232 [V pt,.agg #[Aa e,Aa s,t,u32 u]] [tblA pt,A] (λv G=>(¬((0<=e/\e<=1099511627776)/\(0<=s/\s<=1099511627776)/\(1<=ns.length/\ns.length<=40)/\∀x∈ns,0<=x/\x<=1023)/\v=.tuple #[.slice none 0 0,Aa 1]/\G=[tblA pt,A])\/(((0<=e/\e<=1099511627776)/\(0<=s/\s<=1099511627776)/\(1<=ns.length/\ns.length<=40)/\∀x∈ns,0<=x/\x<=1023)/\∃pw,v=.tuple #[.slice (some ⟨pw,0,none⟩) 256 256,Aa 0]/\G=[blk pw (Bb (sect ([80,76,79,71]++Af 8 e++Af 8 s++Af 4 (u.toNat:Int)++Af 2 (ns.length:Int)++ns.flatMap (Af 4))) ((26+4*ns.length:Nat):Int)) 204,tblA pt,A])):=by
 intro z R w H;obtain ⟨c,f,rfl⟩:=H.sy 1 (λq=>(hA _ q).slc);refine Ac func232 Z ntmps232 Z (Za 2 [] H Z ?_);intro k w H;refine Z2 12 [0,0,0] H Z (Ai Z (call122 _) (C6 _ _) H ?_);intro w H;refine Ad Z (AW Z Z) (Zc 2 Z (Ak 17 Z (λh1=>?_) (λh1=>?_)))
 ·refine Zc 27 Z (Zr Z ?_);exact ⟨_,.inl ⟨by rintro ⟨o,m,n,d⟩;first|omega|exact absurd (d x (AbG b)) ‹_›,rfl,rfl⟩,H.perm 3 [1,2] rfl rfl⟩
 refine Z2 2 [1,0,0] H Z (Ai Z (call122 _) (C6 _ _) H ?_);intro w H;refine Ad Z (AW Z Z) (Zc 2 Z (Ak 23 Z (λh2=>?_) (λh2=>?_)))
 ·refine Zc 21 Z (Zr Z ?_);exact ⟨_,.inl ⟨by rintro ⟨o,m,n,d⟩;first|omega|exact absurd (d x (AbG b)) ‹_›,rfl,rfl⟩,H.perm 3 [1,2] rfl rfl⟩
 refine Z2 6 [2,0,0,0] H Z (Ak 29 Z (λh3=>?_) (λh3=>?_))
 ·refine Zc 15 Z (Zr Z ?_);exact ⟨_,.inl ⟨by rintro ⟨o,m,n,d⟩;first|omega|exact absurd (d x (AbG b)) ‹_›,rfl,rfl⟩,H.perm 3 [1,2] rfl rfl⟩
 refine Z2 7 [2,0,0,0] H Z (Ag Z (λh4=>?_) (λh4=>?_))
 ·refine Zc 7 Z (Zr Z ?_);exact ⟨_,.inl ⟨by rintro ⟨o,m,n,d⟩;first|omega|exact absurd (d x (AbG b)) ‹_›,rfl,rfl⟩,H.perm 3 [1,2] rfl rfl⟩
 refine Zc 4 Z (AG Z (Bz (P:=prog) H Z (zs:=(Bb (Bc []) 0)) J) ?_);rintro _ w ⟨a,rfl,H⟩;refine Zc 4 Z (Ai Z (call179 _) (If _ 0 [80,76,79,71] _ (Bl (by first|omega|(simp[Ae,BO,-List.length_flatMap]<;>omega))) (by first|omega|(simp<;>omega))) H ?_);intro w H;rw[show BD (Bc []) ([80,76,79,71]) 0=Bc ([80,76,79,71]) from Cp Z (by first|omega|(simp[Ae,BO,-List.length_flatMap]<;>omega))] at H;have H:Sep z (blk a (Bb (Bc ([80,76,79,71])) 4) 204::blk k [Aa e,Aa s,.slice c ns.length f,u32 u] 233::tblA pt::A::R) w:=H;refine Z2 6 [0,1,0] H Z (Ai Z (call144 _) (DT _ 4 8 e _ (Bl (by first|omega|(simp[Ae,BO,-List.length_flatMap]<;>omega))) U) H ?_);intro w H;rw[show BD (Bc ([80,76,79,71])) (Af 8 e) 4=Bc ([80,76,79,71]++Af 8 e) from Cp (by first|omega|(simp[Ae,BO,-List.length_flatMap]<;>omega)) (by first|omega|(simp[Ae,BO,-List.length_flatMap]<;>omega))] at H;have H:Sep z (blk a (Bb (Bc ([80,76,79,71]++Af 8 e)) 12) 204::blk k [Aa e,Aa s,.slice c ns.length f,u32 u] 233::tblA pt::A::R) w:=H;refine Z2 6 [1,1,0] H Z (Ai Z (call144 _) (DT _ 12 8 s _ (Bl (by first|omega|(simp[Ae,BO,-List.length_flatMap]<;>omega))) U) H ?_);intro w H;rw[show BD (Bc ([80,76,79,71]++Af 8 e)) (Af 8 s) 12=Bc ([80,76,79,71]++Af 8 e++Af 8 s) from Cp (by first|omega|(simp[Ae,BO,-List.length_flatMap]<;>omega)) (by first|omega|(simp[Ae,BO,-List.length_flatMap]<;>omega))] at H;have H:Sep z (blk a (Bb (Bc ([80,76,79,71]++Af 8 e++Af 8 s)) 20) 204::blk k [Aa e,Aa s,.slice c ns.length f,u32 u] 233::tblA pt::A::R) w:=H;refine Z2 6 [3,1,0] H Z (Ad Z (QM Z J Z) (Ai Z (call144 _) (DT _ 20 4 (u.toNat:Int) _ (Bl (by first|omega|(simp[Ae,BO,-List.length_flatMap]<;>omega))) U) H ?_));intro w H;rw[show BD (Bc ([80,76,79,71]++Af 8 e++Af 8 s)) (Af 4 (u.toNat:Int)) 20=Bc ([80,76,79,71]++Af 8 e++Af 8 s++Af 4 (u.toNat:Int)) from Cp (by first|omega|(simp[Ae,BO,-List.length_flatMap]<;>omega)) (by first|omega|(simp[Ae,BO,-List.length_flatMap]<;>omega))] at H;have H:Sep z (blk a (Bb (Bc ([80,76,79,71]++Af 8 e++Af 8 s++Af 4 (u.toNat:Int))) 24) 204::blk k [Aa e,Aa s,.slice c ns.length f,u32 u] 233::tblA pt::A::R) w:=H;refine Z2 7 [2,1,0] H Z (Ai Z (call144 _) (DT _ 24 2 (ns.length:Int) _ (Bl (by first|omega|(simp[Ae,BO,-List.length_flatMap]<;>omega))) U) H ?_);intro w H;rw[show BD (Bc ([80,76,79,71]++Af 8 e++Af 8 s++Af 4 (u.toNat:Int))) (Af 2 (ns.length:Int)) 24=Bc ([80,76,79,71]++Af 8 e++Af 8 s++Af 4 (u.toNat:Int)++Af 2 (ns.length:Int)) from Cp (by first|omega|(simp[Ae,BO,-List.length_flatMap]<;>omega)) (by first|omega|(simp[Ae,BO,-List.length_flatMap]<;>omega))] at H;have H:Sep z (blk a (Bb (Bc ([80,76,79,71]++Af 8 e++Af 8 s++Af 4 (u.toNat:Int)++Af 2 (ns.length:Int))) 26) 204::blk k [Aa e,Aa s,.slice c ns.length f,u32 u] 233::tblA pt::A::R) w:=H;refine Z2 12 [2,1,0] H Z ?_;refine Ay (σ:=Nat) (λi=>[(53,Aa (i:Int)),(0,V pt),(6,V a),(51,.slice c ns.length f),(52,Aa (ns.length:Int))])
   (λi w=>Sep z (blk a (Bb (Bc ([80,76,79,71]++Af 8 e++Af 8 s++Af 4 (u.toNat:Int)++Af 2 (ns.length:Int)++(ns.take i).flatMap (Af 4))) ((26+4*i:Nat):Int)) 204::blk k [Aa e,Aa s,.slice c ns.length f,u32 u] 233::tblA pt::A::R) w/\(i<=ns.length/\∀(j:Nat) (x:Int),j<i->ns[j]?=some x->0<=x/\x<=1023)) (λi=>ns.length-i) 0
   fr_z ⟨(by simpa using H),by omega,λj x h=>by omega⟩ ?_
 clear H;rintro i w ⟨H',hI⟩;have H:=H'.l4;obtain ⟨a2,g⟩:=hI;refine Z0 6 [0] Z (Ag Z (λh5=>?_) (λh5=>?_))
 ·obtain ⟨x,b⟩:∃x,ns[i]?=some x:=⟨_,AbF U⟩;refine Zc 6 Z ?_;have l:=(H.rd 3 Z hA).at (j:=i) (u:=Aa x) (by simp[b])
  refine Ad Z (Az Z (z:=1) (j:=i) (r:=i) J Z Z Z U l U) (Ad Z (AM Z Z J (AB l)) (Zc 7 Z (Ai Z (call122 _) (C6 _ _) H ?_)));intro w H;refine Ad Z (AW Z Z) (Zc 2 Z (Ag Z (λh6=>?_) (λh6=>?_)))
  ·refine Zc 7 Z (Zr Z ?_);exact ⟨_,.inl ⟨by rintro ⟨o,m,n,d⟩;first|omega|exact absurd (d x (AbG b)) ‹_›,rfl,rfl⟩,H.perm 4 [2,3] rfl rfl⟩
  refine Zc 4 Z (Ai Z (call144 _) (DT _ (26+4*i) 4 x _ (Bl (by first|omega|(simp[Ae,BO,-List.length_flatMap]<;>omega))) U) H ?_);intro w H;rw[show ((26+4*i+4:Nat):Int)=(((26+4*(i+1):Nat):Int):Int) from by omega] at H;rw[show BD (Bc ([80,76,79,71]++Af 8 e++Af 8 s++Af 4 (u.toNat:Int)++Af 2 (ns.length:Int)++(ns.take i).flatMap (Af 4))) (Af 4 x) (26+4*i)=Bc ([80,76,79,71]++Af 8 e++Af 8 s++Af 4 (u.toNat:Int)++Af 2 (ns.length:Int)++(ns.take i).flatMap (Af 4)++Af 4 x) from Cp (by first|omega|(simp[Ae,BO,-List.length_flatMap]<;>omega)) (by first|omega|(simp[Ae,BO,-List.length_flatMap]<;>omega))] at H;have H:Sep z (blk a (Bb (Bc ([80,76,79,71]++Af 8 e++Af 8 s++Af 4 (u.toNat:Int)++Af 2 (ns.length:Int)++(ns.take i).flatMap (Af 4)++Af 4 x)) ((26+4*(i+1):Nat):Int)) 204::blk k [Aa e,Aa s,.slice c ns.length f,u32 u] 233::tblA pt::A::R) w:=H;refine Z1 7 [] [(i:Int)+1] Z U (gf ?_);intro _ hF;refine ⟨(i+1),hF.cz,⟨(by rw[<-Q4 b,<-AbK];exact H),?_⟩,?_⟩
  ·refine ⟨by omega,λj y p h=>?_⟩;rcases AbX j i with q|q
   ·exact g j y q h
   obtain rfl:j=i:=by omega
   rw[b] at h;cases h;omega
  omega
 obtain rfl:i=ns.length:=by omega
 refine Zc 2 Z (gx (Zc 3 Z ?_));rw[AcB] at H;have H:Sep z (blk a (Bb (Bc ([80,76,79,71]++Af 8 e++Af 8 s++Af 4 (u.toNat:Int)++Af 2 (ns.length:Int)++ns.flatMap (Af 4))) ((26+4*ns.length:Nat):Int)) 204::blk k [Aa e,Aa s,.slice c ns.length f,u32 u] 233::tblA pt::A::R) w:=H;refine Zc 2 Z (Ai Z (call180 _) (HA _ _ _ _ (Bl (by first|omega|(simp[Ae,BO,-List.length_flatMap]<;>omega)))) H.f2.f1 ?_);intro w H;refine Zc 5 Z (Zr Z ?_);exact ⟨_,.inr ⟨⟨by omega,by omega,by omega,λx b=>by obtain ⟨j,p,rfl⟩:=Adf.1 b;exact g j _ p (AbF p)⟩,a,Z,Z⟩,H.perm 4 [0,1,3] Z Z⟩
theorem II(b off n c:Nat)(bs:List UInt8)(A:Ah)(l:∀h,A h->rdH 1 (.slice (some ⟨b,off,none⟩) n c) n (bs.map u8) h)(o:0<n/\n<=1073741824):Aj 118 [.slice (some ⟨b,off,none⟩) n c] [A] (λv G=>(∃g a rest,v=.slice (some ⟨g,0,none⟩) n a/\(n<=a/\a<=9223372036854775807/\rest.length=a-n)/\G=[blk g (bs.map u8++rest) 5,A])):=by
 intro z R w H;refine Ac func118 Z ntmps118 Z (Zc 9 Z (Ad Z (L8 Z J Z Z) (Zc 7 Z (AG Z (HM H Z J Bf) ?_))));rintro _ w ⟨m,rfl,H⟩;refine Zc 1 Z ?_;replace H:=(H.mono 0 (B:=grow 5 1 (.slice (some ⟨m,0,none⟩) 0 0) 0 []) Z (λh q=>q.grow U U O Z)).l2;refine AG Z (AO 0 H Z Z J Bf Z Z (H.rd 1 Z l) (by simp[u8,Value.oneCell']) U) ?_;rintro p w d;have e:([]++bs.map u8:List Value)=bs.map u8:=by simp
 rw[e] at d;rw[show (0+n:Nat)=n from by omega] at d;have H:=d.l2;refine Zc 4 Z (Zr Z ?_);obtain ⟨g,a,rest,j,i,k,r,d⟩:=H.ungrow 0 Z U;exact ⟨_,⟨g,a,rest,j,⟨i,k,by omega⟩,Z⟩,d⟩
theorem Ig(pd:Nat)(D:Dsk)(x:Int):Aj 65 [V pd,Aa x,Aa 1] [diskA pd D] (λv G=>(¬(0<=x/\x<(D.n:Int))/\v=.tuple #[.slice none 0 0,Aa 2]/\G=[diskA pd D])\/((0<=x/\x<(D.n:Int))/\D.f1=1/\v=.tuple #[.slice none 0 0,Aa 10]/\G=[diskA pd {D with f1:=AZ D.f1}])\/((0<=x/\x<(D.n:Int))/\¬D.f1=1/\∃g b rest,v=.tuple #[.slice (some ⟨g,0,none⟩) 256 b,Aa 0]/\(256<=b/\b<=9223372036854775807/\rest.length=b-256)/\G=[blk g ((D.cont x.toNat).map u8++rest) 5,diskA pd {D with f1:=AZ D.f1}])):=by
 intro z R w H;obtain ⟨bd,m,f0,bs,es,clk,hq,a,d,s⟩:=H.disk;clear H;have b0:=a.n1;have a4:=a.n2;have a5:=a.f1;have a9:=d.len;have H:=s.l5;refine Ac func65 Z ntmps65 Z (Zc 12 Z (Ai Z (call116 _) (Ow _ _ _ _ _ _ _ _ _ _ _ _ U) H ?_));intro w H;refine Ad Z (AW Z Z) (Zc 2 Z (Ag Z (λh1=>?_) (λh1=>?_)))
 ·refine Zc 7 Z (Zr Z ?_);replace H:=(Sep.toDisk (D:=D) (pd:=pd) (bd:=bd) (m:=m) (f0:=f0) (bs:=bs) (es:=es) (clk:=clk) (hq:=hq) (Γ:=R) H a d).l1
  exact ⟨_,.inl ⟨by omega,Z,Z⟩,H⟩
 obtain ⟨k,rfl⟩:∃k:Nat,x=(k:Int):=⟨x.toNat,by omega⟩;have t:k<D.n:=by omega
 refine Zc 6 Z (Ai Z (call117 _) (TE _ _ _ _ _ _ _ _ _ _ U) H ?_);intro w H;refine Zc 2 Z (Ag Z (λh2=>?_) (λh2=>?_))
 ·refine Zc 7 Z (Zr Z ?_);replace H:=(Sep.toDisk (D:= {D with f1:=AZ D.f1}) (pd:=pd) (bd:=bd) (m:=m) (f0:=f0) (bs:=bs) (es:=es) (clk:=clk) (hq:=hq) (Γ:=R) H (a.f (ET a.f1) a.f2 a.f3 a.left) (d.f _ _ _ _ _)).l1
  exact ⟨_,.inr (.inl ⟨by omega,‹_›,Z,Z⟩),H⟩
 refine Z3 14 [0,0,0] [(k:Int)*256,(k:Int)+1,((k:Int)+1)*256] H Z U (Ad Z (Bj Z (z:=1) (p:=(k*256)) (q:=((k+1)*256)) (o':=k*256) (l':=256) (c':=D.n*256-k*256) J Z (.inr ⟨_,_,_,Z,Z,U⟩) (.inr ⟨_,_,_,Z,Z,U⟩) U U U U U U) (AA Z (call118 _) (II _ _ 256 _ (D.dur k) _ (λh q=>q.rd U U (by simp;omega) (by rw[<-Aeu,<-Adt,AcD,d.own k t])) U) H.f1 ?_));rintro _ w _ ⟨g,b,rest,rfl,⟨cg,cc,cl⟩,rfl⟩ H;refine Zc 11 Z ?_;refine Ay (σ:=Nat) (λj=>[(31,Aa (j:Int)),(0,V pd),(1,Aa (k:Int)),(6,.slice none 0 0),(7,Aa 0),(8,.slice (some ⟨g,0,none⟩) 256 b),(30,Aa 1)])
   (λj w=>Sep z (blk g ((HV D k j).map u8++rest) 5::blk bd (bs.map u8) 5::blk pd [.slice (some ⟨bd,0,none⟩) (D.n*256) (D.n*256),.map (some m),Aa f0,Aa (if D.f1=0 then 0 else D.f1-1),Aa D.f2,Aa D.f3,.bool D.cut,Aa D.left] 106::AE m (es.map Ent.ie) clk::poolA hq::seps (es.map Ent.row)::R) w/\(j<=1)) (λj=>1-j) 0
   fr_z ⟨H,by omega⟩ ?_
 clear H;rintro j w ⟨s,hI⟩;have H:=s.l6;refine Z0 6 [0] Z (Ag Z (λh3=>?_) (λh3=>?_))
 ·obtain rfl:j=0:=by omega
  refine Zc 12 Z ?_;obtain ⟨v0,c,a1,a2,i,o⟩:=Zd d t;have sv:=H.sy 5 (λq=>(i _ q).slc);obtain ⟨ao,a3,rfl⟩:=sv;have a8:=H.sy 5 (λq=>(i _ q).small);refine Z3 7 [1,2,0] [(k:Int)] H Z U (Ad Z (Fo (e:=107) (zv:=.slice none 0 0) Z J J Z Z (AB (H.bk 3 Z))) (k_updA 41 (v:=.slice ao c.length a3) Z a1 (Z0 10 [0] Z (Ag Z (λh4=>?_) (λh4=>?_)))))
  ·obtain ⟨pv,a0⟩:∃pv,c[c.length-1]?=some pv:=⟨_,AbF U⟩;obtain ⟨p,hp⟩:∃p,(D.ver k)[c.length-1]?=some p:=⟨_,AbF U⟩;have u:=Le a2 hp
   have l:p.length=256:=by rw[<-u];exact Dsk.cont_len a t
   refine Bh 10 J J (A4 H λw s=>?_);have H:=s.l6;refine CL 3 [] [0] H Z J U (Cj Z Z Z (Bj Z (z:=1) (p:=0) (q:=256) (o':=0) (l':=256) (c':=b) J Z (.inr ⟨_,_,_,Z,Z,Z⟩) (.inl ⟨Z,Z⟩) U U U U U U) (CL 4 [] [(c.length:Int)-1] H Z J U ?_));have y:=(H.rd 5 Z i).at a0;refine Cj Z Z Z (Az Z (z:=1) (j:=(c.length-1)) (r:=(c.length-1)) J Z Z U U y U) (Cj Z Z Z (AM Z Z J (AB y)) (BY (gw (AG Z (HU 0 H Z Z J Z Z (m:=256) (news:=(p.map u8)) (.inl (H.rd 4 Z (o _ _ _ a0 hp))) (by simp[u8,Value.oneCell']) (by simp[HV,a.dur k t]<;>omega) (k:=256) U (out:=((HV D k (0+1)).map u8++rest)) (by rw[show HV D k (0+1)=p from u];simp[HV,AbJ,l,a.dur k t,Aco])) ?_))));rintro _ w ⟨rfl,H⟩;refine Z1 7 [] [(0:Int)+1] Z U (gf ?_);intro _ hF;refine ⟨(0+1),hF.cz,⟨H,?_⟩,?_⟩
   ·omega
   omega
  refine Z1 7 [] [(0:Int)+1] Z U (gf ?_);intro _ hF;refine ⟨(0+1),hF.cz,⟨(by rw[show HV D k (0+1)=HV D k 0 from Jb (AdG U)];exact H),?_⟩,?_⟩
  ·omega
  omega
 refine Zc 2 Z (gx (Zc 10 Z (Zr Z ?_)));obtain rfl:j=1:=by omega
 replace H:=H.f5.f5.f5.f4.f5;replace H:=(Sep.toDisk (D:= {D with f1:=AZ D.f1}) (pd:=pd) (bd:=bd) (m:=m) (f0:=f0) (bs:=bs) (es:=es) (clk:=clk) (hq:=hq) (Γ:=blk g ((HV D k 1).map u8++rest) 5::R) H (a.f (ET a.f1) a.f2 a.f3 a.left) (d.f _ _ _ _ _)).l2;exact ⟨_,.inr (.inr ⟨by omega,‹_›,g,b,rest,Z,⟨cg,cc,cl⟩,Z⟩),H.perm 2 [1,0] Z Z⟩
theorem Rs(pt b o c:Nat)(sec:List UInt8)(A:Ah)(k:∀h,A h->rdH 1 (.slice (some ⟨b,o,none⟩) 256 c) 256 (sec.map u8) h):Aj 176 [V pt,.slice (some ⟨b,o,none⟩) 256 c] [tblA pt,A] (λv G=>(Hv sec/\∃v',v=.tuple #[.agg #[Aa (Be ((sec.drop 4).take 8)),Aa (Be ((sec.drop 12).take 8)),v',u32 (DS (Be ((sec.drop 20).take 4)))],.bool true]/\G=[grow 3 1 v' (Bp sec) (hN sec (Bp sec)),tblA pt,A])\/(¬Hv sec/\v=.tuple #[.agg #[Aa 0,Aa 0,.slice none 0 0,u32 0],.bool false]/\G=[tblA pt,A])):=by
 intro z R w H;replace H:=H.l2;have x:=H.sy 1 (λq=>(k _ q).len);have a2:=H.sy 1 (λq=>(k _ q).cap);obtain ⟨c0,c1,c2,c3,hd⟩:=Mk x;obtain ⟨m,hm,e⟩:=Q5 (sec:=sec);refine Ac func176 Z ntmps176 Z (Zc 2 Z (AG Z (Bz (P:=prog) H Z (zs:=[Aa 0,Aa 0,.slice none 0 0,u32 0]) J) ?_));rintro _ w ⟨b1,rfl,H⟩;replace H:=H.l3;refine Zc 7 Z (AA Z (call120 _) (KD _ _ _ _ _ sec _ k) H.f2.f2 ?_);rintro _ w _ (⟨hs,rfl,rfl⟩|⟨hs,rfl,rfl⟩) g
 ·have H:=g.l3;refine Za 3 [] H Z ?_;intro u w H;refine Z4 16 [0] H Z ?_;intro w H;refine Ai Z (call121 _) (Eg 8 _ b (o+4) 248 (c-4) ((sec.drop 4).take 248) _ (λh q=>(k h q).cut (lo:=4) (m:=248) (c':=(c-4)) U U U) U U ((sec.drop 4).take 8) (by rw[Acq,Acm U]) (o+12) 240 (c-12) U U U) H.f2.f1 ?_;intro w H;replace H:=H.l4;refine Ai Z (call121 _) (Eg 8 _ b (o+12) 240 (c-12) ((sec.drop 12).take 240) _ (λh q=>(k h q).cut (lo:=12) (m:=240) (c':=(c-12)) U U U) U U ((sec.drop 12).take 8) (by rw[Acq,Acm U]) (o+20) 232 (c-20) U U U) H ?_;intro w H;replace H:=H.l4;refine Ai Z (call121 _) (Eg 4 _ b (o+20) 232 (c-20) ((sec.drop 20).take 232) _ (λh q=>(k h q).cut (lo:=20) (m:=232) (c':=(c-20)) U U U) U U ((sec.drop 20).take 4) (by rw[Acq,Acm U]) (o+24) 228 (c-24) U U U) H ?_;intro w H;replace H:=H.l4;refine Ad Z (HS Z J Z) (Ad Z (AX Z Z (out:=[Aa (Be ((sec.drop 4).take 8)),Aa (Be ((sec.drop 12).take 8)),.slice none 0 0,u32 (DS (Be ((sec.drop 20).take 4)))]) J) (AG Z (Bz (P:=prog) H Z (zs:=[Aa 0,Aa 0,.slice none 0 0,u32 0]) J) ?_))
  rintro _ w ⟨b3,rfl,H⟩;replace H:=H.l5;refine Z4 5 [0] H Z ?_;intro w H;refine Ai Z (call121 _) (Eg 2 _ b (o+24) 228 (c-24) ((sec.drop 24).take 228) _ (λh q=>(k h q).cut (lo:=24) (m:=228) (c':=(c-24)) U U U) U U ((sec.drop 24).take 2) (by rw[Acq,Acm U]) (o+26) 226 (c-26) U U U) H.f2.f2 ?_;intro w H;refine Z2 8 [0,2,0] H Z (Ai Z (call122 _) (C6 _ _) H ?_);intro w H;replace H:=H.l5;refine Ad Z (AW Z Z) (Zc 1 Z (Ak 30 Z (λh1=>?_) (λh1=>?_)))
  ·refine Zc 18 Z (Ad Z (AX Z Z (out:=[Aa 0,Aa 0,.slice none 0 0,u32 0]) J) (Z4 5 [4] H Z ?_));intro w H;refine Zl [4,4] H Z ?_;exact ⟨_,.inr ⟨by first|exact λq=>hs q.1|(rintro ⟨r,s,n,p,f,a⟩;first|(exfalso;omega)|exact absurd (f i U) ‹_› |(rw[e] at a;exact absurd a ‹_›)),rfl,rfl⟩,H.perm 5 [3,1] rfl rfl⟩
  refine Z2 2 [1,2,0] H Z (Ai Z (call122 _) (C6 _ _) H ?_);intro w H;replace H:=H.l5;refine Ad Z (AW Z Z) (Zc 2 Z (Ak 36 Z (λh2=>?_) (λh2=>?_)))
  ·refine Zc 12 Z (Ad Z (AX Z Z (out:=[Aa 0,Aa 0,.slice none 0 0,u32 0]) J) (Z4 5 [4] H Z ?_));intro w H;refine Zl [4,4] H Z ?_;exact ⟨_,.inr ⟨by first|exact λq=>hs q.1|(rintro ⟨r,s,n,p,f,a⟩;first|(exfalso;omega)|exact absurd (f i U) ‹_› |(rw[e] at a;exact absurd a ‹_›)),rfl,rfl⟩,H.perm 5 [3,1] rfl rfl⟩
  refine Z0 4 [0] Z (Ak 40 Z (λh3=>?_) (λh3=>?_))
  ·refine Zc 8 Z (Ad Z (AX Z Z (out:=[Aa 0,Aa 0,.slice none 0 0,u32 0]) J) (Z4 5 [4] H Z ?_));intro w H;refine Zl [4,4] H Z ?_;exact ⟨_,.inr ⟨by first|exact λq=>hs q.1|(rintro ⟨r,s,n,p,f,a⟩;first|(exfalso;omega)|exact absurd (f i U) ‹_› |(rw[e] at a;exact absurd a ‹_›)),rfl,rfl⟩,H.perm 5 [3,1] rfl rfl⟩
  refine Z0 5 [0] Z (Ag Z (λh4=>?_) (λh4=>?_))
  ·refine Zc 2 Z (Ad Z (AX Z Z (out:=[Aa 0,Aa 0,.slice none 0 0,u32 0]) J) (Z4 5 [4] H Z ?_));intro w H;refine Zl [4,4] H Z ?_;exact ⟨_,.inr ⟨by first|exact λq=>hs q.1|(rintro ⟨r,s,n,p,f,a⟩;first|(exfalso;omega)|exact absurd (f i U) ‹_› |(rw[e] at a;exact absurd a ‹_›)),rfl,rfl⟩,H.perm 5 [3,1] rfl rfl⟩
  refine Zc 4 Z (k_updA 9 (v:=Aa (m:Int)) Z (congrArg Aa hm) ?_);replace H:=(H.nilg 3 1).l6;refine Zc 6 Z ?_;refine Ay (σ:=Nat×Value) (λ⟨i,v⟩=>[(46,Aa (i:Int)),(4,V b1),(6,V u),(8,V b3),(45,Aa (m:Int))])
    (λ⟨i,v⟩ w=>Sep z (grow 3 1 v i (hN sec i)::blk u [.slice (some ⟨b,(o+(26+4*i)),none⟩) (252-(26+4*i)) (c-(26+4*i))] 162::A::blk b3 [Aa (Be ((sec.drop 4).take 8)),Aa (Be ((sec.drop 12).take 8)),v,u32 (DS (Be ((sec.drop 20).take 4)))] 233::tblA pt::blk b1 [Aa 0,Aa 0,.slice none 0 0,u32 0] 233::R) w/\(i<=m/\∀j,j<i->0<=D4 sec j/\D4 sec j<=1023)) (λ⟨i,v⟩=>m-i) ⟨0,.slice none 0 0⟩
    fr_z ⟨H,by omega,λj h=>by omega⟩ ?_
  clear H;rintro ⟨i,v⟩ w ⟨g,hI⟩;dsimp only at hI g ⊢;have H:=g.l6;have sv:=H.sy 0 (·.slc);obtain ⟨a0,l⟩:=hI;refine Z0 6 [0] Z (Ag Z (λh5=>?_) (λh5=>?_))
  ·have a1:i<m:=by omega
   refine Zc 6 Z (Ai Z (call121 _) (Eg 4 _ b (o+(26+4*i)) (252-(26+4*i)) (c-(26+4*i)) ((sec.drop (26+4*i)).take (252-(26+4*i))) _ (λh q=>(k h q).cut (lo:=(26+4*i)) (m:=(252-(26+4*i))) (c':=(c-(26+4*i))) U U U) U U ((sec.drop (26+4*i)).take 4) (by rw[Acq,Acm U]) (o+(26+4*(i+1))) (252-(26+4*(i+1))) (c-(26+4*(i+1))) U U U) H.f2.f2 ?_);intro w H;refine Zc 7 Z (Ai Z (call122 _) (C6 _ _) H ?_);intro w H;replace H:=H.l6;refine Ad Z (AW Z Z) (Zc 2 Z (Ag Z (λh6=>?_) (λh6=>?_)))
   ·refine Zc 2 Z (Ad Z (AX Z Z (out:=[Aa 0,Aa 0,.slice none 0 0,u32 0]) J) (Z4 5 [5] H Z ?_));intro w H;refine Zl [5,4] H Z ?_;exact ⟨_,.inr ⟨by first|exact λq=>hs q.1|(rintro ⟨r,s,n,p,f,a⟩;first|(exfalso;omega)|exact absurd (f i U) ‹_› |(rw[e] at a;exact absurd a ‹_›)),rfl,rfl⟩,H.perm 6 [4,1] rfl rfl⟩
   refine Z2 6 [2,3,0] H Z (AG Z (AL H Z J BP Z (by decide) (by decide) (out:=[Aa (D4 sec i)]) J) ?_);rintro _ w ⟨b4,rfl,H⟩;replace H:=H.l7;refine AG Z (AO 3 H Z Z J BP Z Z (H.rv 0 (·.rd U U O Z)) (by simp[Value.oneCell']) U) ?_;rintro v5 w g;have g:Sep z (blk b4 [Aa (D4 sec i)] 3::blk u [.slice (some ⟨b,(o+(26+4*(i+1))),none⟩) (252-(26+4*(i+1))) (c-(26+4*(i+1)))] 162::A::grow 3 1 v5 (i+1) (hN sec i++[Aa (D4 sec i)])::blk b3 [Aa (Be ((sec.drop 4).take 8)),Aa (Be ((sec.drop 12).take 8)),v,u32 (DS (Be ((sec.drop 20).take 4)))] 233::tblA pt::blk b1 [Aa 0,Aa 0,.slice none 0 0,u32 0] 233::R) w:=g;have y:(hN sec i++[Aa (D4 sec i)]:List Value)=hN sec (i+1):=WR sec i;rw[y] at g;have H:=g.l7;have t:=H.sy 3 (·.slc);refine Z0 1 [2] Z (A9 Z Z (Kp 4 H Z Z Z Z t.cells t.one J) ?_);rintro w H;replace H:=H.l7;refine Z1 7 [] [(i:Int)+1] Z U ?_;replace H:=H.d.f5.f5.f5.f4.f4.f5;refine gf ?_;intro _ hF;refine ⟨⟨i+1,v5⟩,hF.cz,⟨H,?_⟩,?_⟩
   ·refine ⟨by omega,λj h=>?_⟩;rcases AbX j i with q|q
    ·exact l j q
    obtain rfl:j=i:=by omega
    unfold D4;omega
   omega
  obtain rfl:i=m:=by omega
  refine Zc 2 Z (gx (Zc 5 Z (Ai Z (call174 _) (Rp _ b (o+(26+4*i)) (252-(26+4*i)) (c-(26+4*i)) ((sec.drop (26+4*i)).take (252-(26+4*i))) _ (λh q=>(k h q).cut (lo:=(26+4*i)) (m:=(252-(26+4*i))) (c':=(c-(26+4*i))) U U U) U) H.f2.f2 ?_)));intro w H;replace H:=H.l6;refine Ad Z (AW Z Z) (Zc 2 Z (Ag Z (λh7=>?_) (λh7=>?_)))
  ·refine Zc 2 Z (Ad Z (AX Z Z (out:=[Aa 0,Aa 0,.slice none 0 0,u32 0]) J) (Z4 5 [5] H Z ?_));intro w H;refine Zl [5,4] H Z ?_;exact ⟨_,.inr ⟨by first|exact λq=>hs q.1|(rintro ⟨r,s,n,p,f,a⟩;first|(exfalso;omega)|exact absurd (f i U) ‹_› |(rw[e] at a;exact absurd a ‹_›)),rfl,rfl⟩,H.perm 6 [4,1] rfl rfl⟩
  refine Z2 5 [3,4] H Z (A9 Z Z (AD 5 H Z Z Z Z (vs:=[Aa (Be ((sec.drop 4).take 8)),Aa (Be ((sec.drop 12).take 8)),v,u32 (DS (Be ((sec.drop 20).take 4)))]) Z (Aq Z (Aq Z (Aq sv.one (Aq Z AN)))) J O (out:=[Aa (Be ((sec.drop 4).take 8)),Aa (Be ((sec.drop 12).take 8)),v,u32 (DS (Be ((sec.drop 20).take 4)))]) Z) ?_);rintro w H;replace H:=H.l6;refine Zc 4 Z (Zl [5,4] H Z ?_);subst e;exact ⟨_,.inl ⟨⟨hs,by omega,by omega,by omega,l,by omega⟩,v,Z,Z⟩,H.perm 6 [2,4,1] Z Z⟩
 have H:=g.l3;refine Za 3 [] H Z ?_;intro b6 w H;refine Z4 14 [0] H Z ?_;intro w H;refine Ad Z (AX Z Z (out:=[Aa 0,Aa 0,.slice none 0 0,u32 0]) J) (Z4 5 [3] H Z ?_);intro w H;refine Zl [3,4] H Z ?_;exact ⟨_,.inr ⟨by first|exact λq=>hs q.1|(rintro ⟨r,s,n,p,f,a⟩;first|(exfalso;omega)|exact absurd (f i U) ‹_› |(rw[e] at a;exact absurd a ‹_›)),rfl,rfl⟩,H.perm 4 [1,2] rfl rfl⟩
theorem PG(pt b o c:Nat)(sec:List UInt8)(A:Ah)(d:∀h,A h->rdH 1 (.slice (some ⟨b,o,none⟩) 256 c) 256 (sec.map u8) h):Aj 178 [V pt,.slice (some ⟨b,o,none⟩) 256 c] [tblA pt,A] (λv G=>(Ib sec/\∃g a rest,v=.tuple #[Aa (Be ((sec.drop 3).take 4)),Aa (Be ((sec.drop 7).take 5)),.agg #[Aa (Be ((sec.drop 1).take 2)),Aa (Be (sec.take 1)),.slice (some ⟨g,0,none⟩) 240 a],.bool true]/\(240<=a/\a<=9223372036854775807/\rest.length=a-240)/\G=[blk g (((sec.drop 12).take 240).map u8++rest) 5,tblA pt,A])\/(¬Ib sec/\v=.tuple #[Aa 0,Aa 0,.agg #[Aa 0,Aa 0,.slice none 0 0],.bool false]/\G=[tblA pt,A])):=by
 intro z R w H;replace H:=H.l2;have i:=H.sy 1 (λq=>(d _ q).len);have a0:=H.sy 1 (λq=>(d _ q).cap);obtain ⟨c0,n,c2,x,f⟩:=Mk i;refine Ac func178 Z ntmps178 Z (Za 4 [] H Z ?_);intro b1 w H;refine Zc 5 Z (Bd (Sep z _) J J H.drew (JP 9 [4] [] Z J (Bn Z Z Z (Bj Z (z:=1) (p:=252) (q:=256) (o':=o+252) (l':=4) (c':=c-252) J Z (.inr ⟨_,_,_,Z,Z,Z⟩) (.inl ⟨Z,Z⟩) U U U U U U) (Bn Z Z Z (Lj (m:=4) Z J Z U) (Bn Z Z Z (Bt Z Z (vs:=[u8 c0,u8 n,u8 c2,u8 x]) J (λ_ hx=>hx.cell4 2 Z d f)) (Cm 2 [] Z J (Bn Z Z Z (Bj Z (z:=1) (p:=0) (q:=252) (o':=o) (l':=252) (c':=c) J Z (.inl ⟨Z,Z⟩) (.inr ⟨_,_,_,Z,Z,Z⟩) U U U U U U) (Dh Z Z Z Z Z (λw=>call171 _ w) (v:=.agg #[u8 ((AC (sec.take 252)).toUInt8),u8 (((AC (sec.take 252))>>>8).toUInt8),u8 (((AC (sec.take 252))>>>16).toUInt8),u8 (((AC (sec.take 252))>>>24).toUInt8)]) (cq (MH _ _ _ (sec.take 252) (by simp[i]) _ (λh q=>(d h q).pre U U)) (by rintro _ _ ⟨rfl,rfl⟩;exact ⟨Z,Z⟩) 3 [1,2,0] [2,0,1] Z Z Z Z) (Bn Z Z Z (Oo Z J J Z Z) (Cm 1 [] Z J (Bu (λw s=>?_))))))))))));have H:=s.l3;refine gn (Zc 1 Z (Ag Z (λh1=>?_) (λh1=>?_)))
 ·refine Z4 10 [0] H Z ?_;intro w H;refine Zl [0,3] H Z ?_;exact ⟨_,.inr ⟨by rintro ⟨e,j,k⟩;first|exact absurd (f▸e) ‹_› |(exfalso;omega),rfl,rfl⟩,H.perm 3 [1,2] rfl rfl⟩
 refine Zc 5 Z (Ad Z (Bj Z (z:=1) (p:=0) (q:=252) (o':=o) (l':=252) (c':=c) J Z (.inl ⟨Z,Z⟩) (.inr ⟨_,_,_,Z,Z,Z⟩) U U U U U U) (Za 1 [] H Z ?_));intro b2 w H;refine Z4 5 [0] H Z ?_;intro w H;refine Ai Z (call121 _) (Eg 1 _ b o 252 c (sec.take 252) _ (λh q=>(d h q).pre (m:=252) (c':=c) U U) U U (sec.take 1) (by rw[Acq,Acm U]) (o+1) 251 (c-1) U U U) H.f3.f1 ?_;intro w H;replace H:=H.l4;refine Ai Z (call121 _) (Eg 2 _ b (o+1) 251 (c-1) ((sec.drop 1).take 251) _ (λh q=>(d h q).cut (lo:=1) (m:=251) (c':=(c-1)) U U U) U U ((sec.drop 1).take 2) (by rw[Acq,Acm U]) (o+3) 249 (c-3) U U U) H ?_;intro w H;replace H:=H.l4;refine Ai Z (call121 _) (Eg 4 _ b (o+3) 249 (c-3) ((sec.drop 3).take 249) _ (λh q=>(d h q).cut (lo:=3) (m:=249) (c':=(c-3)) U U U) U U ((sec.drop 3).take 4) (by rw[Acq,Acm U]) (o+7) 245 (c-7) U U U) H ?_;intro w H;replace H:=H.l4;refine Ai Z (call121 _) (Eg 5 _ b (o+7) 245 (c-7) ((sec.drop 7).take 245) _ (λh q=>(d h q).cut (lo:=7) (m:=245) (c':=(c-7)) U U U) U U ((sec.drop 7).take 5) (by rw[Acq,Acm U]) (o+12) 240 (c-12) U U U) H ?_;intro w H;refine Z0 12 [0] Z (Ak 41 Z (λl=>?_) (λl=>?_))
 ·refine Z4 21 [2] H Z ?_;intro w H;refine Zl [2,3] H Z ?_;exact ⟨_,.inr ⟨by rintro ⟨e,j,k⟩;first|exact absurd (f▸e) ‹_› |(exfalso;omega),rfl,rfl⟩,H.perm 4 [3,1] rfl rfl⟩
 refine Z0 4 [0] Z (Ak 45 Z (λt=>?_) (λt=>?_))
 ·refine Z4 17 [2] H Z ?_;intro w H;refine Zl [2,3] H Z ?_;exact ⟨_,.inr ⟨by rintro ⟨e,j,k⟩;first|exact absurd (f▸e) ‹_› |(exfalso;omega),rfl,rfl⟩,H.perm 4 [3,1] rfl rfl⟩
 refine Zc 1 Z (Ai Z (call122 _) (C6 _ _) H ?_);intro w H;replace H:=H.l4;refine Ad Z (AW Z Z) (Zc 3 Z (Ag Z (λh4=>?_) (λh4=>?_)))
 ·refine Z4 10 [2] H Z ?_;intro w H;refine Zl [2,3] H Z ?_;exact ⟨_,.inr ⟨by rintro ⟨e,j,k⟩;first|exact absurd (f▸e) ‹_› |(exfalso;omega),rfl,rfl⟩,H.perm 4 [3,1] rfl rfl⟩
 refine Z2 10 [0,0,0] H Z (AA Z (call118 _) (II _ _ 240 _ ((sec.drop 12).take 240) _ ((λh q=>(d h q).cut (lo:=12) (m:=240) (c':=(c-12)) U U U)) U) H.f1 ?_);rintro _ w _ ⟨g,a,rest,rfl,⟨y,r,u⟩,rfl⟩ H;refine Z4 9 [3] H Z ?_;intro w H;refine Zl [3,3] H Z ?_;exact ⟨_,.inl ⟨⟨by rw[f];exact AdM ‹_›,by omega,by omega⟩,g,a,rest,Z,⟨y,r,u⟩,Z⟩,H.perm 5 [0,4,1] Z Z⟩
theorem GY(s:Sup)(n:Int)(hn:0<=n/\n<=1152921504606846976):Aj 129 [.agg #[Aa s.gen,Aa s.epoch,Aa s.pages,Aa s.start,Aa s.len,Aa s.head,Aa s.seq],Aa n] [] (λv G=>v=Aa (if s.Ok n then 0 else 1)/\G=[]):=by
 intro z R w H;refine Ac func129 Z ntmps129 Z (Za 2 [] H Z ?_);intro u w H;refine Z2 20 [0,0,0,1,0,0,2,0,0,3,0,0,4,0,0,5,0,0,6,0,0] H Z (Ad Z (AX Z Z (out:=[Aa s.gen,Aa s.epoch,Aa s.pages,Aa s.start,Aa s.len,Aa s.head,Aa s.seq]) J) (Zc 4 Z ?_));refine Ay (σ:=Nat) (λk=>[(22,Aa (k:Int)),(1,Aa n),(2,V u),(21,.agg #[Aa s.gen,Aa s.epoch,Aa s.pages,Aa s.start,Aa s.len,Aa s.head,Aa s.seq])])
   (λk w=>Sep z (blk u [Aa s.gen,Aa s.epoch,Aa s.pages,Aa s.start,Aa s.len,Aa s.head,Aa s.seq] 92::R) w/\(k<=7/\∀(j:Nat) (x:Int),j<k->s.list[j]?=some x->0<=x/\x<=1099511627776)) (λk=>7-k) 0
   fr_z ⟨H,by omega,λj x h=>by omega⟩ ?_
 clear H;rintro k w ⟨H',hI⟩;have H:=H'.l1;obtain ⟨a0,b⟩:=hI;refine Z0 6 [0] Z (Ag Z (λh1=>?_) (λh1=>?_))
 ·refine Zc 6 Z ?_;obtain ⟨x,c⟩:∃x,s.list[k]?=some x:=⟨_,AbF (by simp[Sup.list];omega)⟩;refine Ad Z (Mg Z J Z (l:=s.list) (j:=k) Z Z Z Z c) (Z0 8 [0] Z (Ak 27 Z (λh2=>?_) (λh2=>?_)))
  ·refine Zc 12 Z (Zr Z ?_);have a:¬s.Ok n:=λ⟨q,o,d,e,g,i,f,m⟩=>by
     first |omega|(have:=q x (AbG c);omega)
   exact ⟨_,⟨congrArg Aa (by rw[if_neg a]),rfl⟩,H.perm 1 [] rfl rfl⟩
  refine Z0 5 [0] Z (Ag Z (λh3=>?_) (λh3=>?_))
  ·refine Zc 6 Z (Zr Z ?_);have a:¬s.Ok n:=λ⟨q,o,d,e,g,i,f,m⟩=>by
     first |omega|(have:=q x (AbG c);omega)
   exact ⟨_,⟨congrArg Aa (by rw[if_neg a]),rfl⟩,H.perm 1 [] rfl rfl⟩
  refine Z1 7 [] [(k:Int)+1] Z U (gf ?_);intro _ hF;refine ⟨(k+1),hF.cz,⟨H,?_⟩,?_⟩
  ·refine ⟨by omega,λj y r t=>?_⟩;rcases AbX j k with h|h
   ·exact b j y h t
   obtain rfl:j=k:=by omega
   rw[c] at t;cases t;omega
  omega
 obtain rfl:k=7:=by omega
 have hp:=b 2 s.pages U Z;have hl:=b 4 s.len U Z;refine Zc 2 Z (gx (Z2 9 [2,0,0,0] H Z (Ak 35 Z (λh4=>?_) (λh4=>?_))))
 ·refine Zc 48 Z (Zr Z ?_);have a:¬s.Ok n:=λ⟨q,o,d,e,g,i,f,m⟩=>by
    first |omega|(have:=q x (AbG c);omega)
  exact ⟨_,⟨congrArg Aa (by rw[if_neg a]),rfl⟩,H.perm 1 [] rfl rfl⟩
 refine Z2 5 [2,0,0,0] H Z (Ak 40 Z (λh5=>?_) (λh5=>?_))
 ·refine Zc 43 Z (Zr Z ?_);have a:¬s.Ok n:=λ⟨q,o,d,e,g,i,f,m⟩=>by
    first |omega|(have:=q x (AbG c);omega)
  exact ⟨_,⟨congrArg Aa (by rw[if_neg a]),rfl⟩,H.perm 1 [] rfl rfl⟩
 refine Z3 8 [3,0,0,2,0,0,0] [2+s.pages] H Z U (Ak 48 Z (λh6=>?_) (λh6=>?_))
 ·refine Zc 35 Z (Zr Z ?_);have a:¬s.Ok n:=λ⟨q,o,d,e,g,i,f,m⟩=>by
    first |omega|(have:=q x (AbG c);omega)
  exact ⟨_,⟨congrArg Aa (by rw[if_neg a]),rfl⟩,H.perm 1 [] rfl rfl⟩
 refine Z2 5 [4,0,0,0] H Z (Ak 53 Z (λh7=>?_) (λh7=>?_))
 ·refine Zc 30 Z (Zr Z ?_);have a:¬s.Ok n:=λ⟨q,o,d,e,g,i,f,m⟩=>by
    first |omega|(have:=q x (AbG c);omega)
  exact ⟨_,⟨congrArg Aa (by rw[if_neg a]),rfl⟩,H.perm 1 [] rfl rfl⟩
 refine Z3 9 [3,0,0,4,0,0,0] [n-s.len] H Z U (Ak 62 Z (λh8=>?_) (λh8=>?_))
 ·refine Zc 21 Z (Zr Z ?_);have a:¬s.Ok n:=λ⟨q,o,d,e,g,i,f,m⟩=>by
    first |omega|(have:=q x (AbG c);omega)
  exact ⟨_,⟨congrArg Aa (by rw[if_neg a]),rfl⟩,H.perm 1 [] rfl rfl⟩
 refine Z2 6 [4,0,0,0] H Z (Ak 68 Z (λh9=>?_) (λh9=>?_))
 ·refine Zc 15 Z (Zr Z ?_);have a:¬s.Ok n:=λ⟨q,o,d,e,g,i,f,m⟩=>by
    first |omega|(have:=q x (AbG c);omega)
  exact ⟨_,⟨congrArg Aa (by rw[if_neg a]),rfl⟩,H.perm 1 [] rfl rfl⟩
 refine Z2 8 [5,0,0,4,0,0,0] H Z (Ag Z (λp=>?_) (λp=>?_))
 ·refine Zc 6 Z (Zr Z ?_);have a:¬s.Ok n:=λ⟨q,o,d,e,g,i,f,m⟩=>by
    first |omega|(have:=q x (AbG c);omega)
  exact ⟨_,⟨congrArg Aa (by rw[if_neg a]),rfl⟩,H.perm 1 [] rfl rfl⟩
 refine Zc 8 Z (Zr Z ?_);have a:s.Ok n:=⟨λx c=>by
   obtain ⟨j,r,rfl⟩:=Adf.1 c;exact b j _ (by simp[Sup.list] at r;omega) (AbF r)
   ,by omega,by omega,by omega,by omega,by omega,by omega,by omega⟩
 exact ⟨_,⟨congrArg Aa (by rw[if_pos a]),Z⟩,H.perm 1 [] Z Z⟩
theorem Rt(d pd pt:Nat)(s:Sup)(b sq a:Int)(c e:Bool)(h: -9223372036854775808<=s.len-a/\s.len-a<=9223372036854775807):Aj 209 [V d] [lgB d pd pt s b sq a c e] (λv G=>v=Aa (if c then 0 else s.len-a)/\G=[lgB d pd pt s b sq a c e]):=by
 intro z R w H;refine Ac func209 Z ntmps209 Z (Z2 14 [12,0,0] H Z (DP Z (λg=>?_) (λg=>?_)))
 ·refine Zc 6 Z (Zr Z ?_);exact ⟨_,⟨congrArg Aa (by simp_all),Z⟩,H⟩
 refine Zc 3 Z (Bd (Sep z _) J J H.drew (FT 11 [2,6,0,0,11,0,0] [s.len-a] Z J U (Bu (λw f=>?_))));have H:=f.l1;refine gn (Zc 2 Z (Zr Z ?_));exact ⟨_,⟨congrArg Aa (by simp_all),Z⟩,H⟩
theorem Ru(b pd pt:Nat)(s:Sup)(a sq e:Int)(d c:Bool):Aj 210 [V b] [lgB b pd pt s a sq e d c] (λv G=>v=.tuple #[Aa a,Aa sq]/\G=[lgB b pd pt s a sq e d c]):=by
 intro z R w H;refine Ac func210 Z ntmps210 Z (Zc 7 Z (Bd (Sep z _) J J H.drew (E7 10 [9,0,10,0] (λ_ g=>(AQ (g.blk 0 Z) AJ)) Z J Z (Bu (λw f=>?_)))));have H:=f.l1;refine gn (Zc 2 Z (Zr Z ?_));exact ⟨_,⟨Z,Z⟩,H⟩
theorem Rv(b pd pt:Nat)(s:Sup)(a sq e:Int)(d c:Bool):Aj 211 [V b] [lgB b pd pt s a sq e d c] (λv G=>v=.tuple #[]/\G=[lgB b pd pt s a sq 0 false c]):=by
 intro z R w H;refine Ac func211 Z ntmps211 Z (Z4 14 [11,0,12,0] H Z ?_);intro w H;refine Zf Z ?_;exact ⟨_,⟨Z,Z⟩,H⟩
theorem Jl(c pd pt:Nat)(s:Sup)(a sq b:Int)(e d:Bool)(n:Int)(i:0<=a/\a<=1099511627776)(g:0<=n/\n<=1099511627776)(j:0<s.len)(hs:0<=sq/\sq<=2199023255552)(h:0<=b/\b<=2199023255552):Aj 131 [V c,Aa n] [lgB c pd pt s a sq b e d] (λv G=>v=.tuple #[]/\G=[lgB c pd pt s ((a+n)%s.len) (sq+1) (b+n) e d]):=by
 intro z R w H;refine Ac func131 Z ntmps131 Z (Zc 1 Z (Bh 15 J J (A4 H λw f=>?_)));have H:=f.l1;refine CL 15 [9,0,0,2,6,0,0,9] [a+n,(a+n)%s.len] H Z J U (BY (gw (Z5 26 [0,10,0,0,10,0,11,0,0,11,0] [sq+1,b+n] H Z U ?_)));intro w H;refine Zf Z ?_;exact ⟨_,⟨Z,Z⟩,H⟩
theorem W9(pd bd m N:Nat)(f0 g f c d:Int)(a:Bool)(pt:Nat)(s:Sup)(hN:N<=1152921504606846976)(b:s.Ok ((N:Int)/256)):Aj 77 [V pd,V pt,.agg #[Aa s.gen,Aa s.epoch,Aa s.pages,Aa s.start,Aa s.len,Aa s.head,Aa s.seq]] [blk pd [.slice (some ⟨bd,0,none⟩) N N,.map (some m),Aa f0,Aa g,Aa f,Aa c,.bool a,Aa d] 106] (λv G=>(∃h,v=V h/\G=[lgB h pd pt s s.head s.seq 0 false (decide (s.epoch<4294967296)),blk pd [.slice (some ⟨bd,0,none⟩) N N,.map (some m),Aa f0,Aa g,Aa f,Aa c,.bool a,Aa d] 106])):=by
 intro z R w H;refine Ac func77 Z ntmps77 Z (Za 2 [] H Z ?_);intro k w H;refine Zc 5 Z (Bd (Sep z _) J J H.drew (JP 9 [0,7] [] Z J (Dh Z Z Z Z Z (λw=>call127 _ w) (v:=Aa ((N:Int)/256)) (cq (J5 _ _ _ _ _ _ _ _ _ _ U) (by rintro _ _ ⟨rfl,rfl⟩;exact ⟨Z,Z⟩) 2 [1,0] [1,0] Z Z Z Z) (Dh Z Z Z Z Z (λw=>call129 _ w) (v:=Aa (if s.Ok ((N:Int)/256) then 0 else 1)) (cq (GY _ _ U) (by rintro _ _ ⟨rfl,rfl⟩;exact ⟨Z,Z⟩) 0 [] [] Z Z Z Z) (Cm 2 [] Z J (Bu (λw j=>?_)))))));have H:=j.l2;refine gn (Zc 1 Z (Ag Z (λe=>?_) (λe=>?_)))
 ·exact absurd (if_pos b) e
 refine Z2 14 [0,7,5,0,0,6,0,0,1,0,0,0] H Z (Ad Z (AX Z Z (out:=[V pd,V pt,Aa s.gen,Aa s.epoch,Aa s.pages,Aa s.start,Aa s.len,Aa s.head,Aa s.seq,Aa s.head,Aa s.seq,Aa 0,.bool false,.bool (decide ((s.epoch:Int)<4294967296))]) J) (Za 0 [] H Z ?_));intro i w H;refine Zc 4 Z (Zr Z ?_);exact ⟨_,⟨i,Z,Z⟩,H.perm 3 [0,2] Z Z⟩
theorem Rw(k:Nat):Aj 33 [Aa (k:Int)] [] (λv G=>(¬(1<=k/\k<=4096)/\v=.tuple #[.pointer none,Aa 1]/\G=[])\/((1<=k/\k<=4096)/\∃pd,v=.tuple #[V pd,Aa 0]/\G=[diskA pd (Cd k)])):=by
 intro z R w H;refine Ac func33 Z ntmps33 Z (Z0 12 [0] Z (Ak 6 Z (λg=>?_) (λg=>?_)))
 ·refine Zc 13 Z (Zr Z ?_);exact ⟨_,.inl ⟨by omega,Z,Z⟩,H⟩
 refine Z0 5 [0] Z (Ag Z (λf=>?_) (λf=>?_))
 ·refine Zc 7 Z (Zr Z ?_);exact ⟨_,.inl ⟨by omega,Z,Z⟩,H⟩
 refine Z1 6 [] [((k*256:Nat):Int)] Z U (AG Z (Dx (k:=(k*256)) H Z J Bf Z Z Z U) ?_);rintro _ w ⟨b,rfl,H⟩;refine AG Z (FI H Z) ?_;rintro _ w ⟨a,rfl,H⟩;refine Ad Z (AX Z Z (out:=[.slice (some ⟨b,0,none⟩) (k*256) (k*256),.map (some a),Aa 0,Aa 0,Aa 0,Aa 0,.bool false,Aa 0]) J) (Za 0 [] H Z ?_);intro c w H;refine Zc 5 Z (Zr Z ?_);replace H:=(E9 H).l4;replace H:=(H.void (B:=seps (([]:List Ent).map Ent.row)) (λh=>⟨λ_=>0,λi A e=>by cases e⟩)).l5;have d:List.replicate (k*256) (u8 0)=(List.replicate (k*256) (0:UInt8)).map u8:=by simp
 rw[d] at H;have H:Sep z (seps (([]:List Ent).map Ent.row)::poolA (λ_=>none)::blk c [.slice (some ⟨b,0,none⟩) (k*256) (k*256),.map (some a),Aa 0,Aa 0,Aa 0,Aa 0,.bool false,Aa 0] 106::AE a (([]:List Ent).map Ent.ie) 0::blk b ((List.replicate (k*256) (0:UInt8)).map u8) 5::R) w:=H;replace H:=H.f1.f3.f4.f4;replace H:=(Sep.toDisk (D:=Cd k) (pd:=c) (bd:=b) (m:=a) (f0:=0) (bs:=(List.replicate (k*256) 0)) (es:=([]:List Ent)) (clk:=0) (hq:=(λ_=>none)) (Γ:=R) H (WS U) WT).l1;exact ⟨_,.inr ⟨by omega,c,Z,Z⟩,H⟩
theorem Ox(e pd pt:Nat)(s:Sup)(b sq j:Int)(i h:Bool)(x:Int)(D:Dsk)(f:D.f1=0)(y:0<=s.start/\0<s.len/\s.start+s.len<=D.n)(hx:0<=x/\x<=1152921504606846976)(sec:List UInt8)(c:D.cont (ringAt s x)=sec):Aj 175 [V e,Aa x] [lgB e pd pt s b sq j i h,diskA pd D] (λv G=>(∃g a rest,v=.tuple #[.slice (some ⟨g,0,none⟩) 256 a,Aa 0]/\(256<=a/\a<=9223372036854775807/\rest.length=a-256)/\G=[blk g (sec.map u8++rest) 5,lgB e pd pt s b sq j i h,diskA pd D])):=by
 intro z R w H;have l:=H.sy 1 (λq=>(diskA.ok q).n2);have k:=Adg x (by omega:s.len≠0);have t:=AcU x (by omega:0<s.len);refine Ac func175 Z ntmps175 Z (Zc 7 Z (BV (Sep z (lgB e pd pt s b sq j i h::diskA pd D::R)) 22 Z J (A4 H λw d=>?_)));have H:=d.l2;refine Oj [0,1,2,3,4,5,6,7,8,9,10,11,12,13,14,15,16] [0,0,0,2,5,0,0,2,6,0,0] [x%s.len,s.start+(x%s.len)] H Z J U Z (Cs [17] J O (Ar (Ba Z Z Z Z Z Z (λw=>call65 _ w) (Ig _ _ _) H.f1 Z ?_)));rintro _ w _ (⟨m,rfl,rfl⟩|⟨_,u,_⟩|⟨_,_,g,a,rest,rfl,⟨r,o,p⟩,rfl⟩) d
 ·exact absurd ⟨by omega,by omega⟩ m
 ·exact absurd u U
 rw[diskA.f1 f] at d;have H:=d.l3;refine BZ (H.pick 3 [2,1] Z) (CG [18,19,20,21] [] [] (by exact H.pick 3 [2,1] Z) Z J Z (a_done J (gn (Zc 2 Z (Zr Z ?_)))));subst c;exact ⟨_,⟨g,a,rest,Z,⟨r,o,p⟩,Z⟩,H.perm 3 [0,2,1] Z Z⟩
theorem Xa(pt:Nat)(a:UInt32)(v:Value)(n:Nat)(bs:List UInt8)(b:bs.length=n)(A:Ah)(c:∀h,A h->rdH 1 v n (bs.map u8) h):Aj 177 [V pt,u32 a,v] [tblA pt,A] (λv G=>v=u32 (Dz a bs)/\G=[tblA pt,A]):=by
 subst b;exact Ro pt a v bs A c
set_option maxHeartbeats 1000000 in
theorem Zo (pl pd pt:Nat) (s:Sup) (b sq us:Int) (br nu:Bool) (D:Dsk) (d1:D.f1=0) (hr:0<=s.start/\0<s.len/\s.start+s.len<=D.n) (ha:0<=b/\b<=1099511627776) (hu:0<=us/\us<=1099511627776) (g2:s.len<=4096) (F:Nat->List UInt8) (hF:∀j:Nat,F j=D.cont (ringAt s (b+j))):Aj 130 [V pl] [lgB pl pd pt s b sq us br nu,tblA pt,diskA pd D] (λv G=>((∀ims,¬nextP F s.epoch sq (s.len-us) ims)/\v=.tuple #[.agg #[Aa 0,.slice none 0 0],Aa 0]/\G=[lgB pl pd pt s b sq us br nu,tblA pt,diskA pd D])\/(∃ims v' hq,nextP F s.epoch sq (s.len-us) ims/\v=.tuple #[.agg #[Aa sq,v'],Aa 0]/\imgsH v' ims hq/\G=[poolA hq,lgB pl pd pt s b sq us br nu,tblA pt,diskA pd D])):=by
 intro z R w H;replace H:=H.l3;have a1:∀j:Nat,(F j).length=256:=λj=>by
   rw[hF];refine Dsk.cont_len (H.sy 2 (λq=>diskA.ok q)) ?_;have g4:=AcU (b+j) (by omega:0<s.len);unfold ringAt;omega
 replace H:=(E9 H).l4;refine Ac func130 Z ntmps130 Z (Za 2 [] H Z ?_);intro b1 w H;refine Za 6 [] H Z ?_;intro b2 w H;refine Z4 10 [0,9,3,0] H Z ?_;intro w H;refine AA Z (call175 _) (Ox _ _ _ _ _ _ _ _ _ _ _ d1 hr U (F 0) (by rw[hF];simp)) H.f5.f4 ?_;rintro _ w _ ⟨g,c1,rest,rfl,⟨cg,cc,cl⟩,rfl⟩ H;replace H:=H.l7;replace H:=H.f5;obtain ⟨e8,⟨f0,c0⟩,H⟩:=BG H (λh q=>Ed q (a1 _) ⟨cg,cc,cl⟩);replace H:=H.l6;refine Z2 24 [4,1,1,0] H Z (AA Z (call176 _) (Rs _ _ _ _ (F 0) _ (λh q=>c0.le q)) H.f5 ?_);rintro _ w _ (⟨hh,v1,rfl,rfl⟩|⟨hh,rfl,rfl⟩) a
 ·have H:=a.l7
  refine Zc 1 Z ?_;obtain ⟨a5,a2,rfl⟩:=H.sy 0 (·.slc);have H:Sep z (grow 3 1 (.slice a5 (Bp (F 0)) a2) (Bp (F 0)) (hN (F 0) (Bp (F 0)))::tblA pt::poolA e8::lgB pl pd pt s b sq us br nu::diskA pd D::blk b2 [Aa 0,.slice none 0 0] 116::blk b1 [Aa 0,.slice none 0 0] 116::R) w:=H;replace H:=H.f2;obtain ⟨d4,⟨f3,e2⟩,H⟩:=BG H (λh q=>q.rd);replace H:=H.l6;have f9:=hh.2.2.2.1;refine Zc 2 Z (AG Z (Bz (P:=prog) H Z (zs:=[Aa 0,Aa 0,.slice none 0 0,u32 0]) J) ?_);rintro _ w ⟨b3,rfl,H⟩;replace H:=H.l7;refine Z4 6 [0] H Z ?_;intro w H;refine Bd (Sep z _) J J H.drew (E7 13 [0,0,2,3,1] (λ_ hx=>(AQ (hx.blk 0 Z) (AQ (hx.blk 3 Z) AJ))) Z J Z (CE 56 Z (λh1=>?_) (λh1=>?_)))
  ·refine Cm 25 [] Z J (Bu (λw a=>?_));have H:=a.l7;refine gn (Z4 10 [5,2,6] H Z ?_);intro w H;refine Zl [6,2] H Z ?_;exact ⟨_,.inl ⟨λims=>by rintro ⟨y,q2,t,q4,q5,f,x⟩;first|exact hh y|(exfalso;simp only[B7,B8] at q2 t;omega)|exact absurd (f i U).1 hi|(have q8:=f i U;simp only[Fa,Fb,B0,B7,B8] at *;exfalso;omega)|exact absurd (show AC (DJ F (Bp (F 0)))=Di (F 0) from x) ‹_›,rfl,rfl⟩,H.perm 7 [3,2,4] rfl rfl⟩
  refine E7 9 [1,0,10,1] (λ_ hx=>(AQ (hx.blk 0 Z) (AQ (hx.blk 3 Z) AJ))) Z J Z (CE 65 Z (λh2=>?_) (λh2=>?_))
  ·refine Cm 16 [] Z J (Bu (λw a=>?_));have H:=a.l7;refine gn (Z4 10 [5,2,6] H Z ?_);intro w H;refine Zl [6,2] H Z ?_;exact ⟨_,.inl ⟨λims=>by rintro ⟨y,q2,t,q4,q5,f,x⟩;first|exact hh y|(exfalso;simp only[B7,B8] at q2 t;omega)|exact absurd (f i U).1 hi|(have q8:=f i U;simp only[Fa,Fb,B0,B7,B8] at *;exfalso;omega)|exact absurd (show AC (DJ F (Bp (F 0)))=Di (F 0) from x) ‹_›,rfl,rfl⟩,H.perm 7 [3,2,4] rfl rfl⟩
  refine FT 16 [2,0,0,2,6,3,0,11,3,0,0] [1+((Bp (F 0):Nat):Int),s.len-us] Z J U (Bu (λw a=>?_));have H:=a.l7;refine gn (Zc 1 Z (Ag Z (λh3=>?_) (λh3=>?_)))
  ·refine Z4 8 [5,2,6] H Z ?_;intro w H;refine Zl [6,2] H Z ?_;exact ⟨_,.inl ⟨λims=>by rintro ⟨y,q2,t,q4,q5,f,x⟩;first|exact hh y|(exfalso;simp only[B7,B8] at q2 t;omega)|exact absurd (f i U).1 hi|(have q8:=f i U;simp only[Fa,Fb,B0,B7,B8] at *;exfalso;omega)|exact absurd (show AC (DJ F (Bp (F 0)))=Di (F 0) from x) ‹_›,rfl,rfl⟩,H.perm 7 [3,2,4] rfl rfl⟩
  refine Zc 14 Z ?_;replace H:=(H.nilg 38 1).l8;refine Z2 8 [2,1,0] H Z ?_;refine Ay (σ:=Nat×Value×List Value×Hp) (λ⟨i,v,p,hq⟩=>[(86,Aa (i:Int)),(9,u32 (AC (DJ F i))),(10,v),(0,V pl),(2,V b1),(4,V b2),(7,V b3),(85,Aa ((Bp (F 0):Nat):Int))])
    (λ⟨i,v,p,hq⟩ w=>Sep z (grow 38 1 v i p::blk b3 [Aa (B7 (F 0)),Aa (B8 (F 0)),.slice a5 (Bp (F 0)) a2,u32 (Di (F 0))] 233::poolA hq::tblA pt::lgB pl pd pt s b sq us br nu::diskA pd D::blk b2 [Aa 0,.slice none 0 0] 116::blk b1 [Aa 0,.slice none 0 0] 116::R) w/\(i<=Bp (F 0)/\p.length=i/\BA d4 hq/\∀(j:Nat) (pv:Value),p[j]?=some pv->rdH 1 pv 256 ((F (1+j)).map u8) hq)) (λ⟨i,v,p,hq⟩=>Bp (F 0)-i) ⟨0,.slice none 0 0,[],d4⟩
    (λ_ hF=>(hF.co Z (by go_num) (hF.co Z (Abr F) hF.cz))) ⟨H,by omega,Z,λk o e=>e,λj pv h=>by simp at h⟩ ?_
  clear H;rintro ⟨i,v,p,hq⟩ w ⟨a,hI⟩;dsimp only at hI a ⊢;have H:=a.l8;have sv:=H.sy 0 (·.slc);obtain ⟨e9,c8,a7,a8⟩:=hI;refine Z0 6 [0] Z (Ag Z (λh4=>?_) (λh4=>?_))
  ·have e1:i<Bp (F 0):=by omega
   refine Z3 20 [9,4,0] [b+1,(b+1)+(i:Int)] H Z U (AA Z (call175 _) (Ox _ _ _ _ _ _ _ _ _ _ _ d1 hr U (F (1+i)) (by rw[hF];congr 2;omega)) H.f5.f5 ?_);rintro _ w _ ⟨g,c1,rest,rfl,⟨cg,cc,cl⟩,rfl⟩ H;replace H:=H.l9;replace H:=H.f5;obtain ⟨e6,⟨a6,a3⟩,H⟩:=BG H (λh q=>Ed q (a1 _) ⟨cg,cc,cl⟩);replace H:=H.l8;refine Z2 25 [4,1,1,0] H Z (Ai Z (call177 _) (Xa _ _ _ 256 (F (1+i)) (a1 _) _ (λh q=>a3.le q)) H.f5 ?_);intro w H;refine Zc 6 Z (AG Z (AL H Z J F0 Z (by decide) (by decide) (out:=[.slice (some ⟨g,0,none⟩) 256 c1]) J) ?_);rintro _ w ⟨b4,rfl,H⟩;replace H:=H.l9;refine AG Z (AO 5 H Z Z J F0 Z Z (H.rv 0 (·.rd U U O Z)) (by simp[Value.oneCell']) U) ?_;rintro v5 w H;replace H:=H.l9;have g5:=H.sy 5 (·.slc);refine Z1 8 [] [(i:Int)+1] Z U ?_;replace H:=H.d.f7.f7.f5.f5.f4.f5.f7.f7;refine gf ?_;intro _ hF;refine ⟨⟨i+1,v5,p++[.slice (some ⟨g,0,none⟩) 256 c1],e6⟩,(hF.co Z (by go_num) (hF.co Z (congrArg u32 (Tp F i)) (hF.all Z))),⟨H,?_⟩,?_⟩
   ·refine ⟨by omega,by simp[c8],λk o e=>a6 k o (a7 k o e),λj pv h=>?_⟩;rcases AbX j i with q|q
    ·rw[AbU U] at h;exact (a8 j pv h).le a6
    rw[AbT U] at h;obtain rfl:j=i:=by have:=(AbE.1 h).1;simp at this;omega
    simp[c8] at h;subst h;exact a3
   omega
  obtain rfl:i=Bp (F 0):=by omega
  refine Zc 2 Z (gx (Zc 3 Z ?_));obtain ⟨d0,c5,rfl⟩:=H.sy 0 (·.slc);have H:Sep z (grow 38 1 (.slice d0 (Bp (F 0)) c5) (Bp (F 0)) p::blk b3 [Aa (B7 (F 0)),Aa (B8 (F 0)),.slice a5 (Bp (F 0)) a2,u32 (Di (F 0))] 233::poolA hq::tblA pt::lgB pl pd pt s b sq us br nu::diskA pd D::blk b2 [Aa 0,.slice none 0 0] 116::blk b1 [Aa 0,.slice none 0 0] 116::R) w:=H;replace H:=H.f2;obtain ⟨d7,⟨a9,d5⟩,H⟩:=BG H (λh q=>q.rd);replace H:=H.l7;have b0:=e2.le (λk o e=>a9 k o (a7 k o e));replace H:=(H.nilg 118 3).l8;refine Za 6 [10,4,0] H Z ?_;intro b6 w H;refine Z4 12 [0] H Z ?_;intro w H;refine Ay (σ:=Nat×Value×List ImE×Hp) (λ⟨i,v,es,a0⟩=>[(124,Aa (i:Int)),(0,V pl),(2,V b1),(4,V b2),(7,V b3),(9,u32 (AC (DJ F (Bp (F 0))))),(14,V b6),(122,.slice d0 (Bp (F 0)) c5),(123,Aa ((Bp (F 0):Nat):Int))])
    (λ⟨i,v,es,a0⟩ w=>Sep z (blk b6 [Aa sq,v] 116::grow 118 3 v i (Bq es)::poolA a0::blk b3 [Aa (B7 (F 0)),Aa (B8 (F 0)),.slice a5 (Bp (F 0)) a2,u32 (Di (F 0))] 233::tblA pt::lgB pl pd pt s b sq us br nu::diskA pd D::blk b2 [Aa 0,.slice none 0 0] 116::blk b1 [Aa 0,.slice none 0 0] 116::R) w/\(i<=Bp (F 0)/\es.length=i/\es.map Prod.fst=(List.range i).map (λj=>B0 (F (1+j)))/\BA d7 a0/\imesOk es a0/\∀j,j<i->Ib (F (1+j))/\Fa (F (1+j))=s.epoch/\Fb (F (1+j))=sq/\(B0 (F (1+j))).num=D4 (F 0) j/\AC (DJ F (Bp (F 0)))=Di (F 0))) (λ⟨i,v,es,a0⟩=>Bp (F 0)-i) ⟨0,.slice none 0 0,[],d7⟩
    fr_z ⟨H,by omega,Z,Z,λk o e=>e,λe he=>absurd he O,λj h=>by omega⟩ ?_
  clear H;rintro ⟨i,v,es,a0⟩ w ⟨a,hI⟩;dsimp only at hI a ⊢;have H:=a.l9;have sv:=H.sy 1 (·.slc);obtain ⟨e9,e7,c4,l,c3,m⟩:=hI;refine Z0 6 [0] Z (Ag Z (λh5=>?_) (λh5=>?_))
  ·have e1:i<Bp (F 0):=by omega
   refine Zc 5 Z ?_;obtain ⟨pv,c7⟩:∃pv,p[i]?=some pv:=⟨_,AbF U⟩;have b5:=(a8 i pv c7).le (λk o e=>l k o (a9 k o e));obtain ⟨sb,so,sc,rfl⟩:=b5.sl (by rw[AbN,a1];decide);have b9:=(H.rv 2 (λq=>(d5.le l).le q)).at (j:=i) c7;have d2:=(H.rv 2 (λq=>(b0.le l).le q)).at (j:=i) (u:=Aa (D4 (F 0) i)) (by simp[hN,show i<Bp (F 0) from by omega]);refine Zc 2 Z (Ad Z (Az Z (z:=1) (j:=i) (r:=i) J Z Z Z U b9 U) (Ad Z (AM Z Z J (AB b9)) (Z2 11 [1,5,0] H Z (AA Z (call178 _) (PG _ _ _ _ (F (1+i)) _ (λh q=>b5.le q)) H.f2.f4 ?_))));rintro _ w _ (⟨hi,g3,c,e3,rfl,⟨e0,e5,e4⟩,rfl⟩|⟨hi,rfl,rfl⟩) a
   ·have H:=a.l10;refine Zc 1 Z ?_;replace H:=H.f2;obtain ⟨d3,⟨a4,c2⟩,H⟩:=BG H (λh q=>Ed q (by simp[a1]) ⟨e0,e5,e4⟩);replace H:=H.l9;refine Za 4 [] H Z ?_;intro b7 w H;refine Z4 8 [0] H Z ?_;intro w H;refine Bd (Sep z _) J J H.drew (E7 9 [0,0] (λ_ hx=>(AQ (hx.blk 5 Z) AJ)) Z J Z (CE 148 Z (λh6=>?_) (λh6=>?_)))
    ·refine Cm 21 [] Z J (Bu (λw a=>?_));have H:=a.l10;refine gn (Z4 10 [8,2,9] H Z ?_);intro w H;refine Zl [9,2] H Z ?_;exact ⟨_,.inl ⟨λims=>by rintro ⟨y,q2,t,q4,q5,f,x⟩;first|exact hh y|(exfalso;simp only[B7,B8] at q2 t;omega)|exact absurd (f i U).1 hi|(have q8:=f i U;simp only[Fa,Fb,B0,B7,B8] at *;exfalso;omega)|exact absurd (show AC (DJ F (Bp (F 0)))=Di (F 0) from x) ‹_›,rfl,rfl⟩,H.perm 10 [6,2,7] rfl rfl⟩
    refine E7 6 [1,0] (λ_ hx=>(AQ (hx.blk 5 Z) AJ)) Z J Z (CE 154 Z (λh7=>?_) (λh7=>?_))
    ·refine Cm 15 [] Z J (Bu (λw a=>?_));have H:=a.l10;refine gn (Z4 10 [8,2,9] H Z ?_);intro w H;refine Zl [9,2] H Z ?_;exact ⟨_,.inl ⟨λims=>by rintro ⟨y,q2,t,q4,q5,f,x⟩;first|exact hh y|(exfalso;simp only[B7,B8] at q2 t;omega)|exact absurd (f i U).1 hi|(have q8:=f i U;simp only[Fa,Fb,B0,B7,B8] at *;exfalso;omega)|exact absurd (show AC (DJ F (Bp (F 0)))=Di (F 0) from x) ‹_›,rfl,rfl⟩,H.perm 10 [6,2,7] rfl rfl⟩
    refine E7 5 [0,0,2,1] (λ_ hx=>(AQ (hx.blk 0 Z) (AQ (hx.blk 5 Z) AJ))) Z J Z (Bn Z Z Z (Az Z (z:=1) (j:=i) (r:=i) J Z Z Z U d2 U) (Bn Z Z Z (AM Z Z J (λ_ hx=>(hx.rd 1 Z (λh q=>(b0.le (λk o e=>a4 k o (l k o e))).le q)).at (j:=i) (u:=Aa (D4 (F 0) i)) (by simp[hN,show i<Bp (F 0) from by omega]))) (Cm 3 [] Z J (CE 164 Z (λh8=>?_) (λh8=>?_)))))
    ·refine Cm 5 [] Z J (Bu (λw a=>?_));have H:=a.l10;refine gn (Z4 10 [8,2,9] H Z ?_);intro w H;refine Zl [9,2] H Z ?_;exact ⟨_,.inl ⟨λims=>by rintro ⟨y,q2,t,q4,q5,f,x⟩;first|exact hh y|(exfalso;simp only[B7,B8] at q2 t;omega)|exact absurd (f i U).1 hi|(have q8:=f i U;simp only[Fa,Fb,B0,B7,B8] at *;exfalso;omega)|exact absurd (show AC (DJ F (Bp (F 0)))=Di (F 0) from x) ‹_›,rfl,rfl⟩,H.perm 10 [6,2,7] rfl rfl⟩
    refine E7 3 [3,0] (λ_ hx=>(AQ (hx.blk 5 Z) AJ)) Z J Z (Bn Z Z Z (Oh (k:=.u32) Z J Z Z) (Cm 1 [] Z J (Bu (λw a=>?_))));have H:=a.l10;refine gn (Zc 1 Z (Ag Z (λh9=>?_) (λh9=>?_)))
    ·refine Z4 8 [8,2,9] H Z ?_;intro w H;refine Zl [9,2] H Z ?_;exact ⟨_,.inl ⟨λims=>by rintro ⟨y,q2,t,q4,q5,f,x⟩;first|exact hh y|(exfalso;simp only[B7,B8] at q2 t;omega)|exact absurd (f i U).1 hi|(have q8:=f i U;simp only[Fa,Fb,B0,B7,B8] at *;exfalso;omega)|exact absurd (show AC (DJ F (Bp (F 0)))=Di (F 0) from x) ‹_›,rfl,rfl⟩,H.perm 10 [6,2,7] rfl rfl⟩
    refine Z2 6 [1,3,0,0,3] H Z (AG Z (AL H Z J A5 Z (by decide) (by decide) (out:=[Aa ((B0 (F (1+i))).num),Aa ((B0 (F (1+i))).kind),.slice (some ⟨g3,0,none⟩) 240 c]) J) ?_);rintro _ w ⟨b8,rfl,H⟩;replace H:=H.l11;refine AG Z (AO 5 H Z Z J A5 Z Z (H.rv 0 (·.rd U U O Z)) (by simp[Value.oneCell']) U) ?_;rintro v9 w a;have a:Sep z (blk b8 [Aa ((B0 (F (1+i))).num),Aa ((B0 (F (1+i))).kind),.slice (some ⟨g3,0,none⟩) 240 c] 118::blk b7 [Aa ((B0 (F (1+i))).num),Aa ((B0 (F (1+i))).kind),.slice (some ⟨g3,0,none⟩) 240 c] 118::poolA d3::tblA pt::blk b6 [Aa sq,v] 116::grow 118 3 v9 (i+1) (Bq es++[Aa ((B0 (F (1+i))).num),Aa ((B0 (F (1+i))).kind),.slice (some ⟨g3,0,none⟩) 240 c])::blk b3 [Aa (B7 (F 0)),Aa (B8 (F 0)),.slice a5 (Bp (F 0)) a2,u32 (Di (F 0))] 233::lgB pl pd pt s b sq us br nu::diskA pd D::blk b2 [Aa 0,.slice none 0 0] 116::blk b1 [Aa 0,.slice none 0 0] 116::R) w:=a;have d9:(Bq es++[Aa ((B0 (F (1+i))).num),Aa ((B0 (F (1+i))).kind),.slice (some ⟨g3,0,none⟩) 240 c]:List Value)=Bq (es++[(B0 (F (1+i)),.slice (some ⟨g3,0,none⟩) 240 c)]):=Jf es (B0 (F (1+i)),.slice (some ⟨g3,0,none⟩) 240 c);rw[d9] at a;have H:=a.l11;have d6:=H.sy 5 (·.slc);refine Z0 1 [1] Z (A9 Z Z (Abn 4 H Z Z Z Z d6.cells d6.one J) ?_);rintro w H;replace H:=H.l11;refine Z1 7 [] [(i:Int)+1] Z U ?_;replace H:=H.f1.d.d.f8.f8.f8.f8.f5.f8.f6.f8.f8;refine gf ?_;intro _ hF;refine ⟨⟨i+1,v9,es++[(B0 (F (1+i)),.slice (some ⟨g3,0,none⟩) 240 c)],d3⟩,hF.cz,⟨H,?_⟩,?_⟩
    ·refine ⟨by omega,by simp[e7],by simp[c4,Ac5],λk o e=>a4 k o (l k o e),?_,λj hj=>?_⟩
     ·intro e he;rcases Acd.1 he with q|q
      ·exact (c3 e q).le a4
      rw[Acu.1 q];simpa [B0,a1] using c2
     rcases AbX j i with q|q
     ·exact m j q
     obtain rfl:j=i:=by omega
     simp only[Fa,Fb,B7,B8,B0] at *;exact ⟨hi,by omega,by omega,by omega,AdM ‹_›⟩
    omega
   have H:=a.l9;refine Za 5 [] H Z ?_;intro g0 w H;refine Z4 8 [0] H Z ?_;intro w H;refine Bd (Sep z _) J J H.drew (Cm 30 [] Z J (Bu (λw a=>?_)));have H:=a.l10;refine gn (Z4 10 [8,2,9] H Z ?_);intro w H;refine Zl [9,2] H Z ?_;exact ⟨_,.inl ⟨λims=>by rintro ⟨y,q2,t,q4,q5,f,x⟩;first|exact hh y|(exfalso;simp only[B7,B8] at q2 t;omega)|exact absurd (f i U).1 hi|(have q8:=f i U;simp only[Fa,Fb,B0,B7,B8] at *;exfalso;omega)|exact absurd (show AC (DJ F (Bp (F 0)))=Di (F 0) from x) ‹_›,rfl,rfl⟩,H.perm 10 [6,1,7] rfl rfl⟩
  obtain rfl:i=Bp (F 0):=by omega
  refine Zc 2 Z (gx (Z2 5 [0,2] H Z (A9 Z Z (AD 8 H Z Z Z Z (vs:=[Aa sq,v]) Z (Aq Z (Aq sv.one AN)) J O (out:=[Aa sq,v]) Z) ?_)));rintro w H;replace H:=H.l9;refine Zc 4 Z (Zl [8,2] H Z ?_);replace H:=H.f1.f2;obtain ⟨d8,⟨c6,c9⟩,H⟩:=BG H (λh q=>q.rd);replace H:=H.l8;exact ⟨_,.inr ⟨_,v,d8,⟨hh,by unfold B7;omega,by unfold B8;omega,by omega,Z,λj hj=>⟨(m j hj).1,(m j hj).2.1,(m j hj).2.2.1,(m j hj).2.2.2.1⟩,(m 0 U).2.2.2.2⟩,Z,⟨es,c4,by simpa using c9,c3.le c6⟩,Z⟩,H.perm 8 [0,4,3,5] Z Z⟩
 have H:=a.l6;refine Zc 3 Z (AG Z (Bz (P:=prog) H Z (zs:=[Aa 0,Aa 0,.slice none 0 0,u32 0]) J) ?_);rintro _ w ⟨g6,rfl,H⟩;replace H:=H.l7;refine Z4 6 [0] H Z ?_;intro w H;refine Bd (Sep z _) J J H.drew (Cm 38 [] Z J (Bu (λw a=>?_)));have H:=a.l7;refine gn (Z4 10 [5,2,6] H Z ?_);intro w H;refine Zl [6,2] H Z ?_;exact ⟨_,.inl ⟨λims=>by rintro ⟨y,q2,t,q4,q5,f,x⟩;first|exact hh y|(exfalso;simp only[B7,B8] at q2 t;omega)|exact absurd (f i U).1 hi|(have q8:=f i U;simp only[Fa,Fb,B0,B7,B8] at *;exfalso;omega)|exact absurd (show AC (DJ F (Bp (F 0)))=Di (F 0) from x) ‹_›,rfl,rfl⟩,H.perm 7 [3,1,4] rfl rfl⟩
theorem Oy(pd pt:Nat)(D:Dsk)(s:Sup)(b:s.Ok (D.n:Int)):Aj 77 [V pd,V pt,.agg #[Aa s.gen,Aa s.epoch,Aa s.pages,Aa s.start,Aa s.len,Aa s.head,Aa s.seq]] [diskA pd D] (λv G=>∃a,v=V a/\G=[lgB a pd pt s s.head s.seq 0 false (decide (s.epoch<4294967296)),diskA pd D]):=by
 refine Cn.mono (Cn.onDisk (post:=λv Γ=>∃a,v=V a/\Γ=[lgB a pd pt s s.head s.seq 0 false (decide (s.epoch<4294967296))]) (λd bd m f0=>?_)) ?_
 ·have c:=d.n2
  refine Cn.mono (W9 pd bd m (D.n*256) f0 D.f1 D.f2 D.f3 D.left D.cut pt s U (by rw[show ((D.n*256:Nat):Int)/256=(D.n:Int) from by omega];exact b)) ?_;rintro v Γ ⟨a,rfl,rfl⟩;exact ⟨_,⟨a,Z,Z⟩,Z⟩
 rintro v Γ ⟨Γ',⟨a,rfl,rfl⟩,rfl⟩;exact ⟨a,Z,Z⟩
set_option maxHeartbeats 1000000 in
theorem Zp (pd pt:Nat) (s:Sup) (D:Dsk) (m:s.Ok (D.n:Int)) (a4:D.f1=0):Aj 75 [V pd,V pt,.agg #[Aa s.gen,Aa s.epoch,Aa s.pages,Aa s.start,Aa s.len,Aa s.head,Aa s.seq]] [tblA pt,diskA pd D] (λv G=>∃p rs a q u v' hq,v=.tuple #[V p,v',Aa 0]/\Runs D s s.head s.seq 0 rs a q u/\(s.len<=u\/∀ims,¬nextP (CM D s a) s.epoch q (s.len-u) ims)/\recsH v' rs hq/\G=[poolA hq,lgB p pd pt s a q u false (decide (s.epoch<4294967296)),tblA pt,diskA pd D]):=by
 intro z R w H;have b6:=H.sy 1 (λq=>(diskA.ok q).n2);have b7:=Sup.get m;have hr:0<=s.start/\0<s.len/\s.start+s.len<=D.n:=by have:=m.2;omega
 have c0:=m.2.2.2.2.2.2.2;refine Ac func75 Z ntmps75 Z (Za 2 [] H Z ?_);intro b1 w H;refine Z2 10 [0,7] H Z (AA Z (call77 _) (Oy _ _ _ s m) H.f2 ?_);rintro _ w _ ⟨p,rfl,rfl⟩ H;refine Zc 17 Z ?_;replace H:=(H.nilg 116 2).l5;replace H:=(E9 H).l6;refine Zc 3 Z ?_;refine Ay (σ:=List RcE×Value×Int×Int×Int×Hp) (λ⟨es,v,a,q,u,hq⟩=>[(10,v),(5,V b1),(9,V p)])
   (λ⟨es,v,a,q,u,hq⟩ w=>Sep z (poolA hq::grow 116 2 v es.length (Et es)::lgB p pd pt s a q u false (decide (s.epoch<4294967296))::diskA pd D::blk b1 [Aa s.gen,Aa s.epoch,Aa s.pages,Aa s.start,Aa s.len,Aa s.head,Aa s.seq] 92::tblA pt::R) w/\(Runs D s s.head s.seq 0 (es.map Prod.fst) a q u/\rcesOk es hq/\(0<=a/\a<=4096)/\(s.seq<=q/\q<=s.seq+u)/\(0<=u/\u<=s.len)/\es.length<=u)) (λ⟨es,v,a,q,u,hq⟩=>(s.len-u).toNat) ⟨[],.slice none 0 0,s.head,s.seq,0,(λ_=>none)⟩
   fr_z ⟨H,.nil _ _ _,λe he=>absurd he O,by omega,by omega,by omega,by simp⟩ ?_
 clear H;rintro ⟨es,v,a,q,u,hq⟩ w ⟨c,hI⟩;dsimp only at hI c ⊢;have H:=c.l6;obtain ⟨i,g,ha,a8,hu,c1⟩:=hI;refine Zc 2 Z (Bd (Sep z _) J J H.drew (E7 7 [11,0,4,1] (λ_ hx=>(AQ (hx.blk 2 Z) (AQ (hx.blk 4 Z) AJ))) Z J Z (Bu (λw c=>?_))));have H:=c.l6;refine gn (Zc 1 Z (Ag Z (λh1=>?_) (λh1=>?_)))
 ·refine Zc 6 Z (AA Z (call130 _) (Zo _ _ _ _ _ _ _ _ _ _ a4 hr U U U (CM D s a) (λj=>rfl)) H.f3.f5.f4 ?_);rintro _ w _ (⟨a1,rfl,rfl⟩|⟨ims,f,a8,r,rfl,x,rfl⟩) c
  ·have H:=c.l6
   refine Za 3 [] H Z ?_;intro b2 w H;refine Z4 27 [0,4,1,0,0,3] H Z ?_;intro w H;refine gx (Zc 12 Z (Zr Z ?_));replace H:=H.f5.f5;obtain ⟨t,⟨l,k⟩,H⟩:=BG H (λh q=>q.rd);exact ⟨_,⟨p,es.map Prod.fst,a,q,u,v,t,Z,i,by first|exact .inl U|exact .inr a1,⟨es,rfl,by simpa using k,g.le l⟩,rfl⟩,H.perm 6 [0,2,3,4] rfl rfl⟩
  have H:=c.l7;obtain ⟨a7,a9,a2⟩:=x.slc;have o:Slc f ims.length:=⟨a7,a9,a2⟩;clear a2;have b0:=r.len;refine Za 3 [] H Z ?_;intro b3 w H;refine A9 Z Z (AD 0 H Z Z Z Z (vs:=[Aa q,f]) Z (Aq Z (Aq o.one AN)) J O (out:=[Aa q,f]) Z) ?_;rintro w H;refine Zc 5 Z ?_;replace H:=H.f1.f5;obtain ⟨a0,⟨y,a3⟩,H⟩:=Je H (M:=imgsH f ims) (λh q=>x.le q) (λ_ _ a b=>a.le b);refine Z2 13 [4,1,1,0] H Z (Ad Z (JT Z (sz:=3) J Z o) (Z0 3 [0] Z (Ag Z (λh2=>U) (λh2=>?_))));refine Z2 6 [1,2] H Z (AG Z (AL H Z J CR Z (by decide) (by decide) (out:=[Aa q,f]) J) ?_);rintro _ w ⟨b4,rfl,H⟩;refine AG Z (AO 6 H Z Z J CR Z Z (H.rv 0 (·.rd U U O Z)) (Aq Z (Aq o.one AN)) U) ?_;rintro v5 w c;have c:Sep z (blk b4 [Aa q,f] 116::poolA a0::blk b3 [Aa q,f] 116::lgB p pd pt s a q u false (decide (s.epoch<4294967296))::tblA pt::diskA pd D::grow 116 2 v5 (es.length+1) (Et es++[Aa q,f])::blk b1 [Aa s.gen,Aa s.epoch,Aa s.pages,Aa s.start,Aa s.len,Aa s.head,Aa s.seq] 92::R) w:=c;have a5:(Et es++[Aa q,f]:List Value)=Et (es++[(⟨q,ims⟩,f)]):=Ml es (⟨q,ims⟩,f);rw[a5] at c;rw[show (es.length+1:Nat)=(es++[((⟨q,ims⟩:Rc),f)]).length from by simp] at c;have H:=c.l8;refine Z2 7 [1,2,0] H Z (Ad Z (JT Z (sz:=3) J Z o) (Z1 1 [] [1+(ims.length:Int)] Z U (Ai Z (call131 _) (Jl _ _ _ _ _ _ _ _ _ _ U U U U U) H.f3 ?_)));intro w H;refine Zc 2 Z ?_;replace H:=H.f3.d.f1.d.f2.f5.f4.f3.f5.f5;refine gf ?_;intro _ hF;refine ⟨⟨es++[(⟨q,ims⟩,f)],v5,(a+(1+(ims.length:Int)))%s.len,q+1,u+(1+(ims.length:Int)),a0⟩,(hF.all Z),⟨H,?_⟩,?_⟩
  ·dsimp only
   have b5:=Adg (a+(1+(ims.length:Int))) (by omega:s.len≠0);have b8:=AcU (a+(1+(ims.length:Int))) (by omega:0<s.len);refine ⟨?_,?_,by omega,by omega,by omega,by simp;omega⟩
   ·rw[Ab7];exact .snoc i U r
   intro e he;rcases Acd.1 he with q|q
   ·exact (g e q).le y
   rw[Acu.1 q];exact a3
  (dsimp only;omega)
 refine Zc 2 Z (gx (Zc 12 Z (Zr Z ?_)));obtain ⟨t,⟨l,k⟩,H⟩:=BG H (λh q=>q.rd);exact ⟨_,⟨p,es.map Prod.fst,a,q,u,v,t,Z,i,by first|exact .inl U|exact .inr a1,⟨es,rfl,by simpa using k,g.le l⟩,rfl⟩,H.perm 5 [0,1,4,2] rfl rfl⟩
set_option maxHeartbeats 1000000 in
theorem TK (pl pd pt:Nat) (s:Sup) (l sq t:Int) (br u:Bool) (v:Value) (ims:List Img) (A:Ah) (hA:∀h,A h->imgsH v ims h) (a9:u=decide (s.epoch<4294967296)) (c2:0<=s.epoch/\s.epoch<=1099511627776) (c7:0<=sq/\sq<=2199023255552) (c1:1<=ims.length/\ims.length<=40) (c8:0<=s.len/\s.len<=1099511627776) (hu:0<=t/\t<=2199023255552):Aj 208 [V pl,v] [lgB pl pd pt s l sq t br u,tblA pt,A] (λv G=>(¬Ee ims/\v=.tuple #[.slice none 0 0,Aa 1]/\G=[lgB pl pd pt s l sq t br u,tblA pt,A])\/(Ee ims/\¬(1+(ims.length:Int)<=(if br then 0 else s.len-t)/\u=true/\sq<1099511627776)/\v=.tuple #[.slice none 0 0,Aa 15]/\G=[lgB pl pd pt s l sq t br u,tblA pt,A])\/(Ee ims/\(1+(ims.length:Int)<=(if br then 0 else s.len-t)/\u=true/\sq<1099511627776)/\∃v',v=.tuple #[v',Aa 0]/\G=[grow 5 1 v' ((1+ims.length)*256) ((Bo s.epoch sq ims).flatten.map u8),lgB pl pd pt s l sq t br u,tblA pt,A])):=by
 intro z R w H;obtain ⟨ao,ic,rfl⟩:=H.sy 2 (λq=>(hA _ q).slc);obtain ⟨es,a5,g⟩:=Sep.imA 2 H Z hA;clear H;have d0:es.length=ims.length:=by rw[<-a5];simp
 have H:=g.l3;refine Ac func208 Z ntmps208 Z (Zc 13 Z (AG Z (FI H Z) ?_));rintro _ w ⟨m1,rfl,H⟩;refine Zc 4 Z ?_;replace H:=H.f1;refine BV (Sep z (lgB pl pd pt s l sq t br u::R)) 12 Z J (A4 H λw g=>?_);have H:=g.l4;refine CG [0,1,2,3,4,5,6,7,8] [2,3,0,0,10,0,0] [] (by exact H.pick 4 [0] Z) Z J Z (I7 9 Z J J J Z Z Z (AX Z Z (out:=[Aa s.epoch,Aa sq,.slice none 0 0,u32 0]) J) (H.pick 4 [0] Z) (Cs [10] J O (Ar (Ck Z Z Z Z (Bz (P:=prog) H Z (zs:=[Aa 0,Aa 0,.slice none 0 0,u32 0]) J) ?_))));rintro _ w ⟨b2,rfl,H⟩;refine BZ (H.pick 5 [1] Z) (Cs [11] J O (Ar (B6 Z Z Z (AD 0 H Z Z Z Z (vs:=[Aa s.epoch,Aa sq,.slice none 0 0,u32 0]) Z (by simp[u8,u32,Value.oneCell']) J O (out:=[Aa s.epoch,Aa sq,.slice none 0 0,u32 0]) Z) ?_)));rintro w H;refine BZ (H.pick 5 [1] Z) (a_done J (gn (Zc 8 Z ?_)));replace H:=(H.nilg 3 1).l6;refine Zc 2 Z ?_;refine Ay (σ:=Nat×Value) (λ⟨i,o⟩=>[(32,Aa (i:Int)),(0,V pl),(1,.slice ao ims.length ic),(6,.slice none 0 0),(7,.map (some m1)),(8,V b2),(30,.slice ao ims.length ic),(31,Aa (ims.length:Int))])
   (λ⟨i,o⟩ w=>Sep z (grow 3 1 o i (Fc (ims.take i))::blk b2 [Aa s.epoch,Aa sq,o,u32 0] 233::lgB pl pd pt s l sq t br u::AE m1 (seen ((ims.take i).map Img.num)) (((ims.take i).map Img.num).length)::tblA pt::imA A (.slice ao ims.length ic) es::R) w/\(i<=ims.length/\(∀(j:Nat) (m:Img),j<i->ims[j]?=some m->m.Ok)/\((ims.take i).map Img.num).Nodup)) (λ⟨i,o⟩=>ims.length-i) ⟨0,.slice none 0 0⟩
   fr_z ⟨H,by omega,λj m h=>by omega,by simp⟩ ?_
 clear H;rintro ⟨i,o⟩ w ⟨g,hI⟩;dsimp only at hI g ⊢;have H:=g.l6;have b9:=H.sy 0 (·.slc);obtain ⟨c4,a4,a3⟩:=hI;refine Z0 6 [0] Z (Ag Z (λh1=>?_) (λh1=>?_))
 ·have b8:i<ims.length:=by omega
  refine Zc 6 Z ?_;obtain ⟨⟨f,bv⟩,he⟩:∃e:ImE,es[i]?=some e:=⟨_,AbF U⟩;have a0:ims[i]?=some f:=by rw[<-a5];simp[he]
  have a6:Slc bv f.body.length:=H.sy 5 (λq=>(q.2.2 _ (AbG he)).slc);have a2:=imA.at 5 H Z he;have a7:=a2 0 (Aa f.num) Z;refine Ad Z (Az Z (z:=3) (j:=i) (r:=i*3) J Z Z Z U a7 U) (Ad Z (BU Z Z (vs:=[Aa f.num,Aa f.kind,bv]) J O (AB a2)) (Za 0 [] H Z ?_));intro b3 w H;refine A9 Z Z (AD 0 H Z Z Z Z (vs:=[Aa f.num,Aa f.kind,bv]) Z (Aq Z (Aq Z (Aq a6.one AN))) J O (out:=[Aa f.num,Aa f.kind,bv]) Z) ?_;rintro w H;refine Zc 4 Z ?_;replace H:=H.f3;refine BV (Sep z (lgB pl pd pt s l sq t br u::blk b3 [Aa f.num,Aa f.kind,bv] 118::R)) 11 Z J (A4 H λw g=>?_);have H:=g.l7;refine CG [0,1,2,3,4] [1,0,0,1,3] [] (by exact H.pick 7 [0,1] Z) Z J Z (Cs [5] J O (Ar (Ba Z Z Z Z Z Z (λw=>call133 _ w) (Ll _ _ _ _ f.body _ (λh q=>q.2.2 _ (AbG he))) H.f6.f6 Z ?_)));rintro _ w _ (⟨a1,rfl,rfl⟩|⟨y,pw,rfl,rfl⟩) g
  ·have H:Sep z (tblA pt::imA A (.slice ao ims.length ic) es::lgB pl pd pt s l sq t br u::blk b3 [Aa f.num,Aa f.kind,bv] 118::grow 3 1 o i (Fc (ims.take i))::blk b2 [Aa s.epoch,Aa sq,o,u32 0] 233::AE m1 (seen ((ims.take i).map Img.num)) (((ims.take i).map Img.num).length)::R) w:=g
   clear g;refine BZ (H.pick 7 [2,3] Z) (CG [6,7,8,9,10] [] [] (by exact H.pick 7 [2,3] Z) Z J Z (a_done J (gn (Z0 21 [3] Z (Zr Z ?_)))));replace H:=(H.mono 1 (B:=A) Z (λh q=>q.1)).l7;exact ⟨_,.inl ⟨by rintro ⟨q1,q2⟩;first|exact a1 (q1 f (AbG a0))|(exact JX q2 a0 ‹_›),rfl,rfl⟩,H.perm 7 [2,0,1] rfl rfl⟩
  have H:Sep z (blk pw (Bb (sect ([80,80,65,71]++Af 1 f.kind++Af 4 f.num++[0,0,0]++f.body)) 252) 204::tblA pt::imA A (.slice ao ims.length ic) es::lgB pl pd pt s l sq t br u::blk b3 [Aa f.num,Aa f.kind,bv] 118::grow 3 1 o i (Fc (ims.take i))::blk b2 [Aa s.epoch,Aa sq,o,u32 0] 233::AE m1 (seen ((ims.take i).map Img.num)) (((ims.take i).map Img.num).length)::R) w:=g;clear g;refine BZ (H.pick 8 [3,4] Z) (CG [6,7,8,9,10] [] [] (by exact H.pick 8 [3,4] Z) Z J Z (a_done J (gn (Z2 9 [4,0,4,0] H Z (Ad Z (Fo (e:=4) (zv:=.bool false) Z J J Z Z (AB (H.bk 7 Z))) (k_updA 51 (v:=.bool (decide (f.num∈(ims.take i).map Img.num))) Z (Tq _ _) (Zc 3 Z (Ag Z (λh2=>?_) (λh2=>?_)))))))))
  ·refine Zc 7 Z (Zr Z ?_);replace H:=(H.mono 2 (B:=A) Z (λh q=>q.1)).l8
   exact ⟨_,.inl ⟨by rintro ⟨q1,q2⟩;first|exact a1 (q1 f (AbG a0))|(exact JX q2 a0 ‹_›),rfl,rfl⟩,H.perm 8 [3,1,2] rfl rfl⟩
  refine Z2 7 [0,4,0] H Z (A9 Z Z (Dn 7 (e:=4) H Z Z J Z Z Z) ?_);rintro w H;refine Zc 2 Z ?_;have a8:(ims.take (i+1)).map Img.num=(ims.take i).map Img.num++[f.num]:=by rw[AbZ,a0];simp
  have b0:=Tr (ns:=(ims.take i).map Img.num) (k:=f.num) ‹_›;rw[b0.1,b0.2,<-a8] at H;have H:Sep z (blk pw (Bb (sect ([80,80,65,71]++Af 1 f.kind++Af 4 f.num++[0,0,0]++f.body)) 252) 204::tblA pt::imA A (.slice ao ims.length ic) es::lgB pl pd pt s l sq t br u::blk b3 [Aa f.num,Aa f.kind,bv] 118::grow 3 1 o i (Fc (ims.take i))::blk b2 [Aa s.epoch,Aa sq,o,u32 0] 233::AE m1 (seen ((ims.take (i+1)).map Img.num)) (((ims.take (i+1)).map Img.num).length)::R) w:=H;refine Z2 5 [2,6,0,0,4,0] H Z (AG Z (AL H Z J BP Z (by decide) (by decide) (out:=[Aa f.num]) J) ?_);rintro _ w ⟨b4,rfl,H⟩;refine AG Z (AO 6 H Z Z J BP Z Z (H.rv 0 (·.rd U U O Z)) (by simp[Value.oneCell']) U) ?_;rintro v5 w g;have g:Sep z (blk b4 [Aa f.num] 3::blk pw (Bb (sect ([80,80,65,71]++Af 1 f.kind++Af 4 f.num++[0,0,0]++f.body)) 252) 204::tblA pt::imA A (.slice ao ims.length ic) es::lgB pl pd pt s l sq t br u::blk b3 [Aa f.num,Aa f.kind,bv] 118::grow 3 1 v5 (i+1) (Fc (ims.take i)++[Aa f.num])::blk b2 [Aa s.epoch,Aa sq,o,u32 0] 233::AE m1 (seen ((ims.take (i+1)).map Img.num)) (((ims.take (i+1)).map Img.num).length)::R) w:=g;have c0:(Fc (ims.take i)++[Aa f.num]:List Value)=Fc (ims.take (i+1)):=Ts a0;rw[c0] at g;have H:=g.l9;have b1:=H.sy 6 (·.slc);refine Z0 1 [2] Z (A9 Z Z (Kp 7 H Z Z Z Z b1.cells b1.one J) ?_);rintro w H;refine Z1 7 [] [(i:Int)+1] Z U ?_;replace H:=H.f5.d.f1.d.d.f1.f1.f5.f3.f5.f5;refine gf ?_;intro _ hF;refine ⟨⟨i+1,v5⟩,hF.cz,⟨H,?_⟩,?_⟩
  ·dsimp only
   refine ⟨by omega,λj m hj h=>?_,?_⟩
   ·rcases AbX j i with q|q
    ·exact a4 j m q h
    obtain rfl:j=i:=by omega
    rw[a0] at h;cases h;exact y
   rw[a8,AcY];exact ⟨a3,by simp,λa ha b hb=>by simp at hb;subst hb;exact λe=>absurd (e▸ha) ‹_›⟩
  (dsimp only;omega)
 obtain rfl:i=ims.length:=by omega
 refine Zc 2 Z (gx (Zc 4 Z ?_));rw[AcB] at H;rw[AcB] at a3;have H:Sep z (grow 3 1 o ims.length (Fc ims)::blk b2 [Aa s.epoch,Aa sq,o,u32 0] 233::lgB pl pd pt s l sq t br u::AE m1 (seen (ims.map Img.num)) ((ims.map Img.num).length)::tblA pt::imA A (.slice ao ims.length ic) es::R) w:=H;have p:∀m∈ims,m.Ok:=λm hm=>by obtain ⟨j,hj,rfl⟩:=Adf.1 hm;exact a4 j _ hj (AbF hj)
 refine Z1 5 [] [1+(ims.length:Int)] Z U (Ai Z (call209 _) (Rt _ _ _ _ _ _ _ _ _ U) H.f2 ?_);intro w H;refine Z0 2 [0] Z (Ak 70 Z (λh3=>?_) (λh3=>?_))
 ·refine Zc 23 Z (Zr Z ?_);replace H:=(H.mono 5 (B:=A) Z (λh q=>q.1)).l6
  exact ⟨_,.inr (.inl ⟨⟨p,a3⟩,by rintro ⟨q1,q2,q3⟩;first|omega|simp_all,rfl,rfl⟩),H.perm 6 [0,4,5] Z Z⟩
 refine Z2 7 [13,0,0] H Z (Mc 77 Z (λh4=>?_) (λh4=>?_))
 ·refine Zc 16 Z (Zr Z ?_);replace H:=(H.mono 5 (B:=A) Z (λh q=>q.1)).l6
  exact ⟨_,.inr (.inl ⟨⟨p,a3⟩,by rintro ⟨q1,q2,q3⟩;first|omega|simp_all,rfl,rfl⟩),H.perm 6 [0,4,5] Z Z⟩
 have b5:u=true:=by simpa using h4
 have c9:s.epoch<4294967296:=by rw[b5] at a9;simpa using a9.symm
 refine Z2 8 [10,0,0,0] H Z (Ag Z (λh5=>?_) (λh5=>?_))
 ·refine Zc 7 Z (Zr Z ?_);replace H:=(H.mono 5 (B:=A) Z (λh q=>q.1)).l6
  exact ⟨_,.inr (.inl ⟨⟨p,a3⟩,by rintro ⟨q1,q2,q3⟩;first|omega|simp_all,rfl,rfl⟩),H.perm 6 [0,4,5] Z Z⟩
 refine Zc 9 Z ?_;replace H:=(H.nilg 5 1).l7;refine Zc 2 Z ?_;refine Ay (σ:=Nat×Value) (λ⟨i,v2⟩=>[(86,Aa (i:Int)),(6,v2),(0,V pl),(8,V b2),(84,.slice ao ims.length ic),(85,Aa (ims.length:Int))])
   (λ⟨i,v2⟩ w=>Sep z (grow 5 1 v2 (i*256) ((AF s.epoch sq (ims.take i)).map u8)::lgB pl pd pt s l sq t br u::grow 3 1 o ims.length (Fc ims)::blk b2 [Aa s.epoch,Aa sq,o,u32 0] 233::AE m1 (seen (ims.map Img.num)) ((ims.map Img.num).length)::tblA pt::imA A (.slice ao ims.length ic) es::R) w/\(i<=ims.length)) (λ⟨i,v2⟩=>ims.length-i) ⟨0,.slice none 0 0⟩
   (λ_ hF=>(hF.co Z (by go_num) hF.cz)) ⟨H,by omega⟩ ?_
 clear H;rintro ⟨i,v2⟩ w ⟨g,hI⟩;dsimp only at hI g ⊢;have H:=g.l7;have c5:=H.sy 0 (·.slc);have c3:=hI;clear hI;refine Z0 6 [0] Z (Ag Z (λh6=>?_) (λh6=>?_))
 ·have b8:i<ims.length:=by omega
  refine Zc 6 Z ?_;obtain ⟨⟨f,bv⟩,he⟩:∃e:ImE,es[i]?=some e:=⟨_,AbF U⟩;have a0:ims[i]?=some f:=by rw[<-a5];simp[he]
  have a6:Slc bv f.body.length:=H.sy 6 (λq=>(q.2.2 _ (AbG he)).slc);have a2:=imA.at 6 H Z he;have a7:=a2 0 (Aa f.num) Z;refine Ad Z (Az Z (z:=3) (j:=i) (r:=i*3) J Z Z Z U a7 U) (Ad Z (BU Z Z (vs:=[Aa f.num,Aa f.kind,bv]) J O (AB a2)) (Za 0 [] H Z ?_));intro b6 w H;refine A9 Z Z (AD 0 H Z Z Z Z (vs:=[Aa f.num,Aa f.kind,bv]) Z (Aq Z (Aq Z (Aq a6.one AN))) J O (out:=[Aa f.num,Aa f.kind,bv]) Z) ?_;rintro w H;refine Zc 3 Z ?_;replace H:=H.f4.f3;refine BV (Sep z (lgB pl pd pt s l sq t br u::blk b2 [Aa s.epoch,Aa sq,o,u32 0] 233::blk b6 [Aa f.num,Aa f.kind,bv] 118::R)) 15 Z J (A4 H λw g=>?_);have H:=g.l8;refine CG [0,1,2,3,4,5,6,7,8] [1,0,0,0,1,0,1,1,0,2,3] [] (by exact H.pick 8 [0,1,2] Z) Z J Z (Cs [9] J O (Ar (Ba Z Z Z Z Z Z (λw=>call231 _ w) (PF _ _ _ _ _ _ f.body _ (λh q=>q.2.2 _ (AbG he))) H.f7.f7 Z ?_)));rintro _ w _ (⟨a1,rfl,rfl⟩|⟨y,pw,rfl,rfl⟩) g
  ·exact absurd ⟨by omega,by omega,a4 i f U a0⟩ a1
  have H:Sep z (blk pw (Bb (sect (Bk s.epoch sq f)) 252) 204::tblA pt::imA A (.slice ao ims.length ic) es::lgB pl pd pt s l sq t br u::blk b2 [Aa s.epoch,Aa sq,o,u32 0] 233::blk b6 [Aa f.num,Aa f.kind,bv] 118::grow 5 1 v2 (i*256) ((AF s.epoch sq (ims.take i)).map u8)::grow 3 1 o ims.length (Fc ims)::AE m1 (seen (ims.map Img.num)) ((ims.map Img.num).length)::R) w:=g;clear g;refine BZ (H.pick 9 [3,4,5] Z) (CG [10,11,12,13,14] [] [] (by exact H.pick 9 [3,4,5] Z) Z J Z (a_done J (gn (Z0 14 [4] Z (AG Z (AO 6 H Z Z J Bf Z Z (H.rv 0 (λq=>HY (lo:=0) (n:=256) (c:=256) (ys:=sect (Bk s.epoch sq f)) q (sect_len (AcO (C4 y.2.2.2.2))) U U U (by rw[Ab1];exact AbJ (AcO (sect_len (AcO (C4 y.2.2.2.2))))))) (by simp[u8,Value.oneCell']) U) ?_)))));rintro v7 w g;have g:Sep z (blk pw (Bb (sect (Bk s.epoch sq f)) 252) 204::tblA pt::imA A (.slice ao ims.length ic) es::lgB pl pd pt s l sq t br u::blk b2 [Aa s.epoch,Aa sq,o,u32 0] 233::blk b6 [Aa f.num,Aa f.kind,bv] 118::grow 5 1 v7 ((i*256)+256) ((AF s.epoch sq (ims.take i)).map u8++(sect (Bk s.epoch sq f)).map u8)::grow 3 1 o ims.length (Fc ims)::AE m1 (seen (ims.map Img.num)) ((ims.map Img.num).length)::R) w:=g;have b7:((AF s.epoch sq (ims.take i)).map u8++(sect (Bk s.epoch sq f)).map u8:List Value)=(AF s.epoch sq (ims.take (i+1))).map u8:=(by rw[<-Ab7,FK a0]);rw[b7] at g;rw[show ((i*256)+256:Nat)=(i+1)*256 from by omega] at g;have H:=g.l9;refine Z1 8 [] [(i:Int)+1] Z U ?_;replace H:=H.f5.d.d.f1.f1.f6.f4.f6.f5.f6;refine gf ?_;intro _ hF;refine ⟨⟨i+1,v7⟩,hF.cz,⟨H,?_⟩,?_⟩
  ·dsimp only;omega
  (dsimp only;omega)
 obtain rfl:i=ims.length:=by omega
 refine Zc 2 Z (gx (Zc 3 Z ?_));rw[AcB] at H;have H:Sep z (grow 5 1 v2 (ims.length*256) ((AF s.epoch sq ims).map u8)::lgB pl pd pt s l sq t br u::grow 3 1 o ims.length (Fc ims)::blk b2 [Aa s.epoch,Aa sq,o,u32 0] 233::AE m1 (seen (ims.map Img.num)) ((ims.map Img.num).length)::tblA pt::imA A (.slice ao ims.length ic) es::R) w:=H;refine Z2 6 [1,1,0] H Z (Ai Z (call213 _) (V6 _ _ _ (AF s.epoch sq ims) (DK p) _ (λh q=>q.rd)) H.f5 ?_);intro w H;refine Z4 5 [3,4] H Z ?_;intro w H;replace H:=H.f4.f3;refine BV (Sep z (lgB pl pd pt s l sq t br u::blk b2 [Aa s.epoch,Aa sq,o,u32 (AC (AF s.epoch sq ims))] 233::R)) 11 Z J (A4 H λw g=>?_);have H:=g.l7;refine CG [0,1,2,3,4] [1,0,0,1,4] [] (by exact H.pick 7 [0,1] Z) Z J Z (Cs [5] J O (Ar (Ba Z Z Z Z Z Z (λw=>call232 _ w) (Rq _ _ _ _ _ (ims.map Img.num) _ (λh q=>by rw[AbN,<-WU];exact q.rd)) H.f4.f3 Z ?_)));rintro _ w _ (⟨a1,rfl,rfl⟩|⟨y,pw,rfl,rfl⟩) g
 ·exact absurd ⟨by omega,by omega,by simp;omega,λx hx=>by obtain ⟨m,hm,rfl⟩:=AbP.1 hx;exact (p m hm).1⟩ a1
 have H:Sep z (blk pw (Bb (sect (Bv s.epoch sq ims)) ((26+4*(ims.map Img.num).length:Nat):Int)) 204::tblA pt::grow 3 1 o ims.length (Fc ims)::lgB pl pd pt s l sq t br u::blk b2 [Aa s.epoch,Aa sq,o,u32 (AC (AF s.epoch sq ims))] 233::grow 5 1 v2 (ims.length*256) ((AF s.epoch sq ims).map u8)::AE m1 (seen (ims.map Img.num)) ((ims.map Img.num).length)::imA A (.slice ao ims.length ic) es::R) w:=g;clear g;refine BZ (H.pick 8 [3,4] Z) (CG [6,7,8,9,10] [] [] (by exact H.pick 8 [3,4] Z) Z J Z (a_done J (gn (Zc 5 Z (AG Z (Li H Z J Bf Z Z (H.rv 0 (λq=>HY (lo:=0) (n:=256) (c:=256) (ys:=sect (Bv s.epoch sq ims)) q (sect_len (by rw[hdL_len];omega)) U U U (by rw[Ab1];exact AbJ (AcO (sect_len (by rw[hdL_len];omega)))))) (H.rv 5 (·.rd)) U (by simp[u8,Value.oneCell']) U) ?_)))));rintro v8 w g;have g:Sep z (grow 5 1 v8 (256+(ims.length*256)) ((sect (Bv s.epoch sq ims)).map u8++(AF s.epoch sq ims).map u8)::blk pw (Bb (sect (Bv s.epoch sq ims)) ((26+4*(ims.map Img.num).length:Nat):Int)) 204::tblA pt::grow 3 1 o ims.length (Fc ims)::lgB pl pd pt s l sq t br u::blk b2 [Aa s.epoch,Aa sq,o,u32 (AC (AF s.epoch sq ims))] 233::grow 5 1 v2 (ims.length*256) ((AF s.epoch sq ims).map u8)::AE m1 (seen (ims.map Img.num)) ((ims.map Img.num).length)::imA A (.slice ao ims.length ic) es::R) w:=g;rw[show ((sect (Bv s.epoch sq ims)).map u8++(AF s.epoch sq ims).map u8:List Value)=(Bo s.epoch sq ims).flatten.map u8 from (by rw[<-Ab7,Q9])] at g;rw[show (256+(ims.length*256):Nat)=(1+ims.length)*256 from by omega] at g;have H:=g.l9;refine Zc 6 Z (Zr Z ?_);replace H:=(H.mono 8 (B:=A) Z (λh q=>q.1)).l9;exact ⟨_,.inr (.inr ⟨⟨p,a3⟩,⟨by omega,by first|assumption|simp_all,by omega⟩,v8,rfl,rfl⟩),H.perm 9 [0,4,2,8] Z Z⟩
theorem TL(bs e b off m a:Nat)(s:m*256<=a)(t:a<=9223372036854775807)(j:m<=1099511627776):It prog 218 [V bs,V e] [blk bs [.slice (some ⟨b,off,none⟩) (m*256) a] 38,blk e [Aa 256] 3] (((List.range m).map λi=>Value.slice (some ⟨b,off+i*256,none⟩) 256 256).map λv=>[v]):=by
 intro z l J_ o w c;have H:=c.l2;refine Jj (args:=[.func (.yield l) #[] #[],V bs,V e]) func218 Z Z 31 ntmps218 Z ?_;refine Cz ?_;refine BR ?_;refine s_do Z Z Z (AS Z Z) ?_;refine AP ?_;refine DM ?_;refine Kz (σ:=Nat) (λi=>[(4,Aa ((i*256:Nat):Int)),(0,.func (.yield l) #[] #[]),(1,V bs),(2,V e)])
  (λi w=>Sep z (blk bs [.slice (some ⟨b,off,none⟩) (m*256) a] 38::blk e [Aa 256] 3::J_ i) w/\(i<=m)) (λi=>m-i) 0
  (λ_ d=>(d.co Z (congrArg Aa O) (d.all Z))) ⟨H,AbV _⟩ ?_
 clear H;rintro i w ⟨c,h⟩;have H:=c.l2;have k:=h;clear h;refine Cz ?_;refine Cz ?_;refine BR ?_;refine s_do Z Z Z (CX Z Z) ?_;refine s_do Z Z Z (AY Z Z J (AB (H.cel 0 Z 0 Z))) ?_;refine s_do Z Z Z (EC Z (z:=1) J Z) ?_;refine s_do Z Z Z (Pi Z Z Z) ?_;refine AP ?_;refine Zi Z (λn=>?_) (λn=>?_)
 ·-- yes:((i*256:Nat):Int)<((m*256:Nat):Int)
  have f:i<m:=by omega
  refine F8 ?_;refine Cz ?_;refine DM ?_;refine Cz ?_;refine Rh (Sep z _) J J H.drew ?_;refine Bn Z Z Z (AY Z Z J (λ_ g=>g.cel 1 Z 0 Z)) ?_;refine Bn Z Z Z (AY Z Z J (λ_ g=>g.cel 0 Z 0 Z)) ?_;refine Bn Z Z Z (CX Z Z) ?_;refine Bn Z Z Z (Bj Z (z:=1) (p:=(i*256)) (q:=m*256) (o':=off+i*256) (l':=(m*256-i*256)) (c':=(a-i*256)) J Z (.inr ⟨_,_,_,Z,Z,U⟩) (.inl ⟨Z,Z⟩) U U U U U U) ?_;refine Bn Z Z Z (EC Z (z:=1) J Z) ?_;refine Bn Z Z Z (LR Z Z Z) ?_;refine k_updA 18 (v:=Aa 256) Z (congrArg Aa U) ?_;refine Bn Z Z Z (AS Z Z) ?_;refine Bu (λw c=>?_);have H:=c.l2;refine Cz ?_;refine Ji ?_;refine D5 Z Z Z (CX Z Z) ?_;refine D5 Z Z Z (AY Z Z J (AB (H.cel 0 Z 0 Z))) ?_;refine D5 Z Z Z (CX Z Z) ?_;refine D5 Z Z Z (CX Z Z) ?_;refine D5 Z Z Z (CX Z Z) ?_;refine D5 Z Z Z (CA Z Z Z (r:=(((i+1)*256:Nat):Int)) U U) ?_;refine D5 Z Z Z (CX Z Z) ?_;refine D5 Z Z Z (CX Z Z) ?_;refine D5 Z Z Z (CA Z Z Z (r:=(((i+1)*256:Nat):Int)) U U) ?_;refine D5 Z Z Z (Te Z (sz:=1) (p:=(i*256)) (q:=((i+1)*256)) (o':=off+i*256) (l':=256) J Z Z Z Z U U U U U U U) ?_;refine KB Z Z Z Z Z Z (o i _ (by simp[List.getElem?_range f]) _ H) ?_;rintro _ w ⟨rfl,c⟩;refine ⟨_,Z,?_⟩;have H:=c.l2;refine D5 Z Z Z (JL Z Z) ?_;refine PB ?_;refine Hz Z ?_;refine F8 ?_;refine BR ?_;refine s_do Z Z Z (CX Z Z) ?_;refine s_do Z Z Z (AY Z Z J (AB (H.cel 1 Z 0 Z))) ?_;refine s_do Z Z Z (CA Z Z Z (r:=(((i+1)*256:Nat):Int)) U U) ?_;refine s_do Z Z Z (AS Z Z) ?_;refine AP ?_;intro _ d;refine ⟨(i+1),(d.all Z),⟨H,?_⟩,?_⟩
  ·omega
  omega
 -- no:((i*256:Nat):Int)<((m*256:Nat):Int)
 refine Ky ?_;refine HP ?_;obtain rfl:i=m:=by omega
 exact λ_ d=>⟨d.defers,by simpa using H⟩
theorem Xb(b off n c:Nat):Aj 181 [.slice (some ⟨b,off,none⟩) n c,Aa 256] [] (λv G=>(∃bs a,v=.func (.func 218) #[] #[V bs,V a]/\G=[blk bs [.slice (some ⟨b,off,none⟩) n c] 38,blk a [Aa 256] 3])):=by
 intro z R w H;refine Ac func181 Z ntmps181 Z (Za 2 [] H Z ?_);intro e w H;refine Za 0 [] H Z ?_;intro d w H;refine Z2 15 [0,0,4] H Z (Ad Z (FZ Z Z Z) (Zc 4 Z (Zr Z ?_)));exact ⟨_,⟨e,d,Z,Z⟩,H.perm 2 [1,0] Z Z⟩
set_option maxHeartbeats 1000000 in
theorem Oz (pd b off c:Nat) (D:Dsk) (x:Int) (l:Bool) (ps:List (List UInt8)) (A:Ah) (b5:∀p∈ps,p.length=256) (hm:1<=ps.length/\ps.length<=4096) (b6:∀i,(D.ver i).length<=1099511627776) (hA:∀h,A h->rdH 1 (.slice (some ⟨b,off,none⟩) (ps.length*256) c) (ps.length*256) (ps.flatten.map u8) h):Aj 134 [V pd,Aa x,.slice (some ⟨b,off,none⟩) (ps.length*256) c,.bool l] [diskA pd D,A] (λv G=>(¬(0<=x/\x+ps.length<=(D.n:Int))/\v=Aa 2/\G=[diskA pd D,A])\/((0<=x/\x+ps.length<=(D.n:Int))/\(D.f2=1\/(D.cut=true/\D.left=0))/\v=Aa 11/\G=[diskA pd {D with f2:=AZ D.f2},A])\/((0<=x/\x+ps.length<=(D.n:Int))/\(¬D.f2=1/\¬(D.cut=true/\D.left=0))/\v=Aa 0/\G=[diskA pd {Dsk.ws {D with f2:=AZ D.f2} l x.toNat ps with left:=max 0 (D.left-1)},A])):=by
 intro z R w j;have H:=j.l2;obtain ⟨bd,m,f0,bs,es,clk,hq,hD,a3,j⟩:=H.disk;clear H;have d1:=hD.n1;have c8:=hD.n2;have d0:=hD.f2;have d2:=hD.left;have d4:=a3.len;have H:=j.l6;refine Mx func134 Z 73 ntmps134 Z (AV (AI (EF Z Z Z (FE H Z Z (cs:=[V pd]) Z) ?_)));rintro _ w ⟨b1,rfl,j⟩;have H:=j.l7;refine EF Z Z Z (FE H Z Z (cs:=[Aa x]) Z) ?_;rintro _ w ⟨b2,rfl,j⟩;have H:=j.l8;refine EF Z Z Z (FE H Z Z (cs:=[.bool l]) Z) ?_;rintro _ w ⟨b3,rfl,j⟩;have H:=j.l9;refine BQ 1 Z Z (AP (AV (Fm (AV (AI (BQ 1 Z Z (s_do Z Z Z (EC Z (z:=1) J Z) (BQ 2 Z Z (QC 14 Z (λh1=>?_) (λh1=>?_))))))))))
 ·omega
 refine BQ 1 Z Z (s_do Z Z Z (EC Z (z:=1) J Z) (s_do Z Z Z (Oc Z Z Z (r:=((ps.length*256:Nat):Int)%256) U U U) (BQ 3 Z Z (AP (FY Z (λh2=>?_) (λh2=>?_))))))
 ·omega
 refine AV (AI (Gk 3 [0,1] (AQ (H.blk 2 Z) (AQ (H.blk 1 Z) AJ)) Z J Z (s_do Z Z Z (EC Z (z:=1) J Z) (s_do Z Z Z (Ob Z Z Z (r:=(ps.length:Int)) U U U U) (Fj Z Z Z Z Z (λw=>call116 _ w) (Ow _ _ _ _ _ _ _ _ _ _ _ _ U) H.f3 Z ?_)))));rintro _ w _ ⟨rfl,rfl⟩ j;have H:=j.l9;refine s_do Z Z Z (AW Z Z) (BQ 1 Z Z (AP (FY Z (λh3=>?_) (λh3=>?_))))
 ·refine AV (AI (BQ 1 Z Z (AP (EA (My Z [Aa 2] ⟨Z,trivial⟩ (v:=Aa 2) Z ?_)))));replace H:=H.f7.f7.f7.f7.f4;have j:=Sep.toDisk (D:=D) (pd:=pd) (bd:=bd) (m:=m) (f0:=f0) (bs:=bs) (es:=es) (clk:=clk) (hq:=hq) (Γ:=blk b3 [.bool l] 4::blk b2 [Aa x] 3::blk b1 [V pd] 27::A::R) H hD a3
  have H:=j.l5;exact ⟨[diskA pd D,A],.inl ⟨by omega,Z,Z⟩,H.perm 5 [0,4] Z Z⟩
 obtain ⟨k,rfl⟩:∃k:Nat,x=(k:Int):=⟨x.toNat,by omega⟩;have hk:k+ps.length<=D.n:=by omega
 refine AV (AV (AI (Gk 1 [0] (AQ (H.blk 3 Z) AJ) Z J Z (Fj Z Z Z Z Z (λw=>call117 _ w) (TF _ _ _ _ _ _ _ _ _ _ U) H Z ?_))));rintro _ w _ ⟨rfl,rfl⟩ j;have H:=j.l9;refine BQ 1 Z Z (AP (FY Z (λh4=>?_) (λh4=>?_)))
 ·refine Dw (FY Z (λh5=>?_) (λh5=>?_))
  ·refine AV (AI (BQ 1 Z Z (AP (EA (My Z [Aa 11] ⟨Z,trivial⟩ (v:=Aa 11) Z ?_)))));replace H:=H.f7.f7.f7.f7.f4;have j:=Sep.toDisk (D:= {D with f2:=AZ D.f2}) (pd:=pd) (bd:=bd) (m:=m) (f0:=f0) (bs:=bs) (es:=es) (clk:=clk) (hq:=hq) (Γ:=blk b3 [.bool l] 4::blk b2 [Aa (k:Int)] 3::blk b1 [V pd] 27::A::R) H (hD.f hD.f1 (ET hD.f2) hD.f3 hD.left) (a3.f _ _ _ _ _)
   have H:=j.l5;exact ⟨[diskA pd {D with f2:=AZ D.f2},A],.inr (.inl ⟨by omega,by simp_all,Z,Z⟩),H.perm 5 [0,4] Z Z⟩
  exact absurd h4 h5
 refine AI (Gk 1 [0] (AQ (H.blk 3 Z) AJ) Z J Z (Fj Z Z Z Z Z (λw=>call124 _ w) (Rm _ _ _ _ _ _ _ _ _ _) H Z ?_));rintro _ w _ ⟨rfl,rfl⟩ j;have H:=j.l9;refine BQ 1 Z Z (AP (Qy Z (λh6=>?_) (λh6=>?_)))
 ·refine AV (AI (BQ 1 Z Z (AP (EA (My Z [Aa 11] ⟨Z,trivial⟩ (v:=Aa 11) Z ?_)))));replace H:=H.f7.f7.f7.f7.f4;have j:=Sep.toDisk (D:= {D with f2:=AZ D.f2}) (pd:=pd) (bd:=bd) (m:=m) (f0:=f0) (bs:=bs) (es:=es) (clk:=clk) (hq:=hq) (Γ:=blk b3 [.bool l] 4::blk b2 [Aa (k:Int)] 3::blk b1 [V pd] 27::A::R) H (hD.f hD.f1 (ET hD.f2) hD.f3 hD.left) (a3.f _ _ _ _ _)
  have H:=j.l5;exact ⟨[diskA pd {D with f2:=AZ D.f2},A],.inr (.inl ⟨by omega,by simp_all,Z,Z⟩),H.perm 5 [0,4] Z Z⟩
 refine Dw (AV (AV (AI (BQ 1 Z Z (Fj Z Z Z Z Z (λw=>call118 _ w) (II _ _ (ps.length*256) _ ps.flatten _ (hA) U) H.f8 Z ?_)))));rintro _ w _ ⟨g,o,rest,rfl,⟨cg,cc,cl⟩,rfl⟩ j;have H:=j.l10;refine Fj Z Z Z Z Z (λw=>call181 _ w) (Xb _ _ _ _) H Z ?_;rintro _ w _ ⟨s,t,rfl,rfl⟩ j;have H:=j.l12;refine AP (Fm ?_);replace H:=H.f2.f10;obtain ⟨a0,⟨c3,c4⟩,j⟩:=Tf H;clear H;have H:=j.l11;replace H:=H.f10.f1.f10.f10.f7;have j:=Sep.toDiskQ (D:= {D with f2:=AZ D.f2}) (pd:=pd) (bd:=bd) (m:=m) (f0:=f0) (bs:=bs) (es:=es) (clk:=clk) (hq:=a0) (Γ:=blk s [.slice (some ⟨g,0,none⟩) (ps.length*256) o] 38::blk t [Aa 256] 3::A::blk b3 [.bool l] 4::blk b2 [Aa (k:Int)] 3::blk b1 [V pd] 27::R) H (hD.f hD.f1 (ET hD.f2) hD.f3 hD.left) ((a3.f _ _ _ _ _).le c3);have H:=j.l7;replace H:=H.f3.f1.f4.f5.f6.f6.f6;have j:Sep z ((blk b1 [V pd] 27::blk b2 [Aa ((k+0:Nat):Int)] 3::blk b3 [.bool l] 4::diskQ pd (Dsk.ws {D with f2:=AZ D.f2} l k (ps.take 0)) a0::A::R)++[blk s [.slice (some ⟨g,0,none⟩) (ps.length*256) o] 38,blk t [Aa 256] 3]) w:=Sep.swap (As:=[blk s [.slice (some ⟨g,0,none⟩) (ps.length*256) o] 38,blk t [Aa 256] 3]) (Bs:=blk b1 [V pd] 27::blk b2 [Aa ((k+0:Nat):Int)] 3::blk b3 [.bool l] 4::diskQ pd (Dsk.ws {D with f2:=AZ D.f2} l k (ps.take 0)) a0::A::R) (by simpa [Dsk.ws] using H);clear H;have a8:=λi=>Dsk.ws_n l (ps.take i) {D with f2:=AZ D.f2} k;have b0:=λi=>Dsk.ws_f l (ps.take i) {D with f2:=AZ D.f2} k;refine W0 (λi=>blk b1 [V pd] 27::blk b2 [Aa ((k+i:Nat):Int)] 3::blk b3 [.bool l] 4::diskQ pd (Dsk.ws {D with f2:=AZ D.f2} l k (ps.take i)) a0::A::R) Z (λu w=>call218 u w) Z (TL s t g 0 ps.length o U U U) j ?_ ?_
 ·rintro ro i v hv w;obtain ⟨hi,rfl⟩:i<ps.length/\v=.slice (some ⟨g,0+i*256,none⟩) 256 256:=by
    have hl:=(AbE.1 hv).1;simp at hl;rw[AbY,List.getElem?_range hl] at hv;simp at hv;exact ⟨hl,by rw[<-hv,AcW]⟩
  obtain ⟨p,hp⟩:∃p,ps[i]?=some p:=⟨_,AbF hi⟩;have y:=b5 p (AbG hp);have a9:=Th c4 b5 hp;refine BR (BQ 1 Z Z (AP ?_));refine λa hF=>⟨Z,λF w j=>?_⟩;revert a hF;have H:=j.l5;have j:=H.pick 4 [3,0,1,2] Z;have H:Sep z (diskQ pd (Dsk.ws {D with f2:=AZ D.f2} l k (ps.take i)) a0::blk b1 [V pd] 27::blk b2 [Aa ((k+i:Nat):Int)] 3::blk b3 [.bool l] 4::A::(R++([blk s [.slice (some ⟨g,0,none⟩) (ps.length*256) o] 38,blk t [Aa 256] 3]++F))) w:=j;clear j;obtain ⟨bd,m,f0,bs,es,clk,a2,a1,j⟩:=H.diskQ;clear H;have H:=j.l9;have b7:=a8 i;have b8:k+i<(Dsk.ws {D with f2:=AZ D.f2} l k (ps.take i)).n:=by rw[b7];show k+i<D.n;omega
  have d7:(Dsk.ws {D with f2:=AZ D.f2} l k (ps.take i)).n=D.n:=b7;refine DM (Cz (Cz (BR (Gk 1 [0] (AQ (H.blk 7 Z) AJ) Z J Z (AP (IF Z (λh7=>?_) (λh7=>?_)))))))
  ·subst h7;refine Cz (BR (Gk 2 [0,1] (AQ (H.blk 5 Z) (AQ (H.blk 6 Z) AJ)) Z J Z (Fj Z Z Z Z Z (λw=>call72 _ w) (V5 _ _ _ _ _ _ _ _ _ _ (k+i) U U) H Z ?_)));rintro _ w _ ⟨rfl,rfl⟩ j;have H:=j.l9;refine BQ 1 Z Z (EF Z Z Z (HU 1 H Z Z J Z Z (m:=256) (news:=(p.map u8)) (.inl (H.rv 3 (λq=>a9.le q))) (by simp[u8,Value.oneCell']) (by have:=a1.len;simp;omega) (k:=256) U (out:=((bs.take ((k+i)*256)++p++bs.drop ((k+i)*256+256)).map u8)) (by simp[y,AbJ])) ?_);rintro _ w ⟨rfl,j⟩;have H:=j.l9;refine AP (Id (Sep z (blk pd [.slice (some ⟨bd,0,none⟩) ((Dsk.ws {D with f2:=AZ D.f2} true k (ps.take i)).n*256) ((Dsk.ws {D with f2:=AZ D.f2} true k (ps.take i)).n*256),.map (some m),Aa f0,Aa ((Dsk.ws {D with f2:=AZ D.f2} true k (ps.take i)).f1),Aa ((Dsk.ws {D with f2:=AZ D.f2} true k (ps.take i)).f2),Aa ((Dsk.ws {D with f2:=AZ D.f2} true k (ps.take i)).f3),.bool ((Dsk.ws {D with f2:=AZ D.f2} true k (ps.take i)).cut),Aa ((Dsk.ws {D with f2:=AZ D.f2} true k (ps.take i)).left)] 106::blk bd ((bs.take ((k+i)*256)++p++bs.drop ((k+i)*256+256)).map u8) 5::AE m (es.map Ent.ie) clk::poolA a0::seps (es.map Ent.row)::blk b1 [V pd] 27::blk b2 [Aa ((k+i:Nat):Int)] 3::blk b3 [.bool true] 4::A::(R++([blk s [.slice (some ⟨g,0,none⟩) (ps.length*256) o] 38,blk t [Aa 256] 3]++F)))) 6 Z J (A4 H λw j=>?_))
   have H:=j.l9;refine A6 [0,1,2,3,4] [0,1,1,2] J (λ_ hx=>(AQ (hx.blk 5 Z) (AQ (hx.blk 0 Z) (AQ (hx.blk 6 Z) AJ)))) (by exact H.pick 9 [0,1,2,3,4,5,6,7,8] Z) Z J Z Z (An [5] J O (Ar (AaJ Z Z Z (Mf 2 (e:=107) H Z Z J Z Z) ?_)));rintro _ w ⟨rfl,j⟩;have H:=j.l9;refine Am (λh=>absurd Z h) (AT J ?_);obtain ⟨a6,a4,a7,a5⟩:=QZ a1 b8 y (bs':=(bs.take ((k+i)*256)++p++bs.drop ((k+i)*256+256))) Z;replace H:=H.f4;have j:=H.mono 0 Z a5;rw[a7] at j;have H:=j.l9;replace H:=H.f4.f4.f4.f4;have e3:Dsk.ws {D with f2:=AZ D.f2} true k (ps.take (i+1))=(Dsk.ws {D with f2:=AZ D.f2} true k (ps.take i)).w1 true (k+i) p:=by rw[Dsk.ws_take hp]
   have j:=Sep.toDiskQ (D:=(Dsk.ws {D with f2:=AZ D.f2} true k (ps.take i)).w1 true (k+i) p) (pd:=pd) (bd:=bd) (m:=m) (f0:=f0) (bs:=(bs.take ((k+i)*256)++p++bs.drop ((k+i)*256+256))) (es:=a6) (clk:=clk) (hq:=a0) (Γ:=blk b1 [V pd] 27::blk b2 [Aa ((k+i:Nat):Int)] 3::blk b3 [.bool true] 4::A::(R++([blk s [.slice (some ⟨g,0,none⟩) (ps.length*256) o] 38,blk t [Aa 256] 3]++F))) H (a2.w1 y) a4;rw[<-e3] at j;have H:=j.l5;refine BR (Gk 1 [0] (AQ (H.blk 2 Z) AJ) Z J Z (s_do Z Z Z (CA Z Z Z (r:=((k+(i+1):Nat):Int)) U U) (FC Z Z (Po 2 H Z Z Z Z Z Z J) ?_)));rintro w j;have H:=j.l5;refine AP ?_;replace H:=H.f4.f1.f4.f4.f4;exact λ_ _=>H
  subst h7;replace H:=H.f4;obtain ⟨v0,c5,Rest,c2,c0,j,b9⟩:=QY a1 b8 H;clear H;have H:=j.l10;have c7:c5.length<=1099511627776:=by rw[c0,Dsk.ws_ver _ _ _ _ _ (.inr (by rw[AbM];omega))];exact b6 _
  refine Id (Sep z (emp::seps Rest::blk pd [.slice (some ⟨bd,0,none⟩) ((Dsk.ws {D with f2:=AZ D.f2} false k (ps.take i)).n*256) ((Dsk.ws {D with f2:=AZ D.f2} false k (ps.take i)).n*256),.map (some m),Aa f0,Aa ((Dsk.ws {D with f2:=AZ D.f2} false k (ps.take i)).f1),Aa ((Dsk.ws {D with f2:=AZ D.f2} false k (ps.take i)).f2),Aa ((Dsk.ws {D with f2:=AZ D.f2} false k (ps.take i)).f3),.bool ((Dsk.ws {D with f2:=AZ D.f2} false k (ps.take i)).cut),Aa ((Dsk.ws {D with f2:=AZ D.f2} false k (ps.take i)).left)] 106::blk bd (bs.map u8) 5::AE m (es.map Ent.ie) clk::poolA a0::blk b1 [V pd] 27::blk b2 [Aa ((k+i:Nat):Int)] 3::blk b3 [.bool false] 4::A::(R++([blk s [.slice (some ⟨g,0,none⟩) (ps.length*256) o] 38,blk t [Aa 256] 3]++F)))) 15 Z J (A4 H λw j=>?_);have H:=j.l10;refine A6 [0,1,2,3,4,5,6,7,8,9] [0,1,1,2,0,1,1,2] J (λ_ hx=>(AQ (hx.blk 6 Z) (AQ (hx.blk 2 Z) (AQ (hx.blk 7 Z) AJ)))) (by exact Sep.mono 0 (B:=emp) (H.pick 10 [0,1,2,3,4,5,6,7,8,9] Z) Z (λ_ _=>trivial)) Z J Z Z (AR 10 J Z Z J J J Z Z Z (Fo (e:=107) (zv:=.slice none 0 0) Z J J Z Z (λ_ hx=>hx.bk 4 Z)) (Sep.mono 0 (B:=emp) (H.pick 10 [0,1,2,3,4,5,6,7,8,9] Z) Z (λ_ _=>trivial)) (k_updA 58 (v:=v0) Z c2 (A6 [11] [] J (λ_ _=>AJ) (by exact Sep.mono 0 (B:=emp) (H.pick 10 [0,1,2,3,4,5,6,7,8,9] Z) Z (λ_ _=>trivial)) Z J Z Z (An [12] J O (Ar (Ck Z Z Z Z (AL H Z J (Elt.mk (P:=prog) (e:=38) (z:=.slice none 0 0) (sz:=1) (by_:=24) J Z U U) Z (by decide) (by decide) (out:=[.slice (some ⟨g,(0+i*256),none⟩) 256 256]) J) ?_))))));rintro _ w ⟨b4,rfl,j⟩;have H:=j.l11;refine Am (λ_=>(Sep.mono 0 (B:=emp) (H.pick 11 [1,2,3,4,5,6,7,8,9,10] Z) Z (λ_ _=>trivial))) (An [13] J O (Ar (Ck Z Z Z Z (AO 1 H Z Z J (Elt.mk (P:=prog) (e:=38) (z:=.slice none 0 0) (sz:=1) (by_:=24) J Z U U) Z Z (H.rv 0 (·.rd U U O Z)) (by simp[Value.oneCell']) U) ?_)));rintro v5 w j;have H:=j.l11;refine Am (λ_=>(Sep.mono 0 (B:=emp) (H.pick 11 [1,2,3,4,5,6,7,8,9,10] Z) Z (λ_ _=>trivial))) (An [14] J O (Ar (B6 Z Z Z (Dn 5 (e:=107) H Z Z J Z Z Z) ?_)));rintro w j;have H:=j.l11;refine Am (λh=>absurd Z h) (AT J ?_);replace H:=H.f2.f2;obtain ⟨a6,a4,a7,a5⟩:=b9 v5 _ p y a9;have j:=Sep.made 2 H a5;rw[a7] at j;have H:=j.l10;replace H:=H.f5.f5.f5.f5;have e3:Dsk.ws {D with f2:=AZ D.f2} false k (ps.take (i+1))=(Dsk.ws {D with f2:=AZ D.f2} false k (ps.take i)).w1 false (k+i) p:=by rw[Dsk.ws_take hp]
  have j:=Sep.toDiskQ (D:=(Dsk.ws {D with f2:=AZ D.f2} false k (ps.take i)).w1 false (k+i) p) (pd:=pd) (bd:=bd) (m:=m) (f0:=f0) (bs:=bs) (es:=a6) (clk:=putC (es.map Ent.ie) ((k+i:Nat):Int) clk) (hq:=a0) (Γ:=blk b4 [.slice (some ⟨g,(0+i*256),none⟩) 256 256] 38::blk b1 [V pd] 27::blk b2 [Aa ((k+i:Nat):Int)] 3::blk b3 [.bool false] 4::A::(R++([blk s [.slice (some ⟨g,0,none⟩) (ps.length*256) o] 38,blk t [Aa 256] 3]++F))) H (a2.w1 y) a4;rw[<-e3] at j;have H:=j.l6;refine BR (Gk 1 [0] (AQ (H.blk 3 Z) AJ) Z J Z (s_do Z Z Z (CA Z Z Z (r:=((k+(i+1):Nat):Int)) U U) (FC Z Z (Po 3 H Z Z Z Z Z Z J) ?_)));rintro w j;have H:=j.l6;refine AP ?_;replace H:=H.f1.d.f4.f1.f4.f4.f4;exact λ_ _=>H
 rintro D0 w j;rw[AbN,AdH] at j;have H:=j.l6;obtain ⟨bd,m,f0,bs,es,clk,a2,a1,j⟩:=(H.pick 6 [4,0,1,2,3,5] Z).diskQ;clear H;have H:=j.l10;have c6:=a2.left;refine AV (Bh 9 J J (A4 H λw j=>?_));have H:=j.l10;refine Y0 5 [0,0,7,1] (AQ (H.blk 6 Z) (AQ (H.blk 0 Z) AJ)) Z J Z (Cj Z Z Z (Km Z Z Z (r:=((Dsk.ws {D with f2:=AZ D.f2} l k (ps.take ps.length)).left)-1) U U) (Cj Z Z Z (VQ Z Z Z) (VT 2 [7] Z J (BY (FC Z Z (Abo 0 H Z Z Z Z Z Z J) ?_)))));rintro w j;have H:=j.l10;refine AP (AV (AI (BQ 1 Z Z (AP (EA ?_)))));replace H:=H.f5;refine Mz H (rs:=[.tmp 8]) Z [Aa 0] (λ_=>⟨Z,trivial⟩) (v:=Aa 0) Z (λw j=>?_);clear H;have H:=j.l9;have c1:=(b0 ps.length).2.2.2.2;have j:=Sep.toDisk (D:= {Dsk.ws {D with f2:=AZ D.f2} l k (ps.take ps.length) with left:=max (0:Int) ((Dsk.ws {D with f2:=AZ D.f2} l k (ps.take ps.length)).left-1)}) (pd:=pd) (bd:=bd) (m:=m) (f0:=f0) (bs:=bs) (es:=es) (clk:=clk) (hq:=a0) (Γ:=blk b1 [V pd] 27::blk b2 [Aa ((k+ps.length:Nat):Int)] 3::blk b3 [.bool l] 4::A::(R++[blk s [.slice (some ⟨g,0,none⟩) (ps.length*256) o] 38,blk t [Aa 256] 3])) H (a2.f a2.f1 a2.f2 a2.f3 U) (a1.f _ _ _ _ _);have H:=j.l5;have j:=Sep.front (As:=diskA pd {Dsk.ws {D with f2:=AZ D.f2} l k (ps.take ps.length) with left:=max (0:Int) ((Dsk.ws {D with f2:=AZ D.f2} l k (ps.take ps.length)).left-1)} ::A::R) (Bs:=[blk s [.slice (some ⟨g,0,none⟩) (ps.length*256) o] 38,blk t [Aa 256] 3]) (H.pick 5 [0,4] Z);exact ⟨[diskA pd {Dsk.ws {D with f2:=AZ D.f2} l k (ps.take ps.length) with left:=max (0:Int) ((Dsk.ws {D with f2:=AZ D.f2} l k (ps.take ps.length)).left-1)},A],.inr (.inr ⟨by omega,by simp_all,by rw[AcB,c1] at *;exact ⟨Z,Z⟩⟩),j⟩
theorem MI(pd b off c n:Nat)(D:Dsk)(x:Int)(ps:List (List UInt8))(A:Ah)(g:∀p∈ps,p.length=256)(m:1<=ps.length/\ps.length<=4096)(e:∀i,(D.ver i).length<=1099511627776)(l:ps.length*256=n)(o:∀h,A h->rdH 1 (.slice (some ⟨b,off,none⟩) n c) n (ps.flatten.map u8) h):
  Aj 134 [V pd,Aa x,.slice (some ⟨b,off,none⟩) n c,.bool false] [diskA pd D,A] (λv G=>(¬(0<=x/\x+ps.length<=(D.n:Int))/\v=Aa 2/\G=[diskA pd D,A])\/((0<=x/\x+ps.length<=(D.n:Int))/\D.bad/\v=Aa 11/\G=[diskA pd D.wf,A])\/((0<=x/\x+ps.length<=(D.n:Int))/\¬D.bad/\v=Aa 0/\G=[diskA pd (D.wr x.toNat ps),A])):=by
 subst l;refine Cn.mono (Oz pd b off c D x false ps A g m e o) ?_;rintro v Γ (⟨f,a,d⟩|⟨f,a,d,k⟩|⟨f,⟨a,j⟩,d,k⟩)
 ·exact .inl ⟨f,a,d⟩
 ·exact .inr (.inl ⟨f,a,d,k⟩)
 exact .inr (.inr ⟨f,λq=>by rcases q with q|q;exact a q;exact j q,d,k⟩)
set_option maxHeartbeats 1000000 in
theorem TM (r pd pt:Nat) (s:Sup) (a sq j:Int) (t o:Bool) (v:Value) (ims:List Img) (A:Ah) (hA:∀h,A h->imgsH v ims h) (D:Dsk) (a2:s.Ok (D.n:Int)) (a7:o=decide (s.epoch<4294967296)) (b4:0<=a/\a<s.len) (b2:0<=sq/\sq<=2199023255552) (hu:0<=j/\j<=s.len) (x:∀i,(D.ver i).length<=1000000000000):Aj 167 [V r,v] [lgB r pd pt s a sq j t o,tblA pt,diskA pd D,A] (λv G=>(ims.length > 40/\v=Aa 16/\G=[lgB r pd pt s a sq j t o,tblA pt,diskA pd D,A])\/(ims.length<=40/\(ims=[]\/¬Ee ims)/\v=Aa 1/\G=[lgB r pd pt s a sq j t o,tblA pt,diskA pd D,A])\/((1<=ims.length/\ims.length<=40)/\Ee ims/\¬(1+(ims.length:Int)<=(if t then 0 else s.len-j)/\o=true/\sq<1099511627776)/\v=Aa 15/\G=[lgB r pd pt s a sq j t o,tblA pt,diskA pd D,A])\/
  ((1<=ims.length/\ims.length<=40)/\Ee ims/\(1+(ims.length:Int)<=(if t then 0 else s.len-j)/\o=true/\sq<1099511627776)/\∃(k:Nat),(k:Int)=min (1+(ims.length:Int)) (s.len-a)/\((¬D.bad/\k=1+ims.length/\v=Aa 0/\G=[lgB r pd pt s ((a+(1+(ims.length:Int)))%s.len) (sq+1) (j+(1+(ims.length:Int))) t o,tblA pt,diskA pd (D.wr (s.start+a).toNat ((Bo s.epoch sq ims).take k)),A])\/(¬D.bad/\k<1+ims.length/\¬Dsk.bad (D.wr (s.start+a).toNat ((Bo s.epoch sq ims).take k))/\v=Aa 0/\G=[lgB r pd pt s ((a+(1+(ims.length:Int)))%s.len) (sq+1) (j+(1+(ims.length:Int))) t o,tblA pt,diskA pd ((D.wr (s.start+a).toNat ((Bo s.epoch sq ims).take k)).wr s.start.toNat ((Bo s.epoch sq ims).drop k)),A])\/
    (D.bad/\v=Aa 11/\G=[lgB r pd pt s a (sq+1) j true o,tblA pt,diskA pd D.wf,A])\/(¬D.bad/\k<1+ims.length/\Dsk.bad (D.wr (s.start+a).toNat ((Bo s.epoch sq ims).take k))/\v=Aa 11/\G=[lgB r pd pt s a (sq+1) j true o,tblA pt,diskA pd (Dsk.wf (D.wr (s.start+a).toNat ((Bo s.epoch sq ims).take k))),A])))):=by
 intro z R w H;obtain ⟨ao,ic,rfl⟩:=H.sy 3 (λq=>(hA _ q).slc);have a1:=H.sy 2 (λq=>(diskA.ok q).n2);have b0:=H.sy 3 (λq=>(hA _ q).small);have b3:=Sup.get a2;have a8:=a2.2
 refine Ac func167 Z ntmps167 Z (Z0 15 [0] Z (Ag Z (λh1=>?_) (λh1=>?_)))
 ·refine Zc 6 Z (Zr Z ?_);exact ⟨_,.inl ⟨by omega,Z,Z⟩,H.perm 4 [0,1,2,3] Z Z⟩
 have l:ims.length<=40:=by omega
 refine Z0 8 [0] Z (Ag Z (λh2=>?_) (λh2=>?_))
 ·refine Zc 6 Z (Zr Z ?_);exact ⟨_,.inr (.inl ⟨by omega,by first|exact .inr b|exact .inl (AdG U),rfl,rfl⟩),H.perm 4 [0,1,2,3] Z Z⟩
 refine Zc 7 Z (AA Z (call208 _) (TK _ _ _ _ _ _ _ _ _ _ _ _ hA a7 U U ⟨by omega,by omega⟩ U U) H.f3.f2.f2 ?_);rintro _ w _ (⟨b,rfl,rfl⟩|⟨b,c,rfl,rfl⟩|⟨b,c,v1,rfl,rfl⟩) g
 ·have H:=g.l4;refine Z0 22 [3] Z (Zr Z ?_);exact ⟨_,.inr (.inl ⟨by omega,by first|exact .inr b|exact .inl (AdG U),rfl,rfl⟩),H.perm 4 [0,1,3,2] Z Z⟩
 ·have H:=g.l4;refine Z0 22 [3] Z (Zr Z ?_);exact ⟨_,.inr (.inr (.inl ⟨⟨by omega,by omega⟩,b,c,Z,Z⟩)),H.perm 4 [0,1,3,2] Z Z⟩
 have H:=g.l5;have a3:=WV (e:=s.epoch) (sq:=sq) b.1 l;refine Zc 1 Z ?_;obtain ⟨gb,gc,rfl,b5,a9⟩:=H.sy 0 (·.sl U);generalize hps:Bo s.epoch sq ims=ps at H a3;obtain ⟨d,b6⟩:=a3;have b1:=Tt d;have H:Sep z (grow 5 1 (.slice (some ⟨gb,0,none⟩) ((1+ims.length)*256) gc) ((1+ims.length)*256) (ps.flatten.map u8)::lgB r pd pt s a sq j t o::tblA pt::A::diskA pd D::R) w:=H;obtain ⟨k,hk⟩:∃k:Nat,(k:Int)=min (1+(ims.length:Int)) (s.len-a):=⟨(min (1+(ims.length:Int)) (s.len-a)).toNat,by omega⟩;have a6:(ps.take k).length=k:=by rw[AbM];omega
 have a5:(ps.drop k).length=1+ims.length-k:=by rw[Acc];omega
 refine Z0 17 [4] Z (Bd (Sep z _) J J H.drew (FT 13 [2,6,1,0,9,1,0] [s.len-a,(s.len-a)*256] Z J U (Bn Z Z Z (LR Z Z Z) (k_updA 38 (v:=Aa ((k*256:Nat):Int)) Z (congrArg Aa U) (Cm 1 [] Z J (Bu (λw g=>?_)))))));have H:=g.l5;refine gn (Zc 2 Z ?_);replace H:=H.f1;refine BV (Sep z (lgB r pd pt s a sq j t o::R)) 19 Z J (A4 H λw g=>?_);have H:=g.l5;refine Oj [0,1,2,3,4,5,6,7,8,9,10,11,12,13,14,15] [0,0,0,2,5,0,0,9,0,0] [s.start+a] (by exact H.pick 5 [0] Z) Z J U Z (I7 16 Z J J J Z Z Z (Bj Z (z:=1) (p:=0) (q:=(k*256)) (o':=0) (l':=(k*256)) (c':=gc) J Z (.inl ⟨Z,Z⟩) (.inr ⟨_,_,_,Z,Z,Z⟩) U U U U U U) (H.pick 5 [0] Z) (Cs [17] J O (Ar (Ba Z Z Z Z Z Z (λw=>call134 _ w) (MI _ _ _ _ _ _ _ (ps.take k) _ (λp hp=>d p (Acr hp)) U (λi=>by have:=x i;omega) (by rw[a6]) (λh q=>by rw[Ra d];exact (grow.rdB q).pre U U)) H.f1.f4 Z ?_))));rintro _ w _ (⟨a4,rfl,rfl⟩|⟨_,y,rfl,rfl⟩|⟨_,f,rfl,rfl⟩) g
 ·exact absurd ⟨by omega,by omega⟩ a4
 ·have H:=g.l5;refine BZ (H.pick 5 [2] Z) (CG [18] [] [] (by exact H.pick 5 [2] Z) Z J Z (a_done J (gn (Z5 52 [4,3,10,2,0,10,2,12,2] [sq+1] H Z U ?_))));intro w H;refine Zr Z ?_;subst hps;exact ⟨_,.inr (.inr (.inr ⟨⟨by omega,by omega⟩,b,c,k,hk,.inr (.inr (.inl ⟨y,Z,Z⟩))⟩)),H.perm 5 [2,3,0,4] Z Z⟩
 have H:=g.l5;refine BZ (H.pick 5 [2] Z) (CG [18] [] [] (by exact H.pick 5 [2] Z) Z J Z (a_done J (gn (Z0 14 [3,0] Z (Ag Z (λh3=>?_) (λh3=>?_))))))
 ·replace H:=H.f2;refine BV (Sep z (lgB r pd pt s a sq j t o::R)) 14 Z J (A4 H λw g=>?_)
  have H:=g.l5;refine CG [0,1,2,3,4,5,6,7,8,9,10] [0,0,0,2,5,0,0] [] (by exact H.pick 5 [0] Z) Z J Z (I7 11 Z J J J Z Z Z (Bj Z (z:=1) (p:=(k*256)) (q:=((1+ims.length)*256)) (o':=k*256) (l':=((1+ims.length)*256)-(k*256)) (c':=gc-(k*256)) J Z (.inr ⟨_,_,_,Z,Z,Z⟩) (.inl ⟨Z,Z⟩) U U U U U U) (H.pick 5 [0] Z) (Cs [12] J O (Ar (Ba Z Z Z Z Z Z (λw=>call134 _ w) (MI _ _ _ _ _ _ _ (ps.drop k) _ (λp hp=>d p (Adu hp)) U (λi=>by have h1:=x i;have h2:=Dsk.wr_len D (s.start+a).toNat (ps.take k) i;omega) (by rw[a5];omega) (λh q=>by have:=(grow.rdB q).cut (lo:=k*256) (m:=(1+ims.length)*256-k*256) (c':=gc-k*256) U U U;rw[Rb d];rwa[AbJ (by rw[Acc];omega),AcW] at this)) H.f2.f2 Z ?_))));rintro _ w _ (⟨a1,rfl,rfl⟩|⟨_,a0,rfl,rfl⟩|⟨_,u,rfl,rfl⟩) g
  ·exact absurd ⟨by omega,by rw[Dsk.wr_n];omega⟩ a1
  ·have H:=g.l5;refine BZ (H.pick 5 [2] Z) (CG [13] [] [] (by exact H.pick 5 [2] Z) Z J Z (a_done J (gn (Z5 36 [3,10,2,0,10,2,12,2] [sq+1] H Z U ?_))));intro w H;refine Zr Z ?_;subst hps;exact ⟨_,.inr (.inr (.inr ⟨⟨by omega,by omega⟩,b,c,k,hk,.inr (.inr (.inr ⟨f,by omega,a0,Z,Z⟩))⟩)),H.perm 5 [2,3,0,4] Z Z⟩
  have H:=g.l5;refine BZ (H.pick 5 [2] Z) (CG [13] [] [] (by exact H.pick 5 [2] Z) Z J Z (a_done J (gn (Z1 17 [4] [1+(ims.length:Int)] Z U (Ai Z (call131 _) (Jl _ _ _ _ _ _ _ _ _ _ U U U U U) H.f2 ?_)))));intro w H;refine Zc 8 Z (Zr Z ?_);subst hps;exact ⟨_,.inr (.inr (.inr ⟨⟨by omega,by omega⟩,b,c,k,hk,.inr (.inl ⟨f,by omega,u,Z,Z⟩)⟩)),H.perm 5 [0,3,1,4] Z Z⟩
 refine Z1 18 [4] [1+(ims.length:Int)] Z U (Ai Z (call131 _) (Jl _ _ _ _ _ _ _ _ _ _ U U U U U) H.f2 ?_);intro w H;refine Zc 8 Z (Zr Z ?_);subst hps;exact ⟨_,.inr (.inr (.inr ⟨⟨by omega,by omega⟩,b,c,k,hk,.inl ⟨f,by omega,Z,Z⟩⟩)),H.perm 5 [0,3,1,4] Z Z⟩
open Go.RowKit Go.Shelf
def MJ:Go.Shelf.Ren:=⟨fun|189=>101|125=>165|257=>164|128=>205|129=>206|294=>196|295=>197|296=>198|297=>199|298=>200|299=>201|216=>202|300=>203|301=>204|328=>225|329=>226|330=>227|331=>228|332=>229|215=>230|343=>243|n=>n,fun|28=>22|3=>3|46=>219|0=>0|51=>174|53=>145|4=>4|183=>259|182=>258|131=>84|5=>5|9=>9|218=>276|222=>228|228=>292|229=>255|n=>n,fun|n=>n⟩
theorem MK:Go.Proofs.Lays.n189 prog MJ:= {
 mixed:=by kernel_rfl,
 f125:=func165.trans (congrArg some J),
 f128:=func205.trans (congrArg some J),
 f129:=func206.trans (congrArg some J),
 f189:=func101.trans (congrArg some J),
 f215:=func230.trans (congrArg some J),
 f216:=func202.trans (congrArg some J),
 f257:=func164.trans (congrArg some J),
 f294:=func196.trans (congrArg some J),
 f295:=func197.trans (congrArg some J),
 f296:=func198.trans (congrArg some J),
 f297:=func199.trans (congrArg some J),
 f298:=func200.trans (congrArg some J),
 f299:=func201.trans (congrArg some J),
 f300:=func203.trans (congrArg some J),
 f301:=func204.trans (congrArg some J),
 f328:=func225.trans (congrArg some J),
 f329:=func226.trans (congrArg some J),
 f330:=func227.trans (congrArg some J),
 f331:=func228.trans (congrArg some J),
 f332:=func229.trans (congrArg some J),
 f343:=func243.trans (congrArg some J),
 t0:=underlying0,
 a0:=isAgg0,
 z0:=sizeOf0,
 v0:=zeroValue0,
 t3:=underlying3,
 a3:=isAgg3,
 z3:=sizeOf3,
 v3:=zeroValue3,
 t4:=underlying4,
 a4:=isAgg4,
 z4:=sizeOf4,
 v4:=zeroValue4,
 t5:=underlying5,
 a5:=isAgg5,
 z5:=sizeOf5,
 v5:=zeroValue5,
 t9:=underlying9,
 a9:=isAgg9,
 z9:=sizeOf9,
 v9:=zeroValue9,
 t28:=underlying22,
 a28:=isAgg22,
 z28:=sizeOf22,
 v28:=zeroValue22,
 t46:=underlying219,
 a46:=isAgg219,
 z46:=sizeOf219,
 v46:=zeroValue219,
 t51:=underlying174,
 a51:=isAgg174,
 z51:=sizeOf174,
 v51:=zeroValue174,
 t53:=underlying145,
 a53:=isAgg145,
 z53:=sizeOf145,
 v53:=zeroValue145,
 t131:=underlying84,
 a131:=isAgg84,
 z131:=sizeOf84,
 v131:=zeroValue84,
 t182:=underlying258,
 a182:=isAgg258,
 z182:=sizeOf258,
 v182:=zeroValue258,
 t183:=underlying259,
 a183:=isAgg259,
 z183:=sizeOf259,
 v183:=zeroValue259,
 t218:=underlying276,
 a218:=isAgg276,
 z218:=sizeOf276,
 v218:=zeroValue276,
 t222:=underlying228,
 a222:=isAgg228,
 z222:=sizeOf228,
 v222:=zeroValue228,
 t228:=underlying292,
 a228:=isAgg292,
 z228:=sizeOf292,
 v228:=zeroValue292,
 t229:=underlying255,
 a229:=isAgg255,
 z229:=sizeOf255,
 v229:=zeroValue255}
open Go.Sort in
theorem TN {z w:World} {R:List Ah} {b n:Nat} {cs:List Value} {ty:TypeId} (H:Sep z (blk b cs ty::R) w) (ys:List Int) (os:Array Obj):
  Sep z (blk b ((putCells Aa 0 ys.toArray cs.toArray).toList) ty::R) (Go.Sort.grow (putRow Aa (Go.Sort.ahead w n) b 0 ys.toArray) os):=by
 have hb:w.heap[b]?=some (.cells cs.toArray ty (0,0)):=H.blk 0 Z;have h1:Sep z (blk b ((putCells Aa 0 ys.toArray cs.toArray).toList) ty::R) (putRow Aa (Go.Sort.ahead w n) b 0 ys.toArray):=by
  refine H.write 0 Z Z Z Z (o':=.cells (putCells Aa 0 ys.toArray cs.toArray) ty (0,0)) ?_ ?_
  ·show (w.heap.modify b _)[b]?=_
   rw[Adb,if_pos Z,hb];rfl
  intro k hk;show (w.heap.modify b _)[k]?=_;rw[Adb,if_neg (Ada hk)]
 refine h1.ext0 ⟨Z,Z,Z,?_,λk hk _=>?_⟩
 ·show _<=(_++os:Array Obj).size
  simp
 show (_++os:Array Obj)[k]?=_;rw[Aeq hk]
theorem Rx(v:Value)(zs:List Int)(hl:zs.length<=1099511627776):Aj 101 [v] [grow 3 1 v zs.length (zs.map Aa)]
  (λu Γ=>u=.tuple #[]/\∃ys:List Int,ys=zs.mergeSort (λx y=>decide (x<=y))/\Γ=[grow 3 1 v ys.length (ys.map Aa)]):=by
 intro z R w H;have H:Sep z (grow 3 1 v zs.length (zs.map Aa)::R) w:=H;rcases H.sy 0 (·.form) with ⟨rfl,h0⟩|⟨b,c,rfl,hc⟩
 ·obtain rfl:zs=[]:=Adl.1 h0
  refine (Go.Proofs.Any.slices_Sort_int_none MK none 0 w).mono ?_;rintro e w' ⟨rfl,rfl⟩;exact ⟨_,⟨Z,[],by simp,Z⟩,H⟩
 obtain ⟨⟨a0,a⟩,⟨f,h1,h2,h3,h4⟩,H1⟩:=H.into (σ:=Nat×List Value) (p:=λx=>c=x.1/\zs.length<=x.1/\x.1<=maxLen/\x.2.length=x.1/\x.2.take zs.length=zs.map Aa) (As:=λx=>[blk b x.2 3]) (λh q=>by
  rcases q.2 with ⟨q,_⟩|⟨g,a0,a,f,hg,hc,hm,hs,ht⟩
  ·cases q
  simp only[Value.slice.injEq,AbL,Aet,and_true,true_and] at f;obtain ⟨rfl,rfl⟩:=f;refine ⟨(c,a.toList),⟨Z,hc,hm,by simpa using hs,by simpa using ht⟩,λ_=>0,λi A s=>?_⟩
  cases i with
  | zero=>simp at s;subst s;show Hp.part _ _ _ _=_;unfold Hp.part;rw[if_pos Z];simpa using hg
  | succ i=>simp at s)
 dsimp only at f h1 h2 h3 h4 H1;subst f;have H1:Sep z (blk b a 3::R) w:=H1;have hb:w.heap[b]?=some (.cells a.toArray 3 (0,0)):=H1.blk 0 Z;have t:b<w.heap.size:=(Acv.1 hb).1;have k:∀j,j<zs.length->a[j]?=some (Aa zs[j]!):=λj d=>by
  have:(a.take zs.length)[j]? =(zs.map Aa)[j]? :=by rw[h4]
  rw[Acn,if_pos d,AbY,AbF d] at this;rw[this,getElem!_pos zs j d];rfl
 have hH:Go.Sort.Holds Aa w b 0 zs.toArray:=λj d=>by
  have m:j<zs.length:=by simpa using d
  refine ⟨?_,?_⟩
  ·have:=k j m
   simp[World.cell?,hb,this]
  simp[World.frozen?,hb]
 refine (Go.Proofs.Any.slices_Sort_int MK b 0 c zs w hH t U).mono ?_;rintro e w' ⟨rfl,n,os,rfl⟩;have H2:=TN (n:=n) H1 (zs.mergeSort λx y=>decide (x<=y)) os;have o:(zs.mergeSort λx y=>decide (x<=y)).length=zs.length:=List.length_mergeSort _;refine ⟨_,⟨Z,_,Z,Z⟩,H2.mono 0 Z (λh q=>?_)⟩;rw[o];refine blk.grow q h1 (by unfold maxLen at h2;omega) ?_ ?_
 ·simp[Go.Sort.putCells,h3]
 apply AcF;intro j;rw[Acn];simp only[AcD];by_cases d:j<zs.length
 ·rw[if_pos d]
  have l:j<a.length:=by omega
  have r:j<(zs.mergeSort λx y=>decide (x<=y)).length:=by omega
  simp[Go.Sort.putCells,l,r,d]
 rw[if_neg d,Ab5 (by simp;omega)]
def Zq(l:List IE):List IE->Value->List IE->Prop:=λs v s2=>∃p∈B1 l (s.map λp:IE=>p.2.2),v=.int .i64 p.1/\s2=s++[p]
def PH(l:List IE):List IE->Prop:=λs=>B1 l (s.map λp:IE=>p.2.2)=[]
def kC(s:List IE):List Value:=s.map λp=>.int .i64 p.1
def vecA(b:Nat)(l s:List IE):Ah:=λh=>((∀p∈s,p∈l)/\(s.map λp:IE=>p.2.2).Nodup)/\∃v,seps [blk b [v] 22,grow 3 1 v s.length (kC s)] h
theorem Sep.vec{z w:World}{Γ:List Ah}{b:Nat}{l s:List IE}(H:Sep z (vecA b l s::Γ) w):((∀p∈s,p∈l)/\(s.map λp:IE=>p.2.2).Nodup)/\∃v,Sep z (YthbbejpbkglmlaaGreatDoor.blk b [v] 22::YthbbejpbkglmlaaGreatDoor.grow 3 1 v s.length (kC s)::Γ) w:=by
 obtain ⟨v,hp,a⟩:=H.into (σ:=Value) (p:=λ_=>(∀p∈s,p∈l)/\(s.map λp:IE=>p.2.2).Nodup) (As:=λv=>[YthbbejpbkglmlaaGreatDoor.blk b [v] 22,YthbbejpbkglmlaaGreatDoor.grow 3 1 v s.length (kC s)]) (λh q=>by obtain ⟨q,v,c⟩:=q;exact ⟨v,q,c⟩);exact ⟨hp,v,a⟩
theorem Sep.toVec{z w:World}{Γ:List Ah}{b:Nat}{l s:List IE}{v:Value}(H:Sep z (YthbbejpbkglmlaaGreatDoor.blk b [v] 22::YthbbejpbkglmlaaGreatDoor.grow 3 1 v s.length (kC s)::Γ) w)(c:∀p∈s,p∈l)(a:(s.map λp:IE=>p.2.2).Nodup):Sep z (vecA b l s::Γ) w:=
 H.made 2 (A:=vecA b l s) (λh q=>⟨⟨c,a⟩,v,q⟩)
theorem Xc(s:List IE)(p:IE):kC s++[Aa p.1]=kC (s++[p]):=by simp[kC]
theorem FG{l s:List IE}{p:IE}(d:(∀p∈s,p∈l)/\(s.map λp:IE=>p.2.2).Nodup)(hp:p∈B1 l (s.map λp:IE=>p.2.2)):(∀q∈s++[p],q∈l)/\((s++[p]).map λp:IE=>p.2.2).Nodup:=by
 obtain ⟨h,f⟩:=CH hp;refine ⟨λq hq=>?_,?_⟩
 ·rcases Acd.1 hq with hq|hq
  ·exact d.1 q hq
  simp at hq;subst hq;exact h
 rw[Ab7,AcY];refine ⟨d.2,by simp,λa g b c=>?_⟩;simp at c;subst c;exact λe=>f (e▸g)
theorem Gn{α β:Type}{f:α->β}{l:List α}(h:(l.map f).Nodup):l.Nodup:=(AcR.1 h).imp λh e=>h (congrArg f e)
theorem GZ{α:Type}:∀{s l:List α},s.Nodup->(∀p∈s,p∈l)->s.length<=l.length
 | [],_,_,_=>AbV _
 | x::s,l,hn,h=>by
  obtain ⟨l1,l2,rfl⟩:=List.append_of_mem (h x O);have a:=AcZ.1 hn;have:=GZ (s:=s) (l:=l1++l2) a.2 λp hp=>by
   have:=h p (by simp[hp]);simp only[Acd,Acb] at this ⊢;rcases this with q|rfl|q
   ·exact .inl q
   ·exact absurd hp a.1
   exact .inr q
  simp only[AbH,AbI] at this ⊢;omega
theorem J7{l s:List IE}(h:(∀p∈s,p∈l)/\(s.map λp:IE=>p.2.2).Nodup):s.length<=l.length:=by
 have hs:s.Nodup:=Gn h.2;exact GZ hs h.1
theorem GN{l s:List IE}(a:(l.map λp:IE=>p.2.2).Nodup)(h:(∀p∈s,p∈l)/\(s.map λp:IE=>p.2.2).Nodup)(d:PH l s):s.Perm l:=by
 have hs:s.Nodup:=Gn h.2;have f:l.Nodup:=Gn a;refine (List.perm_ext_iff_of_nodup hs f).2 λp=>⟨h.1 p,λhp=>?_⟩;have:p.2.2∈s.map λp:IE=>p.2.2:=by
  by_cases q:p.2.2∈s.map λp:IE=>p.2.2
  ·exact q
  have:p∈B1 l (s.map λp:IE=>p.2.2):=by simpa [B1] using ⟨hp,by simpa using q⟩
  rw[show B1 l (s.map λp:IE=>p.2.2)=[] from d] at this;cases this
 obtain ⟨q,hq,e⟩:=AbP.1 this;obtain ⟨i,c,rfl⟩:=Adf.1 (h.1 q hq);obtain ⟨j,b,rfl⟩:=Adf.1 hp;obtain rfl:=FJ a (AbF c) (AbF b) e;exact hq
structure PgE where
 n:Nat
 pg:Pg
 v:Value
 born:Nat
def PgE.ie(e:PgE):IE:=((e.n:Int),.agg #[.int .i64 e.pg.kind,e.v],e.born)
structure PgsIn(f:A0)(es:List PgE)(clk:Nat)(hq:Hp):Prop where
 ent:∀e∈es,f e.n=some e.pg/\e.pg.Ok/\rdH 1 e.v 240 (e.pg.body.map u8) hq
 all:∀n p,f n=some p->∃e∈es,e.n=n
 nodup:(es.map PgE.n).Nodup
 born:(es.map PgE.born).Nodup
 clk:∀e∈es,e.born<clk
def pgsA(m:Nat)(f:A0)(hq:Hp):Ah:=λh=>∃es clk,PgsIn f es clk hq/\AE m (es.map PgE.ie) clk h
theorem Sep.pgs{z w:World}{Γ:List Ah}(i:Nat){m:Nat}{f:A0}{hq:Hp}(H:Sep z Γ w)(b:Γ[i]?=some (pgsA m f hq)):∃es clk,PgsIn f es clk hq/\Sep z (Γ.set i (AE m (es.map PgE.ie) clk)) w:=by
 obtain ⟨x,hp,c⟩:=H.exAt i (σ:=List PgE×Nat) (p:=λx=>PgsIn f x.1 x.2 hq) (B:=λx=>AE m (x.1.map PgE.ie) x.2) b (λh ⟨es,clk,d,a⟩=>⟨(es,clk),d,a⟩);exact ⟨x.1,x.2,hp,c⟩
theorem Sep.toPgs{z w:World}{Γ:List Ah}(i:Nat){m:Nat}{es:List PgE}{clk:Nat}{f:A0}{hq:Hp}(H:Sep z Γ w)(a:Γ[i]?=some (AE m (es.map PgE.ie) clk))(hp:PgsIn f es clk hq):Sep z (Γ.set i (pgsA m f hq)) w:=H.mono i a λh q=>⟨es,clk,hp,q⟩
def DN(m:Nat)(f:A0)(k:Nat)(hq:Hp):Ah:=λh=>∃es clk,PgsIn f es clk hq/\es.length=k/\AE m (es.map PgE.ie) clk h
theorem Sep.pgsc{z w:World}{Γ:List Ah}(i:Nat){m k:Nat}{f:A0}{hq:Hp}(H:Sep z Γ w)(b:Γ[i]?=some (DN m f k hq)):∃es clk,PgsIn f es clk hq/\es.length=k/\Sep z (Γ.set i (AE m (es.map PgE.ie) clk)) w:=by
 obtain ⟨x,hp,c⟩:=H.exAt i (σ:=List PgE×Nat) (p:=λx=>PgsIn f x.1 x.2 hq/\x.1.length=k) (B:=λx=>AE m (x.1.map PgE.ie) x.2) b (λh ⟨es,clk,e,a,d⟩=>⟨(es,clk),⟨e,a⟩,d⟩);exact ⟨x.1,x.2,hp.1,hp.2,c⟩
theorem Sep.toPgsc{z w:World}{Γ:List Ah}(i:Nat){m k:Nat}{es:List PgE}{clk:Nat}{f:A0}{hq:Hp}(H:Sep z Γ w)(a:Γ[i]?=some (AE m (es.map PgE.ie) clk))(hp:PgsIn f es clk hq)(b:es.length=k):Sep z (Γ.set i (DN m f k hq)) w:=H.mono i a λh q=>⟨es,clk,hp,b,q⟩
theorem PgsIn.le{f:A0}{es:List PgE}{clk:Nat}{hq a:Hp}(h:PgsIn f es clk hq)(s:BA hq a):PgsIn f es clk a:=⟨λe b=>⟨(h.ent e b).1,(h.ent e b).2.1,(h.ent e b).2.2.le s⟩,h.all,h.nodup,h.born,h.clk⟩
theorem pgsA.le{m:Nat}{f:A0}{hq a:Hp}(s:BA hq a):∀h,pgsA m f hq h->pgsA m f a h:=λ_ ⟨es,clk,c,b⟩=>⟨es,clk,c.le s,b⟩
theorem PgsIn.none(hq:Hp)(clk:Nat):PgsIn CD [] clk hq:=⟨λe a=>(by cases a),λn p h=>(by cases h),by simp,by simp,λe a=>(by cases a)⟩
theorem PgsIn.get{f:A0}{es:List PgE}{clk:Nat}{hq:Hp}(h:PgsIn f es clk hq)(n:Nat):(f n=Option.none/\Cw (es.map PgE.ie) (n:Int)=Option.none)\/∃(p:Pg) (v:Value),f n=some p/\p.Ok/\rdH 1 v 240 (p.body.map u8) hq/\Cw (es.map PgE.ie) (n:Int)=some (.agg #[Aa p.kind,v]):=by
 have k:∀l:List PgE,(∀e∈l,e∈es)->((∀e∈l,e.n≠n)/\Cw (l.map PgE.ie) (n:Int)=Option.none)\/∃e∈es,e.n=n/\Cw (l.map PgE.ie) (n:Int)=some (.agg #[Aa e.pg.kind,e.v]):=by
  intro l
  induction l with
  | nil=>intro _;exact .inl ⟨λe d=>(by cases d),Z⟩
  | cons e l ih=>
   intro m;simp only[Aca,PgE.ie,Cw];by_cases q:(n:Int)=(e.n:Int)
   ·exact .inr ⟨e,m e O,by omega,by rw[if_pos q]⟩
   rw[if_neg q];rcases ih (λe d=>m e (by simp[d])) with ⟨g,i⟩|g
   ·refine .inl ⟨λo d=>?_,i⟩
    rcases Acb.1 d with rfl|d
    ·omega
    exact g o d
   exact .inr g
 rcases k es (λ_ h=>h) with ⟨g,i⟩|⟨e,d,j,r⟩
 ·refine .inl ⟨?_,i⟩
  cases hf:f n with
  | none=>rfl
  | some p=>
   obtain ⟨e,d,j⟩:=h.all n p hf;exact absurd j (g e d)
 subst j;obtain ⟨a,b,c⟩:=h.ent e d;exact .inr ⟨e.pg,e.v,a,b,c,r⟩
theorem PgsIn.has{f:A0}{es:List PgE}{clk:Nat}{hq:Hp}(h:PgsIn f es clk hq)(n:Nat):Cq (es.map PgE.ie) (n:Int)=(f n).isSome:=by
 unfold Cq;rcases h.get n with ⟨b,a⟩|⟨p,v,b,_,_,a⟩<;>rw[b,a]<;>rfl
theorem upd_pgs(es:List PgE)(k:Nat)(p:Pg)(v:Value):updM (es.map PgE.ie) (k:Int) (.agg #[Aa p.kind,v])=(es.map λe=>if e.n=k then {e with pg:=p,v:=v} else e).map PgE.ie\/¬(es.map PgE.n).Nodup:=by
 induction es with
 | nil=>exact .inl Z
 | cons e es ih=>
  by_cases hn:((e::es).map PgE.n).Nodup
  ·left
   have b:=hn;simp only[Aca,AcZ] at b;by_cases q:(k:Int)=(e.n:Int)
   ·have c:e.n=k:=by omega
    have a:(es.map λe=>if e.n=k then {e with pg:=p,v:=v} else e)=es:=by
     conv=>rhs;rw[<-List.map_id es]
     exact Adm λf d=>by
      rw[if_neg];rfl;intro g;exact b.1 (AbP.2 ⟨f,d,by omega⟩)
    simp only[Aca,PgE.ie,updM,if_pos q,if_pos c];rw[a];subst c;rfl
   have c:¬e.n=k:=by omega
   simp only[Aca,PgE.ie,updM,if_neg q,if_neg c];rcases ih with ih|ih
   ·congr 1
   exact absurd b.2 ih
  exact .inr hn
theorem PgsIn.put{f:A0}{es:List PgE}{clk:Nat}{hq:Hp}(h:PgsIn f es clk hq){k:Nat}{p:Pg}{v:Value}(hp:p.Ok)(y:rdH 1 v 240 (p.body.map u8) hq):∃o,EI (es.map PgE.ie) (k:Int) (.agg #[Aa p.kind,v]) clk=o.map PgE.ie/\PgsIn (pgSet f k p) o (putC (es.map PgE.ie) (k:Int) clk) hq/\o.length=es.length+(if (f k).isSome then 0 else 1):=by
 have t:=h.has k;unfold EI putC
 cases hs:(f k).isSome with
 | true=>
  rw[hs] at t;rw[t,if_pos Z,if_pos Z];rcases upd_pgs es k p v with e|e
  ·refine ⟨_,e,⟨λr d=>?_,λn q i=>?_,?_,?_,λr d=>?_⟩,by simp⟩
   ·obtain ⟨j,m,rfl⟩:=AbP.1 d
    obtain ⟨a,b,c⟩:=h.ent j m;by_cases g:j.n=k
    ·rw[if_pos g];exact ⟨by unfold pgSet;rw[if_pos g],hp,y⟩
    rw[if_neg g];exact ⟨by unfold pgSet;rw[if_neg g];exact a,b,c⟩
   ·unfold pgSet at i
    have:∃j∈es,j.n=n:=by
     split at i
     ·rename_i g;subst g
      obtain ⟨z,w⟩:=Acp.1 hs;exact h.all n z w
     exact h.all n q i
    obtain ⟨j,m,u⟩:=this;exact ⟨_,Acz m,by split<;>exact u⟩
   ·rw[Ac7]
    rw[show (PgE.n∘λe=>if e.n=k then {e with pg:=p,v:=v} else e)=PgE.n from by funext e;simp only[AdR];split<;>rfl];exact h.nodup
   ·rw[Ac7]
    rw[show (PgE.born∘λe=>if e.n=k then {e with pg:=p,v:=v} else e)=PgE.born from by funext e;simp only[AdR];split<;>rfl];exact h.born
   obtain ⟨j,m,rfl⟩:=AbP.1 d;have:=h.clk j m;split<;>exact this
  exact absurd h.nodup e
 | false=>
  rw[hs] at t;rw[t];simp only[AcI,if_false];have l:f k=Option.none:=by simpa using hs
  refine ⟨es++[⟨k,p,v,clk⟩],by simp[PgE.ie],⟨λr d=>?_,λn q i=>?_,?_,?_,λr d=>?_⟩,by simp⟩
  ·rcases Acd.1 d with g|g
   ·obtain ⟨a,b,c⟩:=h.ent r g
    have:r.n≠k:=λe=>by rw[e,l] at a;cases a
    exact ⟨by unfold pgSet;rw[if_neg this];exact a,b,c⟩
   simp at g;subst g;exact ⟨by simp[pgSet],hp,y⟩
  ·unfold pgSet at i
   split at i
   ·rename_i g;exact ⟨⟨k,p,v,clk⟩,by simp,g.symm⟩
   obtain ⟨j,m,u⟩:=h.all n q i;exact ⟨j,by simp[m],u⟩
  ·rw[Ab7,AcY]
   refine ⟨h.nodup,by simp,λa x b s=>?_⟩;simp at s;subst s;obtain ⟨j,m,rfl⟩:=AbP.1 x;intro e;have:=(h.ent j m).1;rw[e,l] at this;cases this
  ·rw[Ab7,AcY]
   refine ⟨h.born,by simp,λa x b s=>?_⟩;simp at s;subst s;obtain ⟨j,m,rfl⟩:=AbP.1 x;have:=h.clk j m;omega
  rcases Acd.1 d with g|g
  ·have:=h.clk r g;omega
  simp at g;subst g;simp
theorem PgsIn.keys{f:A0}{es:List PgE}{clk:Nat}{hq:Hp}{s:List IE}(h:PgsIn f es clk hq)(hs:s.Perm (es.map PgE.ie)):
  ((s.map λp:IE=>p.1).mergeSort (λx y=>decide (x<=y))).Pairwise (· < ·)/\∀k:Int,k∈(s.map λp:IE=>p.1).mergeSort (λx y=>decide (x<=y))↔0<=k/\(f k.toNat).isSome=true:=by
 have hp:((s.map λp:IE=>p.1).mergeSort (λx y=>decide (x<=y))).Perm (es.map λe:PgE=>(e.n:Int)):=by
  refine (List.mergeSort_perm _ _).trans ?_;have:=hs.map (λp:IE=>p.1);rwa[Ac7] at this
 have j:((s.map λp:IE=>p.1).mergeSort (λx y=>decide (x<=y))).Nodup:=by
  refine hp.symm.nodup ?_;have d:=AcR.1 h.nodup;exact AcR.2 (d.imp λh e=>h U)
 refine ⟨?_,λk=>?_⟩
 ·have l:((s.map λp:IE=>p.1).mergeSort (λx y=>decide (x<=y))).Pairwise (λx y=>decide (x<=y)=true):=List.pairwise_mergeSort (λa b c d g=>by simp at *;omega) (λa b=>by simp;omega) _
  exact (l.and j).imp λh=>by have d:=h.1;have g:=h.2;simp at d;omega
 rw[hp.mem_iff,AbP];constructor
 ·rintro ⟨e,i,rfl⟩
  exact ⟨by omega,by rw[Acg,(h.ent e i).1];rfl⟩
 rintro ⟨d,g⟩;obtain ⟨p,hp⟩:=Acp.1 g;obtain ⟨e,i,m⟩:=h.all _ p hp;exact ⟨e,i,by omega⟩
theorem V7(b c:Value)(l a:List UInt8)(A B:Ah)(e:∀h,A h->rdH 1 b l.length (l.map u8) h)(d:∀h,B h->rdH 1 c a.length (a.map u8) h):Aj 119 [b,c] [A,B] (λv G=>v=.bool (decide (l=a))/\G=[A,B]):=by
 intro z R w H;refine Ac func119 Z ntmps119 Z (Zc 8 Z (Ad Z (DI (l:=l) Z J J Z (AB (H.rd 0 Z e))) (Zc 1 Z (Ad Z (DI (l:=a) Z J J Z (AB (H.rd 1 Z d))) (Ad Z (Md Z J Z Z) (Zc 4 Z (Zr Z ?_)))))));exact ⟨_,⟨Z,Z⟩,H⟩
theorem TO(b off n c:Nat)(bs:List UInt8)(A:Ah)(g:∀h,A h->rdH 1 (.slice (some ⟨b,off,none⟩) n c) n (bs.map u8) h)(j:0<n/\n<=1073741824):Aj 115 [.slice (some ⟨b,off,none⟩) n c] [A] (λv G=>(∃e,v=e/\G=[grow 5 1 e n (bs.map u8),A])):=by
 intro z R w H;refine Ac func115 Z ntmps115 Z (Zc 9 Z (Ad Z (L8 Z J Z Z) (Zc 7 Z (AG Z (HM H Z J Bf) ?_))));rintro _ w ⟨i,rfl,H⟩;refine Zc 1 Z ?_;replace H:=(H.mono 0 (B:=grow 5 1 (.slice (some ⟨i,0,none⟩) 0 0) 0 []) Z (λh q=>q.grow U U O Z)).l2;refine AG Z (AO 0 H Z Z J Bf Z Z (H.rd 1 Z g) (by simp[u8,Value.oneCell']) U) ?_;rintro k w a;have d:([]++bs.map u8:List Value)=bs.map u8:=by simp
 rw[d] at a;rw[show (0+n:Nat)=n from by omega] at a;have H:=a.l2;refine Zc 4 Z (Zr Z ?_);exact ⟨_,⟨_,Z,Z⟩,H⟩
theorem FL(ns:List Int):(ns.flatMap (Af 8)).length=8*ns.length:=by
 induction ns with
 | nil=>rfl
 | cons x ns ih=>simp only[Acl,AbH,Ae,ih,AbI];omega
theorem PI{ns:List Int}{i:Nat}{x:Int}(h:ns[i]?=some x):(ns.take i).flatMap (Af 8)++Af 8 x=(ns.take (i+1)).flatMap (Af 8):=by
 rw[AbZ,h];simp
theorem Ry(ns:List Int):∀{j:Nat} {x:Int},ns[j]?=some x->((ns.flatMap (Af 8)).drop (8*j)).take 8=Af 8 x:=by
 induction ns with
 | nil=>intro j x h;simp at h
 | cons y ys ih=>
  intro j x h
  cases j with
  | zero=>
   simp at h;subst h;rw[Acl,Aeh,Ab1,Acs (Ae 8 y)]
  | succ j=>
   rw[Acl,show 8*(j+1)=(Af 8 y).length+8*j from by rw[Ae];omega,Aco];rw[Ab6 U,Ab3,show (Af 8 y).length+8*j-(Af 8 y).length=8*j from by omega];exact ih (by simpa using h)
theorem Sup.list_len(s:Sup):s.list.length=7:=rfl
theorem Xd(s:Sup):Jc [80,83,85,80] (BC s):=by
 have a:=Ao s;refine ⟨Hu U,?_⟩;have:=BM (l:=Hy s) U (p:=0) (k:=4) U;rw[Ab1,Ab1] at this;unfold BC;rw[this];rfl
theorem EX{s:Sup}(hs:∀x∈s.list,0<=x/\x<=1099511627776){k:Nat}{x:Int}(a:s.list[k]?=some x):Be (((BC s).drop (4+8*k)).take 8)=x:=by
 have c:=Ao s;have b:k<7:=(AbE.1 a).1;unfold BC;rw[BM U U];unfold Hy;rw[Aco,Ab6 O,Ab3,show 4+8*k-([80,83,85,80]:List UInt8).length=8*k from by simp,Ry _ a];have:=hs x (AbG a);exact CT this.1 U U
theorem TP(s:Sup):rz (((BC s).drop 60).take 192)=0:=by
 have a:=Ao s;have:=Lh (l:=Hy s) U;rw[a] at this;exact this
theorem Zs{n:Nat}{p:Pg}(h:p.Ok):Jc [80,80,65,71] (DF n p):=⟨Hu (AcO (Fq h)),Mt h⟩
theorem OA{n:Nat}{p:Pg}(h:p.Ok):Be (((DF n p).drop 4).take 1)=p.kind:=by
 have a:=Fq (n:=n) h;unfold DF;rw[BM U U,show GU n p=[80,80,65,71]++Af 1 p.kind++(Af 4 (n:Int)++[0,0,0]++p.body) from by simp[GU],HN _ _ _ O (by simp[Ae])];exact CT (by have:=h.1;omega) (by have:=h.1;omega) (by have:=h.1;omega)
theorem Zt{n:Nat}{p:Pg}(h:p.Ok)(a:n<=1023):Be (((DF n p).drop 5).take 4)=(n:Int):=by
 have b:=Fq (n:=n) h;unfold DF;rw[BM U U,show GU n p=([80,80,65,71]++Af 1 p.kind)++Af 4 (n:Int)++([0,0,0]++p.body) from by simp[GU],HN _ _ _ (by simp[Ae]) (by simp[Ae])];exact CT U U U
theorem PJ{n:Nat}{p:Pg}(h:p.Ok):Be (((DF n p).drop 9).take 3)=0:=by
 have a:=Fq (n:=n) h;unfold DF;rw[BM U U,show GU n p=([80,80,65,71]++Af 1 p.kind++Af 4 (n:Int))++[0,0,0]++p.body from by simp[GU],HN _ _ _ (by simp[Ae]) O];decide
theorem OB{n:Nat}{p:Pg}(h:p.Ok):((DF n p).drop 12).take 240=p.body:=by
 have a:=Fq (n:=n) h;unfold DF;rw[BM U U,show GU n p=([80,80,65,71]++Af 1 p.kind++Af 4 (n:Int)++[0,0,0])++p.body++[] from by simp[GU],HN _ _ _ (by simp[Ae]) h.2.symm]
theorem TQ{s:Sup}{k:Nat}{x:Int}(a:s.list[k]?=some x):((s.list.take k).map Aa++List.replicate (7-k) (Aa 0)).take k++[Aa x]++((s.list.take k).map Aa++List.replicate (7-k) (Aa 0)).drop (k+1)=(s.list.take (k+1)).map Aa++List.replicate (7-(k+1)) (Aa 0):=by
 have c:k<7:=(AbE.1 a).1;have b:((s.list.take k).map Aa).length=k:=by simp[Sup.list];omega
 rw[AbR U,AbJ U,Aco,Ab6 U,Ab3,b,AdB,AbZ,a,show 7-k-(k+1-k)=7-(k+1) from by omega];simp
theorem Xe{s:Sup}{k:Nat}{x:Int}(a:s.list[k]?=some x):((s.list.take (k+1)).map Aa++List.replicate (7-(k+1)) (Aa 0))[k]?=some (Aa x):=by
 have b:k<7:=(AbE.1 a).1;have c:((s.list.take (k+1)).map Aa).length=k+1:=by simp[Sup.list];omega
 rw[AbU U,AbY,Acn,if_pos U,a];rfl
theorem PK(pt:Nat)(s:Sup)(hs:∀x∈s.list,0<=x/\x<=1099511627776):Aj 182 [V pt,.agg #[Aa s.gen,Aa s.epoch,Aa s.pages,Aa s.start,Aa s.len,Aa s.head,Aa s.seq]] [tblA pt] (λv G=>∃d,v=.tuple #[.slice (some ⟨d,0,none⟩) 256 256,Aa 0]/\G=[blk d (Bb (BC s) 60) 204,tblA pt]):=by
 intro z R w H;have e:=Sup.list_len s;refine Ac func182 Z ntmps182 Z (Za 2 [] H Z ?_);intro b w H;refine Zc 6 Z (AG Z (Bz (P:=prog) H Z (zs:=(Bb (Bc []) 0)) J) ?_);rintro _ w ⟨a,rfl,H⟩;refine Zc 4 Z (Ai Z (call179 _) (If _ 0 [80,83,85,80] _ (Bl (by first|omega|(simp[Ae,FL,-List.length_flatMap]<;>omega))) (by first|omega|(simp<;>omega))) H ?_);intro w H;rw[show BD (Bc []) ([80,83,85,80]) 0=Bc ([80,83,85,80]) from Cp Z (by first|omega|(simp[Ae,FL,-List.length_flatMap]<;>omega))] at H;have H:Sep z (blk a (Bb (Bc ([80,83,85,80])) 4) 204::blk b [Aa s.gen,Aa s.epoch,Aa s.pages,Aa s.start,Aa s.len,Aa s.head,Aa s.seq] 92::tblA pt::R) w:=H;refine Z2 19 [0,1,0,1,1,0,2,1,0,3,1,0,4,1,0,5,1,0,6,1,0] H Z (Ad Z (AX Z Z (out:=[Aa s.gen,Aa s.epoch,Aa s.pages,Aa s.start,Aa s.len,Aa s.head,Aa s.seq]) J) (Zc 4 Z ?_));refine Ay (σ:=Nat) (λk=>[(25,Aa (k:Int)),(0,V pt),(6,V a),(24,.agg #[Aa s.gen,Aa s.epoch,Aa s.pages,Aa s.start,Aa s.len,Aa s.head,Aa s.seq])])
   (λk w=>Sep z (blk a (Bb (Bc ([80,83,85,80]++(s.list.take k).flatMap (Af 8))) ((4+8*k:Nat):Int)) 204::blk b [Aa s.gen,Aa s.epoch,Aa s.pages,Aa s.start,Aa s.len,Aa s.head,Aa s.seq] 92::tblA pt::R) w/\(k<=7)) (λk=>7-k) 0
   fr_z ⟨(by simpa using H),by omega⟩ ?_
 clear H;rintro k w ⟨i,f⟩;have H:=i.l3;have m:=f;clear f;refine Z0 6 [0] Z (Ag Z (λn=>?_) (λn=>?_))
 ·refine Zc 6 Z ?_;obtain ⟨x,c⟩:∃x,s.list[k]?=some x:=⟨_,AbF (by simp[Sup.list];omega)⟩;have h:=hs x (AbG c)
  refine Ad Z (Mg Z J Z (l:=s.list) (j:=k) Z Z Z Z c) (Zc 7 Z (Ai Z (call122 _) (C6 _ _) H ?_));intro w H;refine Ad Z (AW Z Z) (Zc 1 Z (Ak 31 Z (λg=>U) (λg=>?_)));refine Zc 10 Z (Ai Z (call144 _) (DT _ (4+8*k) 8 x _ (Bl (by first|omega|(simp[Ae,FL,-List.length_flatMap]<;>omega))) U) H ?_);intro w H;rw[show ((4+8*k+8:Nat):Int)=(((4+8*(k+1):Nat):Int):Int) from by omega] at H;rw[show BD (Bc ([80,83,85,80]++(s.list.take k).flatMap (Af 8))) (Af 8 x) (4+8*k)=Bc ([80,83,85,80]++(s.list.take k).flatMap (Af 8)++Af 8 x) from Cp (by first|omega|(simp[Ae,FL,-List.length_flatMap]<;>omega)) (by first|omega|(simp[Ae,FL,-List.length_flatMap]<;>omega))] at H;have H:Sep z (blk a (Bb (Bc ([80,83,85,80]++(s.list.take k).flatMap (Af 8)++Af 8 x)) ((4+8*(k+1):Nat):Int)) 204::blk b [Aa s.gen,Aa s.epoch,Aa s.pages,Aa s.start,Aa s.len,Aa s.head,Aa s.seq] 92::tblA pt::R) w:=H;refine Z1 7 [] [(k:Int)+1] Z U (gf ?_);intro _ o;refine ⟨(k+1),o.cz,⟨(by rw[<-PI c,<-AbK];exact H),?_⟩,?_⟩
  ·omega
  omega
 obtain rfl:k=7:=by omega
 refine Zc 2 Z (gx (Zc 3 Z ?_));have H:Sep z (blk a (Bb (Bc (Hy s)) 60) 204::blk b [Aa s.gen,Aa s.epoch,Aa s.pages,Aa s.start,Aa s.len,Aa s.head,Aa s.seq] 92::tblA pt::R) w:=H;refine Zc 2 Z (Ai Z (call180 _) (HA _ _ _ _ (Bl (by first|omega|(simp[Ae,Ao]<;>omega)))) H.f2.f1 ?_);intro w H;refine Zc 5 Z (Zr Z ?_);exact ⟨_,⟨a,Z,Z⟩,H.perm 3 [0,1] Z Z⟩
theorem J8(pt b o c:Nat)(sec:List UInt8)(A:Ah)(f:∀h,A h->rdH 1 (.slice (some ⟨b,o,none⟩) 256 c) 256 (sec.map u8) h)(s:Sup)(hs:∀x∈s.list,0<=x/\x<=1099511627776)(d:sec=BC s):Aj 128 [V pt,.slice (some ⟨b,o,none⟩) 256 c] [tblA pt,A] (λv G=>v=.tuple #[.agg #[Aa s.gen,Aa s.epoch,Aa s.pages,Aa s.start,Aa s.len,Aa s.head,Aa s.seq],.bool true]/\G=[tblA pt,A]):=by
 intro z R w H;have n:=H.sy 1 (λq=>(f _ q).len);have a3:=H.sy 1 (λq=>(f _ q).cap);obtain ⟨c0,c1,c2,c3,hd⟩:=Mk n;refine Ac func128 Z ntmps128 Z (Za 2 [] H Z ?_);intro r w H;refine Zc 7 Z (AA Z (call120 _) (KD _ _ _ _ _ sec _ f) H.f2.f2 ?_);rintro _ w _ (⟨e,rfl,rfl⟩|⟨e,rfl,rfl⟩) p
 ·have H:=p.l3;refine Za 3 [] H Z ?_;intro i w H;refine Za 16 [0] H Z ?_;intro a w H;refine Z0 12 [0,1,2,3,4,5,6] Z (Ad Z (AX Z Z (out:=[V a,.pointer (some ⟨a,1,none⟩),.pointer (some ⟨a,2,none⟩),.pointer (some ⟨a,3,none⟩),.pointer (some ⟨a,4,none⟩),.pointer (some ⟨a,5,none⟩),.pointer (some ⟨a,6,none⟩)]) J) (Zc 4 Z ?_));refine Ay (σ:=Nat) (λk=>[(28,Aa (k:Int)),(4,V r),(6,V i),(8,V a),(27,.agg #[V a,.pointer (some ⟨a,1,none⟩),.pointer (some ⟨a,2,none⟩),.pointer (some ⟨a,3,none⟩),.pointer (some ⟨a,4,none⟩),.pointer (some ⟨a,5,none⟩),.pointer (some ⟨a,6,none⟩)])])
    (λk w=>Sep z (blk a ((s.list.take k).map Aa++List.replicate (7-k) (Aa 0)) 92::blk i [.slice (some ⟨b,(o+(4+8*k)),none⟩) (252-(4+8*k)) (c-(4+8*k))] 162::tblA pt::A::blk r [Aa 0,Aa 0,Aa 0,Aa 0,Aa 0,Aa 0,Aa 0] 92::R) w/\(k<=7)) (λk=>7-k) 0
    fr_z ⟨H,by omega⟩ ?_
  clear H;rintro k w ⟨p,t⟩;have H:=p.l5;have a2:=t;clear t;refine Z0 6 [0] Z (Ag Z (λh1=>?_) (λh1=>?_))
  ·have a0:k<7:=by omega
   refine Zc 6 Z ?_;obtain ⟨x,g⟩:∃x,s.list[k]?=some x:=⟨_,AbF (by simp[Sup.list];omega)⟩;have a1:=hs x (AbG g);have l:Be ((sec.drop (4+8*k)).take 8)=x:=by rw[d];exact EX hs g
   refine Ad Z (EM (m:=7) Z J Z Z Z (j:=k) Z (u:=.pointer (some ⟨a,k,none⟩)) (by rcases (show k=0\/k=1\/k=2\/k=3\/k=4\/k=5\/k=6 by omega) with rfl|rfl|rfl|rfl|rfl|rfl|rfl<;>rfl)) (Zc 6 Z (Ai Z (call121 _) (Eg 8 _ b (o+(4+8*k)) (252-(4+8*k)) (c-(4+8*k)) ((sec.drop (4+8*k)).take (252-(4+8*k))) _ (λh q=>(f h q).cut (lo:=(4+8*k)) (m:=(252-(4+8*k))) (c':=(c-(4+8*k))) U U U) U U ((sec.drop (4+8*k)).take 8) (by rw[Acq,Acm U]) (o+(4+8*(k+1))) (252-(4+8*(k+1))) (c-(4+8*(k+1))) U U U) H.f3.f2 ?_));intro w H;refine k_updA 32 (v:=Aa x) Z (congrArg Aa l) (Zc 1 Z (A9 Z Z (AD 2 H Z Z Z Z (vs:=[Aa x]) Z (by simp[u8,u32,Value.oneCell']) J (by have:=Sup.list_len s;simp;omega) (out:=((s.list.take (k+1)).map Aa++List.replicate (7-(k+1)) (Aa 0))) (TQ g)) ?_));rintro w H;refine Zc 6 Z (Ad Z (AY Z Z J (AB (H.cel 2 Z k (Xe g)))) (Ai Z (call122 _) (C6 _ _) H ?_));intro w H;refine Ad Z (AW Z Z) (Zc 2 Z (Ag Z (λh2=>U) (λh2=>?_)));refine Z1 7 [] [(k:Int)+1] Z U ?_;replace H:=H.f4.f2.f4.f3.f4;refine gf ?_;intro _ hF;refine ⟨(k+1),hF.cz,⟨H,?_⟩,?_⟩
   ·omega
   omega
  obtain rfl:k=7:=by omega
  refine Zc 2 Z (gx (Zc 4 Z ?_));have H:Sep z (blk a [Aa s.gen,Aa s.epoch,Aa s.pages,Aa s.start,Aa s.len,Aa s.head,Aa s.seq] 92::blk i [.slice (some ⟨b,(o+(4+8*7)),none⟩) (252-(4+8*7)) (c-(4+8*7))] 162::tblA pt::A::blk r [Aa 0,Aa 0,Aa 0,Aa 0,Aa 0,Aa 0,Aa 0] 92::R) w:=H;refine Zc 1 Z (Ai Z (call174 _) (Rp _ b (o+(4+8*7)) (252-(4+8*7)) (c-(4+8*7)) ((sec.drop (4+8*7)).take (252-(4+8*7))) _ (λh q=>(f h q).cut (lo:=(4+8*7)) (m:=(252-(4+8*7))) (c':=(c-(4+8*7))) U U U) U) H.f3.f2 ?_);intro w H;refine Ad Z (AW Z Z) (Zc 2 Z (Ag Z (λy=>?_) (λy=>?_)))
  ·exact absurd (by rw[d];exact TP s) y
  refine Z4 10 [2,7,4] H Z ?_;intro w H;refine Zl [4,7] H Z ?_;exact ⟨_,⟨Z,Z⟩,H.perm 5 [3,1] Z Z⟩
 exact absurd (d▸Xd s) e
theorem J9(pt b o c:Nat)(sec:List UInt8)(A:Ah)(f:∀h,A h->rdH 1 (.slice (some ⟨b,o,none⟩) 256 c) 256 (sec.map u8) h)(n:Nat)(a:sec=List.replicate 256 0):Aj 66 [V pt,.slice (some ⟨b,o,none⟩) 256 c,Aa (n:Int)] [tblA pt,A] (λv G=>v=.tuple #[.agg #[Aa 0,.slice none 0 0],.bool true]/\G=[tblA pt,A]):=by
 intro z R w H;have d:=H.sy 1 (λq=>(f _ q).len);refine Ac func66 Z ntmps66 Z (Za 2 [] H Z ?_);intro i w H;refine Zc 10 Z (AG Z (Dx (k:=256) H Z J Bf Z Z Z U) ?_);rintro _ w ⟨g,rfl,H⟩;refine Ai Z (call119 _) (V7 _ _ sec (List.replicate 256 0) _ _ (λh q=>by rw[d];exact f h q) (λh q=>by rw[AbQ,Adr];exact q.rd U U O Z)) H.f3 ?_;intro w H;refine Zc 3 Z (Ag Z (λe=>?_) (λe=>?_))
 ·refine Z4 8 [2] H Z ?_;intro w H;refine Zl [2,2] H Z ?_;exact ⟨_,⟨Z,Z⟩,H.perm 4 [3,0] Z Z⟩
 exact absurd a e
theorem Lm(pt b o c:Nat)(sec:List UInt8)(A:Ah)(d:∀h,A h->rdH 1 (.slice (some ⟨b,o,none⟩) 256 c) 256 (sec.map u8) h)(n:Nat)(p:Pg)(hp:p.Ok)(t:n<=1023)(a:sec=DF n p):Aj 66 [V pt,.slice (some ⟨b,o,none⟩) 256 c,Aa (n:Int)] [tblA pt,A] (λv G=>∃r,v=.tuple #[.agg #[Aa p.kind,r],.bool true]/\G=[grow 5 1 r 240 (p.body.map u8),tblA pt,A]):=by
 intro z R w H;replace H:=H.l2;have e:=H.sy 1 (λq=>(d _ q).len);have a0:=H.sy 1 (λq=>(d _ q).cap);obtain ⟨c0,c1,c2,c3,hd⟩:=Mk e;have y:=hp.1;refine Ac func66 Z ntmps66 Z (Za 2 [] H Z ?_);intro b1 w H;refine Zc 10 Z (AG Z (Dx (k:=256) H Z J Bf Z Z Z U) ?_);rintro _ w ⟨b2,rfl,H⟩;replace H:=H.l4;refine Ai Z (call119 _) (V7 _ _ sec (List.replicate 256 0) _ _ (λh q=>by rw[e];exact d h q) (λh q=>by rw[AbQ,Adr];exact q.rd U U O Z)) H.f3 ?_;intro w H;refine Zc 3 Z (Ag Z (λl=>?_) (λl=>?_))
 ·exact absurd (a.symm.trans l) (IZ hp)
 refine Zc 6 Z (AA Z (call120 _) (KD _ _ _ _ _ sec _ d) H.f3 ?_);rintro _ w _ (⟨f,rfl,rfl⟩|⟨f,rfl,rfl⟩) u
 ·have H:=u.l4;refine Za 3 [] H Z ?_;intro b3 w H;refine Z4 16 [0] H Z ?_;intro w H;refine Ai Z (call121 _) (Eg 1 _ b (o+4) 248 (c-4) ((sec.drop 4).take 248) _ (λh q=>(d h q).cut (lo:=4) (m:=248) (c':=(c-4)) U U U) U U ((sec.drop 4).take 1) (by rw[Acq,Acm U]) (o+5) 247 (c-5) U U U) H.f2.f1 ?_;intro w H;replace H:=H.l5;refine k_updA 28 (v:=Aa p.kind) Z (congrArg Aa (by rw[a];exact OA hp)) (Za 1 [] H Z ?_);intro b4 w H;refine Z4 10 [0,0,0,0,0] H Z ?_;intro w H;refine Ak 33 Z (λs=>U) (λs=>?_)
  refine Z2 5 [0,0,0,0] H Z (Ak 38 Z (λx=>U) (λx=>?_));refine Zc 1 Z (Ai Z (call122 _) (C6 _ _) H ?_);intro w H;replace H:=H.l6;refine Ad Z (AW Z Z) (Zc 2 Z (Ak 43 Z (λh4=>U) (λh4=>?_)));refine Ai Z (call121 _) (Eg 4 _ b (o+5) 247 (c-5) ((sec.drop 5).take 247) _ (λh q=>(d h q).cut (lo:=5) (m:=247) (c':=(c-5)) U U U) U U ((sec.drop 5).take 4) (by rw[Acq,Acm U]) (o+9) 243 (c-9) U U U) H.f2.f2 ?_;intro w H;replace H:=H.l6;refine k_updA 44 (v:=Aa (n:Int)) Z (congrArg Aa (by rw[a];exact Zt hp t)) (Z0 4 [0] Z (Ak 48 Z (λj=>?_) (λj=>?_)))
  ·exact absurd Z j
  refine Ai Z (call121 _) (Eg 3 _ b (o+9) 243 (c-9) ((sec.drop 9).take 243) _ (λh q=>(d h q).cut (lo:=9) (m:=243) (c':=(c-9)) U U U) U U ((sec.drop 9).take 3) (by rw[Acq,Acm U]) (o+12) 240 (c-12) U U U) H ?_;intro w H;replace H:=H.l6;refine k_updA 49 (v:=Aa 0) Z (congrArg Aa (by rw[a];exact PJ hp)) (Z2 11 [4,0,0,0] H Z (AA Z (call118 _) (II _ _ 240 _ p.body _ ((λh q=>by have:=(d h q).cut (lo:=12) (m:=240) (c':=c-12) U U U;rw[a,OB hp] at this;exact this)) U) H.f1 ?_));rintro _ w _ ⟨g,i,rest,rfl,⟨cg,cc,cl⟩,rfl⟩ H;refine Z4 12 [1,3,3,2,6] H Z ?_;intro w H;refine Zl [6,2] H Z ?_;replace H:=(H.mono 0 (B:=grow 5 1 (.slice (some ⟨g,0,none⟩) 240 i) 240 (p.body.map u8)) Z (λh q=>q.grow U U (by simp[hp.2];omega) (by rw[AcD,AbR (by simp[hp.2])];exact AbJ (by simp[hp.2])))).l7;exact ⟨_,⟨_,Z,Z⟩,H.perm 7 [0,4,1] Z Z⟩
 exact absurd (a▸Zs hp) f
def Ln(D:Dsk)(S:List IE):Dsk:= {D with dur:=λi=>if (i:Int)∈S.map (λp:IE=>p.1) then D.cont i else D.dur i}
theorem IJ{es:List Ent}{e:Ent}(c:e∈es){h:Hp}(hs:seps (es.map Ent.row) h):rdH 1 e.v e.pvs.length e.pvs h:=by
 obtain ⟨i,b⟩:=Ack c;obtain ⟨h',d,a⟩:=DZ hs (i:=i) (A:=e.row) (by rw[AbY,b];rfl);exact (grow.rd d).le a
theorem Xf{D:Dsk}:Ln D []=D:=by simp[Ln]
theorem Xg{n k:Nat}{bs q:List UInt8}{b:Nat->List UInt8}(f:bs.length=n*256)(hq:q.length=256)(e:k<n)(d:∀i,i<n->(bs.drop (i*256)).take 256=b i):
  (bs.take (k*256)++q++bs.drop (k*256+256)).length=n*256/\∀i,i<n->((bs.take (k*256)++q++bs.drop (k*256+256)).drop (i*256)).take 256=if i=k then q else b i:=by
 have a:(bs.take (k*256)).length=k*256:=by rw[AbM];omega
 refine ⟨by simp only[AbH,Acc,a];omega,λi c=>?_⟩;rcases Adj i k with h|h|h
 ·rw[if_neg U,<-d i c,AbK,Ace (by rw[a];omega),AbR (by rw[Acc,a];omega),AdI,Acq,Acm U]
 ·subst h
  rw[if_pos Z,AbK,Aco,Ab6 U,Ab3,a,AeE,Ab1,AdK,AbJ U,hq];simp
 rw[if_neg U,<-d i c,Aco,Ab6 (by rw[AbH,a];omega),Ab3,AbH,a,hq,List.drop_drop];congr 2;omega
theorem TR{D:Dsk}{S:List IE}{bs:List UInt8}{es:List Ent}{clk:Nat}{hq:Hp}(e:D.Ok)(a:(Ln D S).In bs es clk hq){p:IE}{k:Nat}(hp:p.1=(k:Int))(c:k<D.n):(Ln D (S++[p])).In (bs.take (k*256)++D.cont k++bs.drop (k*256+256)) es clk hq:=by
 have b:=Xg (q:=D.cont k) a.len (Dsk.cont_len e c) c a.own;refine ⟨b.1,λi d=>?_,a.ent,a.all,a.nodup,a.born,a.clk⟩;rw[b.2 i d];show _=(if (i:Int)∈(S++[p]).map (λp:IE=>p.1) then D.cont i else D.dur i);show (if i=k then D.cont k else (if (i:Int)∈S.map (λp:IE=>p.1) then D.cont i else D.dur i))=_;simp only[Ab7,Aca,AcP,Acd,Acu,hp];by_cases h:i=k
 ·subst h;rw[if_pos Z,if_pos (.inr Z)]
 rw[if_neg h];have:¬((i:Int)=(k:Int)):=by omega
 simp only[this,or_false]
theorem Xh{D:Dsk}{S:List IE}{bs:List UInt8}{es:List Ent}{clk:Nat}{hq:Hp}(c:(Ln D S).In bs es clk hq)(m:B1 (es.map Ent.ie) (S.map λp:IE=>p.2.2)=[])(l:∀p∈S,p∈es.map Ent.ie):Dsk.In {D with dur:=D.cont,ver:=λ_=>[]} bs [] clk hq:=by
 have f:∀i,i<D.n->(Ln D S).dur i=D.cont i:=λi b=>by
  simp only[Ln];split
  ·rfl
  rename_i k;by_cases hv:D.ver i=[]
  ·exact (Jb hv).symm
  obtain ⟨e,a,u⟩:=c.all i b hv;exfalso;have r:e.ie∈es.map Ent.ie:=Acz a;by_cases q:e.born∈S.map λp:IE=>p.2.2
  ·obtain ⟨p,hp,o⟩:=AbP.1 q
   obtain ⟨s,g,rfl⟩:=AbP.1 (l p hp);obtain ⟨v,j⟩:=Ack a;obtain ⟨t,d⟩:=Ack g;have:=FJ c.born j d o.symm;subst this;rw[j] at d;cases d;exact k (AbP.2 ⟨_,hp,by show (e.key:Int)=i;omega⟩)
  have:e.ie∈B1 (es.map Ent.ie) (S.map λp:IE=>p.2.2):=by
   simp only[B1,Aei];exact ⟨r,by simpa [Ent.ie] using q⟩
  rw[m] at this;cases this
 exact ⟨c.len,λi b=>(c.own i b).trans (f i b),λe a=>(by cases a),λi b h=>absurd Z h,by simp,by simp,λe a=>(by cases a)⟩
theorem AaQ{D:Dsk}(g:D.Ok){f:Nat->List UInt8}(k:∀i,i<D.n->(f i).length=256){a b c e:Int}{d:Bool}(m:0<=a/\a<=1099511627776)(l:0<=b/\b<=1099511627776)(h:0<=c/\c<=1099511627776)(j:0<=e/\e<=1099511627776):Dsk.Ok ⟨D.n,f,λ_=>[],a,b,c,d,e⟩:=
 ⟨g.n1,g.n2,k,λi o p hp=>(by cases hp),m,l,h,j⟩
set_option maxHeartbeats 1000000 in
theorem G0 (pd:Nat) (D:Dsk):Aj 70 [V pd] [diskA pd D] (λv G=>((D.f3=1\/(D.cut=true/\D.left=0))/\v=Aa 12/\G=[diskA pd {D with f3:=AZ D.f3}])\/(¬(D.f3=1\/(D.cut=true/\D.left=0))/\v=Aa 0/\G=[diskA pd D.fl])):=by
 intro z R w H;replace H:=H.l1;obtain ⟨bd,m,f0,bs,es,clk,hq,c,o,H'⟩:=H.disk;clear H;have b7:=c.n1;have b4:=c.n2;have b5:=c.f3;have b8:=c.left;have H:=H'.l5;have a4:∀p∈es.map Ent.ie,p.2.2<clk:=λp hp=>by obtain ⟨e,he,rfl⟩:=AbP.1 hp;exact o.clk e he
 have a9:(es.map Ent.ie).map (λp:IE=>p.2.2)=es.map Ent.born:=by rw[Ac7];rfl
 have hn:((es.map Ent.ie).map λp:IE=>p.2.2).Nodup:=by rw[a9];exact o.born
 refine Ac func70 Z ntmps70 Z (Zc 9 Z (Ai Z (call117 _) (TG _ _ _ _ _ _ _ _ _ _ U) H ?_));intro w H;refine Zc 1 Z (Ak 7 Z (λh1=>?_) (λh1=>?_))
 ·refine Zc 12 Z (Zr Z ?_);replace H:=(Sep.toDisk (D:= {D with f3:=AZ D.f3}) (pd:=pd) (bd:=bd) (m:=m) (f0:=f0) (bs:=bs) (es:=es) (clk:=clk) (hq:=hq) (Γ:=R) H (c.f c.f1 c.f2 (ET c.f3) c.left) (o.f _ _ _ _ _)).l1
  exact ⟨_,.inl ⟨by simp_all,Z,Z⟩,H⟩
 refine Zc 1 Z (Ai Z (call124 _) (Rm _ _ _ _ _ _ _ _ _ _) H ?_);intro w H;refine Zc 3 Z (DP Z (λh2=>?_) (λh2=>?_))
 ·refine Zc 6 Z (Zr Z ?_);replace H:=(Sep.toDisk (D:= {D with f3:=AZ D.f3}) (pd:=pd) (bd:=bd) (m:=m) (f0:=f0) (bs:=bs) (es:=es) (clk:=clk) (hq:=hq) (Γ:=R) H (c.f c.f1 c.f2 (ET c.f3) c.left) (o.f _ _ _ _ _)).l1
  exact ⟨_,.inl ⟨by simp_all,Z,Z⟩,H⟩
 refine Z2 9 [1,0,0] H Z (AG Z (GW 2 (e:=107) H Z Z J Z) ?_);rintro _ w ⟨rr,rfl,H⟩;replace H:=H.l6;refine Zc 3 Z ?_;refine Ay (σ:=List IE×List UInt8) (λ⟨S,b⟩=>[(0,V pd),(2,Aa 0),(15,V rr)])
   (λ⟨S,b⟩ w=>Sep z (Gl rr m clk (S.map λp:IE=>p.2.2)::blk pd [.slice (some ⟨bd,0,none⟩) (D.n*256) (D.n*256),.map (some m),Aa f0,Aa D.f1,Aa D.f2,Aa (if D.f3=0 then 0 else D.f3-1),.bool D.cut,Aa D.left] 106::blk bd (b.map u8) 5::AE m (es.map Ent.ie) clk::poolA hq::seps (es.map Ent.row)::R) w/\((∀p∈S,p∈es.map Ent.ie)/\(Ln D S).In b es clk hq)) (λ⟨S,b⟩=>(B1 (es.map Ent.ie) (S.map λp:IE=>p.2.2)).length) ⟨[],bs⟩
   (λ_ hF=>(hF.all Z)) ⟨H,λp hp=>absurd hp O,by rw[Xf];exact o⟩ ?_
 clear H;rintro ⟨S,b⟩ w ⟨H',hI⟩;dsimp only at hI H' ⊢;have H:=H'.l6;obtain ⟨hS,l⟩:=hI;refine Zc 2 Z (AG Z (Ie 0 3 H Z Z Z Z a4) ?_);rintro _ w ⟨qx,rfl,y,H⟩;replace H:=H.l6;refine Ad Z (J4 Z Z) (Zc 3 Z (DP Z (λh3=>?_) (λh3=>?_)))
 ·obtain ⟨p1,rfl⟩:=Acp.1 h3;refine Zc 5 Z ?_;obtain ⟨⟨g,ve,a,ps,bo⟩,d,rfl⟩:=AbP.1 (CH y).1;obtain ⟨a3,u,s,a8,a5⟩:=l.ent _ d;obtain ⟨ao,cc,a1⟩:=H.sy 5 (λq=>(IJ d q).slc);dsimp only at a1 a3 u s a8 a5
  subst a1;have a2:=H.rv 5 (λq=>IJ d q);have b0:=H.sy 5 (λq=>(IJ d q).small);dsimp only at b0;have b3:0<a.length:=by rw[s];exact List.length_pos_iff.2 a8
  have a7:g<D.n:=a3;obtain ⟨pv,t⟩:∃pv,a[a.length-1]?=some pv:=⟨_,AbF U⟩;obtain ⟨p,hp⟩:∃p,ps[a.length-1]?=some p:=⟨_,AbF U⟩;have b1:D.cont g=p:=Le (n:=a.length) (by rw[s,u];rfl) (by rw[show D.ver g=ps from u.symm];exact hp);obtain ⟨x,a0⟩:=a5 _ _ _ t hp;have b2:=a2.at t;refine Ad Z (GX (p:=(Ent.ie ⟨g,.slice ao a.length cc,a,ps,bo⟩)) Z Z (AB ⟨H.bk 0 Z,H.bk 3 Z⟩) (Acz d) hn) (Zc 6 Z (AK (Sep z (Gl rr m clk (I0 (S.map λp:IE=>p.2.2) (some (Ent.ie ⟨g,.slice ao a.length cc,a,ps,bo⟩)))::blk pd [.slice (some ⟨bd,0,none⟩) (D.n*256) (D.n*256),.map (some m),Aa f0,Aa D.f1,Aa D.f2,Aa (if D.f3=0 then 0 else D.f3-1),.bool D.cut,Aa D.left] 106::blk bd (b.map u8) 5::AE m (es.map Ent.ie) clk::poolA hq::seps (es.map Ent.row)::R)) 10 Z J (A4 H λw H'=>?_)));have H:=H'.l6;refine A6 [0,1,3,4] [] J (λ_ _=>AJ) (by exact H.pick 6 [0,1,2,3,4,5] Z) Z J Z Z (AR 5 J Z Z J J J Z Z Z (EC Z (z:=1) J Z) (H.pick 6 [0,1,2,3,4,5] Z) (AR 6 J Z Z J J J Z Z Z (Km Z Z Z (r:=((a.length-1:Nat):Int)) U U) (H.pick 6 [0,1,2,3,4,5] Z) (AR 7 J Z Z J J J Z Z Z (Az Z (z:=1) (j:=(a.length-1)) (r:=(a.length-1)) J Z Z Z U b2 U) (H.pick 6 [0,1,2,3,4,5] Z) (AR 8 J Z Z J J J Z Z Z (AM Z Z J (λ_ hx=>(hx.rv 5 (λq=>IJ d q)).at t)) (H.pick 6 [0,1,2,3,4,5] Z) (An [2] J O (Ar (Ba Z Z Z Z Z Z (λw=>call72 _ w) (V5 _ _ _ _ _ _ _ _ _ _ g U U) H.f1 Z ?_)))))));rintro _ w _ ⟨rfl,rfl⟩ H;replace H:=H.l6;refine Am (λ_=>(H.pick 6 [1,0,2,3,4,5] Z)) (An [9] J O (Ar (Ck Z Z Z Z (HU 2 H Z Z J Z Z (m:=256) (news:=(p.map u8)) (.inl (H.rv 4 (λq=>a0.le q))) (by simp[u8,Value.oneCell']) (by have:=l.len;simp;omega) (k:=256) U (out:=((b.take (g*256)++p++b.drop (g*256+256)).map u8)) (by simp[x,AbJ])) ?_)));rintro _ w ⟨rfl,H⟩;replace H:=H.l6;refine Am (λh=>absurd Z h) (AT J (gn (Zc 1 Z ?_)));replace H:=H.f5.f5.f5.f5.f4.f5;refine gf ?_;intro _ hF;refine ⟨⟨S++[(Ent.ie ⟨g,.slice ao a.length cc,a,ps,bo⟩)],(b.take (g*256)++p++b.drop (g*256+256))⟩,(hF.all Z),⟨(by dsimp only;rw[Ab7];exact H),?_⟩,?_⟩
  ·refine ⟨λp hp=>?_,?_⟩
   ·rcases Acd.1 hp with hp|hp
    ·exact hS p hp
    simp at hp;subst hp;exact Acz d
   have:=TR c l (p:=(Ent.ie ⟨g,.slice ao a.length cc,a,ps,bo⟩)) (k:=g) Z a7;rwa[b1] at this
  (dsimp only;have:=Ef y;rwa[show (S++[(Ent.ie ⟨g,.slice ao a.length cc,a,ps,bo⟩)]).map (λp:IE=>p.2.2)=(S.map λp:IE=>p.2.2)++[bo] from by simp[Ent.ie]])
 obtain rfl:qx=none:=by simpa using h3
 refine Zc 2 Z (gx (Zc 3 Z ?_));have a6:=Xh l y hS;refine Z2 5 [1,1,0] H Z (JR Z Z (IG 3 (e:=107) H Z Z J Z) ?_);rintro _ w ⟨rfl,H⟩;replace H:=H.l6;refine Z3 10 [7,1,0] [D.left-1] H Z U (Ad Z (VQ Z Z Z) (Z4 11 [7,1] H Z ?_));intro w H;refine Zr Z ?_;replace H:=(H.mono 5 (B:=seps (([]:List Ent).map Ent.row)) Z (λh q=>⟨λ_=>0,λi A hi=>by simp at hi⟩)).l6;replace H:=H.f5.f5.f5.f5.f5;replace H:=(Sep.toDisk (D:=D.fl) (pd:=pd) (bd:=bd) (m:=m) (f0:=f0) (bs:=b) (es:=([]:List Ent)) (clk:=clk) (hq:=hq) (Γ:=Gl rr m clk (I0 (S.map λp:IE=>p.2.2) none)::R) H (AaQ c (λi hi=>Dsk.cont_len c hi) c.f1 c.f2 (ET c.f3) U) (a6.f _ _ _ _ _)).l2;exact ⟨_,.inr ⟨by simp_all,Z,Z⟩,H.perm 2 [0] Z Z⟩
def wr1(D:Dsk)(fua:Bool)(i:Nat)(p:List UInt8):Dsk:= {Dsk.ws {D with f2:=AZ D.f2} fua i [p] with left:=max 0 (D.left-1)}
theorem Jm(pd b off c:Nat)(D:Dsk)(x:Int)(a:Bool)(p:List UInt8)(A:Ah)(hp:p.length=256)(j:∀h,A h->rdH 1 (.slice (some ⟨b,off,none⟩) 256 c) 256 (p.map u8) h)(d:∀i,(D.ver i).length<=1099511627776)(f:0<=x/\x+1<=(D.n:Int)):
  Aj 134 [V pd,Aa x,.slice (some ⟨b,off,none⟩) 256 c,.bool a] [diskA pd D,A] (λv G=>(D.bad/\v=Aa 11/\G=[diskA pd D.wf,A])\/(¬D.bad/\v=Aa 0/\G=[diskA pd (wr1 D a x.toNat p),A])):=by
 have h:=Oz pd b off c D x a [p] A (by simpa using hp) O d (λh q=>by simpa using j h q);refine Cn.mono h ?_;have e:0<=x/\x+(([p]:List (List UInt8)).length:Int)<=(D.n:Int):=by simpa using f
 rintro v Γ (⟨g,_⟩|⟨_,g,rfl,rfl⟩|⟨_,g,rfl,rfl⟩)
 ·exact absurd e g
 ·exact .inl ⟨g,Z,Z⟩
 exact .inr ⟨λh=>by rcases h with h|h;exact g.1 h;exact g.2 h,Z,Z⟩
theorem G3(pd:Nat)(D:Dsk):Aj 127 [V pd] [diskA pd D] (λv G=>v=Aa (D.n:Int)/\G=[diskA pd D]):=by
 refine Cn.mono (Cn.onDisk (post:=λv Γ=>v=Aa (D.n:Int)/\Γ=[]) (pre:=[]) (λb bd m f0=>?_)) ?_
 ·have a:=b.n2
  refine Cn.mono (J5 pd bd m (D.n*256) f0 D.f1 D.f2 D.f3 D.left D.cut U) ?_;rintro v Γ ⟨rfl,rfl⟩;exact ⟨[],⟨congrArg Aa U,Z⟩,Z⟩
 rintro v Γ ⟨Γ',⟨rfl,rfl⟩,rfl⟩;exact ⟨Z,Z⟩
theorem ML(pd pt:Nat)(D:Dsk)(s:Sup)(b:s.Ok (D.n:Int))(d:∀i,(D.ver i).length<=1099511627776):Aj 135 [V pd,V pt,.agg #[Aa s.gen,Aa s.epoch,Aa s.pages,Aa s.start,Aa s.len,Aa s.head,Aa s.seq]] [diskA pd D,tblA pt] (λv G=>(D.bad/\v=Aa 11/\G=[diskA pd D.wf,tblA pt])\/(¬D.bad/\v=Aa 0/\G=[diskA pd (EV D s),tblA pt])):=by
 intro z R w H;have m:=H.sy 0 (λq=>(diskA.ok q).n1);have j:=H.sy 0 (λq=>(diskA.ok q).n2);have l:=Sup.get b;have f:=b.2;refine Ac func135 Z ntmps135 Z (Za 2 [] H Z ?_);intro p w H;refine Zc 5 Z (Bd (Sep z _) J J H.drew (JP 9 [0,7] [] Z J (Dh Z Z Z Z Z (λw=>call127 _ w) (v:=Aa (D.n:Int)) (cq (G3 _ _) (by rintro _ _ ⟨rfl,rfl⟩;exact ⟨Z,Z⟩) 2 [1,0] [1,0] Z Z Z Z) (Dh Z Z Z Z Z (λw=>call129 _ w) (v:=Aa (if s.Ok (D.n:Int) then 0 else 1)) (cq (GY _ _ U) (by rintro _ _ ⟨rfl,rfl⟩;exact ⟨Z,Z⟩) 0 [] [] Z Z Z Z) (Cm 2 [] Z J (Bu (λw e=>?_)))))));have H:=e.l3;refine gn (Zc 1 Z (Ag Z (λg=>?_) (λg=>?_)))
 ·exact absurd (if_pos b) g
 refine Z2 6 [0,7] H Z (AA Z (call182 _) (PK _ _ (λx k=>b.1 x k)) H.f2 ?_);rintro _ w _ ⟨o,rfl,rfl⟩ H;refine Z3 24 [4,0,2,0] [s.gen%2] H Z U (AA Z (call134 _) (Jm _ _ _ _ _ _ _ (BC s) _ (DL s) (λh q=>HY (lo:=0) (n:=256) (c:=256) (ys:=BC s) q (DL s) U U U (by rw[Ab1];exact AbJ (AcO (DL s)))) d U) H.f3 ?_);rintro _ w _ (⟨a,rfl,rfl⟩|⟨a,rfl,rfl⟩) e
 ·have H:=e.l4;refine Zc 4 Z (Zr Z ?_);exact ⟨_,.inl ⟨a,Z,Z⟩,H.perm 4 [0,2] Z Z⟩
 have H:=e.l4;refine Zc 4 Z (Zr Z ?_);exact ⟨_,.inr ⟨a,Z,Z⟩,H.perm 4 [0,2] Z Z⟩
set_option maxHeartbeats 1000000 in
theorem Zu (pd pt:Nat) (D:Dsk) (d:D.f1=0) (x c b:Sup) (f:c.Ok (D.n:Int)) (g:b.Ok (D.n:Int)) (g0:c.gen%2=0) (g1:b.gen%2=1) (c0:D.cont 0=BC c) (c1:D.cont 1=BC b) (a:x=if c.gen<b.gen then b else c):Aj 74 [V pd,V pt] [diskA pd D,tblA pt] (λv G=>v=.tuple #[.agg #[Aa x.gen,Aa x.epoch,Aa x.pages,Aa x.start,Aa x.len,Aa x.head,Aa x.seq],Aa 0]/\G=[diskA pd D,tblA pt]):=by
 intro z R w H;have a2:=H.sy 0 (λq=>(diskA.ok q).n1);have a1:=H.sy 0 (λq=>(diskA.ok q).n2);have a6:=Sup.get f;have a3:=Sup.get g;have a4:=f.2;have a5:=g.2;refine Ac func74 Z ntmps74 Z (Za 2 [] H Z ?_);intro b1 w H;refine Zc 14 Z (Ai Z (call127 _) (G3 _ _) H.f1 ?_);intro w H;refine Z0 4 [0] Z (Ag Z (λh1=>U) (λh1=>?_));refine Za 4 [] H Z ?_;intro b2 w H;refine Zc 14 Z (Jk 3 (EW (Z0 21 [3] Z (AA Z (call65 _) (Ig _ _ _) H.f1 ?_))));rintro _ w _ (⟨a,_,_⟩|⟨_,a,_,_⟩|⟨_,_,g0,k,l,rfl,⟨r,s,p⟩,rfl⟩) e
 ·exact absurd ⟨by omega,by omega⟩ a
 ·(rw[d] at a;cases a)
 rw[diskA.f1 d] at e;have H:=e.l5;refine Z5 25 [4,2,1,0,0,2] [1] H Z U ?_;intro w H;refine gf (EW (Z0 21 [3] Z (AA Z (call65 _) (Ig _ _ _) H.f1 ?_)));rintro _ w _ (⟨a,_,_⟩|⟨_,a,_,_⟩|⟨_,_,g1,i,o,rfl,⟨t,y,a0⟩,rfl⟩) e
 ·exact absurd ⟨by omega,by omega⟩ a
 ·(rw[d] at a;cases a)
 rw[diskA.f1 d] at e;have H:=e.l6;refine Z5 25 [4,2,1,1,1,3] [2] H Z U ?_;intro w H;refine gf (EW (Z0 9 [4] Z (gx (Zc 13 Z (Ad Z (AX Z Z (out:=[Aa (-1),Aa 0,Aa 0,Aa 0,Aa 0,Aa 0,Aa 0]) J) (Za 0 [] H Z ?_))))));intro b3 w H;refine Z4 11 [0,4,2] H Z ?_;intro w H;refine Jk 3 (EW (Z0 14 [3] Z (Ad Z (EM (m:=2) Z J Z Z Z (j:=0) Z (u:=.slice (some ⟨g0,0,none⟩) 256 k) Z) (Zc 8 Z (Ai Z (call128 _) (J8 _ _ _ _ (D.cont (0:Int).toNat) _ (λh q=>Ed q (by rw[show D.cont (0:Int).toNat=BC c from c0];exact DL _) ⟨r,s,p⟩) c f.1 c0) H.f3.f6 ?_)))));intro w H;refine Za 3 [] H Z ?_;intro b4 w H;refine Z4 5 [0] H Z ?_;intro w H;refine Bd (Sep z _) J J H.drew (JP 4 [0,7] [] Z J (Dh Z Z Z Z Z (λw=>call127 _ w) (v:=Aa (D.n:Int)) (cq (G3 _ _) (by rintro _ _ ⟨rfl,rfl⟩;exact ⟨Z,Z⟩) 6 [5,0,1,2,3,4] [1,2,3,4,5,0] Z Z Z Z) (Dh Z Z Z Z Z (λw=>call129 _ w) (v:=Aa (if c.Ok (D.n:Int) then 0 else 1)) (cq (GY _ _ U) (by rintro _ _ ⟨rfl,rfl⟩;exact ⟨Z,Z⟩) 0 [] [] Z Z Z Z) (Cm 3 [] Z J (CE 68 Z (λh2=>?_) (λh2=>?_))))))
 ·refine FT 7 [0,0,0,0] [c.gen%2] Z J U (CE 75 Z (λh3=>?_) (λh3=>?_))
  ·refine E7 6 [0,0,0,1] (λ_ a=>(AQ (a.blk 0 Z) (AQ (a.blk 3 Z) AJ))) Z J Z (Bu (λw e=>?_));have H:=e.l8;refine gn (Zc 1 Z (Ag Z (λh4=>?_) (λh4=>?_)))
   ·refine Z5 10 [0,7,3] [1] H Z U ?_;intro w H;refine gf (EW (Z0 14 [3] Z (Ad Z (EM (m:=2) Z J Z Z Z (j:=1) Z (u:=.slice (some ⟨g1,0,none⟩) 256 i) Z) (Zc 8 Z (Ai Z (call128 _) (J8 _ _ _ _ (D.cont (1:Int).toNat) _ (λh q=>Ed q (by rw[show D.cont (1:Int).toNat=BC b from c1];exact DL _) ⟨t,y,a0⟩) b g.1 c1) H.f4.f2 ?_)))));intro w H;refine Za 3 [] H Z ?_;intro b5 w H;refine Z4 5 [0] H Z ?_;intro w H;refine Bd (Sep z _) J J H.drew (JP 4 [0,7] [] Z J (Dh Z Z Z Z Z (λw=>call127 _ w) (v:=Aa (D.n:Int)) (cq (G3 _ _) (by rintro _ _ ⟨rfl,rfl⟩;exact ⟨Z,Z⟩) 7 [6,0,1,2,3,4,5] [1,2,3,4,5,6,0] Z Z Z Z) (Dh Z Z Z Z Z (λw=>call129 _ w) (v:=Aa (if b.Ok (D.n:Int) then 0 else 1)) (cq (GY _ _ U) (by rintro _ _ ⟨rfl,rfl⟩;exact ⟨Z,Z⟩) 0 [] [] Z Z Z Z) (Cm 3 [] Z J (CE 68 Z (λh5=>?_) (λh5=>?_))))))
    ·refine FT 7 [0,0,0,0] [b.gen%2] Z J U (CE 75 Z (λh6=>?_) (λh6=>?_))
     ·refine E7 6 [0,0,0,1] (λ_ a=>(AQ (a.blk 0 Z) (AQ (a.blk 5 Z) AJ))) Z J Z (Bu (λw e=>?_));have H:=e.l9;refine gn (Zc 1 Z (Ag Z (λh7=>?_) (λh7=>?_)))
      ·refine Z5 10 [0,7,5] [2] H Z U ?_;intro w H;refine gf (EW (Z0 9 [4] Z (gx (Z2 10 [0,5,0,0] H Z (Ag Z (λh8=>U) (λh8=>?_))))))
       refine Z4 10 [5,7,8] H Z ?_;intro w H;refine Zl [8,7] H Z ?_;obtain rfl:x=b:=by rw[a];first|exact if_pos U|exact if_neg U
       exact ⟨_,⟨rfl,rfl⟩,H.perm 9 [6,1] rfl rfl⟩
      refine Z1 7 [] [2] Z U (gf (EW (Z0 9 [4] Z (gx (Z2 10 [0,5,0,0] H Z (Ag Z (λh9=>U) (λh9=>?_)))))));refine Z4 10 [5,7,8] H Z ?_;intro w H;refine Zl [8,7] H Z ?_;obtain rfl:x=c:=by rw[a];first|exact if_pos U|exact if_neg U
      exact ⟨_,⟨rfl,rfl⟩,H.perm 9 [6,1] rfl rfl⟩
     (exfalso;omega)
    exact absurd (if_pos g) h5
   (exfalso;omega)
  (exfalso;omega)
 exact absurd (if_pos f) h2
theorem TS(g m clk:Nat)(l:List IE)(f:∀p∈l,p.2.2<clk)(n:(l.map λp:IE=>p.2.2).Nodup):V3 prog 207 [V g] [blk g [.map (some m)] 95,AE m l clk] (Zq l) [] (PH l):=by
 intro z k J_ o w a;have H:=a.l2;refine Jj (args:=[.func (.yield k) #[] #[],V g]) func207 Z Z 14 ntmps207 Z ?_;refine Cz ?_;refine BR ?_;refine s_do Z Z Z (AY Z Z J (AB (H.cel 0 Z 0 Z))) ?_;refine EF Z Z Z (GW 1 (e:=40) H Z Z J Z) ?_;rintro _ w ⟨i,rfl,a⟩;have H:=a.l3;refine AP ?_;refine DM ?_;refine Kz (σ:=List IE) (λs=>[(0,.func (.yield k) #[] #[]),(5,V i)])
  (λs w=>Sep z (Gl i m clk (s.map λp:IE=>p.2.2)::blk g [.map (some m)] 95::AE m l clk::J_ s) w/\(True)) (λs=>(B1 l (s.map λp:IE=>p.2.2)).length) ([])
  (λ_ d=>(d.all Z)) ⟨H,trivial⟩ ?_
 clear H;rintro s w ⟨a,q⟩;have H:=a.l3;refine Cz ?_;refine BR ?_;refine EF Z Z Z (Ie 0 2 H Z Z Z Z f) ?_;rintro _ w ⟨j,rfl,b,a⟩;have H:=a.l3;refine s_do Z Z Z (J4 Z Z) ?_;refine AP ?_;refine Cz ?_;refine IF Z (λh=>?_) (λh=>?_)
 ·-- yes:j.isSome
  obtain ⟨c,rfl⟩:=Acp.1 h;refine F8 ?_;refine DM ?_;refine Cz ?_;refine BR ?_;refine s_do Z Z Z (GX (p:=c) Z Z (AB ⟨H.bk 0 Z,H.bk 2 Z⟩) (CH b).1 n) ?_;refine s_do Z Z Z (ER Z Z Z) ?_;refine s_do Z Z Z (AS Z Z) ?_;refine AP ?_;refine Cz ?_;refine Ji ?_;refine D5 Z Z Z (CX Z Z) ?_;refine D5 Z Z Z (CX Z Z) ?_;replace H:=H.f2.f2;refine KB Z Z Z Z Z Z (o s _ (s++[c]) [Gl i m clk ((s.map λp:IE=>p.2.2)++[c.2.2])] ⟨c,b,Z,Z⟩ _ H) ?_;rintro _ w ⟨rfl,a⟩;refine ⟨_,Z,?_⟩;have H:=a.l3;refine D5 Z Z Z (JL Z Z) ?_;refine PB ?_;refine Hz Z ?_;refine F8 ?_;replace H:=H.f1.f1.f2;intro _ d;refine ⟨(s++[c]),(d.all Z),⟨(by rw[Ab7];exact H),?_⟩,?_⟩
  ·trivial
  (have:=Ef b;rwa[show (s++[c]).map (λp:IE=>p.2.2)=(s.map λp:IE=>p.2.2)++[c.2.2] from by simp])
 -- no:j.isSome
 obtain rfl:j=none:=by simpa using h
 refine Ky ?_;refine HP ?_;exact λ_ d=>⟨d.defers,s,b,H.perm 3 [1,2] Z Z⟩
theorem MM(f m clk:Nat)(l:List IE)(k:∀p∈l,p.2.2<clk)(r:(l.map λp:IE=>p.2.2).Nodup)(a0:l.length<=1099511627776):Aj 214 [.slice none 0 0,.func (.func 207) #[] #[V f]] [blk f [.map (some m)] 95,AE m l clk] (λv G=>∃s:List IE,s.Perm l/\G=[blk f [.map (some m)] 95,AE m l clk,grow 3 1 v s.length (kC s)]):=by
 intro z R w b;have H:=b.l2;refine Mx func214 Z 13 ntmps214 Z (AV (AI (EF Z Z Z (FE H Z Z (cs:=[.slice none 0 0]) Z) ?_)));rintro _ w ⟨q,rfl,b⟩;have H:=b.l3;refine BQ 1 Z Z (AP (AV (AV (AI (BQ 1 Z Z (AP (Fm ?_)))))));have b:=H.nilg 3 1;have H:=b.l4;replace H:=H.f1;have b:=H.toVec (l:=l) (s:=[]) O O;have H:=b.l3;replace H:=H.f2.f2;have b:=Sep.swap (As:=[blk f [.map (some m)] 95,AE m l clk]) (Bs:=(vecA q l []::R)) H;clear H;refine TD (λs=>(vecA q l s::R)) Z (λu w=>call207 u w) Z (TS f m clk l k r) b ?_ ?_
 ·rintro ro s v s2 ⟨p,hp,rfl,rfl⟩ w;refine BR (BQ 1 Z Z (AP ?_));refine λa hF=>⟨Z,λF w b=>?_⟩
  revert a hF;have H:=b.l1;obtain ⟨c,g,b⟩:=H.vec;clear H;have H:=b.l2;have x:=J7 c;refine DM (BR (Gk 2 [0] (AQ (H.blk 0 Z) AJ) Z J Z (EF Z Z Z (AL H Z J (Elt.mk (P:=prog) (e:=3) (z:=Aa 0) (sz:=1) (by_:=8) J Z U U) Z (by decide) (by decide) (out:=[Aa p.1]) J) ?_)));rintro _ w ⟨t,rfl,b⟩;have H:=b.l3;refine EF Z Z Z (AO 2 H Z Z J (Elt.mk (P:=prog) (e:=3) (z:=Aa 0) (sz:=1) (by_:=8) J Z U U) Z Z (H.rv 0 (·.rd U U O Z)) (by simp[Value.oneCell']) U) ?_;rintro y w b;have b:Sep z (blk t [Aa p.1] 3::blk q [g] 22::grow 3 1 y (s.length+1) (kC s++[Aa p.1])::(R++F)) w:=b;have o:(kC s++[Aa p.1]:List Value)=kC (s++[p]):=Xc s p;rw[o] at b;rw[show (s.length+1:Nat)=(s++[p]).length from by simp] at b;have H:=b.l3;have i:=H.sy 2 (·.slc);refine FC Z Z (Po 1 H Z Z Z Z i.cells i.one J) ?_;rintro w b;have H:=b.l3;refine AP ?_;replace H:=H.d;have j:=FG c hp;exact λ_ _=>H.toVec j.1 j.2
 rintro D0 w s h b;have H:=b.l2;replace H:=H.f1;obtain ⟨c,g,b⟩:=H.vec;clear H;have H:=b.l3;refine AV (AI (Gk 2 [0] (AQ (H.blk 0 Z) AJ) Z J Z (AP (EA ?_))));replace H:=H.f2;refine Mz H (rs:=[.tmp 4]) Z [g] (λ_=>⟨Z,trivial⟩) (v:=g) Z (λw b=>?_);clear H;have H:=b.l2;have b:=Sep.swap (As:=grow 3 1 g s.length (kC s)::R) (Bs:=[blk f [.map (some m)] 95,AE m l clk]) (H.pick 2 [1] Z);exact ⟨[blk f [.map (some m)] 95,AE m l clk,grow 3 1 g s.length (kC s)],⟨s,GN r c h,Z⟩,b⟩
theorem OC(m:Nat):Aj 166 [.map (some m)] [] (λv G=>∃a,v=.func (.func 207) #[] #[V a]/\G=[blk a [.map (some m)] 95]):=by
 intro z R w H;refine Ac func166 Z ntmps166 Z (Za 2 [] H Z ?_);intro b w H;refine Zc 5 Z (Ad Z (FZ Z Z Z) (Zc 4 Z (Zr Z ?_)));exact ⟨_,⟨b,Z,Z⟩,H⟩
theorem PL(b m clk:Nat)(l:List IE)(a:∀p∈l,p.2.2<clk)(e:(l.map λp:IE=>p.2.2).Nodup)(c:l.length<=1099511627776):Aj 172 [.func (.func 207) #[] #[V b]] [blk b [.map (some m)] 95,AE m l clk] (λv G=>∃s:List IE,s.Perm l/\G=[blk b [.map (some m)] 95,AE m l clk,grow 3 1 v s.length (kC s)]):=by
 intro z R w H;refine Ac func172 Z ntmps172 Z (Zc 8 Z (AA Z (call214 _) (MM _ _ _ _ a e c) H ?_));rintro f w _ ⟨s,hs,rfl⟩ H;refine Zc 4 Z (Zr Z ?_);exact ⟨_,⟨s,hs,Z⟩,H⟩
theorem Lo(b m clk:Nat)(l:List IE)(a:∀p∈l,p.2.2<clk)(f:(l.map λp:IE=>p.2.2).Nodup)(d:l.length<=1099511627776):Aj 125 [.func (.func 207) #[] #[V b]] [blk b [.map (some m)] 95,AE m l clk] (λv G=>∃s:List IE,s.Perm l/\G=[grow 3 1 v ((s.map λp:IE=>p.1).mergeSort (λx y=>decide (x<=y))).length (((s.map λp:IE=>p.1).mergeSort (λx y=>decide (x<=y))).map Aa),blk b [.map (some m)] 95,AE m l clk]):=by
 intro z R w H;refine Ac func125 Z ntmps125 Z (Zc 8 Z (AA Z (call172 _) (PL _ _ _ _ a f d) H ?_));rintro g w _ ⟨s,hs,rfl⟩ H;refine Zc 6 Z ?_;have c:(s.map λp:IE=>p.1).length=s.length:=by simp
 have i:=hs.length_eq;replace H:=(H.mono 2 (B:=grow 3 1 g (s.map λp:IE=>p.1).length ((s.map λp:IE=>p.1).map Aa)) Z (λh q=>by rw[c,Ac7];exact q)).l3;refine AA Z (call101 _) (Rx _ _ U) H.f2 ?_;rintro _ w _ ⟨rfl,ys,rfl,rfl⟩ H;refine Zc 9 Z (Zr Z ?_);exact ⟨_,⟨s,hs,Z⟩,H⟩
def EN(f:A0)(ks:List Int):Prop:=ks.Pairwise (· < ·)/\∀k:Int,k∈ks↔0<=k/\(f k.toNat).isSome=true
def pgLst(f:A0)(ks:List Int):List (Nat×Pg):=ks.map λk=>(k.toNat,(f k.toNat).getD C5)
theorem D6{f:A0}{a:List Int}(h:EN f a)(n:Nat)(p:Pg):(n,p)∈pgLst f a↔f n=some p:=by
 unfold pgLst;rw[AbP];constructor
 ·rintro ⟨k,b,e⟩
  obtain ⟨i,c⟩:=(h.2 k).1 b;obtain ⟨q,hq⟩:=Acp.1 c;rw[hq] at e;simp only[AeG,Aer] at e;obtain ⟨g,d⟩:=e;rw[<-g,hq,d]
 intro e;refine ⟨(n:Int),(h.2 _).2 ⟨by omega,by rw[Acg,e];rfl⟩,?_⟩;rw[Acg,e];rfl
theorem Ev{f:A0}{c:List Int}(h:EN f c):((pgLst f c).map Prod.fst).Nodup:=by
 unfold pgLst;rw[Ac7];refine AcR.2 (List.Pairwise.imp_of_mem ?_ h.1);intro a b e d g;have j:=((h.2 a).1 e).1;have i:=((h.2 b).1 d).1;simp only[AdR];omega
theorem TT{f:A0}{a:List Int}{j n:Nat}{p:Pg}(b:a[j]?=some (n:Int))(c:f n=some p):(pgLst f a)[j]?=some (n,p):=by
 unfold pgLst;rw[AbY,b];simp[c]
theorem Xi{D:Dsk}{l:List (Nat×Pg)}{j n:Nat}{p:Pg}(h:l[j]?=some (n,p)):wr1 (hwD D (l.take j)) false ((2:Int)+(n:Int)).toNat (DF n p)=hwD D (l.take (j+1)):=by
 rw[AbZ,h];show _=hwD D (l.take j++[(n,p)]);rw[TB,show ((2:Int)+(n:Int)).toNat=2+n from by omega];rfl
def Dsk.flb(D:Dsk):Prop:=D.f3=1\/(D.cut=true/\D.left=0)
def KE(D:Dsk)(l:List (Nat×Pg))(c:Int)(D2:Dsk):Prop:=
 (∃j,(hwD D (l.take j)).bad/\c=11/\D2=(hwD D (l.take j)).wf)\/((hwD D l).flb/\c=12/\D2= {hwD D l with f3:=AZ (hwD D l).f3})\/((hwD D l).fl.bad/\c=11/\D2=(hwD D l).fl.wf)
theorem PgsIn.small{f:A0}{es:List PgE}{clk:Nat}{hq:Hp}(h:PgsIn f es clk hq)(a:∀n,(f n).isSome=true->n<1024):es.length<=1024:=by
 have:=GZ (s:=es.map PgE.n) (l:=List.range 1024) h.nodup (λk b=>by
  obtain ⟨e,c,rfl⟩:=AbP.1 b;exact AcL.2 (a _ (by rw[(h.ent e c).1];rfl)))
 simpa using this
theorem TU(ps pd pt md:Nat)(x:Sup)(k l:Value)(j:Bool)(f:A0)(hq:Hp)(c:∀n,(f n).isSome=true->n<1024):Aj 132 [V ps] [stB ps pd pt x k md j l,pgsA md f hq] (λv G=>(∃b:List Int,EN f b/\G=[grow 3 1 v b.length (b.map Aa),stB ps pd pt x k md j l,pgsA md f hq])):=by
 intro z R w H;replace H:=H.l2;obtain ⟨es,clk,a,H⟩:=H.pgs 1 Z;replace H:=H.l2;have g:es.length<=1099511627776:=by have:=a.small c;omega
 refine Ac func132 Z ntmps132 Z (Z2 11 [10,0,0] H Z (AA Z (call166 _) (OC _) H ?_));rintro _ w _ ⟨o,rfl,rfl⟩ H;replace H:=H.l3;have d:∀h:IE->Nat,(es.map PgE.ie).map h=es.map λe=>h e.ie:=λh=>by simp
 refine AA Z (call125 _) (Lo _ _ _ _ (λp hp=>by obtain ⟨e,m,rfl⟩:=AbP.1 hp;exact a.clk e m) (by rw[d];exact a.born) (by simp;exact g)) H.f2.f1 ?_;rintro q w _ ⟨s,hs,rfl⟩ H;replace H:=H.l4;have i:EN f ((s.map λp:IE=>p.1).mergeSort (λx y=>decide (x<=y))):=a.keys hs;refine Zc 4 Z (Zr Z ?_);replace H:=(H.toPgs 2 Z a).l4;exact ⟨_,⟨_,i,Z⟩,H.perm 4 [0,3,2] Z Z⟩
set_option maxHeartbeats 2000000 in
theorem TV (ps pd pt md:Nat) (x:Sup) (t mo:Value) (un:Bool) (f:A0) (hq:Hp) (y:Sup) (D:Dsk) (a3:∀n,(f n).isSome=true->n<1024) (a8:∀n,(f n).isSome=true->2+n<D.n) (a6:y.Ok (D.n:Int)) (a4:∀i,(D.ver i).length<=1000000000000):Aj 76 [V ps,.agg #[Aa y.gen,Aa y.epoch,Aa y.pages,Aa y.start,Aa y.len,Aa y.head,Aa y.seq]] [stB ps pd pt x t md un mo,tblA pt,diskA pd D,pgsA md f hq,poolA hq] (λv G=>∃a:List Int,EN f a/\((v=Aa 0/\G=[stB ps pd pt y t md un mo,tblA pt,diskA pd (EV (hwD D (pgLst f a)).fl y),pgsA md CD hq,poolA hq])\/(∃(c:Int) (D2:Dsk),c≠0/\KE D (pgLst f a) c D2/\v=Aa c/\G=[stB ps pd pt x t md un mo,tblA pt,diskA pd D2,pgsA md f hq,poolA hq]))):=by
 intro z R w H;refine Ac func76 Z ntmps76 Z (Za 2 [] H Z ?_);intro b1 w H;refine Zc 7 Z (AA Z (call132 _) (TU _ _ _ _ _ _ _ _ _ _ a3) H.f4.f2 ?_);rintro v3 w _ ⟨a,l,rfl⟩ H;have b2:=H.sy 0 (·.slc);have b4:=H.sy 0 (·.rd.small);obtain ⟨s,c3,rfl⟩:=b2;have H:Sep z (grow 3 1 (.slice s a.length c3) a.length (a.map Aa)::stB ps pd pt x t md un mo::pgsA md f hq::blk b1 [Aa y.gen,Aa y.epoch,Aa y.pages,Aa y.start,Aa y.len,Aa y.head,Aa y.seq] 92::tblA pt::diskA pd D::poolA hq::R) w:=H;obtain ⟨es,clk,o,H⟩:=H.pgs 2 Z;refine Zc 5 Z ?_;refine Ay (σ:=Nat) (λj=>[(15,Aa (j:Int)),(0,V ps),(3,V b1),(13,.slice s a.length c3),(14,Aa (a.length:Int))])
   (λj w=>Sep z (grow 3 1 (.slice s a.length c3) a.length (a.map Aa)::stB ps pd pt x t md un mo::AE md (es.map PgE.ie) clk::blk b1 [Aa y.gen,Aa y.epoch,Aa y.pages,Aa y.start,Aa y.len,Aa y.head,Aa y.seq] 92::tblA pt::diskA pd (hwD D ((pgLst f a).take j))::poolA hq::R) w/\(j<=a.length)) (λj=>a.length-j) 0
   fr_z ⟨H,by omega⟩ ?_
 clear H;rintro j w ⟨g,hI⟩;have H:=g.l7;have c1:=hI;clear hI;refine Z0 6 [0] Z (Ag Z (λh1=>?_) (λh1=>?_))
 ·have b5:j<a.length:=by omega
  refine Zc 6 Z ?_;obtain ⟨x,hx⟩:∃x,a[j]?=some x:=⟨_,AbF U⟩;obtain ⟨c0,m⟩:=(l.2 x).1 (AbG hx);obtain ⟨n,rfl⟩:∃n:Nat,x=(n:Int):=⟨x.toNat,by omega⟩;rw[Acg] at m;obtain ⟨p,pv,b3,b,a5,b0⟩:∃(p:Pg) (v:Value),f n=some p/\p.Ok/\rdH 1 v 240 (p.body.map u8) hq/\Cw (es.map PgE.ie) (n:Int)=some (.agg #[Aa p.kind,v]):=by
    rcases o.get n with ⟨q,_⟩|q
    · rw[q] at m;cases m
    · exact q
  have hn:=a3 n m;have b7:=a8 n m;have a0:=(H.rv 0 (·.rd)).at (j:=j) (u:=Aa (n:Int)) (by simp[hx]);have a2:∀i,((hwD D ((pgLst f a).take j)).ver i).length<=1099511627776:=λi=>by have h1:=Mu ((pgLst f a).take j) D i ((Ev l).sublist ((List.take_sublist _ _).map _));have h2:=a4 i;omega
  refine Ad Z (Az Z (z:=1) (j:=j) (r:=j) J Z Z Z U a0 U) (Ad Z (AM Z Z J (AB a0)) (Zc 4 Z ?_));replace H:=H.f2.f2;refine BV (Sep z (stB ps pd pt x t md un mo::AE md (es.map PgE.ie) clk::R)) 18 Z J (A4 H λw g=>?_);have H:=g.l7;refine CG [0,1,2,3,4,5,6,7,8,9] [1,0,0,10,0,0] [] (by exact H.pick 7 [0,1] Z) Z J Z (I7 10 Z J J J Z Z Z (Fo (e:=40) (zv:=.agg #[Aa 0,.slice none 0 0]) Z J J Z Z (λ_ hx=>hx.bk 1 Z)) (H.pick 7 [0,1] Z) (k_updA 30 (v:=.agg #[Aa p.kind,pv]) Z (by rw[b0];rfl) (I7 11 Z J J J Z Z Z (AX Z Z (out:=[Aa (n:Int),Aa p.kind,pv]) J) (H.pick 7 [0,1] Z) (Cs [12] J O (Ar (Ba Z Z Z Z Z Z (λw=>call133 _ w) (Ll _ _ _ _ p.body _ (λh q=>by rw[b.2];exact a5.le q)) H.f6.f5 Z ?_))))));rintro _ w _ (⟨k,rfl,rfl⟩|⟨_,pw,rfl,rfl⟩) g
  ·exact absurd ⟨⟨by omega,by omega⟩,b.1,b.2⟩ k
  have H:=g.l8;refine BZ (H.pick 8 [3,4] Z) (CG [13,14,15,16,17] [] [] (by exact H.pick 8 [3,4] Z) Z J Z (a_done J (gn (Z3 20 [4,0,3,0] [(2:Int)+(n:Int)] H Z U (AA Z (call134 _) (Jm _ _ _ _ _ _ _ (DF n p) _ (DA b) (λh q=>HY (lo:=0) (n:=256) (c:=256) (ys:=DF n p) q (DA b) U U U (by rw[Ab1];exact AbJ (AcO (DA b)))) a2 (by rw[EL];omega)) H.f7 ?_)))));rintro _ w _ (⟨k,rfl,rfl⟩|⟨k,rfl,rfl⟩) g
  ·have H:=g.l8;refine Z0 17 [3] Z (Zr Z ?_);replace H:=(H.toPgs 5 Z o).l8
   exact ⟨_,⟨a,l,.inr ⟨_,_,by decide,.inl ⟨j,k,Z,Z⟩,Z,Z⟩⟩,H.perm 8 [4,2,0,5,3] Z Z⟩
  have H:=g.l8;refine Z1 17 [4] [(j:Int)+1] Z U ?_;replace H:=H.f1.d.f2.f1.f2.f6.f5.f5.f6;refine gf ?_;intro _ hF;refine ⟨(j+1),hF.cz,⟨(by rw[<-Xi (TT hx b3)];exact H),?_⟩,?_⟩
  ·omega
  omega
 obtain rfl:j=a.length:=by omega
 refine Zc 2 Z (gx (Zc 4 Z ?_));have a9:(pgLst f a).take a.length=pgLst f a:=AbJ (by simp only[pgLst,AbN];omega);rw[a9] at H;have H:Sep z (grow 3 1 (.slice s a.length c3) a.length (a.map Aa)::stB ps pd pt x t md un mo::AE md (es.map PgE.ie) clk::blk b1 [Aa y.gen,Aa y.epoch,Aa y.pages,Aa y.start,Aa y.len,Aa y.head,Aa y.seq] 92::tblA pt::diskA pd (hwD D (pgLst f a))::poolA hq::R) w:=H;refine Z2 5 [0,1,0] H Z (AA Z (call70 _) (G0 _ _) H.f5 ?_);rintro _ w _ (⟨a1,rfl,rfl⟩|⟨a1,rfl,rfl⟩) g
 ·have H:=g.l7;refine Z0 17 [3] Z (Zr Z ?_);replace H:=(H.toPgs 3 Z o).l7
  exact ⟨_,⟨a,l,.inr ⟨_,_,by decide,.inr (.inl ⟨a1,Z,Z⟩),Z,Z⟩⟩,H.perm 7 [2,5,0,3,6] Z Z⟩
 have H:=g.l7;refine Z0 14 [4] Z ?_;replace H:=H.f4.f3;refine BV (Sep z (stB ps pd pt x t md un mo::blk b1 [Aa y.gen,Aa y.epoch,Aa y.pages,Aa y.start,Aa y.len,Aa y.head,Aa y.seq] 92::R)) 11 Z J (A4 H λw g=>?_);have H:=g.l7;refine CG [0,1,2,3,4,5,6,7,8] [0,0,0,1,0,0,1,7] [] (by exact H.pick 7 [0,1] Z) Z J Z (Cs [9] J O (Ar (Ba Z Z Z Z Z Z (λw=>call135 _ w) (ML _ _ _ y (by show y.Ok ((hwD D (pgLst f a)).n:Int);rw[EL];exact a6) (λi=>by show ([]:List (List UInt8)).length<=_;simp)) H.f5.f3 Z ?_)));rintro _ w _ (⟨a7,rfl,rfl⟩|⟨a7,rfl,rfl⟩) g
 ·have H:=g.l7;refine BZ (H.pick 7 [2,3] Z) (CG [10] [] [] (by exact H.pick 7 [2,3] Z) Z J Z (a_done J (gn (Z0 15 [3] Z (Zr Z ?_)))));replace H:=(H.toPgs 5 Z o).l7
  exact ⟨_,⟨a,l,.inr ⟨_,_,by decide,.inr (.inr ⟨a7,Z,Z⟩),Z,Z⟩⟩,H.perm 7 [2,1,0,5,6] Z Z⟩
 have H:=g.l7;refine BZ (H.pick 7 [2,3] Z) (CG [10] [] [] (by exact H.pick 7 [2,3] Z) Z J Z (a_done J (gn (Z4 25 [4,3,7,2,2,10,2,0] H Z ?_))));intro w H;refine JR Z Z (IG 5 (e:=40) H Z Z J Z) ?_;rintro _ w ⟨rfl,H⟩;refine Zc 8 Z (Zr Z ?_);replace H:=(H.toPgs 5 Z (PgsIn.none hq clk)).l7;exact ⟨_,⟨a,l,.inl ⟨Z,Z⟩⟩,H.perm 7 [2,1,0,5,6] Z Z⟩
theorem Xj(ps pd pt md:Nat)(x:Sup)(a c:Value)(b:Bool):Aj 63 [V ps] [stB ps pd pt x a md b c] (λv G=>v=.tuple #[]/\G=[stB ps pd pt x a md false (.map none)]):=by
 intro z R w H;refine Ac func63 Z ntmps63 Z (Z4 10 [11,0,12,0] H Z ?_);intro w H;refine Zf Z ?_;exact ⟨_,⟨Z,Z⟩,H⟩
theorem Xk(ps pd pt md:Nat)(x:Sup)(a c:Value):Aj 39 [V ps] [stB ps pd pt x a md false c] (λv G=>v=Aa 0/\∃m,G=[stB ps pd pt x a md true (.map (some m)),AE m [] 0]):=by
 intro z R w H;refine Ac func39 Z ntmps39 Z (Z4 28 [11,0,0,11,0] H Z ?_);intro w H;refine AG Z (FI H Z) ?_;rintro _ w ⟨b,rfl,H⟩;refine Z4 11 [12,1] H Z ?_;intro w H;refine Zr Z ?_;exact ⟨_,⟨Z,b,Z⟩,H.perm 2 [1,0] Z Z⟩
theorem TW(ps pd pt md:Nat)(x:Sup)(b a:Value):Aj 39 [V ps] [stB ps pd pt x b md true a] (λv G=>v=Aa 17/\G=[stB ps pd pt x b md true a]):=by
 intro z R w H;refine Ac func39 Z ntmps39 Z (Z2 21 [11,0,0] H Z (Zr Z ?_));exact ⟨_,⟨Z,Z⟩,H⟩
theorem OD(ps pd pt md:Nat)(x:Sup)(c b:Value)(a:Bool):Aj 78 [V ps] [stB ps pd pt x c md a b] (λv G=>v=.agg #[Aa x.gen,Aa x.epoch,Aa x.pages,Aa x.start,Aa x.len,Aa x.head,Aa x.seq]/\G=[stB ps pd pt x c md a b]):=by
 intro z R w H;refine Ac func78 Z ntmps78 Z (Za 2 [] H Z ?_);intro d w H;refine Z4 12 [2,1,7,0] H Z ?_;intro w H;refine Zl [0,7] H Z ?_;exact ⟨_,⟨Z,Z⟩,H.perm 2 [1] Z Z⟩
theorem Gp(p:Pg)(g:Value)(A:Ah)(d:∀h,A h->rdH 1 g 240 (p.body.map u8) h)(hp:p.Ok):Aj 64 [.agg #[Aa p.kind,g]] [A] (λv G=>∃f,v=.agg #[Aa p.kind,f]/\G=[grow 5 1 f 240 (p.body.map u8),A]):=by
 intro z R w H;replace H:=H.l1;obtain ⟨b,o,c,rfl⟩:=H.sy 0 (λq=>(d _ q).sl (by simp[hp.2]));have l:=d;refine Ac func64 Z ntmps64 Z (Za 2 [] H Z ?_);intro i w H;refine Za 0 [] H Z ?_;intro j w H;refine Zc 3 Z ?_;replace H:=H.f1.f2;refine BV (Sep z (A::blk i [Aa p.kind,.slice (some ⟨b,o,none⟩) 240 c] 40::R)) 7 Z J (A4 H λw k=>?_);have H:=k.l3;refine CG [0,1,2,3] [0,1,0,1,1,0] [] (by exact H.pick 3 [0,1] Z) Z J Z (Cs [4] J O (Ar (Ba Z Z Z Z Z Z (λw=>call115 _ w) (TO _ _ 240 _ p.body _ l U) H Z ?_)));rintro f w _ ⟨_,rfl,rfl⟩ H;replace H:=H.l4;obtain ⟨a,e,rfl⟩:=H.sy 0 (·.slc);have H:Sep z (grow 5 1 (.slice a 240 e) 240 (p.body.map u8)::A::blk i [Aa p.kind,.slice (some ⟨b,o,none⟩) 240 c] 40::blk j [Aa 0,.slice none 0 0] 40::R) w:=H;refine BZ (H.pick 4 [1,2] Z) (CG [5] [] [] (by exact H.pick 4 [1,2] Z) Z J Z (Cs [6] J O (Ar (B6 Z Z Z (AD 3 H Z Z Z Z (vs:=[Aa p.kind,.slice a 240 e]) Z (by simp[u8,u32,Value.oneCell']) J O (out:=[Aa p.kind,.slice a 240 e]) Z) ?_))));rintro w H;replace H:=H.l4;refine BZ (H.pick 4 [1,2] Z) (a_done J (gn (Zc 2 Z (Zl [3,2] H Z ?_))));exact ⟨_,⟨_,Z,Z⟩,H.perm 4 [0,1] Z Z⟩
set_option maxHeartbeats 2000000 in
theorem TX (ps pd pt md:Nat) (x:Sup) (t:Value) (un:Bool) (f:A0) (hq:Hp) (D:Dsk) (n:Nat) (hn:(n:Int)<x.pages) (l:D.f1=0) (s:x.Ok (D.n:Int)) (q i:Pg) (j:q=(f n).getD i) (hB:f n=none->HomeP (D.cont (2+n)) n i):Aj 21 [V ps,Aa (n:Int)] [stB ps pd pt x t md un (.map none),tblA pt,diskA pd D,pgsA md f hq,poolA hq] (λv G=>(q=C5/\v=.tuple #[.agg #[Aa 0,.slice none 0 0],Aa 0]/\G=[stB ps pd pt x t md un (.map none),tblA pt,diskA pd D,pgsA md f hq,poolA hq])\/(q.Ok/\∃c,v=.tuple #[.agg #[Aa q.kind,c],Aa 0]/\G=[grow 5 1 c 240 (q.body.map u8),stB ps pd pt x t md un (.map none),tblA pt,diskA pd D,pgsA md f hq,poolA hq])):=by
 intro z R w H;replace H:=H.l5;have a1:=s.2;obtain ⟨es,clk,d,H⟩:=H.pgs 3 Z;replace H:=H.l5;refine Ac func21 Z ntmps21 Z (Za 2 [] H Z ?_);intro b1 w H;refine Z0 9 [0] Z (Ak 16 Z (λh1=>U) (λh1=>?_));refine Z2 10 [2,4,1,0,0] H Z (Ag Z (λh2=>U) (λh2=>?_));refine Z2 10 [12,1,0] H Z (Ad Z (PD (e:=40) (zv:=.agg #[Aa 0,.slice none 0 0]) Z J J Z Z) (Za 3 [] H Z ?_));intro b2 w H;refine Z4 20 [0,10,2,0] H Z ?_;intro w H;rcases d.get n with ⟨hf,u⟩|⟨p,k,hf,b,m,u⟩
 ·refine Ad Z (CI (e:=40) (zv:=.agg #[Aa 0,.slice none 0 0]) Z J J Z Z (AB (H.bk 5 Z))) (k_updA 44 (v:=.tuple #[.agg #[Aa 0,.slice none 0 0],.bool false]) Z (by simp[Cq,u]) (Za 3 [] H Z ?_));intro b3 w H;refine Z5 20 [0,0,3,0] [(2:Int)+(n:Int)] H Z U ?_;intro w H;refine AA Z (call65 _) (Ig _ _ _) H.f5 ?_;rintro _ w _ (⟨r,_,_⟩|⟨_,r,_,_⟩|⟨_,_,gb,a3,rest,rfl,⟨cg,cc,cl⟩,rfl⟩) H'
  ·exact absurd ⟨by omega,by omega⟩ r
  ·(rw[l] at r;cases r)
  rw[diskA.f1 l,show ((2:Int)+(n:Int)).toNat=2+n from by omega] at H';have H:=H'.l9;refine Z2 25 [4,1,5,0] H Z ?_;rcases hB (by simp_all) with ⟨hz,rfl⟩|⟨a,o⟩
  ·refine Ai Z (call66 _) (J9 _ _ _ _ (D.cont (2+n)) _ (λh q=>Ed q (by rw[hz];first|rfl|exact DA a) ⟨cg,cc,cl⟩) n hz) H.f6 ?_;intro w H;refine Za 3 [] H Z ?_;intro b4 w H;refine Z4 22 [0,0,2,6] H Z ?_;intro w H;refine Zl [6,2] H Z ?_;replace H:=(H.toPgs 8 Z d).l10
   exact ⟨_,.inl ⟨by first|(rw[j];simp_all;done)|(simp_all;done),rfl,rfl⟩,H.perm 10 [7,1,3,8,9] rfl rfl⟩
  refine AA Z (call66 _) (Lm _ _ _ _ (D.cont (2+n)) _ (λh q=>Ed q (by rw[o];first|rfl|exact DA a) ⟨cg,cc,cl⟩) n i a U o) H.f6 ?_;rintro _ w _ ⟨c,rfl,rfl⟩ H;replace H:=H.l10;have g:=H.sy 0 (·.slc);refine Za 3 [] H Z ?_;intro b5 w H;refine A9 Z Z (AD 0 H Z Z Z Z (vs:=[Aa i.kind,c]) Z (Aq Z (Aq g.one AN)) J O (out:=[Aa i.kind,c]) Z) ?_;rintro w H;replace H:=H.l11;refine Z2 16 [0,2] H Z (A9 Z Z (AD 7 H Z Z Z Z (vs:=[Aa i.kind,c]) Z (Aq Z (Aq g.one AN)) J O (out:=[Aa i.kind,c]) Z) ?_);rintro w H;replace H:=H.l11;refine Zc 4 Z (Zl [7,2] H Z ?_);replace H:=(H.toPgs 9 Z d).l11;obtain rfl:q=i:=by rw[j];simp_all
  exact ⟨_,.inr ⟨by first|exact b|exact hpoko|exact a,_,rfl,rfl⟩,H.perm 11 [1,8,2,4,9,10] rfl rfl⟩
 have a2:=b.1;have y:Slc k 240:=m.slc;refine Ad Z (CI (e:=40) (zv:=.agg #[Aa 0,.slice none 0 0]) Z J J Z Z (AB (H.bk 5 Z))) (k_updA 44 (v:=.tuple #[.agg #[Aa p.kind,k],.bool true]) Z (by simp[Cq,u]) (Za 3 [] H Z ?_));intro b6 w H;refine A9 Z Z (AD 0 H Z Z Z Z (vs:=[Aa p.kind,k]) Z (Aq Z (Aq y.one AN)) J O (out:=[Aa p.kind,k]) Z) ?_;rintro w H;replace H:=H.l8;refine Z2 12 [0,2] H Z (AA Z (call64 _) (Gp p k _ (λh q=>m.le q) b) H.f7 ?_);rintro _ w _ ⟨c,rfl,rfl⟩ H;replace H:=H.l9;have g:=H.sy 0 (·.slc);refine A9 Z Z (AD 4 H Z Z Z Z (vs:=[Aa p.kind,c]) Z (Aq Z (Aq g.one AN)) J O (out:=[Aa p.kind,c]) Z) ?_;rintro w H;replace H:=H.l9;refine Zc 4 Z (Zl [4,2] H Z ?_);replace H:=(H.toPgs 8 Z d).l9;obtain rfl:q=p:=by rw[j];simp_all
 exact ⟨_,.inr ⟨by first|exact b|exact hpoko|exact a,_,rfl,rfl⟩,H.perm 9 [0,5,6,7,8,1] rfl rfl⟩
set_option maxHeartbeats 2000000 in
theorem TY (ps pd pt md mo:Nat) (x:Sup) (lp:Value) (un:Bool) (f g:A0) (k:Nat) (hq:Hp) (D:Dsk) (n:Nat) (hn:(n:Int)<x.pages) (a1:D.f1=0) (a4:x.Ok (D.n:Int)) (q t:Pg) (r:q=((g n).or (f n)).getD t) (hB:(g n).or (f n)=none->HomeP (D.cont (2+n)) n t):Aj 21 [V ps,Aa (n:Int)] [stB ps pd pt x lp md un (.map (some mo)),tblA pt,diskA pd D,pgsA md f hq,DN mo g k hq,poolA hq] (λv G=>(q=C5/\v=.tuple #[.agg #[Aa 0,.slice none 0 0],Aa 0]/\G=[stB ps pd pt x lp md un (.map (some mo)),tblA pt,diskA pd D,pgsA md f hq,DN mo g k hq,poolA hq])\/(q.Ok/\∃l,v=.tuple #[.agg #[Aa q.kind,l],Aa 0]/\G=[grow 5 1 l 240 (q.body.map u8),stB ps pd pt x lp md un (.map (some mo)),tblA pt,diskA pd D,pgsA md f hq,DN mo g k hq,poolA hq])):=by
 intro z R w H;replace H:=H.l6;have b8:=a4.2;obtain ⟨es,clk,m,H⟩:=H.pgs 3 Z;replace H:=H.l6;obtain ⟨b9,a7,d,i,H⟩:=H.pgsc 4 Z;replace H:=H.l6;refine Ac func21 Z ntmps21 Z (Za 2 [] H Z ?_);intro b1 w H;refine Z0 9 [0] Z (Ak 16 Z (λh1=>U) (λh1=>?_));refine Z2 10 [2,4,1,0,0] H Z (Ag Z (λh2=>U) (λh2=>?_));refine Z2 10 [12,1,0] H Z ?_;rcases d.get n with ⟨a6,y⟩|⟨u,o,a6,a,s,y⟩
 ·refine Ad Z (CI (e:=40) (zv:=.agg #[Aa 0,.slice none 0 0]) Z J J Z Z (AB (H.bk 5 Z))) (k_updA 32 (v:=.tuple #[.agg #[Aa 0,.slice none 0 0],.bool false]) Z (by simp[Cq,y]) (Za 3 [] H Z ?_));intro b2 w H;refine Z4 20 [0,10,2,0] H Z ?_;intro w H;rcases m.get n with ⟨hf,hg⟩|⟨p,pv,hf,c,a2,hg⟩
  ·refine Ad Z (CI (e:=40) (zv:=.agg #[Aa 0,.slice none 0 0]) Z J J Z Z (AB (H.bk 5 Z))) (k_updA 44 (v:=.tuple #[.agg #[Aa 0,.slice none 0 0],.bool false]) Z (by simp[Cq,hg]) (Za 3 [] H Z ?_));intro b3 w H;refine Z5 20 [0,0,3,0] [(2:Int)+(n:Int)] H Z U ?_;intro w H;refine AA Z (call65 _) (Ig _ _ _) H.f5 ?_;rintro _ w _ (⟨hx,_,_⟩|⟨_,hx,_,_⟩|⟨_,_,gb,c1,rest,rfl,⟨cg,cc,cl⟩,rfl⟩) H'
   ·exact absurd ⟨by omega,by omega⟩ hx
   ·(rw[a1] at hx;cases hx)
   rw[diskA.f1 a1,show ((2:Int)+(n:Int)).toNat=2+n from by omega] at H';have H:=H'.l10;refine Z2 25 [4,1,5,0] H Z ?_;rcases hB (by simp_all) with ⟨hz,rfl⟩|⟨b,a3⟩
   ·refine Ai Z (call66 _) (J9 _ _ _ _ (D.cont (2+n)) _ (λh q=>Ed q (by rw[hz];first|rfl|exact DA b) ⟨cg,cc,cl⟩) n hz) H.f6 ?_;intro w H;refine Za 3 [] H Z ?_;intro b4 w H;refine Z4 22 [0,0,2,6] H Z ?_;intro w H;refine Zl [6,2] H Z ?_;replace H:=(H.toPgs 8 Z m).l11
    replace H:=(H.toPgsc 9 Z d i).l11;exact ⟨_,.inl ⟨by first|(rw[r];simp_all;done)|(simp_all;done),rfl,rfl⟩,H.perm 11 [7,1,3,8,9,10] rfl rfl⟩
   refine AA Z (call66 _) (Lm _ _ _ _ (D.cont (2+n)) _ (λh q=>Ed q (by rw[a3];first|rfl|exact DA b) ⟨cg,cc,cl⟩) n t b U a3) H.f6 ?_;rintro _ w _ ⟨l,rfl,rfl⟩ H;replace H:=H.l11;have j:=H.sy 0 (·.slc);refine Za 3 [] H Z ?_;intro b5 w H;refine A9 Z Z (AD 0 H Z Z Z Z (vs:=[Aa t.kind,l]) Z (Aq Z (Aq j.one AN)) J O (out:=[Aa t.kind,l]) Z) ?_;rintro w H;replace H:=H.l12;refine Z2 16 [0,2] H Z (A9 Z Z (AD 7 H Z Z Z Z (vs:=[Aa t.kind,l]) Z (Aq Z (Aq j.one AN)) J O (out:=[Aa t.kind,l]) Z) ?_);rintro w H;replace H:=H.l12;refine Zc 4 Z (Zl [7,2] H Z ?_);replace H:=(H.toPgs 9 Z m).l12;replace H:=(H.toPgsc 10 Z d i).l12;obtain rfl:q=t:=by rw[r];simp_all
   exact ⟨_,.inr ⟨by first|exact c|exact a|exact b,_,rfl,rfl⟩,H.perm 12 [1,8,2,4,9,10,11] rfl rfl⟩
  have c0:=c.1;have a5:Slc pv 240:=a2.slc;refine Ad Z (CI (e:=40) (zv:=.agg #[Aa 0,.slice none 0 0]) Z J J Z Z (AB (H.bk 5 Z))) (k_updA 44 (v:=.tuple #[.agg #[Aa p.kind,pv],.bool true]) Z (by simp[Cq,hg]) (Za 3 [] H Z ?_));intro b6 w H;refine A9 Z Z (AD 0 H Z Z Z Z (vs:=[Aa p.kind,pv]) Z (Aq Z (Aq a5.one AN)) J O (out:=[Aa p.kind,pv]) Z) ?_;rintro w H;replace H:=H.l9;refine Z2 12 [0,2] H Z (AA Z (call64 _) (Gp p pv _ (λh q=>a2.le q) c) H.f8 ?_);rintro _ w _ ⟨l,rfl,rfl⟩ H;replace H:=H.l10;have j:=H.sy 0 (·.slc);refine A9 Z Z (AD 4 H Z Z Z Z (vs:=[Aa p.kind,l]) Z (Aq Z (Aq j.one AN)) J O (out:=[Aa p.kind,l]) Z) ?_;rintro w H;replace H:=H.l10;refine Zc 4 Z (Zl [4,2] H Z ?_);replace H:=(H.toPgs 8 Z m).l10;replace H:=(H.toPgsc 9 Z d i).l10;obtain rfl:q=p:=by rw[r];simp_all
  exact ⟨_,.inr ⟨by first|exact c|exact a|exact b,_,rfl,rfl⟩,H.perm 10 [0,5,6,7,8,9,1] rfl rfl⟩
 have a9:=a.1;have a0:Slc o 240:=s.slc;refine Ad Z (CI (e:=40) (zv:=.agg #[Aa 0,.slice none 0 0]) Z J J Z Z (AB (H.bk 5 Z))) (k_updA 32 (v:=.tuple #[.agg #[Aa u.kind,o],.bool true]) Z (by simp[Cq,y]) (Za 3 [] H Z ?_));intro b7 w H;refine A9 Z Z (AD 0 H Z Z Z Z (vs:=[Aa u.kind,o]) Z (Aq Z (Aq a0.one AN)) J O (out:=[Aa u.kind,o]) Z) ?_;rintro w H;replace H:=H.l8;refine Z2 12 [0,2] H Z (AA Z (call64 _) (Gp u o _ (λh q=>s.le q) a) H.f7 ?_);rintro _ w _ ⟨l,rfl,rfl⟩ H;replace H:=H.l9;have j:=H.sy 0 (·.slc);refine A9 Z Z (AD 3 H Z Z Z Z (vs:=[Aa u.kind,l]) Z (Aq Z (Aq j.one AN)) J O (out:=[Aa u.kind,l]) Z) ?_;rintro w H;replace H:=H.l9;refine Zc 4 Z (Zl [3,2] H Z ?_);replace H:=(H.toPgs 7 Z m).l9;replace H:=(H.toPgsc 8 Z d i).l9;obtain rfl:q=u:=by rw[r];simp_all
 exact ⟨_,.inr ⟨by first|exact c|exact a|exact b,_,rfl,rfl⟩,H.perm 9 [0,4,5,6,7,8,1] rfl rfl⟩
end Go.Proofs.YthbbejpbkglmlaaGreatDoor
