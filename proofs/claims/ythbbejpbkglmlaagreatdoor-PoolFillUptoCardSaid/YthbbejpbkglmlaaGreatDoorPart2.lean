/-
  Steps to: A pool is filled, page by page, and given back. No condition.
-/
import Derived.Test.YthbbejpbkglmlaaGreatDoorPart1
set_option maxRecDepth 100000
set_option linter.unusedSimpArgs false
set_option linter.unusedVariables false
open Go.Proofs.Tryz
namespace Go.Proofs.YthbbejpbkglmlaaGreatDoor
open Go.RowKit
section
def Tg(c:List UInt8)(e q:Int):Prop:=(GN c/\BR c=e/\BS c=q)\/(Hf c/\Ez c=e/\EA c=q)
theorem Rb:¬Hf (List.replicate 256 0):=λh=>by
 have:=h.2.1.1;revert this;decide
theorem Re(e q:Int):¬Tg (List.replicate 256 0) e q:=by
 rintro (⟨h,_⟩|⟨h,_⟩)
 ·exact Kk h
 exact Rb h
theorem HV{c:List UInt8}(h:GN c)(g:Hf c):False:=by
 have b:=h.1.2;have a:=g.2.1.2;have:c.take 1=[80]:=by
  have:=congrArg (List.take 1) b;rwa[YE] at this
 rw[this] at a;revert a;decide
variable{e q:Int}{ims:List Img}
theorem rec_cases{p:Nat}{c:List UInt8}(hp:(A8 e q ims)[p]?=some c):(p=0/\c=sect (Bt e q ims))\/∃j m,p=j+1/\ims[j]?=some m/\c=sect (A6 e q m):=by
 cases p with
 | zero=>simp[A8] at hp;exact .inl ⟨Z,hp.symm⟩
 | succ j=>
  simp only[A8,Yq,Yb,ZV] at hp;obtain ⟨m,a,b⟩:=hp;exact .inr ⟨j,m,Z,a,b.symm⟩
theorem MI(i:1<=ims.length/\ims.length<=40)(g:∀m∈ims,m.Ok)(r:0<=e/\e<4294967296)(hq:0<=q/\q<1099511627776){p:Nat}{c:List UInt8}(hp:(A8 e q ims)[p]?=some c){l n:Int}(h:Tg c l n):l=e/\n=q:=by
 rcases rec_cases hp with ⟨rfl,rfl⟩|⟨j,m,rfl,s,rfl⟩
 ·have o:=VB i (e:=e) (sq:=q) U U g
  rcases h with ⟨_,f,k⟩|⟨f,_⟩
  ·exact ⟨f.symm.trans (NP i.2 U),k.symm.trans (NQ i.2 U)⟩
  exact (HV o f).elim
 obtain ⟨a,b,d,_⟩:=I6 (g m (XX s)) r hq;rcases h with ⟨f,_⟩|⟨_,f,k⟩
 ·exact (HV f a).elim
 exact ⟨f.symm.trans b,k.symm.trans d⟩

def secs(e:Int)(rs:List Rc):List (List UInt8):=rs.flatMap λr=>A8 e r.seq r.ims
theorem Ec(e:Int)(rs a:List Rc):secs e (rs++a)=secs e rs++secs e a:=by simp[secs]
theorem Ir(e:Int)(r:Rc):secs e [r]=A8 e r.seq r.ims:=by simp[secs]
theorem EP(e q:Int)(ims:List Img):(A8 e q ims).length=1+ims.length:=by simp[A8];omega
theorem I7(e:Int){rs:List Rc}{j:Nat}{r:Rc}(h:rs[j]?=some r):secs e rs=secs e (rs.take j)++A8 e r.seq r.ims++secs e (rs.drop (j+1)):=by
 have a:=(XV.1 h).1;have:rs=rs.take j++[r]++rs.drop (j+1):=by
  rw[<-(XV.1 h).2,List.take_append_getElem a,YG]
 conv=>lhs;rw[this]
 rw[Ec,Ec,Ir]
theorem Rg{e:Int}{rs:List Rc}{c:List UInt8}(h:c∈secs e rs):∃(j:Nat) (r:Rc) (p:Nat),rs[j]?=some r/\(A8 e r.seq r.ims)[p]?=some c:=by
 obtain ⟨r,d,a⟩:=Aar.1 h;obtain ⟨j,b⟩:=YC d;obtain ⟨p,hp⟩:=YC a;exact ⟨j,r,p,b,hp⟩

def Cx(D:Dsk)(n:Nat)(c:List UInt8):Prop:=c=D.dur n\/c∈D.ver n
def XD(s:Sup)(c:List UInt8):Prop:=∀e q,Tg c e q->e<s.epoch\/(e=s.epoch/\q<s.seq)
structure PInv(D:Dsk)(s:Sup)(rs:List Rc)(pt:List (List UInt8))(a q u:Int)(b:Bool)(sure:Nat):Prop where
 fa:a=(s.head+u)%s.len
 fq:q=s.seq+rs.length+(if b then 1 else 0)
 fu:u=((secs s.epoch rs).length:Int)
 ul:u<=s.len
 pb:b=false->pt=[]
 part:pt=[]\/∃ims k,((1<=ims.length/\ims.length<=40)/\(∀m∈ims,m.Ok))/\pt=(A8 s.epoch (s.seq+rs.length) ims).take k/\k<1+ims.length/\u+(1+(ims.length:Int))<=s.len
 recs:∀(j:Nat) (r:Rc),rs[j]?=some r->r.seq=s.seq+j/\(1<=r.ims.length/\r.ims.length<=40)/\∀m∈r.ims,m.Ok
 old:∀i:Nat,(i:Int)<s.len->∀c,Cx D (ringAt s (s.head+i)) c->XD s c\/(secs s.epoch rs++pt)[i]?=some c
 last:∀(i:Nat) (c:List UInt8),(secs s.epoch rs++pt)[i]?=some c->D.cont (ringAt s (s.head+i))=c
 dura:∀(i:Nat) (c:List UInt8),(secs s.epoch (rs.take sure))[i]?=some c->D.dur (ringAt s (s.head+i))=c/\D.ver (ringAt s (s.head+i))=[]
 sure:sure<=rs.length
structure SOk(s:Sup):Prop where
 start:0<=s.start
 head:0<=s.head/\s.head<s.len
 epoch:0<=s.epoch/\s.epoch<4294967296
 seq:0<=s.seq
theorem PInv.f{D D':Dsk}{s:Sup}{rs:List Rc}{j:List (List UInt8)}{a q u:Int}{b:Bool}{sure:Nat}(h:PInv D s rs j a q u b sure)(e:D'.dur=D.dur)(g:D'.ver=D.ver):PInv D' s rs j a q u b sure:=
 ⟨h.fa,h.fq,h.fu,h.ul,h.pb,h.part,h.recs,λi k c d=>h.old i k c (by unfold Cx at d ⊢;rwa[e,g] at d),λi c d=>by have:=h.last i c d;unfold Dsk.cont at this ⊢;rw[e,g];exact this,
  λi c d=>by rw[e,g];exact h.dura i c d,h.sure⟩
theorem Ld{s:Sup}(b:0<s.len)(h x:Int):∃i:Nat,(i:Int)<s.len/\ringAt s x=ringAt s (h+i):=by
 have a:=ZJ (x-h) (by omega:s.len≠0);have c:=Zs (x-h) b;refine ⟨((x-h)%s.len).toNat,by omega,?_⟩;unfold ringAt;rw[Int.toNat_of_nonneg a,Int.add_emod_emod];congr 3;omega
theorem PInv.tags{D:Dsk}{s:Sup}{rs:List Rc}{z:List (List UInt8)}{a q u:Int}{b:Bool}{sure:Nat}(h:PInv D s rs z a q u b sure)(hs:SOk s)(hq:q<=1099511627776){i:Nat}(x:(i:Int)<s.len){c:List UInt8}(w:Cx D (ringAt s (s.head+i)) c){e t:Int}(l:Tg c e t):e<s.epoch\/(e=s.epoch/\t<q):=by
 have d:=h.fq;have v:=hs.seq;rcases h.old i x c w with g|g
 ·rcases g _ _ l with g|⟨y,g2⟩
  ·exact .inl g
  refine .inr ⟨y,?_⟩;split at d<;>omega
 rcases Yt.1 (XX g) with g|g
 ·obtain ⟨j,r,p,m,hp⟩:=Rg g
  obtain ⟨n,f,o⟩:=h.recs j r m;have a0:=(XV.1 m).1;have:=MI f o hs.epoch (by split at d<;>omega) hp l;exact .inr ⟨this.1,by split at d<;>omega⟩
 rcases h.part with rfl|⟨ims,k,⟨n,f⟩,rfl,o,_⟩
 ·cases g
 cases b with
 | false=>have:=h.pb Z;rw[this] at g;cases g
 | true=>
  rw[if_pos Z] at d;obtain ⟨p,hp⟩:=YC g;rw[Yy] at hp;split at hp
  ·have:=MI n f hs.epoch U hp l
   exact .inr ⟨this.1,by omega⟩
  cases hp
theorem PInv.drop{D:Dsk}{s:Sup}{rs:List Rc}{y:List (List UInt8)}{a q u:Int}{b:Bool}{sure:Nat}(h:PInv D s rs y a q u b sure)(hs:SOk s)(hq:q<=1099511627776){d:Sup}(n:d.start=s.start)(p:d.len=s.len)(o:d.epoch=s.epoch)(w:d.head=a)(l:d.seq=q)(h0:0<=d.len)(k:0<=d.head/\d.head<d.len):PInv D d [] [] a q 0 false 0:=by
 have m:0<s.len:=by have:=hs.head;omega
 refine ⟨?_,by rw[l];simp,by simp[secs],by omega,λ_=>rfl,.inl Z,λj r h=>by simp at h,λi hi c f=>.inl λe q t=>?_,λi c h=>by simp[secs] at h,λi c h=>by simp[secs] at h,Yp _⟩
 ·rw[AaX,<-w,Y5 k.1 k.2]
 have v:ringAt d (d.head+i)=ringAt s (d.head+i):=by unfold ringAt;rw[n,p]
 rw[v] at f;obtain ⟨z,g,x⟩:=Ld m s.head (d.head+i);rw[x] at f;have:=h.tags hs hq g f t;rw[o,l];exact this
def Dsk.fl(D:Dsk):Dsk:= {D with dur:=D.cont,ver:=λ_=>[],f3:=AP D.f3,left:=max 0 (D.left-1)}
theorem cont_has(D:Dsk)(n:Nat):Cx D n (D.cont n):=by
 unfold Cx Dsk.cont
 cases hl:(D.ver n).getLast? with
 | none=>exact .inl Z
 | some p=>exact .inr (List.mem_of_getLast? hl)
theorem fl_has{D:Dsk}{n:Nat}{c:List UInt8}(h:Cx D.fl n c):Cx D n c:=by
 rcases h with rfl|h
 ·exact cont_has D n
 cases h
theorem PInv.flush{D:Dsk}{s:Sup}{rs:List Rc}{e:List (List UInt8)}{a q u:Int}{b:Bool}{sure:Nat}(h:PInv D s rs e a q u b sure):PInv D.fl s rs e a q u b rs.length:=
 ⟨h.fa,h.fq,h.fu,h.ul,h.pb,h.part,h.recs,λi f c d=>h.old i f c (fl_has d),λi c d=>h.last i c d,
  λi c d=>⟨h.last i c (by rw[YS] at d;rw[Yc (XV.1 d).1];exact d),Z⟩,Yp _⟩

theorem ws_dur(ps:List (List UInt8)):∀(D:Dsk) (x:Nat),(D.ws false x ps).dur=D.dur:=by
 induction ps with
 | nil=>intro D x;rfl
 | cons p ps ih=>intro D x;simp only[Dsk.ws];rw[ih];rfl
theorem ws_mem(ps:List (List UInt8)):∀(D:Dsk) (x i:Nat) (c:List UInt8),c∈(D.ws false x ps).ver i->c∈D.ver i\/(x<=i/\ps[i-x]?=some c):=by
 induction ps with
 | nil=>intro D x i c h;exact .inl h
 | cons p ps ih=>
  intro D x i c h;simp only[Dsk.ws] at h;rcases ih _ _ _ _ h with h|⟨b,a⟩
  ·have h:c∈(By D.ver x (D.ver x++[p])) i:=h
   unfold By at h;split at h
   ·rename_i e;subst e
    rcases Yt.1 h with h|h
    ·exact .inl h
    simp at h;subst h;exact .inr ⟨Yp _,by simp⟩
   exact .inl h
  exact .inr ⟨by omega,by rw[show i-x=(i-(x+1))+1 from by omega,Yq];exact a⟩
theorem wr_has{D:Dsk}{x i:Nat}{ps:List (List UInt8)}{c:List UInt8}(h:Cx (D.wr x ps) i c):Cx D i c\/(x<=i/\ps[i-x]?=some c):=by
 rcases h with rfl|h
 ·exact .inl (.inl (congrFun (ws_dur ps {D with f2:=AP D.f2} x) i))
 rcases ws_mem ps {D with f2:=AP D.f2} x i c h with h|h
 ·exact .inl (.inr h)
 exact .inr h
theorem app_has{D:Dsk}{s:Sup}{a:Int}{k:Nat}{ps:List (List UInt8)}(hs:0<=s.start)(e:0<=a/\a<s.len)(l:(ps.length:Int)<=s.len)(i:(k:Int)=min (ps.length:Int) (s.len-a)){n:Nat}{c:List UInt8}(h:Cx (Eb D s a k ps) n c):Cx D n c\/∃j:Nat,ps[j]?=some c/\n=ringAt s (a+j):=by
 have d:∀{n:Nat} {c:List UInt8},Cx (D.wr (s.start+a).toNat (ps.take k)) n c->Cx D n c\/∃j:Nat,ps[j]?=some c/\n=ringAt s (a+j):=λ{n c} h=>by
  rcases wr_has h with h|⟨f,b⟩
  ·exact .inl h
  rw[Yy] at b;split at b
  ·exact .inr ⟨_,b,by rw[ring_low hs e.1 U];omega⟩
  cases b
 unfold Eb at h;split at h
 ·rcases wr_has h with h|⟨f,b⟩
  ·exact d h
  rw[YN] at b;have g:=(XV.1 b).1;exact .inr ⟨_,b,by rw[ring_high hs U U];omega⟩
 exact d h
theorem Fo(D:Dsk)(x:Nat)(ps:List (List UInt8))(j:Nat)(h:j<x\/x+ps.length<=j):(D.wr x ps).ver j=D.ver j:=Dsk.ws_ver false ps {D with f2:=AP D.f2} x j h
theorem Mk{D:Dsk}{s:Sup}{a:Int}{k:Nat}{ps:List (List UInt8)}(hs:0<=s.start)(d:0<=a/\a<s.len)(f:(ps.length:Int)<=s.len)(e:(k:Int)=min (ps.length:Int) (s.len-a)){i:Nat}(b:∀j:Nat,j<ps.length->i≠ringAt s (a+j)):(Eb D s a k ps).ver i=D.ver i:=by
 have c:(D.wr (s.start+a).toNat (ps.take k)).ver i=D.ver i:=by
  refine Fo _ _ _ _ ?_;rw[X1];rcases Yg i (s.start+a).toNat with g|g
  ·exact .inl g
  rcases Yg (i-(s.start+a).toNat) (min k ps.length) with q|q
  ·exact absurd (by rw[ring_low hs d.1 U];omega) (b (i-(s.start+a).toNat) U)
  exact .inr U
 unfold Eb;split
 ·refine (Fo _ _ _ _ ?_).trans c
  rw[Yr];rcases Yg i s.start.toNat with g|g
  ·exact .inl g
  rcases Yg (i-s.start.toNat) (ps.length-k) with q|q
  ·exact absurd (by rw[ring_high hs U U];omega) (b (k+(i-s.start.toNat)) U)
  exact .inr U
 exact c
theorem PInv.at_ok{D:Dsk}{s:Sup}{rs:List Rc}{c:List (List UInt8)}{a q u:Int}{b:Bool}{sure:Nat}(h:PInv D s rs c a q u b sure)(hs:SOk s):0<=a/\a<s.len:=by
 have:=hs.head;rw[h.fa];exact ⟨ZJ _ U,Zs _ U⟩
theorem PInv.ring{D:Dsk}{s:Sup}{rs:List Rc}{c:List (List UInt8)}{a q u:Int}{b:Bool}{sure:Nat}(h:PInv D s rs c a q u b sure)(j:Nat):ringAt s (a+j)=ringAt s (s.head+(((secs s.epoch rs).length+j:Nat):Int)):=by
 have d:=h.fu;rw[h.fa,Iq];congr 1;omega
theorem PInv.app{D:Dsk}{s:Sup}{rs:List Rc}{pt:List (List UInt8)}{a q u:Int}{sure:Nat}(h:PInv D s rs pt a q u false sure)(hs:SOk s){k:Nat}(hl:1<=ims.length/\ims.length<=40)(y:∀m∈ims,m.Ok)(hr:1+(ims.length:Int)<=s.len-u)(hk:(k:Int)=min (1+(ims.length:Int)) (s.len-a)):
  PInv (Eb D s a k (A8 s.epoch q ims)) s (rs++[⟨q,ims⟩]) [] ((a+(1+(ims.length:Int)))%s.len) (q+1) (u+(1+(ims.length:Int))) false sure:=by
 obtain rfl:=h.pb Z;have o:=h.at_ok hs;have hu:=h.fu;have hq:=h.fq;rw[if_neg (by decide)] at hq;have t:=EP s.epoch q ims;have l:(k:Int)=min ((A8 s.epoch q ims).length:Int) (s.len-a):=by rw[t];omega
 have n:(secs s.epoch (rs++[⟨q,ims⟩]))=secs s.epoch rs++A8 s.epoch q ims:=by rw[Ec,Ir]
 have f:∀i:Nat,(i:Int)<s.len->i<(secs s.epoch rs).length->∀j:Nat,j<(A8 s.epoch q ims).length->ringAt s (s.head+i)≠ringAt s (a+j):=λi w a0 j d e=>by
  rw[h.ring] at e;have:=GP hs.start hs.head w U e;omega
 refine ⟨?_,by simp;omega,by rw[n,XY,t];omega,by omega,λ_=>rfl,.inl Z,λj r d=>?_,λi w c b=>?_,λi c b=>?_,λi c b=>?_,by have:=h.sure;simp;omega⟩
 ·rw[h.fa,AaP,Int.add_assoc]
 ·rcases Yg j rs.length with g|g
  ·rw[Yc g] at d;exact h.recs j r d
  rw[Ya g] at d;have:j=rs.length:=by have:=(XV.1 d).1;simp at this;omega
  subst this;simp at d;subst d;exact ⟨by dsimp only;omega,hl,y⟩
 ·rw[YJ,n]
  rcases app_has hs.start o U l b with b|⟨j,d,v⟩
  ·rcases h.old i w c b with g|g
   ·exact .inl g
   rw[YJ] at g;exact .inr (by rw[Yc (XV.1 g).1];exact g)
  have a2:=(XV.1 d).1;rw[h.ring] at v;have:=GP hs.start hs.head w U v;subst this;exact .inr (by rw[Ya U,Zb];exact d)
 ·rw[YJ,n] at b
  rcases Yg i (secs s.epoch rs).length with g|g
  ·rw[Yc g] at b
   rw[app_old hs.start o U l (f i U g)];exact h.last i c (by rw[YJ];exact b)
  rw[Ya g] at b;have:=TU (D:=D) hs.start o U l b;rw[h.ring,show (secs s.epoch rs).length+(i-(secs s.epoch rs).length)=i from by omega] at this;exact this
 rw[X8 h.sure] at b;have p:i<(secs s.epoch rs).length:=by
  have h1:=(XV.1 b).1;have h2:(secs s.epoch rs).length=(secs s.epoch (rs.take sure)).length+(secs s.epoch (rs.drop sure)).length:=by
   rw[<-XY,<-Ec,YG]
  omega
 obtain ⟨h1,h2⟩:=h.dura i c b;have a1:∀c',Cx (Eb D s a k (A8 s.epoch q ims)) (ringAt s (s.head+i)) c'->Cx D (ringAt s (s.head+i)) c':=λc' x=>by
  rcases app_has hs.start o U l x with g|⟨j,d,v⟩
  ·exact g
  exact (f i U p j (XV.1 d).1 v).elim
 have hd:(Eb D s a k (A8 s.epoch q ims)).dur=D.dur:=by
  unfold Eb;split
  ·exact (ws_dur _ _ _).trans (ws_dur _ {D with f2:=AP D.f2} _)
  exact ws_dur _ {D with f2:=AP D.f2} _
 refine ⟨by rw[hd];exact h1,?_⟩;have z:=Mk (D:=D) hs.start o U l (f i U p);rw[z];exact h2
end
section
variable{e q:Int}{ims:List Img}

theorem PInv.fail0{D:Dsk}{s:Sup}{rs:List Rc}{e:List (List UInt8)}{a q u:Int}{sure:Nat}(h:PInv D s rs e a q u false sure):PInv D.wf s rs [] a (q+1) u true sure:=by
 obtain rfl:=h.pb Z;have hq:=h.fq;rw[if_neg (by decide)] at hq;exact ⟨h.fa,by rw[if_pos Z];omega,h.fu,h.ul,λg=>(by cases g),.inl Z,h.recs,λi d c b=>h.old i d c b,λi c b=>h.last i c b,λi c b=>h.dura i c b,h.sure⟩
theorem PInv.fail1{D:Dsk}{s:Sup}{rs:List Rc}{pt:List (List UInt8)}{a q u:Int}{sure:Nat}(h:PInv D s rs pt a q u false sure)(hs:SOk s){k:Nat}(hl:1<=ims.length/\ims.length<=40)(z:∀m∈ims,m.Ok)(hr:1+(ims.length:Int)<=s.len-u)(hk:(k:Int)=min (1+(ims.length:Int)) (s.len-a))(a0:k<1+ims.length):
  PInv (Dsk.wf (D.wr (s.start+a).toNat ((A8 s.epoch q ims).take k))) s rs ((A8 s.epoch q ims).take k) a (q+1) u true sure:=by
 obtain rfl:=h.pb Z;have ha:=h.at_ok hs;have hu:=h.fu;have hq:=h.fq;rw[if_neg (by decide)] at hq;have a2:=EP s.epoch q ims;have f:((A8 s.epoch q ims).take k).length=k:=by rw[X1];omega
 have d:∀j:Nat,j<k->(s.start+a).toNat+j=ringAt s (s.head+(((secs s.epoch rs).length+j:Nat):Int)):=λj o=>by
  rw[<-h.ring,ring_low hs.start ha.1 U]
 have r:∀{n:Nat} {c:List UInt8},Cx (Dsk.wf (D.wr (s.start+a).toNat ((A8 s.epoch q ims).take k))) n c->Cx D n c\/∃j:Nat,((A8 s.epoch q ims).take k)[j]?=some c/\n=ringAt s (s.head+(((secs s.epoch rs).length+j:Nat):Int)):=λ{n c} g=>by
  rcases wr_has (D:=D) (x:=(s.start+a).toNat) (ps:=(A8 s.epoch q ims).take k) g with g|⟨g1,t⟩
  ·exact .inl g
  have o:=(XV.1 t).1;rw[f] at o;exact .inr ⟨_,t,by rw[<-d _ o];omega⟩
 have p:∀i:Nat,i<(secs s.epoch rs).length->ringAt s (s.head+i)<(s.start+a).toNat\/(s.start+a).toNat+((A8 s.epoch q ims).take k).length<=ringAt s (s.head+i):=λi w=>by
  rw[f];rcases Yg (ringAt s (s.head+i)) (s.start+a).toNat with g|g
  ·exact .inl g
  rcases Yg (ringAt s (s.head+i)) ((s.start+a).toNat+k) with t|t
  ·have:=d (ringAt s (s.head+i)-(s.start+a).toNat) U
   have:=GP (i:=i) (j:=(secs s.epoch rs).length+(ringAt s (s.head+i)-(s.start+a).toNat)) hs.start hs.head U U U;omega
  exact .inr t
 have v:∀i:Nat,i<(secs s.epoch rs).length->(Dsk.wf (D.wr (s.start+a).toNat ((A8 s.epoch q ims).take k))).ver (ringAt s (s.head+i))=D.ver (ringAt s (s.head+i)):=λi w=>Fo D _ _ _ (p i w);have l:(Dsk.wf (D.wr (s.start+a).toNat ((A8 s.epoch q ims).take k))).dur=D.dur:=ws_dur ((A8 s.epoch q ims).take k) {D with f2:=AP D.f2} _;have y:q=s.seq+rs.length:=by omega
 refine ⟨h.fa,by rw[if_pos Z];omega,h.fu,h.ul,λg=>(by cases g),.inr ⟨ims,k,⟨hl,z⟩,by rw[<-y],a0,by omega⟩,h.recs,λi w c b=>?_,λi c b=>?_,λi c b=>?_,h.sure⟩
 ·rcases r b with b|⟨j,o,hn⟩
  ·rcases h.old i w c b with g|g
   ·exact .inl g
   rw[YJ] at g;exact .inr (by rw[Yc (XV.1 g).1];exact g)
  have e:=(XV.1 o).1;rw[f] at e;have:=GP hs.start hs.head w U hn;subst this;exact .inr (by rw[Ya U,Zb];exact o)
 ·rcases Yg i (secs s.epoch rs).length with g|g
  ·rw[Yc g] at b
   have:=h.last i c (by rw[YJ];exact b);unfold Dsk.cont at this ⊢;rw[v i g,l];exact this
  rw[Ya g] at b;have e:=(XV.1 b).1;rw[f] at e;have e1:=d (i-(secs s.epoch rs).length) e;rw[show (secs s.epoch rs).length+(i-(secs s.epoch rs).length)=i from by omega] at e1;rw[<-e1];show (D.wr _ _).cont _=c;rw[wr_cont,if_pos U,Zb,b];rfl
 have a1:i<(secs s.epoch rs).length:=by
  have h1:=(XV.1 b).1;have h2:(secs s.epoch rs).length=(secs s.epoch (rs.take sure)).length+(secs s.epoch (rs.drop sure)).length:=by
   rw[<-XY,<-Ec,YG]
  omega
 obtain ⟨h1,h2⟩:=h.dura i c b;exact ⟨by rw[l];exact h1,by rw[v i a1];exact h2⟩

structure Crashed(D D':Dsk):Prop where
 n:D'.n=D.n
 ver:∀i,D'.ver i=[]
 dur:∀i,Cx D i (D'.dur i)
theorem Crashed.cont{D D':Dsk}(h:Crashed D D')(n:Nat):D'.cont n=D'.dur n:=by unfold Dsk.cont;rw[h.ver];rfl
theorem PInv.reads{D D':Dsk}{s:Sup}{rs:List Rc}{d:List (List UInt8)}{a q u:Int}{b:Bool}{sure:Nat}(h:PInv D s rs d a q u b sure)(c:Crashed D D'){i:Nat}(j:(i:Int)<s.len){e:Int}(hq:s.seq<=e)(f:Tg (D'.cont (ringAt s (s.head+i))) s.epoch e):(secs s.epoch rs++d)[i]?=some (D'.cont (ringAt s (s.head+i))):=by
 rcases h.old i j (D'.cont (ringAt s (s.head+i))) (by rw[c.cont];exact c.dur _) with g|g
 ·have:=g _ _ f
  omega
 exact g
theorem PInv.one{D D':Dsk}{s:Sup}{rs:List Rc}{t:List (List UInt8)}{a q u:Int}{b:Bool}{sure:Nat}(h:PInv D s rs t a q u b sure)(hs:SOk s)(hc:Crashed D D')(hq:q<=1099511627776){n:Nat}(hn:n<=rs.length){a' i l:Int}(hu:l=((secs s.epoch (rs.take n)).length:Int))(ha:a'=(s.head+l)%s.len)(a4:i=s.seq+n)
  (x:nextP (Cs D' s a') s.epoch i (s.len-l) ims):∃r,rs[n]?=some r/\r=⟨i,ims⟩:=by
 obtain ⟨n1,n2,n3,n4,n5,n6,n7⟩:=x;have hF:∀j:Nat,Cs D' s a' j=D'.cont (ringAt s (s.head+(((secs s.epoch (rs.take n)).length+j:Nat):Int))):=λj=>by
  show D'.cont (ringAt s (a'+j))=_;rw[ha,Iq];congr 2;omega
 have a2:=n1.2.2.2.1;have rd:∀j:Nat,j<=Bd (Cs D' s a' 0)->Tg (Cs D' s a' j) s.epoch i->(secs s.epoch rs++t)[(secs s.epoch (rs.take n)).length+j]?=some (Cs D' s a' j):=λj e ht=>by
  rw[hF] at ht ⊢;exact h.reads hc U U ht
 have c:=rd 0 U (.inl ⟨n1,n2,n3⟩);have hi:∀j:Nat,j<Bd (Cs D' s a' 0)->(secs s.epoch rs++t)[(secs s.epoch (rs.take n)).length+(1+j)]?=some (Cs D' s a' (1+j)):=λj e=>by
  obtain ⟨g1,g2,g3,_⟩:=n6 j e;exact rd (1+j) U (.inr ⟨g1,g2,g3⟩)
 have a1:=h.fq;have a5:=hs.seq;rcases Yg n rs.length with z|hge
 ·have w:rs[n]?=some rs[n]:=XW z
  obtain ⟨r1,r2,r3⟩:=h.recs n _ w;refine ⟨_,w,?_⟩;have y:=I7 s.epoch w;have hp:=EP s.epoch rs[n].seq rs[n].ims;have g:∀j:Nat,j<1+rs[n].ims.length->(secs s.epoch rs++t)[(secs s.epoch (rs.take n)).length+j]? =(A8 s.epoch rs[n].seq rs[n].ims)[j]? :=λj e=>by
   rw[y,X3,X3,Ya U,Zb,Yc U]
  have e0:=g 0 U;rw[c] at e0;have f:Cs D' s a' 0=sect (Bt s.epoch rs[n].seq rs[n].ims):=by
   simp[A8] at e0;exact e0
  have hC:Bd (Cs D' s a' 0)=rs[n].ims.length:=by rw[f,La r2.2]
  have d:nextP (Cs D' s a') s.epoch rs[n].seq (s.len-l) rs[n].ims:=by
   refine Lc r2 r3 hs.epoch (by split at a1<;>omega) U λj p e=>?_;have a3:=(XV.1 e).1
   cases j with
   | zero=>have:=g 0 U;rw[c,e] at this;exact AaB this
   | succ j=>
    have h1:=hi j U;rw[ZY 1 j] at h1;have:=g (j+1) U;rw[h1,e] at this;exact AaB this
  have o:nextP (Cs D' s a') s.epoch i (s.len-l) ims:=⟨n1,n2,n3,n4,n5,n6,n7⟩;have e1:rs[n].seq=i:=by omega
  rw[e1] at d;have e2:=Ra o d;rw[e2,<-e1]
 have a0:n=rs.length:=by omega
 subst a0;rw[YS] at c hi;rw[Ya U,Aai,AaW] at c;rcases h.part with rfl|⟨m,k,⟨p1,p2⟩,rfl,p3,p4⟩
 ·simp at c
 have v:0<k:=by
  have:=(XV.1 c).1;rw[X1] at this;omega
 rw[Yy,if_pos v] at c;have f:Cs D' s a' 0=sect (Bt s.epoch (s.seq+rs.length) m):=by
  simp[A8] at c;exact c.symm
 have hC:Bd (Cs D' s a' 0)=m.length:=by rw[f,La p1.2]
 have:=hi (k-1) U;rw[Ya U,show (secs s.epoch rs).length+(1+(k-1))-(secs s.epoch rs).length=k from by omega,Yy,if_neg U] at this;cases this
theorem PInv.begins{D D':Dsk}{s:Sup}{rs:List Rc}{p:List (List UInt8)}{a q u:Int}{b:Bool}{sure:Nat}(h:PInv D s rs p a q u b sure)(hs:SOk s)(m:Crashed D D')(hq:q<=1099511627776){c:List Rc}{a' i f:Int}(r:Runs D' s s.head s.seq 0 c a' i f):c.length<=rs.length/\c=rs.take c.length/\f=((secs s.epoch c).length:Int)/\a'=(s.head+f)%s.len/\i=s.seq+c.length:=by
 have d:=r.pos hs.head;refine (λ(g:c.length<=rs.length/\c=rs.take c.length/\f=((secs s.epoch c).length:Int))=>⟨g.1,g.2.1,g.2.2,d.1,d.2.1⟩) ?_;clear d
 induction r with
 | nil=>exact ⟨by simp,by simp,by simp[secs]⟩
 | @snoc a' i f c ims r hlt hn ih=>
  have d:=r.pos hs.head;obtain ⟨n,k,o⟩:=ih;obtain ⟨t,e,j⟩:=h.one hs m hq n (by rw[<-k];exact o) d.1 d.2.1 hn;have l:=(XV.1 e).1;refine ⟨by simp;omega,?_,?_⟩
  ·rw[XY,Zt,Ye,<-k,e,j];rfl
  rw[Ec,XY,Ir,EP];dsimp only;omega
theorem PInv.read{D D':Dsk}{s:Sup}{rs:List Rc}{pt:List (List UInt8)}{a q u:Int}{b:Bool}{sure:Nat}(h:PInv D s rs pt a q u b sure)(hs:SOk s)(t:Crashed D D')(hq:q<=1099511627776){c:List Rc}{a' l i:Int}(r:Runs D' s s.head s.seq 0 c a' l i)(e:s.len<=i\/∀ims,¬nextP (Cs D' s a') s.epoch l (s.len-i) ims):sure<=c.length/\c.length<=rs.length/\c=rs.take c.length:=by
 obtain ⟨g1,g2,g3,g4,g5⟩:=h.begins hs t hq r;refine ⟨?_,g1,g2⟩;rcases Yg c.length sure with v|hge
 ·exfalso
  have a4:=h.sure;have w:=h.fq;have a2:=hs.seq;obtain ⟨d,z⟩:∃d,rs[c.length]?=some d:=⟨_,XW U⟩;obtain ⟨r1,r2,r3⟩:=h.recs _ _ z;have n:(rs.take sure)[c.length]?=some d:=by rw[Yy,if_pos v];exact z
  have f:=I7 s.epoch n;have hp:=EP s.epoch d.seq d.ims;have k:(rs.take sure).take c.length=c:=by rw[YE,Yz U];exact g2.symm
  have a3:(secs s.epoch (rs.take sure)).length<=(secs s.epoch rs).length:=by
   have h2:(secs s.epoch rs).length=(secs s.epoch (rs.take sure)).length+(secs s.epoch (rs.drop sure)).length:=by
    rw[<-XY,<-Ec,YG]
   omega
  have y:(secs s.epoch c).length+(1+d.ims.length)<=(secs s.epoch (rs.take sure)).length:=by
   rw[f,k,XY,XY];omega
  have hu:=h.fu;have a0:=h.ul;have o:nextP (Cs D' s a') s.epoch l (s.len-i) d.ims:=by
   have e1:l=d.seq:=by omega
   rw[e1];refine Lc r2 r3 hs.epoch (by split at w<;>omega) U λj p x=>?_;have a1:=(XV.1 x).1;have m:(secs s.epoch (rs.take sure))[(secs s.epoch c).length+j]?=some p:=by
    rw[f,k,X3,Ya U,Zb,Yc U];exact x
   obtain ⟨d1,d2⟩:=h.dura _ _ m;show D'.cont (ringAt s (a'+j))=p;rw[g4,Iq,show s.head+i+(j:Int)=s.head+(((secs s.epoch c).length+j:Nat):Int) from by omega,t.cont];rcases t.dur (ringAt s (s.head+(((secs s.epoch c).length+j:Nat):Int))) with g|g
   ·rw[g,d1]
   rw[d2] at g;cases g
  rcases e with g|g
  ·omega
  exact g _ o
 exact hge
end
structure Pg where
 kind:Int
 body:List UInt8
def Pg.Ok(p:Pg):Prop:=(1<=p.kind/\p.kind<=5)/\p.body.length=240
def DP:Pg:=⟨0,[]⟩
def Ga(n:Nat)(p:Pg):List UInt8:=[80,80,65,71]++Ae 1 p.kind++Ae 4 (n:Int)++[0,0,0]++p.body
theorem EQ{n:Nat}{p:Pg}(h:p.Ok):(Ga n p).length=252:=by simp[Ga,Ac,h.2]
def Dk(n:Nat)(p:Pg):List UInt8:=sect (Ga n p)
theorem De{n:Nat}{p:Pg}(h:p.Ok):(Dk n p).length=256:=sect_len (YY (EQ h))
def HomeP(c:List UInt8)(n:Nat)(p:Pg):Prop:=(c=List.replicate 256 0/\p=DP)\/(p.Ok/\c=Dk n p)
theorem Le{n:Nat}{p:Pg}(h:p.Ok):(Dk n p).take 4=[80,80,65,71]:=by
 have a:=EQ (n:=n) h;have:=BB (l:=Ga n p) U (p:=0) (k:=4) U;rw[Ym,Ym] at this;unfold Dk;rw[this];rfl
theorem HW{n:Nat}{p:Pg}(h:p.Ok):Dk n p≠List.replicate 256 0:=λe=>by
 have:=Le (n:=n) h;rw[e] at this;exact absurd this (by decide)
def GQ(x:Sup):List UInt8:=[80,83,85,80]++x.list.flatMap (Ae 8)
theorem Ak(x:Sup):(GQ x).length=60:=by simp[GQ,Sup.list,Ac]
def Br(x:Sup):List UInt8:=sect (GQ x)
theorem Dn(x:Sup):(Br x).length=256:=sect_len (by rw[Ak];omega)
def ER(m:Img):Pg:=⟨m.kind,m.body⟩
theorem ES{m:Img}(h:m.Ok):(ER m).Ok:=⟨h.2.1,h.2.2⟩
abbrev Bc:=Nat->Option Pg
def pgSet(f:Bc)(n:Nat)(p:Pg):Bc:=λi=>if i=n then some p else f i
def CQ:Bc:=λ_=>none
def FZ(f g:Bc):Bc:=λi=>(g i).or (f i)
def DN(f:Bc)(ims:List Img):Bc:=ims.foldl (λf m=>pgSet f m.num.toNat (ER m)) f
def ov(rs:List Rc):Bc:=rs.foldl (λf r=>DN f r.ims) CQ
theorem HB(rs:List Rc)(r:Rc):ov (rs++[r])=DN (ov rs) r.ims:=by simp[ov,Zj]
def pgMap(f:Bc)(B:Nat->Pg):Nat->Pg:=λi=>(f i).getD (B i)
theorem Rh(f:Bc)(ims:List Img)(m:Img):DN f (ims++[m])=pgSet (DN f ims) m.num.toNat (ER m):=by simp[DN,Zj]
theorem MJ(ims:List Img):∀(f:Bc) (n:Nat),(DN f ims n).isSome=((f n).isSome||ims.any λm=>decide (m.num.toNat=n)):=by
 induction ims with
 | nil=>intro f n;simp[DN]
 | cons m ims ih=>
  intro f n;have:DN f (m::ims)=DN (pgSet f m.num.toNat (ER m)) ims:=rfl;rw[this,ih];unfold pgSet;by_cases h:n=m.num.toNat
  ·subst h;simp
  have a:¬m.num.toNat=n:=λe=>h e.symm;simp[h,a]
theorem ovI_get{f:Bc}{ims:List Img}{n:Nat}{p:Pg}(h:DN f ims n=some p):f n=some p\/∃m∈ims,m.num.toNat=n/\p=ER m:=by
 induction ims generalizing f with
 | nil=>exact .inl h
 | cons m ims ih=>
  have e:DN f (m::ims)=DN (pgSet f m.num.toNat (ER m)) ims:=rfl;rw[e] at h;rcases ih h with g|⟨a,b,d,c⟩
  ·unfold pgSet at g
   split at g
   ·rename_i e;cases g;exact .inr ⟨m,by simp,e.symm,Z⟩
   exact .inl g
  exact .inr ⟨a,by simp[b],d,c⟩
theorem I8:∀(k:Nat) (rs:List Rc),rs.length=k->∀{n:Nat} {p:Pg},ov rs n=some p->∃r∈rs,∃m∈r.ims,m.num.toNat=n/\p=ER m:=by
 intro k
 induction k with
 | zero=>intro rs d n p h;obtain rfl:=ZR.1 d;cases h
 | succ k ih=>
  intro rs d n p h;obtain ⟨c,r,rfl⟩:∃c r,rs=c++[r]:=⟨rs.dropLast,rs.getLast (by intro e;subst e;simp at d),(List.dropLast_concat_getLast (by intro e;subst e;simp at d)).symm⟩;rw[HB] at h;rcases ovI_get h with g|⟨m,f,j,i⟩
  ·obtain ⟨l,a,b⟩:=ih c (by simpa using d) g;exact ⟨l,by simp[a],b⟩
  exact ⟨r,by simp,m,f,j,i⟩
def hwD(D:Dsk)(l:List (Nat×Pg)):Dsk:=l.foldl (λD x=>D.wr (2+x.1) [Dk x.1 x.2]) D
theorem Ri(D:Dsk)(l:List (Nat×Pg))(x:Nat×Pg):hwD D (l++[x])=(hwD D l).wr (2+x.1) [Dk x.1 x.2]:=by simp[hwD,Zj]
theorem hwD_cons(D:Dsk)(l:List (Nat×Pg))(x:Nat×Pg):hwD D (x::l)=hwD (D.wr (2+x.1) [Dk x.1 x.2]) l:=rfl
theorem O7(D:Dsk)(x:Nat)(ps:List (List UInt8)):(D.wr x ps).dur=D.dur:=ws_dur ps {D with f2:=AP D.f2} x
theorem Ed(l:List (Nat×Pg)):∀D:Dsk,(hwD D l).n=D.n:=by
 induction l with
 | nil=>intro D;rfl
 | cons x l ih=>intro D;rw[hwD_cons,ih,Dsk.wr_n]
theorem I9(l:List (Nat×Pg)):∀D:Dsk,(hwD D l).dur=D.dur:=by
 induction l with
 | nil=>intro D;rfl
 | cons x l ih=>intro D;rw[hwD_cons,ih,O7]
theorem hw_has(l:List (Nat×Pg)):∀(D:Dsk) (i:Nat) (c:List UInt8),Cx (hwD D l) i c->Cx D i c\/∃x∈l,i=2+x.1/\c=Dk x.1 x.2:=by
 induction l with
 | nil=>intro D i c h;exact .inl h
 | cons x l ih=>
  intro D i c h;rw[hwD_cons] at h;rcases ih _ _ _ h with g|⟨y,b,e,d⟩
  ·rcases wr_has g with g|⟨f,a⟩
   ·exact .inl g
   have:i-(2+x.1)=0:=by
    have:=(XV.1 a).1;simp at this;omega
   rw[this] at a;simp at a;exact .inr ⟨x,by simp,by omega,a.symm⟩
  exact .inr ⟨y,by simp[b],e,d⟩
theorem Ja(l:List (Nat×Pg)):∀(D:Dsk) (i:Nat),(∀x∈l,i≠2+x.1)->(hwD D l).ver i=D.ver i:=by
 induction l with
 | nil=>intro D i _;rfl
 | cons x l ih=>
  intro D i h;rw[hwD_cons,ih _ _ (λy a=>h y (by simp[a]))];refine Fo _ _ _ _ ?_;have:=h x O;simp only[XZ,X4];omega
theorem hw_cont_out(l:List (Nat×Pg))(D:Dsk)(i:Nat)(h:∀x∈l,i≠2+x.1):(hwD D l).cont i=D.cont i:=by
 unfold Dsk.cont;rw[Ja l D i h,I9]
theorem S6(l:List (Nat×Pg)):∀(D:Dsk),(l.map Prod.fst).Nodup->∀x∈l,(hwD D l).cont (2+x.1)=Dk x.1 x.2:=by
 induction l with
 | nil=>intro D _ x h;cases h
 | cons y l ih=>
  intro D b x a;rw[hwD_cons];simp only[Yn,Y8] at b;rcases YO.1 a with rfl|a
  ·rw[hw_cont_out]
   ·rw[wr_cont,if_pos (Yp _),AaW];rfl
   intro z c e;exact b.1 (X6.2 ⟨z,c,by omega⟩)
  exact ih _ b.2 x a
theorem Lf(l:List (Nat×Pg)):∀(D:Dsk) (i:Nat),(l.map Prod.fst).Nodup->((hwD D l).ver i).length<=(D.ver i).length+1:=by
 induction l with
 | nil=>intro D i _;show (D.ver i).length<=_;omega
 | cons y l ih=>
  intro D i a;rw[hwD_cons];simp only[Yn,Y8] at a;by_cases hi:i=2+y.1
  ·rw[Ja]
   ·exact Dsk.wr_len _ _ _ _
   intro z c e;exact a.1 (X6.2 ⟨z,c,by omega⟩)
  have b:=ih (D.wr (2+y.1) [Dk y.1 y.2]) i a.2;rw[Fo D _ _ i (by simp only[XZ,X4];omega)] at b;exact b

def En(D:Dsk)(x:Sup):Dsk:= {Dsk.ws {D with f2:=AP D.f2} true (x.gen%2).toNat [Br x] with left:=max 0 (D.left-1)}
theorem Gb(D:Dsk)(x:Sup):(En D x).dur (x.gen%2).toNat=Br x/\(En D x).ver (x.gen%2).toNat=[]:=by
 constructor
 ·show (By D.dur _ _) _=_;simp[By]
 show (By D.ver _ _) _=_;simp[By]
theorem DU(D:Dsk)(x:Sup)(i:Nat)(h:i≠(x.gen%2).toNat):(En D x).dur i=D.dur i/\(En D x).ver i=D.ver i:=by
 constructor
 ·show (By D.dur _ _) _=_;unfold By;rw[if_neg h]
 show (By D.ver _ _) _=_;unfold By;rw[if_neg h]
section
abbrev FX(ro:Option Nat):Fence:= {Fence.wide with round:=ro}
def RW(P:Program)(ro:Option Nat)(c:Code)(Q:Exit->Act->World->Prop)(a:Act)(w:World):Prop:=c.wpIn (FX ro) 0 P Q a w
section
variable{P:Program}{ro:Option Nat}{N R:Act->World->Prop}{X:Nat->Act->World->Prop}{a:Act}{w:World}{n:Nat}{ds:List Deferred}{L:List (Nat×Value)}
theorem CR{x y:Code}(h:∀a,Fr n ds L a->RW P ro x (Qp (λa w=>RW P ro y (Qp N X R) a w) X R) a w):∀a,Fr n ds L a->RW P ro (Code.seq x y) (Qp N X R) a w:=λa b=>
 wpIn_seq (wpIn_mono (h a b) λe a w q=>by cases e<;>exact q)
theorem HC(h:∀a,Fr n ds L a->N a w):∀a,Fr n ds L a->RW P ro Code.skip (Qp N X R) a w:=λa b=>wpIn_skip (h a b)
theorem MK{id:Nat}(h:∀a,Fr n ds L a->X id a w):∀a,Fr n ds L a->RW P ro (Code.exit id) (Qp N X R) a w:=λa b=>wpIn_exit (h a b)
theorem ET{id:Nat}{c:Code}(h:∀a,Fr n ds L a->RW P ro c (Qp N (upd X id N) R) a w):∀a,Fr n ds L a->RW P ro (Code.block id c) (Qp N X R) a w:=λa b=>
 wpIn_block (wpIn_mono (h a b) λe a w q=>by cases e<;>exact q)
theorem TV{c:Operand}{x y:Code}(d:ev L c=some (.bool true))(h:∀a,Fr n ds L a->RW P ro x (Qp N X R) a w):∀a,Fr n ds L a->RW P ro (Code.cond c x y) (Qp N X R) a w:=λa b=>wpIn_cond_true (b.ev d) (h a b)
theorem Is{c:Operand}{x y:Code}(d:ev L c=some (.bool false))(h:∀a,Fr n ds L a->RW P ro y (Qp N X R) a w):∀a,Fr n ds L a->RW P ro (Code.cond c x y) (Qp N X R) a w:=λa b=>wpIn_cond_false (b.ev d) (h a b)
theorem JH{c:Operand}{x y:Code}{b:Bool}(d:ev L c=some (.bool b))(f:b=true->∀a,Fr n ds L a->RW P ro x (Qp N X R) a w)(e:b=false->∀a,Fr n ds L a->RW P ro y (Qp N X R) a w):∀a,Fr n ds L a->RW P ro (Code.cond c x y) (Qp N X R) a w:=by
 cases b with
 | true=>exact TV d (f Z)
 | false=>exact Is d (e Z)
theorem VC{c:Operand}{x y:Code}{p:Prop}[hp:Decidable p](b:ev L c=some (.bool (decide p)))(e:p->∀a,Fr n ds L a->RW P ro x (Qp N X R) a w)(d:¬p->∀a,Fr n ds L a->RW P ro y (Qp N X R) a w):∀a,Fr n ds L a->RW P ro (Code.cond c x y) (Qp N X R) a w:=
 JH b (λh=>e (of_decide_eq_true h)) (λh=>d (of_decide_eq_false h))
theorem ML{c:Code}{σ:Type}(h:σ->List (Nat×Value))(G:σ->World->Prop)(m:σ->Nat)(z:σ)
  (h₀:∀a,Fr n ds L a->Fr n ds (h z) a)(g₀:G z w)
  (f:∀s w,G s w->∀a,Fr n ds (h s) a->RW P ro c (Qp (λa' w'=>∃p,Fr n ds (h p) a'/\G p w'/\m p<m s) X R) a w):∀a,Fr n ds L a->RW P ro (Code.loop c) (Qp N X R) a w:=by
 intro a hF b k cs y j i;have q:∀n' s a w,m s=n'->Fr n ds (h s) a->G s w->
   ∃e a' w',Qp N X R e a' w'/\ArrivesIn (Machine.fenced P (FX ro)) P (lone (b.atR a (.code c:: .inLoop c::k)) cs w) b k cs e a' w':=by
  intro n'
  induction n' using Nat.strongRecOn with
  | _ n' ih=>
   intro s a w hn hI hG;obtain ⟨e,v,t,hq,d⟩:=f s w hG a hI b (.inLoop c::k) cs y j i
   cases e with
   | normal=>
    obtain ⟨s₁,u,a0,r⟩:=hq;obtain ⟨e₂,a₂,w₂,o,g⟩:=ih (m s₁) (hn▸r) s₁ v t Z u a0;exact ⟨e₂,a₂,w₂,o,.of_steps (StepsIn.trans d (.one (fenced_calm j i Z) stepR_inLoop)) g⟩
   | exit id=>exact ⟨.exit id,v,t,hq,.pass (x:=.inLoop c) Z (λ_ _=>.inl O) d⟩
   | ret=>exact ⟨.ret,v,t,hq,.pass (x:=.inLoop c) Z (λ_ _=>.inl O) d⟩
   | goto l=>exact hq.elim
   | panic ch=>exact hq.elim
   | outgrown=>exact hq.elim
 obtain ⟨e,a',w',hq,d⟩:=q _ z a w Z (h₀ a hF) g₀;exact ⟨e,a',w',hq,.of_steps (.one (fenced_calm j i Z) stepR_loop) d⟩

def Ct(o:Oper):Bool:=match o.op with| .defer _=>false|_=>true
theorem NR{o:Oper}(h:Ct o=true):∀c,o.op≠ .defer c:=λc e=>by rw[Ct,e] at h;cases h
theorem Lg(o:Oper)(h:Ct o=true)(ρ:Operand->Value):Oper.semAt ro ρ o=execOp ρ o:=by
 cases ro with
 | none=>rfl
 | some l=>exact Oper.semAt_some l ρ o (NR h)
theorem Rj{f:FuncId}{args:Array Value}{E:Ending->World->Prop}(h:Calls P f args w E)(k:Nat):CallsIn (FX ro) k P f args w E:=callsIn_wide.2 h
theorem TW{a:String}{args:Array Value}{E:Value->World->Prop}(h:Rows P a args w E)(k:Nat):RowsIn (FX ro) k P a args w E:=λc cs _=>
 let ⟨v,w',r,s⟩:=h c cs;⟨v,w',r,stepsIn_wide.2 s⟩
theorem MM{o:Oper}(c:Ct o=true){K:Act->World->Prop}(h:o.wp P a w K (Qp N X R)):o.wpIn (FX ro) 0 P a w K (Qp N X R):=by
 refine ⟨λ_ _=>trivial,?_⟩;rw[show (FX ro).round=ro from Z,Lg o c];unfold Oper.wp at h
 cases hr:(execOp a.eval o).run P w with
 | ok x w'=>
  rw[hr] at h;cases x<;>simp only[Oper.upon,Oper.uponIn] at h ⊢ <;>first
   | exact h
   | exact h.elim
   | exact ⟨λq=>(by cases q),Rj (Aaw h λe b q=>by cases e<;>exact q) _⟩
   | exact ⟨λq=>(by cases q),TW h _⟩
 | halt x w'=>
  rw[hr] at h;cases x<;>simp only[Oper.upon,Oper.uponIn] at h ⊢ <;>first
   | exact h
   | exact h.elim
theorem O8{Q:Exit->Act->World->Prop}{N R:Act->World->Prop}{X:Nat->Act->World->Prop}(b:Q=Qp N X R):¬LetsOut Q:=by
 subst b;rintro ⟨a,w,h⟩;exact h
theorem JI{ops:Array Oper}:∀(l:List Oper) (a:Act) (w:World),l.all Ct=true->wpList P ops (Qp N X R) l a w->wpListIn (FX ro) 0 P ops (Qp N X R) l a w
 | [],_,_,_,h=>h
 | o::rest,a,w,hd,h=>by
  simp only[List.all_cons,Yl] at hd;unfold wpList at h;unfold wpListIn;split
  ·rename_i hw
   rw[if_pos hw] at h;rcases h with h|⟨_,h⟩
   ·exact Oper.wpIn_mono (λa w q=>JI rest a w hd.2 q) (MM hd.1 h)
   exact absurd h (O8 Z)
  rename_i hw;rw[if_neg hw] at h;exact ⟨λ_ _=>trivial,JI rest _ _ hd.2 h⟩
theorem Cb{id:Nat}{ops:List Oper}(h:∀a,Fr n ds L a->wpList P ops.toArray (Qp N X R) ops a w)(b:ops.all Ct=true:=by rfl):∀a,Fr n ds L a->RW P ro (Code.region id ops.toArray false) (Qp N X R) a w:=λa c=>
 wpIn_region_lit (JI ops a w b (h a c))
theorem WQ{ops:Array Oper}(d:ops.toList.all Ct=true){i:Nat}{K:Act->World->Prop}(h:wpOp P ops (Qp N X R) i K a w):wpOpIn (FX ro) 0 P ops (Qp N X R) i K a w:=by
 unfold wpOp at h;unfold wpOpIn;split
 ·rename_i e;rw[e] at h;exact h
 rename_i o e;rw[e] at h;simp only at h;have b:Ct o=true:=Aap.1 d o (by
  have:=Array.mem_of_getElem? e;simpa using this)
 split
 ·rename_i c
  rw[if_pos c] at h;rcases h with h|⟨_,h⟩
  ·exact MM b h
  exact absurd h (O8 Z)
 rename_i c;rw[if_neg c] at h;exact ⟨λ_ _=>trivial,h⟩
theorem Lh{ops:Array Oper}(hd:ops.toList.all Ct=true):∀(fuel:Nat) (listed:Array Bool) (a:Act) (w:World),wpAny P .any ops (Qp N X R) fuel listed a w->wpAnyIn (FX ro) 0 P .any ops (Qp N X R) fuel listed a w
 | 0,_,_,_,h=>h
 | fuel+1,_,_,_,h=>⟨h.1,λi hi=>wpOpIn_mono (λa w q=>Lh hd fuel _ a w q) (WQ hd (h.2 i hi))⟩
theorem Kl{id:Nat}{ops:List Oper}(S:World->Prop)(k:Nat)(b:ops.length=k)(d:P.follows .mixedOrders=true)
  (h:∀w',Ext No w w'->w'.heap.size=w.heap.size->∀a,Fr n ds L a->Fx P ops (Qp N X R) S k (Array.replicate k false) a w')(e:ops.all Ct=true:=by rfl):∀a,Fr n ds L a->RW P ro (Code.region id ops.toArray true) (Qp N X R) a w:=λa c=>
 wpIn_region_any d (Lh (by simpa using e) _ _ _ _ (GB (S:=S) _ _ _ _ (by have:=h _ (Ext.drawn No w) Z a c (Dc.start _ _) (by simp[b]);simpa [b] using this)))
theorem O9{id:Nat}{ops:List Oper}(C:World->Prop)(f:P.follows .mixedOrders=true)(d:Region.lexB .any ops.toArray=true)(g:C w.drew)
  (h:∀a,Fr n ds L a->wpQuiet P ops.toArray C (λa'=>∀w',C w'->N a' w') ops a)(i:ops.all Ct=true:=by rfl):∀a,Fr n ds L a->RW P ro (Code.region id ops.toArray true) (Qp N X R) a w:=λa e=>by
 refine wpIn_region_any f (Lh (by simpa using i) _ _ _ _ ?_);have b:=d;simp only[Region.lexB,Yl] at b;refine wpAny_of_quiet (C:=C) (Q:=λa'=>∀w',C w'->N a' w') (λ_ w' c h=>h w' c) _ _ _ _ g ?_;have:=wpAnyQ_lex (C:=C) (md:=.any) b.1 ops.toArray.toList 0 (Array.replicate ops.toArray.size false) a O (by simpa using b.2) (h a e);simpa using this

section steps
variable{ops:List Oper}{Q:Exit->Act->World->Prop}{rest:List Oper}{o:Oper}{d:Nat}{v:Value}
theorem Li{id:Nat}(h:∀a,Fr n ds L a->wpListIn (FX ro) 0 P ops.toArray (Qp N X R) ops a w):∀a,Fr n ds L a->RW P ro (Code.region id ops.toArray false) (Qp N X R) a w:=λa b=>wpIn_region_lit (h a b)
theorem S7(h:∀a,Fr n ds L a->N a w):∀a,Fr n ds L a->wpListIn (FX ro) 0 P ops.toArray (Qp N X R) [] a w:=h
theorem EC(h:Bv ops L o.guard=true)(g:o.dst=some d)(c:Nat.blt d n=true)(f:Ao P (· =w) n ds L o v)(K:∀a',Fr n ds ((d,v)::L) a'->wpListIn (FX ro) 0 P ops.toArray Q rest a' w)(e:Ct o=true:=by rfl):∀a,Fr n ds L a->wpListIn (FX ro) 0 P ops.toArray Q (o::rest) a w:=by
 intro a b;unfold wpListIn;rw[if_pos (wantL_ok b h)];refine ⟨λ_ _=>trivial,?_⟩;rw[show (FX ro).round=ro from Z,Lg o e,f a b w Z,Oper.uponIn_value,g];exact K _ (b.put d v c)
theorem MN{l:Nat}{x:Operand}{args:List Operand}{vs:List Value}{tys:Array TypeId}{E:Ending->World->Prop}(hw:Bv ops L o.guard=true)(hd:o.dst=some d)(k:Nat.blt d n=true)
  (p:o.op=.call {callee:=.value x,args:=args.toArray,argTypes:=tys})(t:ev L x=some (.func (.yield l) #[] #[]))(g:evs L args=some vs)(i:YieldAt (FX none) 0 P l vs.toArray w E)
  (u:∀e w',E e w'->∃v,e=.returned v/\∀a',Fr n ds ((d,v)::L) a'->wpListIn (FX ro) 0 P ops.toArray Q rest a' w'):∀a,Fr n ds L a->wpListIn (FX ro) 0 P ops.toArray Q (o::rest) a w:=by
 intro a j;obtain ⟨r,c,b,f,i,z⟩:=i;have m:Ct o=true:=by rw[Ct,p]
 unfold wpListIn;rw[if_pos (wantL_ok j hw)];refine ⟨λ_ _=>trivial,?_⟩;have y:=j.evs g;have e2:=j.ev t;have h:(execOp a.eval o).run P w=.ok (.round l r c b f) w:=by
  unfold execOp;simp only[p,resolve,e2,Deferred.ofValue,invoke];simp only[go_sem,Yv,y,Yo,YJ,i];simpa using i
 rw[show (FX ro).round=ro from Z,Lg o m,h,Oper.uponIn_round];refine ⟨λq=>(by cases q),RoundIn.mono (show RoundIn (FX ro) 0 P l r c b f w E from z) λe w' q=>?_⟩;obtain ⟨v,rfl,s⟩:=u e w' q;simp only[hd];exact s _ (j.put d v k)
end steps
end

def It(P:Program)(gf:FuncId)(lb:List Value)(pre:List Ai)(vs:List (List Value)):Prop:=
 ∀(z:World) (l:Nat) (J_:Nat->List Ai),(∀i v,vs[i]?=some v->∀w,Sep z (pre++J_ i) w->YieldAt (FX none) 0 P l v.toArray w (λe w'=>e=.returned (.bool true)/\Sep z (pre++J_ (i+1)) w'))->
  ∀w,Sep z (pre++J_ 0) w->CallsIn (FX none) 0 P gf (#[Value.func (.yield l) #[] #[]]++lb.toArray) w (λe w'=>(∃v,e=.returned v)/\Sep z (pre++J_ vs.length) w')
theorem Lj{P:Program}{gf:FuncId}{d:Func}{c:Code}{args:List Value}{w:World}{T:World->Prop}(i:P.funcs[gf]?=some d)(g:d.body=some c)(f:d.results= #[])(n:Nat)(j:d.ntmps=n)(b:Nat.ble args.length n=true)
  (h:∀a,Fr n [] (first 0 args) a->RW P none c (Qp (λa w=>a.defers=[]/\T w) GW (λa w=>a.defers=[]/\T w)) a w):CallsIn (FX none) 0 P gf args.toArray w (λe w'=>(∃v,e=.returned v)/\T w'):=by
 refine callsIn_of_wp i g trivial (wpIn_mono (h _ (by rw[j];exact Fr.start args n (by simpa using b))) λe a w q=>?_) Z
 cases e with
 | normal=>exact ⟨q.1,.tuple #[],by simp[results,f,go_sem],⟨_,Z⟩,q.2⟩
 | ret=>exact ⟨q.1,.tuple #[],by simp[results,f,go_sem],⟨_,Z⟩,q.2⟩
 | exit id=>exact q.elim
 | goto l=>exact q.elim
 | panic ch=>exact q.elim
 | outgrown=>exact q.elim
def mark(D:Nat):Deferred:= {target:=.collected D,args:= #[]}
def Bx(st:LoopState)(fn:FuncId)(tmps:Array Value)(t:Nat)(assign body:Code)(D:Nat):Obj:=.loop {state:=st,pending:=none,fn,tmps,params:= #[t],assign,body,defers:=D}
theorem Sep.setObj{z w:World}{Γ:List Ai}(i:Nat){b:Nat}{o:Obj}(o':Obj)(H:Sep z Γ w)(c:Γ[i]?=some (YthbbejpbkglmlaaGreatDoor.bk b o)):Sep z (Γ.set i (YthbbejpbkglmlaaGreatDoor.bk b o')) (w.putObj b o'):=by
 have e:=H.bk i c;have a:b<w.heap.size:=(YI.1 e).1;exact H.write i c Z Z Z (World.putObj_heap_same a) (λk d=>World.putObj_heap_other d)
theorem TX{P:Program}{N R:Act->World->Prop}{X:Nat->Act->World->Prop}{z w:World}{n:Nat}{ds:List Deferred}{L:List (Nat×Value)}{g:Operand}{t:Nat}{assign body:Code}{gf:FuncId}{s:List Value}{pre:List Ai}{vs:List Value}
  (J_:Nat->List Ai)(hg:ev L g=some (.func (.func gf) #[] s.toArray))(eg:∀args w,(callFunc gf args).run P w=.ok (.enter gf args) w)(ht:Nat.blt t n=true)(a5:It P gf s pre (vs.map λv=>[v]))(H:Sep z (J_ 0++pre) w)
  (c:∀(ro:Option Nat) (i:Nat) (v:Value),vs[i]?=some v->∀w a,Fr n [] ((t,v)::L) a->
   RW P ro assign (Qp (λa1 w1=>w1=w/\∀(F:List Ai) (w:World),Sep z (J_ i++(pre++F)) w->RW P ro body (Qp (λ_ r=>Sep z (J_ (i+1)++(pre++F)) r) GW (λ_ _=>False)) a1 w) GW (λ_ _=>False)) a w)
  (K:∀D w',Sep z (YthbbejpbkglmlaaGreatDoor.bk D (.deferred (some []))::(J_ vs.length++pre)) w'->∀a,Fr n (mark D::ds) L a->N a w'):
  ∀a,Fr n ds L a->(Code.rangeFunc g #[t] assign body).wp P (Qp N X R) a w:=by
 intro a p;refine (wpIn_wide (n:=0)).1 ?_;refine wpIn_rangeFunc ?_;intro fn _;have a0:Fence.wide.round=none:=rfl;rw[a0];obtain ⟨W1,f⟩:∃W1,(w.alloc (.deferred (some []))).alloc (Bx .ready fn a.tmps t assign body w.heap.size)=W1:=⟨_,Z⟩;obtain ⟨D,hD⟩:∃D,D=w.heap.size:=⟨_,Z⟩;obtain ⟨T,y⟩:∃T:List Ai,T=[YthbbejpbkglmlaaGreatDoor.bk D (.deferred (some [])),YthbbejpbkglmlaaGreatDoor.bk (D+1) (Bx .ready fn a.tmps t assign body D)]:=⟨_,Z⟩;have H1:Sep z (pre++(T++J_ 0)) W1:=by
  have h1:=H.new (b:=w.heap.size) (o:=.deferred (some [])) (CH w (.deferred (some []))) (Yp _) (by show (w.heap.push _)[w.heap.size]?=_;simp);have h2:=h1.new (b:=w.heap.size+1) (o:=Bx .ready fn a.tmps t assign body w.heap.size) (CH _ (Bx .ready fn a.tmps t assign body w.heap.size)) O (by
   show ((w.heap.push _).push _)[w.heap.size+1]?=_;rw[AaE,if_pos O])
  have h3:Sep z (YthbbejpbkglmlaaGreatDoor.bk (w.heap.size+1) (Bx .ready fn a.tmps t assign body w.heap.size)::YthbbejpbkglmlaaGreatDoor.bk w.heap.size (.deferred (some []))::(J_ 0++pre)) W1:=f▸h2;have h4:=(h3.pick 2 [1,0] Z);have h5:Sep z (T++(J_ 0++pre)) W1:=by rw[y,hD];exact h4
  exact (Sep.swap (As:=T++J_ 0) (Bs:=pre) (by rw[X3];exact h5))
 refine ⟨w.heap.size+1,[mark w.heap.size],W1,{target:=.fn (.func gf) s.toArray,args:= #[.func (.yield (w.heap.size+1)) #[] #[]]},W1,gf,#[.func (.yield (w.heap.size+1)) #[] #[]]++s.toArray,W1,?_,?_,λ_ _=>trivial,?_,λq=>(by cases q),?_⟩
 ·rw[<-f];exact run_enterLoop_outer _ _ _ _ _
 ·simp only[resolve,p.ev hg]
  simp[go_sem]
 ·simp[invoke,go_sem,eg]
 rw[<-hD] at f ⊢;have d:∀{i:Nat} {w:World},Sep z (pre++(T++J_ i)) w->Sep z (YthbbejpbkglmlaaGreatDoor.bk D (.deferred (some []))::YthbbejpbkglmlaaGreatDoor.bk (D+1) (Bx .ready fn a.tmps t assign body D)::(J_ i++pre)) w:=λh=>by
  have:=h.swap;rw[X3,y] at this;exact this
 have k:∀(i:Nat) (w:World),Sep z (YthbbejpbkglmlaaGreatDoor.bk D (.deferred (some []))::YthbbejpbkglmlaaGreatDoor.bk (D+1) (Bx .ready fn a.tmps t assign body D)::(J_ i++pre)) w->Sep z (pre++(T++J_ i)) w:=λi w h=>by
  have h':Sep z (T++(J_ i++pre)) w:=by rw[y];exact h
  exact (Sep.swap (As:=T++J_ i) (Bs:=pre) (by rw[X3];exact h'))
 have a4:=a5 z (D+1) (λi=>T++J_ i) ?_ W1 H1
 ·refine CallsIn.mono (show CallsIn Fence.wide 0 P gf _ W1 _ from a4) ?_
  rintro e w2 ⟨⟨v,rfl⟩,H2⟩;simp only[X9] at H2;have H2:=d H2;refine ⟨none,_,run_endLoop (H2.bk 1 Z) O,?_⟩;refine K D _ ?_ _ ⟨p.size,by show [mark D]++a.defers=_;rw[p.defers];rfl,p.get⟩;have H3:=H2.setObj 1 (.loop {state:=.exhausted,pending:=none,fn,tmps:=a.tmps,params:= #[t],assign,body,defers:=D}) Z;exact H3.pick 2 [0] Z
 intro i v hv w2 H2;rw[Yb] at hv;obtain ⟨u,hu,rfl⟩:=ZV.1 hv;have H2:=d H2;have hy:=run_yield (P:=P) (args:=[u].toArray) (H2.bk 1 Z) O;refine ⟨fn,_,assign,body,hy,?_⟩;refine roundIn_of_wpIn (F:=FX none) trivial ?_;have a2:Fr n [] ((t,u)::L) {tmps:=(((#[t]:Array Tmp).zip [u].toArray).foldl (λtmps (x:Tmp×Value)=>tmps.setIfInBounds x.1 x.2) a.tmps),defers:=[]} :=by
  have h0:Fr n [] L {tmps:=a.tmps,defers:=[]} :=⟨p.size,Z,p.get⟩;have:=h0.put t u ht;simpa [Act.put] using this
 have hr:=c (some (D+1)) i u hu w2 _ a2;refine wpIn_mono (show assign.wpIn ((FX none).inRound (D+1)) 0 P _ _ w2 from hr) ?_;intro e a1 w1 q
 cases e with
 | normal=>
  obtain ⟨rfl,j⟩:=q;refine ⟨_,run_beginRound (H2.bk 1 Z) Z,?_⟩;have H3:=H2.setObj 1 (Bx .busy fn a.tmps t assign body D) Z;have H4:Sep z ([YthbbejpbkglmlaaGreatDoor.bk D (.deferred (some [])),YthbbejpbkglmlaaGreatDoor.bk (D+1) (Bx .busy fn a.tmps t assign body D)]++(J_ i++pre)) _:=H3;have H5:=H4.swap;rw[X3] at H5;refine wpIn_mono (show body.wpIn ((FX none).inRound (D+1)) 0 P _ _ _ from j _ _ H5) ?_;intro e a3 r m
  cases e with
  | normal=>
   have H6:Sep z (J_ (i+1)++(pre++[YthbbejpbkglmlaaGreatDoor.bk D (.deferred (some [])),YthbbejpbkglmlaaGreatDoor.bk (D+1) (Bx .busy fn a.tmps t assign body D)])) r:=m;rw[<-X3] at H6;have H7:Sep z (YthbbejpbkglmlaaGreatDoor.bk D (.deferred (some []))::YthbbejpbkglmlaaGreatDoor.bk (D+1) (Bx .busy fn a.tmps t assign body D)::(J_ (i+1)++pre)) r:=H6.swap;refine ⟨_,_,run_endRound none (H7.bk 1 Z),Z,k _ _ ?_⟩;exact H7.setObj 1 (Bx .ready fn a.tmps t assign body D) Z
  | exit id=>exact m.elim
  | ret=>exact m.elim
  | goto l=>exact m.elim
  | panic ch=>exact m.elim
  | outgrown=>exact m.elim
 | exit id=>exact q.elim
 | ret=>exact q.elim
 | goto l=>exact q.elim
 | panic ch=>exact q.elim
 | outgrown=>exact q.elim

def Jb(P:Program)(fn:Func)(R:Value->World->Prop)(a:Act)(w:World):Prop:=
 (a.defers=[]/\∃v,(results fn a.tmps).run P w=.ok v w/\R v w)\/∃D w',a.defers=[mark D]/\(Instr.takeDeferred D).run P w=.ok [] w'/\∃v,(results fn a.tmps).run P w'=.ok v w'/\R v w'
theorem Pa{P:Program}{f:FuncId}{b:Func}{c:Code}{args:List Value}{w:World}{R:Value->World->Prop}(o:P.funcs[f]?=some b)(m:b.body=some c)(n:Nat)(p:b.ntmps=n)(d:Nat.ble args.length n=true)
  (h:∀a,Fr n [] (first 0 args) a->c.wp P (Qp (Jb P b R) GW (Jb P b R)) a w):Calls P f args.toArray w (Ret R):=by
 refine (callsIn_wide (n:=0)).1 (callsIn_of_wp_marks o m trivial (wpIn_mono ((wpIn_wide (n:=0)).2 (h _ (by rw[p];exact Fr.start args n (by simpa using d)))) λe a w q=>?_) Z);have fin:Jb P b R a w->LeavesInM Fence.wide 0 P b a.tmps (Ret R) a.defers .returning w:=λq=>by
  rcases q with ⟨j,v,g,i⟩|⟨D,w',j,k,v,g,i⟩
  ·rw[j];exact ⟨v,g,i⟩
  rw[j];exact ⟨by simp,.inl ⟨D,w',Z,k,v,g,i⟩⟩
 cases e with
 | normal=>exact fin q
 | ret=>exact fin q
 | exit id=>exact q.elim
 | goto l=>exact q.elim
 | panic ch=>exact q.elim
 | outgrown=>exact q.elim
theorem Lk{P:Program}{b:Func}{R:Value->World->Prop}{n:Nat}{L:List (Nat×Value)}{w:World}{rs:List ResultVar}(f:b.results=rs.toArray)(vs:List Value)(c:DQ P L w rs vs){v:Value}(d:FM vs=v)(h:R v w):∀a,Fr n [] L a->Jb P b R a w:=λa e=>.inl (FN f vs c d h a e)
theorem Pb{P:Program}{c:Func}{R:Value->World->Prop}{n D:Nat}{L:List (Nat×Value)}{z w:World}{Γ:List Ai}(H:Sep z (YthbbejpbkglmlaaGreatDoor.bk D (.deferred (some []))::Γ) w){rs:List ResultVar}(d:c.results=rs.toArray)(vs:List Value)(e:∀w,DQ P L w rs vs){v:Value}(f:FM vs=v)(h:∀w,Sep z Γ w->R v w):∀a,Fr n [mark D] L a->Jb P c R a w:=λa b=>
 .inr ⟨D,w.putObj D (.deferred none),b.defers,run_takeDeferred (H.bk 0 Z),v,by rw[<-f];exact FW b d (e _),h _ ((H.setObj 0 (.deferred none) Z).pick 1 [] Z)⟩
end
section
def Gc(r m clk:Nat)(seen:List Nat):Ai:=bk r (.mapIter (some m) clk seen.toArray clk)
def BT(l:List IE)(seen:List Nat):List IE:=l.filter λp=> !seen.contains p.2.2
theorem Dl{l:List IE}{seen:List Nat}{p:IE}(h:p∈BT l seen):p∈l/\p.2.2∉seen:=by
 simpa [BT] using h
theorem Pc(l:List IE)(seen:List Nat):(l.map BX).toArray.filter (λe=> !seen.toArray.contains e.born)=((BT l seen).map BX).toArray:=by
 simp[BT,List.filter_map,Function.comp_def];rfl
theorem ED{l:List IE}{seen:List Nat}{p:IE}(h:p∈BT l seen):(BT l (seen++[p.2.2])).length<(BT l seen).length:=by
 obtain ⟨b,c⟩:=Dl h;unfold BT;refine filter_lt _ _ (λx a=>?_) p ?_ ?_ l b
 ·simp only[List.contains_eq_mem,Yt,Bool.not_eq_true',decide_eq_false_iff_not,not_or] at a ⊢;exact a.1
 ·simpa using c
 simp
def Pd:Option IE->Value
 | none=>.tuple #[.bool false]
 | some p=>.tuple #[.bool true,.int .i64 p.1,p.2.1]
def HX(seen:List Nat):Option IE->List Nat
 | none=>seen
 | some p=>seen++[p.2.2]
def Xr(l:List IE)(seen:List Nat):Option IE->Prop
 | none=>BT l seen=[]
 | some p=>p∈BT l seen
section
variable{P:Program}{C:World->Prop}{o:Oper}{w z:World}{Γ:List Ai}{n:Nat}{ds:List Deferred}{L:List (Nat×Value)}{x y:Operand}
theorem Ml{r m clk:Nat}{seen:List Nat}{l:List IE}(n:w.heap[r]?=some (.mapIter (some m) clk seen.toArray clk))(hm:w.heap[m]?=some (.map (l.map BX).toArray clk))(c:∀p∈l,p.2.2<clk)(ty:TypeId):
  ∃q:Option IE,Xr l seen q/\∃a:World,(a=w\/a=w.drew)/\(Instr.next (V r) false ty).run P w=.ok (Pd q) {a with heap:=a.heap.setIfInBounds r (.mapIter (some m) clk (HX seen q).toArray clk)} :=by
 have a0:r<w.heap.size:=(YI.1 n).1;have hE:∀x∈(l.map BX).toArray.toList,x.born<clk:=λx d=>by
  simp only[X6] at d;obtain ⟨p,hp,rfl⟩:=d;exact c p hp
 simp only[Instr.next,getObj,Yd,Sem.run,n,hm,Result.andThen,next_test_false seen.toArray _ clk clk hE (Yp _),YW,if_false];rw[Pc];have b:∀p∈BT l seen,p.2.2<clk:=λp hp=>c p (Dl hp).1;generalize hG:BT l seen=G at b;have e1:((G.map BX).toArray).filter (λx=>decide (x.born<clk))=(G.map BX).toArray:=Array.filter_eq_self.2 (λx d=>by
  simp only[List.mem_toArray,X6] at d;obtain ⟨p,hp,rfl⟩:=d;exact decide_eq_true (b p hp))
 have e2:((G.map BX).toArray).filter (λx=>decide (x.born>=clk))= #[]:=by
  rw[Array.filter_eq_empty_iff];intro x d;simp only[List.mem_toArray,X6] at d;obtain ⟨p,hp,rfl⟩:=d;have:=b p hp;simp[BX];omega
 simp only[e1,e2,Array.append_empty];have i:∀u:World,u.heap=w.heap->({u with heap:=u.heap.setIfInBounds r (.mapIter (some m) clk seen.toArray clk)} :World)=u:=λu hu=>by
  have:u.heap.setIfInBounds r (.mapIter (some m) clk seen.toArray clk)=u.heap:=by
   rw[hu];apply Array.ext_getElem?;intro k;rw[Array.getElem?_setIfInBounds];split
   ·rename_i e;subst e;exact n.symm
   rfl
  rw[this]
 cases G with
 | nil=>
  refine ⟨none,hG,w,.inl Z,?_⟩;show _=Result.ok _ ({w with heap:=w.heap.setIfInBounds r (.mapIter (some m) clk seen.toArray clk)} :World);rw[i w Z];simp[choose,Sem.run,Question.forced,Pd]
 | cons p0 G=>
  have s:((((p0::G).map BX).toArray).isEmpty)=false:=by simp[Array.isEmpty]
  simp only[s,YW,if_false,Array.empty_append,Array.size_map];generalize hK:(p0::G)=K at hG;have v:0<K.length:=by rw[<-hK];simp
  have t:∃(j:Nat) (a:World),j<K.length/\(a=w\/a=w.drew)/\(choose (Question.mapNext ((K.map BX).toArray).size)).run P w=.ok j a:=by
   by_cases hf:((K.map BX).toArray).size<=1
   ·exact ⟨0,w,by omega,.inl Z,by simp only[choose,Sem.run,Question.forced,hf,decide_true,if_true]⟩
   rw[List.size_toArray,X9] at hf ⊢;exact ⟨(Question.mapNext K.length).cut (w.tape w.drawn (Question.mapNext K.length)),w.drew,Nat.mod_lt _ v,.inr Z,by
    simp only[choose,Sem.run,Question.forced,decide_eq_true_eq,hf,if_false,YW];rfl⟩
  obtain ⟨j,a,z,g,h⟩:=t;have o:a.heap=w.heap:=by rcases g with rfl|rfl<;>rfl
  refine ⟨some K[j],by show K[j]∈BT l seen;rw[hG];exact ZE z,a,g,?_⟩;have f:∀o':Obj,(setObj r o').run P a=.ok () {a with heap:=a.heap.setIfInBounds r o'} :=λo'=>by
   simp[setObj,Sem.run,o,n]
  have y:((K.map BX).toArray)[j]?=some (BX K[j]):=by simp[z]
  simp only[h,Array.getElem?_map,y,Yu,Yd,f,Result.andThen];simp[Pd,HX,BX,Sem.run]
theorem HD(j:Nat){t e:TypeId}{m clk:Nat}{l:List IE}(H:Sep z Γ w)(b:Γ[j]?=some (AG m l clk))(d:o.op=.range t x)(g:DR P t=some e)(c:ev L x=some (.map (some m))):
  BL P n ds L o w (λv w'=>∃r,v=V r/\Sep z (Gc r m clk []::Γ) w'):=λa h=>by
 obtain ⟨i,k,f,p⟩:=Di g;refine ⟨_,_,?_,w.heap.size,Z,H.new (CH w (.mapIter (some m) clk #[] clk)) (Yp _) (by show (w.heap.push _)[w.heap.size]?=_;simp)⟩;simp only[execOp,d,h.ev c,Yd,run_range_map w t i e m _ clk f (H.bk j b),X7,Yh];rfl
theorem Jc(i j:Nat){r m clk:Nat}{l:List IE}{seen:List Nat}(H:Sep z Γ w)(s:Γ[i]?=some (Gc r m clk seen))(u:Γ[j]?=some (AG m l clk))(ho:o.op=.next x false)(y:ev L x=some (V r))(c:∀p∈l,p.2.2<clk):
  BL P n ds L o w (λv w'=>∃q:Option IE,v=Pd q/\Xr l seen q/\Sep z (Γ.set i (Gc r m clk (HX seen q))) w'):=λa hF=>by
 have h:=H.bk i s;obtain ⟨q,hq,b,f,d⟩:=Ml (P:=P) h (H.bk j u) c o.type;have g:r<w.heap.size:=(YI.1 h).1;have e:b.heap=w.heap/\b.os=w.os/\b.tape=w.tape/\b.output=w.output:=by rcases f with rfl|rfl<;>exact ⟨Z,Z,Z,Z⟩
 refine ⟨_,{b with heap:=b.heap.setIfInBounds r (.mapIter (some m) clk (HX seen q).toArray clk)},?_,q,Z,hq,H.write i s e.2.1 e.2.2.1 e.2.2.2 (o':=.mapIter (some m) clk (HX seen q).toArray clk) (by show (b.heap.setIfInBounds r _)[r]?=_;rw[e.1];simp[g]) (λk t=>by show (b.heap.setIfInBounds r _)[k]?=_;rw[e.1];rw[Zg (ZI t)])⟩;simp only[execOp,ho,hF.ev y,Yd,d,X7,Yh]
theorem KN{q:Option IE}(a:o.op=.extract x 0)(b:ev L x=some (Pd q)):Ao P C n ds L o (.bool q.isSome):=by
 cases q with
 | none=>exact E1 a b Z
 | some p=>exact E1 a b Z
theorem HE{r m clk:Nat}{l:List IE}{seen:List Nat}{p:IE}(c:o.op=.entry x)(b:ev L x=some (V r))(e:∀w,C w->w.heap[r]?=some (.mapIter (some m) clk (seen++[p.2.2]).toArray clk)/\w.heap[m]?=some (.map (l.map BX).toArray clk))(hp:p∈l)(i:(l.map (·.2.2)).Nodup):
  Ao P C n ds L o (.tuple #[Aa p.1,p.2.1]):=λa f w j=>by
 obtain ⟨d,g⟩:=e w j;have h:((l.map BX).toArray).find? (λx=>x.born==p.2.2)=some (BX p):=by
  rw[<-Array.find?_toList];exact find_born (BX p) _ (by simpa [Function.comp_def,BX] using i) (YP hp)
 simp only[execOp,c,f.ev b,Instr.entry,getObj,Yd,Sem.run,d,g,Result.andThen,<-List.push_toArray,Array.back?_push,bne_self_eq_false,YW,if_false,h];rfl
theorem JJ(i:Nat){t e:TypeId}{m clk:Nat}{l:List IE}(H:Sep z Γ w)(f:Γ[i]?=some (AG m l clk))(h:o.op=.call {callee:=.builtin .clear,args:= #[x],argTypes:= #[t]})(k:DR P t=some e)(g:ev L x=some (.map (some m))):
  BL P n ds L o w (λv w'=>v=.tuple #[]/\Sep z (Γ.set i (AG m [] clk)) w'):=λa p=>by
 obtain ⟨u,r,j,s⟩:=Di k;have c:w.heap[m]?=some (.map (l.map BX).toArray clk):=H.bk i f;have d:m<w.heap.size:=(YI.1 c).1;have b:(Builtin.clear_ #[t] o.type #[.map (some m)]).run P w=.ok (.tuple #[]) {w with heap:=w.heap.setIfInBounds m (.map #[] clk)} :=by
  simp[Builtin.clear_,run_underlying j,getObj,setObj,Sem.run,c]
 refine ⟨_,{w with heap:=w.heap.setIfInBounds m (.map #[] clk)},?_,Z,H.write i f Z Z Z (by show (w.heap.setIfInBounds m (.map #[] clk))[m]?=_;simp[d]) (λq hq=>by show (w.heap.setIfInBounds m _)[q]?=_;rw[Zg (ZI hq)])⟩;simp only[execOp,h,resolve,invoke,builtin,Yd,Yh,X7,Yv,Yn,Y2,p.ev g,b]
end
def VD(P:Program)(gf:FuncId)(lb:List Value)(pre:List Ai){σ:Type}(stp:σ->Value->σ->Prop)(s0:σ)(fin:σ->Prop):Prop:=
 ∀(z:World) (l:Nat) (J_:σ->List Ai),(∀s v s' F,stp s v s'->∀w,Sep z (pre++(F++J_ s)) w->YieldAt (FX none) 0 P l #[v] w (λe w'=>e=.returned (.bool true)/\Sep z (pre++(F++J_ s')) w'))->
  ∀w,Sep z (pre++J_ s0) w->CallsIn (FX none) 0 P gf (#[Value.func (.yield l) #[] #[]]++lb.toArray) w (λe w'=>(∃v,e=.returned v)/\∃s,fin s/\Sep z (pre++J_ s) w')
theorem Rk{P:Program}{N R:Act->World->Prop}{X:Nat->Act->World->Prop}{z w:World}{n:Nat}{ds:List Deferred}{L:List (Nat×Value)}{g:Operand}{t:Nat}{assign body:Code}{gf:FuncId}{lb:List Value}{pre:List Ai}{σ:Type}{a0:σ->Value->σ->Prop}{r:σ}{fin:σ->Prop}
  (J_:σ->List Ai)(hg:ev L g=some (.func (.func gf) #[] lb.toArray))(eg:∀args w,(callFunc gf args).run P w=.ok (.enter gf args) w)(ht:Nat.blt t n=true)(a6:VD P gf lb pre a0 r fin)(H:Sep z (J_ r++pre) w)
  (c:∀(ro:Option Nat) (i:σ) (v:Value) (k:σ),a0 i v k->∀w a,Fr n [] ((t,v)::L) a->
   RW P ro assign (Qp (λa1 w1=>w1=w/\∀(F:List Ai) (w:World),Sep z (J_ i++(pre++F)) w->RW P ro body (Qp (λ_ w3=>Sep z (J_ k++(pre++F)) w3) GW (λ_ _=>False)) a1 w) GW (λ_ _=>False)) a w)
  (K:∀D w' s,fin s->Sep z (YthbbejpbkglmlaaGreatDoor.bk D (.deferred (some []))::(J_ s++pre)) w'->∀a,Fr n (mark D::ds) L a->N a w'):
  ∀a,Fr n ds L a->(Code.rangeFunc g #[t] assign body).wp P (Qp N X R) a w:=by
 intro a y;refine (wpIn_wide (n:=0)).1 ?_;refine wpIn_rangeFunc ?_;intro fn _;have a2:Fence.wide.round=none:=rfl;rw[a2];obtain ⟨W1,f⟩:∃W1,(w.alloc (.deferred (some []))).alloc (Bx .ready fn a.tmps t assign body w.heap.size)=W1:=⟨_,Z⟩;obtain ⟨D,hD⟩:∃D,D=w.heap.size:=⟨_,Z⟩;obtain ⟨T,hT⟩:∃T:List Ai,T=[YthbbejpbkglmlaaGreatDoor.bk D (.deferred (some [])),YthbbejpbkglmlaaGreatDoor.bk (D+1) (Bx .ready fn a.tmps t assign body D)]:=⟨_,Z⟩;have H1:Sep z (pre++(T++J_ r)) W1:=by
  have h1:=H.new (b:=w.heap.size) (o:=.deferred (some [])) (CH w (.deferred (some []))) (Yp _) (by show (w.heap.push _)[w.heap.size]?=_;simp);have h2:=h1.new (b:=w.heap.size+1) (o:=Bx .ready fn a.tmps t assign body w.heap.size) (CH _ (Bx .ready fn a.tmps t assign body w.heap.size)) O (by
   show ((w.heap.push _).push _)[w.heap.size+1]?=_;rw[AaE,if_pos O])
  have h3:Sep z (YthbbejpbkglmlaaGreatDoor.bk (w.heap.size+1) (Bx .ready fn a.tmps t assign body w.heap.size)::YthbbejpbkglmlaaGreatDoor.bk w.heap.size (.deferred (some []))::(J_ r++pre)) W1:=f▸h2;have h4:=(h3.pick 2 [1,0] Z);have h5:Sep z (T++(J_ r++pre)) W1:=by rw[hT,hD];exact h4
  exact (Sep.swap (As:=T++J_ r) (Bs:=pre) (by rw[X3];exact h5))
 refine ⟨w.heap.size+1,[mark w.heap.size],W1,{target:=.fn (.func gf) lb.toArray,args:= #[.func (.yield (w.heap.size+1)) #[] #[]]},W1,gf,#[.func (.yield (w.heap.size+1)) #[] #[]]++lb.toArray,W1,?_,?_,λ_ _=>trivial,?_,λq=>(by cases q),?_⟩
 ·rw[<-f];exact run_enterLoop_outer _ _ _ _ _
 ·simp only[resolve,y.ev hg]
  simp[go_sem]
 ·simp[invoke,go_sem,eg]
 rw[<-hD] at f ⊢;have d:∀{G:List Ai} {i:σ} {w:World},Sep z (G++(T++J_ i)) w->Sep z (YthbbejpbkglmlaaGreatDoor.bk D (.deferred (some []))::YthbbejpbkglmlaaGreatDoor.bk (D+1) (Bx .ready fn a.tmps t assign body D)::(J_ i++G)) w:=λh=>by
  have:=h.swap;rw[X3,hT] at this;exact this
 have m:∀(G:List Ai) (i:σ) (w:World),Sep z (YthbbejpbkglmlaaGreatDoor.bk D (.deferred (some []))::YthbbejpbkglmlaaGreatDoor.bk (D+1) (Bx .ready fn a.tmps t assign body D)::(J_ i++G)) w->Sep z (G++(T++J_ i)) w:=λG i w h=>by
  have h':Sep z (T++(J_ i++G)) w:=by rw[hT];exact h
  exact (Sep.swap (As:=T++J_ i) (Bs:=G) (by rw[X3];exact h'))
 have a5:=a6 z (D+1) (λi=>T++J_ i) ?_ W1 H1
 ·refine CallsIn.mono (show CallsIn Fence.wide 0 P gf _ W1 _ from a5) ?_
  rintro e w2 ⟨⟨v,rfl⟩,s,hs,H2⟩;have H2:=d H2;refine ⟨none,_,run_endLoop (H2.bk 1 Z) O,?_⟩;refine K D _ s hs ?_ _ ⟨y.size,by show [mark D]++a.defers=_;rw[y.defers];rfl,y.get⟩;have H3:=H2.setObj 1 (.loop {state:=.exhausted,pending:=none,fn,tmps:=a.tmps,params:= #[t],assign,body,defers:=D}) Z;exact H3.pick 2 [0] Z
 intro i u k F hu w2 H2;rw[<-X3] at H2;have H2:=d H2;have hy:=run_yield (P:=P) (args:=[u].toArray) (H2.bk 1 Z) O;refine ⟨fn,_,assign,body,hy,?_⟩;refine roundIn_of_wpIn (F:=FX none) trivial ?_;have a4:Fr n [] ((t,u)::L) {tmps:=(((#[t]:Array Tmp).zip [u].toArray).foldl (λtmps (x:Tmp×Value)=>tmps.setIfInBounds x.1 x.2) a.tmps),defers:=[]} :=by
  have h0:Fr n [] L {tmps:=a.tmps,defers:=[]} :=⟨y.size,Z,y.get⟩;have:=h0.put t u ht;simpa [Act.put] using this
 have hr:=c (some (D+1)) i u k hu w2 _ a4;refine wpIn_mono (show assign.wpIn ((FX none).inRound (D+1)) 0 P _ _ w2 from hr) ?_;intro e a1 w1 q
 cases e with
 | normal=>
  obtain ⟨rfl,j⟩:=q;refine ⟨_,run_beginRound (H2.bk 1 Z) Z,?_⟩;have H3:=H2.setObj 1 (Bx .busy fn a.tmps t assign body D) Z;have H4:Sep z ([YthbbejpbkglmlaaGreatDoor.bk D (.deferred (some [])),YthbbejpbkglmlaaGreatDoor.bk (D+1) (Bx .busy fn a.tmps t assign body D)]++(J_ i++(pre++F))) _:=H3;have H5:=H4.swap;rw[X3,X3] at H5;refine wpIn_mono (show body.wpIn ((FX none).inRound (D+1)) 0 P _ _ _ from j _ _ H5) ?_;intro e a3 w3 p
  cases e with
  | normal=>
   have H6:Sep z (J_ k++(pre++(F++[YthbbejpbkglmlaaGreatDoor.bk D (.deferred (some [])),YthbbejpbkglmlaaGreatDoor.bk (D+1) (Bx .busy fn a.tmps t assign body D)]))) w3:=p;rw[<-X3 pre,<-X3 (J_ k)] at H6;have H7:Sep z (YthbbejpbkglmlaaGreatDoor.bk D (.deferred (some []))::YthbbejpbkglmlaaGreatDoor.bk (D+1) (Bx .busy fn a.tmps t assign body D)::(J_ k++(pre++F))) w3:=H6.swap;refine ⟨_,_,run_endRound none (H7.bk 1 Z),Z,?_⟩;rw[<-X3];refine m _ _ _ ?_;exact H7.setObj 1 (Bx .ready fn a.tmps t assign body D) Z
  | exit id=>exact p.elim
  | ret=>exact p.elim
  | goto l=>exact p.elim
  | panic ch=>exact p.elim
  | outgrown=>exact p.elim
 | exit id=>exact q.elim
 | ret=>exact q.elim
 | goto l=>exact q.elim
 | panic ch=>exact q.elim
 | outgrown=>exact q.elim
theorem Rl{P:Program}{N R:Act->World->Prop}{X:Nat->Act->World->Prop}{z w:World}{n:Nat}{ds:List Deferred}{L:List (Nat×Value)}{g:Operand}{t:Nat}{b f:Code}{gf:FuncId}{r:List Value}{pre:List Ai}{σ:Type}{j:σ->Value->σ->Prop}{o:σ}{fin:σ->Prop}
  (J_:σ->List Ai)(x:ev L g=some (.func (.func gf) #[] r.toArray))(u:∀args w,(callFunc gf args).run P w=.ok (.enter gf args) w)(y:Nat.blt t n=true)(m:VD P gf r pre j o fin)(H:Sep z (J_ o++pre) w)
  (d:∀(ro:Option Nat) (i:σ) (v:Value) (k:σ),j i v k->∀w a,Fr n [] ((t,v)::L) a->
   RW P ro b (Qp (λa1 p=>p=w/\∀(F:List Ai) (w:World),Sep z (J_ i++F) w->RW P ro f (Qp (λ_ w3=>Sep z (J_ k++F) w3) GW (λ_ _=>False)) a1 w) GW (λ_ _=>False)) a w)
  (K:∀D w' s,fin s->Sep z (YthbbejpbkglmlaaGreatDoor.bk D (.deferred (some []))::(J_ s++pre)) w'->∀a,Fr n (mark D::ds) L a->N a w'):
  ∀a,Fr n ds L a->(Code.rangeFunc g #[t] b f).wp P (Qp N X R) a w:=
 Rk J_ x u y m H (λro i v k h w a hF=>by
  refine wpIn_mono (d ro i v k h w a hF) ?_;intro e a1 p q
  cases e with
  | normal=>exact ⟨q.1,λF w hs=>q.2 _ w hs⟩
  | exit id=>exact q.elim
  | ret=>exact q.elim
  | goto l=>exact q.elim
  | panic c=>exact q.elim
  | outgrown=>exact q.elim) K
end
section
section
variable{P:Program}{C:World->Prop}{o:Oper}{a:Act}{w z:World}{Γ:List Ai}{n:Nat}{ds:List Deferred}{L:List (Nat×Value)}{v:Value}{x y:Operand}{xt yt:TypeId}{f:FuncId}{args:List Operand}{vs:List Value}{tys:Array TypeId}
theorem MO{w':World}(d:Fr n ds L a)(g:o.op=.call {callee:=.value (.func f),args:=args.toArray,argTypes:=tys})(b:evs L args=some vs)(c:(callFunc f vs.toArray).run P w=.ok (.value v) w'):(execOp a.eval o).run P w=.ok (.value v) w':=by
 unfold execOp;have e:=d.evs b;simp only[g,resolve,Act.eval,Deferred.ofValue,invoke];simp only[go_sem,Yv,e,Yo,YJ,c];simpa using c
theorem FT(e:o.op=.call {callee:=.value (.func f),args:=args.toArray,argTypes:=tys})(b:evs L args=some vs)(d:∀w,C w->(callFunc f vs.toArray).run P w=.ok (.value v) w):Ao P C n ds L o v:=λa g w c=>MO g e b (d w c)
theorem NS(i:Nat){b p:Nat}{cs:List Value}{ty:TypeId}{u u0:Value}(H:Sep z Γ w)(h:Γ[i]?=some (blk b cs ty))(hp:cs[p]?=some u0)(j:o.op=.call {callee:=.value (.func f),args:=args.toArray,argTypes:=tys})(c:evs L args=some vs)(r:u.oneCell'=true)
  (k:w.cell? ⟨b,p,none⟩=some u0->w.frozen? ⟨b,p,none⟩=false->(callFunc f vs.toArray).run P w=.ok (.value v) (w.setCell ⟨b,p,none⟩ u)){out:List Value}(d:cs.set p u=out):BL P n ds L o w (λv' w'=>v'=v/\Sep z (Γ.set i (blk b out ty)) w'):=λa l=>by
 have e:=H.blk i h;refine ⟨v,_,MO l j c (k (e.cel p hp) (e.free p)),Z,?_⟩;subst d;have g:w.heap[b]?=some (.cells cs.toArray ty (0,0)):=e;refine H.write i h Z Z Z ?_ (λq hq=>?_)
 ·simp only[World.setCell]
  rw[Zu,if_pos Z,g];simp
 simp[World.setCell,Zu,ZI hq]
def Ll(P:Program)(s d:TypeId):Bool:=match P.underlying s,P.underlying d with
 | some (.pointer t),some .unsafePointer=>(match P.info? t with|some i=> !(decide (i.size=0))|none=>false)
 | _,_=>false
theorem Lm{e:TypeId}{b p:Nat}{u:Value}(g:o.op=.convert xt e x)(c:Ll P xt e=true)(f:ev L x=some (.pointer (some ⟨b,p,none⟩)))(h:∀w,C w->EK b p u w):Ao P C n ds L o (.pointer (some ⟨b,p,none⟩)):=λa k w l=>by
 unfold Ll at c;split at c
 ·rename_i t hs m
  split at c
  ·rename_i i j
   have d:(P.info? t).map (λi=>decide (i.size=0))=some false:=by rw[j];simpa using c
   have:=run_convert_to_unsafe (P:=P) hs m d (h w l);simp only[execOp,g,k.ev f,Yd,this,X7,Yh]
  cases c
 cases c
end

def S8(P:Program)(f:FuncId)(args:List Value)(pre:List Ai)(post:Value->List Ai->Prop):Prop:=
 ∀z R u w,Sep z (pre++R) w->CallsD P f args.toArray u w (λe u' w'=>u'=u/\Ret (λv w'=>∃Γ',post v Γ'/\Sep z (Γ'++R) w') e w')
theorem Ln{P:Program}{f:FuncId}{d:Func}{c:Code}{args:List Value}{u:FrameMode}{w:World}{R:Value->World->Prop}(m:P.funcs[f]?=some d)(k:d.body=some c)(n:Nat)(o:d.ntmps=n)(b:Nat.ble args.length n=true)
  (h:∀a,Fr n [] (first 0 args) a->c.wp P (Qp (E9 P d R) GW (E9 P d R)) a w):CallsD P f args.toArray u w (λe u' w'=>u'=u/\Ret R e w'):=by
 refine callsD_of_wp m k (wp_mono (h _ (by rw[o];exact Fr.start args n (by simpa using b))) λe a w q=>?_)
 cases e with
 | normal=>obtain ⟨j,v,g,i⟩:=q;exact ⟨j,v,g,i⟩
 | ret=>obtain ⟨j,v,g,i⟩:=q;exact ⟨j,v,g,i⟩
 | exit id=>exact q.elim
 | goto l=>exact q.elim
 | panic ch=>exact q.elim
 | outgrown=>exact q.elim
def HF(P:Program)(fn:Func)(R:Value->World->Prop)(a:Act)(w:World):Prop:=Leaves P fn a.tmps (Ret R) a.defers .returning w
theorem Pe{P:Program}{f:FuncId}{d:Func}{c:Code}{args:List Value}{w:World}{R:Value->World->Prop}(i:P.funcs[f]?=some d)(g:d.body=some c)(n:Nat)(j:d.ntmps=n)(b:Nat.ble args.length n=true)
  (h:∀a,Fr n [] (first 0 args) a->c.wp P (Qp (HF P d R) GW (HF P d R)) a w):Calls P f args.toArray w (Ret R):=by
 refine calls_of_wp_defers i g (wp_mono (h _ (by rw[j];exact Fr.start args n (by simpa using b))) λe a w q=>?_)
 cases e with
 | normal=>exact q
 | ret=>exact q
 | exit id=>exact q.elim
 | goto l=>exact q.elim
 | panic ch=>exact q.elim
 | outgrown=>exact q.elim
def dfr(f:FuncId)(vs:List Value):Deferred:= {target:=.fn (.func f) #[],args:=vs.toArray}
theorem FB{P:Program}{d:Func}{a:Array Value}{Rr:Ending->World->Prop}{ds:List Deferred}{z w:World}{Γ pre R':List Ai}{post:Value->List Ai->Prop}{f:FuncId}{vs:List Value}(h:∀w,(callFunc f vs.toArray).run P w=.ok (.enter f vs.toArray) w)
  (j:S8 P f vs pre post)(H:Sep z Γ w)(k:Nat)(b:List Nat)(c:Fw k b=true)(e:C5 Γ b++Γ.drop k=pre++R')(K:∀v w' Γ',post v Γ'->Sep z (Γ'++R') w'->Leaves P d a Rr ds .returning w'):Leaves P d a Rr (dfr f vs::ds) .returning w:=by
 refine leaves_cons (f:=f) (args:=vs.toArray) O (by simp[invoke,go_sem,h]) ?_;refine CallsD.mono (j z R' .returning w (H.perm k b c e)) λe l w' q=>?_;obtain ⟨rfl,q⟩:=q
 cases e with
 | returned v=>obtain ⟨Γ',g,i⟩:=q;exact K v w' Γ' g i
 | panicked ch=>exact q.elim
 | outgrown=>exact q.elim
theorem WR{P:Program}{b:Func}{R:Value->World->Prop}{a:Array Value}{w:World}(c:b.results= #[])(h:R (.tuple #[]) w):Leaves P b a (Ret R) [] .returning w:=⟨.tuple #[],by simp[results,c,go_sem],h⟩
section
variable{P:Program}{ops:List Oper}{Q:Exit->Act->World->Prop}{w:World}{rest:List Oper}{o:Oper}{n:Nat}{ds:List Deferred}{L:List (Nat×Value)}{f:FuncId}{args:List Operand}{vs:List Value}{tys:Array TypeId}
theorem JK(h:Bv ops L o.guard=true)(i:o.dst=none)(g:o.op=.defer {callee:=.value (.func f),args:=args.toArray,argTypes:=tys})(b:evs L args=some vs)
  (K:∀a',Fr n (dfr f vs::ds) L a'->wpList P ops.toArray Q rest a' w):∀a,Fr n ds L a->wpList P ops.toArray Q (o::rest) a w:=by
 intro a c;unfold wpList;rw[if_pos (wantL_ok c h)];left;have e:=c.evs b;have d:(execOp a.eval o).run P w=.ok (.defer (dfr f vs)) w:=by
  unfold execOp;simp only[g,resolve,Act.eval,Deferred.ofValue,Yv,e];simp[go_sem,dfr]
 unfold Oper.wp;rw[d,Oper.upon_defer,i];exact K _ ⟨c.size,by show dfr f vs::a.defers=_;rw[c.defers],c.get⟩
theorem TY{z:World}{Γ pre R':List Ai}{post:Value->List Ai->Prop}{d:Nat}{x:Operand}{bs:List Value}(hw:Bv ops L o.guard=true)(hd:o.dst=some d)(l:Nat.blt d n=true)(m:o.op=.call {callee:=.value x,args:=args.toArray,argTypes:=tys})(y:ev L x=some (.func (.func f) bs.toArray #[]))(b:evs L args=some vs)(p:∀w,(callFunc f (bs++vs).toArray).run P w=.ok (.enter f (bs++vs).toArray) w)
  (t:Cn P f (bs++vs) pre post)(H:Sep z Γ w)(k:Nat)(i:List Nat)(j:Fw k i=true)(e:C5 Γ i++Γ.drop k=pre++R')
  (K:∀v w' Γ',post v Γ'->Sep z (Γ'++R') w'->∀a',Fr n ds ((d,v)::L) a'->wpList P ops.toArray Q rest a' w'):∀a,Fr n ds L a->wpList P ops.toArray Q (o::rest) a w:=by
 intro a h;unfold wpList;rw[if_pos (wantL_ok h hw)];left;have s:=h.evs b;have u:=h.ev y;have g:(execOp a.eval o).run P w=.ok (.enter f (bs++vs).toArray) w:=by
  unfold execOp;simp only[m,resolve,u,Deferred.ofValue,invoke];simp only[go_sem,Yv,s,YJ];simpa using p w
 unfold Oper.wp;rw[g,Aa0];exact Aaw (t.at H k i j e) λe w' q=>by
  cases e with
  | returned v=>obtain ⟨Γ',q1,r⟩:=q;simp only[hd];exact K v w' Γ' q1 r _ (h.put d v l)
  | panicked c=>exact q.elim
  | outgrown=>exact q.elim
end
end
section
section
variable{P:Program}{C:World->Prop}{o:Oper}{w z:World}{Γ:List Ai}{n:Nat}{ds:List Deferred}{L:List (Nat×Value)}{x y:Operand}
theorem CS{t e:TypeId}{m clk:Nat}{l:List IE}{k:Int}{zv:Value}(p:o.op=.lookup t x y true)(u:DR P t=some e)(c:(P.info? e).bind (·.zero)=some zv)(h:ev L x=some (.map (some m)))(s:ev L y=some (Aa k))
  (v:∀w,C w->w.heap[m]?=some (.map (l.map BX).toArray clk)):Ao P C n ds L o (.tuple #[(Cl l k).getD zv,.bool (Ce l k)]):=λa g w z=>by
 obtain ⟨kt,ik,r,f⟩:=Di u;have d:(zeroValue e).run P w=.ok zv w:=by
  cases hi:P.info? e with
  | none=>rw[hi] at c;cases c
  | some i=>rw[hi] at c;simp[zeroValue,typeInfo,hi,show i.zero=some zv from c,go_sem]
 have j:(getObj m).run P w=.ok (.map (l.map BX).toArray clk) w:=by simp[getObj,Sem.run,v w z]
 have b:=Hy l k 0;simp only[execOp,p,g.ev h,g.ev s,Instr.lookup,Yd,run_underlying r,X7,j,Yh,Dz f,Zm,DS f]
 cases hf:fnd l k 0 with
 | none=>rw[hf] at b;simp[d,Ce,<-b,Yd,Yh]
 | some q=>rw[hf] at b;simp[Ce,<-b,Yh]
theorem NT{t e:TypeId}{k:Int}{zv:Value}(j:o.op=.lookup t x y true)(p:DR P t=some e)(c:(P.info? e).bind (·.zero)=some zv)(h:ev L x=some (.map none))(m:ev L y=some (Aa k)):Ao P C n ds L o (.tuple #[zv,.bool false]):=λa g w s=>by
 obtain ⟨r,q,l,f⟩:=Di p;have d:(zeroValue e).run P w=.ok zv w:=by
  cases hi:P.info? e with
  | none=>rw[hi] at c;cases c
  | some i=>rw[hi] at c;simp[zeroValue,typeInfo,hi,show i.zero=some zv from c,go_sem]
 have b:=DS (P:=P) f [] k w;simp only[Y2,fnd] at b;simp only[execOp,j,g.ev h,g.ev m,Instr.lookup,Yd,run_underlying l,X7,Yh,Dz f,b];simp[d,Yd,Yh]
theorem Lo{t e:TypeId}{m clk:Nat}{l:List IE}(d:o.op=.call {callee:=.builtin .len,args:= #[x],argTypes:= #[t]})(i:DR P t=some e)(b:ev L x=some (.map (some m)))(f:∀w,C w->w.heap[m]?=some (.map (l.map BX).toArray clk)):Ao P C n ds L o (Aa l.length):=λa c w h=>by
 obtain ⟨p,j,g,k⟩:=Di i;simp only[execOp,d,c.ev b,resolve,Yv,Yn,Y2];simp[invoke,builtin,Builtin.len_,run_underlying g,goInt,go_sem,getObj,Sem.run,f w h]
theorem Ee{t:TypeId}{vs:List Value}{i:Int}{k:IntKind}{j m:Nat}{u:Value}(p:o.op=.index t x y)(d:Hz P t=some m)(l:ev L x=some (.agg vs.toArray))(hm:vs.length=m)(r:ev L y=some (.int k i))(f:i=j)(g:vs[j]?=some u):Ao P C n ds L o u:=λa h w _=>by
 obtain ⟨e,i0,d,s,z,v⟩:=I1 d;subst f;have hj:j<vs.length:=(XV.1 g).1;have q:(0:Int)<=(j:Int)/\(j:Int)<(m:Int):=by omega
 have b:(part e vs.toArray (j*1)).run P w=.ok u w:=by
  simp only[part,Yd,Fu v,X7,if_false,YW,YQ,YM,g,Yh]
 have c:(sizeOf e).run P w=.ok 1 w:=by simp[sizeOf,typeInfo,s,z,go_sem]
 simp only[execOp,p,h.ev l,h.ev r,Instr.index,asIntOf,Yd,Yh,X7,run_underlying d,if_pos q,YB,c,b]
theorem Iu{c:Code}{N R:Act->World->Prop}{X:Nat->Act->World->Prop}(m:Nat)(h:∀a,Fr n ds L a->Code.rounds P c (Qp N X R) m a w):∀a,Fr n ds L a->(Code.loop c).wp P (Qp N X R) a w:=λa b=>wp_loop_rounds m (h a b)
theorem TZ{c:Code}{N R:Act->World->Prop}{X:Nat->Act->World->Prop}{m:Nat}(h:∀a,Fr n ds L a->c.wp P (Qp (λa w=>Code.rounds P c (Qp N X R) m a w) X R) a w):∀a,Fr n ds L a->Code.rounds P c (Qp N X R) (m+1) a w:=λa b=>by
 rw[rounds_succ];refine wp_mono (h a b) λe a w q=>?_;cases e<;>exact q
theorem Eo{c:Code}{N R:Act->World->Prop}{X:Nat->Act->World->Prop}{m:Nat}(h:∀a,Fr n ds L a->Bu P (λa w=>Code.rounds P c (Qp N X R) m a w) X R (.c c .fin) a w):∀a,Fr n ds L a->Code.rounds P c (Qp N X R) (m+1) a w:=TZ h
end
theorem NU{P:Program}{b:Func}{R:Value->World->Prop}{n:Nat}{ds:List Deferred}{L:List (Nat×Value)}{a:Act}{w:World}(f:Fr n ds L a){rs:List ResultVar}(c:b.results=rs.toArray)(vs:List Value)(d:DQ P L w rs vs){v:Value}(e:FM vs=v)(h:R v w):Leaves P b a.tmps (Ret R) [] .returning w:=⟨v,by rw[<-e];exact FW f c d,h⟩
end
abbrev stB(ps pd pt:Nat)(x:Sup)(lp:Value)(md:Nat)(un:Bool)(mo:Value):Ai:=blk ps [.pointer (some ⟨pd,0,none⟩),.pointer (some ⟨pt,0,none⟩),.int .i64 x.gen,.int .i64 x.epoch,.int .i64 x.pages,.int .i64 x.start,.int .i64 x.len,.int .i64 x.head,.int .i64 x.seq,lp,.map (some md),.bool un,mo] 97
abbrev lgB(pl pd pt:Nat)(s:Sup)(a q u:Int)(b nu:Bool):Ai:=blk pl [.pointer (some ⟨pd,0,none⟩),.pointer (some ⟨pt,0,none⟩),.int .i64 s.gen,.int .i64 s.epoch,.int .i64 s.pages,.int .i64 s.start,.int .i64 s.len,.int .i64 s.head,.int .i64 s.seq,.int .i64 a,.int .i64 q,.int .i64 u,.bool b,.bool nu] 191
theorem BK:Elt prog 3 (Aa 0) 1 8:=Elt.mk J Z U U
theorem A2:Elt prog 5 (u8 0) 1 1:=Elt.mk J Z U U
theorem MP:Elt prog 4 (.bool false) 1 1:=Elt.mk J Z U U
theorem KE:Elt prog 43 (.agg #[Aa 0,Aa 0,Aa 0,Aa 0,Aa 0,.slice none 0 0]) 6 64:=Elt.mk J Z U U
theorem Pf:Elt prog 40 (.agg #[Aa 0,.slice none 0 0]) 2 32:=Elt.mk J Z U U
theorem Fi:Elt prog 38 (.slice none 0 0) 1 24:=Elt.mk J Z U U
theorem CB:Elt prog 116 (.agg #[Aa 0,.slice none 0 0]) 2 32:=Elt.mk J Z U U
theorem AR:Elt prog 118 (.agg #[Aa 0,Aa 0,.slice none 0 0]) 3 40:=Elt.mk J Z U U
theorem Dq:Elt prog 135 (.agg #[.slice none 0 0,.slice none 0 0]) 2 48:=Elt.mk J Z U U
theorem EE:Elt prog 207 (.agg #[Aa 0,Aa 0,Aa 0,Aa 0,Aa 0,Aa 0]) 6 48:=Elt.mk J Z U U
theorem CK(x m:Int):An 122 [Aa x,Aa m] [] (λv G=>v=.bool (decide (0<=x/\x<=m))/\G=[]):=by
 intro z R w H;refine Af func122 Z ntmps122 Z (Z0 10 [0] Z (Am 7 Z (λa=>?_) (λa=>?_)))
 ·refine Z0 8 [0] Z (Zr Z ?_);exact ⟨_,⟨congrArg Value.bool (by rw[Yf];simp<;>omega),Z⟩,H⟩
 refine Zc 8 Z (Zr Z ?_);exact ⟨_,⟨congrArg Value.bool (by rw[Yf];simp<;>omega),Z⟩,H⟩
theorem Jd(pd bd m N:Nat)(f0 c d e b:Int)(a:Bool)(hN:N<=9223372036854775807):An 127 [V pd] [blk pd [.slice (some ⟨bd,0,none⟩) N N,.map (some m),Aa f0,Aa c,Aa d,Aa e,.bool a,Aa b] 106] (λv G=>v=Aa ((N:Int)/256)/\G=[blk pd [.slice (some ⟨bd,0,none⟩) N N,.map (some m),Aa f0,Aa c,Aa d,Aa e,.bool a,Aa b] 106]):=by
 intro z R w H;refine Af func127 Z ntmps127 Z (Z3 17 [0,0,0] [(N:Int)/256] H Z U (Zr Z ?_));exact ⟨_,⟨Z,Z⟩,H⟩
theorem MQ(pd bd m N:Nat)(f0 c d e b:Int)(a:Bool)(x k:Int)(hN:N<=9223372036854775807):An 116 [V pd,Aa x,Aa k] [blk pd [.slice (some ⟨bd,0,none⟩) N N,.map (some m),Aa f0,Aa c,Aa d,Aa e,.bool a,Aa b] 106] (λv G=>v=.bool (decide (0<=x/\0<k/\x<(N:Int)/256/\k<=(N:Int)/256-x))/\G=[blk pd [.slice (some ⟨bd,0,none⟩) N N,.map (some m),Aa f0,Aa c,Aa d,Aa e,.bool a,Aa b] 106]):=by
 intro z R w H;refine Af func116 Z ntmps116 Z (Z0 10 [0] Z (Am 9 Z (λf=>?_) (λf=>?_)))
 ·refine Z0 4 [0] Z (Am 13 Z (λh=>?_) (λh=>?_))
  ·refine Zc 2 Z (Ah Z (call127 _) (Jd _ _ _ _ _ _ _ _ _ _ U) H ?_);intro w H;refine Z0 3 [0] Z (Am 19 Z (λg=>?_) (λg=>?_))
   ·refine Zc 2 Z (Ah Z (call127 _) (Jd _ _ _ _ _ _ _ _ _ _ U) H ?_);intro w H;refine Z1 8 [0] [((N:Int)/256)-x] Z U (Zr Z ?_);exact ⟨_,⟨congrArg Value.bool (by first|(rw[eq_comm,decide_eq_false_iff_not];omega)|(rw[Yf];simp<;>omega)),Z⟩,H⟩
   refine Zc 11 Z (Zr Z ?_);exact ⟨_,⟨congrArg Value.bool (by first|(rw[eq_comm,decide_eq_false_iff_not];omega)|(rw[Yf];simp<;>omega)),Z⟩,H⟩
  refine Zc 17 Z (Zr Z ?_);exact ⟨_,⟨congrArg Value.bool (by first|(rw[eq_comm,decide_eq_false_iff_not];omega)|(rw[Yf];simp<;>omega)),Z⟩,H⟩
 refine Zc 21 Z (Zr Z ?_);exact ⟨_,⟨congrArg Value.bool (by first|(rw[eq_comm,decide_eq_false_iff_not];omega)|(rw[Yf];simp<;>omega)),Z⟩,H⟩
theorem Ph(pd bd m N:Nat)(f0 c d e b:Int)(a:Bool):An 124 [V pd] [blk pd [.slice (some ⟨bd,0,none⟩) N N,.map (some m),Aa f0,Aa c,Aa d,Aa e,.bool a,Aa b] 106] (λv G=>v=.bool (a&&decide (b=0))/\G=[blk pd [.slice (some ⟨bd,0,none⟩) N N,.map (some m),Aa f0,Aa c,Aa d,Aa e,.bool a,Aa b] 106]):=by
 intro z R w H;refine Af func124 Z ntmps124 Z (Z2 12 [6,0,0] H Z (K0 7 Z (λf=>?_) (λf=>?_)))
 ·refine Z2 10 [7,0,0,0] H Z (Zr Z ?_);exact ⟨_,⟨congrArg Value.bool (by simp_all),Z⟩,H⟩
 refine Zc 10 Z (Zr Z ?_);exact ⟨_,⟨congrArg Value.bool (by simp_all),Z⟩,H⟩
theorem Rm(pd bd m N:Nat)(f0 a d e c:Int)(b:Bool)(f:0<=a/\a<=9223372036854775807):An 117 [V pd,Aa 1] [blk pd [.slice (some ⟨bd,0,none⟩) N N,.map (some m),Aa f0,Aa a,Aa d,Aa e,.bool b,Aa c] 106] (λv G=>v=.bool (decide (a=1))/\G=[blk pd [.slice (some ⟨bd,0,none⟩) N N,.map (some m),Aa f0,Aa (if a=0 then 0 else a-1),Aa d,Aa e,.bool b,Aa c] 106]):=by
 intro z R w H;refine Af func117 Z ntmps117 Z (Z3 17 [2,4,1,1,3,0,0,0] [] H Z U (Ag Z (λg=>?_) (λg=>?_)))
 ·refine Zc 6 Z (Zr Z ?_);exact ⟨[blk pd [.slice (some ⟨bd,0,none⟩) N N,.map (some m),Aa f0,Aa a,Aa d,Aa e,.bool b,Aa c] 106],⟨congrArg Value.bool (by first|(rw[Yf];simp<;>omega)|(simp_all<;>omega)),by simp_all⟩,H⟩
 refine Zc 3 Z (Bo 10 J J (A9 H λw h=>?_));have H:=h.l1;refine CD 10 [2,4,1,1,3,0,0,2,4,1,1,3] [a-1] H Z J U (Cf (gw (Z5 16 [0,2,4,1,1,3,0,0,0] [] H Z U ?_)));intro w H;refine Zr Z ?_;exact ⟨[blk pd [.slice (some ⟨bd,0,none⟩) N N,.map (some m),Aa f0,Aa (a-1),Aa d,Aa e,.bool b,Aa c] 106],⟨congrArg Value.bool (by first|(rw[Yf];simp<;>omega)|(simp_all<;>omega)),by simp_all⟩,H⟩
theorem Rn(pd bd m N:Nat)(f0 d a e c:Int)(b:Bool)(g:0<=a/\a<=9223372036854775807):An 117 [V pd,Aa 2] [blk pd [.slice (some ⟨bd,0,none⟩) N N,.map (some m),Aa f0,Aa d,Aa a,Aa e,.bool b,Aa c] 106] (λv G=>v=.bool (decide (a=1))/\G=[blk pd [.slice (some ⟨bd,0,none⟩) N N,.map (some m),Aa f0,Aa d,Aa (if a=0 then 0 else a-1),Aa e,.bool b,Aa c] 106]):=by
 intro z R w H;refine Af func117 Z ntmps117 Z (Z3 17 [2,4,1,2,4,0,0,0] [] H Z U (Ag Z (λf=>?_) (λf=>?_)))
 ·refine Zc 6 Z (Zr Z ?_);exact ⟨[blk pd [.slice (some ⟨bd,0,none⟩) N N,.map (some m),Aa f0,Aa d,Aa a,Aa e,.bool b,Aa c] 106],⟨congrArg Value.bool (by first|(rw[Yf];simp<;>omega)|(simp_all<;>omega)),by simp_all⟩,H⟩
 refine Zc 3 Z (Bo 10 J J (A9 H λw h=>?_));have H:=h.l1;refine CD 10 [2,4,1,2,4,0,0,2,4,1,2,4] [a-1] H Z J U (Cf (gw (Z5 16 [0,2,4,1,2,4,0,0,0] [] H Z U ?_)));intro w H;refine Zr Z ?_;exact ⟨[blk pd [.slice (some ⟨bd,0,none⟩) N N,.map (some m),Aa f0,Aa d,Aa (a-1),Aa e,.bool b,Aa c] 106],⟨congrArg Value.bool (by first|(rw[Yf];simp<;>omega)|(simp_all<;>omega)),by simp_all⟩,H⟩
theorem Ro(pd bd m N:Nat)(f0 d e b c:Int)(a:Bool)(g:0<=b/\b<=9223372036854775807):An 117 [V pd,Aa 3] [blk pd [.slice (some ⟨bd,0,none⟩) N N,.map (some m),Aa f0,Aa d,Aa e,Aa b,.bool a,Aa c] 106] (λv G=>v=.bool (decide (b=1))/\G=[blk pd [.slice (some ⟨bd,0,none⟩) N N,.map (some m),Aa f0,Aa d,Aa e,Aa (if b=0 then 0 else b-1),.bool a,Aa c] 106]):=by
 intro z R w H;refine Af func117 Z ntmps117 Z (Z3 17 [2,4,1,3,5,0,0,0] [] H Z U (Ag Z (λf=>?_) (λf=>?_)))
 ·refine Zc 6 Z (Zr Z ?_);exact ⟨[blk pd [.slice (some ⟨bd,0,none⟩) N N,.map (some m),Aa f0,Aa d,Aa e,Aa b,.bool a,Aa c] 106],⟨congrArg Value.bool (by first|(rw[Yf];simp<;>omega)|(simp_all<;>omega)),by simp_all⟩,H⟩
 refine Zc 3 Z (Bo 10 J J (A9 H λw h=>?_));have H:=h.l1;refine CD 10 [2,4,1,3,5,0,0,2,4,1,3,5] [b-1] H Z J U (Cf (gw (Z5 16 [0,2,4,1,3,5,0,0,0] [] H Z U ?_)));intro w H;refine Zr Z ?_;exact ⟨[blk pd [.slice (some ⟨bd,0,none⟩) N N,.map (some m),Aa f0,Aa d,Aa e,Aa (b-1),.bool a,Aa c] 106],⟨congrArg Value.bool (by first|(rw[Yf];simp<;>omega)|(simp_all<;>omega)),by simp_all⟩,H⟩
theorem S9(pd bd m N:Nat)(f0 c d e b:Int)(a:Bool)(i:Nat)(hN:N<=9223372036854775807)(f:(i+1)*256<=N):An 72 [V pd,Aa (i:Int)] [blk pd [.slice (some ⟨bd,0,none⟩) N N,.map (some m),Aa f0,Aa c,Aa d,Aa e,.bool a,Aa b] 106] (λv G=>v=.slice (some ⟨bd,i*256,none⟩) 256 (N-i*256)/\G=[blk pd [.slice (some ⟨bd,0,none⟩) N N,.map (some m),Aa f0,Aa c,Aa d,Aa e,.bool a,Aa b] 106]):=by
 intro z R w H;refine Af func72 Z ntmps72 Z (Z3 16 [0,0,0] [(i:Int)*256,(i:Int)+1,((i:Int)+1)*256] H Z U (Ad Z (Ba Z (z:=1) (p:=(i*256)) (q:=((i+1)*256)) (o':=i*256) (l':=256) (c':=N-i*256) J Z (.inr ⟨_,_,_,Z,Z,U⟩) (.inr ⟨_,_,_,Z,Z,U⟩) U U U U U U) (Zc 4 Z (Zr Z ?_))));exact ⟨_,⟨Z,Z⟩,H⟩
theorem T0(a i:Nat)(b x2:Value):An 254 [.pointer (some ⟨a,1,none⟩)] [blk a (Bm b (.int .i32 0) x2 i) 185] (λv G=>v=.tuple #[]/\G=[blk a (Bm b (.int .i32 1) x2 i) 185]):=by
 intro z R w H;refine Af func254 Z ntmps254 Z (Zc 2 Z (Ad Z (FT (v:=.tuple #[]) (vs:=[]) Z Z (λw _=>run_call_mark0 func258 J J J .disable J w)) (Z0 8 [1] Z (AC Z (NS 0 (p:=1) (u0:=.int .i32 0) (u:=.int .i32 1) (v:=.bool true) H Z Z Z (vs:=[.pointer (some ⟨a,1,none⟩),.int .i32 0,.int .i32 1]) Z Z (λc d=>run_call_cas_hit func259 J J J .i32 J c d) (out:=(Bm b (.int .i32 1) x2 i)) Z) ?_))));rintro _ w ⟨rfl,H⟩;refine Zc 7 Z (Ad Z (FT (v:=.tuple #[]) (vs:=[]) Z Z (λw _=>run_call_mark0 func260 J J J .enable J w)) (Zc 4 Z (Ad Z (Lm Z J Z (AA (H.cel 0 Z 1 Z))) (Ad Z (FT (v:=.tuple #[]) (vs:=[.pointer (some ⟨a,1,none⟩)]) Z Z (λw _=>run_call_marked func261 J J J .acquire J _ w)) (Zc 3 Z (Zr Z ?_))))));exact ⟨_,⟨Z,Z⟩,H⟩
theorem Pi(a i:Nat)(b x2:Value):An 255 [.pointer (some ⟨a,1,none⟩)] [blk a (Bm b (.int .i32 1) x2 i) 185] (λv G=>v=.tuple #[]/\G=[blk a (Bm b (.int .i32 0) x2 i) 185]):=by
 intro z R w H;refine Af func255 Z ntmps255 Z (Z2 13 [1,0,0] H Z (Ad Z (Lm Z J Z (AA (H.cel 0 Z 1 Z))) (Ad Z (FT (v:=.tuple #[]) (vs:=[.pointer (some ⟨a,1,none⟩)]) Z Z (λw _=>run_call_marked func263 J J J .releaseMerge J _ w)) (Zc 3 Z (Ad Z (FT (v:=.tuple #[]) (vs:=[]) Z Z (λw _=>run_call_mark0 func258 J J J .disable J w)) (Z0 7 [1] Z (AC Z (NS 0 (p:=1) (u0:=.int .i32 1) (u:=.int .i32 0) (v:=.int .i32 0) H Z Z Z (vs:=[.pointer (some ⟨a,1,none⟩),.int .i32 (-1)]) Z Z (λc d=>run_call_add func264 J J J .i32 J (s:=0) c d (by simp[go_sem];rfl)) (out:=(Bm b (.int .i32 0) x2 i)) Z) ?_)))))));rintro _ w ⟨rfl,H⟩;refine Z0 14 [4] Z (Ad Z (FT (v:=.tuple #[]) (vs:=[]) Z Z (λw _=>run_call_mark0 func260 J J J .enable J w)) (Zc 1 Z (Zf Z ?_)));exact ⟨_,⟨Z,Z⟩,H⟩
theorem VE(a i:Nat)(b x2:Value):An 249 [.pointer (some ⟨a,1,none⟩)] [blk a (Bm b (.int .i32 0) x2 i) 185] (λv G=>v=.tuple #[]/\G=[blk a (Bm b (.int .i32 1) x2 i) 185]):=by
 intro z R w H;refine Af func249 Z ntmps249 Z (Z0 4 [1] Z (Ah Z (call254 _) (T0 _ _ _ _) H ?_));intro w H;refine Zc 1 Z (Zf Z ?_);exact ⟨_,⟨Z,Z⟩,H⟩
theorem Rp(a i:Nat)(c x2:Value):S8 prog 250 [.pointer (some ⟨a,1,none⟩)] [blk a (Bm c (.int .i32 1) x2 i) 185] (λv G=>v=.tuple #[]/\G=[blk a (Bm c (.int .i32 0) x2 i) 185]):=by
 intro z R u w b;have H:=b.l1;refine Ln func250 Z 6 ntmps250 Z (AF (Kb 3 [1] Z J (E2 Z Z Z Z Z (λw=>call255 _ w) (Pi _ _ _ _) H Z ?_)));rintro _ w _ ⟨rfl,rfl⟩ b;have H:=b.l1;refine AN (Ve Z ?_);exact ⟨[blk a (Bm c (.int .i32 0) x2 i) 185],⟨Z,Z⟩,H⟩
theorem WS:An 257 [.bool true] [] (λv G=>v=.int .u32 1/\G=[]):=by
 intro z R w H;refine Af func257 Z ntmps257 Z (Zc 18 Z (Zr Z ?_));exact ⟨_,⟨Z,Z⟩,H⟩
theorem Lp(a i:Nat)(b x2:Value):An 240 [V a] [blk a (Bm (.int .u32 0) b x2 i) 185] (λv G=>v=.bool false/\G=[blk a (Bm (.int .u32 0) b x2 i) 185]):=by
 intro z R w H;refine Af func240 Z ntmps240 Z (Z0 10 [0] Z (Ad Z (FT (v:=.int .u32 0) (vs:=[V a]) Z Z (AA (run_call_load func248 J J J .u32 J (H.cel 0 Z 0 Z)))) (Z0 5 [4] Z (Zr Z ?_))));exact ⟨_,⟨Z,Z⟩,H⟩
theorem Rq(a i:Nat)(b x2:Value):An 240 [V a] [blk a (Bm (.int .u32 1) b x2 i) 185] (λv G=>v=.bool true/\G=[blk a (Bm (.int .u32 1) b x2 i) 185]):=by
 intro z R w H;refine Af func240 Z ntmps240 Z (Z0 10 [0] Z (Ad Z (FT (v:=.int .u32 1) (vs:=[V a]) Z Z (AA (run_call_load func248 J J J .u32 J (H.cel 0 Z 0 Z)))) (Z0 5 [3] Z (Zr Z ?_))));exact ⟨_,⟨Z,Z⟩,H⟩
theorem Rs(b i:Nat)(c x2:Value):S8 prog 251 [V b,.bool true] [blk b (Bm (.int .u32 0) c x2 i) 185] (λv G=>v=.tuple #[]/\G=[blk b (Bm (.int .u32 1) c x2 i) 185]):=by
 intro z R u w a;have H:=a.l1;refine Ln func251 Z 10 ntmps251 Z (A1 (Sep z (blk b (Bm (.int .u32 0) c x2 i) 185::R)) 6 Z J (A9 H λw a=>?_));have H:=a.l1;refine BA [0,1,2,3] [0] J (λ_ _=>AU) (by exact H.pick 1 [0] Z) Z J Z Z (Ay [4] J O (Az (BF Z Z Z Z Z Z (λw=>call257 _ w) (WS) H Z ?_)));rintro _ w _ ⟨rfl,rfl⟩ a;have H:=a.l1;refine Ax (λ_=>(H.pick 1 [0] Z)) (Ay [5] J O (Az (Ck Z Z Z Z (NS 0 (p:=0) (u0:=.int .u32 0) (u:=.int .u32 1) (v:=.tuple #[]) H Z Z Z (vs:=[V b,.int .u32 1]) Z Z (λd e=>run_call_store func256 J J J J d e) (out:=(Bm (.int .u32 1) c x2 i)) Z) ?_)));rintro _ w ⟨rfl,a⟩;have H:=a.l1;refine Ax (λh=>absurd Z h) (Bi J (Ve Z ?_));exact ⟨[blk b (Bm (.int .u32 1) c x2 i) 185],⟨Z,Z⟩,H⟩
theorem VF(b:Nat)(d c x2:Value):An 217 [V b] [blk b (Bm d c x2 0) 185] (λv G=>v=.tuple #[]/\G=[blk b (Bm d c x2 256) 185]):=by
 intro z R w H;refine Af func217 Z ntmps217 Z (Zc 6 Z ?_);refine Ap (σ:=Nat) (λi=>[(4,Aa (i:Int)),(0,V b)])
   (λi w=>Sep z (blk b (Bm d c x2 i) 185::R) w/\(i<=256)) (λi=>256-i) 0
   fr_z ⟨H,by omega⟩ ?_
 clear H;rintro i w ⟨g,e⟩;have H:=g.l1;have f:=e;clear e;refine Z0 6 [0] Z (Ag Z (λk=>?_) (λk=>?_))
 ·have h:i<256:=by omega
  refine Zc 13 Z (Ad Z (G4 Z J Z) (Zc 10 Z ?_));refine Ap (σ:=Nat) (λj=>[(9,Aa (j:Int)),(3,u32 (Ch j (Dt (i:Int)))),(0,V b),(2,Aa (i:Int)),(4,Aa (i:Int)),(5,.bool (decide ((i:Int)<256))),(6,Aa (i:Int)),(7,Aa (i:Int)),(8,u32 (Dt (i:Int)))])
    (λj w=>Sep z (blk b (Bm d c x2 i) 185::R) w/\(j<=8)) (λj=>8-j) 0
    (λ_ a=>(a.co Z (by go_num) a.cz)) ⟨H,by omega⟩ ?_
  clear H;rintro j w ⟨g,e⟩;have H:=g.l1;have n:=e;clear e;refine Z0 6 [0] Z (Ag Z (λl=>?_) (λl=>?_))
  ·refine Zc 6 Z (Ad Z (Fl Z Z (m:=1) (n':=1) Z (by decide)) (Zc 1 Z (Ad Z (Tw (q:=1) Z Z Z) (Ad Z (Tx (q:=2197175160) Z Z Z) (Ad Z (Hv Z Z Z) (Z1 8 [] [(j:Int)+1] Z U (gf ?_)))))));intro _ a;refine ⟨(j+1),(a.co Z (by go_num) a.cz),⟨H,?_⟩,?_⟩
   ·omega
   omega
  obtain rfl:j=8:=by omega
  refine Zc 2 Z (gx (Z1 9 [3,256,1,i,3+i] [] Z U (AV Z Z (AD 0 H Z Z Z Z (vs:=[u32 (Ch 8 (Dt (i:Int)))]) Z (by simp[u32,Value.oneCell']) J (by rw[QW _ _ _ U];simp;omega) (out:=Bm d c x2 (i+1)) (by have:=OW d c x2 h;simpa using this)) ?_)));rintro w H;refine Z1 7 [] [(i:Int)+1] Z U (gf ?_);intro _ a;refine ⟨(i+1),a.cz,⟨H,?_⟩,?_⟩
  ·omega
  omega
 refine Zc 2 Z (gx (Zc 1 Z (Zf Z ?_)));obtain rfl:i=256:=by omega
 exact ⟨_,⟨Z,Z⟩,H⟩
theorem VG(c:Nat):An 241 [V c,.func (.func 217) #[V c] #[]] [blk c (Bm (.int .u32 0) (.int .i32 0) (.int .u32 0) 0) 185] (λv G=>v=.tuple #[]/\G=[blk c (Bm (.int .u32 1) (.int .i32 0) (.int .u32 0) 256) 185]):=by
 intro z R w b;have H:=b.l1;refine Pe func241 Z 21 ntmps241 Z (AO (AF (Kb 3 [1] Z J (E2 Z Z Z Z Z (λw=>call249 _ w) (VE _ _ _ _) H Z ?_))));rintro _ w _ ⟨rfl,rfl⟩ b;have H:=b.l1;refine AN (AO (AF (Kb 3 [1] Z J (JK Z Z Z Z (AN (AO (AF (Kb 3 [0] Z J (E2 Z Z Z Z Z (λw=>call240 _ w) (Lp _ _ _ _) H Z ?_)))))))));rintro _ w _ ⟨rfl,rfl⟩ b;have H:=b.l1;refine BI 1 Z Z (AN (Ot Z (AO (AF (Kb 3 [0] Z J (JK Z Z Z Z (AN (AF (BI 1 Z Z (TY (bs:=[V c]) (vs:=[]) Z Z Z Z Z Z (λw=>call217 _ w) (VF c (.int .u32 0) (.int .i32 1) (.int .u32 0)) H 1 [0] Z Z ?_))))))))));rintro _ w _ ⟨rfl,rfl⟩ b;have H:=b.l1;refine AN ?_;intro a d;unfold HF;rw[d.defers];refine FB (λw=>call251 _ w) (Rs c 256 (.int .i32 1) (.int .u32 0)) H 1 [0] Z Z ?_;rintro _ w _ ⟨rfl,rfl⟩ b;clear H;have H:Sep z (blk c (Bm (.int .u32 1) (.int .i32 1) (.int .u32 0) 256) 185::R) w:=b;refine FB (λw=>call250 _ w) (Rp c 256 (.int .u32 1) (.int .u32 0)) H 1 [0] Z Z ?_;rintro _ w _ ⟨rfl,rfl⟩ b;exact WR Z ⟨_,⟨Z,Z⟩,b⟩
theorem WT(a:Nat):An 216 [V a,.func (.func 217) #[V a] #[]] [blk a (Bm (.int .u32 0) (.int .i32 0) (.int .u32 0) 0) 185] (λv G=>v=.tuple #[]/\G=[blk a (Bm (.int .u32 1) (.int .i32 0) (.int .u32 0) 256) 185]):=by
 intro z R w H;refine Af func216 Z ntmps216 Z (Z0 5 [0] Z (Ah Z (call240 _) (Lp _ _ _ _) H ?_));intro w H;refine Zc 7 Z (Ah Z (call241 _) (VG _) H ?_);intro w H;refine Zc 1 Z (Zf Z ?_);exact ⟨_,⟨Z,Z⟩,H⟩
theorem WU(a:Nat):An 216 [V a,.func (.func 217) #[V a] #[]] [blk a (Bm (.int .u32 1) (.int .i32 0) (.int .u32 0) 256) 185] (λv G=>v=.tuple #[]/\G=[blk a (Bm (.int .u32 1) (.int .i32 0) (.int .u32 0) 256) 185]):=by
 intro z R w H;refine Af func216 Z ntmps216 Z (Z0 5 [0] Z (Ah Z (call240 _) (Rq _ _ _ _) H ?_));intro w H;refine Zc 5 Z (Zf Z ?_);exact ⟨_,⟨Z,Z⟩,H⟩
theorem XE(a:Nat):An 216 [V a,.func (.func 217) #[V a] #[]] [tblA a] (λv G=>v=.tuple #[]/\G=[blk a (Bm (.int .u32 1) (.int .i32 0) (.int .u32 0) 256) 185]):=Cn.or (WT a) (WU a)
theorem Lq:An 73 [] [] (λv G=>(∃b,v=V b/\G=[tblA b])):=by
 intro z R w H;refine Af func73 Z ntmps73 Z (Zc 7 Z (Ad Z (AQ Z Z (out:=(Bm (.int .u32 0) (.int .i32 0) (.int .u32 0) 0)) J) (AC Z (Fh H Z Z (cs:=(Bm (.int .u32 0) (.int .i32 0) (.int .u32 0) 0)) Z) ?_)));rintro _ w ⟨a,rfl,H⟩;refine Zc 4 Z (Zr Z ?_);have H:=H.mono 0 (B:=tblA a) Z (λh q=>.inl q);exact ⟨_,⟨a,Z,Z⟩,H⟩
theorem Pj(e:Nat)(a:UInt32)(v:Value)(bs:List UInt8)(A:Ai)(g:∀h,A h->rdH 1 v bs.length (bs.map u8) h):An 177 [V e,u32 a,v] [tblA e,A] (λv G=>v=u32 (Db a bs)/\G=[tblA e,A]):=by
 intro z R w H;obtain ⟨p,c,rfl⟩:=H.sy 1 (λq=>(g _ q).slc);have t:=H.sy 1 (λq=>(g _ q).small);refine Af func177 Z ntmps177 Z (Z0 11 [0] Z (Ad Z (GD Z Z Z) (Ah Z (call216 _) (XE _) H ?_)));intro w H;refine Zc 5 Z (Ad Z (Hw Z Z) (Zc 12 Z ?_));refine Ap (σ:=Nat) (λk=>[(20,Aa (k:Int)),(7,u32 ((bs.take k).foldl C9 (4294967295 ^^^ a))),(0,V e),(6,u32 0),(18,.slice p bs.length c),(19,Aa (bs.length:Int))])
   (λk w=>Sep z (blk e (Bm (.int .u32 1) (.int .i32 0) (.int .u32 0) 256) 185::A::R) w/\(k<=bs.length)) (λk=>bs.length-k) 0
   (λ_ d=>(d.co Z (by go_num) d.cz)) ⟨H,by omega⟩ ?_
 clear H;rintro k w ⟨s,n⟩;have H:=s.l2;have x:=n;clear n;refine Z0 6 [0] Z (Ag Z (λo=>?_) (λo=>?_))
 ·obtain ⟨b,i⟩:∃b,bs[k]?=some b:=⟨_,XW U⟩;refine Zc 6 Z ?_;have f:=(H.rd 1 Z g).at (j:=k) (u:=u8 b) (by simp[i])
  refine Ad Z (Ar Z (z:=1) (j:=k) (r:=k) J Z Z Z U f U) (Ad Z (AK Z Z J (AA f)) (Zc 5 Z (Ad Z (Fl Z Z (m:=8) (n':=8) Z (by decide)) (Zc 2 Z (Ad Z (Fm Z J Z) (Zc 1 Z (Ad Z (Vl Z Z Z) (Z0 2 [3] Z (Ad Z (Ie (l:=256) Z (z:=1) (j:=((((bs.take k).foldl C9 (4294967295 ^^^ a)).toUInt8) ^^^ b).toNat) (r:=3+(((bs.take k).foldl C9 (4294967295 ^^^ a)).toUInt8 ^^^ b).toNat) J Z Z Z (UInt8.toNat_lt _) U) (Ad Z (AZ Z Z J (AA (H.cel 0 Z _ (OX _ _ _ _)))) (Ad Z (Hv Z Z Z) (Z1 8 [] [(k:Int)+1] Z U (gf ?_)))))))))))));intro _ d;refine ⟨(k+1),(d.co Z (by go_num) (d.co Z (congrArg u32 (by rw[Ye,i];simp[C9])) (d.all Z))),⟨H,?_⟩,?_⟩
  ·omega
  omega
 refine Zc 2 Z (gx (Zc 5 Z (Ad Z (Hw Z Z) (Zc 4 Z (Zr Z ?_)))));obtain rfl:k=bs.length:=by omega
 have H:=H.mono 0 (B:=tblA e) Z (λh q=>.inr q);exact ⟨_,⟨congrArg u32 (by simp[Db]),Z⟩,H⟩
theorem T1(a:Nat)(v:Value)(bs:List UInt8)(A:Ai)(b:∀h,A h->rdH 1 v bs.length (bs.map u8) h):An 177 [V a,.int .u32 0,v] [tblA a,A] (λv G=>v=u32 (Av bs)/\G=[tblA a,A]):=by
 have h:=Pj a 0 v bs A b;rw[show u32 0=Value.int .u32 0 from Z] at h;exact h
theorem Ta(a:Nat)(v:Value)(n:Nat)(bs:List UInt8)(c:bs.length=n)(A:Ai)(b:∀h,A h->rdH 1 v n (bs.map u8) h):An 213 [V a,v] [tblA a,A] (λv G=>v=u32 (Av bs)/\G=[tblA a,A]):=by
 intro z R w H;subst c;refine Af func213 Z ntmps213 Z (Zc 9 Z (Ah Z (call177 _) (T1 _ _ bs _ b) H ?_));intro w H;refine Zc 4 Z (Zr Z ?_);exact ⟨_,⟨Z,Z⟩,H⟩
theorem Lr(a:Nat)(v:Value)(n:Nat)(bs:List UInt8)(d:bs.length=n)(A:Ai)(b:∀h,A h->rdH 1 v n (bs.map u8) h):An 171 [V a,v] [tblA a,A] (λv G=>v=.agg #[u8 ((Av bs).toUInt8),u8 (((Av bs)>>>8).toUInt8),u8 (((Av bs)>>>16).toUInt8),u8 (((Av bs)>>>24).toUInt8)]/\G=[tblA a,A]):=by
 intro z R w H;refine Af func171 Z ntmps171 Z (Zc 2 Z (AC Z (BN (P:=prog) H Z (zs:=[u8 0,u8 0,u8 0,u8 0]) J) ?_));rintro _ w ⟨c,rfl,H⟩;refine Zc 6 Z (Ah Z (call213 _) (Ta _ _ _ bs U _ b) H.f2.f2 ?_);intro w H;refine Zc 6 Z (Ad Z (Fm Z J Z) (Zc 1 Z (Ad Z (Fl Z Z (m:=8) (n':=8) Z (by decide)) (Ad Z (Fm Z J Z) (Zc 1 Z (Ad Z (Fl Z Z (m:=16) (n':=16) Z (by decide)) (Ad Z (Fm Z J Z) (Zc 1 Z (Ad Z (Fl Z Z (m:=24) (n':=24) Z (by decide)) (Ad Z (Fm Z J Z) (Ad Z (AQ Z Z (out:=[u8 ((Av bs).toUInt8),u8 (((Av bs)>>>8).toUInt8),u8 (((Av bs)>>>16).toUInt8),u8 (((Av bs)>>>24).toUInt8)]) J) (Z4 4 [2] H Z ?_))))))))))));intro w H;refine Zl [2,4] H Z ?_;exact ⟨_,⟨Z,Z⟩,H.perm 3 [0,1] Z Z⟩
theorem Du(d a k:Nat)(x:Int)(bs:List UInt8)(f:bs.length=256)(o:a+k<=256/\k<=8):An 144 [V d,Aa x,Aa (k:Int)] [blk d (AW bs (a:Int)) 204] (λv G=>v=.tuple #[]/\G=[blk d (AW (Bp bs (Ae k x) a) ((a+k:Nat):Int)) 204]):=by
 intro z R w H;refine Af func144 Z ntmps144 Z (Zc 8 Z ?_);refine Ap (σ:=Nat) (λi=>[(8,Aa (i:Int)),(0,V d),(1,Aa x),(2,Aa (k:Int)),(7,Aa (k:Int))])
   (λi w=>Sep z (blk d (AW (Ff bs (Ae k x) a i) (a:Int)) 204::R) w/\(i<=k)) (λi=>k-i) 0
   fr_z ⟨(by rw[QX];exact H),by omega⟩ ?_
 clear H;rintro i w ⟨e,g⟩;have H:=e.l1;have j:=g;clear g;have c:(Ff bs (Ae k x) a i).length=256:=by rw[TJ U (by rw[Ac];omega)];exact f
 refine Z0 6 [0] Z (Ag Z (λh=>?_) (λh=>?_))
 ·have l:i<k:=by omega
  refine Zc 10 Z (Bo 18 J J (A9 H λw e=>?_));have H:=e.l1;refine SX 4 [256] Z J (B5 Z Z Z (AZ Z Z J (AA (H.cel 0 Z 256 (K4 _ c)))) (CD 8 [] [((a+i:Nat):Int),(k:Int)-1,((k-1-i:Nat):Int),((8*(k-1-i):Nat):Int)] H Z J U (B5 Z Z Z (O1 Z Z Z (m:=8*(k-1-i)) Z U) (B5 Z Z Z (KI Z J Z) (CD 3 [0,256,1,(a+i),a+i] [] H Z J U (Cf (gw (AV Z Z (AD 0 H Z Z Z Z (vs:=[u8 (EL (x/2^(8*(k-1-i))))]) Z (by simp[u8,u32,Value.oneCell']) J (by rw[Em _ c];simp;omega) (out:=(AW (Ff bs (Ae k x) a (i+1)) (a:Int))) (Q0 _ (by rw[Ac];omega) (beN_get x l))) ?_))))))));rintro w H;refine Z1 7 [] [(i:Int)+1] Z U (gf ?_);intro _ n;refine ⟨(i+1),n.cz,⟨H,?_⟩,?_⟩
  ·omega
  omega
 obtain rfl:i=k:=by omega
 rw[TK bs (Ae i x) a (by rw[Ac])] at H;have b:(Bp bs (Ae i x) a).length=256:=by rw[Dj (by rw[Ac];omega)];exact f
 refine Zc 2 Z (gx (Z0 6 [256] Z (Ad Z (AZ Z Z J (AA (H.cel 0 Z 256 (K4 _ b)))) (Z1 4 [256] [((a+i:Nat):Int)] Z U (AV Z Z (AD 0 H Z Z Z Z (vs:=[Aa ((a+i:Nat):Int)]) Z (by simp[u8,u32,Value.oneCell']) J (by rw[Em _ b];simp) (out:=(AW (Bp bs (Ae i x) a) ((a+i:Nat):Int))) (HA _ _ b)) ?_)))));rintro w H;refine Zc 1 Z (Zf Z ?_);exact ⟨_,⟨Z,Z⟩,H⟩
theorem Hh(b a:Nat)(s bs:List UInt8)(c:bs.length=256)(f:a+s.length<=256/\a<256):An 179 [V b,EO s] [blk b (AW bs (a:Int)) 204] (λv G=>v=.tuple #[]/\G=[blk b (AW (Bp bs s a) ((a+s.length:Nat):Int)) 204]):=by
 intro z R w H;refine Af func179 Z ntmps179 Z (A1 (Sep z (wrH b (a:Int)::R)) 18 Z J (A9 H λw e=>?_));have H:=e.l1;refine BA [0,1,2] [256] J (λ_ _=>AU) (by exact H.mono 0 (B:=wrH b (a:Int)) Z (λh q=>⟨_,c,q⟩)) Z J Z Z (Bg 3 J Z Z J J J Z Z Z (AZ Z Z J (λ_ d=>d.cell 0 Z (λh q=>wrH.at q))) (H.mono 0 (B:=wrH b (a:Int)) Z (λh q=>⟨_,c,q⟩)) (BA [4,5,6,7,8,9] [0,256] J (λ_ _=>AU) (by exact H.mono 0 (B:=wrH b (a:Int)) Z (λh q=>⟨_,c,q⟩)) Z J Z Z (Bg 10 J Z Z J J J Z Z Z (AZ Z Z J (λ_ d=>d.cell 0 Z (λh q=>wrH.at q))) (H.mono 0 (B:=wrH b (a:Int)) Z (λh q=>⟨_,c,q⟩)) (Bg 11 J Z Z J J J Z Z Z (Fy Z (n':=256) (z:=1) (p:=a) (q:=256) (o':=a) (l':=256-a) (c':=256-a) J Z (.inr ⟨_,_,_,Z,Z,Z⟩) (.inl ⟨Z,Z⟩) U U U U U U) (H.mono 0 (B:=wrH b (a:Int)) Z (λh q=>⟨_,c,q⟩)) (BA [12] [] J (λ_ _=>AU) (by exact H.mono 0 (B:=wrH b (a:Int)) Z (λh q=>⟨_,c,q⟩)) Z J Z Z (Ay [13] J O (Az (Ck Z Z Z Z (G7 0 H Z Z J Z Z (m:=s.length) (news:=(s.map u8)) (.inr ⟨s,Z,Z,Z⟩) (by simp[u8,Value.oneCell']) (by rw[Em _ c];omega) (k:=s.length) U (out:=(AW (Bp bs s a) (a:Int))) (K5 _ U Z)) ?_))))))));rintro _ w ⟨rfl,H⟩;refine Ax (λ_=>(H.mono 0 (B:=wrH b (a:Int)) Z (λh q=>⟨_,((Dj U).trans c),q⟩))) (Bg 14 J Z Z J J J Z Z Z (Cm Z Z Z (r:=((a+s.length:Nat):Int)) U U) (H.mono 0 (B:=wrH b (a:Int)) Z (λh q=>⟨_,((Dj U).trans c),q⟩)) (BA [15,16] [256] J (λ_ _=>AU) (by exact H.mono 0 (B:=wrH b (a:Int)) Z (λh q=>⟨_,((Dj U).trans c),q⟩)) Z J Z Z (Ay [17] J O (Az (CA Z Z Z (AD 0 H Z Z Z Z (vs:=[Aa ((a+s.length:Nat):Int)]) Z (by simp[u8,u32,Value.oneCell']) J (by rw[Em _ ((Dj U).trans c)];simp) (out:=(AW (Bp bs s a) ((a+s.length:Nat):Int))) (HA _ _ ((Dj U).trans c))) ?_)))));rintro w H;refine Ax (λh=>absurd Z h) (Bi J (gn (Zf Z ?_)));exact ⟨_,⟨Z,Z⟩,H⟩
theorem GR(b d:Nat)(a:Int)(bs:List UInt8)(c:bs.length=256):An 180 [V b,V d] [blk b (AW bs (a:Int)) 204,tblA d] (λv G=>v=.slice (some ⟨b,0,none⟩) 256 256/\G=[blk b (AW (Kg bs) (a:Int)) 204,tblA d]):=by
 intro z R w H;refine Af func180 Z ntmps180 Z (Z0 11 [0] Z (Ad Z (Fy Z (n':=256) (z:=1) (p:=0) (q:=252) (o':=0) (l':=252) (c':=256) J Z (.inl ⟨Z,Z⟩) (.inr ⟨_,_,_,Z,Z,Z⟩) U U U U U U) (Ah Z (call171 _) (Lr _ _ _ (bs.take 252) (by simp[c]) _ (λh q=>Hc q c U U U O)) H.f1 ?_)));intro w H;refine AC Z (BN (P:=prog) H Z (zs:=[u8 0,u8 0,u8 0,u8 0]) J) ?_;rintro _ w ⟨f,rfl,H⟩;refine Z4 4 [0] H Z ?_;intro w H;refine Bo 5 J J (A9 H λw e=>?_);have H:=e.l3;refine SX 3 [0] Z J (B5 Z Z Z (Fy Z (n':=256) (z:=1) (p:=252) (q:=256) (o':=252) (l':=4) (c':=4) J Z (.inr ⟨_,_,_,Z,Z,Z⟩) (.inl ⟨Z,Z⟩) U U U U U U) (B5 Z Z Z (Fy Z (n':=4) (z:=1) (p:=0) (q:=4) (o':=0) (l':=4) (c':=4) J Z (.inl ⟨Z,Z⟩) (.inl ⟨Z,Z⟩) U U U U U U) (Cf (gw (AC Z (G7 2 H Z Z J Z Z (m:=4) (news:=((CY (Av (bs.take 252))).map u8)) (.inl (H.rv 0 (·.rd U U O Z))) (by simp[CY,u8,Value.oneCell']) (by rw[Em _ c];omega) (k:=4) U (out:=(AW (Kg bs) (a:Int))) (K5 _ (by simp[CY,c]) Z)) ?_)))));rintro _ w ⟨rfl,H⟩;refine Z0 7 [0] Z (Ad Z (Fy Z (n':=256) (z:=1) (p:=0) (q:=256) (o':=0) (l':=256) (c':=256) J Z (.inl ⟨Z,Z⟩) (.inl ⟨Z,Z⟩) U U U U U U) (Zc 4 Z (Zr Z ?_)));exact ⟨_,⟨Z,Z⟩,H.perm 3 [2,1] Z Z⟩
theorem DL(k:Nat)(d b o n c:Nat)(xs:List UInt8)(A:Ai)(e:∀h,A h->rdH 1 (.slice (some ⟨b,o,none⟩) n c) n (xs.map u8) h)(hn:n<=c/\k<c)(hk:k<=n)(ys:List UInt8)(y:xs.take k=ys)(s i l:Nat)(f:o+k=s)(h2:n-k=i)(h3:c-k=l):An 121 [V d,Aa (k:Int)] [blk d [.slice (some ⟨b,o,none⟩) n c] 162,A] (λv G=>v=Aa (A0 ys)/\G=[blk d [.slice (some ⟨b,s,none⟩) i l] 162,A]):=by
 intro z R w H;subst y f h2 h3;have u:=H.sy 1 (λq=>(e _ q).len);have a0:=H.sy 1 (λq=>(e _ q).cap);refine Af func121 Z ntmps121 Z (Z2 18 [0,0,0] H Z (Ad Z (Ba Z (z:=1) (p:=0) (q:=k) (o':=o) (l':=k) (c':=c) J Z (.inl ⟨Z,Z⟩) (.inr ⟨_,_,_,Z,Z,Z⟩) U U U U U U) (Zc 5 Z ?_)));refine Ap (σ:=Nat) (λj=>[(15,Aa (j:Int)),(5,Aa (A0 (xs.take j))),(0,V d),(1,Aa (k:Int)),(4,Aa 0),(13,.slice (some ⟨b,o,none⟩) k c),(14,Aa (k:Int))])
   (λj w=>Sep z (blk d [.slice (some ⟨b,o,none⟩) n c] 162::A::R) w/\(j<=k)) (λj=>k-j) 0
   (λ_ a=>(a.co Z (by go_num) a.cz)) ⟨H,by omega⟩ ?_
 clear H;rintro j w ⟨H',r⟩;have H:=H'.l2;have t:=r;clear r;refine Z0 6 [0] Z (Ag Z (λf=>?_) (λf=>?_))
 ·obtain ⟨x,g⟩:∃x,xs[j]?=some x:=⟨_,XW U⟩;refine Z1 7 [1,j,o+j] [] Z U (Ad Z (AZ Z Z J (AA (H.cell 1 Z (λh q=>(e h q).at g)))) (Zc 5 Z (Ad Z (O2 Z Z Z (m:=8) Z (by decide)) (Zc 1 Z (Ad Z (KJ Z J Z) (Ad Z (S5 Z Z Z (K6 _) ⟨by omega,by have:=x.toNat_lt;omega⟩) (Z1 8 [] [(j:Int)+1] Z U (gf ?_))))))));intro _ a;refine ⟨(j+1),(a.co Z (by go_num) (a.co Z (congrArg Aa (Hd g)) (a.all Z))),⟨H,?_⟩,?_⟩
  ·omega
  omega
 obtain rfl:j=k:=by omega
 refine Zc 2 Z (gx (Z2 10 [0,0,0] H Z (Ad Z (Ba Z (z:=1) (p:=j) (q:=n) (o':=o+j) (l':=n-j) (c':=c-j) J Z (.inr ⟨_,_,_,Z,Z,Z⟩) (.inl ⟨Z,Z⟩) U U U U U U) (Z4 12 [0,0] H Z ?_))));intro w H;refine Zr Z ?_;exact ⟨_,⟨Z,Z⟩,H⟩
theorem T2(b o n c:Nat)(xs:List UInt8)(A:Ai)(e:∀h,A h->rdH 1 (.slice (some ⟨b,o,none⟩) n c) n (xs.map u8) h)(hn:n<=c):An 234 [.slice (some ⟨b,o,none⟩) n c,u8 0] [A] (λv G=>v=.slice (some ⟨b,o,none⟩) (rz xs) c/\G=[A]):=by
 intro z R w H;have i:=H.sy 0 (λq=>(e _ q).len);have s:=H.sy 0 (λq=>(e _ q).cap);refine Af func234 Z ntmps234 Z (Zc 7 Z ?_);refine Ap (σ:=Nat) (λm=>[(0,.slice (some ⟨b,o,none⟩) m c),(1,u8 0),(4,.slice none 0 0)])
   (λm w=>Sep z (A::R) w/\(m<=n/\∀(j:Nat) (y:UInt8),m<=j->xs[j]?=some y->y=0)) (λm=>m) n
   (λ_ f=>(f.all Z)) ⟨H,Yp _,λj y l h=>by have:=(XV.1 h).1;omega⟩ ?_
 clear H;rintro m w ⟨u,t⟩;have H:=u.l1;obtain ⟨hm,g⟩:=t;refine Z0 7 [0] Z (Am 8 Z (λr=>?_) (λr=>?_))
 ·obtain ⟨x,a⟩:∃x,xs[m-1]?=some x:=⟨_,XW U⟩;refine Z1 5 [1,(m-1),o+(m-1)] [((m-1:Nat):Int)] Z U (Ad Z (AZ Z Z J (AA (H.cell 0 Z (λh q=>(e h q).at a)))) (Zc 1 Z (Ad Z (OF (q:=0) (k:=.u8) Z J Z Z) (Zc 3 Z (Ag Z (λd=>?_) (λd=>?_))))))
  ·refine Z1 8 [] [((m-1:Nat):Int)] Z U (Ad Z (Ba Z (z:=1) (p:=0) (q:=(m-1)) (o':=o) (l':=(m-1)) (c':=c) J Z (.inl ⟨Z,Z⟩) (.inr ⟨_,_,_,Z,Z,Z⟩) U U U U U U) (Zc 3 Z (gf ?_)));intro _ f;refine ⟨(m-1),(f.all Z),⟨H,?_⟩,?_⟩
   ·refine ⟨by omega,λj y l h=>?_⟩;rcases Yg j m with q|q
    ·obtain rfl:j=m-1:=by omega
     rw[a] at h;cases h;exact d
    exact g j y q h
   omega
  refine Zc 2 Z (gx (Zc 9 Z (Zr Z ?_)));obtain rfl:m=rz xs:=rz_is U g (by first|exact .inl U|exact .inr ⟨x,a,d⟩);exact ⟨_,⟨Z,Z⟩,H⟩
 refine Zc 14 Z (gx (Zc 9 Z (Zr Z ?_)));obtain rfl:m=rz xs:=rz_is U g (by first|exact .inl U|exact .inr ⟨x,a,d⟩);exact ⟨_,⟨Z,Z⟩,H⟩
theorem T3(b o n c:Nat)(xs:List UInt8)(A:Ai)(f:∀h,A h->rdH 1 (.slice (some ⟨b,o,none⟩) n c) n (xs.map u8) h)(hn:n<c):An 233 [.slice (some ⟨b,o,none⟩) n c,u8 0] [A] (λv G=>v=(if lz xs=n then .slice none 0 0 else .slice (some ⟨b,o+lz xs,none⟩) (n-lz xs) (c-lz xs))/\G=[A]):=by
 intro z R w H;have g:=H.sy 0 (λq=>(f _ q).len);refine Af func233 Z ntmps233 Z (Zc 7 Z ?_);refine Ap (σ:=Nat) (λp=>[(0,.slice (some ⟨b,(o+p),none⟩) (n-p) (c-p)),(1,u8 0),(4,.slice none 0 0)])
   (λp w=>Sep z (A::R) w/\(p<=n/\∀(j:Nat) (y:UInt8),j<p->xs[j]?=some y->y=0)) (λp=>n-p) 0
   fr_z ⟨H,by omega,λj y i h=>by omega⟩ ?_
 clear H;rintro p w ⟨u,s⟩;have H:=u.l1;obtain ⟨hp,e⟩:=s;refine Z0 7 [0] Z (Am 8 Z (λl=>?_) (λl=>?_))
 ·obtain ⟨x,a⟩:∃x,xs[p]?=some x:=⟨_,XW U⟩;refine Z1 2 [1,0,o+p] [] Z U (Ad Z (AZ Z Z J (AA (H.cell 0 Z (λh q=>(f h q).at a)))) (Zc 1 Z (Ad Z (OF (q:=0) (k:=.u8) Z J Z Z) (Zc 3 Z (Ag Z (λd=>?_) (λd=>?_))))))
  ·refine Zc 5 Z (Ad Z (Ba Z (z:=1) (p:=1) (q:=(n-p)) (o':=o+(p+1)) (l':=(n-(p+1))) (c':=(c-(p+1))) J Z (.inr ⟨_,_,_,Z,Z,Z⟩) (.inl ⟨Z,Z⟩) U U U U U U) (Zc 3 Z (gf ?_)));intro _ hF;refine ⟨(p+1),(hF.all Z),⟨H,?_⟩,?_⟩
   ·refine ⟨by omega,λj y i h=>?_⟩;rcases Yg j p with q|q
    ·exact e j y q h
    obtain rfl:j=p:=by omega
    rw[a] at h;cases h;exact d
   omega
  refine Zc 2 Z (gx (Z0 10 [0] Z (Ag Z (λm=>?_) (λm=>?_))))
  ·refine Zc 6 Z (Zr Z ?_);obtain rfl:p=lz xs:=I3 U e (by first|exact .inl U|exact .inr ⟨x,a,d⟩);exact ⟨_,⟨by first|(exfalso;omega)|rw[if_pos U]|rw[if_neg U],rfl⟩,H⟩
  refine Zc 9 Z (Zr Z ?_);obtain rfl:p=lz xs:=I3 U e (by first|exact .inl U|exact .inr ⟨x,a,d⟩);exact ⟨_,⟨by first|(exfalso;omega)|rw[if_pos U]|rw[if_neg U],rfl⟩,H⟩
 refine Zc 11 Z (gx (Z0 10 [0] Z (Ag Z (λt=>?_) (λt=>?_))))
 ·refine Zc 6 Z (Zr Z ?_);obtain rfl:p=lz xs:=I3 U e (by first|exact .inl U|exact .inr ⟨x,a,d⟩);exact ⟨_,⟨by first|(exfalso;omega)|rw[if_pos U]|rw[if_neg U],rfl⟩,H⟩
 refine Zc 9 Z (Zr Z ?_);obtain rfl:p=lz xs:=I3 U e (by first|exact .inl U|exact .inr ⟨x,a,d⟩);exact ⟨_,⟨by first|(exfalso;omega)|rw[if_pos U]|rw[if_neg U],rfl⟩,H⟩
theorem VH(b o n c:Nat)(xs:List UInt8)(A:Ai)(a:∀h,A h->rdH 1 (.slice (some ⟨b,o,none⟩) n c) n (xs.map u8) h)(s:n<c\/(n<=c/\rz xs=0/\0<c)):An 215 [.slice (some ⟨b,o,none⟩) n c,EO [0]] [A] (λv G=>(rz xs=0/\v=.slice none 0 0/\G=[A])\/(rz xs≠0/\∃f d r,0<d/\v=.slice (some ⟨b,f,none⟩) d r/\G=[A])):=by
 intro z R w H;have e:=H.sy 0 (λq=>(a _ q).len);have i:=H.sy 0 (λq=>(a _ q).cap);have k:=NN xs;refine Af func215 Z ntmps215 Z (Z0 13 [0] Z (Ag Z (λg=>?_) (λg=>?_)))
 ·refine Zc 6 Z (Zr Z ?_);exact ⟨_,.inl ⟨by omega,Z,Z⟩,H⟩
 refine Zc 6 Z (Ad Z (OR (l:=[0]) (m:=[]) Z J Z Z) (k_updA 11 (v:=.bool false) Z (congrArg Value.bool (by decide)) (Zc 9 Z (Ad Z (QS (l:=[0]) Z J Z) (Z0 3 [3] Z (Ad Z (Im (l:=[0]) (j:=0) (b:=0) Z J Z Z Z Z) (Z0 1 [0] Z (k_updA 19 (v:=.bool true) Z (congrArg Value.bool (by decide)) (Zc 5 Z (A4 (Sep z _) J J H.drew (Ca 2 [] Z J (Be Z Z Z (Im (l:=[0]) (j:=0) (b:=0) Z J Z Z Z Z) (CO Z Z Z Z Z (λw=>call234 _ w) (v:=.slice (some ⟨b,o,none⟩) (rz xs) c) (cq (T2 _ _ _ _ xs _ a U) (by rintro _ _ ⟨rfl,rfl⟩;exact ⟨Z,Z⟩) 1 [0] [0] Z Z Z Z) ?_)))))))))))));refine Ca 1 [] Z J (Be Z Z Z (Im (l:=[0]) (j:=0) (b:=0) Z J Z Z Z Z) (CO Z Z Z Z Z (λw=>call233 _ w) (v:=if lz ((xs.drop 0).take (rz xs))=(rz xs) then .slice none 0 0 else .slice (some ⟨b,o+lz ((xs.drop 0).take (rz xs)),none⟩) ((rz xs)-lz ((xs.drop 0).take (rz xs))) (c-lz ((xs.drop 0).take (rz xs)))) (cq (T3 _ _ _ _ ((xs.drop 0).take (rz xs)) _ (λh q=>(a h q).cut (lo:=0) (m:=rz xs) (c':=c) U U U) U) (by rintro _ _ ⟨rfl,rfl⟩;exact ⟨Z,Z⟩) 1 [0] [0] Z Z Z Z) (Ca 1 [] Z J (Bn (λw p=>?_)))));have H:=p.l1;refine gn (Zc 2 Z (Zr Z ?_));by_cases hz:rz xs=0
 ·exact ⟨[A],.inl ⟨hz,by rw[if_pos];simp[hz,lz],Z⟩,H⟩
 have:=WP hz;exact ⟨_,.inr ⟨hz,_,rz xs-lz ((xs.drop 0).take (rz xs)),_,by simp;omega,by rw[if_neg (by simp;omega)],Z⟩,H⟩
theorem Pk(a b o n c:Nat)(xs:List UInt8)(A:Ai)(f:∀h,A h->rdH 1 (.slice (some ⟨b,o,none⟩) n c) n (xs.map u8) h)(i:n<c\/(n<=c/\rz xs=0/\0<c)):An 174 [V a] [blk a [.slice (some ⟨b,o,none⟩) n c] 162,A] (λv G=>v=.bool (decide (rz xs=0))/\G=[blk a [.slice (some ⟨b,o,none⟩) n c] 162,A]):=by
 intro z R w H;refine Af func174 Z ntmps174 Z (Z2 11 [0,0,0] H Z (AB Z (call215 _) (VH _ _ _ _ xs _ f i) H.f1 ?_));rintro _ w _ (⟨d,rfl,rfl⟩|⟨d,k,j,l,g,rfl,rfl⟩) e
 ·have H:=e.l2;refine Z0 6 [3] Z (Zr Z ?_);exact ⟨_,⟨congrArg Value.bool (by first|(simp[d];done)|(rw[Yf];simp<;>omega)),Z⟩,H.perm 2 [1,0] Z Z⟩
 have H:=e.l2;refine Z0 6 [0] Z (Zr Z ?_);exact ⟨_,⟨congrArg Value.bool (by first|(simp[d];done)|(rw[Yf];simp<;>omega)),Z⟩,H.perm 2 [1,0] Z Z⟩
theorem JL(f b o c:Nat)(a sec:List UInt8)(A:Ai)(e:∀h,A h->rdH 1 (.slice (some ⟨b,o,none⟩) 256 c) 256 (sec.map u8) h):An 120 [V f,.slice (some ⟨b,o,none⟩) 256 c,EO a] [tblA f,A] (λv G=>(Il a sec/\v=.tuple #[.agg #[.slice (some ⟨b,o+4,none⟩) 248 (c-4)],.bool true]/\G=[tblA f,A])\/(¬Il a sec/\v=.tuple #[.agg #[.slice none 0 0],.bool false]/\G=[tblA f,A])):=by
 intro z R w H;have d:=H.sy 1 (λq=>(e _ q).len);have s:=H.sy 1 (λq=>(e _ q).cap);obtain ⟨t,x,r,u,g⟩:=K7 d;refine Af func120 Z ntmps120 Z (Za 2 [] H Z ?_);intro y w H;refine Zc 5 Z (A4 (Sep z _) J J H.drew (IY 9 [4] [] Z J (Be Z Z Z (Ba Z (z:=1) (p:=252) (q:=256) (o':=o+252) (l':=4) (c':=c-252) J Z (.inr ⟨_,_,_,Z,Z,Z⟩) (.inl ⟨Z,Z⟩) U U U U U U) (Be Z Z Z (Kj (m:=4) Z J Z U) (Be Z Z Z (Bz Z Z (vs:=[u8 t,u8 x,u8 r,u8 u]) J (λ_ i=>i.cell4 2 Z e g)) (Ca 2 [] Z J (Be Z Z Z (Ba Z (z:=1) (p:=0) (q:=252) (o':=o) (l':=252) (c':=c) J Z (.inl ⟨Z,Z⟩) (.inr ⟨_,_,_,Z,Z,Z⟩) U U U U U U) (CO Z Z Z Z Z (λw=>call171 _ w) (v:=.agg #[u8 ((Av (sec.take 252)).toUInt8),u8 (((Av (sec.take 252))>>>8).toUInt8),u8 (((Av (sec.take 252))>>>16).toUInt8),u8 (((Av (sec.take 252))>>>24).toUInt8)]) (cq (Lr _ _ _ (sec.take 252) (by simp[d]) _ (λh q=>(e h q).pre U U)) (by rintro _ _ ⟨rfl,rfl⟩;exact ⟨Z,Z⟩) 3 [1,2,0] [2,0,1] Z Z Z Z) (Be Z Z Z (MH Z J J Z Z) (Ca 2 [] Z J (Co 26 Z (λk=>?_) (λk=>?_))))))))))))
 ·refine Ca 6 [] Z J (Bn (λw j=>?_));have H:=j.l3;refine gn (Z4 10 [0] H Z ?_);intro w H;refine Zl [0,1] H Z ?_;exact ⟨_,.inr ⟨λhs=>by first|exact absurd (g▸hs.1) ‹_› |exact absurd hs.2 ‹_›,rfl,rfl⟩,H.perm 3 [1,2] rfl rfl⟩
 refine Ca 1 [] Z J (Be Z Z Z (Ba Z (z:=1) (p:=0) (q:=4) (o':=o) (l':=4) (c':=c) J Z (.inl ⟨Z,Z⟩) (.inr ⟨_,_,_,Z,Z,Z⟩) U U U U U U) (Be Z Z Z (Ey (l:=sec.take 4) Z J J Z (λ_ i=>i.rd 2 Z (λh q=>by have:=(e h q).pre (m:=4) (c':=c) U U;rwa[show (sec.take 4).length=4 from by simp[d]]))) (Ca 1 [] Z J (Be Z Z Z (Vx (l:=sec.take 4) (m:=a) Z J Z Z) (Ca 1 [] Z J (Bn (λw j=>?_)))))));have H:=j.l3;refine gn (Zc 1 Z (Ag Z (λn=>?_) (λn=>?_)))
 ·refine Z4 8 [0] H Z ?_;intro w H;refine Zl [0,1] H Z ?_;exact ⟨_,.inr ⟨λhs=>by first|exact absurd (g▸hs.1) ‹_› |exact absurd hs.2 ‹_›,rfl,rfl⟩,H.perm 3 [1,2] rfl rfl⟩
 refine Zc 5 Z (Ad Z (Ba Z (z:=1) (p:=4) (q:=252) (o':=o+4) (l':=248) (c':=c-4) J Z (.inr ⟨_,_,_,Z,Z,Z⟩) (.inr ⟨_,_,_,Z,Z,Z⟩) U U U U U U) (Z4 6 [0] H Z ?_));intro w H;refine Zl [0,1] H Z ?_;exact ⟨_,.inl ⟨⟨by rw[g];exact Z7 ‹_›,Z7 ‹_›⟩,Z,Z⟩,H.perm 3 [1,2] Z Z⟩
theorem NV(d:Nat)(x y c a:Int)(m:Value)(b:List UInt8)(A:Ai)(j:∀h,A h->rdH 1 m b.length (b.map u8) h):An 231 [V d,Aa x,Aa y,.agg #[Aa c,Aa a,m]] [tblA d,A] (λv G=>(¬((0<=x/\x<=4294967295)/\(0<=y/\y<=1099511627775)/\(0<=c/\c<=1023)/\(1<=a/\a<=5)/\b.length=240)/\v=.tuple #[.slice none 0 0,Aa 1]/\G=[tblA d,A])\/(((0<=x/\x<=4294967295)/\(0<=y/\y<=1099511627775)/\(0<=c/\c<=1023)/\(1<=a/\a<=5)/\b.length=240)/\∃k,v=.tuple #[.slice (some ⟨k,0,none⟩) 256 256,Aa 0]/\G=[blk k (AW (sect (Ae 1 a++Ae 2 c++Ae 4 x++Ae 5 y++b)) 252) 204,tblA d,A])):=by
 intro z R w H;obtain ⟨i,f,rfl⟩:=H.sy 1 (λq=>(j _ q).slc);refine Af func231 Z ntmps231 Z (Za 2 [] H Z ?_);intro g w H;refine Zc 11 Z (Ah Z (call122 _) (CK _ _) H ?_);intro w H;refine Ad Z (AM Z Z) (Zc 2 Z (Am 18 Z (λp=>?_) (λp=>?_)))
 ·refine Zc 39 Z (Zr Z ?_);exact ⟨_,.inl ⟨by omega,Z,Z⟩,H.perm 3 [1,2] Z Z⟩
 refine Zc 1 Z (Ah Z (call122 _) (CK _ _) H ?_);intro w H;refine Ad Z (AM Z Z) (Zc 2 Z (Am 23 Z (λs=>?_) (λs=>?_)))
 ·refine Zc 34 Z (Zr Z ?_);exact ⟨_,.inl ⟨by omega,Z,Z⟩,H.perm 3 [1,2] Z Z⟩
 refine Z2 2 [0,0,0] H Z (Ah Z (call122 _) (CK _ _) H ?_);intro w H;refine Ad Z (AM Z Z) (Zc 2 Z (Am 29 Z (λr=>?_) (λr=>?_)))
 ·refine Zc 28 Z (Zr Z ?_);exact ⟨_,.inl ⟨by omega,Z,Z⟩,H.perm 3 [1,2] Z Z⟩
 refine Z2 6 [1,1,0,0,0] H Z (Am 35 Z (λt=>?_) (λt=>?_))
 ·refine Zc 22 Z (Zr Z ?_);exact ⟨_,.inl ⟨by omega,Z,Z⟩,H.perm 3 [1,2] Z Z⟩
 refine Z2 6 [1,1,0,0,0] H Z (Am 41 Z (λu=>?_) (λu=>?_))
 ·refine Zc 16 Z (Zr Z ?_);exact ⟨_,.inl ⟨by omega,Z,Z⟩,H.perm 3 [1,2] Z Z⟩
 refine Z2 8 [1,2,0,0,0] H Z (Ag Z (λo=>?_) (λo=>?_))
 ·refine Zc 7 Z (Zr Z ?_);exact ⟨_,.inl ⟨by omega,Z,Z⟩,H.perm 3 [1,2] Z Z⟩
 refine Zc 4 Z (AC Z (BN (P:=prog) H Z (zs:=(AW (AX []) 0)) J) ?_);rintro _ w ⟨e,rfl,H⟩;refine Z2 7 [1,1,1,0] H Z (Ah Z (call144 _) (Du _ 0 1 a _ (A7 (by first|omega|(simp[Ac]<;>omega))) U) H ?_);intro w H;rw[show Bp (AX []) (Ae 1 a) 0=AX (Ae 1 a) from B6 Z (by first|omega|(simp[Ac]<;>omega))] at H;have H:Sep z (blk e (AW (AX (Ae 1 a)) 1) 204::blk g [Aa c,Aa a,.slice i b.length f] 118::tblA d::A::R) w:=H;refine Z2 6 [0,1,0] H Z (Ah Z (call144 _) (Du _ 1 2 c _ (A7 (by first|omega|(simp[Ac]<;>omega))) U) H ?_);intro w H;rw[show Bp (AX (Ae 1 a)) (Ae 2 c) 1=AX (Ae 1 a++Ae 2 c) from B6 (by first|omega|(simp[Ac]<;>omega)) (by first|omega|(simp[Ac]<;>omega))] at H;have H:Sep z (blk e (AW (AX (Ae 1 a++Ae 2 c)) 3) 204::blk g [Aa c,Aa a,.slice i b.length f] 118::tblA d::A::R) w:=H;refine Zc 5 Z (Ah Z (call144 _) (Du _ 3 4 x _ (A7 (by first|omega|(simp[Ac]<;>omega))) U) H ?_);intro w H;rw[show Bp (AX (Ae 1 a++Ae 2 c)) (Ae 4 x) 3=AX (Ae 1 a++Ae 2 c++Ae 4 x) from B6 (by first|omega|(simp[Ac]<;>omega)) (by first|omega|(simp[Ac]<;>omega))] at H;have H:Sep z (blk e (AW (AX (Ae 1 a++Ae 2 c++Ae 4 x)) 7) 204::blk g [Aa c,Aa a,.slice i b.length f] 118::tblA d::A::R) w:=H;refine Zc 5 Z (Ah Z (call144 _) (Du _ 7 5 y _ (A7 (by first|omega|(simp[Ac]<;>omega))) U) H ?_);intro w H;rw[show Bp (AX (Ae 1 a++Ae 2 c++Ae 4 x)) (Ae 5 y) 7=AX (Ae 1 a++Ae 2 c++Ae 4 x++Ae 5 y) from B6 (by first|omega|(simp[Ac]<;>omega)) (by first|omega|(simp[Ac]<;>omega))] at H;have H:Sep z (blk e (AW (AX (Ae 1 a++Ae 2 c++Ae 4 x++Ae 5 y)) 12) 204::blk g [Aa c,Aa a,.slice i b.length f] 118::tblA d::A::R) w:=H;refine Z2 7 [1,2,1,0] H Z (Ad Z (Ey (l:=b) Z J J Z (AA (H.rd 3 Z j))) (Ah Z (call179 _) (Hh _ 12 b _ (A7 (by first|omega|(simp[Ac]<;>omega))) (by first|omega|(simp<;>omega))) H ?_));intro w H;rw[show ((12+b.length:Nat):Int)=(252:Int) from by omega] at H;rw[show Bp (AX (Ae 1 a++Ae 2 c++Ae 4 x++Ae 5 y)) b 12=AX (Ae 1 a++Ae 2 c++Ae 4 x++Ae 5 y++b) from B6 (by first|omega|(simp[Ac]<;>omega)) (by first|omega|(simp[Ac]<;>omega))] at H;have H:Sep z (blk e (AW (AX (Ae 1 a++Ae 2 c++Ae 4 x++Ae 5 y++b)) 252) 204::blk g [Aa c,Aa a,.slice i b.length f] 118::tblA d::A::R) w:=H;refine Zc 5 Z (Ah Z (call180 _) (GR _ _ _ _ (A7 (by first|omega|(simp[Ac]<;>omega)))) H.f2.f1 ?_);intro w H;refine Zc 5 Z (Zr Z ?_);exact ⟨_,.inr ⟨by omega,e,Z,Z⟩,H.perm 4 [0,1,3] Z Z⟩
theorem Km(d:Nat)(c a:Int)(m:Value)(b:List UInt8)(A:Ai)(j:∀h,A h->rdH 1 m b.length (b.map u8) h):An 133 [V d,.agg #[Aa c,Aa a,m]] [tblA d,A] (λv G=>(¬((0<=c/\c<=1023)/\(1<=a/\a<=5)/\b.length=240)/\v=.tuple #[.slice none 0 0,Aa 1]/\G=[tblA d,A])\/(((0<=c/\c<=1023)/\(1<=a/\a<=5)/\b.length=240)/\∃k,v=.tuple #[.slice (some ⟨k,0,none⟩) 256 256,Aa 0]/\G=[blk k (AW (sect ([80,80,65,71]++Ae 1 a++Ae 4 c++[0,0,0]++b)) 252) 204,tblA d,A])):=by
 intro z R w H;replace H:=H.l2;obtain ⟨i,f,rfl⟩:=H.sy 1 (λq=>(j _ q).slc);refine Af func133 Z ntmps133 Z (Za 2 [] H Z ?_);intro g w H;refine Z2 12 [0,0,0] H Z (Ah Z (call122 _) (CK _ _) H ?_);intro w H;replace H:=H.l3;refine Ad Z (AM Z Z) (Zc 2 Z (Am 15 Z (λo=>?_) (λo=>?_)))
 ·refine Zc 28 Z (Zr Z ?_);exact ⟨_,.inl ⟨by omega,Z,Z⟩,H.perm 3 [1,2] Z Z⟩
 refine Z2 6 [1,1,0,0,0] H Z (Am 21 Z (λr=>?_) (λr=>?_))
 ·refine Zc 22 Z (Zr Z ?_);exact ⟨_,.inl ⟨by omega,Z,Z⟩,H.perm 3 [1,2] Z Z⟩
 refine Z2 6 [1,1,0,0,0] H Z (Am 27 Z (λp=>?_) (λp=>?_))
 ·refine Zc 16 Z (Zr Z ?_);exact ⟨_,.inl ⟨by omega,Z,Z⟩,H.perm 3 [1,2] Z Z⟩
 refine Z2 8 [1,2,0,0,0] H Z (Ag Z (λs=>?_) (λs=>?_))
 ·refine Zc 7 Z (Zr Z ?_);exact ⟨_,.inl ⟨by omega,Z,Z⟩,H.perm 3 [1,2] Z Z⟩
 refine Zc 4 Z (AC Z (BN (P:=prog) H Z (zs:=(AW (AX []) 0)) J) ?_);rintro _ w ⟨e,rfl,H⟩;replace H:=H.l4;refine Zc 4 Z (Ah Z (call179 _) (Hh _ 0 [80,80,65,71] _ (A7 (by first|omega|(simp[Ac]<;>omega))) (by first|omega|(simp<;>omega))) H ?_);intro w H;replace H:=H.l4;rw[show Bp (AX []) ([80,80,65,71]) 0=AX ([80,80,65,71]) from B6 Z (by first|omega|(simp[Ac]<;>omega))] at H;have H:Sep z (blk e (AW (AX ([80,80,65,71])) 4) 204::blk g [Aa c,Aa a,.slice i b.length f] 118::tblA d::A::R) w:=H;refine Z2 7 [1,1,1,0] H Z (Ah Z (call144 _) (Du _ 4 1 a _ (A7 (by first|omega|(simp[Ac]<;>omega))) U) H ?_);intro w H;replace H:=H.l4;rw[show Bp (AX ([80,80,65,71])) (Ae 1 a) 4=AX ([80,80,65,71]++Ae 1 a) from B6 (by first|omega|(simp[Ac]<;>omega)) (by first|omega|(simp[Ac]<;>omega))] at H;have H:Sep z (blk e (AW (AX ([80,80,65,71]++Ae 1 a)) 5) 204::blk g [Aa c,Aa a,.slice i b.length f] 118::tblA d::A::R) w:=H;refine Z2 6 [0,1,0] H Z (Ah Z (call144 _) (Du _ 5 4 c _ (A7 (by first|omega|(simp[Ac]<;>omega))) U) H ?_);intro w H;replace H:=H.l4;rw[show Bp (AX ([80,80,65,71]++Ae 1 a)) (Ae 4 c) 5=AX ([80,80,65,71]++Ae 1 a++Ae 4 c) from B6 (by first|omega|(simp[Ac]<;>omega)) (by first|omega|(simp[Ac]<;>omega))] at H;have H:Sep z (blk e (AW (AX ([80,80,65,71]++Ae 1 a++Ae 4 c)) 9) 204::blk g [Aa c,Aa a,.slice i b.length f] 118::tblA d::A::R) w:=H;refine Z0 5 [256] Z (AV Z Z (AD 0 H Z Z Z Z (vs:=[Aa 12]) Z (by simp[u8,u32,Value.oneCell']) J (by rw[Em _ (A7 (by first|omega|(simp[Ac]<;>omega)))];simp) (out:=(AW (AX ([80,80,65,71]++Ae 1 a++Ae 4 c)) 12)) (HA _ _ (A7 (by first|omega|(simp[Ac]<;>omega))))) ?_);rintro w H;replace H:=H.l4;refine Z2 7 [1,2,1,0] H Z (Ad Z (Ey (l:=b) Z J J Z (AA (H.rd 3 Z j))) (Ah Z (call179 _) (Hh _ 12 b _ (A7 (by first|omega|(simp[Ac]<;>omega))) (by first|omega|(simp<;>omega))) H ?_));intro w H;replace H:=H.l4;rw[show ((12+b.length:Nat):Int)=(252:Int) from by omega] at H;rw[show Bp (AX ([80,80,65,71]++Ae 1 a++Ae 4 c)) b 12=AX ([80,80,65,71]++Ae 1 a++Ae 4 c++[0,0,0]++b) from (Q1 (by first|omega|(simp[Ac]<;>omega)) (by first|omega|(simp[Ac]<;>omega))).trans (by simp[Ac])] at H;have H:Sep z (blk e (AW (AX ([80,80,65,71]++Ae 1 a++Ae 4 c++[0,0,0]++b)) 252) 204::blk g [Aa c,Aa a,.slice i b.length f] 118::tblA d::A::R) w:=H;refine Zc 5 Z (Ah Z (call180 _) (GR _ _ _ _ (A7 (by first|omega|(simp[Ac]<;>omega)))) H.f2.f1 ?_);intro w H;refine Zc 5 Z (Zr Z ?_);exact ⟨_,.inr ⟨by omega,e,Z,Z⟩,H.perm 4 [0,1,3] Z Z⟩
theorem Pl(a:Nat)(e s:Int)(u:UInt32)(pv:Value)(ns:List Int)(A:Ai)(hA:∀h,A h->rdH 1 pv ns.length (ns.map Aa) h):An 232 [V a,.agg #[Aa e,Aa s,pv,u32 u]] [tblA a,A] (λv G=>(¬((0<=e/\e<=1099511627776)/\(0<=s/\s<=1099511627776)/\(1<=ns.length/\ns.length<=40)/\∀x∈ns,0<=x/\x<=1023)/\v=.tuple #[.slice none 0 0,Aa 1]/\G=[tblA a,A])\/(((0<=e/\e<=1099511627776)/\(0<=s/\s<=1099511627776)/\(1<=ns.length/\ns.length<=40)/\∀x∈ns,0<=x/\x<=1023)/\∃pw,v=.tuple #[.slice (some ⟨pw,0,none⟩) 256 256,Aa 0]/\G=[blk pw (AW (sect ([80,76,79,71]++Ae 8 e++Ae 8 s++Ae 4 (u.toNat:Int)++Ae 2 (ns.length:Int)++ns.flatMap (Ae 4))) ((26+4*ns.length:Nat):Int)) 204,tblA a,A])):=by
 intro z R w H;obtain ⟨g,d,rfl⟩:=H.sy 1 (λq=>(hA _ q).slc);refine Af func232 Z ntmps232 Z (Za 2 [] H Z ?_);intro k w H;refine Z2 12 [0,0,0] H Z (Ah Z (call122 _) (CK _ _) H ?_);intro w H;refine Ad Z (AM Z Z) (Zc 2 Z (Am 17 Z (λh1=>?_) (λh1=>?_)))
 ·refine Zc 27 Z (Zr Z ?_);exact ⟨_,.inl ⟨by rintro ⟨p,n,o,f⟩;first|omega|exact absurd (f x (XX b)) ‹_›,rfl,rfl⟩,H.perm 3 [1,2] rfl rfl⟩
 refine Z2 2 [1,0,0] H Z (Ah Z (call122 _) (CK _ _) H ?_);intro w H;refine Ad Z (AM Z Z) (Zc 2 Z (Am 23 Z (λh2=>?_) (λh2=>?_)))
 ·refine Zc 21 Z (Zr Z ?_);exact ⟨_,.inl ⟨by rintro ⟨p,n,o,f⟩;first|omega|exact absurd (f x (XX b)) ‹_›,rfl,rfl⟩,H.perm 3 [1,2] rfl rfl⟩
 refine Z2 6 [2,0,0,0] H Z (Am 29 Z (λh3=>?_) (λh3=>?_))
 ·refine Zc 15 Z (Zr Z ?_);exact ⟨_,.inl ⟨by rintro ⟨p,n,o,f⟩;first|omega|exact absurd (f x (XX b)) ‹_›,rfl,rfl⟩,H.perm 3 [1,2] rfl rfl⟩
 refine Z2 7 [2,0,0,0] H Z (Ag Z (λh4=>?_) (λh4=>?_))
 ·refine Zc 7 Z (Zr Z ?_);exact ⟨_,.inl ⟨by rintro ⟨p,n,o,f⟩;first|omega|exact absurd (f x (XX b)) ‹_›,rfl,rfl⟩,H.perm 3 [1,2] rfl rfl⟩
 refine Zc 4 Z (AC Z (BN (P:=prog) H Z (zs:=(AW (AX []) 0)) J) ?_);rintro _ w ⟨c,rfl,H⟩;refine Zc 4 Z (Ah Z (call179 _) (Hh _ 0 [80,76,79,71] _ (A7 (by first|omega|(simp[Ac,BD,-List.length_flatMap]<;>omega))) (by first|omega|(simp<;>omega))) H ?_);intro w H;rw[show Bp (AX []) ([80,76,79,71]) 0=AX ([80,76,79,71]) from B6 Z (by first|omega|(simp[Ac,BD,-List.length_flatMap]<;>omega))] at H;have H:Sep z (blk c (AW (AX ([80,76,79,71])) 4) 204::blk k [Aa e,Aa s,.slice g ns.length d,u32 u] 233::tblA a::A::R) w:=H;refine Z2 6 [0,1,0] H Z (Ah Z (call144 _) (Du _ 4 8 e _ (A7 (by first|omega|(simp[Ac,BD,-List.length_flatMap]<;>omega))) U) H ?_);intro w H;rw[show Bp (AX ([80,76,79,71])) (Ae 8 e) 4=AX ([80,76,79,71]++Ae 8 e) from B6 (by first|omega|(simp[Ac,BD,-List.length_flatMap]<;>omega)) (by first|omega|(simp[Ac,BD,-List.length_flatMap]<;>omega))] at H;have H:Sep z (blk c (AW (AX ([80,76,79,71]++Ae 8 e)) 12) 204::blk k [Aa e,Aa s,.slice g ns.length d,u32 u] 233::tblA a::A::R) w:=H;refine Z2 6 [1,1,0] H Z (Ah Z (call144 _) (Du _ 12 8 s _ (A7 (by first|omega|(simp[Ac,BD,-List.length_flatMap]<;>omega))) U) H ?_);intro w H;rw[show Bp (AX ([80,76,79,71]++Ae 8 e)) (Ae 8 s) 12=AX ([80,76,79,71]++Ae 8 e++Ae 8 s) from B6 (by first|omega|(simp[Ac,BD,-List.length_flatMap]<;>omega)) (by first|omega|(simp[Ac,BD,-List.length_flatMap]<;>omega))] at H;have H:Sep z (blk c (AW (AX ([80,76,79,71]++Ae 8 e++Ae 8 s)) 20) 204::blk k [Aa e,Aa s,.slice g ns.length d,u32 u] 233::tblA a::A::R) w:=H;refine Z2 6 [3,1,0] H Z (Ad Z (OG Z J Z) (Ah Z (call144 _) (Du _ 20 4 (u.toNat:Int) _ (A7 (by first|omega|(simp[Ac,BD,-List.length_flatMap]<;>omega))) U) H ?_));intro w H;rw[show Bp (AX ([80,76,79,71]++Ae 8 e++Ae 8 s)) (Ae 4 (u.toNat:Int)) 20=AX ([80,76,79,71]++Ae 8 e++Ae 8 s++Ae 4 (u.toNat:Int)) from B6 (by first|omega|(simp[Ac,BD,-List.length_flatMap]<;>omega)) (by first|omega|(simp[Ac,BD,-List.length_flatMap]<;>omega))] at H;have H:Sep z (blk c (AW (AX ([80,76,79,71]++Ae 8 e++Ae 8 s++Ae 4 (u.toNat:Int))) 24) 204::blk k [Aa e,Aa s,.slice g ns.length d,u32 u] 233::tblA a::A::R) w:=H;refine Z2 7 [2,1,0] H Z (Ah Z (call144 _) (Du _ 24 2 (ns.length:Int) _ (A7 (by first|omega|(simp[Ac,BD,-List.length_flatMap]<;>omega))) U) H ?_);intro w H;rw[show Bp (AX ([80,76,79,71]++Ae 8 e++Ae 8 s++Ae 4 (u.toNat:Int))) (Ae 2 (ns.length:Int)) 24=AX ([80,76,79,71]++Ae 8 e++Ae 8 s++Ae 4 (u.toNat:Int)++Ae 2 (ns.length:Int)) from B6 (by first|omega|(simp[Ac,BD,-List.length_flatMap]<;>omega)) (by first|omega|(simp[Ac,BD,-List.length_flatMap]<;>omega))] at H;have H:Sep z (blk c (AW (AX ([80,76,79,71]++Ae 8 e++Ae 8 s++Ae 4 (u.toNat:Int)++Ae 2 (ns.length:Int))) 26) 204::blk k [Aa e,Aa s,.slice g ns.length d,u32 u] 233::tblA a::A::R) w:=H;refine Z2 12 [2,1,0] H Z ?_;refine Ap (σ:=Nat) (λi=>[(53,Aa (i:Int)),(0,V a),(6,V c),(51,.slice g ns.length d),(52,Aa (ns.length:Int))])
   (λi w=>Sep z (blk c (AW (AX ([80,76,79,71]++Ae 8 e++Ae 8 s++Ae 4 (u.toNat:Int)++Ae 2 (ns.length:Int)++(ns.take i).flatMap (Ae 4))) ((26+4*i:Nat):Int)) 204::blk k [Aa e,Aa s,.slice g ns.length d,u32 u] 233::tblA a::A::R) w/\(i<=ns.length/\∀(j:Nat) (x:Int),j<i->ns[j]?=some x->0<=x/\x<=1023)) (λi=>ns.length-i) 0
   fr_z ⟨(by simpa using H),by omega,λj x h=>by omega⟩ ?_
 clear H;rintro i w ⟨H',hI⟩;have H:=H'.l4;obtain ⟨a2,l⟩:=hI;refine Z0 6 [0] Z (Ag Z (λh5=>?_) (λh5=>?_))
 ·obtain ⟨x,b⟩:∃x,ns[i]?=some x:=⟨_,XW U⟩;refine Zc 6 Z ?_;have m:=(H.rd 3 Z hA).at (j:=i) (u:=Aa x) (by simp[b])
  refine Ad Z (Ar Z (z:=1) (j:=i) (r:=i) J Z Z Z U m U) (Ad Z (AK Z Z J (AA m)) (Zc 7 Z (Ah Z (call122 _) (CK _ _) H ?_)));intro w H;refine Ad Z (AM Z Z) (Zc 2 Z (Ag Z (λh6=>?_) (λh6=>?_)))
  ·refine Zc 7 Z (Zr Z ?_);exact ⟨_,.inl ⟨by rintro ⟨p,n,o,f⟩;first|omega|exact absurd (f x (XX b)) ‹_›,rfl,rfl⟩,H.perm 4 [2,3] rfl rfl⟩
  refine Zc 4 Z (Ah Z (call144 _) (Du _ (26+4*i) 4 x _ (A7 (by first|omega|(simp[Ac,BD,-List.length_flatMap]<;>omega))) U) H ?_);intro w H;rw[show ((26+4*i+4:Nat):Int)=(((26+4*(i+1):Nat):Int):Int) from by omega] at H;rw[show Bp (AX ([80,76,79,71]++Ae 8 e++Ae 8 s++Ae 4 (u.toNat:Int)++Ae 2 (ns.length:Int)++(ns.take i).flatMap (Ae 4))) (Ae 4 x) (26+4*i)=AX ([80,76,79,71]++Ae 8 e++Ae 8 s++Ae 4 (u.toNat:Int)++Ae 2 (ns.length:Int)++(ns.take i).flatMap (Ae 4)++Ae 4 x) from B6 (by first|omega|(simp[Ac,BD,-List.length_flatMap]<;>omega)) (by first|omega|(simp[Ac,BD,-List.length_flatMap]<;>omega))] at H;have H:Sep z (blk c (AW (AX ([80,76,79,71]++Ae 8 e++Ae 8 s++Ae 4 (u.toNat:Int)++Ae 2 (ns.length:Int)++(ns.take i).flatMap (Ae 4)++Ae 4 x)) ((26+4*(i+1):Nat):Int)) 204::blk k [Aa e,Aa s,.slice g ns.length d,u32 u] 233::tblA a::A::R) w:=H;refine Z1 7 [] [(i:Int)+1] Z U (gf ?_);intro _ hF;refine ⟨(i+1),hF.cz,⟨(by rw[<-OZ b,<-X3];exact H),?_⟩,?_⟩
  ·refine ⟨by omega,λj y t h=>?_⟩;rcases Yg j i with q|q
   ·exact l j y q h
   obtain rfl:j=i:=by omega
   rw[b] at h;cases h;omega
  omega
 obtain rfl:i=ns.length:=by omega
 refine Zc 2 Z (gx (Zc 3 Z ?_));rw[YS] at H;have H:Sep z (blk c (AW (AX ([80,76,79,71]++Ae 8 e++Ae 8 s++Ae 4 (u.toNat:Int)++Ae 2 (ns.length:Int)++ns.flatMap (Ae 4))) ((26+4*ns.length:Nat):Int)) 204::blk k [Aa e,Aa s,.slice g ns.length d,u32 u] 233::tblA a::A::R) w:=H;refine Zc 2 Z (Ah Z (call180 _) (GR _ _ _ _ (A7 (by first|omega|(simp[Ac,BD,-List.length_flatMap]<;>omega)))) H.f2.f1 ?_);intro w H;refine Zc 5 Z (Zr Z ?_);exact ⟨_,.inr ⟨⟨by omega,by omega,by omega,λx b=>by obtain ⟨j,t,rfl⟩:=Zw.1 b;exact l j _ t (XW t)⟩,c,Z,Z⟩,H.perm 4 [0,1,3] Z Z⟩
theorem HG(b d n c:Nat)(bs:List UInt8)(A:Ai)(j:∀h,A h->rdH 1 (.slice (some ⟨b,d,none⟩) n c) n (bs.map u8) h)(s:0<n/\n<=1073741824):An 118 [.slice (some ⟨b,d,none⟩) n c] [A] (λv G=>(∃g a rest,v=.slice (some ⟨g,0,none⟩) n a/\(n<=a/\a<=9223372036854775807/\rest.length=a-n)/\G=[blk g (bs.map u8++rest) 5,A])):=by
 intro z R w H;refine Af func118 Z ntmps118 Z (Zc 9 Z (Ad Z (KX Z J Z Z) (Zc 7 Z (AC Z (GX H Z J A2) ?_))));rintro _ w ⟨i,rfl,H⟩;refine Zc 1 Z ?_;replace H:=(H.mono 0 (B:=grow 5 1 (.slice (some ⟨i,0,none⟩) 0 0) 0 []) Z (λh q=>q.grow U U O Z)).l2;refine AC Z (AJ 0 H Z Z J A2 Z Z (H.rd 1 Z j) (by simp[u8,Value.oneCell']) U) ?_;rintro p w e;have f:([]++bs.map u8:List Value)=bs.map u8:=by simp
 rw[f] at e;rw[show (0+n:Nat)=n from by omega] at e;have H:=e.l2;refine Zc 4 Z (Zr Z ?_);obtain ⟨g,a,rest,m,o,k,r,e⟩:=H.ungrow 0 Z U;exact ⟨_,⟨g,a,rest,m,⟨o,k,by omega⟩,Z⟩,e⟩
theorem Hi(pd:Nat)(D:Dsk)(x:Int):An 65 [V pd,Aa x,Aa 1] [diskA pd D] (λv G=>(¬(0<=x/\x<(D.n:Int))/\v=.tuple #[.slice none 0 0,Aa 2]/\G=[diskA pd D])\/((0<=x/\x<(D.n:Int))/\D.f1=1/\v=.tuple #[.slice none 0 0,Aa 10]/\G=[diskA pd {D with f1:=AP D.f1}])\/((0<=x/\x<(D.n:Int))/\¬D.f1=1/\∃g b rest,v=.tuple #[.slice (some ⟨g,0,none⟩) 256 b,Aa 0]/\(256<=b/\b<=9223372036854775807/\rest.length=b-256)/\G=[blk g ((D.cont x.toNat).map u8++rest) 5,diskA pd {D with f1:=AP D.f1}])):=by
 intro z R w H;obtain ⟨bd,m,f0,bs,es,clk,hq,a,d,t⟩:=H.disk;clear H;have a8:=a.n1;have a7:=a.n2;have a6:=a.f1;have a4:=d.len;have H:=t.l5;refine Af func65 Z ntmps65 Z (Zc 12 Z (Ah Z (call116 _) (MQ _ _ _ _ _ _ _ _ _ _ _ _ U) H ?_));intro w H;refine Ad Z (AM Z Z) (Zc 2 Z (Ag Z (λh1=>?_) (λh1=>?_)))
 ·refine Zc 7 Z (Zr Z ?_);replace H:=(Sep.toDisk (D:=D) (pd:=pd) (bd:=bd) (m:=m) (f0:=f0) (bs:=bs) (es:=es) (clk:=clk) (hq:=hq) (Γ:=R) H a d).l1
  exact ⟨_,.inl ⟨by omega,Z,Z⟩,H⟩
 obtain ⟨k,rfl⟩:∃k:Nat,x=(k:Int):=⟨x.toNat,by omega⟩;have u:k<D.n:=by omega
 refine Zc 6 Z (Ah Z (call117 _) (Rm _ _ _ _ _ _ _ _ _ _ U) H ?_);intro w H;refine Zc 2 Z (Ag Z (λh2=>?_) (λh2=>?_))
 ·refine Zc 7 Z (Zr Z ?_);replace H:=(Sep.toDisk (D:= {D with f1:=AP D.f1}) (pd:=pd) (bd:=bd) (m:=m) (f0:=f0) (bs:=bs) (es:=es) (clk:=clk) (hq:=hq) (Γ:=R) H (a.f (El a.f1) a.f2 a.f3 a.left) (d.f _ _ _ _ _)).l1
  exact ⟨_,.inr (.inl ⟨by omega,‹_›,Z,Z⟩),H⟩
 refine Z3 14 [0,0,0] [(k:Int)*256,(k:Int)+1,((k:Int)+1)*256] H Z U (Ad Z (Ba Z (z:=1) (p:=(k*256)) (q:=((k+1)*256)) (o':=k*256) (l':=256) (c':=D.n*256-k*256) J Z (.inr ⟨_,_,_,Z,Z,U⟩) (.inr ⟨_,_,_,Z,Z,U⟩) U U U U U U) (AB Z (call118 _) (HG _ _ 256 _ (D.dur k) _ (λh q=>q.rd U U (by simp;omega) (by rw[<-List.map_drop,<-ZS,YQ,d.own k u])) U) H.f1 ?_));rintro _ w _ ⟨g,b,rest,rfl,⟨cg,cc,cl⟩,rfl⟩ H;refine Zc 11 Z ?_;refine Ap (σ:=Nat) (λj=>[(31,Aa (j:Int)),(0,V pd),(1,Aa (k:Int)),(6,.slice none 0 0),(7,Aa 0),(8,.slice (some ⟨g,0,none⟩) 256 b),(30,Aa 1)])
   (λj w=>Sep z (blk g ((G9 D k j).map u8++rest) 5::blk bd (bs.map u8) 5::blk pd [.slice (some ⟨bd,0,none⟩) (D.n*256) (D.n*256),.map (some m),Aa f0,Aa (if D.f1=0 then 0 else D.f1-1),Aa D.f2,Aa D.f3,.bool D.cut,Aa D.left] 106::AG m (es.map Ent.ie) clk::poolA hq::seps (es.map Ent.row)::R) w/\(j<=1)) (λj=>1-j) 0
   fr_z ⟨H,by omega⟩ ?_
 clear H;rintro j w ⟨t,hI⟩;have H:=t.l6;refine Z0 6 [0] Z (Ag Z (λh3=>?_) (λh3=>?_))
 ·obtain rfl:j=0:=by omega
  refine Zc 12 Z ?_;obtain ⟨v0,c,a1,a3,i,l⟩:=Vy d u;have sv:=H.sy 5 (λq=>(i _ q).slc);obtain ⟨ao,a2,rfl⟩:=sv;have b1:=H.sy 5 (λq=>(i _ q).small);refine Z3 7 [1,2,0] [(k:Int)] H Z U (Ad Z (FA (e:=107) (zv:=.slice none 0 0) Z J J Z Z (AA (H.bk 3 Z))) (k_updA 41 (v:=.slice ao c.length a2) Z a1 (Z0 10 [0] Z (Ag Z (λh4=>?_) (λh4=>?_)))))
  ·obtain ⟨pv,y⟩:∃pv,c[c.length-1]?=some pv:=⟨_,XW U⟩;obtain ⟨p,hp⟩:∃p,(D.ver k)[c.length-1]?=some p:=⟨_,XW U⟩;have a0:=Ke a3 hp
   have o:p.length=256:=by rw[<-a0];exact Dsk.cont_len a u
   refine Bo 10 J J (A9 H λw t=>?_);have H:=t.l6;refine CD 3 [] [0] H Z J U (B5 Z Z Z (Ba Z (z:=1) (p:=0) (q:=256) (o':=0) (l':=256) (c':=b) J Z (.inr ⟨_,_,_,Z,Z,Z⟩) (.inl ⟨Z,Z⟩) U U U U U U) (CD 4 [] [(c.length:Int)-1] H Z J U ?_));have s:=(H.rd 5 Z i).at y;refine B5 Z Z Z (Ar Z (z:=1) (j:=(c.length-1)) (r:=(c.length-1)) J Z Z U U s U) (B5 Z Z Z (AK Z Z J (AA s)) (Cf (gw (AC Z (G7 0 H Z Z J Z Z (m:=256) (news:=(p.map u8)) (.inl (H.rd 4 Z (l _ _ _ y hp))) (by simp[u8,Value.oneCell']) (by simp[G9,a.dur k u]<;>omega) (k:=256) U (out:=((G9 D k (0+1)).map u8++rest)) (by rw[show G9 D k (0+1)=p from a0];simp[G9,X0,o,a.dur k u,YD])) ?_))));rintro _ w ⟨rfl,H⟩;refine Z1 7 [] [(0:Int)+1] Z U (gf ?_);intro _ hF;refine ⟨(0+1),hF.cz,⟨H,?_⟩,?_⟩
   ·omega
   omega
  refine Z1 7 [] [(0:Int)+1] Z U (gf ?_);intro _ hF;refine ⟨(0+1),hF.cz,⟨(by rw[show G9 D k (0+1)=G9 D k 0 from Ik (ZW U)];exact H),?_⟩,?_⟩
  ·omega
  omega
 refine Zc 2 Z (gx (Zc 10 Z (Zr Z ?_)));obtain rfl:j=1:=by omega
 replace H:=H.f5.f5.f5.f4.f5;replace H:=(Sep.toDisk (D:= {D with f1:=AP D.f1}) (pd:=pd) (bd:=bd) (m:=m) (f0:=f0) (bs:=bs) (es:=es) (clk:=clk) (hq:=hq) (Γ:=blk g ((G9 D k 1).map u8++rest) 5::R) H (a.f (El a.f1) a.f2 a.f3 a.left) (d.f _ _ _ _ _)).l2;exact ⟨_,.inr (.inr ⟨by omega,‹_›,g,b,rest,Z,⟨cg,cc,cl⟩,Z⟩),H.perm 2 [1,0] Z Z⟩
theorem Pm(t b o c:Nat)(sec:List UInt8)(A:Ai)(k:∀h,A h->rdH 1 (.slice (some ⟨b,o,none⟩) 256 c) 256 (sec.map u8) h):An 176 [V t,.slice (some ⟨b,o,none⟩) 256 c] [tblA t,A] (λv G=>(GN sec/\∃v',v=.tuple #[.agg #[Aa (A0 ((sec.drop 4).take 8)),Aa (A0 ((sec.drop 12).take 8)),v',u32 (Dt (A0 ((sec.drop 20).take 4)))],.bool true]/\G=[grow 3 1 v' (Bd sec) (hN sec (Bd sec)),tblA t,A])\/(¬GN sec/\v=.tuple #[.agg #[Aa 0,Aa 0,.slice none 0 0,u32 0],.bool false]/\G=[tblA t,A])):=by
 intro z R w H;replace H:=H.l2;have y:=H.sy 1 (λq=>(k _ q).len);have a2:=H.sy 1 (λq=>(k _ q).cap);obtain ⟨c0,c1,c2,c3,hd⟩:=K7 y;obtain ⟨m,hm,e⟩:=O0 (sec:=sec);refine Af func176 Z ntmps176 Z (Zc 2 Z (AC Z (BN (P:=prog) H Z (zs:=[Aa 0,Aa 0,.slice none 0 0,u32 0]) J) ?_));rintro _ w ⟨x,rfl,H⟩;replace H:=H.l3;refine Zc 7 Z (AB Z (call120 _) (JL _ _ _ _ _ sec _ k) H.f2.f2 ?_);rintro _ w _ (⟨hs,rfl,rfl⟩|⟨hs,rfl,rfl⟩) g
 ·have H:=g.l3;refine Za 3 [] H Z ?_;intro b2 w H;refine Z4 16 [0] H Z ?_;intro w H;refine Ah Z (call121 _) (DL 8 _ b (o+4) 248 (c-4) ((sec.drop 4).take 248) _ (λh q=>(k h q).cut (lo:=4) (m:=248) (c':=(c-4)) U U U) U U ((sec.drop 4).take 8) (by rw[YE,Yz U]) (o+12) 240 (c-12) U U U) H.f2.f1 ?_;intro w H;replace H:=H.l4;refine Ah Z (call121 _) (DL 8 _ b (o+12) 240 (c-12) ((sec.drop 12).take 240) _ (λh q=>(k h q).cut (lo:=12) (m:=240) (c':=(c-12)) U U U) U U ((sec.drop 12).take 8) (by rw[YE,Yz U]) (o+20) 232 (c-20) U U U) H ?_;intro w H;replace H:=H.l4;refine Ah Z (call121 _) (DL 4 _ b (o+20) 232 (c-20) ((sec.drop 20).take 232) _ (λh q=>(k h q).cut (lo:=20) (m:=232) (c':=(c-20)) U U U) U U ((sec.drop 20).take 4) (by rw[YE,Yz U]) (o+24) 228 (c-24) U U U) H ?_;intro w H;replace H:=H.l4;refine Ad Z (G4 Z J Z) (Ad Z (AQ Z Z (out:=[Aa (A0 ((sec.drop 4).take 8)),Aa (A0 ((sec.drop 12).take 8)),.slice none 0 0,u32 (Dt (A0 ((sec.drop 20).take 4)))]) J) (AC Z (BN (P:=prog) H Z (zs:=[Aa 0,Aa 0,.slice none 0 0,u32 0]) J) ?_))
  rintro _ w ⟨b3,rfl,H⟩;replace H:=H.l5;refine Z4 5 [0] H Z ?_;intro w H;refine Ah Z (call121 _) (DL 2 _ b (o+24) 228 (c-24) ((sec.drop 24).take 228) _ (λh q=>(k h q).cut (lo:=24) (m:=228) (c':=(c-24)) U U U) U U ((sec.drop 24).take 2) (by rw[YE,Yz U]) (o+26) 226 (c-26) U U U) H.f2.f2 ?_;intro w H;refine Z2 8 [0,2,0] H Z (Ah Z (call122 _) (CK _ _) H ?_);intro w H;replace H:=H.l5;refine Ad Z (AM Z Z) (Zc 1 Z (Am 30 Z (λh1=>?_) (λh1=>?_)))
  ·refine Zc 18 Z (Ad Z (AQ Z Z (out:=[Aa 0,Aa 0,.slice none 0 0,u32 0]) J) (Z4 5 [4] H Z ?_));intro w H;refine Zl [4,4] H Z ?_;exact ⟨_,.inr ⟨by first|exact λq=>hs q.1|(rintro ⟨p,s,n,r,f,a⟩;first|(exfalso;omega)|exact absurd (f i U) ‹_› |(rw[e] at a;exact absurd a ‹_›)),rfl,rfl⟩,H.perm 5 [3,1] rfl rfl⟩
  refine Z2 2 [1,2,0] H Z (Ah Z (call122 _) (CK _ _) H ?_);intro w H;replace H:=H.l5;refine Ad Z (AM Z Z) (Zc 2 Z (Am 36 Z (λh2=>?_) (λh2=>?_)))
  ·refine Zc 12 Z (Ad Z (AQ Z Z (out:=[Aa 0,Aa 0,.slice none 0 0,u32 0]) J) (Z4 5 [4] H Z ?_));intro w H;refine Zl [4,4] H Z ?_;exact ⟨_,.inr ⟨by first|exact λq=>hs q.1|(rintro ⟨p,s,n,r,f,a⟩;first|(exfalso;omega)|exact absurd (f i U) ‹_› |(rw[e] at a;exact absurd a ‹_›)),rfl,rfl⟩,H.perm 5 [3,1] rfl rfl⟩
  refine Z0 4 [0] Z (Am 40 Z (λh3=>?_) (λh3=>?_))
  ·refine Zc 8 Z (Ad Z (AQ Z Z (out:=[Aa 0,Aa 0,.slice none 0 0,u32 0]) J) (Z4 5 [4] H Z ?_));intro w H;refine Zl [4,4] H Z ?_;exact ⟨_,.inr ⟨by first|exact λq=>hs q.1|(rintro ⟨p,s,n,r,f,a⟩;first|(exfalso;omega)|exact absurd (f i U) ‹_› |(rw[e] at a;exact absurd a ‹_›)),rfl,rfl⟩,H.perm 5 [3,1] rfl rfl⟩
  refine Z0 5 [0] Z (Ag Z (λh4=>?_) (λh4=>?_))
  ·refine Zc 2 Z (Ad Z (AQ Z Z (out:=[Aa 0,Aa 0,.slice none 0 0,u32 0]) J) (Z4 5 [4] H Z ?_));intro w H;refine Zl [4,4] H Z ?_;exact ⟨_,.inr ⟨by first|exact λq=>hs q.1|(rintro ⟨p,s,n,r,f,a⟩;first|(exfalso;omega)|exact absurd (f i U) ‹_› |(rw[e] at a;exact absurd a ‹_›)),rfl,rfl⟩,H.perm 5 [3,1] rfl rfl⟩
  refine Zc 4 Z (k_updA 9 (v:=Aa (m:Int)) Z (congrArg Aa hm) ?_);replace H:=(H.nilg 3 1).l6;refine Zc 6 Z ?_;refine Ap (σ:=Nat×Value) (λ⟨i,v⟩=>[(46,Aa (i:Int)),(4,V x),(6,V b2),(8,V b3),(45,Aa (m:Int))])
    (λ⟨i,v⟩ w=>Sep z (grow 3 1 v i (hN sec i)::blk b2 [.slice (some ⟨b,(o+(26+4*i)),none⟩) (252-(26+4*i)) (c-(26+4*i))] 162::A::blk b3 [Aa (A0 ((sec.drop 4).take 8)),Aa (A0 ((sec.drop 12).take 8)),v,u32 (Dt (A0 ((sec.drop 20).take 4)))] 233::tblA t::blk x [Aa 0,Aa 0,.slice none 0 0,u32 0] 233::R) w/\(i<=m/\∀j,j<i->0<=DA sec j/\DA sec j<=1023)) (λ⟨i,v⟩=>m-i) ⟨0,.slice none 0 0⟩
    fr_z ⟨H,by omega,λj h=>by omega⟩ ?_
  clear H;rintro ⟨i,v⟩ w ⟨g,hI⟩;dsimp only at hI g ⊢;have H:=g.l6;have sv:=H.sy 0 (·.slc);obtain ⟨a3,l⟩:=hI;refine Z0 6 [0] Z (Ag Z (λh5=>?_) (λh5=>?_))
  ·have a1:i<m:=by omega
   refine Zc 6 Z (Ah Z (call121 _) (DL 4 _ b (o+(26+4*i)) (252-(26+4*i)) (c-(26+4*i)) ((sec.drop (26+4*i)).take (252-(26+4*i))) _ (λh q=>(k h q).cut (lo:=(26+4*i)) (m:=(252-(26+4*i))) (c':=(c-(26+4*i))) U U U) U U ((sec.drop (26+4*i)).take 4) (by rw[YE,Yz U]) (o+(26+4*(i+1))) (252-(26+4*(i+1))) (c-(26+4*(i+1))) U U U) H.f2.f2 ?_);intro w H;refine Zc 7 Z (Ah Z (call122 _) (CK _ _) H ?_);intro w H;replace H:=H.l6;refine Ad Z (AM Z Z) (Zc 2 Z (Ag Z (λh6=>?_) (λh6=>?_)))
   ·refine Zc 2 Z (Ad Z (AQ Z Z (out:=[Aa 0,Aa 0,.slice none 0 0,u32 0]) J) (Z4 5 [5] H Z ?_));intro w H;refine Zl [5,4] H Z ?_;exact ⟨_,.inr ⟨by first|exact λq=>hs q.1|(rintro ⟨p,s,n,r,f,a⟩;first|(exfalso;omega)|exact absurd (f i U) ‹_› |(rw[e] at a;exact absurd a ‹_›)),rfl,rfl⟩,H.perm 6 [4,1] rfl rfl⟩
   refine Z2 6 [2,3,0] H Z (AC Z (AI H Z J BK Z (by decide) (by decide) (out:=[Aa (DA sec i)]) J) ?_);rintro _ w ⟨b4,rfl,H⟩;replace H:=H.l7;refine AC Z (AJ 3 H Z Z J BK Z Z (H.rv 0 (·.rd U U O Z)) (by simp[Value.oneCell']) U) ?_;rintro v5 w g;have g:Sep z (blk b4 [Aa (DA sec i)] 3::blk b2 [.slice (some ⟨b,(o+(26+4*(i+1))),none⟩) (252-(26+4*(i+1))) (c-(26+4*(i+1)))] 162::A::grow 3 1 v5 (i+1) (hN sec i++[Aa (DA sec i)])::blk b3 [Aa (A0 ((sec.drop 4).take 8)),Aa (A0 ((sec.drop 12).take 8)),v,u32 (Dt (A0 ((sec.drop 20).take 4)))] 233::tblA t::blk x [Aa 0,Aa 0,.slice none 0 0,u32 0] 233::R) w:=g;have a0:(hN sec i++[Aa (DA sec i)]:List Value)=hN sec (i+1):=TO sec i;rw[a0] at g;have H:=g.l7;have u:=H.sy 3 (·.slc);refine Z0 1 [2] Z (AV Z Z (Jy 4 H Z Z Z Z u.cells u.one J) ?_);rintro w H;replace H:=H.l7;refine Z1 7 [] [(i:Int)+1] Z U ?_;replace H:=H.d.f5.f5.f5.f4.f4.f5;refine gf ?_;intro _ hF;refine ⟨⟨i+1,v5⟩,hF.cz,⟨H,?_⟩,?_⟩
   ·refine ⟨by omega,λj h=>?_⟩;rcases Yg j i with q|q
    ·exact l j q
    obtain rfl:j=i:=by omega
    unfold DA;omega
   omega
  obtain rfl:i=m:=by omega
  refine Zc 2 Z (gx (Zc 5 Z (Ah Z (call174 _) (Pk _ b (o+(26+4*i)) (252-(26+4*i)) (c-(26+4*i)) ((sec.drop (26+4*i)).take (252-(26+4*i))) _ (λh q=>(k h q).cut (lo:=(26+4*i)) (m:=(252-(26+4*i))) (c':=(c-(26+4*i))) U U U) U) H.f2.f2 ?_)));intro w H;replace H:=H.l6;refine Ad Z (AM Z Z) (Zc 2 Z (Ag Z (λh7=>?_) (λh7=>?_)))
  ·refine Zc 2 Z (Ad Z (AQ Z Z (out:=[Aa 0,Aa 0,.slice none 0 0,u32 0]) J) (Z4 5 [5] H Z ?_));intro w H;refine Zl [5,4] H Z ?_;exact ⟨_,.inr ⟨by first|exact λq=>hs q.1|(rintro ⟨p,s,n,r,f,a⟩;first|(exfalso;omega)|exact absurd (f i U) ‹_› |(rw[e] at a;exact absurd a ‹_›)),rfl,rfl⟩,H.perm 6 [4,1] rfl rfl⟩
  refine Z2 5 [3,4] H Z (AV Z Z (AD 5 H Z Z Z Z (vs:=[Aa (A0 ((sec.drop 4).take 8)),Aa (A0 ((sec.drop 12).take 8)),v,u32 (Dt (A0 ((sec.drop 20).take 4)))]) Z (Al Z (Al Z (Al sv.one (Al Z AL)))) J O (out:=[Aa (A0 ((sec.drop 4).take 8)),Aa (A0 ((sec.drop 12).take 8)),v,u32 (Dt (A0 ((sec.drop 20).take 4)))]) Z) ?_);rintro w H;replace H:=H.l6;refine Zc 4 Z (Zl [5,4] H Z ?_);subst e;exact ⟨_,.inl ⟨⟨hs,by omega,by omega,by omega,l,by omega⟩,v,Z,Z⟩,H.perm 6 [2,4,1] Z Z⟩
 have H:=g.l3;refine Za 3 [] H Z ?_;intro b6 w H;refine Z4 14 [0] H Z ?_;intro w H;refine Ad Z (AQ Z Z (out:=[Aa 0,Aa 0,.slice none 0 0,u32 0]) J) (Z4 5 [3] H Z ?_);intro w H;refine Zl [3,4] H Z ?_;exact ⟨_,.inr ⟨by first|exact λq=>hs q.1|(rintro ⟨p,s,n,r,f,a⟩;first|(exfalso;omega)|exact absurd (f i U) ‹_› |(rw[e] at a;exact absurd a ‹_›)),rfl,rfl⟩,H.perm 4 [1,2] rfl rfl⟩
theorem NW(j b o c:Nat)(sec:List UInt8)(A:Ai)(d:∀h,A h->rdH 1 (.slice (some ⟨b,o,none⟩) 256 c) 256 (sec.map u8) h):An 178 [V j,.slice (some ⟨b,o,none⟩) 256 c] [tblA j,A] (λv G=>(Hf sec/\∃g a rest,v=.tuple #[Aa (A0 ((sec.drop 3).take 4)),Aa (A0 ((sec.drop 7).take 5)),.agg #[Aa (A0 ((sec.drop 1).take 2)),Aa (A0 (sec.take 1)),.slice (some ⟨g,0,none⟩) 240 a],.bool true]/\(240<=a/\a<=9223372036854775807/\rest.length=a-240)/\G=[blk g (((sec.drop 12).take 240).map u8++rest) 5,tblA j,A])\/(¬Hf sec/\v=.tuple #[Aa 0,Aa 0,.agg #[Aa 0,Aa 0,.slice none 0 0],.bool false]/\G=[tblA j,A])):=by
 intro z R w H;replace H:=H.l2;have i:=H.sy 1 (λq=>(d _ q).len);have a0:=H.sy 1 (λq=>(d _ q).cap);obtain ⟨c0,s,c2,c3,f⟩:=K7 i;refine Af func178 Z ntmps178 Z (Za 4 [] H Z ?_);intro b1 w H;refine Zc 5 Z (A4 (Sep z _) J J H.drew (IY 9 [4] [] Z J (Be Z Z Z (Ba Z (z:=1) (p:=252) (q:=256) (o':=o+252) (l':=4) (c':=c-252) J Z (.inr ⟨_,_,_,Z,Z,Z⟩) (.inl ⟨Z,Z⟩) U U U U U U) (Be Z Z Z (Kj (m:=4) Z J Z U) (Be Z Z Z (Bz Z Z (vs:=[u8 c0,u8 s,u8 c2,u8 c3]) J (λ_ t=>t.cell4 2 Z d f)) (Ca 2 [] Z J (Be Z Z Z (Ba Z (z:=1) (p:=0) (q:=252) (o':=o) (l':=252) (c':=c) J Z (.inl ⟨Z,Z⟩) (.inr ⟨_,_,_,Z,Z,Z⟩) U U U U U U) (CO Z Z Z Z Z (λw=>call171 _ w) (v:=.agg #[u8 ((Av (sec.take 252)).toUInt8),u8 (((Av (sec.take 252))>>>8).toUInt8),u8 (((Av (sec.take 252))>>>16).toUInt8),u8 (((Av (sec.take 252))>>>24).toUInt8)]) (cq (Lr _ _ _ (sec.take 252) (by simp[i]) _ (λh q=>(d h q).pre U U)) (by rintro _ _ ⟨rfl,rfl⟩;exact ⟨Z,Z⟩) 3 [1,2,0] [2,0,1] Z Z Z Z) (Be Z Z Z (MH Z J J Z Z) (Ca 1 [] Z J (Bn (λw r=>?_))))))))))));have H:=r.l3;refine gn (Zc 1 Z (Ag Z (λx=>?_) (λx=>?_)))
 ·refine Z4 10 [0] H Z ?_;intro w H;refine Zl [0,3] H Z ?_;exact ⟨_,.inr ⟨by rintro ⟨e,k,l⟩;first|exact absurd (f▸e) ‹_› |(exfalso;omega),rfl,rfl⟩,H.perm 3 [1,2] rfl rfl⟩
 refine Zc 5 Z (Ad Z (Ba Z (z:=1) (p:=0) (q:=252) (o':=o) (l':=252) (c':=c) J Z (.inl ⟨Z,Z⟩) (.inr ⟨_,_,_,Z,Z,Z⟩) U U U U U U) (Za 1 [] H Z ?_));intro b2 w H;refine Z4 5 [0] H Z ?_;intro w H;refine Ah Z (call121 _) (DL 1 _ b o 252 c (sec.take 252) _ (λh q=>(d h q).pre (m:=252) (c':=c) U U) U U (sec.take 1) (by rw[YE,Yz U]) (o+1) 251 (c-1) U U U) H.f3.f1 ?_;intro w H;replace H:=H.l4;refine Ah Z (call121 _) (DL 2 _ b (o+1) 251 (c-1) ((sec.drop 1).take 251) _ (λh q=>(d h q).cut (lo:=1) (m:=251) (c':=(c-1)) U U U) U U ((sec.drop 1).take 2) (by rw[YE,Yz U]) (o+3) 249 (c-3) U U U) H ?_;intro w H;replace H:=H.l4;refine Ah Z (call121 _) (DL 4 _ b (o+3) 249 (c-3) ((sec.drop 3).take 249) _ (λh q=>(d h q).cut (lo:=3) (m:=249) (c':=(c-3)) U U U) U U ((sec.drop 3).take 4) (by rw[YE,Yz U]) (o+7) 245 (c-7) U U U) H ?_;intro w H;replace H:=H.l4;refine Ah Z (call121 _) (DL 5 _ b (o+7) 245 (c-7) ((sec.drop 7).take 245) _ (λh q=>(d h q).cut (lo:=7) (m:=245) (c':=(c-7)) U U U) U U ((sec.drop 7).take 5) (by rw[YE,Yz U]) (o+12) 240 (c-12) U U U) H ?_;intro w H;refine Z0 12 [0] Z (Am 41 Z (λn=>?_) (λn=>?_))
 ·refine Z4 21 [2] H Z ?_;intro w H;refine Zl [2,3] H Z ?_;exact ⟨_,.inr ⟨by rintro ⟨e,k,l⟩;first|exact absurd (f▸e) ‹_› |(exfalso;omega),rfl,rfl⟩,H.perm 4 [3,1] rfl rfl⟩
 refine Z0 4 [0] Z (Am 45 Z (λy=>?_) (λy=>?_))
 ·refine Z4 17 [2] H Z ?_;intro w H;refine Zl [2,3] H Z ?_;exact ⟨_,.inr ⟨by rintro ⟨e,k,l⟩;first|exact absurd (f▸e) ‹_› |(exfalso;omega),rfl,rfl⟩,H.perm 4 [3,1] rfl rfl⟩
 refine Zc 1 Z (Ah Z (call122 _) (CK _ _) H ?_);intro w H;replace H:=H.l4;refine Ad Z (AM Z Z) (Zc 3 Z (Ag Z (λh4=>?_) (λh4=>?_)))
 ·refine Z4 10 [2] H Z ?_;intro w H;refine Zl [2,3] H Z ?_;exact ⟨_,.inr ⟨by rintro ⟨e,k,l⟩;first|exact absurd (f▸e) ‹_› |(exfalso;omega),rfl,rfl⟩,H.perm 4 [3,1] rfl rfl⟩
 refine Z2 10 [0,0,0] H Z (AB Z (call118 _) (HG _ _ 240 _ ((sec.drop 12).take 240) _ ((λh q=>(d h q).cut (lo:=12) (m:=240) (c':=(c-12)) U U U)) U) H.f1 ?_);rintro _ w _ ⟨g,a,rest,rfl,⟨cg,cc,u⟩,rfl⟩ H;refine Z4 9 [3] H Z ?_;intro w H;refine Zl [3,3] H Z ?_;exact ⟨_,.inl ⟨⟨by rw[f];exact Z7 ‹_›,by omega,by omega⟩,g,a,rest,Z,⟨cg,cc,u⟩,Z⟩,H.perm 5 [0,4,1] Z Z⟩
theorem Ge(s:Sup)(n:Int)(hn:0<=n/\n<=1152921504606846976):An 129 [.agg #[Aa s.gen,Aa s.epoch,Aa s.pages,Aa s.start,Aa s.len,Aa s.head,Aa s.seq],Aa n] [] (λv G=>v=Aa (if s.Ok n then 0 else 1)/\G=[]):=by
 intro z R w H;refine Af func129 Z ntmps129 Z (Za 2 [] H Z ?_);intro u w H;refine Z2 20 [0,0,0,1,0,0,2,0,0,3,0,0,4,0,0,5,0,0,6,0,0] H Z (Ad Z (AQ Z Z (out:=[Aa s.gen,Aa s.epoch,Aa s.pages,Aa s.start,Aa s.len,Aa s.head,Aa s.seq]) J) (Zc 4 Z ?_));refine Ap (σ:=Nat) (λk=>[(22,Aa (k:Int)),(1,Aa n),(2,V u),(21,.agg #[Aa s.gen,Aa s.epoch,Aa s.pages,Aa s.start,Aa s.len,Aa s.head,Aa s.seq])])
   (λk w=>Sep z (blk u [Aa s.gen,Aa s.epoch,Aa s.pages,Aa s.start,Aa s.len,Aa s.head,Aa s.seq] 92::R) w/\(k<=7/\∀(j:Nat) (x:Int),j<k->s.list[j]?=some x->0<=x/\x<=1099511627776)) (λk=>7-k) 0
   fr_z ⟨H,by omega,λj x h=>by omega⟩ ?_
 clear H;rintro k w ⟨H',hI⟩;have H:=H'.l1;obtain ⟨a0,b⟩:=hI;refine Z0 6 [0] Z (Ag Z (λh1=>?_) (λh1=>?_))
 ·refine Zc 6 Z ?_;obtain ⟨x,c⟩:∃x,s.list[k]?=some x:=⟨_,XW (by simp[Sup.list];omega)⟩;refine Ad Z (K3 Z J Z (l:=s.list) (j:=k) Z Z Z Z c) (Z0 8 [0] Z (Am 27 Z (λh2=>?_) (λh2=>?_)))
  ·refine Zc 12 Z (Zr Z ?_);have a:¬s.Ok n:=λ⟨q,m,d,e,f,i,o,g⟩=>by
     first |omega|(have:=q x (XX c);omega)
   exact ⟨_,⟨congrArg Aa (by rw[if_neg a]),rfl⟩,H.perm 1 [] rfl rfl⟩
  refine Z0 5 [0] Z (Ag Z (λh3=>?_) (λh3=>?_))
  ·refine Zc 6 Z (Zr Z ?_);have a:¬s.Ok n:=λ⟨q,m,d,e,f,i,o,g⟩=>by
     first |omega|(have:=q x (XX c);omega)
   exact ⟨_,⟨congrArg Aa (by rw[if_neg a]),rfl⟩,H.perm 1 [] rfl rfl⟩
  refine Z1 7 [] [(k:Int)+1] Z U (gf ?_);intro _ hF;refine ⟨(k+1),hF.cz,⟨H,?_⟩,?_⟩
  ·refine ⟨by omega,λj y p r=>?_⟩;rcases Yg j k with h|h
   ·exact b j y h r
   obtain rfl:j=k:=by omega
   rw[c] at r;cases r;omega
  omega
 obtain rfl:k=7:=by omega
 have hp:=b 2 s.pages U Z;have hl:=b 4 s.len U Z;refine Zc 2 Z (gx (Z2 9 [2,0,0,0] H Z (Am 35 Z (λh4=>?_) (λh4=>?_))))
 ·refine Zc 48 Z (Zr Z ?_);have a:¬s.Ok n:=λ⟨q,m,d,e,f,i,o,g⟩=>by
    first |omega|(have:=q x (XX c);omega)
  exact ⟨_,⟨congrArg Aa (by rw[if_neg a]),rfl⟩,H.perm 1 [] rfl rfl⟩
 refine Z2 5 [2,0,0,0] H Z (Am 40 Z (λh5=>?_) (λh5=>?_))
 ·refine Zc 43 Z (Zr Z ?_);have a:¬s.Ok n:=λ⟨q,m,d,e,f,i,o,g⟩=>by
    first |omega|(have:=q x (XX c);omega)
  exact ⟨_,⟨congrArg Aa (by rw[if_neg a]),rfl⟩,H.perm 1 [] rfl rfl⟩
 refine Z3 8 [3,0,0,2,0,0,0] [2+s.pages] H Z U (Am 48 Z (λh6=>?_) (λh6=>?_))
 ·refine Zc 35 Z (Zr Z ?_);have a:¬s.Ok n:=λ⟨q,m,d,e,f,i,o,g⟩=>by
    first |omega|(have:=q x (XX c);omega)
  exact ⟨_,⟨congrArg Aa (by rw[if_neg a]),rfl⟩,H.perm 1 [] rfl rfl⟩
 refine Z2 5 [4,0,0,0] H Z (Am 53 Z (λh7=>?_) (λh7=>?_))
 ·refine Zc 30 Z (Zr Z ?_);have a:¬s.Ok n:=λ⟨q,m,d,e,f,i,o,g⟩=>by
    first |omega|(have:=q x (XX c);omega)
  exact ⟨_,⟨congrArg Aa (by rw[if_neg a]),rfl⟩,H.perm 1 [] rfl rfl⟩
 refine Z3 9 [3,0,0,4,0,0,0] [n-s.len] H Z U (Am 62 Z (λh8=>?_) (λh8=>?_))
 ·refine Zc 21 Z (Zr Z ?_);have a:¬s.Ok n:=λ⟨q,m,d,e,f,i,o,g⟩=>by
    first |omega|(have:=q x (XX c);omega)
  exact ⟨_,⟨congrArg Aa (by rw[if_neg a]),rfl⟩,H.perm 1 [] rfl rfl⟩
 refine Z2 6 [4,0,0,0] H Z (Am 68 Z (λh9=>?_) (λh9=>?_))
 ·refine Zc 15 Z (Zr Z ?_);have a:¬s.Ok n:=λ⟨q,m,d,e,f,i,o,g⟩=>by
    first |omega|(have:=q x (XX c);omega)
  exact ⟨_,⟨congrArg Aa (by rw[if_neg a]),rfl⟩,H.perm 1 [] rfl rfl⟩
 refine Z2 8 [5,0,0,4,0,0,0] H Z (Ag Z (λt=>?_) (λt=>?_))
 ·refine Zc 6 Z (Zr Z ?_);have a:¬s.Ok n:=λ⟨q,m,d,e,f,i,o,g⟩=>by
    first |omega|(have:=q x (XX c);omega)
  exact ⟨_,⟨congrArg Aa (by rw[if_neg a]),rfl⟩,H.perm 1 [] rfl rfl⟩
 refine Zc 8 Z (Zr Z ?_);have a:s.Ok n:=⟨λx c=>by
   obtain ⟨j,p,rfl⟩:=Zw.1 c;exact b j _ (by simp[Sup.list] at p;omega) (XW p)
   ,by omega,by omega,by omega,by omega,by omega,by omega,by omega⟩
 exact ⟨_,⟨congrArg Aa (by rw[if_pos a]),Z⟩,H.perm 1 [] Z Z⟩
theorem Pn(c pd f:Nat)(s:Sup)(b sq a:Int)(d e:Bool)(i: -9223372036854775808<=s.len-a/\s.len-a<=9223372036854775807):An 209 [V c] [lgB c pd f s b sq a d e] (λv G=>v=Aa (if d then 0 else s.len-a)/\G=[lgB c pd f s b sq a d e]):=by
 intro z R w H;refine Af func209 Z ntmps209 Z (Z2 14 [12,0,0] H Z (Fz Z (λg=>?_) (λg=>?_)))
 ·refine Zc 6 Z (Zr Z ?_);exact ⟨_,⟨congrArg Aa (by simp_all),Z⟩,H⟩
 refine Zc 3 Z (A4 (Sep z _) J J H.drew (F8 11 [2,6,0,0,11,0,0] [s.len-a] Z J U (Bn (λw h=>?_))));have H:=h.l1;refine gn (Zc 2 Z (Zr Z ?_));exact ⟨_,⟨congrArg Aa (by simp_all),Z⟩,H⟩
theorem Po(b pd e:Nat)(s:Sup)(a sq c:Int)(f d:Bool):An 210 [V b] [lgB b pd e s a sq c f d] (λv G=>v=.tuple #[Aa a,Aa sq]/\G=[lgB b pd e s a sq c f d]):=by
 intro z R w H;refine Af func210 Z ntmps210 Z (Zc 7 Z (A4 (Sep z _) J J H.drew (EM 10 [9,0,10,0] (λ_ g=>(A3 (g.blk 0 Z) AU)) Z J Z (Bn (λw h=>?_)))));have H:=h.l1;refine gn (Zc 2 Z (Zr Z ?_));exact ⟨_,⟨Z,Z⟩,H⟩
theorem Pp(b pd d:Nat)(s:Sup)(a sq e:Int)(f c:Bool):An 211 [V b] [lgB b pd d s a sq e f c] (λv G=>v=.tuple #[]/\G=[lgB b pd d s a sq 0 false c]):=by
 intro z R w H;refine Af func211 Z ntmps211 Z (Z4 14 [11,0,12,0] H Z ?_);intro w H;refine Zf Z ?_;exact ⟨_,⟨Z,Z⟩,H⟩
theorem Iv(c pd e:Nat)(s:Sup)(a sq b:Int)(f d:Bool)(n:Int)(h:0<=a/\a<=1099511627776)(k:0<=n/\n<=1099511627776)(j:0<s.len)(hs:0<=sq/\sq<=2199023255552)(i:0<=b/\b<=2199023255552):An 131 [V c,Aa n] [lgB c pd e s a sq b f d] (λv G=>v=.tuple #[]/\G=[lgB c pd e s ((a+n)%s.len) (sq+1) (b+n) f d]):=by
 intro z R w H;refine Af func131 Z ntmps131 Z (Zc 1 Z (Bo 15 J J (A9 H λw g=>?_)));have H:=g.l1;refine CD 15 [9,0,0,2,6,0,0,9] [a+n,(a+n)%s.len] H Z J U (Cf (gw (Z5 26 [0,10,0,0,10,0,11,0,0,11,0] [sq+1,b+n] H Z U ?_)));intro w H;refine Zf Z ?_;exact ⟨_,⟨Z,Z⟩,H⟩
theorem T4(pd bd m N:Nat)(f0 e f i d:Int)(a:Bool)(c:Nat)(s:Sup)(hN:N<=1152921504606846976)(b:s.Ok ((N:Int)/256)):An 77 [V pd,V c,.agg #[Aa s.gen,Aa s.epoch,Aa s.pages,Aa s.start,Aa s.len,Aa s.head,Aa s.seq]] [blk pd [.slice (some ⟨bd,0,none⟩) N N,.map (some m),Aa f0,Aa e,Aa f,Aa i,.bool a,Aa d] 106] (λv G=>(∃h,v=V h/\G=[lgB h pd c s s.head s.seq 0 false (decide (s.epoch<4294967296)),blk pd [.slice (some ⟨bd,0,none⟩) N N,.map (some m),Aa f0,Aa e,Aa f,Aa i,.bool a,Aa d] 106])):=by
 intro z R w H;refine Af func77 Z ntmps77 Z (Za 2 [] H Z ?_);intro l w H;refine Zc 5 Z (A4 (Sep z _) J J H.drew (IY 9 [0,7] [] Z J (CO Z Z Z Z Z (λw=>call127 _ w) (v:=Aa ((N:Int)/256)) (cq (Jd _ _ _ _ _ _ _ _ _ _ U) (by rintro _ _ ⟨rfl,rfl⟩;exact ⟨Z,Z⟩) 2 [1,0] [1,0] Z Z Z Z) (CO Z Z Z Z Z (λw=>call129 _ w) (v:=Aa (if s.Ok ((N:Int)/256) then 0 else 1)) (cq (Ge _ _ U) (by rintro _ _ ⟨rfl,rfl⟩;exact ⟨Z,Z⟩) 0 [] [] Z Z Z Z) (Ca 2 [] Z J (Bn (λw j=>?_)))))));have H:=j.l2;refine gn (Zc 1 Z (Ag Z (λg=>?_) (λg=>?_)))
 ·exact absurd (if_pos b) g
 refine Z2 14 [0,7,5,0,0,6,0,0,1,0,0,0] H Z (Ad Z (AQ Z Z (out:=[V pd,V c,Aa s.gen,Aa s.epoch,Aa s.pages,Aa s.start,Aa s.len,Aa s.head,Aa s.seq,Aa s.head,Aa s.seq,Aa 0,.bool false,.bool (decide ((s.epoch:Int)<4294967296))]) J) (Za 0 [] H Z ?_));intro k w H;refine Zc 4 Z (Zr Z ?_);exact ⟨_,⟨k,Z,Z⟩,H.perm 3 [0,2] Z Z⟩
theorem VI(k:Nat):An 33 [Aa (k:Int)] [] (λv G=>(¬(1<=k/\k<=4096)/\v=.tuple #[.pointer none,Aa 1]/\G=[])\/((1<=k/\k<=4096)/\∃pd,v=.tuple #[V pd,Aa 0]/\G=[diskA pd (BV k)])):=by
 intro z R w H;refine Af func33 Z ntmps33 Z (Z0 12 [0] Z (Am 6 Z (λf=>?_) (λf=>?_)))
 ·refine Zc 13 Z (Zr Z ?_);exact ⟨_,.inl ⟨by omega,Z,Z⟩,H⟩
 refine Z0 5 [0] Z (Ag Z (λg=>?_) (λg=>?_))
 ·refine Zc 7 Z (Zr Z ?_);exact ⟨_,.inl ⟨by omega,Z,Z⟩,H⟩
 refine Z1 6 [] [((k*256:Nat):Int)] Z U (AC Z (C8 (k:=(k*256)) H Z J A2 Z Z Z U) ?_);rintro _ w ⟨a,rfl,H⟩;refine AC Z (E3 H Z) ?_;rintro _ w ⟨b,rfl,H⟩;refine Ad Z (AQ Z Z (out:=[.slice (some ⟨a,0,none⟩) (k*256) (k*256),.map (some b),Aa 0,Aa 0,Aa 0,Aa 0,.bool false,Aa 0]) J) (Za 0 [] H Z ?_);intro d w H;refine Zc 5 Z (Zr Z ?_);replace H:=(FS H).l4;replace H:=(H.void (B:=seps (([]:List Ent).map Ent.row)) (λh=>⟨λ_=>0,λi A e=>by cases e⟩)).l5;have c:List.replicate (k*256) (u8 0)=(List.replicate (k*256) (0:UInt8)).map u8:=by simp
 rw[c] at H;have H:Sep z (seps (([]:List Ent).map Ent.row)::poolA (λ_=>none)::blk d [.slice (some ⟨a,0,none⟩) (k*256) (k*256),.map (some b),Aa 0,Aa 0,Aa 0,Aa 0,.bool false,Aa 0] 106::AG b (([]:List Ent).map Ent.ie) 0::blk a ((List.replicate (k*256) (0:UInt8)).map u8) 5::R) w:=H;replace H:=H.f1.f3.f4.f4;replace H:=(Sep.toDisk (D:=BV k) (pd:=d) (bd:=a) (m:=b) (f0:=0) (bs:=(List.replicate (k*256) 0)) (es:=([]:List Ent)) (clk:=0) (hq:=(λ_=>none)) (Γ:=R) H (TP U) TQ).l1;exact ⟨_,.inr ⟨by omega,d,Z,Z⟩,H⟩
theorem MR(d pd k:Nat)(s:Sup)(b sq f:Int)(j i:Bool)(x:Int)(D:Dsk)(h:D.f1=0)(hr:0<=s.start/\0<s.len/\s.start+s.len<=D.n)(hx:0<=x/\x<=1152921504606846976)(sec:List UInt8)(c:D.cont (ringAt s x)=sec):An 175 [V d,Aa x] [lgB d pd k s b sq f j i,diskA pd D] (λv G=>(∃g a rest,v=.tuple #[.slice (some ⟨g,0,none⟩) 256 a,Aa 0]/\(256<=a/\a<=9223372036854775807/\rest.length=a-256)/\G=[blk g (sec.map u8++rest) 5,lgB d pd k s b sq f j i,diskA pd D])):=by
 intro z R w H;have o:=H.sy 1 (λq=>(diskA.ok q).n2);have p:=ZJ x (by omega:s.len≠0);have l:=Zs x (by omega:0<s.len);refine Af func175 Z ntmps175 Z (Zc 7 Z (BQ (Sep z (lgB d pd k s b sq f j i::diskA pd D::R)) 22 Z J (A9 H λw e=>?_)));have H:=e.l2;refine OP [0,1,2,3,4,5,6,7,8,9,10,11,12,13,14,15,16] [0,0,0,2,5,0,0,2,6,0,0] [x%s.len,s.start+(x%s.len)] H Z J U Z (Cg [17] J O (Az (BF Z Z Z Z Z Z (λw=>call65 _ w) (Hi _ _ _) H.f1 Z ?_)));rintro _ w _ (⟨m,rfl,rfl⟩|⟨_,y,_⟩|⟨_,_,g,a,rest,rfl,⟨t,u,r⟩,rfl⟩) e
 ·exact absurd ⟨by omega,by omega⟩ m
 ·exact absurd y U
 rw[diskA.f1 h] at e;have H:=e.l3;refine B3 (H.pick 3 [2,1] Z) (CC [18,19,20,21] [] [] (by exact H.pick 3 [2,1] Z) Z J Z (a_done J (gn (Zc 2 Z (Zr Z ?_)))));subst c;exact ⟨_,⟨g,a,rest,Z,⟨t,u,r⟩,Z⟩,H.perm 3 [0,2,1] Z Z⟩
theorem T5(b:Nat)(a:UInt32)(v:Value)(n:Nat)(bs:List UInt8)(d:bs.length=n)(A:Ai)(c:∀h,A h->rdH 1 v n (bs.map u8) h):An 177 [V b,u32 a,v] [tblA b,A] (λv G=>v=u32 (Db a bs)/\G=[tblA b,A]):=by
 subst d;exact Pj b a v bs A c
set_option maxHeartbeats 1000000 in
theorem VJ (pl pd pt:Nat) (s:Sup) (b sq us:Int) (br nu:Bool) (D:Dsk) (c9:D.f1=0) (hr:0<=s.start/\0<s.len/\s.start+s.len<=D.n) (ha:0<=b/\b<=1099511627776) (hu:0<=us/\us<=1099511627776) (g6:s.len<=4096) (F:Nat->List UInt8) (hF:∀j:Nat,F j=D.cont (ringAt s (b+j))):An 130 [V pl] [lgB pl pd pt s b sq us br nu,tblA pt,diskA pd D] (λv G=>((∀ims,¬nextP F s.epoch sq (s.len-us) ims)/\v=.tuple #[.agg #[Aa 0,.slice none 0 0],Aa 0]/\G=[lgB pl pd pt s b sq us br nu,tblA pt,diskA pd D])\/(∃ims v' hq,nextP F s.epoch sq (s.len-us) ims/\v=.tuple #[.agg #[Aa sq,v'],Aa 0]/\imgsH v' ims hq/\G=[poolA hq,lgB pl pd pt s b sq us br nu,tblA pt,diskA pd D])):=by
 intro z R w H;replace H:=H.l3;have a0:∀j:Nat,(F j).length=256:=λj=>by
   rw[hF];refine Dsk.cont_len (H.sy 2 (λq=>diskA.ok q)) ?_;have g7:=Zs (b+j) (by omega:0<s.len);unfold ringAt;omega
 replace H:=(FS H).l4;refine Af func130 Z ntmps130 Z (Za 2 [] H Z ?_);intro b1 w H;refine Za 6 [] H Z ?_;intro b2 w H;refine Z4 10 [0,9,3,0] H Z ?_;intro w H;refine AB Z (call175 _) (MR _ _ _ _ _ _ _ _ _ _ _ c9 hr U (F 0) (by rw[hF];simp)) H.f5.f4 ?_;rintro _ w _ ⟨g,c0,rest,rfl,⟨cg,cc,cl⟩,rfl⟩ H;replace H:=H.l7;replace H:=H.f5;obtain ⟨e2,⟨f9,c2⟩,H⟩:=BW H (λh q=>DJ q (a0 _) ⟨cg,cc,cl⟩);replace H:=H.l6;refine Z2 24 [4,1,1,0] H Z (AB Z (call176 _) (Pm _ _ _ _ (F 0) _ (λh q=>c2.le q)) H.f5 ?_);rintro _ w _ (⟨hh,v1,rfl,rfl⟩|⟨hh,rfl,rfl⟩) a
 ·have H:=a.l7
  refine Zc 1 Z ?_;obtain ⟨a4,a5,rfl⟩:=H.sy 0 (·.slc);have H:Sep z (grow 3 1 (.slice a4 (Bd (F 0)) a5) (Bd (F 0)) (hN (F 0) (Bd (F 0)))::tblA pt::poolA e2::lgB pl pd pt s b sq us br nu::diskA pd D::blk b2 [Aa 0,.slice none 0 0] 116::blk b1 [Aa 0,.slice none 0 0] 116::R) w:=H;replace H:=H.f2;obtain ⟨c7,⟨f0,e7⟩,H⟩:=BW H (λh q=>q.rd);replace H:=H.l6;have f3:=hh.2.2.2.1;refine Zc 2 Z (AC Z (BN (P:=prog) H Z (zs:=[Aa 0,Aa 0,.slice none 0 0,u32 0]) J) ?_);rintro _ w ⟨b3,rfl,H⟩;replace H:=H.l7;refine Z4 6 [0] H Z ?_;intro w H;refine A4 (Sep z _) J J H.drew (EM 13 [0,0,2,3,1] (λ_ hx=>(A3 (hx.blk 0 Z) (A3 (hx.blk 3 Z) AU))) Z J Z (Co 56 Z (λh1=>?_) (λh1=>?_)))
  ·refine Ca 25 [] Z J (Bn (λw a=>?_));have H:=a.l7;refine gn (Z4 10 [5,2,6] H Z ?_);intro w H;refine Zl [6,2] H Z ?_;exact ⟨_,.inl ⟨λims=>by rintro ⟨q1,x,t,q4,q5,c,y⟩;first|exact hh q1|(exfalso;simp only[BR,BS] at x t;omega)|exact absurd (c i U).1 hi|(have q8:=c i U;simp only[Ez,EA,BM,BR,BS] at *;exfalso;omega)|exact absurd (show Av (Dm F (Bd (F 0)))=CP (F 0) from y) ‹_›,rfl,rfl⟩,H.perm 7 [3,2,4] rfl rfl⟩
  refine EM 9 [1,0,10,1] (λ_ hx=>(A3 (hx.blk 0 Z) (A3 (hx.blk 3 Z) AU))) Z J Z (Co 65 Z (λh2=>?_) (λh2=>?_))
  ·refine Ca 16 [] Z J (Bn (λw a=>?_));have H:=a.l7;refine gn (Z4 10 [5,2,6] H Z ?_);intro w H;refine Zl [6,2] H Z ?_;exact ⟨_,.inl ⟨λims=>by rintro ⟨q1,x,t,q4,q5,c,y⟩;first|exact hh q1|(exfalso;simp only[BR,BS] at x t;omega)|exact absurd (c i U).1 hi|(have q8:=c i U;simp only[Ez,EA,BM,BR,BS] at *;exfalso;omega)|exact absurd (show Av (Dm F (Bd (F 0)))=CP (F 0) from y) ‹_›,rfl,rfl⟩,H.perm 7 [3,2,4] rfl rfl⟩
  refine F8 16 [2,0,0,2,6,3,0,11,3,0,0] [1+((Bd (F 0):Nat):Int),s.len-us] Z J U (Bn (λw a=>?_));have H:=a.l7;refine gn (Zc 1 Z (Ag Z (λh3=>?_) (λh3=>?_)))
  ·refine Z4 8 [5,2,6] H Z ?_;intro w H;refine Zl [6,2] H Z ?_;exact ⟨_,.inl ⟨λims=>by rintro ⟨q1,x,t,q4,q5,c,y⟩;first|exact hh q1|(exfalso;simp only[BR,BS] at x t;omega)|exact absurd (c i U).1 hi|(have q8:=c i U;simp only[Ez,EA,BM,BR,BS] at *;exfalso;omega)|exact absurd (show Av (Dm F (Bd (F 0)))=CP (F 0) from y) ‹_›,rfl,rfl⟩,H.perm 7 [3,2,4] rfl rfl⟩
  refine Zc 14 Z ?_;replace H:=(H.nilg 38 1).l8;refine Z2 8 [2,1,0] H Z ?_;refine Ap (σ:=Nat×Value×List Value×Hp) (λ⟨i,v,p,hq⟩=>[(86,Aa (i:Int)),(9,u32 (Av (Dm F i))),(10,v),(0,V pl),(2,V b1),(4,V b2),(7,V b3),(85,Aa ((Bd (F 0):Nat):Int))])
    (λ⟨i,v,p,hq⟩ w=>Sep z (grow 38 1 v i p::blk b3 [Aa (BR (F 0)),Aa (BS (F 0)),.slice a4 (Bd (F 0)) a5,u32 (CP (F 0))] 233::poolA hq::tblA pt::lgB pl pd pt s b sq us br nu::diskA pd D::blk b2 [Aa 0,.slice none 0 0] 116::blk b1 [Aa 0,.slice none 0 0] 116::R) w/\(i<=Bd (F 0)/\p.length=i/\BC c7 hq/\∀(j:Nat) (pv:Value),p[j]?=some pv->rdH 1 pv 256 ((F (1+j)).map u8) hq)) (λ⟨i,v,p,hq⟩=>Bd (F 0)-i) ⟨0,.slice none 0 0,[],c7⟩
    (λ_ hF=>(hF.co Z (by go_num) (hF.co Z (XC F) hF.cz))) ⟨H,by omega,Z,λk o e=>e,λj pv h=>by simp at h⟩ ?_
  clear H;rintro ⟨i,v,p,hq⟩ w ⟨a,hI⟩;dsimp only at hI a ⊢;have H:=a.l8;have sv:=H.sy 0 (·.slc);obtain ⟨e3,d3,a8,a7⟩:=hI;refine Z0 6 [0] Z (Ag Z (λh4=>?_) (λh4=>?_))
  ·have d9:i<Bd (F 0):=by omega
   refine Z3 20 [9,4,0] [b+1,(b+1)+(i:Int)] H Z U (AB Z (call175 _) (MR _ _ _ _ _ _ _ _ _ _ _ c9 hr U (F (1+i)) (by rw[hF];congr 2;omega)) H.f5.f5 ?_);rintro _ w _ ⟨g,c0,rest,rfl,⟨cg,cc,cl⟩,rfl⟩ H;replace H:=H.l9;replace H:=H.f5;obtain ⟨d8,⟨b9,a2⟩,H⟩:=BW H (λh q=>DJ q (a0 _) ⟨cg,cc,cl⟩);replace H:=H.l8;refine Z2 25 [4,1,1,0] H Z (Ah Z (call177 _) (T5 _ _ _ 256 (F (1+i)) (a0 _) _ (λh q=>a2.le q)) H.f5 ?_);intro w H;refine Zc 6 Z (AC Z (AI H Z J Fi Z (by decide) (by decide) (out:=[.slice (some ⟨g,0,none⟩) 256 c0]) J) ?_);rintro _ w ⟨b4,rfl,H⟩;replace H:=H.l9;refine AC Z (AJ 5 H Z Z J Fi Z Z (H.rv 0 (·.rd U U O Z)) (by simp[Value.oneCell']) U) ?_;rintro v5 w H;replace H:=H.l9;have g4:=H.sy 5 (·.slc);refine Z1 8 [] [(i:Int)+1] Z U ?_;replace H:=H.d.f7.f7.f5.f5.f4.f5.f7.f7;refine gf ?_;intro _ hF;refine ⟨⟨i+1,v5,p++[.slice (some ⟨g,0,none⟩) 256 c0],d8⟩,(hF.co Z (by go_num) (hF.co Z (congrArg u32 (Q3 F i)) (hF.all Z))),⟨H,?_⟩,?_⟩
   ·refine ⟨by omega,by simp[d3],λk o e=>b9 k o (a8 k o e),λj pv h=>?_⟩;rcases Yg j i with q|q
    ·rw[Yc U] at h;exact (a7 j pv h).le b9
    rw[Ya U] at h;obtain rfl:j=i:=by have:=(XV.1 h).1;simp at this;omega
    simp[d3] at h;subst h;exact a2
   omega
  obtain rfl:i=Bd (F 0):=by omega
  refine Zc 2 Z (gx (Zc 3 Z ?_));obtain ⟨d6,c8,rfl⟩:=H.sy 0 (·.slc);have H:Sep z (grow 38 1 (.slice d6 (Bd (F 0)) c8) (Bd (F 0)) p::blk b3 [Aa (BR (F 0)),Aa (BS (F 0)),.slice a4 (Bd (F 0)) a5,u32 (CP (F 0))] 233::poolA hq::tblA pt::lgB pl pd pt s b sq us br nu::diskA pd D::blk b2 [Aa 0,.slice none 0 0] 116::blk b1 [Aa 0,.slice none 0 0] 116::R) w:=H;replace H:=H.f2;obtain ⟨c6,⟨b0,d4⟩,H⟩:=BW H (λh q=>q.rd);replace H:=H.l7;have b5:=e7.le (λk o e=>b0 k o (a8 k o e));replace H:=(H.nilg 118 3).l8;refine Za 6 [10,4,0] H Z ?_;intro b6 w H;refine Z4 12 [0] H Z ?_;intro w H;refine Ap (σ:=Nat×Value×List ImE×Hp) (λ⟨i,v,es,a1⟩=>[(124,Aa (i:Int)),(0,V pl),(2,V b1),(4,V b2),(7,V b3),(9,u32 (Av (Dm F (Bd (F 0))))),(14,V b6),(122,.slice d6 (Bd (F 0)) c8),(123,Aa ((Bd (F 0):Nat):Int))])
    (λ⟨i,v,es,a1⟩ w=>Sep z (blk b6 [Aa sq,v] 116::grow 118 3 v i (Bj es)::poolA a1::blk b3 [Aa (BR (F 0)),Aa (BS (F 0)),.slice a4 (Bd (F 0)) a5,u32 (CP (F 0))] 233::tblA pt::lgB pl pd pt s b sq us br nu::diskA pd D::blk b2 [Aa 0,.slice none 0 0] 116::blk b1 [Aa 0,.slice none 0 0] 116::R) w/\(i<=Bd (F 0)/\es.length=i/\es.map Prod.fst=(List.range i).map (λj=>BM (F (1+j)))/\BC c6 a1/\imesOk es a1/\∀j,j<i->Hf (F (1+j))/\Ez (F (1+j))=s.epoch/\EA (F (1+j))=sq/\(BM (F (1+j))).num=DA (F 0) j/\Av (Dm F (Bd (F 0)))=CP (F 0))) (λ⟨i,v,es,a1⟩=>Bd (F 0)-i) ⟨0,.slice none 0 0,[],c6⟩
    fr_z ⟨H,by omega,Z,Z,λk o e=>e,λe he=>absurd he O,λj h=>by omega⟩ ?_
  clear H;rintro ⟨i,v,es,a1⟩ w ⟨a,hI⟩;dsimp only at hI a ⊢;have H:=a.l9;have sv:=H.sy 1 (·.slc);obtain ⟨e3,e1,d1,l,c5,m⟩:=hI;refine Z0 6 [0] Z (Ag Z (λh5=>?_) (λh5=>?_))
  ·have d9:i<Bd (F 0):=by omega
   refine Zc 5 Z ?_;obtain ⟨pv,d0⟩:∃pv,p[i]?=some pv:=⟨_,XW U⟩;have a6:=(a7 i pv d0).le (λk o e=>l k o (b0 k o e));obtain ⟨sb,so,sc,rfl⟩:=a6.sl (by rw[X9,a0];decide);have a9:=(H.rv 2 (λq=>(d4.le l).le q)).at (j:=i) d0;have d5:=(H.rv 2 (λq=>(b5.le l).le q)).at (j:=i) (u:=Aa (DA (F 0) i)) (by simp[hN,show i<Bd (F 0) from by omega]);refine Zc 2 Z (Ad Z (Ar Z (z:=1) (j:=i) (r:=i) J Z Z Z U a9 U) (Ad Z (AK Z Z J (AA a9)) (Z2 11 [1,5,0] H Z (AB Z (call178 _) (NW _ _ _ _ (F (1+i)) _ (λh q=>a6.le q)) H.f2.f4 ?_))));rintro _ w _ (⟨hi,g3,f,e0,rfl,⟨e6,e5,e9⟩,rfl⟩|⟨hi,rfl,rfl⟩) a
   ·have H:=a.l10;refine Zc 1 Z ?_;replace H:=H.f2;obtain ⟨c3,⟨a3,c1⟩,H⟩:=BW H (λh q=>DJ q (by simp[a0]) ⟨e6,e5,e9⟩);replace H:=H.l9;refine Za 4 [] H Z ?_;intro b7 w H;refine Z4 8 [0] H Z ?_;intro w H;refine A4 (Sep z _) J J H.drew (EM 9 [0,0] (λ_ hx=>(A3 (hx.blk 5 Z) AU)) Z J Z (Co 148 Z (λh6=>?_) (λh6=>?_)))
    ·refine Ca 21 [] Z J (Bn (λw a=>?_));have H:=a.l10;refine gn (Z4 10 [8,2,9] H Z ?_);intro w H;refine Zl [9,2] H Z ?_;exact ⟨_,.inl ⟨λims=>by rintro ⟨q1,x,t,q4,q5,c,y⟩;first|exact hh q1|(exfalso;simp only[BR,BS] at x t;omega)|exact absurd (c i U).1 hi|(have q8:=c i U;simp only[Ez,EA,BM,BR,BS] at *;exfalso;omega)|exact absurd (show Av (Dm F (Bd (F 0)))=CP (F 0) from y) ‹_›,rfl,rfl⟩,H.perm 10 [6,2,7] rfl rfl⟩
    refine EM 6 [1,0] (λ_ hx=>(A3 (hx.blk 5 Z) AU)) Z J Z (Co 154 Z (λh7=>?_) (λh7=>?_))
    ·refine Ca 15 [] Z J (Bn (λw a=>?_));have H:=a.l10;refine gn (Z4 10 [8,2,9] H Z ?_);intro w H;refine Zl [9,2] H Z ?_;exact ⟨_,.inl ⟨λims=>by rintro ⟨q1,x,t,q4,q5,c,y⟩;first|exact hh q1|(exfalso;simp only[BR,BS] at x t;omega)|exact absurd (c i U).1 hi|(have q8:=c i U;simp only[Ez,EA,BM,BR,BS] at *;exfalso;omega)|exact absurd (show Av (Dm F (Bd (F 0)))=CP (F 0) from y) ‹_›,rfl,rfl⟩,H.perm 10 [6,2,7] rfl rfl⟩
    refine EM 5 [0,0,2,1] (λ_ hx=>(A3 (hx.blk 0 Z) (A3 (hx.blk 5 Z) AU))) Z J Z (Be Z Z Z (Ar Z (z:=1) (j:=i) (r:=i) J Z Z Z U d5 U) (Be Z Z Z (AK Z Z J (λ_ hx=>(hx.rd 1 Z (λh q=>(b5.le (λk o e=>a3 k o (l k o e))).le q)).at (j:=i) (u:=Aa (DA (F 0) i)) (by simp[hN,show i<Bd (F 0) from by omega]))) (Ca 3 [] Z J (Co 164 Z (λh8=>?_) (λh8=>?_)))))
    ·refine Ca 5 [] Z J (Bn (λw a=>?_));have H:=a.l10;refine gn (Z4 10 [8,2,9] H Z ?_);intro w H;refine Zl [9,2] H Z ?_;exact ⟨_,.inl ⟨λims=>by rintro ⟨q1,x,t,q4,q5,c,y⟩;first|exact hh q1|(exfalso;simp only[BR,BS] at x t;omega)|exact absurd (c i U).1 hi|(have q8:=c i U;simp only[Ez,EA,BM,BR,BS] at *;exfalso;omega)|exact absurd (show Av (Dm F (Bd (F 0)))=CP (F 0) from y) ‹_›,rfl,rfl⟩,H.perm 10 [6,2,7] rfl rfl⟩
    refine EM 3 [3,0] (λ_ hx=>(A3 (hx.blk 5 Z) AU)) Z J Z (Be Z Z Z (MC (k:=.u32) Z J Z Z) (Ca 1 [] Z J (Bn (λw a=>?_))));have H:=a.l10;refine gn (Zc 1 Z (Ag Z (λh9=>?_) (λh9=>?_)))
    ·refine Z4 8 [8,2,9] H Z ?_;intro w H;refine Zl [9,2] H Z ?_;exact ⟨_,.inl ⟨λims=>by rintro ⟨q1,x,t,q4,q5,c,y⟩;first|exact hh q1|(exfalso;simp only[BR,BS] at x t;omega)|exact absurd (c i U).1 hi|(have q8:=c i U;simp only[Ez,EA,BM,BR,BS] at *;exfalso;omega)|exact absurd (show Av (Dm F (Bd (F 0)))=CP (F 0) from y) ‹_›,rfl,rfl⟩,H.perm 10 [6,2,7] rfl rfl⟩
    refine Z2 6 [1,3,0,0,3] H Z (AC Z (AI H Z J AR Z (by decide) (by decide) (out:=[Aa ((BM (F (1+i))).num),Aa ((BM (F (1+i))).kind),.slice (some ⟨g3,0,none⟩) 240 f]) J) ?_);rintro _ w ⟨b8,rfl,H⟩;replace H:=H.l11;refine AC Z (AJ 5 H Z Z J AR Z Z (H.rv 0 (·.rd U U O Z)) (by simp[Value.oneCell']) U) ?_;rintro v9 w a;have a:Sep z (blk b8 [Aa ((BM (F (1+i))).num),Aa ((BM (F (1+i))).kind),.slice (some ⟨g3,0,none⟩) 240 f] 118::blk b7 [Aa ((BM (F (1+i))).num),Aa ((BM (F (1+i))).kind),.slice (some ⟨g3,0,none⟩) 240 f] 118::poolA c3::tblA pt::blk b6 [Aa sq,v] 116::grow 118 3 v9 (i+1) (Bj es++[Aa ((BM (F (1+i))).num),Aa ((BM (F (1+i))).kind),.slice (some ⟨g3,0,none⟩) 240 f])::blk b3 [Aa (BR (F 0)),Aa (BS (F 0)),.slice a4 (Bd (F 0)) a5,u32 (CP (F 0))] 233::lgB pl pd pt s b sq us br nu::diskA pd D::blk b2 [Aa 0,.slice none 0 0] 116::blk b1 [Aa 0,.slice none 0 0] 116::R) w:=a;have e4:(Bj es++[Aa ((BM (F (1+i))).num),Aa ((BM (F (1+i))).kind),.slice (some ⟨g3,0,none⟩) 240 f]:List Value)=Bj (es++[(BM (F (1+i)),.slice (some ⟨g3,0,none⟩) 240 f)]):=Ip es (BM (F (1+i)),.slice (some ⟨g3,0,none⟩) 240 f);rw[e4] at a;have H:=a.l11;have c4:=H.sy 5 (·.slc);refine Z0 1 [1] Z (AV Z Z (Xy 4 H Z Z Z Z c4.cells c4.one J) ?_);rintro w H;replace H:=H.l11;refine Z1 7 [] [(i:Int)+1] Z U ?_;replace H:=H.f1.d.d.f8.f8.f8.f8.f5.f8.f6.f8.f8;refine gf ?_;intro _ hF;refine ⟨⟨i+1,v9,es++[(BM (F (1+i)),.slice (some ⟨g3,0,none⟩) 240 f)],c3⟩,hF.cz,⟨H,?_⟩,?_⟩
    ·refine ⟨by omega,by simp[e1],by simp[d1,ZT],λk o e=>a3 k o (l k o e),?_,λj hj=>?_⟩
     ·intro e he;rcases Yt.1 he with q|q
      ·exact (c5 e q).le a3
      rw[YA.1 q];simpa [BM,a0] using c1
     rcases Yg j i with q|q
     ·exact m j q
     obtain rfl:j=i:=by omega
     simp only[Ez,EA,BR,BS,BM] at *;exact ⟨hi,by omega,by omega,by omega,Z7 ‹_›⟩
    omega
   have H:=a.l9;refine Za 5 [] H Z ?_;intro g2 w H;refine Z4 8 [0] H Z ?_;intro w H;refine A4 (Sep z _) J J H.drew (Ca 30 [] Z J (Bn (λw a=>?_)));have H:=a.l10;refine gn (Z4 10 [8,2,9] H Z ?_);intro w H;refine Zl [9,2] H Z ?_;exact ⟨_,.inl ⟨λims=>by rintro ⟨q1,x,t,q4,q5,c,y⟩;first|exact hh q1|(exfalso;simp only[BR,BS] at x t;omega)|exact absurd (c i U).1 hi|(have q8:=c i U;simp only[Ez,EA,BM,BR,BS] at *;exfalso;omega)|exact absurd (show Av (Dm F (Bd (F 0)))=CP (F 0) from y) ‹_›,rfl,rfl⟩,H.perm 10 [6,1,7] rfl rfl⟩
  obtain rfl:i=Bd (F 0):=by omega
  refine Zc 2 Z (gx (Z2 5 [0,2] H Z (AV Z Z (AD 8 H Z Z Z Z (vs:=[Aa sq,v]) Z (Al Z (Al sv.one AL)) J O (out:=[Aa sq,v]) Z) ?_)));rintro w H;replace H:=H.l9;refine Zc 4 Z (Zl [8,2] H Z ?_);replace H:=H.f1.f2;obtain ⟨e8,⟨d7,d2⟩,H⟩:=BW H (λh q=>q.rd);replace H:=H.l8;exact ⟨_,.inr ⟨_,v,e8,⟨hh,by unfold BR;omega,by unfold BS;omega,by omega,Z,λj hj=>⟨(m j hj).1,(m j hj).2.1,(m j hj).2.2.1,(m j hj).2.2.2.1⟩,(m 0 U).2.2.2.2⟩,Z,⟨es,d1,by simpa using d2,c5.le d7⟩,Z⟩,H.perm 8 [0,4,3,5] Z Z⟩
 have H:=a.l6;refine Zc 3 Z (AC Z (BN (P:=prog) H Z (zs:=[Aa 0,Aa 0,.slice none 0 0,u32 0]) J) ?_);rintro _ w ⟨g5,rfl,H⟩;replace H:=H.l7;refine Z4 6 [0] H Z ?_;intro w H;refine A4 (Sep z _) J J H.drew (Ca 38 [] Z J (Bn (λw a=>?_)));have H:=a.l7;refine gn (Z4 10 [5,2,6] H Z ?_);intro w H;refine Zl [6,2] H Z ?_;exact ⟨_,.inl ⟨λims=>by rintro ⟨q1,x,t,q4,q5,c,y⟩;first|exact hh q1|(exfalso;simp only[BR,BS] at x t;omega)|exact absurd (c i U).1 hi|(have q8:=c i U;simp only[Ez,EA,BM,BR,BS] at *;exfalso;omega)|exact absurd (show Av (Dm F (Bd (F 0)))=CP (F 0) from y) ‹_›,rfl,rfl⟩,H.perm 7 [3,1,4] rfl rfl⟩
theorem MS(pd b:Nat)(D:Dsk)(s:Sup)(c:s.Ok (D.n:Int)):An 77 [V pd,V b,.agg #[Aa s.gen,Aa s.epoch,Aa s.pages,Aa s.start,Aa s.len,Aa s.head,Aa s.seq]] [diskA pd D] (λv G=>∃a,v=V a/\G=[lgB a pd b s s.head s.seq 0 false (decide (s.epoch<4294967296)),diskA pd D]):=by
 refine Cn.mono (Cn.onDisk (post:=λv Γ=>∃a,v=V a/\Γ=[lgB a pd b s s.head s.seq 0 false (decide (s.epoch<4294967296))]) (λe bd m f0=>?_)) ?_
 ·have d:=e.n2
  refine Cn.mono (T4 pd bd m (D.n*256) f0 D.f1 D.f2 D.f3 D.left D.cut b s U (by rw[show ((D.n*256:Nat):Int)/256=(D.n:Int) from by omega];exact c)) ?_;rintro v Γ ⟨a,rfl,rfl⟩;exact ⟨_,⟨a,Z,Z⟩,Z⟩
 rintro v Γ ⟨Γ',⟨a,rfl,rfl⟩,rfl⟩;exact ⟨a,Z,Z⟩
set_option maxHeartbeats 1000000 in
theorem VK (pd t:Nat) (s:Sup) (D:Dsk) (o:s.Ok (D.n:Int)) (a6:D.f1=0):An 75 [V pd,V t,.agg #[Aa s.gen,Aa s.epoch,Aa s.pages,Aa s.start,Aa s.len,Aa s.head,Aa s.seq]] [tblA t,diskA pd D] (λv G=>∃p rs a q u v' hq,v=.tuple #[V p,v',Aa 0]/\Runs D s s.head s.seq 0 rs a q u/\(s.len<=u\/∀ims,¬nextP (Cs D s a) s.epoch q (s.len-u) ims)/\recsH v' rs hq/\G=[poolA hq,lgB p pd t s a q u false (decide (s.epoch<4294967296)),tblA t,diskA pd D]):=by
 intro z R w H;have b8:=H.sy 1 (λq=>(diskA.ok q).n2);have c0:=Sup.get o;have hr:0<=s.start/\0<s.len/\s.start+s.len<=D.n:=by have:=o.2;omega
 have c2:=o.2.2.2.2.2.2.2;refine Af func75 Z ntmps75 Z (Za 2 [] H Z ?_);intro b1 w H;refine Z2 10 [0,7] H Z (AB Z (call77 _) (MS _ _ _ s o) H.f2 ?_);rintro _ w _ ⟨p,rfl,rfl⟩ H;refine Zc 17 Z ?_;replace H:=(H.nilg 116 2).l5;replace H:=(FS H).l6;refine Zc 3 Z ?_;refine Ap (σ:=List RcE×Value×Int×Int×Int×Hp) (λ⟨es,v,a,q,u,hq⟩=>[(10,v),(5,V b1),(9,V p)])
   (λ⟨es,v,a,q,u,hq⟩ w=>Sep z (poolA hq::grow 116 2 v es.length (DT es)::lgB p pd t s a q u false (decide (s.epoch<4294967296))::diskA pd D::blk b1 [Aa s.gen,Aa s.epoch,Aa s.pages,Aa s.start,Aa s.len,Aa s.head,Aa s.seq] 92::tblA t::R) w/\(Runs D s s.head s.seq 0 (es.map Prod.fst) a q u/\rcesOk es hq/\(0<=a/\a<=4096)/\(s.seq<=q/\q<=s.seq+u)/\(0<=u/\u<=s.len)/\es.length<=u)) (λ⟨es,v,a,q,u,hq⟩=>(s.len-u).toNat) ⟨[],.slice none 0 0,s.head,s.seq,0,(λ_=>none)⟩
   fr_z ⟨H,.nil _ _ _,λe he=>absurd he O,by omega,by omega,by omega,by simp⟩ ?_
 clear H;rintro ⟨es,v,a,q,u,hq⟩ w ⟨c,hI⟩;dsimp only at hI c ⊢;have H:=c.l6;obtain ⟨k,i,ha,a7,hu,c1⟩:=hI;refine Zc 2 Z (A4 (Sep z _) J J H.drew (EM 7 [11,0,4,1] (λ_ hx=>(A3 (hx.blk 2 Z) (A3 (hx.blk 4 Z) AU))) Z J Z (Bn (λw c=>?_))));have H:=c.l6;refine gn (Zc 1 Z (Ag Z (λh1=>?_) (λh1=>?_)))
 ·refine Zc 6 Z (AB Z (call130 _) (VJ _ _ _ _ _ _ _ _ _ _ a6 hr U U U (Cs D s a) (λj=>rfl)) H.f3.f5.f4 ?_);rintro _ w _ (⟨a3,rfl,rfl⟩|⟨ims,f,a7,r,rfl,a2,rfl⟩) c
  ·have H:=c.l6
   refine Za 3 [] H Z ?_;intro b2 w H;refine Z4 27 [0,4,1,0,0,3] H Z ?_;intro w H;refine gx (Zc 12 Z (Zr Z ?_));replace H:=H.f5.f5;obtain ⟨x,⟨l,g⟩,H⟩:=BW H (λh q=>q.rd);exact ⟨_,⟨p,es.map Prod.fst,a,q,u,v,x,Z,k,by first|exact .inl U|exact .inr a3,⟨es,rfl,by simpa using g,i.le l⟩,rfl⟩,H.perm 6 [0,2,3,4] rfl rfl⟩
  have H:=c.l7;obtain ⟨a5,b0,a1⟩:=a2.slc;have m:Slc f ims.length:=⟨a5,b0,a1⟩;clear a1;have b5:=r.len;refine Za 3 [] H Z ?_;intro b3 w H;refine AV Z Z (AD 0 H Z Z Z Z (vs:=[Aa q,f]) Z (Al Z (Al m.one AL)) J O (out:=[Aa q,f]) Z) ?_;rintro w H;refine Zc 5 Z ?_;replace H:=H.f1.f5;obtain ⟨a0,⟨a4,y⟩,H⟩:=Io H (M:=imgsH f ims) (λh q=>a2.le q) (λ_ _ a b=>a.le b);refine Z2 13 [4,1,1,0] H Z (Ad Z (G8 Z (sz:=3) J Z m) (Z0 3 [0] Z (Ag Z (λh2=>U) (λh2=>?_))));refine Z2 6 [1,2] H Z (AC Z (AI H Z J CB Z (by decide) (by decide) (out:=[Aa q,f]) J) ?_);rintro _ w ⟨b4,rfl,H⟩;refine AC Z (AJ 6 H Z Z J CB Z Z (H.rv 0 (·.rd U U O Z)) (Al Z (Al m.one AL)) U) ?_;rintro v5 w c;have c:Sep z (blk b4 [Aa q,f] 116::poolA a0::blk b3 [Aa q,f] 116::lgB p pd t s a q u false (decide (s.epoch<4294967296))::tblA t::diskA pd D::grow 116 2 v5 (es.length+1) (DT es++[Aa q,f])::blk b1 [Aa s.gen,Aa s.epoch,Aa s.pages,Aa s.start,Aa s.len,Aa s.head,Aa s.seq] 92::R) w:=c;have a9:(DT es++[Aa q,f]:List Value)=DT (es++[(⟨q,ims⟩,f)]):=K8 es (⟨q,ims⟩,f);rw[a9] at c;rw[show (es.length+1:Nat)=(es++[((⟨q,ims⟩:Rc),f)]).length from by simp] at c;have H:=c.l8;refine Z2 7 [1,2,0] H Z (Ad Z (G8 Z (sz:=3) J Z m) (Z1 1 [] [1+(ims.length:Int)] Z U (Ah Z (call131 _) (Iv _ _ _ _ _ _ _ _ _ _ U U U U U) H.f3 ?_)));intro w H;refine Zc 2 Z ?_;replace H:=H.f3.d.f1.d.f2.f5.f4.f3.f5.f5;refine gf ?_;intro _ hF;refine ⟨⟨es++[(⟨q,ims⟩,f)],v5,(a+(1+(ims.length:Int)))%s.len,q+1,u+(1+(ims.length:Int)),a0⟩,(hF.all Z),⟨H,?_⟩,?_⟩
  ·dsimp only
   have b9:=ZJ (a+(1+(ims.length:Int))) (by omega:s.len≠0);have b7:=Zs (a+(1+(ims.length:Int))) (by omega:0<s.len);refine ⟨?_,?_,by omega,by omega,by omega,by simp;omega⟩
   ·rw[Yj];exact .snoc k U r
   intro e he;rcases Yt.1 he with q|q
   ·exact (i e q).le a4
   rw[YA.1 q];exact y
  (dsimp only;omega)
 refine Zc 2 Z (gx (Zc 12 Z (Zr Z ?_)));obtain ⟨x,⟨l,g⟩,H⟩:=BW H (λh q=>q.rd);exact ⟨_,⟨p,es.map Prod.fst,a,q,u,v,x,Z,k,by first|exact .inl U|exact .inr a3,⟨es,rfl,by simpa using g,i.le l⟩,rfl⟩,H.perm 5 [0,1,4,2] rfl rfl⟩
set_option maxHeartbeats 1000000 in
theorem Rt (pl pd o:Nat) (s:Sup) (l sq u:Int) (br y:Bool) (v:Value) (ims:List Img) (A:Ai) (hA:∀h,A h->imgsH v ims h) (b1:y=decide (s.epoch<4294967296)) (c3:0<=s.epoch/\s.epoch<=1099511627776) (d2:0<=sq/\sq<=2199023255552) (c2:1<=ims.length/\ims.length<=40) (c8:0<=s.len/\s.len<=1099511627776) (hu:0<=u/\u<=2199023255552):An 208 [V pl,v] [lgB pl pd o s l sq u br y,tblA o,A] (λv G=>(¬DK ims/\v=.tuple #[.slice none 0 0,Aa 1]/\G=[lgB pl pd o s l sq u br y,tblA o,A])\/(DK ims/\¬(1+(ims.length:Int)<=(if br then 0 else s.len-u)/\y=true/\sq<1099511627776)/\v=.tuple #[.slice none 0 0,Aa 15]/\G=[lgB pl pd o s l sq u br y,tblA o,A])\/(DK ims/\(1+(ims.length:Int)<=(if br then 0 else s.len-u)/\y=true/\sq<1099511627776)/\∃v',v=.tuple #[v',Aa 0]/\G=[grow 5 1 v' ((1+ims.length)*256) ((A8 s.epoch sq ims).flatten.map u8),lgB pl pd o s l sq u br y,tblA o,A])):=by
 intro z R w H;obtain ⟨ao,ic,rfl⟩:=H.sy 2 (λq=>(hA _ q).slc);obtain ⟨es,a6,g⟩:=Sep.imA 2 H Z hA;clear H;have c6:es.length=ims.length:=by rw[<-a6];simp
 have H:=g.l3;refine Af func208 Z ntmps208 Z (Zc 13 Z (AC Z (E3 H Z) ?_));rintro _ w ⟨m1,rfl,H⟩;refine Zc 4 Z ?_;replace H:=H.f1;refine BQ (Sep z (lgB pl pd o s l sq u br y::R)) 12 Z J (A9 H λw g=>?_);have H:=g.l4;refine CC [0,1,2,3,4,5,6,7,8] [2,3,0,0,10,0,0] [] (by exact H.pick 4 [0] Z) Z J Z (Ig 9 Z J J J Z Z Z (AQ Z Z (out:=[Aa s.epoch,Aa sq,.slice none 0 0,u32 0]) J) (H.pick 4 [0] Z) (Cg [10] J O (Az (Ck Z Z Z Z (BN (P:=prog) H Z (zs:=[Aa 0,Aa 0,.slice none 0 0,u32 0]) J) ?_))));rintro _ w ⟨b2,rfl,H⟩;refine B3 (H.pick 5 [1] Z) (Cg [11] J O (Az (CA Z Z Z (AD 0 H Z Z Z Z (vs:=[Aa s.epoch,Aa sq,.slice none 0 0,u32 0]) Z (by simp[u8,u32,Value.oneCell']) J O (out:=[Aa s.epoch,Aa sq,.slice none 0 0,u32 0]) Z) ?_)));rintro w H;refine B3 (H.pick 5 [1] Z) (a_done J (gn (Zc 8 Z ?_)));replace H:=(H.nilg 3 1).l6;refine Zc 2 Z ?_;refine Ap (σ:=Nat×Value) (λ⟨i,p⟩=>[(32,Aa (i:Int)),(0,V pl),(1,.slice ao ims.length ic),(6,.slice none 0 0),(7,.map (some m1)),(8,V b2),(30,.slice ao ims.length ic),(31,Aa (ims.length:Int))])
   (λ⟨i,p⟩ w=>Sep z (grow 3 1 p i (EB (ims.take i))::blk b2 [Aa s.epoch,Aa sq,p,u32 0] 233::lgB pl pd o s l sq u br y::AG m1 (seen ((ims.take i).map Img.num)) (((ims.take i).map Img.num).length)::tblA o::imA A (.slice ao ims.length ic) es::R) w/\(i<=ims.length/\(∀(j:Nat) (m:Img),j<i->ims[j]?=some m->m.Ok)/\((ims.take i).map Img.num).Nodup)) (λ⟨i,p⟩=>ims.length-i) ⟨0,.slice none 0 0⟩
   fr_z ⟨H,by omega,λj m h=>by omega,by simp⟩ ?_
 clear H;rintro ⟨i,p⟩ w ⟨g,hI⟩;dsimp only at hI g ⊢;have H:=g.l6;have b8:=H.sy 0 (·.slc);obtain ⟨c9,a5,a4⟩:=hI;refine Z0 6 [0] Z (Ag Z (λh1=>?_) (λh1=>?_))
 ·have b7:i<ims.length:=by omega
  refine Zc 6 Z ?_;obtain ⟨⟨f,bv⟩,he⟩:∃e:ImE,es[i]?=some e:=⟨_,XW U⟩;have a1:ims[i]?=some f:=by rw[<-a6];simp[he]
  have a8:Slc bv f.body.length:=H.sy 5 (λq=>(q.2.2 _ (XX he)).slc);have a3:=imA.at 5 H Z he;have a7:=a3 0 (Aa f.num) Z;refine Ad Z (Ar Z (z:=3) (j:=i) (r:=i*3) J Z Z Z U a7 U) (Ad Z (B8 Z Z (vs:=[Aa f.num,Aa f.kind,bv]) J O (AA a3)) (Za 0 [] H Z ?_));intro b3 w H;refine AV Z Z (AD 0 H Z Z Z Z (vs:=[Aa f.num,Aa f.kind,bv]) Z (Al Z (Al Z (Al a8.one AL))) J O (out:=[Aa f.num,Aa f.kind,bv]) Z) ?_;rintro w H;refine Zc 4 Z ?_;replace H:=H.f3;refine BQ (Sep z (lgB pl pd o s l sq u br y::blk b3 [Aa f.num,Aa f.kind,bv] 118::R)) 11 Z J (A9 H λw g=>?_);have H:=g.l7;refine CC [0,1,2,3,4] [1,0,0,1,3] [] (by exact H.pick 7 [0,1] Z) Z J Z (Cg [5] J O (Az (BF Z Z Z Z Z Z (λw=>call133 _ w) (Km _ _ _ _ f.body _ (λh q=>q.2.2 _ (XX he))) H.f6.f6 Z ?_)));rintro _ w _ (⟨a2,rfl,rfl⟩|⟨a0,pw,rfl,rfl⟩) g
  ·have H:Sep z (tblA o::imA A (.slice ao ims.length ic) es::lgB pl pd o s l sq u br y::blk b3 [Aa f.num,Aa f.kind,bv] 118::grow 3 1 p i (EB (ims.take i))::blk b2 [Aa s.epoch,Aa sq,p,u32 0] 233::AG m1 (seen ((ims.take i).map Img.num)) (((ims.take i).map Img.num).length)::R) w:=g
   clear g;refine B3 (H.pick 7 [2,3] Z) (CC [6,7,8,9,10] [] [] (by exact H.pick 7 [2,3] Z) Z J Z (a_done J (gn (Z0 21 [3] Z (Zr Z ?_)))));replace H:=(H.mono 1 (B:=A) Z (λh q=>q.1)).l7;exact ⟨_,.inl ⟨by rintro ⟨q1,q2⟩;first|exact a2 (q1 f (XX a1))|(exact I5 q2 a1 ‹_›),rfl,rfl⟩,H.perm 7 [2,0,1] rfl rfl⟩
  have H:Sep z (blk pw (AW (sect ([80,80,65,71]++Ae 1 f.kind++Ae 4 f.num++[0,0,0]++f.body)) 252) 204::tblA o::imA A (.slice ao ims.length ic) es::lgB pl pd o s l sq u br y::blk b3 [Aa f.num,Aa f.kind,bv] 118::grow 3 1 p i (EB (ims.take i))::blk b2 [Aa s.epoch,Aa sq,p,u32 0] 233::AG m1 (seen ((ims.take i).map Img.num)) (((ims.take i).map Img.num).length)::R) w:=g;clear g;refine B3 (H.pick 8 [3,4] Z) (CC [6,7,8,9,10] [] [] (by exact H.pick 8 [3,4] Z) Z J Z (a_done J (gn (Z2 9 [4,0,4,0] H Z (Ad Z (FA (e:=4) (zv:=.bool false) Z J J Z Z (AA (H.bk 7 Z))) (k_updA 51 (v:=.bool (decide (f.num∈(ims.take i).map Img.num))) Z (Q4 _ _) (Zc 3 Z (Ag Z (λh2=>?_) (λh2=>?_)))))))))
  ·refine Zc 7 Z (Zr Z ?_);replace H:=(H.mono 2 (B:=A) Z (λh q=>q.1)).l8
   exact ⟨_,.inl ⟨by rintro ⟨q1,q2⟩;first|exact a2 (q1 f (XX a1))|(exact I5 q2 a1 ‹_›),rfl,rfl⟩,H.perm 8 [3,1,2] rfl rfl⟩
  refine Z2 7 [0,4,0] H Z (AV Z Z (CW 7 (e:=4) H Z Z J Z Z Z) ?_);rintro w H;refine Zc 2 Z ?_;have b5:(ims.take (i+1)).map Img.num=(ims.take i).map Img.num++[f.num]:=by rw[Ye,a1];simp
  have b0:=Q5 (ns:=(ims.take i).map Img.num) (k:=f.num) ‹_›;rw[b0.1,b0.2,<-b5] at H;have H:Sep z (blk pw (AW (sect ([80,80,65,71]++Ae 1 f.kind++Ae 4 f.num++[0,0,0]++f.body)) 252) 204::tblA o::imA A (.slice ao ims.length ic) es::lgB pl pd o s l sq u br y::blk b3 [Aa f.num,Aa f.kind,bv] 118::grow 3 1 p i (EB (ims.take i))::blk b2 [Aa s.epoch,Aa sq,p,u32 0] 233::AG m1 (seen ((ims.take (i+1)).map Img.num)) (((ims.take (i+1)).map Img.num).length)::R) w:=H;refine Z2 5 [2,6,0,0,4,0] H Z (AC Z (AI H Z J BK Z (by decide) (by decide) (out:=[Aa f.num]) J) ?_);rintro _ w ⟨b4,rfl,H⟩;refine AC Z (AJ 6 H Z Z J BK Z Z (H.rv 0 (·.rd U U O Z)) (by simp[Value.oneCell']) U) ?_;rintro v5 w g;have g:Sep z (blk b4 [Aa f.num] 3::blk pw (AW (sect ([80,80,65,71]++Ae 1 f.kind++Ae 4 f.num++[0,0,0]++f.body)) 252) 204::tblA o::imA A (.slice ao ims.length ic) es::lgB pl pd o s l sq u br y::blk b3 [Aa f.num,Aa f.kind,bv] 118::grow 3 1 v5 (i+1) (EB (ims.take i)++[Aa f.num])::blk b2 [Aa s.epoch,Aa sq,p,u32 0] 233::AG m1 (seen ((ims.take (i+1)).map Img.num)) (((ims.take (i+1)).map Img.num).length)::R) w:=g;have c0:(EB (ims.take i)++[Aa f.num]:List Value)=EB (ims.take (i+1)):=Q6 a1;rw[c0] at g;have H:=g.l9;have a9:=H.sy 6 (·.slc);refine Z0 1 [2] Z (AV Z Z (Jy 7 H Z Z Z Z a9.cells a9.one J) ?_);rintro w H;refine Z1 7 [] [(i:Int)+1] Z U ?_;replace H:=H.f5.d.f1.d.d.f1.f1.f5.f3.f5.f5;refine gf ?_;intro _ hF;refine ⟨⟨i+1,v5⟩,hF.cz,⟨H,?_⟩,?_⟩
  ·dsimp only
   refine ⟨by omega,λj m hj h=>?_,?_⟩
   ·rcases Yg j i with q|q
    ·exact a5 j m q h
    obtain rfl:j=i:=by omega
    rw[a1] at h;cases h;exact a0
   rw[b5,Y4];exact ⟨a4,by simp,λa ha b hb=>by simp at hb;subst hb;exact λe=>absurd (e▸ha) ‹_›⟩
  (dsimp only;omega)
 obtain rfl:i=ims.length:=by omega
 refine Zc 2 Z (gx (Zc 4 Z ?_));rw[YS] at H;rw[YS] at a4;have H:Sep z (grow 3 1 p ims.length (EB ims)::blk b2 [Aa s.epoch,Aa sq,p,u32 0] 233::lgB pl pd o s l sq u br y::AG m1 (seen (ims.map Img.num)) ((ims.map Img.num).length)::tblA o::imA A (.slice ao ims.length ic) es::R) w:=H;have t:∀m∈ims,m.Ok:=λm hm=>by obtain ⟨j,hj,rfl⟩:=Zw.1 hm;exact a5 j _ hj (XW hj)
 refine Z1 5 [] [1+(ims.length:Int)] Z U (Ah Z (call209 _) (Pn _ _ _ _ _ _ _ _ _ U) H.f2 ?_);intro w H;refine Z0 2 [0] Z (Am 70 Z (λh3=>?_) (λh3=>?_))
 ·refine Zc 23 Z (Zr Z ?_);replace H:=(H.mono 5 (B:=A) Z (λh q=>q.1)).l6
  exact ⟨_,.inr (.inl ⟨⟨t,a4⟩,by rintro ⟨q1,q2,q3⟩;first|omega|simp_all,rfl,rfl⟩),H.perm 6 [0,4,5] Z Z⟩
 refine Z2 7 [13,0,0] H Z (K0 77 Z (λh4=>?_) (λh4=>?_))
 ·refine Zc 16 Z (Zr Z ?_);replace H:=(H.mono 5 (B:=A) Z (λh q=>q.1)).l6
  exact ⟨_,.inr (.inl ⟨⟨t,a4⟩,by rintro ⟨q1,q2,q3⟩;first|omega|simp_all,rfl,rfl⟩),H.perm 6 [0,4,5] Z Z⟩
 have c1:y=true:=by simpa using h4
 have c5:s.epoch<4294967296:=by rw[c1] at b1;simpa using b1.symm
 refine Z2 8 [10,0,0,0] H Z (Ag Z (λh5=>?_) (λh5=>?_))
 ·refine Zc 7 Z (Zr Z ?_);replace H:=(H.mono 5 (B:=A) Z (λh q=>q.1)).l6
  exact ⟨_,.inr (.inl ⟨⟨t,a4⟩,by rintro ⟨q1,q2,q3⟩;first|omega|simp_all,rfl,rfl⟩),H.perm 6 [0,4,5] Z Z⟩
 refine Zc 9 Z ?_;replace H:=(H.nilg 5 1).l7;refine Zc 2 Z ?_;refine Ap (σ:=Nat×Value) (λ⟨i,v2⟩=>[(86,Aa (i:Int)),(6,v2),(0,V pl),(8,V b2),(84,.slice ao ims.length ic),(85,Aa (ims.length:Int))])
   (λ⟨i,v2⟩ w=>Sep z (grow 5 1 v2 (i*256) ((AE s.epoch sq (ims.take i)).map u8)::lgB pl pd o s l sq u br y::grow 3 1 p ims.length (EB ims)::blk b2 [Aa s.epoch,Aa sq,p,u32 0] 233::AG m1 (seen (ims.map Img.num)) ((ims.map Img.num).length)::tblA o::imA A (.slice ao ims.length ic) es::R) w/\(i<=ims.length)) (λ⟨i,v2⟩=>ims.length-i) ⟨0,.slice none 0 0⟩
   (λ_ hF=>(hF.co Z (by go_num) hF.cz)) ⟨H,by omega⟩ ?_
 clear H;rintro ⟨i,v2⟩ w ⟨g,hI⟩;dsimp only at hI g ⊢;have H:=g.l7;have d0:=H.sy 0 (·.slc);have c4:=hI;clear hI;refine Z0 6 [0] Z (Ag Z (λh6=>?_) (λh6=>?_))
 ·have b7:i<ims.length:=by omega
  refine Zc 6 Z ?_;obtain ⟨⟨f,bv⟩,he⟩:∃e:ImE,es[i]?=some e:=⟨_,XW U⟩;have a1:ims[i]?=some f:=by rw[<-a6];simp[he]
  have a8:Slc bv f.body.length:=H.sy 6 (λq=>(q.2.2 _ (XX he)).slc);have a3:=imA.at 6 H Z he;have a7:=a3 0 (Aa f.num) Z;refine Ad Z (Ar Z (z:=3) (j:=i) (r:=i*3) J Z Z Z U a7 U) (Ad Z (B8 Z Z (vs:=[Aa f.num,Aa f.kind,bv]) J O (AA a3)) (Za 0 [] H Z ?_));intro b6 w H;refine AV Z Z (AD 0 H Z Z Z Z (vs:=[Aa f.num,Aa f.kind,bv]) Z (Al Z (Al Z (Al a8.one AL))) J O (out:=[Aa f.num,Aa f.kind,bv]) Z) ?_;rintro w H;refine Zc 3 Z ?_;replace H:=H.f4.f3;refine BQ (Sep z (lgB pl pd o s l sq u br y::blk b2 [Aa s.epoch,Aa sq,p,u32 0] 233::blk b6 [Aa f.num,Aa f.kind,bv] 118::R)) 15 Z J (A9 H λw g=>?_);have H:=g.l8;refine CC [0,1,2,3,4,5,6,7,8] [1,0,0,0,1,0,1,1,0,2,3] [] (by exact H.pick 8 [0,1,2] Z) Z J Z (Cg [9] J O (Az (BF Z Z Z Z Z Z (λw=>call231 _ w) (NV _ _ _ _ _ _ f.body _ (λh q=>q.2.2 _ (XX he))) H.f7.f7 Z ?_)));rintro _ w _ (⟨a2,rfl,rfl⟩|⟨a0,pw,rfl,rfl⟩) g
  ·exact absurd ⟨by omega,by omega,a5 i f U a1⟩ a2
  have H:Sep z (blk pw (AW (sect (A6 s.epoch sq f)) 252) 204::tblA o::imA A (.slice ao ims.length ic) es::lgB pl pd o s l sq u br y::blk b2 [Aa s.epoch,Aa sq,p,u32 0] 233::blk b6 [Aa f.num,Aa f.kind,bv] 118::grow 5 1 v2 (i*256) ((AE s.epoch sq (ims.take i)).map u8)::grow 3 1 p ims.length (EB ims)::AG m1 (seen (ims.map Img.num)) ((ims.map Img.num).length)::R) w:=g;clear g;refine B3 (H.pick 9 [3,4,5] Z) (CC [10,11,12,13,14] [] [] (by exact H.pick 9 [3,4,5] Z) Z J Z (a_done J (gn (Z0 14 [4] Z (AC Z (AJ 6 H Z Z J A2 Z Z (H.rv 0 (λq=>Hc (lo:=0) (n:=256) (c:=256) (ys:=sect (A6 s.epoch sq f)) q (sect_len (YY (CJ a0.2.2.2.2))) U U U (by rw[Ym];exact X0 (YY (sect_len (YY (CJ a0.2.2.2.2))))))) (by simp[u8,Value.oneCell']) U) ?_)))));rintro v7 w g;have g:Sep z (blk pw (AW (sect (A6 s.epoch sq f)) 252) 204::tblA o::imA A (.slice ao ims.length ic) es::lgB pl pd o s l sq u br y::blk b2 [Aa s.epoch,Aa sq,p,u32 0] 233::blk b6 [Aa f.num,Aa f.kind,bv] 118::grow 5 1 v7 ((i*256)+256) ((AE s.epoch sq (ims.take i)).map u8++(sect (A6 s.epoch sq f)).map u8)::grow 3 1 p ims.length (EB ims)::AG m1 (seen (ims.map Img.num)) ((ims.map Img.num).length)::R) w:=g;have b9:((AE s.epoch sq (ims.take i)).map u8++(sect (A6 s.epoch sq f)).map u8:List Value)=(AE s.epoch sq (ims.take (i+1))).map u8:=(by rw[<-Yj,E5 a1]);rw[b9] at g;rw[show ((i*256)+256:Nat)=(i+1)*256 from by omega] at g;have H:=g.l9;refine Z1 8 [] [(i:Int)+1] Z U ?_;replace H:=H.f5.d.d.f1.f1.f6.f4.f6.f5.f6;refine gf ?_;intro _ hF;refine ⟨⟨i+1,v7⟩,hF.cz,⟨H,?_⟩,?_⟩
  ·dsimp only;omega
  (dsimp only;omega)
 obtain rfl:i=ims.length:=by omega
 refine Zc 2 Z (gx (Zc 3 Z ?_));rw[YS] at H;have H:Sep z (grow 5 1 v2 (ims.length*256) ((AE s.epoch sq ims).map u8)::lgB pl pd o s l sq u br y::grow 3 1 p ims.length (EB ims)::blk b2 [Aa s.epoch,Aa sq,p,u32 0] 233::AG m1 (seen (ims.map Img.num)) ((ims.map Img.num).length)::tblA o::imA A (.slice ao ims.length ic) es::R) w:=H;refine Z2 6 [1,1,0] H Z (Ah Z (call213 _) (Ta _ _ _ (AE s.epoch sq ims) (DB t) _ (λh q=>q.rd)) H.f5 ?_);intro w H;refine Z4 5 [3,4] H Z ?_;intro w H;replace H:=H.f4.f3;refine BQ (Sep z (lgB pl pd o s l sq u br y::blk b2 [Aa s.epoch,Aa sq,p,u32 (Av (AE s.epoch sq ims))] 233::R)) 11 Z J (A9 H λw g=>?_);have H:=g.l7;refine CC [0,1,2,3,4] [1,0,0,1,4] [] (by exact H.pick 7 [0,1] Z) Z J Z (Cg [5] J O (Az (BF Z Z Z Z Z Z (λw=>call232 _ w) (Pl _ _ _ _ _ (ims.map Img.num) _ (λh q=>by rw[X9,<-TR];exact q.rd)) H.f4.f3 Z ?_)));rintro _ w _ (⟨a2,rfl,rfl⟩|⟨a0,pw,rfl,rfl⟩) g
 ·exact absurd ⟨by omega,by omega,by simp;omega,λx hx=>by obtain ⟨m,hm,rfl⟩:=X6.1 hx;exact (t m hm).1⟩ a2
 have H:Sep z (blk pw (AW (sect (Bt s.epoch sq ims)) ((26+4*(ims.map Img.num).length:Nat):Int)) 204::tblA o::grow 3 1 p ims.length (EB ims)::lgB pl pd o s l sq u br y::blk b2 [Aa s.epoch,Aa sq,p,u32 (Av (AE s.epoch sq ims))] 233::grow 5 1 v2 (ims.length*256) ((AE s.epoch sq ims).map u8)::AG m1 (seen (ims.map Img.num)) ((ims.map Img.num).length)::imA A (.slice ao ims.length ic) es::R) w:=g;clear g;refine B3 (H.pick 8 [3,4] Z) (CC [6,7,8,9,10] [] [] (by exact H.pick 8 [3,4] Z) Z J Z (a_done J (gn (Zc 5 Z (AC Z (Ki H Z J A2 Z Z (H.rv 0 (λq=>Hc (lo:=0) (n:=256) (c:=256) (ys:=sect (Bt s.epoch sq ims)) q (sect_len (by rw[hdL_len];omega)) U U U (by rw[Ym];exact X0 (YY (sect_len (by rw[hdL_len];omega)))))) (H.rv 5 (·.rd)) U (by simp[u8,Value.oneCell']) U) ?_)))));rintro v8 w g;have g:Sep z (grow 5 1 v8 (256+(ims.length*256)) ((sect (Bt s.epoch sq ims)).map u8++(AE s.epoch sq ims).map u8)::blk pw (AW (sect (Bt s.epoch sq ims)) ((26+4*(ims.map Img.num).length:Nat):Int)) 204::tblA o::grow 3 1 p ims.length (EB ims)::lgB pl pd o s l sq u br y::blk b2 [Aa s.epoch,Aa sq,p,u32 (Av (AE s.epoch sq ims))] 233::grow 5 1 v2 (ims.length*256) ((AE s.epoch sq ims).map u8)::AG m1 (seen (ims.map Img.num)) ((ims.map Img.num).length)::imA A (.slice ao ims.length ic) es::R) w:=g;rw[show ((sect (Bt s.epoch sq ims)).map u8++(AE s.epoch sq ims).map u8:List Value)=(A8 s.epoch sq ims).flatten.map u8 from (by rw[<-Yj,O4])] at g;rw[show (256+(ims.length*256):Nat)=(1+ims.length)*256 from by omega] at g;have H:=g.l9;refine Zc 6 Z (Zr Z ?_);replace H:=(H.mono 8 (B:=A) Z (λh q=>q.1)).l9;exact ⟨_,.inr (.inr ⟨⟨t,a4⟩,⟨by omega,by first|assumption|simp_all,by omega⟩,v8,rfl,rfl⟩),H.perm 9 [0,4,2,8] Z Z⟩
theorem Ru(bs f b c m a:Nat)(u:m*256<=a)(t:a<=9223372036854775807)(k:m<=1099511627776):It prog 218 [V bs,V f] [blk bs [.slice (some ⟨b,c,none⟩) (m*256) a] 38,blk f [Aa 256] 3] (((List.range m).map λi=>Value.slice (some ⟨b,c+i*256,none⟩) 256 256).map λv=>[v]):=by
 intro z l J_ o w d;have H:=d.l2;refine Lj (args:=[.func (.yield l) #[] #[],V bs,V f]) func218 Z Z 31 ntmps218 Z ?_;refine CR ?_;refine Cb ?_;refine s_do Z Z Z (Bq Z Z) ?_;refine AN ?_;refine ET ?_;refine ML (σ:=Nat) (λi=>[(4,Aa ((i*256:Nat):Int)),(0,.func (.yield l) #[] #[]),(1,V bs),(2,V f)])
  (λi w=>Sep z (blk bs [.slice (some ⟨b,c,none⟩) (m*256) a] 38::blk f [Aa 256] 3::J_ i) w/\(i<=m)) (λi=>m-i) 0
  (λ_ e=>(e.co Z (congrArg Aa O) (e.all Z))) ⟨H,Yi _⟩ ?_
 clear H;rintro i w ⟨d,j⟩;have H:=d.l2;have s:=j;clear j;refine CR ?_;refine CR ?_;refine Cb ?_;refine s_do Z Z Z (C7 Z Z) ?_;refine s_do Z Z Z (AZ Z Z J (AA (H.cel 0 Z 0 Z))) ?_;refine s_do Z Z Z (D4 Z (z:=1) J Z) ?_;refine s_do Z Z Z (NC Z Z Z) ?_;refine AN ?_;refine VC Z (λn=>?_) (λn=>?_)
 ·-- yes:((i*256:Nat):Int)<((m*256:Nat):Int)
  have h:i<m:=by omega
  refine HC ?_;refine CR ?_;refine ET ?_;refine CR ?_;refine O9 (Sep z _) J J H.drew ?_;refine Be Z Z Z (AZ Z Z J (λ_ g=>g.cel 1 Z 0 Z)) ?_;refine Be Z Z Z (AZ Z Z J (λ_ g=>g.cel 0 Z 0 Z)) ?_;refine Be Z Z Z (C7 Z Z) ?_;refine Be Z Z Z (Ba Z (z:=1) (p:=(i*256)) (q:=m*256) (o':=c+i*256) (l':=(m*256-i*256)) (c':=(a-i*256)) J Z (.inr ⟨_,_,_,Z,Z,U⟩) (.inl ⟨Z,Z⟩) U U U U U U) ?_;refine Be Z Z Z (D4 Z (z:=1) J Z) ?_;refine Be Z Z Z (NE Z Z Z) ?_;refine k_updA 18 (v:=Aa 256) Z (congrArg Aa U) ?_;refine Be Z Z Z (Bq Z Z) ?_;refine Bn (λw d=>?_);have H:=d.l2;refine CR ?_;refine Li ?_;refine EC Z Z Z (C7 Z Z) ?_;refine EC Z Z Z (AZ Z Z J (AA (H.cel 0 Z 0 Z))) ?_;refine EC Z Z Z (C7 Z Z) ?_;refine EC Z Z Z (C7 Z Z) ?_;refine EC Z Z Z (C7 Z Z) ?_;refine EC Z Z Z (Cm Z Z Z (r:=(((i+1)*256:Nat):Int)) U U) ?_;refine EC Z Z Z (C7 Z Z) ?_;refine EC Z Z Z (C7 Z Z) ?_;refine EC Z Z Z (Cm Z Z Z (r:=(((i+1)*256:Nat):Int)) U U) ?_;refine EC Z Z Z (QT Z (sz:=1) (p:=(i*256)) (q:=((i+1)*256)) (o':=c+i*256) (l':=256) J Z Z Z Z U U U U U U U) ?_;refine MN Z Z Z Z Z Z (o i _ (by simp[List.getElem?_range h]) _ H) ?_;rintro _ w ⟨rfl,d⟩;refine ⟨_,Z,?_⟩;have H:=d.l2;refine EC Z Z Z (KH Z Z) ?_;refine S7 ?_;refine Is Z ?_;refine HC ?_;refine Cb ?_;refine s_do Z Z Z (C7 Z Z) ?_;refine s_do Z Z Z (AZ Z Z J (AA (H.cel 1 Z 0 Z))) ?_;refine s_do Z Z Z (Cm Z Z Z (r:=(((i+1)*256:Nat):Int)) U U) ?_;refine s_do Z Z Z (Bq Z Z) ?_;refine AN ?_;intro _ e;refine ⟨(i+1),(e.all Z),⟨H,?_⟩,?_⟩
  ·omega
  omega
 -- no:((i*256:Nat):Int)<((m*256:Nat):Int)
 refine MK ?_;refine IS ?_;obtain rfl:i=m:=by omega
 exact λ_ e=>⟨e.defers,by simpa using H⟩
theorem T6(b a n c:Nat):An 181 [.slice (some ⟨b,a,none⟩) n c,Aa 256] [] (λv G=>(∃bs d,v=.func (.func 218) #[] #[V bs,V d]/\G=[blk bs [.slice (some ⟨b,a,none⟩) n c] 38,blk d [Aa 256] 3])):=by
 intro z R w H;refine Af func181 Z ntmps181 Z (Za 2 [] H Z ?_);intro e w H;refine Za 0 [] H Z ?_;intro f w H;refine Z2 15 [0,0,4] H Z (Ad Z (GD Z Z Z) (Zc 4 Z (Zr Z ?_)));exact ⟨_,⟨e,f,Z,Z⟩,H.perm 2 [1,0] Z Z⟩
set_option maxHeartbeats 1000000 in
theorem MT (pd b b9 c:Nat) (D:Dsk) (x:Int) (l:Bool) (ps:List (List UInt8)) (A:Ai) (b6:∀p∈ps,p.length=256) (hm:1<=ps.length/\ps.length<=4096) (b0:∀i,(D.ver i).length<=1099511627776) (hA:∀h,A h->rdH 1 (.slice (some ⟨b,b9,none⟩) (ps.length*256) c) (ps.length*256) (ps.flatten.map u8) h):An 134 [V pd,Aa x,.slice (some ⟨b,b9,none⟩) (ps.length*256) c,.bool l] [diskA pd D,A] (λv G=>(¬(0<=x/\x+ps.length<=(D.n:Int))/\v=Aa 2/\G=[diskA pd D,A])\/((0<=x/\x+ps.length<=(D.n:Int))/\(D.f2=1\/(D.cut=true/\D.left=0))/\v=Aa 11/\G=[diskA pd {D with f2:=AP D.f2},A])\/((0<=x/\x+ps.length<=(D.n:Int))/\(¬D.f2=1/\¬(D.cut=true/\D.left=0))/\v=Aa 0/\G=[diskA pd {Dsk.ws {D with f2:=AP D.f2} l x.toNat ps with left:=max 0 (D.left-1)},A])):=by
 intro z R w j;have H:=j.l2;obtain ⟨bd,m,f0,bs,es,clk,hq,hD,a4,j⟩:=H.disk;clear H;have d2:=hD.n1;have d1:=hD.n2;have d4:=hD.f2;have d3:=hD.left;have c9:=a4.len;have H:=j.l6;refine Pa func134 Z 73 ntmps134 Z (AO (AF (Fa Z Z Z (Fh H Z Z (cs:=[V pd]) Z) ?_)));rintro _ w ⟨b1,rfl,j⟩;have H:=j.l7;refine Fa Z Z Z (Fh H Z Z (cs:=[Aa x]) Z) ?_;rintro _ w ⟨b2,rfl,j⟩;have H:=j.l8;refine Fa Z Z Z (Fh H Z Z (cs:=[.bool l]) Z) ?_;rintro _ w ⟨b3,rfl,j⟩;have H:=j.l9;refine BI 1 Z Z (AN (AO (Fk (AO (AF (BI 1 Z Z (s_do Z Z Z (D4 Z (z:=1) J Z) (BI 2 Z Z (Oy 14 Z (λh1=>?_) (λh1=>?_))))))))))
 ·omega
 refine BI 1 Z Z (s_do Z Z Z (D4 Z (z:=1) J Z) (s_do Z Z Z (My Z Z Z (r:=((ps.length*256:Nat):Int)%256) U U U) (BI 3 Z Z (AN (Fg Z (λh2=>?_) (λh2=>?_))))))
 ·omega
 refine AO (AF (F7 3 [0,1] (A3 (H.blk 2 Z) (A3 (H.blk 1 Z) AU)) Z J Z (s_do Z Z Z (D4 Z (z:=1) J Z) (s_do Z Z Z (Mx Z Z Z (r:=(ps.length:Int)) U U U U) (E2 Z Z Z Z Z (λw=>call116 _ w) (MQ _ _ _ _ _ _ _ _ _ _ _ _ U) H.f3 Z ?_)))));rintro _ w _ ⟨rfl,rfl⟩ j;have H:=j.l9;refine s_do Z Z Z (AM Z Z) (BI 1 Z Z (AN (Fg Z (λh3=>?_) (λh3=>?_))))
 ·refine AO (AF (BI 1 Z Z (AN (DY (Lk Z [Aa 2] ⟨Z,trivial⟩ (v:=Aa 2) Z ?_)))));replace H:=H.f7.f7.f7.f7.f4;have j:=Sep.toDisk (D:=D) (pd:=pd) (bd:=bd) (m:=m) (f0:=f0) (bs:=bs) (es:=es) (clk:=clk) (hq:=hq) (Γ:=blk b3 [.bool l] 4::blk b2 [Aa x] 3::blk b1 [V pd] 27::A::R) H hD a4
  have H:=j.l5;exact ⟨[diskA pd D,A],.inl ⟨by omega,Z,Z⟩,H.perm 5 [0,4] Z Z⟩
 obtain ⟨k,rfl⟩:∃k:Nat,x=(k:Int):=⟨x.toNat,by omega⟩;have hk:k+ps.length<=D.n:=by omega
 refine AO (AO (AF (F7 1 [0] (A3 (H.blk 3 Z) AU) Z J Z (E2 Z Z Z Z Z (λw=>call117 _ w) (Rn _ _ _ _ _ _ _ _ _ _ U) H Z ?_))));rintro _ w _ ⟨rfl,rfl⟩ j;have H:=j.l9;refine BI 1 Z Z (AN (Fg Z (λh4=>?_) (λh4=>?_)))
 ·refine C6 (Fg Z (λh5=>?_) (λh5=>?_))
  ·refine AO (AF (BI 1 Z Z (AN (DY (Lk Z [Aa 11] ⟨Z,trivial⟩ (v:=Aa 11) Z ?_)))));replace H:=H.f7.f7.f7.f7.f4;have j:=Sep.toDisk (D:= {D with f2:=AP D.f2}) (pd:=pd) (bd:=bd) (m:=m) (f0:=f0) (bs:=bs) (es:=es) (clk:=clk) (hq:=hq) (Γ:=blk b3 [.bool l] 4::blk b2 [Aa (k:Int)] 3::blk b1 [V pd] 27::A::R) H (hD.f hD.f1 (El hD.f2) hD.f3 hD.left) (a4.f _ _ _ _ _)
   have H:=j.l5;exact ⟨[diskA pd {D with f2:=AP D.f2},A],.inr (.inl ⟨by omega,by simp_all,Z,Z⟩),H.perm 5 [0,4] Z Z⟩
  exact absurd h4 h5
 refine AF (F7 1 [0] (A3 (H.blk 3 Z) AU) Z J Z (E2 Z Z Z Z Z (λw=>call124 _ w) (Ph _ _ _ _ _ _ _ _ _ _) H Z ?_));rintro _ w _ ⟨rfl,rfl⟩ j;have H:=j.l9;refine BI 1 Z Z (AN (Ou Z (λh6=>?_) (λh6=>?_)))
 ·refine AO (AF (BI 1 Z Z (AN (DY (Lk Z [Aa 11] ⟨Z,trivial⟩ (v:=Aa 11) Z ?_)))));replace H:=H.f7.f7.f7.f7.f4;have j:=Sep.toDisk (D:= {D with f2:=AP D.f2}) (pd:=pd) (bd:=bd) (m:=m) (f0:=f0) (bs:=bs) (es:=es) (clk:=clk) (hq:=hq) (Γ:=blk b3 [.bool l] 4::blk b2 [Aa (k:Int)] 3::blk b1 [V pd] 27::A::R) H (hD.f hD.f1 (El hD.f2) hD.f3 hD.left) (a4.f _ _ _ _ _)
  have H:=j.l5;exact ⟨[diskA pd {D with f2:=AP D.f2},A],.inr (.inl ⟨by omega,by simp_all,Z,Z⟩),H.perm 5 [0,4] Z Z⟩
 refine C6 (AO (AO (AF (BI 1 Z Z (E2 Z Z Z Z Z (λw=>call118 _ w) (HG _ _ (ps.length*256) _ ps.flatten _ (hA) U) H.f8 Z ?_)))));rintro _ w _ ⟨g,o,rest,rfl,⟨cg,cc,cl⟩,rfl⟩ j;have H:=j.l10;refine E2 Z Z Z Z Z (λw=>call181 _ w) (T6 _ _ _ _) H Z ?_;rintro _ w _ ⟨s,t,rfl,rfl⟩ j;have H:=j.l12;refine AN (Fk ?_);replace H:=H.f2.f10;obtain ⟨a0,⟨c2,c6⟩,j⟩:=QU H;clear H;have H:=j.l11;replace H:=H.f10.f1.f10.f10.f7;have j:=Sep.toDiskQ (D:= {D with f2:=AP D.f2}) (pd:=pd) (bd:=bd) (m:=m) (f0:=f0) (bs:=bs) (es:=es) (clk:=clk) (hq:=a0) (Γ:=blk s [.slice (some ⟨g,0,none⟩) (ps.length*256) o] 38::blk t [Aa 256] 3::A::blk b3 [.bool l] 4::blk b2 [Aa (k:Int)] 3::blk b1 [V pd] 27::R) H (hD.f hD.f1 (El hD.f2) hD.f3 hD.left) ((a4.f _ _ _ _ _).le c2);have H:=j.l7;replace H:=H.f3.f1.f4.f5.f6.f6.f6;have j:Sep z ((blk b1 [V pd] 27::blk b2 [Aa ((k+0:Nat):Int)] 3::blk b3 [.bool l] 4::diskQ pd (Dsk.ws {D with f2:=AP D.f2} l k (ps.take 0)) a0::A::R)++[blk s [.slice (some ⟨g,0,none⟩) (ps.length*256) o] 38,blk t [Aa 256] 3]) w:=Sep.swap (As:=[blk s [.slice (some ⟨g,0,none⟩) (ps.length*256) o] 38,blk t [Aa 256] 3]) (Bs:=blk b1 [V pd] 27::blk b2 [Aa ((k+0:Nat):Int)] 3::blk b3 [.bool l] 4::diskQ pd (Dsk.ws {D with f2:=AP D.f2} l k (ps.take 0)) a0::A::R) (by simpa [Dsk.ws] using H);clear H;have a8:=λi=>Dsk.ws_n l (ps.take i) {D with f2:=AP D.f2} k;have a9:=λi=>Dsk.ws_f l (ps.take i) {D with f2:=AP D.f2} k;refine TX (λi=>blk b1 [V pd] 27::blk b2 [Aa ((k+i:Nat):Int)] 3::blk b3 [.bool l] 4::diskQ pd (Dsk.ws {D with f2:=AP D.f2} l k (ps.take i)) a0::A::R) Z (λu w=>call218 u w) Z (Ru s t g 0 ps.length o U U U) j ?_ ?_
 ·rintro ro i v hv w;obtain ⟨hi,rfl⟩:i<ps.length/\v=.slice (some ⟨g,0+i*256,none⟩) 256 256:=by
    have hl:=(XV.1 hv).1;simp at hl;rw[Yb,List.getElem?_range hl] at hv;simp at hv;exact ⟨hl,by rw[<-hv,Ze]⟩
  obtain ⟨p,hp⟩:∃p,ps[i]?=some p:=⟨_,XW hi⟩;have y:=b6 p (XX hp);have b8:=QV c6 b6 hp;refine Cb (BI 1 Z Z (AN ?_));refine λa hF=>⟨Z,λF w j=>?_⟩;revert a hF;have H:=j.l5;have j:=H.pick 4 [3,0,1,2] Z;have H:Sep z (diskQ pd (Dsk.ws {D with f2:=AP D.f2} l k (ps.take i)) a0::blk b1 [V pd] 27::blk b2 [Aa ((k+i:Nat):Int)] 3::blk b3 [.bool l] 4::A::(R++([blk s [.slice (some ⟨g,0,none⟩) (ps.length*256) o] 38,blk t [Aa 256] 3]++F))) w:=j;clear j;obtain ⟨bd,m,f0,bs,es,clk,a2,a1,j⟩:=H.diskQ;clear H;have H:=j.l9;have b5:=a8 i;have b7:k+i<(Dsk.ws {D with f2:=AP D.f2} l k (ps.take i)).n:=by rw[b5];show k+i<D.n;omega
  have d8:(Dsk.ws {D with f2:=AP D.f2} l k (ps.take i)).n=D.n:=b5;refine ET (CR (CR (Cb (F7 1 [0] (A3 (H.blk 7 Z) AU) Z J Z (AN (JH Z (λh7=>?_) (λh7=>?_)))))))
  ·subst h7;refine CR (Cb (F7 2 [0,1] (A3 (H.blk 5 Z) (A3 (H.blk 6 Z) AU)) Z J Z (E2 Z Z Z Z Z (λw=>call72 _ w) (S9 _ _ _ _ _ _ _ _ _ _ (k+i) U U) H Z ?_)));rintro _ w _ ⟨rfl,rfl⟩ j;have H:=j.l9;refine BI 1 Z Z (Fa Z Z Z (G7 1 H Z Z J Z Z (m:=256) (news:=(p.map u8)) (.inl (H.rv 3 (λq=>b8.le q))) (by simp[u8,Value.oneCell']) (by have:=a1.len;simp;omega) (k:=256) U (out:=((bs.take ((k+i)*256)++p++bs.drop ((k+i)*256+256)).map u8)) (by simp[y,X0])) ?_);rintro _ w ⟨rfl,j⟩;have H:=j.l9;refine AN (Kl (Sep z (blk pd [.slice (some ⟨bd,0,none⟩) ((Dsk.ws {D with f2:=AP D.f2} true k (ps.take i)).n*256) ((Dsk.ws {D with f2:=AP D.f2} true k (ps.take i)).n*256),.map (some m),Aa f0,Aa ((Dsk.ws {D with f2:=AP D.f2} true k (ps.take i)).f1),Aa ((Dsk.ws {D with f2:=AP D.f2} true k (ps.take i)).f2),Aa ((Dsk.ws {D with f2:=AP D.f2} true k (ps.take i)).f3),.bool ((Dsk.ws {D with f2:=AP D.f2} true k (ps.take i)).cut),Aa ((Dsk.ws {D with f2:=AP D.f2} true k (ps.take i)).left)] 106::blk bd ((bs.take ((k+i)*256)++p++bs.drop ((k+i)*256+256)).map u8) 5::AG m (es.map Ent.ie) clk::poolA a0::seps (es.map Ent.row)::blk b1 [V pd] 27::blk b2 [Aa ((k+i:Nat):Int)] 3::blk b3 [.bool true] 4::A::(R++([blk s [.slice (some ⟨g,0,none⟩) (ps.length*256) o] 38,blk t [Aa 256] 3]++F)))) 6 Z J (A9 H λw j=>?_))
   have H:=j.l9;refine BA [0,1,2,3,4] [0,1,1,2] J (λ_ hx=>(A3 (hx.blk 5 Z) (A3 (hx.blk 0 Z) (A3 (hx.blk 6 Z) AU)))) (by exact H.pick 9 [0,1,2,3,4,5,6,7,8] Z) Z J Z Z (Ay [5] J O (Az (WO Z Z Z (K2 2 (e:=107) H Z Z J Z Z) ?_)));rintro _ w ⟨rfl,j⟩;have H:=j.l9;refine Ax (λh=>absurd Z h) (Bi J ?_);obtain ⟨a6,a5,a7,a3⟩:=OV a1 b7 y (bs':=(bs.take ((k+i)*256)++p++bs.drop ((k+i)*256+256))) Z;replace H:=H.f4;have j:=H.mono 0 Z a3;rw[a7] at j;have H:=j.l9;replace H:=H.f4.f4.f4.f4;have e3:Dsk.ws {D with f2:=AP D.f2} true k (ps.take (i+1))=(Dsk.ws {D with f2:=AP D.f2} true k (ps.take i)).w1 true (k+i) p:=by rw[Dsk.ws_take hp]
   have j:=Sep.toDiskQ (D:=(Dsk.ws {D with f2:=AP D.f2} true k (ps.take i)).w1 true (k+i) p) (pd:=pd) (bd:=bd) (m:=m) (f0:=f0) (bs:=(bs.take ((k+i)*256)++p++bs.drop ((k+i)*256+256))) (es:=a6) (clk:=clk) (hq:=a0) (Γ:=blk b1 [V pd] 27::blk b2 [Aa ((k+i:Nat):Int)] 3::blk b3 [.bool true] 4::A::(R++([blk s [.slice (some ⟨g,0,none⟩) (ps.length*256) o] 38,blk t [Aa 256] 3]++F))) H (a2.w1 y) a5;rw[<-e3] at j;have H:=j.l5;refine Cb (F7 1 [0] (A3 (H.blk 2 Z) AU) Z J Z (s_do Z Z Z (Cm Z Z Z (r:=((k+(i+1):Nat):Int)) U U) (EY Z Z (NH 2 H Z Z Z Z Z Z J) ?_)));rintro w j;have H:=j.l5;refine AN ?_;replace H:=H.f4.f1.f4.f4.f4;exact λ_ _=>H
  subst h7;replace H:=H.f4;obtain ⟨v0,c0,Rest,c1,c4,j,c3⟩:=OU a1 b7 H;clear H;have H:=j.l10;have c8:c0.length<=1099511627776:=by rw[c4,Dsk.ws_ver _ _ _ _ _ (.inr (by rw[X1];omega))];exact b0 _
  refine Kl (Sep z (emp::seps Rest::blk pd [.slice (some ⟨bd,0,none⟩) ((Dsk.ws {D with f2:=AP D.f2} false k (ps.take i)).n*256) ((Dsk.ws {D with f2:=AP D.f2} false k (ps.take i)).n*256),.map (some m),Aa f0,Aa ((Dsk.ws {D with f2:=AP D.f2} false k (ps.take i)).f1),Aa ((Dsk.ws {D with f2:=AP D.f2} false k (ps.take i)).f2),Aa ((Dsk.ws {D with f2:=AP D.f2} false k (ps.take i)).f3),.bool ((Dsk.ws {D with f2:=AP D.f2} false k (ps.take i)).cut),Aa ((Dsk.ws {D with f2:=AP D.f2} false k (ps.take i)).left)] 106::blk bd (bs.map u8) 5::AG m (es.map Ent.ie) clk::poolA a0::blk b1 [V pd] 27::blk b2 [Aa ((k+i:Nat):Int)] 3::blk b3 [.bool false] 4::A::(R++([blk s [.slice (some ⟨g,0,none⟩) (ps.length*256) o] 38,blk t [Aa 256] 3]++F)))) 15 Z J (A9 H λw j=>?_);have H:=j.l10;refine BA [0,1,2,3,4,5,6,7,8,9] [0,1,1,2,0,1,1,2] J (λ_ hx=>(A3 (hx.blk 6 Z) (A3 (hx.blk 2 Z) (A3 (hx.blk 7 Z) AU)))) (by exact Sep.mono 0 (B:=emp) (H.pick 10 [0,1,2,3,4,5,6,7,8,9] Z) Z (λ_ _=>trivial)) Z J Z Z (Bg 10 J Z Z J J J Z Z Z (FA (e:=107) (zv:=.slice none 0 0) Z J J Z Z (λ_ hx=>hx.bk 4 Z)) (Sep.mono 0 (B:=emp) (H.pick 10 [0,1,2,3,4,5,6,7,8,9] Z) Z (λ_ _=>trivial)) (k_updA 58 (v:=v0) Z c1 (BA [11] [] J (λ_ _=>AU) (by exact Sep.mono 0 (B:=emp) (H.pick 10 [0,1,2,3,4,5,6,7,8,9] Z) Z (λ_ _=>trivial)) Z J Z Z (Ay [12] J O (Az (Ck Z Z Z Z (AI H Z J (Elt.mk (P:=prog) (e:=38) (z:=.slice none 0 0) (sz:=1) (by_:=24) J Z U U) Z (by decide) (by decide) (out:=[.slice (some ⟨g,(0+i*256),none⟩) 256 256]) J) ?_))))));rintro _ w ⟨b4,rfl,j⟩;have H:=j.l11;refine Ax (λ_=>(Sep.mono 0 (B:=emp) (H.pick 11 [1,2,3,4,5,6,7,8,9,10] Z) Z (λ_ _=>trivial))) (Ay [13] J O (Az (Ck Z Z Z Z (AJ 1 H Z Z J (Elt.mk (P:=prog) (e:=38) (z:=.slice none 0 0) (sz:=1) (by_:=24) J Z U U) Z Z (H.rv 0 (·.rd U U O Z)) (by simp[Value.oneCell']) U) ?_)));rintro v5 w j;have H:=j.l11;refine Ax (λ_=>(Sep.mono 0 (B:=emp) (H.pick 11 [1,2,3,4,5,6,7,8,9,10] Z) Z (λ_ _=>trivial))) (Ay [14] J O (Az (CA Z Z Z (CW 5 (e:=107) H Z Z J Z Z Z) ?_)));rintro w j;have H:=j.l11;refine Ax (λh=>absurd Z h) (Bi J ?_);replace H:=H.f2.f2;obtain ⟨a6,a5,a7,a3⟩:=c3 v5 _ p y b8;have j:=Sep.made 2 H a3;rw[a7] at j;have H:=j.l10;replace H:=H.f5.f5.f5.f5;have e3:Dsk.ws {D with f2:=AP D.f2} false k (ps.take (i+1))=(Dsk.ws {D with f2:=AP D.f2} false k (ps.take i)).w1 false (k+i) p:=by rw[Dsk.ws_take hp]
  have j:=Sep.toDiskQ (D:=(Dsk.ws {D with f2:=AP D.f2} false k (ps.take i)).w1 false (k+i) p) (pd:=pd) (bd:=bd) (m:=m) (f0:=f0) (bs:=bs) (es:=a6) (clk:=putC (es.map Ent.ie) ((k+i:Nat):Int) clk) (hq:=a0) (Γ:=blk b4 [.slice (some ⟨g,(0+i*256),none⟩) 256 256] 38::blk b1 [V pd] 27::blk b2 [Aa ((k+i:Nat):Int)] 3::blk b3 [.bool false] 4::A::(R++([blk s [.slice (some ⟨g,0,none⟩) (ps.length*256) o] 38,blk t [Aa 256] 3]++F))) H (a2.w1 y) a5;rw[<-e3] at j;have H:=j.l6;refine Cb (F7 1 [0] (A3 (H.blk 3 Z) AU) Z J Z (s_do Z Z Z (Cm Z Z Z (r:=((k+(i+1):Nat):Int)) U U) (EY Z Z (NH 3 H Z Z Z Z Z Z J) ?_)));rintro w j;have H:=j.l6;refine AN ?_;replace H:=H.f1.d.f4.f1.f4.f4.f4;exact λ_ _=>H
 rintro D0 w j;rw[X9,Aan] at j;have H:=j.l6;obtain ⟨bd,m,f0,bs,es,clk,a2,a1,j⟩:=(H.pick 6 [4,0,1,2,3,5] Z).diskQ;clear H;have H:=j.l10;have c7:=a2.left;refine AO (Bo 9 J J (A9 H λw j=>?_));have H:=j.l10;refine Vo 5 [0,0,7,1] (A3 (H.blk 6 Z) (A3 (H.blk 0 Z) AU)) Z J Z (B5 Z Z Z (Ju Z Z Z (r:=((Dsk.ws {D with f2:=AP D.f2} l k (ps.take ps.length)).left)-1) U U) (B5 Z Z Z (SU Z Z Z) (SX 2 [7] Z J (Cf (EY Z Z (Xz 0 H Z Z Z Z Z Z J) ?_)))));rintro w j;have H:=j.l10;refine AN (AO (AF (BI 1 Z Z (AN (DY ?_)))));replace H:=H.f5;refine Pb H (rs:=[.tmp 8]) Z [Aa 0] (λ_=>⟨Z,trivial⟩) (v:=Aa 0) Z (λw j=>?_);clear H;have H:=j.l9;have c5:=(a9 ps.length).2.2.2.2;have j:=Sep.toDisk (D:= {Dsk.ws {D with f2:=AP D.f2} l k (ps.take ps.length) with left:=max (0:Int) ((Dsk.ws {D with f2:=AP D.f2} l k (ps.take ps.length)).left-1)}) (pd:=pd) (bd:=bd) (m:=m) (f0:=f0) (bs:=bs) (es:=es) (clk:=clk) (hq:=a0) (Γ:=blk b1 [V pd] 27::blk b2 [Aa ((k+ps.length:Nat):Int)] 3::blk b3 [.bool l] 4::A::(R++[blk s [.slice (some ⟨g,0,none⟩) (ps.length*256) o] 38,blk t [Aa 256] 3])) H (a2.f a2.f1 a2.f2 a2.f3 U) (a1.f _ _ _ _ _);have H:=j.l5;have j:=Sep.front (As:=diskA pd {Dsk.ws {D with f2:=AP D.f2} l k (ps.take ps.length) with left:=max (0:Int) ((Dsk.ws {D with f2:=AP D.f2} l k (ps.take ps.length)).left-1)} ::A::R) (Bs:=[blk s [.slice (some ⟨g,0,none⟩) (ps.length*256) o] 38,blk t [Aa 256] 3]) (H.pick 5 [0,4] Z);exact ⟨[diskA pd {Dsk.ws {D with f2:=AP D.f2} l k (ps.take ps.length) with left:=max (0:Int) ((Dsk.ws {D with f2:=AP D.f2} l k (ps.take ps.length)).left-1)},A],.inr (.inr ⟨by omega,by simp_all,by rw[YS,c5] at *;exact ⟨Z,Z⟩⟩),j⟩
theorem Ls(pd b a c n:Nat)(D:Dsk)(x:Int)(ps:List (List UInt8))(A:Ai)(k:∀p∈ps,p.length=256)(o:1<=ps.length/\ps.length<=4096)(g:∀i,(D.ver i).length<=1099511627776)(r:ps.length*256=n)(m:∀h,A h->rdH 1 (.slice (some ⟨b,a,none⟩) n c) n (ps.flatten.map u8) h):
  An 134 [V pd,Aa x,.slice (some ⟨b,a,none⟩) n c,.bool false] [diskA pd D,A] (λv G=>(¬(0<=x/\x+ps.length<=(D.n:Int))/\v=Aa 2/\G=[diskA pd D,A])\/((0<=x/\x+ps.length<=(D.n:Int))/\D.bad/\v=Aa 11/\G=[diskA pd D.wf,A])\/((0<=x/\x+ps.length<=(D.n:Int))/\¬D.bad/\v=Aa 0/\G=[diskA pd (D.wr x.toNat ps),A])):=by
 subst r;refine Cn.mono (MT pd b a c D x false ps A k o g m) ?_;rintro v Γ (⟨d,f,e⟩|⟨d,f,e,j⟩|⟨d,⟨f,l⟩,e,j⟩)
 ·exact .inl ⟨d,f,e⟩
 ·exact .inr (.inl ⟨d,f,e,j⟩)
 exact .inr (.inr ⟨d,λq=>by rcases q with q|q;exact f q;exact l q,e,j⟩)
set_option maxHeartbeats 1000000 in
theorem Rv (t pd f:Nat) (s:Sup) (a sq j:Int) (u r:Bool) (v:Value) (ims:List Img) (A:Ai) (hA:∀h,A h->imgsH v ims h) (D:Dsk) (a3:s.Ok (D.n:Int)) (a6:r=decide (s.epoch<4294967296)) (b3:0<=a/\a<s.len) (b6:0<=sq/\sq<=2199023255552) (hu:0<=j/\j<=s.len) (y:∀i,(D.ver i).length<=1000000000000):An 167 [V t,v] [lgB t pd f s a sq j u r,tblA f,diskA pd D,A] (λv G=>(ims.length > 40/\v=Aa 16/\G=[lgB t pd f s a sq j u r,tblA f,diskA pd D,A])\/(ims.length<=40/\(ims=[]\/¬DK ims)/\v=Aa 1/\G=[lgB t pd f s a sq j u r,tblA f,diskA pd D,A])\/((1<=ims.length/\ims.length<=40)/\DK ims/\¬(1+(ims.length:Int)<=(if u then 0 else s.len-j)/\r=true/\sq<1099511627776)/\v=Aa 15/\G=[lgB t pd f s a sq j u r,tblA f,diskA pd D,A])\/
  ((1<=ims.length/\ims.length<=40)/\DK ims/\(1+(ims.length:Int)<=(if u then 0 else s.len-j)/\r=true/\sq<1099511627776)/\∃(k:Nat),(k:Int)=min (1+(ims.length:Int)) (s.len-a)/\((¬D.bad/\k=1+ims.length/\v=Aa 0/\G=[lgB t pd f s ((a+(1+(ims.length:Int)))%s.len) (sq+1) (j+(1+(ims.length:Int))) u r,tblA f,diskA pd (D.wr (s.start+a).toNat ((A8 s.epoch sq ims).take k)),A])\/(¬D.bad/\k<1+ims.length/\¬Dsk.bad (D.wr (s.start+a).toNat ((A8 s.epoch sq ims).take k))/\v=Aa 0/\G=[lgB t pd f s ((a+(1+(ims.length:Int)))%s.len) (sq+1) (j+(1+(ims.length:Int))) u r,tblA f,diskA pd ((D.wr (s.start+a).toNat ((A8 s.epoch sq ims).take k)).wr s.start.toNat ((A8 s.epoch sq ims).drop k)),A])\/
    (D.bad/\v=Aa 11/\G=[lgB t pd f s a (sq+1) j true r,tblA f,diskA pd D.wf,A])\/(¬D.bad/\k<1+ims.length/\Dsk.bad (D.wr (s.start+a).toNat ((A8 s.epoch sq ims).take k))/\v=Aa 11/\G=[lgB t pd f s a (sq+1) j true r,tblA f,diskA pd (Dsk.wf (D.wr (s.start+a).toNat ((A8 s.epoch sq ims).take k))),A])))):=by
 intro z R w H;obtain ⟨ao,ic,rfl⟩:=H.sy 3 (λq=>(hA _ q).slc);have a4:=H.sy 2 (λq=>(diskA.ok q).n2);have a9:=H.sy 3 (λq=>(hA _ q).small);have b5:=Sup.get a3;have b0:=a3.2
 refine Af func167 Z ntmps167 Z (Z0 15 [0] Z (Ag Z (λh1=>?_) (λh1=>?_)))
 ·refine Zc 6 Z (Zr Z ?_);exact ⟨_,.inl ⟨by omega,Z,Z⟩,H.perm 4 [0,1,2,3] Z Z⟩
 have o:ims.length<=40:=by omega
 refine Z0 8 [0] Z (Ag Z (λh2=>?_) (λh2=>?_))
 ·refine Zc 6 Z (Zr Z ?_);exact ⟨_,.inr (.inl ⟨by omega,by first|exact .inr b|exact .inl (ZW U),rfl,rfl⟩),H.perm 4 [0,1,2,3] Z Z⟩
 refine Zc 7 Z (AB Z (call208 _) (Rt _ _ _ _ _ _ _ _ _ _ _ _ hA a6 U U ⟨by omega,by omega⟩ U U) H.f3.f2.f2 ?_);rintro _ w _ (⟨b,rfl,rfl⟩|⟨b,c,rfl,rfl⟩|⟨b,c,v1,rfl,rfl⟩) l
 ·have H:=l.l4;refine Z0 22 [3] Z (Zr Z ?_);exact ⟨_,.inr (.inl ⟨by omega,by first|exact .inr b|exact .inl (ZW U),rfl,rfl⟩),H.perm 4 [0,1,3,2] Z Z⟩
 ·have H:=l.l4;refine Z0 22 [3] Z (Zr Z ?_);exact ⟨_,.inr (.inr (.inl ⟨⟨by omega,by omega⟩,b,c,Z,Z⟩)),H.perm 4 [0,1,3,2] Z Z⟩
 have H:=l.l5;have a2:=TS (e:=s.epoch) (sq:=sq) b.1 o;refine Zc 1 Z ?_;obtain ⟨gb,gc,rfl,b4,b1⟩:=H.sy 0 (·.sl U);generalize hps:A8 s.epoch sq ims=ps at H a2;obtain ⟨d,b7⟩:=a2;have b2:=Q7 d;have H:Sep z (grow 5 1 (.slice (some ⟨gb,0,none⟩) ((1+ims.length)*256) gc) ((1+ims.length)*256) (ps.flatten.map u8)::lgB t pd f s a sq j u r::tblA f::A::diskA pd D::R) w:=H;obtain ⟨k,hk⟩:∃k:Nat,(k:Int)=min (1+(ims.length:Int)) (s.len-a):=⟨(min (1+(ims.length:Int)) (s.len-a)).toNat,by omega⟩;have a8:(ps.take k).length=k:=by rw[X1];omega
 have a7:(ps.drop k).length=1+ims.length-k:=by rw[Yr];omega
 refine Z0 17 [4] Z (A4 (Sep z _) J J H.drew (F8 13 [2,6,1,0,9,1,0] [s.len-a,(s.len-a)*256] Z J U (Be Z Z Z (NE Z Z Z) (k_updA 38 (v:=Aa ((k*256:Nat):Int)) Z (congrArg Aa U) (Ca 1 [] Z J (Bn (λw l=>?_)))))));have H:=l.l5;refine gn (Zc 2 Z ?_);replace H:=H.f1;refine BQ (Sep z (lgB t pd f s a sq j u r::R)) 19 Z J (A9 H λw l=>?_);have H:=l.l5;refine OP [0,1,2,3,4,5,6,7,8,9,10,11,12,13,14,15] [0,0,0,2,5,0,0,9,0,0] [s.start+a] (by exact H.pick 5 [0] Z) Z J U Z (Ig 16 Z J J J Z Z Z (Ba Z (z:=1) (p:=0) (q:=(k*256)) (o':=0) (l':=(k*256)) (c':=gc) J Z (.inl ⟨Z,Z⟩) (.inr ⟨_,_,_,Z,Z,Z⟩) U U U U U U) (H.pick 5 [0] Z) (Cg [17] J O (Az (BF Z Z Z Z Z Z (λw=>call134 _ w) (Ls _ _ _ _ _ _ _ (ps.take k) _ (λp hp=>d p (YF hp)) U (λi=>by have:=y i;omega) (by rw[a8]) (λh q=>by rw[O5 d];exact (grow.rdB q).pre U U)) H.f1.f4 Z ?_))));rintro _ w _ (⟨a5,rfl,rfl⟩|⟨_,a0,rfl,rfl⟩|⟨_,g,rfl,rfl⟩) l
 ·exact absurd ⟨by omega,by omega⟩ a5
 ·have H:=l.l5;refine B3 (H.pick 5 [2] Z) (CC [18] [] [] (by exact H.pick 5 [2] Z) Z J Z (a_done J (gn (Z5 52 [4,3,10,2,0,10,2,12,2] [sq+1] H Z U ?_))));intro w H;refine Zr Z ?_;subst hps;exact ⟨_,.inr (.inr (.inr ⟨⟨by omega,by omega⟩,b,c,k,hk,.inr (.inr (.inl ⟨a0,Z,Z⟩))⟩)),H.perm 5 [2,3,0,4] Z Z⟩
 have H:=l.l5;refine B3 (H.pick 5 [2] Z) (CC [18] [] [] (by exact H.pick 5 [2] Z) Z J Z (a_done J (gn (Z0 14 [3,0] Z (Ag Z (λh3=>?_) (λh3=>?_))))))
 ·replace H:=H.f2;refine BQ (Sep z (lgB t pd f s a sq j u r::R)) 14 Z J (A9 H λw l=>?_)
  have H:=l.l5;refine CC [0,1,2,3,4,5,6,7,8,9,10] [0,0,0,2,5,0,0] [] (by exact H.pick 5 [0] Z) Z J Z (Ig 11 Z J J J Z Z Z (Ba Z (z:=1) (p:=(k*256)) (q:=((1+ims.length)*256)) (o':=k*256) (l':=((1+ims.length)*256)-(k*256)) (c':=gc-(k*256)) J Z (.inr ⟨_,_,_,Z,Z,Z⟩) (.inl ⟨Z,Z⟩) U U U U U U) (H.pick 5 [0] Z) (Cg [12] J O (Az (BF Z Z Z Z Z Z (λw=>call134 _ w) (Ls _ _ _ _ _ _ _ (ps.drop k) _ (λp hp=>d p (ZL hp)) U (λi=>by have h1:=y i;have h2:=Dsk.wr_len D (s.start+a).toNat (ps.take k) i;omega) (by rw[a7];omega) (λh q=>by have:=(grow.rdB q).cut (lo:=k*256) (m:=(1+ims.length)*256-k*256) (c':=gc-k*256) U U U;rw[O6 d];rwa[X0 (by rw[Yr];omega),Ze] at this)) H.f2.f2 Z ?_))));rintro _ w _ (⟨a4,rfl,rfl⟩|⟨_,a1,rfl,rfl⟩|⟨_,x,rfl,rfl⟩) l
  ·exact absurd ⟨by omega,by rw[Dsk.wr_n];omega⟩ a4
  ·have H:=l.l5;refine B3 (H.pick 5 [2] Z) (CC [13] [] [] (by exact H.pick 5 [2] Z) Z J Z (a_done J (gn (Z5 36 [3,10,2,0,10,2,12,2] [sq+1] H Z U ?_))));intro w H;refine Zr Z ?_;subst hps;exact ⟨_,.inr (.inr (.inr ⟨⟨by omega,by omega⟩,b,c,k,hk,.inr (.inr (.inr ⟨g,by omega,a1,Z,Z⟩))⟩)),H.perm 5 [2,3,0,4] Z Z⟩
  have H:=l.l5;refine B3 (H.pick 5 [2] Z) (CC [13] [] [] (by exact H.pick 5 [2] Z) Z J Z (a_done J (gn (Z1 17 [4] [1+(ims.length:Int)] Z U (Ah Z (call131 _) (Iv _ _ _ _ _ _ _ _ _ _ U U U U U) H.f2 ?_)))));intro w H;refine Zc 8 Z (Zr Z ?_);subst hps;exact ⟨_,.inr (.inr (.inr ⟨⟨by omega,by omega⟩,b,c,k,hk,.inr (.inl ⟨g,by omega,x,Z,Z⟩)⟩)),H.perm 5 [0,3,1,4] Z Z⟩
 refine Z1 18 [4] [1+(ims.length:Int)] Z U (Ah Z (call131 _) (Iv _ _ _ _ _ _ _ _ _ _ U U U U U) H.f2 ?_);intro w H;refine Zc 8 Z (Zr Z ?_);subst hps;exact ⟨_,.inr (.inr (.inr ⟨⟨by omega,by omega⟩,b,c,k,hk,.inl ⟨g,by omega,Z,Z⟩⟩)),H.perm 5 [0,3,1,4] Z Z⟩
open Go.RowKit Go.Shelf
def Lt:Go.Shelf.Ren:=⟨fun|189=>101|125=>165|257=>164|128=>205|129=>206|294=>196|295=>197|296=>198|297=>199|298=>200|299=>201|216=>202|300=>203|301=>204|328=>225|329=>226|330=>227|331=>228|332=>229|215=>230|343=>243|n=>n,fun|28=>22|3=>3|46=>219|0=>0|51=>174|53=>145|4=>4|183=>259|182=>258|131=>84|5=>5|9=>9|218=>276|222=>228|228=>292|229=>255|n=>n,fun|n=>n⟩
theorem Lu:Go.Proofs.Lays.n189 prog Lt:= {
 mixed:=by kernel_rfl,
 f125:=func165.trans (congrArg some J),
 f128:=func205.trans (congrArg some J),
 f129:=func206.trans (congrArg some J),
 f189:=func101.trans (congrArg some J),
 f215:=func230.trans (congrArg some J),
 f216:=func202.trans (congrArg some J),
 f257:=func164.trans (congrArg some J),
 f294:=func196.trans (congrArg some J),
 f295:=func197.trans (congrArg some J),
 f296:=func198.trans (congrArg some J),
 f297:=func199.trans (congrArg some J),
 f298:=func200.trans (congrArg some J),
 f299:=func201.trans (congrArg some J),
 f300:=func203.trans (congrArg some J),
 f301:=func204.trans (congrArg some J),
 f328:=func225.trans (congrArg some J),
 f329:=func226.trans (congrArg some J),
 f330:=func227.trans (congrArg some J),
 f331:=func228.trans (congrArg some J),
 f332:=func229.trans (congrArg some J),
 f343:=func243.trans (congrArg some J),
 t0:=underlying0,
 a0:=isAgg0,
 z0:=sizeOf0,
 v0:=zeroValue0,
 t3:=underlying3,
 a3:=isAgg3,
 z3:=sizeOf3,
 v3:=zeroValue3,
 t4:=underlying4,
 a4:=isAgg4,
 z4:=sizeOf4,
 v4:=zeroValue4,
 t5:=underlying5,
 a5:=isAgg5,
 z5:=sizeOf5,
 v5:=zeroValue5,
 t9:=underlying9,
 a9:=isAgg9,
 z9:=sizeOf9,
 v9:=zeroValue9,
 t28:=underlying22,
 a28:=isAgg22,
 z28:=sizeOf22,
 v28:=zeroValue22,
 t46:=underlying219,
 a46:=isAgg219,
 z46:=sizeOf219,
 v46:=zeroValue219,
 t51:=underlying174,
 a51:=isAgg174,
 z51:=sizeOf174,
 v51:=zeroValue174,
 t53:=underlying145,
 a53:=isAgg145,
 z53:=sizeOf145,
 v53:=zeroValue145,
 t131:=underlying84,
 a131:=isAgg84,
 z131:=sizeOf84,
 v131:=zeroValue84,
 t182:=underlying258,
 a182:=isAgg258,
 z182:=sizeOf258,
 v182:=zeroValue258,
 t183:=underlying259,
 a183:=isAgg259,
 z183:=sizeOf259,
 v183:=zeroValue259,
 t218:=underlying276,
 a218:=isAgg276,
 z218:=sizeOf276,
 v218:=zeroValue276,
 t222:=underlying228,
 a222:=isAgg228,
 z222:=sizeOf228,
 v222:=zeroValue228,
 t228:=underlying292,
 a228:=isAgg292,
 z228:=sizeOf292,
 v228:=zeroValue292,
 t229:=underlying255,
 a229:=isAgg255,
 z229:=sizeOf255,
 v229:=zeroValue255}
open Go.Sort in
theorem Rw {z w:World} {R:List Ai} {b n:Nat} {cs:List Value} {ty:TypeId} (H:Sep z (blk b cs ty::R) w) (ys:List Int) (os:Array Obj):
  Sep z (blk b ((putCells Aa 0 ys.toArray cs.toArray).toList) ty::R) (Go.Sort.grow (putRow Aa (Go.Sort.ahead w n) b 0 ys.toArray) os):=by
 have hb:w.heap[b]?=some (.cells cs.toArray ty (0,0)):=H.blk 0 Z;have h1:Sep z (blk b ((putCells Aa 0 ys.toArray cs.toArray).toList) ty::R) (putRow Aa (Go.Sort.ahead w n) b 0 ys.toArray):=by
  refine H.write 0 Z Z Z Z (o':=.cells (putCells Aa 0 ys.toArray cs.toArray) ty (0,0)) ?_ ?_
  ·show (w.heap.modify b _)[b]?=_
   rw[Zu,if_pos Z,hb];rfl
  intro k hk;show (w.heap.modify b _)[k]?=_;rw[Zu,if_neg (ZI hk)]
 refine h1.ext0 ⟨Z,Z,Z,?_,λk hk _=>?_⟩
 ·show _<=(_++os:Array Obj).size
  simp
 show (_++os:Array Obj)[k]?=_;rw[AaJ hk]
theorem Pq(v:Value)(zs:List Int)(hl:zs.length<=1099511627776):An 101 [v] [grow 3 1 v zs.length (zs.map Aa)]
  (λu Γ=>u=.tuple #[]/\∃ys:List Int,ys=zs.mergeSort (λx y=>decide (x<=y))/\Γ=[grow 3 1 v ys.length (ys.map Aa)]):=by
 intro z R w H;have H:Sep z (grow 3 1 v zs.length (zs.map Aa)::R) w:=H;rcases H.sy 0 (·.form) with ⟨rfl,h0⟩|⟨b,c,rfl,hc⟩
 ·obtain rfl:zs=[]:=ZR.1 h0
  refine (Go.Proofs.Any.slices_Sort_int_none Lu none 0 w).mono ?_;rintro e w' ⟨rfl,rfl⟩;exact ⟨_,⟨Z,[],by simp,Z⟩,H⟩
 obtain ⟨⟨t,a⟩,⟨f,h1,h2,h3,h4⟩,H1⟩:=H.into (σ:=Nat×List Value) (p:=λx=>c=x.1/\zs.length<=x.1/\x.1<=maxLen/\x.2.length=x.1/\x.2.take zs.length=zs.map Aa) (As:=λx=>[blk b x.2 3]) (λh q=>by
  rcases q.2 with ⟨q,_⟩|⟨g,t,a,f,hg,hc,hm,hs,ht⟩
  ·cases q
  simp only[Value.slice.injEq,X2,AaN,and_true,true_and] at f;obtain ⟨rfl,rfl⟩:=f;refine ⟨(c,a.toList),⟨Z,hc,hm,by simpa using hs,by simpa using ht⟩,λ_=>0,λi A hi=>?_⟩
  cases i with
  | zero=>simp at hi;subst hi;show Hp.part _ _ _ _=_;unfold Hp.part;rw[if_pos Z];simpa using hg
  | succ i=>simp at hi)
 dsimp only at f h1 h2 h3 h4 H1;subst f;have H1:Sep z (blk b a 3::R) w:=H1;have m:w.heap[b]?=some (.cells a.toArray 3 (0,0)):=H1.blk 0 Z;have r:b<w.heap.size:=(YI.1 m).1;have k:∀j,j<zs.length->a[j]?=some (Aa zs[j]!):=λj d=>by
  have:(a.take zs.length)[j]? =(zs.map Aa)[j]? :=by rw[h4]
  rw[Yy,if_pos d,Yb,XW d] at this;rw[this,getElem!_pos zs j d];rfl
 have hH:Go.Sort.Holds Aa w b 0 zs.toArray:=λj d=>by
  have l:j<zs.length:=by simpa using d
  refine ⟨?_,?_⟩
  ·have:=k j l
   simp[World.cell?,m,this]
  simp[World.frozen?,m]
 refine (Go.Proofs.Any.slices_Sort_int Lu b 0 c zs w hH r U).mono ?_;rintro e w' ⟨rfl,n,os,rfl⟩;have H2:=Rw (n:=n) H1 (zs.mergeSort λx y=>decide (x<=y)) os;have a0:(zs.mergeSort λx y=>decide (x<=y)).length=zs.length:=List.length_mergeSort _;refine ⟨_,⟨Z,_,Z,Z⟩,H2.mono 0 Z (λh q=>?_)⟩;rw[a0];refine blk.grow q h1 (by unfold maxLen at h2;omega) ?_ ?_
 ·simp[Go.Sort.putCells,h3]
 apply Y0;intro j;rw[Yy];simp only[YQ];by_cases d:j<zs.length
 ·rw[if_pos d]
  have o:j<a.length:=by omega
  have s:j<(zs.mergeSort λx y=>decide (x<=y)).length:=by omega
  simp[Go.Sort.putCells,o,s,d]
 rw[if_neg d,Ys (by simp;omega)]
def XF(l:List IE):List IE->Value->List IE->Prop:=λs v s2=>∃p∈BT l (s.map λp:IE=>p.2.2),v=.int .i64 p.1/\s2=s++[p]
def Rx(l:List IE):List IE->Prop:=λs=>BT l (s.map λp:IE=>p.2.2)=[]
def kC(s:List IE):List Value:=s.map λp=>.int .i64 p.1
def vecA(b:Nat)(l s:List IE):Ai:=λh=>((∀p∈s,p∈l)/\(s.map λp:IE=>p.2.2).Nodup)/\∃v,seps [blk b [v] 22,grow 3 1 v s.length (kC s)] h
theorem Sep.vec{z w:World}{Γ:List Ai}{b:Nat}{l s:List IE}(H:Sep z (vecA b l s::Γ) w):((∀p∈s,p∈l)/\(s.map λp:IE=>p.2.2).Nodup)/\∃v,Sep z (YthbbejpbkglmlaaGreatDoor.blk b [v] 22::YthbbejpbkglmlaaGreatDoor.grow 3 1 v s.length (kC s)::Γ) w:=by
 obtain ⟨v,hp,a⟩:=H.into (σ:=Value) (p:=λ_=>(∀p∈s,p∈l)/\(s.map λp:IE=>p.2.2).Nodup) (As:=λv=>[YthbbejpbkglmlaaGreatDoor.blk b [v] 22,YthbbejpbkglmlaaGreatDoor.grow 3 1 v s.length (kC s)]) (λh q=>by obtain ⟨q,v,c⟩:=q;exact ⟨v,q,c⟩);exact ⟨hp,v,a⟩
theorem Sep.toVec{z w:World}{Γ:List Ai}{b:Nat}{l s:List IE}{v:Value}(H:Sep z (YthbbejpbkglmlaaGreatDoor.blk b [v] 22::YthbbejpbkglmlaaGreatDoor.grow 3 1 v s.length (kC s)::Γ) w)(a:∀p∈s,p∈l)(c:(s.map λp:IE=>p.2.2).Nodup):Sep z (vecA b l s::Γ) w:=
 H.made 2 (A:=vecA b l s) (λh q=>⟨⟨a,c⟩,v,q⟩)
theorem T7(s:List IE)(p:IE):kC s++[Aa p.1]=kC (s++[p]):=by simp[kC]
theorem F0{l s:List IE}{p:IE}(d:(∀p∈s,p∈l)/\(s.map λp:IE=>p.2.2).Nodup)(hp:p∈BT l (s.map λp:IE=>p.2.2)):(∀q∈s++[p],q∈l)/\((s++[p]).map λp:IE=>p.2.2).Nodup:=by
 obtain ⟨g,h⟩:=Dl hp;refine ⟨λq hq=>?_,?_⟩
 ·rcases Yt.1 hq with hq|hq
  ·exact d.1 q hq
  simp at hq;subst hq;exact g
 rw[Yj,Y4];refine ⟨d.2,by simp,λa f b c=>?_⟩;simp at c;subst c;exact λe=>h (e▸f)
theorem FC{α β:Type}{f:α->β}{l:List α}(h:(l.map f).Nodup):l.Nodup:=(Zk.1 h).imp λh e=>h (congrArg f e)
theorem Gf{α:Type}:∀{s l:List α},s.Nodup->(∀p∈s,p∈l)->s.length<=l.length
 | [],_,_,_=>Yi _
 | x::s,l,hn,h=>by
  obtain ⟨l1,l2,rfl⟩:=List.append_of_mem (h x O);have a:=Y8.1 hn;have:=Gf (s:=s) (l:=l1++l2) a.2 λp hp=>by
   have:=h p (by simp[hp]);simp only[Yt,YO] at this ⊢;rcases this with q|rfl|q
   ·exact .inl q
   ·exact absurd hp a.1
   exact .inr q
  simp only[XY,XZ] at this ⊢;omega
theorem Jf{l s:List IE}(h:(∀p∈s,p∈l)/\(s.map λp:IE=>p.2.2).Nodup):s.length<=l.length:=by
 have hs:s.Nodup:=FC h.2;exact Gf hs h.1
theorem HY{l s:List IE}(a:(l.map λp:IE=>p.2.2).Nodup)(h:(∀p∈s,p∈l)/\(s.map λp:IE=>p.2.2).Nodup)(f:Rx l s):s.Perm l:=by
 have hs:s.Nodup:=FC h.2;have d:l.Nodup:=FC a;refine (List.perm_ext_iff_of_nodup hs d).2 λp=>⟨h.1 p,λhp=>?_⟩;have:p.2.2∈s.map λp:IE=>p.2.2:=by
  by_cases q:p.2.2∈s.map λp:IE=>p.2.2
  ·exact q
  have:p∈BT l (s.map λp:IE=>p.2.2):=by simpa [BT] using ⟨hp,by simpa using q⟩
  rw[show BT l (s.map λp:IE=>p.2.2)=[] from f] at this;cases this
 obtain ⟨q,hq,e⟩:=X6.1 this;obtain ⟨i,b,rfl⟩:=Zw.1 (h.1 q hq);obtain ⟨j,c,rfl⟩:=Zw.1 hp;obtain rfl:=E4 a (XW b) (XW c) e;exact hq
structure PgE where
 n:Nat
 pg:Pg
 v:Value
 born:Nat
def PgE.ie(e:PgE):IE:=((e.n:Int),.agg #[.int .i64 e.pg.kind,e.v],e.born)
structure PgsIn(f:Bc)(es:List PgE)(clk:Nat)(hq:Hp):Prop where
 ent:∀e∈es,f e.n=some e.pg/\e.pg.Ok/\rdH 1 e.v 240 (e.pg.body.map u8) hq
 all:∀n p,f n=some p->∃e∈es,e.n=n
 nodup:(es.map PgE.n).Nodup
 born:(es.map PgE.born).Nodup
 clk:∀e∈es,e.born<clk
def pgsA(m:Nat)(f:Bc)(hq:Hp):Ai:=λh=>∃es clk,PgsIn f es clk hq/\AG m (es.map PgE.ie) clk h
theorem Sep.pgs{z w:World}{Γ:List Ai}(i:Nat){m:Nat}{f:Bc}{hq:Hp}(H:Sep z Γ w)(d:Γ[i]?=some (pgsA m f hq)):∃es clk,PgsIn f es clk hq/\Sep z (Γ.set i (AG m (es.map PgE.ie) clk)) w:=by
 obtain ⟨x,hp,c⟩:=H.exAt i (σ:=List PgE×Nat) (p:=λx=>PgsIn f x.1 x.2 hq) (B:=λx=>AG m (x.1.map PgE.ie) x.2) d (λh ⟨es,clk,a,b⟩=>⟨(es,clk),a,b⟩);exact ⟨x.1,x.2,hp,c⟩
theorem Sep.toPgs{z w:World}{Γ:List Ai}(i:Nat){m:Nat}{es:List PgE}{clk:Nat}{f:Bc}{hq:Hp}(H:Sep z Γ w)(a:Γ[i]?=some (AG m (es.map PgE.ie) clk))(hp:PgsIn f es clk hq):Sep z (Γ.set i (pgsA m f hq)) w:=H.mono i a λh q=>⟨es,clk,hp,q⟩
def DC(m:Nat)(f:Bc)(k:Nat)(hq:Hp):Ai:=λh=>∃es clk,PgsIn f es clk hq/\es.length=k/\AG m (es.map PgE.ie) clk h
theorem Sep.pgsc{z w:World}{Γ:List Ai}(i:Nat){m k:Nat}{f:Bc}{hq:Hp}(H:Sep z Γ w)(e:Γ[i]?=some (DC m f k hq)):∃es clk,PgsIn f es clk hq/\es.length=k/\Sep z (Γ.set i (AG m (es.map PgE.ie) clk)) w:=by
 obtain ⟨x,hp,d⟩:=H.exAt i (σ:=List PgE×Nat) (p:=λx=>PgsIn f x.1 x.2 hq/\x.1.length=k) (B:=λx=>AG m (x.1.map PgE.ie) x.2) e (λh ⟨es,clk,a,c,b⟩=>⟨(es,clk),⟨a,c⟩,b⟩);exact ⟨x.1,x.2,hp.1,hp.2,d⟩
theorem Sep.toPgsc{z w:World}{Γ:List Ai}(i:Nat){m k:Nat}{es:List PgE}{clk:Nat}{f:Bc}{hq:Hp}(H:Sep z Γ w)(b:Γ[i]?=some (AG m (es.map PgE.ie) clk))(hp:PgsIn f es clk hq)(a:es.length=k):Sep z (Γ.set i (DC m f k hq)) w:=H.mono i b λh q=>⟨es,clk,hp,a,q⟩
theorem PgsIn.le{f:Bc}{es:List PgE}{clk:Nat}{hq a:Hp}(h:PgsIn f es clk hq)(s:BC hq a):PgsIn f es clk a:=⟨λe b=>⟨(h.ent e b).1,(h.ent e b).2.1,(h.ent e b).2.2.le s⟩,h.all,h.nodup,h.born,h.clk⟩
theorem pgsA.le{m:Nat}{f:Bc}{hq a:Hp}(s:BC hq a):∀h,pgsA m f hq h->pgsA m f a h:=λ_ ⟨es,clk,b,c⟩=>⟨es,clk,b.le s,c⟩
theorem PgsIn.none(hq:Hp)(clk:Nat):PgsIn CQ [] clk hq:=⟨λe a=>(by cases a),λn p h=>(by cases h),by simp,by simp,λe a=>(by cases a)⟩
theorem PgsIn.get{f:Bc}{es:List PgE}{clk:Nat}{hq:Hp}(h:PgsIn f es clk hq)(n:Nat):(f n=Option.none/\Cl (es.map PgE.ie) (n:Int)=Option.none)\/∃(p:Pg) (v:Value),f n=some p/\p.Ok/\rdH 1 v 240 (p.body.map u8) hq/\Cl (es.map PgE.ie) (n:Int)=some (.agg #[Aa p.kind,v]):=by
 have j:∀l:List PgE,(∀e∈l,e∈es)->((∀e∈l,e.n≠n)/\Cl (l.map PgE.ie) (n:Int)=Option.none)\/∃e∈es,e.n=n/\Cl (l.map PgE.ie) (n:Int)=some (.agg #[Aa e.pg.kind,e.v]):=by
  intro l
  induction l with
  | nil=>intro _;exact .inl ⟨λe d=>(by cases d),Z⟩
  | cons e l ih=>
   intro m;simp only[Yn,PgE.ie,Cl];by_cases q:(n:Int)=(e.n:Int)
   ·exact .inr ⟨e,m e O,by omega,by rw[if_pos q]⟩
   rw[if_neg q];rcases ih (λe d=>m e (by simp[d])) with ⟨g,i⟩|g
   ·refine .inl ⟨λo d=>?_,i⟩
    rcases YO.1 d with rfl|d
    ·omega
    exact g o d
   exact .inr g
 rcases j es (λ_ h=>h) with ⟨g,i⟩|⟨e,d,k,r⟩
 ·refine .inl ⟨?_,i⟩
  cases hf:f n with
  | none=>rfl
  | some p=>
   obtain ⟨e,d,k⟩:=h.all n p hf;exact absurd k (g e d)
 subst k;obtain ⟨a,b,c⟩:=h.ent e d;exact .inr ⟨e.pg,e.v,a,b,c,r⟩
theorem PgsIn.has{f:Bc}{es:List PgE}{clk:Nat}{hq:Hp}(h:PgsIn f es clk hq)(n:Nat):Ce (es.map PgE.ie) (n:Int)=(f n).isSome:=by
 unfold Ce;rcases h.get n with ⟨a,b⟩|⟨p,v,a,_,_,b⟩<;>rw[a,b]<;>rfl
theorem upd_pgs(es:List PgE)(k:Nat)(p:Pg)(v:Value):updM (es.map PgE.ie) (k:Int) (.agg #[Aa p.kind,v])=(es.map λe=>if e.n=k then {e with pg:=p,v:=v} else e).map PgE.ie\/¬(es.map PgE.n).Nodup:=by
 induction es with
 | nil=>exact .inl Z
 | cons e es ih=>
  by_cases hn:((e::es).map PgE.n).Nodup
  ·left
   have b:=hn;simp only[Yn,Y8] at b;by_cases q:(k:Int)=(e.n:Int)
   ·have c:e.n=k:=by omega
    have a:(es.map λe=>if e.n=k then {e with pg:=p,v:=v} else e)=es:=by
     conv=>rhs;rw[<-List.map_id es]
     exact ZB λf d=>by
      rw[if_neg];rfl;intro g;exact b.1 (X6.2 ⟨f,d,by omega⟩)
    simp only[Yn,PgE.ie,updM,if_pos q,if_pos c];rw[a];subst c;rfl
   have c:¬e.n=k:=by omega
   simp only[Yn,PgE.ie,updM,if_neg q,if_neg c];rcases ih with ih|ih
   ·congr 1
   exact absurd b.2 ih
  exact .inr hn
theorem PgsIn.put{f:Bc}{es:List PgE}{clk:Nat}{hq:Hp}(h:PgsIn f es clk hq){k:Nat}{p:Pg}{v:Value}(hp:p.Ok)(y:rdH 1 v 240 (p.body.map u8) hq):∃o,D9 (es.map PgE.ie) (k:Int) (.agg #[Aa p.kind,v]) clk=o.map PgE.ie/\PgsIn (pgSet f k p) o (putC (es.map PgE.ie) (k:Int) clk) hq/\o.length=es.length+(if (f k).isSome then 0 else 1):=by
 have t:=h.has k;unfold D9 putC
 cases hs:(f k).isSome with
 | true=>
  rw[hs] at t;rw[t,if_pos Z,if_pos Z];rcases upd_pgs es k p v with e|e
  ·refine ⟨_,e,⟨λr d=>?_,λn q i=>?_,?_,?_,λr d=>?_⟩,by simp⟩
   ·obtain ⟨j,m,rfl⟩:=X6.1 d
    obtain ⟨a,b,c⟩:=h.ent j m;by_cases g:j.n=k
    ·rw[if_pos g];exact ⟨by unfold pgSet;rw[if_pos g],hp,y⟩
    rw[if_neg g];exact ⟨by unfold pgSet;rw[if_neg g];exact a,b,c⟩
   ·unfold pgSet at i
    have:∃j∈es,j.n=n:=by
     split at i
     ·rename_i g;subst g
      obtain ⟨z,w⟩:=YH.1 hs;exact h.all n z w
     exact h.all n q i
    obtain ⟨j,m,x⟩:=this;exact ⟨_,YP m,by split<;>exact x⟩
   ·rw[Zp]
    rw[show (PgE.n∘λe=>if e.n=k then {e with pg:=p,v:=v} else e)=PgE.n from by funext e;simp only[Aaa];split<;>rfl];exact h.nodup
   ·rw[Zp]
    rw[show (PgE.born∘λe=>if e.n=k then {e with pg:=p,v:=v} else e)=PgE.born from by funext e;simp only[Aaa];split<;>rfl];exact h.born
   obtain ⟨j,m,rfl⟩:=X6.1 d;have:=h.clk j m;split<;>exact this
  exact absurd h.nodup e
 | false=>
  rw[hs] at t;rw[t];simp only[YW,if_false];have l:f k=Option.none:=by simpa using hs
  refine ⟨es++[⟨k,p,v,clk⟩],by simp[PgE.ie],⟨λr d=>?_,λn q i=>?_,?_,?_,λr d=>?_⟩,by simp⟩
  ·rcases Yt.1 d with g|g
   ·obtain ⟨a,b,c⟩:=h.ent r g
    have:r.n≠k:=λe=>by rw[e,l] at a;cases a
    exact ⟨by unfold pgSet;rw[if_neg this];exact a,b,c⟩
   simp at g;subst g;exact ⟨by simp[pgSet],hp,y⟩
  ·unfold pgSet at i
   split at i
   ·rename_i g;exact ⟨⟨k,p,v,clk⟩,by simp,g.symm⟩
   obtain ⟨j,m,x⟩:=h.all n q i;exact ⟨j,by simp[m],x⟩
  ·rw[Yj,Y4]
   refine ⟨h.nodup,by simp,λa u b s=>?_⟩;simp at s;subst s;obtain ⟨j,m,rfl⟩:=X6.1 u;intro e;have:=(h.ent j m).1;rw[e,l] at this;cases this
  ·rw[Yj,Y4]
   refine ⟨h.born,by simp,λa u b s=>?_⟩;simp at s;subst s;obtain ⟨j,m,rfl⟩:=X6.1 u;have:=h.clk j m;omega
  rcases Yt.1 d with g|g
  ·have:=h.clk r g;omega
  simp at g;subst g;simp
theorem PgsIn.keys{f:Bc}{es:List PgE}{clk:Nat}{hq:Hp}{s:List IE}(h:PgsIn f es clk hq)(hs:s.Perm (es.map PgE.ie)):
  ((s.map λp:IE=>p.1).mergeSort (λx y=>decide (x<=y))).Pairwise (· < ·)/\∀k:Int,k∈(s.map λp:IE=>p.1).mergeSort (λx y=>decide (x<=y))↔0<=k/\(f k.toNat).isSome=true:=by
 have hp:((s.map λp:IE=>p.1).mergeSort (λx y=>decide (x<=y))).Perm (es.map λe:PgE=>(e.n:Int)):=by
  refine (List.mergeSort_perm _ _).trans ?_;have:=hs.map (λp:IE=>p.1);rwa[Zp] at this
 have l:((s.map λp:IE=>p.1).mergeSort (λx y=>decide (x<=y))).Nodup:=by
  refine hp.symm.nodup ?_;have d:=Zk.1 h.nodup;exact Zk.2 (d.imp λh e=>h U)
 refine ⟨?_,λk=>?_⟩
 ·have i:((s.map λp:IE=>p.1).mergeSort (λx y=>decide (x<=y))).Pairwise (λx y=>decide (x<=y)=true):=List.pairwise_mergeSort (λa b c d g=>by simp at *;omega) (λa b=>by simp;omega) _
  exact (i.and l).imp λh=>by have d:=h.1;have g:=h.2;simp at d;omega
 rw[hp.mem_iff,X6];constructor
 ·rintro ⟨e,j,rfl⟩
  exact ⟨by omega,by rw[YB,(h.ent e j).1];rfl⟩
 rintro ⟨d,g⟩;obtain ⟨p,hp⟩:=YH.1 g;obtain ⟨e,j,m⟩:=h.all _ p hp;exact ⟨e,j,by omega⟩
theorem Tc(b c:Value)(l a:List UInt8)(A B:Ai)(e:∀h,A h->rdH 1 b l.length (l.map u8) h)(d:∀h,B h->rdH 1 c a.length (a.map u8) h):An 119 [b,c] [A,B] (λv G=>v=.bool (decide (l=a))/\G=[A,B]):=by
 intro z R w H;refine Af func119 Z ntmps119 Z (Zc 8 Z (Ad Z (Ey (l:=l) Z J J Z (AA (H.rd 0 Z e))) (Zc 1 Z (Ad Z (Ey (l:=a) Z J J Z (AA (H.rd 1 Z d))) (Ad Z (OR Z J Z Z) (Zc 4 Z (Zr Z ?_)))))));exact ⟨_,⟨Z,Z⟩,H⟩
theorem Ry(b a n c:Nat)(bs:List UInt8)(A:Ai)(i:∀h,A h->rdH 1 (.slice (some ⟨b,a,none⟩) n c) n (bs.map u8) h)(l:0<n/\n<=1073741824):An 115 [.slice (some ⟨b,a,none⟩) n c] [A] (λv G=>(∃f,v=f/\G=[grow 5 1 f n (bs.map u8),A])):=by
 intro z R w H;refine Af func115 Z ntmps115 Z (Zc 9 Z (Ad Z (KX Z J Z Z) (Zc 7 Z (AC Z (GX H Z J A2) ?_))));rintro _ w ⟨g,rfl,H⟩;refine Zc 1 Z ?_;replace H:=(H.mono 0 (B:=grow 5 1 (.slice (some ⟨g,0,none⟩) 0 0) 0 []) Z (λh q=>q.grow U U O Z)).l2;refine AC Z (AJ 0 H Z Z J A2 Z Z (H.rd 1 Z i) (by simp[u8,Value.oneCell']) U) ?_;rintro k w e;have d:([]++bs.map u8:List Value)=bs.map u8:=by simp
 rw[d] at e;rw[show (0+n:Nat)=n from by omega] at e;have H:=e.l2;refine Zc 4 Z (Zr Z ?_);exact ⟨_,⟨_,Z,Z⟩,H⟩
theorem E6(ns:List Int):(ns.flatMap (Ae 8)).length=8*ns.length:=by
 induction ns with
 | nil=>rfl
 | cons x ns ih=>simp only[YL,XY,Ac,ih,XZ];omega
theorem NX{ns:List Int}{i:Nat}{x:Int}(h:ns[i]?=some x):(ns.take i).flatMap (Ae 8)++Ae 8 x=(ns.take (i+1)).flatMap (Ae 8):=by
 rw[Ye,h];simp
theorem Pr(ns:List Int):∀{j:Nat} {x:Int},ns[j]?=some x->((ns.flatMap (Ae 8)).drop (8*j)).take 8=Ae 8 x:=by
 induction ns with
 | nil=>intro j x h;simp at h
 | cons y ys ih=>
  intro j x h
  cases j with
  | zero=>
   simp at h;subst h;rw[YL,AaA,Ym,YK (Ac 8 y)]
  | succ j=>
   rw[YL,show 8*(j+1)=(Ae 8 y).length+8*j from by rw[Ac];omega,YD];rw[Yk U,Yo,show (Ae 8 y).length+8*j-(Ae 8 y).length=8*j from by omega];exact ih (by simpa using h)
theorem Sup.list_len(s:Sup):s.list.length=7:=rfl
theorem T8(s:Sup):Il [80,83,85,80] (Br s):=by
 have a:=Ak s;refine ⟨GM U,?_⟩;have:=BB (l:=GQ s) U (p:=0) (k:=4) U;rw[Ym,Ym] at this;unfold Br;rw[this];rfl
theorem Ep{s:Sup}(hs:∀x∈s.list,0<=x/\x<=1099511627776){k:Nat}{x:Int}(a:s.list[k]?=some x):A0 (((Br s).drop (4+8*k)).take 8)=x:=by
 have b:=Ak s;have c:k<7:=(XV.1 a).1;unfold Br;rw[BB U U];unfold GQ;rw[YD,Yk O,Yo,show 4+8*k-([80,83,85,80]:List UInt8).length=8*k from by simp,Pr _ a];have:=hs x (XX a);exact CE this.1 U U
theorem Rz(s:Sup):rz (((Br s).drop 60).take 192)=0:=by
 have a:=Ak s;have:=Kh (l:=GQ s) U;rw[a] at this;exact this
theorem VL{n:Nat}{p:Pg}(h:p.Ok):Il [80,80,65,71] (Dk n p):=⟨GM (YY (EQ h)),Le h⟩
theorem MU{n:Nat}{p:Pg}(h:p.Ok):A0 (((Dk n p).drop 4).take 1)=p.kind:=by
 have a:=EQ (n:=n) h;unfold Dk;rw[BB U U,show Ga n p=[80,80,65,71]++Ae 1 p.kind++(Ae 4 (n:Int)++[0,0,0]++p.body) from by simp[Ga],GY _ _ _ O (by simp[Ac])];exact CE (by have:=h.1;omega) (by have:=h.1;omega) (by have:=h.1;omega)
theorem VM{n:Nat}{p:Pg}(h:p.Ok)(b:n<=1023):A0 (((Dk n p).drop 5).take 4)=(n:Int):=by
 have a:=EQ (n:=n) h;unfold Dk;rw[BB U U,show Ga n p=([80,80,65,71]++Ae 1 p.kind)++Ae 4 (n:Int)++([0,0,0]++p.body) from by simp[Ga],GY _ _ _ (by simp[Ac]) (by simp[Ac])];exact CE U U U
theorem NY{n:Nat}{p:Pg}(h:p.Ok):A0 (((Dk n p).drop 9).take 3)=0:=by
 have a:=EQ (n:=n) h;unfold Dk;rw[BB U U,show Ga n p=([80,80,65,71]++Ae 1 p.kind++Ae 4 (n:Int))++[0,0,0]++p.body from by simp[Ga],GY _ _ _ (by simp[Ac]) O];decide
theorem MV{n:Nat}{p:Pg}(h:p.Ok):((Dk n p).drop 12).take 240=p.body:=by
 have a:=EQ (n:=n) h;unfold Dk;rw[BB U U,show Ga n p=([80,80,65,71]++Ae 1 p.kind++Ae 4 (n:Int)++[0,0,0])++p.body++[] from by simp[Ga],GY _ _ _ (by simp[Ac]) h.2.symm]
theorem RA{s:Sup}{k:Nat}{x:Int}(a:s.list[k]?=some x):((s.list.take k).map Aa++List.replicate (7-k) (Aa 0)).take k++[Aa x]++((s.list.take k).map Aa++List.replicate (7-k) (Aa 0)).drop (k+1)=(s.list.take (k+1)).map Aa++List.replicate (7-(k+1)) (Aa 0):=by
 have c:k<7:=(XV.1 a).1;have b:((s.list.take k).map Aa).length=k:=by simp[Sup.list];omega
 rw[X8 U,X0 U,YD,Yk U,Yo,b,ZP,Ye,a,show 7-k-(k+1-k)=7-(k+1) from by omega];simp
theorem T9{s:Sup}{k:Nat}{x:Int}(a:s.list[k]?=some x):((s.list.take (k+1)).map Aa++List.replicate (7-(k+1)) (Aa 0))[k]?=some (Aa x):=by
 have b:k<7:=(XV.1 a).1;have c:((s.list.take (k+1)).map Aa).length=k+1:=by simp[Sup.list];omega
 rw[Yc U,Yb,Yy,if_pos U,a];rfl
theorem NZ(a:Nat)(s:Sup)(hs:∀x∈s.list,0<=x/\x<=1099511627776):An 182 [V a,.agg #[Aa s.gen,Aa s.epoch,Aa s.pages,Aa s.start,Aa s.len,Aa s.head,Aa s.seq]] [tblA a] (λv G=>∃e,v=.tuple #[.slice (some ⟨e,0,none⟩) 256 256,Aa 0]/\G=[blk e (AW (Br s) 60) 204,tblA a]):=by
 intro z R w H;have g:=Sup.list_len s;refine Af func182 Z ntmps182 Z (Za 2 [] H Z ?_);intro c w H;refine Zc 6 Z (AC Z (BN (P:=prog) H Z (zs:=(AW (AX []) 0)) J) ?_);rintro _ w ⟨b,rfl,H⟩;refine Zc 4 Z (Ah Z (call179 _) (Hh _ 0 [80,83,85,80] _ (A7 (by first|omega|(simp[Ac,E6,-List.length_flatMap]<;>omega))) (by first|omega|(simp<;>omega))) H ?_);intro w H;rw[show Bp (AX []) ([80,83,85,80]) 0=AX ([80,83,85,80]) from B6 Z (by first|omega|(simp[Ac,E6,-List.length_flatMap]<;>omega))] at H;have H:Sep z (blk b (AW (AX ([80,83,85,80])) 4) 204::blk c [Aa s.gen,Aa s.epoch,Aa s.pages,Aa s.start,Aa s.len,Aa s.head,Aa s.seq] 92::tblA a::R) w:=H;refine Z2 19 [0,1,0,1,1,0,2,1,0,3,1,0,4,1,0,5,1,0,6,1,0] H Z (Ad Z (AQ Z Z (out:=[Aa s.gen,Aa s.epoch,Aa s.pages,Aa s.start,Aa s.len,Aa s.head,Aa s.seq]) J) (Zc 4 Z ?_));refine Ap (σ:=Nat) (λk=>[(25,Aa (k:Int)),(0,V a),(6,V b),(24,.agg #[Aa s.gen,Aa s.epoch,Aa s.pages,Aa s.start,Aa s.len,Aa s.head,Aa s.seq])])
   (λk w=>Sep z (blk b (AW (AX ([80,83,85,80]++(s.list.take k).flatMap (Ae 8))) ((4+8*k:Nat):Int)) 204::blk c [Aa s.gen,Aa s.epoch,Aa s.pages,Aa s.start,Aa s.len,Aa s.head,Aa s.seq] 92::tblA a::R) w/\(k<=7)) (λk=>7-k) 0
   fr_z ⟨(by simpa using H),by omega⟩ ?_
 clear H;rintro k w ⟨n,f⟩;have H:=n.l3;have h:=f;clear f;refine Z0 6 [0] Z (Ag Z (λi=>?_) (λi=>?_))
 ·refine Zc 6 Z ?_;obtain ⟨x,d⟩:∃x,s.list[k]?=some x:=⟨_,XW (by simp[Sup.list];omega)⟩;have p:=hs x (XX d)
  refine Ad Z (K3 Z J Z (l:=s.list) (j:=k) Z Z Z Z d) (Zc 7 Z (Ah Z (call122 _) (CK _ _) H ?_));intro w H;refine Ad Z (AM Z Z) (Zc 1 Z (Am 31 Z (λm=>U) (λm=>?_)));refine Zc 10 Z (Ah Z (call144 _) (Du _ (4+8*k) 8 x _ (A7 (by first|omega|(simp[Ac,E6,-List.length_flatMap]<;>omega))) U) H ?_);intro w H;rw[show ((4+8*k+8:Nat):Int)=(((4+8*(k+1):Nat):Int):Int) from by omega] at H;rw[show Bp (AX ([80,83,85,80]++(s.list.take k).flatMap (Ae 8))) (Ae 8 x) (4+8*k)=AX ([80,83,85,80]++(s.list.take k).flatMap (Ae 8)++Ae 8 x) from B6 (by first|omega|(simp[Ac,E6,-List.length_flatMap]<;>omega)) (by first|omega|(simp[Ac,E6,-List.length_flatMap]<;>omega))] at H;have H:Sep z (blk b (AW (AX ([80,83,85,80]++(s.list.take k).flatMap (Ae 8)++Ae 8 x)) ((4+8*(k+1):Nat):Int)) 204::blk c [Aa s.gen,Aa s.epoch,Aa s.pages,Aa s.start,Aa s.len,Aa s.head,Aa s.seq] 92::tblA a::R) w:=H;refine Z1 7 [] [(k:Int)+1] Z U (gf ?_);intro _ o;refine ⟨(k+1),o.cz,⟨(by rw[<-NX d,<-X3];exact H),?_⟩,?_⟩
  ·omega
  omega
 obtain rfl:k=7:=by omega
 refine Zc 2 Z (gx (Zc 3 Z ?_));have H:Sep z (blk b (AW (AX (GQ s)) 60) 204::blk c [Aa s.gen,Aa s.epoch,Aa s.pages,Aa s.start,Aa s.len,Aa s.head,Aa s.seq] 92::tblA a::R) w:=H;refine Zc 2 Z (Ah Z (call180 _) (GR _ _ _ _ (A7 (by first|omega|(simp[Ac,Ak]<;>omega)))) H.f2.f1 ?_);intro w H;refine Zc 5 Z (Zr Z ?_);exact ⟨_,⟨b,Z,Z⟩,H.perm 3 [0,1] Z Z⟩
theorem Jg(g b o c:Nat)(sec:List UInt8)(A:Ai)(f:∀h,A h->rdH 1 (.slice (some ⟨b,o,none⟩) 256 c) 256 (sec.map u8) h)(s:Sup)(hs:∀x∈s.list,0<=x/\x<=1099511627776)(d:sec=Br s):An 128 [V g,.slice (some ⟨b,o,none⟩) 256 c] [tblA g,A] (λv G=>v=.tuple #[.agg #[Aa s.gen,Aa s.epoch,Aa s.pages,Aa s.start,Aa s.len,Aa s.head,Aa s.seq],.bool true]/\G=[tblA g,A]):=by
 intro z R w H;have n:=H.sy 1 (λq=>(f _ q).len);have a3:=H.sy 1 (λq=>(f _ q).cap);obtain ⟨c0,c1,c2,c3,hd⟩:=K7 n;refine Af func128 Z ntmps128 Z (Za 2 [] H Z ?_);intro l w H;refine Zc 7 Z (AB Z (call120 _) (JL _ _ _ _ _ sec _ f) H.f2.f2 ?_);rintro _ w _ (⟨e,rfl,rfl⟩|⟨e,rfl,rfl⟩) p
 ·have H:=p.l3;refine Za 3 [] H Z ?_;intro r w H;refine Za 16 [0] H Z ?_;intro a w H;refine Z0 12 [0,1,2,3,4,5,6] Z (Ad Z (AQ Z Z (out:=[V a,.pointer (some ⟨a,1,none⟩),.pointer (some ⟨a,2,none⟩),.pointer (some ⟨a,3,none⟩),.pointer (some ⟨a,4,none⟩),.pointer (some ⟨a,5,none⟩),.pointer (some ⟨a,6,none⟩)]) J) (Zc 4 Z ?_));refine Ap (σ:=Nat) (λk=>[(28,Aa (k:Int)),(4,V l),(6,V r),(8,V a),(27,.agg #[V a,.pointer (some ⟨a,1,none⟩),.pointer (some ⟨a,2,none⟩),.pointer (some ⟨a,3,none⟩),.pointer (some ⟨a,4,none⟩),.pointer (some ⟨a,5,none⟩),.pointer (some ⟨a,6,none⟩)])])
    (λk w=>Sep z (blk a ((s.list.take k).map Aa++List.replicate (7-k) (Aa 0)) 92::blk r [.slice (some ⟨b,(o+(4+8*k)),none⟩) (252-(4+8*k)) (c-(4+8*k))] 162::tblA g::A::blk l [Aa 0,Aa 0,Aa 0,Aa 0,Aa 0,Aa 0,Aa 0] 92::R) w/\(k<=7)) (λk=>7-k) 0
    fr_z ⟨H,by omega⟩ ?_
  clear H;rintro k w ⟨p,y⟩;have H:=p.l5;have a2:=y;clear y;refine Z0 6 [0] Z (Ag Z (λh1=>?_) (λh1=>?_))
  ·have a0:k<7:=by omega
   refine Zc 6 Z ?_;obtain ⟨x,i⟩:∃x,s.list[k]?=some x:=⟨_,XW (by simp[Sup.list];omega)⟩;have a1:=hs x (XX i);have t:A0 ((sec.drop (4+8*k)).take 8)=x:=by rw[d];exact Ep hs i
   refine Ad Z (Ee (m:=7) Z J Z Z Z (j:=k) Z (u:=.pointer (some ⟨a,k,none⟩)) (by rcases (show k=0\/k=1\/k=2\/k=3\/k=4\/k=5\/k=6 by omega) with rfl|rfl|rfl|rfl|rfl|rfl|rfl<;>rfl)) (Zc 6 Z (Ah Z (call121 _) (DL 8 _ b (o+(4+8*k)) (252-(4+8*k)) (c-(4+8*k)) ((sec.drop (4+8*k)).take (252-(4+8*k))) _ (λh q=>(f h q).cut (lo:=(4+8*k)) (m:=(252-(4+8*k))) (c':=(c-(4+8*k))) U U U) U U ((sec.drop (4+8*k)).take 8) (by rw[YE,Yz U]) (o+(4+8*(k+1))) (252-(4+8*(k+1))) (c-(4+8*(k+1))) U U U) H.f3.f2 ?_));intro w H;refine k_updA 32 (v:=Aa x) Z (congrArg Aa t) (Zc 1 Z (AV Z Z (AD 2 H Z Z Z Z (vs:=[Aa x]) Z (by simp[u8,u32,Value.oneCell']) J (by have:=Sup.list_len s;simp;omega) (out:=((s.list.take (k+1)).map Aa++List.replicate (7-(k+1)) (Aa 0))) (RA i)) ?_));rintro w H;refine Zc 6 Z (Ad Z (AZ Z Z J (AA (H.cel 2 Z k (T9 i)))) (Ah Z (call122 _) (CK _ _) H ?_));intro w H;refine Ad Z (AM Z Z) (Zc 2 Z (Ag Z (λh2=>U) (λh2=>?_)));refine Z1 7 [] [(k:Int)+1] Z U ?_;replace H:=H.f4.f2.f4.f3.f4;refine gf ?_;intro _ hF;refine ⟨(k+1),hF.cz,⟨H,?_⟩,?_⟩
   ·omega
   omega
  obtain rfl:k=7:=by omega
  refine Zc 2 Z (gx (Zc 4 Z ?_));have H:Sep z (blk a [Aa s.gen,Aa s.epoch,Aa s.pages,Aa s.start,Aa s.len,Aa s.head,Aa s.seq] 92::blk r [.slice (some ⟨b,(o+(4+8*7)),none⟩) (252-(4+8*7)) (c-(4+8*7))] 162::tblA g::A::blk l [Aa 0,Aa 0,Aa 0,Aa 0,Aa 0,Aa 0,Aa 0] 92::R) w:=H;refine Zc 1 Z (Ah Z (call174 _) (Pk _ b (o+(4+8*7)) (252-(4+8*7)) (c-(4+8*7)) ((sec.drop (4+8*7)).take (252-(4+8*7))) _ (λh q=>(f h q).cut (lo:=(4+8*7)) (m:=(252-(4+8*7))) (c':=(c-(4+8*7))) U U U) U) H.f3.f2 ?_);intro w H;refine Ad Z (AM Z Z) (Zc 2 Z (Ag Z (λh3=>?_) (λh3=>?_)))
  ·exact absurd (by rw[d];exact Rz s) h3
  refine Z4 10 [2,7,4] H Z ?_;intro w H;refine Zl [4,7] H Z ?_;exact ⟨_,⟨Z,Z⟩,H.perm 5 [3,1] Z Z⟩
 exact absurd (d▸T8 s) e
theorem Jh(e b o c:Nat)(sec:List UInt8)(A:Ai)(f:∀h,A h->rdH 1 (.slice (some ⟨b,o,none⟩) 256 c) 256 (sec.map u8) h)(n:Nat)(a:sec=List.replicate 256 0):An 66 [V e,.slice (some ⟨b,o,none⟩) 256 c,Aa (n:Int)] [tblA e,A] (λv G=>v=.tuple #[.agg #[Aa 0,.slice none 0 0],.bool true]/\G=[tblA e,A]):=by
 intro z R w H;have d:=H.sy 1 (λq=>(f _ q).len);refine Af func66 Z ntmps66 Z (Za 2 [] H Z ?_);intro i w H;refine Zc 10 Z (AC Z (C8 (k:=256) H Z J A2 Z Z Z U) ?_);rintro _ w ⟨j,rfl,H⟩;refine Ah Z (call119 _) (Tc _ _ sec (List.replicate 256 0) _ _ (λh q=>by rw[d];exact f h q) (λh q=>by rw[X5,ZH];exact q.rd U U O Z)) H.f3 ?_;intro w H;refine Zc 3 Z (Ag Z (λg=>?_) (λg=>?_))
 ·refine Z4 8 [2] H Z ?_;intro w H;refine Zl [2,2] H Z ?_;exact ⟨_,⟨Z,Z⟩,H.perm 4 [3,0] Z Z⟩
 exact absurd a g
theorem Kn(j b o c:Nat)(sec:List UInt8)(A:Ai)(d:∀h,A h->rdH 1 (.slice (some ⟨b,o,none⟩) 256 c) 256 (sec.map u8) h)(n:Nat)(p:Pg)(hp:p.Ok)(x:n<=1023)(a:sec=Dk n p):An 66 [V j,.slice (some ⟨b,o,none⟩) 256 c,Aa (n:Int)] [tblA j,A] (λv G=>∃l,v=.tuple #[.agg #[Aa p.kind,l],.bool true]/\G=[grow 5 1 l 240 (p.body.map u8),tblA j,A]):=by
 intro z R w H;replace H:=H.l2;have f:=H.sy 1 (λq=>(d _ q).len);have a1:=H.sy 1 (λq=>(d _ q).cap);obtain ⟨c0,c1,c2,c3,hd⟩:=K7 f;have a0:=hp.1;refine Af func66 Z ntmps66 Z (Za 2 [] H Z ?_);intro b1 w H;refine Zc 10 Z (AC Z (C8 (k:=256) H Z J A2 Z Z Z U) ?_);rintro _ w ⟨b2,rfl,H⟩;replace H:=H.l4;refine Ah Z (call119 _) (Tc _ _ sec (List.replicate 256 0) _ _ (λh q=>by rw[f];exact d h q) (λh q=>by rw[X5,ZH];exact q.rd U U O Z)) H.f3 ?_;intro w H;refine Zc 3 Z (Ag Z (λr=>?_) (λr=>?_))
 ·exact absurd (a.symm.trans r) (HW hp)
 refine Zc 6 Z (AB Z (call120 _) (JL _ _ _ _ _ sec _ d) H.f3 ?_);rintro _ w _ (⟨e,rfl,rfl⟩|⟨e,rfl,rfl⟩) u
 ·have H:=u.l4;refine Za 3 [] H Z ?_;intro b3 w H;refine Z4 16 [0] H Z ?_;intro w H;refine Ah Z (call121 _) (DL 1 _ b (o+4) 248 (c-4) ((sec.drop 4).take 248) _ (λh q=>(d h q).cut (lo:=4) (m:=248) (c':=(c-4)) U U U) U U ((sec.drop 4).take 1) (by rw[YE,Yz U]) (o+5) 247 (c-5) U U U) H.f2.f1 ?_;intro w H;replace H:=H.l5;refine k_updA 28 (v:=Aa p.kind) Z (congrArg Aa (by rw[a];exact MU hp)) (Za 1 [] H Z ?_);intro b4 w H;refine Z4 10 [0,0,0,0,0] H Z ?_;intro w H;refine Am 33 Z (λt=>U) (λt=>?_)
  refine Z2 5 [0,0,0,0] H Z (Am 38 Z (λy=>U) (λy=>?_));refine Zc 1 Z (Ah Z (call122 _) (CK _ _) H ?_);intro w H;replace H:=H.l6;refine Ad Z (AM Z Z) (Zc 2 Z (Am 43 Z (λh4=>U) (λh4=>?_)));refine Ah Z (call121 _) (DL 4 _ b (o+5) 247 (c-5) ((sec.drop 5).take 247) _ (λh q=>(d h q).cut (lo:=5) (m:=247) (c':=(c-5)) U U U) U U ((sec.drop 5).take 4) (by rw[YE,Yz U]) (o+9) 243 (c-9) U U U) H.f2.f2 ?_;intro w H;replace H:=H.l6;refine k_updA 44 (v:=Aa (n:Int)) Z (congrArg Aa (by rw[a];exact VM hp x)) (Z0 4 [0] Z (Am 48 Z (λs=>?_) (λs=>?_)))
  ·exact absurd Z s
  refine Ah Z (call121 _) (DL 3 _ b (o+9) 243 (c-9) ((sec.drop 9).take 243) _ (λh q=>(d h q).cut (lo:=9) (m:=243) (c':=(c-9)) U U U) U U ((sec.drop 9).take 3) (by rw[YE,Yz U]) (o+12) 240 (c-12) U U U) H ?_;intro w H;replace H:=H.l6;refine k_updA 49 (v:=Aa 0) Z (congrArg Aa (by rw[a];exact NY hp)) (Z2 11 [4,0,0,0] H Z (AB Z (call118 _) (HG _ _ 240 _ p.body _ ((λh q=>by have:=(d h q).cut (lo:=12) (m:=240) (c':=c-12) U U U;rw[a,MV hp] at this;exact this)) U) H.f1 ?_));rintro _ w _ ⟨g,i,rest,rfl,⟨cg,cc,cl⟩,rfl⟩ H;refine Z4 12 [1,3,3,2,6] H Z ?_;intro w H;refine Zl [6,2] H Z ?_;replace H:=(H.mono 0 (B:=grow 5 1 (.slice (some ⟨g,0,none⟩) 240 i) 240 (p.body.map u8)) Z (λh q=>q.grow U U (by simp[hp.2];omega) (by rw[YQ,X8 (by simp[hp.2])];exact X0 (by simp[hp.2])))).l7;exact ⟨_,⟨_,Z,Z⟩,H.perm 7 [0,4,1] Z Z⟩
 exact absurd (a▸VL hp) e
def Ko(D:Dsk)(S:List IE):Dsk:= {D with dur:=λi=>if (i:Int)∈S.map (λp:IE=>p.1) then D.cont i else D.dur i}
theorem HH{es:List Ent}{e:Ent}(c:e∈es){h:Hp}(hs:seps (es.map Ent.row) h):rdH 1 e.v e.pvs.length e.pvs h:=by
 obtain ⟨i,b⟩:=YC c;obtain ⟨h',d,a⟩:=Ea hs (i:=i) (A:=e.row) (by rw[Yb,b];rfl);exact (grow.rd d).le a
theorem Ua{D:Dsk}:Ko D []=D:=by simp[Ko]
theorem Ub{n k:Nat}{bs q:List UInt8}{b:Nat->List UInt8}(f:bs.length=n*256)(hq:q.length=256)(e:k<n)(d:∀i,i<n->(bs.drop (i*256)).take 256=b i):
  (bs.take (k*256)++q++bs.drop (k*256+256)).length=n*256/\∀i,i<n->((bs.take (k*256)++q++bs.drop (k*256+256)).drop (i*256)).take 256=if i=k then q else b i:=by
 have a:(bs.take (k*256)).length=k*256:=by rw[X1];omega
 refine ⟨by simp only[XY,Yr,a];omega,λi c=>?_⟩;rcases Zi i k with h|h|h
 ·rw[if_neg U,<-d i c,X3,Yx (by rw[a];omega),X8 (by rw[Yr,a];omega),ZX,YE,Yz U]
 ·subst h
  rw[if_pos Z,X3,YD,Yk U,Yo,a,AaW,Ym,Z6,X0 U,hq];simp
 rw[if_neg U,<-d i c,YD,Yk (by rw[XY,a];omega),Yo,XY,a,hq,Aa8];congr 2;omega
theorem RB{D:Dsk}{S:List IE}{bs:List UInt8}{es:List Ent}{clk:Nat}{hq:Hp}(d:D.Ok)(a:(Ko D S).In bs es clk hq){p:IE}{k:Nat}(hp:p.1=(k:Int))(b:k<D.n):(Ko D (S++[p])).In (bs.take (k*256)++D.cont k++bs.drop (k*256+256)) es clk hq:=by
 have c:=Ub (q:=D.cont k) a.len (Dsk.cont_len d b) b a.own;refine ⟨c.1,λi e=>?_,a.ent,a.all,a.nodup,a.born,a.clk⟩;rw[c.2 i e];show _=(if (i:Int)∈(S++[p]).map (λp:IE=>p.1) then D.cont i else D.dur i);show (if i=k then D.cont k else (if (i:Int)∈S.map (λp:IE=>p.1) then D.cont i else D.dur i))=_;simp only[Yj,Yn,Y2,Yt,YA,hp];by_cases h:i=k
 ·subst h;rw[if_pos Z,if_pos (.inr Z)]
 rw[if_neg h];have:¬((i:Int)=(k:Int)):=by omega
 simp only[this,or_false]
theorem Uc{D:Dsk}{S:List IE}{bs:List UInt8}{es:List Ent}{clk:Nat}{hq:Hp}(c:(Ko D S).In bs es clk hq)(o:BT (es.map Ent.ie) (S.map λp:IE=>p.2.2)=[])(l:∀p∈S,p∈es.map Ent.ie):Dsk.In {D with dur:=D.cont,ver:=λ_=>[]} bs [] clk hq:=by
 have f:∀i,i<D.n->(Ko D S).dur i=D.cont i:=λi b=>by
  simp only[Ko];split
  ·rfl
  rename_i r;by_cases hv:D.ver i=[]
  ·exact (Ik hv).symm
  obtain ⟨e,a,s⟩:=c.all i b hv;exfalso;have m:e.ie∈es.map Ent.ie:=YP a;by_cases q:e.born∈S.map λp:IE=>p.2.2
  ·obtain ⟨p,hp,k⟩:=X6.1 q
   obtain ⟨t,g,rfl⟩:=X6.1 (l p hp);obtain ⟨v,j⟩:=YC a;obtain ⟨u,d⟩:=YC g;have:=E4 c.born j d k.symm;subst this;rw[j] at d;cases d;exact r (X6.2 ⟨_,hp,by show (e.key:Int)=i;omega⟩)
  have:e.ie∈BT (es.map Ent.ie) (S.map λp:IE=>p.2.2):=by
   simp only[BT,Aa4];exact ⟨m,by simpa [Ent.ie] using q⟩
  rw[o] at this;cases this
 exact ⟨c.len,λi b=>(c.own i b).trans (f i b),λe a=>(by cases a),λi b h=>absurd Z h,by simp,by simp,λe a=>(by cases a)⟩
theorem WV{D:Dsk}(g:D.Ok){f:Nat->List UInt8}(m:∀i,i<D.n->(f i).length=256){a b c e:Int}{d:Bool}(h:0<=a/\a<=1099511627776)(j:0<=b/\b<=1099511627776)(k:0<=c/\c<=1099511627776)(l:0<=e/\e<=1099511627776):Dsk.Ok ⟨D.n,f,λ_=>[],a,b,c,d,e⟩:=
 ⟨g.n1,g.n2,m,λi o p hp=>(by cases hp),h,j,k,l⟩
set_option maxHeartbeats 1000000 in
theorem Gg (pd:Nat) (D:Dsk):An 70 [V pd] [diskA pd D] (λv G=>((D.f3=1\/(D.cut=true/\D.left=0))/\v=Aa 12/\G=[diskA pd {D with f3:=AP D.f3}])\/(¬(D.f3=1\/(D.cut=true/\D.left=0))/\v=Aa 0/\G=[diskA pd D.fl])):=by
 intro z R w H;replace H:=H.l1;obtain ⟨bd,m,f0,bs,es,clk,hq,c,o,H'⟩:=H.disk;clear H;have b7:=c.n1;have b6:=c.n2;have c0:=c.f3;have b8:=c.left;have H:=H'.l5;have a0:∀p∈es.map Ent.ie,p.2.2<clk:=λp hp=>by obtain ⟨e,he,rfl⟩:=X6.1 hp;exact o.clk e he
 have b1:(es.map Ent.ie).map (λp:IE=>p.2.2)=es.map Ent.born:=by rw[Zp];rfl
 have hn:((es.map Ent.ie).map λp:IE=>p.2.2).Nodup:=by rw[b1];exact o.born
 refine Af func70 Z ntmps70 Z (Zc 9 Z (Ah Z (call117 _) (Ro _ _ _ _ _ _ _ _ _ _ U) H ?_));intro w H;refine Zc 1 Z (Am 7 Z (λh1=>?_) (λh1=>?_))
 ·refine Zc 12 Z (Zr Z ?_);replace H:=(Sep.toDisk (D:= {D with f3:=AP D.f3}) (pd:=pd) (bd:=bd) (m:=m) (f0:=f0) (bs:=bs) (es:=es) (clk:=clk) (hq:=hq) (Γ:=R) H (c.f c.f1 c.f2 (El c.f3) c.left) (o.f _ _ _ _ _)).l1
  exact ⟨_,.inl ⟨by simp_all,Z,Z⟩,H⟩
 refine Zc 1 Z (Ah Z (call124 _) (Ph _ _ _ _ _ _ _ _ _ _) H ?_);intro w H;refine Zc 3 Z (Fz Z (λh2=>?_) (λh2=>?_))
 ·refine Zc 6 Z (Zr Z ?_);replace H:=(Sep.toDisk (D:= {D with f3:=AP D.f3}) (pd:=pd) (bd:=bd) (m:=m) (f0:=f0) (bs:=bs) (es:=es) (clk:=clk) (hq:=hq) (Γ:=R) H (c.f c.f1 c.f2 (El c.f3) c.left) (o.f _ _ _ _ _)).l1
  exact ⟨_,.inl ⟨by simp_all,Z,Z⟩,H⟩
 refine Z2 9 [1,0,0] H Z (AC Z (HD 2 (e:=107) H Z Z J Z) ?_);rintro _ w ⟨rr,rfl,H⟩;replace H:=H.l6;refine Zc 3 Z ?_;refine Ap (σ:=List IE×List UInt8) (λ⟨S,b⟩=>[(0,V pd),(2,Aa 0),(15,V rr)])
   (λ⟨S,b⟩ w=>Sep z (Gc rr m clk (S.map λp:IE=>p.2.2)::blk pd [.slice (some ⟨bd,0,none⟩) (D.n*256) (D.n*256),.map (some m),Aa f0,Aa D.f1,Aa D.f2,Aa (if D.f3=0 then 0 else D.f3-1),.bool D.cut,Aa D.left] 106::blk bd (b.map u8) 5::AG m (es.map Ent.ie) clk::poolA hq::seps (es.map Ent.row)::R) w/\((∀p∈S,p∈es.map Ent.ie)/\(Ko D S).In b es clk hq)) (λ⟨S,b⟩=>(BT (es.map Ent.ie) (S.map λp:IE=>p.2.2)).length) ⟨[],bs⟩
   (λ_ hF=>(hF.all Z)) ⟨H,λp hp=>absurd hp O,by rw[Ua];exact o⟩ ?_
 clear H;rintro ⟨S,b⟩ w ⟨H',hI⟩;dsimp only at hI H' ⊢;have H:=H'.l6;obtain ⟨hS,l⟩:=hI;refine Zc 2 Z (AC Z (Jc 0 3 H Z Z Z Z a0) ?_);rintro _ w ⟨qx,rfl,u,H⟩;replace H:=H.l6;refine Ad Z (KN Z Z) (Zc 3 Z (Fz Z (λh3=>?_) (λh3=>?_)))
 ·obtain ⟨p1,rfl⟩:=YH.1 h3;refine Zc 5 Z ?_;obtain ⟨⟨g,ve,a,ps,bo⟩,d,rfl⟩:=X6.1 (Dl u).1;obtain ⟨a1,t,y,a8,a6⟩:=l.ent _ d;obtain ⟨ao,cc,a3⟩:=H.sy 5 (λq=>(HH d q).slc);dsimp only at a3 a1 t y a8 a6
  subst a3;have a7:=H.rv 5 (λq=>HH d q);have a9:=H.sy 5 (λq=>(HH d q).small);dsimp only at a9;have b3:0<a.length:=by rw[y];exact List.length_pos_iff.2 a8
  have a2:g<D.n:=a1;obtain ⟨pv,s⟩:∃pv,a[a.length-1]?=some pv:=⟨_,XW U⟩;obtain ⟨p,hp⟩:∃p,ps[a.length-1]?=some p:=⟨_,XW U⟩;have b2:D.cont g=p:=Ke (n:=a.length) (by rw[y,t];rfl) (by rw[show D.ver g=ps from t.symm];exact hp);obtain ⟨x,a4⟩:=a6 _ _ _ s hp;have b0:=a7.at s;refine Ad Z (HE (p:=(Ent.ie ⟨g,.slice ao a.length cc,a,ps,bo⟩)) Z Z (AA ⟨H.bk 0 Z,H.bk 3 Z⟩) (YP d) hn) (Zc 6 Z (A1 (Sep z (Gc rr m clk (HX (S.map λp:IE=>p.2.2) (some (Ent.ie ⟨g,.slice ao a.length cc,a,ps,bo⟩)))::blk pd [.slice (some ⟨bd,0,none⟩) (D.n*256) (D.n*256),.map (some m),Aa f0,Aa D.f1,Aa D.f2,Aa (if D.f3=0 then 0 else D.f3-1),.bool D.cut,Aa D.left] 106::blk bd (b.map u8) 5::AG m (es.map Ent.ie) clk::poolA hq::seps (es.map Ent.row)::R)) 10 Z J (A9 H λw H'=>?_)));have H:=H'.l6;refine BA [0,1,3,4] [] J (λ_ _=>AU) (by exact H.pick 6 [0,1,2,3,4,5] Z) Z J Z Z (Bg 5 J Z Z J J J Z Z Z (D4 Z (z:=1) J Z) (H.pick 6 [0,1,2,3,4,5] Z) (Bg 6 J Z Z J J J Z Z Z (Ju Z Z Z (r:=((a.length-1:Nat):Int)) U U) (H.pick 6 [0,1,2,3,4,5] Z) (Bg 7 J Z Z J J J Z Z Z (Ar Z (z:=1) (j:=(a.length-1)) (r:=(a.length-1)) J Z Z Z U b0 U) (H.pick 6 [0,1,2,3,4,5] Z) (Bg 8 J Z Z J J J Z Z Z (AK Z Z J (λ_ hx=>(hx.rv 5 (λq=>HH d q)).at s)) (H.pick 6 [0,1,2,3,4,5] Z) (Ay [2] J O (Az (BF Z Z Z Z Z Z (λw=>call72 _ w) (S9 _ _ _ _ _ _ _ _ _ _ g U U) H.f1 Z ?_)))))));rintro _ w _ ⟨rfl,rfl⟩ H;replace H:=H.l6;refine Ax (λ_=>(H.pick 6 [1,0,2,3,4,5] Z)) (Ay [9] J O (Az (Ck Z Z Z Z (G7 2 H Z Z J Z Z (m:=256) (news:=(p.map u8)) (.inl (H.rv 4 (λq=>a4.le q))) (by simp[u8,Value.oneCell']) (by have:=l.len;simp;omega) (k:=256) U (out:=((b.take (g*256)++p++b.drop (g*256+256)).map u8)) (by simp[x,X0])) ?_)));rintro _ w ⟨rfl,H⟩;replace H:=H.l6;refine Ax (λh=>absurd Z h) (Bi J (gn (Zc 1 Z ?_)));replace H:=H.f5.f5.f5.f5.f4.f5;refine gf ?_;intro _ hF;refine ⟨⟨S++[(Ent.ie ⟨g,.slice ao a.length cc,a,ps,bo⟩)],(b.take (g*256)++p++b.drop (g*256+256))⟩,(hF.all Z),⟨(by dsimp only;rw[Yj];exact H),?_⟩,?_⟩
  ·refine ⟨λp hp=>?_,?_⟩
   ·rcases Yt.1 hp with hp|hp
    ·exact hS p hp
    simp at hp;subst hp;exact YP d
   have:=RB c l (p:=(Ent.ie ⟨g,.slice ao a.length cc,a,ps,bo⟩)) (k:=g) Z a2;rwa[b2] at this
  (dsimp only;have:=ED u;rwa[show (S++[(Ent.ie ⟨g,.slice ao a.length cc,a,ps,bo⟩)]).map (λp:IE=>p.2.2)=(S.map λp:IE=>p.2.2)++[bo] from by simp[Ent.ie]])
 obtain rfl:qx=none:=by simpa using h3
 refine Zc 2 Z (gx (Zc 3 Z ?_));have a5:=Uc l u hS;refine Z2 5 [1,1,0] H Z (I0 Z Z (JJ 3 (e:=107) H Z Z J Z) ?_);rintro _ w ⟨rfl,H⟩;replace H:=H.l6;refine Z3 10 [7,1,0] [D.left-1] H Z U (Ad Z (SU Z Z Z) (Z4 11 [7,1] H Z ?_));intro w H;refine Zr Z ?_;replace H:=(H.mono 5 (B:=seps (([]:List Ent).map Ent.row)) Z (λh q=>⟨λ_=>0,λi A hi=>by simp at hi⟩)).l6;replace H:=H.f5.f5.f5.f5.f5;replace H:=(Sep.toDisk (D:=D.fl) (pd:=pd) (bd:=bd) (m:=m) (f0:=f0) (bs:=b) (es:=([]:List Ent)) (clk:=clk) (hq:=hq) (Γ:=Gc rr m clk (HX (S.map λp:IE=>p.2.2) none)::R) H (WV c (λi hi=>Dsk.cont_len c hi) c.f1 c.f2 (El c.f3) U) (a5.f _ _ _ _ _)).l2;exact ⟨_,.inr ⟨by simp_all,Z,Z⟩,H.perm 2 [0] Z Z⟩
def wr1(D:Dsk)(fua:Bool)(i:Nat)(p:List UInt8):Dsk:= {Dsk.ws {D with f2:=AP D.f2} fua i [p] with left:=max 0 (D.left-1)}
theorem Iw(pd b d c:Nat)(D:Dsk)(x:Int)(a:Bool)(p:List UInt8)(A:Ai)(hp:p.length=256)(k:∀h,A h->rdH 1 (.slice (some ⟨b,d,none⟩) 256 c) 256 (p.map u8) h)(e:∀i,(D.ver i).length<=1099511627776)(j:0<=x/\x+1<=(D.n:Int)):
  An 134 [V pd,Aa x,.slice (some ⟨b,d,none⟩) 256 c,.bool a] [diskA pd D,A] (λv G=>(D.bad/\v=Aa 11/\G=[diskA pd D.wf,A])\/(¬D.bad/\v=Aa 0/\G=[diskA pd (wr1 D a x.toNat p),A])):=by
 have h:=MT pd b d c D x a [p] A (by simpa using hp) O e (λh q=>by simpa using k h q);refine Cn.mono h ?_;have f:0<=x/\x+(([p]:List (List UInt8)).length:Int)<=(D.n:Int):=by simpa using j
 rintro v Γ (⟨g,_⟩|⟨_,g,rfl,rfl⟩|⟨_,g,rfl,rfl⟩)
 ·exact absurd f g
 ·exact .inl ⟨g,Z,Z⟩
 exact .inr ⟨λh=>by rcases h with h|h;exact g.1 h;exact g.2 h,Z,Z⟩
theorem Gh(pd:Nat)(D:Dsk):An 127 [V pd] [diskA pd D] (λv G=>v=Aa (D.n:Int)/\G=[diskA pd D]):=by
 refine Cn.mono (Cn.onDisk (post:=λv Γ=>v=Aa (D.n:Int)/\Γ=[]) (pre:=[]) (λb bd m f0=>?_)) ?_
 ·have a:=b.n2
  refine Cn.mono (Jd pd bd m (D.n*256) f0 D.f1 D.f2 D.f3 D.left D.cut U) ?_;rintro v Γ ⟨rfl,rfl⟩;exact ⟨[],⟨congrArg Aa U,Z⟩,Z⟩
 rintro v Γ ⟨Γ',⟨rfl,rfl⟩,rfl⟩;exact ⟨Z,Z⟩
theorem Lw(pd f:Nat)(D:Dsk)(s:Sup)(b:s.Ok (D.n:Int))(d:∀i,(D.ver i).length<=1099511627776):An 135 [V pd,V f,.agg #[Aa s.gen,Aa s.epoch,Aa s.pages,Aa s.start,Aa s.len,Aa s.head,Aa s.seq]] [diskA pd D,tblA f] (λv G=>(D.bad/\v=Aa 11/\G=[diskA pd D.wf,tblA f])\/(¬D.bad/\v=Aa 0/\G=[diskA pd (En D s),tblA f])):=by
 intro z R w H;have k:=H.sy 0 (λq=>(diskA.ok q).n1);have o:=H.sy 0 (λq=>(diskA.ok q).n2);have m:=Sup.get b;have g:=b.2;refine Af func135 Z ntmps135 Z (Za 2 [] H Z ?_);intro p w H;refine Zc 5 Z (A4 (Sep z _) J J H.drew (IY 9 [0,7] [] Z J (CO Z Z Z Z Z (λw=>call127 _ w) (v:=Aa (D.n:Int)) (cq (Gh _ _) (by rintro _ _ ⟨rfl,rfl⟩;exact ⟨Z,Z⟩) 2 [1,0] [1,0] Z Z Z Z) (CO Z Z Z Z Z (λw=>call129 _ w) (v:=Aa (if s.Ok (D.n:Int) then 0 else 1)) (cq (Ge _ _ U) (by rintro _ _ ⟨rfl,rfl⟩;exact ⟨Z,Z⟩) 0 [] [] Z Z Z Z) (Ca 2 [] Z J (Bn (λw e=>?_)))))));have H:=e.l3;refine gn (Zc 1 Z (Ag Z (λj=>?_) (λj=>?_)))
 ·exact absurd (if_pos b) j
 refine Z2 6 [0,7] H Z (AB Z (call182 _) (NZ _ _ (λx l=>b.1 x l)) H.f2 ?_);rintro _ w _ ⟨r,rfl,rfl⟩ H;refine Z3 24 [4,0,2,0] [s.gen%2] H Z U (AB Z (call134 _) (Iw _ _ _ _ _ _ _ (Br s) _ (Dn s) (λh q=>Hc (lo:=0) (n:=256) (c:=256) (ys:=Br s) q (Dn s) U U U (by rw[Ym];exact X0 (YY (Dn s)))) d U) H.f3 ?_);rintro _ w _ (⟨a,rfl,rfl⟩|⟨a,rfl,rfl⟩) e
 ·have H:=e.l4;refine Zc 4 Z (Zr Z ?_);exact ⟨_,.inl ⟨a,Z,Z⟩,H.perm 4 [0,2] Z Z⟩
 have H:=e.l4;refine Zc 4 Z (Zr Z ?_);exact ⟨_,.inr ⟨a,Z,Z⟩,H.perm 4 [0,2] Z Z⟩
set_option maxHeartbeats 1000000 in
theorem VN (pd pt:Nat) (D:Dsk) (e:D.f1=0) (x b c:Sup) (g:b.Ok (D.n:Int)) (f:c.Ok (D.n:Int)) (g0:b.gen%2=0) (g1:c.gen%2=1) (c0:D.cont 0=Br b) (c1:D.cont 1=Br c) (a:x=if b.gen<c.gen then c else b):An 74 [V pd,V pt] [diskA pd D,tblA pt] (λv G=>v=.tuple #[.agg #[Aa x.gen,Aa x.epoch,Aa x.pages,Aa x.start,Aa x.len,Aa x.head,Aa x.seq],Aa 0]/\G=[diskA pd D,tblA pt]):=by
 intro z R w H;have a5:=H.sy 0 (λq=>(diskA.ok q).n1);have a4:=H.sy 0 (λq=>(diskA.ok q).n2);have a1:=Sup.get g;have a6:=Sup.get f;have a2:=g.2;have a3:=f.2;refine Af func74 Z ntmps74 Z (Za 2 [] H Z ?_);intro b1 w H;refine Zc 14 Z (Ah Z (call127 _) (Gh _ _) H.f1 ?_);intro w H;refine Z0 4 [0] Z (Ag Z (λh1=>U) (λh1=>?_));refine Za 4 [] H Z ?_;intro b2 w H;refine Zc 14 Z (Iu 3 (Eo (Z0 21 [3] Z (AB Z (call65 _) (Hi _ _ _) H.f1 ?_))));rintro _ w _ (⟨a,_,_⟩|⟨_,a,_,_⟩|⟨_,_,g0,i,t,rfl,⟨o,l,p⟩,rfl⟩) d
 ·exact absurd ⟨by omega,by omega⟩ a
 ·(rw[e] at a;cases a)
 rw[diskA.f1 e] at d;have H:=d.l5;refine Z5 25 [4,2,1,0,0,2] [1] H Z U ?_;intro w H;refine gf (Eo (Z0 21 [3] Z (AB Z (call65 _) (Hi _ _ _) H.f1 ?_)));rintro _ w _ (⟨a,_,_⟩|⟨_,a,_,_⟩|⟨_,_,g1,k,s,rfl,⟨a0,y,r⟩,rfl⟩) d
 ·exact absurd ⟨by omega,by omega⟩ a
 ·(rw[e] at a;cases a)
 rw[diskA.f1 e] at d;have H:=d.l6;refine Z5 25 [4,2,1,1,1,3] [2] H Z U ?_;intro w H;refine gf (Eo (Z0 9 [4] Z (gx (Zc 13 Z (Ad Z (AQ Z Z (out:=[Aa (-1),Aa 0,Aa 0,Aa 0,Aa 0,Aa 0,Aa 0]) J) (Za 0 [] H Z ?_))))));intro b3 w H;refine Z4 11 [0,4,2] H Z ?_;intro w H;refine Iu 3 (Eo (Z0 14 [3] Z (Ad Z (Ee (m:=2) Z J Z Z Z (j:=0) Z (u:=.slice (some ⟨g0,0,none⟩) 256 i) Z) (Zc 8 Z (Ah Z (call128 _) (Jg _ _ _ _ (D.cont (0:Int).toNat) _ (λh q=>DJ q (by rw[show D.cont (0:Int).toNat=Br b from c0];exact Dn _) ⟨o,l,p⟩) b g.1 c0) H.f3.f6 ?_)))));intro w H;refine Za 3 [] H Z ?_;intro b4 w H;refine Z4 5 [0] H Z ?_;intro w H;refine A4 (Sep z _) J J H.drew (IY 4 [0,7] [] Z J (CO Z Z Z Z Z (λw=>call127 _ w) (v:=Aa (D.n:Int)) (cq (Gh _ _) (by rintro _ _ ⟨rfl,rfl⟩;exact ⟨Z,Z⟩) 6 [5,0,1,2,3,4] [1,2,3,4,5,0] Z Z Z Z) (CO Z Z Z Z Z (λw=>call129 _ w) (v:=Aa (if b.Ok (D.n:Int) then 0 else 1)) (cq (Ge _ _ U) (by rintro _ _ ⟨rfl,rfl⟩;exact ⟨Z,Z⟩) 0 [] [] Z Z Z Z) (Ca 3 [] Z J (Co 68 Z (λh2=>?_) (λh2=>?_))))))
 ·refine F8 7 [0,0,0,0] [b.gen%2] Z J U (Co 75 Z (λh3=>?_) (λh3=>?_))
  ·refine EM 6 [0,0,0,1] (λ_ a=>(A3 (a.blk 0 Z) (A3 (a.blk 3 Z) AU))) Z J Z (Bn (λw d=>?_));have H:=d.l8;refine gn (Zc 1 Z (Ag Z (λh4=>?_) (λh4=>?_)))
   ·refine Z5 10 [0,7,3] [1] H Z U ?_;intro w H;refine gf (Eo (Z0 14 [3] Z (Ad Z (Ee (m:=2) Z J Z Z Z (j:=1) Z (u:=.slice (some ⟨g1,0,none⟩) 256 k) Z) (Zc 8 Z (Ah Z (call128 _) (Jg _ _ _ _ (D.cont (1:Int).toNat) _ (λh q=>DJ q (by rw[show D.cont (1:Int).toNat=Br c from c1];exact Dn _) ⟨a0,y,r⟩) c f.1 c1) H.f4.f2 ?_)))));intro w H;refine Za 3 [] H Z ?_;intro b5 w H;refine Z4 5 [0] H Z ?_;intro w H;refine A4 (Sep z _) J J H.drew (IY 4 [0,7] [] Z J (CO Z Z Z Z Z (λw=>call127 _ w) (v:=Aa (D.n:Int)) (cq (Gh _ _) (by rintro _ _ ⟨rfl,rfl⟩;exact ⟨Z,Z⟩) 7 [6,0,1,2,3,4,5] [1,2,3,4,5,6,0] Z Z Z Z) (CO Z Z Z Z Z (λw=>call129 _ w) (v:=Aa (if c.Ok (D.n:Int) then 0 else 1)) (cq (Ge _ _ U) (by rintro _ _ ⟨rfl,rfl⟩;exact ⟨Z,Z⟩) 0 [] [] Z Z Z Z) (Ca 3 [] Z J (Co 68 Z (λh5=>?_) (λh5=>?_))))))
    ·refine F8 7 [0,0,0,0] [c.gen%2] Z J U (Co 75 Z (λh6=>?_) (λh6=>?_))
     ·refine EM 6 [0,0,0,1] (λ_ a=>(A3 (a.blk 0 Z) (A3 (a.blk 5 Z) AU))) Z J Z (Bn (λw d=>?_));have H:=d.l9;refine gn (Zc 1 Z (Ag Z (λh7=>?_) (λh7=>?_)))
      ·refine Z5 10 [0,7,5] [2] H Z U ?_;intro w H;refine gf (Eo (Z0 9 [4] Z (gx (Z2 10 [0,5,0,0] H Z (Ag Z (λh8=>U) (λh8=>?_))))))
       refine Z4 10 [5,7,8] H Z ?_;intro w H;refine Zl [8,7] H Z ?_;obtain rfl:x=c:=by rw[a];first|exact if_pos U|exact if_neg U
       exact ⟨_,⟨rfl,rfl⟩,H.perm 9 [6,1] rfl rfl⟩
      refine Z1 7 [] [2] Z U (gf (Eo (Z0 9 [4] Z (gx (Z2 10 [0,5,0,0] H Z (Ag Z (λh9=>U) (λh9=>?_)))))));refine Z4 10 [5,7,8] H Z ?_;intro w H;refine Zl [8,7] H Z ?_;obtain rfl:x=b:=by rw[a];first|exact if_pos U|exact if_neg U
      exact ⟨_,⟨rfl,rfl⟩,H.perm 9 [6,1] rfl rfl⟩
     (exfalso;omega)
    exact absurd (if_pos f) h5
   (exfalso;omega)
  (exfalso;omega)
 exact absurd (if_pos g) h2
theorem RC(g m clk:Nat)(l:List IE)(d:∀p∈l,p.2.2<clk)(o:(l.map λp:IE=>p.2.2).Nodup):VD prog 207 [V g] [blk g [.map (some m)] 95,AG m l clk] (XF l) [] (Rx l):=by
 intro z k J_ n w a;have H:=a.l2;refine Lj (args:=[.func (.yield k) #[] #[],V g]) func207 Z Z 14 ntmps207 Z ?_;refine CR ?_;refine Cb ?_;refine s_do Z Z Z (AZ Z Z J (AA (H.cel 0 Z 0 Z))) ?_;refine Fa Z Z Z (HD 1 (e:=40) H Z Z J Z) ?_;rintro _ w ⟨i,rfl,a⟩;have H:=a.l3;refine AN ?_;refine ET ?_;refine ML (σ:=List IE) (λs=>[(0,.func (.yield k) #[] #[]),(5,V i)])
  (λs w=>Sep z (Gc i m clk (s.map λp:IE=>p.2.2)::blk g [.map (some m)] 95::AG m l clk::J_ s) w/\(True)) (λs=>(BT l (s.map λp:IE=>p.2.2)).length) ([])
  (λ_ f=>(f.all Z)) ⟨H,trivial⟩ ?_
 clear H;rintro s w ⟨a,q⟩;have H:=a.l3;refine CR ?_;refine Cb ?_;refine Fa Z Z Z (Jc 0 2 H Z Z Z Z d) ?_;rintro _ w ⟨j,rfl,b,a⟩;have H:=a.l3;refine s_do Z Z Z (KN Z Z) ?_;refine AN ?_;refine CR ?_;refine JH Z (λh=>?_) (λh=>?_)
 ·-- yes:j.isSome
  obtain ⟨c,rfl⟩:=YH.1 h;refine HC ?_;refine ET ?_;refine CR ?_;refine Cb ?_;refine s_do Z Z Z (HE (p:=c) Z Z (AA ⟨H.bk 0 Z,H.bk 2 Z⟩) (Dl b).1 o) ?_;refine s_do Z Z Z (E1 Z Z Z) ?_;refine s_do Z Z Z (Bq Z Z) ?_;refine AN ?_;refine CR ?_;refine Li ?_;refine EC Z Z Z (C7 Z Z) ?_;refine EC Z Z Z (C7 Z Z) ?_;replace H:=H.f2.f2;refine MN Z Z Z Z Z Z (n s _ (s++[c]) [Gc i m clk ((s.map λp:IE=>p.2.2)++[c.2.2])] ⟨c,b,Z,Z⟩ _ H) ?_;rintro _ w ⟨rfl,a⟩;refine ⟨_,Z,?_⟩;have H:=a.l3;refine EC Z Z Z (KH Z Z) ?_;refine S7 ?_;refine Is Z ?_;refine HC ?_;replace H:=H.f1.f1.f2;intro _ f;refine ⟨(s++[c]),(f.all Z),⟨(by rw[Yj];exact H),?_⟩,?_⟩
  ·trivial
  (have:=ED b;rwa[show (s++[c]).map (λp:IE=>p.2.2)=(s.map λp:IE=>p.2.2)++[c.2.2] from by simp])
 -- no:j.isSome
 obtain rfl:j=none:=by simpa using h
 refine MK ?_;refine IS ?_;exact λ_ f=>⟨f.defers,s,b,H.perm 3 [1,2] Z Z⟩
theorem Lx(f m clk:Nat)(l:List IE)(h:∀p∈l,p.2.2<clk)(r:(l.map λp:IE=>p.2.2).Nodup)(a0:l.length<=1099511627776):An 214 [.slice none 0 0,.func (.func 207) #[] #[V f]] [blk f [.map (some m)] 95,AG m l clk] (λv G=>∃s:List IE,s.Perm l/\G=[blk f [.map (some m)] 95,AG m l clk,grow 3 1 v s.length (kC s)]):=by
 intro z R w b;have H:=b.l2;refine Pa func214 Z 13 ntmps214 Z (AO (AF (Fa Z Z Z (Fh H Z Z (cs:=[.slice none 0 0]) Z) ?_)));rintro _ w ⟨n,rfl,b⟩;have H:=b.l3;refine BI 1 Z Z (AN (AO (AO (AF (BI 1 Z Z (AN (Fk ?_)))))));have b:=H.nilg 3 1;have H:=b.l4;replace H:=H.f1;have b:=H.toVec (l:=l) (s:=[]) O O;have H:=b.l3;replace H:=H.f2.f2;have b:=Sep.swap (As:=[blk f [.map (some m)] 95,AG m l clk]) (Bs:=(vecA n l []::R)) H;clear H;refine Rl (λs=>(vecA n l s::R)) Z (λu w=>call207 u w) Z (RC f m clk l h r) b ?_ ?_
 ·rintro ro s v s2 ⟨p,hp,rfl,rfl⟩ w;refine Cb (BI 1 Z Z (AN ?_));refine λa y=>⟨Z,λF w b=>?_⟩
  revert a y;have H:=b.l1;obtain ⟨c,g,b⟩:=H.vec;clear H;have H:=b.l2;have x:=Jf c;refine ET (Cb (F7 2 [0] (A3 (H.blk 0 Z) AU) Z J Z (Fa Z Z Z (AI H Z J (Elt.mk (P:=prog) (e:=3) (z:=Aa 0) (sz:=1) (by_:=8) J Z U U) Z (by decide) (by decide) (out:=[Aa p.1]) J) ?_)));rintro _ w ⟨b2,rfl,b⟩;have H:=b.l3;refine Fa Z Z Z (AJ 2 H Z Z J (Elt.mk (P:=prog) (e:=3) (z:=Aa 0) (sz:=1) (by_:=8) J Z U U) Z Z (H.rv 0 (·.rd U U O Z)) (by simp[Value.oneCell']) U) ?_;rintro t w b;have b:Sep z (blk b2 [Aa p.1] 3::blk n [g] 22::grow 3 1 t (s.length+1) (kC s++[Aa p.1])::(R++F)) w:=b;have q:(kC s++[Aa p.1]:List Value)=kC (s++[p]):=T7 s p;rw[q] at b;rw[show (s.length+1:Nat)=(s++[p]).length from by simp] at b;have H:=b.l3;have k:=H.sy 2 (·.slc);refine EY Z Z (NH 1 H Z Z Z Z k.cells k.one J) ?_;rintro w b;have H:=b.l3;refine AN ?_;replace H:=H.d;have j:=F0 c hp;exact λ_ _=>H.toVec j.1 j.2
 rintro D0 w s i b;have H:=b.l2;replace H:=H.f1;obtain ⟨c,g,b⟩:=H.vec;clear H;have H:=b.l3;refine AO (AF (F7 2 [0] (A3 (H.blk 0 Z) AU) Z J Z (AN (DY ?_))));replace H:=H.f2;refine Pb H (rs:=[.tmp 4]) Z [g] (λ_=>⟨Z,trivial⟩) (v:=g) Z (λw b=>?_);clear H;have H:=b.l2;have b:=Sep.swap (As:=grow 3 1 g s.length (kC s)::R) (Bs:=[blk f [.map (some m)] 95,AG m l clk]) (H.pick 2 [1] Z);exact ⟨[blk f [.map (some m)] 95,AG m l clk,grow 3 1 g s.length (kC s)],⟨s,HY r c i,Z⟩,b⟩
theorem MW(m:Nat):An 166 [.map (some m)] [] (λv G=>∃a,v=.func (.func 207) #[] #[V a]/\G=[blk a [.map (some m)] 95]):=by
 intro z R w H;refine Af func166 Z ntmps166 Z (Za 2 [] H Z ?_);intro b w H;refine Zc 5 Z (Ad Z (GD Z Z Z) (Zc 4 Z (Zr Z ?_)));exact ⟨_,⟨b,Z,Z⟩,H⟩
theorem N0(c m clk:Nat)(l:List IE)(a:∀p∈l,p.2.2<clk)(e:(l.map λp:IE=>p.2.2).Nodup)(b:l.length<=1099511627776):An 172 [.func (.func 207) #[] #[V c]] [blk c [.map (some m)] 95,AG m l clk] (λv G=>∃s:List IE,s.Perm l/\G=[blk c [.map (some m)] 95,AG m l clk,grow 3 1 v s.length (kC s)]):=by
 intro z R w H;refine Af func172 Z ntmps172 Z (Zc 8 Z (AB Z (call214 _) (Lx _ _ _ _ a e b) H ?_));rintro f w _ ⟨s,hs,rfl⟩ H;refine Zc 4 Z (Zr Z ?_);exact ⟨_,⟨s,hs,Z⟩,H⟩
theorem Kp(b m clk:Nat)(l:List IE)(a:∀p∈l,p.2.2<clk)(i:(l.map λp:IE=>p.2.2).Nodup)(d:l.length<=1099511627776):An 125 [.func (.func 207) #[] #[V b]] [blk b [.map (some m)] 95,AG m l clk] (λv G=>∃s:List IE,s.Perm l/\G=[grow 3 1 v ((s.map λp:IE=>p.1).mergeSort (λx y=>decide (x<=y))).length (((s.map λp:IE=>p.1).mergeSort (λx y=>decide (x<=y))).map Aa),blk b [.map (some m)] 95,AG m l clk]):=by
 intro z R w H;refine Af func125 Z ntmps125 Z (Zc 8 Z (AB Z (call172 _) (N0 _ _ _ _ a i d) H ?_));rintro e w _ ⟨s,hs,rfl⟩ H;refine Zc 6 Z ?_;have c:(s.map λp:IE=>p.1).length=s.length:=by simp
 have g:=hs.length_eq;replace H:=(H.mono 2 (B:=grow 3 1 e (s.map λp:IE=>p.1).length ((s.map λp:IE=>p.1).map Aa)) Z (λh q=>by rw[c,Zp];exact q)).l3;refine AB Z (call101 _) (Pq _ _ U) H.f2 ?_;rintro _ w _ ⟨rfl,ys,rfl,rfl⟩ H;refine Zc 9 Z (Zr Z ?_);exact ⟨_,⟨s,hs,Z⟩,H⟩
def Ef(f:Bc)(ks:List Int):Prop:=ks.Pairwise (· < ·)/\∀k:Int,k∈ks↔0<=k/\(f k.toNat).isSome=true
def pgLst(f:Bc)(ks:List Int):List (Nat×Pg):=ks.map λk=>(k.toNat,(f k.toNat).getD DP)
theorem DD{f:Bc}{a:List Int}(h:Ef f a)(n:Nat)(p:Pg):(n,p)∈pgLst f a↔f n=some p:=by
 unfold pgLst;rw[X6];constructor
 ·rintro ⟨k,c,e⟩
  obtain ⟨i,g⟩:=(h.2 k).1 c;obtain ⟨q,hq⟩:=YH.1 g;rw[hq] at e;simp only[AaY,AaK] at e;obtain ⟨b,d⟩:=e;rw[<-b,hq,d]
 intro e;refine ⟨(n:Int),(h.2 _).2 ⟨by omega,by rw[YB,e];rfl⟩,?_⟩;rw[YB,e];rfl
theorem DV{f:Bc}{c:List Int}(h:Ef f c):((pgLst f c).map Prod.fst).Nodup:=by
 unfold pgLst;rw[Zp];refine Zk.2 (List.Pairwise.imp_of_mem ?_ h.1);intro a b d g e;have i:=((h.2 a).1 d).1;have j:=((h.2 b).1 g).1;simp only[Aaa];omega
theorem RD{f:Bc}{a:List Int}{j n:Nat}{p:Pg}(c:a[j]?=some (n:Int))(b:f n=some p):(pgLst f a)[j]?=some (n,p):=by
 unfold pgLst;rw[Yb,c];simp[b]
theorem Ud{D:Dsk}{l:List (Nat×Pg)}{j n:Nat}{p:Pg}(h:l[j]?=some (n,p)):wr1 (hwD D (l.take j)) false ((2:Int)+(n:Int)).toNat (Dk n p)=hwD D (l.take (j+1)):=by
 rw[Ye,h];show _=hwD D (l.take j++[(n,p)]);rw[Ri,show ((2:Int)+(n:Int)).toNat=2+n from by omega];rfl
def Dsk.flb(D:Dsk):Prop:=D.f3=1\/(D.cut=true/\D.left=0)
def JM(D:Dsk)(l:List (Nat×Pg))(c:Int)(D2:Dsk):Prop:=
 (∃j,(hwD D (l.take j)).bad/\c=11/\D2=(hwD D (l.take j)).wf)\/((hwD D l).flb/\c=12/\D2= {hwD D l with f3:=AP (hwD D l).f3})\/((hwD D l).fl.bad/\c=11/\D2=(hwD D l).fl.wf)
theorem PgsIn.small{f:Bc}{es:List PgE}{clk:Nat}{hq:Hp}(h:PgsIn f es clk hq)(a:∀n,(f n).isSome=true->n<1024):es.length<=1024:=by
 have:=Gf (s:=es.map PgE.n) (l:=List.range 1024) h.nodup (λk b=>by
  obtain ⟨e,c,rfl⟩:=X6.1 b;exact Y1.2 (a _ (by rw[(h.ent e c).1];rfl)))
 simpa using this
theorem RE(ps pd m md:Nat)(x:Sup)(l k:Value)(j:Bool)(f:Bc)(hq:Hp)(b:∀n,(f n).isSome=true->n<1024):An 132 [V ps] [stB ps pd m x l md j k,pgsA md f hq] (λv G=>(∃g:List Int,Ef f g/\G=[grow 3 1 v g.length (g.map Aa),stB ps pd m x l md j k,pgsA md f hq])):=by
 intro z R w H;replace H:=H.l2;obtain ⟨es,clk,a,H⟩:=H.pgs 1 Z;replace H:=H.l2;have i:es.length<=1099511627776:=by have:=a.small b;omega
 refine Af func132 Z ntmps132 Z (Z2 11 [10,0,0] H Z (AB Z (call166 _) (MW _) H ?_));rintro _ w _ ⟨r,rfl,rfl⟩ H;replace H:=H.l3;have c:∀h:IE->Nat,(es.map PgE.ie).map h=es.map λe=>h e.ie:=λh=>by simp
 refine AB Z (call125 _) (Kp _ _ _ _ (λp hp=>by obtain ⟨e,o,rfl⟩:=X6.1 hp;exact a.clk e o) (by rw[c];exact a.born) (by simp;exact i)) H.f2.f1 ?_;rintro q w _ ⟨s,hs,rfl⟩ H;replace H:=H.l4;have d:Ef f ((s.map λp:IE=>p.1).mergeSort (λx y=>decide (x<=y))):=a.keys hs;refine Zc 4 Z (Zr Z ?_);replace H:=(H.toPgs 2 Z a).l4;exact ⟨_,⟨_,d,Z⟩,H.perm 4 [0,3,2] Z Z⟩
set_option maxHeartbeats 2000000 in
theorem RF (ps pd l md:Nat) (x:Sup) (lp mo:Value) (un:Bool) (f:Bc) (hq:Hp) (y:Sup) (D:Dsk) (a3:∀n,(f n).isSome=true->n<1024) (b2:∀n,(f n).isSome=true->2+n<D.n) (a6:y.Ok (D.n:Int)) (a7:∀i,(D.ver i).length<=1000000000000):An 76 [V ps,.agg #[Aa y.gen,Aa y.epoch,Aa y.pages,Aa y.start,Aa y.len,Aa y.head,Aa y.seq]] [stB ps pd l x lp md un mo,tblA l,diskA pd D,pgsA md f hq,poolA hq] (λv G=>∃a:List Int,Ef f a/\((v=Aa 0/\G=[stB ps pd l y lp md un mo,tblA l,diskA pd (En (hwD D (pgLst f a)).fl y),pgsA md CQ hq,poolA hq])\/(∃(c:Int) (D2:Dsk),c≠0/\JM D (pgLst f a) c D2/\v=Aa c/\G=[stB ps pd l x lp md un mo,tblA l,diskA pd D2,pgsA md f hq,poolA hq]))):=by
 intro z R w H;refine Af func76 Z ntmps76 Z (Za 2 [] H Z ?_);intro b1 w H;refine Zc 7 Z (AB Z (call132 _) (RE _ _ _ _ _ _ _ _ _ _ a3) H.f4.f2 ?_);rintro v3 w _ ⟨a,m,rfl⟩ H;have a9:=H.sy 0 (·.slc);have b5:=H.sy 0 (·.rd.small);obtain ⟨s,c3,rfl⟩:=a9;have H:Sep z (grow 3 1 (.slice s a.length c3) a.length (a.map Aa)::stB ps pd l x lp md un mo::pgsA md f hq::blk b1 [Aa y.gen,Aa y.epoch,Aa y.pages,Aa y.start,Aa y.len,Aa y.head,Aa y.seq] 92::tblA l::diskA pd D::poolA hq::R) w:=H;obtain ⟨es,clk,t,H⟩:=H.pgs 2 Z;refine Zc 5 Z ?_;refine Ap (σ:=Nat) (λj=>[(15,Aa (j:Int)),(0,V ps),(3,V b1),(13,.slice s a.length c3),(14,Aa (a.length:Int))])
   (λj w=>Sep z (grow 3 1 (.slice s a.length c3) a.length (a.map Aa)::stB ps pd l x lp md un mo::AG md (es.map PgE.ie) clk::blk b1 [Aa y.gen,Aa y.epoch,Aa y.pages,Aa y.start,Aa y.len,Aa y.head,Aa y.seq] 92::tblA l::diskA pd (hwD D ((pgLst f a).take j))::poolA hq::R) w/\(j<=a.length)) (λj=>a.length-j) 0
   fr_z ⟨H,by omega⟩ ?_
 clear H;rintro j w ⟨g,hI⟩;have H:=g.l7;have c1:=hI;clear hI;refine Z0 6 [0] Z (Ag Z (λh1=>?_) (λh1=>?_))
 ·have b4:j<a.length:=by omega
  refine Zc 6 Z ?_;obtain ⟨x,hx⟩:∃x,a[j]?=some x:=⟨_,XW U⟩;obtain ⟨b9,o⟩:=(m.2 x).1 (XX hx);obtain ⟨n,rfl⟩:∃n:Nat,x=(n:Int):=⟨x.toNat,by omega⟩;rw[YB] at o;obtain ⟨p,pv,b0,b,a5,a8⟩:∃(p:Pg) (v:Value),f n=some p/\p.Ok/\rdH 1 v 240 (p.body.map u8) hq/\Cl (es.map PgE.ie) (n:Int)=some (.agg #[Aa p.kind,v]):=by
    rcases t.get n with ⟨q,_⟩|q
    · rw[q] at o;cases o
    · exact q
  have hn:=a3 n o;have b8:=b2 n o;have a1:=(H.rv 0 (·.rd)).at (j:=j) (u:=Aa (n:Int)) (by simp[hx]);have a2:∀i,((hwD D ((pgLst f a).take j)).ver i).length<=1099511627776:=λi=>by have h1:=Lf ((pgLst f a).take j) D i ((DV m).sublist ((List.take_sublist _ _).map _));have h2:=a7 i;omega
  refine Ad Z (Ar Z (z:=1) (j:=j) (r:=j) J Z Z Z U a1 U) (Ad Z (AK Z Z J (AA a1)) (Zc 4 Z ?_));replace H:=H.f2.f2;refine BQ (Sep z (stB ps pd l x lp md un mo::AG md (es.map PgE.ie) clk::R)) 18 Z J (A9 H λw g=>?_);have H:=g.l7;refine CC [0,1,2,3,4,5,6,7,8,9] [1,0,0,10,0,0] [] (by exact H.pick 7 [0,1] Z) Z J Z (Ig 10 Z J J J Z Z Z (FA (e:=40) (zv:=.agg #[Aa 0,.slice none 0 0]) Z J J Z Z (λ_ hx=>hx.bk 1 Z)) (H.pick 7 [0,1] Z) (k_updA 30 (v:=.agg #[Aa p.kind,pv]) Z (by rw[a8];rfl) (Ig 11 Z J J J Z Z Z (AQ Z Z (out:=[Aa (n:Int),Aa p.kind,pv]) J) (H.pick 7 [0,1] Z) (Cg [12] J O (Az (BF Z Z Z Z Z Z (λw=>call133 _ w) (Km _ _ _ _ p.body _ (λh q=>by rw[b.2];exact a5.le q)) H.f6.f5 Z ?_))))));rintro _ w _ (⟨k,rfl,rfl⟩|⟨_,pw,rfl,rfl⟩) g
  ·exact absurd ⟨⟨by omega,by omega⟩,b.1,b.2⟩ k
  have H:=g.l8;refine B3 (H.pick 8 [3,4] Z) (CC [13,14,15,16,17] [] [] (by exact H.pick 8 [3,4] Z) Z J Z (a_done J (gn (Z3 20 [4,0,3,0] [(2:Int)+(n:Int)] H Z U (AB Z (call134 _) (Iw _ _ _ _ _ _ _ (Dk n p) _ (De b) (λh q=>Hc (lo:=0) (n:=256) (c:=256) (ys:=Dk n p) q (De b) U U U (by rw[Ym];exact X0 (YY (De b)))) a2 (by rw[Ed];omega)) H.f7 ?_)))));rintro _ w _ (⟨k,rfl,rfl⟩|⟨k,rfl,rfl⟩) g
  ·have H:=g.l8;refine Z0 17 [3] Z (Zr Z ?_);replace H:=(H.toPgs 5 Z t).l8
   exact ⟨_,⟨a,m,.inr ⟨_,_,by decide,.inl ⟨j,k,Z,Z⟩,Z,Z⟩⟩,H.perm 8 [4,2,0,5,3] Z Z⟩
  have H:=g.l8;refine Z1 17 [4] [(j:Int)+1] Z U ?_;replace H:=H.f1.d.f2.f1.f2.f6.f5.f5.f6;refine gf ?_;intro _ hF;refine ⟨(j+1),hF.cz,⟨(by rw[<-Ud (RD hx b0)];exact H),?_⟩,?_⟩
  ·omega
  omega
 obtain rfl:j=a.length:=by omega
 refine Zc 2 Z (gx (Zc 4 Z ?_));have b3:(pgLst f a).take a.length=pgLst f a:=X0 (by simp only[pgLst,X9];omega);rw[b3] at H;have H:Sep z (grow 3 1 (.slice s a.length c3) a.length (a.map Aa)::stB ps pd l x lp md un mo::AG md (es.map PgE.ie) clk::blk b1 [Aa y.gen,Aa y.epoch,Aa y.pages,Aa y.start,Aa y.len,Aa y.head,Aa y.seq] 92::tblA l::diskA pd (hwD D (pgLst f a))::poolA hq::R) w:=H;refine Z2 5 [0,1,0] H Z (AB Z (call70 _) (Gg _ _) H.f5 ?_);rintro _ w _ (⟨a0,rfl,rfl⟩|⟨a0,rfl,rfl⟩) g
 ·have H:=g.l7;refine Z0 17 [3] Z (Zr Z ?_);replace H:=(H.toPgs 3 Z t).l7
  exact ⟨_,⟨a,m,.inr ⟨_,_,by decide,.inr (.inl ⟨a0,Z,Z⟩),Z,Z⟩⟩,H.perm 7 [2,5,0,3,6] Z Z⟩
 have H:=g.l7;refine Z0 14 [4] Z ?_;replace H:=H.f4.f3;refine BQ (Sep z (stB ps pd l x lp md un mo::blk b1 [Aa y.gen,Aa y.epoch,Aa y.pages,Aa y.start,Aa y.len,Aa y.head,Aa y.seq] 92::R)) 11 Z J (A9 H λw g=>?_);have H:=g.l7;refine CC [0,1,2,3,4,5,6,7,8] [0,0,0,1,0,0,1,7] [] (by exact H.pick 7 [0,1] Z) Z J Z (Cg [9] J O (Az (BF Z Z Z Z Z Z (λw=>call135 _ w) (Lw _ _ _ y (by show y.Ok ((hwD D (pgLst f a)).n:Int);rw[Ed];exact a6) (λi=>by show ([]:List (List UInt8)).length<=_;simp)) H.f5.f3 Z ?_)));rintro _ w _ (⟨a4,rfl,rfl⟩|⟨a4,rfl,rfl⟩) g
 ·have H:=g.l7;refine B3 (H.pick 7 [2,3] Z) (CC [10] [] [] (by exact H.pick 7 [2,3] Z) Z J Z (a_done J (gn (Z0 15 [3] Z (Zr Z ?_)))));replace H:=(H.toPgs 5 Z t).l7
  exact ⟨_,⟨a,m,.inr ⟨_,_,by decide,.inr (.inr ⟨a4,Z,Z⟩),Z,Z⟩⟩,H.perm 7 [2,1,0,5,6] Z Z⟩
 have H:=g.l7;refine B3 (H.pick 7 [2,3] Z) (CC [10] [] [] (by exact H.pick 7 [2,3] Z) Z J Z (a_done J (gn (Z4 25 [4,3,7,2,2,10,2,0] H Z ?_))));intro w H;refine I0 Z Z (JJ 5 (e:=40) H Z Z J Z) ?_;rintro _ w ⟨rfl,H⟩;refine Zc 8 Z (Zr Z ?_);replace H:=(H.toPgs 5 Z (PgsIn.none hq clk)).l7;exact ⟨_,⟨a,m,.inl ⟨Z,Z⟩⟩,H.perm 7 [2,1,0,5,6] Z Z⟩
theorem Ue(ps pd a md:Nat)(x:Sup)(b d:Value):An 39 [V ps] [stB ps pd a x b md false d] (λv G=>v=Aa 0/\∃m,G=[stB ps pd a x b md true (.map (some m)),AG m [] 0]):=by
 intro z R w H;refine Af func39 Z ntmps39 Z (Z4 28 [11,0,0,11,0] H Z ?_);intro w H;refine AC Z (E3 H Z) ?_;rintro _ w ⟨c,rfl,H⟩;refine Z4 11 [12,1] H Z ?_;intro w H;refine Zr Z ?_;exact ⟨_,⟨Z,c,Z⟩,H.perm 2 [1,0] Z Z⟩
theorem MX(ps pd c md:Nat)(x:Sup)(d a:Value)(b:Bool):An 78 [V ps] [stB ps pd c x d md b a] (λv G=>v=.agg #[Aa x.gen,Aa x.epoch,Aa x.pages,Aa x.start,Aa x.len,Aa x.head,Aa x.seq]/\G=[stB ps pd c x d md b a]):=by
 intro z R w H;refine Af func78 Z ntmps78 Z (Za 2 [] H Z ?_);intro e w H;refine Z4 12 [2,1,7,0] H Z ?_;intro w H;refine Zl [0,7] H Z ?_;exact ⟨_,⟨Z,Z⟩,H.perm 2 [1] Z Z⟩
theorem FD(p:Pg)(i:Value)(A:Ai)(d:∀h,A h->rdH 1 i 240 (p.body.map u8) h)(hp:p.Ok):An 64 [.agg #[Aa p.kind,i]] [A] (λv G=>∃e,v=.agg #[Aa p.kind,e]/\G=[grow 5 1 e 240 (p.body.map u8),A]):=by
 intro z R w H;replace H:=H.l1;obtain ⟨b,o,c,rfl⟩:=H.sy 0 (λq=>(d _ q).sl (by simp[hp.2]));have j:=d;refine Af func64 Z ntmps64 Z (Za 2 [] H Z ?_);intro g w H;refine Za 0 [] H Z ?_;intro l w H;refine Zc 3 Z ?_;replace H:=H.f1.f2;refine BQ (Sep z (A::blk g [Aa p.kind,.slice (some ⟨b,o,none⟩) 240 c] 40::R)) 7 Z J (A9 H λw k=>?_);have H:=k.l3;refine CC [0,1,2,3] [0,1,0,1,1,0] [] (by exact H.pick 3 [0,1] Z) Z J Z (Cg [4] J O (Az (BF Z Z Z Z Z Z (λw=>call115 _ w) (Ry _ _ 240 _ p.body _ j U) H Z ?_)));rintro e w _ ⟨_,rfl,rfl⟩ H;replace H:=H.l4;obtain ⟨a,f,rfl⟩:=H.sy 0 (·.slc);have H:Sep z (grow 5 1 (.slice a 240 f) 240 (p.body.map u8)::A::blk g [Aa p.kind,.slice (some ⟨b,o,none⟩) 240 c] 40::blk l [Aa 0,.slice none 0 0] 40::R) w:=H;refine B3 (H.pick 4 [1,2] Z) (CC [5] [] [] (by exact H.pick 4 [1,2] Z) Z J Z (Cg [6] J O (Az (CA Z Z Z (AD 3 H Z Z Z Z (vs:=[Aa p.kind,.slice a 240 f]) Z (by simp[u8,u32,Value.oneCell']) J O (out:=[Aa p.kind,.slice a 240 f]) Z) ?_))));rintro w H;replace H:=H.l4;refine B3 (H.pick 4 [1,2] Z) (a_done J (gn (Zc 2 Z (Zl [3,2] H Z ?_))));exact ⟨_,⟨_,Z,Z⟩,H.perm 4 [0,1] Z Z⟩
set_option maxHeartbeats 2000000 in
theorem RG (ps pd k md:Nat) (x:Sup) (lp:Value) (un:Bool) (f:Bc) (hq:Hp) (D:Dsk) (n:Nat) (hn:(n:Int)<x.pages) (o:D.f1=0) (y:x.Ok (D.n:Int)) (q i:Pg) (j:q=(f n).getD i) (hB:f n=none->HomeP (D.cont (2+n)) n i):An 21 [V ps,Aa (n:Int)] [stB ps pd k x lp md un (.map none),tblA k,diskA pd D,pgsA md f hq,poolA hq] (λv G=>(q=DP/\v=.tuple #[.agg #[Aa 0,.slice none 0 0],Aa 0]/\G=[stB ps pd k x lp md un (.map none),tblA k,diskA pd D,pgsA md f hq,poolA hq])\/(q.Ok/\∃c,v=.tuple #[.agg #[Aa q.kind,c],Aa 0]/\G=[grow 5 1 c 240 (q.body.map u8),stB ps pd k x lp md un (.map none),tblA k,diskA pd D,pgsA md f hq,poolA hq])):=by
 intro z R w H;replace H:=H.l5;have a1:=y.2;obtain ⟨es,clk,g,H⟩:=H.pgs 3 Z;replace H:=H.l5;refine Af func21 Z ntmps21 Z (Za 2 [] H Z ?_);intro b1 w H;refine Z0 9 [0] Z (Am 16 Z (λh1=>U) (λh1=>?_));refine Z2 10 [2,4,1,0,0] H Z (Ag Z (λh2=>U) (λh2=>?_));refine Z2 10 [12,1,0] H Z (Ad Z (NT (e:=40) (zv:=.agg #[Aa 0,.slice none 0 0]) Z J J Z Z) (Za 3 [] H Z ?_));intro b2 w H;refine Z4 20 [0,10,2,0] H Z ?_;intro w H;rcases g.get n with ⟨hf,t⟩|⟨p,m,hf,b,r,t⟩
 ·refine Ad Z (CS (e:=40) (zv:=.agg #[Aa 0,.slice none 0 0]) Z J J Z Z (AA (H.bk 5 Z))) (k_updA 44 (v:=.tuple #[.agg #[Aa 0,.slice none 0 0],.bool false]) Z (by simp[Ce,t]) (Za 3 [] H Z ?_));intro b3 w H;refine Z5 20 [0,0,3,0] [(2:Int)+(n:Int)] H Z U ?_;intro w H;refine AB Z (call65 _) (Hi _ _ _) H.f5 ?_;rintro _ w _ (⟨s,_,_⟩|⟨_,s,_,_⟩|⟨_,_,gb,a3,rest,rfl,⟨cg,cc,cl⟩,rfl⟩) H'
  ·exact absurd ⟨by omega,by omega⟩ s
  ·(rw[o] at s;cases s)
  rw[diskA.f1 o,show ((2:Int)+(n:Int)).toNat=2+n from by omega] at H';have H:=H'.l9;refine Z2 25 [4,1,5,0] H Z ?_;rcases hB (by simp_all) with ⟨hz,rfl⟩|⟨a,l⟩
  ·refine Ah Z (call66 _) (Jh _ _ _ _ (D.cont (2+n)) _ (λh q=>DJ q (by rw[hz];first|rfl|exact De a) ⟨cg,cc,cl⟩) n hz) H.f6 ?_;intro w H;refine Za 3 [] H Z ?_;intro b4 w H;refine Z4 22 [0,0,2,6] H Z ?_;intro w H;refine Zl [6,2] H Z ?_;replace H:=(H.toPgs 8 Z g).l10
   exact ⟨_,.inl ⟨by first|(rw[j];simp_all;done)|(simp_all;done),rfl,rfl⟩,H.perm 10 [7,1,3,8,9] rfl rfl⟩
  refine AB Z (call66 _) (Kn _ _ _ _ (D.cont (2+n)) _ (λh q=>DJ q (by rw[l];first|rfl|exact De a) ⟨cg,cc,cl⟩) n i a U l) H.f6 ?_;rintro _ w _ ⟨c,rfl,rfl⟩ H;replace H:=H.l10;have d:=H.sy 0 (·.slc);refine Za 3 [] H Z ?_;intro b5 w H;refine AV Z Z (AD 0 H Z Z Z Z (vs:=[Aa i.kind,c]) Z (Al Z (Al d.one AL)) J O (out:=[Aa i.kind,c]) Z) ?_;rintro w H;replace H:=H.l11;refine Z2 16 [0,2] H Z (AV Z Z (AD 7 H Z Z Z Z (vs:=[Aa i.kind,c]) Z (Al Z (Al d.one AL)) J O (out:=[Aa i.kind,c]) Z) ?_);rintro w H;replace H:=H.l11;refine Zc 4 Z (Zl [7,2] H Z ?_);replace H:=(H.toPgs 9 Z g).l11;obtain rfl:q=i:=by rw[j];simp_all
  exact ⟨_,.inr ⟨by first|exact b|exact hpoko|exact a,_,rfl,rfl⟩,H.perm 11 [1,8,2,4,9,10] rfl rfl⟩
 have a2:=b.1;have u:Slc m 240:=r.slc;refine Ad Z (CS (e:=40) (zv:=.agg #[Aa 0,.slice none 0 0]) Z J J Z Z (AA (H.bk 5 Z))) (k_updA 44 (v:=.tuple #[.agg #[Aa p.kind,m],.bool true]) Z (by simp[Ce,t]) (Za 3 [] H Z ?_));intro b6 w H;refine AV Z Z (AD 0 H Z Z Z Z (vs:=[Aa p.kind,m]) Z (Al Z (Al u.one AL)) J O (out:=[Aa p.kind,m]) Z) ?_;rintro w H;replace H:=H.l8;refine Z2 12 [0,2] H Z (AB Z (call64 _) (FD p m _ (λh q=>r.le q) b) H.f7 ?_);rintro _ w _ ⟨c,rfl,rfl⟩ H;replace H:=H.l9;have d:=H.sy 0 (·.slc);refine AV Z Z (AD 4 H Z Z Z Z (vs:=[Aa p.kind,c]) Z (Al Z (Al d.one AL)) J O (out:=[Aa p.kind,c]) Z) ?_;rintro w H;replace H:=H.l9;refine Zc 4 Z (Zl [4,2] H Z ?_);replace H:=(H.toPgs 8 Z g).l9;obtain rfl:q=p:=by rw[j];simp_all
 exact ⟨_,.inr ⟨by first|exact b|exact hpoko|exact a,_,rfl,rfl⟩,H.perm 9 [0,5,6,7,8,1] rfl rfl⟩
set_option maxHeartbeats 2000000 in
theorem RH (ps pd pt md mo:Nat) (x:Sup) (lp:Value) (un:Bool) (f g:Bc) (k:Nat) (hq:Hp) (D:Dsk) (n:Nat) (hn:(n:Int)<x.pages) (a1:D.f1=0) (a6:x.Ok (D.n:Int)) (q s:Pg) (r:q=((g n).or (f n)).getD s) (hB:(g n).or (f n)=none->HomeP (D.cont (2+n)) n s):An 21 [V ps,Aa (n:Int)] [stB ps pd pt x lp md un (.map (some mo)),tblA pt,diskA pd D,pgsA md f hq,DC mo g k hq,poolA hq] (λv G=>(q=DP/\v=.tuple #[.agg #[Aa 0,.slice none 0 0],Aa 0]/\G=[stB ps pd pt x lp md un (.map (some mo)),tblA pt,diskA pd D,pgsA md f hq,DC mo g k hq,poolA hq])\/(q.Ok/\∃l,v=.tuple #[.agg #[Aa q.kind,l],Aa 0]/\G=[grow 5 1 l 240 (q.body.map u8),stB ps pd pt x lp md un (.map (some mo)),tblA pt,diskA pd D,pgsA md f hq,DC mo g k hq,poolA hq])):=by
 intro z R w H;replace H:=H.l6;have b9:=a6.2;obtain ⟨es,clk,o,H⟩:=H.pgs 3 Z;replace H:=H.l6;obtain ⟨b8,a7,d,i,H⟩:=H.pgsc 4 Z;replace H:=H.l6;refine Af func21 Z ntmps21 Z (Za 2 [] H Z ?_);intro b1 w H;refine Z0 9 [0] Z (Am 16 Z (λh1=>U) (λh1=>?_));refine Z2 10 [2,4,1,0,0] H Z (Ag Z (λh2=>U) (λh2=>?_));refine Z2 10 [12,1,0] H Z ?_;rcases d.get n with ⟨a5,y⟩|⟨u,m,a5,a,t,y⟩
 ·refine Ad Z (CS (e:=40) (zv:=.agg #[Aa 0,.slice none 0 0]) Z J J Z Z (AA (H.bk 5 Z))) (k_updA 32 (v:=.tuple #[.agg #[Aa 0,.slice none 0 0],.bool false]) Z (by simp[Ce,y]) (Za 3 [] H Z ?_));intro b2 w H;refine Z4 20 [0,10,2,0] H Z ?_;intro w H;rcases o.get n with ⟨hf,hg⟩|⟨p,pv,hf,c,a2,hg⟩
  ·refine Ad Z (CS (e:=40) (zv:=.agg #[Aa 0,.slice none 0 0]) Z J J Z Z (AA (H.bk 5 Z))) (k_updA 44 (v:=.tuple #[.agg #[Aa 0,.slice none 0 0],.bool false]) Z (by simp[Ce,hg]) (Za 3 [] H Z ?_));intro b3 w H;refine Z5 20 [0,0,3,0] [(2:Int)+(n:Int)] H Z U ?_;intro w H;refine AB Z (call65 _) (Hi _ _ _) H.f5 ?_;rintro _ w _ (⟨hx,_,_⟩|⟨_,hx,_,_⟩|⟨_,_,gb,c1,rest,rfl,⟨cg,cc,cl⟩,rfl⟩) H'
   ·exact absurd ⟨by omega,by omega⟩ hx
   ·(rw[a1] at hx;cases hx)
   rw[diskA.f1 a1,show ((2:Int)+(n:Int)).toNat=2+n from by omega] at H';have H:=H'.l10;refine Z2 25 [4,1,5,0] H Z ?_;rcases hB (by simp_all) with ⟨hz,rfl⟩|⟨b,a0⟩
   ·refine Ah Z (call66 _) (Jh _ _ _ _ (D.cont (2+n)) _ (λh q=>DJ q (by rw[hz];first|rfl|exact De b) ⟨cg,cc,cl⟩) n hz) H.f6 ?_;intro w H;refine Za 3 [] H Z ?_;intro b4 w H;refine Z4 22 [0,0,2,6] H Z ?_;intro w H;refine Zl [6,2] H Z ?_;replace H:=(H.toPgs 8 Z o).l11
    replace H:=(H.toPgsc 9 Z d i).l11;exact ⟨_,.inl ⟨by first|(rw[r];simp_all;done)|(simp_all;done),rfl,rfl⟩,H.perm 11 [7,1,3,8,9,10] rfl rfl⟩
   refine AB Z (call66 _) (Kn _ _ _ _ (D.cont (2+n)) _ (λh q=>DJ q (by rw[a0];first|rfl|exact De b) ⟨cg,cc,cl⟩) n s b U a0) H.f6 ?_;rintro _ w _ ⟨l,rfl,rfl⟩ H;replace H:=H.l11;have j:=H.sy 0 (·.slc);refine Za 3 [] H Z ?_;intro b5 w H;refine AV Z Z (AD 0 H Z Z Z Z (vs:=[Aa s.kind,l]) Z (Al Z (Al j.one AL)) J O (out:=[Aa s.kind,l]) Z) ?_;rintro w H;replace H:=H.l12;refine Z2 16 [0,2] H Z (AV Z Z (AD 7 H Z Z Z Z (vs:=[Aa s.kind,l]) Z (Al Z (Al j.one AL)) J O (out:=[Aa s.kind,l]) Z) ?_);rintro w H;replace H:=H.l12;refine Zc 4 Z (Zl [7,2] H Z ?_);replace H:=(H.toPgs 9 Z o).l12;replace H:=(H.toPgsc 10 Z d i).l12;obtain rfl:q=s:=by rw[r];simp_all
   exact ⟨_,.inr ⟨by first|exact c|exact a|exact b,_,rfl,rfl⟩,H.perm 12 [1,8,2,4,9,10,11] rfl rfl⟩
  have c0:=c.1;have a4:Slc pv 240:=a2.slc;refine Ad Z (CS (e:=40) (zv:=.agg #[Aa 0,.slice none 0 0]) Z J J Z Z (AA (H.bk 5 Z))) (k_updA 44 (v:=.tuple #[.agg #[Aa p.kind,pv],.bool true]) Z (by simp[Ce,hg]) (Za 3 [] H Z ?_));intro b6 w H;refine AV Z Z (AD 0 H Z Z Z Z (vs:=[Aa p.kind,pv]) Z (Al Z (Al a4.one AL)) J O (out:=[Aa p.kind,pv]) Z) ?_;rintro w H;replace H:=H.l9;refine Z2 12 [0,2] H Z (AB Z (call64 _) (FD p pv _ (λh q=>a2.le q) c) H.f8 ?_);rintro _ w _ ⟨l,rfl,rfl⟩ H;replace H:=H.l10;have j:=H.sy 0 (·.slc);refine AV Z Z (AD 4 H Z Z Z Z (vs:=[Aa p.kind,l]) Z (Al Z (Al j.one AL)) J O (out:=[Aa p.kind,l]) Z) ?_;rintro w H;replace H:=H.l10;refine Zc 4 Z (Zl [4,2] H Z ?_);replace H:=(H.toPgs 8 Z o).l10;replace H:=(H.toPgsc 9 Z d i).l10;obtain rfl:q=p:=by rw[r];simp_all
  exact ⟨_,.inr ⟨by first|exact c|exact a|exact b,_,rfl,rfl⟩,H.perm 10 [0,5,6,7,8,9,1] rfl rfl⟩
 have a8:=a.1;have a3:Slc m 240:=t.slc;refine Ad Z (CS (e:=40) (zv:=.agg #[Aa 0,.slice none 0 0]) Z J J Z Z (AA (H.bk 5 Z))) (k_updA 32 (v:=.tuple #[.agg #[Aa u.kind,m],.bool true]) Z (by simp[Ce,y]) (Za 3 [] H Z ?_));intro b7 w H;refine AV Z Z (AD 0 H Z Z Z Z (vs:=[Aa u.kind,m]) Z (Al Z (Al a3.one AL)) J O (out:=[Aa u.kind,m]) Z) ?_;rintro w H;replace H:=H.l8;refine Z2 12 [0,2] H Z (AB Z (call64 _) (FD u m _ (λh q=>t.le q) a) H.f7 ?_);rintro _ w _ ⟨l,rfl,rfl⟩ H;replace H:=H.l9;have j:=H.sy 0 (·.slc);refine AV Z Z (AD 3 H Z Z Z Z (vs:=[Aa u.kind,l]) Z (Al Z (Al j.one AL)) J O (out:=[Aa u.kind,l]) Z) ?_;rintro w H;replace H:=H.l9;refine Zc 4 Z (Zl [3,2] H Z ?_);replace H:=(H.toPgs 7 Z o).l9;replace H:=(H.toPgsc 8 Z d i).l9;obtain rfl:q=u:=by rw[r];simp_all
 exact ⟨_,.inr ⟨by first|exact c|exact a|exact b,_,rfl,rfl⟩,H.perm 9 [0,4,5,6,7,8,1] rfl rfl⟩
end Go.Proofs.YthbbejpbkglmlaaGreatDoor
