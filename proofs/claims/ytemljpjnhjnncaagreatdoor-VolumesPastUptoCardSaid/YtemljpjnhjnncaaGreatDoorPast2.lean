/-
  Steps to: Law VolumesPast: snapshots keep the past. No condition.
-/
import Derived.Test.YtemljpjnhjnncaaGreatDoorPast1
set_option maxRecDepth 100000
set_option linter.unusedSimpArgs false
set_option linter.unusedVariables false
open Go.Proofs.Tryz
namespace Go.Proofs.YtemljpjnhjnncaaGreatDoor
open Go.RowKit
variable{n m i j e g r:Nat}{t s p q:Int}{V:List Value}{B S:List UInt8}{T:TypeId}{L:List (Nat×Value)}{v u y:Value}{z:World}{l:List Int}{R:List Nat}{N:Act->World->Prop}{b c:Bool}{x:Operand}{o:List Oper}{K:Value->World->Prop}{C:Nat->Nat}{P:Program}{F:Nat->Bool}{a:Act}
variable{Γ:List Ai}{h:Hp}{A:Ai}
variable{D:Dsk}
section
section
variable{P:Program}{C:World->Prop}{o:Oper}{a:Act}{w z:World}{Γ:List Ai}{n:Nat}{ds:List Deferred}{L:List (Nat×Value)}{v:Value}{x y:Operand}{xt yt:TypeId}{f:FuncId}{args:List Operand}{vs:List Value}{tys:Array TypeId}
theorem P8{c:World}(g:Fr n ds L a)(h:o.op=.call {callee:=.value (.func f),args:=args.toArray,argTypes:=tys})(b:evs L args=some vs)(d:(callFunc f vs.toArray).run P w=.ok (.value v) c):(execOp a.eval o).run P w=.ok (.value v) c:=by
 unfold execOp;have e:=g.evs b;simp only[h,resolve,Act.eval,Deferred.ofValue,invoke];simp only[go_sem,AeZ,e,AeS,AeY,d];simpa using d
theorem Hc(g:o.op=.call {callee:=.value (.func f),args:=args.toArray,argTypes:=tys})(b:evs L args=some vs)(e:∀w,C w->(callFunc f vs.toArray).run P w=.ok (.value v) w):Av P C n ds L o v:=λa d w c=>P8 d g b (e w c)
theorem Ru(i:Nat){b p:Nat}{cs:List Value}{ty:TypeId}{u u0:Value}(H:Sep z Γ w)(hi:Γ[i]?=some (blk b cs ty))(hp:cs[p]?=some u0)(l:o.op=.call {callee:=.value (.func f),args:=args.toArray,argTypes:=tys})(c:evs L args=some vs)(m:u.oneCell'=true)
  (k:w.cell? ⟨b,p,none⟩=some u0->w.frozen? ⟨b,p,none⟩=false->(callFunc f vs.toArray).run P w=.ok (.value v) (w.setCell ⟨b,p,none⟩ u)){out:List Value}(d:cs.set p u=out):CA P n ds L o w (λv' w'=>v'=v/\Sep z (Γ.set i (blk b out ty)) w'):=λa j=>by
 have e:=H.blk i hi;refine ⟨v,_,P8 j l c (k (e.cel p hp) (e.free p)),Z,?_⟩;subst d;have g:w.heap[b]?=some (.cells cs.toArray ty (0,0)):=e;refine H.write i hi Z Z Z ?_ (λq hq=>?_)
 ·simp only[World.setCell]
  rw[AgE,if_pos Z,g];simp
 simp[World.setCell,AgE,AfU hq]
def NT(P:Program)(s d:TypeId):Bool:=match P.underlying s,P.underlying d with
 | some (.pointer t),some .unsafePointer=>(match P.info? t with|some i=> !(decide (i.size=0))|none=>false)
 | _,_=>false
theorem NU(k:o.op=.convert xt T x)(b:NT P xt T=true)(f:ev L x=some (.pointer (some ⟨m,j,none⟩)))(e:∀w,C w->FH m j u w):Av P C n ds L o (.pointer (some ⟨m,j,none⟩)):=λa h w d=>by
 unfold NT at b;split at b
 ·rename_i t hs g
  split at b
  ·rename_i i hi
   have c:(P.info? t).map (λi=>decide (i.size=0))=some false:=by rw[hi];simpa using b
   have:=run_convert_to_unsafe (P:=P) hs g c (e w d);simp only[execOp,k,h.ev f,Aex,this,Aet,AeC]
  cases b
 cases b
end

def Xq(P:Program)(f:FuncId)(args:List Value)(pre:List Ai)(post:Value->List Ai->Prop):Prop:=
 ∀z R u w,Sep z (pre++R) w->CallsD P f args.toArray u w (λe u' w'=>u'=u/\Ret (λv w'=>∃Γ',post v Γ'/\Sep z (Γ'++R) w') e w')
theorem NV{P:Program}{f:FuncId}{b:Func}{c:Code}{args:List Value}{u:FrameMode}{w:World}(m:P.funcs[f]?=some b)(o:b.body=some c)(n:Nat)(k:b.ntmps=n)(d:Nat.ble args.length n=true)
  (h:∀a,Fr n [] (first 0 args) a->c.wp P (Qp (Gh P b K) IK (Gh P b K)) a w):CallsD P f args.toArray u w (λe u' w'=>u'=u/\Ret K e w'):=by
 refine callsD_of_wp m o (wp_mono (h _ (by rw[k];exact Fr.start args n (by simpa using d))) λe a w q=>?_)
 cases e with
 | normal=>obtain ⟨g,v,j,i⟩:=q;exact ⟨g,v,j,i⟩
 | ret=>obtain ⟨g,v,j,i⟩:=q;exact ⟨g,v,j,i⟩
 | exit id=>exact q.elim
 | goto l=>exact q.elim
 | panic ch=>exact q.elim
 | outgrown=>exact q.elim
def Jr(P:Program)(fn:Func)(R:Value->World->Prop)(a:Act)(w:World):Prop:=Leaves P fn a.tmps (Ret R) a.defers .returning w
theorem SV{P:Program}{f:FuncId}{b:Func}{c:Code}{args:List Value}{w:World}(j:P.funcs[f]?=some b)(i:b.body=some c)(n:Nat)(g:b.ntmps=n)(d:Nat.ble args.length n=true)
  (h:∀a,Fr n [] (first 0 args) a->c.wp P (Qp (Jr P b K) IK (Jr P b K)) a w):Calls P f args.toArray w (Ret K):=by
 refine calls_of_wp_defers j i (wp_mono (h _ (by rw[g];exact Fr.start args n (by simpa using d))) λe a w q=>?_)
 cases e with
 | normal=>exact q
 | ret=>exact q
 | exit id=>exact q.elim
 | goto l=>exact q.elim
 | panic ch=>exact q.elim
 | outgrown=>exact q.elim
def dfr(f:FuncId)(vs:List Value):Deferred:= {target:=.fn (.func f) #[],args:=vs.toArray}
theorem GN{P:Program}{g:Func}{a:Array Value}{Rr:Ending->World->Prop}{ds:List Deferred}{z w:World}{Γ pre R':List Ai}{post:Value->List Ai->Prop}{f:FuncId}{vs:List Value}(l:∀w,(callFunc f vs.toArray).run P w=.ok (.enter f vs.toArray) w)
  (h:Xq P f vs pre post)(H:Sep z Γ w)(k:Nat)(d:List Nat)(c:Gj k d=true)(e:DJ Γ d++Γ.drop k=pre++R')(K:∀v b Γ',post v Γ'->Sep z (Γ'++R') b->Leaves P g a Rr ds .returning b):Leaves P g a Rr (dfr f vs::ds) .returning w:=by
 refine leaves_cons (f:=f) (args:=vs.toArray) O (by simp[invoke,go_sem,l]) ?_;refine CallsD.mono (h z R' .returning w (H.perm k d c e)) λe m b q=>?_;obtain ⟨rfl,q⟩:=q
 cases e with
 | returned v=>obtain ⟨Γ',i,j⟩:=q;exact K v b Γ' i j
 | panicked ch=>exact q.elim
 | outgrown=>exact q.elim
theorem Ac5{P:Program}{b:Func}{a:Array Value}{w:World}(c:b.results= #[])(h:K (.tuple #[]) w):Leaves P b a (Ret K) [] .returning w:=⟨.tuple #[],by simp[results,c,go_sem],h⟩
section
variable{P:Program}{ops:List Oper}{Q:Exit->Act->World->Prop}{w:World}{rest:List Oper}{o:Oper}{n:Nat}{ds:List Deferred}{L:List (Nat×Value)}{f:FuncId}{args:List Operand}{vs:List Value}{tys:Array TypeId}
theorem LQ(g:BP ops L o.guard=true)(h:o.dst=none)(i:o.op=.defer {callee:=.value (.func f),args:=args.toArray,argTypes:=tys})(b:evs L args=some vs)
  (K:∀a',Fr n (dfr f vs::ds) L a'->wpList P ops.toArray Q rest a' w):∀a,Fr n ds L a->wpList P ops.toArray Q (o::rest) a w:=by
 intro a d;unfold wpList;rw[if_pos (wantL_ok d g)];left;have e:=d.evs b;have c:(execOp a.eval o).run P w=.ok (.defer (dfr f vs)) w:=by
  unfold execOp;simp only[i,resolve,Act.eval,Deferred.ofValue,AeZ,e];simp[go_sem,dfr]
 unfold Oper.wp;rw[c,Oper.upon_defer,h];exact K _ ⟨d.size,by show dfr f vs::a.defers=_;rw[d.defers],d.get⟩
theorem X4{z:World}{Γ pre R':List Ai}{post:Value->List Ai->Prop}{d:Nat}{x:Operand}{bs:List Value}(s:BP ops L o.guard=true)(p:o.dst=some d)(m:Nat.blt d n=true)(ho:o.op=.call {callee:=.value x,args:=args.toArray,argTypes:=tys})(u:ev L x=some (.func (.func f) bs.toArray #[]))(b:evs L args=some vs)(hr:∀w,(callFunc f (bs++vs).toArray).run P w=.ok (.enter f (bs++vs).toArray) w)
  (t:Cn P f (bs++vs) pre post)(H:Sep z Γ w)(k:Nat)(l:List Nat)(j:Gj k l=true)(e:DJ Γ l++Γ.drop k=pre++R')
  (K:∀v i Γ',post v Γ'->Sep z (Γ'++R') i->∀a',Fr n ds ((d,v)::L) a'->wpList P ops.toArray Q rest a' i):∀a,Fr n ds L a->wpList P ops.toArray Q (o::rest) a w:=by
 intro a h;unfold wpList;rw[if_pos (wantL_ok h s)];left;have e1:=h.evs b;have e2:=h.ev u;have g:(execOp a.eval o).run P w=.ok (.enter f (bs++vs).toArray) w:=by
  unfold execOp;simp only[ho,resolve,e2,Deferred.ofValue,invoke];simp only[go_sem,AeZ,e1,AeY];simpa using hr w
 unfold Oper.wp;rw[g,AgO];exact Agx (t.at H k l j e) λe i q=>by
  cases e with
  | returned v=>obtain ⟨Γ',r,y⟩:=q;simp only[p];exact K v i Γ' r y _ (h.put d v m)
  | panicked c=>exact q.elim
  | outgrown=>exact q.elim
end
end
section
section
variable{P:Program}{C:World->Prop}{o:Oper}{w z:World}{Γ:List Ai}{n:Nat}{ds:List Deferred}{L:List (Nat×Value)}{x y:Operand}
theorem DK{e:TypeId}{l:List IE}{zv:Value}(z:o.op=.lookup T x y true)(v:EQ P T=some e)(c:(P.info? e).bind (·.zero)=some zv)(p:ev L x=some (.map (some m)))(r:ev L y=some (I s))
  (k:∀w,C w->w.heap[m]?=some (.map (l.map Cw).toArray j)):Av P C n ds L o (.tuple #[(CP l s).getD zv,.bool (CQ l s)]):=λa f w u=>by
 obtain ⟨kt,ik,h,g⟩:=D6 v;have d:(zeroValue e).run P w=.ok zv w:=by
  cases hi:P.info? e with
  | none=>rw[hi] at c;cases c
  | some i=>rw[hi] at c;simp[zeroValue,typeInfo,hi,show i.zero=some zv from c,go_sem]
 have t:(getObj m).run P w=.ok (.map (l.map Cw).toArray j) w:=by simp[getObj,Sem.run,k w u]
 have b:=Jl l s 0;simp only[execOp,z,f.ev p,f.ev r,Instr.lookup,Aex,run_underlying h,Aet,t,AeC,Ep g,Af1,ER g]
 cases hf:fnd l s 0 with
 | none=>rw[hf] at b;simp[d,CQ,<-b,Aex,AeC]
 | some q=>rw[hf] at b;simp[CQ,<-b,AeC]
theorem Rv{e:TypeId}{zv:Value}(m:o.op=.lookup T x y true)(j:EQ P T=some e)(c:(P.info? e).bind (·.zero)=some zv)(k:ev L x=some (.map none))(l:ev L y=some (I s)):Av P C n ds L o (.tuple #[zv,.bool false]):=λa g w p=>by
 obtain ⟨q,r,h,f⟩:=D6 j;have d:(zeroValue e).run P w=.ok zv w:=by
  cases hi:P.info? e with
  | none=>rw[hi] at c;cases c
  | some i=>rw[hi] at c;simp[zeroValue,typeInfo,hi,show i.zero=some zv from c,go_sem]
 have b:=ER (P:=P) f [] s w;simp only[AfB,fnd] at b;simp only[execOp,m,g.ev k,g.ev l,Instr.lookup,Aex,run_underlying h,Aet,AeC,Ep f,b];simp[d,Aex,AeC]
theorem NW{t e:TypeId}{m clk:Nat}{l:List IE}(i:o.op=.call {callee:=.builtin .len,args:= #[x],argTypes:= #[t]})(d:EQ P t=some e)(f:ev L x=some (.map (some m)))(g:∀w,C w->w.heap[m]?=some (.map (l.map Cw).toArray clk)):Av P C n ds L o (I l.length):=λa h w b=>by
 obtain ⟨j,p,c,k⟩:=D6 d;simp only[execOp,i,h.ev f,resolve,AeZ,AeL,AfB];simp[invoke,builtin,Builtin.len_,run_underlying c,goInt,go_sem,getObj,Sem.run,g w b]
theorem E8{k:IntKind}(r:o.op=.index T x y)(c:Jm P T=some m)(l:ev L x=some (.agg V.toArray))(z:V.length=m)(q:ev L y=some (.int k s))(d:s=j)(h:V[j]?=some u):Av P C n ds L o u:=λa g w _=>by
 obtain ⟨e,i0,c,hi,p,t⟩:=KA c;subst d;have v:j<V.length:=(Aed.1 h).1;have i:(0:Int)<=(j:Int)/\(j:Int)<(m:Int):=by omega
 have b:(part e V.toArray (j*1)).run P w=.ok u w:=by
  simp only[part,Aex,FO t,Aet,if_false,Afu,AeR,Afg,h,AeC]
 have f:(sizeOf e).run P w=.ok 1 w:=by simp[sizeOf,typeInfo,hi,p,go_sem]
 simp only[execOp,r,g.ev l,g.ev q,Instr.index,asIntOf,Aex,AeC,Aet,run_underlying c,if_pos i,Ae6,f,b]
theorem GO{c:Code}{R:Act->World->Prop}{X:Nat->Act->World->Prop}(m:Nat)(h:∀a,Fr n ds L a->Code.rounds P c (Qp N X R) m a w):∀a,Fr n ds L a->(Code.loop c).wp P (Qp N X R) a w:=λa b=>wp_loop_rounds m (h a b)
theorem X5{c:Code}{R:Act->World->Prop}{X:Nat->Act->World->Prop}(h:∀a,Fr n ds L a->c.wp P (Qp (λa w=>Code.rounds P c (Qp N X R) m a w) X R) a w):∀a,Fr n ds L a->Code.rounds P c (Qp N X R) (m+1) a w:=λa b=>by
 rw[rounds_succ];refine wp_mono (h a b) λe a w q=>?_;cases e<;>exact q
theorem DG{c:Code}{R:Act->World->Prop}{X:Nat->Act->World->Prop}(h:∀a,Fr n ds L a->BT P (λa w=>Code.rounds P c (Qp N X R) m a w) X R (.c c .fin) a w):∀a,Fr n ds L a->Code.rounds P c (Qp N X R) (m+1) a w:=X5 h
end
theorem Rw{P:Program}{b:Func}{n:Nat}{ds:List Deferred}{L:List (Nat×Value)}{w:World}(e:Fr n ds L a){rs:List ResultVar}(f:b.results=rs.toArray)(vs:List Value)(d:EP P L w rs vs)(c:G7 vs=v)(h:K v w):Leaves P b a.tmps (Ret K) [] .returning w:=⟨v,by rw[<-c];exact Hr e f d,h⟩
end
def BR(F:Nat->Bool):List Value:=(List.range 16).map λk=>u64 (bw F k)
theorem BB(F:Nat->Bool):(BR F).length=16:=by simp[BR]
theorem wsV_at(F:Nat->Bool)(a:n<16):(BR F)[n]?=some (u64 (bw F n)):=by simp[BR,a]
theorem wsV_one(F:Nat->Bool):∀u∈BR F,u.oneCell'=true:=λu h=>by
 simp only[BR,Aem] at h;obtain ⟨k,_,rfl⟩:=h;rfl
def Cy(n:Nat)(F D S:Nat->Bool):List Value:=.int .i64 n::(BR F++(BR D++(BR S++BR λ_=>false)))
abbrev alB(pa n:Nat)(F D S:Nat->Bool):Ai:=blk pa (Cy n F D S) 190
def BX:Nat->Bool:=λ_=>false
theorem Ac6{D S:Nat->Bool}:(Cy n F D S)[0]?=some (I n):=rfl
theorem Nm{D S:Nat->Bool}(a:m<16):(Cy n F D S)[1+m]?=some (u64 (bw F m)):=by
 unfold Cy;rw[AgT,AeA,Aeo (by rw[BB];exact a),wsV_at _ a]
theorem Xr{D S:Nat->Bool}(a:m<16):(Cy n F D S)[17+m]?=some (u64 (bw D m)):=by
 unfold Cy;rw[show 17+m=(16+m)+1 by omega,AeA,Aeu (by rw[BB];omega),BB,show 16+m-16=m by omega,Aeo (by rw[BB];exact a),wsV_at _ a]
theorem SW{c:Nat->Bool}{x:BitVec 64}(d:n<16)(h:∀j,j<16->(if n=j then x else bw F j)=bw c j):(BR F).take n++[u64 x]++(BR F).drop (n+1)=BR c:=by
 have f:=BB F;have e:=Afc (l:=BR F) (i:=n) (a:=u64 x);rw[if_pos U] at e;rw[Aej,List.singleton_append,<-e];refine Afs λj=>?_;rw[Afq];rcases Aes j 16 with b|b
 ·rw[wsV_at c b,<-h j b]
  split
  ·rw[if_pos U]
  rw[wsV_at F b]
 rw[if_neg U,AeK U,AeK (by rw[BB];omega)]
theorem NX(a:Value)(l:List Value)(k:Nat)(u:Value):(a::l).take (1+k)++[u]++(a::l).drop (1+k+1)=a::(l.take k++[u]++l.drop (k+1)):=by
 rw[AgT 1 k];simp
theorem NY{m:List Value}(a:n<V.length):(V++m).take n++[u]++(V++m).drop (n+1)=(V.take n++[u]++V.drop (n+1))++m:=by
 rw[Aev U,AeV U];simp
theorem UP(l m:List Value)(k:Nat)(u:Value):(l++m).take (l.length+k)++[u]++(l++m).drop (l.length+k+1)=l++(m.take k++[u]++m.drop (k+1)):=by
 rw[Ag0,Ae8,Ael U,AeO U];rw[show l.length+k-l.length=k by omega,show l.length+k+1-l.length=k+1 by omega];simp
theorem J9{b:Nat->Bool}{D S:Nat->Bool}{x:BitVec 64}(a:m<16)(h:∀j,j<16->(if m=j then x else bw F j)=bw b j):(Cy n F D S).take (1+m)++[u64 x]++(Cy n F D S).drop (1+m+1)=Cy n b D S:=by
 unfold Cy;rw[NX,NY (by rw[BB];exact a),SW a h]
theorem NZ{D D':Nat->Bool}{S:Nat->Bool}{x:BitVec 64}(a:m<16)(h:∀j,j<16->(if m=j then x else bw D j)=bw D' j):(Cy n F D S).take (17+m)++[u64 x]++(Cy n F D S).drop (17+m+1)=Cy n F D' S:=by
 have e:=UP (BR F) (BR D++(BR S++BR λ_=>false)) m (u64 x);rw[BB] at e;unfold Cy;rw[show 17+m=1+(16+m) by omega,NX,e,NY (by rw[BB];exact a),SW a h]
theorem EE(n:Nat)(F D S:Nat->Bool):(Cy n F D S).length=65:=by simp[Cy,BB]
theorem Qb{D S:Nat->Bool}:BR F++BR D=((Cy n F D S).drop 1).take 32:=by
 have a:=BB F;have b:=BB D;unfold Cy;rw[List.drop_one,List.tail_cons,<-Aej,AeI (by simp[a,b])]
theorem X6{D S:Nat->Bool}:BR S++BR BX=((Cy n F D S).drop 33).take 32:=by
 have a:=BB F;have b:=BB D;unfold Cy;rw[show (33:Nat)=32+1 from Z,Ae5,<-Aej (BR F),AfT (by simp[a,b]),Ael (by simp[BB])];rfl
theorem KM{S:Nat->Bool}:(Cy n F BX S).take 33++(BR F++BR BX)++(Cy n F BX S).drop (33+(BR F++BR BX).length)=Cy n F BX F:=by
 have a:=BB F;have b:=BB BX;have e:(Cy n F BX S).drop (33+(BR F++BR BX).length)=[]:=AeO (by simp[EE,a,b]);rw[e,AeY];unfold Cy;rw[show (33:Nat)=32+1 from Z,Ae7,<-Aej (BR F) (BR BX) (BR S++_),AeI (by simp[BB])];simp only[AfD,Aej];rfl
theorem UQ{D S:Nat->Bool}:(Cy n F D S).take 1++(BR S++BR BX)++(Cy n F D S).drop (1+(BR S++BR BX).length)=Cy n S BX S:=by
 have b:=BB F;have d:=BB D;have a:=BB S;have c:=BB BX;rw[show 1+(BR S++BR BX).length=32+1 by simp[a,c]];unfold Cy;rw[Ae5,<-Aej (BR F) (BR D),AfT (by simp[b,d])];simp only[Ae7,AfG,AfD,AeS,Aej]
theorem Ka(h:∀u∈V,u.oneCell'=true):∀u∈V++BR F,u.oneCell'=true:=λu a=>by
 rcases Aer.1 a with q|q
 ·exact h u q
 exact wsV_one F u q
theorem bit_of(F:Nat->Bool)(p:Nat):(decide ((bw F (p/64))>>>(p%64)&&&1#64=1#64))=F p:=by
 rw[AaT];cases F p<;>simp
theorem Abc{w:World}(i:Nat)(H:Sep z Γ w)(a:Γ[i]?=some A)(h:∀h,A h->celH h n m v):FH n m v w:=H.cell i a h
def Gl(F:Nat->Bool)(p:Nat):Nat->Bool:=λq=>F q||decide (q=p)
def Dx(F:Nat->Bool)(p:Nat):Nat->Bool:=λq=>F q && !decide (q=p)
theorem X7(F:Nat->Bool)(p j:Nat):(if p/64=j then bw F (p/64)&&& ~~~Ej (p%64) else bw F j)=bw (Dx F p) j:=by
 rw[show Dx F p=λq=>F q && !decide (q=p) from Z,<-AaS];split
 ·rename_i e;rw[e]
 rfl
theorem Qc(F:Nat->Bool)(p j:Nat):(if p/64=j then bw F (p/64)|||Ej (p%64) else bw F j)=bw (Gl F p) j:=by
 rw[show Gl F p=λq=>F q||decide (q=p) from rfl,<-AaR];split
 ·rename_i e;rw[e]
 rfl
def Dh(F G:Nat->Bool):Nat->Bool:=λq=>F q||G q
def EL(F G:Nat->Bool)(k:Nat):Nat->Bool:=λq=>if q<64*k then G q else F q
theorem Js(F G:Nat->Bool)(k j:Nat):bw (EL F G k) j=if j<k then bw G j else bw F j:=by
 symm;refine KB λi hi=>?_;unfold EL;split
 ·rw[if_pos U,DV _ _ _ hi]
 rw[if_neg U,DV _ _ _ hi]
theorem Qd(F G:Nat->Bool)(k:Nat):∀j,j<16->(if k=j then bw G k else bw (EL F G k) j)=bw (EL F G (k+1)) j:=λj _=>by
 rw[Js,Js];split
 ·rename_i e;subst e;rw[if_pos U]
 by_cases h:j<k
 ·rw[if_pos h,if_pos U]
 rw[if_neg h,if_neg U]
theorem Qe(F G:Nat->Bool):EL F G 0=F:=by funext q;simp[EL]
theorem Abd(n:Nat)(F G D D' S:Nat->Bool):Cy n (EL F G 16) (EL D D' 16) S=Cy n G D' S:=by
 have h:∀F G:Nat->Bool,BR (EL F G 16)=BR G:=λF G=>by
  refine Afs λj=>?_;rcases Aes j 16 with a|a
  ·rw[wsV_at _ a,wsV_at _ a,Js,if_pos a]
  rw[AeK (by rw[BB];omega),AeK (by rw[BB];omega)]
 unfold Cy;rw[h,h]
theorem N1{D S:Nat->Bool}:BR F=((Cy n F D S).drop 1).take 16:=by
 unfold Cy;rw[List.drop_one,List.tail_cons,AeI (BB F)]
theorem Abe{D S:Nat->Bool}:BR D=((Cy n F D S).drop 17).take 16:=by
 unfold Cy;rw[show (17:Nat)=16+1 from Z,Ae5,AfT (BB F),AeI (BB D)]
theorem Ac7(F D:Nat->Bool)(k:Nat):bw (EL F (Dh F D) k) k|||bw D k=bw (Dh F D) k:=by
 rw[Js,if_neg U,Ac1];rfl
theorem Abf(F D:Nat->Bool)(k:Nat):∀j,j<16->(if k=j then bw (EL F (Dh F D) k) k|||bw D k else bw (EL F (Dh F D) k) j)=bw (EL F (Dh F D) (k+1)) j:=λj a=>by
 rw[Ac7];exact Qd F _ k j a
theorem Abg(D:Nat->Bool)(k:Nat):∀j,j<16->(if k=j then 0#64 else bw (EL D BX k) j)=bw (EL D BX (k+1)) j:=λj a=>by
 have e:(0#64)=bw BX k:=(bw_zero.2 λ_ _=>rfl).symm;rw[e];exact Qd D BX k j a
def DT(n:Nat):Nat->Bool:=λq=>decide (q<n)
theorem X8(k:Nat):Gl (DT k) k=DT (k+1):=by
 funext q;unfold Gl DT;rw[Aey];simp;omega
theorem UR(k:Nat):∀j,j<16->(if k/64=j then bw (DT k) (k/64)|||Ej (k%64) else bw (DT k) j)=bw (DT (k+1)) j:=λj _=>by
 rw[<-X8];exact Qc _ _ _
theorem US(F:Nat->Bool)(k:Nat):(cnt F 0 (64*k):Int)+(cnt F (64*k) 64:Int)=(cnt F 0 (64*(k+1)):Int):=by
 have:=HG F 0 (64*k) 64;rw[show 64*(k+1)=64*k+64 by omega,this,AfO];omega
theorem SX(F:Nat->Bool)(a:Nat):∀n,cnt F a n<=n
 | 0=>Aek _
 | n+1=>by
  have:=SX F a n;have:(F (a+n)).toNat<=1:=by cases F (a+n)<;>simp
  simp only[cnt];omega
def SY(j:Nat):UInt8:=UInt8.ofNat (Go.Lib.deBruijn64tab.getD j 0)
def Ht(A:Ai):Prop:=∀h,A h->∀j,j<64->celH h 0 j (u8 (SY j))
theorem Abh(x:BitVec 64)(i:Nat)(hi:i<64)(f:x.getLsbD i=true)(o:∀j,j<i->x.getLsbD j=false):(((x&&& -x)*285870213051353865#64)>>>58).toNat<64/\((SY (((x&&& -x)*285870213051353865#64)>>>58).toNat).toNat:Int)=i:=by
 have d:x.toNat≠0:=λe=>by
  have:x=0#64:=Ag3 (by simpa using e);rw[this] at f;simp at f
 have b:=x.isLt;obtain ⟨m,g,p⟩:=Go.Lib.ctzFrom_spec 64 x.toNat U b;have l:Go.Lib.ctzFrom 64 x.toNat=i:=by
  generalize Go.Lib.ctzFrom 64 x.toNat=c at g p;have k:∀j,x.getLsbD j=(decide (j>=c)&&(2*m+1).testBit (j-c)):=λj=>by
   show x.toNat.testBit j=_;rw[g,Nat.testBit_two_pow_mul]
  rcases AfK i c with h|h|h
  ·have:=k i;rw[f] at this;simp at this;omega
  ·exact h.symm
  have:=k c;rw[o c h] at this;simp at this
 obtain ⟨a,_⟩:=Go.Lib.lowest_bit 64 x.toNat d b;have e2:Go.Lib.ctz 64 x.toNat=i:=by unfold Go.Lib.ctz;rw[if_neg d,l]
 rw[e2] at a;have q:(x&&& -x).toNat=2^i:=by
  rw[Agh,BitVec.toNat_neg,AfC U];exact a
 have n:(((x&&& -x)*285870213051353865#64)>>>58).toNat=2^i*285870213051353865%18446744073709551616/288230376151711744:=by
  rw[Af9,BitVec.toNat_mul,q,Af7];rfl
 obtain ⟨a1,a2⟩:=Go.Lib.deBruijn64_at i hi;rw[n];refine ⟨a1,?_⟩;unfold SY;rw[a2];simp;omega
theorem N4{D S:Nat->Bool}:Aj 199 [Y m,I (i:Int)] [alB m n F D S] (λv G=>v=.bool (decide (i<n))/\G=[alB m n F D S]):=by
 intro z R w H;refine Ae func199 Z ntmps199 Z (Z0 10 [0] Z (An 7 Z (λa=>?_) (λa=>?_)))
 ·refine Z0 4 [0] Z (Ab Z (Bn Z Z J (Az (H.cel 0 Z 0 (Ac6)))) (Z0 6 [0] Z (Zr Z ?_)));exact ⟨_,⟨congrArg Value.bool (by first|(rw[Aey];simp<;>omega)|(simp<;>omega)),Z⟩,H⟩
 refine Zc 11 Z (Zr Z ?_);exact ⟨_,⟨congrArg Value.bool (by first|(rw[Aey];simp<;>omega)|(simp<;>omega)),Z⟩,H⟩
theorem N5{D S:Nat->Bool}{p:Nat}(hp:p<n)(b:n<=1024):Aj 164 [Y i,I (p:Int)] [alB i n F D S] (λv G=>v=.bool (F p)/\G=[alB i n F D S]):=by
 intro z R w H;refine Ae func164 Z ntmps164 Z (Zc 9 Z (z_E_ Z (call199 _) (N4) H ?_));intro w H;refine Zc 1 Z (An 8 Z (λa=>?_) (λa=>?_))
 ·refine Z1 7 [1,1,16,1,(p/64),1+(p/64)] [(p:Int)/64] Z U (Ab Z (Bn Z Z J (Az (H.cel 0 Z (1+(p/64)) (Nm U)))) (Z1 2 [] [(p:Int)%64] Z U (Ab Z (Fx Z Z Z (m:=(p%64)) U U) (Ab Z (Fh (q:=1#64) Z Z Z) (Ab Z (NL (p:=((bw F (p/64))>>>(p%64))&&&(1#64)) (q:=1#64) (k:=.u64) Z J Z Z) (AB 21 (v:=.bool (F p)) Z (congrArg Value.bool (bit_of F p)) (Zc 5 Z (Zr Z ?_))))))));exact ⟨_,⟨Z,Z⟩,H⟩
 exact absurd hp a
theorem SZ{D S:Nat->Bool}(p:Nat)(hp:p<n)(c:n<=1024)(b:F p=true):Aj 113 [Y i,I (p:Int)] [alB i n F D S] (λv G=>v=.bool true/\G=[alB i n (Dx F p) D S]):=by
 intro z R w H;refine Ae func113 Z ntmps113 Z (Zc 10 Z (z_E_ Z (call164 _) (N5 U U) H ?_));intro w H;refine AB 7 (v:=.bool true) Z (congrArg Value.bool b) (Zc 7 Z (BK 16 J J (A4 H λw a=>?_)));have H:=a.l1;refine ES 7 [1,1,16,1,(p/64),1+(p/64)] [(p:Int)/64] H Z J U (Cc Z Z Z (Bn Z Z J (Az (H.cel 0 Z (1+(p/64)) (Nm U)))) (ES 2 [] [(p:Int)%64] H Z J U (Cc Z Z Z (NK Z Z Z (m:=(p%64)) U U) (Cc Z Z Z (UA Z Z Z) (ES 4 [1,1,16,1,(p/64),1+(p/64)] [] H Z J U (CG (gw (AC Z Z (Al 0 H Z Z Z Z (vs:=[u64 ((bw F (p/64))&&& ~~~(Ej (p%64)))]) Z (Ad Z Aw) J (by simp only[EE,Aei,AeD];omega) (out:=(Cy n (Dx F p) D S)) (J9 U (λj _=>X7 F p j))) ?_))))))));rintro w H;refine Zc 8 Z (Zr Z ?_);exact ⟨_,⟨Z,Z⟩,H⟩
theorem X9{D S:Nat->Bool}{p:Nat}(hp:p<n)(d:n<=1024)(c:F p=false)(a:D p=false):Aj 179 [Y i,I (p:Int)] [alB i n F D S] (λv G=>v=.bool true/\G=[alB i n F (Gl D p) S]):=by
 intro z R w H;refine Ae func179 Z ntmps179 Z (Zc 10 Z (z_E_ Z (call199 _) (N4) H ?_));intro w H;refine AB 7 (v:=.bool true) Z (congrArg Value.bool (decide_eq_true hp)) (Zc 4 Z (z_E_ Z (call164 _) (N5 U U) H ?_));intro w H;refine AB 12 (v:=.bool false) Z (congrArg Value.bool c) (Z1 9 [1,17,16,1,(p/64),17+(p/64)] [(p:Int)/64] Z U (Ab Z (Bn Z Z J (Az (H.cel 0 Z (17+(p/64)) (Xr U)))) (Z1 2 [] [(p:Int)%64] Z U (Ab Z (Fx Z Z Z (m:=(p%64)) U U) (Ab Z (Fh (q:=1#64) Z Z Z) (Ab Z (NL (p:=((bw D (p/64))>>>(p%64))&&&(1#64)) (q:=1#64) (k:=.u64) Z J Z Z) (AB 27 (v:=.bool false) Z (congrArg Value.bool ((bit_of D p).trans a)) (Zc 7 Z (BK 16 J J (A4 H λw b=>?_))))))))));have H:=b.l1;refine ES 7 [1,17,16,1,(p/64),17+(p/64)] [(p:Int)/64] H Z J U (Cc Z Z Z (Bn Z Z J (Az (H.cel 0 Z (17+(p/64)) (Xr U)))) (ES 2 [] [(p:Int)%64] H Z J U (Cc Z Z Z (NK Z Z Z (m:=(p%64)) U U) (Cc Z Z Z (NJ Z Z Z) (ES 4 [1,17,16,1,(p/64),17+(p/64)] [] H Z J U (CG (gw (AC Z Z (Al 0 H Z Z Z Z (vs:=[u64 ((bw D (p/64))|||(Ej (p%64)))]) Z (Ad Z Aw) J (by simp only[EE,Aei,AeD];omega) (out:=(Cy n F (Gl D p) S)) (NZ U (λj _=>Qc D p j))) ?_))))))));rintro w H;refine Zc 8 Z (Zr Z ?_);exact ⟨_,⟨Z,Z⟩,H⟩
abbrev pB_(F:Nat->Bool)(k:Nat):BitVec 64:=((bw F k)>>>1)&&&(6148914691236517205#64)
abbrev pC_ (F:Nat->Bool) (k:Nat):BitVec 64:=(bw F k)&&&(6148914691236517205#64)
abbrev Qf (F:Nat->Bool) (k:Nat):BitVec 64:=(((bw F k)>>>1)&&&(6148914691236517205#64))+((bw F k)&&&(6148914691236517205#64))
abbrev pD_ (F:Nat->Bool) (k:Nat):BitVec 64:=(((Qf F k)>>>2)&&&(3689348814741910323#64))
abbrev pE_ (F:Nat->Bool) (k:Nat):BitVec 64:=((Qf F k)&&&(3689348814741910323#64))
abbrev pF_ (F:Nat->Bool) (k:Nat):BitVec 64:=(pD_ F k)+(pE_ F k)
theorem Ya:Aj 117 [u64 (bw F n)] [] (λv G=>v=I ((cnt F (64*n) 64:Nat):Int)/\G=[]):=by
 intro z R w H;refine Ae func117 Z ntmps117 Z (Zc 8 Z (Ab Z (Fx Z Z Z (m:=1) Z (by decide)) (Ab Z (Fh (q:=6148914691236517205#64) Z Z Z) (Zc 1 Z (Ab Z (Fh (q:=6148914691236517205#64) Z Z Z) (Ab Z (HH (p:=((bw F n)>>>1)&&&(6148914691236517205#64)) (q:=(bw F n)&&&(6148914691236517205#64)) Z Z Z) (Zc 6 Z (Ab Z (Fx Z Z Z (m:=2) Z (by decide)) (Ab Z (Fh (p:=(Qf F n)>>>2) (q:=3689348814741910323#64) Z Z Z) (Zc 1 Z (Ab Z (Fh (p:=(pB_ F n)+(pC_ F n)) (q:=3689348814741910323#64) Z Z Z) (Ab Z (HH (p:=((Qf F n)>>>2)&&&(3689348814741910323#64)) (q:=(Qf F n)&&&(3689348814741910323#64)) Z Z Z) (Zc 6 Z ?_)))))))))))));refine Ab Z (Fx Z Z Z (m:=4) Z (by decide)) (Zc 1 Z (Ab Z (HH (p:=(pF_ F n)>>>4) (q:=(pD_ F n)+(pE_ F n)) Z Z Z) (Ab Z (Fh (p:=((pF_ F n)>>>4)+(pF_ F n)) (q:=1085102592571150095#64) Z Z Z) (Zc 7 Z (Ab Z (Fx Z Z Z (m:=8) Z (by decide)) (Ab Z (HH (p:=(((pF_ F n)>>>4)+(pF_ F n))&&&(1085102592571150095#64)) (q:=((((pF_ F n)>>>4)+(pF_ F n))&&&(1085102592571150095#64))>>>8) Z Z Z) (Zc 7 Z (Ab Z (Fx Z Z Z (m:=16) Z (by decide)) (Ab Z (HH (p:=((((pF_ F n)>>>4)+(pF_ F n))&&&(1085102592571150095#64))+(((((pF_ F n)>>>4)+(pF_ F n))&&&(1085102592571150095#64))>>>8)) (q:=(((((pF_ F n)>>>4)+(pF_ F n))&&&(1085102592571150095#64))+(((((pF_ F n)>>>4)+(pF_ F n))&&&(1085102592571150095#64))>>>8))>>>16) Z Z Z) (Zc 7 Z (Ab Z (Fx Z Z Z (m:=32) Z (by decide)) (Ab Z (HH (p:=(((((pF_ F n)>>>4)+(pF_ F n))&&&(1085102592571150095#64))+(((((pF_ F n)>>>4)+(pF_ F n))&&&(1085102592571150095#64))>>>8))+((((((pF_ F n)>>>4)+(pF_ F n))&&&(1085102592571150095#64))+(((((pF_ F n)>>>4)+(pF_ F n))&&&(1085102592571150095#64))>>>8))>>>16)) (q:=((((((pF_ F n)>>>4)+(pF_ F n))&&&(1085102592571150095#64))+(((((pF_ F n)>>>4)+(pF_ F n))&&&(1085102592571150095#64))>>>8))+((((((pF_ F n)>>>4)+(pF_ F n))&&&(1085102592571150095#64))+(((((pF_ F n)>>>4)+(pF_ F n))&&&(1085102592571150095#64))>>>8))>>>16))>>>32) Z Z Z) (Zc 6 Z ?_)))))))))))));refine Ab Z (Ac3 Z J Z (LG F n).1) (Ab Z (XW Z Z Z (by have:=(LG F n).1;exact ⟨Int.natCast_nonneg _,by unfold LE at this;dsimp only[Qf,pB_,pC_,pD_,pE_,pF_] at this ⊢;omega⟩)) (AB 34 (u:=I (((LE (bw F n)).toNat:Int)%128)) (v:=I ((cnt F (64*n) 64:Nat):Int)) Z (congrArg I (by have:=(LG F n).2;omega)) (Zc 4 Z (gr (Ft Z [I ((cnt F (64*n) 64:Nat):Int)] ⟨Z,trivial⟩ (v:=I ((cnt F (64*n) 64:Nat):Int)) Z ?_)))));exact ⟨_,⟨Z,Z⟩,H⟩
theorem Yb{D S:Nat->Bool}:Aj 64 [Y i] [alB i n F D S] (λv G=>v=I (cnt F 0 1024:Int)/\G=[alB i n F D S]):=by
 intro z R w H;refine Ae func64 Z ntmps64 Z (Z0 17 [1,1] Z (Ab Z (B0 Z Z (vs:=BR F) J (Az ((H.blk 0 Z).part 1 16 _ (N1)))) (Zc 4 Z ?_)));refine AD (σ:=Nat) (λk=>[(11,I (k:Int)),(3,I (cnt F 0 (64*k):Int)),(2,I 0),(10,.agg (BR F).toArray)])
   (λk w=>Sep z (alB i n F D S::R) w/\(k<=16)) (λk=>16-k) 0
   (λ_ a=>(a.co Z (by go_num) a.cz)) ⟨H,by omega⟩ ?_
 clear H;rintro k w ⟨e,c⟩;have H:=e.l1;have b:=c;clear c;have f:=SX F 0 (64*(k+1));refine Z0 6 [0] Z (Af Z (λd=>?_) (λd=>?_))
 ·refine Zc 6 Z (Ab Z (E8 (m:=16) Z J Z Z Z (j:=k) Z (u:=u64 (bw F k)) (wsV_at F U)) (Zc 6 Z (z_E_ Z (call117 _) (Ya) H ?_)));intro w H;refine Ab Z (C3 Z Z Z (r:=(cnt F 0 (64*(k+1)):Int)) (US F k) U) (Z1 8 [] [(k:Int)+1] Z U (gf ?_));intro _ a;refine ⟨(k+1),a.cz,⟨H,?_⟩,?_⟩
  ·omega
  omega
 obtain rfl:k=16:=by omega
 refine Zc 2 Z (gx (Zc 9 Z (Zr Z ?_)));exact ⟨_,⟨Z,Z⟩,H⟩
theorem MB{D S:Nat->Bool}:Aj 114 [Y i] [alB i n F D S] (λv G=>v=.tuple #[]/\G=[alB i n (Dh F D) BX (Dh F D)]):=by
 intro z R w H;refine Ae func114 Z ntmps114 Z (Z0 7 [1,17] Z (Ab Z (B0 Z Z (vs:=BR D) J (Az ((H.blk 0 Z).part 17 16 _ (Abe)))) (Zc 4 Z ?_)));refine AD (σ:=Nat) (λk=>[(9,I (k:Int)),(0,Y i),(8,.agg (BR D).toArray)])
   (λk w=>Sep z (alB i n (EL F (Dh F D) k) (EL D BX k) S::R) w/\(k<=16)) (λk=>16-k) 0
   fr_z ⟨(by rw[Qe,Qe];exact H),by omega⟩ ?_
 clear H;rintro k w ⟨a,c⟩;have H:=a.l1;have b:=c;clear c;refine Z0 6 [0] Z (Af Z (λd=>?_) (λd=>?_))
 ·refine Zc 7 Z (Ab Z (E8 (m:=16) Z J Z Z Z (j:=k) Z (u:=u64 (bw D k)) (wsV_at D U)) (Zc 5 Z (BK 13 J J (A4 H λw a=>?_))))
  have H:=a.l1;refine ES 6 [1,1,16,1,k,1+k] [] H Z J U (Cc Z Z Z (Bn Z Z J (Az (H.cel 0 Z (1+k) (Nm U)))) (PV 1 [] Z J (Cc Z Z Z (NJ Z Z Z) (ES 4 [1,1,16,1,k,1+k] [] H Z J U (CG (gw (AC Z Z (Al 0 H Z Z Z Z (vs:=[u64 ((bw (EL F (Dh F D) k) k)|||(bw D k))]) Z (Ad Z Aw) J (by simp only[EE,Aei,AeD];omega) (out:=(Cy n (EL F (Dh F D) (k+1)) (EL D BX k) S)) (J9 U (Abf F D k))) ?_)))))));rintro w H;refine Z1 9 [1,17,16,1,k,17+k] [] Z U (AC Z Z (Al 0 H Z Z Z Z (vs:=[u64 (0#64)]) Z (Ad Z Aw) J (by simp only[EE,Aei,AeD];omega) (out:=(Cy n (EL F (Dh F D) (k+1)) (EL D BX (k+1)) S)) (NZ U (Abg D k))) ?_);rintro w H;refine Z1 7 [] [(k:Int)+1] Z U (gf ?_);intro _ e;refine ⟨(k+1),e.cz,⟨H,?_⟩,?_⟩
  ·omega
  omega
 obtain rfl:k=16:=by omega
 refine Zc 2 Z (gx (Zc 2 Z ?_));dsimp only[alB] at H;rw[Abd] at H;refine Z0 5 [1] Z (Ab Z (B0 Z Z (vs:=BR (Dh F D)++BR BX) J (Az ((H.blk 0 Z).part 1 32 _ (Qb)))) (Z0 2 [33] Z (AC Z Z (Al 0 H Z Z Z Z (vs:=BR (Dh F D)++BR BX) Z (Ka (wsV_one _)) J (by simp only[EE,Aeg,BB];omega) (out:=(Cy n (Dh F D) BX (Dh F D))) (KM)) ?_)));rintro w H;refine Zc 1 Z (Zf Z ?_);exact ⟨_,⟨Z,Z⟩,H⟩
theorem Yc{D S:Nat->Bool}:Aj 203 [Y m] [alB m n F D S] (λv G=>v=.tuple #[]/\G=[alB m n S BX S]):=by
 intro z R w H;refine Ae func203 Z ntmps203 Z (Z0 5 [33] Z (Ab Z (B0 Z Z (vs:=BR S++BR BX) J (Az ((H.blk 0 Z).part 33 32 _ (X6)))) (Z0 2 [1] Z (AC Z Z (Al 0 H Z Z Z Z (vs:=BR S++BR BX) Z (Ka (wsV_one _)) J (by simp only[EE,Aeg,BB];omega) (out:=(Cy n S BX S)) (UQ)) ?_))));rintro w H;refine Zc 1 Z (Zf Z ?_);exact ⟨_,⟨Z,Z⟩,H⟩
theorem Abi(j:1<=n/\n<=1024):Aj 110 [I (n:Int)] [] (λv G=>(∃c,v=Y c/\G=[alB c n (DT n) BX (DT n)])):=by
 intro z R w H;refine Ae func110 Z ntmps110 Z (Z0 11 [0] Z (An 7 Z (λe=>U) (λe=>?_)));refine Z0 5 [0] Z (Af Z (λf=>U) (λf=>?_));refine Zc 5 Z (Ab Z (Bg Z Z (out:=(Cy n (DT 0) BX BX)) J) (AP Z (G9 H Z Z (cs:=(Cy n (DT 0) BX BX)) Z) ?_));rintro _ w ⟨b,rfl,H⟩;refine Zc 11 Z ?_;refine AD (σ:=Nat) (λk=>[(15,I (k:Int)),(2,.pointer none),(3,Y b),(14,I (n:Int))])
   (λk w=>Sep z (alB b n (DT k) BX BX::R) w/\(k<=n)) (λk=>n-k) 0
   fr_z ⟨H,by omega⟩ ?_
 clear H;rintro k w ⟨a,d⟩;have H:=a.l1;have i:=d;clear d;refine Z0 6 [0] Z (Af Z (λg=>?_) (λg=>?_))
 ·refine Zc 10 Z (BK 16 J J (A4 H λw a=>?_))
  have H:=a.l1;refine ES 7 [1,1,16,1,(k/64),1+(k/64)] [(k:Int)/64] H Z J U (Cc Z Z Z (Bn Z Z J (Az (H.cel 0 Z (1+(k/64)) (Nm U)))) (ES 2 [] [(k:Int)%64] H Z J U (Cc Z Z Z (NK Z Z Z (m:=(k%64)) U U) (Cc Z Z Z (NJ Z Z Z) (ES 4 [1,1,16,1,(k/64),1+(k/64)] [] H Z J U (CG (gw (AC Z Z (Al 0 H Z Z Z Z (vs:=[u64 ((bw (DT k) (k/64))|||(Ej (k%64)))]) Z (Ad Z Aw) J (by simp only[EE,Aei,AeD];omega) (out:=(Cy n (DT (k+1)) BX BX)) (J9 U (UR k))) ?_))))))));rintro w H;refine Z1 7 [] [(k:Int)+1] Z U (gf ?_);intro _ h;refine ⟨(k+1),h.cz,⟨H,?_⟩,?_⟩
  ·omega
  omega
 obtain rfl:k=n:=by omega
 refine Zc 2 Z (gx (Z0 8 [1] Z (Ab Z (B0 Z Z (vs:=BR (DT k)++BR BX) J (Az ((H.blk 0 Z).part 1 32 _ (Qb)))) (Z0 2 [33] Z (AC Z Z (Al 0 H Z Z Z Z (vs:=BR (DT k)++BR BX) Z (Ka (wsV_one _)) J (by simp only[EE,Aeg,BB];omega) (out:=(Cy k (DT k) BX (DT k))) (KM)) ?_)))));rintro w H;refine Zc 9 Z (Zr Z ?_);exact ⟨_,⟨b,Z,Z⟩,H⟩
theorem AdK{x:BitVec 64}(i:Nat)(hi:i<64)(a:x.getLsbD i=true)(b:∀j,j<i->x.getLsbD j=false)(e:Ht A):Aj 178 [u64 x] [A] (λv G=>v=I ((i:Nat):Int)/\G=[A]):=by
 intro z R w H;obtain ⟨d,f⟩:=Abh x i hi a b;refine Ae func178 Z ntmps178 Z (Zc 9 Z (Ab Z (NL (q:=0#64) (k:=.u64) Z J Z Z) (Zc 2 Z (Af Z (λc=>?_) (λc=>?_)))))
 ·(exfalso;rw[c] at a;simp at a)
 refine Zc 6 Z (Ab Z (Aa1 Z Z) (Ab Z (Fh Z Z Z) (Ab Z (Aa0 (q:=285870213051353865#64) Z Z Z) (Ab Z (Fx Z Z Z (m:=58) Z (by decide)) (Ab Z (JZ (l:=64) Z (z:=1) (j:=(((x&&& -x)*285870213051353865#64)>>>58).toNat) (r:=(((x&&& -x)*285870213051353865#64)>>>58).toNat) J Z Z Z d U) (Ab Z (Bn Z Z J (Az (Abc 0 H Z (λh q=>e h q _ d)))) (Ab Z (Rk Z J Z) (AB 13 (v:=I ((i:Nat):Int)) Z (congrArg I f) (Zc 4 Z (Zr Z ?_))))))))));exact ⟨_,⟨Z,Z⟩,H⟩
theorem Abj{D S:Nat->Bool}(p:Nat)(hp:p<n)(h:n<=1024)(a:F p=true)(b:∀q,q<p->F q=false)(r:Ht A):Aj 135 [Y i] [alB i n F D S,A] (λv G=>v=.tuple #[I (p:Int),.bool true]/\G=[alB i n (Dx F p) D S,A]):=by
 intro z R w H;refine Ae func135 Z ntmps135 Z (Z0 13 [1,1] Z (Ab Z (B0 Z Z (vs:=BR F) J (Az ((H.blk 0 Z).part 1 16 _ (N1)))) (Zc 4 Z ?_)));refine AD (σ:=Nat) (λk=>[(12,I (k:Int)),(0,Y i),(11,.agg (BR F).toArray)])
   (λk w=>Sep z (alB i n F D S::A::R) w/\(k<=p/64)) (λk=>16-k) 0
   fr_z ⟨H,by omega⟩ ?_
 clear H;rintro k w ⟨x,g⟩;have H:=x.l2;have t:=g;clear g;refine Z0 6 [0] Z (Af Z (λl=>?_) (λl=>?_))
 ·refine Zc 7 Z (Ab Z (E8 (m:=16) Z J Z Z Z (j:=k) Z (u:=u64 (bw F k)) (wsV_at F U)) (Zc 7 Z (Ab Z (SG (q:=0#64) (k:=.u64) Z J Z Z) (Zc 2 Z (Af Z (λd=>?_) (λd=>?_))))))
  ·have c:k=p/64:=by
     rcases Aes k (p/64) with q|q
     · exact absurd (bw_zero.2 λj o=>b _ U) d
     · omega
   have f:F (64*k+p%64)=true:=by rw[show 64*k+p%64=p by omega];exact a
   refine Z1 5 [] [64*(k:Int)] Z U (z_E_ Z (call178 _) (AdK (p%64) U (by rw[DV _ _ _ U];exact f) (λj o=>by rw[DV _ _ _ U];exact b _ U) r) H.f1 ?_);intro w H;refine Z1 9 [] [(p:Int)] Z U (z_E_ Z (call113 _) (SZ _ hp h a) H.f1 ?_);intro w H;refine Zc 5 Z (Zr Z ?_);exact ⟨_,⟨Z,Z⟩,H⟩
  have c:k≠p/64:=λe=>by
    have:=bw_zero.1 (Ahq.1 d) (p%64) U;rw[show 64*k+p%64=p by omega,a] at this;cases this
  refine Z1 7 [] [(k:Int)+1] Z U (gf ?_);intro _ s;refine ⟨(k+1),s.cz,⟨H,?_⟩,?_⟩
  ·omega
  omega
 (exfalso;omega)
theorem Yd{D S:Nat->Bool}(a:∀q,q<1024->F q=false):Aj 135 [Y i] [alB i n F D S] (λv G=>v=.tuple #[I 0,.bool false]/\G=[alB i n F D S]):=by
 intro z R w H;refine Ae func135 Z ntmps135 Z (Z0 13 [1,1] Z (Ab Z (B0 Z Z (vs:=BR F) J (Az ((H.blk 0 Z).part 1 16 _ (N1)))) (Zc 4 Z ?_)));refine AD (σ:=Nat) (λk=>[(12,I (k:Int)),(0,Y i),(11,.agg (BR F).toArray)])
   (λk w=>Sep z (alB i n F D S::R) w/\(k<=16)) (λk=>16-k) 0
   fr_z ⟨H,by omega⟩ ?_
 clear H;rintro k w ⟨f,c⟩;have H:=f.l1;have d:=c;clear c;refine Z0 6 [0] Z (Af Z (λe=>?_) (λe=>?_))
 ·refine Zc 7 Z (Ab Z (E8 (m:=16) Z J Z Z Z (j:=k) Z (u:=u64 (bw F k)) (wsV_at F U)) (Zc 7 Z (Ab Z (SG (q:=0#64) (k:=.u64) Z J Z Z) (Zc 2 Z (Af Z (λb=>?_) (λb=>?_))))))
  ·exact absurd (bw_zero.2 λj h=>a _ U) b
  refine Z1 7 [] [(k:Int)+1] Z U (gf ?_);intro _ g;refine ⟨(k+1),g.cz,⟨H,?_⟩,?_⟩
  ·omega
  omega
 refine Zc 2 Z (gx (Zc 9 Z (Zr Z ?_)));exact ⟨_,⟨Z,Z⟩,H⟩
def Di{α:Type}(f:Nat->α)(i:Nat)(x:α):Nat->α:=λk=>if k=i then x else f k
theorem GP{α:Type}(f:Nat->α)(i:Nat)(x:α):Di f i x i=x:=by simp[Di]
theorem upf_other{α:Type}(f:Nat->α)(x:α)(h:n≠i):Di f i x n=f n:=by simp[Di,h]
def Dsk.w1(D:Dsk)(fua:Bool)(i:Nat)(p:List UInt8):Dsk:=
 if fua then {D with dur:=Di D.dur i p,ver:=Di D.ver i []} else {D with ver:=Di D.ver i (D.ver i++[p])}
def Dsk.ws(D:Dsk)(fua:Bool)(i:Nat):List (List UInt8)->Dsk
 | []=>D
 | p::ps=>(D.w1 fua i p).ws fua (i+1) ps
theorem Dsk.w1_n(D:Dsk)(a:Bool)(i:Nat)(p:List UInt8):(D.w1 a i p).n=D.n:=by cases a<;>rfl
theorem Dsk.w1_f(D:Dsk)(a:Bool)(i:Nat)(p:List UInt8):(D.w1 a i p).f1=D.f1/\(D.w1 a i p).f2=D.f2/\(D.w1 a i p).f3=D.f3/\(D.w1 a i p).cut=D.cut/\(D.w1 a i p).left=D.left:=by cases a<;>exact ⟨Z,Z,Z,Z,Z⟩
theorem Dsk.ws_snoc(a:Bool)(ps:List (List UInt8))(p:List UInt8):∀(D:Dsk) (i:Nat),D.ws a i (ps++[p])=(D.ws a i ps).w1 a (i+ps.length) p:=by
 induction ps with
 | nil=>intro D i;rfl
 | cons q qs ih=>intro D i;simp only[AfD,Dsk.ws,ih,Aei];rw[show i+1+qs.length=i+(qs.length+1) from by omega]
theorem Dsk.ws_n(a:Bool)(ps:List (List UInt8)):∀(D:Dsk) (i:Nat),(D.ws a i ps).n=D.n:=by
 induction ps with
 | nil=>intro D i;rfl
 | cons q qs ih=>intro D i;simp only[Dsk.ws,ih,Dsk.w1_n]
theorem Dsk.ws_f(a:Bool)(ps:List (List UInt8)):∀(D:Dsk) (i:Nat),(D.ws a i ps).f1=D.f1/\(D.ws a i ps).f2=D.f2/\(D.ws a i ps).f3=D.f3/\(D.ws a i ps).cut=D.cut/\(D.ws a i ps).left=D.left:=by
 induction ps with
 | nil=>intro D i;exact ⟨Z,Z,Z,Z,Z⟩
 | cons q qs ih=>intro D i;simp only[Dsk.ws];rw[(ih _ _).1,(ih _ _).2.1,(ih _ _).2.2.1,(ih _ _).2.2.2.1,(ih _ _).2.2.2.2];exact Dsk.w1_f D a i q
theorem Dsk.Ok.w1{D:Dsk}(h:D.Ok){c:Bool}{i:Nat}{p:List UInt8}(hp:p.length=256):(D.w1 c i p).Ok:=by
 cases c with
 | true=>
  refine ⟨h.n1,h.n2,λj b=>?_,λj b q hq=>?_,h.f1,h.f2,h.f3,h.left⟩
  ·show (Di D.dur i p j).length=256
   unfold Di;split
   ·exact hp
   exact h.dur j b
  have a:q∈Di D.ver i [] j:=hq;unfold Di at a;split at a
  ·cases a
  exact h.ver j b q a
 | false=>
  refine ⟨h.n1,h.n2,h.dur,λj b q hq=>?_,h.f1,h.f2,h.f3,h.left⟩;have a:q∈Di D.ver i (D.ver i++[p]) j:=hq;unfold Di at a;split at a
  ·rename_i e;subst e
   rcases Aer.1 a with h'|h'
   ·exact h.ver j b q h'
   rw[Afn.1 h'];exact hp
  exact h.ver j b q a
theorem Ent.Ok.le{hq a:Hp}{e:Ent}(h:e.Ok hq)(s:CK hq a):e.Ok a:=⟨h.1,h.2.1,λj b p c d=>⟨(h.2.2 j b p c d).1,(h.2.2 j b p c d).2.le s⟩⟩
theorem Dsk.In.le{D:Dsk}{bs:List UInt8}{es:List Ent}{clk:Nat}{hq a:Hp}(h:D.In bs es clk hq)(s:CK hq a):D.In bs es clk a:=
 ⟨h.len,h.own,λe b=>⟨(h.ent e b).1,(h.ent e b).2.1,(h.ent e b).2.2.le s⟩,h.all,h.nodup,h.born,h.clk⟩

theorem KN(hs:seps Γ h)(i:Nat)(hi:Γ[i]?=some A):seps (A::Γ.eraseIdx i) h:=by
 obtain ⟨own,b⟩:=hs;refine ⟨λk=>if own k=i then 0 else if own k<i then own k+1 else own k,λj B a=>?_⟩
 cases j with
 | zero=>
  simp only[AeT,Aen] at a;subst a;have:=b i A hi;rwa[De (h':=h) (own':=λk=>if own k=i then 0 else if own k<i then own k+1 else own k) (j:=0) (λk=>⟨λe=>by rw[if_pos e],λe=>by
   split at e
   ·assumption
   split at e<;>omega⟩) (λ_ _=>rfl)] at this
 | succ j=>
  simp only[AeA] at a;rw[Agj] at a;split at a
  ·rename_i d
   have:=b j B a;rwa[De (h':=h) (own':=λk=>if own k=i then 0 else if own k<i then own k+1 else own k) (j:=j+1) (λk=>⟨λe=>by rw[if_neg U,if_pos U];omega,λe=>by
    split at e
    ·omega
    split at e<;>omega⟩) (λ_ _=>rfl)] at this
  rename_i f;have:=b (j+1) B a;rwa[De (h':=h) (own':=λk=>if own k=i then 0 else if own k<i then own k+1 else own k) (j:=j+1) (λk=>⟨λe=>by rw[if_neg U,if_neg U];omega,λe=>by
   split at e
   ·omega
   split at e<;>omega⟩) (λ_ _=>rfl)] at this
theorem S0(i:Nat)(hi:i<Γ.length)(hs:seps (A::Γ.eraseIdx i) h):seps (Γ.set i A) h:=by
 obtain ⟨own,c⟩:=hs;have d:(Γ.eraseIdx i).length=Γ.length-1:=List.length_eraseIdx_of_lt hi;refine ⟨λk=>if own k=0 then i else if own k<=i then own k-1 else own k,λj B a=>?_⟩;by_cases e:j=i
 ·subst e
  rw[Afy hi] at a;simp only[Aen] at a;subst a;have:=c 0 A Z;rwa[De (h':=h) (own':=λk=>if own k=0 then j else if own k<=j then own k-1 else own k) (j:=j) (λk=>⟨λe=>by rw[if_pos e],λe=>by
   split at e
   ·assumption
   split at e<;>omega⟩) (λ_ _=>rfl)] at this
 rw[Aga (AfU e)] at a;have f:=(Aed.1 a).1;rcases Aes j i with b|hge
 ·have:=c (j+1) B (by rw[AeA,Agj,if_pos b];exact a)
  rwa[De (h':=h) (own':=λk=>if own k=0 then i else if own k<=i then own k-1 else own k) (j:=j) (λk=>⟨λe=>by rw[if_neg U,if_pos U];omega,λe=>by
   split at e
   ·omega
   split at e<;>omega⟩) (λ_ _=>rfl)] at this
 obtain ⟨q,rfl⟩:∃q,j=q+1:=⟨j-1,by omega⟩;have:=c (q+1) B (by rw[AeA,Agj,if_neg U];exact a);rwa[De (h':=h) (own':=λk=>if own k=0 then i else if own k<=i then own k-1 else own k) (j:=q+1) (λk=>⟨λe=>by rw[if_neg U,if_neg U];omega,λe=>by
  split at e
  ·omega
  split at e<;>omega⟩) (λ_ _=>rfl)] at this
theorem S1{As:List Ai}(hs:seps (A::As) h):seps (As++[A]) h:=D4 (As:=[A]) (Bs:=As) hs
theorem S2(hs:seps (A::Γ) h):seps Γ h:=by
 have:=Mt hs 1 [] Z;exact this
theorem Ye(es:List Ent)(k:Nat)(d:Value)(f:Ent->Ent)(g:∀e,(f e).key=e.key/\(f e).v=d/\(f e).born=e.born):∀(i:Nat) (e:Ent),(es.map Ent.key).Nodup->es[i]?=some e->e.key=k->updM (es.map Ent.ie) (k:Int) d=(es.set i (f e)).map Ent.ie:=by
 induction es with
 | nil=>intro i e _ h;simp at h
 | cons x xs ih=>
  intro i e b hi c;simp only[AeL,Afj] at b
  cases i with
  | zero=>
   simp only[AeT,Aen] at hi;subst hi;subst c;simp[updM,Ent.ie,g]
  | succ i=>
   simp only[AeA] at hi;have a:¬(k:Int)=(x.key:Int):=by
    intro q;have:x.key=e.key:=by omega
    exact b.1 (this▸AeB (Aee hi))
   simp only[AeL,updM,List.set_cons_succ];rw[if_neg (by simpa [Ent.ie] using a),ih i e b.2 hi c]
theorem Yf(es:List Ent)(k:Nat):∀(i:Nat) (e:Ent),(es.map Ent.key).Nodup->es[i]?=some e->e.key=k->delM (es.map Ent.ie) (k:Int)=(es.eraseIdx i).map Ent.ie:=by
 induction es with
 | nil=>intro i e _ h;simp at h
 | cons x xs ih=>
  intro i e b hi c;simp only[AeL,Afj] at b
  cases i with
  | zero=>
   simp only[AeT,Aen] at hi;subst hi;subst c;simp[delM,Ent.ie]
  | succ i=>
   simp only[AeA] at hi;have a:¬(k:Int)=(x.key:Int):=by
    intro q;have:x.key=e.key:=by omega
    exact b.1 (this▸AeB (Aee hi))
   simp only[AeL,delM,List.eraseIdx_cons_succ];rw[if_neg (by simpa [Ent.ie] using a),ih i e b.2 hi c]
theorem Gb{α β:Type}{f:α->β}{l:List α}(d:(l.map f).Nodup){a b:α}(hi:l[i]?=some a)(c:l[j]?=some b)(e:f a=f b):i=j:=by
 have g:=(Aed.1 hi).1;have h:=(Aed.1 c).1;refine (List.getElem_inj (xs:=l.map f) (h₀:=by simpa using g) (h₁:=by simpa using h) d).1 ?_;simp only[Ahz];rw[(Aed.1 hi).2,(Aed.1 c).2,e]
theorem S3{w:World}{es:List Ent}{hq:Hp}(d:D.In S es m hq)(hk:g<D.n)(H:Sep z (seps (es.map Ent.row)::Γ) w):
  ∃(v:Value) (pvs:List Value) (a0:List Ai),(CP (es.map Ent.ie) (g:Int)).getD (.slice none 0 0)=v/\pvs.length=(D.ver g).length/\Sep z (grow 46 1 v pvs.length pvs::seps a0::Γ) w/\
   ∀(l r:Value) (p:List UInt8),p.length=256->rdH 1 r 256 (p.map u8) hq->∃a2,(D.w1 false g p).In S a2 (putC (es.map Ent.ie) g m) hq/\E6 (es.map Ent.ie) g l m=a2.map Ent.ie/\
    ∀h,seps (grow 46 1 l (pvs.length+1) (pvs++[r])::[seps a0]) h->seps (a2.map Ent.row) h:=by
 rcases get_ent es g d.nodup with ⟨hg,hn⟩|⟨i,e,hi,f,hg⟩
 ·have hv:D.ver g=[]:=by
   cases hvk:D.ver g with
   | nil=>rfl
   | cons p ps=>
    obtain ⟨e,f,s⟩:=d.all g hk (by rw[hvk];simp);exact absurd s (hn e f)
  refine ⟨.slice none 0 0,[],es.map Ent.row,by simp[hg],by rw[hv];rfl,H.void λh=>grow.nil _ _ h,λl r p hp hr=>?_⟩;have hh:CQ (es.map Ent.ie) (g:Int)=false:=by simp[CQ,hg]
  refine ⟨es++[⟨g,l,[r],[p],m⟩],⟨d.len,d.own,?_,?_,?_,?_,?_⟩,?_,λh hs=>?_⟩
  ·intro e f
   rcases Aer.1 f with f|f
   ·obtain ⟨y,u,h3⟩:=d.ent e f
    exact ⟨y,u.trans (upf_other D.ver _ (hn e f)).symm,h3⟩
   rw[Afn.1 f];refine ⟨hk,?_,Z,by simp,λj a6 p' y u=>?_⟩
   ·show [p]=Di D.ver g (D.ver g++[p]) g
    rw[GP,hv];rfl
   have:j=0:=by have:=(Aed.1 y).1;simpa using this
   subst this;simp at y u;subst y;subst u;exact ⟨hp,hr⟩
  ·intro j k a5
   by_cases e:j=g
   ·exact ⟨_,Agm _ (Afn.2 Z),e.symm⟩
   have:D.ver j≠[]:=by
    have h':Di D.ver g (D.ver g++[p]) j≠[]:=a5;rwa[upf_other _ _ e] at h'
   obtain ⟨t,c,s⟩:=d.all j k this;exact ⟨t,Agb _ c,s⟩
  ·rw[AeH]
   refine Afb.2 ⟨d.nodup,by simp,λa ha b hb=>?_⟩;simp at hb;subst hb;obtain ⟨t,c,rfl⟩:=Aem.1 ha;exact hn t c
  ·rw[AeH]
   refine Afb.2 ⟨d.born,by simp,λa ha b hb=>?_⟩;simp at hb;subst hb;obtain ⟨t,c,rfl⟩:=Aem.1 ha;have:=d.clk t c;omega
  ·intro e f
   simp only[putC,hh,if_false,Afu];rcases Aer.1 f with f|f
   ·have:=d.clk e f;omega
   rw[Afn.1 f];show m<m+1;omega
  ·simp[E6,hh,Ent.ie]
  rw[AeH];refine S1 ?_;have u:=D4 (As:=[grow 46 1 l 1 [r]]) (Bs:=[seps (es.map Ent.row)]) hs;have h3:=IN u;exact D4 (As:=es.map Ent.row) (Bs:=[grow 46 1 l 1 [r]]) h3
 obtain ⟨_,u,h3,h4,h5⟩:=d.ent e (Aee hi);subst f;have o:=(Aed.1 hi).1;have hh:CQ (es.map Ent.ie) (e.key:Int)=true:=by simp[CQ,hg]
 refine ⟨e.v,e.pvs,(es.map Ent.row).eraseIdx i,by simp[hg],h3.trans (congrArg _ u),?_,λl r p hp hr=>?_⟩
 ·have H1:=H.mono 0 (B:=seps (e.row::[seps ((es.map Ent.row).eraseIdx i)])) Z (λh hs=>by
   have y:=KN hs i (A:=e.row) (by rw[Aeq,hi];rfl);have a7:seps ((es.map Ent.row).eraseIdx i++[e.row]) h:=D4 (As:=[e.row]) (Bs:=(es.map Ent.row).eraseIdx i) y;have a3:=Mu a7;exact D4 (As:=[seps ((es.map Ent.row).eraseIdx i)]) (Bs:=[e.row]) a3)
  exact Sep.opened (As:=[e.row,seps ((es.map Ent.row).eraseIdx i)]) H1
 refine ⟨es.set i {e with v:=l,pvs:=e.pvs++[r],ps:=e.ps++[p]},⟨d.len,d.own,?_,?_,?_,?_,?_⟩,?_,λh hs=>?_⟩
 ·intro t c
  obtain ⟨j,k⟩:=Ae4 c;rw[Afq] at k;split at k
  ·rename_i q
   subst q;simp only[o,if_true,Aen] at k;subst k;refine ⟨hk,?_,by simp[h3],by simp,λj' a6 p' q1 q2=>?_⟩
   ·show e.ps++[p]=Di D.ver e.key (D.ver e.key++[p]) e.key
    rw[GP,u]
   rcases Aes j' e.pvs.length with q|q
   ·rw[Aeo q] at q1
    rw[Aeo U] at q2;exact h5 j' a6 p' q1 q2
   rw[Aeu q] at q1;rw[Aeu U] at q2;have:j'-e.pvs.length=0:=by have:=(Aed.1 q1).1;simpa using this
   rw[this] at q1;rw[show j'-e.ps.length=0 from by omega] at q2;simp at q1 q2;subst q1;subst q2;exact ⟨hp,hr⟩
  rename_i q;obtain ⟨y,a3,a8⟩:=d.ent t (Aee k);have a1:t.key≠e.key:=λq'=>by
   exact q (Gb d.nodup hi k q'.symm)
  exact ⟨y,a3.trans (upf_other D.ver _ a1).symm,a8⟩
 ·intro j k a5
  by_cases q:j=e.key
  ·exact ⟨_,Aee (Afy o),q.symm⟩
  have:D.ver j≠[]:=by
   have h':Di D.ver e.key (D.ver e.key++[p]) j≠[]:=a5;rwa[upf_other _ _ q] at h'
  obtain ⟨t,c,s⟩:=d.all j k this;obtain ⟨j',a4⟩:=Ae4 c;have a1:i≠j':=λq'=>by
   subst q';rw[hi] at a4;cases a4;exact q s.symm
  exact ⟨t,Aee (by rw[Aga a1];exact a4),s⟩
 ·rw[AhA]
  have:(es.map Ent.key).set i e.key=es.map Ent.key:=Afs λj=>by
   rw[Afq];split
   ·rename_i q;subst q;simp[o,(Aed.1 hi).2]
   rfl
  exact (show ((es.map Ent.key).set i e.key).Nodup by rw[this];exact d.nodup)
 ·rw[AhA]
  have:(es.map Ent.born).set i e.born=es.map Ent.born:=Afs λj=>by
   rw[Afq];split
   ·rename_i q;subst q;simp[o,(Aed.1 hi).2]
   rfl
  exact (show ((es.map Ent.born).set i e.born).Nodup by rw[this];exact d.born)
 ·intro t c
  simp only[putC,hh,if_true];obtain ⟨j,k⟩:=Ae4 c;rw[Afq] at k;split at k
  ·simp only[o,if_true,Aen] at k
   subst k;exact d.clk e (Aee hi)
  exact d.clk t (Aee k)
 ·simp only[E6,hh,if_true]
  exact Ye es e.key l (λx=> {x with v:=l,pvs:=x.pvs++[r],ps:=x.ps++[p]}) (λx=>⟨Z,Z,Z⟩) i e d.nodup hi Z
 rw[AhA];refine S0 i (by simpa using o) ?_;have u:=D4 (As:=[grow 46 1 l (e.pvs.length+1) (e.pvs++[r])]) (Bs:=[seps ((es.map Ent.row).eraseIdx i)]) hs;have h3:=IN u;have h4:=D4 (As:=(es.map Ent.row).eraseIdx i) (Bs:=[grow 46 1 l (e.pvs.length+1) (e.pvs++[r])]) h3;have e1:grow 46 1 l (e.pvs.length+1) (e.pvs++[r])=Ent.row {e with v:=l,pvs:=e.pvs++[r],ps:=e.ps++[p]} :=by simp[Ent.row]
 rw[<-e1];exact h4
theorem S4{bs':List UInt8}{es:List Ent}{hq:Hp}(b:D.In B es m hq)(hk:g<D.n)(hp:S.length=256)(w:bs'=B.take (g*256)++S++B.drop (g*256+256)):
  ∃r,(D.w1 true g S).In bs' r m hq/\delM (es.map Ent.ie) g=r.map Ent.ie/\∀h,seps (es.map Ent.row) h->seps (r.map Ent.row) h:=by
 have hn:D.n*256=B.length:=b.len.symm;have a2:g*256+256<=B.length:=by omega
 have o:bs'.length=D.n*256:=by subst w;simp[hp];omega
 have l:∀i,i<D.n->(bs'.drop (i*256)).take 256=(D.w1 true g S).dur i:=λi hi=>by
  show _=Di D.dur g S i;subst w;have e0:(B.take (g*256)).length=g*256:=by rw[Aez];omega
  rcases AfK i g with h|h|h
  ·rw[upf_other _ _ U,<-b.own i hi]
   rw[Aej,AeV U,Aev (by rw[AeQ,e0];omega)];rw[AfX,AeF];rw[show min 256 (g*256-i*256)=256 from by omega]
  ·subst h
   rw[GP,Aej,AeV U,AeO U,AeS];rw[Aev U,Ael U]
  rw[upf_other _ _ U,<-b.own i hi];rw[Ae8,AeO (by simp[hp];omega),AeS,AhI];congr 2;simp[hp];omega
 rcases get_ent es g b.nodup with ⟨hg,a0⟩|⟨i,e,hi,z,hg⟩
 ·refine ⟨es,⟨o,l,λe z=>?_,λj k s=>?_,b.nodup,b.born,b.clk⟩,NB _ _ hg,λh hs=>hs⟩
  ·obtain ⟨v,u,h3⟩:=b.ent e z
   exact ⟨v,u.trans (upf_other D.ver _ (a0 e z)).symm,h3⟩
  have h':Di D.ver g [] j≠[]:=s;by_cases q:j=g
  ·subst q;rw[GP] at h';exact absurd Z h'
  rw[upf_other _ _ q] at h';exact b.all j k h'
 subst z;have a1:=(Aed.1 hi).1;have c:(es.eraseIdx i).Sublist es:=List.eraseIdx_sublist es i;have x:∀f∈es.eraseIdx i,f.key≠e.key:=λf a q=>by
  obtain ⟨j,k⟩:=Ae4 a;rw[Agj] at k;have key:∀t,t≠i->es[t]?=some f->False:=λt p d=>by
   exact p (Gb b.nodup d hi q)
  split at k
  ·exact key j U k
  exact key (j+1) U k
 refine ⟨es.eraseIdx i,⟨o,l,λf a=>?_,λj k s=>?_,(c.map Ent.key).nodup b.nodup,(c.map Ent.born).nodup b.born,λf a=>b.clk f (c.subset a)⟩,Yf es e.key i e b.nodup hi Z,λh hs=>?_⟩
 ·obtain ⟨v,u,h3⟩:=b.ent f (c.subset a)
  exact ⟨v,u.trans (upf_other D.ver _ (x f a)).symm,h3⟩
 ·have h':Di D.ver e.key [] j≠[]:=s
  by_cases q:j=e.key
  ·subst q;rw[GP] at h';exact absurd Z h'
  rw[upf_other _ _ q] at h';obtain ⟨f,a,y⟩:=b.all j k h';refine ⟨f,?_,y⟩;obtain ⟨t,d⟩:=Ae4 a;have p:t≠i:=λq'=>by subst q';rw[hi] at d;cases d;exact q y.symm
  rw[Ahb];exact ⟨t,p,d⟩
 have v:=KN hs i (A:=e.row) (by rw[Aeq,hi];rfl);have u:=S2 v;have e0:(es.map Ent.row).eraseIdx i=(es.eraseIdx i).map Ent.row:=by
  apply Afs;intro j;simp only[Agj,Aeq];split<;>rfl
 rwa[e0] at u
theorem UT{w:World}{hq:Hp}(H:Sep z (poolA hq::blk n V T::Γ) w):∃a,(CK hq a/\blk n V T a)/\Sep z (poolA a::Γ) w:=by
 have H1:Sep z (seps [poolA hq,blk n V T]::Γ) w:=Sep.shut (As:=[poolA hq,blk n V T]) H;exact H1.exAt 0 (σ:=Hp) (p:=λa=>CK hq a/\blk n V T a) (B:=λa=>poolA a) Z (λh hs=>by
  refine ⟨h,⟨λk o e=>?_,?_⟩,λk o e=>e⟩
  ·obtain ⟨h',b,c⟩:=FQ hs (i:=0) Z
   exact c _ _ (b _ _ e)
  obtain ⟨h',b,c⟩:=FQ hs (i:=1) Z;exact c _ _ b)

def diskQ(pd:Nat)(D:Dsk)(hq:Hp):Ai:=λh=>∃(bd m:Nat) (f0:Int) (bs:List UInt8) (es:List Ent) (clk:Nat),(D.Ok/\D.In bs es clk hq)/\seps (E1 pd bd m D f0 bs es clk hq) h
structure DskY where
 bd:Nat
 m:Nat
 f0:Int
 bs:List UInt8
 es:List Ent
 clk:Nat
theorem Sep.diskQ{w:World}{pd:Nat}{hq:Hp}(H:Sep z (YtemljpjnhjnncaaGreatDoor.diskQ pd D hq::Γ) w):∃bd m f0 bs es clk,D.Ok/\D.In bs es clk hq/\Sep z (E1 pd bd m D f0 bs es clk hq++Γ) w:=by
 obtain ⟨x,⟨b,c⟩,H⟩:=H.into (σ:=DskY) (p:=λx=>D.Ok/\D.In x.bs x.es x.clk hq) (As:=λx=>E1 pd x.bd x.m D x.f0 x.bs x.es x.clk hq)
  (λh a=>by obtain ⟨bd,m,f0,bs,es,clk,hp,hs⟩:=a;exact ⟨⟨bd,m,f0,bs,es,clk⟩,hp,hs⟩)
 exact ⟨_,_,_,_,_,_,b,c,H⟩
theorem Sep.toDiskQ{w:World}{pd bd:Nat}{f0:Int}{bs:List UInt8}{es:List Ent}{clk:Nat}{hq:Hp}(H:Sep z (E1 pd bd m D f0 bs es clk hq++Γ) w)(b:D.Ok)(c:D.In bs es clk hq):Sep z (YtemljpjnhjnncaaGreatDoor.diskQ pd D hq::Γ) w:=
 H.shut.mono 0 Z (λh a=>⟨_,_,_,_,_,_,⟨b,c⟩,a⟩)
theorem Dsk.w1_ver(D:Dsk)(a:Bool)(p:List UInt8)(h:j≠i):(D.w1 a i p).ver j=D.ver j:=by
 cases a
 ·exact upf_other D.ver _ h
 exact upf_other D.ver _ h
theorem Dsk.ws_ver(a:Bool)(ps:List (List UInt8)):∀(D:Dsk) (i j:Nat),j<i\/i+ps.length<=j->(D.ws a i ps).ver j=D.ver j:=by
 induction ps with
 | nil=>intro D i j _;rfl
 | cons q qs ih=>
  intro D i j h;simp only[Aei] at h;simp only[Dsk.ws];rw[ih _ _ _ U,Dsk.w1_ver _ _ _ U]
theorem Dsk.ws_take{k:Nat}{ps:List (List UInt8)}{p:List UInt8}(h:ps[i]?=some p):D.ws b k (ps.take (i+1))=(D.ws b k (ps.take i)).w1 b (k+i) p:=by
 rw[AeM,h];have a:=(Aed.1 h).1;rw[show (some p).toList=[p] from Z,Dsk.ws_snoc,Aez,AeG U]
theorem UU{hq:Hp}{ps:List (List UInt8)}(e:blk g (ps.flatten.map u8++V) T hq)(d:∀B∈ps,B.length=256)(h:ps[i]?=some B):rdH 1 (.slice (some ⟨g,0+i*256,none⟩) 256 256) 256 (B.map u8) hq:=by
 have key:∀(ps:List (List UInt8)) (i:Nat) (B:List UInt8),(∀B∈ps,B.length=256)->ps[i]?=some B->(ps.flatten.drop (i*256)).take 256=B/\i*256+256<=ps.flatten.length:=by
  intro ps
  induction ps with
  | nil=>intro i B _ h;simp at h
  | cons q qs ih=>
   intro i B b h;have a:=b q O
   cases i with
   | zero=>
    simp only[AeT,Aen] at h;subst h;simp[Aev,a]
   | succ i=>
    simp only[AeA] at h;obtain ⟨c,f⟩:=ih i B (λB hp=>b B (by simp[hp])) h;rw[AgC,show (i+1)*256=q.length+i*256 from by omega,Ae8];refine ⟨?_,by rw[Aeg];omega⟩;rw[AeO U,AeS];rw[show q.length+i*256-q.length=i*256 from by omega];exact c
 obtain ⟨c,f⟩:=key ps i B d h;have b:(ps.flatten.map u8).length=ps.flatten.length:=Aeh u8;refine e.rd U U (by rw[Aeg,b];omega) ?_;rw[AfO,AeR,AeV (by rw[b];omega),Aev (by rw[AeQ,b];omega),<-AfW,<-Afr,c]
def Yg(c:UInt32):UInt32:=(c>>>1) ^^^ ((c&&&1)*2197175160)
def Jt:Nat->UInt32->UInt32
 | 0,c=>c
 | k+1,c=>Yg (Jt k c)
def crcTab:List UInt32:=(List.range 256).map λi:Nat=>Jt 8 (Fv (i:Int))
theorem Ix:crcTab.length=256:=by simp[crcTab]
theorem KO(h:i<256):crcTab[i]?=some (Jt 8 (Fv (i:Int))):=by simp[crcTab,h]
def HM(c:UInt32)(b:UInt8):UInt32:=(c>>>8) ^^^ (crcTab[(c.toUInt8 ^^^ b).toNat]?.getD 0)
def EF(c:UInt32)(bs:List UInt8):UInt32:=4294967295 ^^^ (bs.foldl HM (4294967295 ^^^ c))
def Bc(bs:List UInt8):UInt32:=EF 0 bs
theorem LR(c:UInt32)(a b:List UInt8):EF (EF c a) b=EF c (a++b):=by
 unfold EF;rw[<-UInt32.xor_assoc,UInt32.xor_self,UInt32.zero_xor,AgD]
def z32:Value:=.int .u32 0
def BS(x0 x1 x2:Value)(i:Nat):List Value:=[x0,x1,x2]++((crcTab.take i).map u32++List.replicate (256-i) z32)
theorem UV(h:i<=256):(BS v u y i).length=259:=by simp[BS,Ix];omega
theorem S5(b a x2:Value)(h:i<256):(BS b a x2 i).take (3+i)++[u32 (Jt 8 (Fv (i:Int)))]++(BS b a x2 i).drop (3+i+1)=BS b a x2 (i+1):=by
 have c:([b,a,x2]++(crcTab.take i).map u32).length=3+i:=by simp[Ix];omega
 have e1:BS b a x2 i=([b,a,x2]++(crcTab.take i).map u32)++List.replicate (256-i) z32:=by simp[BS]
 rw[e1,Aev U,Ael U,Ae8,AeO U,AeS,c];rw[show 3+i+1-(3+i)=1 from by omega,AgL];unfold BS;rw[AeM,KO h];simp;omega
def AdL(pt:Nat):Ai:=blk pt (BS (.int .u32 0) (.int .i32 0) (.int .u32 0) 0) 238
def AdM(pt:Nat):Ai:=blk pt (BS (.int .u32 1) (.int .i32 0) (.int .u32 0) 256) 238
def tblA(pt:Nat):Ai:=λh=>AdL pt h\/AdM pt h
theorem S6{b:UInt8}:(BS v u y 256)[3+b.toNat]?=some (u32 (crcTab[b.toNat]?.getD 0)):=by
 have c:=b.toNat_lt;have a:=Ix;simp only[BS];rw[Aeu O];simp only[Aei,AeD];rw[show 3+b.toNat-(0+1+1+1)=b.toNat from by omega];rw[Aeo (by simp[a];omega),Aeq,Ael U,KO U];rfl
def Ag(k:Nat)(x:Int):List UInt8:=(List.range k).map λi:Nat=>GI (x/2^(8*(k-1-i)))
theorem Ah(k:Nat)(x:Int):(Ag k x).length=k:=by simp[Ag]
theorem beN_get(x:Int)(h:i<n):(Ag n x)[i]?=some (GI (x/2^(8*(n-1-i)))):=by simp[Ag,h]
def Gp(bs T:List UInt8)(a i:Nat):List UInt8:=bs.take a++T.take i++bs.drop (a+i)
def Bx(bs T:List UInt8)(a:Nat):List UInt8:=bs.take a++T++bs.drop (a+T.length)
theorem Yh(h:n+i<=B.length)(hi:i<=S.length):(Gp B S n i).length=B.length:=by simp[Gp];omega
theorem UW(bs T:List UInt8)(a:Nat):Gp bs T a 0=bs:=by simp[Gp]
theorem Yi(bs T:List UInt8)(a:Nat)(h:i=T.length):Gp bs T a i=Bx bs T a:=by subst h;simp[Gp,Bx]
theorem Eu(h:n+S.length<=B.length):(Bx B S n).length=B.length:=by simp[Bx];omega
theorem UX{b:UInt8}(h:n+S.length<=B.length)(a:S[i]?=some b):
  ((Gp B S n i).map u8++V).take (n+i)++[u8 b]++((Gp B S n i).map u8++V).drop (n+i+1)=(Gp B S n (i+1)).map u8++V:=by
 have hi:=(Aed.1 a).1;have c:(B.take n++S.take i).length=n+i:=by simp;omega
 have d:B.drop (n+i)=B[n+i]'U::B.drop (n+i+1):=Ae1 U;unfold Gp;rw[AeM,a,d];simp only[AeH,AeL,Aej];rw[<-Aej (List.map u8 (B.take n)),<-AeH];rw[Aev (by simp;omega),Ael (by simp;omega),Ae8,AeO (by simp;omega)];rw[show n+i+1-(List.map u8 (B.take n++S.take i)).length=1 from by rw[Aeh,c];omega];simp[Age]
def Iy(s:UInt32):List UInt8:=[s.toUInt8,(s>>>8).toUInt8,(s>>>16).toUInt8,(s>>>24).toUInt8]
def EG(l:List UInt8):Nat:=l.foldl (λn b=>256*n+b.toNat) 0
theorem KP(l:List UInt8)(b:UInt8):EG (l++[b])=256*EG l+b.toNat:=by simp[EG,AgD]
theorem IX:∀(l:List UInt8) (a:Nat),l.foldl (λn b=>256*n+b.toNat) a<(a+1)*256^l.length
 | [],a=>by simp
 | b::l,a=>by
  have h:=IX l (256*a+b.toNat);have d:=b.toNat_lt;simp only[List.foldl_cons,Aei,AhB];have e:(256*a+b.toNat+1)*256^l.length<=(256*(a+1))*256^l.length:=AfI _ U;have c:256*(a+1)*256^l.length=(a+1)*(256^l.length*256):=by
   rw[AhC 256 (a+1),Nat.mul_assoc,AhC 256]
  omega
theorem UY(l:List UInt8):EG l<256^l.length:=by have:=IX l 0;simpa [EG] using this
def AY(l:List UInt8):Int:=IntKind.i64.wrap (EG l)
theorem Rx(h:B.length<=7):AY B=EG B:=by
 have a:=UY B;have b:256^B.length<=256^7:=Ahc U h;exact AfN _ U
theorem Hd(x:Int):∃q,IntKind.i64.wrap x=x+q*18446744073709551616/\ -9223372036854775808<=IntKind.i64.wrap x/\IntKind.i64.wrap x<=9223372036854775807:=by
 have key:IntKind.i64.wrap x=if 9223372036854775808<=x%18446744073709551616 then x%18446744073709551616-18446744073709551616 else x%18446744073709551616:=by
  show (if (true&&decide (x%(2^64:Int)>=(2^(64-1):Int)))=true then x%(2^64:Int)-(2^64:Int) else x%(2^64:Int))=_;simp only[Bool.true_and,decide_eq_true_eq,show (2:Int)^64=18446744073709551616 from Z,show (2:Int)^(64-1)=9223372036854775808 from Z,ge_iff_le]
 rw[key];by_cases h:9223372036854775808<=x%18446744073709551616
 ·rw[if_pos h];exact ⟨-(x/18446744073709551616)-1,by omega,by omega,by omega⟩
 rw[if_neg h];exact ⟨-(x/18446744073709551616),by omega,by omega,by omega⟩
theorem Qg(x:Int)(b:UInt8):IntKind.i64.wrap (IntKind.i64.wrap x*256)%256=0/\IntKind.i64.wrap (IntKind.i64.wrap x*256)+b.toNat=IntKind.i64.wrap (256*x+b.toNat):=by
 have g:=b.toNat_lt;obtain ⟨n,f,h,l⟩:=Hd x;obtain ⟨a,m,j,k⟩:=Hd (IntKind.i64.wrap x*256);obtain ⟨i,c,d,e⟩:=Hd (256*x+b.toNat);omega
theorem Yj(k:Nat)(h:n<256^k):EG (Ag k (n:Int))=n:=by
 induction k generalizing n with
 | zero=>simp at h;subst h;rfl
 | succ k ih=>
  have e:Ag (k+1) (n:Int)=Ag k ((n/256:Nat):Int)++[GI (n:Int)]:=by
   apply Afs;intro i;rcases AfK i k with a|a|a
   ·rw[beN_get _ U,Aeo (by rw[Ah];omega),beN_get _ a]
    congr 2;rw[show 8*(k+1-1-i)=8+8*(k-1-i) from by omega,Int.pow_add,<-Int.ediv_ediv_of_nonneg (by decide)];rfl
   ·subst a
    rw[beN_get _ U,Aeu (by rw[Ah];omega),Ah];simp
   rw[AeK (by rw[Ah];omega),AeK (by simp[Ah];omega)]
  rw[e,KP,ih (by rw[AhB] at h;omega)];have:(GI (n:Int)).toNat=n%256:=by simp[GI];omega
  rw[this];omega

def A7(bs:List UInt8)(a:Int):List Value:=bs.map u8++[.int .i64 a]
theorem Fj(h:B.length=256):(A7 B t).length=257:=by simp[A7,h]
theorem N6(a:Int)(h:B.length=256):(A7 B a)[256]?=some (I a):=by simp[A7,List.getElem?_append,h]
theorem Ju(h:B.length=256):(A7 B t).take 256++[I s]++(A7 B t).drop (256+1)=A7 B s:=by
 unfold A7;rw[Aev (by simp[h]),Ael (by simp[h]),AeO (by simp[h]),AeY]
theorem UZ{b:UInt8}(h:n+S.length<=B.length)(a:S[i]?=some b):
  (A7 (Gp B S n i) t).take (n+i)++[u8 b]++(A7 (Gp B S n i) t).drop (n+i+1)=A7 (Gp B S n (i+1)) t:=UX h a
theorem N7(h:n+S.length<=B.length)(a:m=S.length):(A7 B t).take n++(S.map u8).take m++(A7 B t).drop (n+m)=A7 (Bx B S n) t:=by
 subst a;unfold A7 Bx;rw[Aev (by simp;omega),AeV (by simp;omega),Ael (l:=S.map u8) O];simp
def wrH(pw:Nat)(a:Int):Ai:=λh=>∃bs:List UInt8,bs.length=256/\blk pw (A7 bs a) 167 h
theorem wrH.at{a:Int}(w:wrH n a h):celH h n 256 (I a):=by
 obtain ⟨bs,b,c⟩:=w;exact c.celH 256 (N6 a b)
theorem HN{lo c:Nat}{ys:List UInt8}(q:blk m (A7 B s) T h)(a:B.length=256)(e:lo+n<=256)(b:n<=c)(f:c<=256)(d:(B.drop lo).take n=ys):rdH 1 (.slice (some ⟨m,lo,none⟩) n c) n (ys.map u8) h:=by
 subst d;refine q.rd b U (by rw[Fj a];omega) ?_;unfold A7;rw[AeV (by simp;omega),Aev (by simp;omega),AeR];simp
def N9(bs:List UInt8):List UInt8:=Bx bs (Iy (Bc (bs.take 252))) 252
theorem Yk(h:B.length=256):(N9 B).length=256:=by
 unfold N9;rw[Eu (by simp[Iy,h])];exact h

theorem S7(x:Int):IntKind.i64.wrap (IntKind.i64.wrap x)=IntKind.i64.wrap x:=AfN _ (by obtain ⟨q,b,c,a⟩:=Hd x;omega)
theorem Oa:IntKind.i64.wrap (AY B*2^8)%256=0:=(Qg (EG B) 0).1
theorem MC{b:UInt8}(h:B[j]?=some b):IntKind.i64.wrap (IntKind.i64.wrap (AY (B.take j)*2^8)+(b.toNat:Int))=AY (B.take (j+1)):=by
 rw[AeM,h];show IntKind.i64.wrap (IntKind.i64.wrap (IntKind.i64.wrap (EG (B.take j))*256)+(b.toNat:Int))=IntKind.i64.wrap (EG (B.take j++[b]):Nat);rw[(Qg _ b).2,S7,KP];congr 1

def rz:List UInt8->Nat
 | []=>0
 | x::xs=>if rz xs=0/\x=0 then 0 else rz xs+1
theorem Ry:∀xs:List UInt8,rz xs<=xs.length
 | []=>Aek _
 | x::xs=>by have:=Ry xs;simp only[rz,Aei];split<;>omega
theorem Rz:∀(xs:List UInt8) (j:Nat) (b:UInt8),rz xs<=j->xs[j]?=some b->b=0
 | [],j,b,_,h=>by simp at h
 | x::xs,0,b,h1,h=>by
  simp only[rz] at h1;split at h1
  ·rename_i q;simp at h;exact h▸q.2
  omega
 | x::xs,j+1,b,h1,h=>by
  simp only[rz] at h1;refine Rz xs j b ?_ (by simpa using h);split at h1<;>omega
theorem LS:∀(xs:List UInt8) (m:Nat),rz xs=m+1->∃b,xs[m]?=some b/\b≠0
 | [],m,h=>by simp[rz] at h
 | x::xs,m,h=>by
  simp only[rz] at h;split at h
  ·omega
  rename_i q
  cases m with
  | zero=>exact ⟨x,by simp,λe=>q ⟨by omega,e⟩⟩
  | succ m=>obtain ⟨b,h1,h2⟩:=LS xs m U;exact ⟨b,by simpa using h1,h2⟩
theorem rz_is(f:m<=B.length)(d:∀j b,m<=j->B[j]?=some b->b=0)(c:m=0\/∃b,B[m-1]?=some b/\b≠0):m=rz B:=by
 rcases AfK m (rz B) with q|q|q
 ·obtain ⟨b,e,a⟩:=LS B (rz B-1) U
  exact absurd (d _ _ U e) a
 ·exact q
 rcases c with c|⟨b,e,a⟩
 ·omega
 exact absurd (Rz B _ _ U e) a
theorem LT :rz B=0↔∀b∈B,b=0:=by
 constructor
 ·intro h b c
  obtain ⟨j,a,rfl⟩:=Agc.1 c;exact Rz B j _ U (Aef a)
 intro h;exact (rz_is (AeN _) (λj b _ e=>h b (Aee e)) (.inl Z)).symm
def lz:List UInt8->Nat
 | []=>0
 | x::xs=>if x=0 then lz xs+1 else 0
theorem KQ:∀{xs:List UInt8} {p:Nat},p<=xs.length->(∀j b,j<p->xs[j]?=some b->b=0)->(p=xs.length\/∃b,xs[p]?=some b/\b≠0)->p=lz xs
 | [],p,hp,_,_=>by simp at hp;subst hp;rfl
 | x::xs,0,_,_,h1=>by
  rcases h1 with h1|⟨b,e,hb⟩
  ·simp at h1
  simp at e;subst e;simp[lz,hb]
 | x::xs,p+1,hp,h0,h1=>by
  have e:=h0 0 x U Z;subst e;have:=KQ (xs:=xs) (p:=p) (by simpa using hp) (λj b a e=>h0 (j+1) b U (by simpa using e)) (by simpa using h1);simp[lz,this]
theorem Ac8(h:rz B≠0):lz (B.take (rz B))<rz B:=by
 obtain ⟨b,e,c⟩:=LS B (rz B-1) U;rcases Aes (lz (B.take (rz B))) (rz B) with q|q
 ·exact q
 have key:∀(ys:List UInt8) j b,j<lz ys->ys[j]?=some b->b=0:=by
  intro ys
  induction ys with
  | nil=>intro j b a;simp[lz] at a
  | cons y ys ih=>
   intro j b a e;simp only[lz] at a;split at a
   ·rename_i q
    cases j with
    | zero=>simp at e;exact e▸q
    | succ j=>exact ih j b U (by simpa using e)
   omega
 exact absurd (key (B.take (rz B)) (rz B-1) b U (by rw[Ae0,if_pos U];exact e)) c
def Kb(mag sec:List UInt8):Prop:=sec.drop 252=Iy (Bc (sec.take 252))/\sec.take 4=mag
instance(mag sec:List UInt8):Decidable (Kb mag sec):=by unfold Kb;exact inferInstance
theorem Ob(h:B.length=256):∃b c1 c2 a,B.drop 252=[b,c1,c2,a]:=by
 have c:(B.drop 252).length=4:=by simp[h]
 match hd:B.drop 252,c with
 | [b,c1,c2,a],_=>exact ⟨b,c1,c2,a,Z⟩

def AK(l:List UInt8):List UInt8:=l++List.replicate (256-l.length) 0
theorem AU{l:List UInt8}(h:l.length<=256):(AK l).length=256:=by simp[AK];omega
theorem BH(a:n=B.length)(h:n+S.length<=256):Bx (AK B) S n=AK (B++S):=by
 subst a;unfold Bx AK;rw[AeI Z,Ae8,AeO U,AeS,AgL,Aeg];rw[show 256-B.length-(B.length+S.length-B.length)=256-(B.length+S.length) from by omega]
theorem U0(a:B.length<=n)(h:n+S.length<=256):Bx (AK B) S n=AK (B++List.replicate (n-B.length) 0++S):=by
 have:AK B=AK (B++List.replicate (n-B.length) 0):=by
  unfold AK;rw[Aej,Aeg,Afk,Af8];congr 2;omega
 rw[this,BH (by simp;omega) h]
def BD(l:List UInt8):List UInt8:=N9 (AK l)
theorem sect_len{l:List UInt8}(h:l.length<=252):(BD l).length=256:=Yk (AU U)
theorem IY(h:B.length<=252):(BD B).take 252=(AK B).take 252:=by
 unfold BD N9 Bx;rw[Aej,Aev (by simp[AU (show B.length<=256 by omega)]),AeF];simp
theorem Iz(h:B.length<=252):(BD B).drop 252=Iy (Bc ((BD B).take 252)):=by
 rw[IY h];have a:=AU (show B.length<=256 by omega);unfold BD N9 Bx;rw[Aej,Ae8,AeO (by simp[a])];simp[a,Iy]
theorem B9{l:List UInt8}(h:l.length<=252){p k:Nat}(hp:p+k<=l.length):((BD l).drop p).take k=(l.drop p).take k:=by
 have e:((BD l).drop p).take k=(((BD l).take 252).drop p).take k:=by
  rw[AfX,AeF];congr 1;omega
 rw[e,IY h,AfX,AeF];rw[show min k (252-p)=k from by omega];unfold AK;rw[AeV U,Aev (by simp;omega)]
theorem MD{l:List UInt8}(h:l.length<=252):rz (((BD l).drop l.length).take (252-l.length))=0:=by
 rw[LT];intro b a;have e:((BD l).drop l.length).take (252-l.length)=(((BD l).take 252).drop l.length):=by rw[AfX]
 rw[e,IY h,AfX] at a;unfold AK at a;rw[AfT Z] at a;exact (Af4.1 (Afh a)).2

theorem Cj(ns:List Int):(ns.flatMap (Ag 4)).length=4*ns.length:=by
 induction ns with
 | nil=>rfl
 | cons x ns ih=>simp[Ah,ih];omega
theorem S8(h:l[i]?=some t):(l.take i).flatMap (Ag 4)++Ag 4 t=(l.take (i+1)).flatMap (Ag 4):=by
 rw[AeM,h];simp
def BJ(sec:List UInt8):Nat:=(AY ((sec.drop 24).take 2)).toNat
def Ev(sec:List UInt8)(j:Nat):Int:=AY ((sec.drop (26+4*j)).take 4)
def hN(sec:List UInt8)(i:Nat):List Value:=(List.range i).map λj=>Value.int .i64 (Ev sec j)
theorem Yl(sec:List UInt8)(i:Nat):hN sec i++[I (Ev sec i)]=hN sec (i+1):=by simp[hN,Aha]
def IA(sec:List UInt8):Prop:=Kb [80,76,79,71] sec/\(0<=AY ((sec.drop 4).take 8)/\AY ((sec.drop 4).take 8)<=1099511627776)/\(0<=AY ((sec.drop 12).take 8)/\AY ((sec.drop 12).take 8)<=1099511627776)/\(1<=BJ sec/\BJ sec<=40)/\(∀j,j<BJ sec->0<=Ev sec j/\Ev sec j<=1023)/\rz ((sec.drop (26+4*BJ sec)).take (252-(26+4*BJ sec)))=0
def IZ(sec:List UInt8):Prop:=sec.drop 252=Iy (Bc (sec.take 252))/\(1<=AY (sec.take 1)/\AY (sec.take 1)<=5)/\(0<=AY ((sec.drop 1).take 2)/\AY ((sec.drop 1).take 2)<=1023)
theorem Abk{sec:List UInt8}:∃m:Nat,AY ((sec.drop 24).take 2)=m/\BJ sec=m:=by
 have h:AY ((sec.drop 24).take 2)=EG ((sec.drop 24).take 2):=Rx (by simp;omega);exact ⟨_,h,by unfold BJ;rw[h];rfl⟩
theorem RA{w:World}(H:Sep z Γ w):Sep z (poolA (λ_=>none)::Γ) w:=H.void λh k o e=>by cases e
theorem Oc{w:World}{hq:Hp}(H:Sep z (poolA hq::A::Γ) w){M:Ai}(f:∀h,A h->M h)(d:∀h h',M h->CK h h'->M h'):∃a,(CK hq a/\M a)/\Sep z (poolA a::Γ) w:=by
 have H1:Sep z (seps [poolA hq,A]::Γ) w:=Sep.shut (As:=[poolA hq,A]) H;exact H1.exAt 0 (σ:=Hp) (p:=λa=>CK hq a/\M a) (B:=λa=>poolA a) Z (λh hs=>by
  refine ⟨h,⟨λk o e=>?_,?_⟩,λk o e=>e⟩
  ·obtain ⟨h',b,c⟩:=FQ hs (i:=0) Z
   exact c _ _ (b _ _ e)
  obtain ⟨h',b,c⟩:=FQ hs (i:=1) Z;exact d _ _ (f _ b) c)
theorem DX{w:World}{hq:Hp}(H:Sep z (poolA hq::A::Γ) w)(d:∀h,A h->rdH m v n V h):∃c,(CK hq c/\rdH m v n V c)/\Sep z (poolA c::Γ) w:=
 Oc H d (λ_ _ a b=>a.le b)
structure Img where
 num:Int
 kind:Int
 body:List UInt8
deriving DecidableEq
def Img.Ok(m:Img):Prop:=(0<=m.num/\m.num<=1023)/\(1<=m.kind/\m.kind<=5)/\m.body.length=240
instance(m:Img):Decidable m.Ok:=by unfold Img.Ok;exact inferInstance
abbrev ImE:=Img×Value
def ImE.cells(e:ImE):List Value:=[.int .i64 e.1.num,.int .i64 e.1.kind,e.2]
def Gq(es:List ImE):List Value:=es.flatMap ImE.cells
theorem Jv:∀{es:List ImE} {j:Nat} {e:ImE},es[j]?=some e->∀k u,(ImE.cells e)[k]?=some u->(Gq es)[j*3+k]?=some u
 | x::es,0,e,h,k,u,hk=>by
  simp at h;subst h;have hl:=(Aed.1 hk).1;simp only[Gq,AeJ];rw[Aeo U];simpa using hk
 | x::es,j+1,e,h,k,u,hk=>by
  have:=Jv (es:=es) (j:=j) (by simpa using h) k u hk;simp only[Gq,AeJ] at this ⊢;rw[Aeu (by simp[ImE.cells];omega)];rw[show (j+1)*3+k-(ImE.cells x).length=j*3+k from by simp[ImE.cells];omega];exact this
theorem Od(es:List ImE)(e:ImE):Gq es++ImE.cells e=Gq (es++[e]):=by simp[Gq]
def imesOk(es:List ImE)(h:Hp):Prop:=∀e∈es,rdH 1 e.2 e.1.body.length (e.1.body.map u8) h
theorem imesOk.le{es:List ImE}{h h':Hp}(a:imesOk es h)(s:CK h h'):imesOk es h':=λe b=>(a e b).le s
def imgsH(v:Value)(ims:List Img):Ai:=λh=>∃es:List ImE,es.map Prod.fst=ims/\rdH 3 v ims.length (Gq es) h/\imesOk es h
theorem imgsH.le{v:Value}{ims:List Img}{h h':Hp}(a:imgsH v ims h)(s:CK h h'):imgsH v ims h':=by
 obtain ⟨es,b,c,d⟩:=a;exact ⟨es,b,c.le s,d.le s⟩
theorem imgsH.slc{v:Value}{ims:List Img}{h:Hp}(a:imgsH v ims h):∃d c,v=.slice d ims.length c:=by
 obtain ⟨es,e,b,f⟩:=a;exact b.slc
theorem imgsH.small{v:Value}{ims:List Img}{h:Hp}(a:imgsH v ims h):ims.length<=9223372036854775807:=by
 obtain ⟨es,c,b,d⟩:=a;exact b.small

structure Rc where
 seq:Int
 ims:List Img
deriving DecidableEq
abbrev RcE:=Rc×Value
def RcE.cells(e:RcE):List Value:=[.int .i64 e.1.seq,e.2]
def I0(es:List RcE):List Value:=es.flatMap RcE.cells
theorem LU:∀{es:List RcE} {j:Nat} {e:RcE},es[j]?=some e->∀k u,(RcE.cells e)[k]?=some u->(I0 es)[j*2+k]?=some u
 | x::es,0,e,h,k,u,hk=>by
  simp at h;subst h;have hl:=(Aed.1 hk).1;simp only[I0,AeJ];rw[Aeo U];simpa using hk
 | x::es,j+1,e,h,k,u,hk=>by
  have:=LU (es:=es) (j:=j) (by simpa using h) k u hk;simp only[I0,AeJ] at this ⊢;rw[Aeu (by simp[RcE.cells];omega)];rw[show (j+1)*2+k-(RcE.cells x).length=j*2+k from by simp[RcE.cells];omega];exact this
theorem U1(es:List RcE)(e:RcE):I0 es++RcE.cells e=I0 (es++[e]):=by simp[I0]
def rcesOk(es:List RcE)(h:Hp):Prop:=∀e∈es,imgsH e.2 e.1.ims h
theorem rcesOk.le{es:List RcE}{h h':Hp}(a:rcesOk es h)(s:CK h h'):rcesOk es h':=λe b=>(a e b).le s
def recsH(v:Value)(rs:List Rc):Ai:=λh=>∃es:List RcE,es.map Prod.fst=rs/\rdH 2 v rs.length (I0 es) h/\rcesOk es h
theorem recsH.slc{v:Value}{rs:List Rc}{h:Hp}(a:recsH v rs h):∃d c,v=.slice d rs.length c:=by
 obtain ⟨es,e,b,f⟩:=a;exact b.slc

def Cq(sec:List UInt8):Int:=AY ((sec.drop 4).take 8)
def Cr(sec:List UInt8):Int:=AY ((sec.drop 12).take 8)
def DL(sec:List UInt8):UInt32:=Fv (AY ((sec.drop 20).take 4))
def Fz(sec:List UInt8):Int:=AY ((sec.drop 3).take 4)
def FA(sec:List UInt8):Int:=AY ((sec.drop 7).take 5)
def Co(sec:List UInt8):Img:=⟨AY ((sec.drop 1).take 2),AY (sec.take 1),(sec.drop 12).take 240⟩
def ringAt(s:Sup)(x:Int):Nat:=(s.start+x%s.len).toNat
def nextP(f:Nat->List UInt8)(e sq room:Int)(ims:List Img):Prop:=
 IA (f 0)/\Cq (f 0)=e/\Cr (f 0)=sq/\1+(BJ (f 0):Int)<=room/\
 ims=(List.range (BJ (f 0))).map (λj=>Co (f (1+j)))/\
 (∀j,j<BJ (f 0)->IZ (f (1+j))/\Fz (f (1+j))=e/\FA (f (1+j))=sq/\(Co (f (1+j))).num=Ev (f 0) j)/\
 Bc ((List.range (BJ (f 0))).flatMap λj=>f (1+j))=DL (f 0)
theorem rdH.sl{sz:Nat}{xs:List Value}(r:rdH sz v n xs h)(a:0<xs.length):∃b o c,v=.slice (some ⟨b,o,none⟩) n c:=by
 obtain ⟨g,c,e,_,_,_,f⟩:=r;obtain ⟨b,p,d,_⟩:=f 0 xs[0] (Aef a);subst d;exact ⟨b,p,c,e⟩
theorem EH(q:blk g (B.map u8++V) T h)(b:B.length=m)(a:m<=n/\n<=9223372036854775807/\V.length=n-m):rdH 1 (.slice (some ⟨g,0,none⟩) m n) m (B.map u8) h:=by
 refine q.rd a.1 a.2.1 (by simp;omega) ?_;rw[Aew,AeR,Aev (by simp;omega),Ael (by simp;omega)]
def Ec(F:Nat->List UInt8)(i:Nat):List UInt8:=(List.range i).flatMap λj=>F (1+j)
theorem S9(F:Nat->List UInt8)(i:Nat):Ec F i++F (1+i)=Ec F (i+1):=by simp[Ec,Aha]
theorem U2(F:Nat->List UInt8)(i:Nat):EF (Bc (Ec F i)) (F (1+i))=Bc (Ec F (i+1)):=by
 unfold Bc;rw[LR,S9]
theorem AdN(F:Nat->List UInt8):Value.int .u32 0=u32 (Bc (Ec F 0)):=by
 have:Bc (Ec F 0)=0:=by show Bc []=0;decide
 rw[this];rfl
def Cv(n:Nat):Dsk:=⟨n,λ_=>List.replicate 256 0,λ_=>[],0,0,0,false,0⟩
theorem Ym(h:1<=n/\n<=4096):(Cv n).Ok:=⟨h.1,h.2,λ_ _=>by simp[Cv],λ_ _ p hp=>by simp[Cv] at hp,by simp[Cv],by simp[Cv],by simp[Cv],by simp[Cv]⟩
theorem Yn :(Cv n).In (List.replicate (n*256) 0) [] 0 (λ_=>none):=by
 refine ⟨by simp[Cv],λi hi=>?_,λe a=>absurd a O,λi _ h=>by simp[Cv] at h,by simp,by simp,λe a=>absurd a O⟩;simp only[Cv] at hi ⊢;rw[AgL,List.take_replicate];congr 1;omega
theorem diskA.f1{D:Dsk}(h:D.f1=0): {D with f1:=Bi D.f1} =D:=by
 cases D;simp at h;subst h;rfl

theorem Sep.tri{w:World}{A B C:List Ai}(H:Sep z (A++(B++C)) w):Sep z (A++(C++B)) w:=by
 have f:Sep z ([seps A]++(B++C)) w:=H.shut;have l:Sep z (B++(C++[seps A])) w:=by rw[<-Aej];exact f.swap
 have h:Sep z ([seps B]++(C++[seps A])) w:=l.shut;have i:Sep z (C++([seps A]++[seps B])) w:=by rw[<-Aej];exact h.swap
 have m:Sep z [seps C,seps A,seps B] w:=i.shut;have g:Sep z ([seps B]++[seps A,seps C]) w:=m.pick 3 [2,1,0] Z;have n:Sep z (B++[seps A,seps C]) w:=g.opened;have j:Sep z ([seps A]++([seps C]++B)) w:=n.swap;have k:Sep z (A++([seps C]++B)) w:=j.opened;have b:Sep z ([seps C]++(B++A)) w:=by rw[<-Aej];exact k.swap
 have e:Sep z (C++(B++A)) w:=b.opened;have c:Sep z ((B++A)++C) w:=e.swap;have d:Sep z (B++(A++C)) w:=by rw[<-Aej];exact c
 have a:Sep z ((A++C)++B) w:=d.swap;rwa[Aej] at a
def dkB(pd bd m:Nat)(D:Dsk)(f0:Int):Ai:=blk pd [.slice (some ⟨bd,0,none⟩) (D.n*256) (D.n*256),.map (some m),.int .i64 f0,.int .i64 D.f1,.int .i64 D.f2,.int .i64 D.f3,.bool D.cut,.int .i64 D.left] 98
theorem Cn.onDisk{f:FuncId}{args:List Value}{pre:List Ai}{pd:Nat}{post:Value->List Ai->Prop}
  (h:D.Ok->∀bd m f0,Cn P f args (dkB pd bd m D f0::pre) (λv G=>∃Γ',post v Γ'/\G=Γ'++[dkB pd bd m D f0])):
  Cn P f args (diskA pd D::pre) (λv G=>∃Γ',post v Γ'/\G=Γ'++[diskA pd D]):=λz R w H=>by
 have H0:Sep z (diskA pd D::(pre++R)) w:=H;obtain ⟨bd,m,f0,bs,es,clk,hq,c,b,H1⟩:=H0.disk;have H2:Sep z ([dkB pd bd m D f0]++((E1 pd bd m D f0 bs es clk hq).drop 1++(pre++R))) w:=H1;have H3:Sep z ((dkB pd bd m D f0::pre)++(R++(E1 pd bd m D f0 bs es clk hq).drop 1)) w:=by
  have:=H2.tri;rw[Aej] at this;exact this
 refine Ret.mono (h c bd m f0 z _ w H3) ?_;rintro v a ⟨Γ,⟨Γ',hp,rfl⟩,H4⟩;refine ⟨Γ'++[diskA pd D],⟨Γ',hp,Z⟩,?_⟩;rw[Aej] at H4;have H5:Sep z ([dkB pd bd m D f0]++(R++((E1 pd bd m D f0 bs es clk hq).drop 1++Γ'))) a:=by
  have:=H4.swap;rw[Aej,Aej] at this;exact this
 have H6:Sep z (E1 pd bd m D f0 bs es clk hq++(Γ'++R)) a:=by
  have:=H5.tri;rw[Aej] at this;exact this
 have H7:Sep z ([diskA pd D]++(Γ'++R)) a:=Sep.toDisk H6 c b;have H8:Sep z (Γ'++(R++[diskA pd D])) a:=by
  have:=H7.swap;rw[Aej] at this;exact this
 have H9:=H8.tri;rw[<-Aej] at H9;exact H9

def IB:List Int->Nat->List IE
 | [],_=>[]
 | k::ks,n=>(k,.bool true,n)::IB ks (n+1)
def seen(ns:List Int):List IE:=IB ns 0
theorem I1:∀(ns:List Int) (n:Nat) (k:Int),CP (IB ns n) k=if k∈ns then some (.bool true) else none
 | [],n,k=>rfl
 | x::xs,n,k=>by
  simp only[IB,CP,I1 xs];by_cases h:k=x
  ·simp[h]
  by_cases h2:k∈xs
  ·simp[h,h2]
  simp[h,h2]
theorem U3:(CP (seen l) t).getD (.bool false)=.bool (decide (t∈l)):=by
 unfold seen;rw[I1];split
 ·rename_i h;simp[h]
 rename_i h;simp[h]
theorem KR:∀(ns:List Int) (n:Nat) (k:Int),IB (ns++[k]) n=IB ns n++[(k,.bool true,n+ns.length)]
 | [],n,k=>rfl
 | x::xs,n,k=>by
  simp only[AfD,IB,KR xs,Aei];rw[show n+1+xs.length=n+(xs.length+1) from by omega]
theorem U4{ns:List Int}{k:Int}(h:k∉ns):E6 (seen ns) k (.bool true) ns.length=seen (ns++[k])/\putC (seen ns) k ns.length=(ns++[k]).length:=by
 have:CQ (seen ns) k=false:=by unfold CQ seen;rw[I1,if_neg h];rfl
 constructor
 ·unfold E6;rw[this];unfold seen;rw[KR];simp
 unfold putC;rw[this];simp
def imA(A:Ai)(v:Value)(es:List ImE):Ai:=λh=>A h/\rdH 3 v es.length (Gq es) h/\imesOk es h
theorem Sep.imA{z w:World}{Γ:List Ai}(i:Nat){A:Ai}(H:Sep z Γ w)(hi:Γ[i]?=some A){v:Value}{ims:List Img}(b:∀h,A h->imgsH v ims h):∃es:List ImE,es.map Prod.fst=ims/\Sep z (Γ.set i (YtemljpjnhjnncaaGreatDoor.imA A v es)) w:=
 H.exAt i (p:=λes:List ImE=>es.map Prod.fst=ims) (B:=λes=>YtemljpjnhjnncaaGreatDoor.imA A v es) hi (λh a=>by
  obtain ⟨es,c,e,d⟩:=b h a;subst c;exact ⟨es,Z,a,by simpa using e,d⟩)
theorem imA.at{a:Option Addr}{c:Nat}{es:List ImE}{e:ImE}{w:World}(i:Nat)(H:Sep z Γ w)(hi:Γ[i]?=some (imA A (.slice a n c) es))(b:es[j]?=some e):∀k u,(ImE.cells e)[k]?=some u->At a (j*3+k) u w:=λk u l=>by
 have m:=H.rd i hi (λh q=>q.2.1);obtain ⟨f,c',d,_,_,_,g⟩:=m;cases d;exact g _ _ (Jv b k u l)
def FB(ims:List Img):List Value:=ims.map λm=>.int .i64 m.num
theorem U5{ims:List Img}{m:Img}(h:ims[i]?=some m):FB (ims.take i)++[I m.num]=FB (ims.take (i+1)):=by
 rw[AeM,h];simp[FB]
theorem Yo(ims:List Img):FB ims=(ims.map Img.num).map I:=by simp[FB]
def CM(e sq:Int)(m:Img):List UInt8:=Ag 1 m.kind++Ag 2 m.num++Ag 4 e++Ag 5 sq++m.body
def CN(e sq:Int)(ims:List Img):List UInt8:=ims.flatMap λm=>BD (CM e sq m)
theorem Ta{ims:List Img}{m:Img}(h:ims[i]?=some m):CN t s (ims.take i)++BD (CM t s m)=CN t s (ims.take (i+1)):=by
 rw[AeM,h];simp[CN]
def hdL(e sq:Int)(ims:List Img):List UInt8:=[80,76,79,71]++Ag 8 e++Ag 8 sq++Ag 4 ((Bc (CN e sq ims)).toNat:Int)++Ag 2 ((ims.map Img.num).length:Int)++(ims.map Img.num).flatMap (Ag 4)
theorem GQ{e sq:Int}{m:Img}(h:m.body.length=240):(CM e sq m).length=252:=by simp[CM,Ah,h]
theorem Oe{e sq:Int}:∀{ims:List Img},(∀m∈ims,m.Ok)->(CN e sq ims).length=ims.length*256
 | [],_=>rfl
 | m::ims,h=>by
  have h1:=Oe (e:=e) (sq:=sq) (ims:=ims) (λm b=>h m (by simp[b]));have a:=sect_len (l:=CM e sq m) (by rw[GQ (h m O).2.2];omega);simp only[CN,AeJ,Aeg,Aei] at h1 ⊢;rw[h1,a];omega
def BE(e sq:Int)(ims:List Img):List (List UInt8):=BD (hdL e sq ims)::ims.map λm=>BD (CM e sq m)
theorem Tc(e sq:Int)(ims:List Img):BD (hdL e sq ims)++CN e sq ims=(BE e sq ims).flatten:=by
 simp[BE,CN,List.flatMap]
theorem hdL_len(e sq:Int)(ims:List Img):(hdL e sq ims).length=26+4*ims.length:=by
 simp[hdL,Ah,Cj,-List.length_flatMap];omega
theorem KS{ims:List Img}{m:Img}(h:(ims.map Img.num).Nodup)(hi:ims[i]?=some m)(b:m.num∈(ims.take i).map Img.num):False:=by
 have a:=(Aed.1 hi).1;rw[<-AeP i ims,AeH,Afb] at h;refine h.2.2 _ b m.num ?_ Z;rw[Ae1 a,(Aed.1 hi).2];simp
def EI(ims:List Img):Prop:=(∀m∈ims,m.Ok)/\(ims.map Img.num).Nodup

def Dsk.wf(D:Dsk):Dsk:= {D with f2:=Bi D.f2}
def Dsk.wr(D:Dsk)(x:Nat)(ps:List (List UInt8)):Dsk:= {Dsk.ws {D with f2:=Bi D.f2} false x ps with left:=max 0 (D.left-1)}
def Dsk.bad(D:Dsk):Prop:=D.f2=1\/(D.cut=true/\D.left=0)
theorem Dsk.wr_n(D:Dsk)(x:Nat)(ps:List (List UInt8)):(D.wr x ps).n=D.n:=Dsk.ws_n _ _ _ _
theorem Dsk.ws_len(ps:List (List UInt8)):∀(D:Dsk) (i j:Nat),((D.ws false i ps).ver j).length<=(D.ver j).length+1:=by
 induction ps with
 | nil=>intro D i j;simp[Dsk.ws]
 | cons q qs ih=>
  intro D i j;rcases Aes i j with h|h
  ·have:=ih (D.w1 false i q) (i+1) j
   rw[Dsk.w1_ver _ _ _ U] at this;exact this
  simp only[Dsk.ws];rw[Dsk.ws_ver _ _ _ _ _ (.inl U)];show ((Di D.ver i (D.ver i++[q])) j).length<=_;unfold Di;split
  ·rename_i e;subst e;simp
  omega
theorem Dsk.wr_len(D:Dsk)(x:Nat)(ps:List (List UInt8))(j:Nat):((D.wr x ps).ver j).length<=(D.ver j).length+1:=Dsk.ws_len ps {D with f2:=Bi D.f2} x j
theorem Td{ps:List (List UInt8)}(h:∀p∈ps,p.length=256):∀k,(ps.take k).flatten=ps.flatten.take (k*256):=by
 induction ps with
 | nil=>intro k;simp
 | cons q qs ih=>
  intro k
  cases k with
  | zero=>simp
  | succ k=>
   have hq:=h q O;rw[Ae7,AgC,AgC,ih (λp hp=>h p (by simp[hp])),Ag0,Ael (l:=q) U];rw[show (k+1)*256-q.length=k*256 from by omega]
theorem Te{ps:List (List UInt8)}(h:∀p∈ps,p.length=256):∀k,(ps.drop k).flatten=ps.flatten.drop (k*256):=by
 induction ps with
 | nil=>intro k;simp
 | cons q qs ih=>
  intro k
  cases k with
  | zero=>simp
  | succ k=>
   have hq:=h q O;rw[Ae5,AgC,ih (λp hp=>h p (by simp[hp])),Ae8,AeO (l:=q) U,AeS];rw[show (k+1)*256-q.length=k*256 from by omega]
theorem U6{ps:List (List UInt8)}(h:∀p∈ps,p.length=256):ps.flatten.length=ps.length*256:=by
 induction ps with
 | nil=>rfl
 | cons q qs ih=>
  have hq:=h q O;rw[AgC,Aeg,ih (λp hp=>h p (by simp[hp])),Aei];omega
theorem Yp{e sq:Int}{ims:List Img}(h:∀m∈ims,m.Ok)(b:ims.length<=40):(∀p∈BE e sq ims,p.length=256)/\(BE e sq ims).length=1+ims.length:=by
 refine ⟨λp hp=>?_,by simp[BE];omega⟩;rcases Aep.1 hp with rfl|hp
 ·exact sect_len (by rw[hdL_len];omega)
 obtain ⟨m,a,rfl⟩:=Aem.1 hp;exact sect_len (Agk (GQ (h m a).2.2))
theorem grow.rdB{e:TypeId}{b c:Nat}{xs:List UInt8}(q:grow e 1 (.slice (some ⟨b,0,none⟩) n c) n (xs.map u8) h):rdH 1 (.slice (some ⟨b,0,none⟩) n c) n (xs.map u8) h:=q.rd
theorem grow.sl{e:TypeId}{sz:Nat}{xs:List Value}(q:grow e sz v n xs h)(f:0<n):∃b c,v=.slice (some ⟨b,0,none⟩) n c/\n<=c/\c<=9223372036854775807:=by
 have d:=q.rd;rcases q.form with ⟨_,rfl⟩|⟨b,c,rfl,h⟩
 ·omega
 obtain ⟨_,_,e,_,a,_⟩:=d;cases e;exact ⟨b,c,Z,h,a⟩

def Dj(D:Dsk)(s:Sup)(a:Int):Nat->List UInt8:=λj=>D.cont (ringAt s (a+j))
inductive Runs(D:Dsk)(s:Sup):Int->Int->Int->List Rc->Int->Int->Int->Prop
 | nil (a q u:Int):Runs D s a q u [] a q u
 | snoc {a q u a' q' u':Int} {rs:List Rc} {ims:List Img} :Runs D s a q u rs a' q' u'->u'<s.len->nextP (Dj D s a') s.epoch q' (s.len-u') ims->Runs D s a q u (rs++[⟨q',ims⟩]) ((a'+(1+(ims.length:Int)))%s.len) (q'+1) (u'+(1+(ims.length:Int)))
theorem nextP.len{f:Nat->List UInt8}{e sq:Int}{ims:List Img}(h:nextP f e sq t ims):1<=ims.length/\ims.length<=40/\1+(ims.length:Int)<=t:=by
 obtain ⟨a,_,_,d,b,_⟩:=h;have c:=a.2.2.2.1;have:ims.length=BJ (f 0):=by rw[b];simp
 omega
section
theorem BV(c:0<=t)(d:t<9223372036854775808)(b:t<256^m):AY (Ag m t)=t:=by
 obtain ⟨n,rfl⟩:=AfZ c;have a:EG (Ag m (n:Int))=n:=Yj m (by exact_mod_cast b);unfold AY;rw[a];exact AfN _ U
theorem He(a b:List UInt8)(hp:n=a.length)(c:m=b.length):((a++b++B).drop n).take m=b:=by
 subst hp c;rw[Aej,AfT Z,AeI Z]
theorem U7:∀{j:Nat} {x:Int},l[j]?=some x->((l.flatMap (Ag 4)).drop (4*j)).take 4=Ag 4 x:=by
 induction l with
 | nil=>intro j x h;simp at h
 | cons y ys ih=>
  intro j x h
  cases j with
  | zero=>
   simp at h;subst h;rw[AeJ,Nat.mul_zero,Aew,AeI (Ah 4 y)]
  | succ j=>
   rw[AeJ,show 4*(j+1)=(Ag 4 y).length+4*j from by rw[Ah];omega,Ae8];rw[AeO U,AeS,show (Ag 4 y).length+4*j-(Ag 4 y).length=4*j from by omega];exact ih (by simpa using h)
variable{e sq:Int}{ims:List Img}
theorem Of(e sq:Int)(ims:List Img):hdL e sq ims=[80,76,79,71]++Ag 8 e++(Ag 8 sq++Ag 4 ((Bc (CN e sq ims)).toNat:Int)++Ag 2 ((ims.map Img.num).length:Int)++(ims.map Img.num).flatMap (Ag 4)):=by
 simp[hdL]
theorem U8(b:ims.length<=40)(h:0<=e/\e<=1099511627776):Cq (BD (hdL e sq ims))=e:=by
 have a:=hdL_len e sq ims;unfold Cq;rw[B9 U U,Of,He _ _ O (by simp[Ah])];exact BV h.1 U U
theorem U9(b:ims.length<=40)(h:0<=sq/\sq<=1099511627776):Cr (BD (hdL e sq ims))=sq:=by
 have a:=hdL_len e sq ims;unfold Cr;rw[B9 U U,show hdL e sq ims=([80,76,79,71]++Ag 8 e)++Ag 8 sq++(Ag 4 ((Bc (CN e sq ims)).toNat:Int)++Ag 2 ((ims.map Img.num).length:Int)++(ims.map Img.num).flatMap (Ag 4)) from by simp[hdL],He _ _ (by simp[Ah]) (by simp[Ah])];exact BV h.1 U U
theorem AdO(c:ims.length<=40):DL (BD (hdL e sq ims))=Bc (CN e sq ims):=by
 have a:=hdL_len e sq ims;have b:=(Bc (CN e sq ims)).toNat_lt;unfold DL;rw[B9 U U,show hdL e sq ims=([80,76,79,71]++Ag 8 e++Ag 8 sq)++Ag 4 ((Bc (CN e sq ims)).toNat:Int)++(Ag 2 ((ims.map Img.num).length:Int)++(ims.map Img.num).flatMap (Ag 4)) from by simp[hdL],He _ _ (by simp[Ah]) (by simp[Ah])];rw[BV U U U];exact AaL
theorem RB(b:ims.length<=40):BJ (BD (hdL e sq ims))=ims.length:=by
 have a:=hdL_len e sq ims;unfold BJ;rw[B9 U U,show hdL e sq ims=([80,76,79,71]++Ag 8 e++Ag 8 sq++Ag 4 ((Bc (CN e sq ims)).toNat:Int))++Ag 2 ((ims.map Img.num).length:Int)++((ims.map Img.num).flatMap (Ag 4)) from by simp[hdL],He _ _ (by simp[Ah]) (by simp[Ah])];rw[Aeh,BV U U U];rfl
theorem Abl(g:ims.length<=40){m:Img}(b:ims[j]?=some m)(f:m.Ok):Ev (BD (hdL e sq ims)) j=m.num:=by
 have c:=hdL_len e sq ims;have d:=(Aed.1 b).1;unfold Ev;rw[B9 U U,show hdL e sq ims=([80,76,79,71]++Ag 8 e++Ag 8 sq++Ag 4 ((Bc (CN e sq ims)).toNat:Int)++Ag 2 ((ims.map Img.num).length:Int))++((ims.map Img.num).flatMap (Ag 4)) from by simp[hdL]];have a:([80,76,79,71]++Ag 8 e++Ag 8 sq++Ag 4 ((Bc (CN e sq ims)).toNat:Int)++Ag 2 ((ims.map Img.num).length:Int)).length=26:=by simp only[Aeg,Ah];rfl
 rw[Ae8,AeO (by rw[a];omega),AeS,a,show 26+4*j-26=4*j from by omega];rw[U7 (x:=m.num) (by simp[b])];have:=f.1;exact BV U U U
theorem Abm(b:1<=ims.length/\ims.length<=40)(g:0<=e/\e<=1099511627776)(hs:0<=sq/\sq<=1099511627776)(a:∀m∈ims,m.Ok):IA (BD (hdL e sq ims)):=by
 have d:=hdL_len e sq ims;have h:=U8 (sq:=sq) b.2 g;have i:=U9 (e:=e) b.2 hs;have f:=RB (e:=e) (sq:=sq) b.2;unfold Cq at h;unfold Cr at i;refine ⟨⟨Iz U,?_⟩,by rw[h];exact g,by rw[i];exact hs,by rw[f];exact b,λj c=>?_,?_⟩
 ·have:=B9 (l:=hdL e sq ims) U (p:=0) (k:=4) U
  rw[Aew,Aew] at this;rw[this,Of,Aej];rfl
 ·rw[f] at c
  have n:=Aef c;rw[Abl b.2 n (a _ (AfQ c))];exact (a _ (AfQ c)).1
 rw[f,<-d];exact MD U
theorem Og(e sq:Int)(m:Img):CM e sq m=Ag 1 m.kind++Ag 2 m.num++(Ag 4 e++Ag 5 sq++m.body):=by simp[CM]
theorem Oh{m:Img}(a:m.Ok)(j:0<=e/\e<4294967296)(hs:0<=sq/\sq<1099511627776):IZ (BD (CM e sq m))/\Fz (BD (CM e sq m))=e/\FA (BD (CM e sq m))=sq/\Co (BD (CM e sq m))=m:=by
 have f:=a.2.2;have c:=GQ (e:=e) (sq:=sq) f;have i:=a.1;have d:=a.2.1;have e1:AY ((BD (CM e sq m)).take 1)=m.kind:=by
  have:=B9 (l:=CM e sq m) U (p:=0) (k:=1) U;rw[Aew,Aew] at this;rw[this,Og,Aej,AeI (by rw[Ah])];exact BV U U U
 have e2:AY (((BD (CM e sq m)).drop 1).take 2)=m.num:=by
  rw[B9 U U,Og,He _ _ (by simp[Ah]) (by simp[Ah])];exact BV U U U
 have h:AY (((BD (CM e sq m)).drop 3).take 4)=e:=by
  rw[B9 U U,show CM e sq m=(Ag 1 m.kind++Ag 2 m.num)++Ag 4 e++(Ag 5 sq++m.body) from by simp[CM],He _ _ (by simp[Ah]) (by simp[Ah])];exact BV U U U
 have g:AY (((BD (CM e sq m)).drop 7).take 5)=sq:=by
  rw[B9 U U,show CM e sq m=(Ag 1 m.kind++Ag 2 m.num++Ag 4 e)++Ag 5 sq++m.body from by simp[CM],He _ _ (by simp[Ah]) (by simp[Ah])];exact BV U U U
 have b:((BD (CM e sq m)).drop 12).take 240=m.body:=by
  rw[B9 U U,show CM e sq m=(Ag 1 m.kind++Ag 2 m.num++Ag 4 e++Ag 5 sq)++m.body++[] from by simp[CM],He _ _ (by simp[Ah]) U]
 refine ⟨⟨Iz U,by rw[e1];exact d,by rw[e2];exact i⟩,h,g,?_⟩;unfold Co;rw[e1,e2,b]
theorem Oi{F:Nat->List UInt8}(i:1<=ims.length/\ims.length<=40)(f:∀m∈ims,m.Ok)(o:0<=e/\e<4294967296)(hs:0<=sq/\sq<1099511627776)(s:1+(ims.length:Int)<=t)
  (q:∀(j:Nat) (p:List UInt8),(BE e sq ims)[j]?=some p->F j=p):nextP F e sq t ims:=by
 have h:F 0=BD (hdL e sq ims):=q 0 _ Z;have k:=RB (e:=e) (sq:=sq) i.2;have n:∀j (g:j<ims.length),F (1+j)=BD (CM e sq ims[j]):=λj g=>q (1+j) _ (by
  rw[AgT];simp[BE,g])
 refine ⟨?_,?_,?_,?_,?_,?_,?_⟩
 ·rw[h];exact Abm i U U f
 ·rw[h];exact U8 i.2 U
 ·rw[h];exact U9 i.2 U
 ·rw[h,k];exact s
 ·rw[h,k]
  apply AgZ
  ·simp
  intro j l r;simp only[Ahz,List.getElem_range];rw[n j l,(Oh (f _ (AfQ l)) o hs).2.2.2]
 ·intro j g
  rw[h,k] at g;obtain ⟨a,b,c,d⟩:=Oh (f _ (AfQ g)) o hs;rw[n j g];refine ⟨a,b,c,?_⟩;rw[d,h,Abl i.2 (Aef g) (f _ (AfQ g))]
 rw[h,k,AdO i.2];congr 1;unfold CN;rw[List.flatMap_def,List.flatMap_def];congr 1;apply AgZ
 ·simp
 intro j l r;simp only[Ahz,List.getElem_range];exact n j (by simpa using r)
end
theorem Yq(ps:List (List UInt8)):∀(D:Dsk) (x i:Nat),(D.ws false x ps).cont i=(if x<=i then ps[i-x]? else none).getD (D.cont i):=by
 induction ps with
 | nil=>intro D x i;simp[Dsk.ws]
 | cons q qs ih=>
  intro D x i;simp only[Dsk.ws];rw[ih];have a:(D.w1 false x q).cont i=if i=x then q else D.cont i:=by
   show ((Di D.ver x (D.ver x++[q])) i).getLast?.getD (D.dur i)=_;unfold Di;split
   ·rename_i h;subst h;simp
   rfl
  rw[a];rcases AfK i x with h|h|h
  ·rw[if_neg (show ¬x+1<=i by omega),if_neg (show ¬i=x by omega),if_neg (show ¬x<=i by omega)]
  ·subst h
   rw[if_neg (show ¬i+1<=i by omega),if_pos Z,if_pos (Aek i),AgF];rfl
  rw[if_pos (show x+1<=i by omega),if_neg (show ¬i=x by omega),if_pos (show x<=i by omega),show i-x=(i-(x+1))+1 from by omega,AeA]
theorem wr_cont(ps:List (List UInt8))(D:Dsk)(x i:Nat):(D.wr x ps).cont i=(if x<=i then ps[i-x]? else none).getD (D.cont i):=Yq ps {D with f2:=Bi D.f2} x i

theorem ring_low{s:Sup}(hs:0<=s.start)(a:0<=t)(h:t+j<s.len):ringAt s (t+j)=(s.start+t).toNat+j:=by
 unfold ringAt;rw[Agp U h];omega
theorem ring_high{s:Sup}(hs:0<=s.start)(a:s.len<=t+j)(h:t+j<s.len+s.len):ringAt s (t+j)=s.start.toNat+(t+j-s.len).toNat:=by
 unfold ringAt;rw[<-Int.sub_emod_right (t+j) s.len,Agp U U];omega
theorem Kc{s:Sup}(a b:Int):ringAt s (a%s.len+b)=ringAt s (a+b):=by
 unfold ringAt;rw[Ahr]
theorem IC{s:Sup}(hs:0<=s.start)(c:0<=t/\t<s.len)(hi:(i:Int)<s.len)(d:(j:Int)<s.len)(e:ringAt s (t+i)=ringAt s (t+j)):i=j:=by
 rcases Int.lt_or_le (t+i) s.len with a|a<;>rcases Int.lt_or_le (t+j) s.len with b|b
 ·rw[ring_low hs c.1 a,ring_low hs c.1 b] at e;omega
 ·rw[ring_low hs c.1 a,ring_high hs b U] at e;omega
 ·rw[ring_high hs a U,ring_low hs c.1 b] at e;omega
 rw[ring_high hs a U,ring_high hs b U] at e;omega
def E9(D:Dsk)(s:Sup)(a:Int)(k:Nat)(ps:List (List UInt8)):Dsk:=if k<ps.length then (D.wr (s.start+a).toNat (ps.take k)).wr s.start.toNat (ps.drop k) else D.wr (s.start+a).toNat (ps.take k)
theorem Yr{s:Sup}{ps:List (List UInt8)}(hs:0<=s.start)(e:0<=t/\t<s.len)(g:(ps.length:Int)<=s.len)(f:(n:Int)=min (ps.length:Int) (s.len-t))(b:ps[j]?=some B):(E9 D s t n ps).cont (ringAt s (t+j))=B:=by
 have d:=(Aed.1 b).1;rcases Aes j n with h|h
 ·have a:ringAt s (t+j)=(s.start+t).toNat+j:=ring_low hs e.1 U
  have c:(D.wr (s.start+t).toNat (ps.take n)).cont ((s.start+t).toNat+j)=B:=by
   rw[wr_cont,if_pos U,show (s.start+t).toNat+j-(s.start+t).toNat=j from by omega,Ae0,if_pos h,b];rfl
  unfold E9;split
  ·rw[a,wr_cont]
   have:(if s.start.toNat<=(s.start+t).toNat+j then (ps.drop n)[(s.start+t).toNat+j-s.start.toNat]? else none)=none:=by
    rw[if_pos U];exact AeK (by rw[AeQ];omega)
   rw[this];exact c
  rw[a];exact c
 have a:ringAt s (t+j)=s.start.toNat+(t+j-s.len).toNat:=ring_high hs U U;unfold E9;rw[if_pos U,a,wr_cont,if_pos U,show s.start.toNat+(t+j-s.len).toNat-s.start.toNat=j-n from by omega,Afm,show n+(j-n)=j from by omega,b];rfl
theorem app_old{s:Sup}{ps:List (List UInt8)}(hs:0<=s.start)(c:0<=t/\t<s.len)(e:(ps.length:Int)<=s.len)(d:(n:Int)=min (ps.length:Int) (s.len-t))(hi:∀j:Nat,j<ps.length->i≠ringAt s (t+j)):(E9 D s t n ps).cont i=D.cont i:=by
 have a:(D.wr (s.start+t).toNat (ps.take n)).cont i=D.cont i:=by
  rw[wr_cont];split
  ·rename_i h
   rw[AeK];rfl;rw[Aez];rcases Aes (i-(s.start+t).toNat) (min n ps.length) with q|q
   ·exact absurd (by rw[ring_low hs c.1 U];omega) (hi (i-(s.start+t).toNat) U)
   exact q
  rfl
 unfold E9;split
 ·rw[wr_cont]
  split
  ·rename_i b h
   rw[AeK];exact a;rw[AeQ];rcases Aes (i-s.start.toNat) (ps.length-n) with q|q
   ·exact absurd (by rw[ring_high hs U U];omega) (hi (n+(i-s.start.toNat)) U)
   exact q
  exact a
 exact a

theorem Va{F:Nat->List UInt8}{a b:List Img}(c:nextP F t s p a)(d:nextP F t s p b):a=b:=by
 rw[c.2.2.2.2.1,d.2.2.2.2.1]
theorem Runs.pos{s:Sup}{h:Int}{rs:List Rc}{a u:Int}(b:0<=h/\h<s.len)(r:Runs D s h t 0 rs a q u):a=(h+u)%s.len/\q=t+rs.length/\0<=u/\u<=s.len/\(rs.length:Int)<=u:=by
 induction r with
 | nil=>exact ⟨by rw[Int.add_zero,Agp b.1 b.2],by simp,by omega,by omega,by simp⟩
 | snoc r hlt hn ih=>
  obtain ⟨c,d,g,i,e⟩:=ih;have f:=hn.len;refine ⟨?_,by rw[d];simp;omega,by omega,by omega,by simp;omega⟩;rw[c,Ahr,Int.add_assoc]
theorem ME:¬IA (List.replicate 256 0):=λh=>by
 have:=h.1.2;simp at this
section
def Tg(c:List UInt8)(e q:Int):Prop:=(IA c/\Cq c=e/\Cr c=q)\/(IZ c/\Fz c=e/\FA c=q)
theorem Vb:¬IZ (List.replicate 256 0):=λh=>by
 have:=h.2.1.1;revert this;decide
theorem Vc{e q:Int}:¬Tg (List.replicate 256 0) e q:=by
 rintro (⟨h,_⟩|⟨h,_⟩)
 ·exact ME h
 exact Vb h
theorem JX(h:IA B)(g:IZ B):False:=by
 have b:=h.1.2;have a:=g.2.1.2;have:B.take 1=[80]:=by
  have:=congrArg (List.take 1) b;rwa[AeF] at this
 rw[this] at a;revert a;decide
variable{e q:Int}{ims:List Img}
theorem rec_cases(hp:(BE e q ims)[n]?=some B):(n=0/\B=BD (hdL e q ims))\/∃j m,n=j+1/\ims[j]?=some m/\B=BD (CM e q m):=by
 cases n with
 | zero=>simp[BE] at hp;exact .inl ⟨Z,hp.symm⟩
 | succ j=>
  simp only[BE,AeA,Aeq,AgA] at hp;obtain ⟨m,a,b⟩:=hp;exact .inr ⟨j,m,Z,a,b.symm⟩
theorem Qh(i:1<=ims.length/\ims.length<=40)(f:∀m∈ims,m.Ok)(k:0<=e/\e<4294967296)(hq:0<=q/\q<1099511627776)(hp:(BE e q ims)[n]?=some B)(h:Tg B t s):t=e/\s=q:=by
 rcases rec_cases hp with ⟨rfl,rfl⟩|⟨j,m,rfl,l,rfl⟩
 ·have o:=Abm i (e:=e) (sq:=q) U U f
  rcases h with ⟨_,c,g⟩|⟨c,_⟩
  ·exact ⟨c.symm.trans (U8 i.2 U),g.symm.trans (U9 i.2 U)⟩
  exact (JX o c).elim
 obtain ⟨a,b,d,_⟩:=Oh (f m (Aee l)) k hq;rcases h with ⟨c,_⟩|⟨_,c,g⟩
 ·exact (JX c a).elim
 exact ⟨c.symm.trans b,g.symm.trans d⟩

def secs(e:Int)(rs:List Rc):List (List UInt8):=rs.flatMap λr=>BE e r.seq r.ims
theorem Fa(e:Int)(rs a:List Rc):secs e (rs++a)=secs e rs++secs e a:=by simp[secs]
theorem Ke(e:Int)(r:Rc):secs e [r]=BE e r.seq r.ims:=by simp[secs]
theorem FR(e q:Int)(ims:List Img):(BE e q ims).length=1+ims.length:=by simp[BE];omega
theorem KT(e:Int){rs:List Rc}{r:Rc}(h:rs[j]?=some r):secs e rs=secs e (rs.take j)++BE e r.seq r.ims++secs e (rs.drop (j+1)):=by
 have a:=(Aed.1 h).1;have:rs=rs.take j++[r]++rs.drop (j+1):=by
  rw[<-(Aed.1 h).2,List.take_append_getElem a,AeP]
 conv=>lhs;rw[this]
 rw[Fa,Fa,Ke]
theorem Vd{e:Int}{rs:List Rc}(h:B∈secs e rs):∃(j:Nat) (r:Rc) (p:Nat),rs[j]?=some r/\(BE e r.seq r.ims)[p]?=some B:=by
 obtain ⟨r,c,b⟩:=Agi.1 h;obtain ⟨j,a⟩:=Ae4 c;obtain ⟨p,hp⟩:=Ae4 b;exact ⟨j,r,p,a,hp⟩

def Dp(D:Dsk)(n:Nat)(c:List UInt8):Prop:=c=D.dur n\/c∈D.ver n
def AdP(s:Sup)(c:List UInt8):Prop:=∀e q,Tg c e q->e<s.epoch\/(e=s.epoch/\q<s.seq)
structure PInv(D:Dsk)(s:Sup)(rs:List Rc)(pt:List (List UInt8))(a q u:Int)(b:Bool)(sure:Nat):Prop where
 fa:a=(s.head+u)%s.len
 fq:q=s.seq+rs.length+(if b then 1 else 0)
 fu:u=((secs s.epoch rs).length:Int)
 ul:u<=s.len
 pb:b=false->pt=[]
 part:pt=[]\/∃ims k,((1<=ims.length/\ims.length<=40)/\(∀m∈ims,m.Ok))/\pt=(BE s.epoch (s.seq+rs.length) ims).take k/\k<1+ims.length/\u+(1+(ims.length:Int))<=s.len
 recs:∀(j:Nat) (r:Rc),rs[j]?=some r->r.seq=s.seq+j/\(1<=r.ims.length/\r.ims.length<=40)/\∀m∈r.ims,m.Ok
 old:∀i:Nat,(i:Int)<s.len->∀c,Dp D (ringAt s (s.head+i)) c->AdP s c\/(secs s.epoch rs++pt)[i]?=some c
 last:∀(i:Nat) (c:List UInt8),(secs s.epoch rs++pt)[i]?=some c->D.cont (ringAt s (s.head+i))=c
 dura:∀(i:Nat) (c:List UInt8),(secs s.epoch (rs.take sure))[i]?=some c->D.dur (ringAt s (s.head+i))=c/\D.ver (ringAt s (s.head+i))=[]
 sure:sure<=rs.length
structure SOk(s:Sup):Prop where
 start:0<=s.start
 head:0<=s.head/\s.head<s.len
 epoch:0<=s.epoch/\s.epoch<4294967296
 seq:0<=s.seq
theorem PInv.f{D':Dsk}{s:Sup}{rs:List Rc}{j:List (List UInt8)}{a q u:Int}(h:PInv D s rs j a q u b n)(e:D'.dur=D.dur)(g:D'.ver=D.ver):PInv D' s rs j a q u b n:=
 ⟨h.fa,h.fq,h.fu,h.ul,h.pb,h.part,h.recs,λi hi c d=>h.old i hi c (by unfold Dp at d ⊢;rwa[e,g] at d),λi c d=>by have:=h.last i c d;unfold Dsk.cont at this ⊢;rw[e,g];exact this,
  λi c d=>by rw[e,g];exact h.dura i c d,h.sure⟩
theorem Oj{s:Sup}(a:0<s.len)(h x:Int):∃i:Nat,(i:Int)<s.len/\ringAt s x=ringAt s (h+i):=by
 have b:=Agn (x-h) (by omega:s.len≠0);have c:=Af5 (x-h) a;refine ⟨((x-h)%s.len).toNat,by omega,?_⟩;unfold ringAt;rw[Int.toNat_of_nonneg b,Int.add_emod_emod];congr 3;omega
theorem PInv.tags{s:Sup}{rs:List Rc}{pt:List (List UInt8)}{a q u:Int}(h:PInv D s rs pt a q u b n)(hs:SOk s)(hq:q<=1099511627776)(hi:(i:Int)<s.len){c:List UInt8}(w:Dp D (ringAt s (s.head+i)) c){v:Int}(e:Tg c t v):t<s.epoch\/(t=s.epoch/\v<q):=by
 have d:=h.fq;have y:=hs.seq;rcases h.old i hi c w with g|g
 ·rcases g _ _ e with g|⟨z,g2⟩
  ·exact .inl g
  refine .inr ⟨z,?_⟩;split at d<;>omega
 rcases Aer.1 (Aee g) with g|g
 ·obtain ⟨j,r,p,l,hp⟩:=Vd g
  obtain ⟨m,f,o⟩:=h.recs j r l;have x:=(Aed.1 l).1;have:=Qh f o hs.epoch (by split at d<;>omega) hp e;exact .inr ⟨this.1,by split at d<;>omega⟩
 rcases h.part with rfl|⟨ims,k,⟨m,f⟩,rfl,o,_⟩
 ·cases g
 cases b with
 | false=>have:=h.pb Z;rw[this] at g;cases g
 | true=>
  rw[if_pos Z] at d;obtain ⟨p,hp⟩:=Ae4 g;rw[Ae0] at hp;split at hp
  ·have:=Qh m f hs.epoch U hp e
   exact .inr ⟨this.1,by omega⟩
  cases hp
theorem PInv.drop{s:Sup}{rs:List Rc}{x:List (List UInt8)}{a q u:Int}(h:PInv D s rs x a q u b n)(hs:SOk s)(hq:q<=1099511627776){d:Sup}(o:d.start=s.start)(y:d.len=s.len)(t:d.epoch=s.epoch)(v:d.head=a)(l:d.seq=q)(h0:0<=d.len)(k:0<=d.head/\d.head<d.len):PInv D d [] [] a q 0 false 0:=by
 have p:0<s.len:=by have:=hs.head;omega
 refine ⟨?_,by rw[l];simp,by simp[secs],by omega,λ_=>rfl,.inl Z,λj r h=>by simp at h,λi hi c f=>.inl λe q w=>?_,λi c h=>by simp[secs] at h,λi c h=>by simp[secs] at h,Aek _⟩
 ·rw[Int.add_zero,<-v,Agp k.1 k.2]
 have z:ringAt d (d.head+i)=ringAt s (d.head+i):=by unfold ringAt;rw[o,y]
 rw[z] at f;obtain ⟨i',g,m⟩:=Oj p s.head (d.head+i);rw[m] at f;have:=h.tags hs hq g f w;rw[t,l];exact this
def Dsk.fl(D:Dsk):Dsk:= {D with dur:=D.cont,ver:=λ_=>[],f3:=Bi D.f3,left:=max 0 (D.left-1)}
theorem cont_has(D:Dsk)(n:Nat):Dp D n (D.cont n):=by
 unfold Dp Dsk.cont
 cases hl:(D.ver n).getLast? with
 | none=>exact .inl Z
 | some p=>exact .inr (List.mem_of_getLast? hl)
theorem fl_has(h:Dp D.fl n B):Dp D n B:=by
 rcases h with rfl|h
 ·exact cont_has D n
 cases h
theorem PInv.flush{s:Sup}{rs:List Rc}{e:List (List UInt8)}{a q u:Int}(h:PInv D s rs e a q u b n):PInv D.fl s rs e a q u b rs.length:=
 ⟨h.fa,h.fq,h.fu,h.ul,h.pb,h.part,h.recs,λi hi c d=>h.old i hi c (fl_has d),λi c d=>h.last i c d,
  λi c d=>⟨h.last i c (by rw[Ae9] at d;rw[Aeo (Aed.1 d).1];exact d),Z⟩,Aek _⟩

theorem ws_dur(ps:List (List UInt8)):∀(D:Dsk) (x:Nat),(D.ws false x ps).dur=D.dur:=by
 induction ps with
 | nil=>intro D x;rfl
 | cons p ps ih=>intro D x;simp only[Dsk.ws];rw[ih];rfl
theorem ws_mem(ps:List (List UInt8)):∀(D:Dsk) (x i:Nat) (c:List UInt8),c∈(D.ws false x ps).ver i->c∈D.ver i\/(x<=i/\ps[i-x]?=some c):=by
 induction ps with
 | nil=>intro D x i c h;exact .inl h
 | cons p ps ih=>
  intro D x i c h;simp only[Dsk.ws] at h;rcases ih _ _ _ _ h with h|⟨b,a⟩
  ·have h:c∈(Di D.ver x (D.ver x++[p])) i:=h
   unfold Di at h;split at h
   ·rename_i e;subst e
    rcases Aer.1 h with h|h
    ·exact .inl h
    simp at h;subst h;exact .inr ⟨Aek _,by simp⟩
   exact .inl h
  exact .inr ⟨by omega,by rw[show i-x=(i-(x+1))+1 from by omega,AeA];exact a⟩
theorem wr_has{x:Nat}{ps:List (List UInt8)}(h:Dp (D.wr x ps) i B):Dp D i B\/(x<=i/\ps[i-x]?=some B):=by
 rcases h with rfl|h
 ·exact .inl (.inl (congrFun (ws_dur ps {D with f2:=Bi D.f2} x) i))
 rcases ws_mem ps {D with f2:=Bi D.f2} x i B h with h|h
 ·exact .inl (.inr h)
 exact .inr h
theorem app_has{s:Sup}{ps:List (List UInt8)}(hs:0<=s.start)(e:0<=t/\t<s.len)(g:(ps.length:Int)<=s.len)(f:(m:Int)=min (ps.length:Int) (s.len-t))(h:Dp (E9 D s t m ps) n B):Dp D n B\/∃j:Nat,ps[j]?=some B/\n=ringAt s (t+j):=by
 have b:∀{n:Nat} {B:List UInt8},Dp (D.wr (s.start+t).toNat (ps.take m)) n B->Dp D n B\/∃j:Nat,ps[j]?=some B/\n=ringAt s (t+j):=λ{n B} h=>by
  rcases wr_has h with h|⟨c,a⟩
  ·exact .inl h
  rw[Ae0] at a;split at a
  ·exact .inr ⟨_,a,by rw[ring_low hs e.1 U];omega⟩
  cases a
 unfold E9 at h;split at h
 ·rcases wr_has h with h|⟨c,a⟩
  ·exact b h
  rw[Afm] at a;have d:=(Aed.1 a).1;exact .inr ⟨_,a,by rw[ring_high hs U U];omega⟩
 exact b h
theorem Gy(D:Dsk){ps:List (List UInt8)}(j:Nat)(h:j<n\/n+ps.length<=j):(D.wr n ps).ver j=D.ver j:=Dsk.ws_ver false ps {D with f2:=Bi D.f2} n j h
theorem Pz{s:Sup}{ps:List (List UInt8)}(hs:0<=s.start)(b:0<=t/\t<s.len)(d:(ps.length:Int)<=s.len)(c:(n:Int)=min (ps.length:Int) (s.len-t))(hi:∀j:Nat,j<ps.length->i≠ringAt s (t+j)):(E9 D s t n ps).ver i=D.ver i:=by
 have a:(D.wr (s.start+t).toNat (ps.take n)).ver i=D.ver i:=by
  refine Gy _ _ ?_;rw[Aez];rcases Aes i (s.start+t).toNat with g|g
  ·exact .inl g
  rcases Aes (i-(s.start+t).toNat) (min n ps.length) with q|q
  ·exact absurd (by rw[ring_low hs b.1 U];omega) (hi (i-(s.start+t).toNat) U)
  exact .inr U
 unfold E9;split
 ·refine (Gy _ _ ?_).trans a
  rw[AeQ];rcases Aes i s.start.toNat with g|g
  ·exact .inl g
  rcases Aes (i-s.start.toNat) (ps.length-n) with q|q
  ·exact absurd (by rw[ring_high hs U U];omega) (hi (n+(i-s.start.toNat)) U)
  exact .inr U
 exact a
theorem PInv.at_ok{s:Sup}{rs:List Rc}{c:List (List UInt8)}{a q u:Int}(h:PInv D s rs c a q u b n)(hs:SOk s):0<=a/\a<s.len:=by
 have:=hs.head;rw[h.fa];exact ⟨Agn _ U,Af5 _ U⟩
theorem PInv.ring{s:Sup}{rs:List Rc}{c:List (List UInt8)}{a q u:Int}(h:PInv D s rs c a q u b n)(j:Nat):ringAt s (a+j)=ringAt s (s.head+(((secs s.epoch rs).length+j:Nat):Int)):=by
 have d:=h.fu;rw[h.fa,Kc];congr 1;omega
theorem PInv.app{s:Sup}{rs:List Rc}{pt:List (List UInt8)}{a q u:Int}(h:PInv D s rs pt a q u false n)(hs:SOk s){k:Nat}(hl:1<=ims.length/\ims.length<=40)(x:∀m∈ims,m.Ok)(hr:1+(ims.length:Int)<=s.len-u)(hk:(k:Int)=min (1+(ims.length:Int)) (s.len-a)):
  PInv (E9 D s a k (BE s.epoch q ims)) s (rs++[⟨q,ims⟩]) [] ((a+(1+(ims.length:Int)))%s.len) (q+1) (u+(1+(ims.length:Int))) false n:=by
 obtain rfl:=h.pb Z;have t:=h.at_ok hs;have hu:=h.fu;have hq:=h.fq;rw[if_neg (by decide)] at hq;have v:=FR s.epoch q ims;have f:(k:Int)=min ((BE s.epoch q ims).length:Int) (s.len-a):=by rw[v];omega
 have o:(secs s.epoch (rs++[⟨q,ims⟩]))=secs s.epoch rs++BE s.epoch q ims:=by rw[Fa,Ke]
 have l:∀i:Nat,(i:Int)<s.len->i<(secs s.epoch rs).length->∀j:Nat,j<(BE s.epoch q ims).length->ringAt s (s.head+i)≠ringAt s (a+j):=λi hi a0 j d e=>by
  rw[h.ring] at e;have:=IC hs.start hs.head hi U e;omega
 refine ⟨?_,by simp;omega,by rw[o,Aeg,v];omega,by omega,λ_=>rfl,.inl Z,λj r d=>?_,λi hi c b=>?_,λi c b=>?_,λi c b=>?_,by have:=h.sure;simp;omega⟩
 ·rw[h.fa,Ahr,Int.add_assoc]
 ·rcases Aes j rs.length with g|g
  ·rw[Aeo g] at d;exact h.recs j r d
  rw[Aeu g] at d;have:j=rs.length:=by have:=(Aed.1 d).1;simp at this;omega
  subst this;simp at d;subst d;exact ⟨by dsimp only;omega,hl,x⟩
 ·rw[AeY,o]
  rcases app_has hs.start t U f b with b|⟨j,d,w⟩
  ·rcases h.old i hi c b with g|g
   ·exact .inl g
   rw[AeY] at g;exact .inr (by rw[Aeo (Aed.1 g).1];exact g)
  have a1:=(Aed.1 d).1;rw[h.ring] at w;have:=IC hs.start hs.head hi U w;subst this;exact .inr (by rw[Aeu U,Agf];exact d)
 ·rw[AeY,o] at b
  rcases Aes i (secs s.epoch rs).length with g|g
  ·rw[Aeo g] at b
   rw[app_old hs.start t U f (l i U g)];exact h.last i c (by rw[AeY];exact b)
  rw[Aeu g] at b;have:=Yr (D:=D) hs.start t U f b;rw[h.ring,show (secs s.epoch rs).length+(i-(secs s.epoch rs).length)=i from by omega] at this;exact this
 rw[Aev h.sure] at b;have p:i<(secs s.epoch rs).length:=by
  have h1:=(Aed.1 b).1;have h2:(secs s.epoch rs).length=(secs s.epoch (rs.take n)).length+(secs s.epoch (rs.drop n)).length:=by
   rw[<-Aeg,<-Fa,AeP]
  omega
 obtain ⟨h1,h2⟩:=h.dura i c b;have key:∀c',Dp (E9 D s a k (BE s.epoch q ims)) (ringAt s (s.head+i)) c'->Dp D (ringAt s (s.head+i)) c':=λc' y=>by
  rcases app_has hs.start t U f y with g|⟨j,d,w⟩
  ·exact g
  exact (l i U p j (Aed.1 d).1 w).elim
 have hd:(E9 D s a k (BE s.epoch q ims)).dur=D.dur:=by
  unfold E9;split
  ·exact (ws_dur _ _ _).trans (ws_dur _ {D with f2:=Bi D.f2} _)
  exact ws_dur _ {D with f2:=Bi D.f2} _
 refine ⟨by rw[hd];exact h1,?_⟩;have z:=Pz (D:=D) hs.start t U f (l i U p);rw[z];exact h2
end
section
variable{e q:Int}{ims:List Img}

theorem PInv.fail0{s:Sup}{rs:List Rc}{d:List (List UInt8)}{a q u:Int}(h:PInv D s rs d a q u false n):PInv D.wf s rs [] a (q+1) u true n:=by
 obtain rfl:=h.pb Z;have hq:=h.fq;rw[if_neg (by decide)] at hq;exact ⟨h.fa,by rw[if_pos Z];omega,h.fu,h.ul,λg=>(by cases g),.inl Z,h.recs,λi hi c b=>h.old i hi c b,λi c b=>h.last i c b,λi c b=>h.dura i c b,h.sure⟩
theorem PInv.fail1{s:Sup}{rs:List Rc}{pt:List (List UInt8)}{a q u:Int}(h:PInv D s rs pt a q u false r)(hs:SOk s){k:Nat}(hl:1<=ims.length/\ims.length<=40)(a0:∀m∈ims,m.Ok)(hr:1+(ims.length:Int)<=s.len-u)(hk:(k:Int)=min (1+(ims.length:Int)) (s.len-a))(z:k<1+ims.length):
  PInv (Dsk.wf (D.wr (s.start+a).toNat ((BE s.epoch q ims).take k))) s rs ((BE s.epoch q ims).take k) a (q+1) u true r:=by
 obtain rfl:=h.pb Z;have ha:=h.at_ok hs;have hu:=h.fu;have hq:=h.fq;rw[if_neg (by decide)] at hq;have a2:=FR s.epoch q ims;have e:((BE s.epoch q ims).take k).length=k:=by rw[Aez];omega
 have d:∀j:Nat,j<k->(s.start+a).toNat+j=ringAt s (s.head+(((secs s.epoch rs).length+j:Nat):Int)):=λj o=>by
  rw[<-h.ring,ring_low hs.start ha.1 U]
 have w:∀{n:Nat} {c:List UInt8},Dp (Dsk.wf (D.wr (s.start+a).toNat ((BE s.epoch q ims).take k))) n c->Dp D n c\/∃j:Nat,((BE s.epoch q ims).take k)[j]?=some c/\n=ringAt s (s.head+(((secs s.epoch rs).length+j:Nat):Int)):=λ{n c} g=>by
  rcases wr_has (D:=D) (x:=(s.start+a).toNat) (ps:=(BE s.epoch q ims).take k) g with g|⟨g1,p⟩
  ·exact .inl g
  have o:=(Aed.1 p).1;rw[e] at o;exact .inr ⟨_,p,by rw[<-d _ o];omega⟩
 have t:∀i:Nat,i<(secs s.epoch rs).length->ringAt s (s.head+i)<(s.start+a).toNat\/(s.start+a).toNat+((BE s.epoch q ims).take k).length<=ringAt s (s.head+i):=λi hi=>by
  rw[e];rcases Aes (ringAt s (s.head+i)) (s.start+a).toNat with g|g
  ·exact .inl g
  rcases Aes (ringAt s (s.head+i)) ((s.start+a).toNat+k) with p|p
  ·have:=d (ringAt s (s.head+i)-(s.start+a).toNat) U
   have:=IC (i:=i) (j:=(secs s.epoch rs).length+(ringAt s (s.head+i)-(s.start+a).toNat)) hs.start hs.head U U U;omega
  exact .inr p
 have v:∀i:Nat,i<(secs s.epoch rs).length->(Dsk.wf (D.wr (s.start+a).toNat ((BE s.epoch q ims).take k))).ver (ringAt s (s.head+i))=D.ver (ringAt s (s.head+i)):=λi hi=>Gy D _ (t i hi);have l:(Dsk.wf (D.wr (s.start+a).toNat ((BE s.epoch q ims).take k))).dur=D.dur:=ws_dur ((BE s.epoch q ims).take k) {D with f2:=Bi D.f2} _;have y:q=s.seq+rs.length:=by omega
 refine ⟨h.fa,by rw[if_pos Z];omega,h.fu,h.ul,λg=>(by cases g),.inr ⟨ims,k,⟨hl,a0⟩,by rw[<-y],z,by omega⟩,h.recs,λi hi c b=>?_,λi c b=>?_,λi c b=>?_,h.sure⟩
 ·rcases w b with b|⟨j,o,hn⟩
  ·rcases h.old i hi c b with g|g
   ·exact .inl g
   rw[AeY] at g;exact .inr (by rw[Aeo (Aed.1 g).1];exact g)
  have f:=(Aed.1 o).1;rw[e] at f;have:=IC hs.start hs.head hi U hn;subst this;exact .inr (by rw[Aeu U,Agf];exact o)
 ·rcases Aes i (secs s.epoch rs).length with g|g
  ·rw[Aeo g] at b
   have:=h.last i c (by rw[AeY];exact b);unfold Dsk.cont at this ⊢;rw[v i g,l];exact this
  rw[Aeu g] at b;have f:=(Aed.1 b).1;rw[e] at f;have e1:=d (i-(secs s.epoch rs).length) f;rw[show (secs s.epoch rs).length+(i-(secs s.epoch rs).length)=i from by omega] at e1;rw[<-e1];show (D.wr _ _).cont _=c;rw[wr_cont,if_pos U,Agf,b];rfl
 have a1:i<(secs s.epoch rs).length:=by
  have h1:=(Aed.1 b).1;have h2:(secs s.epoch rs).length=(secs s.epoch (rs.take r)).length+(secs s.epoch (rs.drop r)).length:=by
   rw[<-Aeg,<-Fa,AeP]
  omega
 obtain ⟨h1,h2⟩:=h.dura i c b;exact ⟨by rw[l];exact h1,by rw[v i a1];exact h2⟩

structure Crashed(D D':Dsk):Prop where
 n:D'.n=D.n
 ver:∀i,D'.ver i=[]
 dur:∀i,Dp D i (D'.dur i)
theorem Crashed.cont{D D':Dsk}(h:Crashed D D')(n:Nat):D'.cont n=D'.dur n:=by unfold Dsk.cont;rw[h.ver];rfl
theorem PInv.reads{D':Dsk}{s:Sup}{rs:List Rc}{c:List (List UInt8)}{a q u:Int}(h:PInv D s rs c a q u b n)(d:Crashed D D')(hi:(i:Int)<s.len)(hq:s.seq<=t)(e:Tg (D'.cont (ringAt s (s.head+i))) s.epoch t):(secs s.epoch rs++c)[i]?=some (D'.cont (ringAt s (s.head+i))):=by
 rcases h.old i hi (D'.cont (ringAt s (s.head+i))) (by rw[d.cont];exact d.dur _) with g|g
 ·have:=g _ _ e
  omega
 exact g
theorem PInv.one{D':Dsk}{s:Sup}{rs:List Rc}{w:List (List UInt8)}{a q u:Int}(h:PInv D s rs w a q u b m)(hs:SOk s)(hc:Crashed D D')(hq:q<=1099511627776)(hn:n<=rs.length){i l:Int}(hu:l=((secs s.epoch (rs.take n)).length:Int))(ha:t=(s.head+l)%s.len)(a6:i=s.seq+n)
  (a3:nextP (Dj D' s t) s.epoch i (s.len-l) ims):∃r,rs[n]?=some r/\r=⟨i,ims⟩:=by
 obtain ⟨z,n2,n3,n4,n5,n6,n7⟩:=a3;have hF:∀j:Nat,Dj D' s t j=D'.cont (ringAt s (s.head+(((secs s.epoch (rs.take n)).length+j:Nat):Int))):=λj=>by
  show D'.cont (ringAt s (t+j))=_;rw[ha,Kc];congr 2;omega
 have a4:=z.2.2.2.1;have rd:∀j:Nat,j<=BJ (Dj D' s t 0)->Tg (Dj D' s t j) s.epoch i->(secs s.epoch rs++w)[(secs s.epoch (rs.take n)).length+j]?=some (Dj D' s t j):=λj f ht=>by
  rw[hF] at ht ⊢;exact h.reads hc U U ht
 have c:=rd 0 U (.inl ⟨z,n2,n3⟩);have hi:∀j:Nat,j<BJ (Dj D' s t 0)->(secs s.epoch rs++w)[(secs s.epoch (rs.take n)).length+(1+j)]?=some (Dj D' s t (1+j)):=λj f=>by
  obtain ⟨g1,g2,g3,_⟩:=n6 j f;exact rd (1+j) U (.inr ⟨g1,g2,g3⟩)
 have a2:=h.fq;have a5:=hs.seq;rcases Aes n rs.length with a1|hge
 ·have hr:rs[n]?=some rs[n]:=Aef a1
  obtain ⟨r1,r2,r3⟩:=h.recs n _ hr;refine ⟨_,hr,?_⟩;have y:=KT s.epoch hr;have hp:=FR s.epoch rs[n].seq rs[n].ims;have g:∀j:Nat,j<1+rs[n].ims.length->(secs s.epoch rs++w)[(secs s.epoch (rs.take n)).length+j]? =(BE s.epoch rs[n].seq rs[n].ims)[j]? :=λj f=>by
   rw[y,Aej,Aej,Aeu U,Agf,Aeo U]
  have e0:=g 0 U;rw[c] at e0;have e:Dj D' s t 0=BD (hdL s.epoch rs[n].seq rs[n].ims):=by
   simp[BE] at e0;exact e0
  have hC:BJ (Dj D' s t 0)=rs[n].ims.length:=by rw[e,RB r2.2]
  have d:nextP (Dj D' s t) s.epoch rs[n].seq (s.len-l) rs[n].ims:=by
   refine Oi r2 r3 hs.epoch (by split at a2<;>omega) U λj p f=>?_;have a7:=(Aed.1 f).1
   cases j with
   | zero=>have:=g 0 U;rw[c,f] at this;exact Agd this
   | succ j=>
    have h1:=hi j U;rw[AgT 1 j] at h1;have:=g (j+1) U;rw[h1,f] at this;exact Agd this
  have o:nextP (Dj D' s t) s.epoch i (s.len-l) ims:=⟨z,n2,n3,n4,n5,n6,n7⟩;have e1:rs[n].seq=i:=by omega
  rw[e1] at d;have e2:=Va o d;rw[e2,<-e1]
 have x:n=rs.length:=by omega
 subst x;rw[Ae9] at c hi;rw[Aeu U,Ag6,AgF] at c;rcases h.part with rfl|⟨v,k,⟨p1,p2⟩,rfl,p3,p4⟩
 ·simp at c
 have a0:0<k:=by
  have:=(Aed.1 c).1;rw[Aez] at this;omega
 rw[Ae0,if_pos a0] at c;have e:Dj D' s t 0=BD (hdL s.epoch (s.seq+rs.length) v):=by
  simp[BE] at c;exact c.symm
 have hC:BJ (Dj D' s t 0)=v.length:=by rw[e,RB p1.2]
 have:=hi (k-1) U;rw[Aeu U,show (secs s.epoch rs).length+(1+(k-1))-(secs s.epoch rs).length=k from by omega,Ae0,if_neg U] at this;cases this
theorem PInv.begins{D':Dsk}{s:Sup}{rs:List Rc}{o:List (List UInt8)}{a q u:Int}(h:PInv D s rs o a q u b n)(hs:SOk s)(l:Crashed D D')(hq:q<=1099511627776){c:List Rc}{f:Int}(r:Runs D' s s.head s.seq 0 c t p f):c.length<=rs.length/\c=rs.take c.length/\f=((secs s.epoch c).length:Int)/\t=(s.head+f)%s.len/\p=s.seq+c.length:=by
 have d:=r.pos hs.head;refine (λ(g:c.length<=rs.length/\c=rs.take c.length/\f=((secs s.epoch c).length:Int))=>⟨g.1,g.2.1,g.2.2,d.1,d.2.1⟩) ?_;clear d
 induction r with
 | nil=>exact ⟨by simp,by simp,by simp[secs]⟩
 | @snoc t p f c ims r hlt hn ih=>
  have d:=r.pos hs.head;obtain ⟨m,j,v⟩:=ih;obtain ⟨w,e,i⟩:=h.one hs l hq m (by rw[<-j];exact v) d.1 d.2.1 hn;have k:=(Aed.1 e).1;refine ⟨by simp;omega,?_,?_⟩
  ·rw[Aeg,List.length_singleton,AeM,<-j,e,i];rfl
  rw[Fa,Aeg,Ke,FR];dsimp only;omega
theorem PInv.read{D':Dsk}{s:Sup}{rs:List Rc}{pt:List (List UInt8)}{a q u:Int}(h:PInv D s rs pt a q u b n)(hs:SOk s)(o:Crashed D D')(hq:q<=1099511627776){c:List Rc}{l f:Int}(r:Runs D' s s.head s.seq 0 c t l f)(e:s.len<=f\/∀ims,¬nextP (Dj D' s t) s.epoch l (s.len-f) ims):n<=c.length/\c.length<=rs.length/\c=rs.take c.length:=by
 obtain ⟨g1,z,g3,g4,g5⟩:=h.begins hs o hq r;refine ⟨?_,g1,z⟩;rcases Aes c.length n with m|hge
 ·exfalso
  have a1:=h.sure;have v:=h.fq;have a2:=hs.seq;obtain ⟨d,hr⟩:∃d,rs[c.length]?=some d:=⟨_,Aef U⟩;obtain ⟨r1,r2,r3⟩:=h.recs _ _ hr;have y:(rs.take n)[c.length]?=some d:=by rw[Ae0,if_pos m];exact hr
  have i:=KT s.epoch y;have hp:=FR s.epoch d.seq d.ims;have k:(rs.take n).take c.length=c:=by rw[AeF,AeG U];exact z.symm
  have a3:(secs s.epoch (rs.take n)).length<=(secs s.epoch rs).length:=by
   have h2:(secs s.epoch rs).length=(secs s.epoch (rs.take n)).length+(secs s.epoch (rs.drop n)).length:=by
    rw[<-Aeg,<-Fa,AeP]
   omega
  have a0:(secs s.epoch c).length+(1+d.ims.length)<=(secs s.epoch (rs.take n)).length:=by
   rw[i,k,Aeg,Aeg];omega
  have hu:=h.fu;have a4:=h.ul;have x:nextP (Dj D' s t) s.epoch l (s.len-f) d.ims:=by
   have e1:l=d.seq:=by omega
   rw[e1];refine Oi r2 r3 hs.epoch (by split at v<;>omega) U λj p hj=>?_;have a5:=(Aed.1 hj).1;have w:(secs s.epoch (rs.take n))[(secs s.epoch c).length+j]?=some p:=by
    rw[i,k,Aej,Aeu U,Agf,Aeo U];exact hj
   obtain ⟨d1,d2⟩:=h.dura _ _ w;show D'.cont (ringAt s (t+j))=p;rw[g4,Kc,show s.head+f+(j:Int)=s.head+(((secs s.epoch c).length+j:Nat):Int) from by omega,o.cont];rcases o.dur (ringAt s (s.head+(((secs s.epoch c).length+j:Nat):Int))) with g|g
   ·rw[g,d1]
   rw[d2] at g;cases g
  rcases e with g|g
  ·omega
  exact g _ x
 exact hge
end
structure Pg where
 kind:Int
 body:List UInt8
def Pg.Ok(p:Pg):Prop:=(1<=p.kind/\p.kind<=5)/\p.body.length=240
def noPg:Pg:=⟨0,[]⟩
def IL(n:Nat)(p:Pg):List UInt8:=[80,80,65,71]++Ag 1 p.kind++Ag 4 (n:Int)++[0,0,0]++p.body
theorem FS{p:Pg}(h:p.Ok):(IL n p).length=252:=by simp[IL,Ah,h.2]
def Ek(n:Nat)(p:Pg):List UInt8:=BD (IL n p)
theorem FT{p:Pg}(h:p.Ok):(Ek n p).length=256:=sect_len (Agk (FS h))
def HomeP(c:List UInt8)(n:Nat)(p:Pg):Prop:=(c=List.replicate 256 0/\p=noPg)\/(p.Ok/\c=Ek n p)
theorem Ol{p:Pg}(h:p.Ok):(Ek n p).take 4=[80,80,65,71]:=by
 have a:=FS (n:=n) h;have:=B9 (l:=IL n p) U (p:=0) (k:=4) U;rw[Aew,Aew] at this;unfold Ek;rw[this];rfl
theorem PA{p:Pg}(h:p.Ok):Ek n p≠List.replicate 256 0:=λe=>by
 have:=Ol (n:=n) h;rw[e] at this;exact absurd this (by decide)
def Kf(x:Sup):List UInt8:=[80,83,85,80]++x.list.flatMap (Ag 8)
theorem GR(x:Sup):(Kf x).length=60:=by simp[Kf,Sup.list,Ah]
def DE(x:Sup):List UInt8:=BD (Kf x)
theorem GS(x:Sup):(DE x).length=256:=sect_len (by rw[GR];omega)
def GT(m:Img):Pg:=⟨m.kind,m.body⟩
theorem Qi{m:Img}(h:m.Ok):(GT m).Ok:=⟨h.2.1,h.2.2⟩
abbrev BF:=Nat->Option Pg
def pgSet(f:BF)(n:Nat)(p:Pg):BF:=λi=>if i=n then some p else f i
def Dq:BF:=λ_=>none
def Hu(f g:BF):BF:=λi=>(g i).or (f i)
def EM(f:BF)(ims:List Img):BF:=ims.foldl (λf m=>pgSet f m.num.toNat (GT m)) f
def ov(rs:List Rc):BF:=rs.foldl (λf r=>EM f r.ims) Dq
theorem Jw(rs:List Rc)(r:Rc):ov (rs++[r])=EM (ov rs) r.ims:=by simp[ov,AgD]
def pgMap(f:BF)(B:Nat->Pg):Nat->Pg:=λi=>(f i).getD (B i)
theorem Ve{f:BF}{ims:List Img}{m:Img}:EM f (ims++[m])=pgSet (EM f ims) m.num.toNat (GT m):=by simp[EM,AgD]
theorem Qj(ims:List Img):∀(f:BF) (n:Nat),(EM f ims n).isSome=((f n).isSome||ims.any λm=>decide (m.num.toNat=n)):=by
 induction ims with
 | nil=>intro f n;simp[EM]
 | cons m ims ih=>
  intro f n;have:EM f (m::ims)=EM (pgSet f m.num.toNat (GT m)) ims:=rfl;rw[this,ih];unfold pgSet;by_cases h:n=m.num.toNat
  ·subst h;simp
  have a:¬m.num.toNat=n:=λe=>h e.symm;simp[h,a]
theorem ovI_get{f:BF}{ims:List Img}{p:Pg}(h:EM f ims n=some p):f n=some p\/∃m∈ims,m.num.toNat=n/\p=GT m:=by
 induction ims generalizing f with
 | nil=>exact .inl h
 | cons m ims ih=>
  have e:EM f (m::ims)=EM (pgSet f m.num.toNat (GT m)) ims:=rfl;rw[e] at h;rcases ih h with g|⟨a,b,c,d⟩
  ·unfold pgSet at g
   split at g
   ·rename_i e;cases g;exact .inr ⟨m,by simp,e.symm,Z⟩
   exact .inl g
  exact .inr ⟨a,by simp[b],c,d⟩
theorem KU:∀(k:Nat) (rs:List Rc),rs.length=k->∀{n:Nat} {p:Pg},ov rs n=some p->∃r∈rs,∃m∈r.ims,m.num.toNat=n/\p=GT m:=by
 intro k
 induction k with
 | zero=>intro rs d n p h;obtain rfl:=Agg.1 d;cases h
 | succ k ih=>
  intro rs d n p h;obtain ⟨c,r,rfl⟩:∃c r,rs=c++[r]:=⟨rs.dropLast,rs.getLast (by intro e;subst e;simp at d),(List.dropLast_concat_getLast (by intro e;subst e;simp at d)).symm⟩;rw[Jw] at h;rcases ovI_get h with g|⟨m,f,l,j⟩
  ·obtain ⟨i,a,b⟩:=ih c (by simpa using d) g;exact ⟨i,by simp[a],b⟩
  exact ⟨r,by simp,m,f,l,j⟩
def hwD(D:Dsk)(l:List (Nat×Pg)):Dsk:=l.foldl (λD x=>D.wr (2+x.1) [Ek x.1 x.2]) D
theorem Vf(D:Dsk)(l:List (Nat×Pg))(x:Nat×Pg):hwD D (l++[x])=(hwD D l).wr (2+x.1) [Ek x.1 x.2]:=by simp[hwD,AgD]
theorem hwD_cons(D:Dsk)(l:List (Nat×Pg))(x:Nat×Pg):hwD D (x::l)=hwD (D.wr (2+x.1) [Ek x.1 x.2]) l:=rfl
theorem Tf(D:Dsk)(x:Nat)(ps:List (List UInt8)):(D.wr x ps).dur=D.dur:=ws_dur ps {D with f2:=Bi D.f2} x
theorem Fb(l:List (Nat×Pg)):∀D:Dsk,(hwD D l).n=D.n:=by
 induction l with
 | nil=>intro D;rfl
 | cons x l ih=>intro D;rw[hwD_cons,ih,Dsk.wr_n]
theorem KW(l:List (Nat×Pg)):∀D:Dsk,(hwD D l).dur=D.dur:=by
 induction l with
 | nil=>intro D;rfl
 | cons x l ih=>intro D;rw[hwD_cons,ih,Tf]
theorem hw_has(l:List (Nat×Pg)):∀(D:Dsk) (i:Nat) (c:List UInt8),Dp (hwD D l) i c->Dp D i c\/∃x∈l,i=2+x.1/\c=Ek x.1 x.2:=by
 induction l with
 | nil=>intro D i c h;exact .inl h
 | cons x l ih=>
  intro D i c h;rw[hwD_cons] at h;rcases ih _ _ _ h with g|⟨y,b,d,e⟩
  ·rcases wr_has g with g|⟨f,a⟩
   ·exact .inl g
   have:i-(2+x.1)=0:=by
    have:=(Aed.1 a).1;simp at this;omega
   rw[this] at a;simp at a;exact .inr ⟨x,by simp,by omega,a.symm⟩
  exact .inr ⟨y,by simp[b],d,e⟩
theorem KX(l:List (Nat×Pg)):∀(D:Dsk) (i:Nat),(∀x∈l,i≠2+x.1)->(hwD D l).ver i=D.ver i:=by
 induction l with
 | nil=>intro D i _;rfl
 | cons x l ih=>
  intro D i h;rw[hwD_cons,ih _ _ (λy a=>h y (by simp[a]))];refine Gy _ _ ?_;have:=h x O;simp only[Aei,AeD];omega
theorem hw_cont_out(l:List (Nat×Pg))(D:Dsk)(i:Nat)(h:∀x∈l,i≠2+x.1):(hwD D l).cont i=D.cont i:=by
 unfold Dsk.cont;rw[KX l D i h,KW]
theorem Xs{l:List (Nat×Pg)}:∀(D:Dsk),(l.map Prod.fst).Nodup->∀x∈l,(hwD D l).cont (2+x.1)=Ek x.1 x.2:=by
 induction l with
 | nil=>intro D _ x h;cases h
 | cons y l ih=>
  intro D a x b;rw[hwD_cons];simp only[AeL,Afj] at a;rcases Aep.1 b with rfl|b
  ·rw[hw_cont_out]
   ·rw[wr_cont,if_pos (Aek _),AgF];rfl
   intro z c e;exact a.1 (Aem.2 ⟨z,c,by omega⟩)
  exact ih _ a.2 x b
theorem Om(l:List (Nat×Pg)):∀(D:Dsk) (i:Nat),(l.map Prod.fst).Nodup->((hwD D l).ver i).length<=(D.ver i).length+1:=by
 induction l with
 | nil=>intro D i _;show (D.ver i).length<=_;omega
 | cons y l ih=>
  intro D i a;rw[hwD_cons];simp only[AeL,Afj] at a;by_cases hi:i=2+y.1
  ·rw[KX]
   ·exact Dsk.wr_len _ _ _ _
   intro z c e;exact a.1 (Aem.2 ⟨z,c,by omega⟩)
  have b:=ih (D.wr (2+y.1) [Ek y.1 y.2]) i a.2;rw[Gy D i (by simp only[Aei,AeD];omega)] at b;exact b

def Fk(D:Dsk)(x:Sup):Dsk:= {Dsk.ws {D with f2:=Bi D.f2} true (x.gen%2).toNat [DE x] with left:=max 0 (D.left-1)}
theorem HO(D:Dsk)(x:Sup):(Fk D x).dur (x.gen%2).toNat=DE x/\(Fk D x).ver (x.gen%2).toNat=[]:=by
 constructor
 ·show (Di D.dur _ _) _=_;simp[Di]
 show (Di D.ver _ _) _=_;simp[Di]
theorem ET(D:Dsk)(x:Sup)(i:Nat)(h:i≠(x.gen%2).toNat):(Fk D x).dur i=D.dur i/\(Fk D x).ver i=D.ver i:=by
 constructor
 ·show (Di D.dur _ _) _=_;unfold Di;rw[if_neg h]
 show (Di D.ver _ _) _=_;unfold Di;rw[if_neg h]
theorem Ys{x2:Value}:Aj 274 [.pointer (some ⟨n,1,none⟩)] [blk n (BS y (.int .i32 0) x2 i) 238] (λv G=>v=.tuple #[]/\G=[blk n (BS y (.int .i32 1) x2 i) 238]):=by
 intro z R w H;refine Ae func274 Z ntmps274 Z (Zc 2 Z (Ab Z (Hc (v:=.tuple #[]) (vs:=[]) Z Z (λw _=>run_call_mark0 func279 J J J .disable J w)) (Z0 8 [1] Z (AP Z (Ru 0 (p:=1) (u0:=.int .i32 0) (u:=.int .i32 1) (v:=.bool true) H Z Z Z (vs:=[.pointer (some ⟨n,1,none⟩),.int .i32 0,.int .i32 1]) Z Z (λa b=>run_call_cas_hit func280 J J J .i32 J a b) (out:=(BS y (.int .i32 1) x2 i)) Z) ?_))));rintro _ w ⟨rfl,H⟩;refine Zc 7 Z (Ab Z (Hc (v:=.tuple #[]) (vs:=[]) Z Z (λw _=>run_call_mark0 func281 J J J .enable J w)) (Zc 4 Z (Ab Z (NU Z J Z (Az (H.cel 0 Z 1 Z))) (Ab Z (Hc (v:=.tuple #[]) (vs:=[.pointer (some ⟨n,1,none⟩)]) Z Z (λw _=>run_call_marked func282 J J J .acquire J _ w)) (Zc 3 Z (Zr Z ?_))))));exact ⟨_,⟨Z,Z⟩,H⟩
theorem Th{x2:Value}:Aj 275 [.pointer (some ⟨n,1,none⟩)] [blk n (BS y (.int .i32 1) x2 i) 238] (λv G=>v=.tuple #[]/\G=[blk n (BS y (.int .i32 0) x2 i) 238]):=by
 intro z R w H;refine Ae func275 Z ntmps275 Z (Z2 13 [1,0,0] H Z (Ab Z (NU Z J Z (Az (H.cel 0 Z 1 Z))) (Ab Z (Hc (v:=.tuple #[]) (vs:=[.pointer (some ⟨n,1,none⟩)]) Z Z (λw _=>run_call_marked func284 J J J .releaseMerge J _ w)) (Zc 3 Z (Ab Z (Hc (v:=.tuple #[]) (vs:=[]) Z Z (λw _=>run_call_mark0 func279 J J J .disable J w)) (Z0 7 [1] Z (AP Z (Ru 0 (p:=1) (u0:=.int .i32 1) (u:=.int .i32 0) (v:=.int .i32 0) H Z Z Z (vs:=[.pointer (some ⟨n,1,none⟩),.int .i32 (-1)]) Z Z (λa b=>run_call_add func285 J J J .i32 J (s:=0) a b (by simp[go_sem];rfl)) (out:=(BS y (.int .i32 0) x2 i)) Z) ?_)))))));rintro _ w ⟨rfl,H⟩;refine Z0 14 [4] Z (Ab Z (Hc (v:=.tuple #[]) (vs:=[]) Z Z (λw _=>run_call_mark0 func281 J J J .enable J w)) (Zc 1 Z (Zf Z ?_)));exact ⟨_,⟨Z,Z⟩,H⟩
theorem Abn:Aj 266 [.pointer (some ⟨n,1,none⟩)] [blk n (BS u (.int .i32 0) y i) 238] (λv G=>v=.tuple #[]/\G=[blk n (BS u (.int .i32 1) y i) 238]):=by
 intro z R w H;refine Ae func266 Z ntmps266 Z (Z0 4 [1] Z (z_E_ Z (call274 _) (Ys) H ?_));intro w H;refine Zc 1 Z (Zf Z ?_);exact ⟨_,⟨Z,Z⟩,H⟩
theorem Vg(a i:Nat)(c x2:Value):Xq prog 267 [.pointer (some ⟨a,1,none⟩)] [blk a (BS c (.int .i32 1) x2 i) 238] (λv G=>v=.tuple #[]/\G=[blk a (BS c (.int .i32 0) x2 i) 238]):=by
 intro z R u w b;have H:=b.l1;refine NV func267 Z 6 ntmps267 Z (AJ (Mw 3 [1] Z J (Fw Z Z Z Z Z (λw=>call275 _ w) (Th) H Z ?_)));rintro _ w _ ⟨rfl,rfl⟩ b;have H:=b.l1;refine AS (dn0 Z ?_);exact ⟨[blk a (BS c (.int .i32 0) x2 i) 238],⟨Z,Z⟩,H⟩
theorem Ac9:Aj 277 [.bool true] [] (λv G=>v=.int .u32 1/\G=[]):=by
 intro z R w H;refine Ae func277 Z ntmps277 Z (Zc 18 Z (Zr Z ?_));exact ⟨_,⟨Z,Z⟩,H⟩
theorem On:Aj 248 [Y n] [blk n (BS (.int .u32 0) u y i) 238] (λv G=>v=.bool false/\G=[blk n (BS (.int .u32 0) u y i) 238]):=by
 intro z R w H;refine Ae func248 Z ntmps248 Z (Z0 10 [0] Z (Ab Z (Hc (v:=.int .u32 0) (vs:=[Y n]) Z Z (Az (run_call_load func265 J J J .u32 J (H.cel 0 Z 0 Z)))) (Z0 5 [4] Z (Zr Z ?_))));exact ⟨_,⟨Z,Z⟩,H⟩
theorem Vh:Aj 248 [Y n] [blk n (BS (.int .u32 1) u y i) 238] (λv G=>v=.bool true/\G=[blk n (BS (.int .u32 1) u y i) 238]):=by
 intro z R w H;refine Ae func248 Z ntmps248 Z (Z0 10 [0] Z (Ab Z (Hc (v:=.int .u32 1) (vs:=[Y n]) Z Z (Az (run_call_load func265 J J J .u32 J (H.cel 0 Z 0 Z)))) (Z0 5 [3] Z (Zr Z ?_))));exact ⟨_,⟨Z,Z⟩,H⟩
theorem Vi(b i:Nat)(c x2:Value):Xq prog 268 [Y b,.bool true] [blk b (BS (.int .u32 0) c x2 i) 238] (λv G=>v=.tuple #[]/\G=[blk b (BS (.int .u32 1) c x2 i) 238]):=by
 intro z R u w a;have H:=a.l1;refine NV func268 Z 10 ntmps268 Z (Bp (Sep z (blk b (BS (.int .u32 0) c x2 i) 238::R)) 6 Z J (A4 H λw a=>?_));have H:=a.l1;refine Bv [0,1,2,3] [0] J (λ_ _=>AN) (by exact H.pick 1 [0] Z) Z J Z Z (AF [4] J O (Am (Bt Z Z Z Z Z Z (λw=>call277 _ w) (Ac9) H Z ?_)));rintro _ w _ ⟨rfl,rfl⟩ a;have H:=a.l1;refine Au (λ_=>(H.pick 1 [0] Z)) (AF [5] J O (Am (B6 Z Z Z Z (Ru 0 (p:=0) (u0:=.int .u32 0) (u:=.int .u32 1) (v:=.tuple #[]) H Z Z Z (vs:=[Y b,.int .u32 1]) Z Z (λd e=>run_call_store func276 J J J J d e) (out:=(BS (.int .u32 1) c x2 i)) Z) ?_)));rintro _ w ⟨rfl,a⟩;have H:=a.l1;refine Au (λh=>absurd Z h) (Bo J (dn0 Z ?_));exact ⟨[blk b (BS (.int .u32 1) c x2 i) 238],⟨Z,Z⟩,H⟩
theorem Abo(b:Nat)(c d x2:Value):Aj 226 [Y b] [blk b (BS c d x2 0) 238] (λv G=>v=.tuple #[]/\G=[blk b (BS c d x2 256) 238]):=by
 intro z R w H;refine Ae func226 Z ntmps226 Z (Zc 6 Z ?_);refine AD (σ:=Nat) (λi=>[(4,I (i:Int)),(0,Y b)])
   (λi w=>Sep z (blk b (BS c d x2 i) 238::R) w/\(i<=256)) (λi=>256-i) 0
   fr_z ⟨H,by omega⟩ ?_
 clear H;rintro i w ⟨g,e⟩;have H:=g.l1;have h:=e;clear e;refine Z0 6 [0] Z (Af Z (λk=>?_) (λk=>?_))
 ·have f:i<256:=by omega
  refine Zc 13 Z (Ab Z (Sy Z J Z) (Zc 10 Z ?_));refine AD (σ:=Nat) (λj=>[(9,I (j:Int)),(3,u32 (Jt j (Fv (i:Int)))),(0,Y b),(2,I (i:Int)),(4,I (i:Int)),(5,.bool (decide ((i:Int)<256))),(6,I (i:Int)),(7,I (i:Int)),(8,u32 (Fv (i:Int)))])
    (λj w=>Sep z (blk b (BS c d x2 i) 238::R) w/\(j<=8)) (λj=>8-j) 0
    (λ_ a=>(a.co Z (by go_num) a.cz)) ⟨H,by omega⟩ ?_
  clear H;rintro j w ⟨g,e⟩;have H:=g.l1;have l:=e;clear e;refine Z0 6 [0] Z (Af Z (λn=>?_) (λn=>?_))
  ·refine Zc 6 Z (Ab Z (HC Z Z (m:=1) (n':=1) Z (by decide)) (Zc 1 Z (Ab Z (XQ (q:=1) Z Z Z) (Ab Z (XR (q:=2197175160) Z Z Z) (Ab Z (PQ Z Z Z) (Z1 8 [] [(j:Int)+1] Z U (gf ?_)))))));intro _ a;refine ⟨(j+1),(a.co Z (by go_num) a.cz),⟨H,?_⟩,?_⟩
   ·omega
   omega
  obtain rfl:j=8:=by omega
  refine Zc 2 Z (gx (Z1 9 [3,256,1,i,3+i] [] Z U (AC Z Z (Al 0 H Z Z Z Z (vs:=[u32 (Jt 8 (Fv (i:Int)))]) Z (by simp[u32,Value.oneCell']) J (by rw[UV U];simp;omega) (out:=BS c d x2 (i+1)) (by have:=S5 c d x2 f;simpa using this)) ?_)));rintro w H;refine Z1 7 [] [(i:Int)+1] Z U (gf ?_);intro _ a;refine ⟨(i+1),a.cz,⟨H,?_⟩,?_⟩
  ·omega
  omega
 refine Zc 2 Z (gx (Zc 1 Z (Zf Z ?_)));obtain rfl:i=256:=by omega
 exact ⟨_,⟨Z,Z⟩,H⟩
theorem Abp:Aj 249 [Y n,.func (.func 226) #[Y n] #[]] [blk n (BS (.int .u32 0) (.int .i32 0) (.int .u32 0) 0) 238] (λv G=>v=.tuple #[]/\G=[blk n (BS (.int .u32 1) (.int .i32 0) (.int .u32 0) 256) 238]):=by
 intro z R w b;have H:=b.l1;refine SV func249 Z 21 ntmps249 Z (A0 (AJ (Mw 3 [1] Z J (Fw Z Z Z Z Z (λw=>call266 _ w) (Abn) H Z ?_))));rintro _ w _ ⟨rfl,rfl⟩ b;have H:=b.l1;refine AS (A0 (AJ (Mw 3 [1] Z J (LQ Z Z Z Z (AS (A0 (AJ (Mw 3 [0] Z J (Fw Z Z Z Z Z (λw=>call248 _ w) (On) H Z ?_)))))))));rintro _ w _ ⟨rfl,rfl⟩ b;have H:=b.l1;refine B3 1 Z Z (AS (Sh Z (A0 (AJ (Mw 3 [0] Z J (LQ Z Z Z Z (AS (AJ (B3 1 Z Z (X4 (bs:=[Y n]) (vs:=[]) Z Z Z Z Z Z (λw=>call226 _ w) (Abo n (.int .u32 0) (.int .i32 1) (.int .u32 0)) H 1 [0] Z Z ?_))))))))));rintro _ w _ ⟨rfl,rfl⟩ b;have H:=b.l1;refine AS ?_;intro a c;unfold Jr;rw[c.defers];refine GN (λw=>call268 _ w) (Vi n 256 (.int .i32 1) (.int .u32 0)) H 1 [0] Z Z ?_;rintro _ w _ ⟨rfl,rfl⟩ b;clear H;have H:Sep z (blk n (BS (.int .u32 1) (.int .i32 1) (.int .u32 0) 256) 238::R) w:=b;refine GN (λw=>call267 _ w) (Vg n 256 (.int .u32 1) (.int .u32 0)) H 1 [0] Z Z ?_;rintro _ w _ ⟨rfl,rfl⟩ b;exact Ac5 Z ⟨_,⟨Z,Z⟩,b⟩
theorem Ada(a:Nat):Aj 225 [Y a,.func (.func 226) #[Y a] #[]] [blk a (BS (.int .u32 0) (.int .i32 0) (.int .u32 0) 0) 238] (λv G=>v=.tuple #[]/\G=[blk a (BS (.int .u32 1) (.int .i32 0) (.int .u32 0) 256) 238]):=by
 intro z R w H;refine Ae func225 Z ntmps225 Z (Z0 5 [0] Z (z_E_ Z (call248 _) (On) H ?_));intro w H;refine Zc 7 Z (z_E_ Z (call249 _) (Abp) H ?_);intro w H;refine Zc 1 Z (Zf Z ?_);exact ⟨_,⟨Z,Z⟩,H⟩
theorem Adb(a:Nat):Aj 225 [Y a,.func (.func 226) #[Y a] #[]] [blk a (BS (.int .u32 1) (.int .i32 0) (.int .u32 0) 256) 238] (λv G=>v=.tuple #[]/\G=[blk a (BS (.int .u32 1) (.int .i32 0) (.int .u32 0) 256) 238]):=by
 intro z R w H;refine Ae func225 Z ntmps225 Z (Z0 5 [0] Z (z_E_ Z (call248 _) (Vh) H ?_));intro w H;refine Zc 5 Z (Zf Z ?_);exact ⟨_,⟨Z,Z⟩,H⟩
theorem AdQ:Aj 225 [Y n,.func (.func 226) #[Y n] #[]] [tblA n] (λv G=>v=.tuple #[]/\G=[blk n (BS (.int .u32 1) (.int .i32 0) (.int .u32 0) 256) 238]):=Cn.or (Ada n) (Adb n)
theorem Oo:Aj 93 [] [] (λv G=>(∃a,v=Y a/\G=[tblA a])):=by
 intro z R w H;refine Ae func93 Z ntmps93 Z (Zc 7 Z (Ab Z (Bg Z Z (out:=(BS (.int .u32 0) (.int .i32 0) (.int .u32 0) 0)) J) (AP Z (G9 H Z Z (cs:=(BS (.int .u32 0) (.int .i32 0) (.int .u32 0) 0)) Z) ?_)));rintro _ w ⟨b,rfl,H⟩;refine Zc 4 Z (Zr Z ?_);have H:=H.mono 0 (B:=tblA b) Z (λh q=>.inl q);exact ⟨_,⟨b,Z,Z⟩,H⟩
theorem Ti(e:Nat)(a:UInt32)(v:Value)(bs:List UInt8)(A:Ai)(g:∀h,A h->rdH 1 v bs.length (bs.map u8) h):Aj 193 [Y e,u32 a,v] [tblA e,A] (λv G=>v=u32 (EF a bs)/\G=[tblA e,A]):=by
 intro z R w H;obtain ⟨p,c,rfl⟩:=H.sy 1 (λq=>(g _ q).slc);have s:=H.sy 1 (λq=>(g _ q).small);refine Ae func193 Z ntmps193 Z (Z0 11 [0] Z (Ab Z (C5 Z Z Z) (z_E_ Z (call225 _) (AdQ) H ?_)));intro w H;refine Zc 5 Z (Ab Z (PR Z Z) (Zc 12 Z ?_));refine AD (σ:=Nat) (λk=>[(20,I (k:Int)),(7,u32 ((bs.take k).foldl HM (4294967295 ^^^ a))),(0,Y e),(6,u32 0),(18,.slice p bs.length c),(19,I (bs.length:Int))])
   (λk w=>Sep z (blk e (BS (.int .u32 1) (.int .i32 0) (.int .u32 0) 256) 238::A::R) w/\(k<=bs.length)) (λk=>bs.length-k) 0
   (λ_ d=>(d.co Z (by go_num) d.cz)) ⟨H,by omega⟩ ?_
 clear H;rintro k w ⟨t,n⟩;have H:=t.l2;have x:=n;clear n;refine Z0 6 [0] Z (Af Z (λo=>?_) (λo=>?_))
 ·obtain ⟨b,i⟩:∃b,bs[k]?=some b:=⟨_,Aef U⟩;refine Zc 6 Z ?_;have f:=(H.rd 1 Z g).at (j:=k) (u:=u8 b) (by simp[i])
  refine Ab Z (Ak Z (z:=1) (j:=k) (r:=k) J Z Z Z U f U) (Ab Z (Ay Z Z J (Az f)) (Zc 5 Z (Ab Z (HC Z Z (m:=8) (n':=8) Z (by decide)) (Zc 2 Z (Ab Z (HD Z J Z) (Zc 1 Z (Ab Z (AaM Z Z Z) (Z0 2 [3] Z (Ab Z (JZ (l:=256) Z (z:=1) (j:=((((bs.take k).foldl HM (4294967295 ^^^ a)).toUInt8) ^^^ b).toNat) (r:=3+(((bs.take k).foldl HM (4294967295 ^^^ a)).toUInt8 ^^^ b).toNat) J Z Z Z (UInt8.toNat_lt _) U) (Ab Z (Bn Z Z J (Az (H.cel 0 Z _ (S6)))) (Ab Z (PQ Z Z Z) (Z1 8 [] [(k:Int)+1] Z U (gf ?_)))))))))))));intro _ d;refine ⟨(k+1),(d.co Z (by go_num) (d.co Z (congrArg u32 (by rw[AeM,i];simp[HM])) (d.all Z))),⟨H,?_⟩,?_⟩
  ·omega
  omega
 refine Zc 2 Z (gx (Zc 5 Z (Ab Z (PR Z Z) (Zc 4 Z (Zr Z ?_)))));obtain rfl:k=bs.length:=by omega
 have H:=H.mono 0 (B:=tblA e) Z (λh q=>.inr q);exact ⟨_,⟨congrArg u32 (by simp[EF]),Z⟩,H⟩
theorem Yt(bs:List UInt8)(a:∀h,A h->rdH 1 v bs.length (bs.map u8) h):Aj 193 [Y n,.int .u32 0,v] [tblA n,A] (λv G=>v=u32 (Bc bs)/\G=[tblA n,A]):=by
 have h:=Ti n 0 v bs A a;rw[show u32 0=Value.int .u32 0 from Z] at h;exact h
theorem Xt(bs:List UInt8)(b:bs.length=n)(a:∀h,A h->rdH 1 v n (bs.map u8) h):Aj 230 [Y m,v] [tblA m,A] (λv G=>v=u32 (Bc bs)/\G=[tblA m,A]):=by
 intro z R w H;subst b;refine Ae func230 Z ntmps230 Z (Zc 9 Z (z_E_ Z (call193 _) (Yt bs a) H ?_));intro w H;refine Zc 4 Z (Zr Z ?_);exact ⟨_,⟨Z,Z⟩,H⟩
theorem Oq(bs:List UInt8)(b:bs.length=n)(a:∀h,A h->rdH 1 v n (bs.map u8) h):Aj 224 [Y i,v] [tblA i,A] (λv G=>v=.agg #[u8 ((Bc bs).toUInt8),u8 (((Bc bs)>>>8).toUInt8),u8 (((Bc bs)>>>16).toUInt8),u8 (((Bc bs)>>>24).toUInt8)]/\G=[tblA i,A]):=by
 intro z R w H;refine Ae func224 Z ntmps224 Z (Zc 2 Z (AP Z (BZ (P:=prog) H Z (zs:=[u8 0,u8 0,u8 0,u8 0]) J) ?_));rintro _ w ⟨c,rfl,H⟩;refine Zc 6 Z (z_E_ Z (call230 _) (Xt bs U a) H.f2.f2 ?_);intro w H;refine Zc 6 Z (Ab Z (HD Z J Z) (Zc 1 Z (Ab Z (HC Z Z (m:=8) (n':=8) Z (by decide)) (Ab Z (HD Z J Z) (Zc 1 Z (Ab Z (HC Z Z (m:=16) (n':=16) Z (by decide)) (Ab Z (HD Z J Z) (Zc 1 Z (Ab Z (HC Z Z (m:=24) (n':=24) Z (by decide)) (Ab Z (HD Z J Z) (Ab Z (Bg Z Z (out:=[u8 ((Bc bs).toUInt8),u8 (((Bc bs)>>>8).toUInt8),u8 (((Bc bs)>>>16).toUInt8),u8 (((Bc bs)>>>24).toUInt8)]) J) (Z4 4 [2] H Z ?_))))))))))));intro w H;refine Zl [2,4] H Z ?_;exact ⟨_,⟨Z,Z⟩,H.perm 3 [0,1] Z Z⟩
theorem CH(a k:Nat)(x:Int)(e:B.length=256)(l:a+k<=256/\k<=8):Aj 100 [Y n,I x,I (k:Int)] [blk n (A7 B (a:Int)) 167] (λv G=>v=.tuple #[]/\G=[blk n (A7 (Bx B (Ag k x) a) ((a+k:Nat):Int)) 167]):=by
 intro z R w H;refine Ae func100 Z ntmps100 Z (Zc 8 Z ?_);refine AD (σ:=Nat) (λi=>[(8,I (i:Int)),(0,Y n),(1,I x),(2,I (k:Int)),(7,I (k:Int))])
   (λi w=>Sep z (blk n (A7 (Gp B (Ag k x) a i) (a:Int)) 167::R) w/\(i<=k)) (λi=>k-i) 0
   fr_z ⟨(by rw[UW];exact H),by omega⟩ ?_
 clear H;rintro i w ⟨d,f⟩;have H:=d.l1;have h:=f;clear f;have c:(Gp B (Ag k x) a i).length=256:=by rw[Yh U (by rw[Ah];omega)];exact e
 refine Z0 6 [0] Z (Af Z (λg=>?_) (λg=>?_))
 ·have hi:i<k:=by omega
  refine Zc 10 Z (BK 18 J J (A4 H λw d=>?_));have H:=d.l1;refine PV 4 [256] Z J (Cc Z Z Z (Bn Z Z J (Az (H.cel 0 Z 256 (N6 _ c)))) (ES 8 [] [((a+i:Nat):Int),(k:Int)-1,((k-1-i:Nat):Int),((8*(k-1-i):Nat):Int)] H Z J U (Cc Z Z Z (AaP Z Z Z (m:=8*(k-1-i)) Z U) (Cc Z Z Z (Rj Z J Z) (ES 3 [0,256,1,(a+i),a+i] [] H Z J U (CG (gw (AC Z Z (Al 0 H Z Z Z Z (vs:=[u8 (GI (x/2^(8*(k-1-i))))]) Z (by simp[u8,u32,Value.oneCell']) J (by rw[Fj c];simp;omega) (out:=(A7 (Gp B (Ag k x) a (i+1)) (a:Int))) (UZ (by rw[Ah];omega) (beN_get x hi))) ?_))))))));rintro w H;refine Z1 7 [] [(i:Int)+1] Z U (gf ?_);intro _ j;refine ⟨(i+1),j.cz,⟨H,?_⟩,?_⟩
  ·omega
  omega
 obtain rfl:i=k:=by omega
 rw[Yi B (Ag i x) a (by rw[Ah])] at H;have b:(Bx B (Ag i x) a).length=256:=by rw[Eu (by rw[Ah];omega)];exact e
 refine Zc 2 Z (gx (Z0 6 [256] Z (Ab Z (Bn Z Z J (Az (H.cel 0 Z 256 (N6 _ b)))) (Z1 4 [256] [((a+i:Nat):Int)] Z U (AC Z Z (Al 0 H Z Z Z Z (vs:=[I ((a+i:Nat):Int)]) Z (by simp[u8,u32,Value.oneCell']) J (by rw[Fj b];simp) (out:=(A7 (Bx B (Ag i x) a) ((a+i:Nat):Int))) (Ju b)) ?_)))));rintro w H;refine Zc 1 Z (Zf Z ?_);exact ⟨_,⟨Z,Z⟩,H⟩
theorem I2(a:Nat)(s:List UInt8)(b:S.length=256)(e:a+s.length<=256/\a<256):Aj 189 [Y n,Cl s] [blk n (A7 S (a:Int)) 167] (λv G=>v=.tuple #[]/\G=[blk n (A7 (Bx S s a) ((a+s.length:Nat):Int)) 167]):=by
 intro z R w H;refine Ae func189 Z ntmps189 Z (Bp (Sep z (wrH n (a:Int)::R)) 18 Z J (A4 H λw d=>?_));have H:=d.l1;refine Bv [0,1,2] [256] J (λ_ _=>AN) (by exact H.mono 0 (B:=wrH n (a:Int)) Z (λh q=>⟨_,b,q⟩)) Z J Z Z (BG 3 J Z Z J J J Z Z Z (Bn Z Z J (λ_ c=>c.cell 0 Z (λh q=>wrH.at q))) (H.mono 0 (B:=wrH n (a:Int)) Z (λh q=>⟨_,b,q⟩)) (Bv [4,5,6,7,8,9] [0,256] J (λ_ _=>AN) (by exact H.mono 0 (B:=wrH n (a:Int)) Z (λh q=>⟨_,b,q⟩)) Z J Z Z (BG 10 J Z Z J J J Z Z Z (Bn Z Z J (λ_ c=>c.cell 0 Z (λh q=>wrH.at q))) (H.mono 0 (B:=wrH n (a:Int)) Z (λh q=>⟨_,b,q⟩)) (BG 11 J Z Z J J J Z Z Z (GJ Z (n':=256) (z:=1) (p:=a) (q:=256) (o':=a) (l':=256-a) (c':=256-a) J Z (.inr ⟨_,_,_,Z,Z,Z⟩) (.inl ⟨Z,Z⟩) U U U U U U) (H.mono 0 (B:=wrH n (a:Int)) Z (λh q=>⟨_,b,q⟩)) (Bv [12] [] J (λ_ _=>AN) (by exact H.mono 0 (B:=wrH n (a:Int)) Z (λh q=>⟨_,b,q⟩)) Z J Z Z (AF [13] J O (Am (B6 Z Z Z Z (F9 0 H Z Z J Z Z (m:=s.length) (news:=(s.map u8)) (.inr ⟨s,Z,Z,Z⟩) (by simp[u8,Value.oneCell']) (by rw[Fj b];omega) (k:=s.length) U (out:=(A7 (Bx S s a) (a:Int))) (N7 U Z)) ?_))))))));rintro _ w ⟨rfl,H⟩;refine Au (λ_=>(H.mono 0 (B:=wrH n (a:Int)) Z (λh q=>⟨_,((Eu U).trans b),q⟩))) (BG 14 J Z Z J J J Z Z Z (C3 Z Z Z (r:=((a+s.length:Nat):Int)) U U) (H.mono 0 (B:=wrH n (a:Int)) Z (λh q=>⟨_,((Eu U).trans b),q⟩)) (Bv [15,16] [256] J (λ_ _=>AN) (by exact H.mono 0 (B:=wrH n (a:Int)) Z (λh q=>⟨_,((Eu U).trans b),q⟩)) Z J Z Z (AF [17] J O (Am (Bj Z Z Z (Al 0 H Z Z Z Z (vs:=[I ((a+s.length:Nat):Int)]) Z (by simp[u8,u32,Value.oneCell']) J (by rw[Fj ((Eu U).trans b)];simp) (out:=(A7 (Bx S s a) ((a+s.length:Nat):Int))) (Ju ((Eu U).trans b))) ?_)))));rintro w H;refine Au (λh=>absurd Z h) (Bo J (gn (Zf Z ?_)));exact ⟨_,⟨Z,Z⟩,H⟩
theorem ID(a:B.length=256):Aj 190 [Y n,Y i] [blk n (A7 B (t:Int)) 167,tblA i] (λv G=>v=.slice (some ⟨n,0,none⟩) 256 256/\G=[blk n (A7 (N9 B) (t:Int)) 167,tblA i]):=by
 intro z R w H;refine Ae func190 Z ntmps190 Z (Z0 11 [0] Z (Ab Z (GJ Z (n':=256) (z:=1) (p:=0) (q:=252) (o':=0) (l':=252) (c':=256) J Z (.inl ⟨Z,Z⟩) (.inr ⟨_,_,_,Z,Z,Z⟩) U U U U U U) (z_E_ Z (call224 _) (Oq (B.take 252) (by simp[a]) (λh q=>HN q a U U U O)) H.f1 ?_)));intro w H;refine AP Z (BZ (P:=prog) H Z (zs:=[u8 0,u8 0,u8 0,u8 0]) J) ?_;rintro _ w ⟨c,rfl,H⟩;refine Z4 4 [0] H Z ?_;intro w H;refine BK 5 J J (A4 H λw b=>?_);have H:=b.l3;refine PV 3 [0] Z J (Cc Z Z Z (GJ Z (n':=256) (z:=1) (p:=252) (q:=256) (o':=252) (l':=4) (c':=4) J Z (.inr ⟨_,_,_,Z,Z,Z⟩) (.inl ⟨Z,Z⟩) U U U U U U) (Cc Z Z Z (GJ Z (n':=4) (z:=1) (p:=0) (q:=4) (o':=0) (l':=4) (c':=4) J Z (.inl ⟨Z,Z⟩) (.inl ⟨Z,Z⟩) U U U U U U) (CG (gw (AP Z (F9 2 H Z Z J Z Z (m:=4) (news:=((Iy (Bc (B.take 252))).map u8)) (.inl (H.rv 0 (·.rd U U O Z))) (by simp[Iy,u8,Value.oneCell']) (by rw[Fj a];omega) (k:=4) U (out:=(A7 (N9 B) (t:Int))) (N7 (by simp[Iy,a]) Z)) ?_)))));rintro _ w ⟨rfl,H⟩;refine Z0 7 [0] Z (Ab Z (GJ Z (n':=256) (z:=1) (p:=0) (q:=256) (o':=0) (l':=256) (c':=256) J Z (.inl ⟨Z,Z⟩) (.inl ⟨Z,Z⟩) U U U U U U) (Zc 4 Z (Zr Z ?_)));exact ⟨_,⟨Z,Z⟩,H.perm 3 [2,1] Z Z⟩
theorem CB(k:Nat)(b o n c:Nat)(xs:List UInt8)(d:∀h,A h->rdH 1 (.slice (some ⟨b,o,none⟩) n c) n (xs.map u8) h)(hn:n<=c/\k<c)(hk:k<=n)(ys:List UInt8)(r:xs.take k=ys)(o2 g c2:Nat)(e:o+k=o2)(h2:n-k=g)(s:c-k=c2):Aj 165 [Y i,I (k:Int)] [blk i [.slice (some ⟨b,o,none⟩) n c] 258,A] (λv G=>v=I (AY ys)/\G=[blk i [.slice (some ⟨b,o2,none⟩) g c2] 258,A]):=by
 intro z R w H;subst r e h2 s;have t:=H.sy 1 (λq=>(d _ q).len);have y:=H.sy 1 (λq=>(d _ q).cap);refine Ae func165 Z ntmps165 Z (Z2 18 [0,0,0] H Z (Ab Z (BO Z (z:=1) (p:=0) (q:=k) (o':=o) (l':=k) (c':=c) J Z (.inl ⟨Z,Z⟩) (.inr ⟨_,_,_,Z,Z,Z⟩) U U U U U U) (Zc 5 Z ?_)));refine AD (σ:=Nat) (λj=>[(15,I (j:Int)),(5,I (AY (xs.take j))),(0,Y i),(1,I (k:Int)),(4,I 0),(13,.slice (some ⟨b,o,none⟩) k c),(14,I (k:Int))])
   (λj w=>Sep z (blk i [.slice (some ⟨b,o,none⟩) n c] 258::A::R) w/\(j<=k)) (λj=>k-j) 0
   (λ_ a=>(a.co Z (by go_num) a.cz)) ⟨H,by omega⟩ ?_
 clear H;rintro j w ⟨H',l⟩;have H:=H'.l2;have u:=l;clear l;refine Z0 6 [0] Z (Af Z (λe=>?_) (λe=>?_))
 ·obtain ⟨x,f⟩:∃x,xs[j]?=some x:=⟨_,Aef U⟩;refine Z1 7 [1,j,o+j] [] Z U (Ab Z (Bn Z Z J (Az (H.cell 1 Z (λh q=>(d h q).at f)))) (Zc 5 Z (Ab Z (SB Z Z Z (m:=8) Z (by decide)) (Zc 1 Z (Ab Z (Rk Z J Z) (Ab Z (Xh Z Z Z (Oa) ⟨by omega,by have:=x.toNat_lt;omega⟩) (Z1 8 [] [(j:Int)+1] Z U (gf ?_))))))));intro _ a;refine ⟨(j+1),(a.co Z (by go_num) (a.co Z (congrArg I (MC f)) (a.all Z))),⟨H,?_⟩,?_⟩
  ·omega
  omega
 obtain rfl:j=k:=by omega
 refine Zc 2 Z (gx (Z2 10 [0,0,0] H Z (Ab Z (BO Z (z:=1) (p:=j) (q:=n) (o':=o+j) (l':=n-j) (c':=c-j) J Z (.inr ⟨_,_,_,Z,Z,Z⟩) (.inl ⟨Z,Z⟩) U U U U U U) (Z4 12 [0,0] H Z ?_))));intro w H;refine Zr Z ?_;exact ⟨_,⟨Z,Z⟩,H⟩
theorem Yu(xs:List UInt8)(c:∀h,A h->rdH 1 (.slice (some ⟨i,e,none⟩) n g) n (xs.map u8) h)(hn:n<=g):Aj 233 [.slice (some ⟨i,e,none⟩) n g,u8 0] [A] (λv G=>v=.slice (some ⟨i,e,none⟩) (rz xs) g/\G=[A]):=by
 intro z R w H;have r:=H.sy 0 (λq=>(c _ q).len);have s:=H.sy 0 (λq=>(c _ q).cap);refine Ae func233 Z ntmps233 Z (Zc 7 Z ?_);refine AD (σ:=Nat) (λm=>[(0,.slice (some ⟨i,e,none⟩) m g),(1,u8 0),(4,.slice none 0 0)])
   (λm w=>Sep z (A::R) w/\(m<=n/\∀(j:Nat) (y:UInt8),m<=j->xs[j]?=some y->y=0)) (λm=>m) n
   (λ_ f=>(f.all Z)) ⟨H,Aek _,λj y l h=>by have:=(Aed.1 h).1;omega⟩ ?_
 clear H;rintro m w ⟨t,u⟩;have H:=t.l1;obtain ⟨hm,d⟩:=u;refine Z0 7 [0] Z (An 8 Z (λo=>?_) (λo=>?_))
 ·obtain ⟨x,a⟩:∃x,xs[m-1]?=some x:=⟨_,Aef U⟩;refine Z1 5 [1,(m-1),e+(m-1)] [((m-1:Nat):Int)] Z U (Ab Z (Bn Z Z J (Az (H.cell 0 Z (λh q=>(c h q).at a)))) (Zc 1 Z (Ab Z (Sx (q:=0) (k:=.u8) Z J Z Z) (Zc 3 Z (Af Z (λb=>?_) (λb=>?_))))))
  ·refine Z1 8 [] [((m-1:Nat):Int)] Z U (Ab Z (BO Z (z:=1) (p:=0) (q:=(m-1)) (o':=e) (l':=(m-1)) (c':=g) J Z (.inl ⟨Z,Z⟩) (.inr ⟨_,_,_,Z,Z,Z⟩) U U U U U U) (Zc 3 Z (gf ?_)));intro _ f;refine ⟨(m-1),(f.all Z),⟨H,?_⟩,?_⟩
   ·refine ⟨by omega,λj y l h=>?_⟩;rcases Aes j m with q|q
    ·obtain rfl:j=m-1:=by omega
     rw[a] at h;cases h;exact b
    exact d j y q h
   omega
  refine Zc 2 Z (gx (Zc 9 Z (Zr Z ?_)));obtain rfl:m=rz xs:=rz_is U d (by first|exact .inl U|exact .inr ⟨x,a,b⟩);exact ⟨_,⟨Z,Z⟩,H⟩
 refine Zc 14 Z (gx (Zc 9 Z (Zr Z ?_)));obtain rfl:m=rz xs:=rz_is U d (by first|exact .inl U|exact .inr ⟨x,a,b⟩);exact ⟨_,⟨Z,Z⟩,H⟩
theorem Yv(xs:List UInt8)(d:∀h,A h->rdH 1 (.slice (some ⟨m,i,none⟩) n e) n (xs.map u8) h)(hn:n<e):Aj 232 [.slice (some ⟨m,i,none⟩) n e,u8 0] [A] (λv G=>v=(if lz xs=n then .slice none 0 0 else .slice (some ⟨m,i+lz xs,none⟩) (n-lz xs) (e-lz xs))/\G=[A]):=by
 intro z R w H;have o:=H.sy 0 (λq=>(d _ q).len);refine Ae func232 Z ntmps232 Z (Zc 7 Z ?_);refine AD (σ:=Nat) (λp=>[(0,.slice (some ⟨m,(i+p),none⟩) (n-p) (e-p)),(1,u8 0),(4,.slice none 0 0)])
   (λp w=>Sep z (A::R) w/\(p<=n/\∀(j:Nat) (y:UInt8),j<p->xs[j]?=some y->y=0)) (λp=>n-p) 0
   fr_z ⟨H,by omega,λj y f h=>by omega⟩ ?_
 clear H;rintro p w ⟨t,hI⟩;have H:=t.l1;obtain ⟨hp,c⟩:=hI;refine Z0 7 [0] Z (An 8 Z (λg=>?_) (λg=>?_))
 ·obtain ⟨x,a⟩:∃x,xs[p]?=some x:=⟨_,Aef U⟩;refine Z1 2 [1,0,i+p] [] Z U (Ab Z (Bn Z Z J (Az (H.cell 0 Z (λh q=>(d h q).at a)))) (Zc 1 Z (Ab Z (Sx (q:=0) (k:=.u8) Z J Z Z) (Zc 3 Z (Af Z (λb=>?_) (λb=>?_))))))
  ·refine Zc 5 Z (Ab Z (BO Z (z:=1) (p:=1) (q:=(n-p)) (o':=i+(p+1)) (l':=(n-(p+1))) (c':=(e-(p+1))) J Z (.inr ⟨_,_,_,Z,Z,Z⟩) (.inl ⟨Z,Z⟩) U U U U U U) (Zc 3 Z (gf ?_)));intro _ r;refine ⟨(p+1),(r.all Z),⟨H,?_⟩,?_⟩
   ·refine ⟨by omega,λj y f h=>?_⟩;rcases Aes j p with q|q
    ·exact c j y q h
    obtain rfl:j=p:=by omega
    rw[a] at h;cases h;exact b
   omega
  refine Zc 2 Z (gx (Z0 10 [0] Z (Af Z (λl=>?_) (λl=>?_))))
  ·refine Zc 6 Z (Zr Z ?_);obtain rfl:p=lz xs:=KQ U c (by first|exact .inl U|exact .inr ⟨x,a,b⟩);exact ⟨_,⟨by first|(exfalso;omega)|rw[if_pos U]|rw[if_neg U],rfl⟩,H⟩
  refine Zc 9 Z (Zr Z ?_);obtain rfl:p=lz xs:=KQ U c (by first|exact .inl U|exact .inr ⟨x,a,b⟩);exact ⟨_,⟨by first|(exfalso;omega)|rw[if_pos U]|rw[if_neg U],rfl⟩,H⟩
 refine Zc 11 Z (gx (Z0 10 [0] Z (Af Z (λs=>?_) (λs=>?_))))
 ·refine Zc 6 Z (Zr Z ?_);obtain rfl:p=lz xs:=KQ U c (by first|exact .inl U|exact .inr ⟨x,a,b⟩);exact ⟨_,⟨by first|(exfalso;omega)|rw[if_pos U]|rw[if_neg U],rfl⟩,H⟩
 refine Zc 9 Z (Zr Z ?_);obtain rfl:p=lz xs:=KQ U c (by first|exact .inl U|exact .inr ⟨x,a,b⟩);exact ⟨_,⟨by first|(exfalso;omega)|rw[if_pos U]|rw[if_neg U],rfl⟩,H⟩
theorem Abq{b:Nat}(xs:List UInt8)(a:∀h,A h->rdH 1 (.slice (some ⟨b,i,none⟩) n e) n (xs.map u8) h)(p:n<e\/(n<=e/\rz xs=0/\0<e)):Aj 200 [.slice (some ⟨b,i,none⟩) n e,Cl [0]] [A] (λv G=>(rz xs=0/\v=.slice none 0 0/\G=[A])\/(rz xs≠0/\∃c k1 c1,0<k1/\v=.slice (some ⟨b,c,none⟩) k1 c1/\G=[A])):=by
 intro z R w H;have g:=H.sy 0 (λq=>(a _ q).len);have k:=H.sy 0 (λq=>(a _ q).cap);have f:=Ry xs;refine Ae func200 Z ntmps200 Z (Z0 13 [0] Z (Af Z (λd=>?_) (λd=>?_)))
 ·refine Zc 6 Z (Zr Z ?_);exact ⟨_,.inl ⟨by omega,Z,Z⟩,H⟩
 refine Zc 6 Z (Ab Z (IQ (l:=[0]) (m:=[]) Z J Z Z) (AB 11 (v:=.bool false) Z (congrArg Value.bool (by decide)) (Zc 9 Z (Ab Z (Uy (l:=[0]) Z J Z) (Z0 3 [3] Z (Ab Z (J2 (l:=[0]) (j:=0) (b:=0) Z J Z Z Z Z) (Z0 1 [0] Z (AB 19 (v:=.bool true) Z (congrArg Value.bool (by decide)) (Zc 5 Z (By (Sep z _) J J H.drew (B4 2 [] Z J (AM Z Z Z (J2 (l:=[0]) (j:=0) (b:=0) Z J Z Z Z Z) (Dn Z Z Z Z Z (λw=>call233 _ w) (v:=.slice (some ⟨b,i,none⟩) (rz xs) e) (cq (Yu xs a U) (by rintro _ _ ⟨rfl,rfl⟩;exact ⟨Z,Z⟩) 1 [0] [0] Z Z Z Z) ?_)))))))))))));refine B4 1 [] Z J (AM Z Z Z (J2 (l:=[0]) (j:=0) (b:=0) Z J Z Z Z Z) (Dn Z Z Z Z Z (λw=>call232 _ w) (v:=if lz ((xs.drop 0).take (rz xs))=(rz xs) then .slice none 0 0 else .slice (some ⟨b,i+lz ((xs.drop 0).take (rz xs)),none⟩) ((rz xs)-lz ((xs.drop 0).take (rz xs))) (e-lz ((xs.drop 0).take (rz xs)))) (cq (Yv ((xs.drop 0).take (rz xs)) (λh q=>(a h q).cut (lo:=0) (m:=rz xs) (c':=e) U U U) U) (by rintro _ _ ⟨rfl,rfl⟩;exact ⟨Z,Z⟩) 1 [0] [0] Z Z Z Z) (B4 1 [] Z J (BL (λw o=>?_)))));have H:=o.l1;refine gn (Zc 2 Z (Zr Z ?_));by_cases hz:rz xs=0
 ·exact ⟨[A],.inl ⟨hz,by rw[if_pos];simp[hz,lz],Z⟩,H⟩
 have:=Ac8 hz;exact ⟨_,.inr ⟨hz,_,rz xs-lz ((xs.drop 0).take (rz xs)),_,by simp;omega,by rw[if_neg (by simp;omega)],Z⟩,H⟩
theorem KY(b o n c:Nat)(xs:List UInt8)(e:∀h,A h->rdH 1 (.slice (some ⟨b,o,none⟩) n c) n (xs.map u8) h)(f:n<c\/(n<=c/\rz xs=0/\0<c)):Aj 166 [Y m] [blk m [.slice (some ⟨b,o,none⟩) n c] 258,A] (λv G=>v=.bool (decide (rz xs=0))/\G=[blk m [.slice (some ⟨b,o,none⟩) n c] 258,A]):=by
 intro z R w H;refine Ae func166 Z ntmps166 Z (Z2 11 [0,0,0] H Z (Ar Z (call200 _) (Abq xs e f) H.f1 ?_));rintro _ w _ (⟨a,rfl,rfl⟩|⟨a,i,k1,c1,g,rfl,rfl⟩) d
 ·have H:=d.l2;refine Z0 6 [3] Z (Zr Z ?_);exact ⟨_,⟨congrArg Value.bool (by first|(simp[a];done)|(rw[Aey];simp<;>omega)),Z⟩,H.perm 2 [1,0] Z Z⟩
 have H:=d.l2;refine Z0 6 [0] Z (Zr Z ?_);exact ⟨_,⟨congrArg Value.bool (by first|(simp[a];done)|(rw[Aey];simp<;>omega)),Z⟩,H.perm 2 [1,0] Z Z⟩
theorem LV(sec:List UInt8)(b:∀h,A h->rdH 1 (.slice (some ⟨i,j,none⟩) 256 e) 256 (sec.map u8) h):Aj 187 [Y n,.slice (some ⟨i,j,none⟩) 256 e,Cl B] [tblA n,A] (λv G=>(Kb B sec/\v=.tuple #[.agg #[.slice (some ⟨i,j+4,none⟩) 248 (e-4)],.bool true]/\G=[tblA n,A])\/(¬Kb B sec/\v=.tuple #[.agg #[.slice none 0 0],.bool false]/\G=[tblA n,A])):=by
 intro z R w H;have a:=H.sy 1 (λq=>(b _ q).len);have k:=H.sy 1 (λq=>(b _ q).cap);obtain ⟨s,c1,c2,r,c⟩:=Ob a;refine Ae func187 Z ntmps187 Z (Za 2 [] H Z ?_);intro t w H;refine Zc 5 Z (By (Sep z _) J J H.drew (GL 9 [4] [] Z J (AM Z Z Z (BO Z (z:=1) (p:=252) (q:=256) (o':=j+252) (l':=4) (c':=e-252) J Z (.inr ⟨_,_,_,Z,Z,Z⟩) (.inl ⟨Z,Z⟩) U U U U U U) (AM Z Z Z (Mx (m:=4) Z J Z U) (AM Z Z Z (B0 Z Z (vs:=[u8 s,u8 c1,u8 c2,u8 r]) J (λ_ d=>d.cell4 2 Z b c)) (B4 2 [] Z J (AM Z Z Z (BO Z (z:=1) (p:=0) (q:=252) (o':=j) (l':=252) (c':=e) J Z (.inl ⟨Z,Z⟩) (.inr ⟨_,_,_,Z,Z,Z⟩) U U U U U U) (Dn Z Z Z Z Z (λw=>call224 _ w) (v:=.agg #[u8 ((Bc (sec.take 252)).toUInt8),u8 (((Bc (sec.take 252))>>>8).toUInt8),u8 (((Bc (sec.take 252))>>>16).toUInt8),u8 (((Bc (sec.take 252))>>>24).toUInt8)]) (cq (Oq (sec.take 252) (by simp[a]) (λh q=>(b h q).pre U U)) (by rintro _ _ ⟨rfl,rfl⟩;exact ⟨Z,Z⟩) 3 [1,2,0] [2,0,1] Z Z Z Z) (AM Z Z Z (PX Z J J Z Z) (B4 2 [] Z J (Ce 26 Z (λg=>?_) (λg=>?_))))))))))))
 ·refine B4 6 [] Z J (BL (λw f=>?_));have H:=f.l3;refine gn (Z4 10 [0] H Z ?_);intro w H;refine Zl [0,1] H Z ?_;exact ⟨_,.inr ⟨λhs=>by first|exact absurd (c▸hs.1) ‹_› |exact absurd hs.2 ‹_›,rfl,rfl⟩,H.perm 3 [1,2] rfl rfl⟩
 refine B4 1 [] Z J (AM Z Z Z (BO Z (z:=1) (p:=0) (q:=4) (o':=j) (l':=4) (c':=e) J Z (.inl ⟨Z,Z⟩) (.inr ⟨_,_,_,Z,Z,Z⟩) U U U U U U) (AM Z Z Z (Ch (l:=sec.take 4) Z J J Z (λ_ d=>d.rd 2 Z (λh q=>by have:=(b h q).pre (m:=4) (c':=e) U U;rwa[show (sec.take 4).length=4 from by simp[a]]))) (B4 1 [] Z J (AM Z Z Z (IR (l:=sec.take 4) (m:=B) Z J Z Z) (B4 1 [] Z J (BL (λw f=>?_)))))));have H:=f.l3;refine gn (Zc 1 Z (Af Z (λo=>?_) (λo=>?_)))
 ·refine Z4 8 [0] H Z ?_;intro w H;refine Zl [0,1] H Z ?_;exact ⟨_,.inr ⟨λhs=>by first|exact absurd (c▸hs.1) ‹_› |exact absurd hs.2 ‹_›,rfl,rfl⟩,H.perm 3 [1,2] rfl rfl⟩
 refine Zc 5 Z (Ab Z (BO Z (z:=1) (p:=4) (q:=252) (o':=j+4) (l':=248) (c':=e-4) J Z (.inr ⟨_,_,_,Z,Z,Z⟩) (.inr ⟨_,_,_,Z,Z,Z⟩) U U U U U U) (Z4 6 [0] H Z ?_));intro w H;refine Zl [0,1] H Z ?_;exact ⟨_,.inl ⟨⟨by rw[c];exact AgK ‹_›,AgK ‹_›⟩,Z,Z⟩,H.perm 3 [1,2] Z Z⟩
theorem RC{a:Int}(b:List UInt8)(g:∀h,A h->rdH 1 u b.length (b.map u8) h):Aj 229 [Y n,I t,I s,.agg #[I p,I a,u]] [tblA n,A] (λv G=>(¬((0<=t/\t<=4294967295)/\(0<=s/\s<=1099511627775)/\(0<=p/\p<=1023)/\(1<=a/\a<=5)/\b.length=240)/\v=.tuple #[.slice none 0 0,I 1]/\G=[tblA n,A])\/(((0<=t/\t<=4294967295)/\(0<=s/\s<=1099511627775)/\(0<=p/\p<=1023)/\(1<=a/\a<=5)/\b.length=240)/\∃i,v=.tuple #[.slice (some ⟨i,0,none⟩) 256 256,I 0]/\G=[blk i (A7 (BD (Ag 1 a++Ag 2 p++Ag 4 t++Ag 5 s++b)) 252) 167,tblA n,A])):=by
 intro z R w H;obtain ⟨d,e,rfl⟩:=H.sy 1 (λq=>(g _ q).slc);refine Ae func229 Z ntmps229 Z (Za 2 [] H Z ?_);intro f w H;refine Zc 11 Z (z_E_ Z (call99 _) (CY) H ?_);intro w H;refine Ab Z (AH Z Z) (Zc 2 Z (An 18 Z (λj=>?_) (λj=>?_)))
 ·refine Zc 39 Z (Zr Z ?_);exact ⟨_,.inl ⟨by omega,Z,Z⟩,H.perm 3 [1,2] Z Z⟩
 refine Zc 1 Z (z_E_ Z (call99 _) (CY) H ?_);intro w H;refine Ab Z (AH Z Z) (Zc 2 Z (An 23 Z (λx=>?_) (λx=>?_)))
 ·refine Zc 34 Z (Zr Z ?_);exact ⟨_,.inl ⟨by omega,Z,Z⟩,H.perm 3 [1,2] Z Z⟩
 refine Z2 2 [0,0,0] H Z (z_E_ Z (call99 _) (CY) H ?_);intro w H;refine Ab Z (AH Z Z) (Zc 2 Z (An 29 Z (λm=>?_) (λm=>?_)))
 ·refine Zc 28 Z (Zr Z ?_);exact ⟨_,.inl ⟨by omega,Z,Z⟩,H.perm 3 [1,2] Z Z⟩
 refine Z2 6 [1,1,0,0,0] H Z (An 35 Z (λo=>?_) (λo=>?_))
 ·refine Zc 22 Z (Zr Z ?_);exact ⟨_,.inl ⟨by omega,Z,Z⟩,H.perm 3 [1,2] Z Z⟩
 refine Z2 6 [1,1,0,0,0] H Z (An 41 Z (λy=>?_) (λy=>?_))
 ·refine Zc 16 Z (Zr Z ?_);exact ⟨_,.inl ⟨by omega,Z,Z⟩,H.perm 3 [1,2] Z Z⟩
 refine Z2 8 [1,2,0,0,0] H Z (Af Z (λk=>?_) (λk=>?_))
 ·refine Zc 7 Z (Zr Z ?_);exact ⟨_,.inl ⟨by omega,Z,Z⟩,H.perm 3 [1,2] Z Z⟩
 refine Zc 4 Z (AP Z (BZ (P:=prog) H Z (zs:=(A7 (AK []) 0)) J) ?_);rintro _ w ⟨c,rfl,H⟩;refine Z2 7 [1,1,1,0] H Z (z_E_ Z (call100 _) (CH 0 1 a (AU (by first|omega|(simp[Ah]<;>omega))) U) H ?_);intro w H;rw[show Bx (AK []) (Ag 1 a) 0=AK (Ag 1 a) from BH Z (by first|omega|(simp[Ah]<;>omega))] at H;have H:Sep z (blk c (A7 (AK (Ag 1 a)) 1) 167::blk f [I p,I a,.slice d b.length e] 161::tblA n::A::R) w:=H;refine Z2 6 [0,1,0] H Z (z_E_ Z (call100 _) (CH 1 2 p (AU (by first|omega|(simp[Ah]<;>omega))) U) H ?_);intro w H;rw[show Bx (AK (Ag 1 a)) (Ag 2 p) 1=AK (Ag 1 a++Ag 2 p) from BH (by first|omega|(simp[Ah]<;>omega)) (by first|omega|(simp[Ah]<;>omega))] at H;have H:Sep z (blk c (A7 (AK (Ag 1 a++Ag 2 p)) 3) 167::blk f [I p,I a,.slice d b.length e] 161::tblA n::A::R) w:=H;refine Zc 5 Z (z_E_ Z (call100 _) (CH 3 4 t (AU (by first|omega|(simp[Ah]<;>omega))) U) H ?_);intro w H;rw[show Bx (AK (Ag 1 a++Ag 2 p)) (Ag 4 t) 3=AK (Ag 1 a++Ag 2 p++Ag 4 t) from BH (by first|omega|(simp[Ah]<;>omega)) (by first|omega|(simp[Ah]<;>omega))] at H;have H:Sep z (blk c (A7 (AK (Ag 1 a++Ag 2 p++Ag 4 t)) 7) 167::blk f [I p,I a,.slice d b.length e] 161::tblA n::A::R) w:=H;refine Zc 5 Z (z_E_ Z (call100 _) (CH 7 5 s (AU (by first|omega|(simp[Ah]<;>omega))) U) H ?_);intro w H;rw[show Bx (AK (Ag 1 a++Ag 2 p++Ag 4 t)) (Ag 5 s) 7=AK (Ag 1 a++Ag 2 p++Ag 4 t++Ag 5 s) from BH (by first|omega|(simp[Ah]<;>omega)) (by first|omega|(simp[Ah]<;>omega))] at H;have H:Sep z (blk c (A7 (AK (Ag 1 a++Ag 2 p++Ag 4 t++Ag 5 s)) 12) 167::blk f [I p,I a,.slice d b.length e] 161::tblA n::A::R) w:=H;refine Z2 7 [1,2,1,0] H Z (Ab Z (Ch (l:=b) Z J J Z (Az (H.rd 3 Z g))) (z_E_ Z (call189 _) (I2 12 b (AU (by first|omega|(simp[Ah]<;>omega))) (by first|omega|(simp<;>omega))) H ?_));intro w H;rw[show ((12+b.length:Nat):Int)=(252:Int) from by omega] at H;rw[show Bx (AK (Ag 1 a++Ag 2 p++Ag 4 t++Ag 5 s)) b 12=AK (Ag 1 a++Ag 2 p++Ag 4 t++Ag 5 s++b) from BH (by first|omega|(simp[Ah]<;>omega)) (by first|omega|(simp[Ah]<;>omega))] at H;have H:Sep z (blk c (A7 (AK (Ag 1 a++Ag 2 p++Ag 4 t++Ag 5 s++b)) 252) 167::blk f [I p,I a,.slice d b.length e] 161::tblA n::A::R) w:=H;refine Zc 5 Z (z_E_ Z (call190 _) (ID (AU (by first|omega|(simp[Ah]<;>omega)))) H.f2.f1 ?_);intro w H;refine Zc 5 Z (Zr Z ?_);exact ⟨_,.inr ⟨by omega,c,Z,Z⟩,H.perm 4 [0,1,3] Z Z⟩
theorem MF(a:List UInt8)(f:∀h,A h->rdH 1 u a.length (a.map u8) h):Aj 158 [Y n,.agg #[I t,I s,u]] [tblA n,A] (λv G=>(¬((0<=t/\t<=1023)/\(1<=s/\s<=5)/\a.length=240)/\v=.tuple #[.slice none 0 0,I 1]/\G=[tblA n,A])\/(((0<=t/\t<=1023)/\(1<=s/\s<=5)/\a.length=240)/\∃g,v=.tuple #[.slice (some ⟨g,0,none⟩) 256 256,I 0]/\G=[blk g (A7 (BD ([80,80,65,71]++Ag 1 s++Ag 4 t++[0,0,0]++a)) 252) 167,tblA n,A])):=by
 intro z R w H;replace H:=H.l2;obtain ⟨c,d,rfl⟩:=H.sy 1 (λq=>(f _ q).slc);refine Ae func158 Z ntmps158 Z (Za 2 [] H Z ?_);intro e w H;refine Z2 12 [0,0,0] H Z (z_E_ Z (call99 _) (CY) H ?_);intro w H;replace H:=H.l3;refine Ab Z (AH Z Z) (Zc 2 Z (An 15 Z (λi=>?_) (λi=>?_)))
 ·refine Zc 28 Z (Zr Z ?_);exact ⟨_,.inl ⟨by omega,Z,Z⟩,H.perm 3 [1,2] Z Z⟩
 refine Z2 6 [1,1,0,0,0] H Z (An 21 Z (λo=>?_) (λo=>?_))
 ·refine Zc 22 Z (Zr Z ?_);exact ⟨_,.inl ⟨by omega,Z,Z⟩,H.perm 3 [1,2] Z Z⟩
 refine Z2 6 [1,1,0,0,0] H Z (An 27 Z (λj=>?_) (λj=>?_))
 ·refine Zc 16 Z (Zr Z ?_);exact ⟨_,.inl ⟨by omega,Z,Z⟩,H.perm 3 [1,2] Z Z⟩
 refine Z2 8 [1,2,0,0,0] H Z (Af Z (λk=>?_) (λk=>?_))
 ·refine Zc 7 Z (Zr Z ?_);exact ⟨_,.inl ⟨by omega,Z,Z⟩,H.perm 3 [1,2] Z Z⟩
 refine Zc 4 Z (AP Z (BZ (P:=prog) H Z (zs:=(A7 (AK []) 0)) J) ?_);rintro _ w ⟨b,rfl,H⟩;replace H:=H.l4;refine Zc 4 Z (z_E_ Z (call189 _) (I2 0 [80,80,65,71] (AU (by first|omega|(simp[Ah]<;>omega))) (by first|omega|(simp<;>omega))) H ?_);intro w H;replace H:=H.l4;rw[show Bx (AK []) ([80,80,65,71]) 0=AK ([80,80,65,71]) from BH Z (by first|omega|(simp[Ah]<;>omega))] at H;have H:Sep z (blk b (A7 (AK ([80,80,65,71])) 4) 167::blk e [I t,I s,.slice c a.length d] 161::tblA n::A::R) w:=H;refine Z2 7 [1,1,1,0] H Z (z_E_ Z (call100 _) (CH 4 1 s (AU (by first|omega|(simp[Ah]<;>omega))) U) H ?_);intro w H;replace H:=H.l4;rw[show Bx (AK ([80,80,65,71])) (Ag 1 s) 4=AK ([80,80,65,71]++Ag 1 s) from BH (by first|omega|(simp[Ah]<;>omega)) (by first|omega|(simp[Ah]<;>omega))] at H;have H:Sep z (blk b (A7 (AK ([80,80,65,71]++Ag 1 s)) 5) 167::blk e [I t,I s,.slice c a.length d] 161::tblA n::A::R) w:=H;refine Z2 6 [0,1,0] H Z (z_E_ Z (call100 _) (CH 5 4 t (AU (by first|omega|(simp[Ah]<;>omega))) U) H ?_);intro w H;replace H:=H.l4;rw[show Bx (AK ([80,80,65,71]++Ag 1 s)) (Ag 4 t) 5=AK ([80,80,65,71]++Ag 1 s++Ag 4 t) from BH (by first|omega|(simp[Ah]<;>omega)) (by first|omega|(simp[Ah]<;>omega))] at H;have H:Sep z (blk b (A7 (AK ([80,80,65,71]++Ag 1 s++Ag 4 t)) 9) 167::blk e [I t,I s,.slice c a.length d] 161::tblA n::A::R) w:=H;refine Z0 5 [256] Z (AC Z Z (Al 0 H Z Z Z Z (vs:=[I 12]) Z (by simp[u8,u32,Value.oneCell']) J (by rw[Fj (AU (by first|omega|(simp[Ah]<;>omega)))];simp) (out:=(A7 (AK ([80,80,65,71]++Ag 1 s++Ag 4 t)) 12)) (Ju (AU (by first|omega|(simp[Ah]<;>omega))))) ?_);rintro w H;replace H:=H.l4;refine Z2 7 [1,2,1,0] H Z (Ab Z (Ch (l:=a) Z J J Z (Az (H.rd 3 Z f))) (z_E_ Z (call189 _) (I2 12 a (AU (by first|omega|(simp[Ah]<;>omega))) (by first|omega|(simp<;>omega))) H ?_));intro w H;replace H:=H.l4;rw[show ((12+a.length:Nat):Int)=(252:Int) from by omega] at H;rw[show Bx (AK ([80,80,65,71]++Ag 1 s++Ag 4 t)) a 12=AK ([80,80,65,71]++Ag 1 s++Ag 4 t++[0,0,0]++a) from (U0 (by first|omega|(simp[Ah]<;>omega)) (by first|omega|(simp[Ah]<;>omega))).trans (by simp[Ah])] at H;have H:Sep z (blk b (A7 (AK ([80,80,65,71]++Ag 1 s++Ag 4 t++[0,0,0]++a)) 252) 167::blk e [I t,I s,.slice c a.length d] 161::tblA n::A::R) w:=H;refine Zc 5 Z (z_E_ Z (call190 _) (ID (AU (by first|omega|(simp[Ah]<;>omega)))) H.f2.f1 ?_);intro w H;refine Zc 5 Z (Zr Z ?_);exact ⟨_,.inr ⟨by omega,b,Z,Z⟩,H.perm 4 [0,1,3] Z Z⟩
theorem Tj{u:UInt32}{pv:Value}(ns:List Int)(hA:∀h,A h->rdH 1 pv ns.length (ns.map I) h):Aj 231 [Y n,.agg #[I t,I s,pv,u32 u]] [tblA n,A] (λv G=>(¬((0<=t/\t<=1099511627776)/\(0<=s/\s<=1099511627776)/\(1<=ns.length/\ns.length<=40)/\∀x∈ns,0<=x/\x<=1023)/\v=.tuple #[.slice none 0 0,I 1]/\G=[tblA n,A])\/(((0<=t/\t<=1099511627776)/\(0<=s/\s<=1099511627776)/\(1<=ns.length/\ns.length<=40)/\∀x∈ns,0<=x/\x<=1023)/\∃pw,v=.tuple #[.slice (some ⟨pw,0,none⟩) 256 256,I 0]/\G=[blk pw (A7 (BD ([80,76,79,71]++Ag 8 t++Ag 8 s++Ag 4 (u.toNat:Int)++Ag 2 (ns.length:Int)++ns.flatMap (Ag 4))) ((26+4*ns.length:Nat):Int)) 167,tblA n,A])):=by
 intro z R w H;obtain ⟨c,e,rfl⟩:=H.sy 1 (λq=>(hA _ q).slc);refine Ae func231 Z ntmps231 Z (Za 2 [] H Z ?_);intro g w H;refine Z2 12 [0,0,0] H Z (z_E_ Z (call99 _) (CY) H ?_);intro w H;refine Ab Z (AH Z Z) (Zc 2 Z (An 17 Z (λh1=>?_) (λh1=>?_)))
 ·refine Zc 27 Z (Zr Z ?_);exact ⟨_,.inl ⟨by rintro ⟨m,o,l,d⟩;first|omega|exact absurd (d x (Aee a)) ‹_›,rfl,rfl⟩,H.perm 3 [1,2] rfl rfl⟩
 refine Z2 2 [1,0,0] H Z (z_E_ Z (call99 _) (CY) H ?_);intro w H;refine Ab Z (AH Z Z) (Zc 2 Z (An 23 Z (λh2=>?_) (λh2=>?_)))
 ·refine Zc 21 Z (Zr Z ?_);exact ⟨_,.inl ⟨by rintro ⟨m,o,l,d⟩;first|omega|exact absurd (d x (Aee a)) ‹_›,rfl,rfl⟩,H.perm 3 [1,2] rfl rfl⟩
 refine Z2 6 [2,0,0,0] H Z (An 29 Z (λh3=>?_) (λh3=>?_))
 ·refine Zc 15 Z (Zr Z ?_);exact ⟨_,.inl ⟨by rintro ⟨m,o,l,d⟩;first|omega|exact absurd (d x (Aee a)) ‹_›,rfl,rfl⟩,H.perm 3 [1,2] rfl rfl⟩
 refine Z2 7 [2,0,0,0] H Z (Af Z (λh4=>?_) (λh4=>?_))
 ·refine Zc 7 Z (Zr Z ?_);exact ⟨_,.inl ⟨by rintro ⟨m,o,l,d⟩;first|omega|exact absurd (d x (Aee a)) ‹_›,rfl,rfl⟩,H.perm 3 [1,2] rfl rfl⟩
 refine Zc 4 Z (AP Z (BZ (P:=prog) H Z (zs:=(A7 (AK []) 0)) J) ?_);rintro _ w ⟨b,rfl,H⟩;refine Zc 4 Z (z_E_ Z (call189 _) (I2 0 [80,76,79,71] (AU (by first|omega|(simp[Ah,Cj,-List.length_flatMap]<;>omega))) (by first|omega|(simp<;>omega))) H ?_);intro w H;rw[show Bx (AK []) ([80,76,79,71]) 0=AK ([80,76,79,71]) from BH Z (by first|omega|(simp[Ah,Cj,-List.length_flatMap]<;>omega))] at H;have H:Sep z (blk b (A7 (AK ([80,76,79,71])) 4) 167::blk g [I t,I s,.slice c ns.length e,u32 u] 287::tblA n::A::R) w:=H;refine Z2 6 [0,1,0] H Z (z_E_ Z (call100 _) (CH 4 8 t (AU (by first|omega|(simp[Ah,Cj,-List.length_flatMap]<;>omega))) U) H ?_);intro w H;rw[show Bx (AK ([80,76,79,71])) (Ag 8 t) 4=AK ([80,76,79,71]++Ag 8 t) from BH (by first|omega|(simp[Ah,Cj,-List.length_flatMap]<;>omega)) (by first|omega|(simp[Ah,Cj,-List.length_flatMap]<;>omega))] at H;have H:Sep z (blk b (A7 (AK ([80,76,79,71]++Ag 8 t)) 12) 167::blk g [I t,I s,.slice c ns.length e,u32 u] 287::tblA n::A::R) w:=H;refine Z2 6 [1,1,0] H Z (z_E_ Z (call100 _) (CH 12 8 s (AU (by first|omega|(simp[Ah,Cj,-List.length_flatMap]<;>omega))) U) H ?_);intro w H;rw[show Bx (AK ([80,76,79,71]++Ag 8 t)) (Ag 8 s) 12=AK ([80,76,79,71]++Ag 8 t++Ag 8 s) from BH (by first|omega|(simp[Ah,Cj,-List.length_flatMap]<;>omega)) (by first|omega|(simp[Ah,Cj,-List.length_flatMap]<;>omega))] at H;have H:Sep z (blk b (A7 (AK ([80,76,79,71]++Ag 8 t++Ag 8 s)) 20) 167::blk g [I t,I s,.slice c ns.length e,u32 u] 287::tblA n::A::R) w:=H;refine Z2 6 [3,1,0] H Z (Ab Z (AaN Z J Z) (z_E_ Z (call100 _) (CH 20 4 (u.toNat:Int) (AU (by first|omega|(simp[Ah,Cj,-List.length_flatMap]<;>omega))) U) H ?_));intro w H;rw[show Bx (AK ([80,76,79,71]++Ag 8 t++Ag 8 s)) (Ag 4 (u.toNat:Int)) 20=AK ([80,76,79,71]++Ag 8 t++Ag 8 s++Ag 4 (u.toNat:Int)) from BH (by first|omega|(simp[Ah,Cj,-List.length_flatMap]<;>omega)) (by first|omega|(simp[Ah,Cj,-List.length_flatMap]<;>omega))] at H;have H:Sep z (blk b (A7 (AK ([80,76,79,71]++Ag 8 t++Ag 8 s++Ag 4 (u.toNat:Int))) 24) 167::blk g [I t,I s,.slice c ns.length e,u32 u] 287::tblA n::A::R) w:=H;refine Z2 7 [2,1,0] H Z (z_E_ Z (call100 _) (CH 24 2 (ns.length:Int) (AU (by first|omega|(simp[Ah,Cj,-List.length_flatMap]<;>omega))) U) H ?_);intro w H;rw[show Bx (AK ([80,76,79,71]++Ag 8 t++Ag 8 s++Ag 4 (u.toNat:Int))) (Ag 2 (ns.length:Int)) 24=AK ([80,76,79,71]++Ag 8 t++Ag 8 s++Ag 4 (u.toNat:Int)++Ag 2 (ns.length:Int)) from BH (by first|omega|(simp[Ah,Cj,-List.length_flatMap]<;>omega)) (by first|omega|(simp[Ah,Cj,-List.length_flatMap]<;>omega))] at H;have H:Sep z (blk b (A7 (AK ([80,76,79,71]++Ag 8 t++Ag 8 s++Ag 4 (u.toNat:Int)++Ag 2 (ns.length:Int))) 26) 167::blk g [I t,I s,.slice c ns.length e,u32 u] 287::tblA n::A::R) w:=H;refine Z2 12 [2,1,0] H Z ?_;refine AD (σ:=Nat) (λi=>[(53,I (i:Int)),(0,Y n),(6,Y b),(51,.slice c ns.length e),(52,I (ns.length:Int))])
   (λi w=>Sep z (blk b (A7 (AK ([80,76,79,71]++Ag 8 t++Ag 8 s++Ag 4 (u.toNat:Int)++Ag 2 (ns.length:Int)++(ns.take i).flatMap (Ag 4))) ((26+4*i:Nat):Int)) 167::blk g [I t,I s,.slice c ns.length e,u32 u] 287::tblA n::A::R) w/\(i<=ns.length/\∀(j:Nat) (x:Int),j<i->ns[j]?=some x->0<=x/\x<=1023)) (λi=>ns.length-i) 0
   fr_z ⟨(by simpa using H),by omega,λj x h=>by omega⟩ ?_
 clear H;rintro i w ⟨H',hI⟩;have H:=H'.l4;obtain ⟨a1,f⟩:=hI;refine Z0 6 [0] Z (Af Z (λh5=>?_) (λh5=>?_))
 ·obtain ⟨x,a⟩:∃x,ns[i]?=some x:=⟨_,Aef U⟩;refine Zc 6 Z ?_;have k:=(H.rd 3 Z hA).at (j:=i) (u:=I x) (by simp[a])
  refine Ab Z (Ak Z (z:=1) (j:=i) (r:=i) J Z Z Z U k U) (Ab Z (Ay Z Z J (Az k)) (Zc 7 Z (z_E_ Z (call99 _) (CY) H ?_)));intro w H;refine Ab Z (AH Z Z) (Zc 2 Z (Af Z (λh6=>?_) (λh6=>?_)))
  ·refine Zc 7 Z (Zr Z ?_);exact ⟨_,.inl ⟨by rintro ⟨m,o,l,d⟩;first|omega|exact absurd (d x (Aee a)) ‹_›,rfl,rfl⟩,H.perm 4 [2,3] rfl rfl⟩
  refine Zc 4 Z (z_E_ Z (call100 _) (CH (26+4*i) 4 x (AU (by first|omega|(simp[Ah,Cj,-List.length_flatMap]<;>omega))) U) H ?_);intro w H;rw[show ((26+4*i+4:Nat):Int)=(((26+4*(i+1):Nat):Int):Int) from by omega] at H;rw[show Bx (AK ([80,76,79,71]++Ag 8 t++Ag 8 s++Ag 4 (u.toNat:Int)++Ag 2 (ns.length:Int)++(ns.take i).flatMap (Ag 4))) (Ag 4 x) (26+4*i)=AK ([80,76,79,71]++Ag 8 t++Ag 8 s++Ag 4 (u.toNat:Int)++Ag 2 (ns.length:Int)++(ns.take i).flatMap (Ag 4)++Ag 4 x) from BH (by first|omega|(simp[Ah,Cj,-List.length_flatMap]<;>omega)) (by first|omega|(simp[Ah,Cj,-List.length_flatMap]<;>omega))] at H;have H:Sep z (blk b (A7 (AK ([80,76,79,71]++Ag 8 t++Ag 8 s++Ag 4 (u.toNat:Int)++Ag 2 (ns.length:Int)++(ns.take i).flatMap (Ag 4)++Ag 4 x)) ((26+4*(i+1):Nat):Int)) 167::blk g [I t,I s,.slice c ns.length e,u32 u] 287::tblA n::A::R) w:=H;refine Z1 7 [] [(i:Int)+1] Z U (gf ?_);intro _ hF;refine ⟨(i+1),hF.cz,⟨(by rw[<-S8 a,<-Aej];exact H),?_⟩,?_⟩
  ·refine ⟨by omega,λj y p h=>?_⟩;rcases Aes j i with q|q
   ·exact f j y q h
   obtain rfl:j=i:=by omega
   rw[a] at h;cases h;omega
  omega
 obtain rfl:i=ns.length:=by omega
 refine Zc 2 Z (gx (Zc 3 Z ?_));rw[Ae9] at H;have H:Sep z (blk b (A7 (AK ([80,76,79,71]++Ag 8 t++Ag 8 s++Ag 4 (u.toNat:Int)++Ag 2 (ns.length:Int)++ns.flatMap (Ag 4))) ((26+4*ns.length:Nat):Int)) 167::blk g [I t,I s,.slice c ns.length e,u32 u] 287::tblA n::A::R) w:=H;refine Zc 2 Z (z_E_ Z (call190 _) (ID (AU (by first|omega|(simp[Ah,Cj,-List.length_flatMap]<;>omega)))) H.f2.f1 ?_);intro w H;refine Zc 5 Z (Zr Z ?_);exact ⟨_,.inr ⟨⟨by omega,by omega,by omega,λx a=>by obtain ⟨j,p,rfl⟩:=Agc.1 a;exact f j _ p (Aef p)⟩,b,Z,Z⟩,H.perm 4 [0,1,3] Z Z⟩
theorem Jx(n:Nat)(bs:List UInt8)(d:∀h,A h->rdH 1 (.slice (some ⟨m,i,none⟩) n j) n (bs.map u8) h)(l:0<n/\n<=1073741824):Aj 151 [.slice (some ⟨m,i,none⟩) n j] [A] (λv G=>(∃g a rest,v=.slice (some ⟨g,0,none⟩) n a/\(n<=a/\a<=9223372036854775807/\rest.length=a-n)/\G=[blk g (bs.map u8++rest) 5,A])):=by
 intro z R w H;refine Ae func151 Z ntmps151 Z (Zc 9 Z (Ab Z (Ip Z J Z Z) (Zc 7 Z (AP Z (EZ H Z J CL) ?_))));rintro _ w ⟨k,rfl,H⟩;refine Zc 1 Z ?_;replace H:=(H.mono 0 (B:=grow 5 1 (.slice (some ⟨k,0,none⟩) 0 0) 0 []) Z (λh q=>q.grow U U O Z)).l2;refine AP Z (AW 0 H Z Z J CL Z Z (H.rd 1 Z d) (by simp[u8,Value.oneCell']) U) ?_;rintro o w b;have c:([]++bs.map u8:List Value)=bs.map u8:=by simp
 rw[c] at b;rw[show (0+n:Nat)=n from by omega] at b;have H:=b.l2;refine Zc 4 Z (Zr Z ?_);obtain ⟨g,a,rest,f,c1,c2,p,b⟩:=H.ungrow 0 Z U;exact ⟨_,⟨g,a,rest,f,⟨c1,c2,by omega⟩,Z⟩,b⟩
theorem I3{pd:Nat}:Aj 143 [Y pd,I t,I 1] [diskA pd D] (λv G=>(¬(0<=t/\t<(D.n:Int))/\v=.tuple #[.slice none 0 0,I 2]/\G=[diskA pd D])\/((0<=t/\t<(D.n:Int))/\D.f1=1/\v=.tuple #[.slice none 0 0,I 10]/\G=[diskA pd {D with f1:=Bi D.f1}])\/((0<=t/\t<(D.n:Int))/\¬D.f1=1/\∃g b rest,v=.tuple #[.slice (some ⟨g,0,none⟩) 256 b,I 0]/\(256<=b/\b<=9223372036854775807/\rest.length=b-256)/\G=[blk g ((D.cont t.toNat).map u8++rest) 5,diskA pd {D with f1:=Bi D.f1}])):=by
 intro z R w H;obtain ⟨bd,m,f0,bs,es,clk,hq,a,d,u⟩:=H.disk;clear H;have a6:=a.n1;have a3:=a.n2;have a5:=a.f1;have a9:=d.len;have H:=u.l5;refine Ae func143 Z ntmps143 Z (Zc 12 Z (z_E_ Z (call147 _) (P6 U) H ?_));intro w H;refine Ab Z (AH Z Z) (Zc 2 Z (Af Z (λh1=>?_) (λh1=>?_)))
 ·refine Zc 7 Z (Zr Z ?_);replace H:=(Sep.toDisk (D:=D) (pd:=pd) (bd:=bd) (m:=m) (f0:=f0) (bs:=bs) (es:=es) (clk:=clk) (hq:=hq) (Γ:=R) H a d).l1
  exact ⟨_,.inl ⟨by omega,Z,Z⟩,H⟩
 obtain ⟨k,rfl⟩:∃k:Nat,t=(k:Int):=⟨t.toNat,by omega⟩;have hk:k<D.n:=by omega
 refine Zc 6 Z (z_E_ Z (call148 _) (UK U) H ?_);intro w H;refine Zc 2 Z (Af Z (λh2=>?_) (λh2=>?_))
 ·refine Zc 7 Z (Zr Z ?_);replace H:=(Sep.toDisk (D:= {D with f1:=Bi D.f1}) (pd:=pd) (bd:=bd) (m:=m) (f0:=f0) (bs:=bs) (es:=es) (clk:=clk) (hq:=hq) (Γ:=R) H (a.f (Fi a.f1) a.f2 a.f3 a.left) (d.f _ _ _ _ _)).l1
  exact ⟨_,.inr (.inl ⟨by omega,‹_›,Z,Z⟩),H⟩
 refine Z3 14 [0,0,0] [(k:Int)*256,(k:Int)+1,((k:Int)+1)*256] H Z U (Ab Z (BO Z (z:=1) (p:=(k*256)) (q:=((k+1)*256)) (o':=k*256) (l':=256) (c':=D.n*256-k*256) J Z (.inr ⟨_,_,_,Z,Z,U⟩) (.inr ⟨_,_,_,Z,Z,U⟩) U U U U U U) (Ar Z (call151 _) (Jx 256 (D.dur k) (λh q=>q.rd U U (by simp;omega) (by rw[<-AfW,<-Afr,AeR,d.own k hk])) U) H.f1 ?_));rintro _ w _ ⟨g,b,rest,rfl,⟨cg,cc,cl⟩,rfl⟩ H;refine Zc 11 Z ?_;refine AD (σ:=Nat) (λj=>[(31,I (j:Int)),(0,Y pd),(1,I (k:Int)),(6,.slice none 0 0),(7,I 0),(8,.slice (some ⟨g,0,none⟩) 256 b),(30,I 1)])
   (λj w=>Sep z (blk g ((IU D k j).map u8++rest) 5::blk bd (bs.map u8) 5::blk pd [.slice (some ⟨bd,0,none⟩) (D.n*256) (D.n*256),.map (some m),I f0,I (if D.f1=0 then 0 else D.f1-1),I D.f2,I D.f3,.bool D.cut,I D.left] 98::AI m (es.map Ent.ie) clk::poolA hq::seps (es.map Ent.row)::R) w/\(j<=1)) (λj=>1-j) 0
   fr_z ⟨H,by omega⟩ ?_
 clear H;rintro j w ⟨u,hI⟩;have H:=u.l6;refine Z0 6 [0] Z (Af Z (λh3=>?_) (λh3=>?_))
 ·obtain rfl:j=0:=by omega
  refine Zc 12 Z ?_;obtain ⟨v0,c,a0,a2,i,o⟩:=Aba d hk;have sv:=H.sy 5 (λq=>(i _ q).slc);obtain ⟨ao,a1,rfl⟩:=sv;have a8:=H.sy 5 (λq=>(i _ q).small);refine Z3 7 [1,2,0] [(k:Int)] H Z U (Ab Z (FP (e:=223) (zv:=.slice none 0 0) Z J J Z Z (Az (H.bk 3 Z))) (AB 41 (v:=.slice ao c.length a1) Z a0 (Z0 10 [0] Z (Af Z (λh4=>?_) (λh4=>?_)))))
  ·obtain ⟨pv,s⟩:∃pv,c[c.length-1]?=some pv:=⟨_,Aef U⟩;obtain ⟨p,hp⟩:∃p,(D.ver k)[c.length-1]?=some p:=⟨_,Aef U⟩;have x:=MA a2 hp
   have l:p.length=256:=by rw[<-x];exact Dsk.cont_len a hk
   refine BK 10 J J (A4 H λw u=>?_);have H:=u.l6;refine ES 3 [] [0] H Z J U (Cc Z Z Z (BO Z (z:=1) (p:=0) (q:=256) (o':=0) (l':=256) (c':=b) J Z (.inr ⟨_,_,_,Z,Z,Z⟩) (.inl ⟨Z,Z⟩) U U U U U U) (ES 4 [] [(c.length:Int)-1] H Z J U ?_));have y:=(H.rd 5 Z i).at s;refine Cc Z Z Z (Ak Z (z:=1) (j:=(c.length-1)) (r:=(c.length-1)) J Z Z U U y U) (Cc Z Z Z (Ay Z Z J (Az y)) (CG (gw (AP Z (F9 0 H Z Z J Z Z (m:=256) (news:=(p.map u8)) (.inl (H.rd 4 Z (o _ _ _ s hp))) (by simp[u8,Value.oneCell']) (by simp[IU,a.dur k hk]<;>omega) (k:=256) U (out:=((IU D k (0+1)).map u8++rest)) (by rw[show IU D k (0+1)=p from x];simp[IU,Ael,l,a.dur k hk,Ae8])) ?_))));rintro _ w ⟨rfl,H⟩;refine Z1 7 [] [(0:Int)+1] Z U (gf ?_);intro _ hF;refine ⟨(0+1),hF.cz,⟨H,?_⟩,?_⟩
   ·omega
   omega
  refine Z1 7 [] [(0:Int)+1] Z U (gf ?_);intro _ hF;refine ⟨(0+1),hF.cz,⟨(by rw[show IU D k (0+1)=IU D k 0 from J6 (AgB U)];exact H),?_⟩,?_⟩
  ·omega
  omega
 refine Zc 2 Z (gx (Zc 10 Z (Zr Z ?_)));obtain rfl:j=1:=by omega
 replace H:=H.f5.f5.f5.f4.f5;replace H:=(Sep.toDisk (D:= {D with f1:=Bi D.f1}) (pd:=pd) (bd:=bd) (m:=m) (f0:=f0) (bs:=bs) (es:=es) (clk:=clk) (hq:=hq) (Γ:=blk g ((IU D k 1).map u8++rest) 5::R) H (a.f (Fi a.f1) a.f2 a.f3 a.left) (d.f _ _ _ _ _)).l2;exact ⟨_,.inr (.inr ⟨by omega,‹_›,g,b,rest,Z,⟨cg,cc,cl⟩,Z⟩),H.perm 2 [1,0] Z Z⟩
theorem Tk(sec:List UInt8)(k:∀h,A h->rdH 1 (.slice (some ⟨e,g,none⟩) 256 r) 256 (sec.map u8) h):Aj 192 [Y n,.slice (some ⟨e,g,none⟩) 256 r] [tblA n,A] (λv G=>(IA sec/\∃v',v=.tuple #[.agg #[I (AY ((sec.drop 4).take 8)),I (AY ((sec.drop 12).take 8)),v',u32 (Fv (AY ((sec.drop 20).take 4)))],.bool true]/\G=[grow 3 1 v' (BJ sec) (hN sec (BJ sec)),tblA n,A])\/(¬IA sec/\v=.tuple #[.agg #[I 0,I 0,.slice none 0 0,u32 0],.bool false]/\G=[tblA n,A])):=by
 intro z R w H;replace H:=H.l2;have x:=H.sy 1 (λq=>(k _ q).len);have a3:=H.sy 1 (λq=>(k _ q).cap);obtain ⟨c0,c1,c2,c3,hd⟩:=Ob x;obtain ⟨m,hm,b⟩:=Abk (sec:=sec);refine Ae func192 Z ntmps192 Z (Zc 2 Z (AP Z (BZ (P:=prog) H Z (zs:=[I 0,I 0,.slice none 0 0,u32 0]) J) ?_));rintro _ w ⟨b1,rfl,H⟩;replace H:=H.l3;refine Zc 7 Z (Ar Z (call187 _) (LV sec k) H.f2.f2 ?_);rintro _ w _ (⟨hs,rfl,rfl⟩|⟨hs,rfl,rfl⟩) f
 ·have H:=f.l3;refine Za 3 [] H Z ?_;intro b2 w H;refine Z4 16 [0] H Z ?_;intro w H;refine z_E_ Z (call165 _) (CB 8 e (g+4) 248 (r-4) ((sec.drop 4).take 248) (λh q=>(k h q).cut (lo:=4) (m:=248) (c':=(r-4)) U U U) U U ((sec.drop 4).take 8) (by rw[AeF,AeG U]) (g+12) 240 (r-12) U U U) H.f2.f1 ?_;intro w H;replace H:=H.l4;refine z_E_ Z (call165 _) (CB 8 e (g+12) 240 (r-12) ((sec.drop 12).take 240) (λh q=>(k h q).cut (lo:=12) (m:=240) (c':=(r-12)) U U U) U U ((sec.drop 12).take 8) (by rw[AeF,AeG U]) (g+20) 232 (r-20) U U U) H ?_;intro w H;replace H:=H.l4;refine z_E_ Z (call165 _) (CB 4 e (g+20) 232 (r-20) ((sec.drop 20).take 232) (λh q=>(k h q).cut (lo:=20) (m:=232) (c':=(r-20)) U U U) U U ((sec.drop 20).take 4) (by rw[AeF,AeG U]) (g+24) 228 (r-24) U U U) H ?_;intro w H;replace H:=H.l4;refine Ab Z (Sy Z J Z) (Ab Z (Bg Z Z (out:=[I (AY ((sec.drop 4).take 8)),I (AY ((sec.drop 12).take 8)),.slice none 0 0,u32 (Fv (AY ((sec.drop 20).take 4)))]) J) (AP Z (BZ (P:=prog) H Z (zs:=[I 0,I 0,.slice none 0 0,u32 0]) J) ?_))
  rintro _ w ⟨y,rfl,H⟩;replace H:=H.l5;refine Z4 5 [0] H Z ?_;intro w H;refine z_E_ Z (call165 _) (CB 2 e (g+24) 228 (r-24) ((sec.drop 24).take 228) (λh q=>(k h q).cut (lo:=24) (m:=228) (c':=(r-24)) U U U) U U ((sec.drop 24).take 2) (by rw[AeF,AeG U]) (g+26) 226 (r-26) U U U) H.f2.f2 ?_;intro w H;refine Z2 8 [0,2,0] H Z (z_E_ Z (call99 _) (CY) H ?_);intro w H;replace H:=H.l5;refine Ab Z (AH Z Z) (Zc 1 Z (An 30 Z (λh1=>?_) (λh1=>?_)))
  ·refine Zc 18 Z (Ab Z (Bg Z Z (out:=[I 0,I 0,.slice none 0 0,u32 0]) J) (Z4 5 [4] H Z ?_));intro w H;refine Zl [4,4] H Z ?_;exact ⟨_,.inr ⟨by first|exact λq=>hs q.1|(rintro ⟨s,p,t,o,c,a⟩;first|(exfalso;omega)|exact absurd (c i U) ‹_› |(rw[b] at a;exact absurd a ‹_›)),rfl,rfl⟩,H.perm 5 [3,1] rfl rfl⟩
  refine Z2 2 [1,2,0] H Z (z_E_ Z (call99 _) (CY) H ?_);intro w H;replace H:=H.l5;refine Ab Z (AH Z Z) (Zc 2 Z (An 36 Z (λh2=>?_) (λh2=>?_)))
  ·refine Zc 12 Z (Ab Z (Bg Z Z (out:=[I 0,I 0,.slice none 0 0,u32 0]) J) (Z4 5 [4] H Z ?_));intro w H;refine Zl [4,4] H Z ?_;exact ⟨_,.inr ⟨by first|exact λq=>hs q.1|(rintro ⟨s,p,t,o,c,a⟩;first|(exfalso;omega)|exact absurd (c i U) ‹_› |(rw[b] at a;exact absurd a ‹_›)),rfl,rfl⟩,H.perm 5 [3,1] rfl rfl⟩
  refine Z0 4 [0] Z (An 40 Z (λh3=>?_) (λh3=>?_))
  ·refine Zc 8 Z (Ab Z (Bg Z Z (out:=[I 0,I 0,.slice none 0 0,u32 0]) J) (Z4 5 [4] H Z ?_));intro w H;refine Zl [4,4] H Z ?_;exact ⟨_,.inr ⟨by first|exact λq=>hs q.1|(rintro ⟨s,p,t,o,c,a⟩;first|(exfalso;omega)|exact absurd (c i U) ‹_› |(rw[b] at a;exact absurd a ‹_›)),rfl,rfl⟩,H.perm 5 [3,1] rfl rfl⟩
  refine Z0 5 [0] Z (Af Z (λh4=>?_) (λh4=>?_))
  ·refine Zc 2 Z (Ab Z (Bg Z Z (out:=[I 0,I 0,.slice none 0 0,u32 0]) J) (Z4 5 [4] H Z ?_));intro w H;refine Zl [4,4] H Z ?_;exact ⟨_,.inr ⟨by first|exact λq=>hs q.1|(rintro ⟨s,p,t,o,c,a⟩;first|(exfalso;omega)|exact absurd (c i U) ‹_› |(rw[b] at a;exact absurd a ‹_›)),rfl,rfl⟩,H.perm 5 [3,1] rfl rfl⟩
  refine Zc 4 Z (AB 9 (v:=I (m:Int)) Z (congrArg I hm) ?_);replace H:=(H.nilg 3 1).l6;refine Zc 6 Z ?_;refine AD (σ:=Nat×Value) (λ⟨i,v⟩=>[(46,I (i:Int)),(4,Y b1),(6,Y b2),(8,Y y),(45,I (m:Int))])
    (λ⟨i,v⟩ w=>Sep z (grow 3 1 v i (hN sec i)::blk b2 [.slice (some ⟨e,(g+(26+4*i)),none⟩) (252-(26+4*i)) (r-(26+4*i))] 258::A::blk y [I (AY ((sec.drop 4).take 8)),I (AY ((sec.drop 12).take 8)),v,u32 (Fv (AY ((sec.drop 20).take 4)))] 287::tblA n::blk b1 [I 0,I 0,.slice none 0 0,u32 0] 287::R) w/\(i<=m/\∀j,j<i->0<=Ev sec j/\Ev sec j<=1023)) (λ⟨i,v⟩=>m-i) ⟨0,.slice none 0 0⟩
    fr_z ⟨H,by omega,λj h=>by omega⟩ ?_
  clear H;rintro ⟨i,v⟩ w ⟨f,hI⟩;dsimp only at hI f ⊢;have H:=f.l6;have sv:=H.sy 0 (·.slc);obtain ⟨a1,l⟩:=hI;refine Z0 6 [0] Z (Af Z (λh5=>?_) (λh5=>?_))
  ·have a2:i<m:=by omega
   refine Zc 6 Z (z_E_ Z (call165 _) (CB 4 e (g+(26+4*i)) (252-(26+4*i)) (r-(26+4*i)) ((sec.drop (26+4*i)).take (252-(26+4*i))) (λh q=>(k h q).cut (lo:=(26+4*i)) (m:=(252-(26+4*i))) (c':=(r-(26+4*i))) U U U) U U ((sec.drop (26+4*i)).take 4) (by rw[AeF,AeG U]) (g+(26+4*(i+1))) (252-(26+4*(i+1))) (r-(26+4*(i+1))) U U U) H.f2.f2 ?_);intro w H;refine Zc 7 Z (z_E_ Z (call99 _) (CY) H ?_);intro w H;replace H:=H.l6;refine Ab Z (AH Z Z) (Zc 2 Z (Af Z (λh6=>?_) (λh6=>?_)))
   ·refine Zc 2 Z (Ab Z (Bg Z Z (out:=[I 0,I 0,.slice none 0 0,u32 0]) J) (Z4 5 [5] H Z ?_));intro w H;refine Zl [5,4] H Z ?_;exact ⟨_,.inr ⟨by first|exact λq=>hs q.1|(rintro ⟨s,p,t,o,c,a⟩;first|(exfalso;omega)|exact absurd (c i U) ‹_› |(rw[b] at a;exact absurd a ‹_›)),rfl,rfl⟩,H.perm 6 [4,1] rfl rfl⟩
   refine Z2 6 [2,3,0] H Z (AP Z (AO H Z J BC Z (by decide) (by decide) (out:=[I (Ev sec i)]) J) ?_);rintro _ w ⟨b4,rfl,H⟩;replace H:=H.l7;refine AP Z (AW 3 H Z Z J BC Z Z (H.rv 0 (·.rd U U O Z)) (by simp[Value.oneCell']) U) ?_;rintro v5 w f;have f:Sep z (blk b4 [I (Ev sec i)] 3::blk b2 [.slice (some ⟨e,(g+(26+4*(i+1))),none⟩) (252-(26+4*(i+1))) (r-(26+4*(i+1)))] 258::A::grow 3 1 v5 (i+1) (hN sec i++[I (Ev sec i)])::blk y [I (AY ((sec.drop 4).take 8)),I (AY ((sec.drop 12).take 8)),v,u32 (Fv (AY ((sec.drop 20).take 4)))] 287::tblA n::blk b1 [I 0,I 0,.slice none 0 0,u32 0] 287::R) w:=f;have a0:(hN sec i++[I (Ev sec i)]:List Value)=hN sec (i+1):=Yl sec i;rw[a0] at f;have H:=f.l7;have u:=H.sy 3 (·.slc);refine Z0 1 [2] Z (AC Z Z (J1 4 H Z Z Z Z u.cells u.one J) ?_);rintro w H;replace H:=H.l7;refine Z1 7 [] [(i:Int)+1] Z U ?_;replace H:=H.d.f5.f5.f5.f4.f4.f5;refine gf ?_;intro _ hF;refine ⟨⟨i+1,v5⟩,hF.cz,⟨H,?_⟩,?_⟩
   ·refine ⟨by omega,λj h=>?_⟩;rcases Aes j i with q|q
    ·exact l j q
    obtain rfl:j=i:=by omega
    unfold Ev;omega
   omega
  obtain rfl:i=m:=by omega
  refine Zc 2 Z (gx (Zc 5 Z (z_E_ Z (call166 _) (KY e (g+(26+4*i)) (252-(26+4*i)) (r-(26+4*i)) ((sec.drop (26+4*i)).take (252-(26+4*i))) (λh q=>(k h q).cut (lo:=(26+4*i)) (m:=(252-(26+4*i))) (c':=(r-(26+4*i))) U U U) U) H.f2.f2 ?_)));intro w H;replace H:=H.l6;refine Ab Z (AH Z Z) (Zc 2 Z (Af Z (λh7=>?_) (λh7=>?_)))
  ·refine Zc 2 Z (Ab Z (Bg Z Z (out:=[I 0,I 0,.slice none 0 0,u32 0]) J) (Z4 5 [5] H Z ?_));intro w H;refine Zl [5,4] H Z ?_;exact ⟨_,.inr ⟨by first|exact λq=>hs q.1|(rintro ⟨s,p,t,o,c,a⟩;first|(exfalso;omega)|exact absurd (c i U) ‹_› |(rw[b] at a;exact absurd a ‹_›)),rfl,rfl⟩,H.perm 6 [4,1] rfl rfl⟩
  refine Z2 5 [3,4] H Z (AC Z Z (Al 5 H Z Z Z Z (vs:=[I (AY ((sec.drop 4).take 8)),I (AY ((sec.drop 12).take 8)),v,u32 (Fv (AY ((sec.drop 20).take 4)))]) Z (Ad Z (Ad Z (Ad sv.one (Ad Z Aw)))) J O (out:=[I (AY ((sec.drop 4).take 8)),I (AY ((sec.drop 12).take 8)),v,u32 (Fv (AY ((sec.drop 20).take 4)))]) Z) ?_);rintro w H;replace H:=H.l6;refine Zc 4 Z (Zl [5,4] H Z ?_);subst b;exact ⟨_,.inl ⟨⟨hs,by omega,by omega,by omega,l,by omega⟩,v,Z,Z⟩,H.perm 6 [2,4,1] Z Z⟩
 have H:=f.l3;refine Za 3 [] H Z ?_;intro b6 w H;refine Z4 14 [0] H Z ?_;intro w H;refine Ab Z (Bg Z Z (out:=[I 0,I 0,.slice none 0 0,u32 0]) J) (Z4 5 [3] H Z ?_);intro w H;refine Zl [3,4] H Z ?_;exact ⟨_,.inr ⟨by first|exact λq=>hs q.1|(rintro ⟨s,p,t,o,c,a⟩;first|(exfalso;omega)|exact absurd (c i U) ‹_› |(rw[b] at a;exact absurd a ‹_›)),rfl,rfl⟩,H.perm 4 [1,2] rfl rfl⟩
theorem RD(sec:List UInt8)(b:∀h,A h->rdH 1 (.slice (some ⟨i,j,none⟩) 256 e) 256 (sec.map u8) h):Aj 194 [Y n,.slice (some ⟨i,j,none⟩) 256 e] [tblA n,A] (λv G=>(IZ sec/\∃g a rest,v=.tuple #[I (AY ((sec.drop 3).take 4)),I (AY ((sec.drop 7).take 5)),.agg #[I (AY ((sec.drop 1).take 2)),I (AY (sec.take 1)),.slice (some ⟨g,0,none⟩) 240 a],.bool true]/\(240<=a/\a<=9223372036854775807/\rest.length=a-240)/\G=[blk g (((sec.drop 12).take 240).map u8++rest) 5,tblA n,A])\/(¬IZ sec/\v=.tuple #[I 0,I 0,.agg #[I 0,I 0,.slice none 0 0],.bool false]/\G=[tblA n,A])):=by
 intro z R w H;replace H:=H.l2;have f:=H.sy 1 (λq=>(b _ q).len);have a0:=H.sy 1 (λq=>(b _ q).cap);obtain ⟨x,c1,c2,u,d⟩:=Ob f;refine Ae func194 Z ntmps194 Z (Za 4 [] H Z ?_);intro b1 w H;refine Zc 5 Z (By (Sep z _) J J H.drew (GL 9 [4] [] Z J (AM Z Z Z (BO Z (z:=1) (p:=252) (q:=256) (o':=j+252) (l':=4) (c':=e-252) J Z (.inr ⟨_,_,_,Z,Z,Z⟩) (.inl ⟨Z,Z⟩) U U U U U U) (AM Z Z Z (Mx (m:=4) Z J Z U) (AM Z Z Z (B0 Z Z (vs:=[u8 x,u8 c1,u8 c2,u8 u]) J (λ_ hx=>hx.cell4 2 Z b d)) (B4 2 [] Z J (AM Z Z Z (BO Z (z:=1) (p:=0) (q:=252) (o':=j) (l':=252) (c':=e) J Z (.inl ⟨Z,Z⟩) (.inr ⟨_,_,_,Z,Z,Z⟩) U U U U U U) (Dn Z Z Z Z Z (λw=>call224 _ w) (v:=.agg #[u8 ((Bc (sec.take 252)).toUInt8),u8 (((Bc (sec.take 252))>>>8).toUInt8),u8 (((Bc (sec.take 252))>>>16).toUInt8),u8 (((Bc (sec.take 252))>>>24).toUInt8)]) (cq (Oq (sec.take 252) (by simp[f]) (λh q=>(b h q).pre U U)) (by rintro _ _ ⟨rfl,rfl⟩;exact ⟨Z,Z⟩) 3 [1,2,0] [2,0,1] Z Z Z Z) (AM Z Z Z (PX Z J J Z Z) (B4 1 [] Z J (BL (λw s=>?_))))))))))));have H:=s.l3;refine gn (Zc 1 Z (Af Z (λy=>?_) (λy=>?_)))
 ·refine Z4 10 [0] H Z ?_;intro w H;refine Zl [0,3] H Z ?_;exact ⟨_,.inr ⟨by rintro ⟨c,l,k⟩;first|exact absurd (d▸c) ‹_› |(exfalso;omega),rfl,rfl⟩,H.perm 3 [1,2] rfl rfl⟩
 refine Zc 5 Z (Ab Z (BO Z (z:=1) (p:=0) (q:=252) (o':=j) (l':=252) (c':=e) J Z (.inl ⟨Z,Z⟩) (.inr ⟨_,_,_,Z,Z,Z⟩) U U U U U U) (Za 1 [] H Z ?_));intro b2 w H;refine Z4 5 [0] H Z ?_;intro w H;refine z_E_ Z (call165 _) (CB 1 i j 252 e (sec.take 252) (λh q=>(b h q).pre (m:=252) (c':=e) U U) U U (sec.take 1) (by rw[AeF,AeG U]) (j+1) 251 (e-1) U U U) H.f3.f1 ?_;intro w H;replace H:=H.l4;refine z_E_ Z (call165 _) (CB 2 i (j+1) 251 (e-1) ((sec.drop 1).take 251) (λh q=>(b h q).cut (lo:=1) (m:=251) (c':=(e-1)) U U U) U U ((sec.drop 1).take 2) (by rw[AeF,AeG U]) (j+3) 249 (e-3) U U U) H ?_;intro w H;replace H:=H.l4;refine z_E_ Z (call165 _) (CB 4 i (j+3) 249 (e-3) ((sec.drop 3).take 249) (λh q=>(b h q).cut (lo:=3) (m:=249) (c':=(e-3)) U U U) U U ((sec.drop 3).take 4) (by rw[AeF,AeG U]) (j+7) 245 (e-7) U U U) H ?_;intro w H;replace H:=H.l4;refine z_E_ Z (call165 _) (CB 5 i (j+7) 245 (e-7) ((sec.drop 7).take 245) (λh q=>(b h q).cut (lo:=7) (m:=245) (c':=(e-7)) U U U) U U ((sec.drop 7).take 5) (by rw[AeF,AeG U]) (j+12) 240 (e-12) U U U) H ?_;intro w H;refine Z0 12 [0] Z (An 41 Z (λt=>?_) (λt=>?_))
 ·refine Z4 21 [2] H Z ?_;intro w H;refine Zl [2,3] H Z ?_;exact ⟨_,.inr ⟨by rintro ⟨c,l,k⟩;first|exact absurd (d▸c) ‹_› |(exfalso;omega),rfl,rfl⟩,H.perm 4 [3,1] rfl rfl⟩
 refine Z0 4 [0] Z (An 45 Z (λo=>?_) (λo=>?_))
 ·refine Z4 17 [2] H Z ?_;intro w H;refine Zl [2,3] H Z ?_;exact ⟨_,.inr ⟨by rintro ⟨c,l,k⟩;first|exact absurd (d▸c) ‹_› |(exfalso;omega),rfl,rfl⟩,H.perm 4 [3,1] rfl rfl⟩
 refine Zc 1 Z (z_E_ Z (call99 _) (CY) H ?_);intro w H;replace H:=H.l4;refine Ab Z (AH Z Z) (Zc 3 Z (Af Z (λh4=>?_) (λh4=>?_)))
 ·refine Z4 10 [2] H Z ?_;intro w H;refine Zl [2,3] H Z ?_;exact ⟨_,.inr ⟨by rintro ⟨c,l,k⟩;first|exact absurd (d▸c) ‹_› |(exfalso;omega),rfl,rfl⟩,H.perm 4 [3,1] rfl rfl⟩
 refine Z2 10 [0,0,0] H Z (Ar Z (call151 _) (Jx 240 ((sec.drop 12).take 240) ((λh q=>(b h q).cut (lo:=12) (m:=240) (c':=(e-12)) U U U)) U) H.f1 ?_);rintro _ w _ ⟨g,a,rest,rfl,⟨r,cc,cl⟩,rfl⟩ H;refine Z4 9 [3] H Z ?_;intro w H;refine Zl [3,3] H Z ?_;exact ⟨_,.inl ⟨⟨by rw[d];exact AgK ‹_›,by omega,by omega⟩,g,a,rest,Z,⟨r,cc,cl⟩,Z⟩,H.perm 5 [0,4,1] Z Z⟩
theorem HP(s:Sup)(hn:0<=t/\t<=1152921504606846976):Aj 89 [.agg #[I s.gen,I s.epoch,I s.pages,I s.start,I s.len,I s.head,I s.seq],I t] [] (λv G=>v=I (if s.Ok t then 0 else 1)/\G=[]):=by
 intro z R w H;refine Ae func89 Z ntmps89 Z (Za 2 [] H Z ?_);intro u w H;refine Z2 20 [0,0,0,1,0,0,2,0,0,3,0,0,4,0,0,5,0,0,6,0,0] H Z (Ab Z (Bg Z Z (out:=[I s.gen,I s.epoch,I s.pages,I s.start,I s.len,I s.head,I s.seq]) J) (Zc 4 Z ?_));refine AD (σ:=Nat) (λk=>[(22,I (k:Int)),(1,I t),(2,Y u),(21,.agg #[I s.gen,I s.epoch,I s.pages,I s.start,I s.len,I s.head,I s.seq])])
   (λk w=>Sep z (blk u [I s.gen,I s.epoch,I s.pages,I s.start,I s.len,I s.head,I s.seq] 132::R) w/\(k<=7/\∀(j:Nat) (x:Int),j<k->s.list[j]?=some x->0<=x/\x<=1099511627776)) (λk=>7-k) 0
   fr_z ⟨H,by omega,λj x h=>by omega⟩ ?_
 clear H;rintro k w ⟨H',hI⟩;have H:=H'.l1;obtain ⟨a0,b⟩:=hI;refine Z0 6 [0] Z (Af Z (λh1=>?_) (λh1=>?_))
 ·refine Zc 6 Z ?_;obtain ⟨x,c⟩:∃x,s.list[k]?=some x:=⟨_,Aef (by simp[Sup.list];omega)⟩;refine Ab Z (ND Z J Z (l:=s.list) (j:=k) Z Z Z Z c) (Z0 8 [0] Z (An 27 Z (λh2=>?_) (λh2=>?_)))
  ·refine Zc 12 Z (Zr Z ?_);have a:¬s.Ok t:=λ⟨q,e,m,d,g,i,f,n⟩=>by
     first |omega|(have:=q x (Aee c);omega)
   exact ⟨_,⟨congrArg I (by rw[if_neg a]),rfl⟩,H.perm 1 [] rfl rfl⟩
  refine Z0 5 [0] Z (Af Z (λh3=>?_) (λh3=>?_))
  ·refine Zc 6 Z (Zr Z ?_);have a:¬s.Ok t:=λ⟨q,e,m,d,g,i,f,n⟩=>by
     first |omega|(have:=q x (Aee c);omega)
   exact ⟨_,⟨congrArg I (by rw[if_neg a]),rfl⟩,H.perm 1 [] rfl rfl⟩
  refine Z1 7 [] [(k:Int)+1] Z U (gf ?_);intro _ hF;refine ⟨(k+1),hF.cz,⟨H,?_⟩,?_⟩
  ·refine ⟨by omega,λj y o p=>?_⟩;rcases Aes j k with h|h
   ·exact b j y h p
   obtain rfl:j=k:=by omega
   rw[c] at p;cases p;omega
  omega
 obtain rfl:k=7:=by omega
 have hp:=b 2 s.pages U Z;have hl:=b 4 s.len U Z;refine Zc 2 Z (gx (Z2 9 [2,0,0,0] H Z (An 35 Z (λh4=>?_) (λh4=>?_))))
 ·refine Zc 48 Z (Zr Z ?_);have a:¬s.Ok t:=λ⟨q,e,m,d,g,i,f,n⟩=>by
    first |omega|(have:=q x (Aee c);omega)
  exact ⟨_,⟨congrArg I (by rw[if_neg a]),rfl⟩,H.perm 1 [] rfl rfl⟩
 refine Z2 5 [2,0,0,0] H Z (An 40 Z (λh5=>?_) (λh5=>?_))
 ·refine Zc 43 Z (Zr Z ?_);have a:¬s.Ok t:=λ⟨q,e,m,d,g,i,f,n⟩=>by
    first |omega|(have:=q x (Aee c);omega)
  exact ⟨_,⟨congrArg I (by rw[if_neg a]),rfl⟩,H.perm 1 [] rfl rfl⟩
 refine Z3 8 [3,0,0,2,0,0,0] [2+s.pages] H Z U (An 48 Z (λh6=>?_) (λh6=>?_))
 ·refine Zc 35 Z (Zr Z ?_);have a:¬s.Ok t:=λ⟨q,e,m,d,g,i,f,n⟩=>by
    first |omega|(have:=q x (Aee c);omega)
  exact ⟨_,⟨congrArg I (by rw[if_neg a]),rfl⟩,H.perm 1 [] rfl rfl⟩
 refine Z2 5 [4,0,0,0] H Z (An 53 Z (λh7=>?_) (λh7=>?_))
 ·refine Zc 30 Z (Zr Z ?_);have a:¬s.Ok t:=λ⟨q,e,m,d,g,i,f,n⟩=>by
    first |omega|(have:=q x (Aee c);omega)
  exact ⟨_,⟨congrArg I (by rw[if_neg a]),rfl⟩,H.perm 1 [] rfl rfl⟩
 refine Z3 9 [3,0,0,4,0,0,0] [t-s.len] H Z U (An 62 Z (λh8=>?_) (λh8=>?_))
 ·refine Zc 21 Z (Zr Z ?_);have a:¬s.Ok t:=λ⟨q,e,m,d,g,i,f,n⟩=>by
    first |omega|(have:=q x (Aee c);omega)
  exact ⟨_,⟨congrArg I (by rw[if_neg a]),rfl⟩,H.perm 1 [] rfl rfl⟩
 refine Z2 6 [4,0,0,0] H Z (An 68 Z (λh9=>?_) (λh9=>?_))
 ·refine Zc 15 Z (Zr Z ?_);have a:¬s.Ok t:=λ⟨q,e,m,d,g,i,f,n⟩=>by
    first |omega|(have:=q x (Aee c);omega)
  exact ⟨_,⟨congrArg I (by rw[if_neg a]),rfl⟩,H.perm 1 [] rfl rfl⟩
 refine Z2 8 [5,0,0,4,0,0,0] H Z (Af Z (λr=>?_) (λr=>?_))
 ·refine Zc 6 Z (Zr Z ?_);have a:¬s.Ok t:=λ⟨q,e,m,d,g,i,f,n⟩=>by
    first |omega|(have:=q x (Aee c);omega)
  exact ⟨_,⟨congrArg I (by rw[if_neg a]),rfl⟩,H.perm 1 [] rfl rfl⟩
 refine Zc 8 Z (Zr Z ?_);have a:s.Ok t:=⟨λx c=>by
   obtain ⟨j,o,rfl⟩:=Agc.1 c;exact b j _ (by simp[Sup.list] at o;omega) (Aef o)
   ,by omega,by omega,by omega,by omega,by omega,by omega,by omega⟩
 exact ⟨_,⟨congrArg I (by rw[if_pos a]),Z⟩,H.perm 1 [] Z Z⟩
theorem Tl{s:Sup}(e: -9223372036854775808<=s.len-q/\s.len-q<=9223372036854775807):Aj 127 [Y n] [lgB n m i s t p q b c] (λv G=>v=I (if b then 0 else s.len-q)/\G=[lgB n m i s t p q b c]):=by
 intro z R w H;refine Ae func127 Z ntmps127 Z (Z2 14 [12,0,0] H Z (Es Z (λd=>?_) (λd=>?_)))
 ·refine Zc 6 Z (Zr Z ?_);exact ⟨_,⟨congrArg I (by simp_all),Z⟩,H⟩
 refine Zc 3 Z (By (Sep z _) J J H.drew (Hb 11 [2,6,0,0,11,0,0] [s.len-q] Z J U (BL (λw a=>?_))));have H:=a.l1;refine gn (Zc 2 Z (Zr Z ?_));exact ⟨_,⟨congrArg I (by simp_all),Z⟩,H⟩
theorem Tm{s:Sup}:Aj 128 [Y n] [lgB n m i s t p q b c] (λv G=>v=.tuple #[I t,I p]/\G=[lgB n m i s t p q b c]):=by
 intro z R w H;refine Ae func128 Z ntmps128 Z (Zc 7 Z (By (Sep z _) J J H.drew (D5 10 [9,0,10,0] (λ_ a=>(AR (a.blk 0 Z) AN)) Z J Z (BL (λw d=>?_)))));have H:=d.l1;refine gn (Zc 2 Z (Zr Z ?_));exact ⟨_,⟨Z,Z⟩,H⟩
theorem Tn{s:Sup}:Aj 129 [Y n] [lgB n m i s t p q b c] (λv G=>v=.tuple #[]/\G=[lgB n m i s t p 0 false c]):=by
 intro z R w H;refine Ae func129 Z ntmps129 Z (Z4 14 [11,0,12,0] H Z ?_);intro w H;refine Zf Z ?_;exact ⟨_,⟨Z,Z⟩,H⟩
theorem Kg{s:Sup}{n:Int}(g:0<=t/\t<=1099511627776)(d:0<=n/\n<=1099511627776)(f:0<s.len)(hs:0<=p/\p<=2199023255552)(e:0<=q/\q<=2199023255552):Aj 156 [Y m,I n] [lgB m i j s t p q b c] (λv G=>v=.tuple #[]/\G=[lgB m i j s ((t+n)%s.len) (p+1) (q+n) b c]):=by
 intro z R w H;refine Ae func156 Z ntmps156 Z (Zc 1 Z (BK 15 J J (A4 H λw a=>?_)));have H:=a.l1;refine ES 15 [9,0,0,2,6,0,0,9] [t+n,(t+n)%s.len] H Z J U (CG (gw (Z5 26 [0,10,0,0,10,0,11,0,0,11,0] [p+1,q+n] H Z U ?_)));intro w H;refine Zf Z ?_;exact ⟨_,⟨Z,Z⟩,H⟩
theorem Yw(pd bd m N:Nat)(f0 h e f lf:Int)(a:Bool)(c:Nat)(s:Sup)(hN:N<=1152921504606846976)(b:s.Ok ((N:Int)/256)):Aj 98 [Y pd,Y c,.agg #[I s.gen,I s.epoch,I s.pages,I s.start,I s.len,I s.head,I s.seq]] [blk pd [.slice (some ⟨bd,0,none⟩) N N,.map (some m),I f0,I h,I e,I f,.bool a,I lf] 98] (λv G=>(∃g,v=Y g/\G=[lgB g pd c s s.head s.seq 0 false (decide (s.epoch<4294967296)),blk pd [.slice (some ⟨bd,0,none⟩) N N,.map (some m),I f0,I h,I e,I f,.bool a,I lf] 98])):=by
 intro z R w H;refine Ae func98 Z ntmps98 Z (Za 2 [] H Z ?_);intro k w H;refine Zc 5 Z (By (Sep z _) J J H.drew (GL 9 [0,7] [] Z J (Dn Z Z Z Z Z (λw=>call90 _ w) (v:=I ((N:Int)/256)) (cq (KJ _ _ _ _ _ _ _ _ _ _ U) (by rintro _ _ ⟨rfl,rfl⟩;exact ⟨Z,Z⟩) 2 [1,0] [1,0] Z Z Z Z) (Dn Z Z Z Z Z (λw=>call89 _ w) (v:=I (if s.Ok ((N:Int)/256) then 0 else 1)) (cq (HP _ U) (by rintro _ _ ⟨rfl,rfl⟩;exact ⟨Z,Z⟩) 0 [] [] Z Z Z Z) (B4 2 [] Z J (BL (λw i=>?_)))))));have H:=i.l2;refine gn (Zc 1 Z (Af Z (λd=>?_) (λd=>?_)))
 ·exact absurd (if_pos b) d
 refine Z2 14 [0,7,5,0,0,6,0,0,1,0,0,0] H Z (Ab Z (Bg Z Z (out:=[Y pd,Y c,I s.gen,I s.epoch,I s.pages,I s.start,I s.len,I s.head,I s.seq,I s.head,I s.seq,I 0,.bool false,.bool (decide ((s.epoch:Int)<4294967296))]) J) (Za 0 [] H Z ?_));intro j w H;refine Zc 4 Z (Zr Z ?_);exact ⟨_,⟨j,Z,Z⟩,H.perm 3 [0,2] Z Z⟩
theorem Abr(k:Nat):Aj 18 [I (k:Int)] [] (λv G=>(¬(1<=k/\k<=4096)/\v=.tuple #[.pointer none,I 1]/\G=[])\/((1<=k/\k<=4096)/\∃pd,v=.tuple #[Y pd,I 0]/\G=[diskA pd (Cv k)])):=by
 intro z R w H;refine Ae func18 Z ntmps18 Z (Z0 12 [0] Z (An 6 Z (λf=>?_) (λf=>?_)))
 ·refine Zc 13 Z (Zr Z ?_);exact ⟨_,.inl ⟨by omega,Z,Z⟩,H⟩
 refine Z0 5 [0] Z (Af Z (λg=>?_) (λg=>?_))
 ·refine Zc 7 Z (Zr Z ?_);exact ⟨_,.inl ⟨by omega,Z,Z⟩,H⟩
 refine Z1 6 [] [((k*256:Nat):Int)] Z U (AP Z (Eo (k:=(k*256)) H Z J CL Z Z Z U) ?_);rintro _ w ⟨b,rfl,H⟩;refine AP Z (Ga H Z) ?_;rintro _ w ⟨a,rfl,H⟩;refine Ab Z (Bg Z Z (out:=[.slice (some ⟨b,0,none⟩) (k*256) (k*256),.map (some a),I 0,I 0,I 0,I 0,.bool false,I 0]) J) (Za 0 [] H Z ?_);intro d w H;refine Zc 5 Z (Zr Z ?_);replace H:=(RA H).l4;replace H:=(H.void (B:=seps (([]:List Ent).map Ent.row)) (λh=>⟨λ_=>0,λi A e=>by cases e⟩)).l5;have c:List.replicate (k*256) (u8 0)=(List.replicate (k*256) (0:UInt8)).map u8:=by simp
 rw[c] at H;have H:Sep z (seps (([]:List Ent).map Ent.row)::poolA (λ_=>none)::blk d [.slice (some ⟨b,0,none⟩) (k*256) (k*256),.map (some a),I 0,I 0,I 0,I 0,.bool false,I 0] 98::AI a (([]:List Ent).map Ent.ie) 0::blk b ((List.replicate (k*256) (0:UInt8)).map u8) 5::R) w:=H;replace H:=H.f1.f3.f4.f4;replace H:=(Sep.toDisk (D:=Cv k) (pd:=d) (bd:=b) (m:=a) (f0:=0) (bs:=(List.replicate (k*256) 0)) (es:=([]:List Ent)) (clk:=0) (hq:=(λ_=>none)) (Γ:=R) H (Ym U) Yn).l1;exact ⟨_,.inr ⟨by omega,d,Z,Z⟩,H⟩
theorem Qk{s:Sup}{us:Int}{x:Int}(f:D.f1=0)(hr:0<=s.start/\0<s.len/\s.start+s.len<=D.n)(hx:0<=x/\x<=1152921504606846976)(sec:List UInt8)(d:D.cont (ringAt s x)=sec):Aj 191 [Y m,I x] [lgB m i j s t p us b c,diskA i D] (λv G=>(∃g a rest,v=.tuple #[.slice (some ⟨g,0,none⟩) 256 a,I 0]/\(256<=a/\a<=9223372036854775807/\rest.length=a-256)/\G=[blk g (sec.map u8++rest) 5,lgB m i j s t p us b c,diskA i D])):=by
 intro z R w H;have l:=H.sy 1 (λq=>(diskA.ok q).n2);have h:=Agn x (by omega:s.len≠0);have o:=Af5 x (by omega:0<s.len);refine Ae func191 Z ntmps191 Z (Zc 7 Z (AQ (Sep z (lgB m i j s t p us b c::diskA i D::R)) 22 Z J (A4 H λw e=>?_)));have H:=e.l2;refine HJ [0,1,2,3,4,5,6,7,8,9,10,11,12,13,14,15,16] [0,0,0,2,5,0,0,2,6,0,0] [x%s.len,s.start+(x%s.len)] H Z J U Z (AE [17] J O (Am (Bt Z Z Z Z Z Z (λw=>call143 _ w) (I3) H.f1 Z ?_)));rintro _ w _ (⟨k,rfl,rfl⟩|⟨_,y,_⟩|⟨_,_,g,a,rest,rfl,⟨r,cc,u⟩,rfl⟩) e
 ·exact absurd ⟨by omega,by omega⟩ k
 ·exact absurd y U
 rw[diskA.f1 f] at e;have H:=e.l3;refine Ax (H.pick 3 [2,1] Z) (AT [18,19,20,21] [] [] (by exact H.pick 3 [2,1] Z) Z J Z (a_done J (gn (Zc 2 Z (Zr Z ?_)))));subst d;exact ⟨_,⟨g,a,rest,Z,⟨r,cc,u⟩,Z⟩,H.perm 3 [0,2,1] Z Z⟩
theorem Yx{a:UInt32}(n:Nat)(bs:List UInt8)(c:bs.length=n)(b:∀h,A h->rdH 1 v n (bs.map u8) h):Aj 193 [Y m,u32 a,v] [tblA m,A] (λv G=>v=u32 (EF a bs)/\G=[tblA m,A]):=by
 subst c;exact Ti m a v bs A b
set_option maxHeartbeats 1000000 in
theorem Abs {pd pt:Nat} {s:Sup} {us:Int} (c6:D.f1=0) (hr:0<=s.start/\0<s.len/\s.start+s.len<=D.n) (ha:0<=t/\t<=1099511627776) (hu:0<=us/\us<=1099511627776) (g1:s.len<=4096) (F:Nat->List UInt8) (hF:∀j:Nat,F j=D.cont (ringAt s (t+j))):Aj 155 [Y m] [lgB m pd pt s t p us b c,tblA pt,diskA pd D] (λv G=>((∀ims,¬nextP F s.epoch p (s.len-us) ims)/\v=.tuple #[.agg #[I 0,.slice none 0 0],I 0]/\G=[lgB m pd pt s t p us b c,tblA pt,diskA pd D])\/(∃ims v' hq,nextP F s.epoch p (s.len-us) ims/\v=.tuple #[.agg #[I p,v'],I 0]/\imgsH v' ims hq/\G=[poolA hq,lgB m pd pt s t p us b c,tblA pt,diskA pd D])):=by
 intro z R w H;replace H:=H.l3;have a2:∀j:Nat,(F j).length=256:=λj=>by
   rw[hF];refine Dsk.cont_len (H.sy 2 (λq=>diskA.ok q)) ?_;have g4:=Af5 (t+j) (by omega:0<s.len);unfold ringAt;omega
 replace H:=(RA H).l4;refine Ae func155 Z ntmps155 Z (Za 2 [] H Z ?_);intro b1 w H;refine Za 6 [] H Z ?_;intro b2 w H;refine Z4 10 [0,9,3,0] H Z ?_;intro w H;refine Ar Z (call191 _) (Qk c6 hr U (F 0) (by rw[hF];simp)) H.f5.f4 ?_;rintro _ w _ ⟨g,c2,rest,rfl,⟨cg,cc,cl⟩,rfl⟩ H;replace H:=H.l7;replace H:=H.f5;obtain ⟨e6,⟨f9,c3⟩,H⟩:=DX H (λh q=>EH q (a2 _) ⟨cg,cc,cl⟩);replace H:=H.l6;refine Z2 24 [4,1,1,0] H Z (Ar Z (call192 _) (Tk (F 0) (λh q=>c3.le q)) H.f5 ?_);rintro _ w _ (⟨hh,v1,rfl,rfl⟩|⟨hh,rfl,rfl⟩) a
 ·have H:=a.l7
  refine Zc 1 Z ?_;obtain ⟨a5,a6,rfl⟩:=H.sy 0 (·.slc);have H:Sep z (grow 3 1 (.slice a5 (BJ (F 0)) a6) (BJ (F 0)) (hN (F 0) (BJ (F 0)))::tblA pt::poolA e6::lgB m pd pt s t p us b c::diskA pd D::blk b2 [I 0,.slice none 0 0] 159::blk b1 [I 0,.slice none 0 0] 159::R) w:=H;replace H:=H.f2;obtain ⟨d3,⟨g0,e4⟩,H⟩:=DX H (λh q=>q.rd);replace H:=H.l6;have f3:=hh.2.2.2.1;refine Zc 2 Z (AP Z (BZ (P:=prog) H Z (zs:=[I 0,I 0,.slice none 0 0,u32 0]) J) ?_);rintro _ w ⟨b3,rfl,H⟩;replace H:=H.l7;refine Z4 6 [0] H Z ?_;intro w H;refine By (Sep z _) J J H.drew (D5 13 [0,0,2,3,1] (λ_ hx=>(AR (hx.blk 0 Z) (AR (hx.blk 3 Z) AN))) Z J Z (Ce 56 Z (λh1=>?_) (λh1=>?_)))
  ·refine B4 25 [] Z J (BL (λw a=>?_));have H:=a.l7;refine gn (Z4 10 [5,2,6] H Z ?_);intro w H;refine Zl [6,2] H Z ?_;exact ⟨_,.inl ⟨λims=>by rintro ⟨q1,q2,q3,q4,q5,f,q7⟩;first|exact hh q1|(exfalso;simp only[Cq,Cr] at q2 q3;omega)|exact absurd (f i U).1 hi|(have q8:=f i U;simp only[Fz,FA,Co,Cq,Cr] at *;exfalso;omega)|exact absurd (show Bc (Ec F (BJ (F 0)))=DL (F 0) from q7) ‹_›,rfl,rfl⟩,H.perm 7 [3,2,4] rfl rfl⟩
  refine D5 9 [1,0,10,1] (λ_ hx=>(AR (hx.blk 0 Z) (AR (hx.blk 3 Z) AN))) Z J Z (Ce 65 Z (λh2=>?_) (λh2=>?_))
  ·refine B4 16 [] Z J (BL (λw a=>?_));have H:=a.l7;refine gn (Z4 10 [5,2,6] H Z ?_);intro w H;refine Zl [6,2] H Z ?_;exact ⟨_,.inl ⟨λims=>by rintro ⟨q1,q2,q3,q4,q5,f,q7⟩;first|exact hh q1|(exfalso;simp only[Cq,Cr] at q2 q3;omega)|exact absurd (f i U).1 hi|(have q8:=f i U;simp only[Fz,FA,Co,Cq,Cr] at *;exfalso;omega)|exact absurd (show Bc (Ec F (BJ (F 0)))=DL (F 0) from q7) ‹_›,rfl,rfl⟩,H.perm 7 [3,2,4] rfl rfl⟩
  refine Hb 16 [2,0,0,2,6,3,0,11,3,0,0] [1+((BJ (F 0):Nat):Int),s.len-us] Z J U (BL (λw a=>?_));have H:=a.l7;refine gn (Zc 1 Z (Af Z (λh3=>?_) (λh3=>?_)))
  ·refine Z4 8 [5,2,6] H Z ?_;intro w H;refine Zl [6,2] H Z ?_;exact ⟨_,.inl ⟨λims=>by rintro ⟨q1,q2,q3,q4,q5,f,q7⟩;first|exact hh q1|(exfalso;simp only[Cq,Cr] at q2 q3;omega)|exact absurd (f i U).1 hi|(have q8:=f i U;simp only[Fz,FA,Co,Cq,Cr] at *;exfalso;omega)|exact absurd (show Bc (Ec F (BJ (F 0)))=DL (F 0) from q7) ‹_›,rfl,rfl⟩,H.perm 7 [3,2,4] rfl rfl⟩
  refine Zc 14 Z ?_;replace H:=(H.nilg 46 1).l8;refine Z2 8 [2,1,0] H Z ?_;refine AD (σ:=Nat×Value×List Value×Hp) (λ⟨i,v,a0,hq⟩=>[(86,I (i:Int)),(9,u32 (Bc (Ec F i))),(10,v),(0,Y m),(2,Y b1),(4,Y b2),(7,Y b3),(85,I ((BJ (F 0):Nat):Int))])
    (λ⟨i,v,a0,hq⟩ w=>Sep z (grow 46 1 v i a0::blk b3 [I (Cq (F 0)),I (Cr (F 0)),.slice a5 (BJ (F 0)) a6,u32 (DL (F 0))] 287::poolA hq::tblA pt::lgB m pd pt s t p us b c::diskA pd D::blk b2 [I 0,.slice none 0 0] 159::blk b1 [I 0,.slice none 0 0] 159::R) w/\(i<=BJ (F 0)/\a0.length=i/\CK d3 hq/\∀(j:Nat) (pv:Value),a0[j]?=some pv->rdH 1 pv 256 ((F (1+j)).map u8) hq)) (λ⟨i,v,a0,hq⟩=>BJ (F 0)-i) ⟨0,.slice none 0 0,[],d3⟩
    (λ_ hF=>(hF.co Z (by go_num) (hF.co Z (AdN F) hF.cz))) ⟨H,by omega,Z,λk o e=>e,λj pv h=>by simp at h⟩ ?_
  clear H;rintro ⟨i,v,a0,hq⟩ w ⟨a,hI⟩;dsimp only at hI a ⊢;have H:=a.l8;have sv:=H.sy 0 (·.slc);obtain ⟨e2,d0,a7,b5⟩:=hI;refine Z0 6 [0] Z (Af Z (λh4=>?_) (λh4=>?_))
  ·have e7:i<BJ (F 0):=by omega
   refine Z3 20 [9,4,0] [t+1,(t+1)+(i:Int)] H Z U (Ar Z (call191 _) (Qk c6 hr U (F (1+i)) (by rw[hF];congr 2;omega)) H.f5.f5 ?_);rintro _ w _ ⟨g,c2,rest,rfl,⟨cg,cc,cl⟩,rfl⟩ H;replace H:=H.l9;replace H:=H.f5;obtain ⟨e9,⟨b0,a4⟩,H⟩:=DX H (λh q=>EH q (a2 _) ⟨cg,cc,cl⟩);replace H:=H.l8;refine Z2 25 [4,1,1,0] H Z (z_E_ Z (call193 _) (Yx 256 (F (1+i)) (a2 _) (λh q=>a4.le q)) H.f5 ?_);intro w H;refine Zc 6 Z (AP Z (AO H Z J KI Z (by decide) (by decide) (out:=[.slice (some ⟨g,0,none⟩) 256 c2]) J) ?_);rintro _ w ⟨b4,rfl,H⟩;replace H:=H.l9;refine AP Z (AW 5 H Z Z J KI Z Z (H.rv 0 (·.rd U U O Z)) (by simp[Value.oneCell']) U) ?_;rintro v5 w H;replace H:=H.l9;have g8:=H.sy 5 (·.slc);refine Z1 8 [] [(i:Int)+1] Z U ?_;replace H:=H.d.f7.f7.f5.f5.f4.f5.f7.f7;refine gf ?_;intro _ hF;refine ⟨⟨i+1,v5,a0++[.slice (some ⟨g,0,none⟩) 256 c2],e9⟩,(hF.co Z (by go_num) (hF.co Z (congrArg u32 (U2 F i)) (hF.all Z))),⟨H,?_⟩,?_⟩
   ·refine ⟨by omega,by simp[d0],λk o e=>b0 k o (a7 k o e),λj pv h=>?_⟩;rcases Aes j i with q|q
    ·rw[Aeo U] at h;exact (b5 j pv h).le b0
    rw[Aeu U] at h;obtain rfl:j=i:=by have:=(Aed.1 h).1;simp at this;omega
    simp[d0] at h;subst h;exact a4
   omega
  obtain rfl:i=BJ (F 0):=by omega
  refine Zc 2 Z (gx (Zc 3 Z ?_));obtain ⟨d7,c8,rfl⟩:=H.sy 0 (·.slc);have H:Sep z (grow 46 1 (.slice d7 (BJ (F 0)) c8) (BJ (F 0)) a0::blk b3 [I (Cq (F 0)),I (Cr (F 0)),.slice a5 (BJ (F 0)) a6,u32 (DL (F 0))] 287::poolA hq::tblA pt::lgB m pd pt s t p us b c::diskA pd D::blk b2 [I 0,.slice none 0 0] 159::blk b1 [I 0,.slice none 0 0] 159::R) w:=H;replace H:=H.f2;obtain ⟨d2,⟨a9,c4⟩,H⟩:=DX H (λh q=>q.rd);replace H:=H.l7;have a8:=e4.le (λk o e=>a9 k o (a7 k o e));replace H:=(H.nilg 161 3).l8;refine Za 6 [10,4,0] H Z ?_;intro b6 w H;refine Z4 12 [0] H Z ?_;intro w H;refine AD (σ:=Nat×Value×List ImE×Hp) (λ⟨i,v,es,a1⟩=>[(124,I (i:Int)),(0,Y m),(2,Y b1),(4,Y b2),(7,Y b3),(9,u32 (Bc (Ec F (BJ (F 0))))),(14,Y b6),(122,.slice d7 (BJ (F 0)) c8),(123,I ((BJ (F 0):Nat):Int))])
    (λ⟨i,v,es,a1⟩ w=>Sep z (blk b6 [I p,v] 159::grow 161 3 v i (Gq es)::poolA a1::blk b3 [I (Cq (F 0)),I (Cr (F 0)),.slice a5 (BJ (F 0)) a6,u32 (DL (F 0))] 287::tblA pt::lgB m pd pt s t p us b c::diskA pd D::blk b2 [I 0,.slice none 0 0] 159::blk b1 [I 0,.slice none 0 0] 159::R) w/\(i<=BJ (F 0)/\es.length=i/\es.map Prod.fst=(List.range i).map (λj=>Co (F (1+j)))/\CK d2 a1/\imesOk es a1/\∀j,j<i->IZ (F (1+j))/\Fz (F (1+j))=s.epoch/\FA (F (1+j))=p/\(Co (F (1+j))).num=Ev (F 0) j/\Bc (Ec F (BJ (F 0)))=DL (F 0))) (λ⟨i,v,es,a1⟩=>BJ (F 0)-i) ⟨0,.slice none 0 0,[],d2⟩
    fr_z ⟨H,by omega,Z,Z,λk o e=>e,λe he=>absurd he O,λj h=>by omega⟩ ?_
  clear H;rintro ⟨i,v,es,a1⟩ w ⟨a,hI⟩;dsimp only at hI a ⊢;have H:=a.l9;have sv:=H.sy 1 (·.slc);obtain ⟨e2,e3,d5,x,d4,y⟩:=hI;refine Z0 6 [0] Z (Af Z (λh5=>?_) (λh5=>?_))
  ·have e7:i<BJ (F 0):=by omega
   refine Zc 5 Z ?_;obtain ⟨pv,c7⟩:∃pv,a0[i]?=some pv:=⟨_,Aef U⟩;have c0:=(b5 i pv c7).le (λk o e=>x k o (a9 k o e));obtain ⟨sb,so,sc,rfl⟩:=c0.sl (by rw[Aeh,a2];decide);have b9:=(H.rv 2 (λq=>(c4.le x).le q)).at (j:=i) c7;have c9:=(H.rv 2 (λq=>(a8.le x).le q)).at (j:=i) (u:=I (Ev (F 0) i)) (by simp[hN,show i<BJ (F 0) from by omega]);refine Zc 2 Z (Ab Z (Ak Z (z:=1) (j:=i) (r:=i) J Z Z Z U b9 U) (Ab Z (Ay Z Z J (Az b9)) (Z2 11 [1,5,0] H Z (Ar Z (call194 _) (RD (F (1+i)) (λh q=>c0.le q)) H.f2.f4 ?_))));rintro _ w _ (⟨hi,g3,l,d9,rfl,⟨f0,e1,e8⟩,rfl⟩|⟨hi,rfl,rfl⟩) a
   ·have H:=a.l10;refine Zc 1 Z ?_;replace H:=H.f2;obtain ⟨d6,⟨a3,c1⟩,H⟩:=DX H (λh q=>EH q (by simp[a2]) ⟨f0,e1,e8⟩);replace H:=H.l9;refine Za 4 [] H Z ?_;intro b7 w H;refine Z4 8 [0] H Z ?_;intro w H;refine By (Sep z _) J J H.drew (D5 9 [0,0] (λ_ hx=>(AR (hx.blk 5 Z) AN)) Z J Z (Ce 148 Z (λh6=>?_) (λh6=>?_)))
    ·refine B4 21 [] Z J (BL (λw a=>?_));have H:=a.l10;refine gn (Z4 10 [8,2,9] H Z ?_);intro w H;refine Zl [9,2] H Z ?_;exact ⟨_,.inl ⟨λims=>by rintro ⟨q1,q2,q3,q4,q5,f,q7⟩;first|exact hh q1|(exfalso;simp only[Cq,Cr] at q2 q3;omega)|exact absurd (f i U).1 hi|(have q8:=f i U;simp only[Fz,FA,Co,Cq,Cr] at *;exfalso;omega)|exact absurd (show Bc (Ec F (BJ (F 0)))=DL (F 0) from q7) ‹_›,rfl,rfl⟩,H.perm 10 [6,2,7] rfl rfl⟩
    refine D5 6 [1,0] (λ_ hx=>(AR (hx.blk 5 Z) AN)) Z J Z (Ce 154 Z (λh7=>?_) (λh7=>?_))
    ·refine B4 15 [] Z J (BL (λw a=>?_));have H:=a.l10;refine gn (Z4 10 [8,2,9] H Z ?_);intro w H;refine Zl [9,2] H Z ?_;exact ⟨_,.inl ⟨λims=>by rintro ⟨q1,q2,q3,q4,q5,f,q7⟩;first|exact hh q1|(exfalso;simp only[Cq,Cr] at q2 q3;omega)|exact absurd (f i U).1 hi|(have q8:=f i U;simp only[Fz,FA,Co,Cq,Cr] at *;exfalso;omega)|exact absurd (show Bc (Ec F (BJ (F 0)))=DL (F 0) from q7) ‹_›,rfl,rfl⟩,H.perm 10 [6,2,7] rfl rfl⟩
    refine D5 5 [0,0,2,1] (λ_ hx=>(AR (hx.blk 0 Z) (AR (hx.blk 5 Z) AN))) Z J Z (AM Z Z Z (Ak Z (z:=1) (j:=i) (r:=i) J Z Z Z U c9 U) (AM Z Z Z (Ay Z Z J (λ_ hx=>(hx.rd 1 Z (λh q=>(a8.le (λk o e=>a3 k o (x k o e))).le q)).at (j:=i) (u:=I (Ev (F 0) i)) (by simp[hN,show i<BJ (F 0) from by omega]))) (B4 3 [] Z J (Ce 164 Z (λh8=>?_) (λh8=>?_)))))
    ·refine B4 5 [] Z J (BL (λw a=>?_));have H:=a.l10;refine gn (Z4 10 [8,2,9] H Z ?_);intro w H;refine Zl [9,2] H Z ?_;exact ⟨_,.inl ⟨λims=>by rintro ⟨q1,q2,q3,q4,q5,f,q7⟩;first|exact hh q1|(exfalso;simp only[Cq,Cr] at q2 q3;omega)|exact absurd (f i U).1 hi|(have q8:=f i U;simp only[Fz,FA,Co,Cq,Cr] at *;exfalso;omega)|exact absurd (show Bc (Ec F (BJ (F 0)))=DL (F 0) from q7) ‹_›,rfl,rfl⟩,H.perm 10 [6,2,7] rfl rfl⟩
    refine D5 3 [3,0] (λ_ hx=>(AR (hx.blk 5 Z) AN)) Z J Z (AM Z Z Z (XP (k:=.u32) Z J Z Z) (B4 1 [] Z J (BL (λw a=>?_))));have H:=a.l10;refine gn (Zc 1 Z (Af Z (λh9=>?_) (λh9=>?_)))
    ·refine Z4 8 [8,2,9] H Z ?_;intro w H;refine Zl [9,2] H Z ?_;exact ⟨_,.inl ⟨λims=>by rintro ⟨q1,q2,q3,q4,q5,f,q7⟩;first|exact hh q1|(exfalso;simp only[Cq,Cr] at q2 q3;omega)|exact absurd (f i U).1 hi|(have q8:=f i U;simp only[Fz,FA,Co,Cq,Cr] at *;exfalso;omega)|exact absurd (show Bc (Ec F (BJ (F 0)))=DL (F 0) from q7) ‹_›,rfl,rfl⟩,H.perm 10 [6,2,7] rfl rfl⟩
    refine Z2 6 [1,3,0,0,3] H Z (AP Z (AO H Z J DB Z (by decide) (by decide) (out:=[I ((Co (F (1+i))).num),I ((Co (F (1+i))).kind),.slice (some ⟨g3,0,none⟩) 240 l]) J) ?_);rintro _ w ⟨b8,rfl,H⟩;replace H:=H.l11;refine AP Z (AW 5 H Z Z J DB Z Z (H.rv 0 (·.rd U U O Z)) (by simp[Value.oneCell']) U) ?_;rintro v9 w a;have a:Sep z (blk b8 [I ((Co (F (1+i))).num),I ((Co (F (1+i))).kind),.slice (some ⟨g3,0,none⟩) 240 l] 161::blk b7 [I ((Co (F (1+i))).num),I ((Co (F (1+i))).kind),.slice (some ⟨g3,0,none⟩) 240 l] 161::poolA d6::tblA pt::blk b6 [I p,v] 159::grow 161 3 v9 (i+1) (Gq es++[I ((Co (F (1+i))).num),I ((Co (F (1+i))).kind),.slice (some ⟨g3,0,none⟩) 240 l])::blk b3 [I (Cq (F 0)),I (Cr (F 0)),.slice a5 (BJ (F 0)) a6,u32 (DL (F 0))] 287::lgB m pd pt s t p us b c::diskA pd D::blk b2 [I 0,.slice none 0 0] 159::blk b1 [I 0,.slice none 0 0] 159::R) w:=a;have e5:(Gq es++[I ((Co (F (1+i))).num),I ((Co (F (1+i))).kind),.slice (some ⟨g3,0,none⟩) 240 l]:List Value)=Gq (es++[(Co (F (1+i)),.slice (some ⟨g3,0,none⟩) 240 l)]):=Od es (Co (F (1+i)),.slice (some ⟨g3,0,none⟩) 240 l);rw[e5] at a;have H:=a.l11;have c5:=H.sy 5 (·.slc);refine Z0 1 [1] Z (AC Z Z (Lu 4 H Z Z Z Z c5.cells c5.one J) ?_);rintro w H;replace H:=H.l11;refine Z1 7 [] [(i:Int)+1] Z U ?_;replace H:=H.f1.d.d.f8.f8.f8.f8.f5.f8.f6.f8.f8;refine gf ?_;intro _ hF;refine ⟨⟨i+1,v9,es++[(Co (F (1+i)),.slice (some ⟨g3,0,none⟩) 240 l)],d6⟩,hF.cz,⟨H,?_⟩,?_⟩
    ·refine ⟨by omega,by simp[e3],by simp[d5,Aha],λk o e=>a3 k o (x k o e),?_,λj hj=>?_⟩
     ·intro e he;rcases Aer.1 he with q|q
      ·exact (d4 e q).le a3
      rw[Afn.1 q];simpa [Co,a2] using c1
     rcases Aes j i with q|q
     ·exact y j q
     obtain rfl:j=i:=by omega
     simp only[Fz,FA,Cq,Cr,Co] at *;exact ⟨hi,by omega,by omega,by omega,AgK ‹_›⟩
    omega
   have H:=a.l9;refine Za 5 [] H Z ?_;intro g6 w H;refine Z4 8 [0] H Z ?_;intro w H;refine By (Sep z _) J J H.drew (B4 30 [] Z J (BL (λw a=>?_)));have H:=a.l10;refine gn (Z4 10 [8,2,9] H Z ?_);intro w H;refine Zl [9,2] H Z ?_;exact ⟨_,.inl ⟨λims=>by rintro ⟨q1,q2,q3,q4,q5,f,q7⟩;first|exact hh q1|(exfalso;simp only[Cq,Cr] at q2 q3;omega)|exact absurd (f i U).1 hi|(have q8:=f i U;simp only[Fz,FA,Co,Cq,Cr] at *;exfalso;omega)|exact absurd (show Bc (Ec F (BJ (F 0)))=DL (F 0) from q7) ‹_›,rfl,rfl⟩,H.perm 10 [6,1,7] rfl rfl⟩
  obtain rfl:i=BJ (F 0):=by omega
  refine Zc 2 Z (gx (Z2 5 [0,2] H Z (AC Z Z (Al 8 H Z Z Z Z (vs:=[I p,v]) Z (Ad Z (Ad sv.one Aw)) J O (out:=[I p,v]) Z) ?_)));rintro w H;replace H:=H.l9;refine Zc 4 Z (Zl [8,2] H Z ?_);replace H:=H.f1.f2;obtain ⟨e0,⟨d1,d8⟩,H⟩:=DX H (λh q=>q.rd);replace H:=H.l8;exact ⟨_,.inr ⟨_,v,e0,⟨hh,by unfold Cq;omega,by unfold Cr;omega,by omega,Z,λj hj=>⟨(y j hj).1,(y j hj).2.1,(y j hj).2.2.1,(y j hj).2.2.2.1⟩,(y 0 U).2.2.2.2⟩,Z,⟨es,d5,by simpa using d8,d4.le d1⟩,Z⟩,H.perm 8 [0,4,3,5] Z Z⟩
 have H:=a.l6;refine Zc 3 Z (AP Z (BZ (P:=prog) H Z (zs:=[I 0,I 0,.slice none 0 0,u32 0]) J) ?_);rintro _ w ⟨g2,rfl,H⟩;replace H:=H.l7;refine Z4 6 [0] H Z ?_;intro w H;refine By (Sep z _) J J H.drew (B4 38 [] Z J (BL (λw a=>?_)));have H:=a.l7;refine gn (Z4 10 [5,2,6] H Z ?_);intro w H;refine Zl [6,2] H Z ?_;exact ⟨_,.inl ⟨λims=>by rintro ⟨q1,q2,q3,q4,q5,f,q7⟩;first|exact hh q1|(exfalso;simp only[Cq,Cr] at q2 q3;omega)|exact absurd (f i U).1 hi|(have q8:=f i U;simp only[Fz,FA,Co,Cq,Cr] at *;exfalso;omega)|exact absurd (show Bc (Ec F (BJ (F 0)))=DL (F 0) from q7) ‹_›,rfl,rfl⟩,H.perm 7 [3,1,4] rfl rfl⟩
theorem Ql(s:Sup)(b:s.Ok (D.n:Int)):Aj 98 [Y i,Y j,.agg #[I s.gen,I s.epoch,I s.pages,I s.start,I s.len,I s.head,I s.seq]] [diskA i D] (λv G=>∃a,v=Y a/\G=[lgB a i j s s.head s.seq 0 false (decide (s.epoch<4294967296)),diskA i D]):=by
 refine Cn.mono (Cn.onDisk (post:=λv Γ=>∃a,v=Y a/\Γ=[lgB a i j s s.head s.seq 0 false (decide (s.epoch<4294967296))]) (λc bd m f0=>?_)) ?_
 ·have d:=c.n2
  refine Cn.mono (Yw i bd m (D.n*256) f0 D.f1 D.f2 D.f3 D.left D.cut j s U (by rw[show ((D.n*256:Nat):Int)/256=(D.n:Int) from by omega];exact b)) ?_;rintro v Γ ⟨a,rfl,rfl⟩;exact ⟨_,⟨a,Z,Z⟩,Z⟩
 rintro v Γ ⟨Γ',⟨a,rfl,rfl⟩,rfl⟩;exact ⟨a,Z,Z⟩
set_option maxHeartbeats 1000000 in
theorem Abt (s:Sup) (p:s.Ok (D.n:Int)) (a7:D.f1=0):Aj 96 [Y m,Y i,.agg #[I s.gen,I s.epoch,I s.pages,I s.start,I s.len,I s.head,I s.seq]] [tblA i,diskA m D] (λv G=>∃x rs a q u v' hq,v=.tuple #[Y x,v',I 0]/\Runs D s s.head s.seq 0 rs a q u/\(s.len<=u\/∀ims,¬nextP (Dj D s a) s.epoch q (s.len-u) ims)/\recsH v' rs hq/\G=[poolA hq,lgB x m i s a q u false (decide (s.epoch<4294967296)),tblA i,diskA m D]):=by
 intro z R w H;have b7:=H.sy 1 (λq=>(diskA.ok q).n2);have b9:=Sup.get p;have hr:0<=s.start/\0<s.len/\s.start+s.len<=D.n:=by have:=p.2;omega
 have c2:=p.2.2.2.2.2.2.2;refine Ae func96 Z ntmps96 Z (Za 2 [] H Z ?_);intro b1 w H;refine Z2 10 [0,7] H Z (Ar Z (call98 _) (Ql s p) H.f2 ?_);rintro _ w _ ⟨x,rfl,rfl⟩ H;refine Zc 17 Z ?_;replace H:=(H.nilg 159 2).l5;replace H:=(RA H).l6;refine Zc 3 Z ?_;refine AD (σ:=List RcE×Value×Int×Int×Int×Hp) (λ⟨es,v,a,q,u,hq⟩=>[(10,v),(5,Y b1),(9,Y x)])
   (λ⟨es,v,a,q,u,hq⟩ w=>Sep z (poolA hq::grow 159 2 v es.length (I0 es)::lgB x m i s a q u false (decide (s.epoch<4294967296))::diskA m D::blk b1 [I s.gen,I s.epoch,I s.pages,I s.start,I s.len,I s.head,I s.seq] 132::tblA i::R) w/\(Runs D s s.head s.seq 0 (es.map Prod.fst) a q u/\rcesOk es hq/\(0<=a/\a<=4096)/\(s.seq<=q/\q<=s.seq+u)/\(0<=u/\u<=s.len)/\es.length<=u)) (λ⟨es,v,a,q,u,hq⟩=>(s.len-u).toNat) ⟨[],.slice none 0 0,s.head,s.seq,0,(λ_=>none)⟩
   fr_z ⟨H,.nil _ _ _,λe he=>absurd he O,by omega,by omega,by omega,by simp⟩ ?_
 clear H;rintro ⟨es,v,a,q,u,hq⟩ w ⟨c,hI⟩;dsimp only at hI c ⊢;have H:=c.l6;obtain ⟨l,k,ha,a8,hu,b8⟩:=hI;refine Zc 2 Z (By (Sep z _) J J H.drew (D5 7 [11,0,4,1] (λ_ hx=>(AR (hx.blk 2 Z) (AR (hx.blk 4 Z) AN))) Z J Z (BL (λw c=>?_))));have H:=c.l6;refine gn (Zc 1 Z (Af Z (λh1=>?_) (λh1=>?_)))
 ·refine Zc 6 Z (Ar Z (call155 _) (Abs a7 hr U U U (Dj D s a) (λj=>rfl)) H.f3.f5.f4 ?_);rintro _ w _ (⟨a4,rfl,rfl⟩|⟨ims,f,a8,t,rfl,a3,rfl⟩) c
  ·have H:=c.l6
   refine Za 3 [] H Z ?_;intro b2 w H;refine Z4 27 [0,4,1,0,0,3] H Z ?_;intro w H;refine gx (Zc 12 Z (Zr Z ?_));replace H:=H.f5.f5;obtain ⟨y,⟨o,g⟩,H⟩:=DX H (λh q=>q.rd);exact ⟨_,⟨x,es.map Prod.fst,a,q,u,v,y,Z,l,by first|exact .inl U|exact .inr a4,⟨es,rfl,by simpa using g,k.le o⟩,rfl⟩,H.perm 6 [0,2,3,4] rfl rfl⟩
  have H:=c.l7;obtain ⟨a6,b5,a5⟩:=a3.slc;have r:Slc f ims.length:=⟨a6,b5,a5⟩;clear a5;have b6:=t.len;refine Za 3 [] H Z ?_;intro b3 w H;refine AC Z Z (Al 0 H Z Z Z Z (vs:=[I q,f]) Z (Ad Z (Ad r.one Aw)) J O (out:=[I q,f]) Z) ?_;rintro w H;refine Zc 5 Z ?_;replace H:=H.f1.f5;obtain ⟨a0,⟨a1,a2⟩,H⟩:=Oc H (M:=imgsH f ims) (λh q=>a3.le q) (λ_ _ a b=>a.le b);refine Z2 13 [4,1,1,0] H Z (Ab Z (Ef Z (sz:=3) J Z r) (Z0 3 [0] Z (Af Z (λh2=>U) (λh2=>?_))));refine Z2 6 [1,2] H Z (AP Z (AO H Z J Fy Z (by decide) (by decide) (out:=[I q,f]) J) ?_);rintro _ w ⟨b4,rfl,H⟩;refine AP Z (AW 6 H Z Z J Fy Z Z (H.rv 0 (·.rd U U O Z)) (Ad Z (Ad r.one Aw)) U) ?_;rintro v5 w c;have c:Sep z (blk b4 [I q,f] 159::poolA a0::blk b3 [I q,f] 159::lgB x m i s a q u false (decide (s.epoch<4294967296))::tblA i::diskA m D::grow 159 2 v5 (es.length+1) (I0 es++[I q,f])::blk b1 [I s.gen,I s.epoch,I s.pages,I s.start,I s.len,I s.head,I s.seq] 132::R) w:=c;have a9:(I0 es++[I q,f]:List Value)=I0 (es++[(⟨q,ims⟩,f)]):=U1 es (⟨q,ims⟩,f);rw[a9] at c;rw[show (es.length+1:Nat)=(es++[((⟨q,ims⟩:Rc),f)]).length from by simp] at c;have H:=c.l8;refine Z2 7 [1,2,0] H Z (Ab Z (Ef Z (sz:=3) J Z r) (Z1 1 [] [1+(ims.length:Int)] Z U (z_E_ Z (call156 _) (Kg U U U U U) H.f3 ?_)));intro w H;refine Zc 2 Z ?_;replace H:=H.f3.d.f1.d.f2.f5.f4.f3.f5.f5;refine gf ?_;intro _ hF;refine ⟨⟨es++[(⟨q,ims⟩,f)],v5,(a+(1+(ims.length:Int)))%s.len,q+1,u+(1+(ims.length:Int)),a0⟩,(hF.all Z),⟨H,?_⟩,?_⟩
  ·dsimp only
   have c0:=Agn (a+(1+(ims.length:Int))) (by omega:s.len≠0);have c1:=Af5 (a+(1+(ims.length:Int))) (by omega:0<s.len);refine ⟨?_,?_,by omega,by omega,by omega,by simp;omega⟩
   ·rw[AeH];exact .snoc l U t
   intro e he;rcases Aer.1 he with q|q
   ·exact (k e q).le a1
   rw[Afn.1 q];exact a2
  (dsimp only;omega)
 refine Zc 2 Z (gx (Zc 12 Z (Zr Z ?_)));obtain ⟨y,⟨o,g⟩,H⟩:=DX H (λh q=>q.rd);exact ⟨_,⟨x,es.map Prod.fst,a,q,u,v,y,Z,l,by first|exact .inl U|exact .inr a4,⟨es,rfl,by simpa using g,k.le o⟩,rfl⟩,H.perm 5 [0,1,4,2] rfl rfl⟩
set_option maxHeartbeats 1000000 in
theorem Vj {pd o:Nat} {s:Sup} {us:Int} {br nu:Bool} {ims:List Img} (hA:∀h,A h->imgsH v ims h) (b1:nu=decide (s.epoch<4294967296)) (c4:0<=s.epoch/\s.epoch<=1099511627776) (d1:0<=p/\p<=2199023255552) (c3:1<=ims.length/\ims.length<=40) (c6:0<=s.len/\s.len<=1099511627776) (hu:0<=us/\us<=2199023255552):Aj 198 [Y g,v] [lgB g pd o s t p us br nu,tblA o,A] (λv G=>(¬EI ims/\v=.tuple #[.slice none 0 0,I 1]/\G=[lgB g pd o s t p us br nu,tblA o,A])\/(EI ims/\¬(1+(ims.length:Int)<=(if br then 0 else s.len-us)/\nu=true/\p<1099511627776)/\v=.tuple #[.slice none 0 0,I 15]/\G=[lgB g pd o s t p us br nu,tblA o,A])\/(EI ims/\(1+(ims.length:Int)<=(if br then 0 else s.len-us)/\nu=true/\p<1099511627776)/\∃v',v=.tuple #[v',I 0]/\G=[grow 5 1 v' ((1+ims.length)*256) ((BE s.epoch p ims).flatten.map u8),lgB g pd o s t p us br nu,tblA o,A])):=by
 intro z R w H;obtain ⟨ao,ic,rfl⟩:=H.sy 2 (λq=>(hA _ q).slc);obtain ⟨es,a7,l⟩:=Sep.imA 2 H Z hA;clear H;have c5:es.length=ims.length:=by rw[<-a7];simp
 have H:=l.l3;refine Ae func198 Z ntmps198 Z (Zc 13 Z (AP Z (Ga H Z) ?_));rintro _ w ⟨m1,rfl,H⟩;refine Zc 4 Z ?_;replace H:=H.f1;refine AQ (Sep z (lgB g pd o s t p us br nu::R)) 12 Z J (A4 H λw l=>?_);have H:=l.l4;refine AT [0,1,2,3,4,5,6,7,8] [2,3,0,0,10,0,0] [] (by exact H.pick 4 [0] Z) Z J Z (BM 9 Z J J J Z Z Z (Bg Z Z (out:=[I s.epoch,I p,.slice none 0 0,u32 0]) J) (H.pick 4 [0] Z) (AE [10] J O (Am (B6 Z Z Z Z (BZ (P:=prog) H Z (zs:=[I 0,I 0,.slice none 0 0,u32 0]) J) ?_))));rintro _ w ⟨b2,rfl,H⟩;refine Ax (H.pick 5 [1] Z) (AE [11] J O (Am (Bj Z Z Z (Al 0 H Z Z Z Z (vs:=[I s.epoch,I p,.slice none 0 0,u32 0]) Z (by simp[u8,u32,Value.oneCell']) J O (out:=[I s.epoch,I p,.slice none 0 0,u32 0]) Z) ?_)));rintro w H;refine Ax (H.pick 5 [1] Z) (a_done J (gn (Zc 8 Z ?_)));replace H:=(H.nilg 3 1).l6;refine Zc 2 Z ?_;refine AD (σ:=Nat×Value) (λ⟨i,u⟩=>[(32,I (i:Int)),(0,Y g),(1,.slice ao ims.length ic),(6,.slice none 0 0),(7,.map (some m1)),(8,Y b2),(30,.slice ao ims.length ic),(31,I (ims.length:Int))])
   (λ⟨i,u⟩ w=>Sep z (grow 3 1 u i (FB (ims.take i))::blk b2 [I s.epoch,I p,u,u32 0] 287::lgB g pd o s t p us br nu::AI m1 (seen ((ims.take i).map Img.num)) (((ims.take i).map Img.num).length)::tblA o::imA A (.slice ao ims.length ic) es::R) w/\(i<=ims.length/\(∀(j:Nat) (m:Img),j<i->ims[j]?=some m->m.Ok)/\((ims.take i).map Img.num).Nodup)) (λ⟨i,u⟩=>ims.length-i) ⟨0,.slice none 0 0⟩
   fr_z ⟨H,by omega,λj m h=>by omega,by simp⟩ ?_
 clear H;rintro ⟨i,u⟩ w ⟨l,hI⟩;dsimp only at hI l ⊢;have H:=l.l6;have b8:=H.sy 0 (·.slc);obtain ⟨d2,a5,a4⟩:=hI;refine Z0 6 [0] Z (Af Z (λh1=>?_) (λh1=>?_))
 ·have b7:i<ims.length:=by omega
  refine Zc 6 Z ?_;obtain ⟨⟨f,bv⟩,he⟩:∃e:ImE,es[i]?=some e:=⟨_,Aef U⟩;have a1:ims[i]?=some f:=by rw[<-a7];simp[he]
  have a6:Slc bv f.body.length:=H.sy 5 (λq=>(q.2.2 _ (Aee he)).slc);have a3:=imA.at 5 H Z he;have a8:=a3 0 (I f.num) Z;refine Ab Z (Ak Z (z:=3) (j:=i) (r:=i*3) J Z Z Z U a8 U) (Ab Z (Bq Z Z (vs:=[I f.num,I f.kind,bv]) J O (Az a3)) (Za 0 [] H Z ?_));intro b3 w H;refine AC Z Z (Al 0 H Z Z Z Z (vs:=[I f.num,I f.kind,bv]) Z (Ad Z (Ad Z (Ad a6.one Aw))) J O (out:=[I f.num,I f.kind,bv]) Z) ?_;rintro w H;refine Zc 4 Z ?_;replace H:=H.f3;refine AQ (Sep z (lgB g pd o s t p us br nu::blk b3 [I f.num,I f.kind,bv] 161::R)) 11 Z J (A4 H λw l=>?_);have H:=l.l7;refine AT [0,1,2,3,4] [1,0,0,1,3] [] (by exact H.pick 7 [0,1] Z) Z J Z (AE [5] J O (Am (Bt Z Z Z Z Z Z (λw=>call158 _ w) (MF f.body (λh q=>q.2.2 _ (Aee he))) H.f6.f6 Z ?_)));rintro _ w _ (⟨a2,rfl,rfl⟩|⟨a0,pw,rfl,rfl⟩) l
  ·have H:Sep z (tblA o::imA A (.slice ao ims.length ic) es::lgB g pd o s t p us br nu::blk b3 [I f.num,I f.kind,bv] 161::grow 3 1 u i (FB (ims.take i))::blk b2 [I s.epoch,I p,u,u32 0] 287::AI m1 (seen ((ims.take i).map Img.num)) (((ims.take i).map Img.num).length)::R) w:=l
   clear l;refine Ax (H.pick 7 [2,3] Z) (AT [6,7,8,9,10] [] [] (by exact H.pick 7 [2,3] Z) Z J Z (a_done J (gn (Z0 21 [3] Z (Zr Z ?_)))));replace H:=(H.mono 1 (B:=A) Z (λh q=>q.1)).l7;exact ⟨_,.inl ⟨by rintro ⟨q1,q2⟩;first|exact a2 (q1 f (Aee a1))|(exact KS q2 a1 ‹_›),rfl,rfl⟩,H.perm 7 [2,0,1] rfl rfl⟩
  have H:Sep z (blk pw (A7 (BD ([80,80,65,71]++Ag 1 f.kind++Ag 4 f.num++[0,0,0]++f.body)) 252) 167::tblA o::imA A (.slice ao ims.length ic) es::lgB g pd o s t p us br nu::blk b3 [I f.num,I f.kind,bv] 161::grow 3 1 u i (FB (ims.take i))::blk b2 [I s.epoch,I p,u,u32 0] 287::AI m1 (seen ((ims.take i).map Img.num)) (((ims.take i).map Img.num).length)::R) w:=l;clear l;refine Ax (H.pick 8 [3,4] Z) (AT [6,7,8,9,10] [] [] (by exact H.pick 8 [3,4] Z) Z J Z (a_done J (gn (Z2 9 [4,0,4,0] H Z (Ab Z (FP (e:=4) (zv:=.bool false) Z J J Z Z (Az (H.bk 7 Z))) (AB 51 (v:=.bool (decide (f.num∈(ims.take i).map Img.num))) Z (U3) (Zc 3 Z (Af Z (λh2=>?_) (λh2=>?_)))))))))
  ·refine Zc 7 Z (Zr Z ?_);replace H:=(H.mono 2 (B:=A) Z (λh q=>q.1)).l8
   exact ⟨_,.inl ⟨by rintro ⟨q1,q2⟩;first|exact a2 (q1 f (Aee a1))|(exact KS q2 a1 ‹_›),rfl,rfl⟩,H.perm 8 [3,1,2] rfl rfl⟩
  refine Z2 7 [0,4,0] H Z (AC Z Z (DP 7 (e:=4) H Z Z J Z Z Z) ?_);rintro w H;refine Zc 2 Z ?_;have b0:(ims.take (i+1)).map Img.num=(ims.take i).map Img.num++[f.num]:=by rw[AeM,a1];simp
  have a9:=U4 (ns:=(ims.take i).map Img.num) (k:=f.num) ‹_›;rw[a9.1,a9.2,<-b0] at H;have H:Sep z (blk pw (A7 (BD ([80,80,65,71]++Ag 1 f.kind++Ag 4 f.num++[0,0,0]++f.body)) 252) 167::tblA o::imA A (.slice ao ims.length ic) es::lgB g pd o s t p us br nu::blk b3 [I f.num,I f.kind,bv] 161::grow 3 1 u i (FB (ims.take i))::blk b2 [I s.epoch,I p,u,u32 0] 287::AI m1 (seen ((ims.take (i+1)).map Img.num)) (((ims.take (i+1)).map Img.num).length)::R) w:=H;refine Z2 5 [2,6,0,0,4,0] H Z (AP Z (AO H Z J BC Z (by decide) (by decide) (out:=[I f.num]) J) ?_);rintro _ w ⟨b4,rfl,H⟩;refine AP Z (AW 6 H Z Z J BC Z Z (H.rv 0 (·.rd U U O Z)) (by simp[Value.oneCell']) U) ?_;rintro v5 w l;have l:Sep z (blk b4 [I f.num] 3::blk pw (A7 (BD ([80,80,65,71]++Ag 1 f.kind++Ag 4 f.num++[0,0,0]++f.body)) 252) 167::tblA o::imA A (.slice ao ims.length ic) es::lgB g pd o s t p us br nu::blk b3 [I f.num,I f.kind,bv] 161::grow 3 1 v5 (i+1) (FB (ims.take i)++[I f.num])::blk b2 [I s.epoch,I p,u,u32 0] 287::AI m1 (seen ((ims.take (i+1)).map Img.num)) (((ims.take (i+1)).map Img.num).length)::R) w:=l;have c0:(FB (ims.take i)++[I f.num]:List Value)=FB (ims.take (i+1)):=U5 a1;rw[c0] at l;have H:=l.l9;have b5:=H.sy 6 (·.slc);refine Z0 1 [2] Z (AC Z Z (J1 7 H Z Z Z Z b5.cells b5.one J) ?_);rintro w H;refine Z1 7 [] [(i:Int)+1] Z U ?_;replace H:=H.f5.d.f1.d.d.f1.f1.f5.f3.f5.f5;refine gf ?_;intro _ hF;refine ⟨⟨i+1,v5⟩,hF.cz,⟨H,?_⟩,?_⟩
  ·dsimp only
   refine ⟨by omega,λj m hj h=>?_,?_⟩
   ·rcases Aes j i with q|q
    ·exact a5 j m q h
    obtain rfl:j=i:=by omega
    rw[a1] at h;cases h;exact a0
   rw[b0,Afb];exact ⟨a4,by simp,λa ha b hb=>by simp at hb;subst hb;exact λe=>absurd (e▸ha) ‹_›⟩
  (dsimp only;omega)
 obtain rfl:i=ims.length:=by omega
 refine Zc 2 Z (gx (Zc 4 Z ?_));rw[Ae9] at H;rw[Ae9] at a4;have H:Sep z (grow 3 1 u ims.length (FB ims)::blk b2 [I s.epoch,I p,u,u32 0] 287::lgB g pd o s t p us br nu::AI m1 (seen (ims.map Img.num)) ((ims.map Img.num).length)::tblA o::imA A (.slice ao ims.length ic) es::R) w:=H;have y:∀m∈ims,m.Ok:=λm hm=>by obtain ⟨j,hj,rfl⟩:=Agc.1 hm;exact a5 j _ hj (Aef hj)
 refine Z1 5 [] [1+(ims.length:Int)] Z U (z_E_ Z (call127 _) (Tl U) H.f2 ?_);intro w H;refine Z0 2 [0] Z (An 70 Z (λh3=>?_) (λh3=>?_))
 ·refine Zc 23 Z (Zr Z ?_);replace H:=(H.mono 5 (B:=A) Z (λh q=>q.1)).l6
  exact ⟨_,.inr (.inl ⟨⟨y,a4⟩,by rintro ⟨q1,q2,q3⟩;first|omega|simp_all,rfl,rfl⟩),H.perm 6 [0,4,5] Z Z⟩
 refine Z2 7 [13,0,0] H Z (DR 77 Z (λh4=>?_) (λh4=>?_))
 ·refine Zc 16 Z (Zr Z ?_);replace H:=(H.mono 5 (B:=A) Z (λh q=>q.1)).l6
  exact ⟨_,.inr (.inl ⟨⟨y,a4⟩,by rintro ⟨q1,q2,q3⟩;first|omega|simp_all,rfl,rfl⟩),H.perm 6 [0,4,5] Z Z⟩
 have b9:nu=true:=by simpa using h4
 have c9:s.epoch<4294967296:=by rw[b9] at b1;simpa using b1.symm
 refine Z2 8 [10,0,0,0] H Z (Af Z (λh5=>?_) (λh5=>?_))
 ·refine Zc 7 Z (Zr Z ?_);replace H:=(H.mono 5 (B:=A) Z (λh q=>q.1)).l6
  exact ⟨_,.inr (.inl ⟨⟨y,a4⟩,by rintro ⟨q1,q2,q3⟩;first|omega|simp_all,rfl,rfl⟩),H.perm 6 [0,4,5] Z Z⟩
 refine Zc 9 Z ?_;replace H:=(H.nilg 5 1).l7;refine Zc 2 Z ?_;refine AD (σ:=Nat×Value) (λ⟨i,v2⟩=>[(86,I (i:Int)),(6,v2),(0,Y g),(8,Y b2),(84,.slice ao ims.length ic),(85,I (ims.length:Int))])
   (λ⟨i,v2⟩ w=>Sep z (grow 5 1 v2 (i*256) ((CN s.epoch p (ims.take i)).map u8)::lgB g pd o s t p us br nu::grow 3 1 u ims.length (FB ims)::blk b2 [I s.epoch,I p,u,u32 0] 287::AI m1 (seen (ims.map Img.num)) ((ims.map Img.num).length)::tblA o::imA A (.slice ao ims.length ic) es::R) w/\(i<=ims.length)) (λ⟨i,v2⟩=>ims.length-i) ⟨0,.slice none 0 0⟩
   (λ_ hF=>(hF.co Z (by go_num) hF.cz)) ⟨H,by omega⟩ ?_
 clear H;rintro ⟨i,v2⟩ w ⟨l,hI⟩;dsimp only at hI l ⊢;have H:=l.l7;have c7:=H.sy 0 (·.slc);have c2:=hI;clear hI;refine Z0 6 [0] Z (Af Z (λh6=>?_) (λh6=>?_))
 ·have b7:i<ims.length:=by omega
  refine Zc 6 Z ?_;obtain ⟨⟨f,bv⟩,he⟩:∃e:ImE,es[i]?=some e:=⟨_,Aef U⟩;have a1:ims[i]?=some f:=by rw[<-a7];simp[he]
  have a6:Slc bv f.body.length:=H.sy 6 (λq=>(q.2.2 _ (Aee he)).slc);have a3:=imA.at 6 H Z he;have a8:=a3 0 (I f.num) Z;refine Ab Z (Ak Z (z:=3) (j:=i) (r:=i*3) J Z Z Z U a8 U) (Ab Z (Bq Z Z (vs:=[I f.num,I f.kind,bv]) J O (Az a3)) (Za 0 [] H Z ?_));intro b6 w H;refine AC Z Z (Al 0 H Z Z Z Z (vs:=[I f.num,I f.kind,bv]) Z (Ad Z (Ad Z (Ad a6.one Aw))) J O (out:=[I f.num,I f.kind,bv]) Z) ?_;rintro w H;refine Zc 3 Z ?_;replace H:=H.f4.f3;refine AQ (Sep z (lgB g pd o s t p us br nu::blk b2 [I s.epoch,I p,u,u32 0] 287::blk b6 [I f.num,I f.kind,bv] 161::R)) 15 Z J (A4 H λw l=>?_);have H:=l.l8;refine AT [0,1,2,3,4,5,6,7,8] [1,0,0,0,1,0,1,1,0,2,3] [] (by exact H.pick 8 [0,1,2] Z) Z J Z (AE [9] J O (Am (Bt Z Z Z Z Z Z (λw=>call229 _ w) (RC f.body (λh q=>q.2.2 _ (Aee he))) H.f7.f7 Z ?_)));rintro _ w _ (⟨a2,rfl,rfl⟩|⟨a0,pw,rfl,rfl⟩) l
  ·exact absurd ⟨by omega,by omega,a5 i f U a1⟩ a2
  have H:Sep z (blk pw (A7 (BD (CM s.epoch p f)) 252) 167::tblA o::imA A (.slice ao ims.length ic) es::lgB g pd o s t p us br nu::blk b2 [I s.epoch,I p,u,u32 0] 287::blk b6 [I f.num,I f.kind,bv] 161::grow 5 1 v2 (i*256) ((CN s.epoch p (ims.take i)).map u8)::grow 3 1 u ims.length (FB ims)::AI m1 (seen (ims.map Img.num)) ((ims.map Img.num).length)::R) w:=l;clear l;refine Ax (H.pick 9 [3,4,5] Z) (AT [10,11,12,13,14] [] [] (by exact H.pick 9 [3,4,5] Z) Z J Z (a_done J (gn (Z0 14 [4] Z (AP Z (AW 6 H Z Z J CL Z Z (H.rv 0 (λq=>HN (lo:=0) (n:=256) (c:=256) (ys:=BD (CM s.epoch p f)) q (sect_len (Agk (GQ a0.2.2.2.2))) U U U (by rw[Aew];exact Ael (Agk (sect_len (Agk (GQ a0.2.2.2.2))))))) (by simp[u8,Value.oneCell']) U) ?_)))));rintro v7 w l;have l:Sep z (blk pw (A7 (BD (CM s.epoch p f)) 252) 167::tblA o::imA A (.slice ao ims.length ic) es::lgB g pd o s t p us br nu::blk b2 [I s.epoch,I p,u,u32 0] 287::blk b6 [I f.num,I f.kind,bv] 161::grow 5 1 v7 ((i*256)+256) ((CN s.epoch p (ims.take i)).map u8++(BD (CM s.epoch p f)).map u8)::grow 3 1 u ims.length (FB ims)::AI m1 (seen (ims.map Img.num)) ((ims.map Img.num).length)::R) w:=l;have c1:((CN s.epoch p (ims.take i)).map u8++(BD (CM s.epoch p f)).map u8:List Value)=(CN s.epoch p (ims.take (i+1))).map u8:=(by rw[<-AeH,Ta a1]);rw[c1] at l;rw[show ((i*256)+256:Nat)=(i+1)*256 from by omega] at l;have H:=l.l9;refine Z1 8 [] [(i:Int)+1] Z U ?_;replace H:=H.f5.d.d.f1.f1.f6.f4.f6.f5.f6;refine gf ?_;intro _ hF;refine ⟨⟨i+1,v7⟩,hF.cz,⟨H,?_⟩,?_⟩
  ·dsimp only;omega
  (dsimp only;omega)
 obtain rfl:i=ims.length:=by omega
 refine Zc 2 Z (gx (Zc 3 Z ?_));rw[Ae9] at H;have H:Sep z (grow 5 1 v2 (ims.length*256) ((CN s.epoch p ims).map u8)::lgB g pd o s t p us br nu::grow 3 1 u ims.length (FB ims)::blk b2 [I s.epoch,I p,u,u32 0] 287::AI m1 (seen (ims.map Img.num)) ((ims.map Img.num).length)::tblA o::imA A (.slice ao ims.length ic) es::R) w:=H;refine Z2 6 [1,1,0] H Z (z_E_ Z (call230 _) (Xt (CN s.epoch p ims) (Oe y) (λh q=>q.rd)) H.f5 ?_);intro w H;refine Z4 5 [3,4] H Z ?_;intro w H;replace H:=H.f4.f3;refine AQ (Sep z (lgB g pd o s t p us br nu::blk b2 [I s.epoch,I p,u,u32 (Bc (CN s.epoch p ims))] 287::R)) 11 Z J (A4 H λw l=>?_);have H:=l.l7;refine AT [0,1,2,3,4] [1,0,0,1,4] [] (by exact H.pick 7 [0,1] Z) Z J Z (AE [5] J O (Am (Bt Z Z Z Z Z Z (λw=>call231 _ w) (Tj (ims.map Img.num) (λh q=>by rw[Aeh,<-Yo];exact q.rd)) H.f4.f3 Z ?_)));rintro _ w _ (⟨a2,rfl,rfl⟩|⟨a0,pw,rfl,rfl⟩) l
 ·exact absurd ⟨by omega,by omega,by simp;omega,λx hx=>by obtain ⟨m,hm,rfl⟩:=Aem.1 hx;exact (y m hm).1⟩ a2
 have H:Sep z (blk pw (A7 (BD (hdL s.epoch p ims)) ((26+4*(ims.map Img.num).length:Nat):Int)) 167::tblA o::grow 3 1 u ims.length (FB ims)::lgB g pd o s t p us br nu::blk b2 [I s.epoch,I p,u,u32 (Bc (CN s.epoch p ims))] 287::grow 5 1 v2 (ims.length*256) ((CN s.epoch p ims).map u8)::AI m1 (seen (ims.map Img.num)) ((ims.map Img.num).length)::imA A (.slice ao ims.length ic) es::R) w:=l;clear l;refine Ax (H.pick 8 [3,4] Z) (AT [6,7,8,9,10] [] [] (by exact H.pick 8 [3,4] Z) Z J Z (a_done J (gn (Zc 5 Z (AP Z (SD H Z J CL Z Z (H.rv 0 (λq=>HN (lo:=0) (n:=256) (c:=256) (ys:=BD (hdL s.epoch p ims)) q (sect_len (by rw[hdL_len];omega)) U U U (by rw[Aew];exact Ael (Agk (sect_len (by rw[hdL_len];omega)))))) (H.rv 5 (·.rd)) U (by simp[u8,Value.oneCell']) U) ?_)))));rintro v8 w l;have l:Sep z (grow 5 1 v8 (256+(ims.length*256)) ((BD (hdL s.epoch p ims)).map u8++(CN s.epoch p ims).map u8)::blk pw (A7 (BD (hdL s.epoch p ims)) ((26+4*(ims.map Img.num).length:Nat):Int)) 167::tblA o::grow 3 1 u ims.length (FB ims)::lgB g pd o s t p us br nu::blk b2 [I s.epoch,I p,u,u32 (Bc (CN s.epoch p ims))] 287::grow 5 1 v2 (ims.length*256) ((CN s.epoch p ims).map u8)::AI m1 (seen (ims.map Img.num)) ((ims.map Img.num).length)::imA A (.slice ao ims.length ic) es::R) w:=l;rw[show ((BD (hdL s.epoch p ims)).map u8++(CN s.epoch p ims).map u8:List Value)=(BE s.epoch p ims).flatten.map u8 from (by rw[<-AeH,Tc])] at l;rw[show (256+(ims.length*256):Nat)=(1+ims.length)*256 from by omega] at l;have H:=l.l9;refine Zc 6 Z (Zr Z ?_);replace H:=(H.mono 8 (B:=A) Z (λh q=>q.1)).l9;exact ⟨_,.inr (.inr ⟨⟨y,a4⟩,⟨by omega,by first|assumption|simp_all,by omega⟩,v8,rfl,rfl⟩),H.perm 9 [0,4,2,8] Z Z⟩
theorem Vk(bs f b c m a:Nat)(u:m*256<=a)(t:a<=9223372036854775807)(k:m<=1099511627776):It prog 188 [Y bs,Y f] [blk bs [.slice (some ⟨b,c,none⟩) (m*256) a] 46,blk f [I 256] 3] (((List.range m).map λi=>Value.slice (some ⟨b,c+i*256,none⟩) 256 256).map λv=>[v]):=by
 intro z l J_ s w d;have H:=d.l2;refine J8 (args:=[.func (.yield l) #[] #[],Y bs,Y f]) func188 Z Z 31 ntmps188 Z ?_;refine CT ?_;refine Cf ?_;refine s_do Z Z Z (Bf Z Z) ?_;refine AS ?_;refine Eb ?_;refine LN (σ:=Nat) (λi=>[(4,I ((i*256:Nat):Int)),(0,.func (.yield l) #[] #[]),(1,Y bs),(2,Y f)])
  (λi w=>Sep z (blk bs [.slice (some ⟨b,c,none⟩) (m*256) a] 46::blk f [I 256] 3::J_ i) w/\(i<=m)) (λi=>m-i) 0
  (λ_ e=>(e.co Z (congrArg I O) (e.all Z))) ⟨H,AeN _⟩ ?_
 clear H;rintro i w ⟨d,j⟩;have H:=d.l2;have n:=j;clear j;refine CT ?_;refine CT ?_;refine Cf ?_;refine s_do Z Z Z (Ck Z Z) ?_;refine s_do Z Z Z (Bn Z Z J (Az (H.cel 0 Z 0 Z))) ?_;refine s_do Z Z Z (Fu Z (z:=1) J Z) ?_;refine s_do Z Z Z (Rg Z Z Z) ?_;refine AS ?_;refine Abb Z (λo=>?_) (λo=>?_)
 ·-- yes:((i*256:Nat):Int)<((m*256:Nat):Int)
  have g:i<m:=by omega
  refine Gx ?_;refine CT ?_;refine Eb ?_;refine CT ?_;refine SS (Sep z _) J J H.drew ?_;refine AM Z Z Z (Bn Z Z J (λ_ h=>h.cel 1 Z 0 Z)) ?_;refine AM Z Z Z (Bn Z Z J (λ_ h=>h.cel 0 Z 0 Z)) ?_;refine AM Z Z Z (Ck Z Z) ?_;refine AM Z Z Z (BO Z (z:=1) (p:=(i*256)) (q:=m*256) (o':=c+i*256) (l':=(m*256-i*256)) (c':=(a-i*256)) J Z (.inr ⟨_,_,_,Z,Z,U⟩) (.inl ⟨Z,Z⟩) U U U U U U) ?_;refine AM Z Z Z (Fu Z (z:=1) J Z) ?_;refine AM Z Z Z (Ky Z Z Z) ?_;refine AB 18 (v:=I 256) Z (congrArg I U) ?_;refine AM Z Z Z (Bf Z Z) ?_;refine BL (λw d=>?_);have H:=d.l2;refine CT ?_;refine J7 ?_;refine Et Z Z Z (Ck Z Z) ?_;refine Et Z Z Z (Bn Z Z J (Az (H.cel 0 Z 0 Z))) ?_;refine Et Z Z Z (Ck Z Z) ?_;refine Et Z Z Z (Ck Z Z) ?_;refine Et Z Z Z (Ck Z Z) ?_;refine Et Z Z Z (C3 Z Z Z (r:=(((i+1)*256:Nat):Int)) U U) ?_;refine Et Z Z Z (Ck Z Z) ?_;refine Et Z Z Z (Ck Z Z) ?_;refine Et Z Z Z (C3 Z Z Z (r:=(((i+1)*256:Nat):Int)) U U) ?_;refine Et Z Z Z (Uz Z (sz:=1) (p:=(i*256)) (q:=((i+1)*256)) (o':=c+i*256) (l':=256) J Z Z Z Z U U U U U U U) ?_;refine LP Z Z Z Z Z Z (s i _ (by simp[List.getElem?_range g]) _ H) ?_;rintro _ w ⟨rfl,d⟩;refine ⟨_,Z,?_⟩;have H:=d.l2;refine Et Z Z Z (Kx Z Z) ?_;refine Rt ?_;refine Iw Z ?_;refine Gx ?_;refine Cf ?_;refine s_do Z Z Z (Ck Z Z) ?_;refine s_do Z Z Z (Bn Z Z J (Az (H.cel 1 Z 0 Z))) ?_;refine s_do Z Z Z (C3 Z Z Z (r:=(((i+1)*256:Nat):Int)) U U) ?_;refine s_do Z Z Z (Bf Z Z) ?_;refine AS ?_;intro _ e;refine ⟨(i+1),(e.all Z),⟨H,?_⟩,?_⟩
  ·omega
  omega
 -- no:((i*256:Nat):Int)<((m*256:Nat):Int)
 refine LM ?_;refine IM ?_;obtain rfl:i=m:=by omega
 exact λ_ e=>⟨e.defers,by simpa using H⟩
theorem Yy:Aj 150 [.slice (some ⟨m,i,none⟩) n j,I 256] [] (λv G=>(∃bs a,v=.func (.func 188) #[] #[Y bs,Y a]/\G=[blk bs [.slice (some ⟨m,i,none⟩) n j] 46,blk a [I 256] 3])):=by
 intro z R w H;refine Ae func150 Z ntmps150 Z (Za 2 [] H Z ?_);intro c w H;refine Za 0 [] H Z ?_;intro b w H;refine Z2 15 [0,0,4] H Z (Ab Z (C5 Z Z Z) (Zc 4 Z (Zr Z ?_)));exact ⟨_,⟨c,b,Z,Z⟩,H.perm 2 [1,0] Z Z⟩
set_option maxHeartbeats 1000000 in
theorem Qm (pd b b5 c:Nat) (D:Dsk) (x:Int) (l:Bool) (ps:List (List UInt8)) (A:Ai) (b0:∀p∈ps,p.length=256) (hm:1<=ps.length/\ps.length<=4096) (a8:∀i,(D.ver i).length<=1099511627776) (hA:∀h,A h->rdH 1 (.slice (some ⟨b,b5,none⟩) (ps.length*256) c) (ps.length*256) (ps.flatten.map u8) h):Aj 91 [Y pd,I x,.slice (some ⟨b,b5,none⟩) (ps.length*256) c,.bool l] [diskA pd D,A] (λv G=>(¬(0<=x/\x+ps.length<=(D.n:Int))/\v=I 2/\G=[diskA pd D,A])\/((0<=x/\x+ps.length<=(D.n:Int))/\(D.f2=1\/(D.cut=true/\D.left=0))/\v=I 11/\G=[diskA pd {D with f2:=Bi D.f2},A])\/((0<=x/\x+ps.length<=(D.n:Int))/\(¬D.f2=1/\¬(D.cut=true/\D.left=0))/\v=I 0/\G=[diskA pd {Dsk.ws {D with f2:=Bi D.f2} l x.toNat ps with left:=max 0 (D.left-1)},A])):=by
 intro z R w j;have H:=j.l2;obtain ⟨bd,m,f0,bs,es,clk,hq,hD,a4,j⟩:=H.disk;clear H;have d5:=hD.n1;have d3:=hD.n2;have d1:=hD.f2;have d0:=hD.left;have d6:=a4.len;have H:=j.l6;refine NP func91 Z 73 ntmps91 Z (A0 (AJ (E5 Z Z Z (G9 H Z Z (cs:=[Y pd]) Z) ?_)));rintro _ w ⟨b1,rfl,j⟩;have H:=j.l7;refine E5 Z Z Z (G9 H Z Z (cs:=[I x]) Z) ?_;rintro _ w ⟨b2,rfl,j⟩;have H:=j.l8;refine E5 Z Z Z (G9 H Z Z (cs:=[.bool l]) Z) ?_;rintro _ w ⟨b3,rfl,j⟩;have H:=j.l9;refine B3 1 Z Z (AS (A0 (FM (A0 (AJ (B3 1 Z Z (s_do Z Z Z (Fu Z (z:=1) J Z) (B3 2 Z Z (Sm 14 Z (λh1=>?_) (λh1=>?_))))))))))
 ·omega
 refine B3 1 Z Z (s_do Z Z Z (Fu Z (z:=1) J Z) (s_do Z Z Z (Ls Z Z Z (r:=((ps.length*256:Nat):Int)%256) U U U) (B3 3 Z Z (AS (Gv Z (λh2=>?_) (λh2=>?_))))))
 ·omega
 refine A0 (AJ (Gn 3 [0,1] (AR (H.blk 2 Z) (AR (H.blk 1 Z) AN)) Z J Z (s_do Z Z Z (Fu Z (z:=1) J Z) (s_do Z Z Z (Lr Z Z Z (r:=(ps.length:Int)) U U U U) (Fw Z Z Z Z Z (λw=>call147 _ w) (P6 U) H.f3 Z ?_)))));rintro _ w _ ⟨rfl,rfl⟩ j;have H:=j.l9;refine s_do Z Z Z (AH Z Z) (B3 1 Z Z (AS (Gv Z (λh3=>?_) (λh3=>?_))))
 ·refine A0 (AJ (B3 1 Z Z (AS (D9 (NQ Z [I 2] ⟨Z,trivial⟩ (v:=I 2) Z ?_)))));replace H:=H.f7.f7.f7.f7.f4;have j:=Sep.toDisk (D:=D) (pd:=pd) (bd:=bd) (m:=m) (f0:=f0) (bs:=bs) (es:=es) (clk:=clk) (hq:=hq) (Γ:=blk b3 [.bool l] 4::blk b2 [I x] 3::blk b1 [Y pd] 32::A::R) H hD a4
  have H:=j.l5;exact ⟨[diskA pd D,A],.inl ⟨by omega,Z,Z⟩,H.perm 5 [0,4] Z Z⟩
 obtain ⟨k,rfl⟩:∃k:Nat,x=(k:Int):=⟨x.toNat,by omega⟩;have hk:k+ps.length<=D.n:=by omega
 refine A0 (A0 (AJ (Gn 1 [0] (AR (H.blk 3 Z) AN) Z J Z (Fw Z Z Z Z Z (λw=>call148 _ w) (UL U) H Z ?_))));rintro _ w _ ⟨rfl,rfl⟩ j;have H:=j.l9;refine B3 1 Z Z (AS (Gv Z (λh4=>?_) (λh4=>?_)))
 ·refine DH (Gv Z (λh5=>?_) (λh5=>?_))
  ·refine A0 (AJ (B3 1 Z Z (AS (D9 (NQ Z [I 11] ⟨Z,trivial⟩ (v:=I 11) Z ?_)))));replace H:=H.f7.f7.f7.f7.f4;have j:=Sep.toDisk (D:= {D with f2:=Bi D.f2}) (pd:=pd) (bd:=bd) (m:=m) (f0:=f0) (bs:=bs) (es:=es) (clk:=clk) (hq:=hq) (Γ:=blk b3 [.bool l] 4::blk b2 [I (k:Int)] 3::blk b1 [Y pd] 32::A::R) H (hD.f hD.f1 (Fi hD.f2) hD.f3 hD.left) (a4.f _ _ _ _ _)
   have H:=j.l5;exact ⟨[diskA pd {D with f2:=Bi D.f2},A],.inr (.inl ⟨by omega,by simp_all,Z,Z⟩),H.perm 5 [0,4] Z Z⟩
  exact absurd h4 h5
 refine AJ (Gn 1 [0] (AR (H.blk 3 Z) AN) Z J Z (Fw Z Z Z Z Z (λw=>call149 _ w) (SQ) H Z ?_));rintro _ w _ ⟨rfl,rfl⟩ j;have H:=j.l9;refine B3 1 Z Z (AS (Si Z (λh6=>?_) (λh6=>?_)))
 ·refine A0 (AJ (B3 1 Z Z (AS (D9 (NQ Z [I 11] ⟨Z,trivial⟩ (v:=I 11) Z ?_)))));replace H:=H.f7.f7.f7.f7.f4;have j:=Sep.toDisk (D:= {D with f2:=Bi D.f2}) (pd:=pd) (bd:=bd) (m:=m) (f0:=f0) (bs:=bs) (es:=es) (clk:=clk) (hq:=hq) (Γ:=blk b3 [.bool l] 4::blk b2 [I (k:Int)] 3::blk b1 [Y pd] 32::A::R) H (hD.f hD.f1 (Fi hD.f2) hD.f3 hD.left) (a4.f _ _ _ _ _)
  have H:=j.l5;exact ⟨[diskA pd {D with f2:=Bi D.f2},A],.inr (.inl ⟨by omega,by simp_all,Z,Z⟩),H.perm 5 [0,4] Z Z⟩
 refine DH (A0 (A0 (AJ (B3 1 Z Z (Fw Z Z Z Z Z (λw=>call151 _ w) (Jx (ps.length*256) ps.flatten (hA) U) H.f8 Z ?_)))));rintro _ w _ ⟨g,s,rest,rfl,⟨cg,cc,cl⟩,rfl⟩ j;have H:=j.l10;refine Fw Z Z Z Z Z (λw=>call150 _ w) (Yy) H Z ?_;rintro _ w _ ⟨y,o,rfl,rfl⟩ j;have H:=j.l12;refine AS (FM ?_);replace H:=H.f2.f10;obtain ⟨a0,⟨c4,c5⟩,j⟩:=UT H;clear H;have H:=j.l11;replace H:=H.f10.f1.f10.f10.f7;have j:=Sep.toDiskQ (D:= {D with f2:=Bi D.f2}) (pd:=pd) (bd:=bd) (m:=m) (f0:=f0) (bs:=bs) (es:=es) (clk:=clk) (hq:=a0) (Γ:=blk y [.slice (some ⟨g,0,none⟩) (ps.length*256) s] 46::blk o [I 256] 3::A::blk b3 [.bool l] 4::blk b2 [I (k:Int)] 3::blk b1 [Y pd] 32::R) H (hD.f hD.f1 (Fi hD.f2) hD.f3 hD.left) ((a4.f _ _ _ _ _).le c4);have H:=j.l7;replace H:=H.f3.f1.f4.f5.f6.f6.f6;have j:Sep z ((blk b1 [Y pd] 32::blk b2 [I ((k+0:Nat):Int)] 3::blk b3 [.bool l] 4::diskQ pd (Dsk.ws {D with f2:=Bi D.f2} l k (ps.take 0)) a0::A::R)++[blk y [.slice (some ⟨g,0,none⟩) (ps.length*256) s] 46,blk o [I 256] 3]) w:=Sep.swap (As:=[blk y [.slice (some ⟨g,0,none⟩) (ps.length*256) s] 46,blk o [I 256] 3]) (Bs:=blk b1 [Y pd] 32::blk b2 [I ((k+0:Nat):Int)] 3::blk b3 [.bool l] 4::diskQ pd (Dsk.ws {D with f2:=Bi D.f2} l k (ps.take 0)) a0::A::R) (by simpa [Dsk.ws] using H);clear H;have a9:=λi=>Dsk.ws_n l (ps.take i) {D with f2:=Bi D.f2} k;have a7:=λi=>Dsk.ws_f l (ps.take i) {D with f2:=Bi D.f2} k;refine X3 (λi=>blk b1 [Y pd] 32::blk b2 [I ((k+i:Nat):Int)] 3::blk b3 [.bool l] 4::diskQ pd (Dsk.ws {D with f2:=Bi D.f2} l k (ps.take i)) a0::A::R) Z (λu w=>call188 u w) Z (Vk y o g 0 ps.length s U U U) j ?_ ?_
 ·rintro ro i v hv w;obtain ⟨hi,rfl⟩:i<ps.length/\v=.slice (some ⟨g,0+i*256,none⟩) 256 256:=by
    have hl:=(Aed.1 hv).1;simp at hl;rw[Aeq,List.getElem?_range hl] at hv;simp at hv;exact ⟨hl,by rw[<-hv,AfO]⟩
  obtain ⟨p,hp⟩:∃p,ps[i]?=some p:=⟨_,Aef hi⟩;have t:=b0 p (Aee hp);have b7:=UU c5 b0 hp;refine Cf (B3 1 Z Z (AS ?_));refine λa hF=>⟨Z,λF w j=>?_⟩;revert a hF;have H:=j.l5;have j:=H.pick 4 [3,0,1,2] Z;have H:Sep z (diskQ pd (Dsk.ws {D with f2:=Bi D.f2} l k (ps.take i)) a0::blk b1 [Y pd] 32::blk b2 [I ((k+i:Nat):Int)] 3::blk b3 [.bool l] 4::A::(R++([blk y [.slice (some ⟨g,0,none⟩) (ps.length*256) s] 46,blk o [I 256] 3]++F))) w:=j;clear j;obtain ⟨bd,m,f0,bs,es,clk,a2,a1,j⟩:=H.diskQ;clear H;have H:=j.l9;have b6:=a9 i;have b8:k+i<(Dsk.ws {D with f2:=Bi D.f2} l k (ps.take i)).n:=by rw[b6];show k+i<D.n;omega
  have d4:(Dsk.ws {D with f2:=Bi D.f2} l k (ps.take i)).n=D.n:=b6;refine Eb (CT (CT (Cf (Gn 1 [0] (AR (H.blk 7 Z) AN) Z J Z (AS (Jp Z (λh7=>?_) (λh7=>?_)))))))
  ·subst h7;refine CT (Cf (Gn 2 [0,1] (AR (H.blk 5 Z) (AR (H.blk 6 Z) AN)) Z J Z (Fw Z Z Z Z Z (λw=>call152 _ w) (Xo (k+i) U U) H Z ?_)));rintro _ w _ ⟨rfl,rfl⟩ j;have H:=j.l9;refine B3 1 Z Z (E5 Z Z Z (F9 1 H Z Z J Z Z (m:=256) (news:=(p.map u8)) (.inl (H.rv 3 (λq=>b7.le q))) (by simp[u8,Value.oneCell']) (by have:=a1.len;simp;omega) (k:=256) U (out:=((bs.take ((k+i)*256)++p++bs.drop ((k+i)*256+256)).map u8)) (by simp[t,Ael])) ?_);rintro _ w ⟨rfl,j⟩;have H:=j.l9;refine AS (IV (Sep z (blk pd [.slice (some ⟨bd,0,none⟩) ((Dsk.ws {D with f2:=Bi D.f2} true k (ps.take i)).n*256) ((Dsk.ws {D with f2:=Bi D.f2} true k (ps.take i)).n*256),.map (some m),I f0,I ((Dsk.ws {D with f2:=Bi D.f2} true k (ps.take i)).f1),I ((Dsk.ws {D with f2:=Bi D.f2} true k (ps.take i)).f2),I ((Dsk.ws {D with f2:=Bi D.f2} true k (ps.take i)).f3),.bool ((Dsk.ws {D with f2:=Bi D.f2} true k (ps.take i)).cut),I ((Dsk.ws {D with f2:=Bi D.f2} true k (ps.take i)).left)] 98::blk bd ((bs.take ((k+i)*256)++p++bs.drop ((k+i)*256+256)).map u8) 5::AI m (es.map Ent.ie) clk::poolA a0::seps (es.map Ent.row)::blk b1 [Y pd] 32::blk b2 [I ((k+i:Nat):Int)] 3::blk b3 [.bool true] 4::A::(R++([blk y [.slice (some ⟨g,0,none⟩) (ps.length*256) s] 46,blk o [I 256] 3]++F)))) 6 Z J (A4 H λw j=>?_))
   have H:=j.l9;refine Bv [0,1,2,3,4] [0,1,1,2] J (λ_ hx=>(AR (hx.blk 5 Z) (AR (hx.blk 0 Z) (AR (hx.blk 6 Z) AN)))) (by exact H.pick 9 [0,1,2,3,4,5,6,7,8] Z) Z J Z Z (AF [5] J O (Am (Ac0 Z Z Z (NC 2 (e:=223) H Z Z J Z Z) ?_)));rintro _ w ⟨rfl,j⟩;have H:=j.l9;refine Au (λh=>absurd Z h) (Bo J ?_);obtain ⟨es2,a3,a6,a5⟩:=S4 a1 b8 t (bs':=(bs.take ((k+i)*256)++p++bs.drop ((k+i)*256+256))) Z;replace H:=H.f4;have j:=H.mono 0 Z a5;rw[a6] at j;have H:=j.l9;replace H:=H.f4.f4.f4.f4;have e3:Dsk.ws {D with f2:=Bi D.f2} true k (ps.take (i+1))=(Dsk.ws {D with f2:=Bi D.f2} true k (ps.take i)).w1 true (k+i) p:=by rw[Dsk.ws_take hp]
   have j:=Sep.toDiskQ (D:=(Dsk.ws {D with f2:=Bi D.f2} true k (ps.take i)).w1 true (k+i) p) (pd:=pd) (bd:=bd) (m:=m) (f0:=f0) (bs:=(bs.take ((k+i)*256)++p++bs.drop ((k+i)*256+256))) (es:=es2) (clk:=clk) (hq:=a0) (Γ:=blk b1 [Y pd] 32::blk b2 [I ((k+i:Nat):Int)] 3::blk b3 [.bool true] 4::A::(R++([blk y [.slice (some ⟨g,0,none⟩) (ps.length*256) s] 46,blk o [I 256] 3]++F))) H (a2.w1 t) a3;rw[<-e3] at j;have H:=j.l5;refine Cf (Gn 1 [0] (AR (H.blk 2 Z) AN) Z J Z (s_do Z Z Z (C3 Z Z Z (r:=((k+(i+1):Nat):Int)) U U) (F4 Z Z (Lt 2 H Z Z Z Z Z Z J) ?_)));rintro w j;have H:=j.l5;refine AS ?_;replace H:=H.f4.f1.f4.f4.f4;exact λ_ _=>H
  subst h7;replace H:=H.f4;obtain ⟨v0,b9,Rest,c3,c0,j,c2⟩:=S3 a1 b8 H;clear H;have H:=j.l10;have c7:b9.length<=1099511627776:=by rw[c0,Dsk.ws_ver _ _ _ _ _ (.inr (by rw[Aez];omega))];exact a8 _
  refine IV (Sep z (emp::seps Rest::blk pd [.slice (some ⟨bd,0,none⟩) ((Dsk.ws {D with f2:=Bi D.f2} false k (ps.take i)).n*256) ((Dsk.ws {D with f2:=Bi D.f2} false k (ps.take i)).n*256),.map (some m),I f0,I ((Dsk.ws {D with f2:=Bi D.f2} false k (ps.take i)).f1),I ((Dsk.ws {D with f2:=Bi D.f2} false k (ps.take i)).f2),I ((Dsk.ws {D with f2:=Bi D.f2} false k (ps.take i)).f3),.bool ((Dsk.ws {D with f2:=Bi D.f2} false k (ps.take i)).cut),I ((Dsk.ws {D with f2:=Bi D.f2} false k (ps.take i)).left)] 98::blk bd (bs.map u8) 5::AI m (es.map Ent.ie) clk::poolA a0::blk b1 [Y pd] 32::blk b2 [I ((k+i:Nat):Int)] 3::blk b3 [.bool false] 4::A::(R++([blk y [.slice (some ⟨g,0,none⟩) (ps.length*256) s] 46,blk o [I 256] 3]++F)))) 15 Z J (A4 H λw j=>?_);have H:=j.l10;refine Bv [0,1,2,3,4,5,6,7,8,9] [0,1,1,2,0,1,1,2] J (λ_ hx=>(AR (hx.blk 6 Z) (AR (hx.blk 2 Z) (AR (hx.blk 7 Z) AN)))) (by exact Sep.mono 0 (B:=emp) (H.pick 10 [0,1,2,3,4,5,6,7,8,9] Z) Z (λ_ _=>trivial)) Z J Z Z (BG 10 J Z Z J J J Z Z Z (FP (e:=223) (zv:=.slice none 0 0) Z J J Z Z (λ_ hx=>hx.bk 4 Z)) (Sep.mono 0 (B:=emp) (H.pick 10 [0,1,2,3,4,5,6,7,8,9] Z) Z (λ_ _=>trivial)) (AB 58 (v:=v0) Z c3 (Bv [11] [] J (λ_ _=>AN) (by exact Sep.mono 0 (B:=emp) (H.pick 10 [0,1,2,3,4,5,6,7,8,9] Z) Z (λ_ _=>trivial)) Z J Z Z (AF [12] J O (Am (B6 Z Z Z Z (AO H Z J (Elt.mk (P:=prog) (e:=46) (z:=.slice none 0 0) (sz:=1) (by_:=24) J Z U U) Z (by decide) (by decide) (out:=[.slice (some ⟨g,(0+i*256),none⟩) 256 256]) J) ?_))))));rintro _ w ⟨b4,rfl,j⟩;have H:=j.l11;refine Au (λ_=>(Sep.mono 0 (B:=emp) (H.pick 11 [1,2,3,4,5,6,7,8,9,10] Z) Z (λ_ _=>trivial))) (AF [13] J O (Am (B6 Z Z Z Z (AW 1 H Z Z J (Elt.mk (P:=prog) (e:=46) (z:=.slice none 0 0) (sz:=1) (by_:=24) J Z U U) Z Z (H.rv 0 (·.rd U U O Z)) (by simp[Value.oneCell']) U) ?_)));rintro v5 w j;have H:=j.l11;refine Au (λ_=>(Sep.mono 0 (B:=emp) (H.pick 11 [1,2,3,4,5,6,7,8,9,10] Z) Z (λ_ _=>trivial))) (AF [14] J O (Am (Bj Z Z Z (DP 5 (e:=223) H Z Z J Z Z Z) ?_)));rintro w j;have H:=j.l11;refine Au (λh=>absurd Z h) (Bo J ?_);replace H:=H.f2.f2;obtain ⟨es2,a3,a6,a5⟩:=c2 v5 _ p t b7;have j:=Sep.made 2 H a5;rw[a6] at j;have H:=j.l10;replace H:=H.f5.f5.f5.f5;have e3:Dsk.ws {D with f2:=Bi D.f2} false k (ps.take (i+1))=(Dsk.ws {D with f2:=Bi D.f2} false k (ps.take i)).w1 false (k+i) p:=by rw[Dsk.ws_take hp]
  have j:=Sep.toDiskQ (D:=(Dsk.ws {D with f2:=Bi D.f2} false k (ps.take i)).w1 false (k+i) p) (pd:=pd) (bd:=bd) (m:=m) (f0:=f0) (bs:=bs) (es:=es2) (clk:=putC (es.map Ent.ie) ((k+i:Nat):Int) clk) (hq:=a0) (Γ:=blk b4 [.slice (some ⟨g,(0+i*256),none⟩) 256 256] 46::blk b1 [Y pd] 32::blk b2 [I ((k+i:Nat):Int)] 3::blk b3 [.bool false] 4::A::(R++([blk y [.slice (some ⟨g,0,none⟩) (ps.length*256) s] 46,blk o [I 256] 3]++F))) H (a2.w1 t) a3;rw[<-e3] at j;have H:=j.l6;refine Cf (Gn 1 [0] (AR (H.blk 3 Z) AN) Z J Z (s_do Z Z Z (C3 Z Z Z (r:=((k+(i+1):Nat):Int)) U U) (F4 Z Z (Lt 3 H Z Z Z Z Z Z J) ?_)));rintro w j;have H:=j.l6;refine AS ?_;replace H:=H.f1.d.f4.f1.f4.f4.f4;exact λ_ _=>H
 rintro D0 w j;rw[Aeh,List.length_range] at j;have H:=j.l6;obtain ⟨bd,m,f0,bs,es,clk,a2,a1,j⟩:=(H.pick 6 [4,0,1,2,3,5] Z).diskQ;clear H;have H:=j.l10;have c6:=a2.left;refine A0 (BK 9 J J (A4 H λw j=>?_));have H:=j.l10;refine PU 5 [0,0,7,1] (AR (H.blk 6 Z) (AR (H.blk 0 Z) AN)) Z J Z (Cc Z Z Z (Hy Z Z Z (r:=((Dsk.ws {D with f2:=Bi D.f2} l k (ps.take ps.length)).left)-1) U U) (Cc Z Z Z (Ni Z Z Z) (PV 2 [7] Z J (CG (F4 Z Z (AdH 0 H Z Z Z Z Z Z J) ?_)))));rintro w j;have H:=j.l10;refine AS (A0 (AJ (B3 1 Z Z (AS (D9 ?_)))));replace H:=H.f5;refine NR H (rs:=[.tmp 8]) Z [I 0] (λ_=>⟨Z,trivial⟩) (v:=I 0) Z (λw j=>?_);clear H;have H:=j.l9;have c1:=(a7 ps.length).2.2.2.2;have j:=Sep.toDisk (D:= {Dsk.ws {D with f2:=Bi D.f2} l k (ps.take ps.length) with left:=max (0:Int) ((Dsk.ws {D with f2:=Bi D.f2} l k (ps.take ps.length)).left-1)}) (pd:=pd) (bd:=bd) (m:=m) (f0:=f0) (bs:=bs) (es:=es) (clk:=clk) (hq:=a0) (Γ:=blk b1 [Y pd] 32::blk b2 [I ((k+ps.length:Nat):Int)] 3::blk b3 [.bool l] 4::A::(R++[blk y [.slice (some ⟨g,0,none⟩) (ps.length*256) s] 46,blk o [I 256] 3])) H (a2.f a2.f1 a2.f2 a2.f3 U) (a1.f _ _ _ _ _);have H:=j.l5;have j:=Sep.front (As:=diskA pd {Dsk.ws {D with f2:=Bi D.f2} l k (ps.take ps.length) with left:=max (0:Int) ((Dsk.ws {D with f2:=Bi D.f2} l k (ps.take ps.length)).left-1)} ::A::R) (Bs:=[blk y [.slice (some ⟨g,0,none⟩) (ps.length*256) s] 46,blk o [I 256] 3]) (H.pick 5 [0,4] Z);exact ⟨[diskA pd {Dsk.ws {D with f2:=Bi D.f2} l k (ps.take ps.length) with left:=max (0:Int) ((Dsk.ws {D with f2:=Bi D.f2} l k (ps.take ps.length)).left-1)},A],.inr (.inr ⟨by omega,by simp_all,by rw[Ae9,c1] at *;exact ⟨Z,Z⟩⟩),j⟩
theorem Or(ps:List (List UInt8))(l:∀p∈ps,p.length=256)(s:1<=ps.length/\ps.length<=4096)(d:∀i,(D.ver i).length<=1099511627776)(r:ps.length*256=n)(o:∀h,A h->rdH 1 (.slice (some ⟨j,e,none⟩) n g) n (ps.flatten.map u8) h):
  Aj 91 [Y m,I t,.slice (some ⟨j,e,none⟩) n g,.bool false] [diskA m D,A] (λv G=>(¬(0<=t/\t+ps.length<=(D.n:Int))/\v=I 2/\G=[diskA m D,A])\/((0<=t/\t+ps.length<=(D.n:Int))/\D.bad/\v=I 11/\G=[diskA m D.wf,A])\/((0<=t/\t+ps.length<=(D.n:Int))/\¬D.bad/\v=I 0/\G=[diskA m (D.wr t.toNat ps),A])):=by
 subst r;refine Cn.mono (Qm m j e g D t false ps A l s d o) ?_;rintro v Γ (⟨a,b,c⟩|⟨a,b,c,k⟩|⟨a,⟨b,f⟩,c,k⟩)
 ·exact .inl ⟨a,b,c⟩
 ·exact .inr (.inl ⟨a,b,c,k⟩)
 exact .inr (.inr ⟨a,λq=>by rcases q with q|q;exact b q;exact f q,c,k⟩)
set_option maxHeartbeats 1000000 in
theorem Vm (o pd d:Nat) (s:Sup) (at_ sq us:Int) (r l:Bool) (v:Value) (ims:List Img) (A:Ai) (hA:∀h,A h->imgsH v ims h) (D:Dsk) (a1:s.Ok (D.n:Int)) (a5:l=decide (s.epoch<4294967296)) (b5:0<=at_/\at_<s.len) (b3:0<=sq/\sq<=2199023255552) (hu:0<=us/\us<=s.len) (u:∀i,(D.ver i).length<=1000000000000):Aj 162 [Y o,v] [lgB o pd d s at_ sq us r l,tblA d,diskA pd D,A] (λv G=>(ims.length > 40/\v=I 16/\G=[lgB o pd d s at_ sq us r l,tblA d,diskA pd D,A])\/(ims.length<=40/\(ims=[]\/¬EI ims)/\v=I 1/\G=[lgB o pd d s at_ sq us r l,tblA d,diskA pd D,A])\/((1<=ims.length/\ims.length<=40)/\EI ims/\¬(1+(ims.length:Int)<=(if r then 0 else s.len-us)/\l=true/\sq<1099511627776)/\v=I 15/\G=[lgB o pd d s at_ sq us r l,tblA d,diskA pd D,A])\/
  ((1<=ims.length/\ims.length<=40)/\EI ims/\(1+(ims.length:Int)<=(if r then 0 else s.len-us)/\l=true/\sq<1099511627776)/\∃(k:Nat),(k:Int)=min (1+(ims.length:Int)) (s.len-at_)/\((¬D.bad/\k=1+ims.length/\v=I 0/\G=[lgB o pd d s ((at_+(1+(ims.length:Int)))%s.len) (sq+1) (us+(1+(ims.length:Int))) r l,tblA d,diskA pd (D.wr (s.start+at_).toNat ((BE s.epoch sq ims).take k)),A])\/(¬D.bad/\k<1+ims.length/\¬Dsk.bad (D.wr (s.start+at_).toNat ((BE s.epoch sq ims).take k))/\v=I 0/\G=[lgB o pd d s ((at_+(1+(ims.length:Int)))%s.len) (sq+1) (us+(1+(ims.length:Int))) r l,tblA d,diskA pd ((D.wr (s.start+at_).toNat ((BE s.epoch sq ims).take k)).wr s.start.toNat ((BE s.epoch sq ims).drop k)),A])\/
    (D.bad/\v=I 11/\G=[lgB o pd d s at_ (sq+1) us true l,tblA d,diskA pd D.wf,A])\/(¬D.bad/\k<1+ims.length/\Dsk.bad (D.wr (s.start+at_).toNat ((BE s.epoch sq ims).take k))/\v=I 11/\G=[lgB o pd d s at_ (sq+1) us true l,tblA d,diskA pd (Dsk.wf (D.wr (s.start+at_).toNat ((BE s.epoch sq ims).take k))),A])))):=by
 intro z R w H;obtain ⟨ao,ic,rfl⟩:=H.sy 3 (λq=>(hA _ q).slc);have a0:=H.sy 2 (λq=>(diskA.ok q).n2);have a8:=H.sy 3 (λq=>(hA _ q).small);have b2:=Sup.get a1;have a7:=a1.2
 refine Ae func162 Z ntmps162 Z (Z0 15 [0] Z (Af Z (λh1=>?_) (λh1=>?_)))
 ·refine Zc 6 Z (Zr Z ?_);exact ⟨_,.inl ⟨by omega,Z,Z⟩,H.perm 4 [0,1,2,3] Z Z⟩
 have j:ims.length<=40:=by omega
 refine Z0 8 [0] Z (Af Z (λh2=>?_) (λh2=>?_))
 ·refine Zc 6 Z (Zr Z ?_);exact ⟨_,.inr (.inl ⟨by omega,by first|exact .inr a|exact .inl (AgB U),rfl,rfl⟩),H.perm 4 [0,1,2,3] Z Z⟩
 refine Zc 7 Z (Ar Z (call198 _) (Vj hA a5 U U ⟨by omega,by omega⟩ U U) H.f3.f2.f2 ?_);rintro _ w _ (⟨a,rfl,rfl⟩|⟨a,b,rfl,rfl⟩|⟨a,b,v1,rfl,rfl⟩) g
 ·have H:=g.l4;refine Z0 22 [3] Z (Zr Z ?_);exact ⟨_,.inr (.inl ⟨by omega,by first|exact .inr a|exact .inl (AgB U),rfl,rfl⟩),H.perm 4 [0,1,3,2] Z Z⟩
 ·have H:=g.l4;refine Z0 22 [3] Z (Zr Z ?_);exact ⟨_,.inr (.inr (.inl ⟨⟨by omega,by omega⟩,a,b,Z,Z⟩)),H.perm 4 [0,1,3,2] Z Z⟩
 have H:=g.l5;have a2:=Yp (e:=s.epoch) (sq:=sq) a.1 j;refine Zc 1 Z ?_;obtain ⟨gb,gc,rfl,b0,a9⟩:=H.sy 0 (·.sl U);generalize hps:BE s.epoch sq ims=ps at H a2;obtain ⟨c,b4⟩:=a2;have b1:=U6 c;have H:Sep z (grow 5 1 (.slice (some ⟨gb,0,none⟩) ((1+ims.length)*256) gc) ((1+ims.length)*256) (ps.flatten.map u8)::lgB o pd d s at_ sq us r l::tblA d::A::diskA pd D::R) w:=H;obtain ⟨k,hk⟩:∃k:Nat,(k:Int)=min (1+(ims.length:Int)) (s.len-at_):=⟨(min (1+(ims.length:Int)) (s.len-at_)).toNat,by omega⟩;have a6:(ps.take k).length=k:=by rw[Aez];omega
 have a3:(ps.drop k).length=1+ims.length-k:=by rw[AeQ];omega
 refine Z0 17 [4] Z (By (Sep z _) J J H.drew (Hb 13 [2,6,1,0,9,1,0] [s.len-at_,(s.len-at_)*256] Z J U (AM Z Z Z (Ky Z Z Z) (AB 38 (v:=I ((k*256:Nat):Int)) Z (congrArg I U) (B4 1 [] Z J (BL (λw g=>?_)))))));have H:=g.l5;refine gn (Zc 2 Z ?_);replace H:=H.f1;refine AQ (Sep z (lgB o pd d s at_ sq us r l::R)) 19 Z J (A4 H λw g=>?_);have H:=g.l5;refine HJ [0,1,2,3,4,5,6,7,8,9,10,11,12,13,14,15] [0,0,0,2,5,0,0,9,0,0] [s.start+at_] (by exact H.pick 5 [0] Z) Z J U Z (BM 16 Z J J J Z Z Z (BO Z (z:=1) (p:=0) (q:=(k*256)) (o':=0) (l':=(k*256)) (c':=gc) J Z (.inl ⟨Z,Z⟩) (.inr ⟨_,_,_,Z,Z,Z⟩) U U U U U U) (H.pick 5 [0] Z) (AE [17] J O (Am (Bt Z Z Z Z Z Z (λw=>call91 _ w) (Or (ps.take k) (λp hp=>c p (Afh hp)) U (λi=>by have:=u i;omega) (by rw[a6]) (λh q=>by rw[Td c];exact (grow.rdB q).pre U U)) H.f1.f4 Z ?_))));rintro _ w _ (⟨a4,rfl,rfl⟩|⟨_,y,rfl,rfl⟩|⟨_,f,rfl,rfl⟩) g
 ·exact absurd ⟨by omega,by omega⟩ a4
 ·have H:=g.l5;refine Ax (H.pick 5 [2] Z) (AT [18] [] [] (by exact H.pick 5 [2] Z) Z J Z (a_done J (gn (Z5 52 [4,3,10,2,0,10,2,12,2] [sq+1] H Z U ?_))));intro w H;refine Zr Z ?_;subst hps;exact ⟨_,.inr (.inr (.inr ⟨⟨by omega,by omega⟩,a,b,k,hk,.inr (.inr (.inl ⟨y,Z,Z⟩))⟩)),H.perm 5 [2,3,0,4] Z Z⟩
 have H:=g.l5;refine Ax (H.pick 5 [2] Z) (AT [18] [] [] (by exact H.pick 5 [2] Z) Z J Z (a_done J (gn (Z0 14 [3,0] Z (Af Z (λh3=>?_) (λh3=>?_))))))
 ·replace H:=H.f2;refine AQ (Sep z (lgB o pd d s at_ sq us r l::R)) 14 Z J (A4 H λw g=>?_)
  have H:=g.l5;refine AT [0,1,2,3,4,5,6,7,8,9,10] [0,0,0,2,5,0,0] [] (by exact H.pick 5 [0] Z) Z J Z (BM 11 Z J J J Z Z Z (BO Z (z:=1) (p:=(k*256)) (q:=((1+ims.length)*256)) (o':=k*256) (l':=((1+ims.length)*256)-(k*256)) (c':=gc-(k*256)) J Z (.inr ⟨_,_,_,Z,Z,Z⟩) (.inl ⟨Z,Z⟩) U U U U U U) (H.pick 5 [0] Z) (AE [12] J O (Am (Bt Z Z Z Z Z Z (λw=>call91 _ w) (Or (ps.drop k) (λp hp=>c p (Afw hp)) U (λi=>by have h1:=u i;have h2:=Dsk.wr_len D (s.start+at_).toNat (ps.take k) i;omega) (by rw[a3];omega) (λh q=>by have:=(grow.rdB q).cut (lo:=k*256) (m:=(1+ims.length)*256-k*256) (c':=gc-k*256) U U U;rw[Te c];rwa[Ael (by rw[AeQ];omega),AfO] at this)) H.f2.f2 Z ?_))));rintro _ w _ (⟨a0,rfl,rfl⟩|⟨_,x,rfl,rfl⟩|⟨_,t,rfl,rfl⟩) g
  ·exact absurd ⟨by omega,by rw[Dsk.wr_n];omega⟩ a0
  ·have H:=g.l5;refine Ax (H.pick 5 [2] Z) (AT [13] [] [] (by exact H.pick 5 [2] Z) Z J Z (a_done J (gn (Z5 36 [3,10,2,0,10,2,12,2] [sq+1] H Z U ?_))));intro w H;refine Zr Z ?_;subst hps;exact ⟨_,.inr (.inr (.inr ⟨⟨by omega,by omega⟩,a,b,k,hk,.inr (.inr (.inr ⟨f,by omega,x,Z,Z⟩))⟩)),H.perm 5 [2,3,0,4] Z Z⟩
  have H:=g.l5;refine Ax (H.pick 5 [2] Z) (AT [13] [] [] (by exact H.pick 5 [2] Z) Z J Z (a_done J (gn (Z1 17 [4] [1+(ims.length:Int)] Z U (z_E_ Z (call156 _) (Kg U U U U U) H.f2 ?_)))));intro w H;refine Zc 8 Z (Zr Z ?_);subst hps;exact ⟨_,.inr (.inr (.inr ⟨⟨by omega,by omega⟩,a,b,k,hk,.inr (.inl ⟨f,by omega,t,Z,Z⟩)⟩)),H.perm 5 [0,3,1,4] Z Z⟩
 refine Z1 18 [4] [1+(ims.length:Int)] Z U (z_E_ Z (call156 _) (Kg U U U U U) H.f2 ?_);intro w H;refine Zc 8 Z (Zr Z ?_);subst hps;exact ⟨_,.inr (.inr (.inr ⟨⟨by omega,by omega⟩,a,b,k,hk,.inl ⟨f,by omega,Z,Z⟩⟩)),H.perm 5 [0,3,1,4] Z Z⟩
open Go.RowKit Go.Shelf
def I4:Go.Shelf.Ren:=⟨fun|189=>196|125=>172|257=>228|128=>214|129=>215|294=>250|295=>251|296=>252|297=>253|298=>254|299=>255|216=>256|300=>257|301=>258|328=>269|329=>242|330=>243|331=>270|332=>271|215=>173|343=>278|n=>n,fun|28=>81|3=>3|46=>260|0=>0|51=>227|53=>185|4=>4|183=>300|182=>299|131=>176|5=>5|9=>9|218=>333|222=>283|228=>351|229=>197|n=>n,fun|n=>n⟩
theorem Kh:Go.Proofs.Lays.n189 prog I4:= {
 mixed:=by kernel_rfl,
 f125:=func172.trans (congrArg some J),
 f128:=func214.trans (congrArg some J),
 f129:=func215.trans (congrArg some J),
 f189:=func196.trans (congrArg some J),
 f215:=func173.trans (congrArg some J),
 f216:=func256.trans (congrArg some J),
 f257:=func228.trans (congrArg some J),
 f294:=func250.trans (congrArg some J),
 f295:=func251.trans (congrArg some J),
 f296:=func252.trans (congrArg some J),
 f297:=func253.trans (congrArg some J),
 f298:=func254.trans (congrArg some J),
 f299:=func255.trans (congrArg some J),
 f300:=func257.trans (congrArg some J),
 f301:=func258.trans (congrArg some J),
 f328:=func269.trans (congrArg some J),
 f329:=func242.trans (congrArg some J),
 f330:=func243.trans (congrArg some J),
 f331:=func270.trans (congrArg some J),
 f332:=func271.trans (congrArg some J),
 f343:=func278.trans (congrArg some J),
 t0:=underlying0,
 a0:=isAgg0,
 z0:=sizeOf0,
 v0:=zeroValue0,
 t3:=underlying3,
 a3:=isAgg3,
 z3:=sizeOf3,
 v3:=zeroValue3,
 t4:=underlying4,
 a4:=isAgg4,
 z4:=sizeOf4,
 v4:=zeroValue4,
 t5:=underlying5,
 a5:=isAgg5,
 z5:=sizeOf5,
 v5:=zeroValue5,
 t9:=underlying9,
 a9:=isAgg9,
 z9:=sizeOf9,
 v9:=zeroValue9,
 t28:=underlying81,
 a28:=isAgg81,
 z28:=sizeOf81,
 v28:=zeroValue81,
 t46:=underlying260,
 a46:=isAgg260,
 z46:=sizeOf260,
 v46:=zeroValue260,
 t51:=underlying227,
 a51:=isAgg227,
 z51:=sizeOf227,
 v51:=zeroValue227,
 t53:=underlying185,
 a53:=isAgg185,
 z53:=sizeOf185,
 v53:=zeroValue185,
 t131:=underlying176,
 a131:=isAgg176,
 z131:=sizeOf176,
 v131:=zeroValue176,
 t182:=underlying299,
 a182:=isAgg299,
 z182:=sizeOf299,
 v182:=zeroValue299,
 t183:=underlying300,
 a183:=isAgg300,
 z183:=sizeOf300,
 v183:=zeroValue300,
 t218:=underlying333,
 a218:=isAgg333,
 z218:=sizeOf333,
 v218:=zeroValue333,
 t222:=underlying283,
 a222:=isAgg283,
 z222:=sizeOf283,
 v222:=zeroValue283,
 t228:=underlying351,
 a228:=isAgg351,
 z228:=sizeOf351,
 v228:=zeroValue351,
 t229:=underlying197,
 a229:=isAgg197,
 z229:=sizeOf197,
 v229:=zeroValue197}
open Go.Sort in
theorem Vn {z w:World} {R:List Ai} {b n:Nat} {cs:List Value} {ty:TypeId} (H:Sep z (blk b cs ty::R) w) (ys:List Int) (os:Array Obj):
  Sep z (blk b ((putCells I 0 ys.toArray cs.toArray).toList) ty::R) (Go.Sort.grow (putRow I (Go.Sort.ahead w n) b 0 ys.toArray) os):=by
 have hb:w.heap[b]?=some (.cells cs.toArray ty (0,0)):=H.blk 0 Z;have h1:Sep z (blk b ((putCells I 0 ys.toArray cs.toArray).toList) ty::R) (putRow I (Go.Sort.ahead w n) b 0 ys.toArray):=by
  refine H.write 0 Z Z Z Z (o':=.cells (putCells I 0 ys.toArray cs.toArray) ty (0,0)) ?_ ?_
  ·show (w.heap.modify b _)[b]?=_
   rw[AgE,if_pos Z,hb];rfl
  intro k hk;show (w.heap.modify b _)[k]?=_;rw[AgE,if_neg (AfU hk)]
 refine h1.ext0 ⟨Z,Z,Z,?_,λk hk _=>?_⟩
 ·show _<=(_++os:Array Obj).size
  simp
 show (_++os:Array Obj)[k]?=_;rw[Ahm hk]
theorem To(hl:l.length<=1099511627776):Aj 196 [v] [grow 3 1 v l.length (l.map I)]
  (λu Γ=>u=.tuple #[]/\∃ys:List Int,ys=l.mergeSort (λx y=>decide (x<=y))/\Γ=[grow 3 1 v ys.length (ys.map I)]):=by
 intro z R w H;have H:Sep z (grow 3 1 v l.length (l.map I)::R) w:=H;rcases H.sy 0 (·.form) with ⟨rfl,h0⟩|⟨b,c,rfl,hc⟩
 ·obtain rfl:l=[]:=Agg.1 h0
  refine (Go.Proofs.Any.slices_Sort_int_none Kh none 0 w).mono ?_;rintro e w' ⟨rfl,rfl⟩;exact ⟨_,⟨Z,[],by simp,Z⟩,H⟩
 obtain ⟨⟨o,a⟩,⟨k,h1,h2,h3,h4⟩,H1⟩:=H.into (σ:=Nat×List Value) (p:=λx=>c=x.1/\l.length<=x.1/\x.1<=maxLen/\x.2.length=x.1/\x.2.take l.length=l.map I) (As:=λx=>[blk b x.2 3]) (λh q=>by
  rcases q.2 with ⟨q,_⟩|⟨g,o,a,k,hg,hc,hm,hs,ht⟩
  ·cases q
  simp only[Value.slice.injEq,Aen,Ahn,and_true,true_and] at k;obtain ⟨rfl,rfl⟩:=k;refine ⟨(c,a.toList),⟨Z,hc,hm,by simpa using hs,by simpa using ht⟩,λ_=>0,λi A hi=>?_⟩
  cases i with
  | zero=>simp at hi;subst hi;show Hp.part _ _ _ _=_;unfold Hp.part;rw[if_pos Z];simpa using hg
  | succ i=>simp at hi)
 dsimp only at k h1 h2 h3 h4 H1;subst k;have H1:Sep z (blk b a 3::R) w:=H1;have m:w.heap[b]?=some (.cells a.toArray 3 (0,0)):=H1.blk 0 Z;have r:b<w.heap.size:=(Ae3.1 m).1;have f:∀j,j<l.length->a[j]?=some (I l[j]!):=λj d=>by
  have:(a.take l.length)[j]? =(l.map I)[j]? :=by rw[h4]
  rw[Ae0,if_pos d,Aeq,Aef d] at this;rw[this,getElem!_pos l j d];rfl
 have hH:Go.Sort.Holds I w b 0 l.toArray:=λj d=>by
  have a1:j<l.length:=by simpa using d
  refine ⟨?_,?_⟩
  ·have:=f j a1
   simp[World.cell?,m,this]
  simp[World.frozen?,m]
 refine (Go.Proofs.Any.slices_Sort_int Kh b 0 c l w hH r U).mono ?_;rintro e w' ⟨rfl,n,os,rfl⟩;have H2:=Vn (n:=n) H1 (l.mergeSort λx y=>decide (x<=y)) os;have a0:(l.mergeSort λx y=>decide (x<=y)).length=l.length:=List.length_mergeSort _;refine ⟨_,⟨Z,_,Z,Z⟩,H2.mono 0 Z (λh q=>?_)⟩;rw[a0];refine blk.grow q h1 (by unfold maxLen at h2;omega) ?_ ?_
 ·simp[Go.Sort.putCells,h3]
 apply Afs;intro j;rw[Ae0];simp only[AeR];by_cases d:j<l.length
 ·rw[if_pos d]
  have t:j<a.length:=by omega
  have s:j<(l.mergeSort λx y=>decide (x<=y)).length:=by omega
  simp[Go.Sort.putCells,t,s,d]
 rw[if_neg d,AeK (by simp;omega)]
def Abu(l:List IE):List IE->Value->List IE->Prop:=λs v s2=>∃p∈Cm l (s.map λp:IE=>p.2.2),v=.int .i64 p.1/\s2=s++[p]
def RE(l:List IE):List IE->Prop:=λs=>Cm l (s.map λp:IE=>p.2.2)=[]
def kC(s:List IE):List Value:=s.map λp=>.int .i64 p.1
def vecA(b:Nat)(l s:List IE):Ai:=λh=>((∀p∈s,p∈l)/\(s.map λp:IE=>p.2.2).Nodup)/\∃v,seps [blk b [v] 81,grow 3 1 v s.length (kC s)] h
theorem Sep.vec{w:World}{b:Nat}{l s:List IE}(H:Sep z (vecA b l s::Γ) w):((∀p∈s,p∈l)/\(s.map λp:IE=>p.2.2).Nodup)/\∃v,Sep z (YtemljpjnhjnncaaGreatDoor.blk b [v] 81::YtemljpjnhjnncaaGreatDoor.grow 3 1 v s.length (kC s)::Γ) w:=by
 obtain ⟨v,hp,a⟩:=H.into (σ:=Value) (p:=λ_=>(∀p∈s,p∈l)/\(s.map λp:IE=>p.2.2).Nodup) (As:=λv=>[YtemljpjnhjnncaaGreatDoor.blk b [v] 81,YtemljpjnhjnncaaGreatDoor.grow 3 1 v s.length (kC s)]) (λh q=>by obtain ⟨q,v,c⟩:=q;exact ⟨v,q,c⟩);exact ⟨hp,v,a⟩
theorem Sep.toVec{w:World}{b:Nat}{l s:List IE}(H:Sep z (YtemljpjnhjnncaaGreatDoor.blk b [v] 81::YtemljpjnhjnncaaGreatDoor.grow 3 1 v s.length (kC s)::Γ) w)(a:∀p∈s,p∈l)(c:(s.map λp:IE=>p.2.2).Nodup):Sep z (vecA b l s::Γ) w:=
 H.made 2 (A:=vecA b l s) (λh q=>⟨⟨a,c⟩,v,q⟩)
theorem Yz(s:List IE)(p:IE):kC s++[I p.1]=kC (s++[p]):=by simp[kC]
theorem F7{l s:List IE}{p:IE}(c:(∀p∈s,p∈l)/\(s.map λp:IE=>p.2.2).Nodup)(hp:p∈Cm l (s.map λp:IE=>p.2.2)):(∀q∈s++[p],q∈l)/\((s++[p]).map λp:IE=>p.2.2).Nodup:=by
 obtain ⟨h,f⟩:=C7 hp;refine ⟨λq hq=>?_,?_⟩
 ·rcases Aer.1 hq with hq|hq
  ·exact c.1 q hq
  simp at hq;subst hq;exact h
 rw[AeH,Afb];refine ⟨c.2,by simp,λa g b d=>?_⟩;simp at d;subst d;exact λe=>f (e▸g)
theorem GU{α β:Type}{f:α->β}{l:List α}(h:(l.map f).Nodup):l.Nodup:=(AfL.1 h).imp λh e=>h (congrArg f e)
theorem Jy{α:Type}:∀{s l:List α},s.Nodup->(∀p∈s,p∈l)->s.length<=l.length
 | [],_,_,_=>AeN _
 | x::s,l,hn,h=>by
  obtain ⟨l1,l2,rfl⟩:=List.append_of_mem (h x O);have a:=Afj.1 hn;have:=Jy (s:=s) (l:=l1++l2) a.2 λp hp=>by
   have:=h p (by simp[hp]);simp only[Aer,Aep] at this ⊢;rcases this with q|rfl|q
   ·exact .inl q
   ·exact absurd hp a.1
   exact .inr q
  simp only[Aeg,Aei] at this ⊢;omega
theorem K5{l s:List IE}(h:(∀p∈s,p∈l)/\(s.map λp:IE=>p.2.2).Nodup):s.length<=l.length:=by
 have hs:s.Nodup:=GU h.2;exact Jy hs h.1
theorem Hv{l s:List IE}(a:(l.map λp:IE=>p.2.2).Nodup)(h:(∀p∈s,p∈l)/\(s.map λp:IE=>p.2.2).Nodup)(d:RE l s):s.Perm l:=by
 have hs:s.Nodup:=GU h.2;have c:l.Nodup:=GU a;refine (List.perm_ext_iff_of_nodup hs c).2 λp=>⟨h.1 p,λhp=>?_⟩;have:p.2.2∈s.map λp:IE=>p.2.2:=by
  by_cases q:p.2.2∈s.map λp:IE=>p.2.2
  ·exact q
  have:p∈Cm l (s.map λp:IE=>p.2.2):=by simpa [Cm] using ⟨hp,by simpa using q⟩
  rw[show Cm l (s.map λp:IE=>p.2.2)=[] from d] at this;cases this
 obtain ⟨q,hq,e⟩:=Aem.1 this;obtain ⟨i,hi,rfl⟩:=Agc.1 (h.1 q hq);obtain ⟨j,b,rfl⟩:=Agc.1 hp;obtain rfl:=Gb a (Aef hi) (Aef b) e;exact hq
structure PgE where
 n:Nat
 pg:Pg
 v:Value
 born:Nat
def PgE.ie(e:PgE):IE:=((e.n:Int),.agg #[.int .i64 e.pg.kind,e.v],e.born)
structure PgsIn(f:BF)(es:List PgE)(clk:Nat)(hq:Hp):Prop where
 ent:∀e∈es,f e.n=some e.pg/\e.pg.Ok/\rdH 1 e.v 240 (e.pg.body.map u8) hq
 all:∀n p,f n=some p->∃e∈es,e.n=n
 nodup:(es.map PgE.n).Nodup
 born:(es.map PgE.born).Nodup
 clk:∀e∈es,e.born<clk
def pgsA(m:Nat)(f:BF)(hq:Hp):Ai:=λh=>∃es clk,PgsIn f es clk hq/\AI m (es.map PgE.ie) clk h
theorem Sep.pgs{w:World}(i:Nat){f:BF}{hq:Hp}(H:Sep z Γ w)(hi:Γ[i]?=some (pgsA m f hq)):∃es clk,PgsIn f es clk hq/\Sep z (Γ.set i (AI m (es.map PgE.ie) clk)) w:=by
 obtain ⟨x,hp,b⟩:=H.exAt i (σ:=List PgE×Nat) (p:=λx=>PgsIn f x.1 x.2 hq) (B:=λx=>AI m (x.1.map PgE.ie) x.2) hi (λh ⟨es,clk,a,c⟩=>⟨(es,clk),a,c⟩);exact ⟨x.1,x.2,hp,b⟩
theorem Sep.toPgs{w:World}(i:Nat){es:List PgE}{clk:Nat}{f:BF}{hq:Hp}(H:Sep z Γ w)(hi:Γ[i]?=some (AI m (es.map PgE.ie) clk))(hp:PgsIn f es clk hq):Sep z (Γ.set i (pgsA m f hq)) w:=H.mono i hi λh q=>⟨es,clk,hp,q⟩
def Ew(m:Nat)(f:BF)(k:Nat)(hq:Hp):Ai:=λh=>∃es clk,PgsIn f es clk hq/\es.length=k/\AI m (es.map PgE.ie) clk h
theorem Sep.pgsc{w:World}(i:Nat){k:Nat}{f:BF}{hq:Hp}(H:Sep z Γ w)(hi:Γ[i]?=some (Ew m f k hq)):∃es clk,PgsIn f es clk hq/\es.length=k/\Sep z (Γ.set i (AI m (es.map PgE.ie) clk)) w:=by
 obtain ⟨x,hp,b⟩:=H.exAt i (σ:=List PgE×Nat) (p:=λx=>PgsIn f x.1 x.2 hq/\x.1.length=k) (B:=λx=>AI m (x.1.map PgE.ie) x.2) hi (λh ⟨es,clk,a,c,d⟩=>⟨(es,clk),⟨a,c⟩,d⟩);exact ⟨x.1,x.2,hp.1,hp.2,b⟩
theorem Sep.toPgsc{w:World}(i:Nat){k:Nat}{es:List PgE}{clk:Nat}{f:BF}{hq:Hp}(H:Sep z Γ w)(hi:Γ[i]?=some (AI m (es.map PgE.ie) clk))(hp:PgsIn f es clk hq)(a:es.length=k):Sep z (Γ.set i (Ew m f k hq)) w:=H.mono i hi λh q=>⟨es,clk,hp,a,q⟩
theorem PgsIn.le{f:BF}{es:List PgE}{clk:Nat}{hq a:Hp}(h:PgsIn f es clk hq)(s:CK hq a):PgsIn f es clk a:=⟨λe b=>⟨(h.ent e b).1,(h.ent e b).2.1,(h.ent e b).2.2.le s⟩,h.all,h.nodup,h.born,h.clk⟩
theorem pgsA.le{m:Nat}{f:BF}{hq a:Hp}(s:CK hq a):∀h,pgsA m f hq h->pgsA m f a h:=λ_ ⟨es,clk,b,c⟩=>⟨es,clk,b.le s,c⟩
theorem PgsIn.none(hq:Hp)(clk:Nat):PgsIn Dq [] clk hq:=⟨λe a=>(by cases a),λn p h=>(by cases h),by simp,by simp,λe a=>(by cases a)⟩
theorem PgsIn.get{f:BF}{es:List PgE}{clk:Nat}{hq:Hp}(h:PgsIn f es clk hq)(n:Nat):(f n=Option.none/\CP (es.map PgE.ie) (n:Int)=Option.none)\/∃(p:Pg) (v:Value),f n=some p/\p.Ok/\rdH 1 v 240 (p.body.map u8) hq/\CP (es.map PgE.ie) (n:Int)=some (.agg #[I p.kind,v]):=by
 have key:∀l:List PgE,(∀e∈l,e∈es)->((∀e∈l,e.n≠n)/\CP (l.map PgE.ie) (n:Int)=Option.none)\/∃e∈es,e.n=n/\CP (l.map PgE.ie) (n:Int)=some (.agg #[I e.pg.kind,e.v]):=by
  intro l
  induction l with
  | nil=>intro _;exact .inl ⟨λe d=>(by cases d),Z⟩
  | cons e l ih=>
   intro k;simp only[AeL,PgE.ie,CP];by_cases q:(n:Int)=(e.n:Int)
   ·exact .inr ⟨e,k e O,by omega,by rw[if_pos q]⟩
   rw[if_neg q];rcases ih (λe d=>k e (by simp[d])) with ⟨g,j⟩|g
   ·refine .inl ⟨λm d=>?_,j⟩
    rcases Aep.1 d with rfl|d
    ·omega
    exact g m d
   exact .inr g
 rcases key es (λ_ h=>h) with ⟨g,j⟩|⟨e,d,i,o⟩
 ·refine .inl ⟨?_,j⟩
  cases hf:f n with
  | none=>rfl
  | some p=>
   obtain ⟨e,d,i⟩:=h.all n p hf;exact absurd i (g e d)
 subst i;obtain ⟨a,b,c⟩:=h.ent e d;exact .inr ⟨e.pg,e.v,a,b,c,o⟩
theorem PgsIn.has{f:BF}{es:List PgE}{clk:Nat}{hq:Hp}(h:PgsIn f es clk hq)(n:Nat):CQ (es.map PgE.ie) (n:Int)=(f n).isSome:=by
 unfold CQ;rcases h.get n with ⟨a,b⟩|⟨p,v,a,_,_,b⟩<;>rw[a,b]<;>rfl
theorem upd_pgs(es:List PgE)(k:Nat)(p:Pg)(v:Value):updM (es.map PgE.ie) (k:Int) (.agg #[I p.kind,v])=(es.map λe=>if e.n=k then {e with pg:=p,v:=v} else e).map PgE.ie\/¬(es.map PgE.n).Nodup:=by
 induction es with
 | nil=>exact .inl Z
 | cons e es ih=>
  by_cases hn:((e::es).map PgE.n).Nodup
  ·left
   have b:=hn;simp only[AeL,Afj] at b;by_cases q:(k:Int)=(e.n:Int)
   ·have c:e.n=k:=by omega
    have a:(es.map λe=>if e.n=k then {e with pg:=p,v:=v} else e)=es:=by
     conv=>rhs;rw[<-List.map_id es]
     exact AfE λf d=>by
      rw[if_neg];rfl;intro e2;exact b.1 (Aem.2 ⟨f,d,by omega⟩)
    simp only[AeL,PgE.ie,updM,if_pos q,if_pos c];rw[a];subst c;rfl
   have c:¬e.n=k:=by omega
   simp only[AeL,PgE.ie,updM,if_neg q,if_neg c];rcases ih with ih|ih
   ·congr 1
   exact absurd b.2 ih
  exact .inr hn
theorem PgsIn.put{f:BF}{es:List PgE}{clk:Nat}{hq:Hp}(h:PgsIn f es clk hq){k:Nat}{p:Pg}(hp:p.Ok)(x:rdH 1 v 240 (p.body.map u8) hq):∃es2,E6 (es.map PgE.ie) (k:Int) (.agg #[I p.kind,v]) clk=es2.map PgE.ie/\PgsIn (pgSet f k p) es2 (putC (es.map PgE.ie) (k:Int) clk) hq/\es2.length=es.length+(if (f k).isSome then 0 else 1):=by
 have s:=h.has k;unfold E6 putC
 cases hs:(f k).isSome with
 | true=>
  rw[hs] at s;rw[s,if_pos Z,if_pos Z];rcases upd_pgs es k p v with e|e
  ·refine ⟨_,e,⟨λo d=>?_,λn q i=>?_,?_,?_,λo d=>?_⟩,by simp⟩
   ·obtain ⟨j,l,rfl⟩:=Aem.1 d
    obtain ⟨a,b,c⟩:=h.ent j l;by_cases g:j.n=k
    ·rw[if_pos g];exact ⟨by unfold pgSet;rw[if_pos g],hp,x⟩
    rw[if_neg g];exact ⟨by unfold pgSet;rw[if_neg g];exact a,b,c⟩
   ·unfold pgSet at i
    have:∃j∈es,j.n=n:=by
     split at i
     ·rename_i g;subst g
      obtain ⟨y,w⟩:=Afa.1 hs;exact h.all n y w
     exact h.all n q i
    obtain ⟨j,l,t⟩:=this;exact ⟨_,AeB l,by split<;>exact t⟩
   ·rw[Afp]
    rw[show (PgE.n∘λe=>if e.n=k then {e with pg:=p,v:=v} else e)=PgE.n from by funext e;simp only[AgM];split<;>rfl];exact h.nodup
   ·rw[Afp]
    rw[show (PgE.born∘λe=>if e.n=k then {e with pg:=p,v:=v} else e)=PgE.born from by funext e;simp only[AgM];split<;>rfl];exact h.born
   obtain ⟨j,l,rfl⟩:=Aem.1 d;have:=h.clk j l;split<;>exact this
  exact absurd h.nodup e
 | false=>
  rw[hs] at s;rw[s];simp only[Afu,if_false];have m:f k=Option.none:=by simpa using hs
  refine ⟨es++[⟨k,p,v,clk⟩],by simp[PgE.ie],⟨λo d=>?_,λn q i=>?_,?_,?_,λo d=>?_⟩,by simp⟩
  ·rcases Aer.1 d with g|g
   ·obtain ⟨a,b,c⟩:=h.ent o g
    have:o.n≠k:=λe=>by rw[e,m] at a;cases a
    exact ⟨by unfold pgSet;rw[if_neg this];exact a,b,c⟩
   simp at g;subst g;exact ⟨by simp[pgSet],hp,x⟩
  ·unfold pgSet at i
   split at i
   ·rename_i g;exact ⟨⟨k,p,v,clk⟩,by simp,g.symm⟩
   obtain ⟨j,l,t⟩:=h.all n q i;exact ⟨j,by simp[l],t⟩
  ·rw[AeH,Afb]
   refine ⟨h.nodup,by simp,λa u b r=>?_⟩;simp at r;subst r;obtain ⟨j,l,rfl⟩:=Aem.1 u;intro e;have:=(h.ent j l).1;rw[e,m] at this;cases this
  ·rw[AeH,Afb]
   refine ⟨h.born,by simp,λa u b r=>?_⟩;simp at r;subst r;obtain ⟨j,l,rfl⟩:=Aem.1 u;have:=h.clk j l;omega
  rcases Aer.1 d with g|g
  ·have:=h.clk o g;omega
  simp at g;subst g;simp
theorem PgsIn.keys{f:BF}{es:List PgE}{clk:Nat}{hq:Hp}{s:List IE}(h:PgsIn f es clk hq)(hs:s.Perm (es.map PgE.ie)):
  ((s.map λp:IE=>p.1).mergeSort (λx y=>decide (x<=y))).Pairwise (· < ·)/\∀k:Int,k∈(s.map λp:IE=>p.1).mergeSort (λx y=>decide (x<=y))↔0<=k/\(f k.toNat).isSome=true:=by
 have hp:((s.map λp:IE=>p.1).mergeSort (λx y=>decide (x<=y))).Perm (es.map λe:PgE=>(e.n:Int)):=by
  refine (List.mergeSort_perm _ _).trans ?_;have:=hs.map (λp:IE=>p.1);rwa[Afp] at this
 have j:((s.map λp:IE=>p.1).mergeSort (λx y=>decide (x<=y))).Nodup:=by
  refine hp.symm.nodup ?_;have d:=AfL.1 h.nodup;exact AfL.2 (d.imp λh e=>h U)
 refine ⟨?_,λk=>?_⟩
 ·have l:((s.map λp:IE=>p.1).mergeSort (λx y=>decide (x<=y))).Pairwise (λx y=>decide (x<=y)=true):=List.pairwise_mergeSort (λa b c d i=>by simp at *;omega) (λa b=>by simp;omega) _
  exact (l.and j).imp λh=>by have d:=h.1;have i:=h.2;simp at d;omega
 rw[hp.mem_iff,Aem];constructor
 ·rintro ⟨e,g,rfl⟩
  exact ⟨by omega,by rw[Ae6,(h.ent e g).1];rfl⟩
 rintro ⟨d,i⟩;obtain ⟨p,hp⟩:=Afa.1 i;obtain ⟨e,g,m⟩:=h.all _ p hp;exact ⟨e,g,by omega⟩
theorem Xu(l a:List UInt8){B:Ai}(b:∀h,A h->rdH 1 u l.length (l.map u8) h)(c:∀h,B h->rdH 1 y a.length (a.map u8) h):Aj 186 [u,y] [A,B] (λv G=>v=.bool (decide (l=a))/\G=[A,B]):=by
 intro z R w H;refine Ae func186 Z ntmps186 Z (Zc 8 Z (Ab Z (Ch (l:=l) Z J J Z (Az (H.rd 0 Z b))) (Zc 1 Z (Ab Z (Ch (l:=a) Z J J Z (Az (H.rd 1 Z c))) (Ab Z (IQ Z J Z Z) (Zc 4 Z (Zr Z ?_)))))));exact ⟨_,⟨Z,Z⟩,H⟩
theorem Vo(n:Nat)(bs:List UInt8)(d:∀h,A h->rdH 1 (.slice (some ⟨m,i,none⟩) n j) n (bs.map u8) h)(g:0<n/\n<=1073741824):Aj 159 [.slice (some ⟨m,i,none⟩) n j] [A] (λv G=>(∃c,v=c/\G=[grow 5 1 c n (bs.map u8),A])):=by
 intro z R w H;refine Ae func159 Z ntmps159 Z (Zc 9 Z (Ab Z (Ip Z J Z Z) (Zc 7 Z (AP Z (EZ H Z J CL) ?_))));rintro _ w ⟨f,rfl,H⟩;refine Zc 1 Z ?_;replace H:=(H.mono 0 (B:=grow 5 1 (.slice (some ⟨f,0,none⟩) 0 0) 0 []) Z (λh q=>q.grow U U O Z)).l2;refine AP Z (AW 0 H Z Z J CL Z Z (H.rd 1 Z d) (by simp[u8,Value.oneCell']) U) ?_;rintro k w a;have b:([]++bs.map u8:List Value)=bs.map u8:=by simp
 rw[b] at a;rw[show (0+n:Nat)=n from by omega] at a;have H:=a.l2;refine Zc 4 Z (Zr Z ?_);exact ⟨_,⟨_,Z,Z⟩,H⟩
theorem Gc(ns:List Int):(ns.flatMap (Ag 8)).length=8*ns.length:=by
 induction ns with
 | nil=>rfl
 | cons x ns ih=>simp only[AeJ,Aeg,Ah,ih,Aei];omega
theorem RF(h:l[i]?=some t):(l.take i).flatMap (Ag 8)++Ag 8 t=(l.take (i+1)).flatMap (Ag 8):=by
 rw[AeM,h];simp
theorem Tp:∀{j:Nat} {x:Int},l[j]?=some x->((l.flatMap (Ag 8)).drop (8*j)).take 8=Ag 8 x:=by
 induction l with
 | nil=>intro j x h;simp at h
 | cons y ys ih=>
  intro j x h
  cases j with
  | zero=>
   simp at h;subst h;rw[AeJ,Nat.mul_zero,Aew,AeI (Ah 8 y)]
  | succ j=>
   rw[AeJ,show 8*(j+1)=(Ag 8 y).length+8*j from by rw[Ah];omega,Ae8];rw[AeO U,AeS,show (Ag 8 y).length+8*j-(Ag 8 y).length=8*j from by omega];exact ih (by simpa using h)
theorem Sup.list_len(s:Sup):s.list.length=7:=rfl
theorem YA(s:Sup):Kb [80,83,85,80] (DE s):=by
 have a:=GR s;refine ⟨Iz U,?_⟩;have:=B9 (l:=Kf s) U (p:=0) (k:=4) U;rw[Aew,Aew] at this;unfold DE;rw[this];rfl
theorem YB{s:Sup}(hs:∀t∈s.list,0<=t/\t<=1099511627776)(a:s.list[n]?=some t):AY (((DE s).drop (4+8*n)).take 8)=t:=by
 have b:=GR s;have c:n<7:=(Aed.1 a).1;unfold DE;rw[B9 U U];unfold Kf;rw[Ae8,AeO O,AeS,show 4+8*n-([80,83,85,80]:List UInt8).length=8*n from by simp,Tp a];have:=hs t (Aee a);exact BV this.1 U U
theorem Vp(s:Sup):rz (((DE s).drop 60).take 192)=0:=by
 have a:=GR s;have:=MD (l:=Kf s) U;rw[a] at this;exact this
theorem Abv{p:Pg}(h:p.Ok):Kb [80,80,65,71] (Ek n p):=⟨Iz (Agk (FS h)),Ol h⟩
theorem YC{p:Pg}(h:p.Ok):AY (((Ek n p).drop 4).take 1)=p.kind:=by
 have a:=FS (n:=n) h;unfold Ek;rw[B9 U U,show IL n p=[80,80,65,71]++Ag 1 p.kind++(Ag 4 (n:Int)++[0,0,0]++p.body) from by simp[IL],He _ _ O (by simp[Ah])];exact BV (by have:=h.1;omega) (by have:=h.1;omega) (by have:=h.1;omega)
theorem Abw{p:Pg}(h:p.Ok)(b:n<=1023):AY (((Ek n p).drop 5).take 4)=(n:Int):=by
 have a:=FS (n:=n) h;unfold Ek;rw[B9 U U,show IL n p=([80,80,65,71]++Ag 1 p.kind)++Ag 4 (n:Int)++([0,0,0]++p.body) from by simp[IL],He _ _ (by simp[Ah]) (by simp[Ah])];exact BV U U U
theorem RG{p:Pg}(h:p.Ok):AY (((Ek n p).drop 9).take 3)=0:=by
 have a:=FS (n:=n) h;unfold Ek;rw[B9 U U,show IL n p=([80,80,65,71]++Ag 1 p.kind++Ag 4 (n:Int))++[0,0,0]++p.body from by simp[IL],He _ _ (by simp[Ah]) O];decide
theorem YD{p:Pg}(h:p.Ok):((Ek n p).drop 12).take 240=p.body:=by
 have a:=FS (n:=n) h;unfold Ek;rw[B9 U U,show IL n p=([80,80,65,71]++Ag 1 p.kind++Ag 4 (n:Int)++[0,0,0])++p.body++[] from by simp[IL],He _ _ (by simp[Ah]) h.2.symm]
theorem Vq{s:Sup}(a:s.list[n]?=some t):((s.list.take n).map I++List.replicate (7-n) (I 0)).take n++[I t]++((s.list.take n).map I++List.replicate (7-n) (I 0)).drop (n+1)=(s.list.take (n+1)).map I++List.replicate (7-(n+1)) (I 0):=by
 have c:n<7:=(Aed.1 a).1;have b:((s.list.take n).map I).length=n:=by simp[Sup.list];omega
 rw[Aev U,Ael U,Ae8,AeO U,AeS,b,AgL,AeM,a,show 7-n-(n+1-n)=7-(n+1) from by omega];simp
theorem YE{s:Sup}(a:s.list[n]?=some t):((s.list.take (n+1)).map I++List.replicate (7-(n+1)) (I 0))[n]?=some (I t):=by
 have c:n<7:=(Aed.1 a).1;have b:((s.list.take (n+1)).map I).length=n+1:=by simp[Sup.list];omega
 rw[Aeo U,Aeq,Ae0,if_pos U,a];rfl
theorem RH{s:Sup}(hs:∀x∈s.list,0<=x/\x<=1099511627776):Aj 153 [Y n,.agg #[I s.gen,I s.epoch,I s.pages,I s.start,I s.len,I s.head,I s.seq]] [tblA n] (λv G=>∃d,v=.tuple #[.slice (some ⟨d,0,none⟩) 256 256,I 0]/\G=[blk d (A7 (DE s) 60) 167,tblA n]):=by
 intro z R w H;have e:=Sup.list_len s;refine Ae func153 Z ntmps153 Z (Za 2 [] H Z ?_);intro b w H;refine Zc 6 Z (AP Z (BZ (P:=prog) H Z (zs:=(A7 (AK []) 0)) J) ?_);rintro _ w ⟨a,rfl,H⟩;refine Zc 4 Z (z_E_ Z (call189 _) (I2 0 [80,83,85,80] (AU (by first|omega|(simp[Ah,Gc,-List.length_flatMap]<;>omega))) (by first|omega|(simp<;>omega))) H ?_);intro w H;rw[show Bx (AK []) ([80,83,85,80]) 0=AK ([80,83,85,80]) from BH Z (by first|omega|(simp[Ah,Gc,-List.length_flatMap]<;>omega))] at H;have H:Sep z (blk a (A7 (AK ([80,83,85,80])) 4) 167::blk b [I s.gen,I s.epoch,I s.pages,I s.start,I s.len,I s.head,I s.seq] 132::tblA n::R) w:=H;refine Z2 19 [0,1,0,1,1,0,2,1,0,3,1,0,4,1,0,5,1,0,6,1,0] H Z (Ab Z (Bg Z Z (out:=[I s.gen,I s.epoch,I s.pages,I s.start,I s.len,I s.head,I s.seq]) J) (Zc 4 Z ?_));refine AD (σ:=Nat) (λk=>[(25,I (k:Int)),(0,Y n),(6,Y a),(24,.agg #[I s.gen,I s.epoch,I s.pages,I s.start,I s.len,I s.head,I s.seq])])
   (λk w=>Sep z (blk a (A7 (AK ([80,83,85,80]++(s.list.take k).flatMap (Ag 8))) ((4+8*k:Nat):Int)) 167::blk b [I s.gen,I s.epoch,I s.pages,I s.start,I s.len,I s.head,I s.seq] 132::tblA n::R) w/\(k<=7)) (λk=>7-k) 0
   fr_z ⟨(by simpa using H),by omega⟩ ?_
 clear H;rintro k w ⟨m,f⟩;have H:=m.l3;have i:=f;clear f;refine Z0 6 [0] Z (Af Z (λg=>?_) (λg=>?_))
 ·refine Zc 6 Z ?_;obtain ⟨x,c⟩:∃x,s.list[k]?=some x:=⟨_,Aef (by simp[Sup.list];omega)⟩;have p:=hs x (Aee c)
  refine Ab Z (ND Z J Z (l:=s.list) (j:=k) Z Z Z Z c) (Zc 7 Z (z_E_ Z (call99 _) (CY) H ?_));intro w H;refine Ab Z (AH Z Z) (Zc 1 Z (An 31 Z (λo=>U) (λo=>?_)));refine Zc 10 Z (z_E_ Z (call100 _) (CH (4+8*k) 8 x (AU (by first|omega|(simp[Ah,Gc,-List.length_flatMap]<;>omega))) U) H ?_);intro w H;rw[show ((4+8*k+8:Nat):Int)=(((4+8*(k+1):Nat):Int):Int) from by omega] at H;rw[show Bx (AK ([80,83,85,80]++(s.list.take k).flatMap (Ag 8))) (Ag 8 x) (4+8*k)=AK ([80,83,85,80]++(s.list.take k).flatMap (Ag 8)++Ag 8 x) from BH (by first|omega|(simp[Ah,Gc,-List.length_flatMap]<;>omega)) (by first|omega|(simp[Ah,Gc,-List.length_flatMap]<;>omega))] at H;have H:Sep z (blk a (A7 (AK ([80,83,85,80]++(s.list.take k).flatMap (Ag 8)++Ag 8 x)) ((4+8*(k+1):Nat):Int)) 167::blk b [I s.gen,I s.epoch,I s.pages,I s.start,I s.len,I s.head,I s.seq] 132::tblA n::R) w:=H;refine Z1 7 [] [(k:Int)+1] Z U (gf ?_);intro _ h;refine ⟨(k+1),h.cz,⟨(by rw[<-RF c,<-Aej];exact H),?_⟩,?_⟩
  ·omega
  omega
 obtain rfl:k=7:=by omega
 refine Zc 2 Z (gx (Zc 3 Z ?_));have H:Sep z (blk a (A7 (AK (Kf s)) 60) 167::blk b [I s.gen,I s.epoch,I s.pages,I s.start,I s.len,I s.head,I s.seq] 132::tblA n::R) w:=H;refine Zc 2 Z (z_E_ Z (call190 _) (ID (AU (by first|omega|(simp[Ah,GR]<;>omega)))) H.f2.f1 ?_);intro w H;refine Zc 5 Z (Zr Z ?_);exact ⟨_,⟨a,Z,Z⟩,H.perm 3 [0,1] Z Z⟩
theorem K6(sec:List UInt8)(c:∀h,A h->rdH 1 (.slice (some ⟨i,e,none⟩) 256 g) 256 (sec.map u8) h)(s:Sup)(hs:∀x∈s.list,0<=x/\x<=1099511627776)(b:sec=DE s):Aj 154 [Y n,.slice (some ⟨i,e,none⟩) 256 g] [tblA n,A] (λv G=>v=.tuple #[.agg #[I s.gen,I s.epoch,I s.pages,I s.start,I s.len,I s.head,I s.seq],.bool true]/\G=[tblA n,A]):=by
 intro z R w H;have o:=H.sy 1 (λq=>(c _ q).len);have a3:=H.sy 1 (λq=>(c _ q).cap);obtain ⟨c0,c1,c2,c3,hd⟩:=Ob o;refine Ae func154 Z ntmps154 Z (Za 2 [] H Z ?_);intro t w H;refine Zc 7 Z (Ar Z (call187 _) (LV sec c) H.f2.f2 ?_);rintro _ w _ (⟨d,rfl,rfl⟩|⟨d,rfl,rfl⟩) l
 ·have H:=l.l3;refine Za 3 [] H Z ?_;intro r w H;refine Za 16 [0] H Z ?_;intro a w H;refine Z0 12 [0,1,2,3,4,5,6] Z (Ab Z (Bg Z Z (out:=[Y a,.pointer (some ⟨a,1,none⟩),.pointer (some ⟨a,2,none⟩),.pointer (some ⟨a,3,none⟩),.pointer (some ⟨a,4,none⟩),.pointer (some ⟨a,5,none⟩),.pointer (some ⟨a,6,none⟩)]) J) (Zc 4 Z ?_));refine AD (σ:=Nat) (λk=>[(28,I (k:Int)),(4,Y t),(6,Y r),(8,Y a),(27,.agg #[Y a,.pointer (some ⟨a,1,none⟩),.pointer (some ⟨a,2,none⟩),.pointer (some ⟨a,3,none⟩),.pointer (some ⟨a,4,none⟩),.pointer (some ⟨a,5,none⟩),.pointer (some ⟨a,6,none⟩)])])
    (λk w=>Sep z (blk a ((s.list.take k).map I++List.replicate (7-k) (I 0)) 132::blk r [.slice (some ⟨i,(e+(4+8*k)),none⟩) (252-(4+8*k)) (g-(4+8*k))] 258::tblA n::A::blk t [I 0,I 0,I 0,I 0,I 0,I 0,I 0] 132::R) w/\(k<=7)) (λk=>7-k) 0
    fr_z ⟨H,by omega⟩ ?_
  clear H;rintro k w ⟨l,hI⟩;have H:=l.l5;have a1:=hI;clear hI;refine Z0 6 [0] Z (Af Z (λh1=>?_) (λh1=>?_))
  ·have a0:k<7:=by omega
   refine Zc 6 Z ?_;obtain ⟨x,f⟩:∃x,s.list[k]?=some x:=⟨_,Aef (by simp[Sup.list];omega)⟩;have a2:=hs x (Aee f);have p:AY ((sec.drop (4+8*k)).take 8)=x:=by rw[b];exact YB hs f
   refine Ab Z (E8 (m:=7) Z J Z Z Z (j:=k) Z (u:=.pointer (some ⟨a,k,none⟩)) (by rcases (show k=0\/k=1\/k=2\/k=3\/k=4\/k=5\/k=6 by omega) with rfl|rfl|rfl|rfl|rfl|rfl|rfl<;>rfl)) (Zc 6 Z (z_E_ Z (call165 _) (CB 8 i (e+(4+8*k)) (252-(4+8*k)) (g-(4+8*k)) ((sec.drop (4+8*k)).take (252-(4+8*k))) (λh q=>(c h q).cut (lo:=(4+8*k)) (m:=(252-(4+8*k))) (c':=(g-(4+8*k))) U U U) U U ((sec.drop (4+8*k)).take 8) (by rw[AeF,AeG U]) (e+(4+8*(k+1))) (252-(4+8*(k+1))) (g-(4+8*(k+1))) U U U) H.f3.f2 ?_));intro w H;refine AB 32 (v:=I x) Z (congrArg I p) (Zc 1 Z (AC Z Z (Al 2 H Z Z Z Z (vs:=[I x]) Z (by simp[u8,u32,Value.oneCell']) J (by have:=Sup.list_len s;simp;omega) (out:=((s.list.take (k+1)).map I++List.replicate (7-(k+1)) (I 0))) (Vq f)) ?_));rintro w H;refine Zc 6 Z (Ab Z (Bn Z Z J (Az (H.cel 2 Z k (YE f)))) (z_E_ Z (call99 _) (CY) H ?_));intro w H;refine Ab Z (AH Z Z) (Zc 2 Z (Af Z (λh2=>U) (λh2=>?_)));refine Z1 7 [] [(k:Int)+1] Z U ?_;replace H:=H.f4.f2.f4.f3.f4;refine gf ?_;intro _ hF;refine ⟨(k+1),hF.cz,⟨H,?_⟩,?_⟩
   ·omega
   omega
  obtain rfl:k=7:=by omega
  refine Zc 2 Z (gx (Zc 4 Z ?_));have H:Sep z (blk a [I s.gen,I s.epoch,I s.pages,I s.start,I s.len,I s.head,I s.seq] 132::blk r [.slice (some ⟨i,(e+(4+8*7)),none⟩) (252-(4+8*7)) (g-(4+8*7))] 258::tblA n::A::blk t [I 0,I 0,I 0,I 0,I 0,I 0,I 0] 132::R) w:=H;refine Zc 1 Z (z_E_ Z (call166 _) (KY i (e+(4+8*7)) (252-(4+8*7)) (g-(4+8*7)) ((sec.drop (4+8*7)).take (252-(4+8*7))) (λh q=>(c h q).cut (lo:=(4+8*7)) (m:=(252-(4+8*7))) (c':=(g-(4+8*7))) U U U) U) H.f3.f2 ?_);intro w H;refine Ab Z (AH Z Z) (Zc 2 Z (Af Z (λy=>?_) (λy=>?_)))
  ·exact absurd (by rw[b];exact Vp s) y
  refine Z4 10 [2,7,4] H Z ?_;intro w H;refine Zl [4,7] H Z ?_;exact ⟨_,⟨Z,Z⟩,H.perm 5 [3,1] Z Z⟩
 exact absurd (b▸YA s) d
section
section late
variable{P:Program}{ops:Array Oper}{Q:Exit->Act->World->Prop}{S:World->Prop}{E:List Nat}
def EU(ops:Array Oper):Nat->Nat->Nat->Bool
 | 0,_,_=>false
 | f+1,j,i=>match ops[j]? with
  | some o=>o.after.any λe=>Region.binds .any e&&(e.on==i||EU ops f e.on i)
  | none=>false
theorem Hf{listed:Array Bool}(c:Dc ops listed)(a:listed.size=ops.size):∀f j i,EU ops f j i=true->listed.getD j false=true->listed.getD i false=true
 | 0,j,i,h,_=>by cases h
 | f+1,j,i,h,hl=>by
  unfold EU at h
  cases ho:ops[j]? with
  | none=>rw[ho] at h;cases h
  | some o=>
   rw[ho] at h;simp only[Aho] at h;obtain ⟨q,hq,he⟩:=h;simp only[AeE,Bool.or_eq_true,beq_iff_eq] at he;have g:j<ops.size:=(Ae3.1 ho).1;have b:=c j o ho (by
    have d:j<listed.size:=by omega
    simp[d] at hl ⊢;exact hl) U _ (Ahp hq) he.1
   rcases he.2 with e|e
   ·rw[<-e];exact b
   exact Hf c a f _ i e b
theorem ready_waits{listed:Array Bool}(g:Dc ops listed)(b:listed.size=ops.size){i:Nat}(h:EU ops m j i=true)(f:j∈Region.ready .any ops listed):listed.getD i false=true:=by
 cases m with
 | zero=>cases h
 | succ m=>
  obtain ⟨_,o,k,a⟩:=mem_ready.1 f;unfold EU at h;rw[k] at h;simp only[Aho] at h;obtain ⟨q,hq,c⟩:=h;simp only[AeE,Bool.or_eq_true,beq_iff_eq] at c;have d:=a _ (Ahp hq) c.1;rcases c.2 with e|e
  ·rw[<-e];exact d
  exact Hf g b m _ i e d
def EV(P:Program)(ops:Array Oper)(Q:Exit->Act->World->Prop)(S:World->Prop)(E:List Nat):Nat->Array Bool->Act->World->Prop
 | 0,listed,a,w=>Region.ready .any ops listed=[]/\Q .normal a w
 | fuel+1,listed,a,w=>
  (Region.ready .any ops listed=[]->Q .normal a w)/\
  ∀i∈Region.ready .any ops listed,wpOp P ops Q i (λa' w'=>(E.contains i=false->S w')/\EV P ops Q S E fuel (listed.setIfInBounds i true) a' w') a w
theorem K7:∀(fuel:Nat) (listed:Array Bool) (a:Act) (w:World),EV P ops Q S E fuel listed a w->wpAny P .any ops Q fuel listed a w
 | 0,_,_,_,h=>h
 | fuel+1,_,_,_,h=>⟨h.1,λi hi=>wpOp_mono (λa' w' h'=>K7 fuel _ a' w' h'.2) (h.2 i hi)⟩
theorem Ot{i:Nat}{oi:Oper}{v:Value}(hi:ops[i]?=some oi)(hE:∀j∈E,EU ops m j i=true)(l:∀(j:Nat) (o:Oper) cs b,ops[j]?=some o->o.op≠ .select cs b)
  (hQ:∀c a w,Q (.panic c) (a.put oi.dst v) w->Q (.panic c) a w):
  ∀(fuel:Nat) (listed:Array Bool) (a:Act) (w:World),Dc ops listed->listed.size=ops.size->
   (∀j q,ops[j]?=some q->j≠i->listed.getD j true=false->(∀e∈q.after,Region.binds .any e=true->e.on≠i)->oi.apart ops q=true)->
   i∈Region.ready .any ops listed->YieldsIf P ops S oi v a->S w->
   EV P ops Q S E fuel (listed.setIfInBounds i true) (a.put oi.dst v) w->EV P ops Q S E (fuel+1) listed a w:=by
 have a6:i<ops.size:=(Ae3.1 hi).1;intro fuel
 induction fuel with
 | zero=>
  intro listed a w hd s _ n hy x H;refine ⟨λh=>(by rw[h] at n;cases n),λj t=>?_⟩;by_cases hji:j=i
  ·subst hji;exact hy.wpOp hi x ⟨λ_=>x,H⟩
  have:=ready_mono t hji;rw[H.1] at this;cases this
 | succ fuel ih=>
  intro listed a w hd s d n hy x H;refine ⟨λh=>(by rw[h] at n;cases n),λj t=>?_⟩;by_cases hji:j=i
  ·subst hji;exact hy.wpOp hi x ⟨λ_=>x,H⟩
  have r:=H.2 j (ready_mono t hji);have a1:E.contains j=false:=by
   cases hc:E.contains j with
   | false=>rfl
   | true=>
    have hm:j∈E:=by simpa using hc
    have h2:=ready_waits hd s (hE j hm) t;have u:=(mem_ready.1 n).1;have hh:i<listed.size:=by omega
    simp[hh] at h2 u;rw[h2] at u;cases u
  obtain ⟨g,q,p,a2⟩:=mem_ready.1 t;have z:∀e∈q.after,Region.binds .any e=true->e.on≠i:=λe he hb a3=>by
   have r:=a2 e he hb;have u:=(mem_ready.1 n).1;rw[a3] at r;rcases Aes i listed.size with h'|h'
   ·simp[h'] at u r;rw[u] at r;cases r
   simp[Ae2 h'] at r
  have h2:=wpOp_putIf p (d j q p hji g z) (λcs b=>l i oi cs b hi) (λcs b=>l j q cs b p) hQ hy r;have f:∀k y,ops[k]?=some y->k≠i->(listed.setIfInBounds j true).getD k true=false->
    (∀e∈y.after,Region.binds .any e=true->e.on≠i)->oi.apart ops y=true:=λk y hk a5 a0 a4=>by
   refine d k y hk a5 ?_ a4;by_cases hjk:j=k
   ·subst hjk;exact g
   rw[getD_set_ne true hjk] at a0;exact a0
  refine wpOp_mono (λa' w' h3=>⟨λ_=>h3.2.1 a1,ih (listed.setIfInBounds j true) a' w' (hd.next t) (by simpa using s) f (ready_mono n (AfU hji)) h3.1 (h3.2.1 a1) ?_⟩) h2;rw[Agt _ _ hji];exact h3.2.2
theorem PB{listed:Array Bool}{a:Act}{w:World}(hr:Region.ready .any ops listed=[])(h:Q .normal a w):∀fuel,EV P ops Q S E fuel listed a w
 | 0=>⟨hr,h⟩
 | _+1=>⟨λ_=>h,by rw[hr];simp⟩
end late
section late2
variable{P:Program}{ops:List Oper}{N R:Act->World->Prop}{X:Nat->Act->World->Prop}{S:World->Prop}{E:List Nat}{a:Act}{w:World}{fuel:Nat}{listed:Array Bool}{n d i:Nat}{ds:List Deferred}{L:List (Nat×Value)}{v:Value}{o:Oper}
def Hw(P:Program)(ops:List Oper)(Q:Exit->Act->World->Prop)(S:World->Prop)(E:List Nat)(fuel:Nat)(listed:Array Bool)(a:Act)(w:World):Prop:=Dc ops.toArray listed->listed.size=ops.length->EV P ops.toArray Q S E fuel listed a w
theorem Ou(S:World->Prop)(E:List Nat)(k:Nat)(c:ops.length=k)(d:P.follows .mixedOrders=true)
  (h:∀b,Ext No w b->b.heap.size=w.heap.size->∀a,Fr n ds L a->Hw P ops (Qp N X R) S E k (Array.replicate k false) a b):∀a,Fr n ds L a->(Code.region m ops.toArray true).wp P (Qp N X R) a w:=λa e=>
 wp_region_any d (K7 (S:=S) (E:=E) _ _ _ _ (by have:=h _ (Ext.drawn No w) Z a e (Dc.start _ _) (by simp[c]);simpa [c] using this))
theorem IF(i:Nat)(hi:ops[i]?=some o)(u:(E.all λj=>EU ops.toArray ops.length j i)=true)(hs:Region.noSelect ops.toArray=true)(x:Region.free .any ops.toArray listed i=true)(t:(Region.ready .any ops.toArray listed).contains i=true)
  (r:BP ops L o.guard=true)(p:o.dst=some d)(g:Nat.blt d n=true)(l:Av P S n ds L o v)(s:S w)
  (K:∀a',Fr n ds ((d,v)::L) a'->Hw P ops (Qp N X R) S E fuel (listed.setIfInBounds i true) a' w):∀a,Fr n ds L a->Hw P ops (Qp N X R) S E (fuel+1) listed a w:=λa k b e=>
 have c:ops.toArray[i]?=some o:=by simpa using hi
 have f:i∈Region.ready .any ops.toArray listed:=by simpa using t
 Ot (i:=i) (oi:=o) (v:=v) c (λj m=>(Af3.1 u) j m) (AgG hs) (λ_ _ _ h=>h.elim) fuel listed a w b (by simpa using e) (AgY c x) f (.inl ⟨wantL_ok k r,λq h=>l a k q h⟩) s
  (by rw[p];exact K _ (k.put d v g) (b.next f) (by simpa using e))
theorem C6(rs:List Nat)(g:Region.ready .any ops.toArray listed=rs)(d:rs≠[])
  (h:∀i∈rs,∀a,Fr n ds L a->wpOp P ops.toArray (Qp N X R) i (λa' b=>(E.contains i=false->S b)/\Hw P ops (Qp N X R) S E fuel (listed.setIfInBounds i true) a' b) a w):∀a,Fr n ds L a->Hw P ops (Qp N X R) S E (fuel+1) listed a w:=λa j f c=>
 ⟨λe=>absurd (g▸e) d,λi hi=>wpOp_mono (λa' b q=>⟨q.1,q.2 (f.next hi) (by simpa using c)⟩) (h i (g▸hi) a j)⟩
theorem K8{fuel:Nat}(c:Region.ready .any ops.toArray listed=[])(h:∀a,Fr n ds L a->N a w):∀a,Fr n ds L a->Hw P ops (Qp N X R) S E fuel listed a w:=λa b _ _=>PB c (h a b) _
end late2
section
variable{P:Program}{o:Oper}{w z:World}{Γ:List Ai}{n:Nat}{ds:List Deferred}{L:List (Nat×Value)}{x:Operand}
def RI(P:Program)(t:TypeId):Bool:=match P.underlying t with
 | some (.slice e)=>(match P.info? e with|some i=>(match i.zero with|some (.int .i64 0)=>true|_=>false)|none=>false)
 | _=>false
theorem Vr(h:RI P T=true):∃e i,P.underlying T=some (.slice e)/\P.info? e=some i/\i.zero=some (I 0):=by
 unfold RI at h;split at h
 ·rename_i e b
  split at h
  ·rename_i i c
   split at h
   ·rename_i a;exact ⟨e,i,b,c,a⟩
   cases h
  cases h
 cases h
theorem Vs(i:Nat){t:TypeId}{b d k c:Nat}{h:TypeId}{cs:List Value}(H:Sep z Γ w)(hi:Γ[i]?=some (blk b cs h))(ho:o.op=.call {callee:=.builtin .clear,args:= #[x],argTypes:= #[t]})(hd:RI P t=true)(u:ev L x=some (.slice (some ⟨b,d,none⟩) k c))(hk:0<k)(hl:d+k<=cs.length):
  CA P n ds L o w (λv w'=>v=.tuple #[]/\Sep z (Γ.set i (blk b (cs.take d++List.replicate k (I 0)++cs.drop (d+k)) h)) w'):=λa hF=>by
 obtain ⟨e,i0,r,h2,h3⟩:=Vr hd;have p:=H.blk i hi;have g:=run_storeCells_at P b d h (List.replicate k (I 0)) 0 cs.toArray w p (by simpa using hl) (λc s=>by rw[Af4.1 s |>.2];rfl);simp only[Afk,Ag6,Af1] at g;have y:(zeroValue e).run P w=.ok (I 0) w:=by simp[zeroValue,typeInfo,h2,h3,go_sem]
 have l:(Builtin.zeroCells (Value.cells (I 0)) k).toList=List.replicate k (I 0):=by
  refine AgZ (by simp[Builtin.zeroCells,Value.cells]) λj g1 g2=>?_;simp[Builtin.zeroCells,Value.cells,Nat.mod_one]
 have f:(Builtin.clear_ #[t] o.type #[.slice (some ⟨b,d,none⟩) k c]).run P w=.ok (.tuple #[]) (w.setRow b (cs.take d++List.replicate k (I 0)++cs.drop (d+k)).toArray):=by
  obtain ⟨m,rfl⟩:∃m,k=m+1:=⟨k-1,by omega⟩;simp only[Builtin.clear_,Afg,AeT,Aex,run_underlying r,Aet,y,l,g,AeC]
 refine ⟨.tuple #[],w.setRow b (cs.take d++List.replicate k (I 0)++cs.drop (d+k)).toArray,?_,Z,H.write i hi Z Z Z (setRow_heap w b _ _ h (0,0) p) (λq hq=>setRow_other w b q _ hq)⟩;simp only[execOp,ho,resolve,invoke,builtin,Aex,AeC,Aet,AeZ,AeL,AfB,hF.ev u,f]
end
end
end Go.Proofs.YtemljpjnhjnncaaGreatDoor
